/- Functions of the program as Lean functions, each with the proof of its walk. Written by gen.py, a program of these sessions. -/
import Derived.Test.YtiaigehjogpcaaaDoorQScaleSaysx3
namespace Go.Proofs.YtiaigehjogpcaaaDoor.QScaleSays
open Go Go.RowKit Go.Proofs.YtiaigehjogpcaaaDoorE
set_option linter.unusedVariables false
set_option maxRecDepth 100000
set_option maxHeartbeats 8000000
/-- glyphiclaw20.ScaleSays -/
def c4 : C :=
  (.seq (.reg [⟨(some 8), .mv (.const (.bool false)), none⟩])
  (.seq (.reg [⟨(some 12), .call 6 [], none⟩,
     ⟨(some 9), .mv (.tmp 12), none⟩])
  (.seq (.seq (.reg [⟨(some 13), .mv (.tmp 9), none⟩,
      ⟨(some 14), .un .not (.tmp 13), none⟩])
   (.cond (.tmp 14)
    (.seq (.reg [⟨(some 8), .mv (.const (.bool false)), none⟩])
     .ret)
    .skip))
  (.seq (.seq (.reg [⟨(some 15), .mv (.tmp 0), none⟩,
      ⟨(some 16), .lns (.tmp 15), none⟩,
      ⟨(some 17), .bin .gtr (.tmp 16) (.const (.int .i64 250)), none⟩])
   (.cond (.tmp 17)
    (.seq (.reg [⟨(some 18), .mv (.tmp 9), none⟩,
        ⟨(some 8), .mv (.tmp 18), none⟩])
     .ret)
    .skip))
  (.seq (.reg [⟨(some 19), .mv (.tmp 0), none⟩,
     ⟨(some 20), .bld [(.slice none 0 0), (.int .i64 0)] [(0, 1, (.tmp 19))], none⟩,
     ⟨(some 21), .box (.tmp 20), none⟩,
     ⟨(some 22), .call 9 [(.tmp 21)], none⟩,
     ⟨(some 10), .new [(.int .i64 0), (.int .i64 0), (.int .i64 0), (.slice none 0 0), (.slice none 0 0)], none⟩,
     ⟨none, .st 5 (.tmp 10) (.tmp 22), none⟩])
  (.seq (.seq (.drw [⟨(some 23), .ld (some 5) (.tmp 10), none⟩,
      ⟨(some 24), .mv (.tmp 1), none⟩,
      ⟨(some 25), .call 11 [(.tmp 23), (.tmp 24)], none⟩,
      ⟨(some 26), .ld (some 5) (.tmp 10), none⟩,
      ⟨(some 27), .mv (.tmp 1), none⟩,
      ⟨(some 28), .call 12 [(.tmp 26), (.tmp 27)], none⟩,
      ⟨(some 29), .call 10 [(.tmp 25), (.tmp 28)], none⟩,
      ⟨(some 30), .un .not (.tmp 29), none⟩] [[], [], [0, 1], [], [], [3, 4, 2], [2, 5, 5], [6]])
   (.cond (.tmp 30)
    (.seq (.reg [⟨(some 8), .mv (.const (.bool false)), none⟩])
     .ret)
    .skip))
  (.seq (.reg [⟨(some 31), .mv (.tmp 2), none⟩,
     ⟨(some 32), .call 13 [(.tmp 31), (.const (.int .i64 600))], none⟩,
     ⟨(some 33), .bin .add (.const (.int .i64 1)) (.tmp 32), none⟩,
     ⟨(some 2), .mv (.tmp 33), none⟩])
  (.seq (.reg [⟨(some 34), .mv (.tmp 3), none⟩,
     ⟨(some 35), .bin .rem (.tmp 34) (.const (.int .i64 1048576)), none⟩,
     ⟨(some 3), .mv (.tmp 35), none⟩])
  (.seq (.seq (.reg [⟨(some 11), .mv (.const (.int .i64 0)), none⟩])
   (.block 0 (.loop (.seq (.seq (.reg [⟨(some 36), .mv (.tmp 11), none⟩,
         ⟨(some 37), .pad 4 (.tmp 10), none⟩,
         ⟨(some 38), .ld none (.tmp 37), none⟩,
         ⟨(some 39), .lns (.tmp 38), none⟩,
         ⟨(some 40), .bin .lss (.tmp 36) (.tmp 39), none⟩])
      (.cond (.tmp 40)
       .skip
       (.exit 0)))
     (.seq (.block 1 (.seq (.drw [⟨(some 43), .ld (some 5) (.tmp 10), none⟩,
          ⟨(some 44), .mv (.tmp 2), none⟩,
          ⟨(some 45), .pad 4 (.tmp 10), none⟩,
          ⟨(some 46), .ld none (.tmp 45), none⟩,
          ⟨(some 47), .mv (.tmp 11), none⟩,
          ⟨(some 48), .ixs 11 (.tmp 46) (.tmp 47), none⟩,
          ⟨(some 49), .ld (some 11) (.tmp 48), none⟩,
          ⟨(some 50), .call 15 [(.tmp 43), (.tmp 44), (.tmp 49)], none⟩,
          ⟨(some 51), .ld (some 5) (.tmp 10), none⟩,
          ⟨(some 52), .mv (.tmp 2), none⟩,
          ⟨(some 53), .pad 4 (.tmp 10), none⟩,
          ⟨(some 54), .ld none (.tmp 53), none⟩,
          ⟨(some 55), .mv (.tmp 11), none⟩,
          ⟨(some 56), .ixs 11 (.tmp 54) (.tmp 55), none⟩,
          ⟨(some 57), .ld (some 11) (.tmp 56), none⟩,
          ⟨(some 58), .call 16 [(.tmp 51), (.tmp 52), (.tmp 57)], none⟩,
          ⟨(some 59), .call 14 [(.tmp 50), (.tmp 58)], none⟩,
          ⟨(some 60), .un .not (.tmp 59), none⟩] [[], [], [], [2], [], [3, 4], [5], [0, 1, 6], [], [], [], [10], [], [11, 12], [13], [8, 9, 14, 7], [7, 15, 15], [16]])
       (.cond (.tmp 60)
        (.seq (.reg [⟨(some 8), .mv (.const (.bool false)), none⟩])
         .ret)
        .skip)))
     (.reg [⟨(some 41), .mv (.tmp 11), none⟩,
       ⟨(some 42), .bin .add (.tmp 41) (.const (.int .i64 1)), none⟩,
       ⟨(some 11), .mv (.tmp 42), none⟩]))))))
  (.seq (.drw [⟨(some 61), .mv (.tmp 9), none⟩,
     ⟨(some 62), .mv (.tmp 61), none⟩,
     ⟨(some 63), .ld (some 5) (.tmp 10), (some (62, true))⟩,
     ⟨(some 64), .mv (.tmp 2), (some (62, true))⟩,
     ⟨(some 65), .call 8 [(.tmp 63), (.tmp 64)], (some (62, true))⟩,
     ⟨(some 66), .ld (some 5) (.tmp 10), (some (62, true))⟩,
     ⟨(some 67), .mv (.tmp 2), (some (62, true))⟩,
     ⟨(some 68), .call 17 [(.tmp 66), (.tmp 67)], (some (62, true))⟩,
     ⟨(some 69), .bin .eql (.tmp 65) (.tmp 68), (some (62, true))⟩,
     ⟨(some 70), .pk (.tmp 62) (.tmp 69) (.const (.bool false)), none⟩,
     ⟨(some 71), .mv (.tmp 70), none⟩,
     ⟨(some 72), .ld (some 5) (.tmp 10), (some (71, true))⟩,
     ⟨(some 73), .mv (.tmp 2), (some (71, true))⟩,
     ⟨(some 74), .mv (.tmp 3), (some (71, true))⟩,
     ⟨(some 75), .call 7 [(.tmp 72), (.tmp 73), (.tmp 74)], (some (71, true))⟩,
     ⟨(some 76), .ld (some 5) (.tmp 10), (some (71, true))⟩,
     ⟨(some 77), .mv (.tmp 2), (some (71, true))⟩,
     ⟨(some 78), .mv (.tmp 3), (some (71, true))⟩,
     ⟨(some 79), .call 18 [(.tmp 76), (.tmp 77), (.tmp 78)], (some (71, true))⟩,
     ⟨(some 80), .bin .eql (.tmp 75) (.tmp 79), (some (71, true))⟩,
     ⟨(some 81), .pk (.tmp 71) (.tmp 80) (.const (.bool false)), none⟩,
     ⟨(some 8), .mv (.tmp 81), none⟩] [[], [0], [1], [1], [2, 3, 1, 1], [1], [1], [5, 6, 4, 1], [4, 7, 1], [1, 8], [9, 7], [10], [10], [10], [11, 12, 13, 10, 10], [10], [10], [10], [15, 16, 17, 14, 10], [14, 18, 10], [10, 19], [20, 18, 0, 1, 2, 3, 4, 5, 6, 7, 8, 9, 10, 11, 12, 13, 14, 15, 16, 17, 18, 19, 20]])
  .ret))))))))))
def glyphiclaw20_ScaleSays.l0 : Nat → List (Int) → Int → Int → Int → List (Int × Int × Int × Int × Int × Int × Int × Int × Int × Int × List (Int × Int × List (Int × Int × Int × Int × Int × Int × Int) × Bool)) → Int → Int → Option ((Bool) ⊕ (Unit))
  | 0, _, _, _, _, _, _, _ => none
  | k + 1, l0, t393, t394, t395, t396, t410, x415 => if x415 < (t396.length : Int) then ((lgt t396 x415).bind fun (x417, x418, x419, x420, x421, x422, x423, x424, x425, x426, x427) => ((scale_Cmd_v1.f k t393 t394 t395 (wr64 (1 + t410)) x417 x418 x419 x420 x421 x422 x423 x424 x425 x426 x427).bind fun (t440, t441, t442, t443, t444, t445, t446, t447, t448, t449, t450) => ((lgt t396 x415).bind fun (x453, x454, x455, x456, x457, x458, x459, x460, x461, x462, x463) => ((glyphicref20_Cmd_v1.f k t393 t394 t395 (wr64 (1 + t410)) x453 x454 x455 x456 x457 x458 x459 x460 x461 x462 x463).bind fun (t476, t477, t478, t479, t480, t481, t482, t483, t484, t485, t486) => ((glyphicref_SameCmd_v1.f k t440 t441 t442 t443 t444 t445 t446 t447 t448 t449 t450 t476 t477 t478 t479 t480 t481 t482 t483 t484 t485 t486).bind fun t489 => (if t489 = true then (glyphiclaw20_ScaleSays.l0 k l0 t393 t394 t395 t396 t410 (wr64 (x415 + 1))) else (some (.inl false)))))))) else (some (.inr ()))
def glyphiclaw20_ScaleSays.f (k : Nat) (l0 : List (Int)) (raw1 : Int) (w2 : Int) (v3 : Int) : Option (Bool) := (glyphiclaw20_first.f).bind fun t11 => (if t11 = true then (if (l0.length : Int) > 250 then (some true) else ((glyphicmake_Icon_v1.f k l0 0).bind fun (t393, t394, t395, t396, t397, t398) => ((scale_Check_v2.f t393 t394 t395 raw1).bind fun t403 => ((glyphicref20_Check_v1.f t393 t394 t395 raw1).bind fun t405 => ((glyphicsee_Is_v1.f t403 t405).bind fun t407 => (if t407 = true then ((glyphicworld_Number.f w2 600).bind fun t410 => ((glyphiclaw20_ScaleSays.l0 k l0 t393 t394 t395 t396 t410 0 : Option ((Bool) ⊕ (Unit))).bind fun s_ => match s_ with | .inl q503 => some q503 | .inr _ => ((scale_Height_v2.f t393 t394 t395 (wr64 (1 + t410))).bind fun t494 => ((glyphicref20_Height_v1.f t393 t394 t395 (wr64 (1 + t410))).bind fun t496 => (if t494 = t496 then ((scale_At_v2.f t393 t394 t395 (wr64 (1 + t410)) (Int.tmod v3 1048576)).bind fun t499 => ((glyphicref20_At_v1.f t393 t394 t395 (wr64 (1 + t410)) (Int.tmod v3 1048576)).bind fun t501 => (some (t499 == t501)))) else (some false)))))) else (some false))))))) else (some false))
theorem glyphiclaw20_ScaleSays.ok {S : Seal} {k : Nat} {l0 : List (Int)} {raw1 : Int} {w2 : Int} {v3 : Int} {A_ : Int → Addr} (hE_ : EO gsE S A_ 94) {a_l0 : Option Addr} {c_l0 : Nat} (h_l0 : SlE S E_i64 l0 a_l0) (e : glyphiclaw20_ScaleSays.f k l0 raw1 w2 v3 = some true) :
    Cal Tryd.prog 4 [.slice a_l0 l0.length c_l0, .int .i64 raw1, .int .i64 w2, .int .i64 v3] [] S fun v H' S' => v = .bool true ∧ H' = [] ∧ S' = S := by
  unfold glyphiclaw20_ScaleSays.f at e
  refine cal_of (c := c4) (N := 82) Tryd.func4 rfl rfl (by kernel_rfl) (rs := [.t 8]) (by kernel_rfl) (Nat.le_of_ble_eq_true rfl) ?_
  unfold c4
  refine w_seq ?_
  refine w_reg fun all => ?_
  refine t_qz 1 [0, 1, 2, 3] (σ' := [(0, .slice a_l0 l0.length c_l0), (1, .int .i64 raw1), (2, .int .i64 w2), (3, .int .i64 v3)]) (by kernel_rfl) ?_
  refine t_end ?_
  show W _ _ _ _ _ _ _
  refine w_seq ?_
  refine w_reg fun all => ?_
  obtain ⟨t11, h12, e⟩ := bind_of e
  cases t11 with
  | true =>
    rw [if_pos rfl] at e
    refine t_v (.call (vs := []) rfl rfl (by kernel_rfl) (glyphiclaw20_first.ok hE_ h12)) ?_
    refine t_qz 1 [0, 1, 2, 3, 9] (σ' := [(0, .slice a_l0 l0.length c_l0), (1, .int .i64 raw1), (2, .int .i64 w2), (3, .int .i64 v3), (9, .bool true)]) (by kernel_rfl) ?_
    refine t_end ?_
    show W _ _ _ _ _ _ _
    refine w_seq ?_
    refine w_seq ?_
    refine w_reg fun all => ?_
    refine t_qz 2 [0, 1, 2, 3, 9, 14] (σ' := [(0, .slice a_l0 l0.length c_l0), (1, .int .i64 raw1), (2, .int .i64 w2), (3, .int .i64 v3), (9, .bool true), (14, .bool false)]) (by kernel_rfl) ?_
    refine t_end ?_
    show W _ _ _ _ _ _ _
    refine w_cond rfl (fun c_ => by cases c_) (fun _ => ?_)
    show W _ _ _ _ _ _ _
    refine w_skip ?_
    show W _ _ _ _ _ _ _
    refine w_seq ?_
    refine w_seq ?_
    refine w_reg fun all => ?_
    by_cases c13 : (l0.length : Int) > 250
    · rw [if_pos c13] at e
      have c13b : (decide ((l0.length : Int) > 250)) = true := decide_eq_true c13
      refine t_qz 2 [0, 1, 2, 3, 9, 16] (σ' := [(0, .slice a_l0 l0.length c_l0), (1, .int .i64 raw1), (2, .int .i64 w2), (3, .int .i64 v3), (9, .bool true), (16, .int .i64 (l0.length : Int))]) (by kernel_rfl) ?_
      refine t_v (dv_quiet rfl (congrArg (fun t => some (Value.bool t)) c13b)) ?_
      refine t_keep [0, 1, 2, 3, 9, 17] (σ' := [(0, .slice a_l0 l0.length c_l0), (1, .int .i64 raw1), (2, .int .i64 w2), (3, .int .i64 v3), (9, .bool true), (17, .bool true)]) (by kernel_rfl) ?_
      refine t_end ?_
      show W _ _ _ _ _ _ _
      refine w_cond rfl (fun _ => ?_) (fun c_ => by cases c_)
      show W _ _ _ _ _ _ _
      refine w_seq ?_
      refine w_reg fun all => ?_
      refine t_qz 2 [8] (σ' := [(8, .bool true)]) (by kernel_rfl) ?_
      refine t_end ?_
      show W _ _ _ _ _ _ _
      refine w_ret ?_
      have hr_ := Option.some.inj e
      exact ⟨[.bool true], [], S, ⟨rfl, trivial⟩, VS.none, congrArg Value.bool hr_, rfl, rfl⟩
    · rw [if_neg c13] at e
      have c13b : (decide ((l0.length : Int) > 250)) = false := decide_eq_false c13
      refine t_qz 2 [0, 1, 2, 3, 9, 16] (σ' := [(0, .slice a_l0 l0.length c_l0), (1, .int .i64 raw1), (2, .int .i64 w2), (3, .int .i64 v3), (9, .bool true), (16, .int .i64 (l0.length : Int))]) (by kernel_rfl) ?_
      refine t_v (dv_quiet rfl (congrArg (fun t => some (Value.bool t)) c13b)) ?_
      refine t_keep [0, 1, 2, 3, 9, 17] (σ' := [(0, .slice a_l0 l0.length c_l0), (1, .int .i64 raw1), (2, .int .i64 w2), (3, .int .i64 v3), (9, .bool true), (17, .bool false)]) (by kernel_rfl) ?_
      refine t_end ?_
      show W _ _ _ _ _ _ _
      refine w_cond rfl (fun c_ => by cases c_) (fun _ => ?_)
      show W _ _ _ _ _ _ _
      refine w_skip ?_
      show W _ _ _ _ _ _ _
      refine w_seq ?_
      refine w_reg fun all => ?_
      refine t_qz 2 [1, 2, 3, 9, 20] (σ' := [(1, .int .i64 raw1), (2, .int .i64 w2), (3, .int .i64 v3), (9, .bool true), (20, .agg #[.slice a_l0 l0.length c_l0, .int .i64 0])]) (by kernel_rfl) ?_
      refine t_a (.box rfl rfl rfl) fun b14 fb14 sb14 => ?_
      obtain ⟨⟨t393, t394, t395, t396, t397, t398⟩, h399, e⟩ := bind_of e
      try dsimp only at e
      refine t_call (vs := [.pointer (some ⟨b14, 0, none⟩)]) (H1 := ([⟨b14, [.slice a_l0 l0.length c_l0, .int .i64 0], 2⟩] : List Own)) (F := ([] : List Own)) rfl rfl (by kernel_rfl) (sel_perm (is := [0]) (by kernel_rfl)) (glyphicmake_Icon_v1.ok hE_ h_l0 h399) ?_
      rintro _ _ S_ ⟨N400, nN400, Q401a0, Q401c0, Q401F, rfl, rfl, hS_, Q401h0⟩
      obtain rfl := hS_.symm
      refine t_vs (H' := (([⟨N400, encL E_u84 t397, nN400⟩, ⟨b14, [.slice a_l0 l0.length c_l0, .int .i64 t398], 2⟩] : List Own) ++ (Q401F ++ []))) (S' := S) (VS.treeA (.a (.a (.l ([⟨N400, encL E_u84 t397, nN400⟩, ⟨b14, [.slice a_l0 l0.length c_l0, .int .i64 t398], 2⟩] : List Own)) (.a (.f Q401F) (.l []))) (.l ([] : List Own))) (.a (.l ([⟨N400, encL E_u84 t397, nN400⟩, ⟨b14, [.slice a_l0 l0.length c_l0, .int .i64 t398], 2⟩] : List Own)) (.a (.f Q401F) (.l []))) [0, 0, 0] (by kernel_rfl)) ?_
      refine t_a (.new rfl rfl) fun b402 fb402 sb402 => ?_
      refine t_sti 0 (cs := [.int .i64 t393, .int .i64 t394, .int .i64 t395, .slice (ad N400) t397.length (nN400 / 4), .slice Q401a0 t396.length Q401c0]) rfl rfl rfl rfl rfl rfl rfl rfl rfl ?_
      refine t_keep [1, 2, 3, 9, 10] (σ' := [(1, .int .i64 raw1), (2, .int .i64 w2), (3, .int .i64 v3), (9, .bool true), (10, .pointer (some ⟨b402, 0, none⟩))]) (by kernel_rfl) ?_
      refine t_end ?_
      show W _ _ _ _ _ _ _
      refine w_seq ?_
      refine w_seq ?_
      obtain ⟨t403, h404, e⟩ := bind_of e
      obtain ⟨t405, h406, e⟩ := bind_of e
      obtain ⟨t407, h408, e⟩ := bind_of e
      by_cases c409 : t407 = true
      · rw [if_pos c409] at e
        have c409b : t407 = true := c409
        refine w_drwE mixed 8 [.v (.agg #[.int .i64 t393, .int .i64 t394, .int .i64 t395, .slice (ad N400) t397.length (nN400 / 4), .slice Q401a0 t396.length Q401c0]), .v (.int .i64 raw1), .v (errV 94 A_ t403), .v (.agg #[.int .i64 t393, .int .i64 t394, .int .i64 t395, .slice (ad N400) t397.length (nN400 / 4), .slice Q401a0 t396.length Q401c0]), .v (.int .i64 raw1), .v (.int .i64 t405), .v (.bool t407), .v (.bool false)] (by kernel_rfl) ?_ ?_
        · refine .cons (.ldn rfl rfl rfl (.at 0 rfl rfl)) ?_
          refine DI.sq 1 (by kernel_rfl) rfl ?_
          refine .cons (.call (vs := [.agg #[.int .i64 t393, .int .i64 t394, .int .i64 t395, .slice (ad N400) t397.length (nN400 / 4), .slice Q401a0 t396.length Q401c0], .int .i64 raw1]) rfl rfl (by kernel_rfl) (scale_Check_v2.ok hE_ h404)) ?_
          refine .cons (.ldn rfl rfl rfl (.at 0 rfl rfl)) ?_
          refine DI.sq 1 (by kernel_rfl) rfl ?_
          refine .cons (.call (vs := [.agg #[.int .i64 t393, .int .i64 t394, .int .i64 t395, .slice (ad N400) t397.length (nN400 / 4), .slice Q401a0 t396.length Q401c0], .int .i64 raw1]) rfl rfl (by kernel_rfl) (glyphicref20_Check_v1.ok hE_ h406)) ?_
          refine .cons (.call (vs := [errV 94 A_ t403, .int .i64 t405]) rfl rfl (by kernel_rfl) (glyphicsee_Is_v1.ok (e0 := t403) hE_ h408)) ?_
          refine .cons (dv_quiet rfl (congrArg (fun t => some (Value.bool (!t))) c409b)) ?_
          exact .nil
        refine fk_q 8 [2, 3, 9, 10, 30] (σ' := [(2, .int .i64 w2), (3, .int .i64 v3), (9, .bool true), (10, .pointer (some ⟨b402, 0, none⟩)), (30, .bool false)]) t_more (by kernel_rfl) ?_
        refine fk_nil fun all => ?_
        refine t_keep [2, 3, 9, 10, 30] (σ' := [(2, .int .i64 w2), (3, .int .i64 v3), (9, .bool true), (10, .pointer (some ⟨b402, 0, none⟩)), (30, .bool false)]) (by kernel_rfl) ?_
        refine t_end ?_
        show W _ _ _ _ _ _ _
        refine w_cond rfl (fun c_ => by cases c_) (fun _ => ?_)
        show W _ _ _ _ _ _ _
        refine w_skip ?_
        show W _ _ _ _ _ _ _
        refine w_seq ?_
        refine w_reg fun all => ?_
        obtain ⟨t410, h411, e⟩ := bind_of e
        refine t_qz 1 [3, 9, 10, 31] (σ' := [(3, .int .i64 v3), (9, .bool true), (10, .pointer (some ⟨b402, 0, none⟩)), (31, .int .i64 w2)]) (by kernel_rfl) ?_
        refine t_v (.call (vs := [.int .i64 w2, .int .i64 600]) rfl rfl (by kernel_rfl) (glyphicworld_Number.ok hE_ h411)) ?_
        refine t_qz 2 [2, 3, 9, 10] (σ' := [(2, .int .i64 (wr64 (1 + t410))), (3, .int .i64 v3), (9, .bool true), (10, .pointer (some ⟨b402, 0, none⟩))]) (by kernel_rfl) ?_
        refine t_end ?_
        show W _ _ _ _ _ _ _
        refine w_seq ?_
        refine w_reg fun all => ?_
        refine t_qz 3 [2, 3, 9, 10] (σ' := [(2, .int .i64 (wr64 (1 + t410))), (3, .int .i64 (Int.tmod v3 1048576)), (9, .bool true), (10, .pointer (some ⟨b402, 0, none⟩))]) (by kernel_rfl) ?_
        refine t_end ?_
        show W _ _ _ _ _ _ _
        obtain ⟨s414, e413, e⟩ := bind_of e
        refine w_cut [2, 3, 9, 10] (fun σ_ H_ S_ => ∃ u_ : Unit, s414 = .inr u_ ∧ [(2, .int .i64 (wr64 (1 + t410))), (3, .int .i64 (Int.tmod v3 1048576)), (9, .bool true), (10, .pointer (some ⟨b402, 0, none⟩))] = σ_ ∧ (([⟨b402, [.int .i64 t393, .int .i64 t394, .int .i64 t395, .slice (ad N400) t397.length (nN400 / 4), .slice Q401a0 t396.length Q401c0], 5⟩, ⟨b14, [.slice a_l0 l0.length c_l0, .int .i64 t398], 2⟩, ⟨N400, encL E_u84 t397, nN400⟩] : List Own) ++ (Q401F ++ [])) = H_ ∧ S = S_) ?_ ?_
        · show W _ _ _ _ _ _ _
          refine w_seq ?_
          refine w_reg fun all => ?_
          refine t_qz 1 [2, 3, 9, 10, 11] (σ' := [(2, .int .i64 (wr64 (1 + t410))), (3, .int .i64 (Int.tmod v3 1048576)), (9, .bool true), (10, .pointer (some ⟨b402, 0, none⟩)), (11, .int .i64 0)]) (by kernel_rfl) ?_
          refine t_end ?_
          show W _ _ _ _ _ _ _
          refine w_block ?_
          refine w_kp [2, 3, 9, 10, 11] (σ' := [(2, .int .i64 (wr64 (1 + t410))), (3, .int .i64 (Int.tmod v3 1048576)), (9, .bool true), (10, .pointer (some ⟨b402, 0, none⟩)), (11, .int .i64 0)]) (by kernel_rfl) ?_
          refine w_loop (fun n_ σ_ H_ S_ => ∃ (x415 : Int), [(2, .int .i64 (wr64 (1 + t410))), (3, .int .i64 (Int.tmod v3 1048576)), (9, .bool true), (10, .pointer (some ⟨b402, 0, none⟩)), (11, .int .i64 x415)] = σ_ ∧ (([⟨b402, [.int .i64 t393, .int .i64 t394, .int .i64 t395, .slice (ad N400) t397.length (nN400 / 4), .slice Q401a0 t396.length Q401c0], 5⟩, ⟨N400, encL E_u84 t397, nN400⟩, ⟨b14, [.slice a_l0 l0.length c_l0, .int .i64 t398], 2⟩] : List Own) ++ (Q401F ++ [])) = H_ ∧ S = S_ ∧ glyphiclaw20_ScaleSays.l0 n_ l0 t393 t394 t395 t396 t410 x415 = some s414) _ ⟨0, rfl, rfl, rfl, e413⟩ ?_
          rintro n493 σ_ H_ S_ ⟨x415, rfl, rfl, rfl, e413⟩
          cases n493 with
          | zero => rw [glyphiclaw20_ScaleSays.l0.eq_1] at e413; cases e413
          | succ k_ =>
            rw [glyphiclaw20_ScaleSays.l0.eq_2] at e413
            refine w_seq ?_
            refine w_seq ?_
            refine w_reg fun all => ?_
            refine t_qz 2 [2, 3, 9, 10, 11, 36, 37] (σ' := [(2, .int .i64 (wr64 (1 + t410))), (3, .int .i64 (Int.tmod v3 1048576)), (9, .bool true), (10, .pointer (some ⟨b402, 0, none⟩)), (11, .int .i64 x415), (36, .int .i64 x415), (37, .pointer (some ⟨b402, 4, none⟩))]) (by kernel_rfl) ?_
            refine t_v (.ld1 rfl rfl rfl (.at 0 rfl rfl)) ?_
            by_cases c416 : x415 < (t396.length : Int)
            · rw [if_pos c416] at e413
              have c416b : (decide (x415 < (t396.length : Int))) = true := decide_eq_true c416
              refine t_qz 1 [2, 3, 9, 10, 11, 36, 39] (σ' := [(2, .int .i64 (wr64 (1 + t410))), (3, .int .i64 (Int.tmod v3 1048576)), (9, .bool true), (10, .pointer (some ⟨b402, 0, none⟩)), (11, .int .i64 x415), (36, .int .i64 x415), (39, .int .i64 (t396.length : Int))]) (by kernel_rfl) ?_
              refine t_v (dv_quiet rfl (congrArg (fun t => some (Value.bool t)) c416b)) ?_
              refine t_keep [2, 3, 9, 10, 11, 40] (σ' := [(2, .int .i64 (wr64 (1 + t410))), (3, .int .i64 (Int.tmod v3 1048576)), (9, .bool true), (10, .pointer (some ⟨b402, 0, none⟩)), (11, .int .i64 x415), (40, .bool true)]) (by kernel_rfl) ?_
              refine t_end ?_
              show W _ _ _ _ _ _ _
              refine w_cond rfl (fun _ => ?_) (fun c_ => by cases c_)
              show W _ _ _ _ _ _ _
              refine w_skip ?_
              show W _ _ _ _ _ _ _
              refine w_seq ?_
              refine w_block ?_
              refine w_seq ?_
              obtain ⟨⟨x417, x418, x419, x420, x421, x422, x423, x424, x425, x426, x427⟩, hx428, e413⟩ := bind_of e413
              try dsimp only at e413
              obtain ⟨lb429, lo430, ll431, vs_, la432, lR433, lv434, hrep_, lz435, lu436⟩ := sln_get (E := N_1) Q401h0 hx428
              obtain ⟨na437, nc438, rfl, nh439⟩ := hrep_
              obtain ⟨⟨t440, t441, t442, t443, t444, t445, t446, t447, t448, t449, t450⟩, h451, e413⟩ := bind_of e413
              try dsimp only at e413
              obtain ⟨⟨x453, x454, x455, x456, x457, x458, x459, x460, x461, x462, x463⟩, hx464, e413⟩ := bind_of e413
              try dsimp only at e413
              obtain ⟨lb465, lo466, ll467, vs_, la468, lR469, lv470, hrep_, lz471, lu472⟩ := sln_get (E := N_1) Q401h0 hx464
              obtain ⟨na473, nc474, rfl, nh475⟩ := hrep_
              obtain ⟨⟨t476, t477, t478, t479, t480, t481, t482, t483, t484, t485, t486⟩, h487, e413⟩ := bind_of e413
              try dsimp only at e413
              obtain ⟨t489, h490, e413⟩ := bind_of e413
              refine w_kp [2, 3, 9, 10, 11] (σ' := [(2, .int .i64 (wr64 (1 + t410))), (3, .int .i64 (Int.tmod v3 1048576)), (9, .bool true), (10, .pointer (some ⟨b402, 0, none⟩)), (11, .int .i64 x415)]) (by kernel_rfl) ?_
              refine w_gameQ mixed (by kernel_rfl) fun all G hend hstep hqf => ?_
              have hg_3ffff : ∀ (Q452a0 : Option Addr) (Q452c0 : Nat) (Q452F : List Own) (Q452h0 : SlN (rdOf (Q401F ++ (Q452F ++ [])) S) N_0 t450 Q452a0) (Q488a0 : Option Addr) (Q488c0 : Nat) (Q488F : List Own) (Q488h0 : SlN (rdOf (Q401F ++ (Q488F ++ [])) S) N_0 t486 Q488a0), G [true, true, true, true, true, true, true, true, true, true, true, true, true, true, true, true, true, true] [(2, .int .i64 (wr64 (1 + t410))), (3, .int .i64 (Int.tmod v3 1048576)), (9, .bool true), (10, .pointer (some ⟨b402, 0, none⟩)), (11, .int .i64 x415), (60, .bool (!t489))] (([⟨b402, [.int .i64 t393, .int .i64 t394, .int .i64 t395, .slice (ad N400) t397.length (nN400 / 4), .slice Q401a0 t396.length Q401c0], 5⟩, ⟨N400, encL E_u84 t397, nN400⟩, ⟨b14, [.slice a_l0 l0.length c_l0, .int .i64 t398], 2⟩] : List Own) ++ (Q401F ++ (Q488F ++ (Q452F ++ [])))) := by
                intro Q452a0 Q452c0 Q452F Q452h0 Q488a0 Q488c0 Q488F Q488h0
                refine hend _ _ _ (by kernel_rfl) ?_
                show W _ _ _ _ _ _ _
                by_cases c491 : t489 = true
                · rw [if_pos c491] at e413
                  have c491b : t489 = true := c491
                  refine w_cond (t := false) (congrArg (fun t => some (Value.bool (!t))) c491b) (fun c_ => by cases c_) (fun _ => ?_)
                  refine w_skip ?_
                  show W _ _ _ _ _ _ _
                  refine w_reg fun all => ?_
                  refine t_qz 3 [2, 3, 9, 10, 11] (σ' := [(2, .int .i64 (wr64 (1 + t410))), (3, .int .i64 (Int.tmod v3 1048576)), (9, .bool true), (10, .pointer (some ⟨b402, 0, none⟩)), (11, .int .i64 (wr64 (x415 + 1)))]) (by kernel_rfl) ?_
                  refine t_end ?_
                  exact ⟨k_, Nat.lt_succ_self _, [(2, .int .i64 (wr64 (1 + t410))), (3, .int .i64 (Int.tmod v3 1048576)), (9, .bool true), (10, .pointer (some ⟨b402, 0, none⟩)), (11, .int .i64 (wr64 (x415 + 1)))], (([⟨b402, [.int .i64 t393, .int .i64 t394, .int .i64 t395, .slice (ad N400) t397.length (nN400 / 4), .slice Q401a0 t396.length Q401c0], 5⟩, ⟨N400, encL E_u84 t397, nN400⟩, ⟨b14, [.slice a_l0 l0.length c_l0, .int .i64 t398], 2⟩] : List Own) ++ (Q401F ++ [])), S, keep_sub [2, 3, 9, 10, 11] (by kernel_rfl), VS.treeA (.a (.l ([⟨b402, [.int .i64 t393, .int .i64 t394, .int .i64 t395, .slice (ad N400) t397.length (nN400 / 4), .slice Q401a0 t396.length Q401c0], 5⟩, ⟨N400, encL E_u84 t397, nN400⟩, ⟨b14, [.slice a_l0 l0.length c_l0, .int .i64 t398], 2⟩] : List Own)) (.a (.f Q401F) (.a (.f Q488F) (.a (.f Q452F) (.l []))))) (.a (.l ([⟨b402, [.int .i64 t393, .int .i64 t394, .int .i64 t395, .slice (ad N400) t397.length (nN400 / 4), .slice Q401a0 t396.length Q401c0], 5⟩, ⟨N400, encL E_u84 t397, nN400⟩, ⟨b14, [.slice a_l0 l0.length c_l0, .int .i64 t398], 2⟩] : List Own)) (.a (.f Q401F) (.l []))) [0, 0, 0, 0] (by kernel_rfl), wr64 (x415 + 1), rfl, rfl, rfl, e413⟩
                · rw [if_neg c491] at e413
                  have c491b : t489 = false := Bool.eq_false_iff.mpr c491
                  refine w_cond (t := true) (congrArg (fun t => some (Value.bool (!t))) c491b) (fun _ => ?_) (fun c_ => by cases c_)
                  refine w_seq ?_
                  refine w_reg fun all => ?_
                  refine t_qz 1 [8] (σ' := [(8, .bool false)]) (by kernel_rfl) ?_
                  refine t_end ?_
                  show W _ _ _ _ _ _ _
                  refine w_ret ?_
                  obtain rfl := Option.some.inj e413
                  have hr_ := Option.some.inj e
                  exact ⟨[.bool false], [], S, ⟨rfl, trivial⟩, VS.none, congrArg Value.bool hr_, rfl, rfl⟩
              have hg_1ffff : ∀ (Q452a0 : Option Addr) (Q452c0 : Nat) (Q452F : List Own) (Q452h0 : SlN (rdOf (Q401F ++ (Q452F ++ [])) S) N_0 t450 Q452a0) (Q488a0 : Option Addr) (Q488c0 : Nat) (Q488F : List Own) (Q488h0 : SlN (rdOf (Q401F ++ (Q488F ++ [])) S) N_0 t486 Q488a0), G [true, true, true, true, true, true, true, true, true, true, true, true, true, true, true, true, true, false] [(2, .int .i64 (wr64 (1 + t410))), (3, .int .i64 (Int.tmod v3 1048576)), (9, .bool true), (10, .pointer (some ⟨b402, 0, none⟩)), (11, .int .i64 x415), (59, .bool t489)] (([⟨b402, [.int .i64 t393, .int .i64 t394, .int .i64 t395, .slice (ad N400) t397.length (nN400 / 4), .slice Q401a0 t396.length Q401c0], 5⟩, ⟨N400, encL E_u84 t397, nN400⟩, ⟨b14, [.slice a_l0 l0.length c_l0, .int .i64 t398], 2⟩] : List Own) ++ (Q401F ++ (Q488F ++ (Q452F ++ [])))) := by
                intro Q452a0 Q452c0 Q452F Q452h0 Q488a0 Q488c0 Q488F Q488h0
                exact hqf 17 [2, 3, 9, 10, 11, 60] _ _ _ _ (by kernel_rfl) (by kernel_rfl) (hg_3ffff Q452a0 Q452c0 Q452F Q452h0 Q488a0 Q488c0 Q488F Q488h0)
              have hg_ffff : ∀ (Q452a0 : Option Addr) (Q452c0 : Nat) (Q452F : List Own) (Q452h0 : SlN (rdOf (Q401F ++ (Q452F ++ [])) S) N_0 t450 Q452a0) (Q488a0 : Option Addr) (Q488c0 : Nat) (Q488F : List Own) (Q488h0 : SlN (rdOf (Q401F ++ (Q488F ++ [])) S) N_0 t486 Q488a0), G [true, true, true, true, true, true, true, true, true, true, true, true, true, true, true, true, false, false] [(2, .int .i64 (wr64 (1 + t410))), (3, .int .i64 (Int.tmod v3 1048576)), (9, .bool true), (10, .pointer (some ⟨b402, 0, none⟩)), (11, .int .i64 x415), (50, .agg #[.int .i64 t440, .int .i64 t441, .int .i64 t442, .int .i64 t443, .int .i64 t444, .int .i64 t445, .int .i64 t446, .int .i64 t447, .int .i64 t448, .int .i64 t449, .slice Q452a0 t450.length Q452c0]), (58, .agg #[.int .i64 t476, .int .i64 t477, .int .i64 t478, .int .i64 t479, .int .i64 t480, .int .i64 t481, .int .i64 t482, .int .i64 t483, .int .i64 t484, .int .i64 t485, .slice Q488a0 t486.length Q488c0])] (([⟨b402, [.int .i64 t393, .int .i64 t394, .int .i64 t395, .slice (ad N400) t397.length (nN400 / 4), .slice Q401a0 t396.length Q401c0], 5⟩, ⟨N400, encL E_u84 t397, nN400⟩, ⟨b14, [.slice a_l0 l0.length c_l0, .int .i64 t398], 2⟩] : List Own) ++ (Q401F ++ (Q488F ++ (Q452F ++ [])))) := by
                intro Q452a0 Q452c0 Q452F Q452h0 Q488a0 Q488c0 Q488F Q488h0
                refine hstep [16] _ _ _ (by kernel_rfl) (List.cons_ne_nil _ _) ⟨?_, trivial⟩
                · show T _ _ _ _ _ _ _ _
                  refine t_v (.callr (vs := [.agg #[.int .i64 t440, .int .i64 t441, .int .i64 t442, .int .i64 t443, .int .i64 t444, .int .i64 t445, .int .i64 t446, .int .i64 t447, .int .i64 t448, .int .i64 t449, .slice Q452a0 t450.length Q452c0], .agg #[.int .i64 t476, .int .i64 t477, .int .i64 t478, .int .i64 t479, .int .i64 t480, .int .i64 t481, .int .i64 t482, .int .i64 t483, .int .i64 t484, .int .i64 t485, .slice Q488a0 t486.length Q488c0]]) (A := ((Q401F ++ (Q452F ++ (Q488F ++ []))) ++ [])) (F0 := ([⟨b402, [.int .i64 t393, .int .i64 t394, .int .i64 t395, .slice (ad N400) t397.length (nN400 / 4), .slice Q401a0 t396.length Q401c0], 5⟩, ⟨N400, encL E_u84 t397, nN400⟩, ⟨b14, [.slice a_l0 l0.length c_l0, .int .i64 t398], 2⟩] : List Own)) rfl rfl (by kernel_rfl) (tree_perm (.a (.l ([⟨b402, [.int .i64 t393, .int .i64 t394, .int .i64 t395, .slice (ad N400) t397.length (nN400 / 4), .slice Q401a0 t396.length Q401c0], 5⟩, ⟨N400, encL E_u84 t397, nN400⟩, ⟨b14, [.slice a_l0 l0.length c_l0, .int .i64 t398], 2⟩] : List Own)) (.a (.f Q401F) (.a (.f Q488F) (.a (.f Q452F) (.l []))))) (.a (.a (.f Q401F) (.a (.f Q452F) (.a (.f Q488F) (.l [])))) (.l ([] : List Own))) (.l ([⟨b402, [.int .i64 t393, .int .i64 t394, .int .i64 t395, .slice (ad N400) t397.length (nN400 / 4), .slice Q401a0 t396.length Q401c0], 5⟩, ⟨N400, encL E_u84 t397, nN400⟩, ⟨b14, [.slice a_l0 l0.length c_l0, .int .i64 t398], 2⟩] : List Own)) [3, 4, 3] (by kernel_rfl)) (cal_lendFr (Q401F ++ (Q452F ++ (Q488F ++ []))) fun S1_ le1_ hp1_ hs1_ hn1_ ex1_ => glyphicref_SameCmd_v1.ok (EO.mono hE_ le1_ hp1_) (SlN.mono Q452h0 (rd_lend hs1_ le1_ (sub_app (seg_in 0 (X := (Q401F ++ (Q452F ++ (Q488F ++ [])))) rfl seg_hd) (sub_app (seg_in 0 (X := (Q401F ++ (Q452F ++ (Q488F ++ [])))) rfl (seg_tl seg_hd)) sub_nil)))) (SlN.mono Q488h0 (rd_lend hs1_ le1_ (sub_app (seg_in 0 (X := (Q401F ++ (Q452F ++ (Q488F ++ [])))) rfl seg_hd) (sub_app (seg_in 0 (X := (Q401F ++ (Q452F ++ (Q488F ++ [])))) rfl (seg_tl (seg_tl seg_hd))) sub_nil)))) h490)) ?_
                  exact t_fin [2, 3, 9, 10, 11, 59] (hg_1ffff Q452a0 Q452c0 Q452F Q452h0 Q488a0 Q488c0 Q488F Q488h0) (by kernel_rfl)
              have hg_7fff : ∀ (Q452a0 : Option Addr) (Q452c0 : Nat) (Q452F : List Own) (Q452h0 : SlN (rdOf (Q401F ++ (Q452F ++ [])) S) N_0 t450 Q452a0), G [true, true, true, true, true, true, true, true, true, true, true, true, true, true, true, false, false, false] [(2, .int .i64 (wr64 (1 + t410))), (3, .int .i64 (Int.tmod v3 1048576)), (9, .bool true), (10, .pointer (some ⟨b402, 0, none⟩)), (11, .int .i64 x415), (50, .agg #[.int .i64 t440, .int .i64 t441, .int .i64 t442, .int .i64 t443, .int .i64 t444, .int .i64 t445, .int .i64 t446, .int .i64 t447, .int .i64 t448, .int .i64 t449, .slice Q452a0 t450.length Q452c0]), (51, .agg #[.int .i64 t393, .int .i64 t394, .int .i64 t395, .slice (ad N400) t397.length (nN400 / 4), .slice Q401a0 t396.length Q401c0]), (52, .int .i64 (wr64 (1 + t410))), (57, .agg #[.int .i64 x453, .int .i64 x454, .int .i64 x455, .int .i64 x456, .int .i64 x457, .int .i64 x458, .int .i64 x459, .int .i64 x460, .int .i64 x461, .int .i64 x462, .slice na473 x463.length nc474])] (([⟨b402, [.int .i64 t393, .int .i64 t394, .int .i64 t395, .slice (ad N400) t397.length (nN400 / 4), .slice Q401a0 t396.length Q401c0], 5⟩, ⟨N400, encL E_u84 t397, nN400⟩, ⟨b14, [.slice a_l0 l0.length c_l0, .int .i64 t398], 2⟩] : List Own) ++ (Q401F ++ (Q452F ++ []))) := by
                intro Q452a0 Q452c0 Q452F Q452h0
                refine hstep [15] _ _ _ (by kernel_rfl) (List.cons_ne_nil _ _) ⟨?_, trivial⟩
                · show T _ _ _ _ _ _ _ _
                  refine t_call (vs := [.agg #[.int .i64 t393, .int .i64 t394, .int .i64 t395, .slice (ad N400) t397.length (nN400 / 4), .slice Q401a0 t396.length Q401c0], .int .i64 (wr64 (1 + t410)), .agg #[.int .i64 x453, .int .i64 x454, .int .i64 x455, .int .i64 x456, .int .i64 x457, .int .i64 x458, .int .i64 x459, .int .i64 x460, .int .i64 x461, .int .i64 x462, .slice na473 x463.length nc474]]) (H1 := ((Q401F ++ []) ++ [])) (F := (([⟨b402, [.int .i64 t393, .int .i64 t394, .int .i64 t395, .slice (ad N400) t397.length (nN400 / 4), .slice Q401a0 t396.length Q401c0], 5⟩, ⟨N400, encL E_u84 t397, nN400⟩, ⟨b14, [.slice a_l0 l0.length c_l0, .int .i64 t398], 2⟩] : List Own) ++ (Q452F ++ []))) rfl rfl (by kernel_rfl) (tree_perm (.a (.l ([⟨b402, [.int .i64 t393, .int .i64 t394, .int .i64 t395, .slice (ad N400) t397.length (nN400 / 4), .slice Q401a0 t396.length Q401c0], 5⟩, ⟨N400, encL E_u84 t397, nN400⟩, ⟨b14, [.slice a_l0 l0.length c_l0, .int .i64 t398], 2⟩] : List Own)) (.a (.f Q401F) (.a (.f Q452F) (.l [])))) (.a (.a (.f Q401F) (.l [])) (.l ([] : List Own))) (.a (.l ([⟨b402, [.int .i64 t393, .int .i64 t394, .int .i64 t395, .slice (ad N400) t397.length (nN400 / 4), .slice Q401a0 t396.length Q401c0], 5⟩, ⟨N400, encL E_u84 t397, nN400⟩, ⟨b14, [.slice a_l0 l0.length c_l0, .int .i64 t398], 2⟩] : List Own)) (.a (.f Q452F) (.l []))) [3] (by kernel_rfl)) (cal_lendF (Qc := fun v_ H_ => ∃ (Q488a0 : Option Addr) (Q488c0 : Nat) (Q488F : List Own), v_ = (.agg #[.int .i64 t476, .int .i64 t477, .int .i64 t478, .int .i64 t479, .int .i64 t480, .int .i64 t481, .int .i64 t482, .int .i64 t483, .int .i64 t484, .int .i64 t485, .slice Q488a0 t486.length Q488c0]) ∧ H_ = (Q488F ++ []) ∧ SlN (rdOf (Q401F ++ (Q488F ++ [])) S) N_0 t486 Q488a0) (Q401F ++ []) fun S1_ le1_ hp1_ hs1_ hn1_ ex1_ => (glyphicref20_Cmd_v1.ok (EO.mono hE_ le1_ hp1_) (SlN.mono nh475 (rd_lend hs1_ le1_ (sub_app (seg_in 0 (X := (Q401F ++ [])) rfl seg_hd) sub_nil))) h487).mono fun _ _ _ ⟨Q488a0, Q488c0, Q488F, h1_, h2_, h3_, Q488h0⟩ => ⟨⟨Q488a0, Q488c0, Q488F, h1_, h2_, SlN.mono Q488h0 (rd_back ex1_ (sub_app (seg_in 0 (X := (Q401F ++ (Q488F ++ []))) rfl (seg_tl seg_hd)) sub_nil) (sub_app (seg_in 0 (X := (Q401F ++ (Q488F ++ []))) rfl seg_hd) sub_nil))⟩, h3_⟩) ?_
                  rintro _ _ S_ ⟨⟨_, rfl, Q488a0, Q488c0, Q488F, rfl, rfl, Q488h0⟩, hS_⟩
                  obtain rfl := hS_.symm
                  refine t_vs (H' := (([⟨b402, [.int .i64 t393, .int .i64 t394, .int .i64 t395, .slice (ad N400) t397.length (nN400 / 4), .slice Q401a0 t396.length Q401c0], 5⟩, ⟨N400, encL E_u84 t397, nN400⟩, ⟨b14, [.slice a_l0 l0.length c_l0, .int .i64 t398], 2⟩] : List Own) ++ (Q401F ++ (Q488F ++ (Q452F ++ []))))) (S' := S) (VS.treeA (.a (.a (.a (.f Q401F) (.l [])) (.a (.f Q488F) (.l []))) (.a (.l ([⟨b402, [.int .i64 t393, .int .i64 t394, .int .i64 t395, .slice (ad N400) t397.length (nN400 / 4), .slice Q401a0 t396.length Q401c0], 5⟩, ⟨N400, encL E_u84 t397, nN400⟩, ⟨b14, [.slice a_l0 l0.length c_l0, .int .i64 t398], 2⟩] : List Own)) (.a (.f Q452F) (.l [])))) (.a (.l ([⟨b402, [.int .i64 t393, .int .i64 t394, .int .i64 t395, .slice (ad N400) t397.length (nN400 / 4), .slice Q401a0 t396.length Q401c0], 5⟩, ⟨N400, encL E_u84 t397, nN400⟩, ⟨b14, [.slice a_l0 l0.length c_l0, .int .i64 t398], 2⟩] : List Own)) (.a (.f Q401F) (.a (.f Q488F) (.a (.f Q452F) (.l []))))) [2, 2, 2, 0, 0, 0] (by kernel_rfl)) ?_
                  exact t_fin [2, 3, 9, 10, 11, 50, 58] (hg_ffff Q452a0 Q452c0 Q452F Q452h0 Q488a0 Q488c0 Q488F Q488h0) (by kernel_rfl)
              have hg_7eff : ∀ (Q452a0 : Option Addr) (Q452c0 : Nat) (Q452F : List Own) (Q452h0 : SlN (rdOf (Q401F ++ (Q452F ++ [])) S) N_0 t450 Q452a0), G [true, true, true, true, true, true, true, true, false, true, true, true, true, true, true, false, false, false] [(2, .int .i64 (wr64 (1 + t410))), (3, .int .i64 (Int.tmod v3 1048576)), (9, .bool true), (10, .pointer (some ⟨b402, 0, none⟩)), (11, .int .i64 x415), (50, .agg #[.int .i64 t440, .int .i64 t441, .int .i64 t442, .int .i64 t443, .int .i64 t444, .int .i64 t445, .int .i64 t446, .int .i64 t447, .int .i64 t448, .int .i64 t449, .slice Q452a0 t450.length Q452c0]), (52, .int .i64 (wr64 (1 + t410))), (57, .agg #[.int .i64 x453, .int .i64 x454, .int .i64 x455, .int .i64 x456, .int .i64 x457, .int .i64 x458, .int .i64 x459, .int .i64 x460, .int .i64 x461, .int .i64 x462, .slice na473 x463.length nc474])] (([⟨b402, [.int .i64 t393, .int .i64 t394, .int .i64 t395, .slice (ad N400) t397.length (nN400 / 4), .slice Q401a0 t396.length Q401c0], 5⟩, ⟨N400, encL E_u84 t397, nN400⟩, ⟨b14, [.slice a_l0 l0.length c_l0, .int .i64 t398], 2⟩] : List Own) ++ (Q401F ++ (Q452F ++ []))) := by
                intro Q452a0 Q452c0 Q452F Q452h0
                refine hstep [8] _ _ _ (by kernel_rfl) (List.cons_ne_nil _ _) ⟨?_, trivial⟩
                · show T _ _ _ _ _ _ _ _
                  refine t_v (.ldn rfl rfl rfl (.at 0 rfl rfl)) ?_
                  exact t_fin [2, 3, 9, 10, 11, 50, 51, 52, 57] (hg_7fff Q452a0 Q452c0 Q452F Q452h0) (by kernel_rfl)
              have hg_7f7f : G [true, true, true, true, true, true, true, false, true, true, true, true, true, true, true, false, false, false] [(2, .int .i64 (wr64 (1 + t410))), (3, .int .i64 (Int.tmod v3 1048576)), (9, .bool true), (10, .pointer (some ⟨b402, 0, none⟩)), (11, .int .i64 x415), (43, .agg #[.int .i64 t393, .int .i64 t394, .int .i64 t395, .slice (ad N400) t397.length (nN400 / 4), .slice Q401a0 t396.length Q401c0]), (44, .int .i64 (wr64 (1 + t410))), (49, .agg #[.int .i64 x417, .int .i64 x418, .int .i64 x419, .int .i64 x420, .int .i64 x421, .int .i64 x422, .int .i64 x423, .int .i64 x424, .int .i64 x425, .int .i64 x426, .slice na437 x427.length nc438]), (51, .agg #[.int .i64 t393, .int .i64 t394, .int .i64 t395, .slice (ad N400) t397.length (nN400 / 4), .slice Q401a0 t396.length Q401c0]), (52, .int .i64 (wr64 (1 + t410))), (57, .agg #[.int .i64 x453, .int .i64 x454, .int .i64 x455, .int .i64 x456, .int .i64 x457, .int .i64 x458, .int .i64 x459, .int .i64 x460, .int .i64 x461, .int .i64 x462, .slice na473 x463.length nc474])] (([⟨b402, [.int .i64 t393, .int .i64 t394, .int .i64 t395, .slice (ad N400) t397.length (nN400 / 4), .slice Q401a0 t396.length Q401c0], 5⟩, ⟨N400, encL E_u84 t397, nN400⟩, ⟨b14, [.slice a_l0 l0.length c_l0, .int .i64 t398], 2⟩] : List Own) ++ (Q401F ++ [])) := by
                refine hstep [7] _ _ _ (by kernel_rfl) (List.cons_ne_nil _ _) ⟨?_, trivial⟩
                · show T _ _ _ _ _ _ _ _
                  refine t_call (vs := [.agg #[.int .i64 t393, .int .i64 t394, .int .i64 t395, .slice (ad N400) t397.length (nN400 / 4), .slice Q401a0 t396.length Q401c0], .int .i64 (wr64 (1 + t410)), .agg #[.int .i64 x417, .int .i64 x418, .int .i64 x419, .int .i64 x420, .int .i64 x421, .int .i64 x422, .int .i64 x423, .int .i64 x424, .int .i64 x425, .int .i64 x426, .slice na437 x427.length nc438]]) (H1 := ((Q401F ++ []) ++ [])) (F := ([⟨b402, [.int .i64 t393, .int .i64 t394, .int .i64 t395, .slice (ad N400) t397.length (nN400 / 4), .slice Q401a0 t396.length Q401c0], 5⟩, ⟨N400, encL E_u84 t397, nN400⟩, ⟨b14, [.slice a_l0 l0.length c_l0, .int .i64 t398], 2⟩] : List Own)) rfl rfl (by kernel_rfl) (tree_perm (.a (.l ([⟨b402, [.int .i64 t393, .int .i64 t394, .int .i64 t395, .slice (ad N400) t397.length (nN400 / 4), .slice Q401a0 t396.length Q401c0], 5⟩, ⟨N400, encL E_u84 t397, nN400⟩, ⟨b14, [.slice a_l0 l0.length c_l0, .int .i64 t398], 2⟩] : List Own)) (.a (.f Q401F) (.l []))) (.a (.a (.f Q401F) (.l [])) (.l ([] : List Own))) (.l ([⟨b402, [.int .i64 t393, .int .i64 t394, .int .i64 t395, .slice (ad N400) t397.length (nN400 / 4), .slice Q401a0 t396.length Q401c0], 5⟩, ⟨N400, encL E_u84 t397, nN400⟩, ⟨b14, [.slice a_l0 l0.length c_l0, .int .i64 t398], 2⟩] : List Own)) [3] (by kernel_rfl)) (cal_lendF (Qc := fun v_ H_ => ∃ (Q452a0 : Option Addr) (Q452c0 : Nat) (Q452F : List Own), v_ = (.agg #[.int .i64 t440, .int .i64 t441, .int .i64 t442, .int .i64 t443, .int .i64 t444, .int .i64 t445, .int .i64 t446, .int .i64 t447, .int .i64 t448, .int .i64 t449, .slice Q452a0 t450.length Q452c0]) ∧ H_ = (Q452F ++ []) ∧ SlN (rdOf (Q401F ++ (Q452F ++ [])) S) N_0 t450 Q452a0) (Q401F ++ []) fun S1_ le1_ hp1_ hs1_ hn1_ ex1_ => (scale_Cmd_v1.ok (EO.mono hE_ le1_ hp1_) (SlN.mono nh439 (rd_lend hs1_ le1_ (sub_app (seg_in 0 (X := (Q401F ++ [])) rfl seg_hd) sub_nil))) h451).mono fun _ _ _ ⟨Q452a0, Q452c0, Q452F, h1_, h2_, h3_, Q452h0⟩ => ⟨⟨Q452a0, Q452c0, Q452F, h1_, h2_, SlN.mono Q452h0 (rd_back ex1_ (sub_app (seg_in 0 (X := (Q401F ++ (Q452F ++ []))) rfl (seg_tl seg_hd)) sub_nil) (sub_app (seg_in 0 (X := (Q401F ++ (Q452F ++ []))) rfl seg_hd) sub_nil))⟩, h3_⟩) ?_
                  rintro _ _ S_ ⟨⟨_, rfl, Q452a0, Q452c0, Q452F, rfl, rfl, Q452h0⟩, hS_⟩
                  obtain rfl := hS_.symm
                  refine t_vs (H' := (([⟨b402, [.int .i64 t393, .int .i64 t394, .int .i64 t395, .slice (ad N400) t397.length (nN400 / 4), .slice Q401a0 t396.length Q401c0], 5⟩, ⟨N400, encL E_u84 t397, nN400⟩, ⟨b14, [.slice a_l0 l0.length c_l0, .int .i64 t398], 2⟩] : List Own) ++ (Q401F ++ (Q452F ++ [])))) (S' := S) (VS.treeA (.a (.a (.a (.f Q401F) (.l [])) (.a (.f Q452F) (.l []))) (.l ([⟨b402, [.int .i64 t393, .int .i64 t394, .int .i64 t395, .slice (ad N400) t397.length (nN400 / 4), .slice Q401a0 t396.length Q401c0], 5⟩, ⟨N400, encL E_u84 t397, nN400⟩, ⟨b14, [.slice a_l0 l0.length c_l0, .int .i64 t398], 2⟩] : List Own))) (.a (.l ([⟨b402, [.int .i64 t393, .int .i64 t394, .int .i64 t395, .slice (ad N400) t397.length (nN400 / 4), .slice Q401a0 t396.length Q401c0], 5⟩, ⟨N400, encL E_u84 t397, nN400⟩, ⟨b14, [.slice a_l0 l0.length c_l0, .int .i64 t398], 2⟩] : List Own)) (.a (.f Q401F) (.a (.f Q452F) (.l [])))) [2, 2, 2, 0, 0] (by kernel_rfl)) ?_
                  exact t_fin [2, 3, 9, 10, 11, 50, 51, 52, 57] (hg_7fff Q452a0 Q452c0 Q452F Q452h0) (by kernel_rfl)
              have hg_3fff : ∀ (Q452a0 : Option Addr) (Q452c0 : Nat) (Q452F : List Own) (Q452h0 : SlN (rdOf (Q401F ++ (Q452F ++ [])) S) N_0 t450 Q452a0), G [true, true, true, true, true, true, true, true, true, true, true, true, true, true, false, false, false, false] [(2, .int .i64 (wr64 (1 + t410))), (3, .int .i64 (Int.tmod v3 1048576)), (9, .bool true), (10, .pointer (some ⟨b402, 0, none⟩)), (11, .int .i64 x415), (50, .agg #[.int .i64 t440, .int .i64 t441, .int .i64 t442, .int .i64 t443, .int .i64 t444, .int .i64 t445, .int .i64 t446, .int .i64 t447, .int .i64 t448, .int .i64 t449, .slice Q452a0 t450.length Q452c0]), (51, .agg #[.int .i64 t393, .int .i64 t394, .int .i64 t395, .slice (ad N400) t397.length (nN400 / 4), .slice Q401a0 t396.length Q401c0]), (52, .int .i64 (wr64 (1 + t410))), (56, .pointer (some ⟨lb465, lo466 + (x415).toNat * 11 + 0, none⟩))] (([⟨b402, [.int .i64 t393, .int .i64 t394, .int .i64 t395, .slice (ad N400) t397.length (nN400 / 4), .slice Q401a0 t396.length Q401c0], 5⟩, ⟨N400, encL E_u84 t397, nN400⟩, ⟨b14, [.slice a_l0 l0.length c_l0, .int .i64 t398], 2⟩] : List Own) ++ (Q401F ++ (Q452F ++ []))) := by
                intro Q452a0 Q452c0 Q452F Q452h0
                refine hstep [14] _ _ _ (by kernel_rfl) (List.cons_ne_nil _ _) ⟨?_, trivial⟩
                · show T _ _ _ _ _ _ _ _
                  refine t_v (.ldn (vs := [.int .i64 x453, .int .i64 x454, .int .i64 x455, .int .i64 x456, .int .i64 x457, .int .i64 x458, .int .i64 x459, .int .i64 x460, .int .i64 x461, .int .i64 x462, .slice na473 x463.length nc474]) rfl rfl rfl (rd_n lR469 (sub_app (seg_in 3 (X := (Q401F ++ (Q452F ++ []))) rfl seg_hd) sub_nil) (subl_sub lv470 (by kernel_rfl)))) ?_
                  exact t_fin [2, 3, 9, 10, 11, 50, 51, 52, 57] (hg_7fff Q452a0 Q452c0 Q452F Q452h0) (by kernel_rfl)
              have hg_7e7f : G [true, true, true, true, true, true, true, false, false, true, true, true, true, true, true, false, false, false] [(2, .int .i64 (wr64 (1 + t410))), (3, .int .i64 (Int.tmod v3 1048576)), (9, .bool true), (10, .pointer (some ⟨b402, 0, none⟩)), (11, .int .i64 x415), (43, .agg #[.int .i64 t393, .int .i64 t394, .int .i64 t395, .slice (ad N400) t397.length (nN400 / 4), .slice Q401a0 t396.length Q401c0]), (44, .int .i64 (wr64 (1 + t410))), (49, .agg #[.int .i64 x417, .int .i64 x418, .int .i64 x419, .int .i64 x420, .int .i64 x421, .int .i64 x422, .int .i64 x423, .int .i64 x424, .int .i64 x425, .int .i64 x426, .slice na437 x427.length nc438]), (52, .int .i64 (wr64 (1 + t410))), (57, .agg #[.int .i64 x453, .int .i64 x454, .int .i64 x455, .int .i64 x456, .int .i64 x457, .int .i64 x458, .int .i64 x459, .int .i64 x460, .int .i64 x461, .int .i64 x462, .slice na473 x463.length nc474])] (([⟨b402, [.int .i64 t393, .int .i64 t394, .int .i64 t395, .slice (ad N400) t397.length (nN400 / 4), .slice Q401a0 t396.length Q401c0], 5⟩, ⟨N400, encL E_u84 t397, nN400⟩, ⟨b14, [.slice a_l0 l0.length c_l0, .int .i64 t398], 2⟩] : List Own) ++ (Q401F ++ [])) := by
                refine hstep [7, 8] _ _ _ (by kernel_rfl) (List.cons_ne_nil _ _) ⟨?_, ?_, trivial⟩
                · show T _ _ _ _ _ _ _ _
                  refine t_call (vs := [.agg #[.int .i64 t393, .int .i64 t394, .int .i64 t395, .slice (ad N400) t397.length (nN400 / 4), .slice Q401a0 t396.length Q401c0], .int .i64 (wr64 (1 + t410)), .agg #[.int .i64 x417, .int .i64 x418, .int .i64 x419, .int .i64 x420, .int .i64 x421, .int .i64 x422, .int .i64 x423, .int .i64 x424, .int .i64 x425, .int .i64 x426, .slice na437 x427.length nc438]]) (H1 := ((Q401F ++ []) ++ [])) (F := ([⟨b402, [.int .i64 t393, .int .i64 t394, .int .i64 t395, .slice (ad N400) t397.length (nN400 / 4), .slice Q401a0 t396.length Q401c0], 5⟩, ⟨N400, encL E_u84 t397, nN400⟩, ⟨b14, [.slice a_l0 l0.length c_l0, .int .i64 t398], 2⟩] : List Own)) rfl rfl (by kernel_rfl) (tree_perm (.a (.l ([⟨b402, [.int .i64 t393, .int .i64 t394, .int .i64 t395, .slice (ad N400) t397.length (nN400 / 4), .slice Q401a0 t396.length Q401c0], 5⟩, ⟨N400, encL E_u84 t397, nN400⟩, ⟨b14, [.slice a_l0 l0.length c_l0, .int .i64 t398], 2⟩] : List Own)) (.a (.f Q401F) (.l []))) (.a (.a (.f Q401F) (.l [])) (.l ([] : List Own))) (.l ([⟨b402, [.int .i64 t393, .int .i64 t394, .int .i64 t395, .slice (ad N400) t397.length (nN400 / 4), .slice Q401a0 t396.length Q401c0], 5⟩, ⟨N400, encL E_u84 t397, nN400⟩, ⟨b14, [.slice a_l0 l0.length c_l0, .int .i64 t398], 2⟩] : List Own)) [3] (by kernel_rfl)) (cal_lendF (Qc := fun v_ H_ => ∃ (Q452a0 : Option Addr) (Q452c0 : Nat) (Q452F : List Own), v_ = (.agg #[.int .i64 t440, .int .i64 t441, .int .i64 t442, .int .i64 t443, .int .i64 t444, .int .i64 t445, .int .i64 t446, .int .i64 t447, .int .i64 t448, .int .i64 t449, .slice Q452a0 t450.length Q452c0]) ∧ H_ = (Q452F ++ []) ∧ SlN (rdOf (Q401F ++ (Q452F ++ [])) S) N_0 t450 Q452a0) (Q401F ++ []) fun S1_ le1_ hp1_ hs1_ hn1_ ex1_ => (scale_Cmd_v1.ok (EO.mono hE_ le1_ hp1_) (SlN.mono nh439 (rd_lend hs1_ le1_ (sub_app (seg_in 0 (X := (Q401F ++ [])) rfl seg_hd) sub_nil))) h451).mono fun _ _ _ ⟨Q452a0, Q452c0, Q452F, h1_, h2_, h3_, Q452h0⟩ => ⟨⟨Q452a0, Q452c0, Q452F, h1_, h2_, SlN.mono Q452h0 (rd_back ex1_ (sub_app (seg_in 0 (X := (Q401F ++ (Q452F ++ []))) rfl (seg_tl seg_hd)) sub_nil) (sub_app (seg_in 0 (X := (Q401F ++ (Q452F ++ []))) rfl seg_hd) sub_nil))⟩, h3_⟩) ?_
                  rintro _ _ S_ ⟨⟨_, rfl, Q452a0, Q452c0, Q452F, rfl, rfl, Q452h0⟩, hS_⟩
                  obtain rfl := hS_.symm
                  refine t_vs (H' := (([⟨b402, [.int .i64 t393, .int .i64 t394, .int .i64 t395, .slice (ad N400) t397.length (nN400 / 4), .slice Q401a0 t396.length Q401c0], 5⟩, ⟨N400, encL E_u84 t397, nN400⟩, ⟨b14, [.slice a_l0 l0.length c_l0, .int .i64 t398], 2⟩] : List Own) ++ (Q401F ++ (Q452F ++ [])))) (S' := S) (VS.treeA (.a (.a (.a (.f Q401F) (.l [])) (.a (.f Q452F) (.l []))) (.l ([⟨b402, [.int .i64 t393, .int .i64 t394, .int .i64 t395, .slice (ad N400) t397.length (nN400 / 4), .slice Q401a0 t396.length Q401c0], 5⟩, ⟨N400, encL E_u84 t397, nN400⟩, ⟨b14, [.slice a_l0 l0.length c_l0, .int .i64 t398], 2⟩] : List Own))) (.a (.l ([⟨b402, [.int .i64 t393, .int .i64 t394, .int .i64 t395, .slice (ad N400) t397.length (nN400 / 4), .slice Q401a0 t396.length Q401c0], 5⟩, ⟨N400, encL E_u84 t397, nN400⟩, ⟨b14, [.slice a_l0 l0.length c_l0, .int .i64 t398], 2⟩] : List Own)) (.a (.f Q401F) (.a (.f Q452F) (.l [])))) [2, 2, 2, 0, 0] (by kernel_rfl)) ?_
                  exact t_fin [2, 3, 9, 10, 11, 50, 52, 57] (hg_7eff Q452a0 Q452c0 Q452F Q452h0) (by kernel_rfl)
                · show T _ _ _ _ _ _ _ _
                  refine t_v (.ldn rfl rfl rfl (.at 0 rfl rfl)) ?_
                  exact t_fin [2, 3, 9, 10, 11, 43, 44, 49, 51, 52, 57] hg_7f7f (by kernel_rfl)
              have hg_1fff : ∀ (Q452a0 : Option Addr) (Q452c0 : Nat) (Q452F : List Own) (Q452h0 : SlN (rdOf (Q401F ++ (Q452F ++ [])) S) N_0 t450 Q452a0), G [true, true, true, true, true, true, true, true, true, true, true, true, true, false, false, false, false, false] [(2, .int .i64 (wr64 (1 + t410))), (3, .int .i64 (Int.tmod v3 1048576)), (9, .bool true), (10, .pointer (some ⟨b402, 0, none⟩)), (11, .int .i64 x415), (50, .agg #[.int .i64 t440, .int .i64 t441, .int .i64 t442, .int .i64 t443, .int .i64 t444, .int .i64 t445, .int .i64 t446, .int .i64 t447, .int .i64 t448, .int .i64 t449, .slice Q452a0 t450.length Q452c0]), (51, .agg #[.int .i64 t393, .int .i64 t394, .int .i64 t395, .slice (ad N400) t397.length (nN400 / 4), .slice Q401a0 t396.length Q401c0]), (52, .int .i64 (wr64 (1 + t410))), (54, .slice Q401a0 t396.length Q401c0), (55, .int .i64 x415)] (([⟨b402, [.int .i64 t393, .int .i64 t394, .int .i64 t395, .slice (ad N400) t397.length (nN400 / 4), .slice Q401a0 t396.length Q401c0], 5⟩, ⟨N400, encL E_u84 t397, nN400⟩, ⟨b14, [.slice a_l0 l0.length c_l0, .int .i64 t398], 2⟩] : List Own) ++ (Q401F ++ (Q452F ++ []))) := by
                intro Q452a0 Q452c0 Q452F Q452h0
                refine hstep [13] _ _ _ (by kernel_rfl) (List.cons_ne_nil _ _) ⟨?_, trivial⟩
                · show T _ _ _ _ _ _ _ _
                  refine t_v (.quiet rfl (ixs_sle rfl rfl la468 lz471 lu472)) ?_
                  exact t_fin [2, 3, 9, 10, 11, 50, 51, 52, 56] (hg_3fff Q452a0 Q452c0 Q452F Q452h0) (by kernel_rfl)
              have hg_3eff : ∀ (Q452a0 : Option Addr) (Q452c0 : Nat) (Q452F : List Own) (Q452h0 : SlN (rdOf (Q401F ++ (Q452F ++ [])) S) N_0 t450 Q452a0), G [true, true, true, true, true, true, true, true, false, true, true, true, true, true, false, false, false, false] [(2, .int .i64 (wr64 (1 + t410))), (3, .int .i64 (Int.tmod v3 1048576)), (9, .bool true), (10, .pointer (some ⟨b402, 0, none⟩)), (11, .int .i64 x415), (50, .agg #[.int .i64 t440, .int .i64 t441, .int .i64 t442, .int .i64 t443, .int .i64 t444, .int .i64 t445, .int .i64 t446, .int .i64 t447, .int .i64 t448, .int .i64 t449, .slice Q452a0 t450.length Q452c0]), (52, .int .i64 (wr64 (1 + t410))), (56, .pointer (some ⟨lb465, lo466 + (x415).toNat * 11 + 0, none⟩))] (([⟨b402, [.int .i64 t393, .int .i64 t394, .int .i64 t395, .slice (ad N400) t397.length (nN400 / 4), .slice Q401a0 t396.length Q401c0], 5⟩, ⟨N400, encL E_u84 t397, nN400⟩, ⟨b14, [.slice a_l0 l0.length c_l0, .int .i64 t398], 2⟩] : List Own) ++ (Q401F ++ (Q452F ++ []))) := by
                intro Q452a0 Q452c0 Q452F Q452h0
                refine hstep [8, 14] _ _ _ (by kernel_rfl) (List.cons_ne_nil _ _) ⟨?_, ?_, trivial⟩
                · show T _ _ _ _ _ _ _ _
                  refine t_v (.ldn rfl rfl rfl (.at 0 rfl rfl)) ?_
                  exact t_fin [2, 3, 9, 10, 11, 50, 51, 52, 56] (hg_3fff Q452a0 Q452c0 Q452F Q452h0) (by kernel_rfl)
                · show T _ _ _ _ _ _ _ _
                  refine t_v (.ldn (vs := [.int .i64 x453, .int .i64 x454, .int .i64 x455, .int .i64 x456, .int .i64 x457, .int .i64 x458, .int .i64 x459, .int .i64 x460, .int .i64 x461, .int .i64 x462, .slice na473 x463.length nc474]) rfl rfl rfl (rd_n lR469 (sub_app (seg_in 3 (X := (Q401F ++ (Q452F ++ []))) rfl seg_hd) sub_nil) (subl_sub lv470 (by kernel_rfl)))) ?_
                  exact t_fin [2, 3, 9, 10, 11, 50, 52, 57] (hg_7eff Q452a0 Q452c0 Q452F Q452h0) (by kernel_rfl)
              have hg_7f3f : G [true, true, true, true, true, true, false, false, true, true, true, true, true, true, true, false, false, false] [(2, .int .i64 (wr64 (1 + t410))), (3, .int .i64 (Int.tmod v3 1048576)), (9, .bool true), (10, .pointer (some ⟨b402, 0, none⟩)), (11, .int .i64 x415), (43, .agg #[.int .i64 t393, .int .i64 t394, .int .i64 t395, .slice (ad N400) t397.length (nN400 / 4), .slice Q401a0 t396.length Q401c0]), (44, .int .i64 (wr64 (1 + t410))), (48, .pointer (some ⟨lb429, lo430 + (x415).toNat * 11 + 0, none⟩)), (51, .agg #[.int .i64 t393, .int .i64 t394, .int .i64 t395, .slice (ad N400) t397.length (nN400 / 4), .slice Q401a0 t396.length Q401c0]), (52, .int .i64 (wr64 (1 + t410))), (57, .agg #[.int .i64 x453, .int .i64 x454, .int .i64 x455, .int .i64 x456, .int .i64 x457, .int .i64 x458, .int .i64 x459, .int .i64 x460, .int .i64 x461, .int .i64 x462, .slice na473 x463.length nc474])] (([⟨b402, [.int .i64 t393, .int .i64 t394, .int .i64 t395, .slice (ad N400) t397.length (nN400 / 4), .slice Q401a0 t396.length Q401c0], 5⟩, ⟨N400, encL E_u84 t397, nN400⟩, ⟨b14, [.slice a_l0 l0.length c_l0, .int .i64 t398], 2⟩] : List Own) ++ (Q401F ++ [])) := by
                refine hstep [6] _ _ _ (by kernel_rfl) (List.cons_ne_nil _ _) ⟨?_, trivial⟩
                · show T _ _ _ _ _ _ _ _
                  refine t_v (.ldn (vs := [.int .i64 x417, .int .i64 x418, .int .i64 x419, .int .i64 x420, .int .i64 x421, .int .i64 x422, .int .i64 x423, .int .i64 x424, .int .i64 x425, .int .i64 x426, .slice na437 x427.length nc438]) rfl rfl rfl (rd_n lR433 (sub_app (seg_in 3 (X := (Q401F ++ [])) rfl seg_hd) sub_nil) (subl_sub lv434 (by kernel_rfl)))) ?_
                  exact t_fin [2, 3, 9, 10, 11, 43, 44, 49, 51, 52, 57] hg_7f7f (by kernel_rfl)
              have hg_3f7f : G [true, true, true, true, true, true, true, false, true, true, true, true, true, true, false, false, false, false] [(2, .int .i64 (wr64 (1 + t410))), (3, .int .i64 (Int.tmod v3 1048576)), (9, .bool true), (10, .pointer (some ⟨b402, 0, none⟩)), (11, .int .i64 x415), (43, .agg #[.int .i64 t393, .int .i64 t394, .int .i64 t395, .slice (ad N400) t397.length (nN400 / 4), .slice Q401a0 t396.length Q401c0]), (44, .int .i64 (wr64 (1 + t410))), (49, .agg #[.int .i64 x417, .int .i64 x418, .int .i64 x419, .int .i64 x420, .int .i64 x421, .int .i64 x422, .int .i64 x423, .int .i64 x424, .int .i64 x425, .int .i64 x426, .slice na437 x427.length nc438]), (51, .agg #[.int .i64 t393, .int .i64 t394, .int .i64 t395, .slice (ad N400) t397.length (nN400 / 4), .slice Q401a0 t396.length Q401c0]), (52, .int .i64 (wr64 (1 + t410))), (56, .pointer (some ⟨lb465, lo466 + (x415).toNat * 11 + 0, none⟩))] (([⟨b402, [.int .i64 t393, .int .i64 t394, .int .i64 t395, .slice (ad N400) t397.length (nN400 / 4), .slice Q401a0 t396.length Q401c0], 5⟩, ⟨N400, encL E_u84 t397, nN400⟩, ⟨b14, [.slice a_l0 l0.length c_l0, .int .i64 t398], 2⟩] : List Own) ++ (Q401F ++ [])) := by
                refine hstep [7, 14] _ _ _ (by kernel_rfl) (List.cons_ne_nil _ _) ⟨?_, ?_, trivial⟩
                · show T _ _ _ _ _ _ _ _
                  refine t_call (vs := [.agg #[.int .i64 t393, .int .i64 t394, .int .i64 t395, .slice (ad N400) t397.length (nN400 / 4), .slice Q401a0 t396.length Q401c0], .int .i64 (wr64 (1 + t410)), .agg #[.int .i64 x417, .int .i64 x418, .int .i64 x419, .int .i64 x420, .int .i64 x421, .int .i64 x422, .int .i64 x423, .int .i64 x424, .int .i64 x425, .int .i64 x426, .slice na437 x427.length nc438]]) (H1 := ((Q401F ++ []) ++ [])) (F := ([⟨b402, [.int .i64 t393, .int .i64 t394, .int .i64 t395, .slice (ad N400) t397.length (nN400 / 4), .slice Q401a0 t396.length Q401c0], 5⟩, ⟨N400, encL E_u84 t397, nN400⟩, ⟨b14, [.slice a_l0 l0.length c_l0, .int .i64 t398], 2⟩] : List Own)) rfl rfl (by kernel_rfl) (tree_perm (.a (.l ([⟨b402, [.int .i64 t393, .int .i64 t394, .int .i64 t395, .slice (ad N400) t397.length (nN400 / 4), .slice Q401a0 t396.length Q401c0], 5⟩, ⟨N400, encL E_u84 t397, nN400⟩, ⟨b14, [.slice a_l0 l0.length c_l0, .int .i64 t398], 2⟩] : List Own)) (.a (.f Q401F) (.l []))) (.a (.a (.f Q401F) (.l [])) (.l ([] : List Own))) (.l ([⟨b402, [.int .i64 t393, .int .i64 t394, .int .i64 t395, .slice (ad N400) t397.length (nN400 / 4), .slice Q401a0 t396.length Q401c0], 5⟩, ⟨N400, encL E_u84 t397, nN400⟩, ⟨b14, [.slice a_l0 l0.length c_l0, .int .i64 t398], 2⟩] : List Own)) [3] (by kernel_rfl)) (cal_lendF (Qc := fun v_ H_ => ∃ (Q452a0 : Option Addr) (Q452c0 : Nat) (Q452F : List Own), v_ = (.agg #[.int .i64 t440, .int .i64 t441, .int .i64 t442, .int .i64 t443, .int .i64 t444, .int .i64 t445, .int .i64 t446, .int .i64 t447, .int .i64 t448, .int .i64 t449, .slice Q452a0 t450.length Q452c0]) ∧ H_ = (Q452F ++ []) ∧ SlN (rdOf (Q401F ++ (Q452F ++ [])) S) N_0 t450 Q452a0) (Q401F ++ []) fun S1_ le1_ hp1_ hs1_ hn1_ ex1_ => (scale_Cmd_v1.ok (EO.mono hE_ le1_ hp1_) (SlN.mono nh439 (rd_lend hs1_ le1_ (sub_app (seg_in 0 (X := (Q401F ++ [])) rfl seg_hd) sub_nil))) h451).mono fun _ _ _ ⟨Q452a0, Q452c0, Q452F, h1_, h2_, h3_, Q452h0⟩ => ⟨⟨Q452a0, Q452c0, Q452F, h1_, h2_, SlN.mono Q452h0 (rd_back ex1_ (sub_app (seg_in 0 (X := (Q401F ++ (Q452F ++ []))) rfl (seg_tl seg_hd)) sub_nil) (sub_app (seg_in 0 (X := (Q401F ++ (Q452F ++ []))) rfl seg_hd) sub_nil))⟩, h3_⟩) ?_
                  rintro _ _ S_ ⟨⟨_, rfl, Q452a0, Q452c0, Q452F, rfl, rfl, Q452h0⟩, hS_⟩
                  obtain rfl := hS_.symm
                  refine t_vs (H' := (([⟨b402, [.int .i64 t393, .int .i64 t394, .int .i64 t395, .slice (ad N400) t397.length (nN400 / 4), .slice Q401a0 t396.length Q401c0], 5⟩, ⟨N400, encL E_u84 t397, nN400⟩, ⟨b14, [.slice a_l0 l0.length c_l0, .int .i64 t398], 2⟩] : List Own) ++ (Q401F ++ (Q452F ++ [])))) (S' := S) (VS.treeA (.a (.a (.a (.f Q401F) (.l [])) (.a (.f Q452F) (.l []))) (.l ([⟨b402, [.int .i64 t393, .int .i64 t394, .int .i64 t395, .slice (ad N400) t397.length (nN400 / 4), .slice Q401a0 t396.length Q401c0], 5⟩, ⟨N400, encL E_u84 t397, nN400⟩, ⟨b14, [.slice a_l0 l0.length c_l0, .int .i64 t398], 2⟩] : List Own))) (.a (.l ([⟨b402, [.int .i64 t393, .int .i64 t394, .int .i64 t395, .slice (ad N400) t397.length (nN400 / 4), .slice Q401a0 t396.length Q401c0], 5⟩, ⟨N400, encL E_u84 t397, nN400⟩, ⟨b14, [.slice a_l0 l0.length c_l0, .int .i64 t398], 2⟩] : List Own)) (.a (.f Q401F) (.a (.f Q452F) (.l [])))) [2, 2, 2, 0, 0] (by kernel_rfl)) ?_
                  exact t_fin [2, 3, 9, 10, 11, 50, 51, 52, 56] (hg_3fff Q452a0 Q452c0 Q452F Q452h0) (by kernel_rfl)
                · show T _ _ _ _ _ _ _ _
                  refine t_v (.ldn (vs := [.int .i64 x453, .int .i64 x454, .int .i64 x455, .int .i64 x456, .int .i64 x457, .int .i64 x458, .int .i64 x459, .int .i64 x460, .int .i64 x461, .int .i64 x462, .slice na473 x463.length nc474]) rfl rfl rfl (rd_n lR469 (sub_app (seg_in 3 (X := (Q401F ++ [])) rfl seg_hd) sub_nil) (subl_sub lv470 (by kernel_rfl)))) ?_
                  exact t_fin [2, 3, 9, 10, 11, 43, 44, 49, 51, 52, 57] hg_7f7f (by kernel_rfl)
              have hg_7f7e : G [false, true, true, true, true, true, true, false, true, true, true, true, true, true, true, false, false, false] [(2, .int .i64 (wr64 (1 + t410))), (3, .int .i64 (Int.tmod v3 1048576)), (9, .bool true), (10, .pointer (some ⟨b402, 0, none⟩)), (11, .int .i64 x415), (44, .int .i64 (wr64 (1 + t410))), (49, .agg #[.int .i64 x417, .int .i64 x418, .int .i64 x419, .int .i64 x420, .int .i64 x421, .int .i64 x422, .int .i64 x423, .int .i64 x424, .int .i64 x425, .int .i64 x426, .slice na437 x427.length nc438]), (51, .agg #[.int .i64 t393, .int .i64 t394, .int .i64 t395, .slice (ad N400) t397.length (nN400 / 4), .slice Q401a0 t396.length Q401c0]), (52, .int .i64 (wr64 (1 + t410))), (57, .agg #[.int .i64 x453, .int .i64 x454, .int .i64 x455, .int .i64 x456, .int .i64 x457, .int .i64 x458, .int .i64 x459, .int .i64 x460, .int .i64 x461, .int .i64 x462, .slice na473 x463.length nc474])] (([⟨b402, [.int .i64 t393, .int .i64 t394, .int .i64 t395, .slice (ad N400) t397.length (nN400 / 4), .slice Q401a0 t396.length Q401c0], 5⟩, ⟨N400, encL E_u84 t397, nN400⟩, ⟨b14, [.slice a_l0 l0.length c_l0, .int .i64 t398], 2⟩] : List Own) ++ (Q401F ++ [])) := by
                refine hstep [0] _ _ _ (by kernel_rfl) (List.cons_ne_nil _ _) ⟨?_, trivial⟩
                · show T _ _ _ _ _ _ _ _
                  refine t_v (.ldn rfl rfl rfl (.at 0 rfl rfl)) ?_
                  exact t_fin [2, 3, 9, 10, 11, 43, 44, 49, 51, 52, 57] hg_7f7f (by kernel_rfl)
              have hg_7e3f : G [true, true, true, true, true, true, false, false, false, true, true, true, true, true, true, false, false, false] [(2, .int .i64 (wr64 (1 + t410))), (3, .int .i64 (Int.tmod v3 1048576)), (9, .bool true), (10, .pointer (some ⟨b402, 0, none⟩)), (11, .int .i64 x415), (43, .agg #[.int .i64 t393, .int .i64 t394, .int .i64 t395, .slice (ad N400) t397.length (nN400 / 4), .slice Q401a0 t396.length Q401c0]), (44, .int .i64 (wr64 (1 + t410))), (48, .pointer (some ⟨lb429, lo430 + (x415).toNat * 11 + 0, none⟩)), (52, .int .i64 (wr64 (1 + t410))), (57, .agg #[.int .i64 x453, .int .i64 x454, .int .i64 x455, .int .i64 x456, .int .i64 x457, .int .i64 x458, .int .i64 x459, .int .i64 x460, .int .i64 x461, .int .i64 x462, .slice na473 x463.length nc474])] (([⟨b402, [.int .i64 t393, .int .i64 t394, .int .i64 t395, .slice (ad N400) t397.length (nN400 / 4), .slice Q401a0 t396.length Q401c0], 5⟩, ⟨N400, encL E_u84 t397, nN400⟩, ⟨b14, [.slice a_l0 l0.length c_l0, .int .i64 t398], 2⟩] : List Own) ++ (Q401F ++ [])) := by
                refine hstep [6, 8] _ _ _ (by kernel_rfl) (List.cons_ne_nil _ _) ⟨?_, ?_, trivial⟩
                · show T _ _ _ _ _ _ _ _
                  refine t_v (.ldn (vs := [.int .i64 x417, .int .i64 x418, .int .i64 x419, .int .i64 x420, .int .i64 x421, .int .i64 x422, .int .i64 x423, .int .i64 x424, .int .i64 x425, .int .i64 x426, .slice na437 x427.length nc438]) rfl rfl rfl (rd_n lR433 (sub_app (seg_in 3 (X := (Q401F ++ [])) rfl seg_hd) sub_nil) (subl_sub lv434 (by kernel_rfl)))) ?_
                  exact t_fin [2, 3, 9, 10, 11, 43, 44, 49, 52, 57] hg_7e7f (by kernel_rfl)
                · show T _ _ _ _ _ _ _ _
                  refine t_v (.ldn rfl rfl rfl (.at 0 rfl rfl)) ?_
                  exact t_fin [2, 3, 9, 10, 11, 43, 44, 48, 51, 52, 57] hg_7f3f (by kernel_rfl)
              have hg_7e7e : G [false, true, true, true, true, true, true, false, false, true, true, true, true, true, true, false, false, false] [(2, .int .i64 (wr64 (1 + t410))), (3, .int .i64 (Int.tmod v3 1048576)), (9, .bool true), (10, .pointer (some ⟨b402, 0, none⟩)), (11, .int .i64 x415), (44, .int .i64 (wr64 (1 + t410))), (49, .agg #[.int .i64 x417, .int .i64 x418, .int .i64 x419, .int .i64 x420, .int .i64 x421, .int .i64 x422, .int .i64 x423, .int .i64 x424, .int .i64 x425, .int .i64 x426, .slice na437 x427.length nc438]), (52, .int .i64 (wr64 (1 + t410))), (57, .agg #[.int .i64 x453, .int .i64 x454, .int .i64 x455, .int .i64 x456, .int .i64 x457, .int .i64 x458, .int .i64 x459, .int .i64 x460, .int .i64 x461, .int .i64 x462, .slice na473 x463.length nc474])] (([⟨b402, [.int .i64 t393, .int .i64 t394, .int .i64 t395, .slice (ad N400) t397.length (nN400 / 4), .slice Q401a0 t396.length Q401c0], 5⟩, ⟨N400, encL E_u84 t397, nN400⟩, ⟨b14, [.slice a_l0 l0.length c_l0, .int .i64 t398], 2⟩] : List Own) ++ (Q401F ++ [])) := by
                refine hstep [0, 8] _ _ _ (by kernel_rfl) (List.cons_ne_nil _ _) ⟨?_, ?_, trivial⟩
                · show T _ _ _ _ _ _ _ _
                  refine t_v (.ldn rfl rfl rfl (.at 0 rfl rfl)) ?_
                  exact t_fin [2, 3, 9, 10, 11, 43, 44, 49, 52, 57] hg_7e7f (by kernel_rfl)
                · show T _ _ _ _ _ _ _ _
                  refine t_v (.ldn rfl rfl rfl (.at 0 rfl rfl)) ?_
                  exact t_fin [2, 3, 9, 10, 11, 44, 49, 51, 52, 57] hg_7f7e (by kernel_rfl)
              have hg_3e7f : G [true, true, true, true, true, true, true, false, false, true, true, true, true, true, false, false, false, false] [(2, .int .i64 (wr64 (1 + t410))), (3, .int .i64 (Int.tmod v3 1048576)), (9, .bool true), (10, .pointer (some ⟨b402, 0, none⟩)), (11, .int .i64 x415), (43, .agg #[.int .i64 t393, .int .i64 t394, .int .i64 t395, .slice (ad N400) t397.length (nN400 / 4), .slice Q401a0 t396.length Q401c0]), (44, .int .i64 (wr64 (1 + t410))), (49, .agg #[.int .i64 x417, .int .i64 x418, .int .i64 x419, .int .i64 x420, .int .i64 x421, .int .i64 x422, .int .i64 x423, .int .i64 x424, .int .i64 x425, .int .i64 x426, .slice na437 x427.length nc438]), (52, .int .i64 (wr64 (1 + t410))), (56, .pointer (some ⟨lb465, lo466 + (x415).toNat * 11 + 0, none⟩))] (([⟨b402, [.int .i64 t393, .int .i64 t394, .int .i64 t395, .slice (ad N400) t397.length (nN400 / 4), .slice Q401a0 t396.length Q401c0], 5⟩, ⟨N400, encL E_u84 t397, nN400⟩, ⟨b14, [.slice a_l0 l0.length c_l0, .int .i64 t398], 2⟩] : List Own) ++ (Q401F ++ [])) := by
                refine hstep [7, 8, 14] _ _ _ (by kernel_rfl) (List.cons_ne_nil _ _) ⟨?_, ?_, ?_, trivial⟩
                · show T _ _ _ _ _ _ _ _
                  refine t_call (vs := [.agg #[.int .i64 t393, .int .i64 t394, .int .i64 t395, .slice (ad N400) t397.length (nN400 / 4), .slice Q401a0 t396.length Q401c0], .int .i64 (wr64 (1 + t410)), .agg #[.int .i64 x417, .int .i64 x418, .int .i64 x419, .int .i64 x420, .int .i64 x421, .int .i64 x422, .int .i64 x423, .int .i64 x424, .int .i64 x425, .int .i64 x426, .slice na437 x427.length nc438]]) (H1 := ((Q401F ++ []) ++ [])) (F := ([⟨b402, [.int .i64 t393, .int .i64 t394, .int .i64 t395, .slice (ad N400) t397.length (nN400 / 4), .slice Q401a0 t396.length Q401c0], 5⟩, ⟨N400, encL E_u84 t397, nN400⟩, ⟨b14, [.slice a_l0 l0.length c_l0, .int .i64 t398], 2⟩] : List Own)) rfl rfl (by kernel_rfl) (tree_perm (.a (.l ([⟨b402, [.int .i64 t393, .int .i64 t394, .int .i64 t395, .slice (ad N400) t397.length (nN400 / 4), .slice Q401a0 t396.length Q401c0], 5⟩, ⟨N400, encL E_u84 t397, nN400⟩, ⟨b14, [.slice a_l0 l0.length c_l0, .int .i64 t398], 2⟩] : List Own)) (.a (.f Q401F) (.l []))) (.a (.a (.f Q401F) (.l [])) (.l ([] : List Own))) (.l ([⟨b402, [.int .i64 t393, .int .i64 t394, .int .i64 t395, .slice (ad N400) t397.length (nN400 / 4), .slice Q401a0 t396.length Q401c0], 5⟩, ⟨N400, encL E_u84 t397, nN400⟩, ⟨b14, [.slice a_l0 l0.length c_l0, .int .i64 t398], 2⟩] : List Own)) [3] (by kernel_rfl)) (cal_lendF (Qc := fun v_ H_ => ∃ (Q452a0 : Option Addr) (Q452c0 : Nat) (Q452F : List Own), v_ = (.agg #[.int .i64 t440, .int .i64 t441, .int .i64 t442, .int .i64 t443, .int .i64 t444, .int .i64 t445, .int .i64 t446, .int .i64 t447, .int .i64 t448, .int .i64 t449, .slice Q452a0 t450.length Q452c0]) ∧ H_ = (Q452F ++ []) ∧ SlN (rdOf (Q401F ++ (Q452F ++ [])) S) N_0 t450 Q452a0) (Q401F ++ []) fun S1_ le1_ hp1_ hs1_ hn1_ ex1_ => (scale_Cmd_v1.ok (EO.mono hE_ le1_ hp1_) (SlN.mono nh439 (rd_lend hs1_ le1_ (sub_app (seg_in 0 (X := (Q401F ++ [])) rfl seg_hd) sub_nil))) h451).mono fun _ _ _ ⟨Q452a0, Q452c0, Q452F, h1_, h2_, h3_, Q452h0⟩ => ⟨⟨Q452a0, Q452c0, Q452F, h1_, h2_, SlN.mono Q452h0 (rd_back ex1_ (sub_app (seg_in 0 (X := (Q401F ++ (Q452F ++ []))) rfl (seg_tl seg_hd)) sub_nil) (sub_app (seg_in 0 (X := (Q401F ++ (Q452F ++ []))) rfl seg_hd) sub_nil))⟩, h3_⟩) ?_
                  rintro _ _ S_ ⟨⟨_, rfl, Q452a0, Q452c0, Q452F, rfl, rfl, Q452h0⟩, hS_⟩
                  obtain rfl := hS_.symm
                  refine t_vs (H' := (([⟨b402, [.int .i64 t393, .int .i64 t394, .int .i64 t395, .slice (ad N400) t397.length (nN400 / 4), .slice Q401a0 t396.length Q401c0], 5⟩, ⟨N400, encL E_u84 t397, nN400⟩, ⟨b14, [.slice a_l0 l0.length c_l0, .int .i64 t398], 2⟩] : List Own) ++ (Q401F ++ (Q452F ++ [])))) (S' := S) (VS.treeA (.a (.a (.a (.f Q401F) (.l [])) (.a (.f Q452F) (.l []))) (.l ([⟨b402, [.int .i64 t393, .int .i64 t394, .int .i64 t395, .slice (ad N400) t397.length (nN400 / 4), .slice Q401a0 t396.length Q401c0], 5⟩, ⟨N400, encL E_u84 t397, nN400⟩, ⟨b14, [.slice a_l0 l0.length c_l0, .int .i64 t398], 2⟩] : List Own))) (.a (.l ([⟨b402, [.int .i64 t393, .int .i64 t394, .int .i64 t395, .slice (ad N400) t397.length (nN400 / 4), .slice Q401a0 t396.length Q401c0], 5⟩, ⟨N400, encL E_u84 t397, nN400⟩, ⟨b14, [.slice a_l0 l0.length c_l0, .int .i64 t398], 2⟩] : List Own)) (.a (.f Q401F) (.a (.f Q452F) (.l [])))) [2, 2, 2, 0, 0] (by kernel_rfl)) ?_
                  exact t_fin [2, 3, 9, 10, 11, 50, 52, 56] (hg_3eff Q452a0 Q452c0 Q452F Q452h0) (by kernel_rfl)
                · show T _ _ _ _ _ _ _ _
                  refine t_v (.ldn rfl rfl rfl (.at 0 rfl rfl)) ?_
                  exact t_fin [2, 3, 9, 10, 11, 43, 44, 49, 51, 52, 56] hg_3f7f (by kernel_rfl)
                · show T _ _ _ _ _ _ _ _
                  refine t_v (.ldn (vs := [.int .i64 x453, .int .i64 x454, .int .i64 x455, .int .i64 x456, .int .i64 x457, .int .i64 x458, .int .i64 x459, .int .i64 x460, .int .i64 x461, .int .i64 x462, .slice na473 x463.length nc474]) rfl rfl rfl (rd_n lR469 (sub_app (seg_in 3 (X := (Q401F ++ [])) rfl seg_hd) sub_nil) (subl_sub lv470 (by kernel_rfl)))) ?_
                  exact t_fin [2, 3, 9, 10, 11, 43, 44, 49, 52, 57] hg_7e7f (by kernel_rfl)
              have hg_17ff : ∀ (Q452a0 : Option Addr) (Q452c0 : Nat) (Q452F : List Own) (Q452h0 : SlN (rdOf (Q401F ++ (Q452F ++ [])) S) N_0 t450 Q452a0), G [true, true, true, true, true, true, true, true, true, true, true, false, true, false, false, false, false, false] [(2, .int .i64 (wr64 (1 + t410))), (3, .int .i64 (Int.tmod v3 1048576)), (9, .bool true), (10, .pointer (some ⟨b402, 0, none⟩)), (11, .int .i64 x415), (50, .agg #[.int .i64 t440, .int .i64 t441, .int .i64 t442, .int .i64 t443, .int .i64 t444, .int .i64 t445, .int .i64 t446, .int .i64 t447, .int .i64 t448, .int .i64 t449, .slice Q452a0 t450.length Q452c0]), (51, .agg #[.int .i64 t393, .int .i64 t394, .int .i64 t395, .slice (ad N400) t397.length (nN400 / 4), .slice Q401a0 t396.length Q401c0]), (52, .int .i64 (wr64 (1 + t410))), (53, .pointer (some ⟨b402, 4, none⟩)), (55, .int .i64 x415)] (([⟨b402, [.int .i64 t393, .int .i64 t394, .int .i64 t395, .slice (ad N400) t397.length (nN400 / 4), .slice Q401a0 t396.length Q401c0], 5⟩, ⟨N400, encL E_u84 t397, nN400⟩, ⟨b14, [.slice a_l0 l0.length c_l0, .int .i64 t398], 2⟩] : List Own) ++ (Q401F ++ (Q452F ++ []))) := by
                intro Q452a0 Q452c0 Q452F Q452h0
                refine hstep [11] _ _ _ (by kernel_rfl) (List.cons_ne_nil _ _) ⟨?_, trivial⟩
                · show T _ _ _ _ _ _ _ _
                  refine t_v (.ld1 rfl rfl rfl (.at 0 rfl rfl)) ?_
                  exact t_fin [2, 3, 9, 10, 11, 50, 51, 52, 54, 55] (hg_1fff Q452a0 Q452c0 Q452F Q452h0) (by kernel_rfl)
              have hg_1eff : ∀ (Q452a0 : Option Addr) (Q452c0 : Nat) (Q452F : List Own) (Q452h0 : SlN (rdOf (Q401F ++ (Q452F ++ [])) S) N_0 t450 Q452a0), G [true, true, true, true, true, true, true, true, false, true, true, true, true, false, false, false, false, false] [(2, .int .i64 (wr64 (1 + t410))), (3, .int .i64 (Int.tmod v3 1048576)), (9, .bool true), (10, .pointer (some ⟨b402, 0, none⟩)), (11, .int .i64 x415), (50, .agg #[.int .i64 t440, .int .i64 t441, .int .i64 t442, .int .i64 t443, .int .i64 t444, .int .i64 t445, .int .i64 t446, .int .i64 t447, .int .i64 t448, .int .i64 t449, .slice Q452a0 t450.length Q452c0]), (52, .int .i64 (wr64 (1 + t410))), (54, .slice Q401a0 t396.length Q401c0), (55, .int .i64 x415)] (([⟨b402, [.int .i64 t393, .int .i64 t394, .int .i64 t395, .slice (ad N400) t397.length (nN400 / 4), .slice Q401a0 t396.length Q401c0], 5⟩, ⟨N400, encL E_u84 t397, nN400⟩, ⟨b14, [.slice a_l0 l0.length c_l0, .int .i64 t398], 2⟩] : List Own) ++ (Q401F ++ (Q452F ++ []))) := by
                intro Q452a0 Q452c0 Q452F Q452h0
                refine hstep [8, 13] _ _ _ (by kernel_rfl) (List.cons_ne_nil _ _) ⟨?_, ?_, trivial⟩
                · show T _ _ _ _ _ _ _ _
                  refine t_v (.ldn rfl rfl rfl (.at 0 rfl rfl)) ?_
                  exact t_fin [2, 3, 9, 10, 11, 50, 51, 52, 54, 55] (hg_1fff Q452a0 Q452c0 Q452F Q452h0) (by kernel_rfl)
                · show T _ _ _ _ _ _ _ _
                  refine t_v (.quiet rfl (ixs_sle rfl rfl la468 lz471 lu472)) ?_
                  exact t_fin [2, 3, 9, 10, 11, 50, 52, 56] (hg_3eff Q452a0 Q452c0 Q452F Q452h0) (by kernel_rfl)
              have hg_7f1f : G [true, true, true, true, true, false, false, false, true, true, true, true, true, true, true, false, false, false] [(2, .int .i64 (wr64 (1 + t410))), (3, .int .i64 (Int.tmod v3 1048576)), (9, .bool true), (10, .pointer (some ⟨b402, 0, none⟩)), (11, .int .i64 x415), (43, .agg #[.int .i64 t393, .int .i64 t394, .int .i64 t395, .slice (ad N400) t397.length (nN400 / 4), .slice Q401a0 t396.length Q401c0]), (44, .int .i64 (wr64 (1 + t410))), (46, .slice Q401a0 t396.length Q401c0), (47, .int .i64 x415), (51, .agg #[.int .i64 t393, .int .i64 t394, .int .i64 t395, .slice (ad N400) t397.length (nN400 / 4), .slice Q401a0 t396.length Q401c0]), (52, .int .i64 (wr64 (1 + t410))), (57, .agg #[.int .i64 x453, .int .i64 x454, .int .i64 x455, .int .i64 x456, .int .i64 x457, .int .i64 x458, .int .i64 x459, .int .i64 x460, .int .i64 x461, .int .i64 x462, .slice na473 x463.length nc474])] (([⟨b402, [.int .i64 t393, .int .i64 t394, .int .i64 t395, .slice (ad N400) t397.length (nN400 / 4), .slice Q401a0 t396.length Q401c0], 5⟩, ⟨N400, encL E_u84 t397, nN400⟩, ⟨b14, [.slice a_l0 l0.length c_l0, .int .i64 t398], 2⟩] : List Own) ++ (Q401F ++ [])) := by
                refine hstep [5] _ _ _ (by kernel_rfl) (List.cons_ne_nil _ _) ⟨?_, trivial⟩
                · show T _ _ _ _ _ _ _ _
                  refine t_v (.quiet rfl (ixs_sle rfl rfl la432 lz435 lu436)) ?_
                  exact t_fin [2, 3, 9, 10, 11, 43, 44, 48, 51, 52, 57] hg_7f3f (by kernel_rfl)
              have hg_7f3e : G [false, true, true, true, true, true, false, false, true, true, true, true, true, true, true, false, false, false] [(2, .int .i64 (wr64 (1 + t410))), (3, .int .i64 (Int.tmod v3 1048576)), (9, .bool true), (10, .pointer (some ⟨b402, 0, none⟩)), (11, .int .i64 x415), (44, .int .i64 (wr64 (1 + t410))), (48, .pointer (some ⟨lb429, lo430 + (x415).toNat * 11 + 0, none⟩)), (51, .agg #[.int .i64 t393, .int .i64 t394, .int .i64 t395, .slice (ad N400) t397.length (nN400 / 4), .slice Q401a0 t396.length Q401c0]), (52, .int .i64 (wr64 (1 + t410))), (57, .agg #[.int .i64 x453, .int .i64 x454, .int .i64 x455, .int .i64 x456, .int .i64 x457, .int .i64 x458, .int .i64 x459, .int .i64 x460, .int .i64 x461, .int .i64 x462, .slice na473 x463.length nc474])] (([⟨b402, [.int .i64 t393, .int .i64 t394, .int .i64 t395, .slice (ad N400) t397.length (nN400 / 4), .slice Q401a0 t396.length Q401c0], 5⟩, ⟨N400, encL E_u84 t397, nN400⟩, ⟨b14, [.slice a_l0 l0.length c_l0, .int .i64 t398], 2⟩] : List Own) ++ (Q401F ++ [])) := by
                refine hstep [0, 6] _ _ _ (by kernel_rfl) (List.cons_ne_nil _ _) ⟨?_, ?_, trivial⟩
                · show T _ _ _ _ _ _ _ _
                  refine t_v (.ldn rfl rfl rfl (.at 0 rfl rfl)) ?_
                  exact t_fin [2, 3, 9, 10, 11, 43, 44, 48, 51, 52, 57] hg_7f3f (by kernel_rfl)
                · show T _ _ _ _ _ _ _ _
                  refine t_v (.ldn (vs := [.int .i64 x417, .int .i64 x418, .int .i64 x419, .int .i64 x420, .int .i64 x421, .int .i64 x422, .int .i64 x423, .int .i64 x424, .int .i64 x425, .int .i64 x426, .slice na437 x427.length nc438]) rfl rfl rfl (rd_n lR433 (sub_app (seg_in 3 (X := (Q401F ++ [])) rfl seg_hd) sub_nil) (subl_sub lv434 (by kernel_rfl)))) ?_
                  exact t_fin [2, 3, 9, 10, 11, 44, 49, 51, 52, 57] hg_7f7e (by kernel_rfl)
              have hg_3f3f : G [true, true, true, true, true, true, false, false, true, true, true, true, true, true, false, false, false, false] [(2, .int .i64 (wr64 (1 + t410))), (3, .int .i64 (Int.tmod v3 1048576)), (9, .bool true), (10, .pointer (some ⟨b402, 0, none⟩)), (11, .int .i64 x415), (43, .agg #[.int .i64 t393, .int .i64 t394, .int .i64 t395, .slice (ad N400) t397.length (nN400 / 4), .slice Q401a0 t396.length Q401c0]), (44, .int .i64 (wr64 (1 + t410))), (48, .pointer (some ⟨lb429, lo430 + (x415).toNat * 11 + 0, none⟩)), (51, .agg #[.int .i64 t393, .int .i64 t394, .int .i64 t395, .slice (ad N400) t397.length (nN400 / 4), .slice Q401a0 t396.length Q401c0]), (52, .int .i64 (wr64 (1 + t410))), (56, .pointer (some ⟨lb465, lo466 + (x415).toNat * 11 + 0, none⟩))] (([⟨b402, [.int .i64 t393, .int .i64 t394, .int .i64 t395, .slice (ad N400) t397.length (nN400 / 4), .slice Q401a0 t396.length Q401c0], 5⟩, ⟨N400, encL E_u84 t397, nN400⟩, ⟨b14, [.slice a_l0 l0.length c_l0, .int .i64 t398], 2⟩] : List Own) ++ (Q401F ++ [])) := by
                refine hstep [6, 14] _ _ _ (by kernel_rfl) (List.cons_ne_nil _ _) ⟨?_, ?_, trivial⟩
                · show T _ _ _ _ _ _ _ _
                  refine t_v (.ldn (vs := [.int .i64 x417, .int .i64 x418, .int .i64 x419, .int .i64 x420, .int .i64 x421, .int .i64 x422, .int .i64 x423, .int .i64 x424, .int .i64 x425, .int .i64 x426, .slice na437 x427.length nc438]) rfl rfl rfl (rd_n lR433 (sub_app (seg_in 3 (X := (Q401F ++ [])) rfl seg_hd) sub_nil) (subl_sub lv434 (by kernel_rfl)))) ?_
                  exact t_fin [2, 3, 9, 10, 11, 43, 44, 49, 51, 52, 56] hg_3f7f (by kernel_rfl)
                · show T _ _ _ _ _ _ _ _
                  refine t_v (.ldn (vs := [.int .i64 x453, .int .i64 x454, .int .i64 x455, .int .i64 x456, .int .i64 x457, .int .i64 x458, .int .i64 x459, .int .i64 x460, .int .i64 x461, .int .i64 x462, .slice na473 x463.length nc474]) rfl rfl rfl (rd_n lR469 (sub_app (seg_in 3 (X := (Q401F ++ [])) rfl seg_hd) sub_nil) (subl_sub lv470 (by kernel_rfl)))) ?_
                  exact t_fin [2, 3, 9, 10, 11, 43, 44, 48, 51, 52, 57] hg_7f3f (by kernel_rfl)
              have hg_1f7f : G [true, true, true, true, true, true, true, false, true, true, true, true, true, false, false, false, false, false] [(2, .int .i64 (wr64 (1 + t410))), (3, .int .i64 (Int.tmod v3 1048576)), (9, .bool true), (10, .pointer (some ⟨b402, 0, none⟩)), (11, .int .i64 x415), (43, .agg #[.int .i64 t393, .int .i64 t394, .int .i64 t395, .slice (ad N400) t397.length (nN400 / 4), .slice Q401a0 t396.length Q401c0]), (44, .int .i64 (wr64 (1 + t410))), (49, .agg #[.int .i64 x417, .int .i64 x418, .int .i64 x419, .int .i64 x420, .int .i64 x421, .int .i64 x422, .int .i64 x423, .int .i64 x424, .int .i64 x425, .int .i64 x426, .slice na437 x427.length nc438]), (51, .agg #[.int .i64 t393, .int .i64 t394, .int .i64 t395, .slice (ad N400) t397.length (nN400 / 4), .slice Q401a0 t396.length Q401c0]), (52, .int .i64 (wr64 (1 + t410))), (54, .slice Q401a0 t396.length Q401c0), (55, .int .i64 x415)] (([⟨b402, [.int .i64 t393, .int .i64 t394, .int .i64 t395, .slice (ad N400) t397.length (nN400 / 4), .slice Q401a0 t396.length Q401c0], 5⟩, ⟨N400, encL E_u84 t397, nN400⟩, ⟨b14, [.slice a_l0 l0.length c_l0, .int .i64 t398], 2⟩] : List Own) ++ (Q401F ++ [])) := by
                refine hstep [7, 13] _ _ _ (by kernel_rfl) (List.cons_ne_nil _ _) ⟨?_, ?_, trivial⟩
                · show T _ _ _ _ _ _ _ _
                  refine t_call (vs := [.agg #[.int .i64 t393, .int .i64 t394, .int .i64 t395, .slice (ad N400) t397.length (nN400 / 4), .slice Q401a0 t396.length Q401c0], .int .i64 (wr64 (1 + t410)), .agg #[.int .i64 x417, .int .i64 x418, .int .i64 x419, .int .i64 x420, .int .i64 x421, .int .i64 x422, .int .i64 x423, .int .i64 x424, .int .i64 x425, .int .i64 x426, .slice na437 x427.length nc438]]) (H1 := ((Q401F ++ []) ++ [])) (F := ([⟨b402, [.int .i64 t393, .int .i64 t394, .int .i64 t395, .slice (ad N400) t397.length (nN400 / 4), .slice Q401a0 t396.length Q401c0], 5⟩, ⟨N400, encL E_u84 t397, nN400⟩, ⟨b14, [.slice a_l0 l0.length c_l0, .int .i64 t398], 2⟩] : List Own)) rfl rfl (by kernel_rfl) (tree_perm (.a (.l ([⟨b402, [.int .i64 t393, .int .i64 t394, .int .i64 t395, .slice (ad N400) t397.length (nN400 / 4), .slice Q401a0 t396.length Q401c0], 5⟩, ⟨N400, encL E_u84 t397, nN400⟩, ⟨b14, [.slice a_l0 l0.length c_l0, .int .i64 t398], 2⟩] : List Own)) (.a (.f Q401F) (.l []))) (.a (.a (.f Q401F) (.l [])) (.l ([] : List Own))) (.l ([⟨b402, [.int .i64 t393, .int .i64 t394, .int .i64 t395, .slice (ad N400) t397.length (nN400 / 4), .slice Q401a0 t396.length Q401c0], 5⟩, ⟨N400, encL E_u84 t397, nN400⟩, ⟨b14, [.slice a_l0 l0.length c_l0, .int .i64 t398], 2⟩] : List Own)) [3] (by kernel_rfl)) (cal_lendF (Qc := fun v_ H_ => ∃ (Q452a0 : Option Addr) (Q452c0 : Nat) (Q452F : List Own), v_ = (.agg #[.int .i64 t440, .int .i64 t441, .int .i64 t442, .int .i64 t443, .int .i64 t444, .int .i64 t445, .int .i64 t446, .int .i64 t447, .int .i64 t448, .int .i64 t449, .slice Q452a0 t450.length Q452c0]) ∧ H_ = (Q452F ++ []) ∧ SlN (rdOf (Q401F ++ (Q452F ++ [])) S) N_0 t450 Q452a0) (Q401F ++ []) fun S1_ le1_ hp1_ hs1_ hn1_ ex1_ => (scale_Cmd_v1.ok (EO.mono hE_ le1_ hp1_) (SlN.mono nh439 (rd_lend hs1_ le1_ (sub_app (seg_in 0 (X := (Q401F ++ [])) rfl seg_hd) sub_nil))) h451).mono fun _ _ _ ⟨Q452a0, Q452c0, Q452F, h1_, h2_, h3_, Q452h0⟩ => ⟨⟨Q452a0, Q452c0, Q452F, h1_, h2_, SlN.mono Q452h0 (rd_back ex1_ (sub_app (seg_in 0 (X := (Q401F ++ (Q452F ++ []))) rfl (seg_tl seg_hd)) sub_nil) (sub_app (seg_in 0 (X := (Q401F ++ (Q452F ++ []))) rfl seg_hd) sub_nil))⟩, h3_⟩) ?_
                  rintro _ _ S_ ⟨⟨_, rfl, Q452a0, Q452c0, Q452F, rfl, rfl, Q452h0⟩, hS_⟩
                  obtain rfl := hS_.symm
                  refine t_vs (H' := (([⟨b402, [.int .i64 t393, .int .i64 t394, .int .i64 t395, .slice (ad N400) t397.length (nN400 / 4), .slice Q401a0 t396.length Q401c0], 5⟩, ⟨N400, encL E_u84 t397, nN400⟩, ⟨b14, [.slice a_l0 l0.length c_l0, .int .i64 t398], 2⟩] : List Own) ++ (Q401F ++ (Q452F ++ [])))) (S' := S) (VS.treeA (.a (.a (.a (.f Q401F) (.l [])) (.a (.f Q452F) (.l []))) (.l ([⟨b402, [.int .i64 t393, .int .i64 t394, .int .i64 t395, .slice (ad N400) t397.length (nN400 / 4), .slice Q401a0 t396.length Q401c0], 5⟩, ⟨N400, encL E_u84 t397, nN400⟩, ⟨b14, [.slice a_l0 l0.length c_l0, .int .i64 t398], 2⟩] : List Own))) (.a (.l ([⟨b402, [.int .i64 t393, .int .i64 t394, .int .i64 t395, .slice (ad N400) t397.length (nN400 / 4), .slice Q401a0 t396.length Q401c0], 5⟩, ⟨N400, encL E_u84 t397, nN400⟩, ⟨b14, [.slice a_l0 l0.length c_l0, .int .i64 t398], 2⟩] : List Own)) (.a (.f Q401F) (.a (.f Q452F) (.l [])))) [2, 2, 2, 0, 0] (by kernel_rfl)) ?_
                  exact t_fin [2, 3, 9, 10, 11, 50, 51, 52, 54, 55] (hg_1fff Q452a0 Q452c0 Q452F Q452h0) (by kernel_rfl)
                · show T _ _ _ _ _ _ _ _
                  refine t_v (.quiet rfl (ixs_sle rfl rfl la468 lz471 lu472)) ?_
                  exact t_fin [2, 3, 9, 10, 11, 43, 44, 49, 51, 52, 56] hg_3f7f (by kernel_rfl)
              have hg_3f7e : G [false, true, true, true, true, true, true, false, true, true, true, true, true, true, false, false, false, false] [(2, .int .i64 (wr64 (1 + t410))), (3, .int .i64 (Int.tmod v3 1048576)), (9, .bool true), (10, .pointer (some ⟨b402, 0, none⟩)), (11, .int .i64 x415), (44, .int .i64 (wr64 (1 + t410))), (49, .agg #[.int .i64 x417, .int .i64 x418, .int .i64 x419, .int .i64 x420, .int .i64 x421, .int .i64 x422, .int .i64 x423, .int .i64 x424, .int .i64 x425, .int .i64 x426, .slice na437 x427.length nc438]), (51, .agg #[.int .i64 t393, .int .i64 t394, .int .i64 t395, .slice (ad N400) t397.length (nN400 / 4), .slice Q401a0 t396.length Q401c0]), (52, .int .i64 (wr64 (1 + t410))), (56, .pointer (some ⟨lb465, lo466 + (x415).toNat * 11 + 0, none⟩))] (([⟨b402, [.int .i64 t393, .int .i64 t394, .int .i64 t395, .slice (ad N400) t397.length (nN400 / 4), .slice Q401a0 t396.length Q401c0], 5⟩, ⟨N400, encL E_u84 t397, nN400⟩, ⟨b14, [.slice a_l0 l0.length c_l0, .int .i64 t398], 2⟩] : List Own) ++ (Q401F ++ [])) := by
                refine hstep [0, 14] _ _ _ (by kernel_rfl) (List.cons_ne_nil _ _) ⟨?_, ?_, trivial⟩
                · show T _ _ _ _ _ _ _ _
                  refine t_v (.ldn rfl rfl rfl (.at 0 rfl rfl)) ?_
                  exact t_fin [2, 3, 9, 10, 11, 43, 44, 49, 51, 52, 56] hg_3f7f (by kernel_rfl)
                · show T _ _ _ _ _ _ _ _
                  refine t_v (.ldn (vs := [.int .i64 x453, .int .i64 x454, .int .i64 x455, .int .i64 x456, .int .i64 x457, .int .i64 x458, .int .i64 x459, .int .i64 x460, .int .i64 x461, .int .i64 x462, .slice na473 x463.length nc474]) rfl rfl rfl (rd_n lR469 (sub_app (seg_in 3 (X := (Q401F ++ [])) rfl seg_hd) sub_nil) (subl_sub lv470 (by kernel_rfl)))) ?_
                  exact t_fin [2, 3, 9, 10, 11, 44, 49, 51, 52, 57] hg_7f7e (by kernel_rfl)
              have hg_7e1f : G [true, true, true, true, true, false, false, false, false, true, true, true, true, true, true, false, false, false] [(2, .int .i64 (wr64 (1 + t410))), (3, .int .i64 (Int.tmod v3 1048576)), (9, .bool true), (10, .pointer (some ⟨b402, 0, none⟩)), (11, .int .i64 x415), (43, .agg #[.int .i64 t393, .int .i64 t394, .int .i64 t395, .slice (ad N400) t397.length (nN400 / 4), .slice Q401a0 t396.length Q401c0]), (44, .int .i64 (wr64 (1 + t410))), (46, .slice Q401a0 t396.length Q401c0), (47, .int .i64 x415), (52, .int .i64 (wr64 (1 + t410))), (57, .agg #[.int .i64 x453, .int .i64 x454, .int .i64 x455, .int .i64 x456, .int .i64 x457, .int .i64 x458, .int .i64 x459, .int .i64 x460, .int .i64 x461, .int .i64 x462, .slice na473 x463.length nc474])] (([⟨b402, [.int .i64 t393, .int .i64 t394, .int .i64 t395, .slice (ad N400) t397.length (nN400 / 4), .slice Q401a0 t396.length Q401c0], 5⟩, ⟨N400, encL E_u84 t397, nN400⟩, ⟨b14, [.slice a_l0 l0.length c_l0, .int .i64 t398], 2⟩] : List Own) ++ (Q401F ++ [])) := by
                refine hstep [5, 8] _ _ _ (by kernel_rfl) (List.cons_ne_nil _ _) ⟨?_, ?_, trivial⟩
                · show T _ _ _ _ _ _ _ _
                  refine t_v (.quiet rfl (ixs_sle rfl rfl la432 lz435 lu436)) ?_
                  exact t_fin [2, 3, 9, 10, 11, 43, 44, 48, 52, 57] hg_7e3f (by kernel_rfl)
                · show T _ _ _ _ _ _ _ _
                  refine t_v (.ldn rfl rfl rfl (.at 0 rfl rfl)) ?_
                  exact t_fin [2, 3, 9, 10, 11, 43, 44, 46, 47, 51, 52, 57] hg_7f1f (by kernel_rfl)
              have hg_7e3e : G [false, true, true, true, true, true, false, false, false, true, true, true, true, true, true, false, false, false] [(2, .int .i64 (wr64 (1 + t410))), (3, .int .i64 (Int.tmod v3 1048576)), (9, .bool true), (10, .pointer (some ⟨b402, 0, none⟩)), (11, .int .i64 x415), (44, .int .i64 (wr64 (1 + t410))), (48, .pointer (some ⟨lb429, lo430 + (x415).toNat * 11 + 0, none⟩)), (52, .int .i64 (wr64 (1 + t410))), (57, .agg #[.int .i64 x453, .int .i64 x454, .int .i64 x455, .int .i64 x456, .int .i64 x457, .int .i64 x458, .int .i64 x459, .int .i64 x460, .int .i64 x461, .int .i64 x462, .slice na473 x463.length nc474])] (([⟨b402, [.int .i64 t393, .int .i64 t394, .int .i64 t395, .slice (ad N400) t397.length (nN400 / 4), .slice Q401a0 t396.length Q401c0], 5⟩, ⟨N400, encL E_u84 t397, nN400⟩, ⟨b14, [.slice a_l0 l0.length c_l0, .int .i64 t398], 2⟩] : List Own) ++ (Q401F ++ [])) := by
                refine hstep [0, 6, 8] _ _ _ (by kernel_rfl) (List.cons_ne_nil _ _) ⟨?_, ?_, ?_, trivial⟩
                · show T _ _ _ _ _ _ _ _
                  refine t_v (.ldn rfl rfl rfl (.at 0 rfl rfl)) ?_
                  exact t_fin [2, 3, 9, 10, 11, 43, 44, 48, 52, 57] hg_7e3f (by kernel_rfl)
                · show T _ _ _ _ _ _ _ _
                  refine t_v (.ldn (vs := [.int .i64 x417, .int .i64 x418, .int .i64 x419, .int .i64 x420, .int .i64 x421, .int .i64 x422, .int .i64 x423, .int .i64 x424, .int .i64 x425, .int .i64 x426, .slice na437 x427.length nc438]) rfl rfl rfl (rd_n lR433 (sub_app (seg_in 3 (X := (Q401F ++ [])) rfl seg_hd) sub_nil) (subl_sub lv434 (by kernel_rfl)))) ?_
                  exact t_fin [2, 3, 9, 10, 11, 44, 49, 52, 57] hg_7e7e (by kernel_rfl)
                · show T _ _ _ _ _ _ _ _
                  refine t_v (.ldn rfl rfl rfl (.at 0 rfl rfl)) ?_
                  exact t_fin [2, 3, 9, 10, 11, 44, 48, 51, 52, 57] hg_7f3e (by kernel_rfl)
              have hg_3e3f : G [true, true, true, true, true, true, false, false, false, true, true, true, true, true, false, false, false, false] [(2, .int .i64 (wr64 (1 + t410))), (3, .int .i64 (Int.tmod v3 1048576)), (9, .bool true), (10, .pointer (some ⟨b402, 0, none⟩)), (11, .int .i64 x415), (43, .agg #[.int .i64 t393, .int .i64 t394, .int .i64 t395, .slice (ad N400) t397.length (nN400 / 4), .slice Q401a0 t396.length Q401c0]), (44, .int .i64 (wr64 (1 + t410))), (48, .pointer (some ⟨lb429, lo430 + (x415).toNat * 11 + 0, none⟩)), (52, .int .i64 (wr64 (1 + t410))), (56, .pointer (some ⟨lb465, lo466 + (x415).toNat * 11 + 0, none⟩))] (([⟨b402, [.int .i64 t393, .int .i64 t394, .int .i64 t395, .slice (ad N400) t397.length (nN400 / 4), .slice Q401a0 t396.length Q401c0], 5⟩, ⟨N400, encL E_u84 t397, nN400⟩, ⟨b14, [.slice a_l0 l0.length c_l0, .int .i64 t398], 2⟩] : List Own) ++ (Q401F ++ [])) := by
                refine hstep [6, 8, 14] _ _ _ (by kernel_rfl) (List.cons_ne_nil _ _) ⟨?_, ?_, ?_, trivial⟩
                · show T _ _ _ _ _ _ _ _
                  refine t_v (.ldn (vs := [.int .i64 x417, .int .i64 x418, .int .i64 x419, .int .i64 x420, .int .i64 x421, .int .i64 x422, .int .i64 x423, .int .i64 x424, .int .i64 x425, .int .i64 x426, .slice na437 x427.length nc438]) rfl rfl rfl (rd_n lR433 (sub_app (seg_in 3 (X := (Q401F ++ [])) rfl seg_hd) sub_nil) (subl_sub lv434 (by kernel_rfl)))) ?_
                  exact t_fin [2, 3, 9, 10, 11, 43, 44, 49, 52, 56] hg_3e7f (by kernel_rfl)
                · show T _ _ _ _ _ _ _ _
                  refine t_v (.ldn rfl rfl rfl (.at 0 rfl rfl)) ?_
                  exact t_fin [2, 3, 9, 10, 11, 43, 44, 48, 51, 52, 56] hg_3f3f (by kernel_rfl)
                · show T _ _ _ _ _ _ _ _
                  refine t_v (.ldn (vs := [.int .i64 x453, .int .i64 x454, .int .i64 x455, .int .i64 x456, .int .i64 x457, .int .i64 x458, .int .i64 x459, .int .i64 x460, .int .i64 x461, .int .i64 x462, .slice na473 x463.length nc474]) rfl rfl rfl (rd_n lR469 (sub_app (seg_in 3 (X := (Q401F ++ [])) rfl seg_hd) sub_nil) (subl_sub lv470 (by kernel_rfl)))) ?_
                  exact t_fin [2, 3, 9, 10, 11, 43, 44, 48, 52, 57] hg_7e3f (by kernel_rfl)
              have hg_1e7f : G [true, true, true, true, true, true, true, false, false, true, true, true, true, false, false, false, false, false] [(2, .int .i64 (wr64 (1 + t410))), (3, .int .i64 (Int.tmod v3 1048576)), (9, .bool true), (10, .pointer (some ⟨b402, 0, none⟩)), (11, .int .i64 x415), (43, .agg #[.int .i64 t393, .int .i64 t394, .int .i64 t395, .slice (ad N400) t397.length (nN400 / 4), .slice Q401a0 t396.length Q401c0]), (44, .int .i64 (wr64 (1 + t410))), (49, .agg #[.int .i64 x417, .int .i64 x418, .int .i64 x419, .int .i64 x420, .int .i64 x421, .int .i64 x422, .int .i64 x423, .int .i64 x424, .int .i64 x425, .int .i64 x426, .slice na437 x427.length nc438]), (52, .int .i64 (wr64 (1 + t410))), (54, .slice Q401a0 t396.length Q401c0), (55, .int .i64 x415)] (([⟨b402, [.int .i64 t393, .int .i64 t394, .int .i64 t395, .slice (ad N400) t397.length (nN400 / 4), .slice Q401a0 t396.length Q401c0], 5⟩, ⟨N400, encL E_u84 t397, nN400⟩, ⟨b14, [.slice a_l0 l0.length c_l0, .int .i64 t398], 2⟩] : List Own) ++ (Q401F ++ [])) := by
                refine hstep [7, 8, 13] _ _ _ (by kernel_rfl) (List.cons_ne_nil _ _) ⟨?_, ?_, ?_, trivial⟩
                · show T _ _ _ _ _ _ _ _
                  refine t_call (vs := [.agg #[.int .i64 t393, .int .i64 t394, .int .i64 t395, .slice (ad N400) t397.length (nN400 / 4), .slice Q401a0 t396.length Q401c0], .int .i64 (wr64 (1 + t410)), .agg #[.int .i64 x417, .int .i64 x418, .int .i64 x419, .int .i64 x420, .int .i64 x421, .int .i64 x422, .int .i64 x423, .int .i64 x424, .int .i64 x425, .int .i64 x426, .slice na437 x427.length nc438]]) (H1 := ((Q401F ++ []) ++ [])) (F := ([⟨b402, [.int .i64 t393, .int .i64 t394, .int .i64 t395, .slice (ad N400) t397.length (nN400 / 4), .slice Q401a0 t396.length Q401c0], 5⟩, ⟨N400, encL E_u84 t397, nN400⟩, ⟨b14, [.slice a_l0 l0.length c_l0, .int .i64 t398], 2⟩] : List Own)) rfl rfl (by kernel_rfl) (tree_perm (.a (.l ([⟨b402, [.int .i64 t393, .int .i64 t394, .int .i64 t395, .slice (ad N400) t397.length (nN400 / 4), .slice Q401a0 t396.length Q401c0], 5⟩, ⟨N400, encL E_u84 t397, nN400⟩, ⟨b14, [.slice a_l0 l0.length c_l0, .int .i64 t398], 2⟩] : List Own)) (.a (.f Q401F) (.l []))) (.a (.a (.f Q401F) (.l [])) (.l ([] : List Own))) (.l ([⟨b402, [.int .i64 t393, .int .i64 t394, .int .i64 t395, .slice (ad N400) t397.length (nN400 / 4), .slice Q401a0 t396.length Q401c0], 5⟩, ⟨N400, encL E_u84 t397, nN400⟩, ⟨b14, [.slice a_l0 l0.length c_l0, .int .i64 t398], 2⟩] : List Own)) [3] (by kernel_rfl)) (cal_lendF (Qc := fun v_ H_ => ∃ (Q452a0 : Option Addr) (Q452c0 : Nat) (Q452F : List Own), v_ = (.agg #[.int .i64 t440, .int .i64 t441, .int .i64 t442, .int .i64 t443, .int .i64 t444, .int .i64 t445, .int .i64 t446, .int .i64 t447, .int .i64 t448, .int .i64 t449, .slice Q452a0 t450.length Q452c0]) ∧ H_ = (Q452F ++ []) ∧ SlN (rdOf (Q401F ++ (Q452F ++ [])) S) N_0 t450 Q452a0) (Q401F ++ []) fun S1_ le1_ hp1_ hs1_ hn1_ ex1_ => (scale_Cmd_v1.ok (EO.mono hE_ le1_ hp1_) (SlN.mono nh439 (rd_lend hs1_ le1_ (sub_app (seg_in 0 (X := (Q401F ++ [])) rfl seg_hd) sub_nil))) h451).mono fun _ _ _ ⟨Q452a0, Q452c0, Q452F, h1_, h2_, h3_, Q452h0⟩ => ⟨⟨Q452a0, Q452c0, Q452F, h1_, h2_, SlN.mono Q452h0 (rd_back ex1_ (sub_app (seg_in 0 (X := (Q401F ++ (Q452F ++ []))) rfl (seg_tl seg_hd)) sub_nil) (sub_app (seg_in 0 (X := (Q401F ++ (Q452F ++ []))) rfl seg_hd) sub_nil))⟩, h3_⟩) ?_
                  rintro _ _ S_ ⟨⟨_, rfl, Q452a0, Q452c0, Q452F, rfl, rfl, Q452h0⟩, hS_⟩
                  obtain rfl := hS_.symm
                  refine t_vs (H' := (([⟨b402, [.int .i64 t393, .int .i64 t394, .int .i64 t395, .slice (ad N400) t397.length (nN400 / 4), .slice Q401a0 t396.length Q401c0], 5⟩, ⟨N400, encL E_u84 t397, nN400⟩, ⟨b14, [.slice a_l0 l0.length c_l0, .int .i64 t398], 2⟩] : List Own) ++ (Q401F ++ (Q452F ++ [])))) (S' := S) (VS.treeA (.a (.a (.a (.f Q401F) (.l [])) (.a (.f Q452F) (.l []))) (.l ([⟨b402, [.int .i64 t393, .int .i64 t394, .int .i64 t395, .slice (ad N400) t397.length (nN400 / 4), .slice Q401a0 t396.length Q401c0], 5⟩, ⟨N400, encL E_u84 t397, nN400⟩, ⟨b14, [.slice a_l0 l0.length c_l0, .int .i64 t398], 2⟩] : List Own))) (.a (.l ([⟨b402, [.int .i64 t393, .int .i64 t394, .int .i64 t395, .slice (ad N400) t397.length (nN400 / 4), .slice Q401a0 t396.length Q401c0], 5⟩, ⟨N400, encL E_u84 t397, nN400⟩, ⟨b14, [.slice a_l0 l0.length c_l0, .int .i64 t398], 2⟩] : List Own)) (.a (.f Q401F) (.a (.f Q452F) (.l [])))) [2, 2, 2, 0, 0] (by kernel_rfl)) ?_
                  exact t_fin [2, 3, 9, 10, 11, 50, 52, 54, 55] (hg_1eff Q452a0 Q452c0 Q452F Q452h0) (by kernel_rfl)
                · show T _ _ _ _ _ _ _ _
                  refine t_v (.ldn rfl rfl rfl (.at 0 rfl rfl)) ?_
                  exact t_fin [2, 3, 9, 10, 11, 43, 44, 49, 51, 52, 54, 55] hg_1f7f (by kernel_rfl)
                · show T _ _ _ _ _ _ _ _
                  refine t_v (.quiet rfl (ixs_sle rfl rfl la468 lz471 lu472)) ?_
                  exact t_fin [2, 3, 9, 10, 11, 43, 44, 49, 52, 56] hg_3e7f (by kernel_rfl)
              have hg_3e7e : G [false, true, true, true, true, true, true, false, false, true, true, true, true, true, false, false, false, false] [(2, .int .i64 (wr64 (1 + t410))), (3, .int .i64 (Int.tmod v3 1048576)), (9, .bool true), (10, .pointer (some ⟨b402, 0, none⟩)), (11, .int .i64 x415), (44, .int .i64 (wr64 (1 + t410))), (49, .agg #[.int .i64 x417, .int .i64 x418, .int .i64 x419, .int .i64 x420, .int .i64 x421, .int .i64 x422, .int .i64 x423, .int .i64 x424, .int .i64 x425, .int .i64 x426, .slice na437 x427.length nc438]), (52, .int .i64 (wr64 (1 + t410))), (56, .pointer (some ⟨lb465, lo466 + (x415).toNat * 11 + 0, none⟩))] (([⟨b402, [.int .i64 t393, .int .i64 t394, .int .i64 t395, .slice (ad N400) t397.length (nN400 / 4), .slice Q401a0 t396.length Q401c0], 5⟩, ⟨N400, encL E_u84 t397, nN400⟩, ⟨b14, [.slice a_l0 l0.length c_l0, .int .i64 t398], 2⟩] : List Own) ++ (Q401F ++ [])) := by
                refine hstep [0, 8, 14] _ _ _ (by kernel_rfl) (List.cons_ne_nil _ _) ⟨?_, ?_, ?_, trivial⟩
                · show T _ _ _ _ _ _ _ _
                  refine t_v (.ldn rfl rfl rfl (.at 0 rfl rfl)) ?_
                  exact t_fin [2, 3, 9, 10, 11, 43, 44, 49, 52, 56] hg_3e7f (by kernel_rfl)
                · show T _ _ _ _ _ _ _ _
                  refine t_v (.ldn rfl rfl rfl (.at 0 rfl rfl)) ?_
                  exact t_fin [2, 3, 9, 10, 11, 44, 49, 51, 52, 56] hg_3f7e (by kernel_rfl)
                · show T _ _ _ _ _ _ _ _
                  refine t_v (.ldn (vs := [.int .i64 x453, .int .i64 x454, .int .i64 x455, .int .i64 x456, .int .i64 x457, .int .i64 x458, .int .i64 x459, .int .i64 x460, .int .i64 x461, .int .i64 x462, .slice na473 x463.length nc474]) rfl rfl rfl (rd_n lR469 (sub_app (seg_in 3 (X := (Q401F ++ [])) rfl seg_hd) sub_nil) (subl_sub lv470 (by kernel_rfl)))) ?_
                  exact t_fin [2, 3, 9, 10, 11, 44, 49, 52, 57] hg_7e7e (by kernel_rfl)
              have hg_16ff : ∀ (Q452a0 : Option Addr) (Q452c0 : Nat) (Q452F : List Own) (Q452h0 : SlN (rdOf (Q401F ++ (Q452F ++ [])) S) N_0 t450 Q452a0), G [true, true, true, true, true, true, true, true, false, true, true, false, true, false, false, false, false, false] [(2, .int .i64 (wr64 (1 + t410))), (3, .int .i64 (Int.tmod v3 1048576)), (9, .bool true), (10, .pointer (some ⟨b402, 0, none⟩)), (11, .int .i64 x415), (50, .agg #[.int .i64 t440, .int .i64 t441, .int .i64 t442, .int .i64 t443, .int .i64 t444, .int .i64 t445, .int .i64 t446, .int .i64 t447, .int .i64 t448, .int .i64 t449, .slice Q452a0 t450.length Q452c0]), (52, .int .i64 (wr64 (1 + t410))), (53, .pointer (some ⟨b402, 4, none⟩)), (55, .int .i64 x415)] (([⟨b402, [.int .i64 t393, .int .i64 t394, .int .i64 t395, .slice (ad N400) t397.length (nN400 / 4), .slice Q401a0 t396.length Q401c0], 5⟩, ⟨N400, encL E_u84 t397, nN400⟩, ⟨b14, [.slice a_l0 l0.length c_l0, .int .i64 t398], 2⟩] : List Own) ++ (Q401F ++ (Q452F ++ []))) := by
                intro Q452a0 Q452c0 Q452F Q452h0
                refine hstep [8, 11] _ _ _ (by kernel_rfl) (List.cons_ne_nil _ _) ⟨?_, ?_, trivial⟩
                · show T _ _ _ _ _ _ _ _
                  refine t_v (.ldn rfl rfl rfl (.at 0 rfl rfl)) ?_
                  exact t_fin [2, 3, 9, 10, 11, 50, 51, 52, 53, 55] (hg_17ff Q452a0 Q452c0 Q452F Q452h0) (by kernel_rfl)
                · show T _ _ _ _ _ _ _ _
                  refine t_v (.ld1 rfl rfl rfl (.at 0 rfl rfl)) ?_
                  exact t_fin [2, 3, 9, 10, 11, 50, 52, 54, 55] (hg_1eff Q452a0 Q452c0 Q452F Q452h0) (by kernel_rfl)
              have hg_7f17 : G [true, true, true, false, true, false, false, false, true, true, true, true, true, true, true, false, false, false] [(2, .int .i64 (wr64 (1 + t410))), (3, .int .i64 (Int.tmod v3 1048576)), (9, .bool true), (10, .pointer (some ⟨b402, 0, none⟩)), (11, .int .i64 x415), (43, .agg #[.int .i64 t393, .int .i64 t394, .int .i64 t395, .slice (ad N400) t397.length (nN400 / 4), .slice Q401a0 t396.length Q401c0]), (44, .int .i64 (wr64 (1 + t410))), (45, .pointer (some ⟨b402, 4, none⟩)), (47, .int .i64 x415), (51, .agg #[.int .i64 t393, .int .i64 t394, .int .i64 t395, .slice (ad N400) t397.length (nN400 / 4), .slice Q401a0 t396.length Q401c0]), (52, .int .i64 (wr64 (1 + t410))), (57, .agg #[.int .i64 x453, .int .i64 x454, .int .i64 x455, .int .i64 x456, .int .i64 x457, .int .i64 x458, .int .i64 x459, .int .i64 x460, .int .i64 x461, .int .i64 x462, .slice na473 x463.length nc474])] (([⟨b402, [.int .i64 t393, .int .i64 t394, .int .i64 t395, .slice (ad N400) t397.length (nN400 / 4), .slice Q401a0 t396.length Q401c0], 5⟩, ⟨N400, encL E_u84 t397, nN400⟩, ⟨b14, [.slice a_l0 l0.length c_l0, .int .i64 t398], 2⟩] : List Own) ++ (Q401F ++ [])) := by
                refine hstep [3] _ _ _ (by kernel_rfl) (List.cons_ne_nil _ _) ⟨?_, trivial⟩
                · show T _ _ _ _ _ _ _ _
                  refine t_v (.ld1 rfl rfl rfl (.at 0 rfl rfl)) ?_
                  exact t_fin [2, 3, 9, 10, 11, 43, 44, 46, 47, 51, 52, 57] hg_7f1f (by kernel_rfl)
              have hg_7f1e : G [false, true, true, true, true, false, false, false, true, true, true, true, true, true, true, false, false, false] [(2, .int .i64 (wr64 (1 + t410))), (3, .int .i64 (Int.tmod v3 1048576)), (9, .bool true), (10, .pointer (some ⟨b402, 0, none⟩)), (11, .int .i64 x415), (44, .int .i64 (wr64 (1 + t410))), (46, .slice Q401a0 t396.length Q401c0), (47, .int .i64 x415), (51, .agg #[.int .i64 t393, .int .i64 t394, .int .i64 t395, .slice (ad N400) t397.length (nN400 / 4), .slice Q401a0 t396.length Q401c0]), (52, .int .i64 (wr64 (1 + t410))), (57, .agg #[.int .i64 x453, .int .i64 x454, .int .i64 x455, .int .i64 x456, .int .i64 x457, .int .i64 x458, .int .i64 x459, .int .i64 x460, .int .i64 x461, .int .i64 x462, .slice na473 x463.length nc474])] (([⟨b402, [.int .i64 t393, .int .i64 t394, .int .i64 t395, .slice (ad N400) t397.length (nN400 / 4), .slice Q401a0 t396.length Q401c0], 5⟩, ⟨N400, encL E_u84 t397, nN400⟩, ⟨b14, [.slice a_l0 l0.length c_l0, .int .i64 t398], 2⟩] : List Own) ++ (Q401F ++ [])) := by
                refine hstep [0, 5] _ _ _ (by kernel_rfl) (List.cons_ne_nil _ _) ⟨?_, ?_, trivial⟩
                · show T _ _ _ _ _ _ _ _
                  refine t_v (.ldn rfl rfl rfl (.at 0 rfl rfl)) ?_
                  exact t_fin [2, 3, 9, 10, 11, 43, 44, 46, 47, 51, 52, 57] hg_7f1f (by kernel_rfl)
                · show T _ _ _ _ _ _ _ _
                  refine t_v (.quiet rfl (ixs_sle rfl rfl la432 lz435 lu436)) ?_
                  exact t_fin [2, 3, 9, 10, 11, 44, 48, 51, 52, 57] hg_7f3e (by kernel_rfl)
              have hg_3f1f : G [true, true, true, true, true, false, false, false, true, true, true, true, true, true, false, false, false, false] [(2, .int .i64 (wr64 (1 + t410))), (3, .int .i64 (Int.tmod v3 1048576)), (9, .bool true), (10, .pointer (some ⟨b402, 0, none⟩)), (11, .int .i64 x415), (43, .agg #[.int .i64 t393, .int .i64 t394, .int .i64 t395, .slice (ad N400) t397.length (nN400 / 4), .slice Q401a0 t396.length Q401c0]), (44, .int .i64 (wr64 (1 + t410))), (46, .slice Q401a0 t396.length Q401c0), (47, .int .i64 x415), (51, .agg #[.int .i64 t393, .int .i64 t394, .int .i64 t395, .slice (ad N400) t397.length (nN400 / 4), .slice Q401a0 t396.length Q401c0]), (52, .int .i64 (wr64 (1 + t410))), (56, .pointer (some ⟨lb465, lo466 + (x415).toNat * 11 + 0, none⟩))] (([⟨b402, [.int .i64 t393, .int .i64 t394, .int .i64 t395, .slice (ad N400) t397.length (nN400 / 4), .slice Q401a0 t396.length Q401c0], 5⟩, ⟨N400, encL E_u84 t397, nN400⟩, ⟨b14, [.slice a_l0 l0.length c_l0, .int .i64 t398], 2⟩] : List Own) ++ (Q401F ++ [])) := by
                refine hstep [5, 14] _ _ _ (by kernel_rfl) (List.cons_ne_nil _ _) ⟨?_, ?_, trivial⟩
                · show T _ _ _ _ _ _ _ _
                  refine t_v (.quiet rfl (ixs_sle rfl rfl la432 lz435 lu436)) ?_
                  exact t_fin [2, 3, 9, 10, 11, 43, 44, 48, 51, 52, 56] hg_3f3f (by kernel_rfl)
                · show T _ _ _ _ _ _ _ _
                  refine t_v (.ldn (vs := [.int .i64 x453, .int .i64 x454, .int .i64 x455, .int .i64 x456, .int .i64 x457, .int .i64 x458, .int .i64 x459, .int .i64 x460, .int .i64 x461, .int .i64 x462, .slice na473 x463.length nc474]) rfl rfl rfl (rd_n lR469 (sub_app (seg_in 3 (X := (Q401F ++ [])) rfl seg_hd) sub_nil) (subl_sub lv470 (by kernel_rfl)))) ?_
                  exact t_fin [2, 3, 9, 10, 11, 43, 44, 46, 47, 51, 52, 57] hg_7f1f (by kernel_rfl)
              have hg_3f3e : G [false, true, true, true, true, true, false, false, true, true, true, true, true, true, false, false, false, false] [(2, .int .i64 (wr64 (1 + t410))), (3, .int .i64 (Int.tmod v3 1048576)), (9, .bool true), (10, .pointer (some ⟨b402, 0, none⟩)), (11, .int .i64 x415), (44, .int .i64 (wr64 (1 + t410))), (48, .pointer (some ⟨lb429, lo430 + (x415).toNat * 11 + 0, none⟩)), (51, .agg #[.int .i64 t393, .int .i64 t394, .int .i64 t395, .slice (ad N400) t397.length (nN400 / 4), .slice Q401a0 t396.length Q401c0]), (52, .int .i64 (wr64 (1 + t410))), (56, .pointer (some ⟨lb465, lo466 + (x415).toNat * 11 + 0, none⟩))] (([⟨b402, [.int .i64 t393, .int .i64 t394, .int .i64 t395, .slice (ad N400) t397.length (nN400 / 4), .slice Q401a0 t396.length Q401c0], 5⟩, ⟨N400, encL E_u84 t397, nN400⟩, ⟨b14, [.slice a_l0 l0.length c_l0, .int .i64 t398], 2⟩] : List Own) ++ (Q401F ++ [])) := by
                refine hstep [0, 6, 14] _ _ _ (by kernel_rfl) (List.cons_ne_nil _ _) ⟨?_, ?_, ?_, trivial⟩
                · show T _ _ _ _ _ _ _ _
                  refine t_v (.ldn rfl rfl rfl (.at 0 rfl rfl)) ?_
                  exact t_fin [2, 3, 9, 10, 11, 43, 44, 48, 51, 52, 56] hg_3f3f (by kernel_rfl)
                · show T _ _ _ _ _ _ _ _
                  refine t_v (.ldn (vs := [.int .i64 x417, .int .i64 x418, .int .i64 x419, .int .i64 x420, .int .i64 x421, .int .i64 x422, .int .i64 x423, .int .i64 x424, .int .i64 x425, .int .i64 x426, .slice na437 x427.length nc438]) rfl rfl rfl (rd_n lR433 (sub_app (seg_in 3 (X := (Q401F ++ [])) rfl seg_hd) sub_nil) (subl_sub lv434 (by kernel_rfl)))) ?_
                  exact t_fin [2, 3, 9, 10, 11, 44, 49, 51, 52, 56] hg_3f7e (by kernel_rfl)
                · show T _ _ _ _ _ _ _ _
                  refine t_v (.ldn (vs := [.int .i64 x453, .int .i64 x454, .int .i64 x455, .int .i64 x456, .int .i64 x457, .int .i64 x458, .int .i64 x459, .int .i64 x460, .int .i64 x461, .int .i64 x462, .slice na473 x463.length nc474]) rfl rfl rfl (rd_n lR469 (sub_app (seg_in 3 (X := (Q401F ++ [])) rfl seg_hd) sub_nil) (subl_sub lv470 (by kernel_rfl)))) ?_
                  exact t_fin [2, 3, 9, 10, 11, 44, 48, 51, 52, 57] hg_7f3e (by kernel_rfl)
              have hg_1f3f : G [true, true, true, true, true, true, false, false, true, true, true, true, true, false, false, false, false, false] [(2, .int .i64 (wr64 (1 + t410))), (3, .int .i64 (Int.tmod v3 1048576)), (9, .bool true), (10, .pointer (some ⟨b402, 0, none⟩)), (11, .int .i64 x415), (43, .agg #[.int .i64 t393, .int .i64 t394, .int .i64 t395, .slice (ad N400) t397.length (nN400 / 4), .slice Q401a0 t396.length Q401c0]), (44, .int .i64 (wr64 (1 + t410))), (48, .pointer (some ⟨lb429, lo430 + (x415).toNat * 11 + 0, none⟩)), (51, .agg #[.int .i64 t393, .int .i64 t394, .int .i64 t395, .slice (ad N400) t397.length (nN400 / 4), .slice Q401a0 t396.length Q401c0]), (52, .int .i64 (wr64 (1 + t410))), (54, .slice Q401a0 t396.length Q401c0), (55, .int .i64 x415)] (([⟨b402, [.int .i64 t393, .int .i64 t394, .int .i64 t395, .slice (ad N400) t397.length (nN400 / 4), .slice Q401a0 t396.length Q401c0], 5⟩, ⟨N400, encL E_u84 t397, nN400⟩, ⟨b14, [.slice a_l0 l0.length c_l0, .int .i64 t398], 2⟩] : List Own) ++ (Q401F ++ [])) := by
                refine hstep [6, 13] _ _ _ (by kernel_rfl) (List.cons_ne_nil _ _) ⟨?_, ?_, trivial⟩
                · show T _ _ _ _ _ _ _ _
                  refine t_v (.ldn (vs := [.int .i64 x417, .int .i64 x418, .int .i64 x419, .int .i64 x420, .int .i64 x421, .int .i64 x422, .int .i64 x423, .int .i64 x424, .int .i64 x425, .int .i64 x426, .slice na437 x427.length nc438]) rfl rfl rfl (rd_n lR433 (sub_app (seg_in 3 (X := (Q401F ++ [])) rfl seg_hd) sub_nil) (subl_sub lv434 (by kernel_rfl)))) ?_
                  exact t_fin [2, 3, 9, 10, 11, 43, 44, 49, 51, 52, 54, 55] hg_1f7f (by kernel_rfl)
                · show T _ _ _ _ _ _ _ _
                  refine t_v (.quiet rfl (ixs_sle rfl rfl la468 lz471 lu472)) ?_
                  exact t_fin [2, 3, 9, 10, 11, 43, 44, 48, 51, 52, 56] hg_3f3f (by kernel_rfl)
              have hg_177f : G [true, true, true, true, true, true, true, false, true, true, true, false, true, false, false, false, false, false] [(2, .int .i64 (wr64 (1 + t410))), (3, .int .i64 (Int.tmod v3 1048576)), (9, .bool true), (10, .pointer (some ⟨b402, 0, none⟩)), (11, .int .i64 x415), (43, .agg #[.int .i64 t393, .int .i64 t394, .int .i64 t395, .slice (ad N400) t397.length (nN400 / 4), .slice Q401a0 t396.length Q401c0]), (44, .int .i64 (wr64 (1 + t410))), (49, .agg #[.int .i64 x417, .int .i64 x418, .int .i64 x419, .int .i64 x420, .int .i64 x421, .int .i64 x422, .int .i64 x423, .int .i64 x424, .int .i64 x425, .int .i64 x426, .slice na437 x427.length nc438]), (51, .agg #[.int .i64 t393, .int .i64 t394, .int .i64 t395, .slice (ad N400) t397.length (nN400 / 4), .slice Q401a0 t396.length Q401c0]), (52, .int .i64 (wr64 (1 + t410))), (53, .pointer (some ⟨b402, 4, none⟩)), (55, .int .i64 x415)] (([⟨b402, [.int .i64 t393, .int .i64 t394, .int .i64 t395, .slice (ad N400) t397.length (nN400 / 4), .slice Q401a0 t396.length Q401c0], 5⟩, ⟨N400, encL E_u84 t397, nN400⟩, ⟨b14, [.slice a_l0 l0.length c_l0, .int .i64 t398], 2⟩] : List Own) ++ (Q401F ++ [])) := by
                refine hstep [7, 11] _ _ _ (by kernel_rfl) (List.cons_ne_nil _ _) ⟨?_, ?_, trivial⟩
                · show T _ _ _ _ _ _ _ _
                  refine t_call (vs := [.agg #[.int .i64 t393, .int .i64 t394, .int .i64 t395, .slice (ad N400) t397.length (nN400 / 4), .slice Q401a0 t396.length Q401c0], .int .i64 (wr64 (1 + t410)), .agg #[.int .i64 x417, .int .i64 x418, .int .i64 x419, .int .i64 x420, .int .i64 x421, .int .i64 x422, .int .i64 x423, .int .i64 x424, .int .i64 x425, .int .i64 x426, .slice na437 x427.length nc438]]) (H1 := ((Q401F ++ []) ++ [])) (F := ([⟨b402, [.int .i64 t393, .int .i64 t394, .int .i64 t395, .slice (ad N400) t397.length (nN400 / 4), .slice Q401a0 t396.length Q401c0], 5⟩, ⟨N400, encL E_u84 t397, nN400⟩, ⟨b14, [.slice a_l0 l0.length c_l0, .int .i64 t398], 2⟩] : List Own)) rfl rfl (by kernel_rfl) (tree_perm (.a (.l ([⟨b402, [.int .i64 t393, .int .i64 t394, .int .i64 t395, .slice (ad N400) t397.length (nN400 / 4), .slice Q401a0 t396.length Q401c0], 5⟩, ⟨N400, encL E_u84 t397, nN400⟩, ⟨b14, [.slice a_l0 l0.length c_l0, .int .i64 t398], 2⟩] : List Own)) (.a (.f Q401F) (.l []))) (.a (.a (.f Q401F) (.l [])) (.l ([] : List Own))) (.l ([⟨b402, [.int .i64 t393, .int .i64 t394, .int .i64 t395, .slice (ad N400) t397.length (nN400 / 4), .slice Q401a0 t396.length Q401c0], 5⟩, ⟨N400, encL E_u84 t397, nN400⟩, ⟨b14, [.slice a_l0 l0.length c_l0, .int .i64 t398], 2⟩] : List Own)) [3] (by kernel_rfl)) (cal_lendF (Qc := fun v_ H_ => ∃ (Q452a0 : Option Addr) (Q452c0 : Nat) (Q452F : List Own), v_ = (.agg #[.int .i64 t440, .int .i64 t441, .int .i64 t442, .int .i64 t443, .int .i64 t444, .int .i64 t445, .int .i64 t446, .int .i64 t447, .int .i64 t448, .int .i64 t449, .slice Q452a0 t450.length Q452c0]) ∧ H_ = (Q452F ++ []) ∧ SlN (rdOf (Q401F ++ (Q452F ++ [])) S) N_0 t450 Q452a0) (Q401F ++ []) fun S1_ le1_ hp1_ hs1_ hn1_ ex1_ => (scale_Cmd_v1.ok (EO.mono hE_ le1_ hp1_) (SlN.mono nh439 (rd_lend hs1_ le1_ (sub_app (seg_in 0 (X := (Q401F ++ [])) rfl seg_hd) sub_nil))) h451).mono fun _ _ _ ⟨Q452a0, Q452c0, Q452F, h1_, h2_, h3_, Q452h0⟩ => ⟨⟨Q452a0, Q452c0, Q452F, h1_, h2_, SlN.mono Q452h0 (rd_back ex1_ (sub_app (seg_in 0 (X := (Q401F ++ (Q452F ++ []))) rfl (seg_tl seg_hd)) sub_nil) (sub_app (seg_in 0 (X := (Q401F ++ (Q452F ++ []))) rfl seg_hd) sub_nil))⟩, h3_⟩) ?_
                  rintro _ _ S_ ⟨⟨_, rfl, Q452a0, Q452c0, Q452F, rfl, rfl, Q452h0⟩, hS_⟩
                  obtain rfl := hS_.symm
                  refine t_vs (H' := (([⟨b402, [.int .i64 t393, .int .i64 t394, .int .i64 t395, .slice (ad N400) t397.length (nN400 / 4), .slice Q401a0 t396.length Q401c0], 5⟩, ⟨N400, encL E_u84 t397, nN400⟩, ⟨b14, [.slice a_l0 l0.length c_l0, .int .i64 t398], 2⟩] : List Own) ++ (Q401F ++ (Q452F ++ [])))) (S' := S) (VS.treeA (.a (.a (.a (.f Q401F) (.l [])) (.a (.f Q452F) (.l []))) (.l ([⟨b402, [.int .i64 t393, .int .i64 t394, .int .i64 t395, .slice (ad N400) t397.length (nN400 / 4), .slice Q401a0 t396.length Q401c0], 5⟩, ⟨N400, encL E_u84 t397, nN400⟩, ⟨b14, [.slice a_l0 l0.length c_l0, .int .i64 t398], 2⟩] : List Own))) (.a (.l ([⟨b402, [.int .i64 t393, .int .i64 t394, .int .i64 t395, .slice (ad N400) t397.length (nN400 / 4), .slice Q401a0 t396.length Q401c0], 5⟩, ⟨N400, encL E_u84 t397, nN400⟩, ⟨b14, [.slice a_l0 l0.length c_l0, .int .i64 t398], 2⟩] : List Own)) (.a (.f Q401F) (.a (.f Q452F) (.l [])))) [2, 2, 2, 0, 0] (by kernel_rfl)) ?_
                  exact t_fin [2, 3, 9, 10, 11, 50, 51, 52, 53, 55] (hg_17ff Q452a0 Q452c0 Q452F Q452h0) (by kernel_rfl)
                · show T _ _ _ _ _ _ _ _
                  refine t_v (.ld1 rfl rfl rfl (.at 0 rfl rfl)) ?_
                  exact t_fin [2, 3, 9, 10, 11, 43, 44, 49, 51, 52, 54, 55] hg_1f7f (by kernel_rfl)
              have hg_1f7e : G [false, true, true, true, true, true, true, false, true, true, true, true, true, false, false, false, false, false] [(2, .int .i64 (wr64 (1 + t410))), (3, .int .i64 (Int.tmod v3 1048576)), (9, .bool true), (10, .pointer (some ⟨b402, 0, none⟩)), (11, .int .i64 x415), (44, .int .i64 (wr64 (1 + t410))), (49, .agg #[.int .i64 x417, .int .i64 x418, .int .i64 x419, .int .i64 x420, .int .i64 x421, .int .i64 x422, .int .i64 x423, .int .i64 x424, .int .i64 x425, .int .i64 x426, .slice na437 x427.length nc438]), (51, .agg #[.int .i64 t393, .int .i64 t394, .int .i64 t395, .slice (ad N400) t397.length (nN400 / 4), .slice Q401a0 t396.length Q401c0]), (52, .int .i64 (wr64 (1 + t410))), (54, .slice Q401a0 t396.length Q401c0), (55, .int .i64 x415)] (([⟨b402, [.int .i64 t393, .int .i64 t394, .int .i64 t395, .slice (ad N400) t397.length (nN400 / 4), .slice Q401a0 t396.length Q401c0], 5⟩, ⟨N400, encL E_u84 t397, nN400⟩, ⟨b14, [.slice a_l0 l0.length c_l0, .int .i64 t398], 2⟩] : List Own) ++ (Q401F ++ [])) := by
                refine hstep [0, 13] _ _ _ (by kernel_rfl) (List.cons_ne_nil _ _) ⟨?_, ?_, trivial⟩
                · show T _ _ _ _ _ _ _ _
                  refine t_v (.ldn rfl rfl rfl (.at 0 rfl rfl)) ?_
                  exact t_fin [2, 3, 9, 10, 11, 43, 44, 49, 51, 52, 54, 55] hg_1f7f (by kernel_rfl)
                · show T _ _ _ _ _ _ _ _
                  refine t_v (.quiet rfl (ixs_sle rfl rfl la468 lz471 lu472)) ?_
                  exact t_fin [2, 3, 9, 10, 11, 44, 49, 51, 52, 56] hg_3f7e (by kernel_rfl)
              have hg_3e1f : G [true, true, true, true, true, false, false, false, false, true, true, true, true, true, false, false, false, false] [(2, .int .i64 (wr64 (1 + t410))), (3, .int .i64 (Int.tmod v3 1048576)), (9, .bool true), (10, .pointer (some ⟨b402, 0, none⟩)), (11, .int .i64 x415), (43, .agg #[.int .i64 t393, .int .i64 t394, .int .i64 t395, .slice (ad N400) t397.length (nN400 / 4), .slice Q401a0 t396.length Q401c0]), (44, .int .i64 (wr64 (1 + t410))), (46, .slice Q401a0 t396.length Q401c0), (47, .int .i64 x415), (52, .int .i64 (wr64 (1 + t410))), (56, .pointer (some ⟨lb465, lo466 + (x415).toNat * 11 + 0, none⟩))] (([⟨b402, [.int .i64 t393, .int .i64 t394, .int .i64 t395, .slice (ad N400) t397.length (nN400 / 4), .slice Q401a0 t396.length Q401c0], 5⟩, ⟨N400, encL E_u84 t397, nN400⟩, ⟨b14, [.slice a_l0 l0.length c_l0, .int .i64 t398], 2⟩] : List Own) ++ (Q401F ++ [])) := by
                refine hstep [5, 8, 14] _ _ _ (by kernel_rfl) (List.cons_ne_nil _ _) ⟨?_, ?_, ?_, trivial⟩
                · show T _ _ _ _ _ _ _ _
                  refine t_v (.quiet rfl (ixs_sle rfl rfl la432 lz435 lu436)) ?_
                  exact t_fin [2, 3, 9, 10, 11, 43, 44, 48, 52, 56] hg_3e3f (by kernel_rfl)
                · show T _ _ _ _ _ _ _ _
                  refine t_v (.ldn rfl rfl rfl (.at 0 rfl rfl)) ?_
                  exact t_fin [2, 3, 9, 10, 11, 43, 44, 46, 47, 51, 52, 56] hg_3f1f (by kernel_rfl)
                · show T _ _ _ _ _ _ _ _
                  refine t_v (.ldn (vs := [.int .i64 x453, .int .i64 x454, .int .i64 x455, .int .i64 x456, .int .i64 x457, .int .i64 x458, .int .i64 x459, .int .i64 x460, .int .i64 x461, .int .i64 x462, .slice na473 x463.length nc474]) rfl rfl rfl (rd_n lR469 (sub_app (seg_in 3 (X := (Q401F ++ [])) rfl seg_hd) sub_nil) (subl_sub lv470 (by kernel_rfl)))) ?_
                  exact t_fin [2, 3, 9, 10, 11, 43, 44, 46, 47, 52, 57] hg_7e1f (by kernel_rfl)
              have hg_7e1e : G [false, true, true, true, true, false, false, false, false, true, true, true, true, true, true, false, false, false] [(2, .int .i64 (wr64 (1 + t410))), (3, .int .i64 (Int.tmod v3 1048576)), (9, .bool true), (10, .pointer (some ⟨b402, 0, none⟩)), (11, .int .i64 x415), (44, .int .i64 (wr64 (1 + t410))), (46, .slice Q401a0 t396.length Q401c0), (47, .int .i64 x415), (52, .int .i64 (wr64 (1 + t410))), (57, .agg #[.int .i64 x453, .int .i64 x454, .int .i64 x455, .int .i64 x456, .int .i64 x457, .int .i64 x458, .int .i64 x459, .int .i64 x460, .int .i64 x461, .int .i64 x462, .slice na473 x463.length nc474])] (([⟨b402, [.int .i64 t393, .int .i64 t394, .int .i64 t395, .slice (ad N400) t397.length (nN400 / 4), .slice Q401a0 t396.length Q401c0], 5⟩, ⟨N400, encL E_u84 t397, nN400⟩, ⟨b14, [.slice a_l0 l0.length c_l0, .int .i64 t398], 2⟩] : List Own) ++ (Q401F ++ [])) := by
                refine hstep [0, 5, 8] _ _ _ (by kernel_rfl) (List.cons_ne_nil _ _) ⟨?_, ?_, ?_, trivial⟩
                · show T _ _ _ _ _ _ _ _
                  refine t_v (.ldn rfl rfl rfl (.at 0 rfl rfl)) ?_
                  exact t_fin [2, 3, 9, 10, 11, 43, 44, 46, 47, 52, 57] hg_7e1f (by kernel_rfl)
                · show T _ _ _ _ _ _ _ _
                  refine t_v (.quiet rfl (ixs_sle rfl rfl la432 lz435 lu436)) ?_
                  exact t_fin [2, 3, 9, 10, 11, 44, 48, 52, 57] hg_7e3e (by kernel_rfl)
                · show T _ _ _ _ _ _ _ _
                  refine t_v (.ldn rfl rfl rfl (.at 0 rfl rfl)) ?_
                  exact t_fin [2, 3, 9, 10, 11, 44, 46, 47, 51, 52, 57] hg_7f1e (by kernel_rfl)
              have hg_3e3e : G [false, true, true, true, true, true, false, false, false, true, true, true, true, true, false, false, false, false] [(2, .int .i64 (wr64 (1 + t410))), (3, .int .i64 (Int.tmod v3 1048576)), (9, .bool true), (10, .pointer (some ⟨b402, 0, none⟩)), (11, .int .i64 x415), (44, .int .i64 (wr64 (1 + t410))), (48, .pointer (some ⟨lb429, lo430 + (x415).toNat * 11 + 0, none⟩)), (52, .int .i64 (wr64 (1 + t410))), (56, .pointer (some ⟨lb465, lo466 + (x415).toNat * 11 + 0, none⟩))] (([⟨b402, [.int .i64 t393, .int .i64 t394, .int .i64 t395, .slice (ad N400) t397.length (nN400 / 4), .slice Q401a0 t396.length Q401c0], 5⟩, ⟨N400, encL E_u84 t397, nN400⟩, ⟨b14, [.slice a_l0 l0.length c_l0, .int .i64 t398], 2⟩] : List Own) ++ (Q401F ++ [])) := by
                refine hstep [0, 6, 8, 14] _ _ _ (by kernel_rfl) (List.cons_ne_nil _ _) ⟨?_, ?_, ?_, ?_, trivial⟩
                · show T _ _ _ _ _ _ _ _
                  refine t_v (.ldn rfl rfl rfl (.at 0 rfl rfl)) ?_
                  exact t_fin [2, 3, 9, 10, 11, 43, 44, 48, 52, 56] hg_3e3f (by kernel_rfl)
                · show T _ _ _ _ _ _ _ _
                  refine t_v (.ldn (vs := [.int .i64 x417, .int .i64 x418, .int .i64 x419, .int .i64 x420, .int .i64 x421, .int .i64 x422, .int .i64 x423, .int .i64 x424, .int .i64 x425, .int .i64 x426, .slice na437 x427.length nc438]) rfl rfl rfl (rd_n lR433 (sub_app (seg_in 3 (X := (Q401F ++ [])) rfl seg_hd) sub_nil) (subl_sub lv434 (by kernel_rfl)))) ?_
                  exact t_fin [2, 3, 9, 10, 11, 44, 49, 52, 56] hg_3e7e (by kernel_rfl)
                · show T _ _ _ _ _ _ _ _
                  refine t_v (.ldn rfl rfl rfl (.at 0 rfl rfl)) ?_
                  exact t_fin [2, 3, 9, 10, 11, 44, 48, 51, 52, 56] hg_3f3e (by kernel_rfl)
                · show T _ _ _ _ _ _ _ _
                  refine t_v (.ldn (vs := [.int .i64 x453, .int .i64 x454, .int .i64 x455, .int .i64 x456, .int .i64 x457, .int .i64 x458, .int .i64 x459, .int .i64 x460, .int .i64 x461, .int .i64 x462, .slice na473 x463.length nc474]) rfl rfl rfl (rd_n lR469 (sub_app (seg_in 3 (X := (Q401F ++ [])) rfl seg_hd) sub_nil) (subl_sub lv470 (by kernel_rfl)))) ?_
                  exact t_fin [2, 3, 9, 10, 11, 44, 48, 52, 57] hg_7e3e (by kernel_rfl)
              have hg_1e3f : G [true, true, true, true, true, true, false, false, false, true, true, true, true, false, false, false, false, false] [(2, .int .i64 (wr64 (1 + t410))), (3, .int .i64 (Int.tmod v3 1048576)), (9, .bool true), (10, .pointer (some ⟨b402, 0, none⟩)), (11, .int .i64 x415), (43, .agg #[.int .i64 t393, .int .i64 t394, .int .i64 t395, .slice (ad N400) t397.length (nN400 / 4), .slice Q401a0 t396.length Q401c0]), (44, .int .i64 (wr64 (1 + t410))), (48, .pointer (some ⟨lb429, lo430 + (x415).toNat * 11 + 0, none⟩)), (52, .int .i64 (wr64 (1 + t410))), (54, .slice Q401a0 t396.length Q401c0), (55, .int .i64 x415)] (([⟨b402, [.int .i64 t393, .int .i64 t394, .int .i64 t395, .slice (ad N400) t397.length (nN400 / 4), .slice Q401a0 t396.length Q401c0], 5⟩, ⟨N400, encL E_u84 t397, nN400⟩, ⟨b14, [.slice a_l0 l0.length c_l0, .int .i64 t398], 2⟩] : List Own) ++ (Q401F ++ [])) := by
                refine hstep [6, 8, 13] _ _ _ (by kernel_rfl) (List.cons_ne_nil _ _) ⟨?_, ?_, ?_, trivial⟩
                · show T _ _ _ _ _ _ _ _
                  refine t_v (.ldn (vs := [.int .i64 x417, .int .i64 x418, .int .i64 x419, .int .i64 x420, .int .i64 x421, .int .i64 x422, .int .i64 x423, .int .i64 x424, .int .i64 x425, .int .i64 x426, .slice na437 x427.length nc438]) rfl rfl rfl (rd_n lR433 (sub_app (seg_in 3 (X := (Q401F ++ [])) rfl seg_hd) sub_nil) (subl_sub lv434 (by kernel_rfl)))) ?_
                  exact t_fin [2, 3, 9, 10, 11, 43, 44, 49, 52, 54, 55] hg_1e7f (by kernel_rfl)
                · show T _ _ _ _ _ _ _ _
                  refine t_v (.ldn rfl rfl rfl (.at 0 rfl rfl)) ?_
                  exact t_fin [2, 3, 9, 10, 11, 43, 44, 48, 51, 52, 54, 55] hg_1f3f (by kernel_rfl)
                · show T _ _ _ _ _ _ _ _
                  refine t_v (.quiet rfl (ixs_sle rfl rfl la468 lz471 lu472)) ?_
                  exact t_fin [2, 3, 9, 10, 11, 43, 44, 48, 52, 56] hg_3e3f (by kernel_rfl)
              have hg_7e17 : G [true, true, true, false, true, false, false, false, false, true, true, true, true, true, true, false, false, false] [(2, .int .i64 (wr64 (1 + t410))), (3, .int .i64 (Int.tmod v3 1048576)), (9, .bool true), (10, .pointer (some ⟨b402, 0, none⟩)), (11, .int .i64 x415), (43, .agg #[.int .i64 t393, .int .i64 t394, .int .i64 t395, .slice (ad N400) t397.length (nN400 / 4), .slice Q401a0 t396.length Q401c0]), (44, .int .i64 (wr64 (1 + t410))), (45, .pointer (some ⟨b402, 4, none⟩)), (47, .int .i64 x415), (52, .int .i64 (wr64 (1 + t410))), (57, .agg #[.int .i64 x453, .int .i64 x454, .int .i64 x455, .int .i64 x456, .int .i64 x457, .int .i64 x458, .int .i64 x459, .int .i64 x460, .int .i64 x461, .int .i64 x462, .slice na473 x463.length nc474])] (([⟨b402, [.int .i64 t393, .int .i64 t394, .int .i64 t395, .slice (ad N400) t397.length (nN400 / 4), .slice Q401a0 t396.length Q401c0], 5⟩, ⟨N400, encL E_u84 t397, nN400⟩, ⟨b14, [.slice a_l0 l0.length c_l0, .int .i64 t398], 2⟩] : List Own) ++ (Q401F ++ [])) := by
                refine hstep [3, 8] _ _ _ (by kernel_rfl) (List.cons_ne_nil _ _) ⟨?_, ?_, trivial⟩
                · show T _ _ _ _ _ _ _ _
                  refine t_v (.ld1 rfl rfl rfl (.at 0 rfl rfl)) ?_
                  exact t_fin [2, 3, 9, 10, 11, 43, 44, 46, 47, 52, 57] hg_7e1f (by kernel_rfl)
                · show T _ _ _ _ _ _ _ _
                  refine t_v (.ldn rfl rfl rfl (.at 0 rfl rfl)) ?_
                  exact t_fin [2, 3, 9, 10, 11, 43, 44, 45, 47, 51, 52, 57] hg_7f17 (by kernel_rfl)
              have hg_1e7e : G [false, true, true, true, true, true, true, false, false, true, true, true, true, false, false, false, false, false] [(2, .int .i64 (wr64 (1 + t410))), (3, .int .i64 (Int.tmod v3 1048576)), (9, .bool true), (10, .pointer (some ⟨b402, 0, none⟩)), (11, .int .i64 x415), (44, .int .i64 (wr64 (1 + t410))), (49, .agg #[.int .i64 x417, .int .i64 x418, .int .i64 x419, .int .i64 x420, .int .i64 x421, .int .i64 x422, .int .i64 x423, .int .i64 x424, .int .i64 x425, .int .i64 x426, .slice na437 x427.length nc438]), (52, .int .i64 (wr64 (1 + t410))), (54, .slice Q401a0 t396.length Q401c0), (55, .int .i64 x415)] (([⟨b402, [.int .i64 t393, .int .i64 t394, .int .i64 t395, .slice (ad N400) t397.length (nN400 / 4), .slice Q401a0 t396.length Q401c0], 5⟩, ⟨N400, encL E_u84 t397, nN400⟩, ⟨b14, [.slice a_l0 l0.length c_l0, .int .i64 t398], 2⟩] : List Own) ++ (Q401F ++ [])) := by
                refine hstep [0, 8, 13] _ _ _ (by kernel_rfl) (List.cons_ne_nil _ _) ⟨?_, ?_, ?_, trivial⟩
                · show T _ _ _ _ _ _ _ _
                  refine t_v (.ldn rfl rfl rfl (.at 0 rfl rfl)) ?_
                  exact t_fin [2, 3, 9, 10, 11, 43, 44, 49, 52, 54, 55] hg_1e7f (by kernel_rfl)
                · show T _ _ _ _ _ _ _ _
                  refine t_v (.ldn rfl rfl rfl (.at 0 rfl rfl)) ?_
                  exact t_fin [2, 3, 9, 10, 11, 44, 49, 51, 52, 54, 55] hg_1f7e (by kernel_rfl)
                · show T _ _ _ _ _ _ _ _
                  refine t_v (.quiet rfl (ixs_sle rfl rfl la468 lz471 lu472)) ?_
                  exact t_fin [2, 3, 9, 10, 11, 44, 49, 52, 56] hg_3e7e (by kernel_rfl)
              have hg_167f : G [true, true, true, true, true, true, true, false, false, true, true, false, true, false, false, false, false, false] [(2, .int .i64 (wr64 (1 + t410))), (3, .int .i64 (Int.tmod v3 1048576)), (9, .bool true), (10, .pointer (some ⟨b402, 0, none⟩)), (11, .int .i64 x415), (43, .agg #[.int .i64 t393, .int .i64 t394, .int .i64 t395, .slice (ad N400) t397.length (nN400 / 4), .slice Q401a0 t396.length Q401c0]), (44, .int .i64 (wr64 (1 + t410))), (49, .agg #[.int .i64 x417, .int .i64 x418, .int .i64 x419, .int .i64 x420, .int .i64 x421, .int .i64 x422, .int .i64 x423, .int .i64 x424, .int .i64 x425, .int .i64 x426, .slice na437 x427.length nc438]), (52, .int .i64 (wr64 (1 + t410))), (53, .pointer (some ⟨b402, 4, none⟩)), (55, .int .i64 x415)] (([⟨b402, [.int .i64 t393, .int .i64 t394, .int .i64 t395, .slice (ad N400) t397.length (nN400 / 4), .slice Q401a0 t396.length Q401c0], 5⟩, ⟨N400, encL E_u84 t397, nN400⟩, ⟨b14, [.slice a_l0 l0.length c_l0, .int .i64 t398], 2⟩] : List Own) ++ (Q401F ++ [])) := by
                refine hstep [7, 8, 11] _ _ _ (by kernel_rfl) (List.cons_ne_nil _ _) ⟨?_, ?_, ?_, trivial⟩
                · show T _ _ _ _ _ _ _ _
                  refine t_call (vs := [.agg #[.int .i64 t393, .int .i64 t394, .int .i64 t395, .slice (ad N400) t397.length (nN400 / 4), .slice Q401a0 t396.length Q401c0], .int .i64 (wr64 (1 + t410)), .agg #[.int .i64 x417, .int .i64 x418, .int .i64 x419, .int .i64 x420, .int .i64 x421, .int .i64 x422, .int .i64 x423, .int .i64 x424, .int .i64 x425, .int .i64 x426, .slice na437 x427.length nc438]]) (H1 := ((Q401F ++ []) ++ [])) (F := ([⟨b402, [.int .i64 t393, .int .i64 t394, .int .i64 t395, .slice (ad N400) t397.length (nN400 / 4), .slice Q401a0 t396.length Q401c0], 5⟩, ⟨N400, encL E_u84 t397, nN400⟩, ⟨b14, [.slice a_l0 l0.length c_l0, .int .i64 t398], 2⟩] : List Own)) rfl rfl (by kernel_rfl) (tree_perm (.a (.l ([⟨b402, [.int .i64 t393, .int .i64 t394, .int .i64 t395, .slice (ad N400) t397.length (nN400 / 4), .slice Q401a0 t396.length Q401c0], 5⟩, ⟨N400, encL E_u84 t397, nN400⟩, ⟨b14, [.slice a_l0 l0.length c_l0, .int .i64 t398], 2⟩] : List Own)) (.a (.f Q401F) (.l []))) (.a (.a (.f Q401F) (.l [])) (.l ([] : List Own))) (.l ([⟨b402, [.int .i64 t393, .int .i64 t394, .int .i64 t395, .slice (ad N400) t397.length (nN400 / 4), .slice Q401a0 t396.length Q401c0], 5⟩, ⟨N400, encL E_u84 t397, nN400⟩, ⟨b14, [.slice a_l0 l0.length c_l0, .int .i64 t398], 2⟩] : List Own)) [3] (by kernel_rfl)) (cal_lendF (Qc := fun v_ H_ => ∃ (Q452a0 : Option Addr) (Q452c0 : Nat) (Q452F : List Own), v_ = (.agg #[.int .i64 t440, .int .i64 t441, .int .i64 t442, .int .i64 t443, .int .i64 t444, .int .i64 t445, .int .i64 t446, .int .i64 t447, .int .i64 t448, .int .i64 t449, .slice Q452a0 t450.length Q452c0]) ∧ H_ = (Q452F ++ []) ∧ SlN (rdOf (Q401F ++ (Q452F ++ [])) S) N_0 t450 Q452a0) (Q401F ++ []) fun S1_ le1_ hp1_ hs1_ hn1_ ex1_ => (scale_Cmd_v1.ok (EO.mono hE_ le1_ hp1_) (SlN.mono nh439 (rd_lend hs1_ le1_ (sub_app (seg_in 0 (X := (Q401F ++ [])) rfl seg_hd) sub_nil))) h451).mono fun _ _ _ ⟨Q452a0, Q452c0, Q452F, h1_, h2_, h3_, Q452h0⟩ => ⟨⟨Q452a0, Q452c0, Q452F, h1_, h2_, SlN.mono Q452h0 (rd_back ex1_ (sub_app (seg_in 0 (X := (Q401F ++ (Q452F ++ []))) rfl (seg_tl seg_hd)) sub_nil) (sub_app (seg_in 0 (X := (Q401F ++ (Q452F ++ []))) rfl seg_hd) sub_nil))⟩, h3_⟩) ?_
                  rintro _ _ S_ ⟨⟨_, rfl, Q452a0, Q452c0, Q452F, rfl, rfl, Q452h0⟩, hS_⟩
                  obtain rfl := hS_.symm
                  refine t_vs (H' := (([⟨b402, [.int .i64 t393, .int .i64 t394, .int .i64 t395, .slice (ad N400) t397.length (nN400 / 4), .slice Q401a0 t396.length Q401c0], 5⟩, ⟨N400, encL E_u84 t397, nN400⟩, ⟨b14, [.slice a_l0 l0.length c_l0, .int .i64 t398], 2⟩] : List Own) ++ (Q401F ++ (Q452F ++ [])))) (S' := S) (VS.treeA (.a (.a (.a (.f Q401F) (.l [])) (.a (.f Q452F) (.l []))) (.l ([⟨b402, [.int .i64 t393, .int .i64 t394, .int .i64 t395, .slice (ad N400) t397.length (nN400 / 4), .slice Q401a0 t396.length Q401c0], 5⟩, ⟨N400, encL E_u84 t397, nN400⟩, ⟨b14, [.slice a_l0 l0.length c_l0, .int .i64 t398], 2⟩] : List Own))) (.a (.l ([⟨b402, [.int .i64 t393, .int .i64 t394, .int .i64 t395, .slice (ad N400) t397.length (nN400 / 4), .slice Q401a0 t396.length Q401c0], 5⟩, ⟨N400, encL E_u84 t397, nN400⟩, ⟨b14, [.slice a_l0 l0.length c_l0, .int .i64 t398], 2⟩] : List Own)) (.a (.f Q401F) (.a (.f Q452F) (.l [])))) [2, 2, 2, 0, 0] (by kernel_rfl)) ?_
                  exact t_fin [2, 3, 9, 10, 11, 50, 52, 53, 55] (hg_16ff Q452a0 Q452c0 Q452F Q452h0) (by kernel_rfl)
                · show T _ _ _ _ _ _ _ _
                  refine t_v (.ldn rfl rfl rfl (.at 0 rfl rfl)) ?_
                  exact t_fin [2, 3, 9, 10, 11, 43, 44, 49, 51, 52, 53, 55] hg_177f (by kernel_rfl)
                · show T _ _ _ _ _ _ _ _
                  refine t_v (.ld1 rfl rfl rfl (.at 0 rfl rfl)) ?_
                  exact t_fin [2, 3, 9, 10, 11, 43, 44, 49, 52, 54, 55] hg_1e7f (by kernel_rfl)
              have hg_7f16 : G [false, true, true, false, true, false, false, false, true, true, true, true, true, true, true, false, false, false] [(2, .int .i64 (wr64 (1 + t410))), (3, .int .i64 (Int.tmod v3 1048576)), (9, .bool true), (10, .pointer (some ⟨b402, 0, none⟩)), (11, .int .i64 x415), (44, .int .i64 (wr64 (1 + t410))), (45, .pointer (some ⟨b402, 4, none⟩)), (47, .int .i64 x415), (51, .agg #[.int .i64 t393, .int .i64 t394, .int .i64 t395, .slice (ad N400) t397.length (nN400 / 4), .slice Q401a0 t396.length Q401c0]), (52, .int .i64 (wr64 (1 + t410))), (57, .agg #[.int .i64 x453, .int .i64 x454, .int .i64 x455, .int .i64 x456, .int .i64 x457, .int .i64 x458, .int .i64 x459, .int .i64 x460, .int .i64 x461, .int .i64 x462, .slice na473 x463.length nc474])] (([⟨b402, [.int .i64 t393, .int .i64 t394, .int .i64 t395, .slice (ad N400) t397.length (nN400 / 4), .slice Q401a0 t396.length Q401c0], 5⟩, ⟨N400, encL E_u84 t397, nN400⟩, ⟨b14, [.slice a_l0 l0.length c_l0, .int .i64 t398], 2⟩] : List Own) ++ (Q401F ++ [])) := by
                refine hstep [0, 3] _ _ _ (by kernel_rfl) (List.cons_ne_nil _ _) ⟨?_, ?_, trivial⟩
                · show T _ _ _ _ _ _ _ _
                  refine t_v (.ldn rfl rfl rfl (.at 0 rfl rfl)) ?_
                  exact t_fin [2, 3, 9, 10, 11, 43, 44, 45, 47, 51, 52, 57] hg_7f17 (by kernel_rfl)
                · show T _ _ _ _ _ _ _ _
                  refine t_v (.ld1 rfl rfl rfl (.at 0 rfl rfl)) ?_
                  exact t_fin [2, 3, 9, 10, 11, 44, 46, 47, 51, 52, 57] hg_7f1e (by kernel_rfl)
              have hg_3f17 : G [true, true, true, false, true, false, false, false, true, true, true, true, true, true, false, false, false, false] [(2, .int .i64 (wr64 (1 + t410))), (3, .int .i64 (Int.tmod v3 1048576)), (9, .bool true), (10, .pointer (some ⟨b402, 0, none⟩)), (11, .int .i64 x415), (43, .agg #[.int .i64 t393, .int .i64 t394, .int .i64 t395, .slice (ad N400) t397.length (nN400 / 4), .slice Q401a0 t396.length Q401c0]), (44, .int .i64 (wr64 (1 + t410))), (45, .pointer (some ⟨b402, 4, none⟩)), (47, .int .i64 x415), (51, .agg #[.int .i64 t393, .int .i64 t394, .int .i64 t395, .slice (ad N400) t397.length (nN400 / 4), .slice Q401a0 t396.length Q401c0]), (52, .int .i64 (wr64 (1 + t410))), (56, .pointer (some ⟨lb465, lo466 + (x415).toNat * 11 + 0, none⟩))] (([⟨b402, [.int .i64 t393, .int .i64 t394, .int .i64 t395, .slice (ad N400) t397.length (nN400 / 4), .slice Q401a0 t396.length Q401c0], 5⟩, ⟨N400, encL E_u84 t397, nN400⟩, ⟨b14, [.slice a_l0 l0.length c_l0, .int .i64 t398], 2⟩] : List Own) ++ (Q401F ++ [])) := by
                refine hstep [3, 14] _ _ _ (by kernel_rfl) (List.cons_ne_nil _ _) ⟨?_, ?_, trivial⟩
                · show T _ _ _ _ _ _ _ _
                  refine t_v (.ld1 rfl rfl rfl (.at 0 rfl rfl)) ?_
                  exact t_fin [2, 3, 9, 10, 11, 43, 44, 46, 47, 51, 52, 56] hg_3f1f (by kernel_rfl)
                · show T _ _ _ _ _ _ _ _
                  refine t_v (.ldn (vs := [.int .i64 x453, .int .i64 x454, .int .i64 x455, .int .i64 x456, .int .i64 x457, .int .i64 x458, .int .i64 x459, .int .i64 x460, .int .i64 x461, .int .i64 x462, .slice na473 x463.length nc474]) rfl rfl rfl (rd_n lR469 (sub_app (seg_in 3 (X := (Q401F ++ [])) rfl seg_hd) sub_nil) (subl_sub lv470 (by kernel_rfl)))) ?_
                  exact t_fin [2, 3, 9, 10, 11, 43, 44, 45, 47, 51, 52, 57] hg_7f17 (by kernel_rfl)
              have hg_1f1f : G [true, true, true, true, true, false, false, false, true, true, true, true, true, false, false, false, false, false] [(2, .int .i64 (wr64 (1 + t410))), (3, .int .i64 (Int.tmod v3 1048576)), (9, .bool true), (10, .pointer (some ⟨b402, 0, none⟩)), (11, .int .i64 x415), (43, .agg #[.int .i64 t393, .int .i64 t394, .int .i64 t395, .slice (ad N400) t397.length (nN400 / 4), .slice Q401a0 t396.length Q401c0]), (44, .int .i64 (wr64 (1 + t410))), (46, .slice Q401a0 t396.length Q401c0), (47, .int .i64 x415), (51, .agg #[.int .i64 t393, .int .i64 t394, .int .i64 t395, .slice (ad N400) t397.length (nN400 / 4), .slice Q401a0 t396.length Q401c0]), (52, .int .i64 (wr64 (1 + t410))), (54, .slice Q401a0 t396.length Q401c0), (55, .int .i64 x415)] (([⟨b402, [.int .i64 t393, .int .i64 t394, .int .i64 t395, .slice (ad N400) t397.length (nN400 / 4), .slice Q401a0 t396.length Q401c0], 5⟩, ⟨N400, encL E_u84 t397, nN400⟩, ⟨b14, [.slice a_l0 l0.length c_l0, .int .i64 t398], 2⟩] : List Own) ++ (Q401F ++ [])) := by
                refine hstep [5, 13] _ _ _ (by kernel_rfl) (List.cons_ne_nil _ _) ⟨?_, ?_, trivial⟩
                · show T _ _ _ _ _ _ _ _
                  refine t_v (.quiet rfl (ixs_sle rfl rfl la432 lz435 lu436)) ?_
                  exact t_fin [2, 3, 9, 10, 11, 43, 44, 48, 51, 52, 54, 55] hg_1f3f (by kernel_rfl)
                · show T _ _ _ _ _ _ _ _
                  refine t_v (.quiet rfl (ixs_sle rfl rfl la468 lz471 lu472)) ?_
                  exact t_fin [2, 3, 9, 10, 11, 43, 44, 46, 47, 51, 52, 56] hg_3f1f (by kernel_rfl)
              have hg_3f1e : G [false, true, true, true, true, false, false, false, true, true, true, true, true, true, false, false, false, false] [(2, .int .i64 (wr64 (1 + t410))), (3, .int .i64 (Int.tmod v3 1048576)), (9, .bool true), (10, .pointer (some ⟨b402, 0, none⟩)), (11, .int .i64 x415), (44, .int .i64 (wr64 (1 + t410))), (46, .slice Q401a0 t396.length Q401c0), (47, .int .i64 x415), (51, .agg #[.int .i64 t393, .int .i64 t394, .int .i64 t395, .slice (ad N400) t397.length (nN400 / 4), .slice Q401a0 t396.length Q401c0]), (52, .int .i64 (wr64 (1 + t410))), (56, .pointer (some ⟨lb465, lo466 + (x415).toNat * 11 + 0, none⟩))] (([⟨b402, [.int .i64 t393, .int .i64 t394, .int .i64 t395, .slice (ad N400) t397.length (nN400 / 4), .slice Q401a0 t396.length Q401c0], 5⟩, ⟨N400, encL E_u84 t397, nN400⟩, ⟨b14, [.slice a_l0 l0.length c_l0, .int .i64 t398], 2⟩] : List Own) ++ (Q401F ++ [])) := by
                refine hstep [0, 5, 14] _ _ _ (by kernel_rfl) (List.cons_ne_nil _ _) ⟨?_, ?_, ?_, trivial⟩
                · show T _ _ _ _ _ _ _ _
                  refine t_v (.ldn rfl rfl rfl (.at 0 rfl rfl)) ?_
                  exact t_fin [2, 3, 9, 10, 11, 43, 44, 46, 47, 51, 52, 56] hg_3f1f (by kernel_rfl)
                · show T _ _ _ _ _ _ _ _
                  refine t_v (.quiet rfl (ixs_sle rfl rfl la432 lz435 lu436)) ?_
                  exact t_fin [2, 3, 9, 10, 11, 44, 48, 51, 52, 56] hg_3f3e (by kernel_rfl)
                · show T _ _ _ _ _ _ _ _
                  refine t_v (.ldn (vs := [.int .i64 x453, .int .i64 x454, .int .i64 x455, .int .i64 x456, .int .i64 x457, .int .i64 x458, .int .i64 x459, .int .i64 x460, .int .i64 x461, .int .i64 x462, .slice na473 x463.length nc474]) rfl rfl rfl (rd_n lR469 (sub_app (seg_in 3 (X := (Q401F ++ [])) rfl seg_hd) sub_nil) (subl_sub lv470 (by kernel_rfl)))) ?_
                  exact t_fin [2, 3, 9, 10, 11, 44, 46, 47, 51, 52, 57] hg_7f1e (by kernel_rfl)
              have hg_1f3e : G [false, true, true, true, true, true, false, false, true, true, true, true, true, false, false, false, false, false] [(2, .int .i64 (wr64 (1 + t410))), (3, .int .i64 (Int.tmod v3 1048576)), (9, .bool true), (10, .pointer (some ⟨b402, 0, none⟩)), (11, .int .i64 x415), (44, .int .i64 (wr64 (1 + t410))), (48, .pointer (some ⟨lb429, lo430 + (x415).toNat * 11 + 0, none⟩)), (51, .agg #[.int .i64 t393, .int .i64 t394, .int .i64 t395, .slice (ad N400) t397.length (nN400 / 4), .slice Q401a0 t396.length Q401c0]), (52, .int .i64 (wr64 (1 + t410))), (54, .slice Q401a0 t396.length Q401c0), (55, .int .i64 x415)] (([⟨b402, [.int .i64 t393, .int .i64 t394, .int .i64 t395, .slice (ad N400) t397.length (nN400 / 4), .slice Q401a0 t396.length Q401c0], 5⟩, ⟨N400, encL E_u84 t397, nN400⟩, ⟨b14, [.slice a_l0 l0.length c_l0, .int .i64 t398], 2⟩] : List Own) ++ (Q401F ++ [])) := by
                refine hstep [0, 6, 13] _ _ _ (by kernel_rfl) (List.cons_ne_nil _ _) ⟨?_, ?_, ?_, trivial⟩
                · show T _ _ _ _ _ _ _ _
                  refine t_v (.ldn rfl rfl rfl (.at 0 rfl rfl)) ?_
                  exact t_fin [2, 3, 9, 10, 11, 43, 44, 48, 51, 52, 54, 55] hg_1f3f (by kernel_rfl)
                · show T _ _ _ _ _ _ _ _
                  refine t_v (.ldn (vs := [.int .i64 x417, .int .i64 x418, .int .i64 x419, .int .i64 x420, .int .i64 x421, .int .i64 x422, .int .i64 x423, .int .i64 x424, .int .i64 x425, .int .i64 x426, .slice na437 x427.length nc438]) rfl rfl rfl (rd_n lR433 (sub_app (seg_in 3 (X := (Q401F ++ [])) rfl seg_hd) sub_nil) (subl_sub lv434 (by kernel_rfl)))) ?_
                  exact t_fin [2, 3, 9, 10, 11, 44, 49, 51, 52, 54, 55] hg_1f7e (by kernel_rfl)
                · show T _ _ _ _ _ _ _ _
                  refine t_v (.quiet rfl (ixs_sle rfl rfl la468 lz471 lu472)) ?_
                  exact t_fin [2, 3, 9, 10, 11, 44, 48, 51, 52, 56] hg_3f3e (by kernel_rfl)
              have hg_173f : G [true, true, true, true, true, true, false, false, true, true, true, false, true, false, false, false, false, false] [(2, .int .i64 (wr64 (1 + t410))), (3, .int .i64 (Int.tmod v3 1048576)), (9, .bool true), (10, .pointer (some ⟨b402, 0, none⟩)), (11, .int .i64 x415), (43, .agg #[.int .i64 t393, .int .i64 t394, .int .i64 t395, .slice (ad N400) t397.length (nN400 / 4), .slice Q401a0 t396.length Q401c0]), (44, .int .i64 (wr64 (1 + t410))), (48, .pointer (some ⟨lb429, lo430 + (x415).toNat * 11 + 0, none⟩)), (51, .agg #[.int .i64 t393, .int .i64 t394, .int .i64 t395, .slice (ad N400) t397.length (nN400 / 4), .slice Q401a0 t396.length Q401c0]), (52, .int .i64 (wr64 (1 + t410))), (53, .pointer (some ⟨b402, 4, none⟩)), (55, .int .i64 x415)] (([⟨b402, [.int .i64 t393, .int .i64 t394, .int .i64 t395, .slice (ad N400) t397.length (nN400 / 4), .slice Q401a0 t396.length Q401c0], 5⟩, ⟨N400, encL E_u84 t397, nN400⟩, ⟨b14, [.slice a_l0 l0.length c_l0, .int .i64 t398], 2⟩] : List Own) ++ (Q401F ++ [])) := by
                refine hstep [6, 11] _ _ _ (by kernel_rfl) (List.cons_ne_nil _ _) ⟨?_, ?_, trivial⟩
                · show T _ _ _ _ _ _ _ _
                  refine t_v (.ldn (vs := [.int .i64 x417, .int .i64 x418, .int .i64 x419, .int .i64 x420, .int .i64 x421, .int .i64 x422, .int .i64 x423, .int .i64 x424, .int .i64 x425, .int .i64 x426, .slice na437 x427.length nc438]) rfl rfl rfl (rd_n lR433 (sub_app (seg_in 3 (X := (Q401F ++ [])) rfl seg_hd) sub_nil) (subl_sub lv434 (by kernel_rfl)))) ?_
                  exact t_fin [2, 3, 9, 10, 11, 43, 44, 49, 51, 52, 53, 55] hg_177f (by kernel_rfl)
                · show T _ _ _ _ _ _ _ _
                  refine t_v (.ld1 rfl rfl rfl (.at 0 rfl rfl)) ?_
                  exact t_fin [2, 3, 9, 10, 11, 43, 44, 48, 51, 52, 54, 55] hg_1f3f (by kernel_rfl)
              have hg_177e : G [false, true, true, true, true, true, true, false, true, true, true, false, true, false, false, false, false, false] [(2, .int .i64 (wr64 (1 + t410))), (3, .int .i64 (Int.tmod v3 1048576)), (9, .bool true), (10, .pointer (some ⟨b402, 0, none⟩)), (11, .int .i64 x415), (44, .int .i64 (wr64 (1 + t410))), (49, .agg #[.int .i64 x417, .int .i64 x418, .int .i64 x419, .int .i64 x420, .int .i64 x421, .int .i64 x422, .int .i64 x423, .int .i64 x424, .int .i64 x425, .int .i64 x426, .slice na437 x427.length nc438]), (51, .agg #[.int .i64 t393, .int .i64 t394, .int .i64 t395, .slice (ad N400) t397.length (nN400 / 4), .slice Q401a0 t396.length Q401c0]), (52, .int .i64 (wr64 (1 + t410))), (53, .pointer (some ⟨b402, 4, none⟩)), (55, .int .i64 x415)] (([⟨b402, [.int .i64 t393, .int .i64 t394, .int .i64 t395, .slice (ad N400) t397.length (nN400 / 4), .slice Q401a0 t396.length Q401c0], 5⟩, ⟨N400, encL E_u84 t397, nN400⟩, ⟨b14, [.slice a_l0 l0.length c_l0, .int .i64 t398], 2⟩] : List Own) ++ (Q401F ++ [])) := by
                refine hstep [0, 11] _ _ _ (by kernel_rfl) (List.cons_ne_nil _ _) ⟨?_, ?_, trivial⟩
                · show T _ _ _ _ _ _ _ _
                  refine t_v (.ldn rfl rfl rfl (.at 0 rfl rfl)) ?_
                  exact t_fin [2, 3, 9, 10, 11, 43, 44, 49, 51, 52, 53, 55] hg_177f (by kernel_rfl)
                · show T _ _ _ _ _ _ _ _
                  refine t_v (.ld1 rfl rfl rfl (.at 0 rfl rfl)) ?_
                  exact t_fin [2, 3, 9, 10, 11, 44, 49, 51, 52, 54, 55] hg_1f7e (by kernel_rfl)
              have hg_7e16 : G [false, true, true, false, true, false, false, false, false, true, true, true, true, true, true, false, false, false] [(2, .int .i64 (wr64 (1 + t410))), (3, .int .i64 (Int.tmod v3 1048576)), (9, .bool true), (10, .pointer (some ⟨b402, 0, none⟩)), (11, .int .i64 x415), (44, .int .i64 (wr64 (1 + t410))), (45, .pointer (some ⟨b402, 4, none⟩)), (47, .int .i64 x415), (52, .int .i64 (wr64 (1 + t410))), (57, .agg #[.int .i64 x453, .int .i64 x454, .int .i64 x455, .int .i64 x456, .int .i64 x457, .int .i64 x458, .int .i64 x459, .int .i64 x460, .int .i64 x461, .int .i64 x462, .slice na473 x463.length nc474])] (([⟨b402, [.int .i64 t393, .int .i64 t394, .int .i64 t395, .slice (ad N400) t397.length (nN400 / 4), .slice Q401a0 t396.length Q401c0], 5⟩, ⟨N400, encL E_u84 t397, nN400⟩, ⟨b14, [.slice a_l0 l0.length c_l0, .int .i64 t398], 2⟩] : List Own) ++ (Q401F ++ [])) := by
                refine hstep [0, 3, 8] _ _ _ (by kernel_rfl) (List.cons_ne_nil _ _) ⟨?_, ?_, ?_, trivial⟩
                · show T _ _ _ _ _ _ _ _
                  refine t_v (.ldn rfl rfl rfl (.at 0 rfl rfl)) ?_
                  exact t_fin [2, 3, 9, 10, 11, 43, 44, 45, 47, 52, 57] hg_7e17 (by kernel_rfl)
                · show T _ _ _ _ _ _ _ _
                  refine t_v (.ld1 rfl rfl rfl (.at 0 rfl rfl)) ?_
                  exact t_fin [2, 3, 9, 10, 11, 44, 46, 47, 52, 57] hg_7e1e (by kernel_rfl)
                · show T _ _ _ _ _ _ _ _
                  refine t_v (.ldn rfl rfl rfl (.at 0 rfl rfl)) ?_
                  exact t_fin [2, 3, 9, 10, 11, 44, 45, 47, 51, 52, 57] hg_7f16 (by kernel_rfl)
              have hg_3e17 : G [true, true, true, false, true, false, false, false, false, true, true, true, true, true, false, false, false, false] [(2, .int .i64 (wr64 (1 + t410))), (3, .int .i64 (Int.tmod v3 1048576)), (9, .bool true), (10, .pointer (some ⟨b402, 0, none⟩)), (11, .int .i64 x415), (43, .agg #[.int .i64 t393, .int .i64 t394, .int .i64 t395, .slice (ad N400) t397.length (nN400 / 4), .slice Q401a0 t396.length Q401c0]), (44, .int .i64 (wr64 (1 + t410))), (45, .pointer (some ⟨b402, 4, none⟩)), (47, .int .i64 x415), (52, .int .i64 (wr64 (1 + t410))), (56, .pointer (some ⟨lb465, lo466 + (x415).toNat * 11 + 0, none⟩))] (([⟨b402, [.int .i64 t393, .int .i64 t394, .int .i64 t395, .slice (ad N400) t397.length (nN400 / 4), .slice Q401a0 t396.length Q401c0], 5⟩, ⟨N400, encL E_u84 t397, nN400⟩, ⟨b14, [.slice a_l0 l0.length c_l0, .int .i64 t398], 2⟩] : List Own) ++ (Q401F ++ [])) := by
                refine hstep [3, 8, 14] _ _ _ (by kernel_rfl) (List.cons_ne_nil _ _) ⟨?_, ?_, ?_, trivial⟩
                · show T _ _ _ _ _ _ _ _
                  refine t_v (.ld1 rfl rfl rfl (.at 0 rfl rfl)) ?_
                  exact t_fin [2, 3, 9, 10, 11, 43, 44, 46, 47, 52, 56] hg_3e1f (by kernel_rfl)
                · show T _ _ _ _ _ _ _ _
                  refine t_v (.ldn rfl rfl rfl (.at 0 rfl rfl)) ?_
                  exact t_fin [2, 3, 9, 10, 11, 43, 44, 45, 47, 51, 52, 56] hg_3f17 (by kernel_rfl)
                · show T _ _ _ _ _ _ _ _
                  refine t_v (.ldn (vs := [.int .i64 x453, .int .i64 x454, .int .i64 x455, .int .i64 x456, .int .i64 x457, .int .i64 x458, .int .i64 x459, .int .i64 x460, .int .i64 x461, .int .i64 x462, .slice na473 x463.length nc474]) rfl rfl rfl (rd_n lR469 (sub_app (seg_in 3 (X := (Q401F ++ [])) rfl seg_hd) sub_nil) (subl_sub lv470 (by kernel_rfl)))) ?_
                  exact t_fin [2, 3, 9, 10, 11, 43, 44, 45, 47, 52, 57] hg_7e17 (by kernel_rfl)
              have hg_1e1f : G [true, true, true, true, true, false, false, false, false, true, true, true, true, false, false, false, false, false] [(2, .int .i64 (wr64 (1 + t410))), (3, .int .i64 (Int.tmod v3 1048576)), (9, .bool true), (10, .pointer (some ⟨b402, 0, none⟩)), (11, .int .i64 x415), (43, .agg #[.int .i64 t393, .int .i64 t394, .int .i64 t395, .slice (ad N400) t397.length (nN400 / 4), .slice Q401a0 t396.length Q401c0]), (44, .int .i64 (wr64 (1 + t410))), (46, .slice Q401a0 t396.length Q401c0), (47, .int .i64 x415), (52, .int .i64 (wr64 (1 + t410))), (54, .slice Q401a0 t396.length Q401c0), (55, .int .i64 x415)] (([⟨b402, [.int .i64 t393, .int .i64 t394, .int .i64 t395, .slice (ad N400) t397.length (nN400 / 4), .slice Q401a0 t396.length Q401c0], 5⟩, ⟨N400, encL E_u84 t397, nN400⟩, ⟨b14, [.slice a_l0 l0.length c_l0, .int .i64 t398], 2⟩] : List Own) ++ (Q401F ++ [])) := by
                refine hstep [5, 8, 13] _ _ _ (by kernel_rfl) (List.cons_ne_nil _ _) ⟨?_, ?_, ?_, trivial⟩
                · show T _ _ _ _ _ _ _ _
                  refine t_v (.quiet rfl (ixs_sle rfl rfl la432 lz435 lu436)) ?_
                  exact t_fin [2, 3, 9, 10, 11, 43, 44, 48, 52, 54, 55] hg_1e3f (by kernel_rfl)
                · show T _ _ _ _ _ _ _ _
                  refine t_v (.ldn rfl rfl rfl (.at 0 rfl rfl)) ?_
                  exact t_fin [2, 3, 9, 10, 11, 43, 44, 46, 47, 51, 52, 54, 55] hg_1f1f (by kernel_rfl)
                · show T _ _ _ _ _ _ _ _
                  refine t_v (.quiet rfl (ixs_sle rfl rfl la468 lz471 lu472)) ?_
                  exact t_fin [2, 3, 9, 10, 11, 43, 44, 46, 47, 52, 56] hg_3e1f (by kernel_rfl)
              have hg_3e1e : G [false, true, true, true, true, false, false, false, false, true, true, true, true, true, false, false, false, false] [(2, .int .i64 (wr64 (1 + t410))), (3, .int .i64 (Int.tmod v3 1048576)), (9, .bool true), (10, .pointer (some ⟨b402, 0, none⟩)), (11, .int .i64 x415), (44, .int .i64 (wr64 (1 + t410))), (46, .slice Q401a0 t396.length Q401c0), (47, .int .i64 x415), (52, .int .i64 (wr64 (1 + t410))), (56, .pointer (some ⟨lb465, lo466 + (x415).toNat * 11 + 0, none⟩))] (([⟨b402, [.int .i64 t393, .int .i64 t394, .int .i64 t395, .slice (ad N400) t397.length (nN400 / 4), .slice Q401a0 t396.length Q401c0], 5⟩, ⟨N400, encL E_u84 t397, nN400⟩, ⟨b14, [.slice a_l0 l0.length c_l0, .int .i64 t398], 2⟩] : List Own) ++ (Q401F ++ [])) := by
                refine hstep [0, 5, 8, 14] _ _ _ (by kernel_rfl) (List.cons_ne_nil _ _) ⟨?_, ?_, ?_, ?_, trivial⟩
                · show T _ _ _ _ _ _ _ _
                  refine t_v (.ldn rfl rfl rfl (.at 0 rfl rfl)) ?_
                  exact t_fin [2, 3, 9, 10, 11, 43, 44, 46, 47, 52, 56] hg_3e1f (by kernel_rfl)
                · show T _ _ _ _ _ _ _ _
                  refine t_v (.quiet rfl (ixs_sle rfl rfl la432 lz435 lu436)) ?_
                  exact t_fin [2, 3, 9, 10, 11, 44, 48, 52, 56] hg_3e3e (by kernel_rfl)
                · show T _ _ _ _ _ _ _ _
                  refine t_v (.ldn rfl rfl rfl (.at 0 rfl rfl)) ?_
                  exact t_fin [2, 3, 9, 10, 11, 44, 46, 47, 51, 52, 56] hg_3f1e (by kernel_rfl)
                · show T _ _ _ _ _ _ _ _
                  refine t_v (.ldn (vs := [.int .i64 x453, .int .i64 x454, .int .i64 x455, .int .i64 x456, .int .i64 x457, .int .i64 x458, .int .i64 x459, .int .i64 x460, .int .i64 x461, .int .i64 x462, .slice na473 x463.length nc474]) rfl rfl rfl (rd_n lR469 (sub_app (seg_in 3 (X := (Q401F ++ [])) rfl seg_hd) sub_nil) (subl_sub lv470 (by kernel_rfl)))) ?_
                  exact t_fin [2, 3, 9, 10, 11, 44, 46, 47, 52, 57] hg_7e1e (by kernel_rfl)
              have hg_1e3e : G [false, true, true, true, true, true, false, false, false, true, true, true, true, false, false, false, false, false] [(2, .int .i64 (wr64 (1 + t410))), (3, .int .i64 (Int.tmod v3 1048576)), (9, .bool true), (10, .pointer (some ⟨b402, 0, none⟩)), (11, .int .i64 x415), (44, .int .i64 (wr64 (1 + t410))), (48, .pointer (some ⟨lb429, lo430 + (x415).toNat * 11 + 0, none⟩)), (52, .int .i64 (wr64 (1 + t410))), (54, .slice Q401a0 t396.length Q401c0), (55, .int .i64 x415)] (([⟨b402, [.int .i64 t393, .int .i64 t394, .int .i64 t395, .slice (ad N400) t397.length (nN400 / 4), .slice Q401a0 t396.length Q401c0], 5⟩, ⟨N400, encL E_u84 t397, nN400⟩, ⟨b14, [.slice a_l0 l0.length c_l0, .int .i64 t398], 2⟩] : List Own) ++ (Q401F ++ [])) := by
                refine hstep [0, 6, 8, 13] _ _ _ (by kernel_rfl) (List.cons_ne_nil _ _) ⟨?_, ?_, ?_, ?_, trivial⟩
                · show T _ _ _ _ _ _ _ _
                  refine t_v (.ldn rfl rfl rfl (.at 0 rfl rfl)) ?_
                  exact t_fin [2, 3, 9, 10, 11, 43, 44, 48, 52, 54, 55] hg_1e3f (by kernel_rfl)
                · show T _ _ _ _ _ _ _ _
                  refine t_v (.ldn (vs := [.int .i64 x417, .int .i64 x418, .int .i64 x419, .int .i64 x420, .int .i64 x421, .int .i64 x422, .int .i64 x423, .int .i64 x424, .int .i64 x425, .int .i64 x426, .slice na437 x427.length nc438]) rfl rfl rfl (rd_n lR433 (sub_app (seg_in 3 (X := (Q401F ++ [])) rfl seg_hd) sub_nil) (subl_sub lv434 (by kernel_rfl)))) ?_
                  exact t_fin [2, 3, 9, 10, 11, 44, 49, 52, 54, 55] hg_1e7e (by kernel_rfl)
                · show T _ _ _ _ _ _ _ _
                  refine t_v (.ldn rfl rfl rfl (.at 0 rfl rfl)) ?_
                  exact t_fin [2, 3, 9, 10, 11, 44, 48, 51, 52, 54, 55] hg_1f3e (by kernel_rfl)
                · show T _ _ _ _ _ _ _ _
                  refine t_v (.quiet rfl (ixs_sle rfl rfl la468 lz471 lu472)) ?_
                  exact t_fin [2, 3, 9, 10, 11, 44, 48, 52, 56] hg_3e3e (by kernel_rfl)
              have hg_163f : G [true, true, true, true, true, true, false, false, false, true, true, false, true, false, false, false, false, false] [(2, .int .i64 (wr64 (1 + t410))), (3, .int .i64 (Int.tmod v3 1048576)), (9, .bool true), (10, .pointer (some ⟨b402, 0, none⟩)), (11, .int .i64 x415), (43, .agg #[.int .i64 t393, .int .i64 t394, .int .i64 t395, .slice (ad N400) t397.length (nN400 / 4), .slice Q401a0 t396.length Q401c0]), (44, .int .i64 (wr64 (1 + t410))), (48, .pointer (some ⟨lb429, lo430 + (x415).toNat * 11 + 0, none⟩)), (52, .int .i64 (wr64 (1 + t410))), (53, .pointer (some ⟨b402, 4, none⟩)), (55, .int .i64 x415)] (([⟨b402, [.int .i64 t393, .int .i64 t394, .int .i64 t395, .slice (ad N400) t397.length (nN400 / 4), .slice Q401a0 t396.length Q401c0], 5⟩, ⟨N400, encL E_u84 t397, nN400⟩, ⟨b14, [.slice a_l0 l0.length c_l0, .int .i64 t398], 2⟩] : List Own) ++ (Q401F ++ [])) := by
                refine hstep [6, 8, 11] _ _ _ (by kernel_rfl) (List.cons_ne_nil _ _) ⟨?_, ?_, ?_, trivial⟩
                · show T _ _ _ _ _ _ _ _
                  refine t_v (.ldn (vs := [.int .i64 x417, .int .i64 x418, .int .i64 x419, .int .i64 x420, .int .i64 x421, .int .i64 x422, .int .i64 x423, .int .i64 x424, .int .i64 x425, .int .i64 x426, .slice na437 x427.length nc438]) rfl rfl rfl (rd_n lR433 (sub_app (seg_in 3 (X := (Q401F ++ [])) rfl seg_hd) sub_nil) (subl_sub lv434 (by kernel_rfl)))) ?_
                  exact t_fin [2, 3, 9, 10, 11, 43, 44, 49, 52, 53, 55] hg_167f (by kernel_rfl)
                · show T _ _ _ _ _ _ _ _
                  refine t_v (.ldn rfl rfl rfl (.at 0 rfl rfl)) ?_
                  exact t_fin [2, 3, 9, 10, 11, 43, 44, 48, 51, 52, 53, 55] hg_173f (by kernel_rfl)
                · show T _ _ _ _ _ _ _ _
                  refine t_v (.ld1 rfl rfl rfl (.at 0 rfl rfl)) ?_
                  exact t_fin [2, 3, 9, 10, 11, 43, 44, 48, 52, 54, 55] hg_1e3f (by kernel_rfl)
              have hg_167e : G [false, true, true, true, true, true, true, false, false, true, true, false, true, false, false, false, false, false] [(2, .int .i64 (wr64 (1 + t410))), (3, .int .i64 (Int.tmod v3 1048576)), (9, .bool true), (10, .pointer (some ⟨b402, 0, none⟩)), (11, .int .i64 x415), (44, .int .i64 (wr64 (1 + t410))), (49, .agg #[.int .i64 x417, .int .i64 x418, .int .i64 x419, .int .i64 x420, .int .i64 x421, .int .i64 x422, .int .i64 x423, .int .i64 x424, .int .i64 x425, .int .i64 x426, .slice na437 x427.length nc438]), (52, .int .i64 (wr64 (1 + t410))), (53, .pointer (some ⟨b402, 4, none⟩)), (55, .int .i64 x415)] (([⟨b402, [.int .i64 t393, .int .i64 t394, .int .i64 t395, .slice (ad N400) t397.length (nN400 / 4), .slice Q401a0 t396.length Q401c0], 5⟩, ⟨N400, encL E_u84 t397, nN400⟩, ⟨b14, [.slice a_l0 l0.length c_l0, .int .i64 t398], 2⟩] : List Own) ++ (Q401F ++ [])) := by
                refine hstep [0, 8, 11] _ _ _ (by kernel_rfl) (List.cons_ne_nil _ _) ⟨?_, ?_, ?_, trivial⟩
                · show T _ _ _ _ _ _ _ _
                  refine t_v (.ldn rfl rfl rfl (.at 0 rfl rfl)) ?_
                  exact t_fin [2, 3, 9, 10, 11, 43, 44, 49, 52, 53, 55] hg_167f (by kernel_rfl)
                · show T _ _ _ _ _ _ _ _
                  refine t_v (.ldn rfl rfl rfl (.at 0 rfl rfl)) ?_
                  exact t_fin [2, 3, 9, 10, 11, 44, 49, 51, 52, 53, 55] hg_177e (by kernel_rfl)
                · show T _ _ _ _ _ _ _ _
                  refine t_v (.ld1 rfl rfl rfl (.at 0 rfl rfl)) ?_
                  exact t_fin [2, 3, 9, 10, 11, 44, 49, 52, 54, 55] hg_1e7e (by kernel_rfl)
              have hg_3f16 : G [false, true, true, false, true, false, false, false, true, true, true, true, true, true, false, false, false, false] [(2, .int .i64 (wr64 (1 + t410))), (3, .int .i64 (Int.tmod v3 1048576)), (9, .bool true), (10, .pointer (some ⟨b402, 0, none⟩)), (11, .int .i64 x415), (44, .int .i64 (wr64 (1 + t410))), (45, .pointer (some ⟨b402, 4, none⟩)), (47, .int .i64 x415), (51, .agg #[.int .i64 t393, .int .i64 t394, .int .i64 t395, .slice (ad N400) t397.length (nN400 / 4), .slice Q401a0 t396.length Q401c0]), (52, .int .i64 (wr64 (1 + t410))), (56, .pointer (some ⟨lb465, lo466 + (x415).toNat * 11 + 0, none⟩))] (([⟨b402, [.int .i64 t393, .int .i64 t394, .int .i64 t395, .slice (ad N400) t397.length (nN400 / 4), .slice Q401a0 t396.length Q401c0], 5⟩, ⟨N400, encL E_u84 t397, nN400⟩, ⟨b14, [.slice a_l0 l0.length c_l0, .int .i64 t398], 2⟩] : List Own) ++ (Q401F ++ [])) := by
                refine hstep [0, 3, 14] _ _ _ (by kernel_rfl) (List.cons_ne_nil _ _) ⟨?_, ?_, ?_, trivial⟩
                · show T _ _ _ _ _ _ _ _
                  refine t_v (.ldn rfl rfl rfl (.at 0 rfl rfl)) ?_
                  exact t_fin [2, 3, 9, 10, 11, 43, 44, 45, 47, 51, 52, 56] hg_3f17 (by kernel_rfl)
                · show T _ _ _ _ _ _ _ _
                  refine t_v (.ld1 rfl rfl rfl (.at 0 rfl rfl)) ?_
                  exact t_fin [2, 3, 9, 10, 11, 44, 46, 47, 51, 52, 56] hg_3f1e (by kernel_rfl)
                · show T _ _ _ _ _ _ _ _
                  refine t_v (.ldn (vs := [.int .i64 x453, .int .i64 x454, .int .i64 x455, .int .i64 x456, .int .i64 x457, .int .i64 x458, .int .i64 x459, .int .i64 x460, .int .i64 x461, .int .i64 x462, .slice na473 x463.length nc474]) rfl rfl rfl (rd_n lR469 (sub_app (seg_in 3 (X := (Q401F ++ [])) rfl seg_hd) sub_nil) (subl_sub lv470 (by kernel_rfl)))) ?_
                  exact t_fin [2, 3, 9, 10, 11, 44, 45, 47, 51, 52, 57] hg_7f16 (by kernel_rfl)
              have hg_1f17 : G [true, true, true, false, true, false, false, false, true, true, true, true, true, false, false, false, false, false] [(2, .int .i64 (wr64 (1 + t410))), (3, .int .i64 (Int.tmod v3 1048576)), (9, .bool true), (10, .pointer (some ⟨b402, 0, none⟩)), (11, .int .i64 x415), (43, .agg #[.int .i64 t393, .int .i64 t394, .int .i64 t395, .slice (ad N400) t397.length (nN400 / 4), .slice Q401a0 t396.length Q401c0]), (44, .int .i64 (wr64 (1 + t410))), (45, .pointer (some ⟨b402, 4, none⟩)), (47, .int .i64 x415), (51, .agg #[.int .i64 t393, .int .i64 t394, .int .i64 t395, .slice (ad N400) t397.length (nN400 / 4), .slice Q401a0 t396.length Q401c0]), (52, .int .i64 (wr64 (1 + t410))), (54, .slice Q401a0 t396.length Q401c0), (55, .int .i64 x415)] (([⟨b402, [.int .i64 t393, .int .i64 t394, .int .i64 t395, .slice (ad N400) t397.length (nN400 / 4), .slice Q401a0 t396.length Q401c0], 5⟩, ⟨N400, encL E_u84 t397, nN400⟩, ⟨b14, [.slice a_l0 l0.length c_l0, .int .i64 t398], 2⟩] : List Own) ++ (Q401F ++ [])) := by
                refine hstep [3, 13] _ _ _ (by kernel_rfl) (List.cons_ne_nil _ _) ⟨?_, ?_, trivial⟩
                · show T _ _ _ _ _ _ _ _
                  refine t_v (.ld1 rfl rfl rfl (.at 0 rfl rfl)) ?_
                  exact t_fin [2, 3, 9, 10, 11, 43, 44, 46, 47, 51, 52, 54, 55] hg_1f1f (by kernel_rfl)
                · show T _ _ _ _ _ _ _ _
                  refine t_v (.quiet rfl (ixs_sle rfl rfl la468 lz471 lu472)) ?_
                  exact t_fin [2, 3, 9, 10, 11, 43, 44, 45, 47, 51, 52, 56] hg_3f17 (by kernel_rfl)
              have hg_1f1e : G [false, true, true, true, true, false, false, false, true, true, true, true, true, false, false, false, false, false] [(2, .int .i64 (wr64 (1 + t410))), (3, .int .i64 (Int.tmod v3 1048576)), (9, .bool true), (10, .pointer (some ⟨b402, 0, none⟩)), (11, .int .i64 x415), (44, .int .i64 (wr64 (1 + t410))), (46, .slice Q401a0 t396.length Q401c0), (47, .int .i64 x415), (51, .agg #[.int .i64 t393, .int .i64 t394, .int .i64 t395, .slice (ad N400) t397.length (nN400 / 4), .slice Q401a0 t396.length Q401c0]), (52, .int .i64 (wr64 (1 + t410))), (54, .slice Q401a0 t396.length Q401c0), (55, .int .i64 x415)] (([⟨b402, [.int .i64 t393, .int .i64 t394, .int .i64 t395, .slice (ad N400) t397.length (nN400 / 4), .slice Q401a0 t396.length Q401c0], 5⟩, ⟨N400, encL E_u84 t397, nN400⟩, ⟨b14, [.slice a_l0 l0.length c_l0, .int .i64 t398], 2⟩] : List Own) ++ (Q401F ++ [])) := by
                refine hstep [0, 5, 13] _ _ _ (by kernel_rfl) (List.cons_ne_nil _ _) ⟨?_, ?_, ?_, trivial⟩
                · show T _ _ _ _ _ _ _ _
                  refine t_v (.ldn rfl rfl rfl (.at 0 rfl rfl)) ?_
                  exact t_fin [2, 3, 9, 10, 11, 43, 44, 46, 47, 51, 52, 54, 55] hg_1f1f (by kernel_rfl)
                · show T _ _ _ _ _ _ _ _
                  refine t_v (.quiet rfl (ixs_sle rfl rfl la432 lz435 lu436)) ?_
                  exact t_fin [2, 3, 9, 10, 11, 44, 48, 51, 52, 54, 55] hg_1f3e (by kernel_rfl)
                · show T _ _ _ _ _ _ _ _
                  refine t_v (.quiet rfl (ixs_sle rfl rfl la468 lz471 lu472)) ?_
                  exact t_fin [2, 3, 9, 10, 11, 44, 46, 47, 51, 52, 56] hg_3f1e (by kernel_rfl)
              have hg_171f : G [true, true, true, true, true, false, false, false, true, true, true, false, true, false, false, false, false, false] [(2, .int .i64 (wr64 (1 + t410))), (3, .int .i64 (Int.tmod v3 1048576)), (9, .bool true), (10, .pointer (some ⟨b402, 0, none⟩)), (11, .int .i64 x415), (43, .agg #[.int .i64 t393, .int .i64 t394, .int .i64 t395, .slice (ad N400) t397.length (nN400 / 4), .slice Q401a0 t396.length Q401c0]), (44, .int .i64 (wr64 (1 + t410))), (46, .slice Q401a0 t396.length Q401c0), (47, .int .i64 x415), (51, .agg #[.int .i64 t393, .int .i64 t394, .int .i64 t395, .slice (ad N400) t397.length (nN400 / 4), .slice Q401a0 t396.length Q401c0]), (52, .int .i64 (wr64 (1 + t410))), (53, .pointer (some ⟨b402, 4, none⟩)), (55, .int .i64 x415)] (([⟨b402, [.int .i64 t393, .int .i64 t394, .int .i64 t395, .slice (ad N400) t397.length (nN400 / 4), .slice Q401a0 t396.length Q401c0], 5⟩, ⟨N400, encL E_u84 t397, nN400⟩, ⟨b14, [.slice a_l0 l0.length c_l0, .int .i64 t398], 2⟩] : List Own) ++ (Q401F ++ [])) := by
                refine hstep [5, 11] _ _ _ (by kernel_rfl) (List.cons_ne_nil _ _) ⟨?_, ?_, trivial⟩
                · show T _ _ _ _ _ _ _ _
                  refine t_v (.quiet rfl (ixs_sle rfl rfl la432 lz435 lu436)) ?_
                  exact t_fin [2, 3, 9, 10, 11, 43, 44, 48, 51, 52, 53, 55] hg_173f (by kernel_rfl)
                · show T _ _ _ _ _ _ _ _
                  refine t_v (.ld1 rfl rfl rfl (.at 0 rfl rfl)) ?_
                  exact t_fin [2, 3, 9, 10, 11, 43, 44, 46, 47, 51, 52, 54, 55] hg_1f1f (by kernel_rfl)
              have hg_173e : G [false, true, true, true, true, true, false, false, true, true, true, false, true, false, false, false, false, false] [(2, .int .i64 (wr64 (1 + t410))), (3, .int .i64 (Int.tmod v3 1048576)), (9, .bool true), (10, .pointer (some ⟨b402, 0, none⟩)), (11, .int .i64 x415), (44, .int .i64 (wr64 (1 + t410))), (48, .pointer (some ⟨lb429, lo430 + (x415).toNat * 11 + 0, none⟩)), (51, .agg #[.int .i64 t393, .int .i64 t394, .int .i64 t395, .slice (ad N400) t397.length (nN400 / 4), .slice Q401a0 t396.length Q401c0]), (52, .int .i64 (wr64 (1 + t410))), (53, .pointer (some ⟨b402, 4, none⟩)), (55, .int .i64 x415)] (([⟨b402, [.int .i64 t393, .int .i64 t394, .int .i64 t395, .slice (ad N400) t397.length (nN400 / 4), .slice Q401a0 t396.length Q401c0], 5⟩, ⟨N400, encL E_u84 t397, nN400⟩, ⟨b14, [.slice a_l0 l0.length c_l0, .int .i64 t398], 2⟩] : List Own) ++ (Q401F ++ [])) := by
                refine hstep [0, 6, 11] _ _ _ (by kernel_rfl) (List.cons_ne_nil _ _) ⟨?_, ?_, ?_, trivial⟩
                · show T _ _ _ _ _ _ _ _
                  refine t_v (.ldn rfl rfl rfl (.at 0 rfl rfl)) ?_
                  exact t_fin [2, 3, 9, 10, 11, 43, 44, 48, 51, 52, 53, 55] hg_173f (by kernel_rfl)
                · show T _ _ _ _ _ _ _ _
                  refine t_v (.ldn (vs := [.int .i64 x417, .int .i64 x418, .int .i64 x419, .int .i64 x420, .int .i64 x421, .int .i64 x422, .int .i64 x423, .int .i64 x424, .int .i64 x425, .int .i64 x426, .slice na437 x427.length nc438]) rfl rfl rfl (rd_n lR433 (sub_app (seg_in 3 (X := (Q401F ++ [])) rfl seg_hd) sub_nil) (subl_sub lv434 (by kernel_rfl)))) ?_
                  exact t_fin [2, 3, 9, 10, 11, 44, 49, 51, 52, 53, 55] hg_177e (by kernel_rfl)
                · show T _ _ _ _ _ _ _ _
                  refine t_v (.ld1 rfl rfl rfl (.at 0 rfl rfl)) ?_
                  exact t_fin [2, 3, 9, 10, 11, 44, 48, 51, 52, 54, 55] hg_1f3e (by kernel_rfl)
              have hg_1e17 : G [true, true, true, false, true, false, false, false, false, true, true, true, true, false, false, false, false, false] [(2, .int .i64 (wr64 (1 + t410))), (3, .int .i64 (Int.tmod v3 1048576)), (9, .bool true), (10, .pointer (some ⟨b402, 0, none⟩)), (11, .int .i64 x415), (43, .agg #[.int .i64 t393, .int .i64 t394, .int .i64 t395, .slice (ad N400) t397.length (nN400 / 4), .slice Q401a0 t396.length Q401c0]), (44, .int .i64 (wr64 (1 + t410))), (45, .pointer (some ⟨b402, 4, none⟩)), (47, .int .i64 x415), (52, .int .i64 (wr64 (1 + t410))), (54, .slice Q401a0 t396.length Q401c0), (55, .int .i64 x415)] (([⟨b402, [.int .i64 t393, .int .i64 t394, .int .i64 t395, .slice (ad N400) t397.length (nN400 / 4), .slice Q401a0 t396.length Q401c0], 5⟩, ⟨N400, encL E_u84 t397, nN400⟩, ⟨b14, [.slice a_l0 l0.length c_l0, .int .i64 t398], 2⟩] : List Own) ++ (Q401F ++ [])) := by
                refine hstep [3, 8, 13] _ _ _ (by kernel_rfl) (List.cons_ne_nil _ _) ⟨?_, ?_, ?_, trivial⟩
                · show T _ _ _ _ _ _ _ _
                  refine t_v (.ld1 rfl rfl rfl (.at 0 rfl rfl)) ?_
                  exact t_fin [2, 3, 9, 10, 11, 43, 44, 46, 47, 52, 54, 55] hg_1e1f (by kernel_rfl)
                · show T _ _ _ _ _ _ _ _
                  refine t_v (.ldn rfl rfl rfl (.at 0 rfl rfl)) ?_
                  exact t_fin [2, 3, 9, 10, 11, 43, 44, 45, 47, 51, 52, 54, 55] hg_1f17 (by kernel_rfl)
                · show T _ _ _ _ _ _ _ _
                  refine t_v (.quiet rfl (ixs_sle rfl rfl la468 lz471 lu472)) ?_
                  exact t_fin [2, 3, 9, 10, 11, 43, 44, 45, 47, 52, 56] hg_3e17 (by kernel_rfl)
              have hg_1e1e : G [false, true, true, true, true, false, false, false, false, true, true, true, true, false, false, false, false, false] [(2, .int .i64 (wr64 (1 + t410))), (3, .int .i64 (Int.tmod v3 1048576)), (9, .bool true), (10, .pointer (some ⟨b402, 0, none⟩)), (11, .int .i64 x415), (44, .int .i64 (wr64 (1 + t410))), (46, .slice Q401a0 t396.length Q401c0), (47, .int .i64 x415), (52, .int .i64 (wr64 (1 + t410))), (54, .slice Q401a0 t396.length Q401c0), (55, .int .i64 x415)] (([⟨b402, [.int .i64 t393, .int .i64 t394, .int .i64 t395, .slice (ad N400) t397.length (nN400 / 4), .slice Q401a0 t396.length Q401c0], 5⟩, ⟨N400, encL E_u84 t397, nN400⟩, ⟨b14, [.slice a_l0 l0.length c_l0, .int .i64 t398], 2⟩] : List Own) ++ (Q401F ++ [])) := by
                refine hstep [0, 5, 8, 13] _ _ _ (by kernel_rfl) (List.cons_ne_nil _ _) ⟨?_, ?_, ?_, ?_, trivial⟩
                · show T _ _ _ _ _ _ _ _
                  refine t_v (.ldn rfl rfl rfl (.at 0 rfl rfl)) ?_
                  exact t_fin [2, 3, 9, 10, 11, 43, 44, 46, 47, 52, 54, 55] hg_1e1f (by kernel_rfl)
                · show T _ _ _ _ _ _ _ _
                  refine t_v (.quiet rfl (ixs_sle rfl rfl la432 lz435 lu436)) ?_
                  exact t_fin [2, 3, 9, 10, 11, 44, 48, 52, 54, 55] hg_1e3e (by kernel_rfl)
                · show T _ _ _ _ _ _ _ _
                  refine t_v (.ldn rfl rfl rfl (.at 0 rfl rfl)) ?_
                  exact t_fin [2, 3, 9, 10, 11, 44, 46, 47, 51, 52, 54, 55] hg_1f1e (by kernel_rfl)
                · show T _ _ _ _ _ _ _ _
                  refine t_v (.quiet rfl (ixs_sle rfl rfl la468 lz471 lu472)) ?_
                  exact t_fin [2, 3, 9, 10, 11, 44, 46, 47, 52, 56] hg_3e1e (by kernel_rfl)
              have hg_161f : G [true, true, true, true, true, false, false, false, false, true, true, false, true, false, false, false, false, false] [(2, .int .i64 (wr64 (1 + t410))), (3, .int .i64 (Int.tmod v3 1048576)), (9, .bool true), (10, .pointer (some ⟨b402, 0, none⟩)), (11, .int .i64 x415), (43, .agg #[.int .i64 t393, .int .i64 t394, .int .i64 t395, .slice (ad N400) t397.length (nN400 / 4), .slice Q401a0 t396.length Q401c0]), (44, .int .i64 (wr64 (1 + t410))), (46, .slice Q401a0 t396.length Q401c0), (47, .int .i64 x415), (52, .int .i64 (wr64 (1 + t410))), (53, .pointer (some ⟨b402, 4, none⟩)), (55, .int .i64 x415)] (([⟨b402, [.int .i64 t393, .int .i64 t394, .int .i64 t395, .slice (ad N400) t397.length (nN400 / 4), .slice Q401a0 t396.length Q401c0], 5⟩, ⟨N400, encL E_u84 t397, nN400⟩, ⟨b14, [.slice a_l0 l0.length c_l0, .int .i64 t398], 2⟩] : List Own) ++ (Q401F ++ [])) := by
                refine hstep [5, 8, 11] _ _ _ (by kernel_rfl) (List.cons_ne_nil _ _) ⟨?_, ?_, ?_, trivial⟩
                · show T _ _ _ _ _ _ _ _
                  refine t_v (.quiet rfl (ixs_sle rfl rfl la432 lz435 lu436)) ?_
                  exact t_fin [2, 3, 9, 10, 11, 43, 44, 48, 52, 53, 55] hg_163f (by kernel_rfl)
                · show T _ _ _ _ _ _ _ _
                  refine t_v (.ldn rfl rfl rfl (.at 0 rfl rfl)) ?_
                  exact t_fin [2, 3, 9, 10, 11, 43, 44, 46, 47, 51, 52, 53, 55] hg_171f (by kernel_rfl)
                · show T _ _ _ _ _ _ _ _
                  refine t_v (.ld1 rfl rfl rfl (.at 0 rfl rfl)) ?_
                  exact t_fin [2, 3, 9, 10, 11, 43, 44, 46, 47, 52, 54, 55] hg_1e1f (by kernel_rfl)
              have hg_163e : G [false, true, true, true, true, true, false, false, false, true, true, false, true, false, false, false, false, false] [(2, .int .i64 (wr64 (1 + t410))), (3, .int .i64 (Int.tmod v3 1048576)), (9, .bool true), (10, .pointer (some ⟨b402, 0, none⟩)), (11, .int .i64 x415), (44, .int .i64 (wr64 (1 + t410))), (48, .pointer (some ⟨lb429, lo430 + (x415).toNat * 11 + 0, none⟩)), (52, .int .i64 (wr64 (1 + t410))), (53, .pointer (some ⟨b402, 4, none⟩)), (55, .int .i64 x415)] (([⟨b402, [.int .i64 t393, .int .i64 t394, .int .i64 t395, .slice (ad N400) t397.length (nN400 / 4), .slice Q401a0 t396.length Q401c0], 5⟩, ⟨N400, encL E_u84 t397, nN400⟩, ⟨b14, [.slice a_l0 l0.length c_l0, .int .i64 t398], 2⟩] : List Own) ++ (Q401F ++ [])) := by
                refine hstep [0, 6, 8, 11] _ _ _ (by kernel_rfl) (List.cons_ne_nil _ _) ⟨?_, ?_, ?_, ?_, trivial⟩
                · show T _ _ _ _ _ _ _ _
                  refine t_v (.ldn rfl rfl rfl (.at 0 rfl rfl)) ?_
                  exact t_fin [2, 3, 9, 10, 11, 43, 44, 48, 52, 53, 55] hg_163f (by kernel_rfl)
                · show T _ _ _ _ _ _ _ _
                  refine t_v (.ldn (vs := [.int .i64 x417, .int .i64 x418, .int .i64 x419, .int .i64 x420, .int .i64 x421, .int .i64 x422, .int .i64 x423, .int .i64 x424, .int .i64 x425, .int .i64 x426, .slice na437 x427.length nc438]) rfl rfl rfl (rd_n lR433 (sub_app (seg_in 3 (X := (Q401F ++ [])) rfl seg_hd) sub_nil) (subl_sub lv434 (by kernel_rfl)))) ?_
                  exact t_fin [2, 3, 9, 10, 11, 44, 49, 52, 53, 55] hg_167e (by kernel_rfl)
                · show T _ _ _ _ _ _ _ _
                  refine t_v (.ldn rfl rfl rfl (.at 0 rfl rfl)) ?_
                  exact t_fin [2, 3, 9, 10, 11, 44, 48, 51, 52, 53, 55] hg_173e (by kernel_rfl)
                · show T _ _ _ _ _ _ _ _
                  refine t_v (.ld1 rfl rfl rfl (.at 0 rfl rfl)) ?_
                  exact t_fin [2, 3, 9, 10, 11, 44, 48, 52, 54, 55] hg_1e3e (by kernel_rfl)
              have hg_3e16 : G [false, true, true, false, true, false, false, false, false, true, true, true, true, true, false, false, false, false] [(2, .int .i64 (wr64 (1 + t410))), (3, .int .i64 (Int.tmod v3 1048576)), (9, .bool true), (10, .pointer (some ⟨b402, 0, none⟩)), (11, .int .i64 x415), (44, .int .i64 (wr64 (1 + t410))), (45, .pointer (some ⟨b402, 4, none⟩)), (47, .int .i64 x415), (52, .int .i64 (wr64 (1 + t410))), (56, .pointer (some ⟨lb465, lo466 + (x415).toNat * 11 + 0, none⟩))] (([⟨b402, [.int .i64 t393, .int .i64 t394, .int .i64 t395, .slice (ad N400) t397.length (nN400 / 4), .slice Q401a0 t396.length Q401c0], 5⟩, ⟨N400, encL E_u84 t397, nN400⟩, ⟨b14, [.slice a_l0 l0.length c_l0, .int .i64 t398], 2⟩] : List Own) ++ (Q401F ++ [])) := by
                refine hstep [0, 3, 8, 14] _ _ _ (by kernel_rfl) (List.cons_ne_nil _ _) ⟨?_, ?_, ?_, ?_, trivial⟩
                · show T _ _ _ _ _ _ _ _
                  refine t_v (.ldn rfl rfl rfl (.at 0 rfl rfl)) ?_
                  exact t_fin [2, 3, 9, 10, 11, 43, 44, 45, 47, 52, 56] hg_3e17 (by kernel_rfl)
                · show T _ _ _ _ _ _ _ _
                  refine t_v (.ld1 rfl rfl rfl (.at 0 rfl rfl)) ?_
                  exact t_fin [2, 3, 9, 10, 11, 44, 46, 47, 52, 56] hg_3e1e (by kernel_rfl)
                · show T _ _ _ _ _ _ _ _
                  refine t_v (.ldn rfl rfl rfl (.at 0 rfl rfl)) ?_
                  exact t_fin [2, 3, 9, 10, 11, 44, 45, 47, 51, 52, 56] hg_3f16 (by kernel_rfl)
                · show T _ _ _ _ _ _ _ _
                  refine t_v (.ldn (vs := [.int .i64 x453, .int .i64 x454, .int .i64 x455, .int .i64 x456, .int .i64 x457, .int .i64 x458, .int .i64 x459, .int .i64 x460, .int .i64 x461, .int .i64 x462, .slice na473 x463.length nc474]) rfl rfl rfl (rd_n lR469 (sub_app (seg_in 3 (X := (Q401F ++ [])) rfl seg_hd) sub_nil) (subl_sub lv470 (by kernel_rfl)))) ?_
                  exact t_fin [2, 3, 9, 10, 11, 44, 45, 47, 52, 57] hg_7e16 (by kernel_rfl)
              have hg_1717 : G [true, true, true, false, true, false, false, false, true, true, true, false, true, false, false, false, false, false] [(2, .int .i64 (wr64 (1 + t410))), (3, .int .i64 (Int.tmod v3 1048576)), (9, .bool true), (10, .pointer (some ⟨b402, 0, none⟩)), (11, .int .i64 x415), (43, .agg #[.int .i64 t393, .int .i64 t394, .int .i64 t395, .slice (ad N400) t397.length (nN400 / 4), .slice Q401a0 t396.length Q401c0]), (44, .int .i64 (wr64 (1 + t410))), (45, .pointer (some ⟨b402, 4, none⟩)), (47, .int .i64 x415), (51, .agg #[.int .i64 t393, .int .i64 t394, .int .i64 t395, .slice (ad N400) t397.length (nN400 / 4), .slice Q401a0 t396.length Q401c0]), (52, .int .i64 (wr64 (1 + t410))), (53, .pointer (some ⟨b402, 4, none⟩)), (55, .int .i64 x415)] (([⟨b402, [.int .i64 t393, .int .i64 t394, .int .i64 t395, .slice (ad N400) t397.length (nN400 / 4), .slice Q401a0 t396.length Q401c0], 5⟩, ⟨N400, encL E_u84 t397, nN400⟩, ⟨b14, [.slice a_l0 l0.length c_l0, .int .i64 t398], 2⟩] : List Own) ++ (Q401F ++ [])) := by
                refine hstep [3, 11] _ _ _ (by kernel_rfl) (List.cons_ne_nil _ _) ⟨?_, ?_, trivial⟩
                · show T _ _ _ _ _ _ _ _
                  refine t_v (.ld1 rfl rfl rfl (.at 0 rfl rfl)) ?_
                  exact t_fin [2, 3, 9, 10, 11, 43, 44, 46, 47, 51, 52, 53, 55] hg_171f (by kernel_rfl)
                · show T _ _ _ _ _ _ _ _
                  refine t_v (.ld1 rfl rfl rfl (.at 0 rfl rfl)) ?_
                  exact t_fin [2, 3, 9, 10, 11, 43, 44, 45, 47, 51, 52, 54, 55] hg_1f17 (by kernel_rfl)
              have hg_1f16 : G [false, true, true, false, true, false, false, false, true, true, true, true, true, false, false, false, false, false] [(2, .int .i64 (wr64 (1 + t410))), (3, .int .i64 (Int.tmod v3 1048576)), (9, .bool true), (10, .pointer (some ⟨b402, 0, none⟩)), (11, .int .i64 x415), (44, .int .i64 (wr64 (1 + t410))), (45, .pointer (some ⟨b402, 4, none⟩)), (47, .int .i64 x415), (51, .agg #[.int .i64 t393, .int .i64 t394, .int .i64 t395, .slice (ad N400) t397.length (nN400 / 4), .slice Q401a0 t396.length Q401c0]), (52, .int .i64 (wr64 (1 + t410))), (54, .slice Q401a0 t396.length Q401c0), (55, .int .i64 x415)] (([⟨b402, [.int .i64 t393, .int .i64 t394, .int .i64 t395, .slice (ad N400) t397.length (nN400 / 4), .slice Q401a0 t396.length Q401c0], 5⟩, ⟨N400, encL E_u84 t397, nN400⟩, ⟨b14, [.slice a_l0 l0.length c_l0, .int .i64 t398], 2⟩] : List Own) ++ (Q401F ++ [])) := by
                refine hstep [0, 3, 13] _ _ _ (by kernel_rfl) (List.cons_ne_nil _ _) ⟨?_, ?_, ?_, trivial⟩
                · show T _ _ _ _ _ _ _ _
                  refine t_v (.ldn rfl rfl rfl (.at 0 rfl rfl)) ?_
                  exact t_fin [2, 3, 9, 10, 11, 43, 44, 45, 47, 51, 52, 54, 55] hg_1f17 (by kernel_rfl)
                · show T _ _ _ _ _ _ _ _
                  refine t_v (.ld1 rfl rfl rfl (.at 0 rfl rfl)) ?_
                  exact t_fin [2, 3, 9, 10, 11, 44, 46, 47, 51, 52, 54, 55] hg_1f1e (by kernel_rfl)
                · show T _ _ _ _ _ _ _ _
                  refine t_v (.quiet rfl (ixs_sle rfl rfl la468 lz471 lu472)) ?_
                  exact t_fin [2, 3, 9, 10, 11, 44, 45, 47, 51, 52, 56] hg_3f16 (by kernel_rfl)
              have hg_171e : G [false, true, true, true, true, false, false, false, true, true, true, false, true, false, false, false, false, false] [(2, .int .i64 (wr64 (1 + t410))), (3, .int .i64 (Int.tmod v3 1048576)), (9, .bool true), (10, .pointer (some ⟨b402, 0, none⟩)), (11, .int .i64 x415), (44, .int .i64 (wr64 (1 + t410))), (46, .slice Q401a0 t396.length Q401c0), (47, .int .i64 x415), (51, .agg #[.int .i64 t393, .int .i64 t394, .int .i64 t395, .slice (ad N400) t397.length (nN400 / 4), .slice Q401a0 t396.length Q401c0]), (52, .int .i64 (wr64 (1 + t410))), (53, .pointer (some ⟨b402, 4, none⟩)), (55, .int .i64 x415)] (([⟨b402, [.int .i64 t393, .int .i64 t394, .int .i64 t395, .slice (ad N400) t397.length (nN400 / 4), .slice Q401a0 t396.length Q401c0], 5⟩, ⟨N400, encL E_u84 t397, nN400⟩, ⟨b14, [.slice a_l0 l0.length c_l0, .int .i64 t398], 2⟩] : List Own) ++ (Q401F ++ [])) := by
                refine hstep [0, 5, 11] _ _ _ (by kernel_rfl) (List.cons_ne_nil _ _) ⟨?_, ?_, ?_, trivial⟩
                · show T _ _ _ _ _ _ _ _
                  refine t_v (.ldn rfl rfl rfl (.at 0 rfl rfl)) ?_
                  exact t_fin [2, 3, 9, 10, 11, 43, 44, 46, 47, 51, 52, 53, 55] hg_171f (by kernel_rfl)
                · show T _ _ _ _ _ _ _ _
                  refine t_v (.quiet rfl (ixs_sle rfl rfl la432 lz435 lu436)) ?_
                  exact t_fin [2, 3, 9, 10, 11, 44, 48, 51, 52, 53, 55] hg_173e (by kernel_rfl)
                · show T _ _ _ _ _ _ _ _
                  refine t_v (.ld1 rfl rfl rfl (.at 0 rfl rfl)) ?_
                  exact t_fin [2, 3, 9, 10, 11, 44, 46, 47, 51, 52, 54, 55] hg_1f1e (by kernel_rfl)
              have hg_1617 : G [true, true, true, false, true, false, false, false, false, true, true, false, true, false, false, false, false, false] [(2, .int .i64 (wr64 (1 + t410))), (3, .int .i64 (Int.tmod v3 1048576)), (9, .bool true), (10, .pointer (some ⟨b402, 0, none⟩)), (11, .int .i64 x415), (43, .agg #[.int .i64 t393, .int .i64 t394, .int .i64 t395, .slice (ad N400) t397.length (nN400 / 4), .slice Q401a0 t396.length Q401c0]), (44, .int .i64 (wr64 (1 + t410))), (45, .pointer (some ⟨b402, 4, none⟩)), (47, .int .i64 x415), (52, .int .i64 (wr64 (1 + t410))), (53, .pointer (some ⟨b402, 4, none⟩)), (55, .int .i64 x415)] (([⟨b402, [.int .i64 t393, .int .i64 t394, .int .i64 t395, .slice (ad N400) t397.length (nN400 / 4), .slice Q401a0 t396.length Q401c0], 5⟩, ⟨N400, encL E_u84 t397, nN400⟩, ⟨b14, [.slice a_l0 l0.length c_l0, .int .i64 t398], 2⟩] : List Own) ++ (Q401F ++ [])) := by
                refine hstep [3, 8, 11] _ _ _ (by kernel_rfl) (List.cons_ne_nil _ _) ⟨?_, ?_, ?_, trivial⟩
                · show T _ _ _ _ _ _ _ _
                  refine t_v (.ld1 rfl rfl rfl (.at 0 rfl rfl)) ?_
                  exact t_fin [2, 3, 9, 10, 11, 43, 44, 46, 47, 52, 53, 55] hg_161f (by kernel_rfl)
                · show T _ _ _ _ _ _ _ _
                  refine t_v (.ldn rfl rfl rfl (.at 0 rfl rfl)) ?_
                  exact t_fin [2, 3, 9, 10, 11, 43, 44, 45, 47, 51, 52, 53, 55] hg_1717 (by kernel_rfl)
                · show T _ _ _ _ _ _ _ _
                  refine t_v (.ld1 rfl rfl rfl (.at 0 rfl rfl)) ?_
                  exact t_fin [2, 3, 9, 10, 11, 43, 44, 45, 47, 52, 54, 55] hg_1e17 (by kernel_rfl)
              have hg_161e : G [false, true, true, true, true, false, false, false, false, true, true, false, true, false, false, false, false, false] [(2, .int .i64 (wr64 (1 + t410))), (3, .int .i64 (Int.tmod v3 1048576)), (9, .bool true), (10, .pointer (some ⟨b402, 0, none⟩)), (11, .int .i64 x415), (44, .int .i64 (wr64 (1 + t410))), (46, .slice Q401a0 t396.length Q401c0), (47, .int .i64 x415), (52, .int .i64 (wr64 (1 + t410))), (53, .pointer (some ⟨b402, 4, none⟩)), (55, .int .i64 x415)] (([⟨b402, [.int .i64 t393, .int .i64 t394, .int .i64 t395, .slice (ad N400) t397.length (nN400 / 4), .slice Q401a0 t396.length Q401c0], 5⟩, ⟨N400, encL E_u84 t397, nN400⟩, ⟨b14, [.slice a_l0 l0.length c_l0, .int .i64 t398], 2⟩] : List Own) ++ (Q401F ++ [])) := by
                refine hstep [0, 5, 8, 11] _ _ _ (by kernel_rfl) (List.cons_ne_nil _ _) ⟨?_, ?_, ?_, ?_, trivial⟩
                · show T _ _ _ _ _ _ _ _
                  refine t_v (.ldn rfl rfl rfl (.at 0 rfl rfl)) ?_
                  exact t_fin [2, 3, 9, 10, 11, 43, 44, 46, 47, 52, 53, 55] hg_161f (by kernel_rfl)
                · show T _ _ _ _ _ _ _ _
                  refine t_v (.quiet rfl (ixs_sle rfl rfl la432 lz435 lu436)) ?_
                  exact t_fin [2, 3, 9, 10, 11, 44, 48, 52, 53, 55] hg_163e (by kernel_rfl)
                · show T _ _ _ _ _ _ _ _
                  refine t_v (.ldn rfl rfl rfl (.at 0 rfl rfl)) ?_
                  exact t_fin [2, 3, 9, 10, 11, 44, 46, 47, 51, 52, 53, 55] hg_171e (by kernel_rfl)
                · show T _ _ _ _ _ _ _ _
                  refine t_v (.ld1 rfl rfl rfl (.at 0 rfl rfl)) ?_
                  exact t_fin [2, 3, 9, 10, 11, 44, 46, 47, 52, 54, 55] hg_1e1e (by kernel_rfl)
              have hg_1716 : G [false, true, true, false, true, false, false, false, true, true, true, false, true, false, false, false, false, false] [(2, .int .i64 (wr64 (1 + t410))), (3, .int .i64 (Int.tmod v3 1048576)), (9, .bool true), (10, .pointer (some ⟨b402, 0, none⟩)), (11, .int .i64 x415), (44, .int .i64 (wr64 (1 + t410))), (45, .pointer (some ⟨b402, 4, none⟩)), (47, .int .i64 x415), (51, .agg #[.int .i64 t393, .int .i64 t394, .int .i64 t395, .slice (ad N400) t397.length (nN400 / 4), .slice Q401a0 t396.length Q401c0]), (52, .int .i64 (wr64 (1 + t410))), (53, .pointer (some ⟨b402, 4, none⟩)), (55, .int .i64 x415)] (([⟨b402, [.int .i64 t393, .int .i64 t394, .int .i64 t395, .slice (ad N400) t397.length (nN400 / 4), .slice Q401a0 t396.length Q401c0], 5⟩, ⟨N400, encL E_u84 t397, nN400⟩, ⟨b14, [.slice a_l0 l0.length c_l0, .int .i64 t398], 2⟩] : List Own) ++ (Q401F ++ [])) := by
                refine hstep [0, 3, 11] _ _ _ (by kernel_rfl) (List.cons_ne_nil _ _) ⟨?_, ?_, ?_, trivial⟩
                · show T _ _ _ _ _ _ _ _
                  refine t_v (.ldn rfl rfl rfl (.at 0 rfl rfl)) ?_
                  exact t_fin [2, 3, 9, 10, 11, 43, 44, 45, 47, 51, 52, 53, 55] hg_1717 (by kernel_rfl)
                · show T _ _ _ _ _ _ _ _
                  refine t_v (.ld1 rfl rfl rfl (.at 0 rfl rfl)) ?_
                  exact t_fin [2, 3, 9, 10, 11, 44, 46, 47, 51, 52, 53, 55] hg_171e (by kernel_rfl)
                · show T _ _ _ _ _ _ _ _
                  refine t_v (.ld1 rfl rfl rfl (.at 0 rfl rfl)) ?_
                  exact t_fin [2, 3, 9, 10, 11, 44, 45, 47, 51, 52, 54, 55] hg_1f16 (by kernel_rfl)
              have hg_1e16 : G [false, true, true, false, true, false, false, false, false, true, true, true, true, false, false, false, false, false] [(2, .int .i64 (wr64 (1 + t410))), (3, .int .i64 (Int.tmod v3 1048576)), (9, .bool true), (10, .pointer (some ⟨b402, 0, none⟩)), (11, .int .i64 x415), (44, .int .i64 (wr64 (1 + t410))), (45, .pointer (some ⟨b402, 4, none⟩)), (47, .int .i64 x415), (52, .int .i64 (wr64 (1 + t410))), (54, .slice Q401a0 t396.length Q401c0), (55, .int .i64 x415)] (([⟨b402, [.int .i64 t393, .int .i64 t394, .int .i64 t395, .slice (ad N400) t397.length (nN400 / 4), .slice Q401a0 t396.length Q401c0], 5⟩, ⟨N400, encL E_u84 t397, nN400⟩, ⟨b14, [.slice a_l0 l0.length c_l0, .int .i64 t398], 2⟩] : List Own) ++ (Q401F ++ [])) := by
                refine hstep [0, 3, 8, 13] _ _ _ (by kernel_rfl) (List.cons_ne_nil _ _) ⟨?_, ?_, ?_, ?_, trivial⟩
                · show T _ _ _ _ _ _ _ _
                  refine t_v (.ldn rfl rfl rfl (.at 0 rfl rfl)) ?_
                  exact t_fin [2, 3, 9, 10, 11, 43, 44, 45, 47, 52, 54, 55] hg_1e17 (by kernel_rfl)
                · show T _ _ _ _ _ _ _ _
                  refine t_v (.ld1 rfl rfl rfl (.at 0 rfl rfl)) ?_
                  exact t_fin [2, 3, 9, 10, 11, 44, 46, 47, 52, 54, 55] hg_1e1e (by kernel_rfl)
                · show T _ _ _ _ _ _ _ _
                  refine t_v (.ldn rfl rfl rfl (.at 0 rfl rfl)) ?_
                  exact t_fin [2, 3, 9, 10, 11, 44, 45, 47, 51, 52, 54, 55] hg_1f16 (by kernel_rfl)
                · show T _ _ _ _ _ _ _ _
                  refine t_v (.quiet rfl (ixs_sle rfl rfl la468 lz471 lu472)) ?_
                  exact t_fin [2, 3, 9, 10, 11, 44, 45, 47, 52, 56] hg_3e16 (by kernel_rfl)
              have hg_1616 : G [false, true, true, false, true, false, false, false, false, true, true, false, true, false, false, false, false, false] [(2, .int .i64 (wr64 (1 + t410))), (3, .int .i64 (Int.tmod v3 1048576)), (9, .bool true), (10, .pointer (some ⟨b402, 0, none⟩)), (11, .int .i64 x415), (44, .int .i64 (wr64 (1 + t410))), (45, .pointer (some ⟨b402, 4, none⟩)), (47, .int .i64 x415), (52, .int .i64 (wr64 (1 + t410))), (53, .pointer (some ⟨b402, 4, none⟩)), (55, .int .i64 x415)] (([⟨b402, [.int .i64 t393, .int .i64 t394, .int .i64 t395, .slice (ad N400) t397.length (nN400 / 4), .slice Q401a0 t396.length Q401c0], 5⟩, ⟨N400, encL E_u84 t397, nN400⟩, ⟨b14, [.slice a_l0 l0.length c_l0, .int .i64 t398], 2⟩] : List Own) ++ (Q401F ++ [])) := by
                refine hstep [0, 3, 8, 11] _ _ _ (by kernel_rfl) (List.cons_ne_nil _ _) ⟨?_, ?_, ?_, ?_, trivial⟩
                · show T _ _ _ _ _ _ _ _
                  refine t_v (.ldn rfl rfl rfl (.at 0 rfl rfl)) ?_
                  exact t_fin [2, 3, 9, 10, 11, 43, 44, 45, 47, 52, 53, 55] hg_1617 (by kernel_rfl)
                · show T _ _ _ _ _ _ _ _
                  refine t_v (.ld1 rfl rfl rfl (.at 0 rfl rfl)) ?_
                  exact t_fin [2, 3, 9, 10, 11, 44, 46, 47, 52, 53, 55] hg_161e (by kernel_rfl)
                · show T _ _ _ _ _ _ _ _
                  refine t_v (.ldn rfl rfl rfl (.at 0 rfl rfl)) ?_
                  exact t_fin [2, 3, 9, 10, 11, 44, 45, 47, 51, 52, 53, 55] hg_1716 (by kernel_rfl)
                · show T _ _ _ _ _ _ _ _
                  refine t_v (.ld1 rfl rfl rfl (.at 0 rfl rfl)) ?_
                  exact t_fin [2, 3, 9, 10, 11, 44, 45, 47, 52, 54, 55] hg_1e16 (by kernel_rfl)
              have hg_616 : G [false, true, true, false, true, false, false, false, false, true, true, false, false, false, false, false, false, false] [(2, .int .i64 (wr64 (1 + t410))), (3, .int .i64 (Int.tmod v3 1048576)), (9, .bool true), (10, .pointer (some ⟨b402, 0, none⟩)), (11, .int .i64 x415), (44, .int .i64 (wr64 (1 + t410))), (45, .pointer (some ⟨b402, 4, none⟩)), (47, .int .i64 x415), (52, .int .i64 (wr64 (1 + t410))), (53, .pointer (some ⟨b402, 4, none⟩))] (([⟨b402, [.int .i64 t393, .int .i64 t394, .int .i64 t395, .slice (ad N400) t397.length (nN400 / 4), .slice Q401a0 t396.length Q401c0], 5⟩, ⟨N400, encL E_u84 t397, nN400⟩, ⟨b14, [.slice a_l0 l0.length c_l0, .int .i64 t398], 2⟩] : List Own) ++ (Q401F ++ [])) := by
                exact hqf 12 [2, 3, 9, 10, 11, 44, 45, 47, 52, 53, 55] _ _ _ _ (by kernel_rfl) (by kernel_rfl) hg_1616
              have hg_216 : G [false, true, true, false, true, false, false, false, false, true, false, false, false, false, false, false, false, false] [(2, .int .i64 (wr64 (1 + t410))), (3, .int .i64 (Int.tmod v3 1048576)), (9, .bool true), (10, .pointer (some ⟨b402, 0, none⟩)), (11, .int .i64 x415), (44, .int .i64 (wr64 (1 + t410))), (45, .pointer (some ⟨b402, 4, none⟩)), (47, .int .i64 x415), (52, .int .i64 (wr64 (1 + t410)))] (([⟨b402, [.int .i64 t393, .int .i64 t394, .int .i64 t395, .slice (ad N400) t397.length (nN400 / 4), .slice Q401a0 t396.length Q401c0], 5⟩, ⟨N400, encL E_u84 t397, nN400⟩, ⟨b14, [.slice a_l0 l0.length c_l0, .int .i64 t398], 2⟩] : List Own) ++ (Q401F ++ [])) := by
                exact hqf 10 [2, 3, 9, 10, 11, 44, 45, 47, 52, 53] _ _ _ _ (by kernel_rfl) (by kernel_rfl) hg_616
              have hg_16 : G [false, true, true, false, true, false, false, false, false, false, false, false, false, false, false, false, false, false] [(2, .int .i64 (wr64 (1 + t410))), (3, .int .i64 (Int.tmod v3 1048576)), (9, .bool true), (10, .pointer (some ⟨b402, 0, none⟩)), (11, .int .i64 x415), (44, .int .i64 (wr64 (1 + t410))), (45, .pointer (some ⟨b402, 4, none⟩)), (47, .int .i64 x415)] (([⟨b402, [.int .i64 t393, .int .i64 t394, .int .i64 t395, .slice (ad N400) t397.length (nN400 / 4), .slice Q401a0 t396.length Q401c0], 5⟩, ⟨N400, encL E_u84 t397, nN400⟩, ⟨b14, [.slice a_l0 l0.length c_l0, .int .i64 t398], 2⟩] : List Own) ++ (Q401F ++ [])) := by
                exact hqf 9 [2, 3, 9, 10, 11, 44, 45, 47, 52] _ _ _ _ (by kernel_rfl) (by kernel_rfl) hg_216
              have hg_6 : G [false, true, true, false, false, false, false, false, false, false, false, false, false, false, false, false, false, false] [(2, .int .i64 (wr64 (1 + t410))), (3, .int .i64 (Int.tmod v3 1048576)), (9, .bool true), (10, .pointer (some ⟨b402, 0, none⟩)), (11, .int .i64 x415), (44, .int .i64 (wr64 (1 + t410))), (45, .pointer (some ⟨b402, 4, none⟩))] (([⟨b402, [.int .i64 t393, .int .i64 t394, .int .i64 t395, .slice (ad N400) t397.length (nN400 / 4), .slice Q401a0 t396.length Q401c0], 5⟩, ⟨N400, encL E_u84 t397, nN400⟩, ⟨b14, [.slice a_l0 l0.length c_l0, .int .i64 t398], 2⟩] : List Own) ++ (Q401F ++ [])) := by
                exact hqf 4 [2, 3, 9, 10, 11, 44, 45, 47] _ _ _ _ (by kernel_rfl) (by kernel_rfl) hg_16
              have hg_2 : G [false, true, false, false, false, false, false, false, false, false, false, false, false, false, false, false, false, false] [(2, .int .i64 (wr64 (1 + t410))), (3, .int .i64 (Int.tmod v3 1048576)), (9, .bool true), (10, .pointer (some ⟨b402, 0, none⟩)), (11, .int .i64 x415), (44, .int .i64 (wr64 (1 + t410)))] (([⟨b402, [.int .i64 t393, .int .i64 t394, .int .i64 t395, .slice (ad N400) t397.length (nN400 / 4), .slice Q401a0 t396.length Q401c0], 5⟩, ⟨N400, encL E_u84 t397, nN400⟩, ⟨b14, [.slice a_l0 l0.length c_l0, .int .i64 t398], 2⟩] : List Own) ++ (Q401F ++ [])) := by
                exact hqf 2 [2, 3, 9, 10, 11, 44, 45] _ _ _ _ (by kernel_rfl) (by kernel_rfl) hg_6
              have hg_0 : G [false, false, false, false, false, false, false, false, false, false, false, false, false, false, false, false, false, false] [(2, .int .i64 (wr64 (1 + t410))), (3, .int .i64 (Int.tmod v3 1048576)), (9, .bool true), (10, .pointer (some ⟨b402, 0, none⟩)), (11, .int .i64 x415)] (([⟨b402, [.int .i64 t393, .int .i64 t394, .int .i64 t395, .slice (ad N400) t397.length (nN400 / 4), .slice Q401a0 t396.length Q401c0], 5⟩, ⟨N400, encL E_u84 t397, nN400⟩, ⟨b14, [.slice a_l0 l0.length c_l0, .int .i64 t398], 2⟩] : List Own) ++ (Q401F ++ [])) := by
                exact hqf 1 [2, 3, 9, 10, 11, 44] _ _ _ _ (by kernel_rfl) (by kernel_rfl) hg_2
              exact hg_0
            · rw [if_neg c416] at e413
              have c416b : (decide (x415 < (t396.length : Int))) = false := decide_eq_false c416
              refine t_qz 1 [2, 3, 9, 10, 11, 36, 39] (σ' := [(2, .int .i64 (wr64 (1 + t410))), (3, .int .i64 (Int.tmod v3 1048576)), (9, .bool true), (10, .pointer (some ⟨b402, 0, none⟩)), (11, .int .i64 x415), (36, .int .i64 x415), (39, .int .i64 (t396.length : Int))]) (by kernel_rfl) ?_
              refine t_v (dv_quiet rfl (congrArg (fun t => some (Value.bool t)) c416b)) ?_
              refine t_keep [2, 3, 9, 10, 11, 40] (σ' := [(2, .int .i64 (wr64 (1 + t410))), (3, .int .i64 (Int.tmod v3 1048576)), (9, .bool true), (10, .pointer (some ⟨b402, 0, none⟩)), (11, .int .i64 x415), (40, .bool false)]) (by kernel_rfl) ?_
              refine t_end ?_
              show W _ _ _ _ _ _ _
              refine w_cond rfl (fun c_ => by cases c_) (fun _ => ?_)
              show W _ _ _ _ _ _ _
              refine w_exit ?_
              obtain rfl := Option.some.inj e413
              exact ⟨(([⟨b402, [.int .i64 t393, .int .i64 t394, .int .i64 t395, .slice (ad N400) t397.length (nN400 / 4), .slice Q401a0 t396.length Q401c0], 5⟩, ⟨b14, [.slice a_l0 l0.length c_l0, .int .i64 t398], 2⟩, ⟨N400, encL E_u84 t397, nN400⟩] : List Own) ++ (Q401F ++ [])), S, VS.selT 3 [0, 1, 0] (by kernel_rfl), (), rfl, by kernel_rfl, rfl, rfl⟩
        · rintro σ_ H_ S_ ⟨u_, rfl, rfl, rfl, rfl⟩
          dsimp only at e
          refine w_seq ?_
          obtain ⟨t494, h495, e⟩ := bind_of e
          obtain ⟨t496, h497, e⟩ := bind_of e
          by_cases c498 : t494 = t496
          · rw [if_pos c498] at e
            have c498b : (t494 == t496) = true := beq_iff_eq.mpr c498
            obtain ⟨t499, h500, e⟩ := bind_of e
            obtain ⟨t501, h502, e⟩ := bind_of e
            refine w_drwE mixed 22 [.v (.bool true), .v (.bool true), .v (.agg #[.int .i64 t393, .int .i64 t394, .int .i64 t395, .slice (ad N400) t397.length (nN400 / 4), .slice Q401a0 t396.length Q401c0]), .v (.int .i64 (wr64 (1 + t410))), .v (.int .i64 t494), .v (.agg #[.int .i64 t393, .int .i64 t394, .int .i64 t395, .slice (ad N400) t397.length (nN400 / 4), .slice Q401a0 t396.length Q401c0]), .v (.int .i64 (wr64 (1 + t410))), .v (.int .i64 t496), .v (.bool true), .v (.bool true), .v (.bool true), .v (.agg #[.int .i64 t393, .int .i64 t394, .int .i64 t395, .slice (ad N400) t397.length (nN400 / 4), .slice Q401a0 t396.length Q401c0]), .v (.int .i64 (wr64 (1 + t410))), .v (.int .i64 (Int.tmod v3 1048576)), .v (.int .i64 t499), .v (.agg #[.int .i64 t393, .int .i64 t394, .int .i64 t395, .slice (ad N400) t397.length (nN400 / 4), .slice Q401a0 t396.length Q401c0]), .v (.int .i64 (wr64 (1 + t410))), .v (.int .i64 (Int.tmod v3 1048576)), .v (.int .i64 t501), .v (.bool (t499 == t501)), .v (.bool (t499 == t501)), .v (.bool (t499 == t501))] (by kernel_rfl) ?_ ?_
            · refine DI.sq 2 (by kernel_rfl) rfl ?_
              refine .cons (.ldn rfl rfl rfl (.at 0 rfl rfl)) ?_
              refine DI.sq 1 (by kernel_rfl) rfl ?_
              refine .cons (.call (vs := [.agg #[.int .i64 t393, .int .i64 t394, .int .i64 t395, .slice (ad N400) t397.length (nN400 / 4), .slice Q401a0 t396.length Q401c0], .int .i64 (wr64 (1 + t410))]) rfl rfl (by kernel_rfl) (scale_Height_v2.ok hE_ h495)) ?_
              refine .cons (.ldn rfl rfl rfl (.at 0 rfl rfl)) ?_
              refine DI.sq 1 (by kernel_rfl) rfl ?_
              refine .cons (.call (vs := [.agg #[.int .i64 t393, .int .i64 t394, .int .i64 t395, .slice (ad N400) t397.length (nN400 / 4), .slice Q401a0 t396.length Q401c0], .int .i64 (wr64 (1 + t410))]) rfl rfl (by kernel_rfl) (glyphicref20_Height_v1.ok hE_ h497)) ?_
              refine .cons (dv_quiet rfl (congrArg (fun t => some (Value.bool t)) c498b)) ?_
              refine DI.sq 2 (by kernel_rfl) rfl ?_
              refine .cons (.ldn rfl rfl rfl (.at 0 rfl rfl)) ?_
              refine DI.sq 2 (by kernel_rfl) rfl ?_
              refine .cons (.call (vs := [.agg #[.int .i64 t393, .int .i64 t394, .int .i64 t395, .slice (ad N400) t397.length (nN400 / 4), .slice Q401a0 t396.length Q401c0], .int .i64 (wr64 (1 + t410)), .int .i64 (Int.tmod v3 1048576)]) rfl rfl (by kernel_rfl) (scale_At_v2.ok hE_ h500)) ?_
              refine .cons (.ldn rfl rfl rfl (.at 0 rfl rfl)) ?_
              refine DI.sq 2 (by kernel_rfl) rfl ?_
              refine .cons (.call (vs := [.agg #[.int .i64 t393, .int .i64 t394, .int .i64 t395, .slice (ad N400) t397.length (nN400 / 4), .slice Q401a0 t396.length Q401c0], .int .i64 (wr64 (1 + t410)), .int .i64 (Int.tmod v3 1048576)]) rfl rfl (by kernel_rfl) (glyphicref20_At_v1.ok hE_ h502)) ?_
              refine DI.sq 3 (by kernel_rfl) rfl ?_
              exact .nil
            refine fk_q 22 [8] (σ' := [(8, .bool (t499 == t501))]) t_more (by kernel_rfl) ?_
            refine fk_nil fun all => ?_
            refine t_keep [8] (σ' := [(8, .bool (t499 == t501))]) (by kernel_rfl) ?_
            refine t_end ?_
            show W _ _ _ _ _ _ _
            refine w_ret ?_
            have hr_ := Option.some.inj e
            exact ⟨[.bool (t499 == t501)], [], S, ⟨rfl, trivial⟩, VS.none, congrArg Value.bool hr_, rfl, rfl⟩
          · rw [if_neg c498] at e
            exact absurd (Option.some.inj e) (by decide)
      · rw [if_neg c409] at e
        exact absurd (Option.some.inj e) (by decide)
  | false =>
    rw [if_neg (by decide)] at e
    exact absurd (Option.some.inj e) (by decide)

def glyphiclaw20_ScaleSays.Pure : Prop := ∀ (l0 : List (Int)) (raw1 : Int) (w2 : Int) (v3 : Int), (Lit.int .i64 raw1).wf = true → (Lit.int .i64 w2).wf = true → (Lit.int .i64 v3).wf = true → ∃ k, glyphiclaw20_ScaleSays.f k l0 raw1 w2 v3 = some true
theorem glyphiclaw20_ScaleSays.walk (P : glyphiclaw20_ScaleSays.Pure) (l0 : List (Int)) (raw1 : Int) (w2 : Int) (v3 : Int) (w : World) {S : Seal} (hS : HOK [] S w) {A_ : Int → Addr} (hE_ : EO gsE S A_ 94) {a_l0 : Option Addr} {c_l0 : Nat} (h_l0 : SlI S .i64 l0 a_l0) (hraw1 : (Lit.int .i64 raw1).wf = true) (hw2 : (Lit.int .i64 w2).wf = true) (hv3 : (Lit.int .i64 v3).wf = true) :
    Calls Tryd.prog 4 #[.slice a_l0 l0.length c_l0, .int .i64 raw1, .int .i64 w2, .int .i64 v3] w fun e w' => e = .returned (.bool true) ∧ Below w.heap.size w w' := let ⟨k, h⟩ := P l0 raw1 w2 v3 hraw1 hw2 hv3; law_w hS (glyphiclaw20_ScaleSays.ok hE_ (SlI.e h_l0) (k := k) h)
end Go.Proofs.YtiaigehjogpcaaaDoor.QScaleSays
