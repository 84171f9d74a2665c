/- Functions of the program as Lean functions, each with the proof of its walk. Written by gen.py, a program of these sessions. -/
import Derived.Test.YtobjaddicodiaaaDoorQRenderWholex1
namespace Go.Proofs.YtobjaddicodiaaaDoor.QRenderWhole
open Go Go.RowKit Go.Proofs.YtobjaddicodiaaaDoorE Go.Proofs.YtobjaddicodiaaaDoorX
set_option linter.unusedVariables false
set_option maxRecDepth 100000
set_option maxHeartbeats 8000000
/-- sweep.crossing -/
def c75 : C :=
  (.seq (.reg [oq 6 (.mv (.const (.slice none 0 0)))])
  (.seq (.reg [oq 7 (.mv (.const (.slice none 0 0)))])
  (.seq (.seq (.reg [oq 13 (.mv (.tmp 0)),
      oq 14 (.lns (.tmp 13)),
      oq 15 (.mv (.const (vI 0)))])
   (.block 0 (.loop (.seq (.reg [oq 16 (.bin .lss (.tmp 15) (.tmp 14))])
     (.seq (.cond (.tmp 16)
       .skip
       (.exit 0))
     (.seq (.block 1 (.seq (.reg [oq 17 (.ixs 4 (.tmp 13) (.tmp 15)),
          oq 18 (.ld (some 4) (.tmp 17)),
          oq 9 (.new [(vI 0), (vI 0), (vI 0), (vI 0)]),
          ⟨none, .st 4 (.tmp 9) (.tmp 18), none⟩])
       (.seq (.reg [oq 20 (.ld (some 4) (.tmp 9)),
          oq 21 (.bsl [(vI 0), (vI 0), (vI 0), (vI 0)] 1 [(0, 4, (.tmp 20))]),
          oq 22 (.mv (.tmp 1)),
          oq 23 (.call 84 [(.tmp 21), (.tmp 22)]),
          oq 19 (.mv (.tmp 23)),
          oq 24 (.xt 0 (.tmp 19)),
          oq 25 (.xt 1 (.tmp 19)),
          oq 26 (.xt 2 (.tmp 19)),
          oq 10 (.new [(vI 0), (vI 0)]),
          oq 11 (.new [(vI 0), (vI 0)]),
          ⟨none, .st 2 (.tmp 10) (.tmp 24), none⟩,
          ⟨none, .st 2 (.tmp 11) (.tmp 25), none⟩,
          oq 12 (.mv (.tmp 26))])
       (.seq (.reg [oq 27 (.pad 1 (.tmp 10)),
          oq 28 (.ld none (.tmp 27)),
          oq 29 (.mv (.tmp 2)),
          oq 30 (.bin .leq (.tmp 28) (.tmp 29)),
          oq 31 (.mv (.tmp 30)),
          ⟨(some 32), .mv (.tmp 2), (some (31, true))⟩,
          ⟨(some 33), .pad 1 (.tmp 11), (some (31, true))⟩,
          ⟨(some 34), .ld none (.tmp 33), (some (31, true))⟩,
          ⟨(some 35), .bin .leq (.tmp 32) (.tmp 34), (some (31, true))⟩,
          oq 36 (.pk (.tmp 31) (.tmp 35) (.const (vB false)))])
       (.cond (.tmp 36)
        (.reg [oq 37 (.mv (.tmp 7)),
           oq 38 (.ld (some 4) (.tmp 9)),
           oq 39 (.bsl [(vI 0), (vI 0), (vI 0), (vI 0)] 1 [(0, 4, (.tmp 38))]),
           oq 40 (.app 105 4 32 [(vI 0), (vI 0), (vI 0), (vI 0)] (.tmp 37) (.tmp 39)),
           oq 7 (.mv (.tmp 40))])
        .skip)))))
     (.reg [oq 41 (.bin .add (.tmp 15) (.const (vI 1))),
       oq 15 (.mv (.tmp 41))])))))))
  (.seq (.reg [oq 42 (.mv (.tmp 7)),
     oq 6 (.mv (.tmp 42))])
  .ret))))
def sweep_crossing_v1.l0 : Nat → List (Int × Int × Int × Int) → Int → Int → Int → List (Int × Int × Int × Int) → Option (List (Int × Int × Int × Int))
  | 0, _, _, _, _, _ => none
  | k + 1, l0, wide1, y2, x259, y261 => if x259 < (l0.length : Int) then ((lgt l0 x259).bind fun (x263, x264, x265, x266) => ((stroke_Box_v1.f wide1 x263 x264 x265 x266).bind fun (t285, t286, t287, t288, t289) => (if t286 ≤ y2 then (if y2 ≤ t288 then ((lapp y261 ([(x263, x264, x265, x266)] : List (Int × Int × Int × Int))).bind fun y296 => (sweep_crossing_v1.l0 k l0 wide1 y2 (wr64 (x259 + 1)) y296)) else (sweep_crossing_v1.l0 k l0 wide1 y2 (wr64 (x259 + 1)) y261)) else (sweep_crossing_v1.l0 k l0 wide1 y2 (wr64 (x259 + 1)) y261)))) else (some y261)
def sweep_crossing_v1.f (k : Nat) (l0 : List (Int × Int × Int × Int)) (wide1 : Int) (y2 : Int) : Option (List (Int × Int × Int × Int)) := (sweep_crossing_v1.l0 k l0 wide1 y2 0 ([] : List (Int × Int × Int × Int)) : Option (List (Int × Int × Int × Int))).bind fun y304 => (some y304)
theorem sweep_crossing_v1.ok {S : Seal} {k : Nat} {l0 : List (Int × Int × Int × Int)} {wide1 : Int} {y2 : Int} {r0_ : List (Int × Int × Int × Int)}{A_ : Int → Addr} (hE_ : EO gsE S A_ 157) {a_l0 : Option Addr} {c_l0 : Nat} (h_l0 : SlE S E_i644 l0 a_l0) (e : sweep_crossing_v1.f k l0 wide1 y2 = some r0_) :
    Cal Tryd.prog 75 [.slice a_l0 l0.length c_l0, vI wide1, vI y2] [] S fun v H' S' => ∃ (N0_ : Option Nat) (nN0_ : Nat) , v = .slice (ad N0_) r0_.length (nN0_ / 4) ∧ H' = ([⟨N0_, encL E_i644 r0_, nN0_⟩] : List Own) ∧ S' = S := by
 unfold sweep_crossing_v1.f at e
 refine cal_of (c := c75) (N := 43) Tryd.func75 rfl rfl (by kernel_rfl) (rs := [.t 6]) (by kernel_rfl) (Nat.le_of_ble_eq_true rfl) ?_
 unfold c75
 refine w_seq ?_
 refine w_reg fun all => ?_
 refine t_qz 1 [0, 1, 2] (σ' := [(0, .slice a_l0 l0.length c_l0), (1, vI wide1), (2, vI y2)]) (by kernel_rfl) ?_
 refine t_end ?_
 show W _ _ _ _ _ _ _
 refine w_seq ?_
 refine w_reg fun all => ?_
 refine t_qz 1 [0, 1, 2, 7] (σ' := [(0, .slice a_l0 l0.length c_l0), (1, vI wide1), (2, vI y2), (7, .slice none 0 0)]) (by kernel_rfl) ?_
 refine t_end ?_
 show W _ _ _ _ _ _ _
 obtain ⟨y304, e257, e⟩ := bind_of e
 refine w_cut [7] (fun σ_ H_ S_ => ∃ (a303 : Option Nat) (na303 : Nat), [(7, .slice (ad a303) y304.length (na303 / 4))] = σ_ ∧ ([⟨a303, encL E_i644 y304, na303⟩] : List Own) = H_ ∧ S = S_) ?_ ?_
 ·show W _ _ _ _ _ _ _
  refine w_seq ?_
  refine w_reg fun all => ?_
  refine t_qz 3 [1, 2, 7, 13, 14, 15] (σ' := [(1, vI wide1), (2, vI y2), (7, .slice none 0 0), (13, .slice a_l0 l0.length c_l0), (14, vI (l0.length : Int)), (15, vI 0)]) (by kernel_rfl) ?_
  refine t_end ?_
  show W _ _ _ _ _ _ _
  refine w_block ?_
  refine w_vs VS.vac ?_
  refine w_kp [1, 2, 7, 13, 14, 15] (σ' := [(1, vI wide1), (2, vI y2), (7, .slice (ad none) ([] : List (Int × Int × Int × Int)).length (0 / 4)), (13, .slice a_l0 l0.length c_l0), (14, vI (l0.length : Int)), (15, vI 0)]) (by kernel_rfl) ?_
  refine w_loop (fun n_ σ_ H_ S_ => ∃ (x259 : Int) (y261 : List (Int × Int × Int × Int)), ∃ (a260 : Option Nat) (na260 : Nat), [(1, vI wide1), (2, vI y2), (7, .slice (ad a260) y261.length (na260 / 4)), (13, .slice a_l0 l0.length c_l0), (14, vI (l0.length : Int)), (15, vI x259)] = σ_ ∧ ([⟨a260, encL E_i644 y261, na260⟩] : List Own) = H_ ∧ S = S_ ∧ sweep_crossing_v1.l0 n_ l0 wide1 y2 x259 y261 = some y304) _ ⟨0, ([] : List (Int × Int × Int × Int)), none, 0, rfl, rfl, rfl, e257⟩ ?_
  rintro n302 σ_ H_ S_ ⟨x259, y261, a260, na260, rfl, rfl, rfl, e257⟩
  cases n302 with
  | zero => rw [sweep_crossing_v1.l0.eq_1] at e257; cases e257
  | succ k_ =>
   rw [sweep_crossing_v1.l0.eq_2] at e257
   refine w_seq ?_
   refine w_reg fun all => ?_
   by_cases c262 : x259 < (l0.length : Int)
   ·rw [if_pos c262] at e257
    have c262b : (decide (x259 < (l0.length : Int))) = true := decide_eq_true c262
    refine t_v (dv_quiet rfl (congrArg (fun t => some (Value.bool t)) c262b)) ?_
    refine t_keep [1, 2, 7, 13, 14, 15, 16] (σ' := [(1, vI wide1), (2, vI y2), (7, .slice (ad a260) y261.length (na260 / 4)), (13, .slice a_l0 l0.length c_l0), (14, vI (l0.length : Int)), (15, vI x259), (16, vB true)]) (by kernel_rfl) ?_
    refine t_end ?_
    show W _ _ _ _ _ _ _
    refine w_seq ?_
    refine w_cond rfl (fun _ => ?_) (fun c_ => by cases c_)
    show W _ _ _ _ _ _ _
    refine w_skip ?_
    show W _ _ _ _ _ _ _
    refine w_seq ?_
    refine w_block ?_
    refine w_seq ?_
    refine w_reg fun all => ?_
    obtain ⟨⟨x263, x264, x265, x266⟩, hx267, e257⟩ := bind_of e257
    try dsimp only at e257
    obtain ⟨lb268, lo269, ll270, la271, lS272, lv273, lz274, lu275⟩ := sle_get (E := E_i644) h_l0 hx267
    refine t_v (.quiet rfl (ixs_sle rfl rfl la271 lz274 lu275)) ?_
    refine t_v (.ldn (vs := [vI x263, vI x264, vI x265, vI x266]) rfl rfl rfl (.sealed lS272 (subl_sub lv273 (by kernel_rfl)))) ?_
    refine t_a (.new rfl rfl) fun b276 fb276 sb276 => ?_
    refine t_sti 0 (cs := [vI x263, vI x264, vI x265, vI x266]) rfl rfl rfl rfl rfl rfl rfl rfl rfl ?_
    refine t_keep [1, 2, 7, 9, 13, 14, 15] (σ' := [(1, vI wide1), (2, vI y2), (7, .slice (ad a260) y261.length (na260 / 4)), (9, vP b276 0), (13, .slice a_l0 l0.length c_l0), (14, vI (l0.length : Int)), (15, vI x259)]) (by kernel_rfl) ?_
    refine t_end ?_
    show W _ _ _ _ _ _ _
    refine w_seq ?_
    refine w_reg fun all => ?_
    refine t_v (.ldn rfl rfl rfl (.at 0 rfl rfl)) ?_
    refine t_a (dv_bsl (cs := [vI x263, vI x264, vI x265, vI x266]) rfl rfl (by kernel_rfl)) fun b277 fb277 sb277 => ?_
    obtain ⟨⟨t285, t286, t287, t288, t289⟩, h290, e257⟩ := bind_of e257
    try dsimp only at e257
    refine t_qz 1 [1, 2, 7, 9, 13, 14, 15, 21, 22] (σ' := [(1, vI wide1), (2, vI y2), (7, .slice (ad a260) y261.length (na260 / 4)), (9, vP b276 0), (13, .slice a_l0 l0.length c_l0), (14, vI (l0.length : Int)), (15, vI x259), (21, .slice (some ⟨b277, 0, none⟩) 1 1), (22, vI wide1)]) (by kernel_rfl) ?_
    refine t_v (.callr (vs := [.slice (some ⟨b277, 0, none⟩) 1 1, vI wide1]) (A := ([⟨b277, [vI x263, vI x264, vI x265, vI x266], 4⟩] : List Own)) (F0 := ([⟨b276, [vI x263, vI x264, vI x265, vI x266], 4⟩, ⟨a260, encL E_i644 y261, na260⟩] : List Own)) rfl rfl (by kernel_rfl) (sel_perm (is := [0]) (by kernel_rfl)) (stroke_Box_v1.ok hE_ h290)) ?_
    refine t_qz 4 [1, 2, 7, 9, 13, 14, 15, 24, 25, 26] (σ' := [(1, vI wide1), (2, vI y2), (7, .slice (ad a260) y261.length (na260 / 4)), (9, vP b276 0), (13, .slice a_l0 l0.length c_l0), (14, vI (l0.length : Int)), (15, vI x259), (24, .agg #[vI t285, vI t286]), (25, .agg #[vI t287, vI t288]), (26, .bool t289)]) (by kernel_rfl) ?_
    refine t_a (.new rfl rfl) fun b291 fb291 sb291 => ?_
    refine t_a (.new rfl rfl) fun b292 fb292 sb292 => ?_
    refine t_sti 1 (cs := [vI t285, vI t286]) rfl rfl rfl rfl rfl rfl rfl rfl rfl ?_
    refine t_sti 0 (cs := [vI t287, vI t288]) rfl rfl rfl rfl rfl rfl rfl rfl rfl ?_
    refine t_qz 1 [1, 2, 7, 9, 10, 11, 13, 14, 15] (σ' := [(1, vI wide1), (2, vI y2), (7, .slice (ad a260) y261.length (na260 / 4)), (9, vP b276 0), (10, vP b291 0), (11, vP b292 0), (13, .slice a_l0 l0.length c_l0), (14, vI (l0.length : Int)), (15, vI x259)]) (by kernel_rfl) ?_
    refine t_end ?_
    show W _ _ _ _ _ _ _
    refine w_seq ?_
    refine w_reg fun all => ?_
    refine t_qz 1 [1, 2, 7, 9, 11, 13, 14, 15, 27] (σ' := [(1, vI wide1), (2, vI y2), (7, .slice (ad a260) y261.length (na260 / 4)), (9, vP b276 0), (11, vP b292 0), (13, .slice a_l0 l0.length c_l0), (14, vI (l0.length : Int)), (15, vI x259), (27, vP b291 1)]) (by kernel_rfl) ?_
    refine t_v (.ld1 rfl rfl rfl (.at 1 rfl rfl)) ?_
    by_cases c293 : t286 ≤ y2
    ·rw [if_pos c293] at e257
     have c293b : (decide (t286 ≤ y2)) = true := decide_eq_true c293
     refine t_qz 1 [1, 2, 7, 9, 11, 13, 14, 15, 28, 29] (σ' := [(1, vI wide1), (2, vI y2), (7, .slice (ad a260) y261.length (na260 / 4)), (9, vP b276 0), (11, vP b292 0), (13, .slice a_l0 l0.length c_l0), (14, vI (l0.length : Int)), (15, vI x259), (28, vI t286), (29, vI y2)]) (by kernel_rfl) ?_
     refine t_v (dv_quiet rfl (congrArg (fun t => some (Value.bool t)) c293b)) ?_
     refine t_qz 3 [1, 2, 7, 9, 13, 14, 15, 31, 32, 33] (σ' := [(1, vI wide1), (2, vI y2), (7, .slice (ad a260) y261.length (na260 / 4)), (9, vP b276 0), (13, .slice a_l0 l0.length c_l0), (14, vI (l0.length : Int)), (15, vI x259), (31, vB true), (32, vI y2), (33, vP b292 1)]) (by kernel_rfl) ?_
     refine t_v (.ld1 rfl rfl rfl (.at 0 rfl rfl)) ?_
     by_cases c294 : y2 ≤ t288
     ·rw [if_pos c294] at e257
      have c294b : (decide (y2 ≤ t288)) = true := decide_eq_true c294
      refine t_v (dv_quiet rfl (congrArg (fun t => some (Value.bool t)) c294b)) ?_
      refine t_qz 1 [1, 2, 7, 9, 13, 14, 15, 36] (σ' := [(1, vI wide1), (2, vI y2), (7, .slice (ad a260) y261.length (na260 / 4)), (9, vP b276 0), (13, .slice a_l0 l0.length c_l0), (14, vI (l0.length : Int)), (15, vI x259), (36, vB true)]) (by kernel_rfl) ?_
      refine t_end ?_
      show W _ _ _ _ _ _ _
      refine w_cond rfl (fun _ => ?_) (fun c_ => by cases c_)
      show W _ _ _ _ _ _ _
      refine w_reg fun all => ?_
      refine t_qz 1 [1, 2, 9, 13, 14, 15, 37] (σ' := [(1, vI wide1), (2, vI y2), (9, vP b276 0), (13, .slice a_l0 l0.length c_l0), (14, vI (l0.length : Int)), (15, vI x259), (37, .slice (ad a260) y261.length (na260 / 4))]) (by kernel_rfl) ?_
      refine t_v (.ldn rfl rfl rfl (.at 3 rfl rfl)) ?_
      refine t_a (dv_bsl (cs := [vI x263, vI x264, vI x265, vI x266]) rfl rfl (by kernel_rfl)) fun b295 fb295 sb295 => ?_
      obtain ⟨y296, hl297, e257⟩ := bind_of e257
      refine t_appX (E := E_i644) (L := y261) (X := ([(x263, x264, x265, x266)] : List (Int × Int × Int × Int))) (F := ([⟨b295, [vI x263, vI x264, vI x265, vI x266], 4⟩, ⟨b292, [vI t287, vI t288], 2⟩, ⟨b291, [vI t285, vI t286], 2⟩, ⟨b277, [vI x263, vI x264, vI x265, vI x266], 4⟩, ⟨b276, [vI x263, vI x264, vI x265, vI x266], 4⟩] : List Own)) rfl rfl rfl rfl (sel_perm (is := [5]) (by kernel_rfl)) rfl (Or.inr ⟨_, _, rfl, .at 0 rfl (by kernel_rfl)⟩) rfl (by decide) (by decide) rfl hl297 fun a298 na298 => ?_
      refine t_qz 1 [1, 2, 7, 13, 14, 15] (σ' := [(1, vI wide1), (2, vI y2), (7, .slice (ad a298) y296.length (na298 / 4)), (13, .slice a_l0 l0.length c_l0), (14, vI (l0.length : Int)), (15, vI x259)]) (by kernel_rfl) ?_
      refine t_end ?_
      show W _ _ _ _ _ _ _
      refine w_reg fun all => ?_
      refine t_qz 2 [1, 2, 7, 13, 14, 15] (σ' := [(1, vI wide1), (2, vI y2), (7, .slice (ad a298) y296.length (na298 / 4)), (13, .slice a_l0 l0.length c_l0), (14, vI (l0.length : Int)), (15, vI (wr64 (x259 + 1)))]) (by kernel_rfl) ?_
      refine t_end ?_
      exact ⟨k_, Nat.lt_succ_self _, [(1, vI wide1), (2, vI y2), (7, .slice (ad a298) y296.length (na298 / 4)), (13, .slice a_l0 l0.length c_l0), (14, vI (l0.length : Int)), (15, vI (wr64 (x259 + 1)))], ([⟨a298, encL E_i644 y296, na298⟩] : List Own), S, keep_sub [1, 2, 7, 13, 14, 15] (by kernel_rfl), VS.sel [0] (by kernel_rfl), wr64 (x259 + 1), y296, a298, na298, rfl, rfl, rfl, e257⟩
     ·rw [if_neg c294] at e257
      have c294b : (decide (y2 ≤ t288)) = false := decide_eq_false c294
      refine t_v (dv_quiet rfl (congrArg (fun t => some (Value.bool t)) c294b)) ?_
      refine t_qz 1 [1, 2, 7, 9, 13, 14, 15, 36] (σ' := [(1, vI wide1), (2, vI y2), (7, .slice (ad a260) y261.length (na260 / 4)), (9, vP b276 0), (13, .slice a_l0 l0.length c_l0), (14, vI (l0.length : Int)), (15, vI x259), (36, vB false)]) (by kernel_rfl) ?_
      refine t_end ?_
      show W _ _ _ _ _ _ _
      refine w_cond rfl (fun c_ => by cases c_) (fun _ => ?_)
      show W _ _ _ _ _ _ _
      refine w_skip ?_
      show W _ _ _ _ _ _ _
      refine w_reg fun all => ?_
      refine t_qz 2 [1, 2, 7, 13, 14, 15] (σ' := [(1, vI wide1), (2, vI y2), (7, .slice (ad a260) y261.length (na260 / 4)), (13, .slice a_l0 l0.length c_l0), (14, vI (l0.length : Int)), (15, vI (wr64 (x259 + 1)))]) (by kernel_rfl) ?_
      refine t_end ?_
      exact ⟨k_, Nat.lt_succ_self _, [(1, vI wide1), (2, vI y2), (7, .slice (ad a260) y261.length (na260 / 4)), (13, .slice a_l0 l0.length c_l0), (14, vI (l0.length : Int)), (15, vI (wr64 (x259 + 1)))], ([⟨a260, encL E_i644 y261, na260⟩] : List Own), S, keep_sub [1, 2, 7, 13, 14, 15] (by kernel_rfl), VS.sel [4] (by kernel_rfl), wr64 (x259 + 1), y261, a260, na260, rfl, rfl, rfl, e257⟩
    ·rw [if_neg c293] at e257
     have c293b : (decide (t286 ≤ y2)) = false := decide_eq_false c293
     refine t_qz 1 [1, 2, 7, 9, 11, 13, 14, 15, 28, 29] (σ' := [(1, vI wide1), (2, vI y2), (7, .slice (ad a260) y261.length (na260 / 4)), (9, vP b276 0), (11, vP b292 0), (13, .slice a_l0 l0.length c_l0), (14, vI (l0.length : Int)), (15, vI x259), (28, vI t286), (29, vI y2)]) (by kernel_rfl) ?_
     refine t_v (dv_quiet rfl (congrArg (fun t => some (Value.bool t)) c293b)) ?_
     refine t_qz 6 [1, 2, 7, 9, 13, 14, 15, 36] (σ' := [(1, vI wide1), (2, vI y2), (7, .slice (ad a260) y261.length (na260 / 4)), (9, vP b276 0), (13, .slice a_l0 l0.length c_l0), (14, vI (l0.length : Int)), (15, vI x259), (36, vB false)]) (by kernel_rfl) ?_
     refine t_end ?_
     show W _ _ _ _ _ _ _
     refine w_cond rfl (fun c_ => by cases c_) (fun _ => ?_)
     show W _ _ _ _ _ _ _
     refine w_skip ?_
     show W _ _ _ _ _ _ _
     refine w_reg fun all => ?_
     refine t_qz 2 [1, 2, 7, 13, 14, 15] (σ' := [(1, vI wide1), (2, vI y2), (7, .slice (ad a260) y261.length (na260 / 4)), (13, .slice a_l0 l0.length c_l0), (14, vI (l0.length : Int)), (15, vI (wr64 (x259 + 1)))]) (by kernel_rfl) ?_
     refine t_end ?_
     exact ⟨k_, Nat.lt_succ_self _, [(1, vI wide1), (2, vI y2), (7, .slice (ad a260) y261.length (na260 / 4)), (13, .slice a_l0 l0.length c_l0), (14, vI (l0.length : Int)), (15, vI (wr64 (x259 + 1)))], ([⟨a260, encL E_i644 y261, na260⟩] : List Own), S, keep_sub [1, 2, 7, 13, 14, 15] (by kernel_rfl), VS.sel [4] (by kernel_rfl), wr64 (x259 + 1), y261, a260, na260, rfl, rfl, rfl, e257⟩
   ·rw [if_neg c262] at e257
    have c262b : (decide (x259 < (l0.length : Int))) = false := decide_eq_false c262
    refine t_v (dv_quiet rfl (congrArg (fun t => some (Value.bool t)) c262b)) ?_
    refine t_keep [1, 2, 7, 13, 14, 15, 16] (σ' := [(1, vI wide1), (2, vI y2), (7, .slice (ad a260) y261.length (na260 / 4)), (13, .slice a_l0 l0.length c_l0), (14, vI (l0.length : Int)), (15, vI x259), (16, vB false)]) (by kernel_rfl) ?_
    refine t_end ?_
    show W _ _ _ _ _ _ _
    refine w_seq ?_
    refine w_cond rfl (fun c_ => by cases c_) (fun _ => ?_)
    show W _ _ _ _ _ _ _
    refine w_exit ?_
    obtain rfl := Option.some.inj e257
    exact ⟨([⟨a260, encL E_i644 y261, na260⟩] : List Own), S, VS.sel [0] (by kernel_rfl), a260, na260, by kernel_rfl, rfl, rfl⟩
 ·rintro σ_ H_ S_ ⟨a303, na303, rfl, rfl, rfl⟩
  refine w_seq ?_
  refine w_reg fun all => ?_
  refine t_qz 2 [6] (σ' := [(6, .slice (ad a303) y304.length (na303 / 4))]) (by kernel_rfl) ?_
  refine t_end ?_
  show W _ _ _ _ _ _ _
  refine w_ret ?_
  obtain rfl := Option.some.inj e
  exact ⟨[.slice (ad a303) y304.length (na303 / 4)], ([⟨a303, encL E_i644 y304, na303⟩] : List Own), S, ⟨rfl, trivial⟩, VS.sel [0] (by kernel_rfl), a303, na303, rfl, rfl, rfl⟩

/-- plane.Sub -/
def c89 : C :=
  (.seq (.reg [oq 2 (.box (.tmp 0)),
     oq 3 (.box (.tmp 1)),
     oq 4 (.new [(vI 0), (vI 0)])])
  (.seq (.reg [oq 5 (.pad 0 (.tmp 2)),
     oq 6 (.ld none (.tmp 5)),
     oq 7 (.pad 0 (.tmp 3)),
     oq 8 (.ld none (.tmp 7)),
     oq 9 (.bin .sub (.tmp 6) (.tmp 8)),
     oq 10 (.pad 1 (.tmp 2)),
     oq 11 (.ld none (.tmp 10)),
     oq 12 (.pad 1 (.tmp 3)),
     oq 13 (.ld none (.tmp 12)),
     oq 14 (.bin .sub (.tmp 11) (.tmp 13)),
     oq 15 (.bld [(vI 0), (vI 0)] [(0, 1, (.tmp 9)), (1, 1, (.tmp 14))]),
     ⟨none, .st 2 (.tmp 4) (.tmp 15), none⟩])
  .ret))
def plane_Sub.f (a0_X : Int) (a0_Y : Int) (b1_X : Int) (b1_Y : Int) : Option (Int × Int) := some (wr64 (a0_X - b1_X), wr64 (a0_Y - b1_Y))
theorem plane_Sub.ok {S : Seal} {a0_X : Int} {a0_Y : Int} {b1_X : Int} {b1_Y : Int} {r0_ : Int} {r1_ : Int}{A_ : Int → Addr} (hE_ : EO gsE S A_ 157) (e : plane_Sub.f a0_X a0_Y b1_X b1_Y = some (r0_, r1_)) :
    Cal Tryd.prog 89 [.agg #[vI a0_X, vI a0_Y], .agg #[vI b1_X, vI b1_Y]] [] S fun v H' S' => v = .agg #[vI r0_, vI r1_] ∧ H' = [] ∧ S' = S := by
 unfold plane_Sub.f at e
 refine cal_of (c := c89) (N := 16) Tryd.func89 rfl rfl (by kernel_rfl) (rs := [.cn 2 4]) (by kernel_rfl) (Nat.le_of_ble_eq_true rfl) ?_
 unfold c89
 refine w_seq ?_
 refine w_reg fun all => ?_
 refine t_a (.box rfl rfl rfl) fun b349 fb349 sb349 => ?_
 refine t_a (.box rfl rfl rfl) fun b350 fb350 sb350 => ?_
 refine t_a (.new rfl rfl) fun b351 fb351 sb351 => ?_
 refine t_keep [2, 3, 4] (σ' := [(2, vP b349 0), (3, vP b350 0), (4, vP b351 0)]) (by kernel_rfl) ?_
 refine t_end ?_
 show W _ _ _ _ _ _ _
 refine w_seq ?_
 refine w_reg fun all => ?_
 refine t_qz 1 [2, 3, 4, 5] (σ' := [(2, vP b349 0), (3, vP b350 0), (4, vP b351 0), (5, vP b349 0)]) (by kernel_rfl) ?_
 refine t_v (.ld1 rfl rfl rfl (.at 2 rfl rfl)) ?_
 refine t_qz 1 [2, 3, 4, 6, 7] (σ' := [(2, vP b349 0), (3, vP b350 0), (4, vP b351 0), (6, vI a0_X), (7, vP b350 0)]) (by kernel_rfl) ?_
 refine t_v (.ld1 rfl rfl rfl (.at 1 rfl rfl)) ?_
 refine t_qz 2 [3, 4, 9, 10] (σ' := [(3, vP b350 0), (4, vP b351 0), (9, vI (wr64 (a0_X - b1_X))), (10, vP b349 1)]) (by kernel_rfl) ?_
 refine t_v (.ld1 rfl rfl rfl (.at 2 rfl rfl)) ?_
 refine t_qz 1 [4, 9, 11, 12] (σ' := [(4, vP b351 0), (9, vI (wr64 (a0_X - b1_X))), (11, vI a0_Y), (12, vP b350 1)]) (by kernel_rfl) ?_
 refine t_v (.ld1 rfl rfl rfl (.at 1 rfl rfl)) ?_
 refine t_qz 2 [4, 15] (σ' := [(4, vP b351 0), (15, .agg #[vI (wr64 (a0_X - b1_X)), vI (wr64 (a0_Y - b1_Y))])]) (by kernel_rfl) ?_
 refine t_sti 0 (cs := [vI (wr64 (a0_X - b1_X)), vI (wr64 (a0_Y - b1_Y))]) rfl rfl rfl rfl rfl rfl rfl rfl rfl ?_
 refine t_keep [4] (σ' := [(4, vP b351 0)]) (by kernel_rfl) ?_
 refine t_end ?_
 show W _ _ _ _ _ _ _
 refine w_ret ?_
 simp only [Option.some.injEq, Prod.mk.injEq] at e
 obtain ⟨rfl, rfl⟩ := e
 exact ⟨[.agg #[vI (wr64 (a0_X - b1_X)), vI (wr64 (a0_Y - b1_Y))]], [], S, ⟨⟨_, _, _, rfl, .at 0 rfl rfl, rfl⟩, trivial⟩, VS.none, rfl, rfl, rfl⟩

/-- plane.Cross -/
def c88 : C :=
  (.seq (.reg [oq 3 (.box (.tmp 0)),
     oq 4 (.box (.tmp 1)),
     oq 5 (.box (.tmp 2)),
     oq 6 (.mv (.const (vI 0)))])
  (.seq (.drw [oq 9 (.ld (some 2) (.tmp 4)),
     oq 10 (.ld (some 2) (.tmp 3)),
     oq 11 (.call 89 [(.tmp 9), (.tmp 10)]),
     oq 12 (.ld (some 2) (.tmp 5)),
     oq 13 (.ld (some 2) (.tmp 3)),
     oq 14 (.call 89 [(.tmp 12), (.tmp 13)]),
     oq 7 (.new [(vI 0), (vI 0)]),
     oq 8 (.new [(vI 0), (vI 0)]),
     ⟨none, .st 2 (.tmp 7) (.tmp 11), none⟩,
     ⟨none, .st 2 (.tmp 8) (.tmp 14), none⟩] [[], [], [0, 1], [], [], [3, 4, 2], [], [], [6, 2, 5, 0, 1, 2, 6, 7], [7, 5, 8, 0, 1, 2, 3, 4, 5, 6, 7, 8]])
  (.seq (.reg [oq 15 (.pad 0 (.tmp 7)),
     oq 16 (.ld none (.tmp 15)),
     oq 17 (.pad 1 (.tmp 8)),
     oq 18 (.ld none (.tmp 17)),
     oq 19 (.bin .mul (.tmp 16) (.tmp 18)),
     oq 20 (.pad 1 (.tmp 7)),
     oq 21 (.ld none (.tmp 20)),
     oq 22 (.pad 0 (.tmp 8)),
     oq 23 (.ld none (.tmp 22)),
     oq 24 (.bin .mul (.tmp 21) (.tmp 23)),
     oq 25 (.bin .sub (.tmp 19) (.tmp 24)),
     oq 6 (.mv (.tmp 25))])
  .ret)))
def plane_Cross.f (a0_X : Int) (a0_Y : Int) (b1_X : Int) (b1_Y : Int) (p2_X : Int) (p2_Y : Int) : Option (Int) := (plane_Sub.f b1_X b1_Y a0_X a0_Y).bind fun (t349, t350) => ((plane_Sub.f p2_X p2_Y a0_X a0_Y).bind fun (t352, t353) => (some (wr64 ((wr64 (t349 * t353)) - (wr64 (t350 * t352))))))
theorem plane_Cross.ok {S : Seal} {a0_X : Int} {a0_Y : Int} {b1_X : Int} {b1_Y : Int} {p2_X : Int} {p2_Y : Int} {r0_ : Int}{A_ : Int → Addr} (hE_ : EO gsE S A_ 157) (e : plane_Cross.f a0_X a0_Y b1_X b1_Y p2_X p2_Y = some r0_) :
    Cal Tryd.prog 88 [.agg #[vI a0_X, vI a0_Y], .agg #[vI b1_X, vI b1_Y], .agg #[vI p2_X, vI p2_Y]] [] S fun v H' S' => v = vI r0_ ∧ H' = [] ∧ S' = S := by
 unfold plane_Cross.f at e
 refine cal_of (c := c88) (N := 26) Tryd.func88 rfl rfl (by kernel_rfl) (rs := [.t 6]) (by kernel_rfl) (Nat.le_of_ble_eq_true rfl) ?_
 unfold c88
 refine w_seq ?_
 refine w_reg fun all => ?_
 refine t_a (.box rfl rfl rfl) fun b346 fb346 sb346 => ?_
 refine t_a (.box rfl rfl rfl) fun b347 fb347 sb347 => ?_
 refine t_a (.box rfl rfl rfl) fun b348 fb348 sb348 => ?_
 refine t_qz 1 [3, 4, 5] (σ' := [(3, vP b346 0), (4, vP b347 0), (5, vP b348 0)]) (by kernel_rfl) ?_
 refine t_end ?_
 show W _ _ _ _ _ _ _
 refine w_seq ?_
 obtain ⟨⟨t349, t350⟩, h351, e⟩ := bind_of e
 try dsimp only at e
 obtain ⟨⟨t352, t353⟩, h354, e⟩ := bind_of e
 try dsimp only at e
 refine w_drwE mixed 8 [.v (.agg #[vI b1_X, vI b1_Y]), .v (.agg #[vI a0_X, vI a0_Y]), .v (.agg #[vI t349, vI t350]), .v (.agg #[vI p2_X, vI p2_Y]), .v (.agg #[vI a0_X, vI a0_Y]), .v (.agg #[vI t352, vI t353]), .a [vI 0, vI 0] ptrTo, .a [vI 0, vI 0] ptrTo] (by kernel_rfl) ?_ ?_
 ·refine .cons (.ldn rfl rfl rfl (.at 1 rfl rfl)) ?_
  refine .cons (.ldn rfl rfl rfl (.at 2 rfl rfl)) ?_
  refine .cons (.call (vs := [.agg #[vI b1_X, vI b1_Y], .agg #[vI a0_X, vI a0_Y]]) rfl rfl (by kernel_rfl) (plane_Sub.ok hE_ h351)) ?_
  refine .cons (.ldn rfl rfl rfl (.at 0 rfl rfl)) ?_
  refine .cons (.ldn rfl rfl rfl (.at 2 rfl rfl)) ?_
  refine .cons (.call (vs := [.agg #[vI p2_X, vI p2_Y], .agg #[vI a0_X, vI a0_Y]]) rfl rfl (by kernel_rfl) (plane_Sub.ok hE_ h354)) ?_
  refine .cons (.new rfl rfl) ?_
  refine .cons (.new rfl rfl) ?_
  exact .nil
 refine fk_q 6 [11, 14] (σ' := [(11, .agg #[vI t349, vI t350]), (14, .agg #[vI t352, vI t353])]) t_more (by kernel_rfl) ?_
 refine fk_a fun b355 fb355 sb355 => ?_
 refine fk_a fun b356 fb356 sb356 => ?_
 refine fk_nil fun all => ?_
 refine t_sti 1 (cs := [vI t349, vI t350]) rfl rfl rfl rfl rfl rfl rfl rfl rfl ?_
 refine t_sti 0 (cs := [vI t352, vI t353]) rfl rfl rfl rfl rfl rfl rfl rfl rfl ?_
 refine t_keep [7, 8] (σ' := [(7, vP b355 0), (8, vP b356 0)]) (by kernel_rfl) ?_
 refine t_end ?_
 show W _ _ _ _ _ _ _
 refine w_seq ?_
 refine w_reg fun all => ?_
 refine t_qz 1 [7, 8, 15] (σ' := [(7, vP b355 0), (8, vP b356 0), (15, vP b355 0)]) (by kernel_rfl) ?_
 refine t_v (.ld1 rfl rfl rfl (.at 1 rfl rfl)) ?_
 refine t_qz 1 [7, 8, 16, 17] (σ' := [(7, vP b355 0), (8, vP b356 0), (16, vI t349), (17, vP b356 1)]) (by kernel_rfl) ?_
 refine t_v (.ld1 rfl rfl rfl (.at 0 rfl rfl)) ?_
 refine t_qz 2 [8, 19, 20] (σ' := [(8, vP b356 0), (19, vI (wr64 (t349 * t353))), (20, vP b355 1)]) (by kernel_rfl) ?_
 refine t_v (.ld1 rfl rfl rfl (.at 1 rfl rfl)) ?_
 refine t_qz 1 [19, 21, 22] (σ' := [(19, vI (wr64 (t349 * t353))), (21, vI t350), (22, vP b356 0)]) (by kernel_rfl) ?_
 refine t_v (.ld1 rfl rfl rfl (.at 0 rfl rfl)) ?_
 refine t_qz 3 [6] (σ' := [(6, vI (wr64 ((wr64 (t349 * t353)) - (wr64 (t350 * t352)))))]) (by kernel_rfl) ?_
 refine t_end ?_
 show W _ _ _ _ _ _ _
 refine w_ret ?_
 obtain rfl := Option.some.inj e
 exact ⟨[vI (wr64 ((wr64 (t349 * t353)) - (wr64 (t350 * t352))))], [], S, ⟨rfl, trivial⟩, VS.none, rfl, rfl, rfl⟩

/-- wind.One -/
def c85 : C :=
  (.seq (.reg [oq 2 (.box (.tmp 0)),
     oq 3 (.box (.tmp 1)),
     oq 4 (.mv (.const (vI 0)))])
  (.seq (.block 0 (.seq (.reg [oq 6 (.pad 0 (.tmp 2)),
       oq 7 (.pad 1 (.tmp 6)),
       oq 8 (.ld none (.tmp 7)),
       oq 9 (.pad 1 (.tmp 3)),
       oq 10 (.ld none (.tmp 9)),
       oq 11 (.bin .leq (.tmp 8) (.tmp 10)),
       oq 12 (.mv (.tmp 11)),
       ⟨(some 13), .pad 2 (.tmp 2), (some (12, true))⟩,
       ⟨(some 14), .pad 1 (.tmp 13), (some (12, true))⟩,
       ⟨(some 15), .ld none (.tmp 14), (some (12, true))⟩,
       ⟨(some 16), .pad 1 (.tmp 3), (some (12, true))⟩,
       ⟨(some 17), .ld none (.tmp 16), (some (12, true))⟩,
       ⟨(some 18), .bin .gtr (.tmp 15) (.tmp 17), (some (12, true))⟩,
       oq 19 (.pk (.tmp 12) (.tmp 18) (.const (vB false))),
       oq 20 (.mv (.tmp 19)),
       ⟨(some 21), .pad 0 (.tmp 2), (some (20, true))⟩,
       ⟨(some 22), .ld (some 2) (.tmp 21), (some (20, true))⟩,
       ⟨(some 23), .pad 2 (.tmp 2), (some (20, true))⟩,
       ⟨(some 24), .ld (some 2) (.tmp 23), (some (20, true))⟩,
       ⟨(some 25), .ld (some 2) (.tmp 3), (some (20, true))⟩,
       ⟨(some 26), .call 88 [(.tmp 22), (.tmp 24), (.tmp 25)], (some (20, true))⟩,
       ⟨(some 27), .bin .gtr (.tmp 26) (.const (vI 0)), (some (20, true))⟩,
       oq 28 (.pk (.tmp 20) (.tmp 27) (.const (vB false))),
       oq 5 (.mv (.tmp 28))])
    (.cond (.tmp 5)
     (.seq (.reg [oq 4 (.mv (.const (vI 1)))])
      .ret)
     (.seq (.reg [oq 30 (.pad 2 (.tmp 2)),
         oq 31 (.pad 1 (.tmp 30)),
         oq 32 (.ld none (.tmp 31)),
         oq 33 (.pad 1 (.tmp 3)),
         oq 34 (.ld none (.tmp 33)),
         oq 35 (.bin .leq (.tmp 32) (.tmp 34)),
         oq 36 (.mv (.tmp 35)),
         ⟨(some 37), .pad 0 (.tmp 2), (some (36, true))⟩,
         ⟨(some 38), .pad 1 (.tmp 37), (some (36, true))⟩,
         ⟨(some 39), .ld none (.tmp 38), (some (36, true))⟩,
         ⟨(some 40), .pad 1 (.tmp 3), (some (36, true))⟩,
         ⟨(some 41), .ld none (.tmp 40), (some (36, true))⟩,
         ⟨(some 42), .bin .gtr (.tmp 39) (.tmp 41), (some (36, true))⟩,
         oq 43 (.pk (.tmp 36) (.tmp 42) (.const (vB false))),
         oq 44 (.mv (.tmp 43)),
         ⟨(some 45), .pad 0 (.tmp 2), (some (44, true))⟩,
         ⟨(some 46), .ld (some 2) (.tmp 45), (some (44, true))⟩,
         ⟨(some 47), .pad 2 (.tmp 2), (some (44, true))⟩,
         ⟨(some 48), .ld (some 2) (.tmp 47), (some (44, true))⟩,
         ⟨(some 49), .ld (some 2) (.tmp 3), (some (44, true))⟩,
         ⟨(some 50), .call 88 [(.tmp 46), (.tmp 48), (.tmp 49)], (some (44, true))⟩,
         ⟨(some 51), .bin .lss (.tmp 50) (.const (vI 0)), (some (44, true))⟩,
         oq 52 (.pk (.tmp 44) (.tmp 51) (.const (vB false))),
         oq 29 (.mv (.tmp 52))])
      (.cond (.tmp 29)
       (.seq (.reg [oq 4 (.mv (.const (vI (-1))))])
        .ret)
       .skip)))))
  (.seq (.reg [oq 4 (.mv (.const (vI 0)))])
  .ret)))
def wind_One.f (e0_A_X : Int) (e0_A_Y : Int) (e0_B_X : Int) (e0_B_Y : Int) (p1_X : Int) (p1_Y : Int) : Option (Int) := (if e0_A_Y ≤ p1_Y then (if e0_B_Y > p1_Y then ((plane_Cross.f e0_A_X e0_A_Y e0_B_X e0_B_Y p1_X p1_Y).bind fun t349 => (if t349 > 0 then (some true) else (some false))) else (some false)) else (some false) : Option (Bool)).bind fun x352 => (if x352 = true then (some 1) else (if e0_B_Y ≤ p1_Y then (if e0_A_Y > p1_Y then ((plane_Cross.f e0_A_X e0_A_Y e0_B_X e0_B_Y p1_X p1_Y).bind fun t356 => (if t356 < 0 then (some (-1)) else (some 0))) else (some 0)) else (some 0)))
theorem wind_One.ok {S : Seal} {e0_A_X : Int} {e0_A_Y : Int} {e0_B_X : Int} {e0_B_Y : Int} {p1_X : Int} {p1_Y : Int} {r0_ : Int}{A_ : Int → Addr} (hE_ : EO gsE S A_ 157) (e : wind_One.f e0_A_X e0_A_Y e0_B_X e0_B_Y p1_X p1_Y = some r0_) :
    Cal Tryd.prog 85 [.agg #[vI e0_A_X, vI e0_A_Y, vI e0_B_X, vI e0_B_Y], .agg #[vI p1_X, vI p1_Y]] [] S fun v H' S' => v = vI r0_ ∧ H' = [] ∧ S' = S := by
 unfold wind_One.f at e
 refine cal_of (c := c85) (N := 53) Tryd.func85 rfl rfl (by kernel_rfl) (rs := [.t 4]) (by kernel_rfl) (Nat.le_of_ble_eq_true rfl) ?_
 unfold c85
 refine w_seq ?_
 refine w_reg fun all => ?_
 refine t_a (.box rfl rfl rfl) fun b342 fb342 sb342 => ?_
 refine t_a (.box rfl rfl rfl) fun b343 fb343 sb343 => ?_
 refine t_qz 1 [2, 3] (σ' := [(2, vP b342 0), (3, vP b343 0)]) (by kernel_rfl) ?_
 refine t_end ?_
 show W _ _ _ _ _ _ _
 refine w_seq ?_
 refine w_block ?_
 obtain ⟨x352, e345, e⟩ := bind_of e
 refine w_cut [2, 3, 5] (fun σ_ H_ S_ => [(2, vP b342 0), (3, vP b343 0), (5, .bool x352)] = σ_ ∧ ([⟨b343, [vI p1_X, vI p1_Y], 2⟩, ⟨b342, [vI e0_A_X, vI e0_A_Y, vI e0_B_X, vI e0_B_Y], 4⟩] : List Own) = H_ ∧ S = S_) ?_ ?_
 ·show W _ _ _ _ _ _ _
  refine w_reg fun all => ?_
  refine t_qz 2 [2, 3, 7] (σ' := [(2, vP b342 0), (3, vP b343 0), (7, vP b342 1)]) (by kernel_rfl) ?_
  refine t_v (.ld1 rfl rfl rfl (.at 1 rfl rfl)) ?_
  refine t_qz 1 [2, 3, 8, 9] (σ' := [(2, vP b342 0), (3, vP b343 0), (8, vI e0_A_Y), (9, vP b343 1)]) (by kernel_rfl) ?_
  refine t_v (.ld1 rfl rfl rfl (.at 0 rfl rfl)) ?_
  by_cases c347 : e0_A_Y ≤ p1_Y
  ·rw [if_pos c347] at e345
   have c347b : (decide (e0_A_Y ≤ p1_Y)) = true := decide_eq_true c347
   refine t_v (dv_quiet rfl (congrArg (fun t => some (Value.bool t)) c347b)) ?_
   refine t_qz 3 [2, 3, 12, 14] (σ' := [(2, vP b342 0), (3, vP b343 0), (12, vB true), (14, vP b342 3)]) (by kernel_rfl) ?_
   refine t_v (.ld1 rfl rfl rfl (.at 1 rfl rfl)) ?_
   refine t_qz 1 [2, 3, 12, 15, 16] (σ' := [(2, vP b342 0), (3, vP b343 0), (12, vB true), (15, vI e0_B_Y), (16, vP b343 1)]) (by kernel_rfl) ?_
   refine t_v (.ld1 rfl rfl rfl (.at 0 rfl rfl)) ?_
   by_cases c348 : e0_B_Y > p1_Y
   ·rw [if_pos c348] at e345
    have c348b : (decide (e0_B_Y > p1_Y)) = true := decide_eq_true c348
    refine t_v (dv_quiet rfl (congrArg (fun t => some (Value.bool t)) c348b)) ?_
    refine t_qz 3 [2, 3, 20, 21] (σ' := [(2, vP b342 0), (3, vP b343 0), (20, vB true), (21, vP b342 0)]) (by kernel_rfl) ?_
    refine t_v (.ldn rfl rfl rfl (.at 1 rfl rfl)) ?_
    refine t_qz 1 [2, 3, 20, 22, 23] (σ' := [(2, vP b342 0), (3, vP b343 0), (20, vB true), (22, .agg #[vI e0_A_X, vI e0_A_Y]), (23, vP b342 2)]) (by kernel_rfl) ?_
    refine t_v (.ldn rfl rfl rfl (.at 1 rfl rfl)) ?_
    refine t_v (.ldn rfl rfl rfl (.at 0 rfl rfl)) ?_
    obtain ⟨t349, h350, e345⟩ := bind_of e345
    refine t_v (.call (vs := [.agg #[vI e0_A_X, vI e0_A_Y], .agg #[vI e0_B_X, vI e0_B_Y], .agg #[vI p1_X, vI p1_Y]]) rfl rfl (by kernel_rfl) (plane_Cross.ok hE_ h350)) ?_
    by_cases c351 : t349 > 0
    ·rw [if_pos c351] at e345
     have c351b : (decide (t349 > 0)) = true := decide_eq_true c351
     refine t_v (dv_quiet rfl (congrArg (fun t => some (Value.bool t)) c351b)) ?_
     refine t_qz 2 [2, 3, 5] (σ' := [(2, vP b342 0), (3, vP b343 0), (5, vB true)]) (by kernel_rfl) ?_
     refine t_end ?_
     obtain rfl := Option.some.inj e345
     exact ⟨([⟨b343, [vI p1_X, vI p1_Y], 2⟩, ⟨b342, [vI e0_A_X, vI e0_A_Y, vI e0_B_X, vI e0_B_Y], 4⟩] : List Own), S, VS.sel [0, 0] (by kernel_rfl), by kernel_rfl, rfl, rfl⟩
    ·rw [if_neg c351] at e345
     have c351b : (decide (t349 > 0)) = false := decide_eq_false c351
     refine t_v (dv_quiet rfl (congrArg (fun t => some (Value.bool t)) c351b)) ?_
     refine t_qz 2 [2, 3, 5] (σ' := [(2, vP b342 0), (3, vP b343 0), (5, vB false)]) (by kernel_rfl) ?_
     refine t_end ?_
     obtain rfl := Option.some.inj e345
     exact ⟨([⟨b343, [vI p1_X, vI p1_Y], 2⟩, ⟨b342, [vI e0_A_X, vI e0_A_Y, vI e0_B_X, vI e0_B_Y], 4⟩] : List Own), S, VS.sel [0, 0] (by kernel_rfl), by kernel_rfl, rfl, rfl⟩
   ·rw [if_neg c348] at e345
    have c348b : (decide (e0_B_Y > p1_Y)) = false := decide_eq_false c348
    refine t_v (dv_quiet rfl (congrArg (fun t => some (Value.bool t)) c348b)) ?_
    refine t_qz 11 [2, 3, 5] (σ' := [(2, vP b342 0), (3, vP b343 0), (5, vB false)]) (by kernel_rfl) ?_
    refine t_end ?_
    obtain rfl := Option.some.inj e345
    exact ⟨([⟨b343, [vI p1_X, vI p1_Y], 2⟩, ⟨b342, [vI e0_A_X, vI e0_A_Y, vI e0_B_X, vI e0_B_Y], 4⟩] : List Own), S, VS.sel [0, 0] (by kernel_rfl), by kernel_rfl, rfl, rfl⟩
  ·rw [if_neg c347] at e345
   have c347b : (decide (e0_A_Y ≤ p1_Y)) = false := decide_eq_false c347
   refine t_v (dv_quiet rfl (congrArg (fun t => some (Value.bool t)) c347b)) ?_
   refine t_qz 18 [2, 3, 5] (σ' := [(2, vP b342 0), (3, vP b343 0), (5, vB false)]) (by kernel_rfl) ?_
   refine t_end ?_
   obtain rfl := Option.some.inj e345
   exact ⟨([⟨b343, [vI p1_X, vI p1_Y], 2⟩, ⟨b342, [vI e0_A_X, vI e0_A_Y, vI e0_B_X, vI e0_B_Y], 4⟩] : List Own), S, VS.sel [0, 0] (by kernel_rfl), by kernel_rfl, rfl, rfl⟩
 ·rintro σ_ H_ S_ ⟨rfl, rfl, rfl⟩
  by_cases c353 : x352 = true
  ·rw [if_pos c353] at e
   have c353b : x352 = true := c353
   refine w_cond (t := true) (congrArg (fun t => some (Value.bool t)) c353b) (fun _ => ?_) (fun c_ => by cases c_)
   refine w_seq ?_
   refine w_reg fun all => ?_
   refine t_qz 1 [4] (σ' := [(4, vI 1)]) (by kernel_rfl) ?_
   refine t_end ?_
   show W _ _ _ _ _ _ _
   refine w_ret ?_
   obtain rfl := Option.some.inj e
   exact ⟨[vI 1], [], S, ⟨rfl, trivial⟩, VS.none, rfl, rfl, rfl⟩
  ·rw [if_neg c353] at e
   have c353b : x352 = false := Bool.eq_false_iff.mpr c353
   refine w_cond (t := false) (congrArg (fun t => some (Value.bool t)) c353b) (fun c_ => by cases c_) (fun _ => ?_)
   refine w_seq ?_
   refine w_reg fun all => ?_
   refine t_qz 2 [2, 3, 31] (σ' := [(2, vP b342 0), (3, vP b343 0), (31, vP b342 3)]) (by kernel_rfl) ?_
   refine t_v (.ld1 rfl rfl rfl (.at 1 rfl rfl)) ?_
   refine t_qz 1 [2, 3, 32, 33] (σ' := [(2, vP b342 0), (3, vP b343 0), (32, vI e0_B_Y), (33, vP b343 1)]) (by kernel_rfl) ?_
   refine t_v (.ld1 rfl rfl rfl (.at 0 rfl rfl)) ?_
   by_cases c354 : e0_B_Y ≤ p1_Y
   ·rw [if_pos c354] at e
    have c354b : (decide (e0_B_Y ≤ p1_Y)) = true := decide_eq_true c354
    refine t_v (dv_quiet rfl (congrArg (fun t => some (Value.bool t)) c354b)) ?_
    refine t_qz 3 [2, 3, 36, 38] (σ' := [(2, vP b342 0), (3, vP b343 0), (36, vB true), (38, vP b342 1)]) (by kernel_rfl) ?_
    refine t_v (.ld1 rfl rfl rfl (.at 1 rfl rfl)) ?_
    refine t_qz 1 [2, 3, 36, 39, 40] (σ' := [(2, vP b342 0), (3, vP b343 0), (36, vB true), (39, vI e0_A_Y), (40, vP b343 1)]) (by kernel_rfl) ?_
    refine t_v (.ld1 rfl rfl rfl (.at 0 rfl rfl)) ?_
    by_cases c355 : e0_A_Y > p1_Y
    ·rw [if_pos c355] at e
     have c355b : (decide (e0_A_Y > p1_Y)) = true := decide_eq_true c355
     refine t_v (dv_quiet rfl (congrArg (fun t => some (Value.bool t)) c355b)) ?_
     refine t_qz 3 [2, 3, 44, 45] (σ' := [(2, vP b342 0), (3, vP b343 0), (44, vB true), (45, vP b342 0)]) (by kernel_rfl) ?_
     refine t_v (.ldn rfl rfl rfl (.at 1 rfl rfl)) ?_
     refine t_qz 1 [3, 44, 46, 47] (σ' := [(3, vP b343 0), (44, vB true), (46, .agg #[vI e0_A_X, vI e0_A_Y]), (47, vP b342 2)]) (by kernel_rfl) ?_
     refine t_v (.ldn rfl rfl rfl (.at 1 rfl rfl)) ?_
     refine t_v (.ldn rfl rfl rfl (.at 0 rfl rfl)) ?_
     obtain ⟨t356, h357, e⟩ := bind_of e
     refine t_v (.call (vs := [.agg #[vI e0_A_X, vI e0_A_Y], .agg #[vI e0_B_X, vI e0_B_Y], .agg #[vI p1_X, vI p1_Y]]) rfl rfl (by kernel_rfl) (plane_Cross.ok hE_ h357)) ?_
     by_cases c358 : t356 < 0
     ·rw [if_pos c358] at e
      have c358b : (decide (t356 < 0)) = true := decide_eq_true c358
      refine t_v (dv_quiet rfl (congrArg (fun t => some (Value.bool t)) c358b)) ?_
      refine t_qz 2 [29] (σ' := [(29, vB true)]) (by kernel_rfl) ?_
      refine t_end ?_
      show W _ _ _ _ _ _ _
      refine w_cond rfl (fun _ => ?_) (fun c_ => by cases c_)
      show W _ _ _ _ _ _ _
      refine w_seq ?_
      refine w_reg fun all => ?_
      refine t_qz 1 [4] (σ' := [(4, vI (-1))]) (by kernel_rfl) ?_
      refine t_end ?_
      show W _ _ _ _ _ _ _
      refine w_ret ?_
      obtain rfl := Option.some.inj e
      exact ⟨[vI (-1)], [], S, ⟨rfl, trivial⟩, VS.none, rfl, rfl, rfl⟩
     ·rw [if_neg c358] at e
      have c358b : (decide (t356 < 0)) = false := decide_eq_false c358
      refine t_v (dv_quiet rfl (congrArg (fun t => some (Value.bool t)) c358b)) ?_
      refine t_qz 2 [29] (σ' := [(29, vB false)]) (by kernel_rfl) ?_
      refine t_end ?_
      show W _ _ _ _ _ _ _
      refine w_cond rfl (fun c_ => by cases c_) (fun _ => ?_)
      show W _ _ _ _ _ _ _
      refine w_skip ?_
      show W _ _ _ _ _ _ _
      refine w_seq ?_
      refine w_reg fun all => ?_
      refine t_qz 1 [4] (σ' := [(4, vI 0)]) (by kernel_rfl) ?_
      refine t_end ?_
      show W _ _ _ _ _ _ _
      refine w_ret ?_
      obtain rfl := Option.some.inj e
      exact ⟨[vI 0], [], S, ⟨rfl, trivial⟩, VS.none, rfl, rfl, rfl⟩
    ·rw [if_neg c355] at e
     have c355b : (decide (e0_A_Y > p1_Y)) = false := decide_eq_false c355
     refine t_v (dv_quiet rfl (congrArg (fun t => some (Value.bool t)) c355b)) ?_
     refine t_qz 11 [29] (σ' := [(29, vB false)]) (by kernel_rfl) ?_
     refine t_end ?_
     show W _ _ _ _ _ _ _
     refine w_cond rfl (fun c_ => by cases c_) (fun _ => ?_)
     show W _ _ _ _ _ _ _
     refine w_skip ?_
     show W _ _ _ _ _ _ _
     refine w_seq ?_
     refine w_reg fun all => ?_
     refine t_qz 1 [4] (σ' := [(4, vI 0)]) (by kernel_rfl) ?_
     refine t_end ?_
     show W _ _ _ _ _ _ _
     refine w_ret ?_
     obtain rfl := Option.some.inj e
     exact ⟨[vI 0], [], S, ⟨rfl, trivial⟩, VS.none, rfl, rfl, rfl⟩
   ·rw [if_neg c354] at e
    have c354b : (decide (e0_B_Y ≤ p1_Y)) = false := decide_eq_false c354
    refine t_v (dv_quiet rfl (congrArg (fun t => some (Value.bool t)) c354b)) ?_
    refine t_qz 18 [29] (σ' := [(29, vB false)]) (by kernel_rfl) ?_
    refine t_end ?_
    show W _ _ _ _ _ _ _
    refine w_cond rfl (fun c_ => by cases c_) (fun _ => ?_)
    show W _ _ _ _ _ _ _
    refine w_skip ?_
    show W _ _ _ _ _ _ _
    refine w_seq ?_
    refine w_reg fun all => ?_
    refine t_qz 1 [4] (σ' := [(4, vI 0)]) (by kernel_rfl) ?_
    refine t_end ?_
    show W _ _ _ _ _ _ _
    refine w_ret ?_
    obtain rfl := Option.some.inj e
    exact ⟨[vI 0], [], S, ⟨rfl, trivial⟩, VS.none, rfl, rfl, rfl⟩

/-- wind.Number -/
def c77 : C :=
  (.seq (.reg [oq 3 (.box (.tmp 1)),
     oq 4 (.mv (.const (vI 0)))])
  (.seq (.reg [oq 5 (.mv (.const (vI 0)))])
  (.seq (.seq (.reg [oq 8 (.mv (.tmp 0)),
      oq 9 (.lns (.tmp 8)),
      oq 10 (.mv (.const (vI 0)))])
   (.block 0 (.loop (.seq (.reg [oq 11 (.bin .lss (.tmp 10) (.tmp 9))])
     (.seq (.cond (.tmp 11)
       .skip
       (.exit 0))
     (.seq (.block 1 (.seq (.reg [oq 12 (.ixs 4 (.tmp 8) (.tmp 10)),
          oq 13 (.ld (some 4) (.tmp 12)),
          oq 7 (.new [(vI 0), (vI 0), (vI 0), (vI 0)]),
          ⟨none, .st 4 (.tmp 7) (.tmp 13), none⟩])
       (.reg [oq 14 (.mv (.tmp 5)),
         oq 15 (.ld (some 4) (.tmp 7)),
         oq 16 (.ld (some 2) (.tmp 3)),
         oq 17 (.call 85 [(.tmp 15), (.tmp 16)]),
         oq 18 (.bin .add (.tmp 14) (.tmp 17)),
         oq 5 (.mv (.tmp 18))])))
     (.reg [oq 19 (.bin .add (.tmp 10) (.const (vI 1))),
       oq 10 (.mv (.tmp 19))])))))))
  (.seq (.reg [oq 20 (.mv (.tmp 5)),
     oq 4 (.mv (.tmp 20))])
  .ret))))
def wind_Number_v1.l0 : Nat → List (Int × Int × Int × Int) → Int → Int → Int → Int → Option (Int)
  | 0, _, _, _, _, _ => none
  | k + 1, l0, p1_0, p1_1, x325, x326 => if x326 < (l0.length : Int) then ((lgt l0 x326).bind fun (x328, x329, x330, x331) => ((wind_One.f x328 x329 x330 x331 p1_0 p1_1).bind fun t359 => (wind_Number_v1.l0 k l0 p1_0 p1_1 (wr64 (x325 + t359)) (wr64 (x326 + 1))))) else (some x325)
def wind_Number_v1.f (k : Nat) (l0 : List (Int × Int × Int × Int)) (p1_0 : Int) (p1_1 : Int) : Option (Int) := (wind_Number_v1.l0 k l0 p1_0 p1_1 0 0 : Option (Int)).bind fun x363 => (some x363)
theorem wind_Number_v1.ok {S : Seal} {k : Nat} {l0 : List (Int × Int × Int × Int)} {p1_0 : Int} {p1_1 : Int} {r0_ : Int}{A_ : Int → Addr} (hE_ : EO gsE S A_ 157) {a_l0 : Option Addr} {c_l0 : Nat} (h_l0 : SlE S E_i644 l0 a_l0) (e : wind_Number_v1.f k l0 p1_0 p1_1 = some r0_) :
    Cal Tryd.prog 77 [.slice a_l0 l0.length c_l0, .agg #[vI p1_0, vI p1_1]] [] S fun v H' S' => v = vI r0_ ∧ H' = [] ∧ S' = S := by
 unfold wind_Number_v1.f at e
 refine cal_of (c := c77) (N := 21) Tryd.func77 rfl rfl (by kernel_rfl) (rs := [.t 4]) (by kernel_rfl) (Nat.le_of_ble_eq_true rfl) ?_
 unfold c77
 refine w_seq ?_
 refine w_reg fun all => ?_
 refine t_a (.box rfl rfl rfl) fun b321 fb321 sb321 => ?_
 refine t_qz 1 [0, 3] (σ' := [(0, .slice a_l0 l0.length c_l0), (3, vP b321 0)]) (by kernel_rfl) ?_
 refine t_end ?_
 show W _ _ _ _ _ _ _
 refine w_seq ?_
 refine w_reg fun all => ?_
 refine t_qz 1 [0, 3, 5] (σ' := [(0, .slice a_l0 l0.length c_l0), (3, vP b321 0), (5, vI 0)]) (by kernel_rfl) ?_
 refine t_end ?_
 show W _ _ _ _ _ _ _
 obtain ⟨x363, e323, e⟩ := bind_of e
 refine w_cut [5] (fun σ_ H_ S_ => [(5, vI x363)] = σ_ ∧ ([⟨b321, [vI p1_0, vI p1_1], 2⟩] : List Own) = H_ ∧ S = S_) ?_ ?_
 ·show W _ _ _ _ _ _ _
  refine w_seq ?_
  refine w_reg fun all => ?_
  refine t_qz 3 [3, 5, 8, 9, 10] (σ' := [(3, vP b321 0), (5, vI 0), (8, .slice a_l0 l0.length c_l0), (9, vI (l0.length : Int)), (10, vI 0)]) (by kernel_rfl) ?_
  refine t_end ?_
  show W _ _ _ _ _ _ _
  refine w_block ?_
  refine w_kp [3, 5, 8, 9, 10] (σ' := [(3, vP b321 0), (5, vI 0), (8, .slice a_l0 l0.length c_l0), (9, vI (l0.length : Int)), (10, vI 0)]) (by kernel_rfl) ?_
  refine w_loop (fun n_ σ_ H_ S_ => ∃ (x325 : Int) (x326 : Int), [(3, vP b321 0), (5, vI x325), (8, .slice a_l0 l0.length c_l0), (9, vI (l0.length : Int)), (10, vI x326)] = σ_ ∧ ([⟨b321, [vI p1_0, vI p1_1], 2⟩] : List Own) = H_ ∧ S = S_ ∧ wind_Number_v1.l0 n_ l0 p1_0 p1_1 x325 x326 = some x363) _ ⟨0, 0, rfl, rfl, rfl, e323⟩ ?_
  rintro n362 σ_ H_ S_ ⟨x325, x326, rfl, rfl, rfl, e323⟩
  cases n362 with
  | zero => rw [wind_Number_v1.l0.eq_1] at e323; cases e323
  | succ k_ =>
   rw [wind_Number_v1.l0.eq_2] at e323
   refine w_seq ?_
   refine w_reg fun all => ?_
   by_cases c327 : x326 < (l0.length : Int)
   ·rw [if_pos c327] at e323
    have c327b : (decide (x326 < (l0.length : Int))) = true := decide_eq_true c327
    refine t_v (dv_quiet rfl (congrArg (fun t => some (Value.bool t)) c327b)) ?_
    refine t_keep [3, 5, 8, 9, 10, 11] (σ' := [(3, vP b321 0), (5, vI x325), (8, .slice a_l0 l0.length c_l0), (9, vI (l0.length : Int)), (10, vI x326), (11, vB true)]) (by kernel_rfl) ?_
    refine t_end ?_
    show W _ _ _ _ _ _ _
    refine w_seq ?_
    refine w_cond rfl (fun _ => ?_) (fun c_ => by cases c_)
    show W _ _ _ _ _ _ _
    refine w_skip ?_
    show W _ _ _ _ _ _ _
    refine w_seq ?_
    refine w_block ?_
    refine w_seq ?_
    refine w_reg fun all => ?_
    obtain ⟨⟨x328, x329, x330, x331⟩, hx332, e323⟩ := bind_of e323
    try dsimp only at e323
    obtain ⟨lb333, lo334, ll335, la336, lS337, lv338, lz339, lu340⟩ := sle_get (E := E_i644) h_l0 hx332
    refine t_v (.quiet rfl (ixs_sle rfl rfl la336 lz339 lu340)) ?_
    refine t_v (.ldn (vs := [vI x328, vI x329, vI x330, vI x331]) rfl rfl rfl (.sealed lS337 (subl_sub lv338 (by kernel_rfl)))) ?_
    refine t_a (.new rfl rfl) fun b341 fb341 sb341 => ?_
    refine t_sti 0 (cs := [vI x328, vI x329, vI x330, vI x331]) rfl rfl rfl rfl rfl rfl rfl rfl rfl ?_
    refine t_keep [3, 5, 7, 8, 9, 10] (σ' := [(3, vP b321 0), (5, vI x325), (7, vP b341 0), (8, .slice a_l0 l0.length c_l0), (9, vI (l0.length : Int)), (10, vI x326)]) (by kernel_rfl) ?_
    refine t_end ?_
    show W _ _ _ _ _ _ _
    refine w_reg fun all => ?_
    refine t_qz 1 [3, 7, 8, 9, 10, 14] (σ' := [(3, vP b321 0), (7, vP b341 0), (8, .slice a_l0 l0.length c_l0), (9, vI (l0.length : Int)), (10, vI x326), (14, vI x325)]) (by kernel_rfl) ?_
    refine t_v (.ldn rfl rfl rfl (.at 0 rfl rfl)) ?_
    refine t_v (.ldn rfl rfl rfl (.at 1 rfl rfl)) ?_
    obtain ⟨t359, h360, e323⟩ := bind_of e323
    refine t_v (.call (vs := [.agg #[vI x328, vI x329, vI x330, vI x331], .agg #[vI p1_0, vI p1_1]]) rfl rfl (by kernel_rfl) (wind_One.ok hE_ h360)) ?_
    refine t_qz 2 [3, 5, 8, 9, 10] (σ' := [(3, vP b321 0), (5, vI (wr64 (x325 + t359))), (8, .slice a_l0 l0.length c_l0), (9, vI (l0.length : Int)), (10, vI x326)]) (by kernel_rfl) ?_
    refine t_end ?_
    show W _ _ _ _ _ _ _
    refine w_reg fun all => ?_
    refine t_qz 2 [3, 5, 8, 9, 10] (σ' := [(3, vP b321 0), (5, vI (wr64 (x325 + t359))), (8, .slice a_l0 l0.length c_l0), (9, vI (l0.length : Int)), (10, vI (wr64 (x326 + 1)))]) (by kernel_rfl) ?_
    refine t_end ?_
    exact ⟨k_, Nat.lt_succ_self _, [(3, vP b321 0), (5, vI (wr64 (x325 + t359))), (8, .slice a_l0 l0.length c_l0), (9, vI (l0.length : Int)), (10, vI (wr64 (x326 + 1)))], ([⟨b321, [vI p1_0, vI p1_1], 2⟩] : List Own), S, keep_sub [3, 5, 8, 9, 10] (by kernel_rfl), VS.sel [1] (by kernel_rfl), wr64 (x325 + t359), wr64 (x326 + 1), rfl, rfl, rfl, e323⟩
   ·rw [if_neg c327] at e323
    have c327b : (decide (x326 < (l0.length : Int))) = false := decide_eq_false c327
    refine t_v (dv_quiet rfl (congrArg (fun t => some (Value.bool t)) c327b)) ?_
    refine t_keep [3, 5, 8, 9, 10, 11] (σ' := [(3, vP b321 0), (5, vI x325), (8, .slice a_l0 l0.length c_l0), (9, vI (l0.length : Int)), (10, vI x326), (11, vB false)]) (by kernel_rfl) ?_
    refine t_end ?_
    show W _ _ _ _ _ _ _
    refine w_seq ?_
    refine w_cond rfl (fun c_ => by cases c_) (fun _ => ?_)
    show W _ _ _ _ _ _ _
    refine w_exit ?_
    obtain rfl := Option.some.inj e323
    exact ⟨([⟨b321, [vI p1_0, vI p1_1], 2⟩] : List Own), S, VS.sel [0] (by kernel_rfl), by kernel_rfl, rfl, rfl⟩
 ·rintro σ_ H_ S_ ⟨rfl, rfl, rfl⟩
  refine w_seq ?_
  refine w_reg fun all => ?_
  refine t_qz 2 [4] (σ' := [(4, vI x363)]) (by kernel_rfl) ?_
  refine t_end ?_
  show W _ _ _ _ _ _ _
  refine w_ret ?_
  obtain rfl := Option.some.inj e
  exact ⟨[vI x363], [], S, ⟨rfl, trivial⟩, VS.none, rfl, rfl, rfl⟩

/-- wind.Inside -/
def c67 : C :=
  (.seq (.reg [oq 5 (.box (.tmp 2)),
     oq 6 (.mv (.const (vB false)))])
  (.seq (.reg [oq 8 (.mv (.tmp 0)),
     oq 9 (.ld (some 2) (.tmp 5)),
     oq 10 (.call 77 [(.tmp 8), (.tmp 9)]),
     oq 7 (.mv (.tmp 10))])
  (.seq (.seq (.reg [oq 11 (.mv (.tmp 1)),
      oq 12 (.bin .eql (.tmp 11) (.const (vI 0)))])
   (.cond (.tmp 12)
    (.seq (.reg [oq 13 (.mv (.tmp 7)),
        oq 14 (.bin .rem (.tmp 13) (.const (vI 2))),
        oq 15 (.bin .neq (.tmp 14) (.const (vI 0))),
        oq 6 (.mv (.tmp 15))])
     .ret)
    .skip))
  (.seq (.reg [oq 16 (.mv (.tmp 7)),
     oq 17 (.bin .neq (.tmp 16) (.const (vI 0))),
     oq 6 (.mv (.tmp 17))])
  .ret))))
def wind_Inside_v1.f (k : Nat) (l0 : List (Int × Int × Int × Int)) (rule1 : Int) (p2_0 : Int) (p2_1 : Int) : Option (Bool) := (wind_Number_v1.f k l0 p2_0 p2_1).bind fun t364 => (if rule1 = 0 then (some ((Int.tmod t364 2) != 0)) else (some (t364 != 0)))
theorem wind_Inside_v1.ok {S : Seal} {k : Nat} {l0 : List (Int × Int × Int × Int)} {rule1 : Int} {p2_0 : Int} {p2_1 : Int} {r0_ : Bool}{A_ : Int → Addr} (hE_ : EO gsE S A_ 157) {a_l0 : Option Addr} {c_l0 : Nat} (h_l0 : SlE S E_i644 l0 a_l0) (e : wind_Inside_v1.f k l0 rule1 p2_0 p2_1 = some r0_) :
    Cal Tryd.prog 67 [.slice a_l0 l0.length c_l0, vI rule1, .agg #[vI p2_0, vI p2_1]] [] S fun v H' S' => v = .bool r0_ ∧ H' = [] ∧ S' = S := by
 unfold wind_Inside_v1.f at e
 refine cal_of (c := c67) (N := 18) Tryd.func67 rfl rfl (by kernel_rfl) (rs := [.t 6]) (by kernel_rfl) (Nat.le_of_ble_eq_true rfl) ?_
 unfold c67
 refine w_seq ?_
 refine w_reg fun all => ?_
 refine t_a (.box rfl rfl rfl) fun b320 fb320 sb320 => ?_
 refine t_qz 1 [0, 1, 5] (σ' := [(0, .slice a_l0 l0.length c_l0), (1, vI rule1), (5, vP b320 0)]) (by kernel_rfl) ?_
 refine t_end ?_
 show W _ _ _ _ _ _ _
 refine w_seq ?_
 refine w_reg fun all => ?_
 refine t_qz 1 [1, 5, 8] (σ' := [(1, vI rule1), (5, vP b320 0), (8, .slice a_l0 l0.length c_l0)]) (by kernel_rfl) ?_
 refine t_v (.ldn rfl rfl rfl (.at 0 rfl rfl)) ?_
 obtain ⟨t364, h365, e⟩ := bind_of e
 refine t_v (.call (vs := [.slice a_l0 l0.length c_l0, .agg #[vI p2_0, vI p2_1]]) rfl rfl (by kernel_rfl) (wind_Number_v1.ok hE_ h_l0 h365)) ?_
 refine t_qz 1 [1, 7] (σ' := [(1, vI rule1), (7, vI t364)]) (by kernel_rfl) ?_
 refine t_end ?_
 show W _ _ _ _ _ _ _
 refine w_seq ?_
 refine w_seq ?_
 refine w_reg fun all => ?_
 by_cases c366 : rule1 = 0
 ·rw [if_pos c366] at e
  have c366b : (rule1 == 0) = true := beq_iff_eq.mpr c366
  refine t_qz 1 [7, 11] (σ' := [(7, vI t364), (11, vI rule1)]) (by kernel_rfl) ?_
  refine t_v (dv_quiet rfl (congrArg (fun t => some (Value.bool t)) c366b)) ?_
  refine t_keep [7, 12] (σ' := [(7, vI t364), (12, vB true)]) (by kernel_rfl) ?_
  refine t_end ?_
  show W _ _ _ _ _ _ _
  refine w_cond rfl (fun _ => ?_) (fun c_ => by cases c_)
  show W _ _ _ _ _ _ _
  refine w_seq ?_
  refine w_reg fun all => ?_
  refine t_qz 4 [6] (σ' := [(6, .bool ((Int.tmod t364 2) != 0))]) (by kernel_rfl) ?_
  refine t_end ?_
  show W _ _ _ _ _ _ _
  refine w_ret ?_
  obtain rfl := Option.some.inj e
  exact ⟨[.bool ((Int.tmod t364 2) != 0)], [], S, ⟨rfl, trivial⟩, VS.none, rfl, rfl, rfl⟩
 ·rw [if_neg c366] at e
  have c366b : (rule1 == 0) = false := beq_eq_false_iff_ne.mpr c366
  refine t_qz 1 [7, 11] (σ' := [(7, vI t364), (11, vI rule1)]) (by kernel_rfl) ?_
  refine t_v (dv_quiet rfl (congrArg (fun t => some (Value.bool t)) c366b)) ?_
  refine t_keep [7, 12] (σ' := [(7, vI t364), (12, vB false)]) (by kernel_rfl) ?_
  refine t_end ?_
  show W _ _ _ _ _ _ _
  refine w_cond rfl (fun c_ => by cases c_) (fun _ => ?_)
  show W _ _ _ _ _ _ _
  refine w_skip ?_
  show W _ _ _ _ _ _ _
  refine w_seq ?_
  refine w_reg fun all => ?_
  refine t_qz 3 [6] (σ' := [(6, .bool (t364 != 0))]) (by kernel_rfl) ?_
  refine t_end ?_
  show W _ _ _ _ _ _ _
  refine w_ret ?_
  obtain rfl := Option.some.inj e
  exact ⟨[.bool (t364 != 0)], [], S, ⟨rfl, trivial⟩, VS.none, rfl, rfl, rfl⟩

/-- sweep.Fill$1 -/
def c66 : C :=
  (.seq (.reg [oq 4 (.box (.tmp 1)),
     oq 5 (.mv (.const (vB false)))])
  (.seq (.reg [oq 6 (.mv (.tmp 0)),
     oq 7 (.ld none (.tmp 2)),
     oq 8 (.ld (some 2) (.tmp 4)),
     oq 9 (.call 67 [(.tmp 6), (.tmp 7), (.tmp 8)]),
     oq 5 (.mv (.tmp 9))])
  .ret))
def sweep_Fill_1_v1.f (k : Nat) (l0 : List (Int × Int × Int × Int)) (p1_0 : Int) (p1_1 : Int) (m0_0 : Int) : Option (Bool) := (wind_Inside_v1.f k l0 m0_0 p1_0 p1_1).bind fun t367 => (some t367)
theorem sweep_Fill_1_v1.ok {S : Seal} {B0 : Nat} {k : Nat} {l0 : List (Int × Int × Int × Int)} {p1_0 : Int} {p1_1 : Int} {m0_0 : Int} {r0_ : Bool}{A_ : Int → Addr} (hE_ : EO gsE S A_ 157) {a_l0 : Option Addr} {c_l0 : Nat} (h_l0 : SlE S E_i644 l0 a_l0) (e : sweep_Fill_1_v1.f k l0 p1_0 p1_1 m0_0 = some r0_) :
    Cal Tryd.prog 66 [.slice a_l0 l0.length c_l0, .agg #[vI p1_0, vI p1_1], vP B0 0] ([⟨B0, [vI m0_0], 1⟩] : List Own) S fun v H' S' => v = .bool r0_ ∧ H' = ([⟨B0, [vI m0_0], 1⟩] : List Own) ∧ S' = S := by
 unfold sweep_Fill_1_v1.f at e
 refine cal_of (c := c66) (N := 10) Tryd.func66 rfl rfl (by kernel_rfl) (rs := [.t 5]) (by kernel_rfl) (Nat.le_of_ble_eq_true rfl) ?_
 unfold c66
 refine w_seq ?_
 refine w_reg fun all => ?_
 refine t_a (.box rfl rfl rfl) fun b319 fb319 sb319 => ?_
 refine t_qz 1 [0, 2, 4] (σ' := [(0, .slice a_l0 l0.length c_l0), (2, vP B0 0), (4, vP b319 0)]) (by kernel_rfl) ?_
 refine t_end ?_
 show W _ _ _ _ _ _ _
 refine w_seq ?_
 refine w_reg fun all => ?_
 refine t_qz 1 [2, 4, 6] (σ' := [(2, vP B0 0), (4, vP b319 0), (6, .slice a_l0 l0.length c_l0)]) (by kernel_rfl) ?_
 refine t_v (.ld1 rfl rfl rfl (.at 1 rfl rfl)) ?_
 refine t_v (.ldn rfl rfl rfl (.at 0 rfl rfl)) ?_
 obtain ⟨t367, h368, e⟩ := bind_of e
 refine t_v (.call (vs := [.slice a_l0 l0.length c_l0, vI m0_0, .agg #[vI p1_0, vI p1_1]]) rfl rfl (by kernel_rfl) (wind_Inside_v1.ok hE_ h_l0 h368)) ?_
 refine t_qz 1 [5] (σ' := [(5, .bool t367)]) (by kernel_rfl) ?_
 refine t_end ?_
 show W _ _ _ _ _ _ _
 refine w_ret ?_
 obtain rfl := Option.some.inj e
 exact ⟨[.bool t367], ([⟨B0, [vI m0_0], 1⟩] : List Own), S, ⟨rfl, trivial⟩, VS.sel [1] (by kernel_rfl), rfl, rfl, rfl⟩

/-- sweep.masks -/
def c65 : C :=
  (.seq (.reg [oq 10 (.mv (.const (.slice none 0 0)))])
  (.seq (.seq (.reg [oq 16 (.mv (.tmp 3)),
      oq 17 (.bin .lss (.tmp 16) (.const (vI 1)))])
   (.cond (.tmp 17)
    (.seq (.reg [oq 10 (.mv (.const (.slice none 0 0)))])
     .ret)
    .skip))
  (.seq (.reg [oq 18 (.mv (.tmp 3)),
     oq 19 (.mks 1 8 [(.int .u64 0)] (.tmp 18) (.tmp 18)),
     oq 11 (.mv (.tmp 19))])
  (.seq (.seq (.reg [oq 20 (.mv (.const (vI 0)))])
   (.block 0 (.loop (.seq (.reg [oq 21 (.bin .lss (.tmp 20) (.const (vI 8)))])
     (.seq (.cond (.tmp 21)
       .skip
       (.exit 0))
     (.seq (.block 1 (.seq (.reg [oq 22 (.mv (.tmp 20)),
          oq 12 (.mv (.tmp 22))])
       (.seq (.reg [oq 23 (.mv (.tmp 0)),
          oq 24 (.mv (.tmp 1)),
          oq 25 (.mv (.tmp 2)),
          oq 26 (.mv (.tmp 12)),
          oq 27 (.bin .mul (.tmp 26) (.const (vI 8))),
          oq 28 (.call 76 [(.const (vI 0)), (.tmp 25), (.tmp 27)]),
          oq 29 (.fld none 1 (.tmp 28)),
          oq 30 (.call 75 [(.tmp 23), (.tmp 24), (.tmp 29)]),
          oq 13 (.mv (.tmp 30))])
       (.seq (.reg [oq 14 (.mv (.const (vI 0)))])
       (.block 2 (.loop (.seq (.seq (.reg [oq 31 (.mv (.tmp 14)),
             oq 32 (.mv (.tmp 3)),
             oq 33 (.bin .lss (.tmp 31) (.tmp 32)),
             oq 34 (.mv (.tmp 33)),
             ⟨(some 35), .mv (.tmp 13), (some (34, true))⟩,
             ⟨(some 36), .lns (.tmp 35), (some (34, true))⟩,
             ⟨(some 37), .bin .gtr (.tmp 36) (.const (vI 0)), (some (34, true))⟩,
             oq 38 (.pk (.tmp 34) (.tmp 37) (.const (vB false)))])
          (.cond (.tmp 38)
           .skip
           (.exit 2)))
         (.seq (.block 3 (.seq (.reg [oq 41 (.mv (.tmp 12)),
              oq 42 (.bin .mul (.tmp 41) (.const (vI 8))),
              oq 15 (.mv (.tmp 42))])
           (.block 4 (.loop (.seq (.seq (.reg [oq 43 (.mv (.tmp 15)),
                 oq 44 (.mv (.tmp 12)),
                 oq 45 (.bin .add (.tmp 44) (.const (vI 1))),
                 oq 46 (.bin .mul (.tmp 45) (.const (vI 8))),
                 oq 47 (.bin .lss (.tmp 43) (.tmp 46))])
              (.cond (.tmp 47)
               .skip
               (.exit 4)))
             (.seq (.block 5 (.seq (.reg [oq 50 (.mv (.tmp 4)),
                  oq 51 (.mv (.tmp 13)),
                  oq 52 (.mv (.tmp 14)),
                  oq 53 (.mv (.tmp 2)),
                  oq 54 (.mv (.tmp 15)),
                  oq 55 (.call 76 [(.tmp 52), (.tmp 53), (.tmp 54)]),
                  oq 56 (.clo (.tmp 50) [(.tmp 51), (.tmp 55)])])
               (.cond (.tmp 56)
                (.drw [oq 57 (.mv (.tmp 11)),
                   oq 58 (.mv (.tmp 14)),
                   oq 59 (.ixs 1 (.tmp 57) (.tmp 58)),
                   oq 60 (.ld none (.tmp 59)),
                   oq 61 (.mv (.tmp 15)),
                   oq 62 (.bin .shl (.const (.int .u64 1)) (.tmp 61)),
                   oq 63 (.bin .or (.tmp 60) (.tmp 62)),
                   oq 64 (.ixs 1 (.tmp 57) (.tmp 58)),
                   ⟨none, .st 1 (.tmp 64) (.tmp 63), none⟩] [[], [], [0, 1], [2], [], [4], [3, 5], [0, 1, 0, 1, 2, 3, 4, 5, 6], [7, 6, 0, 1, 2, 3, 4, 5, 6]])
                .skip)))
             (.reg [oq 48 (.mv (.tmp 15)),
               oq 49 (.bin .add (.tmp 48) (.const (vI 1))),
               oq 15 (.mv (.tmp 49))])))))))
         (.reg [oq 39 (.mv (.tmp 14)),
           oq 40 (.bin .add (.tmp 39) (.const (vI 1))),
           oq 14 (.mv (.tmp 40))])))))))))
     (.reg [oq 65 (.bin .add (.tmp 20) (.const (vI 1))),
       oq 20 (.mv (.tmp 65))])))))))
  (.seq (.reg [oq 66 (.mv (.tmp 11)),
     oq 10 (.mv (.tmp 66))])
  .ret)))))
def sweep_masks_v1.l2 : Nat → Int → Int → List (Int × Int × Int × Int) → Int → Int → List (Int) → Option (List (Int))
  | 0, _, _, _, _, _, _ => none
  | k + 1, y2, x351, t360, x363, x370, y371 => if x370 < (wr64 ((wr64 (x351 + 1)) * 8)) then ((sweep_Sample.f x363 y2 x370).bind fun (t373, t374) => ((sweep_Fill_1_v1.f k t360 t373 t374 0).bind fun t376 => (if t376 = true then ((lgt y371 x363).bind fun x378 => (if x370 < 0 then none else ((lgt y371 x363).bind fun x381 => ((lput y371 x363 (bits .or .u64 x378 (wru64 (1 * 2 ^ (min (Int.toNat x370) 64))))).bind fun y383 => (sweep_masks_v1.l2 k y2 x351 t360 x363 (wr64 (x370 + 1)) y383))))) else (sweep_masks_v1.l2 k y2 x351 t360 x363 (wr64 (x370 + 1)) y371)))) else (some y371)
def sweep_masks_v1.l1 : Nat → Int → Int → Int → List (Int × Int × Int × Int) → Int → List (Int) → Option (List (Int))
  | 0, _, _, _, _, _, _ => none
  | k + 1, y2, w3, x351, t360, x363, y364 => if x363 < w3 then (if (t360.length : Int) > 0 then ((sweep_masks_v1.l2 k y2 x351 t360 x363 (wr64 (x351 * 8)) y364 : Option (List (Int))).bind fun y389 => (sweep_masks_v1.l1 k y2 w3 x351 t360 (wr64 (x363 + 1)) y389)) else (some y364)) else (some y364)
def sweep_masks_v1.l0 : Nat → List (Int × Int × Int × Int) → Int → Int → Int → List (Int) → Option (List (Int))
  | 0, _, _, _, _, _ => none
  | k + 1, l0, y2, w3, x351, y352 => if x351 < 8 then (((sweep_Sample.f 0 y2 (wr64 (x351 * 8))).bind fun (t357, t358) => ((sweep_crossing_v1.f k l0 0 t358).bind fun t360 => (sweep_masks_v1.l1 k y2 w3 x351 t360 0 y352)) : Option (List (Int))).bind fun y392 => (sweep_masks_v1.l0 k l0 y2 w3 (wr64 (x351 + 1)) y392)) else (some y352)
def sweep_masks_v1.f (k : Nat) (l0 : List (Int × Int × Int × Int)) (y2 : Int) (w3 : Int) : Option (List (Int)) := if w3 < 1 then (some ([] : List (Int))) else ((lmk (0 : Int) w3 w3).bind fun y345 => ((sweep_masks_v1.l0 k l0 y2 w3 0 y345 : Option (List (Int))).bind fun y395 => (some y395)))
theorem sweep_masks_v1.ok {S : Seal} {B0 : Nat} {k : Nat} {l0 : List (Int × Int × Int × Int)} {y2 : Int} {w3 : Int} {r0_ : List (Int)}{A_ : Int → Addr} (hE_ : EO gsE S A_ 157) {a_l0 : Option Addr} {c_l0 : Nat} (h_l0 : SlE S E_i644 l0 a_l0) (e : sweep_masks_v1.f k l0 y2 w3 = some r0_) :
    Cal Tryd.prog 65 [.slice a_l0 l0.length c_l0, vI 0, vI y2, vI w3, .func (.func 66) #[] #[vP B0 0]] ([⟨B0, [vI 0], 1⟩] : List Own) S fun v H' S' => ∃ (N0_ : Option Nat) (nN0_ : Nat) , v = .slice (ad N0_) r0_.length (nN0_ / 1) ∧ H' = ([⟨N0_, encL E_u64 r0_, nN0_⟩, ⟨B0, [vI 0], 1⟩] : List Own) ∧ S' = S := by
 unfold sweep_masks_v1.f at e
 refine cal_of (c := c65) (N := 67) Tryd.func65 rfl rfl (by kernel_rfl) (rs := [.t 10]) (by kernel_rfl) (Nat.le_of_ble_eq_true rfl) ?_
 unfold c65
 refine w_seq ?_
 refine w_reg fun all => ?_
 refine t_qz 1 [0, 1, 2, 3, 4] (σ' := [(0, .slice a_l0 l0.length c_l0), (1, vI 0), (2, vI y2), (3, vI w3), (4, .func (.func 66) #[] #[vP B0 0])]) (by kernel_rfl) ?_
 refine t_end ?_
 show W _ _ _ _ _ _ _
 refine w_seq ?_
 refine w_seq ?_
 refine w_reg fun all => ?_
 by_cases c344 : w3 < 1
 ·rw [if_pos c344] at e
  have c344b : (decide (w3 < 1)) = true := decide_eq_true c344
  refine t_qz 1 [0, 1, 2, 3, 4, 16] (σ' := [(0, .slice a_l0 l0.length c_l0), (1, vI 0), (2, vI y2), (3, vI w3), (4, .func (.func 66) #[] #[vP B0 0]), (16, vI w3)]) (by kernel_rfl) ?_
  refine t_v (dv_quiet rfl (congrArg (fun t => some (Value.bool t)) c344b)) ?_
  refine t_keep [0, 1, 2, 3, 4, 17] (σ' := [(0, .slice a_l0 l0.length c_l0), (1, vI 0), (2, vI y2), (3, vI w3), (4, .func (.func 66) #[] #[vP B0 0]), (17, vB true)]) (by kernel_rfl) ?_
  refine t_end ?_
  show W _ _ _ _ _ _ _
  refine w_cond rfl (fun _ => ?_) (fun c_ => by cases c_)
  show W _ _ _ _ _ _ _
  refine w_seq ?_
  refine w_reg fun all => ?_
  refine t_qz 1 [10] (σ' := [(10, .slice none 0 0)]) (by kernel_rfl) ?_
  refine t_end ?_
  show W _ _ _ _ _ _ _
  refine w_ret ?_
  obtain rfl := Option.some.inj e
  exact ⟨[.slice (ad none) ([] : List (Int)).length (0 / 1)], ([⟨none, encL E_u64 ([] : List (Int)), 0⟩, ⟨B0, [vI 0], 1⟩] : List Own), S, ⟨(show gt _ _ = some _ from (by kernel_rfl)), trivial⟩, VS.trans VS.vac (VS.sel [0, 0] (by kernel_rfl)), none, 0, rfl, rfl, rfl⟩
 ·rw [if_neg c344] at e
  have c344b : (decide (w3 < 1)) = false := decide_eq_false c344
  refine t_qz 1 [0, 1, 2, 3, 4, 16] (σ' := [(0, .slice a_l0 l0.length c_l0), (1, vI 0), (2, vI y2), (3, vI w3), (4, .func (.func 66) #[] #[vP B0 0]), (16, vI w3)]) (by kernel_rfl) ?_
  refine t_v (dv_quiet rfl (congrArg (fun t => some (Value.bool t)) c344b)) ?_
  refine t_keep [0, 1, 2, 3, 4, 17] (σ' := [(0, .slice a_l0 l0.length c_l0), (1, vI 0), (2, vI y2), (3, vI w3), (4, .func (.func 66) #[] #[vP B0 0]), (17, vB false)]) (by kernel_rfl) ?_
  refine t_end ?_
  show W _ _ _ _ _ _ _
  refine w_cond rfl (fun c_ => by cases c_) (fun _ => ?_)
  show W _ _ _ _ _ _ _
  refine w_skip ?_
  show W _ _ _ _ _ _ _
  refine w_seq ?_
  refine w_reg fun all => ?_
  obtain ⟨y345, hl346, e⟩ := bind_of e
  refine t_qz 1 [0, 1, 2, 3, 4, 18] (σ' := [(0, .slice a_l0 l0.length c_l0), (1, vI 0), (2, vI y2), (3, vI w3), (4, .func (.func 66) #[] #[vP B0 0]), (18, vI w3)]) (by kernel_rfl) ?_
  refine t_mkl (E := E_u64) (x0 := 0) rfl rfl rfl rfl rfl (by decide) (by decide) rfl hl346 fun a347 na347 => ?_
  refine t_qz 1 [0, 1, 2, 3, 4, 11] (σ' := [(0, .slice a_l0 l0.length c_l0), (1, vI 0), (2, vI y2), (3, vI w3), (4, .func (.func 66) #[] #[vP B0 0]), (11, .slice (ad (some a347)) y345.length (na347 / 1))]) (by kernel_rfl) ?_
  refine t_end ?_
  show W _ _ _ _ _ _ _
  obtain ⟨y395, e349, e⟩ := bind_of e
  refine w_cut [11] (fun σ_ H_ S_ => [(11, .slice (ad (some a347)) y395.length (na347 / 1))] = σ_ ∧ ([⟨B0, [vI 0], 1⟩, ⟨some a347, encL E_u64 y395, na347⟩] : List Own) = H_ ∧ S = S_) ?_ ?_
  ·show W _ _ _ _ _ _ _
   refine w_seq ?_
   refine w_reg fun all => ?_
   refine t_qz 1 [0, 1, 2, 3, 4, 11, 20] (σ' := [(0, .slice a_l0 l0.length c_l0), (1, vI 0), (2, vI y2), (3, vI w3), (4, .func (.func 66) #[] #[vP B0 0]), (11, .slice (ad (some a347)) y345.length (na347 / 1)), (20, vI 0)]) (by kernel_rfl) ?_
   refine t_end ?_
   show W _ _ _ _ _ _ _
   refine w_block ?_
   refine w_kp [0, 1, 2, 3, 4, 11, 20] (σ' := [(0, .slice a_l0 l0.length c_l0), (1, vI 0), (2, vI y2), (3, vI w3), (4, .func (.func 66) #[] #[vP B0 0]), (11, .slice (ad (some a347)) y345.length (na347 / 1)), (20, vI 0)]) (by kernel_rfl) ?_
   refine w_loop (fun n_ σ_ H_ S_ => ∃ (x351 : Int) (y352 : List (Int)), [(0, .slice a_l0 l0.length c_l0), (1, vI 0), (2, vI y2), (3, vI w3), (4, .func (.func 66) #[] #[vP B0 0]), (11, .slice (ad (some a347)) y352.length (na347 / 1)), (20, vI x351)] = σ_ ∧ ([⟨some a347, encL E_u64 y352, na347⟩, ⟨B0, [vI 0], 1⟩] : List Own) = H_ ∧ S = S_ ∧ sweep_masks_v1.l0 n_ l0 y2 w3 x351 y352 = some y395) _ ⟨0, y345, rfl, rfl, rfl, e349⟩ ?_
   rintro n394 σ_ H_ S_ ⟨x351, y352, rfl, rfl, rfl, e349⟩
   cases n394 with
   | zero => rw [sweep_masks_v1.l0.eq_1] at e349; cases e349
   | succ k_ =>
    rw [sweep_masks_v1.l0.eq_2] at e349
    refine w_seq ?_
    refine w_reg fun all => ?_
    by_cases c353 : x351 < 8
    ·rw [if_pos c353] at e349
     have c353b : (decide (x351 < 8)) = true := decide_eq_true c353
     refine t_v (dv_quiet rfl (congrArg (fun t => some (Value.bool t)) c353b)) ?_
     refine t_keep [0, 1, 2, 3, 4, 11, 20, 21] (σ' := [(0, .slice a_l0 l0.length c_l0), (1, vI 0), (2, vI y2), (3, vI w3), (4, .func (.func 66) #[] #[vP B0 0]), (11, .slice (ad (some a347)) y352.length (na347 / 1)), (20, vI x351), (21, vB true)]) (by kernel_rfl) ?_
     refine t_end ?_
     show W _ _ _ _ _ _ _
     refine w_seq ?_
     refine w_cond rfl (fun _ => ?_) (fun c_ => by cases c_)
     show W _ _ _ _ _ _ _
     refine w_skip ?_
     show W _ _ _ _ _ _ _
     obtain ⟨y392, e355, e349⟩ := bind_of e349
     refine w_cut [0, 1, 2, 3, 4, 11, 20] (fun σ_ H_ S_ => [(0, .slice a_l0 l0.length c_l0), (1, vI 0), (2, vI y2), (3, vI w3), (4, .func (.func 66) #[] #[vP B0 0]), (11, .slice (ad (some a347)) y392.length (na347 / 1)), (20, vI x351)] = σ_ ∧ ([⟨B0, [vI 0], 1⟩, ⟨some a347, encL E_u64 y392, na347⟩] : List Own) = H_ ∧ S = S_) ?_ ?_
     ·show W _ _ _ _ _ _ _
      refine w_block ?_
      refine w_seq ?_
      refine w_reg fun all => ?_
      refine t_qz 2 [0, 1, 2, 3, 4, 11, 12, 20] (σ' := [(0, .slice a_l0 l0.length c_l0), (1, vI 0), (2, vI y2), (3, vI w3), (4, .func (.func 66) #[] #[vP B0 0]), (11, .slice (ad (some a347)) y352.length (na347 / 1)), (12, vI x351), (20, vI x351)]) (by kernel_rfl) ?_
      refine t_end ?_
      show W _ _ _ _ _ _ _
      refine w_seq ?_
      refine w_reg fun all => ?_
      obtain ⟨⟨t357, t358⟩, h359, e355⟩ := bind_of e355
      try dsimp only at e355
      refine t_qz 5 [0, 1, 2, 3, 4, 11, 12, 20, 23, 24, 25, 27] (σ' := [(0, .slice a_l0 l0.length c_l0), (1, vI 0), (2, vI y2), (3, vI w3), (4, .func (.func 66) #[] #[vP B0 0]), (11, .slice (ad (some a347)) y352.length (na347 / 1)), (12, vI x351), (20, vI x351), (23, .slice a_l0 l0.length c_l0), (24, vI 0), (25, vI y2), (27, vI (wr64 (x351 * 8)))]) (by kernel_rfl) ?_
      refine t_v (.call (vs := [vI 0, vI y2, vI (wr64 (x351 * 8))]) rfl rfl (by kernel_rfl) (sweep_Sample.ok hE_ h359)) ?_
      obtain ⟨t360, h361, e355⟩ := bind_of e355
      refine t_qz 1 [0, 1, 2, 3, 4, 11, 12, 20, 23, 24, 29] (σ' := [(0, .slice a_l0 l0.length c_l0), (1, vI 0), (2, vI y2), (3, vI w3), (4, .func (.func 66) #[] #[vP B0 0]), (11, .slice (ad (some a347)) y352.length (na347 / 1)), (12, vI x351), (20, vI x351), (23, .slice a_l0 l0.length c_l0), (24, vI 0), (29, vI t358)]) (by kernel_rfl) ?_
      refine t_call (vs := [.slice a_l0 l0.length c_l0, vI 0, vI t358]) (H1 := []) (F := ([⟨some a347, encL E_u64 y352, na347⟩, ⟨B0, [vI 0], 1⟩] : List Own)) rfl rfl (by kernel_rfl) (sel_perm (is := []) (by kernel_rfl)) (sweep_crossing_v1.ok hE_ h_l0 h361) ?_
      rintro _ _ S_ ⟨N362, nN362, rfl, rfl, hS_⟩
      obtain rfl := hS_.symm
      refine t_qz 1 [0, 1, 2, 3, 4, 11, 12, 13, 20] (σ' := [(0, .slice a_l0 l0.length c_l0), (1, vI 0), (2, vI y2), (3, vI w3), (4, .func (.func 66) #[] #[vP B0 0]), (11, .slice (ad (some a347)) y352.length (na347 / 1)), (12, vI x351), (13, .slice (ad N362) t360.length (nN362 / 4)), (20, vI x351)]) (by kernel_rfl) ?_
      refine t_end ?_
      show W _ _ _ _ _ _ _
      refine w_seq ?_
      refine w_reg fun all => ?_
      refine t_qz 1 [0, 1, 2, 3, 4, 11, 12, 13, 14, 20] (σ' := [(0, .slice a_l0 l0.length c_l0), (1, vI 0), (2, vI y2), (3, vI w3), (4, .func (.func 66) #[] #[vP B0 0]), (11, .slice (ad (some a347)) y352.length (na347 / 1)), (12, vI x351), (13, .slice (ad N362) t360.length (nN362 / 4)), (14, vI 0), (20, vI x351)]) (by kernel_rfl) ?_
      refine t_end ?_
      show W _ _ _ _ _ _ _
      refine w_block ?_
      refine w_kp [0, 1, 2, 3, 4, 11, 12, 13, 14, 20] (σ' := [(0, .slice a_l0 l0.length c_l0), (1, vI 0), (2, vI y2), (3, vI w3), (4, .func (.func 66) #[] #[vP B0 0]), (11, .slice (ad (some a347)) y352.length (na347 / 1)), (12, vI x351), (13, .slice (ad N362) t360.length (nN362 / 4)), (14, vI 0), (20, vI x351)]) (by kernel_rfl) ?_
      refine w_loop (fun n_ σ_ H_ S_ => ∃ (x363 : Int) (y364 : List (Int)), [(0, .slice a_l0 l0.length c_l0), (1, vI 0), (2, vI y2), (3, vI w3), (4, .func (.func 66) #[] #[vP B0 0]), (11, .slice (ad (some a347)) y364.length (na347 / 1)), (12, vI x351), (13, .slice (ad N362) t360.length (nN362 / 4)), (14, vI x363), (20, vI x351)] = σ_ ∧ ([⟨N362, encL E_i644 t360, nN362⟩, ⟨some a347, encL E_u64 y364, na347⟩, ⟨B0, [vI 0], 1⟩] : List Own) = H_ ∧ S = S_ ∧ sweep_masks_v1.l1 n_ y2 w3 x351 t360 x363 y364 = some y392) _ ⟨0, y352, rfl, rfl, rfl, e355⟩ ?_
      rintro n391 σ_ H_ S_ ⟨x363, y364, rfl, rfl, rfl, e355⟩
      cases n391 with
      | zero => rw [sweep_masks_v1.l1.eq_1] at e355; cases e355
      | succ k_ =>
       rw [sweep_masks_v1.l1.eq_2] at e355
       refine w_seq ?_
       refine w_seq ?_
       refine w_reg fun all => ?_
       by_cases c365 : x363 < w3
       ·rw [if_pos c365] at e355
        have c365b : (decide (x363 < w3)) = true := decide_eq_true c365
        refine t_qz 2 [0, 1, 2, 3, 4, 11, 12, 13, 14, 20, 31, 32] (σ' := [(0, .slice a_l0 l0.length c_l0), (1, vI 0), (2, vI y2), (3, vI w3), (4, .func (.func 66) #[] #[vP B0 0]), (11, .slice (ad (some a347)) y364.length (na347 / 1)), (12, vI x351), (13, .slice (ad N362) t360.length (nN362 / 4)), (14, vI x363), (20, vI x351), (31, vI x363), (32, vI w3)]) (by kernel_rfl) ?_
        refine t_v (dv_quiet rfl (congrArg (fun t => some (Value.bool t)) c365b)) ?_
        by_cases c366 : (t360.length : Int) > 0
        ·rw [if_pos c366] at e355
         have c366b : (decide ((t360.length : Int) > 0)) = true := decide_eq_true c366
         refine t_qz 3 [0, 1, 2, 3, 4, 11, 12, 13, 14, 20, 34, 36] (σ' := [(0, .slice a_l0 l0.length c_l0), (1, vI 0), (2, vI y2), (3, vI w3), (4, .func (.func 66) #[] #[vP B0 0]), (11, .slice (ad (some a347)) y364.length (na347 / 1)), (12, vI x351), (13, .slice (ad N362) t360.length (nN362 / 4)), (14, vI x363), (20, vI x351), (34, vB true), (36, vI (t360.length : Int))]) (by kernel_rfl) ?_
         refine t_v (dv_quiet rfl (congrArg (fun t => some (Value.bool t)) c366b)) ?_
         refine t_qz 1 [0, 1, 2, 3, 4, 11, 12, 13, 14, 20, 38] (σ' := [(0, .slice a_l0 l0.length c_l0), (1, vI 0), (2, vI y2), (3, vI w3), (4, .func (.func 66) #[] #[vP B0 0]), (11, .slice (ad (some a347)) y364.length (na347 / 1)), (12, vI x351), (13, .slice (ad N362) t360.length (nN362 / 4)), (14, vI x363), (20, vI x351), (38, vB true)]) (by kernel_rfl) ?_
         refine t_end ?_
         show W _ _ _ _ _ _ _
         refine w_cond rfl (fun _ => ?_) (fun c_ => by cases c_)
         show W _ _ _ _ _ _ _
         refine w_skip ?_
         show W _ _ _ _ _ _ _
         obtain ⟨y389, e368, e355⟩ := bind_of e355
         refine w_cut [0, 1, 2, 3, 4, 11, 12, 13, 14, 20] (fun σ_ H_ S_ => [(0, .slice a_l0 l0.length c_l0), (1, vI 0), (2, vI y2), (3, vI w3), (4, .func (.func 66) #[] #[vP B0 0]), (11, .slice (ad (some a347)) y389.length (na347 / 1)), (12, vI x351), (13, .slice (ad N362) t360.length (nN362 / 4)), (14, vI x363), (20, vI x351)] = σ_ ∧ ([⟨B0, [vI 0], 1⟩, ⟨some a347, encL E_u64 y389, na347⟩, ⟨N362, encL E_i644 t360, nN362⟩] : List Own) = H_ ∧ S = S_) ?_ ?_
         ·show W _ _ _ _ _ _ _
          refine w_block ?_
          refine w_seq ?_
          refine w_reg fun all => ?_
          refine t_qz 3 [0, 1, 2, 3, 4, 11, 12, 13, 14, 15, 20] (σ' := [(0, .slice a_l0 l0.length c_l0), (1, vI 0), (2, vI y2), (3, vI w3), (4, .func (.func 66) #[] #[vP B0 0]), (11, .slice (ad (some a347)) y364.length (na347 / 1)), (12, vI x351), (13, .slice (ad N362) t360.length (nN362 / 4)), (14, vI x363), (15, vI (wr64 (x351 * 8))), (20, vI x351)]) (by kernel_rfl) ?_
          refine t_end ?_
          show W _ _ _ _ _ _ _
          refine w_block ?_
          refine w_kp [0, 1, 2, 3, 4, 11, 12, 13, 14, 15, 20] (σ' := [(0, .slice a_l0 l0.length c_l0), (1, vI 0), (2, vI y2), (3, vI w3), (4, .func (.func 66) #[] #[vP B0 0]), (11, .slice (ad (some a347)) y364.length (na347 / 1)), (12, vI x351), (13, .slice (ad N362) t360.length (nN362 / 4)), (14, vI x363), (15, vI (wr64 (x351 * 8))), (20, vI x351)]) (by kernel_rfl) ?_
          refine w_loop (fun n_ σ_ H_ S_ => ∃ (x370 : Int) (y371 : List (Int)), [(0, .slice a_l0 l0.length c_l0), (1, vI 0), (2, vI y2), (3, vI w3), (4, .func (.func 66) #[] #[vP B0 0]), (11, .slice (ad (some a347)) y371.length (na347 / 1)), (12, vI x351), (13, .slice (ad N362) t360.length (nN362 / 4)), (14, vI x363), (15, vI x370), (20, vI x351)] = σ_ ∧ ([⟨N362, encL E_i644 t360, nN362⟩, ⟨some a347, encL E_u64 y371, na347⟩, ⟨B0, [vI 0], 1⟩] : List Own) = H_ ∧ S = S_ ∧ sweep_masks_v1.l2 n_ y2 x351 t360 x363 x370 y371 = some y389) _ ⟨wr64 (x351 * 8), y364, rfl, rfl, rfl, e368⟩ ?_
          rintro n388 σ_ H_ S_ ⟨x370, y371, rfl, rfl, rfl, e368⟩
          cases n388 with
          | zero => rw [sweep_masks_v1.l2.eq_1] at e368; cases e368
          | succ k_ =>
           rw [sweep_masks_v1.l2.eq_2] at e368
           refine w_seq ?_
           refine w_seq ?_
           refine w_reg fun all => ?_
           by_cases c372 : x370 < (wr64 ((wr64 (x351 + 1)) * 8))
           ·rw [if_pos c372] at e368
            have c372b : (decide (x370 < (wr64 ((wr64 (x351 + 1)) * 8)))) = true := decide_eq_true c372
            refine t_qz 4 [0, 1, 2, 3, 4, 11, 12, 13, 14, 15, 20, 43, 46] (σ' := [(0, .slice a_l0 l0.length c_l0), (1, vI 0), (2, vI y2), (3, vI w3), (4, .func (.func 66) #[] #[vP B0 0]), (11, .slice (ad (some a347)) y371.length (na347 / 1)), (12, vI x351), (13, .slice (ad N362) t360.length (nN362 / 4)), (14, vI x363), (15, vI x370), (20, vI x351), (43, vI x370), (46, vI (wr64 ((wr64 (x351 + 1)) * 8)))]) (by kernel_rfl) ?_
            refine t_v (dv_quiet rfl (congrArg (fun t => some (Value.bool t)) c372b)) ?_
            refine t_keep [0, 1, 2, 3, 4, 11, 12, 13, 14, 15, 20, 47] (σ' := [(0, .slice a_l0 l0.length c_l0), (1, vI 0), (2, vI y2), (3, vI w3), (4, .func (.func 66) #[] #[vP B0 0]), (11, .slice (ad (some a347)) y371.length (na347 / 1)), (12, vI x351), (13, .slice (ad N362) t360.length (nN362 / 4)), (14, vI x363), (15, vI x370), (20, vI x351), (47, vB true)]) (by kernel_rfl) ?_
            refine t_end ?_
            show W _ _ _ _ _ _ _
            refine w_cond rfl (fun _ => ?_) (fun c_ => by cases c_)
            show W _ _ _ _ _ _ _
            refine w_skip ?_
            show W _ _ _ _ _ _ _
            refine w_seq ?_
            refine w_block ?_
            refine w_seq ?_
            refine w_reg fun all => ?_
            obtain ⟨⟨t373, t374⟩, h375, e368⟩ := bind_of e368
            try dsimp only at e368
            refine t_qz 5 [0, 1, 2, 3, 4, 11, 12, 13, 14, 15, 20, 50, 51, 52, 53, 54] (σ' := [(0, .slice a_l0 l0.length c_l0), (1, vI 0), (2, vI y2), (3, vI w3), (4, .func (.func 66) #[] #[vP B0 0]), (11, .slice (ad (some a347)) y371.length (na347 / 1)), (12, vI x351), (13, .slice (ad N362) t360.length (nN362 / 4)), (14, vI x363), (15, vI x370), (20, vI x351), (50, .func (.func 66) #[] #[vP B0 0]), (51, .slice (ad N362) t360.length (nN362 / 4)), (52, vI x363), (53, vI y2), (54, vI x370)]) (by kernel_rfl) ?_
            refine t_v (.call (vs := [vI x363, vI y2, vI x370]) rfl rfl (by kernel_rfl) (sweep_Sample.ok hE_ h375)) ?_
            obtain ⟨t376, h377, e368⟩ := bind_of e368
            cases t376 with
            | true =>
             rw [if_pos rfl] at e368
             refine t_v (.clor (vs := [.slice (ad N362) t360.length (nN362 / 4), .agg #[vI t373, vI t374]]) (caps := #[vP B0 0]) (A := (([⟨N362, encL E_i644 t360, nN362⟩] : List Own) ++ ([⟨B0, [vI 0], 1⟩] : List Own))) (F0 := ([⟨some a347, encL E_u64 y371, na347⟩] : List Own)) rfl rfl rfl (by kernel_rfl) (by kernel_rfl) (sel_perm (is := [0, 1]) (by kernel_rfl)) (cal_lendFr ([⟨N362, encL E_i644 t360, nN362⟩] : List Own) fun S1_ le1_ hp1_ hs1_ hn1_ ex1_ => sweep_Fill_1_v1.ok (EO.mono hE_ le1_ hp1_) (SlE.ofAd (E := E_i644) (L := t360) (hn1_ _ (mem_at 0 rfl)) (by decide)) h377)) ?_
             refine t_keep [0, 1, 2, 3, 4, 11, 12, 13, 14, 15, 20, 56] (σ' := [(0, .slice a_l0 l0.length c_l0), (1, vI 0), (2, vI y2), (3, vI w3), (4, .func (.func 66) #[] #[vP B0 0]), (11, .slice (ad (some a347)) y371.length (na347 / 1)), (12, vI x351), (13, .slice (ad N362) t360.length (nN362 / 4)), (14, vI x363), (15, vI x370), (20, vI x351), (56, vB true)]) (by kernel_rfl) ?_
             refine t_end ?_
             show W _ _ _ _ _ _ _
             refine w_cond rfl (fun _ => ?_) (fun c_ => by cases c_)
             show W _ _ _ _ _ _ _
             obtain ⟨x378, hx379, e368⟩ := bind_of e368
             have c380 : ¬ x370 < 0 := by
              intro h_; rw [if_pos h_] at e368; cases e368
             rw [if_neg c380] at e368
             obtain ⟨x381, hx382, e368⟩ := bind_of e368
             refine w_drwE mixed 8 [.v (.slice (ad (some a347)) y371.length (na347 / 1)), .v (vI x363), .v (vP (bk (some a347)) ((x363).toNat * 1 + 0)), .v (.int .u64 x378), .v (vI x370), .v (.int .u64 (wru64 (1 * 2 ^ (min (Int.toNat x370) 64)))), .v (.int .u64 (bits .or .u64 x378 (wru64 (1 * 2 ^ (min (Int.toNat x370) 64))))), .v (vP (bk (some a347)) ((x363).toNat * 1 + 0))] (by kernel_rfl) ?_ ?_
             ·refine DI.sq 2 (by kernel_rfl) rfl ?_
              refine .cons (.quietH rfl (by intro h_; cases h_) (ixl (E := E_u64) (j := 1) rfl rfl rfl (by decide) rfl hx379)) ?_
              refine .cons (.ld1 rfl rfl rfl (.lst 1 rfl (encL_at (lgt_in hx379).1 rfl))) ?_
              refine DI.sq 1 (by kernel_rfl) rfl ?_
              refine .cons (.quiet rfl (qv_shl rfl rfl c380)) ?_
              refine DI.sq 1 (by kernel_rfl) rfl ?_
              refine .cons (.quietH rfl (by intro h_; cases h_) (ixl (E := E_u64) (j := 1) rfl rfl rfl (by decide) rfl hx382)) ?_
              exact .nil
             refine fk_q 8 [0, 1, 2, 3, 4, 11, 12, 13, 14, 15, 20, 63, 64] (σ' := [(0, .slice a_l0 l0.length c_l0), (1, vI 0), (2, vI y2), (3, vI w3), (4, .func (.func 66) #[] #[vP B0 0]), (11, .slice (ad (some a347)) y371.length (na347 / 1)), (12, vI x351), (13, .slice (ad N362) t360.length (nN362 / 4)), (14, vI x363), (15, vI x370), (20, vI x351), (63, .int .u64 (bits .or .u64 x378 (wru64 (1 * 2 ^ (min (Int.toNat x370) 64))))), (64, vP (bk (some a347)) ((x363).toNat * 1 + 0))]) t_more (by kernel_rfl) ?_
             refine fk_nil fun all => ?_
             obtain ⟨y383, hl384, e368⟩ := bind_of e368
             refine t_stl 1 (E := E_u64) (L := y371) (L' := y383) (i := x363) (off := 0) (y0 := x381) (y1 := (bits .or .u64 x378 (wru64 (1 * 2 ^ (min (Int.toNat x370) 64))))) (H' := ([⟨N362, encL E_i644 t360, nN362⟩, ⟨some a347, encL E_u64 y383, na347⟩, ⟨B0, [vI 0], 1⟩] : List Own)) rfl rfl rfl rfl rfl rfl rfl (by decide) rfl hx382 (by kernel_rfl) hl384 rfl ?_
             refine t_keep [0, 1, 2, 3, 4, 11, 12, 13, 14, 15, 20, 63, 64] (σ' := [(0, .slice a_l0 l0.length c_l0), (1, vI 0), (2, vI y2), (3, vI w3), (4, .func (.func 66) #[] #[vP B0 0]), (11, .slice (ad (some a347)) y371.length (na347 / 1)), (12, vI x351), (13, .slice (ad N362) t360.length (nN362 / 4)), (14, vI x363), (15, vI x370), (20, vI x351), (63, .int .u64 (bits .or .u64 x378 (wru64 (1 * 2 ^ (min (Int.toNat x370) 64))))), (64, vP (bk (some a347)) ((x363).toNat * 1 + 0))]) (by kernel_rfl) ?_
             refine t_eq (σ' := [(0, .slice a_l0 l0.length c_l0), (1, vI 0), (2, vI y2), (3, vI w3), (4, .func (.func 66) #[] #[vP B0 0]), (11, .slice (ad (some a347)) y383.length (na347 / 1)), (12, vI x351), (13, .slice (ad N362) t360.length (nN362 / 4)), (14, vI x363), (15, vI x370), (20, vI x351), (63, .int .u64 (bits .or .u64 x378 (wru64 (1 * 2 ^ (min (Int.toNat x370) 64))))), (64, vP (bk (some a347)) ((x363).toNat * 1 + 0))]) (H' := ([⟨N362, encL E_i644 t360, nN362⟩, ⟨some a347, encL E_u64 y383, na347⟩, ⟨B0, [vI 0], 1⟩] : List Own)) (by first | rfl | rw [(lput_is hl384).2]) (by first | rfl | rw [(lput_is hl384).2]) ?_
             refine t_keep [0, 1, 2, 3, 4, 11, 12, 13, 14, 15, 20] (σ' := [(0, .slice a_l0 l0.length c_l0), (1, vI 0), (2, vI y2), (3, vI w3), (4, .func (.func 66) #[] #[vP B0 0]), (11, .slice (ad (some a347)) y383.length (na347 / 1)), (12, vI x351), (13, .slice (ad N362) t360.length (nN362 / 4)), (14, vI x363), (15, vI x370), (20, vI x351)]) (by kernel_rfl) ?_
             refine t_end ?_
             show W _ _ _ _ _ _ _
             refine w_reg fun all => ?_
             refine t_qz 3 [0, 1, 2, 3, 4, 11, 12, 13, 14, 15, 20] (σ' := [(0, .slice a_l0 l0.length c_l0), (1, vI 0), (2, vI y2), (3, vI w3), (4, .func (.func 66) #[] #[vP B0 0]), (11, .slice (ad (some a347)) y383.length (na347 / 1)), (12, vI x351), (13, .slice (ad N362) t360.length (nN362 / 4)), (14, vI x363), (15, vI (wr64 (x370 + 1))), (20, vI x351)]) (by kernel_rfl) ?_
             refine t_end ?_
             exact ⟨k_, Nat.lt_succ_self _, [(0, .slice a_l0 l0.length c_l0), (1, vI 0), (2, vI y2), (3, vI w3), (4, .func (.func 66) #[] #[vP B0 0]), (11, .slice (ad (some a347)) y383.length (na347 / 1)), (12, vI x351), (13, .slice (ad N362) t360.length (nN362 / 4)), (14, vI x363), (15, vI (wr64 (x370 + 1))), (20, vI x351)], ([⟨N362, encL E_i644 t360, nN362⟩, ⟨some a347, encL E_u64 y383, na347⟩, ⟨B0, [vI 0], 1⟩] : List Own), S, keep_sub [0, 1, 2, 3, 4, 11, 12, 13, 14, 15, 20] (by kernel_rfl), VS.sel [0, 0, 0] (by kernel_rfl), wr64 (x370 + 1), y383, rfl, rfl, rfl, e368⟩
            | false =>
             rw [if_neg (by decide)] at e368
             refine t_v (.clor (vs := [.slice (ad N362) t360.length (nN362 / 4), .agg #[vI t373, vI t374]]) (caps := #[vP B0 0]) (A := (([⟨N362, encL E_i644 t360, nN362⟩] : List Own) ++ ([⟨B0, [vI 0], 1⟩] : List Own))) (F0 := ([⟨some a347, encL E_u64 y371, na347⟩] : List Own)) rfl rfl rfl (by kernel_rfl) (by kernel_rfl) (sel_perm (is := [0, 1]) (by kernel_rfl)) (cal_lendFr ([⟨N362, encL E_i644 t360, nN362⟩] : List Own) fun S1_ le1_ hp1_ hs1_ hn1_ ex1_ => sweep_Fill_1_v1.ok (EO.mono hE_ le1_ hp1_) (SlE.ofAd (E := E_i644) (L := t360) (hn1_ _ (mem_at 0 rfl)) (by decide)) h377)) ?_
             refine t_keep [0, 1, 2, 3, 4, 11, 12, 13, 14, 15, 20, 56] (σ' := [(0, .slice a_l0 l0.length c_l0), (1, vI 0), (2, vI y2), (3, vI w3), (4, .func (.func 66) #[] #[vP B0 0]), (11, .slice (ad (some a347)) y371.length (na347 / 1)), (12, vI x351), (13, .slice (ad N362) t360.length (nN362 / 4)), (14, vI x363), (15, vI x370), (20, vI x351), (56, vB false)]) (by kernel_rfl) ?_
             refine t_end ?_
             show W _ _ _ _ _ _ _
             refine w_cond rfl (fun c_ => by cases c_) (fun _ => ?_)
             show W _ _ _ _ _ _ _
             refine w_skip ?_
             show W _ _ _ _ _ _ _
             refine w_reg fun all => ?_
             refine t_qz 3 [0, 1, 2, 3, 4, 11, 12, 13, 14, 15, 20] (σ' := [(0, .slice a_l0 l0.length c_l0), (1, vI 0), (2, vI y2), (3, vI w3), (4, .func (.func 66) #[] #[vP B0 0]), (11, .slice (ad (some a347)) y371.length (na347 / 1)), (12, vI x351), (13, .slice (ad N362) t360.length (nN362 / 4)), (14, vI x363), (15, vI (wr64 (x370 + 1))), (20, vI x351)]) (by kernel_rfl) ?_
             refine t_end ?_
             exact ⟨k_, Nat.lt_succ_self _, [(0, .slice a_l0 l0.length c_l0), (1, vI 0), (2, vI y2), (3, vI w3), (4, .func (.func 66) #[] #[vP B0 0]), (11, .slice (ad (some a347)) y371.length (na347 / 1)), (12, vI x351), (13, .slice (ad N362) t360.length (nN362 / 4)), (14, vI x363), (15, vI (wr64 (x370 + 1))), (20, vI x351)], ([⟨N362, encL E_i644 t360, nN362⟩, ⟨some a347, encL E_u64 y371, na347⟩, ⟨B0, [vI 0], 1⟩] : List Own), S, keep_sub [0, 1, 2, 3, 4, 11, 12, 13, 14, 15, 20] (by kernel_rfl), VS.sel [0, 0, 0] (by kernel_rfl), wr64 (x370 + 1), y371, rfl, rfl, rfl, e368⟩
           ·rw [if_neg c372] at e368
            have c372b : (decide (x370 < (wr64 ((wr64 (x351 + 1)) * 8)))) = false := decide_eq_false c372
            refine t_qz 4 [0, 1, 2, 3, 4, 11, 12, 13, 14, 15, 20, 43, 46] (σ' := [(0, .slice a_l0 l0.length c_l0), (1, vI 0), (2, vI y2), (3, vI w3), (4, .func (.func 66) #[] #[vP B0 0]), (11, .slice (ad (some a347)) y371.length (na347 / 1)), (12, vI x351), (13, .slice (ad N362) t360.length (nN362 / 4)), (14, vI x363), (15, vI x370), (20, vI x351), (43, vI x370), (46, vI (wr64 ((wr64 (x351 + 1)) * 8)))]) (by kernel_rfl) ?_
            refine t_v (dv_quiet rfl (congrArg (fun t => some (Value.bool t)) c372b)) ?_
            refine t_keep [0, 1, 2, 3, 4, 11, 12, 13, 14, 15, 20, 47] (σ' := [(0, .slice a_l0 l0.length c_l0), (1, vI 0), (2, vI y2), (3, vI w3), (4, .func (.func 66) #[] #[vP B0 0]), (11, .slice (ad (some a347)) y371.length (na347 / 1)), (12, vI x351), (13, .slice (ad N362) t360.length (nN362 / 4)), (14, vI x363), (15, vI x370), (20, vI x351), (47, vB false)]) (by kernel_rfl) ?_
            refine t_end ?_
            show W _ _ _ _ _ _ _
            refine w_cond rfl (fun c_ => by cases c_) (fun _ => ?_)
            show W _ _ _ _ _ _ _
            refine w_exit ?_
            obtain rfl := Option.some.inj e368
            exact ⟨([⟨B0, [vI 0], 1⟩, ⟨some a347, encL E_u64 y371, na347⟩, ⟨N362, encL E_i644 t360, nN362⟩] : List Own), S, VS.sel [2, 1, 0] (by kernel_rfl), by kernel_rfl, rfl, rfl⟩
         ·rintro σ_ H_ S_ ⟨rfl, rfl, rfl⟩
          refine w_reg fun all => ?_
          refine t_qz 3 [0, 1, 2, 3, 4, 11, 12, 13, 14, 20] (σ' := [(0, .slice a_l0 l0.length c_l0), (1, vI 0), (2, vI y2), (3, vI w3), (4, .func (.func 66) #[] #[vP B0 0]), (11, .slice (ad (some a347)) y389.length (na347 / 1)), (12, vI x351), (13, .slice (ad N362) t360.length (nN362 / 4)), (14, vI (wr64 (x363 + 1))), (20, vI x351)]) (by kernel_rfl) ?_
          refine t_end ?_
          exact ⟨k_, Nat.lt_succ_self _, [(0, .slice a_l0 l0.length c_l0), (1, vI 0), (2, vI y2), (3, vI w3), (4, .func (.func 66) #[] #[vP B0 0]), (11, .slice (ad (some a347)) y389.length (na347 / 1)), (12, vI x351), (13, .slice (ad N362) t360.length (nN362 / 4)), (14, vI (wr64 (x363 + 1))), (20, vI x351)], ([⟨N362, encL E_i644 t360, nN362⟩, ⟨some a347, encL E_u64 y389, na347⟩, ⟨B0, [vI 0], 1⟩] : List Own), S, keep_sub [0, 1, 2, 3, 4, 11, 12, 13, 14, 20] (by kernel_rfl), VS.sel [2, 1, 0] (by kernel_rfl), wr64 (x363 + 1), y389, rfl, rfl, rfl, e355⟩
        ·rw [if_neg c366] at e355
         have c366b : (decide ((t360.length : Int) > 0)) = false := decide_eq_false c366
         refine t_qz 3 [0, 1, 2, 3, 4, 11, 12, 13, 14, 20, 34, 36] (σ' := [(0, .slice a_l0 l0.length c_l0), (1, vI 0), (2, vI y2), (3, vI w3), (4, .func (.func 66) #[] #[vP B0 0]), (11, .slice (ad (some a347)) y364.length (na347 / 1)), (12, vI x351), (13, .slice (ad N362) t360.length (nN362 / 4)), (14, vI x363), (20, vI x351), (34, vB true), (36, vI (t360.length : Int))]) (by kernel_rfl) ?_
         refine t_v (dv_quiet rfl (congrArg (fun t => some (Value.bool t)) c366b)) ?_
         refine t_qz 1 [0, 1, 2, 3, 4, 11, 12, 13, 14, 20, 38] (σ' := [(0, .slice a_l0 l0.length c_l0), (1, vI 0), (2, vI y2), (3, vI w3), (4, .func (.func 66) #[] #[vP B0 0]), (11, .slice (ad (some a347)) y364.length (na347 / 1)), (12, vI x351), (13, .slice (ad N362) t360.length (nN362 / 4)), (14, vI x363), (20, vI x351), (38, vB false)]) (by kernel_rfl) ?_
         refine t_end ?_
         show W _ _ _ _ _ _ _
         refine w_cond rfl (fun c_ => by cases c_) (fun _ => ?_)
         show W _ _ _ _ _ _ _
         refine w_exit ?_
         obtain rfl := Option.some.inj e355
         exact ⟨([⟨B0, [vI 0], 1⟩, ⟨some a347, encL E_u64 y364, na347⟩] : List Own), S, VS.sel [2, 1] (by kernel_rfl), by kernel_rfl, rfl, rfl⟩
       ·rw [if_neg c365] at e355
        have c365b : (decide (x363 < w3)) = false := decide_eq_false c365
        refine t_qz 2 [0, 1, 2, 3, 4, 11, 12, 13, 14, 20, 31, 32] (σ' := [(0, .slice a_l0 l0.length c_l0), (1, vI 0), (2, vI y2), (3, vI w3), (4, .func (.func 66) #[] #[vP B0 0]), (11, .slice (ad (some a347)) y364.length (na347 / 1)), (12, vI x351), (13, .slice (ad N362) t360.length (nN362 / 4)), (14, vI x363), (20, vI x351), (31, vI x363), (32, vI w3)]) (by kernel_rfl) ?_
        refine t_v (dv_quiet rfl (congrArg (fun t => some (Value.bool t)) c365b)) ?_
        refine t_qz 5 [0, 1, 2, 3, 4, 11, 12, 13, 14, 20, 38] (σ' := [(0, .slice a_l0 l0.length c_l0), (1, vI 0), (2, vI y2), (3, vI w3), (4, .func (.func 66) #[] #[vP B0 0]), (11, .slice (ad (some a347)) y364.length (na347 / 1)), (12, vI x351), (13, .slice (ad N362) t360.length (nN362 / 4)), (14, vI x363), (20, vI x351), (38, vB false)]) (by kernel_rfl) ?_
        refine t_end ?_
        show W _ _ _ _ _ _ _
        refine w_cond rfl (fun c_ => by cases c_) (fun _ => ?_)
        show W _ _ _ _ _ _ _
        refine w_exit ?_
        obtain rfl := Option.some.inj e355
        exact ⟨([⟨B0, [vI 0], 1⟩, ⟨some a347, encL E_u64 y364, na347⟩] : List Own), S, VS.sel [2, 1] (by kernel_rfl), by kernel_rfl, rfl, rfl⟩
     ·rintro σ_ H_ S_ ⟨rfl, rfl, rfl⟩
      refine w_reg fun all => ?_
      refine t_qz 2 [0, 1, 2, 3, 4, 11, 20] (σ' := [(0, .slice a_l0 l0.length c_l0), (1, vI 0), (2, vI y2), (3, vI w3), (4, .func (.func 66) #[] #[vP B0 0]), (11, .slice (ad (some a347)) y392.length (na347 / 1)), (20, vI (wr64 (x351 + 1)))]) (by kernel_rfl) ?_
      refine t_end ?_
      exact ⟨k_, Nat.lt_succ_self _, [(0, .slice a_l0 l0.length c_l0), (1, vI 0), (2, vI y2), (3, vI w3), (4, .func (.func 66) #[] #[vP B0 0]), (11, .slice (ad (some a347)) y392.length (na347 / 1)), (20, vI (wr64 (x351 + 1)))], ([⟨some a347, encL E_u64 y392, na347⟩, ⟨B0, [vI 0], 1⟩] : List Own), S, keep_sub [0, 1, 2, 3, 4, 11, 20] (by kernel_rfl), VS.sel [1, 0] (by kernel_rfl), wr64 (x351 + 1), y392, rfl, rfl, rfl, e349⟩
    ·rw [if_neg c353] at e349
     have c353b : (decide (x351 < 8)) = false := decide_eq_false c353
     refine t_v (dv_quiet rfl (congrArg (fun t => some (Value.bool t)) c353b)) ?_
     refine t_keep [0, 1, 2, 3, 4, 11, 20, 21] (σ' := [(0, .slice a_l0 l0.length c_l0), (1, vI 0), (2, vI y2), (3, vI w3), (4, .func (.func 66) #[] #[vP B0 0]), (11, .slice (ad (some a347)) y352.length (na347 / 1)), (20, vI x351), (21, vB false)]) (by kernel_rfl) ?_
     refine t_end ?_
     show W _ _ _ _ _ _ _
     refine w_seq ?_
     refine w_cond rfl (fun c_ => by cases c_) (fun _ => ?_)
     show W _ _ _ _ _ _ _
     refine w_exit ?_
     obtain rfl := Option.some.inj e349
     exact ⟨([⟨B0, [vI 0], 1⟩, ⟨some a347, encL E_u64 y352, na347⟩] : List Own), S, VS.sel [1, 0] (by kernel_rfl), by kernel_rfl, rfl, rfl⟩
  ·rintro σ_ H_ S_ ⟨rfl, rfl, rfl⟩
   refine w_seq ?_
   refine w_reg fun all => ?_
   refine t_qz 2 [10] (σ' := [(10, .slice (ad (some a347)) y395.length (na347 / 1))]) (by kernel_rfl) ?_
   refine t_end ?_
   show W _ _ _ _ _ _ _
   refine w_ret ?_
   obtain rfl := Option.some.inj e
   exact ⟨[.slice (ad (some a347)) y395.length (na347 / 1)], ([⟨some a347, encL E_u64 y395, na347⟩, ⟨B0, [vI 0], 1⟩] : List Own), S, ⟨(show gt _ _ = some _ from (by kernel_rfl)), trivial⟩, VS.sel [1, 0] (by kernel_rfl), some a347, na347, rfl, rfl, rfl⟩

/-- sweep.Fill -/
def c57 : C :=
  (.seq (.reg [oq 5 (.box (.tmp 1)),
     oq 8 (.mv (.const (.slice none 0 0)))])
  (.seq (.reg [oq 9 (.mv (.tmp 0)),
     oq 10 (.mv (.tmp 2)),
     oq 11 (.mv (.tmp 3)),
     oq 12 (.mkf 66 [(.tmp 5)]),
     oq 13 (.call 65 [(.tmp 9), (.const (vI 0)), (.tmp 10), (.tmp 11), (.tmp 12)]),
     oq 8 (.mv (.tmp 13))])
  .ret))
def sweep_Fill_v1.f (k : Nat) (l0 : List (Int × Int × Int × Int)) (y2 : Int) (w3 : Int) : Option (List (Int)) := (sweep_masks_v1.f k l0 y2 w3).bind fun t396 => (some t396)
theorem sweep_Fill_v1.ok {S : Seal} {k : Nat} {l0 : List (Int × Int × Int × Int)} {y2 : Int} {w3 : Int} {r0_ : List (Int)}{A_ : Int → Addr} (hE_ : EO gsE S A_ 157) {a_l0 : Option Addr} {c_l0 : Nat} (h_l0 : SlE S E_i644 l0 a_l0) (e : sweep_Fill_v1.f k l0 y2 w3 = some r0_) :
    Cal Tryd.prog 57 [.slice a_l0 l0.length c_l0, vI 0, vI y2, vI w3] [] S fun v H' S' => ∃ (N0_ : Option Nat) (nN0_ : Nat) , v = .slice (ad N0_) r0_.length (nN0_ / 1) ∧ H' = ([⟨N0_, encL E_u64 r0_, nN0_⟩] : List Own) ∧ S' = S := by
 unfold sweep_Fill_v1.f at e
 refine cal_of (c := c57) (N := 14) Tryd.func57 rfl rfl (by kernel_rfl) (rs := [.t 8]) (by kernel_rfl) (Nat.le_of_ble_eq_true rfl) ?_
 unfold c57
 refine w_seq ?_
 refine w_reg fun all => ?_
 refine t_a (.box rfl rfl rfl) fun b239 fb239 sb239 => ?_
 refine t_qz 1 [0, 2, 3, 5] (σ' := [(0, .slice a_l0 l0.length c_l0), (2, vI y2), (3, vI w3), (5, vP b239 0)]) (by kernel_rfl) ?_
 refine t_end ?_
 show W _ _ _ _ _ _ _
 refine w_seq ?_
 refine w_reg fun all => ?_
 obtain ⟨t396, h397, e⟩ := bind_of e
 refine t_qz 4 [9, 10, 11, 12] (σ' := [(9, .slice a_l0 l0.length c_l0), (10, vI y2), (11, vI w3), (12, .func (.func 66) #[] #[vP b239 0])]) (by kernel_rfl) ?_
 refine t_call (vs := [.slice a_l0 l0.length c_l0, vI 0, vI y2, vI w3, .func (.func 66) #[] #[vP b239 0]]) (H1 := ([⟨b239, [vI 0], 1⟩] : List Own)) (F := ([] : List Own)) rfl rfl (by kernel_rfl) (sel_perm (is := [0]) (by kernel_rfl)) (sweep_masks_v1.ok hE_ h_l0 h397) ?_
 rintro _ _ S_ ⟨N398, nN398, rfl, rfl, hS_⟩
 obtain rfl := hS_.symm
 refine t_qz 1 [8] (σ' := [(8, .slice (ad N398) t396.length (nN398 / 1))]) (by kernel_rfl) ?_
 refine t_end ?_
 show W _ _ _ _ _ _ _
 refine w_ret ?_
 obtain rfl := Option.some.inj e
 exact ⟨[.slice (ad N398) t396.length (nN398 / 1)], ([⟨N398, encL E_u64 t396, nN398⟩] : List Own), S, ⟨rfl, trivial⟩, VS.sel [0] (by kernel_rfl), N398, nN398, rfl, rfl, rfl⟩

/-- (render.layer).masks -/
def c47 : C :=
  (.seq (.reg [oq 3 (.box (.tmp 0)),
     oq 6 (.mv (.const (.slice none 0 0)))])
  (.seq (.seq (.reg [oq 7 (.pad 0 (.tmp 3)),
      oq 8 (.pad 0 (.tmp 7)),
      oq 9 (.ld none (.tmp 8)),
      oq 10 (.bin .eql (.tmp 9) (.const (vI 1)))])
   (.cond (.tmp 10)
    (.seq (.reg [oq 11 (.pad 11 (.tmp 3)),
        oq 12 (.ld none (.tmp 11)),
        oq 13 (.pad 0 (.tmp 3)),
        oq 14 (.pad 1 (.tmp 13)),
        oq 15 (.ld none (.tmp 14)),
        oq 16 (.mv (.tmp 1)),
        oq 17 (.mv (.tmp 2)),
        oq 18 (.call 57 [(.tmp 12), (.tmp 15), (.tmp 16), (.tmp 17)]),
        oq 6 (.mv (.tmp 18))])
     .ret)
    .skip))
  (.seq (.reg [oq 19 (.pad 11 (.tmp 3)),
     oq 20 (.ld none (.tmp 19)),
     oq 21 (.pad 0 (.tmp 3)),
     oq 22 (.pad 2 (.tmp 21)),
     oq 23 (.ld none (.tmp 22)),
     oq 24 (.mv (.tmp 1)),
     oq 25 (.mv (.tmp 2)),
     oq 26 (.call 58 [(.tmp 20), (.tmp 23), (.tmp 24), (.tmp 25)]),
     oq 6 (.mv (.tmp 26))])
  .ret)))
def render_layer_masks_v1.f (k : Nat) (x0_6 : Int) (x0_7 : Int) (x0_8 : Int) (x0_9 : Int) (x0_11 : List (Int × Int × Int × Int)) (y1 : Int) (w2 : Int) : Option (List (Int)) := (sweep_Fill_v1.f k x0_11 y1 w2).bind fun t399 => (some t399)
theorem render_layer_masks_v1.ok {S : Seal} {k : Nat} {x0_6 : Int} {x0_7 : Int} {x0_8 : Int} {x0_9 : Int} {x0_11 : List (Int × Int × Int × Int)} {y1 : Int} {w2 : Int} {r0_ : List (Int)}{A_ : Int → Addr} (hE_ : EO gsE S A_ 157) {a_x0_10 : Option Addr} {n_x0_10 c_x0_10 : Nat} {a_x0_11 : Option Addr} {c_x0_11 : Nat} (h_x0_11 : SlE S E_i644 x0_11 a_x0_11) (e : render_layer_masks_v1.f k x0_6 x0_7 x0_8 x0_9 x0_11 y1 w2 = some r0_) :
    Cal Tryd.prog 47 [.agg #[vI 1, vI 0, vI 0, vI 0, vI 0, vI 0, vI x0_6, vI x0_7, vI x0_8, vI x0_9, .slice a_x0_10 n_x0_10 c_x0_10, .slice a_x0_11 x0_11.length c_x0_11], vI y1, vI w2] [] S fun v H' S' => ∃ (N0_ : Option Nat) (nN0_ : Nat) , v = .slice (ad N0_) r0_.length (nN0_ / 1) ∧ H' = ([⟨N0_, encL E_u64 r0_, nN0_⟩] : List Own) ∧ S' = S := by
 unfold render_layer_masks_v1.f at e
 refine cal_of (c := c47) (N := 27) Tryd.func47 rfl rfl (by kernel_rfl) (rs := [.t 6]) (by kernel_rfl) (Nat.le_of_ble_eq_true rfl) ?_
 unfold c47
 refine w_seq ?_
 refine w_reg fun all => ?_
 refine t_a (.box rfl rfl rfl) fun b238 fb238 sb238 => ?_
 refine t_qz 1 [1, 2, 3] (σ' := [(1, vI y1), (2, vI w2), (3, vP b238 0)]) (by kernel_rfl) ?_
 refine t_end ?_
 show W _ _ _ _ _ _ _
 refine w_seq ?_
 refine w_seq ?_
 refine w_reg fun all => ?_
 refine t_qz 2 [1, 2, 3, 8] (σ' := [(1, vI y1), (2, vI w2), (3, vP b238 0), (8, vP b238 0)]) (by kernel_rfl) ?_
 refine t_v (.ld1 rfl rfl rfl (.at 0 rfl rfl)) ?_
 refine t_qz 1 [1, 2, 3, 10] (σ' := [(1, vI y1), (2, vI w2), (3, vP b238 0), (10, vB true)]) (by kernel_rfl) ?_
 refine t_end ?_
 show W _ _ _ _ _ _ _
 refine w_cond rfl (fun _ => ?_) (fun c_ => by cases c_)
 show W _ _ _ _ _ _ _
 refine w_seq ?_
 refine w_reg fun all => ?_
 refine t_qz 1 [1, 2, 3, 11] (σ' := [(1, vI y1), (2, vI w2), (3, vP b238 0), (11, vP b238 11)]) (by kernel_rfl) ?_
 refine t_v (.ld1 rfl rfl rfl (.at 0 rfl rfl)) ?_
 refine t_qz 2 [1, 2, 12, 14] (σ' := [(1, vI y1), (2, vI w2), (12, .slice a_x0_11 x0_11.length c_x0_11), (14, vP b238 1)]) (by kernel_rfl) ?_
 refine t_v (.ld1 rfl rfl rfl (.at 0 rfl rfl)) ?_
 obtain ⟨t399, h400, e⟩ := bind_of e
 refine t_qz 2 [12, 15, 16, 17] (σ' := [(12, .slice a_x0_11 x0_11.length c_x0_11), (15, vI 0), (16, vI y1), (17, vI w2)]) (by kernel_rfl) ?_
 refine t_call (vs := [.slice a_x0_11 x0_11.length c_x0_11, vI 0, vI y1, vI w2]) (H1 := []) (F := ([⟨b238, [vI 1, vI 0, vI 0, vI 0, vI 0, vI 0, vI x0_6, vI x0_7, vI x0_8, vI x0_9, .slice a_x0_10 n_x0_10 c_x0_10, .slice a_x0_11 x0_11.length c_x0_11], 12⟩] : List Own)) rfl rfl (by kernel_rfl) (sel_perm (is := []) (by kernel_rfl)) (sweep_Fill_v1.ok hE_ h_x0_11 h400) ?_
 rintro _ _ S_ ⟨N401, nN401, rfl, rfl, hS_⟩
 obtain rfl := hS_.symm
 refine t_qz 1 [6] (σ' := [(6, .slice (ad N401) t399.length (nN401 / 1))]) (by kernel_rfl) ?_
 refine t_end ?_
 show W _ _ _ _ _ _ _
 refine w_ret ?_
 obtain rfl := Option.some.inj e
 exact ⟨[.slice (ad N401) t399.length (nN401 / 1)], ([⟨N401, encL E_u64 t399, nN401⟩] : List Own), S, ⟨rfl, trivial⟩, VS.sel [0] (by kernel_rfl), N401, nN401, rfl, rfl, rfl⟩

/-- math/bits.OnesCount64 -/
def c59 : C :=
  (.seq (.reg [oq 2 (.mv (.const (vI 0)))])
  (.seq (.reg [oq 3 (.mv (.tmp 0)),
     oq 4 (.bin .shr (.tmp 3) (.const (.int .u64 1))),
     oq 5 (.bin .and (.tmp 4) (.const (.int .u64 6148914691236517205))),
     oq 6 (.mv (.tmp 0)),
     oq 7 (.bin .and (.tmp 6) (.const (.int .u64 6148914691236517205))),
     oq 8 (.bin .add (.tmp 5) (.tmp 7)),
     oq 0 (.mv (.tmp 8))])
  (.seq (.reg [oq 9 (.mv (.tmp 0)),
     oq 10 (.bin .shr (.tmp 9) (.const (.int .u64 2))),
     oq 11 (.bin .and (.tmp 10) (.const (.int .u64 3689348814741910323))),
     oq 12 (.mv (.tmp 0)),
     oq 13 (.bin .and (.tmp 12) (.const (.int .u64 3689348814741910323))),
     oq 14 (.bin .add (.tmp 11) (.tmp 13)),
     oq 0 (.mv (.tmp 14))])
  (.seq (.reg [oq 15 (.mv (.tmp 0)),
     oq 16 (.bin .shr (.tmp 15) (.const (.int .u64 4))),
     oq 17 (.mv (.tmp 0)),
     oq 18 (.bin .add (.tmp 16) (.tmp 17)),
     oq 19 (.bin .and (.tmp 18) (.const (.int .u64 1085102592571150095))),
     oq 0 (.mv (.tmp 19))])
  (.seq (.reg [oq 20 (.mv (.tmp 0)),
     oq 21 (.mv (.tmp 0)),
     oq 22 (.bin .shr (.tmp 21) (.const (.int .u64 8))),
     oq 23 (.bin .add (.tmp 20) (.tmp 22)),
     oq 0 (.mv (.tmp 23))])
  (.seq (.reg [oq 24 (.mv (.tmp 0)),
     oq 25 (.mv (.tmp 0)),
     oq 26 (.bin .shr (.tmp 25) (.const (.int .u64 16))),
     oq 27 (.bin .add (.tmp 24) (.tmp 26)),
     oq 0 (.mv (.tmp 27))])
  (.seq (.reg [oq 28 (.mv (.tmp 0)),
     oq 29 (.mv (.tmp 0)),
     oq 30 (.bin .shr (.tmp 29) (.const (.int .u64 32))),
     oq 31 (.bin .add (.tmp 28) (.tmp 30)),
     oq 0 (.mv (.tmp 31))])
  (.seq (.reg [oq 32 (.mv (.tmp 0)),
     oq 33 (.cnv .i64 (.tmp 32)),
     oq 34 (.bin .and (.tmp 33) (.const (vI 127))),
     oq 2 (.mv (.tmp 34))])
  .ret))))))))
def bits_OnesCount64.f (x0 : Int) : Option (Int) := (some (wru64 ((bits .and .u64 (Int.fdiv x0 2) 6148914691236517205) + (bits .and .u64 x0 6148914691236517205)))).bind fun v409 => ((some (wru64 ((bits .and .u64 (Int.fdiv v409 4) 3689348814741910323) + (bits .and .u64 v409 3689348814741910323)))).bind fun v411 => ((some (bits .and .u64 (wru64 ((Int.fdiv v411 16) + v411)) 1085102592571150095)).bind fun v413 => ((some (wru64 ((wru64 (v413 + (Int.fdiv v413 256))) + (Int.fdiv (wru64 (v413 + (Int.fdiv v413 256))) 65536)))).bind fun v415 => ((some (bits .and .i64 (wr64 (wru64 (v415 + (Int.fdiv v415 4294967296)))) 127)).bind fun v417 => (some v417)))))
theorem bits_OnesCount64.ok {S : Seal} {x0 : Int} {r0_ : Int}{A_ : Int → Addr} (hE_ : EO gsE S A_ 157) (e : bits_OnesCount64.f x0 = some r0_) :
    Cal Tryd.prog 59 [.int .u64 x0] [] S fun v H' S' => v = vI r0_ ∧ H' = [] ∧ S' = S := by
 unfold bits_OnesCount64.f at e
 refine cal_of (c := c59) (N := 35) Tryd.func59 rfl rfl (by kernel_rfl) (rs := [.t 2]) (by kernel_rfl) (Nat.le_of_ble_eq_true rfl) ?_
 unfold c59
 refine w_seq ?_
 refine w_reg fun all => ?_
 refine t_qz 1 [0] (σ' := [(0, .int .u64 x0)]) (by kernel_rfl) ?_
 refine t_end ?_
 show W _ _ _ _ _ _ _
 refine w_seq ?_
 refine w_reg fun all => ?_
 obtain ⟨v409, hv410, e⟩ := bind_of e
 have hv410b := Option.some.inj hv410
 refine t_qz 5 [5, 7] (σ' := [(5, .int .u64 (bits .and .u64 (Int.fdiv x0 2) 6148914691236517205)), (7, .int .u64 (bits .and .u64 x0 6148914691236517205))]) (by kernel_rfl) ?_
 refine t_v (dv_quiet rfl (congrArg (fun t => some (Value.int .u64 t)) hv410b)) ?_
 refine t_qz 1 [0] (σ' := [(0, .int .u64 v409)]) (by kernel_rfl) ?_
 refine t_end ?_
 show W _ _ _ _ _ _ _
 refine w_seq ?_
 refine w_reg fun all => ?_
 obtain ⟨v411, hv412, e⟩ := bind_of e
 have hv412b := Option.some.inj hv412
 refine t_qz 5 [11, 13] (σ' := [(11, .int .u64 (bits .and .u64 (Int.fdiv v409 4) 3689348814741910323)), (13, .int .u64 (bits .and .u64 v409 3689348814741910323))]) (by kernel_rfl) ?_
 refine t_v (dv_quiet rfl (congrArg (fun t => some (Value.int .u64 t)) hv412b)) ?_
 refine t_qz 1 [0] (σ' := [(0, .int .u64 v411)]) (by kernel_rfl) ?_
 refine t_end ?_
 show W _ _ _ _ _ _ _
 refine w_seq ?_
 refine w_reg fun all => ?_
 obtain ⟨v413, hv414, e⟩ := bind_of e
 have hv414b := Option.some.inj hv414
 refine t_qz 4 [18] (σ' := [(18, .int .u64 (wru64 ((Int.fdiv v411 16) + v411)))]) (by kernel_rfl) ?_
 refine t_v (dv_quiet rfl (congrArg (fun t => some (Value.int .u64 t)) hv414b)) ?_
 refine t_qz 1 [0] (σ' := [(0, .int .u64 v413)]) (by kernel_rfl) ?_
 refine t_end ?_
 show W _ _ _ _ _ _ _
 refine w_seq ?_
 refine w_reg fun all => ?_
 refine t_qz 5 [0] (σ' := [(0, .int .u64 (wru64 (v413 + (Int.fdiv v413 256))))]) (by kernel_rfl) ?_
 refine t_end ?_
 show W _ _ _ _ _ _ _
 refine w_seq ?_
 refine w_reg fun all => ?_
 obtain ⟨v415, hv416, e⟩ := bind_of e
 have hv416b := Option.some.inj hv416
 refine t_qz 3 [24, 26] (σ' := [(24, .int .u64 (wru64 (v413 + (Int.fdiv v413 256)))), (26, .int .u64 (Int.fdiv (wru64 (v413 + (Int.fdiv v413 256))) 65536))]) (by kernel_rfl) ?_
 refine t_v (dv_quiet rfl (congrArg (fun t => some (Value.int .u64 t)) hv416b)) ?_
 refine t_qz 1 [0] (σ' := [(0, .int .u64 v415)]) (by kernel_rfl) ?_
 refine t_end ?_
 show W _ _ _ _ _ _ _
 refine w_seq ?_
 refine w_reg fun all => ?_
 refine t_qz 5 [0] (σ' := [(0, .int .u64 (wru64 (v415 + (Int.fdiv v415 4294967296))))]) (by kernel_rfl) ?_
 refine t_end ?_
 show W _ _ _ _ _ _ _
 refine w_seq ?_
 refine w_reg fun all => ?_
 obtain ⟨v417, hv418, e⟩ := bind_of e
 have hv418b := Option.some.inj hv418
 refine t_qz 2 [33] (σ' := [(33, vI (wr64 (wru64 (v415 + (Int.fdiv v415 4294967296)))))]) (by kernel_rfl) ?_
 refine t_v (dv_quiet rfl (congrArg (fun t => some (Value.int .i64 t)) hv418b)) ?_
 refine t_qz 1 [2] (σ' := [(2, vI v417)]) (by kernel_rfl) ?_
 refine t_end ?_
 show W _ _ _ _ _ _ _
 refine w_ret ?_
 obtain rfl := Option.some.inj e
 exact ⟨[vI v417], [], S, ⟨rfl, trivial⟩, VS.none, rfl, rfl, rfl⟩

/-- sweep.Count -/
def c48 : C :=
  (.seq (.reg [oq 2 (.mv (.const (vI 0)))])
  (.seq (.reg [oq 3 (.mv (.tmp 0)),
     oq 4 (.call 59 [(.tmp 3)]),
     oq 2 (.mv (.tmp 4))])
  .ret))
def sweep_Count.f (mask0 : Int) : Option (Int) := (bits_OnesCount64.f mask0).bind fun t419 => (some t419)
theorem sweep_Count.ok {S : Seal} {mask0 : Int} {r0_ : Int}{A_ : Int → Addr} (hE_ : EO gsE S A_ 157) (e : sweep_Count.f mask0 = some r0_) :
    Cal Tryd.prog 48 [.int .u64 mask0] [] S fun v H' S' => v = vI r0_ ∧ H' = [] ∧ S' = S := by
 unfold sweep_Count.f at e
 refine cal_of (c := c48) (N := 5) Tryd.func48 rfl rfl (by kernel_rfl) (rs := [.t 2]) (by kernel_rfl) (Nat.le_of_ble_eq_true rfl) ?_
 unfold c48
 refine w_seq ?_
 refine w_reg fun all => ?_
 refine t_qz 1 [0] (σ' := [(0, .int .u64 mask0)]) (by kernel_rfl) ?_
 refine t_end ?_
 show W _ _ _ _ _ _ _
 refine w_seq ?_
 refine w_reg fun all => ?_
 obtain ⟨t419, h420, e⟩ := bind_of e
 refine t_qz 1 [3] (σ' := [(3, .int .u64 mask0)]) (by kernel_rfl) ?_
 refine t_v (.call (vs := [.int .u64 mask0]) rfl rfl (by kernel_rfl) (bits_OnesCount64.ok hE_ h420)) ?_
 refine t_qz 1 [2] (σ' := [(2, vI t419)]) (by kernel_rfl) ?_
 refine t_end ?_
 show W _ _ _ _ _ _ _
 refine w_ret ?_
 obtain rfl := Option.some.inj e
 exact ⟨[vI t419], [], S, ⟨rfl, trivial⟩, VS.none, rfl, rfl, rfl⟩

/-- paint.At$1 -/
def c60 : C :=
  (.seq (.reg [oq 3 (.new [(.int .u8 0), (.int .u8 0), (.int .u8 0), (.int .u8 0)])])
  (.seq (.seq (.reg [oq 4 (.mv (.tmp 0)),
      oq 5 (.bin .lss (.tmp 4) (.const (vI 0))),
      oq 6 (.mv (.tmp 5)),
      ⟨(some 7), .mv (.tmp 0), (some (6, false))⟩,
      ⟨(some 8), .ld none (.tmp 1), (some (6, false))⟩,
      ⟨(some 9), .lns (.tmp 8), (some (6, false))⟩,
      ⟨(some 10), .bin .geq (.tmp 7) (.tmp 9), (some (6, false))⟩,
      oq 11 (.pk (.tmp 6) (.const (vB true)) (.tmp 10))])
   (.cond (.tmp 11)
    (.seq (.reg [oq 12 (.bld [(.int .u8 0), (.int .u8 0), (.int .u8 0), (.int .u8 0)] []),
        ⟨none, .st 4 (.tmp 3) (.tmp 12), none⟩])
     .ret)
    .skip))
  (.seq (.reg [oq 13 (.ld none (.tmp 1)),
     oq 14 (.mv (.tmp 0)),
     oq 15 (.ixs 4 (.tmp 13) (.tmp 14)),
     oq 16 (.ld (some 4) (.tmp 15)),
     ⟨none, .st 4 (.tmp 3) (.tmp 16), none⟩])
  .ret)))
def paint_At_1_v1.f (k0 : Int) (m1_0 : Int) (m1_1 : Int) (m1_2 : Int) (m1_3 : Int) : Option (Int × Int × Int × Int) := if k0 < 0 then (some (0, 0, 0, 0)) else (if k0 ≥ 1 then (some (0, 0, 0, 0)) else (if k0 = 0 then (some (m1_0, m1_1, m1_2, m1_3)) else (none)))
theorem paint_At_1_v1.ok {S : Seal} {B0 : Nat} {B1 : Nat} {k0 : Int} {m1_0 : Int} {m1_1 : Int} {m1_2 : Int} {m1_3 : Int} {r0_ : Int} {r1_ : Int} {r2_ : Int} {r3_ : Int}{A_ : Int → Addr} (hE_ : EO gsE S A_ 157) (e : paint_At_1_v1.f k0 m1_0 m1_1 m1_2 m1_3 = some (r0_, r1_, r2_, r3_)) :
    Cal Tryd.prog 60 [vI k0, vP B0 0] ([⟨B0, [.slice (some ⟨B1, 0, none⟩) 1 1], 1⟩, ⟨B1, [.int .u8 m1_0, .int .u8 m1_1, .int .u8 m1_2, .int .u8 m1_3], 4⟩] : List Own) S fun v H' S' => v = .agg #[.int .u8 r0_, .int .u8 r1_, .int .u8 r2_, .int .u8 r3_] ∧ H' = ([⟨B0, [.slice (some ⟨B1, 0, none⟩) 1 1], 1⟩, ⟨B1, [.int .u8 m1_0, .int .u8 m1_1, .int .u8 m1_2, .int .u8 m1_3], 4⟩] : List Own) ∧ S' = S := by
 unfold paint_At_1_v1.f at e
 refine cal_of (c := c60) (N := 17) Tryd.func60 rfl rfl (by kernel_rfl) (rs := [.cn 4 3]) (by kernel_rfl) (Nat.le_of_ble_eq_true rfl) ?_
 unfold c60
 refine w_seq ?_
 refine w_reg fun all => ?_
 refine t_a (.new rfl rfl) fun b434 fb434 sb434 => ?_
 refine t_keep [0, 1, 3] (σ' := [(0, vI k0), (1, vP B0 0), (3, vP b434 0)]) (by kernel_rfl) ?_
 refine t_end ?_
 show W _ _ _ _ _ _ _
 refine w_seq ?_
 refine w_seq ?_
 refine w_reg fun all => ?_
 by_cases c435 : k0 < 0
 ·rw [if_pos c435] at e
  have c435b : (decide (k0 < 0)) = true := decide_eq_true c435
  refine t_qz 1 [0, 1, 3, 4] (σ' := [(0, vI k0), (1, vP B0 0), (3, vP b434 0), (4, vI k0)]) (by kernel_rfl) ?_
  refine t_v (dv_quiet rfl (congrArg (fun t => some (Value.bool t)) c435b)) ?_
  refine t_qz 6 [0, 1, 3, 11] (σ' := [(0, vI k0), (1, vP B0 0), (3, vP b434 0), (11, vB true)]) (by kernel_rfl) ?_
  refine t_end ?_
  show W _ _ _ _ _ _ _
  refine w_cond rfl (fun _ => ?_) (fun c_ => by cases c_)
  show W _ _ _ _ _ _ _
  refine w_seq ?_
  refine w_reg fun all => ?_
  refine t_qz 1 [3, 12] (σ' := [(3, vP b434 0), (12, .agg #[.int .u8 0, .int .u8 0, .int .u8 0, .int .u8 0])]) (by kernel_rfl) ?_
  refine t_sti 0 (cs := [.int .u8 0, .int .u8 0, .int .u8 0, .int .u8 0]) rfl rfl rfl rfl rfl rfl rfl rfl rfl ?_
  refine t_keep [3] (σ' := [(3, vP b434 0)]) (by kernel_rfl) ?_
  refine t_end ?_
  show W _ _ _ _ _ _ _
  refine w_ret ?_
  simp only [Option.some.injEq, Prod.mk.injEq] at e
  obtain ⟨rfl, rfl, rfl, rfl⟩ := e
  exact ⟨[.agg #[.int .u8 0, .int .u8 0, .int .u8 0, .int .u8 0]], ([⟨B0, [.slice (some ⟨B1, 0, none⟩) 1 1], 1⟩, ⟨B1, [.int .u8 m1_0, .int .u8 m1_1, .int .u8 m1_2, .int .u8 m1_3], 4⟩] : List Own), S, ⟨⟨_, _, _, rfl, .at 0 rfl rfl, rfl⟩, trivial⟩, VS.sel [1, 1] (by kernel_rfl), rfl, rfl, rfl⟩
 ·rw [if_neg c435] at e
  have c435b : (decide (k0 < 0)) = false := decide_eq_false c435
  refine t_qz 1 [0, 1, 3, 4] (σ' := [(0, vI k0), (1, vP B0 0), (3, vP b434 0), (4, vI k0)]) (by kernel_rfl) ?_
  refine t_v (dv_quiet rfl (congrArg (fun t => some (Value.bool t)) c435b)) ?_
  refine t_qz 2 [0, 1, 3, 6, 7] (σ' := [(0, vI k0), (1, vP B0 0), (3, vP b434 0), (6, vB false), (7, vI k0)]) (by kernel_rfl) ?_
  refine t_v (.ld1 rfl rfl rfl (.at 1 rfl rfl)) ?_
  by_cases c436 : k0 ≥ 1
  ·rw [if_pos c436] at e
   have c436b : (decide (k0 ≥ 1)) = true := decide_eq_true c436
   refine t_qz 1 [0, 1, 3, 6, 7, 9] (σ' := [(0, vI k0), (1, vP B0 0), (3, vP b434 0), (6, vB false), (7, vI k0), (9, vI 1)]) (by kernel_rfl) ?_
   refine t_v (dv_quiet rfl (congrArg (fun t => some (Value.bool t)) c436b)) ?_
   refine t_qz 1 [0, 1, 3, 11] (σ' := [(0, vI k0), (1, vP B0 0), (3, vP b434 0), (11, vB true)]) (by kernel_rfl) ?_
   refine t_end ?_
   show W _ _ _ _ _ _ _
   refine w_cond rfl (fun _ => ?_) (fun c_ => by cases c_)
   show W _ _ _ _ _ _ _
   refine w_seq ?_
   refine w_reg fun all => ?_
   refine t_qz 1 [3, 12] (σ' := [(3, vP b434 0), (12, .agg #[.int .u8 0, .int .u8 0, .int .u8 0, .int .u8 0])]) (by kernel_rfl) ?_
   refine t_sti 0 (cs := [.int .u8 0, .int .u8 0, .int .u8 0, .int .u8 0]) rfl rfl rfl rfl rfl rfl rfl rfl rfl ?_
   refine t_keep [3] (σ' := [(3, vP b434 0)]) (by kernel_rfl) ?_
   refine t_end ?_
   show W _ _ _ _ _ _ _
   refine w_ret ?_
   simp only [Option.some.injEq, Prod.mk.injEq] at e
   obtain ⟨rfl, rfl, rfl, rfl⟩ := e
   exact ⟨[.agg #[.int .u8 0, .int .u8 0, .int .u8 0, .int .u8 0]], ([⟨B0, [.slice (some ⟨B1, 0, none⟩) 1 1], 1⟩, ⟨B1, [.int .u8 m1_0, .int .u8 m1_1, .int .u8 m1_2, .int .u8 m1_3], 4⟩] : List Own), S, ⟨⟨_, _, _, rfl, .at 0 rfl rfl, rfl⟩, trivial⟩, VS.sel [1, 1] (by kernel_rfl), rfl, rfl, rfl⟩
  ·rw [if_neg c436] at e
   have c436b : (decide (k0 ≥ 1)) = false := decide_eq_false c436
   refine t_qz 1 [0, 1, 3, 6, 7, 9] (σ' := [(0, vI k0), (1, vP B0 0), (3, vP b434 0), (6, vB false), (7, vI k0), (9, vI 1)]) (by kernel_rfl) ?_
   refine t_v (dv_quiet rfl (congrArg (fun t => some (Value.bool t)) c436b)) ?_
   refine t_qz 1 [0, 1, 3, 11] (σ' := [(0, vI k0), (1, vP B0 0), (3, vP b434 0), (11, vB false)]) (by kernel_rfl) ?_
   refine t_end ?_
   show W _ _ _ _ _ _ _
   refine w_cond rfl (fun c_ => by cases c_) (fun _ => ?_)
   show W _ _ _ _ _ _ _
   refine w_skip ?_
   show W _ _ _ _ _ _ _
   refine w_seq ?_
   refine w_reg fun all => ?_
   refine t_v (.ld1 rfl rfl rfl (.at 1 rfl rfl)) ?_
   by_cases c437 : k0 = 0
   ·rw [if_pos c437] at e
    have c437b : (k0 == 0) = true := beq_iff_eq.mpr c437
    refine t_qz 1 [3, 13, 14] (σ' := [(3, vP b434 0), (13, .slice (some ⟨B1, 0, none⟩) 1 1), (14, vI k0)]) (by kernel_rfl) ?_
    refine t_v (.quiet rfl (ixs_at (j := 0) (u := vP B1 0) rfl c437b (by kernel_rfl))) ?_
    refine t_v (.ldn rfl rfl rfl (.at 2 rfl rfl)) ?_
    refine t_sti 0 (cs := [.int .u8 m1_0, .int .u8 m1_1, .int .u8 m1_2, .int .u8 m1_3]) rfl rfl rfl rfl rfl rfl rfl rfl rfl ?_
    refine t_keep [3] (σ' := [(3, vP b434 0)]) (by kernel_rfl) ?_
    refine t_end ?_
    show W _ _ _ _ _ _ _
    refine w_ret ?_
    simp only [Option.some.injEq, Prod.mk.injEq] at e
    obtain ⟨rfl, rfl, rfl, rfl⟩ := e
    exact ⟨[.agg #[.int .u8 m1_0, .int .u8 m1_1, .int .u8 m1_2, .int .u8 m1_3]], ([⟨B0, [.slice (some ⟨B1, 0, none⟩) 1 1], 1⟩, ⟨B1, [.int .u8 m1_0, .int .u8 m1_1, .int .u8 m1_2, .int .u8 m1_3], 4⟩] : List Own), S, ⟨⟨_, _, _, rfl, .at 0 rfl rfl, rfl⟩, trivial⟩, VS.sel [1, 1] (by kernel_rfl), rfl, rfl, rfl⟩
   ·rw [if_neg c437] at e
    have c437b : (k0 == 0) = false := beq_eq_false_iff_ne.mpr c437
    cases e

/-- plane.Dot -/
def c81 : C :=
  (.seq (.reg [oq 3 (.box (.tmp 0)),
     oq 4 (.box (.tmp 1)),
     oq 5 (.box (.tmp 2)),
     oq 6 (.mv (.const (vI 0)))])
  (.seq (.drw [oq 9 (.ld (some 2) (.tmp 4)),
     oq 10 (.ld (some 2) (.tmp 3)),
     oq 11 (.call 89 [(.tmp 9), (.tmp 10)]),
     oq 12 (.ld (some 2) (.tmp 5)),
     oq 13 (.ld (some 2) (.tmp 3)),
     oq 14 (.call 89 [(.tmp 12), (.tmp 13)]),
     oq 7 (.new [(vI 0), (vI 0)]),
     oq 8 (.new [(vI 0), (vI 0)]),
     ⟨none, .st 2 (.tmp 7) (.tmp 11), none⟩,
     ⟨none, .st 2 (.tmp 8) (.tmp 14), none⟩] [[], [], [0, 1], [], [], [3, 4, 2], [], [], [6, 2, 5, 0, 1, 2, 6, 7], [7, 5, 8, 0, 1, 2, 3, 4, 5, 6, 7, 8]])
  (.seq (.reg [oq 15 (.pad 0 (.tmp 7)),
     oq 16 (.ld none (.tmp 15)),
     oq 17 (.pad 0 (.tmp 8)),
     oq 18 (.ld none (.tmp 17)),
     oq 19 (.bin .mul (.tmp 16) (.tmp 18)),
     oq 20 (.pad 1 (.tmp 7)),
     oq 21 (.ld none (.tmp 20)),
     oq 22 (.pad 1 (.tmp 8)),
     oq 23 (.ld none (.tmp 22)),
     oq 24 (.bin .mul (.tmp 21) (.tmp 23)),
     oq 25 (.bin .add (.tmp 19) (.tmp 24)),
     oq 6 (.mv (.tmp 25))])
  .ret)))
def plane_Dot.f (a0_X : Int) (a0_Y : Int) (b1_X : Int) (b1_Y : Int) (p2_X : Int) (p2_Y : Int) : Option (Int) := (plane_Sub.f b1_X b1_Y a0_X a0_Y).bind fun (t456, t457) => ((plane_Sub.f p2_X p2_Y a0_X a0_Y).bind fun (t459, t460) => (some (wr64 ((wr64 (t456 * t459)) + (wr64 (t457 * t460))))))
theorem plane_Dot.ok {S : Seal} {a0_X : Int} {a0_Y : Int} {b1_X : Int} {b1_Y : Int} {p2_X : Int} {p2_Y : Int} {r0_ : Int}{A_ : Int → Addr} (hE_ : EO gsE S A_ 157) (e : plane_Dot.f a0_X a0_Y b1_X b1_Y p2_X p2_Y = some r0_) :
    Cal Tryd.prog 81 [.agg #[vI a0_X, vI a0_Y], .agg #[vI b1_X, vI b1_Y], .agg #[vI p2_X, vI p2_Y]] [] S fun v H' S' => v = vI r0_ ∧ H' = [] ∧ S' = S := by
 unfold plane_Dot.f at e
 refine cal_of (c := c81) (N := 26) Tryd.func81 rfl rfl (by kernel_rfl) (rs := [.t 6]) (by kernel_rfl) (Nat.le_of_ble_eq_true rfl) ?_
 unfold c81
 refine w_seq ?_
 refine w_reg fun all => ?_
 refine t_a (.box rfl rfl rfl) fun b453 fb453 sb453 => ?_
 refine t_a (.box rfl rfl rfl) fun b454 fb454 sb454 => ?_
 refine t_a (.box rfl rfl rfl) fun b455 fb455 sb455 => ?_
 refine t_qz 1 [3, 4, 5] (σ' := [(3, vP b453 0), (4, vP b454 0), (5, vP b455 0)]) (by kernel_rfl) ?_
 refine t_end ?_
 show W _ _ _ _ _ _ _
 refine w_seq ?_
 obtain ⟨⟨t456, t457⟩, h458, e⟩ := bind_of e
 try dsimp only at e
 obtain ⟨⟨t459, t460⟩, h461, e⟩ := bind_of e
 try dsimp only at e
 refine w_drwE mixed 8 [.v (.agg #[vI b1_X, vI b1_Y]), .v (.agg #[vI a0_X, vI a0_Y]), .v (.agg #[vI t456, vI t457]), .v (.agg #[vI p2_X, vI p2_Y]), .v (.agg #[vI a0_X, vI a0_Y]), .v (.agg #[vI t459, vI t460]), .a [vI 0, vI 0] ptrTo, .a [vI 0, vI 0] ptrTo] (by kernel_rfl) ?_ ?_
 ·refine .cons (.ldn rfl rfl rfl (.at 1 rfl rfl)) ?_
  refine .cons (.ldn rfl rfl rfl (.at 2 rfl rfl)) ?_
  refine .cons (.call (vs := [.agg #[vI b1_X, vI b1_Y], .agg #[vI a0_X, vI a0_Y]]) rfl rfl (by kernel_rfl) (plane_Sub.ok hE_ h458)) ?_
  refine .cons (.ldn rfl rfl rfl (.at 0 rfl rfl)) ?_
  refine .cons (.ldn rfl rfl rfl (.at 2 rfl rfl)) ?_
  refine .cons (.call (vs := [.agg #[vI p2_X, vI p2_Y], .agg #[vI a0_X, vI a0_Y]]) rfl rfl (by kernel_rfl) (plane_Sub.ok hE_ h461)) ?_
  refine .cons (.new rfl rfl) ?_
  refine .cons (.new rfl rfl) ?_
  exact .nil
 refine fk_q 6 [11, 14] (σ' := [(11, .agg #[vI t456, vI t457]), (14, .agg #[vI t459, vI t460])]) t_more (by kernel_rfl) ?_
 refine fk_a fun b462 fb462 sb462 => ?_
 refine fk_a fun b463 fb463 sb463 => ?_
 refine fk_nil fun all => ?_
 refine t_sti 1 (cs := [vI t456, vI t457]) rfl rfl rfl rfl rfl rfl rfl rfl rfl ?_
 refine t_sti 0 (cs := [vI t459, vI t460]) rfl rfl rfl rfl rfl rfl rfl rfl rfl ?_
 refine t_keep [7, 8] (σ' := [(7, vP b462 0), (8, vP b463 0)]) (by kernel_rfl) ?_
 refine t_end ?_
 show W _ _ _ _ _ _ _
 refine w_seq ?_
 refine w_reg fun all => ?_
 refine t_qz 1 [7, 8, 15] (σ' := [(7, vP b462 0), (8, vP b463 0), (15, vP b462 0)]) (by kernel_rfl) ?_
 refine t_v (.ld1 rfl rfl rfl (.at 1 rfl rfl)) ?_
 refine t_qz 1 [7, 8, 16, 17] (σ' := [(7, vP b462 0), (8, vP b463 0), (16, vI t456), (17, vP b463 0)]) (by kernel_rfl) ?_
 refine t_v (.ld1 rfl rfl rfl (.at 0 rfl rfl)) ?_
 refine t_qz 2 [8, 19, 20] (σ' := [(8, vP b463 0), (19, vI (wr64 (t456 * t459))), (20, vP b462 1)]) (by kernel_rfl) ?_
 refine t_v (.ld1 rfl rfl rfl (.at 1 rfl rfl)) ?_
 refine t_qz 1 [19, 21, 22] (σ' := [(19, vI (wr64 (t456 * t459))), (21, vI t457), (22, vP b463 1)]) (by kernel_rfl) ?_
 refine t_v (.ld1 rfl rfl rfl (.at 0 rfl rfl)) ?_
 refine t_qz 3 [6] (σ' := [(6, vI (wr64 ((wr64 (t456 * t459)) + (wr64 (t457 * t460)))))]) (by kernel_rfl) ?_
 refine t_end ?_
 show W _ _ _ _ _ _ _
 refine w_ret ?_
 obtain rfl := Option.some.inj e
 exact ⟨[vI (wr64 ((wr64 (t456 * t459)) + (wr64 (t457 * t460))))], [], S, ⟨rfl, trivial⟩, VS.none, rfl, rfl, rfl⟩

/-- plane.Len2 -/
def c73 : C :=
  (.seq (.reg [oq 2 (.box (.tmp 0)),
     oq 3 (.box (.tmp 1)),
     oq 4 (.mv (.const (vI 0)))])
  (.seq (.reg [oq 5 (.ld (some 2) (.tmp 2)),
     oq 6 (.ld (some 2) (.tmp 3)),
     oq 7 (.ld (some 2) (.tmp 3)),
     oq 8 (.call 81 [(.tmp 5), (.tmp 6), (.tmp 7)]),
     oq 4 (.mv (.tmp 8))])
  .ret))
def plane_Len2.f (a0_X : Int) (a0_Y : Int) (b1_X : Int) (b1_Y : Int) : Option (Int) := (plane_Dot.f a0_X a0_Y b1_X b1_Y b1_X b1_Y).bind fun t468 => (some t468)
theorem plane_Len2.ok {S : Seal} {a0_X : Int} {a0_Y : Int} {b1_X : Int} {b1_Y : Int} {r0_ : Int}{A_ : Int → Addr} (hE_ : EO gsE S A_ 157) (e : plane_Len2.f a0_X a0_Y b1_X b1_Y = some r0_) :
    Cal Tryd.prog 73 [.agg #[vI a0_X, vI a0_Y], .agg #[vI b1_X, vI b1_Y]] [] S fun v H' S' => v = vI r0_ ∧ H' = [] ∧ S' = S := by
 unfold plane_Len2.f at e
 refine cal_of (c := c73) (N := 9) Tryd.func73 rfl rfl (by kernel_rfl) (rs := [.t 4]) (by kernel_rfl) (Nat.le_of_ble_eq_true rfl) ?_
 unfold c73
 refine w_seq ?_
 refine w_reg fun all => ?_
 refine t_a (.box rfl rfl rfl) fun b466 fb466 sb466 => ?_
 refine t_a (.box rfl rfl rfl) fun b467 fb467 sb467 => ?_
 refine t_qz 1 [2, 3] (σ' := [(2, vP b466 0), (3, vP b467 0)]) (by kernel_rfl) ?_
 refine t_end ?_
 show W _ _ _ _ _ _ _
 refine w_seq ?_
 refine w_reg fun all => ?_
 refine t_v (.ldn rfl rfl rfl (.at 1 rfl rfl)) ?_
 refine t_v (.ldn rfl rfl rfl (.at 0 rfl rfl)) ?_
 refine t_v (.ldn rfl rfl rfl (.at 0 rfl rfl)) ?_
 obtain ⟨t468, h469, e⟩ := bind_of e
 refine t_v (.call (vs := [.agg #[vI a0_X, vI a0_Y], .agg #[vI b1_X, vI b1_Y], .agg #[vI b1_X, vI b1_Y]]) rfl rfl (by kernel_rfl) (plane_Dot.ok hE_ h469)) ?_
 refine t_qz 1 [4] (σ' := [(4, vI t468)]) (by kernel_rfl) ?_
 refine t_end ?_
 show W _ _ _ _ _ _ _
 refine w_ret ?_
 obtain rfl := Option.some.inj e
 exact ⟨[vI t468], [], S, ⟨rfl, trivial⟩, VS.none, rfl, rfl, rfl⟩

/-- paint.linear -/
def c71 : C :=
  (.seq (.reg [oq 2 (.box (.tmp 0)),
     oq 3 (.box (.tmp 1)),
     oq 4 (.mv (.const (vI 0)))])
  (.seq (.drw [oq 11 (.pad 3 (.tmp 2)),
     oq 12 (.ld (some 2) (.tmp 11)),
     oq 13 (.pad 5 (.tmp 2)),
     oq 14 (.ld (some 2) (.tmp 13)),
     oq 15 (.ld (some 2) (.tmp 3)),
     oq 16 (.call 81 [(.tmp 12), (.tmp 14), (.tmp 15)]),
     oq 17 (.pad 3 (.tmp 2)),
     oq 18 (.ld (some 2) (.tmp 17)),
     oq 19 (.pad 5 (.tmp 2)),
     oq 20 (.ld (some 2) (.tmp 19)),
     oq 21 (.call 73 [(.tmp 18), (.tmp 20)]),
     oq 5 (.mv (.tmp 16)),
     oq 6 (.mv (.tmp 21))] [[], [0], [], [2], [], [1, 3, 4], [], [6], [], [8], [7, 9, 5], [5, 10, 0, 1, 2, 3, 4, 5], [10, 11, 0, 1, 2, 3, 4, 5, 6, 7, 8, 9, 10, 11]])
  (.seq (.block 0 (.seq (.reg [oq 23 (.mv (.tmp 5)),
       oq 24 (.bin .leq (.tmp 23) (.const (vI 0))),
       oq 25 (.mv (.tmp 24)),
       ⟨(some 26), .mv (.tmp 6), (some (25, false))⟩,
       ⟨(some 27), .bin .leq (.tmp 26) (.const (vI 0)), (some (25, false))⟩,
       oq 28 (.pk (.tmp 25) (.const (vB true)) (.tmp 27)),
       oq 22 (.mv (.tmp 28))])
    (.cond (.tmp 22)
     (.seq (.reg [oq 4 (.mv (.const (vI 0)))])
      .ret)
     (.seq (.reg [oq 30 (.mv (.tmp 5)),
         oq 31 (.mv (.tmp 6)),
         oq 32 (.bin .geq (.tmp 30) (.tmp 31)),
         oq 29 (.mv (.tmp 32))])
      (.cond (.tmp 29)
       (.seq (.reg [oq 4 (.mv (.const (vI 65536)))])
        .ret)
       .skip)))))
  (.seq (.reg [oq 34 (.mv (.tmp 5)),
     oq 35 (.cnv .u64 (.tmp 34)),
     oq 36 (.call 82 [(.tmp 35), (.const (.int .u64 65536))]),
     oq 33 (.mv (.tmp 36)),
     oq 37 (.xt 0 (.tmp 33)),
     oq 38 (.xt 1 (.tmp 33)),
     oq 7 (.mv (.tmp 37)),
     oq 8 (.mv (.tmp 38))])
  (.seq (.reg [oq 40 (.mv (.tmp 7)),
     oq 41 (.mv (.tmp 8)),
     oq 42 (.mv (.tmp 6)),
     oq 43 (.cnv .u64 (.tmp 42)),
     oq 44 (.call 83 [(.tmp 40), (.tmp 41), (.tmp 43)]),
     oq 39 (.mv (.tmp 44)),
     oq 45 (.xt 0 (.tmp 39)),
     oq 46 (.xt 1 (.tmp 39)),
     oq 9 (.mv (.tmp 45)),
     oq 10 (.mv (.tmp 46))])
  (.seq (.reg [oq 47 (.mv (.tmp 9)),
     oq 48 (.cnv .i64 (.tmp 47)),
     oq 4 (.mv (.tmp 48))])
  .ret))))))
def paint_linear.f (p0_Kind : Int) (p0_A : Int) (p0_B : Int) (p0_P_X : Int) (p0_P_Y : Int) (p0_Q_X : Int) (p0_Q_Y : Int) (at1_X : Int) (at1_Y : Int) : Option (Int) := (plane_Dot.f p0_P_X p0_P_Y p0_Q_X p0_Q_Y at1_X at1_Y).bind fun t453 => ((plane_Len2.f p0_P_X p0_P_Y p0_Q_X p0_Q_Y).bind fun t455 => (if t453 ≤ 0 then (some 0) else (if t455 ≤ 0 then (some 0) else (if t453 ≥ t455 then (some 65536) else ((bits_Mul64.f (wru64 t453) 65536).bind fun (t460, t461) => ((bits_Div64.f t460 t461 (wru64 t455)).bind fun (t463, t464) => (some (wr64 t463))))))))
theorem paint_linear.ok {S : Seal} {p0_Kind : Int} {p0_A : Int} {p0_B : Int} {p0_P_X : Int} {p0_P_Y : Int} {p0_Q_X : Int} {p0_Q_Y : Int} {at1_X : Int} {at1_Y : Int} {r0_ : Int}{A_ : Int → Addr} (hE_ : EO gsE S A_ 157) (e : paint_linear.f p0_Kind p0_A p0_B p0_P_X p0_P_Y p0_Q_X p0_Q_Y at1_X at1_Y = some r0_) :
    Cal Tryd.prog 71 [.agg #[vI p0_Kind, vI p0_A, vI p0_B, vI p0_P_X, vI p0_P_Y, vI p0_Q_X, vI p0_Q_Y], .agg #[vI at1_X, vI at1_Y]] [] S fun v H' S' => v = vI r0_ ∧ H' = [] ∧ S' = S := by
 unfold paint_linear.f at e
 refine cal_of (c := c71) (N := 49) Tryd.func71 rfl rfl (by kernel_rfl) (rs := [.t 4]) (by kernel_rfl) (Nat.le_of_ble_eq_true rfl) ?_
 unfold c71
 refine w_seq ?_
 refine w_reg fun all => ?_
 refine t_a (.box rfl rfl rfl) fun b451 fb451 sb451 => ?_
 refine t_a (.box rfl rfl rfl) fun b452 fb452 sb452 => ?_
 refine t_qz 1 [2, 3] (σ' := [(2, vP b451 0), (3, vP b452 0)]) (by kernel_rfl) ?_
 refine t_end ?_
 show W _ _ _ _ _ _ _
 refine w_seq ?_
 obtain ⟨t453, h454, e⟩ := bind_of e
 obtain ⟨t455, h456, e⟩ := bind_of e
 refine w_drwE mixed 13 [.v (vP b451 3), .v (.agg #[vI p0_P_X, vI p0_P_Y]), .v (vP b451 5), .v (.agg #[vI p0_Q_X, vI p0_Q_Y]), .v (.agg #[vI at1_X, vI at1_Y]), .v (vI t453), .v (vP b451 3), .v (.agg #[vI p0_P_X, vI p0_P_Y]), .v (vP b451 5), .v (.agg #[vI p0_Q_X, vI p0_Q_Y]), .v (vI t455), .v (vI t453), .v (vI t455)] (by kernel_rfl) ?_ ?_
 ·refine DI.sq 1 (by kernel_rfl) rfl ?_
  refine .cons (.ldn rfl rfl rfl (.at 1 rfl rfl)) ?_
  refine DI.sq 1 (by kernel_rfl) rfl ?_
  refine .cons (.ldn rfl rfl rfl (.at 1 rfl rfl)) ?_
  refine .cons (.ldn rfl rfl rfl (.at 0 rfl rfl)) ?_
  refine .cons (.call (vs := [.agg #[vI p0_P_X, vI p0_P_Y], .agg #[vI p0_Q_X, vI p0_Q_Y], .agg #[vI at1_X, vI at1_Y]]) rfl rfl (by kernel_rfl) (plane_Dot.ok hE_ h454)) ?_
  refine DI.sq 1 (by kernel_rfl) rfl ?_
  refine .cons (.ldn rfl rfl rfl (.at 1 rfl rfl)) ?_
  refine DI.sq 1 (by kernel_rfl) rfl ?_
  refine .cons (.ldn rfl rfl rfl (.at 1 rfl rfl)) ?_
  refine .cons (.call (vs := [.agg #[vI p0_P_X, vI p0_P_Y], .agg #[vI p0_Q_X, vI p0_Q_Y]]) rfl rfl (by kernel_rfl) (plane_Len2.ok hE_ h456)) ?_
  refine DI.sq 2 (by kernel_rfl) rfl ?_
  exact .nil
 refine fk_q 13 [5, 6] (σ' := [(5, vI t453), (6, vI t455)]) t_more (by kernel_rfl) ?_
 refine fk_nil fun all => ?_
 refine t_keep [5, 6] (σ' := [(5, vI t453), (6, vI t455)]) (by kernel_rfl) ?_
 refine t_end ?_
 show W _ _ _ _ _ _ _
 refine w_seq ?_
 refine w_block ?_
 refine w_seq ?_
 refine w_reg fun all => ?_
 by_cases c457 : t453 ≤ 0
 ·rw [if_pos c457] at e
  have c457b : (decide (t453 ≤ 0)) = true := decide_eq_true c457
  refine t_qz 1 [5, 6, 23] (σ' := [(5, vI t453), (6, vI t455), (23, vI t453)]) (by kernel_rfl) ?_
  refine t_v (dv_quiet rfl (congrArg (fun t => some (Value.bool t)) c457b)) ?_
  refine t_qz 5 [5, 6, 22] (σ' := [(5, vI t453), (6, vI t455), (22, vB true)]) (by kernel_rfl) ?_
  refine t_end ?_
  show W _ _ _ _ _ _ _
  refine w_cond rfl (fun _ => ?_) (fun c_ => by cases c_)
  show W _ _ _ _ _ _ _
  refine w_seq ?_
  refine w_reg fun all => ?_
  refine t_qz 1 [4] (σ' := [(4, vI 0)]) (by kernel_rfl) ?_
  refine t_end ?_
  show W _ _ _ _ _ _ _
  refine w_ret ?_
  obtain rfl := Option.some.inj e
  exact ⟨[vI 0], [], S, ⟨rfl, trivial⟩, VS.none, rfl, rfl, rfl⟩
 ·rw [if_neg c457] at e
  have c457b : (decide (t453 ≤ 0)) = false := decide_eq_false c457
  refine t_qz 1 [5, 6, 23] (σ' := [(5, vI t453), (6, vI t455), (23, vI t453)]) (by kernel_rfl) ?_
  refine t_v (dv_quiet rfl (congrArg (fun t => some (Value.bool t)) c457b)) ?_
  by_cases c458 : t455 ≤ 0
  ·rw [if_pos c458] at e
   have c458b : (decide (t455 ≤ 0)) = true := decide_eq_true c458
   refine t_qz 2 [5, 6, 25, 26] (σ' := [(5, vI t453), (6, vI t455), (25, vB false), (26, vI t455)]) (by kernel_rfl) ?_
   refine t_v (dv_quiet rfl (congrArg (fun t => some (Value.bool t)) c458b)) ?_
   refine t_qz 2 [5, 6, 22] (σ' := [(5, vI t453), (6, vI t455), (22, vB true)]) (by kernel_rfl) ?_
   refine t_end ?_
   show W _ _ _ _ _ _ _
   refine w_cond rfl (fun _ => ?_) (fun c_ => by cases c_)
   show W _ _ _ _ _ _ _
   refine w_seq ?_
   refine w_reg fun all => ?_
   refine t_qz 1 [4] (σ' := [(4, vI 0)]) (by kernel_rfl) ?_
   refine t_end ?_
   show W _ _ _ _ _ _ _
   refine w_ret ?_
   obtain rfl := Option.some.inj e
   exact ⟨[vI 0], [], S, ⟨rfl, trivial⟩, VS.none, rfl, rfl, rfl⟩
  ·rw [if_neg c458] at e
   have c458b : (decide (t455 ≤ 0)) = false := decide_eq_false c458
   refine t_qz 2 [5, 6, 25, 26] (σ' := [(5, vI t453), (6, vI t455), (25, vB false), (26, vI t455)]) (by kernel_rfl) ?_
   refine t_v (dv_quiet rfl (congrArg (fun t => some (Value.bool t)) c458b)) ?_
   refine t_qz 2 [5, 6, 22] (σ' := [(5, vI t453), (6, vI t455), (22, vB false)]) (by kernel_rfl) ?_
   refine t_end ?_
   show W _ _ _ _ _ _ _
   refine w_cond rfl (fun c_ => by cases c_) (fun _ => ?_)
   show W _ _ _ _ _ _ _
   refine w_seq ?_
   refine w_reg fun all => ?_
   by_cases c459 : t453 ≥ t455
   ·rw [if_pos c459] at e
    have c459b : (decide (t453 ≥ t455)) = true := decide_eq_true c459
    refine t_qz 2 [5, 6, 30, 31] (σ' := [(5, vI t453), (6, vI t455), (30, vI t453), (31, vI t455)]) (by kernel_rfl) ?_
    refine t_v (dv_quiet rfl (congrArg (fun t => some (Value.bool t)) c459b)) ?_
    refine t_qz 1 [5, 6, 29] (σ' := [(5, vI t453), (6, vI t455), (29, vB true)]) (by kernel_rfl) ?_
    refine t_end ?_
    show W _ _ _ _ _ _ _
    refine w_cond rfl (fun _ => ?_) (fun c_ => by cases c_)
    show W _ _ _ _ _ _ _
    refine w_seq ?_
    refine w_reg fun all => ?_
    refine t_qz 1 [4] (σ' := [(4, vI 65536)]) (by kernel_rfl) ?_
    refine t_end ?_
    show W _ _ _ _ _ _ _
    refine w_ret ?_
    obtain rfl := Option.some.inj e
    exact ⟨[vI 65536], [], S, ⟨rfl, trivial⟩, VS.none, rfl, rfl, rfl⟩
   ·rw [if_neg c459] at e
    have c459b : (decide (t453 ≥ t455)) = false := decide_eq_false c459
    refine t_qz 2 [5, 6, 30, 31] (σ' := [(5, vI t453), (6, vI t455), (30, vI t453), (31, vI t455)]) (by kernel_rfl) ?_
    refine t_v (dv_quiet rfl (congrArg (fun t => some (Value.bool t)) c459b)) ?_
    refine t_qz 1 [5, 6, 29] (σ' := [(5, vI t453), (6, vI t455), (29, vB false)]) (by kernel_rfl) ?_
    refine t_end ?_
    show W _ _ _ _ _ _ _
    refine w_cond rfl (fun c_ => by cases c_) (fun _ => ?_)
    show W _ _ _ _ _ _ _
    refine w_skip ?_
    show W _ _ _ _ _ _ _
    refine w_seq ?_
    refine w_reg fun all => ?_
    obtain ⟨⟨t460, t461⟩, h462, e⟩ := bind_of e
    try dsimp only at e
    refine t_qz 2 [6, 35] (σ' := [(6, vI t455), (35, .int .u64 (wru64 t453))]) (by kernel_rfl) ?_
    refine t_v (.call (vs := [.int .u64 (wru64 t453), .int .u64 65536]) rfl rfl (by kernel_rfl) (bits_Mul64.ok h462)) ?_
    refine t_qz 5 [6, 7, 8] (σ' := [(6, vI t455), (7, .int .u64 t460), (8, .int .u64 t461)]) (by kernel_rfl) ?_
    refine t_end ?_
    show W _ _ _ _ _ _ _
    refine w_seq ?_
    refine w_reg fun all => ?_
    obtain ⟨⟨t463, t464⟩, h465, e⟩ := bind_of e
    try dsimp only at e
    refine t_qz 4 [40, 41, 43] (σ' := [(40, .int .u64 t460), (41, .int .u64 t461), (43, .int .u64 (wru64 t455))]) (by kernel_rfl) ?_
    refine t_v (.call (vs := [.int .u64 t460, .int .u64 t461, .int .u64 (wru64 t455)]) rfl rfl (by kernel_rfl) (bits_Div64.ok h465)) ?_
    refine t_qz 5 [9] (σ' := [(9, .int .u64 t463)]) (by kernel_rfl) ?_
    refine t_end ?_
    show W _ _ _ _ _ _ _
    refine w_seq ?_
    refine w_reg fun all => ?_
    refine t_qz 3 [4] (σ' := [(4, vI (wr64 t463))]) (by kernel_rfl) ?_
    refine t_end ?_
    show W _ _ _ _ _ _ _
    refine w_ret ?_
    obtain rfl := Option.some.inj e
    exact ⟨[vI (wr64 t463)], [], S, ⟨rfl, trivial⟩, VS.none, rfl, rfl, rfl⟩

/-- fixed.Sqrt -/
def c72 : C :=
  (.seq (.reg [oq 2 (.mv (.const (vI 0)))])
  (.seq (.seq (.reg [oq 6 (.mv (.tmp 0)),
      oq 7 (.bin .lss (.tmp 6) (.const (vI 1)))])
   (.cond (.tmp 7)
    (.seq (.reg [oq 2 (.mv (.const (vI 0)))])
     .ret)
    .skip))
  (.seq (.reg [oq 3 (.mv (.const (vI 0))),
     oq 4 (.mv (.const (vI 4294967296)))])
  (.seq (.block 0 (.loop (.seq (.seq (.reg [oq 8 (.mv (.tmp 4)),
         oq 9 (.mv (.tmp 3)),
         oq 10 (.bin .sub (.tmp 8) (.tmp 9)),
         oq 11 (.bin .gtr (.tmp 10) (.const (vI 1)))])
      (.cond (.tmp 11)
       .skip
       (.exit 0)))
     (.block 1 (.seq (.reg [oq 12 (.mv (.tmp 3)),
         oq 13 (.mv (.tmp 4)),
         oq 14 (.mv (.tmp 3)),
         oq 15 (.bin .sub (.tmp 13) (.tmp 14)),
         oq 16 (.bin .quo (.tmp 15) (.const (vI 2))),
         oq 17 (.bin .add (.tmp 12) (.tmp 16)),
         oq 5 (.mv (.tmp 17))])
      (.seq (.reg [oq 18 (.mv (.tmp 5)),
         oq 19 (.mv (.tmp 0)),
         oq 20 (.mv (.tmp 5)),
         oq 21 (.bin .quo (.tmp 19) (.tmp 20)),
         oq 22 (.bin .leq (.tmp 18) (.tmp 21))])
      (.cond (.tmp 22)
       (.reg [oq 23 (.mv (.tmp 5)),
          oq 3 (.mv (.tmp 23))])
       (.reg [oq 24 (.mv (.tmp 5)),
          oq 4 (.mv (.tmp 24))]))))))))
  (.seq (.reg [oq 25 (.mv (.tmp 3)),
     oq 2 (.mv (.tmp 25))])
  .ret)))))
def fixed_Sqrt.l0 : Nat → Int → Int → Int → Option (Int)
  | 0, _, _, _ => none
  | k + 1, n0, x476, x477 => if (wr64 (x477 - x476)) > 1 then (if (wr64 (x476 + (wr64 (Int.tdiv (wr64 (x477 - x476)) 2)))) = 0 then none else (if (wr64 (x476 + (wr64 (Int.tdiv (wr64 (x477 - x476)) 2)))) ≤ (wr64 (Int.tdiv n0 (wr64 (x476 + (wr64 (Int.tdiv (wr64 (x477 - x476)) 2)))))) then (fixed_Sqrt.l0 k n0 (wr64 (x476 + (wr64 (Int.tdiv (wr64 (x477 - x476)) 2)))) x477) else (fixed_Sqrt.l0 k n0 x476 (wr64 (x476 + (wr64 (Int.tdiv (wr64 (x477 - x476)) 2))))))) else (some x476)
def fixed_Sqrt.f (k : Nat) (n0 : Int) : Option (Int) := if n0 < 1 then (some 0) else ((fixed_Sqrt.l0 k n0 0 4294967296 : Option (Int)).bind fun x484 => (some x484))
theorem fixed_Sqrt.ok {S : Seal} {k : Nat} {n0 : Int} {r0_ : Int}{A_ : Int → Addr} (hE_ : EO gsE S A_ 157) (e : fixed_Sqrt.f k n0 = some r0_) :
    Cal Tryd.prog 72 [vI n0] [] S fun v H' S' => v = vI r0_ ∧ H' = [] ∧ S' = S := by
 unfold fixed_Sqrt.f at e
 refine cal_of (c := c72) (N := 26) Tryd.func72 rfl rfl (by kernel_rfl) (rs := [.t 2]) (by kernel_rfl) (Nat.le_of_ble_eq_true rfl) ?_
 unfold c72
 refine w_seq ?_
 refine w_reg fun all => ?_
 refine t_qz 1 [0] (σ' := [(0, vI n0)]) (by kernel_rfl) ?_
 refine t_end ?_
 show W _ _ _ _ _ _ _
 refine w_seq ?_
 refine w_seq ?_
 refine w_reg fun all => ?_
 by_cases c472 : n0 < 1
 ·rw [if_pos c472] at e
  have c472b : (decide (n0 < 1)) = true := decide_eq_true c472
  refine t_qz 1 [0, 6] (σ' := [(0, vI n0), (6, vI n0)]) (by kernel_rfl) ?_
  refine t_v (dv_quiet rfl (congrArg (fun t => some (Value.bool t)) c472b)) ?_
  refine t_keep [0, 7] (σ' := [(0, vI n0), (7, vB true)]) (by kernel_rfl) ?_
  refine t_end ?_
  show W _ _ _ _ _ _ _
  refine w_cond rfl (fun _ => ?_) (fun c_ => by cases c_)
  show W _ _ _ _ _ _ _
  refine w_seq ?_
  refine w_reg fun all => ?_
  refine t_qz 1 [2] (σ' := [(2, vI 0)]) (by kernel_rfl) ?_
  refine t_end ?_
  show W _ _ _ _ _ _ _
  refine w_ret ?_
  obtain rfl := Option.some.inj e
  exact ⟨[vI 0], [], S, ⟨rfl, trivial⟩, VS.none, rfl, rfl, rfl⟩
 ·rw [if_neg c472] at e
  have c472b : (decide (n0 < 1)) = false := decide_eq_false c472
  refine t_qz 1 [0, 6] (σ' := [(0, vI n0), (6, vI n0)]) (by kernel_rfl) ?_
  refine t_v (dv_quiet rfl (congrArg (fun t => some (Value.bool t)) c472b)) ?_
  refine t_keep [0, 7] (σ' := [(0, vI n0), (7, vB false)]) (by kernel_rfl) ?_
  refine t_end ?_
  show W _ _ _ _ _ _ _
  refine w_cond rfl (fun c_ => by cases c_) (fun _ => ?_)
  show W _ _ _ _ _ _ _
  refine w_skip ?_
  show W _ _ _ _ _ _ _
  refine w_seq ?_
  refine w_reg fun all => ?_
  refine t_qz 2 [0, 3, 4] (σ' := [(0, vI n0), (3, vI 0), (4, vI 4294967296)]) (by kernel_rfl) ?_
  refine t_end ?_
  show W _ _ _ _ _ _ _
  obtain ⟨x484, e474, e⟩ := bind_of e
  refine w_cut [3] (fun σ_ H_ S_ => [(3, vI x484)] = σ_ ∧ ([] : List Own) = H_ ∧ S = S_) ?_ ?_
  ·show W _ _ _ _ _ _ _
   refine w_block ?_
   refine w_kp [0, 3, 4] (σ' := [(0, vI n0), (3, vI 0), (4, vI 4294967296)]) (by kernel_rfl) ?_
   refine w_loop (fun n_ σ_ H_ S_ => ∃ (x476 : Int) (x477 : Int), [(0, vI n0), (3, vI x476), (4, vI x477)] = σ_ ∧ ([] : List Own) = H_ ∧ S = S_ ∧ fixed_Sqrt.l0 n_ n0 x476 x477 = some x484) _ ⟨0, 4294967296, rfl, rfl, rfl, e474⟩ ?_
   rintro n483 σ_ H_ S_ ⟨x476, x477, rfl, rfl, rfl, e474⟩
   cases n483 with
   | zero => rw [fixed_Sqrt.l0.eq_1] at e474; cases e474
   | succ k_ =>
    rw [fixed_Sqrt.l0.eq_2] at e474
    refine w_seq ?_
    refine w_seq ?_
    refine w_reg fun all => ?_
    by_cases c478 : (wr64 (x477 - x476)) > 1
    ·rw [if_pos c478] at e474
     have c478b : (decide ((wr64 (x477 - x476)) > 1)) = true := decide_eq_true c478
     refine t_qz 3 [0, 3, 4, 10] (σ' := [(0, vI n0), (3, vI x476), (4, vI x477), (10, vI (wr64 (x477 - x476)))]) (by kernel_rfl) ?_
     refine t_v (dv_quiet rfl (congrArg (fun t => some (Value.bool t)) c478b)) ?_
     refine t_keep [0, 3, 4, 11] (σ' := [(0, vI n0), (3, vI x476), (4, vI x477), (11, vB true)]) (by kernel_rfl) ?_
     refine t_end ?_
     show W _ _ _ _ _ _ _
     refine w_cond rfl (fun _ => ?_) (fun c_ => by cases c_)
     show W _ _ _ _ _ _ _
     refine w_skip ?_
     show W _ _ _ _ _ _ _
     refine w_block ?_
     refine w_seq ?_
     refine w_reg fun all => ?_
     refine t_qz 7 [0, 3, 4, 5] (σ' := [(0, vI n0), (3, vI x476), (4, vI x477), (5, vI (wr64 (x476 + (wr64 (Int.tdiv (wr64 (x477 - x476)) 2)))))]) (by kernel_rfl) ?_
     refine t_end ?_
     show W _ _ _ _ _ _ _
     refine w_seq ?_
     refine w_reg fun all => ?_
     have c479 : ¬ (wr64 (x476 + (wr64 (Int.tdiv (wr64 (x477 - x476)) 2)))) = 0 := by
      intro h_; rw [if_pos h_] at e474; cases e474
     rw [if_neg c479] at e474
     refine t_qz 3 [0, 3, 4, 5, 18, 19, 20] (σ' := [(0, vI n0), (3, vI x476), (4, vI x477), (5, vI (wr64 (x476 + (wr64 (Int.tdiv (wr64 (x477 - x476)) 2))))), (18, vI (wr64 (x476 + (wr64 (Int.tdiv (wr64 (x477 - x476)) 2))))), (19, vI n0), (20, vI (wr64 (x476 + (wr64 (Int.tdiv (wr64 (x477 - x476)) 2)))))]) (by kernel_rfl) ?_
     refine t_v (.quiet rfl (qv_quo rfl rfl c479)) ?_
     by_cases c480 : (wr64 (x476 + (wr64 (Int.tdiv (wr64 (x477 - x476)) 2)))) ≤ (wr64 (Int.tdiv n0 (wr64 (x476 + (wr64 (Int.tdiv (wr64 (x477 - x476)) 2))))))
     ·rw [if_pos c480] at e474
      have c480b : (decide ((wr64 (x476 + (wr64 (Int.tdiv (wr64 (x477 - x476)) 2)))) ≤ (wr64 (Int.tdiv n0 (wr64 (x476 + (wr64 (Int.tdiv (wr64 (x477 - x476)) 2)))))))) = true := decide_eq_true c480
      refine t_v (dv_quiet rfl (congrArg (fun t => some (Value.bool t)) c480b)) ?_
      refine t_keep [0, 3, 4, 5, 22] (σ' := [(0, vI n0), (3, vI x476), (4, vI x477), (5, vI (wr64 (x476 + (wr64 (Int.tdiv (wr64 (x477 - x476)) 2))))), (22, vB true)]) (by kernel_rfl) ?_
      refine t_end ?_
      show W _ _ _ _ _ _ _
      refine w_cond rfl (fun _ => ?_) (fun c_ => by cases c_)
      show W _ _ _ _ _ _ _
      refine w_reg fun all => ?_
      refine t_qz 2 [0, 3, 4] (σ' := [(0, vI n0), (3, vI (wr64 (x476 + (wr64 (Int.tdiv (wr64 (x477 - x476)) 2))))), (4, vI x477)]) (by kernel_rfl) ?_
      refine t_end ?_
      exact ⟨k_, Nat.lt_succ_self _, [(0, vI n0), (3, vI (wr64 (x476 + (wr64 (Int.tdiv (wr64 (x477 - x476)) 2))))), (4, vI x477)], ([] : List Own), S, keep_sub [0, 3, 4] (by kernel_rfl), VS.sel [] (by kernel_rfl), wr64 (x476 + (wr64 (Int.tdiv (wr64 (x477 - x476)) 2))), x477, rfl, rfl, rfl, e474⟩
     ·rw [if_neg c480] at e474
      have c480b : (decide ((wr64 (x476 + (wr64 (Int.tdiv (wr64 (x477 - x476)) 2)))) ≤ (wr64 (Int.tdiv n0 (wr64 (x476 + (wr64 (Int.tdiv (wr64 (x477 - x476)) 2)))))))) = false := decide_eq_false c480
      refine t_v (dv_quiet rfl (congrArg (fun t => some (Value.bool t)) c480b)) ?_
      refine t_keep [0, 3, 4, 5, 22] (σ' := [(0, vI n0), (3, vI x476), (4, vI x477), (5, vI (wr64 (x476 + (wr64 (Int.tdiv (wr64 (x477 - x476)) 2))))), (22, vB false)]) (by kernel_rfl) ?_
      refine t_end ?_
      show W _ _ _ _ _ _ _
      refine w_cond rfl (fun c_ => by cases c_) (fun _ => ?_)
      show W _ _ _ _ _ _ _
      refine w_reg fun all => ?_
      refine t_qz 2 [0, 3, 4] (σ' := [(0, vI n0), (3, vI x476), (4, vI (wr64 (x476 + (wr64 (Int.tdiv (wr64 (x477 - x476)) 2)))))]) (by kernel_rfl) ?_
      refine t_end ?_
      exact ⟨k_, Nat.lt_succ_self _, [(0, vI n0), (3, vI x476), (4, vI (wr64 (x476 + (wr64 (Int.tdiv (wr64 (x477 - x476)) 2)))))], ([] : List Own), S, keep_sub [0, 3, 4] (by kernel_rfl), VS.sel [] (by kernel_rfl), x476, wr64 (x476 + (wr64 (Int.tdiv (wr64 (x477 - x476)) 2))), rfl, rfl, rfl, e474⟩
    ·rw [if_neg c478] at e474
     have c478b : (decide ((wr64 (x477 - x476)) > 1)) = false := decide_eq_false c478
     refine t_qz 3 [0, 3, 4, 10] (σ' := [(0, vI n0), (3, vI x476), (4, vI x477), (10, vI (wr64 (x477 - x476)))]) (by kernel_rfl) ?_
     refine t_v (dv_quiet rfl (congrArg (fun t => some (Value.bool t)) c478b)) ?_
     refine t_keep [0, 3, 4, 11] (σ' := [(0, vI n0), (3, vI x476), (4, vI x477), (11, vB false)]) (by kernel_rfl) ?_
     refine t_end ?_
     show W _ _ _ _ _ _ _
     refine w_cond rfl (fun c_ => by cases c_) (fun _ => ?_)
     show W _ _ _ _ _ _ _
     refine w_exit ?_
     obtain rfl := Option.some.inj e474
     exact ⟨([] : List Own), S, VS.sel [] (by kernel_rfl), by kernel_rfl, rfl, rfl⟩
  ·rintro σ_ H_ S_ ⟨rfl, rfl, rfl⟩
   refine w_seq ?_
   refine w_reg fun all => ?_
   refine t_qz 2 [2] (σ' := [(2, vI x484)]) (by kernel_rfl) ?_
   refine t_end ?_
   show W _ _ _ _ _ _ _
   refine w_ret ?_
   obtain rfl := Option.some.inj e
   exact ⟨[vI x484], [], S, ⟨rfl, trivial⟩, VS.none, rfl, rfl, rfl⟩

/-- fixed.Clamp -/
def c74 : C :=
  (.seq (.reg [oq 6 (.mv (.const (vI 0)))])
  (.seq (.reg [oq 7 (.mv (.tmp 0)),
     oq 8 (.mv (.tmp 2)),
     oq 9 (.mm false [(.tmp 7), (.tmp 8)]),
     oq 10 (.mv (.tmp 1)),
     oq 11 (.mm true [(.tmp 9), (.tmp 10)]),
     oq 6 (.mv (.tmp 11))])
  .ret))
def fixed_Clamp.f (x0 : Int) (lo1 : Int) (hi2 : Int) : Option (Int) := some (mx (mn x0 hi2) lo1)
theorem fixed_Clamp.ok {S : Seal} {x0 : Int} {lo1 : Int} {hi2 : Int} {r0_ : Int}{A_ : Int → Addr} (hE_ : EO gsE S A_ 157) (e : fixed_Clamp.f x0 lo1 hi2 = some r0_) :
    Cal Tryd.prog 74 [vI x0, vI lo1, vI hi2] [] S fun v H' S' => v = vI r0_ ∧ H' = [] ∧ S' = S := by
 unfold fixed_Clamp.f at e
 refine cal_of (c := c74) (N := 12) Tryd.func74 rfl rfl (by kernel_rfl) (rs := [.t 6]) (by kernel_rfl) (Nat.le_of_ble_eq_true rfl) ?_
 unfold c74
 refine w_seq ?_
 refine w_reg fun all => ?_
 refine t_qz 1 [0, 1, 2] (σ' := [(0, vI x0), (1, vI lo1), (2, vI hi2)]) (by kernel_rfl) ?_
 refine t_end ?_
 show W _ _ _ _ _ _ _
 refine w_seq ?_
 refine w_reg fun all => ?_
 refine t_qz 6 [6] (σ' := [(6, vI (mx (mn x0 hi2) lo1))]) (by kernel_rfl) ?_
 refine t_end ?_
 show W _ _ _ _ _ _ _
 refine w_ret ?_
 obtain rfl := Option.some.inj e
 exact ⟨[vI (mx (mn x0 hi2) lo1)], [], S, ⟨rfl, trivial⟩, VS.none, rfl, rfl, rfl⟩

/-- paint.Part -/
def c62 : C :=
  (.seq (.reg [oq 2 (.box (.tmp 0)),
     oq 3 (.box (.tmp 1)),
     oq 4 (.mv (.const (vI 0)))])
  (.seq (.seq (.reg [oq 6 (.pad 0 (.tmp 2)),
      oq 7 (.ld none (.tmp 6))])
   (.block 0 (.seq (.reg [oq 9 (.bin .eql (.tmp 7) (.const (vI 1))),
       oq 8 (.mv (.tmp 9))])
    (.cond (.tmp 8)
     (.seq (.reg [oq 10 (.ld (some 7) (.tmp 2)),
         oq 11 (.ld (some 2) (.tmp 3)),
         oq 12 (.call 71 [(.tmp 10), (.tmp 11)]),
         oq 4 (.mv (.tmp 12))])
      .ret)
     (.seq (.reg [oq 14 (.bin .eql (.tmp 7) (.const (vI 2))),
         oq 13 (.mv (.tmp 14))])
      (.cond (.tmp 13)
       (.seq (.seq (.reg [oq 15 (.pad 5 (.tmp 2)),
            oq 16 (.pad 0 (.tmp 15)),
            oq 17 (.ld none (.tmp 16)),
            oq 18 (.bin .lss (.tmp 17) (.const (vI 1)))])
         (.cond (.tmp 18)
          (.seq (.reg [oq 4 (.mv (.const (vI 65536)))])
           .ret)
          .skip))
        (.seq (.reg [oq 19 (.pad 3 (.tmp 2)),
           oq 20 (.ld (some 2) (.tmp 19)),
           oq 21 (.ld (some 2) (.tmp 3)),
           oq 22 (.call 73 [(.tmp 20), (.tmp 21)]),
           oq 23 (.bin .mul (.tmp 22) (.const (vI 256))),
           oq 24 (.call 72 [(.tmp 23)]),
           oq 5 (.mv (.tmp 24))])
        (.seq (.reg [oq 25 (.mv (.tmp 5)),
           oq 26 (.bin .mul (.const (vI 4096)) (.tmp 25)),
           oq 27 (.pad 5 (.tmp 2)),
           oq 28 (.pad 0 (.tmp 27)),
           oq 29 (.ld none (.tmp 28)),
           oq 30 (.call 51 [(.tmp 26), (.tmp 29)]),
           oq 31 (.call 74 [(.tmp 30), (.const (vI 0)), (.const (vI 65536))]),
           oq 4 (.mv (.tmp 31))])
        .ret)))
       .skip))))))
  (.seq (.reg [oq 4 (.mv (.const (vI 0)))])
  .ret)))
def paint_Part.f (k : Nat) (p0_Kind : Int) (p0_A : Int) (p0_B : Int) (p0_P_X : Int) (p0_P_Y : Int) (p0_Q_X : Int) (p0_Q_Y : Int) (at1_X : Int) (at1_Y : Int) : Option (Int) := if p0_Kind = 1 then ((paint_linear.f p0_Kind p0_A p0_B p0_P_X p0_P_Y p0_Q_X p0_Q_Y at1_X at1_Y).bind fun t466 => (some t466)) else (if p0_Kind = 2 then (if p0_Q_X < 1 then (some 65536) else ((plane_Len2.f p0_P_X p0_P_Y at1_X at1_Y).bind fun t470 => ((fixed_Sqrt.f k (wr64 (t470 * 256))).bind fun t485 => ((fixed_Round.f (wr64 (4096 * t485)) p0_Q_X).bind fun t487 => ((fixed_Clamp.f t487 0 65536).bind fun t489 => (some t489)))))) else (some 0))
theorem paint_Part.ok {S : Seal} {k : Nat} {p0_Kind : Int} {p0_A : Int} {p0_B : Int} {p0_P_X : Int} {p0_P_Y : Int} {p0_Q_X : Int} {p0_Q_Y : Int} {at1_X : Int} {at1_Y : Int} {r0_ : Int}{A_ : Int → Addr} (hE_ : EO gsE S A_ 157) (e : paint_Part.f k p0_Kind p0_A p0_B p0_P_X p0_P_Y p0_Q_X p0_Q_Y at1_X at1_Y = some r0_) :
    Cal Tryd.prog 62 [.agg #[vI p0_Kind, vI p0_A, vI p0_B, vI p0_P_X, vI p0_P_Y, vI p0_Q_X, vI p0_Q_Y], .agg #[vI at1_X, vI at1_Y]] [] S fun v H' S' => v = vI r0_ ∧ H' = [] ∧ S' = S := by
 unfold paint_Part.f at e
 refine cal_of (c := c62) (N := 32) Tryd.func62 rfl rfl (by kernel_rfl) (rs := [.t 4]) (by kernel_rfl) (Nat.le_of_ble_eq_true rfl) ?_
 unfold c62
 refine w_seq ?_
 refine w_reg fun all => ?_
 refine t_a (.box rfl rfl rfl) fun b448 fb448 sb448 => ?_
 refine t_a (.box rfl rfl rfl) fun b449 fb449 sb449 => ?_
 refine t_qz 1 [2, 3] (σ' := [(2, vP b448 0), (3, vP b449 0)]) (by kernel_rfl) ?_
 refine t_end ?_
 show W _ _ _ _ _ _ _
 refine w_seq ?_
 refine w_seq ?_
 refine w_reg fun all => ?_
 refine t_qz 1 [2, 3, 6] (σ' := [(2, vP b448 0), (3, vP b449 0), (6, vP b448 0)]) (by kernel_rfl) ?_
 refine t_v (.ld1 rfl rfl rfl (.at 1 rfl rfl)) ?_
 refine t_keep [2, 3, 7] (σ' := [(2, vP b448 0), (3, vP b449 0), (7, vI p0_Kind)]) (by kernel_rfl) ?_
 refine t_end ?_
 show W _ _ _ _ _ _ _
 refine w_block ?_
 refine w_seq ?_
 refine w_reg fun all => ?_
 by_cases c450 : p0_Kind = 1
 ·rw [if_pos c450] at e
  have c450b : (p0_Kind == 1) = true := beq_iff_eq.mpr c450
  refine t_v (dv_quiet rfl (congrArg (fun t => some (Value.bool t)) c450b)) ?_
  refine t_qz 1 [2, 3, 7, 8] (σ' := [(2, vP b448 0), (3, vP b449 0), (7, vI p0_Kind), (8, vB true)]) (by kernel_rfl) ?_
  refine t_end ?_
  show W _ _ _ _ _ _ _
  refine w_cond rfl (fun _ => ?_) (fun c_ => by cases c_)
  show W _ _ _ _ _ _ _
  refine w_seq ?_
  refine w_reg fun all => ?_
  refine t_v (.ldn rfl rfl rfl (.at 1 rfl rfl)) ?_
  refine t_v (.ldn rfl rfl rfl (.at 0 rfl rfl)) ?_
  obtain ⟨t466, h467, e⟩ := bind_of e
  refine t_v (.call (vs := [.agg #[vI p0_Kind, vI p0_A, vI p0_B, vI p0_P_X, vI p0_P_Y, vI p0_Q_X, vI p0_Q_Y], .agg #[vI at1_X, vI at1_Y]]) rfl rfl (by kernel_rfl) (paint_linear.ok hE_ h467)) ?_
  refine t_qz 1 [4] (σ' := [(4, vI t466)]) (by kernel_rfl) ?_
  refine t_end ?_
  show W _ _ _ _ _ _ _
  refine w_ret ?_
  obtain rfl := Option.some.inj e
  exact ⟨[vI t466], [], S, ⟨rfl, trivial⟩, VS.none, rfl, rfl, rfl⟩
 ·rw [if_neg c450] at e
  have c450b : (p0_Kind == 1) = false := beq_eq_false_iff_ne.mpr c450
  refine t_v (dv_quiet rfl (congrArg (fun t => some (Value.bool t)) c450b)) ?_
  refine t_qz 1 [2, 3, 7, 8] (σ' := [(2, vP b448 0), (3, vP b449 0), (7, vI p0_Kind), (8, vB false)]) (by kernel_rfl) ?_
  refine t_end ?_
  show W _ _ _ _ _ _ _
  refine w_cond rfl (fun c_ => by cases c_) (fun _ => ?_)
  show W _ _ _ _ _ _ _
  refine w_seq ?_
  refine w_reg fun all => ?_
  by_cases c468 : p0_Kind = 2
  ·rw [if_pos c468] at e
   have c468b : (p0_Kind == 2) = true := beq_iff_eq.mpr c468
   refine t_v (dv_quiet rfl (congrArg (fun t => some (Value.bool t)) c468b)) ?_
   refine t_qz 1 [2, 3, 13] (σ' := [(2, vP b448 0), (3, vP b449 0), (13, vB true)]) (by kernel_rfl) ?_
   refine t_end ?_
   show W _ _ _ _ _ _ _
   refine w_cond rfl (fun _ => ?_) (fun c_ => by cases c_)
   show W _ _ _ _ _ _ _
   refine w_seq ?_
   refine w_seq ?_
   refine w_reg fun all => ?_
   refine t_qz 2 [2, 3, 16] (σ' := [(2, vP b448 0), (3, vP b449 0), (16, vP b448 5)]) (by kernel_rfl) ?_
   refine t_v (.ld1 rfl rfl rfl (.at 1 rfl rfl)) ?_
   by_cases c469 : p0_Q_X < 1
   ·rw [if_pos c469] at e
    have c469b : (decide (p0_Q_X < 1)) = true := decide_eq_true c469
    refine t_v (dv_quiet rfl (congrArg (fun t => some (Value.bool t)) c469b)) ?_
    refine t_keep [2, 3, 18] (σ' := [(2, vP b448 0), (3, vP b449 0), (18, vB true)]) (by kernel_rfl) ?_
    refine t_end ?_
    show W _ _ _ _ _ _ _
    refine w_cond rfl (fun _ => ?_) (fun c_ => by cases c_)
    show W _ _ _ _ _ _ _
    refine w_seq ?_
    refine w_reg fun all => ?_
    refine t_qz 1 [4] (σ' := [(4, vI 65536)]) (by kernel_rfl) ?_
    refine t_end ?_
    show W _ _ _ _ _ _ _
    refine w_ret ?_
    obtain rfl := Option.some.inj e
    exact ⟨[vI 65536], [], S, ⟨rfl, trivial⟩, VS.none, rfl, rfl, rfl⟩
   ·rw [if_neg c469] at e
    have c469b : (decide (p0_Q_X < 1)) = false := decide_eq_false c469
    refine t_v (dv_quiet rfl (congrArg (fun t => some (Value.bool t)) c469b)) ?_
    refine t_keep [2, 3, 18] (σ' := [(2, vP b448 0), (3, vP b449 0), (18, vB false)]) (by kernel_rfl) ?_
    refine t_end ?_
    show W _ _ _ _ _ _ _
    refine w_cond rfl (fun c_ => by cases c_) (fun _ => ?_)
    show W _ _ _ _ _ _ _
    refine w_skip ?_
    show W _ _ _ _ _ _ _
    refine w_seq ?_
    refine w_reg fun all => ?_
    refine t_qz 1 [2, 3, 19] (σ' := [(2, vP b448 0), (3, vP b449 0), (19, vP b448 3)]) (by kernel_rfl) ?_
    refine t_v (.ldn rfl rfl rfl (.at 1 rfl rfl)) ?_
    refine t_v (.ldn rfl rfl rfl (.at 0 rfl rfl)) ?_
    obtain ⟨t470, h471, e⟩ := bind_of e
    refine t_v (.call (vs := [.agg #[vI p0_P_X, vI p0_P_Y], .agg #[vI at1_X, vI at1_Y]]) rfl rfl (by kernel_rfl) (plane_Len2.ok hE_ h471)) ?_
    obtain ⟨t485, h486, e⟩ := bind_of e
    refine t_qz 1 [2, 23] (σ' := [(2, vP b448 0), (23, vI (wr64 (t470 * 256)))]) (by kernel_rfl) ?_
    refine t_v (.call (vs := [vI (wr64 (t470 * 256))]) rfl rfl (by kernel_rfl) (fixed_Sqrt.ok hE_ h486)) ?_
    refine t_qz 1 [2, 5] (σ' := [(2, vP b448 0), (5, vI t485)]) (by kernel_rfl) ?_
    refine t_end ?_
    show W _ _ _ _ _ _ _
    refine w_seq ?_
    refine w_reg fun all => ?_
    refine t_qz 4 [26, 28] (σ' := [(26, vI (wr64 (4096 * t485))), (28, vP b448 5)]) (by kernel_rfl) ?_
    refine t_v (.ld1 rfl rfl rfl (.at 1 rfl rfl)) ?_
    obtain ⟨t487, h488, e⟩ := bind_of e
    refine t_v (.call (vs := [vI (wr64 (4096 * t485)), vI p0_Q_X]) rfl rfl (by kernel_rfl) (fixed_Round.ok hE_ h488)) ?_
    obtain ⟨t489, h490, e⟩ := bind_of e
    refine t_v (.call (vs := [vI t487, vI 0, vI 65536]) rfl rfl (by kernel_rfl) (fixed_Clamp.ok hE_ h490)) ?_
    refine t_qz 1 [4] (σ' := [(4, vI t489)]) (by kernel_rfl) ?_
    refine t_end ?_
    show W _ _ _ _ _ _ _
    refine w_ret ?_
    obtain rfl := Option.some.inj e
    exact ⟨[vI t489], [], S, ⟨rfl, trivial⟩, VS.none, rfl, rfl, rfl⟩
  ·rw [if_neg c468] at e
   have c468b : (p0_Kind == 2) = false := beq_eq_false_iff_ne.mpr c468
   refine t_v (dv_quiet rfl (congrArg (fun t => some (Value.bool t)) c468b)) ?_
   refine t_qz 1 [2, 3, 13] (σ' := [(2, vP b448 0), (3, vP b449 0), (13, vB false)]) (by kernel_rfl) ?_
   refine t_end ?_
   show W _ _ _ _ _ _ _
   refine w_cond rfl (fun c_ => by cases c_) (fun _ => ?_)
   show W _ _ _ _ _ _ _
   refine w_skip ?_
   show W _ _ _ _ _ _ _
   refine w_seq ?_
   refine w_reg fun all => ?_
   refine t_qz 1 [4] (σ' := [(4, vI 0)]) (by kernel_rfl) ?_
   refine t_end ?_
   show W _ _ _ _ _ _ _
   refine w_ret ?_
   obtain rfl := Option.some.inj e
   exact ⟨[vI 0], [], S, ⟨rfl, trivial⟩, VS.none, rfl, rfl, rfl⟩

/-- color.Wide -/
def c70 : C :=
  (.seq (.reg [oq 1 (.box (.tmp 0)),
     oq 2 (.new [(vI 0), (vI 0), (vI 0), (vI 0)])])
  (.seq (.reg [oq 3 (.pad 0 (.tmp 1)),
     oq 4 (.ld none (.tmp 3)),
     oq 5 (.cnv .i64 (.tmp 4)),
     oq 6 (.bin .mul (.const (vI 257)) (.tmp 5)),
     oq 7 (.pad 1 (.tmp 1)),
     oq 8 (.ld none (.tmp 7)),
     oq 9 (.cnv .i64 (.tmp 8)),
     oq 10 (.bin .mul (.const (vI 257)) (.tmp 9)),
     oq 11 (.pad 2 (.tmp 1)),
     oq 12 (.ld none (.tmp 11)),
     oq 13 (.cnv .i64 (.tmp 12)),
     oq 14 (.bin .mul (.const (vI 257)) (.tmp 13)),
     oq 15 (.pad 3 (.tmp 1)),
     oq 16 (.ld none (.tmp 15)),
     oq 17 (.cnv .i64 (.tmp 16)),
     oq 18 (.bin .mul (.const (vI 257)) (.tmp 17)),
     oq 19 (.bld [(vI 0), (vI 0), (vI 0), (vI 0)] [(0, 1, (.tmp 6)), (1, 1, (.tmp 10)), (2, 1, (.tmp 14)), (3, 1, (.tmp 18))]),
     ⟨none, .st 4 (.tmp 2) (.tmp 19), none⟩])
  .ret))
def color_Wide.f (c0_R : Int) (c0_G : Int) (c0_B : Int) (c0_A : Int) : Option (Int × Int × Int × Int) := some (wr64 (257 * (wr64 c0_R)), wr64 (257 * (wr64 c0_G)), wr64 (257 * (wr64 c0_B)), wr64 (257 * (wr64 c0_A)))
theorem color_Wide.ok {S : Seal} {c0_R : Int} {c0_G : Int} {c0_B : Int} {c0_A : Int} {r0_ : Int} {r1_ : Int} {r2_ : Int} {r3_ : Int}{A_ : Int → Addr} (hE_ : EO gsE S A_ 157) (e : color_Wide.f c0_R c0_G c0_B c0_A = some (r0_, r1_, r2_, r3_)) :
    Cal Tryd.prog 70 [.agg #[.int .u8 c0_R, .int .u8 c0_G, .int .u8 c0_B, .int .u8 c0_A]] [] S fun v H' S' => v = .agg #[vI r0_, vI r1_, vI r2_, vI r3_] ∧ H' = [] ∧ S' = S := by
 unfold color_Wide.f at e
 refine cal_of (c := c70) (N := 20) Tryd.func70 rfl rfl (by kernel_rfl) (rs := [.cn 4 2]) (by kernel_rfl) (Nat.le_of_ble_eq_true rfl) ?_
 unfold c70
 refine w_seq ?_
 refine w_reg fun all => ?_
 refine t_a (.box rfl rfl rfl) fun b496 fb496 sb496 => ?_
 refine t_a (.new rfl rfl) fun b497 fb497 sb497 => ?_
 refine t_keep [1, 2] (σ' := [(1, vP b496 0), (2, vP b497 0)]) (by kernel_rfl) ?_
 refine t_end ?_
 show W _ _ _ _ _ _ _
 refine w_seq ?_
 refine w_reg fun all => ?_
 refine t_qz 1 [1, 2, 3] (σ' := [(1, vP b496 0), (2, vP b497 0), (3, vP b496 0)]) (by kernel_rfl) ?_
 refine t_v (.ld1 rfl rfl rfl (.at 1 rfl rfl)) ?_
 refine t_qz 3 [1, 2, 6, 7] (σ' := [(1, vP b496 0), (2, vP b497 0), (6, vI (wr64 (257 * (wr64 c0_R)))), (7, vP b496 1)]) (by kernel_rfl) ?_
 refine t_v (.ld1 rfl rfl rfl (.at 1 rfl rfl)) ?_
 refine t_qz 3 [1, 2, 6, 10, 11] (σ' := [(1, vP b496 0), (2, vP b497 0), (6, vI (wr64 (257 * (wr64 c0_R)))), (10, vI (wr64 (257 * (wr64 c0_G)))), (11, vP b496 2)]) (by kernel_rfl) ?_
 refine t_v (.ld1 rfl rfl rfl (.at 1 rfl rfl)) ?_
 refine t_qz 3 [2, 6, 10, 14, 15] (σ' := [(2, vP b497 0), (6, vI (wr64 (257 * (wr64 c0_R)))), (10, vI (wr64 (257 * (wr64 c0_G)))), (14, vI (wr64 (257 * (wr64 c0_B)))), (15, vP b496 3)]) (by kernel_rfl) ?_
 refine t_v (.ld1 rfl rfl rfl (.at 1 rfl rfl)) ?_
 refine t_qz 3 [2, 19] (σ' := [(2, vP b497 0), (19, .agg #[vI (wr64 (257 * (wr64 c0_R))), vI (wr64 (257 * (wr64 c0_G))), vI (wr64 (257 * (wr64 c0_B))), vI (wr64 (257 * (wr64 c0_A)))])]) (by kernel_rfl) ?_
 refine t_sti 0 (cs := [vI (wr64 (257 * (wr64 c0_R))), vI (wr64 (257 * (wr64 c0_G))), vI (wr64 (257 * (wr64 c0_B))), vI (wr64 (257 * (wr64 c0_A)))]) rfl rfl rfl rfl rfl rfl rfl rfl rfl ?_
 refine t_keep [2] (σ' := [(2, vP b497 0)]) (by kernel_rfl) ?_
 refine t_end ?_
 show W _ _ _ _ _ _ _
 refine w_ret ?_
 simp only [Option.some.injEq, Prod.mk.injEq] at e
 obtain ⟨rfl, rfl, rfl, rfl⟩ := e
 exact ⟨[.agg #[vI (wr64 (257 * (wr64 c0_R))), vI (wr64 (257 * (wr64 c0_G))), vI (wr64 (257 * (wr64 c0_B))), vI (wr64 (257 * (wr64 c0_A)))]], [], S, ⟨⟨_, _, _, rfl, .at 0 rfl rfl, rfl⟩, trivial⟩, VS.none, rfl, rfl, rfl⟩

/-- paint.Mix -/
def c61 : C :=
  (.seq (.reg [oq 3 (.box (.tmp 0)),
     oq 4 (.box (.tmp 1)),
     oq 6 (.new [(vI 0), (vI 0), (vI 0), (vI 0)])])
  (.seq (.drw [oq 11 (.ld (some 4) (.tmp 3)),
     oq 12 (.call 70 [(.tmp 11)]),
     oq 13 (.ld (some 4) (.tmp 4)),
     oq 14 (.call 70 [(.tmp 13)]),
     oq 7 (.new [(vI 0), (vI 0), (vI 0), (vI 0)]),
     oq 8 (.new [(vI 0), (vI 0), (vI 0), (vI 0)]),
     ⟨none, .st 4 (.tmp 7) (.tmp 12), none⟩,
     ⟨none, .st 4 (.tmp 8) (.tmp 14), none⟩] [[], [0], [], [2, 1], [], [], [4, 1, 3, 0, 1, 4, 5], [5, 3, 6, 0, 1, 2, 3, 4, 5, 6]])
  (.seq (.reg [oq 9 (.new [(vI 0), (vI 0), (vI 0), (vI 0)])])
  (.seq (.seq (.reg [oq 15 (.mv (.const (vI 0)))])
   (.block 0 (.loop (.seq (.reg [oq 16 (.bin .lss (.tmp 15) (.const (vI 4)))])
     (.seq (.cond (.tmp 16)
       .skip
       (.exit 0))
     (.seq (.block 1 (.seq (.reg [oq 17 (.mv (.tmp 15)),
          oq 10 (.mv (.tmp 17))])
       (.drw [oq 18 (.mv (.tmp 10)),
         oq 19 (.mv (.tmp 10)),
         oq 20 (.ixa 1 4 (.tmp 7) (.tmp 19)),
         oq 21 (.ld none (.tmp 20)),
         oq 22 (.mv (.tmp 2)),
         oq 23 (.bin .sub (.const (vI 65536)) (.tmp 22)),
         oq 24 (.bin .mul (.tmp 21) (.tmp 23)),
         oq 25 (.mv (.tmp 10)),
         oq 26 (.ixa 1 4 (.tmp 8) (.tmp 25)),
         oq 27 (.ld none (.tmp 26)),
         oq 28 (.mv (.tmp 2)),
         oq 29 (.bin .mul (.tmp 27) (.tmp 28)),
         oq 30 (.bin .add (.tmp 24) (.tmp 29)),
         oq 31 (.call 51 [(.tmp 30), (.const (vI 65536))]),
         oq 32 (.ixa 1 4 (.tmp 9) (.tmp 18)),
         ⟨none, .st 1 (.tmp 32) (.tmp 31), none⟩] [[], [], [1], [2], [], [4], [3, 5], [], [7], [8], [], [9, 10], [6, 11], [12], [0, 0, 1, 2, 3, 4, 5, 6, 7, 8, 9, 10, 11, 12, 13], [14, 13, 13, 0, 1, 2, 3, 4, 5, 6, 7, 8, 9, 10, 11, 12, 13]])))
     (.reg [oq 33 (.bin .add (.tmp 15) (.const (vI 1))),
       oq 15 (.mv (.tmp 33))])))))))
  (.seq (.reg [oq 34 (.ld (some 4) (.tmp 9)),
     ⟨none, .st 4 (.tmp 6) (.tmp 34), none⟩])
  .ret)))))
def paint_Mix.f (a0_R : Int) (a0_G : Int) (a0_B : Int) (a0_A : Int) (b1_R : Int) (b1_G : Int) (b1_B : Int) (b1_A : Int) (t2 : Int) : Option (Int × Int × Int × Int) := (color_Wide.f a0_R a0_G a0_B a0_A).bind fun (t496, t497, t498, t499) => ((color_Wide.f b1_R b1_G b1_B b1_A).bind fun (t501, t502, t503, t504) => ((fixed_Round.f (wr64 ((wr64 (t496 * (wr64 (65536 - t2)))) + (wr64 (t501 * t2)))) 65536).bind fun t509 => ((fixed_Round.f (wr64 ((wr64 (t497 * (wr64 (65536 - t2)))) + (wr64 (t502 * t2)))) 65536).bind fun t511 => ((fixed_Round.f (wr64 ((wr64 (t498 * (wr64 (65536 - t2)))) + (wr64 (t503 * t2)))) 65536).bind fun t513 => ((fixed_Round.f (wr64 ((wr64 (t499 * (wr64 (65536 - t2)))) + (wr64 (t504 * t2)))) 65536).bind fun t515 => (some (t509, t511, t513, t515)))))))
theorem paint_Mix.ok {S : Seal} {a0_R : Int} {a0_G : Int} {a0_B : Int} {a0_A : Int} {b1_R : Int} {b1_G : Int} {b1_B : Int} {b1_A : Int} {t2 : Int} {r0_ : Int} {r1_ : Int} {r2_ : Int} {r3_ : Int}{A_ : Int → Addr} (hE_ : EO gsE S A_ 157) (e : paint_Mix.f a0_R a0_G a0_B a0_A b1_R b1_G b1_B b1_A t2 = some (r0_, r1_, r2_, r3_)) :
    Cal Tryd.prog 61 [.agg #[.int .u8 a0_R, .int .u8 a0_G, .int .u8 a0_B, .int .u8 a0_A], .agg #[.int .u8 b1_R, .int .u8 b1_G, .int .u8 b1_B, .int .u8 b1_A], vI t2] [] S fun v H' S' => v = .agg #[vI r0_, vI r1_, vI r2_, vI r3_] ∧ H' = [] ∧ S' = S := by
 unfold paint_Mix.f at e
 refine cal_of (c := c61) (N := 35) Tryd.func61 rfl rfl (by kernel_rfl) (rs := [.cn 4 6]) (by kernel_rfl) (Nat.le_of_ble_eq_true rfl) ?_
 unfold c61
 refine w_seq ?_
 refine w_reg fun all => ?_
 refine t_a (.box rfl rfl rfl) fun b493 fb493 sb493 => ?_
 refine t_a (.box rfl rfl rfl) fun b494 fb494 sb494 => ?_
 refine t_a (.new rfl rfl) fun b495 fb495 sb495 => ?_
 refine t_keep [2, 3, 4, 6] (σ' := [(2, vI t2), (3, vP b493 0), (4, vP b494 0), (6, vP b495 0)]) (by kernel_rfl) ?_
 refine t_end ?_
 show W _ _ _ _ _ _ _
 refine w_seq ?_
 obtain ⟨⟨t496, t497, t498, t499⟩, h500, e⟩ := bind_of e
 try dsimp only at e
 obtain ⟨⟨t501, t502, t503, t504⟩, h505, e⟩ := bind_of e
 try dsimp only at e
 refine w_drwE mixed 6 [.v (.agg #[.int .u8 a0_R, .int .u8 a0_G, .int .u8 a0_B, .int .u8 a0_A]), .v (.agg #[vI t496, vI t497, vI t498, vI t499]), .v (.agg #[.int .u8 b1_R, .int .u8 b1_G, .int .u8 b1_B, .int .u8 b1_A]), .v (.agg #[vI t501, vI t502, vI t503, vI t504]), .a [vI 0, vI 0, vI 0, vI 0] ptrTo, .a [vI 0, vI 0, vI 0, vI 0] ptrTo] (by kernel_rfl) ?_ ?_
 ·refine .cons (.ldn rfl rfl rfl (.at 2 rfl rfl)) ?_
  refine .cons (.call (vs := [.agg #[.int .u8 a0_R, .int .u8 a0_G, .int .u8 a0_B, .int .u8 a0_A]]) rfl rfl (by kernel_rfl) (color_Wide.ok hE_ h500)) ?_
  refine .cons (.ldn rfl rfl rfl (.at 1 rfl rfl)) ?_
  refine .cons (.call (vs := [.agg #[.int .u8 b1_R, .int .u8 b1_G, .int .u8 b1_B, .int .u8 b1_A]]) rfl rfl (by kernel_rfl) (color_Wide.ok hE_ h505)) ?_
  refine .cons (.new rfl rfl) ?_
  refine .cons (.new rfl rfl) ?_
  exact .nil
 refine fk_q 4 [2, 6, 12, 14] (σ' := [(2, vI t2), (6, vP b495 0), (12, .agg #[vI t496, vI t497, vI t498, vI t499]), (14, .agg #[vI t501, vI t502, vI t503, vI t504])]) t_more (by kernel_rfl) ?_
 refine fk_a fun b506 fb506 sb506 => ?_
 refine fk_a fun b507 fb507 sb507 => ?_
 refine fk_nil fun all => ?_
 refine t_sti 1 (cs := [vI t496, vI t497, vI t498, vI t499]) rfl rfl rfl rfl rfl rfl rfl rfl rfl ?_
 refine t_sti 0 (cs := [vI t501, vI t502, vI t503, vI t504]) rfl rfl rfl rfl rfl rfl rfl rfl rfl ?_
 refine t_keep [2, 6, 7, 8] (σ' := [(2, vI t2), (6, vP b495 0), (7, vP b506 0), (8, vP b507 0)]) (by kernel_rfl) ?_
 refine t_end ?_
 show W _ _ _ _ _ _ _
 refine w_seq ?_
 refine w_reg fun all => ?_
 refine t_a (.new rfl rfl) fun b508 fb508 sb508 => ?_
 refine t_keep [2, 6, 7, 8, 9] (σ' := [(2, vI t2), (6, vP b495 0), (7, vP b506 0), (8, vP b507 0), (9, vP b508 0)]) (by kernel_rfl) ?_
 refine t_end ?_
 show W _ _ _ _ _ _ _
 refine w_seq ?_
 refine w_seq ?_
 refine w_reg fun all => ?_
 refine t_qz 1 [2, 6, 7, 8, 9, 15] (σ' := [(2, vI t2), (6, vP b495 0), (7, vP b506 0), (8, vP b507 0), (9, vP b508 0), (15, vI 0)]) (by kernel_rfl) ?_
 refine t_end ?_
 show W _ _ _ _ _ _ _
 refine w_block ?_
 refine w_lun 15 ?_
 refine wl_step ?_
 refine w_seq ?_
 refine w_reg fun all => ?_
 refine t_qz 1 [2, 6, 7, 8, 9, 15, 16] (σ' := [(2, vI t2), (6, vP b495 0), (7, vP b506 0), (8, vP b507 0), (9, vP b508 0), (15, vI 0), (16, vB true)]) (by kernel_rfl) ?_
 refine t_end ?_
 show W _ _ _ _ _ _ _
 refine w_seq ?_
 refine w_cond rfl (fun _ => ?_) (fun c_ => by cases c_)
 show W _ _ _ _ _ _ _
 refine w_skip ?_
 show W _ _ _ _ _ _ _
 refine w_seq ?_
 refine w_block ?_
 refine w_seq ?_
 refine w_reg fun all => ?_
 refine t_qz 2 [2, 6, 7, 8, 9, 10, 15] (σ' := [(2, vI t2), (6, vP b495 0), (7, vP b506 0), (8, vP b507 0), (9, vP b508 0), (10, vI 0), (15, vI 0)]) (by kernel_rfl) ?_
 refine t_end ?_
 show W _ _ _ _ _ _ _
 obtain ⟨t509, h510, e⟩ := bind_of e
 refine w_drwE mixed 15 [.v (vI 0), .v (vI 0), .v (vP b506 0), .v (vI t496), .v (vI t2), .v (vI (wr64 (65536 - t2))), .v (vI (wr64 (t496 * (wr64 (65536 - t2))))), .v (vI 0), .v (vP b507 0), .v (vI t501), .v (vI t2), .v (vI (wr64 (t501 * t2))), .v (vI (wr64 ((wr64 (t496 * (wr64 (65536 - t2)))) + (wr64 (t501 * t2))))), .v (vI t509), .v (vP b508 0)] (by kernel_rfl) ?_ ?_
 ·refine DI.sq 3 (by kernel_rfl) rfl ?_
  refine .cons (.ld1 rfl rfl rfl (.at 2 rfl rfl)) ?_
  refine DI.sq 5 (by kernel_rfl) rfl ?_
  refine .cons (.ld1 rfl rfl rfl (.at 1 rfl rfl)) ?_
  refine DI.sq 3 (by kernel_rfl) rfl ?_
  refine .cons (.call (vs := [vI (wr64 ((wr64 (t496 * (wr64 (65536 - t2)))) + (wr64 (t501 * t2)))), vI 65536]) rfl rfl (by kernel_rfl) (fixed_Round.ok hE_ h510)) ?_
  refine DI.sq 1 (by kernel_rfl) rfl ?_
  exact .nil
 refine fk_q 15 [2, 6, 7, 8, 9, 15, 31, 32] (σ' := [(2, vI t2), (6, vP b495 0), (7, vP b506 0), (8, vP b507 0), (9, vP b508 0), (15, vI 0), (31, vI t509), (32, vP b508 0)]) t_more (by kernel_rfl) ?_
 refine fk_nil fun all => ?_
 refine t_sti 0 (cs := [vI t509, vI 0, vI 0, vI 0]) rfl rfl rfl rfl rfl rfl rfl rfl rfl ?_
 refine t_keep [2, 6, 7, 8, 9, 15] (σ' := [(2, vI t2), (6, vP b495 0), (7, vP b506 0), (8, vP b507 0), (9, vP b508 0), (15, vI 0)]) (by kernel_rfl) ?_
 refine t_end ?_
 show W _ _ _ _ _ _ _
 refine w_reg fun all => ?_
 refine t_qz 2 [2, 6, 7, 8, 9, 15] (σ' := [(2, vI t2), (6, vP b495 0), (7, vP b506 0), (8, vP b507 0), (9, vP b508 0), (15, vI 1)]) (by kernel_rfl) ?_
 refine t_end ?_
 show WL _ _ _ _ _ _ _ _
 refine wl_step ?_
 refine w_seq ?_
 refine w_reg fun all => ?_
 refine t_qz 1 [2, 6, 7, 8, 9, 15, 16] (σ' := [(2, vI t2), (6, vP b495 0), (7, vP b506 0), (8, vP b507 0), (9, vP b508 0), (15, vI 1), (16, vB true)]) (by kernel_rfl) ?_
 refine t_end ?_
 show W _ _ _ _ _ _ _
 refine w_seq ?_
 refine w_cond rfl (fun _ => ?_) (fun c_ => by cases c_)
 show W _ _ _ _ _ _ _
 refine w_skip ?_
 show W _ _ _ _ _ _ _
 refine w_seq ?_
 refine w_block ?_
 refine w_seq ?_
 refine w_reg fun all => ?_
 refine t_qz 2 [2, 6, 7, 8, 9, 10, 15] (σ' := [(2, vI t2), (6, vP b495 0), (7, vP b506 0), (8, vP b507 0), (9, vP b508 0), (10, vI 1), (15, vI 1)]) (by kernel_rfl) ?_
 refine t_end ?_
 show W _ _ _ _ _ _ _
 obtain ⟨t511, h512, e⟩ := bind_of e
 refine w_drwE mixed 15 [.v (vI 1), .v (vI 1), .v (vP b506 1), .v (vI t497), .v (vI t2), .v (vI (wr64 (65536 - t2))), .v (vI (wr64 (t497 * (wr64 (65536 - t2))))), .v (vI 1), .v (vP b507 1), .v (vI t502), .v (vI t2), .v (vI (wr64 (t502 * t2))), .v (vI (wr64 ((wr64 (t497 * (wr64 (65536 - t2)))) + (wr64 (t502 * t2))))), .v (vI t511), .v (vP b508 1)] (by kernel_rfl) ?_ ?_
 ·refine DI.sq 3 (by kernel_rfl) rfl ?_
  refine .cons (.ld1 rfl rfl rfl (.at 2 rfl rfl)) ?_
  refine DI.sq 5 (by kernel_rfl) rfl ?_
  refine .cons (.ld1 rfl rfl rfl (.at 1 rfl rfl)) ?_
  refine DI.sq 3 (by kernel_rfl) rfl ?_
  refine .cons (.call (vs := [vI (wr64 ((wr64 (t497 * (wr64 (65536 - t2)))) + (wr64 (t502 * t2)))), vI 65536]) rfl rfl (by kernel_rfl) (fixed_Round.ok hE_ h512)) ?_
  refine DI.sq 1 (by kernel_rfl) rfl ?_
  exact .nil
 refine fk_q 15 [2, 6, 7, 8, 9, 15, 31, 32] (σ' := [(2, vI t2), (6, vP b495 0), (7, vP b506 0), (8, vP b507 0), (9, vP b508 0), (15, vI 1), (31, vI t511), (32, vP b508 1)]) t_more (by kernel_rfl) ?_
 refine fk_nil fun all => ?_
 refine t_sti 0 (cs := [vI t509, vI t511, vI 0, vI 0]) rfl rfl rfl rfl rfl rfl rfl rfl rfl ?_
 refine t_keep [2, 6, 7, 8, 9, 15] (σ' := [(2, vI t2), (6, vP b495 0), (7, vP b506 0), (8, vP b507 0), (9, vP b508 0), (15, vI 1)]) (by kernel_rfl) ?_
 refine t_end ?_
 show W _ _ _ _ _ _ _
 refine w_reg fun all => ?_
 refine t_qz 2 [2, 6, 7, 8, 9, 15] (σ' := [(2, vI t2), (6, vP b495 0), (7, vP b506 0), (8, vP b507 0), (9, vP b508 0), (15, vI 2)]) (by kernel_rfl) ?_
 refine t_end ?_
 show WL _ _ _ _ _ _ _ _
 refine wl_step ?_
 refine w_seq ?_
 refine w_reg fun all => ?_
 refine t_qz 1 [2, 6, 7, 8, 9, 15, 16] (σ' := [(2, vI t2), (6, vP b495 0), (7, vP b506 0), (8, vP b507 0), (9, vP b508 0), (15, vI 2), (16, vB true)]) (by kernel_rfl) ?_
 refine t_end ?_
 show W _ _ _ _ _ _ _
 refine w_seq ?_
 refine w_cond rfl (fun _ => ?_) (fun c_ => by cases c_)
 show W _ _ _ _ _ _ _
 refine w_skip ?_
 show W _ _ _ _ _ _ _
 refine w_seq ?_
 refine w_block ?_
 refine w_seq ?_
 refine w_reg fun all => ?_
 refine t_qz 2 [2, 6, 7, 8, 9, 10, 15] (σ' := [(2, vI t2), (6, vP b495 0), (7, vP b506 0), (8, vP b507 0), (9, vP b508 0), (10, vI 2), (15, vI 2)]) (by kernel_rfl) ?_
 refine t_end ?_
 show W _ _ _ _ _ _ _
 obtain ⟨t513, h514, e⟩ := bind_of e
 refine w_drwE mixed 15 [.v (vI 2), .v (vI 2), .v (vP b506 2), .v (vI t498), .v (vI t2), .v (vI (wr64 (65536 - t2))), .v (vI (wr64 (t498 * (wr64 (65536 - t2))))), .v (vI 2), .v (vP b507 2), .v (vI t503), .v (vI t2), .v (vI (wr64 (t503 * t2))), .v (vI (wr64 ((wr64 (t498 * (wr64 (65536 - t2)))) + (wr64 (t503 * t2))))), .v (vI t513), .v (vP b508 2)] (by kernel_rfl) ?_ ?_
 ·refine DI.sq 3 (by kernel_rfl) rfl ?_
  refine .cons (.ld1 rfl rfl rfl (.at 2 rfl rfl)) ?_
  refine DI.sq 5 (by kernel_rfl) rfl ?_
  refine .cons (.ld1 rfl rfl rfl (.at 1 rfl rfl)) ?_
  refine DI.sq 3 (by kernel_rfl) rfl ?_
  refine .cons (.call (vs := [vI (wr64 ((wr64 (t498 * (wr64 (65536 - t2)))) + (wr64 (t503 * t2)))), vI 65536]) rfl rfl (by kernel_rfl) (fixed_Round.ok hE_ h514)) ?_
  refine DI.sq 1 (by kernel_rfl) rfl ?_
  exact .nil
 refine fk_q 15 [2, 6, 7, 8, 9, 15, 31, 32] (σ' := [(2, vI t2), (6, vP b495 0), (7, vP b506 0), (8, vP b507 0), (9, vP b508 0), (15, vI 2), (31, vI t513), (32, vP b508 2)]) t_more (by kernel_rfl) ?_
 refine fk_nil fun all => ?_
 refine t_sti 0 (cs := [vI t509, vI t511, vI t513, vI 0]) rfl rfl rfl rfl rfl rfl rfl rfl rfl ?_
 refine t_keep [2, 6, 7, 8, 9, 15] (σ' := [(2, vI t2), (6, vP b495 0), (7, vP b506 0), (8, vP b507 0), (9, vP b508 0), (15, vI 2)]) (by kernel_rfl) ?_
 refine t_end ?_
 show W _ _ _ _ _ _ _
 refine w_reg fun all => ?_
 refine t_qz 2 [2, 6, 7, 8, 9, 15] (σ' := [(2, vI t2), (6, vP b495 0), (7, vP b506 0), (8, vP b507 0), (9, vP b508 0), (15, vI 3)]) (by kernel_rfl) ?_
 refine t_end ?_
 show WL _ _ _ _ _ _ _ _
 refine wl_step ?_
 refine w_seq ?_
 refine w_reg fun all => ?_
 refine t_qz 1 [2, 6, 7, 8, 9, 15, 16] (σ' := [(2, vI t2), (6, vP b495 0), (7, vP b506 0), (8, vP b507 0), (9, vP b508 0), (15, vI 3), (16, vB true)]) (by kernel_rfl) ?_
 refine t_end ?_
 show W _ _ _ _ _ _ _
 refine w_seq ?_
 refine w_cond rfl (fun _ => ?_) (fun c_ => by cases c_)
 show W _ _ _ _ _ _ _
 refine w_skip ?_
 show W _ _ _ _ _ _ _
 refine w_seq ?_
 refine w_block ?_
 refine w_seq ?_
 refine w_reg fun all => ?_
 refine t_qz 2 [2, 6, 7, 8, 9, 10, 15] (σ' := [(2, vI t2), (6, vP b495 0), (7, vP b506 0), (8, vP b507 0), (9, vP b508 0), (10, vI 3), (15, vI 3)]) (by kernel_rfl) ?_
 refine t_end ?_
 show W _ _ _ _ _ _ _
 obtain ⟨t515, h516, e⟩ := bind_of e
 refine w_drwE mixed 15 [.v (vI 3), .v (vI 3), .v (vP b506 3), .v (vI t499), .v (vI t2), .v (vI (wr64 (65536 - t2))), .v (vI (wr64 (t499 * (wr64 (65536 - t2))))), .v (vI 3), .v (vP b507 3), .v (vI t504), .v (vI t2), .v (vI (wr64 (t504 * t2))), .v (vI (wr64 ((wr64 (t499 * (wr64 (65536 - t2)))) + (wr64 (t504 * t2))))), .v (vI t515), .v (vP b508 3)] (by kernel_rfl) ?_ ?_
 ·refine DI.sq 3 (by kernel_rfl) rfl ?_
  refine .cons (.ld1 rfl rfl rfl (.at 2 rfl rfl)) ?_
  refine DI.sq 5 (by kernel_rfl) rfl ?_
  refine .cons (.ld1 rfl rfl rfl (.at 1 rfl rfl)) ?_
  refine DI.sq 3 (by kernel_rfl) rfl ?_
  refine .cons (.call (vs := [vI (wr64 ((wr64 (t499 * (wr64 (65536 - t2)))) + (wr64 (t504 * t2)))), vI 65536]) rfl rfl (by kernel_rfl) (fixed_Round.ok hE_ h516)) ?_
  refine DI.sq 1 (by kernel_rfl) rfl ?_
  exact .nil
 refine fk_q 15 [2, 6, 7, 8, 9, 15, 31, 32] (σ' := [(2, vI t2), (6, vP b495 0), (7, vP b506 0), (8, vP b507 0), (9, vP b508 0), (15, vI 3), (31, vI t515), (32, vP b508 3)]) t_more (by kernel_rfl) ?_
 refine fk_nil fun all => ?_
 refine t_sti 0 (cs := [vI t509, vI t511, vI t513, vI t515]) rfl rfl rfl rfl rfl rfl rfl rfl rfl ?_
 refine t_keep [2, 6, 7, 8, 9, 15] (σ' := [(2, vI t2), (6, vP b495 0), (7, vP b506 0), (8, vP b507 0), (9, vP b508 0), (15, vI 3)]) (by kernel_rfl) ?_
 refine t_end ?_
 show W _ _ _ _ _ _ _
 refine w_reg fun all => ?_
 refine t_qz 2 [2, 6, 7, 8, 9, 15] (σ' := [(2, vI t2), (6, vP b495 0), (7, vP b506 0), (8, vP b507 0), (9, vP b508 0), (15, vI 4)]) (by kernel_rfl) ?_
 refine t_end ?_
 show WL _ _ _ _ _ _ _ _
 refine wl_step ?_
 refine w_seq ?_
 refine w_reg fun all => ?_
 refine t_qz 1 [2, 6, 7, 8, 9, 15, 16] (σ' := [(2, vI t2), (6, vP b495 0), (7, vP b506 0), (8, vP b507 0), (9, vP b508 0), (15, vI 4), (16, vB false)]) (by kernel_rfl) ?_
 refine t_end ?_
 show W _ _ _ _ _ _ _
 refine w_seq ?_
 refine w_cond rfl (fun c_ => by cases c_) (fun _ => ?_)
 show W _ _ _ _ _ _ _
 refine w_exit ?_
 show W _ _ _ _ _ _ _
 refine w_seq ?_
 refine w_reg fun all => ?_
 refine t_v (.ldn rfl rfl rfl (.at 0 rfl rfl)) ?_
 refine t_sti 3 (cs := [vI t509, vI t511, vI t513, vI t515]) rfl rfl rfl rfl rfl rfl rfl rfl rfl ?_
 refine t_keep [6] (σ' := [(6, vP b495 0)]) (by kernel_rfl) ?_
 refine t_end ?_
 show W _ _ _ _ _ _ _
 refine w_ret ?_
 simp only [Option.some.injEq, Prod.mk.injEq] at e
 obtain ⟨rfl, rfl, rfl, rfl⟩ := e
 exact ⟨[.agg #[vI t509, vI t511, vI t513, vI t515]], [], S, ⟨⟨_, _, _, rfl, .at 3 rfl rfl, rfl⟩, trivial⟩, VS.none, rfl, rfl, rfl⟩

/-- paint.At -/
def c50 : C :=
  (.seq (.reg [oq 3 (.box (.tmp 0)),
     oq 4 (.box (.tmp 1)),
     oq 5 (.box (.tmp 2)),
     oq 6 (.new [(vI 0), (vI 0), (vI 0), (vI 0)])])
  (.seq (.reg [oq 8 (.mkf 60 [(.tmp 4)]),
     oq 7 (.mv (.tmp 8))])
  (.seq (.seq (.reg [oq 9 (.pad 0 (.tmp 3)),
      oq 10 (.ld none (.tmp 9)),
      oq 11 (.bin .eql (.tmp 10) (.const (vI 0)))])
   (.cond (.tmp 11)
    (.reg [oq 12 (.pad 1 (.tmp 3)),
       oq 13 (.ld none (.tmp 12)),
       oq 14 (.pad 2 (.tmp 3)),
       ⟨none, .st 1 (.tmp 14) (.tmp 13), none⟩])
    .skip))
  (.seq (.drw [oq 15 (.mv (.tmp 7)),
     oq 16 (.pad 1 (.tmp 3)),
     oq 17 (.ld none (.tmp 16)),
     oq 18 (.clo (.tmp 15) [(.tmp 17)]),
     oq 19 (.mv (.tmp 7)),
     oq 20 (.pad 2 (.tmp 3)),
     oq 21 (.ld none (.tmp 20)),
     oq 22 (.clo (.tmp 19) [(.tmp 21)]),
     oq 23 (.ld (some 7) (.tmp 3)),
     oq 24 (.ld (some 2) (.tmp 5)),
     oq 25 (.call 62 [(.tmp 23), (.tmp 24)]),
     oq 26 (.call 61 [(.tmp 18), (.tmp 22), (.tmp 25)]),
     ⟨none, .st 4 (.tmp 6) (.tmp 26), none⟩] [[], [], [1], [0, 2], [], [], [5], [4, 6, 3], [], [], [8, 9, 7], [3, 7, 10, 10], [11, 11, 0, 1, 2, 3, 4, 5, 6, 7, 8, 9, 10, 11]])
  .ret))))
def paint_At_v1.f (k : Nat) (p0_3 : Int) (p0_4 : Int) (p0_5 : Int) (p0_6 : Int) (at2_0 : Int) (at2_1 : Int) (m0_0 : Int) (m0_1 : Int) (m0_2 : Int) (m0_3 : Int) : Option (Int × Int × Int × Int) := (paint_At_1_v1.f 0 m0_0 m0_1 m0_2 m0_3).bind fun (t434, t435, t436, t437) => ((paint_At_1_v1.f 0 m0_0 m0_1 m0_2 m0_3).bind fun (t439, t440, t441, t442) => ((paint_Part.f k 0 0 0 p0_3 p0_4 p0_5 p0_6 at2_0 at2_1).bind fun t444 => ((paint_Mix.f t434 t435 t436 t437 t439 t440 t441 t442 t444).bind fun (t446, t447, t448, t449) => (some (t446, t447, t448, t449)))))
theorem paint_At_v1.ok {S : Seal} {B0 : Nat} {k : Nat} {p0_3 : Int} {p0_4 : Int} {p0_5 : Int} {p0_6 : Int} {at2_0 : Int} {at2_1 : Int} {m0_0 : Int} {m0_1 : Int} {m0_2 : Int} {m0_3 : Int} {r0_ : Int} {r1_ : Int} {r2_ : Int} {r3_ : Int}{A_ : Int → Addr} (hE_ : EO gsE S A_ 157) (e : paint_At_v1.f k p0_3 p0_4 p0_5 p0_6 at2_0 at2_1 m0_0 m0_1 m0_2 m0_3 = some (r0_, r1_, r2_, r3_)) :
    Cal Tryd.prog 50 [.agg #[vI 0, vI 0, vI 0, vI p0_3, vI p0_4, vI p0_5, vI p0_6], .slice (some ⟨B0, 0, none⟩) 1 1, .agg #[vI at2_0, vI at2_1]] ([⟨B0, [.int .u8 m0_0, .int .u8 m0_1, .int .u8 m0_2, .int .u8 m0_3], 4⟩] : List Own) S fun v H' S' => v = .agg #[vI r0_, vI r1_, vI r2_, vI r3_] ∧ H' = ([⟨B0, [.int .u8 m0_0, .int .u8 m0_1, .int .u8 m0_2, .int .u8 m0_3], 4⟩] : List Own) ∧ S' = S := by
 unfold paint_At_v1.f at e
 refine cal_of (c := c50) (N := 27) Tryd.func50 rfl rfl (by kernel_rfl) (rs := [.cn 4 6]) (by kernel_rfl) (Nat.le_of_ble_eq_true rfl) ?_
 unfold c50
 refine w_seq ?_
 refine w_reg fun all => ?_
 refine t_a (.box rfl rfl rfl) fun b430 fb430 sb430 => ?_
 refine t_a (.box rfl rfl rfl) fun b431 fb431 sb431 => ?_
 refine t_a (.box rfl rfl rfl) fun b432 fb432 sb432 => ?_
 refine t_a (.new rfl rfl) fun b433 fb433 sb433 => ?_
 refine t_keep [3, 4, 5, 6] (σ' := [(3, vP b430 0), (4, vP b431 0), (5, vP b432 0), (6, vP b433 0)]) (by kernel_rfl) ?_
 refine t_end ?_
 show W _ _ _ _ _ _ _
 refine w_seq ?_
 refine w_reg fun all => ?_
 refine t_qz 2 [3, 5, 6, 7] (σ' := [(3, vP b430 0), (5, vP b432 0), (6, vP b433 0), (7, .func (.func 60) #[] #[vP b431 0])]) (by kernel_rfl) ?_
 refine t_end ?_
 show W _ _ _ _ _ _ _
 refine w_seq ?_
 refine w_seq ?_
 refine w_reg fun all => ?_
 refine t_qz 1 [3, 5, 6, 7, 9] (σ' := [(3, vP b430 0), (5, vP b432 0), (6, vP b433 0), (7, .func (.func 60) #[] #[vP b431 0]), (9, vP b430 0)]) (by kernel_rfl) ?_
 refine t_v (.ld1 rfl rfl rfl (.at 3 rfl rfl)) ?_
 refine t_qz 1 [3, 5, 6, 7, 11] (σ' := [(3, vP b430 0), (5, vP b432 0), (6, vP b433 0), (7, .func (.func 60) #[] #[vP b431 0]), (11, vB true)]) (by kernel_rfl) ?_
 refine t_end ?_
 show W _ _ _ _ _ _ _
 refine w_cond rfl (fun _ => ?_) (fun c_ => by cases c_)
 show W _ _ _ _ _ _ _
 refine w_reg fun all => ?_
 refine t_qz 1 [3, 5, 6, 7, 12] (σ' := [(3, vP b430 0), (5, vP b432 0), (6, vP b433 0), (7, .func (.func 60) #[] #[vP b431 0]), (12, vP b430 1)]) (by kernel_rfl) ?_
 refine t_v (.ld1 rfl rfl rfl (.at 3 rfl rfl)) ?_
 refine t_qz 1 [3, 5, 6, 7, 13, 14] (σ' := [(3, vP b430 0), (5, vP b432 0), (6, vP b433 0), (7, .func (.func 60) #[] #[vP b431 0]), (13, vI 0), (14, vP b430 2)]) (by kernel_rfl) ?_
 refine t_sti 3 (cs := [vI 0, vI 0, vI 0, vI p0_3, vI p0_4, vI p0_5, vI p0_6]) rfl rfl rfl rfl rfl rfl rfl rfl rfl ?_
 refine t_keep [3, 5, 6, 7] (σ' := [(3, vP b430 0), (5, vP b432 0), (6, vP b433 0), (7, .func (.func 60) #[] #[vP b431 0])]) (by kernel_rfl) ?_
 refine t_end ?_
 show W _ _ _ _ _ _ _
 refine w_seq ?_
 obtain ⟨⟨t434, t435, t436, t437⟩, h438, e⟩ := bind_of e
 try dsimp only at e
 obtain ⟨⟨t439, t440, t441, t442⟩, h443, e⟩ := bind_of e
 try dsimp only at e
 obtain ⟨t444, h445, e⟩ := bind_of e
 obtain ⟨⟨t446, t447, t448, t449⟩, h450, e⟩ := bind_of e
 try dsimp only at e
 refine w_drwE mixed 12 [.v (.func (.func 60) #[] #[vP b431 0]), .v (vP b430 1), .v (vI 0), .v (.agg #[.int .u8 t434, .int .u8 t435, .int .u8 t436, .int .u8 t437]), .v (.func (.func 60) #[] #[vP b431 0]), .v (vP b430 2), .v (vI 0), .v (.agg #[.int .u8 t439, .int .u8 t440, .int .u8 t441, .int .u8 t442]), .v (.agg #[vI 0, vI 0, vI 0, vI p0_3, vI p0_4, vI p0_5, vI p0_6]), .v (.agg #[vI at2_0, vI at2_1]), .v (vI t444), .v (.agg #[vI t446, vI t447, vI t448, vI t449])] (by kernel_rfl) ?_ ?_
 ·refine DI.sq 2 (by kernel_rfl) rfl ?_
  refine .cons (.ld1 rfl rfl rfl (.at 3 rfl rfl)) ?_
  refine .cons (.clor (vs := [vI 0]) (caps := #[vP b431 0]) (A := ([⟨b431, [.slice (some ⟨B0, 0, none⟩) 1 1], 1⟩, ⟨B0, [.int .u8 m0_0, .int .u8 m0_1, .int .u8 m0_2, .int .u8 m0_3], 4⟩] : List Own)) (F0 := ([⟨b433, [vI 0, vI 0, vI 0, vI 0], 4⟩, ⟨b432, [vI at2_0, vI at2_1], 2⟩, ⟨b430, [vI 0, vI 0, vI 0, vI p0_3, vI p0_4, vI p0_5, vI p0_6], 7⟩] : List Own)) rfl rfl rfl (by kernel_rfl) (by kernel_rfl) (sel_perm (is := [2, 3]) (by kernel_rfl)) (paint_At_1_v1.ok hE_ h438)) ?_
  refine DI.sq 2 (by kernel_rfl) rfl ?_
  refine .cons (.ld1 rfl rfl rfl (.at 3 rfl rfl)) ?_
  refine .cons (.clor (vs := [vI 0]) (caps := #[vP b431 0]) (A := ([⟨b431, [.slice (some ⟨B0, 0, none⟩) 1 1], 1⟩, ⟨B0, [.int .u8 m0_0, .int .u8 m0_1, .int .u8 m0_2, .int .u8 m0_3], 4⟩] : List Own)) (F0 := ([⟨b433, [vI 0, vI 0, vI 0, vI 0], 4⟩, ⟨b432, [vI at2_0, vI at2_1], 2⟩, ⟨b430, [vI 0, vI 0, vI 0, vI p0_3, vI p0_4, vI p0_5, vI p0_6], 7⟩] : List Own)) rfl rfl rfl (by kernel_rfl) (by kernel_rfl) (sel_perm (is := [2, 3]) (by kernel_rfl)) (paint_At_1_v1.ok hE_ h443)) ?_
  refine .cons (.ldn rfl rfl rfl (.at 3 rfl rfl)) ?_
  refine .cons (.ldn rfl rfl rfl (.at 1 rfl rfl)) ?_
  refine .cons (.call (vs := [.agg #[vI 0, vI 0, vI 0, vI p0_3, vI p0_4, vI p0_5, vI p0_6], .agg #[vI at2_0, vI at2_1]]) rfl rfl (by kernel_rfl) (paint_Part.ok hE_ h445)) ?_
  refine .cons (.call (vs := [.agg #[.int .u8 t434, .int .u8 t435, .int .u8 t436, .int .u8 t437], .agg #[.int .u8 t439, .int .u8 t440, .int .u8 t441, .int .u8 t442], vI t444]) rfl rfl (by kernel_rfl) (paint_Mix.ok hE_ h450)) ?_
  exact .nil
 refine fk_q 12 [6, 26] (σ' := [(6, vP b433 0), (26, .agg #[vI t446, vI t447, vI t448, vI t449])]) t_more (by kernel_rfl) ?_
 refine fk_nil fun all => ?_
 refine t_sti 0 (cs := [vI t446, vI t447, vI t448, vI t449]) rfl rfl rfl rfl rfl rfl rfl rfl rfl ?_
 refine t_keep [6] (σ' := [(6, vP b433 0)]) (by kernel_rfl) ?_
 refine t_end ?_
 show W _ _ _ _ _ _ _
 refine w_ret ?_
 simp only [Option.some.injEq, Prod.mk.injEq] at e
 obtain ⟨rfl, rfl, rfl, rfl⟩ := e
 exact ⟨[.agg #[vI t446, vI t447, vI t448, vI t449]], ([⟨B0, [.int .u8 m0_0, .int .u8 m0_1, .int .u8 m0_2, .int .u8 m0_3], 4⟩] : List Own), S, ⟨⟨_, _, _, rfl, .at 0 rfl rfl, rfl⟩, trivial⟩, VS.sel [4] (by kernel_rfl), rfl, rfl, rfl⟩

/-- blend.Over -/
def c49 : C :=
  (.seq (.reg [oq 3 (.box (.tmp 0)),
     oq 4 (.box (.tmp 1)),
     oq 6 (.new [(vI 0), (vI 0), (vI 0), (vI 0)])])
  (.seq (.reg [oq 10 (.ixa 1 4 (.tmp 4) (.const (vI 3))),
     oq 11 (.ld none (.tmp 10)),
     oq 12 (.mv (.tmp 2)),
     oq 13 (.bin .mul (.tmp 11) (.tmp 12)),
     oq 14 (.call 51 [(.tmp 13), (.const (vI 64))]),
     oq 7 (.mv (.tmp 14))])
  (.seq (.reg [oq 15 (.ixa 1 4 (.tmp 4) (.const (vI 3))),
     ⟨none, .st 1 (.tmp 15) (.const (vI 65535)), none⟩])
  (.seq (.reg [oq 8 (.new [(vI 0), (vI 0), (vI 0), (vI 0)])])
  (.seq (.seq (.reg [oq 16 (.mv (.const (vI 0)))])
   (.block 0 (.loop (.seq (.reg [oq 17 (.bin .lss (.tmp 16) (.const (vI 4)))])
     (.seq (.cond (.tmp 17)
       .skip
       (.exit 0))
     (.seq (.block 1 (.seq (.reg [oq 18 (.mv (.tmp 16)),
          oq 9 (.mv (.tmp 18))])
       (.drw [oq 19 (.mv (.tmp 9)),
         oq 20 (.mv (.tmp 9)),
         oq 21 (.ixa 1 4 (.tmp 4) (.tmp 20)),
         oq 22 (.ld none (.tmp 21)),
         oq 23 (.mv (.tmp 7)),
         oq 24 (.bin .mul (.tmp 22) (.tmp 23)),
         oq 25 (.call 51 [(.tmp 24), (.const (vI 65535))]),
         oq 26 (.mv (.tmp 9)),
         oq 27 (.ixa 1 4 (.tmp 3) (.tmp 26)),
         oq 28 (.ld none (.tmp 27)),
         oq 29 (.mv (.tmp 7)),
         oq 30 (.bin .sub (.const (vI 65535)) (.tmp 29)),
         oq 31 (.bin .mul (.tmp 28) (.tmp 30)),
         oq 32 (.call 51 [(.tmp 31), (.const (vI 65535))]),
         oq 33 (.bin .add (.tmp 25) (.tmp 32)),
         oq 34 (.mm false [(.tmp 33), (.const (vI 65535))]),
         oq 35 (.ixa 1 4 (.tmp 8) (.tmp 19)),
         ⟨none, .st 1 (.tmp 35) (.tmp 34), none⟩] [[], [], [1], [2], [], [3, 4], [5], [], [7], [8], [], [10], [9, 11], [12, 6], [6, 13], [14], [0, 0, 1, 2, 3, 4, 5, 6, 7, 8, 9, 10, 11, 12, 13, 14, 15], [16, 15, 13, 0, 1, 2, 3, 4, 5, 6, 7, 8, 9, 10, 11, 12, 13, 14, 15]])))
     (.reg [oq 36 (.bin .add (.tmp 16) (.const (vI 1))),
       oq 16 (.mv (.tmp 36))])))))))
  (.seq (.reg [oq 37 (.ld (some 4) (.tmp 8)),
     ⟨none, .st 4 (.tmp 6) (.tmp 37), none⟩])
  .ret))))))
def blend_Over.f (under0_0 : Int) (under0_1 : Int) (under0_2 : Int) (under0_3 : Int) (c1_0 : Int) (c1_1 : Int) (c1_2 : Int) (c1_3 : Int) (cover2 : Int) : Option (Int × Int × Int × Int) := (fixed_Round.f (wr64 (c1_3 * cover2)) 64).bind fun t459 => ((fixed_Round.f (wr64 (c1_0 * t459)) 65535).bind fun t462 => ((fixed_Round.f (wr64 (under0_0 * (wr64 (65535 - t459)))) 65535).bind fun t464 => ((fixed_Round.f (wr64 (c1_1 * t459)) 65535).bind fun t466 => ((fixed_Round.f (wr64 (under0_1 * (wr64 (65535 - t459)))) 65535).bind fun t468 => ((fixed_Round.f (wr64 (c1_2 * t459)) 65535).bind fun t470 => ((fixed_Round.f (wr64 (under0_2 * (wr64 (65535 - t459)))) 65535).bind fun t472 => ((fixed_Round.f (wr64 (65535 * t459)) 65535).bind fun t474 => ((fixed_Round.f (wr64 (under0_3 * (wr64 (65535 - t459)))) 65535).bind fun t476 => (some (mn (wr64 (t462 + t464)) 65535, mn (wr64 (t466 + t468)) 65535, mn (wr64 (t470 + t472)) 65535, mn (wr64 (t474 + t476)) 65535))))))))))
theorem blend_Over.ok {S : Seal} {under0_0 : Int} {under0_1 : Int} {under0_2 : Int} {under0_3 : Int} {c1_0 : Int} {c1_1 : Int} {c1_2 : Int} {c1_3 : Int} {cover2 : Int} {r0_ : Int} {r1_ : Int} {r2_ : Int} {r3_ : Int}{A_ : Int → Addr} (hE_ : EO gsE S A_ 157) (e : blend_Over.f under0_0 under0_1 under0_2 under0_3 c1_0 c1_1 c1_2 c1_3 cover2 = some (r0_, r1_, r2_, r3_)) :
    Cal Tryd.prog 49 [.agg #[vI under0_0, vI under0_1, vI under0_2, vI under0_3], .agg #[vI c1_0, vI c1_1, vI c1_2, vI c1_3], vI cover2] [] S fun v H' S' => v = .agg #[vI r0_, vI r1_, vI r2_, vI r3_] ∧ H' = [] ∧ S' = S := by
 unfold blend_Over.f at e
 refine cal_of (c := c49) (N := 38) Tryd.func49 rfl rfl (by kernel_rfl) (rs := [.cn 4 6]) (by kernel_rfl) (Nat.le_of_ble_eq_true rfl) ?_
 unfold c49
 refine w_seq ?_
 refine w_reg fun all => ?_
 refine t_a (.box rfl rfl rfl) fun b456 fb456 sb456 => ?_
 refine t_a (.box rfl rfl rfl) fun b457 fb457 sb457 => ?_
 refine t_a (.new rfl rfl) fun b458 fb458 sb458 => ?_
 refine t_keep [2, 3, 4, 6] (σ' := [(2, vI cover2), (3, vP b456 0), (4, vP b457 0), (6, vP b458 0)]) (by kernel_rfl) ?_
 refine t_end ?_
 show W _ _ _ _ _ _ _
 refine w_seq ?_
 refine w_reg fun all => ?_
 refine t_qz 1 [2, 3, 4, 6, 10] (σ' := [(2, vI cover2), (3, vP b456 0), (4, vP b457 0), (6, vP b458 0), (10, vP b457 3)]) (by kernel_rfl) ?_
 refine t_v (.ld1 rfl rfl rfl (.at 1 rfl rfl)) ?_
 obtain ⟨t459, h460, e⟩ := bind_of e
 refine t_qz 2 [3, 4, 6, 13] (σ' := [(3, vP b456 0), (4, vP b457 0), (6, vP b458 0), (13, vI (wr64 (c1_3 * cover2)))]) (by kernel_rfl) ?_
 refine t_v (.call (vs := [vI (wr64 (c1_3 * cover2)), vI 64]) rfl rfl (by kernel_rfl) (fixed_Round.ok hE_ h460)) ?_
 refine t_qz 1 [3, 4, 6, 7] (σ' := [(3, vP b456 0), (4, vP b457 0), (6, vP b458 0), (7, vI t459)]) (by kernel_rfl) ?_
 refine t_end ?_
 show W _ _ _ _ _ _ _
 refine w_seq ?_
 refine w_reg fun all => ?_
 refine t_qz 1 [3, 4, 6, 7, 15] (σ' := [(3, vP b456 0), (4, vP b457 0), (6, vP b458 0), (7, vI t459), (15, vP b457 3)]) (by kernel_rfl) ?_
 refine t_sti 1 (cs := [vI c1_0, vI c1_1, vI c1_2, vI 65535]) rfl rfl rfl rfl rfl rfl rfl rfl rfl ?_
 refine t_keep [3, 4, 6, 7] (σ' := [(3, vP b456 0), (4, vP b457 0), (6, vP b458 0), (7, vI t459)]) (by kernel_rfl) ?_
 refine t_end ?_
 show W _ _ _ _ _ _ _
 refine w_seq ?_
 refine w_reg fun all => ?_
 refine t_a (.new rfl rfl) fun b461 fb461 sb461 => ?_
 refine t_keep [3, 4, 6, 7, 8] (σ' := [(3, vP b456 0), (4, vP b457 0), (6, vP b458 0), (7, vI t459), (8, vP b461 0)]) (by kernel_rfl) ?_
 refine t_end ?_
 show W _ _ _ _ _ _ _
 refine w_seq ?_
 refine w_seq ?_
 refine w_reg fun all => ?_
 refine t_qz 1 [3, 4, 6, 7, 8, 16] (σ' := [(3, vP b456 0), (4, vP b457 0), (6, vP b458 0), (7, vI t459), (8, vP b461 0), (16, vI 0)]) (by kernel_rfl) ?_
 refine t_end ?_
 show W _ _ _ _ _ _ _
 refine w_block ?_
 refine w_lun 15 ?_
 refine wl_step ?_
 refine w_seq ?_
 refine w_reg fun all => ?_
 refine t_qz 1 [3, 4, 6, 7, 8, 16, 17] (σ' := [(3, vP b456 0), (4, vP b457 0), (6, vP b458 0), (7, vI t459), (8, vP b461 0), (16, vI 0), (17, vB true)]) (by kernel_rfl) ?_
 refine t_end ?_
 show W _ _ _ _ _ _ _
 refine w_seq ?_
 refine w_cond rfl (fun _ => ?_) (fun c_ => by cases c_)
 show W _ _ _ _ _ _ _
 refine w_skip ?_
 show W _ _ _ _ _ _ _
 refine w_seq ?_
 refine w_block ?_
 refine w_seq ?_
 refine w_reg fun all => ?_
 refine t_qz 2 [3, 4, 6, 7, 8, 9, 16] (σ' := [(3, vP b456 0), (4, vP b457 0), (6, vP b458 0), (7, vI t459), (8, vP b461 0), (9, vI 0), (16, vI 0)]) (by kernel_rfl) ?_
 refine t_end ?_
 show W _ _ _ _ _ _ _
 obtain ⟨t462, h463, e⟩ := bind_of e
 obtain ⟨t464, h465, e⟩ := bind_of e
 refine w_drwE mixed 17 [.v (vI 0), .v (vI 0), .v (vP b457 0), .v (vI c1_0), .v (vI t459), .v (vI (wr64 (c1_0 * t459))), .v (vI t462), .v (vI 0), .v (vP b456 0), .v (vI under0_0), .v (vI t459), .v (vI (wr64 (65535 - t459))), .v (vI (wr64 (under0_0 * (wr64 (65535 - t459))))), .v (vI t464), .v (vI (wr64 (t462 + t464))), .v (vI (mn (wr64 (t462 + t464)) 65535)), .v (vP b461 0)] (by kernel_rfl) ?_ ?_
 ·refine DI.sq 3 (by kernel_rfl) rfl ?_
  refine .cons (.ld1 rfl rfl rfl (.at 2 rfl rfl)) ?_
  refine DI.sq 2 (by kernel_rfl) rfl ?_
  refine .cons (.call (vs := [vI (wr64 (c1_0 * t459)), vI 65535]) rfl rfl (by kernel_rfl) (fixed_Round.ok hE_ h463)) ?_
  refine DI.sq 2 (by kernel_rfl) rfl ?_
  refine .cons (.ld1 rfl rfl rfl (.at 3 rfl rfl)) ?_
  refine DI.sq 3 (by kernel_rfl) rfl ?_
  refine .cons (.call (vs := [vI (wr64 (under0_0 * (wr64 (65535 - t459)))), vI 65535]) rfl rfl (by kernel_rfl) (fixed_Round.ok hE_ h465)) ?_
  refine DI.sq 3 (by kernel_rfl) rfl ?_
  exact .nil
 refine fk_q 17 [3, 4, 6, 7, 8, 16, 34, 35] (σ' := [(3, vP b456 0), (4, vP b457 0), (6, vP b458 0), (7, vI t459), (8, vP b461 0), (16, vI 0), (34, vI (mn (wr64 (t462 + t464)) 65535)), (35, vP b461 0)]) t_more (by kernel_rfl) ?_
 refine fk_nil fun all => ?_
 refine t_sti 0 (cs := [vI (mn (wr64 (t462 + t464)) 65535), vI 0, vI 0, vI 0]) rfl rfl rfl rfl rfl rfl rfl rfl rfl ?_
 refine t_keep [3, 4, 6, 7, 8, 16] (σ' := [(3, vP b456 0), (4, vP b457 0), (6, vP b458 0), (7, vI t459), (8, vP b461 0), (16, vI 0)]) (by kernel_rfl) ?_
 refine t_end ?_
 show W _ _ _ _ _ _ _
 refine w_reg fun all => ?_
 refine t_qz 2 [3, 4, 6, 7, 8, 16] (σ' := [(3, vP b456 0), (4, vP b457 0), (6, vP b458 0), (7, vI t459), (8, vP b461 0), (16, vI 1)]) (by kernel_rfl) ?_
 refine t_end ?_
 show WL _ _ _ _ _ _ _ _
 refine wl_step ?_
 refine w_seq ?_
 refine w_reg fun all => ?_
 refine t_qz 1 [3, 4, 6, 7, 8, 16, 17] (σ' := [(3, vP b456 0), (4, vP b457 0), (6, vP b458 0), (7, vI t459), (8, vP b461 0), (16, vI 1), (17, vB true)]) (by kernel_rfl) ?_
 refine t_end ?_
 show W _ _ _ _ _ _ _
 refine w_seq ?_
 refine w_cond rfl (fun _ => ?_) (fun c_ => by cases c_)
 show W _ _ _ _ _ _ _
 refine w_skip ?_
 show W _ _ _ _ _ _ _
 refine w_seq ?_
 refine w_block ?_
 refine w_seq ?_
 refine w_reg fun all => ?_
 refine t_qz 2 [3, 4, 6, 7, 8, 9, 16] (σ' := [(3, vP b456 0), (4, vP b457 0), (6, vP b458 0), (7, vI t459), (8, vP b461 0), (9, vI 1), (16, vI 1)]) (by kernel_rfl) ?_
 refine t_end ?_
 show W _ _ _ _ _ _ _
 obtain ⟨t466, h467, e⟩ := bind_of e
 obtain ⟨t468, h469, e⟩ := bind_of e
 refine w_drwE mixed 17 [.v (vI 1), .v (vI 1), .v (vP b457 1), .v (vI c1_1), .v (vI t459), .v (vI (wr64 (c1_1 * t459))), .v (vI t466), .v (vI 1), .v (vP b456 1), .v (vI under0_1), .v (vI t459), .v (vI (wr64 (65535 - t459))), .v (vI (wr64 (under0_1 * (wr64 (65535 - t459))))), .v (vI t468), .v (vI (wr64 (t466 + t468))), .v (vI (mn (wr64 (t466 + t468)) 65535)), .v (vP b461 1)] (by kernel_rfl) ?_ ?_
 ·refine DI.sq 3 (by kernel_rfl) rfl ?_
  refine .cons (.ld1 rfl rfl rfl (.at 2 rfl rfl)) ?_
  refine DI.sq 2 (by kernel_rfl) rfl ?_
  refine .cons (.call (vs := [vI (wr64 (c1_1 * t459)), vI 65535]) rfl rfl (by kernel_rfl) (fixed_Round.ok hE_ h467)) ?_
  refine DI.sq 2 (by kernel_rfl) rfl ?_
  refine .cons (.ld1 rfl rfl rfl (.at 3 rfl rfl)) ?_
  refine DI.sq 3 (by kernel_rfl) rfl ?_
  refine .cons (.call (vs := [vI (wr64 (under0_1 * (wr64 (65535 - t459)))), vI 65535]) rfl rfl (by kernel_rfl) (fixed_Round.ok hE_ h469)) ?_
  refine DI.sq 3 (by kernel_rfl) rfl ?_
  exact .nil
 refine fk_q 17 [3, 4, 6, 7, 8, 16, 34, 35] (σ' := [(3, vP b456 0), (4, vP b457 0), (6, vP b458 0), (7, vI t459), (8, vP b461 0), (16, vI 1), (34, vI (mn (wr64 (t466 + t468)) 65535)), (35, vP b461 1)]) t_more (by kernel_rfl) ?_
 refine fk_nil fun all => ?_
 refine t_sti 0 (cs := [vI (mn (wr64 (t462 + t464)) 65535), vI (mn (wr64 (t466 + t468)) 65535), vI 0, vI 0]) rfl rfl rfl rfl rfl rfl rfl rfl rfl ?_
 refine t_keep [3, 4, 6, 7, 8, 16] (σ' := [(3, vP b456 0), (4, vP b457 0), (6, vP b458 0), (7, vI t459), (8, vP b461 0), (16, vI 1)]) (by kernel_rfl) ?_
 refine t_end ?_
 show W _ _ _ _ _ _ _
 refine w_reg fun all => ?_
 refine t_qz 2 [3, 4, 6, 7, 8, 16] (σ' := [(3, vP b456 0), (4, vP b457 0), (6, vP b458 0), (7, vI t459), (8, vP b461 0), (16, vI 2)]) (by kernel_rfl) ?_
 refine t_end ?_
 show WL _ _ _ _ _ _ _ _
 refine wl_step ?_
 refine w_seq ?_
 refine w_reg fun all => ?_
 refine t_qz 1 [3, 4, 6, 7, 8, 16, 17] (σ' := [(3, vP b456 0), (4, vP b457 0), (6, vP b458 0), (7, vI t459), (8, vP b461 0), (16, vI 2), (17, vB true)]) (by kernel_rfl) ?_
 refine t_end ?_
 show W _ _ _ _ _ _ _
 refine w_seq ?_
 refine w_cond rfl (fun _ => ?_) (fun c_ => by cases c_)
 show W _ _ _ _ _ _ _
 refine w_skip ?_
 show W _ _ _ _ _ _ _
 refine w_seq ?_
 refine w_block ?_
 refine w_seq ?_
 refine w_reg fun all => ?_
 refine t_qz 2 [3, 4, 6, 7, 8, 9, 16] (σ' := [(3, vP b456 0), (4, vP b457 0), (6, vP b458 0), (7, vI t459), (8, vP b461 0), (9, vI 2), (16, vI 2)]) (by kernel_rfl) ?_
 refine t_end ?_
 show W _ _ _ _ _ _ _
 obtain ⟨t470, h471, e⟩ := bind_of e
 obtain ⟨t472, h473, e⟩ := bind_of e
 refine w_drwE mixed 17 [.v (vI 2), .v (vI 2), .v (vP b457 2), .v (vI c1_2), .v (vI t459), .v (vI (wr64 (c1_2 * t459))), .v (vI t470), .v (vI 2), .v (vP b456 2), .v (vI under0_2), .v (vI t459), .v (vI (wr64 (65535 - t459))), .v (vI (wr64 (under0_2 * (wr64 (65535 - t459))))), .v (vI t472), .v (vI (wr64 (t470 + t472))), .v (vI (mn (wr64 (t470 + t472)) 65535)), .v (vP b461 2)] (by kernel_rfl) ?_ ?_
 ·refine DI.sq 3 (by kernel_rfl) rfl ?_
  refine .cons (.ld1 rfl rfl rfl (.at 2 rfl rfl)) ?_
  refine DI.sq 2 (by kernel_rfl) rfl ?_
  refine .cons (.call (vs := [vI (wr64 (c1_2 * t459)), vI 65535]) rfl rfl (by kernel_rfl) (fixed_Round.ok hE_ h471)) ?_
  refine DI.sq 2 (by kernel_rfl) rfl ?_
  refine .cons (.ld1 rfl rfl rfl (.at 3 rfl rfl)) ?_
  refine DI.sq 3 (by kernel_rfl) rfl ?_
  refine .cons (.call (vs := [vI (wr64 (under0_2 * (wr64 (65535 - t459)))), vI 65535]) rfl rfl (by kernel_rfl) (fixed_Round.ok hE_ h473)) ?_
  refine DI.sq 3 (by kernel_rfl) rfl ?_
  exact .nil
 refine fk_q 17 [3, 4, 6, 7, 8, 16, 34, 35] (σ' := [(3, vP b456 0), (4, vP b457 0), (6, vP b458 0), (7, vI t459), (8, vP b461 0), (16, vI 2), (34, vI (mn (wr64 (t470 + t472)) 65535)), (35, vP b461 2)]) t_more (by kernel_rfl) ?_
 refine fk_nil fun all => ?_
 refine t_sti 0 (cs := [vI (mn (wr64 (t462 + t464)) 65535), vI (mn (wr64 (t466 + t468)) 65535), vI (mn (wr64 (t470 + t472)) 65535), vI 0]) rfl rfl rfl rfl rfl rfl rfl rfl rfl ?_
 refine t_keep [3, 4, 6, 7, 8, 16] (σ' := [(3, vP b456 0), (4, vP b457 0), (6, vP b458 0), (7, vI t459), (8, vP b461 0), (16, vI 2)]) (by kernel_rfl) ?_
 refine t_end ?_
 show W _ _ _ _ _ _ _
 refine w_reg fun all => ?_
 refine t_qz 2 [3, 4, 6, 7, 8, 16] (σ' := [(3, vP b456 0), (4, vP b457 0), (6, vP b458 0), (7, vI t459), (8, vP b461 0), (16, vI 3)]) (by kernel_rfl) ?_
 refine t_end ?_
 show WL _ _ _ _ _ _ _ _
 refine wl_step ?_
 refine w_seq ?_
 refine w_reg fun all => ?_
 refine t_qz 1 [3, 4, 6, 7, 8, 16, 17] (σ' := [(3, vP b456 0), (4, vP b457 0), (6, vP b458 0), (7, vI t459), (8, vP b461 0), (16, vI 3), (17, vB true)]) (by kernel_rfl) ?_
 refine t_end ?_
 show W _ _ _ _ _ _ _
 refine w_seq ?_
 refine w_cond rfl (fun _ => ?_) (fun c_ => by cases c_)
 show W _ _ _ _ _ _ _
 refine w_skip ?_
 show W _ _ _ _ _ _ _
 refine w_seq ?_
 refine w_block ?_
 refine w_seq ?_
 refine w_reg fun all => ?_
 refine t_qz 2 [3, 4, 6, 7, 8, 9, 16] (σ' := [(3, vP b456 0), (4, vP b457 0), (6, vP b458 0), (7, vI t459), (8, vP b461 0), (9, vI 3), (16, vI 3)]) (by kernel_rfl) ?_
 refine t_end ?_
 show W _ _ _ _ _ _ _
 obtain ⟨t474, h475, e⟩ := bind_of e
 obtain ⟨t476, h477, e⟩ := bind_of e
 refine w_drwE mixed 17 [.v (vI 3), .v (vI 3), .v (vP b457 3), .v (vI 65535), .v (vI t459), .v (vI (wr64 (65535 * t459))), .v (vI t474), .v (vI 3), .v (vP b456 3), .v (vI under0_3), .v (vI t459), .v (vI (wr64 (65535 - t459))), .v (vI (wr64 (under0_3 * (wr64 (65535 - t459))))), .v (vI t476), .v (vI (wr64 (t474 + t476))), .v (vI (mn (wr64 (t474 + t476)) 65535)), .v (vP b461 3)] (by kernel_rfl) ?_ ?_
 ·refine DI.sq 3 (by kernel_rfl) rfl ?_
  refine .cons (.ld1 rfl rfl rfl (.at 2 rfl rfl)) ?_
  refine DI.sq 2 (by kernel_rfl) rfl ?_
  refine .cons (.call (vs := [vI (wr64 (65535 * t459)), vI 65535]) rfl rfl (by kernel_rfl) (fixed_Round.ok hE_ h475)) ?_
  refine DI.sq 2 (by kernel_rfl) rfl ?_
  refine .cons (.ld1 rfl rfl rfl (.at 3 rfl rfl)) ?_
  refine DI.sq 3 (by kernel_rfl) rfl ?_
  refine .cons (.call (vs := [vI (wr64 (under0_3 * (wr64 (65535 - t459)))), vI 65535]) rfl rfl (by kernel_rfl) (fixed_Round.ok hE_ h477)) ?_
  refine DI.sq 3 (by kernel_rfl) rfl ?_
  exact .nil
 refine fk_q 17 [3, 4, 6, 7, 8, 16, 34, 35] (σ' := [(3, vP b456 0), (4, vP b457 0), (6, vP b458 0), (7, vI t459), (8, vP b461 0), (16, vI 3), (34, vI (mn (wr64 (t474 + t476)) 65535)), (35, vP b461 3)]) t_more (by kernel_rfl) ?_
 refine fk_nil fun all => ?_
 refine t_sti 0 (cs := [vI (mn (wr64 (t462 + t464)) 65535), vI (mn (wr64 (t466 + t468)) 65535), vI (mn (wr64 (t470 + t472)) 65535), vI (mn (wr64 (t474 + t476)) 65535)]) rfl rfl rfl rfl rfl rfl rfl rfl rfl ?_
 refine t_keep [3, 4, 6, 7, 8, 16] (σ' := [(3, vP b456 0), (4, vP b457 0), (6, vP b458 0), (7, vI t459), (8, vP b461 0), (16, vI 3)]) (by kernel_rfl) ?_
 refine t_end ?_
 show W _ _ _ _ _ _ _
 refine w_reg fun all => ?_
 refine t_qz 2 [3, 4, 6, 7, 8, 16] (σ' := [(3, vP b456 0), (4, vP b457 0), (6, vP b458 0), (7, vI t459), (8, vP b461 0), (16, vI 4)]) (by kernel_rfl) ?_
 refine t_end ?_
 show WL _ _ _ _ _ _ _ _
 refine wl_step ?_
 refine w_seq ?_
 refine w_reg fun all => ?_
 refine t_qz 1 [3, 4, 6, 7, 8, 16, 17] (σ' := [(3, vP b456 0), (4, vP b457 0), (6, vP b458 0), (7, vI t459), (8, vP b461 0), (16, vI 4), (17, vB false)]) (by kernel_rfl) ?_
 refine t_end ?_
 show W _ _ _ _ _ _ _
 refine w_seq ?_
 refine w_cond rfl (fun c_ => by cases c_) (fun _ => ?_)
 show W _ _ _ _ _ _ _
 refine w_exit ?_
 show W _ _ _ _ _ _ _
 refine w_seq ?_
 refine w_reg fun all => ?_
 refine t_v (.ldn rfl rfl rfl (.at 0 rfl rfl)) ?_
 refine t_sti 1 (cs := [vI (mn (wr64 (t462 + t464)) 65535), vI (mn (wr64 (t466 + t468)) 65535), vI (mn (wr64 (t470 + t472)) 65535), vI (mn (wr64 (t474 + t476)) 65535)]) rfl rfl rfl rfl rfl rfl rfl rfl rfl ?_
 refine t_keep [6] (σ' := [(6, vP b458 0)]) (by kernel_rfl) ?_
 refine t_end ?_
 show W _ _ _ _ _ _ _
 refine w_ret ?_
 simp only [Option.some.injEq, Prod.mk.injEq] at e
 obtain ⟨rfl, rfl, rfl, rfl⟩ := e
 exact ⟨[.agg #[vI (mn (wr64 (t462 + t464)) 65535), vI (mn (wr64 (t466 + t468)) 65535), vI (mn (wr64 (t470 + t472)) 65535), vI (mn (wr64 (t474 + t476)) 65535)]], [], S, ⟨⟨_, _, _, rfl, .at 1 rfl rfl, rfl⟩, trivial⟩, VS.none, rfl, rfl, rfl⟩

/-- (render.layer).over -/
def c35 : C :=
  (.seq (.reg [oq 4 (.box (.tmp 0))])
  (.seq (.reg [oq 12 (.ld (some 12) (.tmp 4)),
     oq 13 (.mv (.tmp 3)),
     oq 14 (.mv (.tmp 1)),
     oq 15 (.lns (.tmp 14)),
     oq 16 (.call 47 [(.tmp 12), (.tmp 13), (.tmp 15)]),
     oq 17 (.lns (.tmp 16)),
     oq 18 (.mv (.const (vI 0)))])
  (.block 0 (.loop (.seq (.reg [oq 19 (.bin .lss (.tmp 18) (.tmp 17))])
    (.seq (.cond (.tmp 19)
      .skip
      (.exit 0))
    (.seq (.block 1 (.seq (.reg [oq 20 (.mv (.tmp 18)),
         oq 21 (.ixs 1 (.tmp 16) (.tmp 18)),
         oq 22 (.ld none (.tmp 21)),
         oq 8 (.mv (.tmp 20)),
         oq 9 (.mv (.tmp 22))])
      (.seq (.reg [oq 23 (.mv (.tmp 9)),
         oq 24 (.call 48 [(.tmp 23)]),
         oq 10 (.mv (.tmp 24))])
      (.seq (.reg [oq 25 (.mv (.tmp 10)),
         oq 26 (.bin .gtr (.tmp 25) (.const (vI 0)))])
      (.cond (.tmp 26)
       (.seq (.reg [oq 27 (.mv (.tmp 8)),
           oq 28 (.bin .mul (.tmp 27) (.const (vI 256))),
           oq 29 (.bin .add (.tmp 28) (.const (vI 128))),
           oq 30 (.mv (.tmp 3)),
           oq 31 (.bin .mul (.tmp 30) (.const (vI 256))),
           oq 32 (.bin .add (.tmp 31) (.const (vI 128))),
           oq 33 (.bld [(vI 0), (vI 0)] [(0, 1, (.tmp 29)), (1, 1, (.tmp 32))]),
           oq 11 (.new [(vI 0), (vI 0)]),
           ⟨none, .st 2 (.tmp 11) (.tmp 33), none⟩])
        (.drw [oq 34 (.mv (.tmp 1)),
          oq 35 (.mv (.tmp 8)),
          oq 36 (.mv (.tmp 1)),
          oq 37 (.mv (.tmp 8)),
          oq 38 (.ixs 4 (.tmp 36) (.tmp 37)),
          oq 39 (.ld (some 4) (.tmp 38)),
          oq 40 (.pad 0 (.tmp 4)),
          oq 41 (.pad 3 (.tmp 40)),
          oq 42 (.ld (some 7) (.tmp 41)),
          oq 43 (.mv (.tmp 2)),
          oq 44 (.ld (some 2) (.tmp 11)),
          oq 45 (.call 50 [(.tmp 42), (.tmp 43), (.tmp 44)]),
          oq 46 (.mv (.tmp 10)),
          oq 47 (.call 49 [(.tmp 39), (.tmp 45), (.tmp 46)]),
          oq 48 (.ixs 4 (.tmp 34) (.tmp 35)),
          ⟨none, .st 4 (.tmp 48) (.tmp 47), none⟩] [[], [], [], [], [2, 3], [4], [], [6], [7], [], [], [8, 9, 10], [], [5, 11, 12, 11], [0, 1, 0, 1, 2, 3, 4, 5, 6, 7, 8, 9, 10, 11, 12, 13], [14, 13, 13, 0, 1, 2, 3, 4, 5, 6, 7, 8, 9, 10, 11, 12, 13]]))
       .skip)))))
    (.reg [oq 49 (.bin .add (.tmp 18) (.const (vI 1))),
      oq 18 (.mv (.tmp 49))]))))))))
def render_layer_over_v1.l0 : Nat → Int → Int → Int → Int → Int → Int → Int → Int → Int → List (Int) → Int → List (Int × Int × Int × Int) → Option (List (Int × Int × Int × Int))
  | 0, _, _, _, _, _, _, _, _, _, _, _, _ => none
  | k + 1, x0_6, x0_7, x0_8, x0_9, y3, m2_0, m2_1, m2_2, m2_3, t440, x443, y444 => if x443 < (t440.length : Int) then ((lgt t440 x443).bind fun x446 => ((sweep_Count.f x446).bind fun t448 => (if t448 > 0 then ((lgt y444 x443).bind fun (x452, x453, x454, x455) => ((paint_At_v1.f k x0_6 x0_7 x0_8 x0_9 (wr64 ((wr64 (x443 * 256)) + 128)) (wr64 ((wr64 (y3 * 256)) + 128)) m2_0 m2_1 m2_2 m2_3).bind fun (t457, t458, t459, t460) => ((blend_Over.f x452 x453 x454 x455 t457 t458 t459 t460 t448).bind fun (t462, t463, t464, t465) => ((lgt y444 x443).bind fun (x467, x468, x469, x470) => ((lput y444 x443 (t462, t463, t464, t465)).bind fun y472 => (render_layer_over_v1.l0 k x0_6 x0_7 x0_8 x0_9 y3 m2_0 m2_1 m2_2 m2_3 t440 (wr64 (x443 + 1)) y472)))))) else (render_layer_over_v1.l0 k x0_6 x0_7 x0_8 x0_9 y3 m2_0 m2_1 m2_2 m2_3 t440 (wr64 (x443 + 1)) y444)))) else (some y444)
def render_layer_over_v1.f (k : Nat) (x0_6 : Int) (x0_7 : Int) (x0_8 : Int) (x0_9 : Int) (y3 : Int) (m0_L : List (Int × Int × Int × Int)) (m1_L : List (Int × Int × Int × Int)) (m2_0 : Int) (m2_1 : Int) (m2_2 : Int) (m2_3 : Int) : Option (List (Int × Int × Int × Int)) := (render_layer_masks_v1.f k x0_6 x0_7 x0_8 x0_9 m0_L y3 (m1_L.length : Int)).bind fun t440 => (render_layer_over_v1.l0 k x0_6 x0_7 x0_8 x0_9 y3 m2_0 m2_1 m2_2 m2_3 t440 0 m1_L)
theorem render_layer_over_v1.ok {S : Seal} {B0 : Option Nat} {nB0 : Nat} {B1 : Option Nat} {nB1 : Nat} {B2 : Nat} {k : Nat} {x0_6 : Int} {x0_7 : Int} {x0_8 : Int} {x0_9 : Int} {y3 : Int} {m0_L : List (Int × Int × Int × Int)} {m1_L : List (Int × Int × Int × Int)} {m2_0 : Int} {m2_1 : Int} {m2_2 : Int} {m2_3 : Int} {r0_ : List (Int × Int × Int × Int)}{A_ : Int → Addr} (hE_ : EO gsE S A_ 157) {a_x0_10 : Option Addr} {n_x0_10 c_x0_10 : Nat} (e : render_layer_over_v1.f k x0_6 x0_7 x0_8 x0_9 y3 m0_L m1_L m2_0 m2_1 m2_2 m2_3 = some r0_) :
    Cal Tryd.prog 35 [.agg #[vI 1, vI 0, vI 0, vI 0, vI 0, vI 0, vI x0_6, vI x0_7, vI x0_8, vI x0_9, .slice a_x0_10 n_x0_10 c_x0_10, .slice (ad B0) m0_L.length (nB0 / 4)], .slice (ad B1) m1_L.length (nB1 / 4), .slice (some ⟨B2, 0, none⟩) 1 1, vI y3] ([⟨B0, encL E_i644 m0_L, nB0⟩, ⟨B1, encL E_i644 m1_L, nB1⟩, ⟨B2, [.int .u8 m2_0, .int .u8 m2_1, .int .u8 m2_2, .int .u8 m2_3], 4⟩] : List Own) S fun v H' S' => v = .tuple #[] ∧ H' = ([⟨B0, encL E_i644 m0_L, nB0⟩, ⟨B1, encL E_i644 r0_, nB1⟩, ⟨B2, [.int .u8 m2_0, .int .u8 m2_1, .int .u8 m2_2, .int .u8 m2_3], 4⟩] : List Own) ∧ S' = S := by
 unfold render_layer_over_v1.f at e
 refine cal_of (c := c35) (N := 50) Tryd.func35 rfl rfl (by kernel_rfl) (rs := []) (by kernel_rfl) (Nat.le_of_ble_eq_true rfl) ?_
 unfold c35
 refine w_seq ?_
 refine w_reg fun all => ?_
 refine t_a (.box rfl rfl rfl) fun b439 fb439 sb439 => ?_
 refine t_keep [1, 2, 3, 4] (σ' := [(1, .slice (ad B1) m1_L.length (nB1 / 4)), (2, .slice (some ⟨B2, 0, none⟩) 1 1), (3, vI y3), (4, vP b439 0)]) (by kernel_rfl) ?_
 refine t_end ?_
 show W _ _ _ _ _ _ _
 refine w_seq ?_
 refine w_reg fun all => ?_
 refine t_v (.ldn rfl rfl rfl (.at 0 rfl rfl)) ?_
 obtain ⟨t440, h441, e⟩ := bind_of e
 refine t_qz 3 [1, 2, 3, 4, 12, 13, 15] (σ' := [(1, .slice (ad B1) m1_L.length (nB1 / 4)), (2, .slice (some ⟨B2, 0, none⟩) 1 1), (3, vI y3), (4, vP b439 0), (12, .agg #[vI 1, vI 0, vI 0, vI 0, vI 0, vI 0, vI x0_6, vI x0_7, vI x0_8, vI x0_9, .slice a_x0_10 n_x0_10 c_x0_10, .slice (ad B0) m0_L.length (nB0 / 4)]), (13, vI y3), (15, vI (m1_L.length : Int))]) (by kernel_rfl) ?_
 refine t_call (vs := [.agg #[vI 1, vI 0, vI 0, vI 0, vI 0, vI 0, vI x0_6, vI x0_7, vI x0_8, vI x0_9, .slice a_x0_10 n_x0_10 c_x0_10, .slice (ad B0) m0_L.length (nB0 / 4)], vI y3, vI (m1_L.length : Int)]) (H1 := (([⟨B0, encL E_i644 m0_L, nB0⟩] : List Own) ++ [])) (F := ([⟨b439, [vI 1, vI 0, vI 0, vI 0, vI 0, vI 0, vI x0_6, vI x0_7, vI x0_8, vI x0_9, .slice a_x0_10 n_x0_10 c_x0_10, .slice (ad B0) m0_L.length (nB0 / 4)], 12⟩, ⟨B1, encL E_i644 m1_L, nB1⟩, ⟨B2, [.int .u8 m2_0, .int .u8 m2_1, .int .u8 m2_2, .int .u8 m2_3], 4⟩] : List Own)) rfl rfl (by kernel_rfl) (sel_perm (is := [1]) (by kernel_rfl)) (cal_lendF (Qc := fun v_ H_ => ∃ (N442 : Option Nat) (nN442 : Nat), v_ = (.slice (ad N442) t440.length (nN442 / 1)) ∧ H_ = ([⟨N442, encL E_u64 t440, nN442⟩] : List Own)) ([⟨B0, encL E_i644 m0_L, nB0⟩] : List Own) fun S1_ le1_ hp1_ hs1_ hn1_ ex1_ => (render_layer_masks_v1.ok (EO.mono hE_ le1_ hp1_) (SlE.ofAd (E := E_i644) (L := m0_L) (hn1_ _ (mem_at 0 rfl)) (by decide)) h441).mono fun _ _ _ ⟨N442, nN442, h1_, h2_, h3_⟩ => ⟨⟨N442, nN442, h1_, h2_⟩, h3_⟩) ?_
 rintro _ _ S_ ⟨⟨_, rfl, N442, nN442, rfl, rfl⟩, hS_⟩
 obtain rfl := hS_.symm
 refine t_qz 2 [1, 2, 3, 4, 16, 17, 18] (σ' := [(1, .slice (ad B1) m1_L.length (nB1 / 4)), (2, .slice (some ⟨B2, 0, none⟩) 1 1), (3, vI y3), (4, vP b439 0), (16, .slice (ad N442) t440.length (nN442 / 1)), (17, vI (t440.length : Int)), (18, vI 0)]) (by kernel_rfl) ?_
 refine t_end ?_
 show W _ _ _ _ _ _ _
 refine w_block ?_
 refine w_kp [1, 2, 3, 4, 16, 17, 18] (σ' := [(1, .slice (ad B1) m1_L.length (nB1 / 4)), (2, .slice (some ⟨B2, 0, none⟩) 1 1), (3, vI y3), (4, vP b439 0), (16, .slice (ad N442) t440.length (nN442 / 1)), (17, vI (t440.length : Int)), (18, vI 0)]) (by kernel_rfl) ?_
 refine w_loop (fun n_ σ_ H_ S_ => ∃ (x443 : Int) (y444 : List (Int × Int × Int × Int)), [(1, .slice (ad B1) y444.length (nB1 / 4)), (2, .slice (some ⟨B2, 0, none⟩) 1 1), (3, vI y3), (4, vP b439 0), (16, .slice (ad N442) t440.length (nN442 / 1)), (17, vI (t440.length : Int)), (18, vI x443)] = σ_ ∧ ([⟨B0, encL E_i644 m0_L, nB0⟩, ⟨N442, encL E_u64 t440, nN442⟩, ⟨b439, [vI 1, vI 0, vI 0, vI 0, vI 0, vI 0, vI x0_6, vI x0_7, vI x0_8, vI x0_9, .slice a_x0_10 n_x0_10 c_x0_10, .slice (ad B0) m0_L.length (nB0 / 4)], 12⟩, ⟨B1, encL E_i644 y444, nB1⟩, ⟨B2, [.int .u8 m2_0, .int .u8 m2_1, .int .u8 m2_2, .int .u8 m2_3], 4⟩] : List Own) = H_ ∧ S = S_ ∧ render_layer_over_v1.l0 n_ x0_6 x0_7 x0_8 x0_9 y3 m2_0 m2_1 m2_2 m2_3 t440 x443 y444 = some r0_) _ ⟨0, m1_L, rfl, rfl, rfl, e⟩ ?_
 rintro n477 σ_ H_ S_ ⟨x443, y444, rfl, rfl, rfl, e⟩
 cases n477 with
 | zero => rw [render_layer_over_v1.l0.eq_1] at e; cases e
 | succ k_ =>
  rw [render_layer_over_v1.l0.eq_2] at e
  refine w_seq ?_
  refine w_reg fun all => ?_
  by_cases c445 : x443 < (t440.length : Int)
  ·rw [if_pos c445] at e
   have c445b : (decide (x443 < (t440.length : Int))) = true := decide_eq_true c445
   refine t_v (dv_quiet rfl (congrArg (fun t => some (Value.bool t)) c445b)) ?_
   refine t_keep [1, 2, 3, 4, 16, 17, 18, 19] (σ' := [(1, .slice (ad B1) y444.length (nB1 / 4)), (2, .slice (some ⟨B2, 0, none⟩) 1 1), (3, vI y3), (4, vP b439 0), (16, .slice (ad N442) t440.length (nN442 / 1)), (17, vI (t440.length : Int)), (18, vI x443), (19, vB true)]) (by kernel_rfl) ?_
   refine t_end ?_
   show W _ _ _ _ _ _ _
   refine w_seq ?_
   refine w_cond rfl (fun _ => ?_) (fun c_ => by cases c_)
   show W _ _ _ _ _ _ _
   refine w_skip ?_
   show W _ _ _ _ _ _ _
   refine w_seq ?_
   refine w_block ?_
   refine w_seq ?_
   refine w_reg fun all => ?_
   obtain ⟨x446, hx447, e⟩ := bind_of e
   refine t_qz 1 [1, 2, 3, 4, 16, 17, 18, 20] (σ' := [(1, .slice (ad B1) y444.length (nB1 / 4)), (2, .slice (some ⟨B2, 0, none⟩) 1 1), (3, vI y3), (4, vP b439 0), (16, .slice (ad N442) t440.length (nN442 / 1)), (17, vI (t440.length : Int)), (18, vI x443), (20, vI x443)]) (by kernel_rfl) ?_
   refine t_v (.quietH rfl (by intro h_; cases h_) (ixl (E := E_u64) (j := 1) rfl rfl rfl (by decide) rfl hx447)) ?_
   refine t_v (.ld1 rfl rfl rfl (.lst 1 rfl (encL_at (lgt_in hx447).1 rfl))) ?_
   refine t_qz 2 [1, 2, 3, 4, 8, 9, 16, 17, 18] (σ' := [(1, .slice (ad B1) y444.length (nB1 / 4)), (2, .slice (some ⟨B2, 0, none⟩) 1 1), (3, vI y3), (4, vP b439 0), (8, vI x443), (9, .int .u64 x446), (16, .slice (ad N442) t440.length (nN442 / 1)), (17, vI (t440.length : Int)), (18, vI x443)]) (by kernel_rfl) ?_
   refine t_end ?_
   show W _ _ _ _ _ _ _
   refine w_seq ?_
   refine w_reg fun all => ?_
   obtain ⟨t448, h449, e⟩ := bind_of e
   refine t_qz 1 [1, 2, 3, 4, 8, 16, 17, 18, 23] (σ' := [(1, .slice (ad B1) y444.length (nB1 / 4)), (2, .slice (some ⟨B2, 0, none⟩) 1 1), (3, vI y3), (4, vP b439 0), (8, vI x443), (16, .slice (ad N442) t440.length (nN442 / 1)), (17, vI (t440.length : Int)), (18, vI x443), (23, .int .u64 x446)]) (by kernel_rfl) ?_
   refine t_v (.call (vs := [.int .u64 x446]) rfl rfl (by kernel_rfl) (sweep_Count.ok hE_ h449)) ?_
   refine t_qz 1 [1, 2, 3, 4, 8, 10, 16, 17, 18] (σ' := [(1, .slice (ad B1) y444.length (nB1 / 4)), (2, .slice (some ⟨B2, 0, none⟩) 1 1), (3, vI y3), (4, vP b439 0), (8, vI x443), (10, vI t448), (16, .slice (ad N442) t440.length (nN442 / 1)), (17, vI (t440.length : Int)), (18, vI x443)]) (by kernel_rfl) ?_
   refine t_end ?_
   show W _ _ _ _ _ _ _
   refine w_seq ?_
   refine w_reg fun all => ?_
   by_cases c450 : t448 > 0
   ·rw [if_pos c450] at e
    have c450b : (decide (t448 > 0)) = true := decide_eq_true c450
    refine t_qz 1 [1, 2, 3, 4, 8, 10, 16, 17, 18, 25] (σ' := [(1, .slice (ad B1) y444.length (nB1 / 4)), (2, .slice (some ⟨B2, 0, none⟩) 1 1), (3, vI y3), (4, vP b439 0), (8, vI x443), (10, vI t448), (16, .slice (ad N442) t440.length (nN442 / 1)), (17, vI (t440.length : Int)), (18, vI x443), (25, vI t448)]) (by kernel_rfl) ?_
    refine t_v (dv_quiet rfl (congrArg (fun t => some (Value.bool t)) c450b)) ?_
    refine t_keep [1, 2, 3, 4, 8, 10, 16, 17, 18, 26] (σ' := [(1, .slice (ad B1) y444.length (nB1 / 4)), (2, .slice (some ⟨B2, 0, none⟩) 1 1), (3, vI y3), (4, vP b439 0), (8, vI x443), (10, vI t448), (16, .slice (ad N442) t440.length (nN442 / 1)), (17, vI (t440.length : Int)), (18, vI x443), (26, vB true)]) (by kernel_rfl) ?_
    refine t_end ?_
    show W _ _ _ _ _ _ _
    refine w_cond rfl (fun _ => ?_) (fun c_ => by cases c_)
    show W _ _ _ _ _ _ _
    refine w_seq ?_
    refine w_reg fun all => ?_
    refine t_qz 7 [1, 2, 3, 4, 8, 10, 16, 17, 18, 33] (σ' := [(1, .slice (ad B1) y444.length (nB1 / 4)), (2, .slice (some ⟨B2, 0, none⟩) 1 1), (3, vI y3), (4, vP b439 0), (8, vI x443), (10, vI t448), (16, .slice (ad N442) t440.length (nN442 / 1)), (17, vI (t440.length : Int)), (18, vI x443), (33, .agg #[vI (wr64 ((wr64 (x443 * 256)) + 128)), vI (wr64 ((wr64 (y3 * 256)) + 128))])]) (by kernel_rfl) ?_
    refine t_a (.new rfl rfl) fun b451 fb451 sb451 => ?_
    refine t_sti 0 (cs := [vI (wr64 ((wr64 (x443 * 256)) + 128)), vI (wr64 ((wr64 (y3 * 256)) + 128))]) rfl rfl rfl rfl rfl rfl rfl rfl rfl ?_
    refine t_keep [1, 2, 3, 4, 8, 10, 11, 16, 17, 18] (σ' := [(1, .slice (ad B1) y444.length (nB1 / 4)), (2, .slice (some ⟨B2, 0, none⟩) 1 1), (3, vI y3), (4, vP b439 0), (8, vI x443), (10, vI t448), (11, vP b451 0), (16, .slice (ad N442) t440.length (nN442 / 1)), (17, vI (t440.length : Int)), (18, vI x443)]) (by kernel_rfl) ?_
    refine t_end ?_
    show W _ _ _ _ _ _ _
    obtain ⟨⟨x452, x453, x454, x455⟩, hx456, e⟩ := bind_of e
    try dsimp only at e
    obtain ⟨⟨t457, t458, t459, t460⟩, h461, e⟩ := bind_of e
    try dsimp only at e
    obtain ⟨⟨t462, t463, t464, t465⟩, h466, e⟩ := bind_of e
    try dsimp only at e
    obtain ⟨⟨x467, x468, x469, x470⟩, hx471, e⟩ := bind_of e
    try dsimp only at e
    refine w_drwE mixed 15 [.v (.slice (ad B1) y444.length (nB1 / 4)), .v (vI x443), .v (.slice (ad B1) y444.length (nB1 / 4)), .v (vI x443), .v (vP (bk B1) ((x443).toNat * 4 + 0)), .v (.agg #[vI x452, vI x453, vI x454, vI x455]), .v (vP b439 0), .v (vP b439 3), .v (.agg #[vI 0, vI 0, vI 0, vI x0_6, vI x0_7, vI x0_8, vI x0_9]), .v (.slice (some ⟨B2, 0, none⟩) 1 1), .v (.agg #[vI (wr64 ((wr64 (x443 * 256)) + 128)), vI (wr64 ((wr64 (y3 * 256)) + 128))]), .v (.agg #[vI t457, vI t458, vI t459, vI t460]), .v (vI t448), .v (.agg #[vI t462, vI t463, vI t464, vI t465]), .v (vP (bk B1) ((x443).toNat * 4 + 0))] (by kernel_rfl) ?_ ?_
    ·refine DI.sq 4 (by kernel_rfl) rfl ?_
     refine .cons (.quietH rfl (by intro h_; cases h_) (ixl (E := E_i644) (j := 4) rfl rfl rfl (by decide) rfl hx456)) ?_
     refine .cons (.ldn (vs := [vI x452, vI x453, vI x454, vI x455]) rfl rfl rfl (.lst 4 rfl (encL_sub (lgt_in hx456).1 (by kernel_rfl)))) ?_
     refine DI.sq 2 (by kernel_rfl) rfl ?_
     refine .cons (.ldn rfl rfl rfl (.at 3 rfl rfl)) ?_
     refine DI.sq 1 (by kernel_rfl) rfl ?_
     refine .cons (.ldn rfl rfl rfl (.at 0 rfl rfl)) ?_
     refine .cons (.callr (vs := [.agg #[vI 0, vI 0, vI 0, vI x0_6, vI x0_7, vI x0_8, vI x0_9], .slice (some ⟨B2, 0, none⟩) 1 1, .agg #[vI (wr64 ((wr64 (x443 * 256)) + 128)), vI (wr64 ((wr64 (y3 * 256)) + 128))]]) (A := ([⟨B2, [.int .u8 m2_0, .int .u8 m2_1, .int .u8 m2_2, .int .u8 m2_3], 4⟩] : List Own)) (F0 := ([⟨b451, [vI (wr64 ((wr64 (x443 * 256)) + 128)), vI (wr64 ((wr64 (y3 * 256)) + 128))], 2⟩, ⟨B0, encL E_i644 m0_L, nB0⟩, ⟨N442, encL E_u64 t440, nN442⟩, ⟨b439, [vI 1, vI 0, vI 0, vI 0, vI 0, vI 0, vI x0_6, vI x0_7, vI x0_8, vI x0_9, .slice a_x0_10 n_x0_10 c_x0_10, .slice (ad B0) m0_L.length (nB0 / 4)], 12⟩, ⟨B1, encL E_i644 y444, nB1⟩] : List Own)) rfl rfl (by kernel_rfl) (sel_perm (is := [5]) (by kernel_rfl)) (paint_At_v1.ok hE_ h461)) ?_
     refine DI.sq 1 (by kernel_rfl) rfl ?_
     refine .cons (.call (vs := [.agg #[vI x452, vI x453, vI x454, vI x455], .agg #[vI t457, vI t458, vI t459, vI t460], vI t448]) rfl rfl (by kernel_rfl) (blend_Over.ok hE_ h466)) ?_
     refine .cons (.quietH rfl (by intro h_; cases h_) (ixl (E := E_i644) (j := 4) rfl rfl rfl (by decide) rfl hx471)) ?_
     exact .nil
    refine fk_q 15 [1, 2, 3, 4, 16, 17, 18, 47, 48] (σ' := [(1, .slice (ad B1) y444.length (nB1 / 4)), (2, .slice (some ⟨B2, 0, none⟩) 1 1), (3, vI y3), (4, vP b439 0), (16, .slice (ad N442) t440.length (nN442 / 1)), (17, vI (t440.length : Int)), (18, vI x443), (47, .agg #[vI t462, vI t463, vI t464, vI t465]), (48, vP (bk B1) ((x443).toNat * 4 + 0))]) t_more (by kernel_rfl) ?_
    refine fk_nil fun all => ?_
    obtain ⟨y472, hl473, e⟩ := bind_of e
    refine t_stl 4 (E := E_i644) (L := y444) (L' := y472) (i := x443) (off := 0) (y0 := (x467, x468, x469, x470)) (y1 := (t462, t463, t464, t465)) (H' := ([⟨b451, [vI (wr64 ((wr64 (x443 * 256)) + 128)), vI (wr64 ((wr64 (y3 * 256)) + 128))], 2⟩, ⟨B0, encL E_i644 m0_L, nB0⟩, ⟨N442, encL E_u64 t440, nN442⟩, ⟨b439, [vI 1, vI 0, vI 0, vI 0, vI 0, vI 0, vI x0_6, vI x0_7, vI x0_8, vI x0_9, .slice a_x0_10 n_x0_10 c_x0_10, .slice (ad B0) m0_L.length (nB0 / 4)], 12⟩, ⟨B1, encL E_i644 y472, nB1⟩, ⟨B2, [.int .u8 m2_0, .int .u8 m2_1, .int .u8 m2_2, .int .u8 m2_3], 4⟩] : List Own)) rfl rfl rfl rfl rfl rfl rfl (by decide) rfl hx471 (by kernel_rfl) hl473 rfl ?_
    refine t_keep [1, 2, 3, 4, 16, 17, 18, 47, 48] (σ' := [(1, .slice (ad B1) y444.length (nB1 / 4)), (2, .slice (some ⟨B2, 0, none⟩) 1 1), (3, vI y3), (4, vP b439 0), (16, .slice (ad N442) t440.length (nN442 / 1)), (17, vI (t440.length : Int)), (18, vI x443), (47, .agg #[vI t462, vI t463, vI t464, vI t465]), (48, vP (bk B1) ((x443).toNat * 4 + 0))]) (by kernel_rfl) ?_
    refine t_eq (σ' := [(1, .slice (ad B1) y472.length (nB1 / 4)), (2, .slice (some ⟨B2, 0, none⟩) 1 1), (3, vI y3), (4, vP b439 0), (16, .slice (ad N442) t440.length (nN442 / 1)), (17, vI (t440.length : Int)), (18, vI x443), (47, .agg #[vI t462, vI t463, vI t464, vI t465]), (48, vP (bk B1) ((x443).toNat * 4 + 0))]) (H' := ([⟨b451, [vI (wr64 ((wr64 (x443 * 256)) + 128)), vI (wr64 ((wr64 (y3 * 256)) + 128))], 2⟩, ⟨B0, encL E_i644 m0_L, nB0⟩, ⟨N442, encL E_u64 t440, nN442⟩, ⟨b439, [vI 1, vI 0, vI 0, vI 0, vI 0, vI 0, vI x0_6, vI x0_7, vI x0_8, vI x0_9, .slice a_x0_10 n_x0_10 c_x0_10, .slice (ad B0) m0_L.length (nB0 / 4)], 12⟩, ⟨B1, encL E_i644 y472, nB1⟩, ⟨B2, [.int .u8 m2_0, .int .u8 m2_1, .int .u8 m2_2, .int .u8 m2_3], 4⟩] : List Own)) (by first | rfl | rw [(lput_is hl473).2]) (by first | rfl | rw [(lput_is hl473).2]) ?_
    refine t_keep [1, 2, 3, 4, 16, 17, 18] (σ' := [(1, .slice (ad B1) y472.length (nB1 / 4)), (2, .slice (some ⟨B2, 0, none⟩) 1 1), (3, vI y3), (4, vP b439 0), (16, .slice (ad N442) t440.length (nN442 / 1)), (17, vI (t440.length : Int)), (18, vI x443)]) (by kernel_rfl) ?_
    refine t_end ?_
    show W _ _ _ _ _ _ _
    refine w_reg fun all => ?_
    refine t_qz 2 [1, 2, 3, 4, 16, 17, 18] (σ' := [(1, .slice (ad B1) y472.length (nB1 / 4)), (2, .slice (some ⟨B2, 0, none⟩) 1 1), (3, vI y3), (4, vP b439 0), (16, .slice (ad N442) t440.length (nN442 / 1)), (17, vI (t440.length : Int)), (18, vI (wr64 (x443 + 1)))]) (by kernel_rfl) ?_
    refine t_end ?_
    exact ⟨k_, Nat.lt_succ_self _, [(1, .slice (ad B1) y472.length (nB1 / 4)), (2, .slice (some ⟨B2, 0, none⟩) 1 1), (3, vI y3), (4, vP b439 0), (16, .slice (ad N442) t440.length (nN442 / 1)), (17, vI (t440.length : Int)), (18, vI (wr64 (x443 + 1)))], ([⟨B0, encL E_i644 m0_L, nB0⟩, ⟨N442, encL E_u64 t440, nN442⟩, ⟨b439, [vI 1, vI 0, vI 0, vI 0, vI 0, vI 0, vI x0_6, vI x0_7, vI x0_8, vI x0_9, .slice a_x0_10 n_x0_10 c_x0_10, .slice (ad B0) m0_L.length (nB0 / 4)], 12⟩, ⟨B1, encL E_i644 y472, nB1⟩, ⟨B2, [.int .u8 m2_0, .int .u8 m2_1, .int .u8 m2_2, .int .u8 m2_3], 4⟩] : List Own), S, keep_sub [1, 2, 3, 4, 16, 17, 18] (by kernel_rfl), VS.sel [1, 1, 1, 1, 1] (by kernel_rfl), wr64 (x443 + 1), y472, rfl, rfl, rfl, e⟩
   ·rw [if_neg c450] at e
    have c450b : (decide (t448 > 0)) = false := decide_eq_false c450
    refine t_qz 1 [1, 2, 3, 4, 8, 10, 16, 17, 18, 25] (σ' := [(1, .slice (ad B1) y444.length (nB1 / 4)), (2, .slice (some ⟨B2, 0, none⟩) 1 1), (3, vI y3), (4, vP b439 0), (8, vI x443), (10, vI t448), (16, .slice (ad N442) t440.length (nN442 / 1)), (17, vI (t440.length : Int)), (18, vI x443), (25, vI t448)]) (by kernel_rfl) ?_
    refine t_v (dv_quiet rfl (congrArg (fun t => some (Value.bool t)) c450b)) ?_
    refine t_keep [1, 2, 3, 4, 8, 10, 16, 17, 18, 26] (σ' := [(1, .slice (ad B1) y444.length (nB1 / 4)), (2, .slice (some ⟨B2, 0, none⟩) 1 1), (3, vI y3), (4, vP b439 0), (8, vI x443), (10, vI t448), (16, .slice (ad N442) t440.length (nN442 / 1)), (17, vI (t440.length : Int)), (18, vI x443), (26, vB false)]) (by kernel_rfl) ?_
    refine t_end ?_
    show W _ _ _ _ _ _ _
    refine w_cond rfl (fun c_ => by cases c_) (fun _ => ?_)
    show W _ _ _ _ _ _ _
    refine w_skip ?_
    show W _ _ _ _ _ _ _
    refine w_reg fun all => ?_
    refine t_qz 2 [1, 2, 3, 4, 16, 17, 18] (σ' := [(1, .slice (ad B1) y444.length (nB1 / 4)), (2, .slice (some ⟨B2, 0, none⟩) 1 1), (3, vI y3), (4, vP b439 0), (16, .slice (ad N442) t440.length (nN442 / 1)), (17, vI (t440.length : Int)), (18, vI (wr64 (x443 + 1)))]) (by kernel_rfl) ?_
    refine t_end ?_
    exact ⟨k_, Nat.lt_succ_self _, [(1, .slice (ad B1) y444.length (nB1 / 4)), (2, .slice (some ⟨B2, 0, none⟩) 1 1), (3, vI y3), (4, vP b439 0), (16, .slice (ad N442) t440.length (nN442 / 1)), (17, vI (t440.length : Int)), (18, vI (wr64 (x443 + 1)))], ([⟨B0, encL E_i644 m0_L, nB0⟩, ⟨N442, encL E_u64 t440, nN442⟩, ⟨b439, [vI 1, vI 0, vI 0, vI 0, vI 0, vI 0, vI x0_6, vI x0_7, vI x0_8, vI x0_9, .slice a_x0_10 n_x0_10 c_x0_10, .slice (ad B0) m0_L.length (nB0 / 4)], 12⟩, ⟨B1, encL E_i644 y444, nB1⟩, ⟨B2, [.int .u8 m2_0, .int .u8 m2_1, .int .u8 m2_2, .int .u8 m2_3], 4⟩] : List Own), S, keep_sub [1, 2, 3, 4, 16, 17, 18] (by kernel_rfl), VS.sel [0, 0, 0, 0, 0] (by kernel_rfl), wr64 (x443 + 1), y444, rfl, rfl, rfl, e⟩
  ·rw [if_neg c445] at e
   have c445b : (decide (x443 < (t440.length : Int))) = false := decide_eq_false c445
   refine t_v (dv_quiet rfl (congrArg (fun t => some (Value.bool t)) c445b)) ?_
   refine t_keep [1, 2, 3, 4, 16, 17, 18, 19] (σ' := [(1, .slice (ad B1) y444.length (nB1 / 4)), (2, .slice (some ⟨B2, 0, none⟩) 1 1), (3, vI y3), (4, vP b439 0), (16, .slice (ad N442) t440.length (nN442 / 1)), (17, vI (t440.length : Int)), (18, vI x443), (19, vB false)]) (by kernel_rfl) ?_
   refine t_end ?_
   show W _ _ _ _ _ _ _
   refine w_seq ?_
   refine w_cond rfl (fun c_ => by cases c_) (fun _ => ?_)
   show W _ _ _ _ _ _ _
   refine w_exit ?_
   obtain rfl := Option.some.inj e
   exact ⟨[], ([⟨B0, encL E_i644 m0_L, nB0⟩, ⟨B1, encL E_i644 y444, nB1⟩, ⟨B2, [.int .u8 m2_0, .int .u8 m2_1, .int .u8 m2_2, .int .u8 m2_3], 4⟩] : List Own), S, trivial, VS.sel [0, 2, 2] (by kernel_rfl), rfl, rfl, rfl⟩

def render_row_v2.l0 : Nat → List (Int × Int × Int × Int) → Int → List (Int) → Option (List (Int))
  | 0, _, _, _ => none
  | k + 1, y482, x489, y491 => if x489 < (y482.length : Int) then ((lgt y482 x489).bind fun (x493, x494, x495, x496) => ((blend_Final.f x493 x494 x495 x496).bind fun (t499, t500, t501, t502) => ((lapp y491 ([t499, t500, t501, t502] : List (Int))).bind fun y505 => (render_row_v2.l0 k y482 (wr64 (x489 + 1)) y505)))) else (some y491)
def render_row_v2.f (k : Nat) (i0_0 : Int) (i0_1 : Int) (w2 : Int) (y3 : Int) (m0_0 : Int) (m0_1 : Int) (m0_2 : Int) (m0_3 : Int) (m1_6 : Int) (m1_7 : Int) (m1_8 : Int) (m1_9 : Int) (m2_0 : Int) (m2_1 : Int) (m3_1 : Int) (m3_2 : Int) (m3_3 : Int) (m3_4 : Int) (m3_5 : Int) (m3_6 : Int) (m3_8 : Int) (m3_9 : Int) (m3_10 : Int) (m3_11 : Int) (m3_12 : Int) (m3_13 : Int) (m3_15 : Int) (m3_16 : Int) (m3_17 : Int) (m3_18 : Int) (m3_19 : Int) (m3_20 : Int) (m4_L : List (Int × Int × Int × Int)) : Option (List (Int)) := (lmk ((0, 0, 0, 0) : Int × Int × Int × Int) w2 w2).bind fun y230 => (((render_layer_over_v1.f k m1_6 m1_7 m1_8 m1_9 y3 m4_L y230 m0_0 m0_1 m0_2 m0_3).bind fun t478 => ((if t478.length = y230.length then some () else none : Option Unit).bind fun _ => (some t478)) : Option (List (Int × Int × Int × Int))).bind fun y482 => ((lmk (0 : Int) 0 (wr64 (4 * w2))).bind fun y483 => ((render_row_v2.l0 k y482 0 y483 : Option (List (Int))).bind fun y511 => (some y511))))
theorem render_row_v2.ok {S : Seal} {B0 : Nat} {B1 nB1 : Nat} {B2 nB2 : Nat} {B3 nB3 : Nat} {B4 : Option Nat} {nB4 : Nat} {k : Nat} {i0_0 : Int} {i0_1 : Int} {w2 : Int} {y3 : Int} {m0_0 : Int} {m0_1 : Int} {m0_2 : Int} {m0_3 : Int} {m1_6 : Int} {m1_7 : Int} {m1_8 : Int} {m1_9 : Int} {m2_0 : Int} {m2_1 : Int} {m3_1 : Int} {m3_2 : Int} {m3_3 : Int} {m3_4 : Int} {m3_5 : Int} {m3_6 : Int} {m3_8 : Int} {m3_9 : Int} {m3_10 : Int} {m3_11 : Int} {m3_12 : Int} {m3_13 : Int} {m3_15 : Int} {m3_16 : Int} {m3_17 : Int} {m3_18 : Int} {m3_19 : Int} {m3_20 : Int} {m4_L : List (Int × Int × Int × Int)} {r0_ : List (Int)}{A_ : Int → Addr} (hE_ : EO gsE S A_ 157) {a_i0_4 : Option Addr} {n_i0_4 c_i0_4 : Nat} (e : render_row_v2.f k i0_0 i0_1 w2 y3 m0_0 m0_1 m0_2 m0_3 m1_6 m1_7 m1_8 m1_9 m2_0 m2_1 m3_1 m3_2 m3_3 m3_4 m3_5 m3_6 m3_8 m3_9 m3_10 m3_11 m3_12 m3_13 m3_15 m3_16 m3_17 m3_18 m3_19 m3_20 m4_L = some r0_) :
    Cal Tryd.prog 20 [.agg #[vI i0_0, vI i0_1, vI 0, .slice (some ⟨B0, 0, none⟩) 1 1, .slice a_i0_4 n_i0_4 c_i0_4], .slice (some ⟨B1, 0, none⟩) 1 (nB1 / 12), vI w2, vI y3] ([⟨B0, [.int .u8 m0_0, .int .u8 m0_1, .int .u8 m0_2, .int .u8 m0_3], 4⟩, ⟨B1, [vI 1, vI 0, vI 0, vI 0, vI 0, vI 0, vI m1_6, vI m1_7, vI m1_8, vI m1_9, .slice (some ⟨B2, 0, none⟩) 1 (nB2 / 4), .slice (ad B4) m4_L.length (nB4 / 4)], nB1⟩, ⟨B2, [vI m2_0, vI m2_1, .slice (some ⟨B3, 0, none⟩) 3 (nB3 / 7), vB false], nB2⟩, ⟨B3, [vI 1, vI m3_1, vI m3_2, vI m3_3, vI m3_4, vI m3_5, vI m3_6, vI 1, vI m3_8, vI m3_9, vI m3_10, vI m3_11, vI m3_12, vI m3_13, vI 1, vI m3_15, vI m3_16, vI m3_17, vI m3_18, vI m3_19, vI m3_20], nB3⟩, ⟨B4, encL E_i644 m4_L, nB4⟩] : List Own) S fun v H' S' => ∃ (N0_ : Option Nat) (nN0_ : Nat) , v = .slice (ad N0_) r0_.length (nN0_ / 1) ∧ H' = ([⟨N0_, encL E_u8 r0_, nN0_⟩, ⟨B0, [.int .u8 m0_0, .int .u8 m0_1, .int .u8 m0_2, .int .u8 m0_3], 4⟩, ⟨B1, [vI 1, vI 0, vI 0, vI 0, vI 0, vI 0, vI m1_6, vI m1_7, vI m1_8, vI m1_9, .slice (some ⟨B2, 0, none⟩) 1 (nB2 / 4), .slice (ad B4) m4_L.length (nB4 / 4)], nB1⟩, ⟨B2, [vI m2_0, vI m2_1, .slice (some ⟨B3, 0, none⟩) 3 (nB3 / 7), vB false], nB2⟩, ⟨B3, [vI 1, vI m3_1, vI m3_2, vI m3_3, vI m3_4, vI m3_5, vI m3_6, vI 1, vI m3_8, vI m3_9, vI m3_10, vI m3_11, vI m3_12, vI m3_13, vI 1, vI m3_15, vI m3_16, vI m3_17, vI m3_18, vI m3_19, vI m3_20], nB3⟩, ⟨B4, encL E_i644 m4_L, nB4⟩] : List Own) ∧ S' = S := by
 unfold render_row_v2.f at e
 refine cal_of (c := c20) (N := 47) Tryd.func20 rfl rfl (by kernel_rfl) (rs := [.t 8]) (by kernel_rfl) (Nat.le_of_ble_eq_true rfl) ?_
 unfold c20
 refine w_seq ?_
 refine w_reg fun all => ?_
 refine t_a (.box rfl rfl rfl) fun b229 fb229 sb229 => ?_
 refine t_qz 1 [1, 2, 3, 4] (σ' := [(1, .slice (some ⟨B1, 0, none⟩) 1 (nB1 / 12)), (2, vI w2), (3, vI y3), (4, vP b229 0)]) (by kernel_rfl) ?_
 refine t_end ?_
 show W _ _ _ _ _ _ _
 refine w_seq ?_
 refine w_reg fun all => ?_
 obtain ⟨y230, hl231, e⟩ := bind_of e
 refine t_qz 1 [1, 2, 3, 4, 16] (σ' := [(1, .slice (some ⟨B1, 0, none⟩) 1 (nB1 / 12)), (2, vI w2), (3, vI y3), (4, vP b229 0), (16, vI w2)]) (by kernel_rfl) ?_
 refine t_mkl (E := E_i644) (x0 := (0, 0, 0, 0)) rfl rfl rfl rfl rfl (by decide) (by decide) rfl hl231 fun a232 na232 => ?_
 refine t_qz 1 [1, 2, 3, 4, 9] (σ' := [(1, .slice (some ⟨B1, 0, none⟩) 1 (nB1 / 12)), (2, vI w2), (3, vI y3), (4, vP b229 0), (9, .slice (ad (some a232)) y230.length (na232 / 4))]) (by kernel_rfl) ?_
 refine t_end ?_
 show W _ _ _ _ _ _ _
 obtain ⟨y482, e234, e⟩ := bind_of e
 refine w_cut [2, 9] (fun σ_ H_ S_ => [(2, vI w2), (9, .slice (ad (some a232)) y482.length (na232 / 4))] = σ_ ∧ ([⟨b229, [vI i0_0, vI i0_1, vI 0, .slice (some ⟨B0, 0, none⟩) 1 1, .slice a_i0_4 n_i0_4 c_i0_4], 5⟩, ⟨B0, [.int .u8 m0_0, .int .u8 m0_1, .int .u8 m0_2, .int .u8 m0_3], 4⟩, ⟨B1, [vI 1, vI 0, vI 0, vI 0, vI 0, vI 0, vI m1_6, vI m1_7, vI m1_8, vI m1_9, .slice (some ⟨B2, 0, none⟩) 1 (nB2 / 4), .slice (ad B4) m4_L.length (nB4 / 4)], nB1⟩, ⟨B2, [vI m2_0, vI m2_1, .slice (some ⟨B3, 0, none⟩) 3 (nB3 / 7), vB false], nB2⟩, ⟨B3, [vI 1, vI m3_1, vI m3_2, vI m3_3, vI m3_4, vI m3_5, vI m3_6, vI 1, vI m3_8, vI m3_9, vI m3_10, vI m3_11, vI m3_12, vI m3_13, vI 1, vI m3_15, vI m3_16, vI m3_17, vI m3_18, vI m3_19, vI m3_20], nB3⟩, ⟨some a232, encL E_i644 y482, na232⟩, ⟨B4, encL E_i644 m4_L, nB4⟩] : List Own) = H_ ∧ S = S_) ?_ ?_
 ·show W _ _ _ _ _ _ _
  refine w_seq ?_
  refine w_reg fun all => ?_
  refine t_qz 3 [2, 3, 4, 9, 18, 19, 20] (σ' := [(2, vI w2), (3, vI y3), (4, vP b229 0), (9, .slice (ad (some a232)) y230.length (na232 / 4)), (18, .slice (some ⟨B1, 0, none⟩) 1 (nB1 / 12)), (19, vI 1), (20, vI 0)]) (by kernel_rfl) ?_
  refine t_end ?_
  show W _ _ _ _ _ _ _
  refine w_block ?_
  refine w_lun 15 ?_
  refine wl_step ?_
  refine w_seq ?_
  refine w_reg fun all => ?_
  refine t_qz 1 [2, 3, 4, 9, 18, 19, 20, 21] (σ' := [(2, vI w2), (3, vI y3), (4, vP b229 0), (9, .slice (ad (some a232)) y230.length (na232 / 4)), (18, .slice (some ⟨B1, 0, none⟩) 1 (nB1 / 12)), (19, vI 1), (20, vI 0), (21, vB true)]) (by kernel_rfl) ?_
  refine t_end ?_
  show W _ _ _ _ _ _ _
  refine w_seq ?_
  refine w_cond rfl (fun _ => ?_) (fun c_ => by cases c_)
  show W _ _ _ _ _ _ _
  refine w_skip ?_
  show W _ _ _ _ _ _ _
  refine w_seq ?_
  refine w_block ?_
  refine w_seq ?_
  refine w_reg fun all => ?_
  refine t_qz 1 [2, 3, 4, 9, 18, 19, 20, 22] (σ' := [(2, vI w2), (3, vI y3), (4, vP b229 0), (9, .slice (ad (some a232)) y230.length (na232 / 4)), (18, .slice (some ⟨B1, 0, none⟩) 1 (nB1 / 12)), (19, vI 1), (20, vI 0), (22, vP B1 0)]) (by kernel_rfl) ?_
  refine t_v (.ldn rfl rfl rfl (.at 3 rfl rfl)) ?_
  refine t_a (.new rfl rfl) fun b236 fb236 sb236 => ?_
  refine t_sti 0 (cs := [vI 1, vI 0, vI 0, vI 0, vI 0, vI 0, vI m1_6, vI m1_7, vI m1_8, vI m1_9, .slice (some ⟨B2, 0, none⟩) 1 (nB2 / 4), .slice (ad B4) m4_L.length (nB4 / 4)]) rfl rfl rfl rfl rfl rfl rfl rfl rfl ?_
  refine t_keep [2, 3, 4, 9, 11, 18, 19, 20] (σ' := [(2, vI w2), (3, vI y3), (4, vP b229 0), (9, .slice (ad (some a232)) y230.length (na232 / 4)), (11, vP b236 0), (18, .slice (some ⟨B1, 0, none⟩) 1 (nB1 / 12)), (19, vI 1), (20, vI 0)]) (by kernel_rfl) ?_
  refine t_end ?_
  show W _ _ _ _ _ _ _
  refine w_reg fun all => ?_
  refine t_v (.ldn rfl rfl rfl (.at 0 rfl rfl)) ?_
  refine t_qz 2 [2, 3, 4, 9, 18, 19, 20, 24, 25, 26] (σ' := [(2, vI w2), (3, vI y3), (4, vP b229 0), (9, .slice (ad (some a232)) y230.length (na232 / 4)), (18, .slice (some ⟨B1, 0, none⟩) 1 (nB1 / 12)), (19, vI 1), (20, vI 0), (24, .agg #[vI 1, vI 0, vI 0, vI 0, vI 0, vI 0, vI m1_6, vI m1_7, vI m1_8, vI m1_9, .slice (some ⟨B2, 0, none⟩) 1 (nB2 / 4), .slice (ad B4) m4_L.length (nB4 / 4)]), (25, .slice (ad (some a232)) y230.length (na232 / 4)), (26, vP b229 3)]) (by kernel_rfl) ?_
  refine t_v (.ld1 rfl rfl rfl (.at 2 rfl rfl)) ?_
  obtain ⟨t478, h479, e234⟩ := bind_of e234
  obtain ⟨_, h480, e234⟩ := bind_of e234
  have h481 := lsame_ h480
  refine t_qz 1 [2, 3, 4, 9, 18, 19, 20, 24, 25, 27, 28] (σ' := [(2, vI w2), (3, vI y3), (4, vP b229 0), (9, .slice (ad (some a232)) y230.length (na232 / 4)), (18, .slice (some ⟨B1, 0, none⟩) 1 (nB1 / 12)), (19, vI 1), (20, vI 0), (24, .agg #[vI 1, vI 0, vI 0, vI 0, vI 0, vI 0, vI m1_6, vI m1_7, vI m1_8, vI m1_9, .slice (some ⟨B2, 0, none⟩) 1 (nB2 / 4), .slice (ad B4) m4_L.length (nB4 / 4)]), (25, .slice (ad (some a232)) y230.length (na232 / 4)), (27, .slice (some ⟨B0, 0, none⟩) 1 1), (28, vI y3)]) (by kernel_rfl) ?_
  refine t_call (vs := [.agg #[vI 1, vI 0, vI 0, vI 0, vI 0, vI 0, vI m1_6, vI m1_7, vI m1_8, vI m1_9, .slice (some ⟨B2, 0, none⟩) 1 (nB2 / 4), .slice (ad B4) m4_L.length (nB4 / 4)], .slice (ad (some a232)) y230.length (na232 / 4), .slice (some ⟨B0, 0, none⟩) 1 1, vI y3]) (H1 := ([⟨B4, encL E_i644 m4_L, nB4⟩, ⟨some a232, encL E_i644 y230, na232⟩, ⟨B0, [.int .u8 m0_0, .int .u8 m0_1, .int .u8 m0_2, .int .u8 m0_3], 4⟩] : List Own)) (F := ([⟨b236, [vI 1, vI 0, vI 0, vI 0, vI 0, vI 0, vI m1_6, vI m1_7, vI m1_8, vI m1_9, .slice (some ⟨B2, 0, none⟩) 1 (nB2 / 4), .slice (ad B4) m4_L.length (nB4 / 4)], 12⟩, ⟨b229, [vI i0_0, vI i0_1, vI 0, .slice (some ⟨B0, 0, none⟩) 1 1, .slice a_i0_4 n_i0_4 c_i0_4], 5⟩, ⟨B1, [vI 1, vI 0, vI 0, vI 0, vI 0, vI 0, vI m1_6, vI m1_7, vI m1_8, vI m1_9, .slice (some ⟨B2, 0, none⟩) 1 (nB2 / 4), .slice (ad B4) m4_L.length (nB4 / 4)], nB1⟩, ⟨B2, [vI m2_0, vI m2_1, .slice (some ⟨B3, 0, none⟩) 3 (nB3 / 7), vB false], nB2⟩, ⟨B3, [vI 1, vI m3_1, vI m3_2, vI m3_3, vI m3_4, vI m3_5, vI m3_6, vI 1, vI m3_8, vI m3_9, vI m3_10, vI m3_11, vI m3_12, vI m3_13, vI 1, vI m3_15, vI m3_16, vI m3_17, vI m3_18, vI m3_19, vI m3_20], nB3⟩] : List Own)) rfl rfl (by kernel_rfl) (sel_perm (is := [7, 1, 2]) (by kernel_rfl)) (render_layer_over_v1.ok hE_ h479) ?_
  rintro _ _ S_ ⟨rfl, rfl, hS_⟩
  obtain rfl := hS_.symm
  rw [h481]
  refine t_keep [2, 3, 4, 9, 18, 19, 20] (σ' := [(2, vI w2), (3, vI y3), (4, vP b229 0), (9, .slice (ad (some a232)) t478.length (na232 / 4)), (18, .slice (some ⟨B1, 0, none⟩) 1 (nB1 / 12)), (19, vI 1), (20, vI 0)]) (by kernel_rfl) ?_
  refine t_end ?_
  show W _ _ _ _ _ _ _
  refine w_reg fun all => ?_
  refine t_qz 2 [2, 3, 4, 9, 18, 19, 20] (σ' := [(2, vI w2), (3, vI y3), (4, vP b229 0), (9, .slice (ad (some a232)) t478.length (na232 / 4)), (18, .slice (some ⟨B1, 0, none⟩) 1 (nB1 / 12)), (19, vI 1), (20, vI 1)]) (by kernel_rfl) ?_
  refine t_end ?_
  show WL _ _ _ _ _ _ _ _
  refine wl_step ?_
  refine w_seq ?_
  refine w_reg fun all => ?_
  refine t_qz 1 [2, 3, 4, 9, 18, 19, 20, 21] (σ' := [(2, vI w2), (3, vI y3), (4, vP b229 0), (9, .slice (ad (some a232)) t478.length (na232 / 4)), (18, .slice (some ⟨B1, 0, none⟩) 1 (nB1 / 12)), (19, vI 1), (20, vI 1), (21, vB false)]) (by kernel_rfl) ?_
  refine t_end ?_
  show W _ _ _ _ _ _ _
  refine w_seq ?_
  refine w_cond rfl (fun c_ => by cases c_) (fun _ => ?_)
  show W _ _ _ _ _ _ _
  refine w_exit ?_
  obtain rfl := Option.some.inj e234
  exact ⟨([⟨b229, [vI i0_0, vI i0_1, vI 0, .slice (some ⟨B0, 0, none⟩) 1 1, .slice a_i0_4 n_i0_4 c_i0_4], 5⟩, ⟨B0, [.int .u8 m0_0, .int .u8 m0_1, .int .u8 m0_2, .int .u8 m0_3], 4⟩, ⟨B1, [vI 1, vI 0, vI 0, vI 0, vI 0, vI 0, vI m1_6, vI m1_7, vI m1_8, vI m1_9, .slice (some ⟨B2, 0, none⟩) 1 (nB2 / 4), .slice (ad B4) m4_L.length (nB4 / 4)], nB1⟩, ⟨B2, [vI m2_0, vI m2_1, .slice (some ⟨B3, 0, none⟩) 3 (nB3 / 7), vB false], nB2⟩, ⟨B3, [vI 1, vI m3_1, vI m3_2, vI m3_3, vI m3_4, vI m3_5, vI m3_6, vI 1, vI m3_8, vI m3_9, vI m3_10, vI m3_11, vI m3_12, vI m3_13, vI 1, vI m3_15, vI m3_16, vI m3_17, vI m3_18, vI m3_19, vI m3_20], nB3⟩, ⟨some a232, encL E_i644 t478, na232⟩, ⟨B4, encL E_i644 m4_L, nB4⟩] : List Own), S, VS.sel [4, 2, 3, 3, 3, 1, 0] (by kernel_rfl), by kernel_rfl, rfl, rfl⟩
 ·rintro σ_ H_ S_ ⟨rfl, rfl, rfl⟩
  refine w_seq ?_
  refine w_reg fun all => ?_
  obtain ⟨y483, hl484, e⟩ := bind_of e
  refine t_qz 2 [9, 32] (σ' := [(9, .slice (ad (some a232)) y482.length (na232 / 4)), (32, vI (wr64 (4 * w2)))]) (by kernel_rfl) ?_
  refine t_mkl (E := E_u8) (x0 := 0) rfl rfl rfl rfl rfl (by decide) (by decide) rfl hl484 fun a485 na485 => ?_
  refine t_qz 1 [9, 12] (σ' := [(9, .slice (ad (some a232)) y482.length (na232 / 4)), (12, .slice (ad (some a485)) y483.length (na485 / 1))]) (by kernel_rfl) ?_
  refine t_end ?_
  show W _ _ _ _ _ _ _
  obtain ⟨y511, e487, e⟩ := bind_of e
  refine w_cut [12] (fun σ_ H_ S_ => ∃ (a510 : Option Nat) (na510 : Nat), [(12, .slice (ad a510) y511.length (na510 / 1))] = σ_ ∧ ([⟨b229, [vI i0_0, vI i0_1, vI 0, .slice (some ⟨B0, 0, none⟩) 1 1, .slice a_i0_4 n_i0_4 c_i0_4], 5⟩, ⟨B0, [.int .u8 m0_0, .int .u8 m0_1, .int .u8 m0_2, .int .u8 m0_3], 4⟩, ⟨B1, [vI 1, vI 0, vI 0, vI 0, vI 0, vI 0, vI m1_6, vI m1_7, vI m1_8, vI m1_9, .slice (some ⟨B2, 0, none⟩) 1 (nB2 / 4), .slice (ad B4) m4_L.length (nB4 / 4)], nB1⟩, ⟨B2, [vI m2_0, vI m2_1, .slice (some ⟨B3, 0, none⟩) 3 (nB3 / 7), vB false], nB2⟩, ⟨B3, [vI 1, vI m3_1, vI m3_2, vI m3_3, vI m3_4, vI m3_5, vI m3_6, vI 1, vI m3_8, vI m3_9, vI m3_10, vI m3_11, vI m3_12, vI m3_13, vI 1, vI m3_15, vI m3_16, vI m3_17, vI m3_18, vI m3_19, vI m3_20], nB3⟩, ⟨a510, encL E_u8 y511, na510⟩, ⟨B4, encL E_i644 m4_L, nB4⟩, ⟨some a232, encL E_i644 y482, na232⟩] : List Own) = H_ ∧ S = S_) ?_ ?_
  ·show W _ _ _ _ _ _ _
   refine w_seq ?_
   refine w_reg fun all => ?_
   refine t_qz 3 [12, 34, 35, 36] (σ' := [(12, .slice (ad (some a485)) y483.length (na485 / 1)), (34, .slice (ad (some a232)) y482.length (na232 / 4)), (35, vI (y482.length : Int)), (36, vI 0)]) (by kernel_rfl) ?_
   refine t_end ?_
   show W _ _ _ _ _ _ _
   refine w_block ?_
   refine w_kp [12, 34, 35, 36] (σ' := [(12, .slice (ad (some a485)) y483.length (na485 / 1)), (34, .slice (ad (some a232)) y482.length (na232 / 4)), (35, vI (y482.length : Int)), (36, vI 0)]) (by kernel_rfl) ?_
   refine w_loop (fun n_ σ_ H_ S_ => ∃ (x489 : Int) (y491 : List (Int)), ∃ (a490 : Option Nat) (na490 : Nat), [(12, .slice (ad a490) y491.length (na490 / 1)), (34, .slice (ad (some a232)) y482.length (na232 / 4)), (35, vI (y482.length : Int)), (36, vI x489)] = σ_ ∧ ([⟨a490, encL E_u8 y491, na490⟩, ⟨b229, [vI i0_0, vI i0_1, vI 0, .slice (some ⟨B0, 0, none⟩) 1 1, .slice a_i0_4 n_i0_4 c_i0_4], 5⟩, ⟨B0, [.int .u8 m0_0, .int .u8 m0_1, .int .u8 m0_2, .int .u8 m0_3], 4⟩, ⟨B1, [vI 1, vI 0, vI 0, vI 0, vI 0, vI 0, vI m1_6, vI m1_7, vI m1_8, vI m1_9, .slice (some ⟨B2, 0, none⟩) 1 (nB2 / 4), .slice (ad B4) m4_L.length (nB4 / 4)], nB1⟩, ⟨B2, [vI m2_0, vI m2_1, .slice (some ⟨B3, 0, none⟩) 3 (nB3 / 7), vB false], nB2⟩, ⟨B3, [vI 1, vI m3_1, vI m3_2, vI m3_3, vI m3_4, vI m3_5, vI m3_6, vI 1, vI m3_8, vI m3_9, vI m3_10, vI m3_11, vI m3_12, vI m3_13, vI 1, vI m3_15, vI m3_16, vI m3_17, vI m3_18, vI m3_19, vI m3_20], nB3⟩, ⟨some a232, encL E_i644 y482, na232⟩, ⟨B4, encL E_i644 m4_L, nB4⟩] : List Own) = H_ ∧ S = S_ ∧ render_row_v2.l0 n_ y482 x489 y491 = some y511) _ ⟨0, y483, some a485, na485, rfl, rfl, rfl, e487⟩ ?_
   rintro n509 σ_ H_ S_ ⟨x489, y491, a490, na490, rfl, rfl, rfl, e487⟩
   cases n509 with
   | zero => rw [render_row_v2.l0.eq_1] at e487; cases e487
   | succ k_ =>
    rw [render_row_v2.l0.eq_2] at e487
    refine w_seq ?_
    refine w_reg fun all => ?_
    by_cases c492 : x489 < (y482.length : Int)
    ·rw [if_pos c492] at e487
     have c492b : (decide (x489 < (y482.length : Int))) = true := decide_eq_true c492
     refine t_v (dv_quiet rfl (congrArg (fun t => some (Value.bool t)) c492b)) ?_
     refine t_keep [12, 34, 35, 36, 37] (σ' := [(12, .slice (ad a490) y491.length (na490 / 1)), (34, .slice (ad (some a232)) y482.length (na232 / 4)), (35, vI (y482.length : Int)), (36, vI x489), (37, vB true)]) (by kernel_rfl) ?_
     refine t_end ?_
     show W _ _ _ _ _ _ _
     refine w_seq ?_
     refine w_cond rfl (fun _ => ?_) (fun c_ => by cases c_)
     show W _ _ _ _ _ _ _
     refine w_skip ?_
     show W _ _ _ _ _ _ _
     refine w_seq ?_
     refine w_block ?_
     refine w_seq ?_
     refine w_reg fun all => ?_
     obtain ⟨⟨x493, x494, x495, x496⟩, hx497, e487⟩ := bind_of e487
     try dsimp only at e487
     refine t_v (.quietH rfl (by intro h_; cases h_) (ixl (E := E_i644) (j := 6) rfl rfl rfl (by decide) rfl hx497)) ?_
     refine t_v (.ldn (vs := [vI x493, vI x494, vI x495, vI x496]) rfl rfl rfl (.lst 6 rfl (encL_sub (lgt_in hx497).1 (by kernel_rfl)))) ?_
     refine t_a (.new rfl rfl) fun b498 fb498 sb498 => ?_
     refine t_sti 0 (cs := [vI x493, vI x494, vI x495, vI x496]) rfl rfl rfl rfl rfl rfl rfl rfl rfl ?_
     refine t_keep [12, 14, 34, 35, 36] (σ' := [(12, .slice (ad a490) y491.length (na490 / 1)), (14, vP b498 0), (34, .slice (ad (some a232)) y482.length (na232 / 4)), (35, vI (y482.length : Int)), (36, vI x489)]) (by kernel_rfl) ?_
     refine t_end ?_
     show W _ _ _ _ _ _ _
     refine w_seq ?_
     refine w_reg fun all => ?_
     refine t_v (.ldn rfl rfl rfl (.at 0 rfl rfl)) ?_
     obtain ⟨⟨t499, t500, t501, t502⟩, h503, e487⟩ := bind_of e487
     try dsimp only at e487
     refine t_v (.call (vs := [.agg #[vI x493, vI x494, vI x495, vI x496]]) rfl rfl (by kernel_rfl) (blend_Final.ok hE_ h503)) ?_
     refine t_a (.new rfl rfl) fun b504 fb504 sb504 => ?_
     refine t_sti 0 (cs := [.int .u8 t499, .int .u8 t500, .int .u8 t501, .int .u8 t502]) rfl rfl rfl rfl rfl rfl rfl rfl rfl ?_
     refine t_keep [12, 15, 34, 35, 36] (σ' := [(12, .slice (ad a490) y491.length (na490 / 1)), (15, vP b504 0), (34, .slice (ad (some a232)) y482.length (na232 / 4)), (35, vI (y482.length : Int)), (36, vI x489)]) (by kernel_rfl) ?_
     refine t_end ?_
     show W _ _ _ _ _ _ _
     refine w_reg fun all => ?_
     obtain ⟨y505, hl506, e487⟩ := bind_of e487
     refine t_qz 2 [34, 35, 36, 42, 43] (σ' := [(34, .slice (ad (some a232)) y482.length (na232 / 4)), (35, vI (y482.length : Int)), (36, vI x489), (42, .slice (ad a490) y491.length (na490 / 1)), (43, .slice (some ⟨b504, 0, none⟩) 4 4)]) (by kernel_rfl) ?_
     refine t_appX (E := E_u8) (L := y491) (X := ([t499, t500, t501, t502] : List (Int))) (F := ([⟨b504, [.int .u8 t499, .int .u8 t500, .int .u8 t501, .int .u8 t502], 4⟩, ⟨b498, [vI x493, vI x494, vI x495, vI x496], 4⟩, ⟨b229, [vI i0_0, vI i0_1, vI 0, .slice (some ⟨B0, 0, none⟩) 1 1, .slice a_i0_4 n_i0_4 c_i0_4], 5⟩, ⟨B0, [.int .u8 m0_0, .int .u8 m0_1, .int .u8 m0_2, .int .u8 m0_3], 4⟩, ⟨B1, [vI 1, vI 0, vI 0, vI 0, vI 0, vI 0, vI m1_6, vI m1_7, vI m1_8, vI m1_9, .slice (some ⟨B2, 0, none⟩) 1 (nB2 / 4), .slice (ad B4) m4_L.length (nB4 / 4)], nB1⟩, ⟨B2, [vI m2_0, vI m2_1, .slice (some ⟨B3, 0, none⟩) 3 (nB3 / 7), vB false], nB2⟩, ⟨B3, [vI 1, vI m3_1, vI m3_2, vI m3_3, vI m3_4, vI m3_5, vI m3_6, vI 1, vI m3_8, vI m3_9, vI m3_10, vI m3_11, vI m3_12, vI m3_13, vI 1, vI m3_15, vI m3_16, vI m3_17, vI m3_18, vI m3_19, vI m3_20], nB3⟩, ⟨some a232, encL E_i644 y482, na232⟩, ⟨B4, encL E_i644 m4_L, nB4⟩] : List Own)) rfl rfl rfl rfl (sel_perm (is := [2]) (by kernel_rfl)) rfl (Or.inr ⟨_, _, rfl, .at 0 rfl (by kernel_rfl)⟩) rfl (by decide) (by decide) rfl hl506 fun a507 na507 => ?_
     refine t_qz 1 [12, 34, 35, 36] (σ' := [(12, .slice (ad a507) y505.length (na507 / 1)), (34, .slice (ad (some a232)) y482.length (na232 / 4)), (35, vI (y482.length : Int)), (36, vI x489)]) (by kernel_rfl) ?_
     refine t_end ?_
     show W _ _ _ _ _ _ _
     refine w_reg fun all => ?_
     refine t_qz 2 [12, 34, 35, 36] (σ' := [(12, .slice (ad a507) y505.length (na507 / 1)), (34, .slice (ad (some a232)) y482.length (na232 / 4)), (35, vI (y482.length : Int)), (36, vI (wr64 (x489 + 1)))]) (by kernel_rfl) ?_
     refine t_end ?_
     exact ⟨k_, Nat.lt_succ_self _, [(12, .slice (ad a507) y505.length (na507 / 1)), (34, .slice (ad (some a232)) y482.length (na232 / 4)), (35, vI (y482.length : Int)), (36, vI (wr64 (x489 + 1)))], ([⟨a507, encL E_u8 y505, na507⟩, ⟨b229, [vI i0_0, vI i0_1, vI 0, .slice (some ⟨B0, 0, none⟩) 1 1, .slice a_i0_4 n_i0_4 c_i0_4], 5⟩, ⟨B0, [.int .u8 m0_0, .int .u8 m0_1, .int .u8 m0_2, .int .u8 m0_3], 4⟩, ⟨B1, [vI 1, vI 0, vI 0, vI 0, vI 0, vI 0, vI m1_6, vI m1_7, vI m1_8, vI m1_9, .slice (some ⟨B2, 0, none⟩) 1 (nB2 / 4), .slice (ad B4) m4_L.length (nB4 / 4)], nB1⟩, ⟨B2, [vI m2_0, vI m2_1, .slice (some ⟨B3, 0, none⟩) 3 (nB3 / 7), vB false], nB2⟩, ⟨B3, [vI 1, vI m3_1, vI m3_2, vI m3_3, vI m3_4, vI m3_5, vI m3_6, vI 1, vI m3_8, vI m3_9, vI m3_10, vI m3_11, vI m3_12, vI m3_13, vI 1, vI m3_15, vI m3_16, vI m3_17, vI m3_18, vI m3_19, vI m3_20], nB3⟩, ⟨some a232, encL E_i644 y482, na232⟩, ⟨B4, encL E_i644 m4_L, nB4⟩] : List Own), S, keep_sub [12, 34, 35, 36] (by kernel_rfl), VS.sel [0, 2, 2, 2, 2, 2, 2, 2] (by kernel_rfl), wr64 (x489 + 1), y505, a507, na507, rfl, rfl, rfl, e487⟩
    ·rw [if_neg c492] at e487
     have c492b : (decide (x489 < (y482.length : Int))) = false := decide_eq_false c492
     refine t_v (dv_quiet rfl (congrArg (fun t => some (Value.bool t)) c492b)) ?_
     refine t_keep [12, 34, 35, 36, 37] (σ' := [(12, .slice (ad a490) y491.length (na490 / 1)), (34, .slice (ad (some a232)) y482.length (na232 / 4)), (35, vI (y482.length : Int)), (36, vI x489), (37, vB false)]) (by kernel_rfl) ?_
     refine t_end ?_
     show W _ _ _ _ _ _ _
     refine w_seq ?_
     refine w_cond rfl (fun c_ => by cases c_) (fun _ => ?_)
     show W _ _ _ _ _ _ _
     refine w_exit ?_
     obtain rfl := Option.some.inj e487
     exact ⟨([⟨b229, [vI i0_0, vI i0_1, vI 0, .slice (some ⟨B0, 0, none⟩) 1 1, .slice a_i0_4 n_i0_4 c_i0_4], 5⟩, ⟨B0, [.int .u8 m0_0, .int .u8 m0_1, .int .u8 m0_2, .int .u8 m0_3], 4⟩, ⟨B1, [vI 1, vI 0, vI 0, vI 0, vI 0, vI 0, vI m1_6, vI m1_7, vI m1_8, vI m1_9, .slice (some ⟨B2, 0, none⟩) 1 (nB2 / 4), .slice (ad B4) m4_L.length (nB4 / 4)], nB1⟩, ⟨B2, [vI m2_0, vI m2_1, .slice (some ⟨B3, 0, none⟩) 3 (nB3 / 7), vB false], nB2⟩, ⟨B3, [vI 1, vI m3_1, vI m3_2, vI m3_3, vI m3_4, vI m3_5, vI m3_6, vI 1, vI m3_8, vI m3_9, vI m3_10, vI m3_11, vI m3_12, vI m3_13, vI 1, vI m3_15, vI m3_16, vI m3_17, vI m3_18, vI m3_19, vI m3_20], nB3⟩, ⟨a490, encL E_u8 y491, na490⟩, ⟨B4, encL E_i644 m4_L, nB4⟩, ⟨some a232, encL E_i644 y482, na232⟩] : List Own), S, VS.sel [1, 1, 1, 1, 1, 0, 1, 0] (by kernel_rfl), a490, na490, by kernel_rfl, rfl, rfl⟩
  ·rintro σ_ H_ S_ ⟨a510, na510, rfl, rfl, rfl⟩
   refine w_seq ?_
   refine w_reg fun all => ?_
   refine t_qz 2 [8] (σ' := [(8, .slice (ad a510) y511.length (na510 / 1))]) (by kernel_rfl) ?_
   refine t_end ?_
   show W _ _ _ _ _ _ _
   refine w_ret ?_
   obtain rfl := Option.some.inj e
   exact ⟨[.slice (ad a510) y511.length (na510 / 1)], ([⟨a510, encL E_u8 y511, na510⟩, ⟨B0, [.int .u8 m0_0, .int .u8 m0_1, .int .u8 m0_2, .int .u8 m0_3], 4⟩, ⟨B1, [vI 1, vI 0, vI 0, vI 0, vI 0, vI 0, vI m1_6, vI m1_7, vI m1_8, vI m1_9, .slice (some ⟨B2, 0, none⟩) 1 (nB2 / 4), .slice (ad B4) m4_L.length (nB4 / 4)], nB1⟩, ⟨B2, [vI m2_0, vI m2_1, .slice (some ⟨B3, 0, none⟩) 3 (nB3 / 7), vB false], nB2⟩, ⟨B3, [vI 1, vI m3_1, vI m3_2, vI m3_3, vI m3_4, vI m3_5, vI m3_6, vI 1, vI m3_8, vI m3_9, vI m3_10, vI m3_11, vI m3_12, vI m3_13, vI 1, vI m3_15, vI m3_16, vI m3_17, vI m3_18, vI m3_19, vI m3_20], nB3⟩, ⟨B4, encL E_i644 m4_L, nB4⟩] : List Own), S, ⟨rfl, trivial⟩, VS.sel [5, 1, 1, 1, 1, 1] (by kernel_rfl), a510, na510, rfl, rfl, rfl⟩
end Go.Proofs.YtobjaddicodiaaaDoor.QRenderWhole
