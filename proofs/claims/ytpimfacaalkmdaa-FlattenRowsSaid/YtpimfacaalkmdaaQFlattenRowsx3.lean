/- Functions of the program as Lean functions, each with the proof of its walk. Written by gen.py, a program of these sessions. -/
import Derived.Test.YtpimfacaalkmdaaQFlattenRowsx2
namespace Go.Proofs.Ytpimfacaalkmdaa.QFlattenRows
open Go Go.RowKit Go.Proofs.YtpimfacaalkmdaaE
set_option linter.unusedVariables false
set_option maxRecDepth 100000
set_option maxHeartbeats 8000000
/-- glyphiclaw21.FlattenRows -/
def c6 : C :=
  (.seq (.reg [⟨(some 6), .mv (.const (.bool false)), none⟩])
  (.seq (.reg [⟨(some 14), .call 26 [], none⟩,
     ⟨(some 7), .mv (.tmp 14), none⟩])
  (.seq (.seq (.reg [⟨(some 15), .mv (.tmp 7), none⟩,
      ⟨(some 16), .un .not (.tmp 15), none⟩])
   (.cond (.tmp 16)
    (.seq (.reg [⟨(some 6), .mv (.const (.bool false)), none⟩])
     .ret)
    .skip))
  (.seq (.seq (.reg [⟨(some 17), .mv (.tmp 0), none⟩,
      ⟨(some 18), .lns (.tmp 17), none⟩,
      ⟨(some 19), .bin .gtr (.tmp 18) (.const (.int .i64 60)), none⟩])
   (.cond (.tmp 19)
    (.seq (.reg [⟨(some 20), .mv (.tmp 7), none⟩,
        ⟨(some 6), .mv (.tmp 20), none⟩])
     .ret)
    .skip))
  (.seq (.reg [⟨(some 21), .mv (.tmp 1), none⟩,
     ⟨(some 22), .bin .rem (.tmp 21) (.const (.int .i64 20)), none⟩,
     ⟨(some 23), .bin .add (.tmp 22) (.const (.int .i64 20)), none⟩,
     ⟨(some 24), .bin .rem (.tmp 23) (.const (.int .i64 20)), none⟩,
     ⟨(some 25), .bin .add (.tmp 24) (.const (.int .i64 1)), none⟩,
     ⟨(some 1), .mv (.tmp 25), none⟩])
  (.seq (.reg [⟨(some 26), .mv (.tmp 0), none⟩,
     ⟨(some 27), .bld [(.slice none 0 0), (.int .i64 0)] [(0, 1, (.tmp 26))], none⟩,
     ⟨(some 28), .box (.tmp 27), none⟩,
     ⟨(some 29), .mv (.tmp 1), none⟩,
     ⟨(some 30), .cnv .u64 (.tmp 29), none⟩,
     ⟨(some 31), .bin .shl (.const (.int .i64 1)) (.tmp 30), none⟩,
     ⟨(some 32), .call 27 [(.tmp 28), (.tmp 31)], none⟩,
     ⟨(some 8), .new [(.int .i64 0), (.int .i64 0), (.slice none 0 0), (.bool false)], none⟩,
     ⟨none, .st 4 (.tmp 8) (.tmp 32), none⟩])
  (.seq (.reg [⟨(some 33), .ld (some 4) (.tmp 8), none⟩,
     ⟨(some 34), .mv (.tmp 2), none⟩,
     ⟨(some 35), .call 28 [(.tmp 33), (.tmp 34)], none⟩,
     ⟨(some 9), .mv (.tmp 35), none⟩])
  (.seq (.reg [⟨(some 36), .pad 2 (.tmp 8), none⟩,
     ⟨(some 37), .ld none (.tmp 36), none⟩,
     ⟨(some 38), .pad 2 (.tmp 8), none⟩,
     ⟨(some 39), .ld none (.tmp 38), none⟩,
     ⟨(some 40), .lns (.tmp 39), none⟩,
     ⟨(some 41), .bin .sub (.tmp 40) (.const (.int .i64 1)), none⟩,
     ⟨(some 42), .ixs 7 (.tmp 37) (.tmp 41), none⟩,
     ⟨(some 43), .ld (some 7) (.tmp 42), none⟩,
     ⟨(some 10), .new [(.int .i64 0), (.int .i64 0), (.int .i64 0), (.int .i64 0), (.int .i64 0), (.int .i64 0), (.int .i64 0)], none⟩,
     ⟨none, .st 7 (.tmp 10) (.tmp 43), none⟩])
  (.seq (.reg [⟨(some 44), .pad 0 (.tmp 10), none⟩,
     ⟨(some 45), .ld none (.tmp 44), none⟩,
     ⟨(some 46), .bin .sub (.tmp 45) (.const (.int .i64 1)), none⟩,
     ⟨(some 47), .pad 1 (.tmp 10), none⟩,
     ⟨(some 48), .ixa 2 3 (.tmp 47) (.tmp 46), none⟩,
     ⟨(some 49), .ld (some 2) (.tmp 48), none⟩,
     ⟨(some 11), .new [(.int .i64 0), (.int .i64 0)], none⟩,
     ⟨none, .st 2 (.tmp 11) (.tmp 49), none⟩])
  (.seq (.seq (.reg [⟨(some 50), .mv (.tmp 2), none⟩,
      ⟨(some 51), .mv (.tmp 50), none⟩,
      ⟨(some 52), .pad 3 (.tmp 8), (some (51, false))⟩,
      ⟨(some 53), .ld none (.tmp 52), (some (51, false))⟩,
      ⟨(some 54), .pk (.tmp 51) (.const (.bool true)) (.tmp 53), none⟩])
   (.cond (.tmp 54)
    (.reg [⟨(some 55), .pad 0 (.tmp 8), none⟩,
       ⟨(some 56), .ld (some 2) (.tmp 55), none⟩,
       ⟨none, .st 2 (.tmp 11) (.tmp 56), none⟩])
    .skip))
  (.seq (.reg [⟨(some 57), .pad 0 (.tmp 8), none⟩,
     ⟨(some 58), .ld (some 2) (.tmp 57), none⟩,
     ⟨(some 12), .new [(.int .i64 0), (.int .i64 0)], none⟩,
     ⟨none, .st 2 (.tmp 12) (.tmp 58), none⟩])
  (.seq (.seq (.reg [⟨(some 13), .mv (.const (.int .i64 0)), none⟩])
   (.block 0 (.loop (.seq (.seq (.reg [⟨(some 59), .mv (.tmp 13), none⟩,
         ⟨(some 60), .mv (.tmp 9), none⟩,
         ⟨(some 61), .lns (.tmp 60), none⟩,
         ⟨(some 62), .bin .lss (.tmp 59) (.tmp 61), none⟩])
      (.cond (.tmp 62)
       .skip
       (.exit 0)))
     (.seq (.block 1 (.seq (.seq (.drw [⟨(some 65), .mv (.tmp 9), none⟩,
           ⟨(some 66), .mv (.tmp 13), none⟩,
           ⟨(some 67), .ixs 4 (.tmp 65) (.tmp 66), none⟩,
           ⟨(some 68), .pad 0 (.tmp 67), none⟩,
           ⟨(some 69), .ld (some 2) (.tmp 68), none⟩,
           ⟨(some 70), .ld (some 2) (.tmp 12), none⟩,
           ⟨(some 71), .call 25 [(.tmp 69), (.tmp 70)], none⟩,
           ⟨(some 72), .un .not (.tmp 71), none⟩,
           ⟨(some 73), .mv (.tmp 72), none⟩,
           ⟨(some 74), .mv (.tmp 9), (some (73, false))⟩,
           ⟨(some 75), .mv (.tmp 13), (some (73, false))⟩,
           ⟨(some 76), .ixs 4 (.tmp 74) (.tmp 75), (some (73, false))⟩,
           ⟨(some 77), .pad 0 (.tmp 76), (some (73, false))⟩,
           ⟨(some 78), .ld (some 2) (.tmp 77), (some (73, false))⟩,
           ⟨(some 79), .mv (.tmp 9), (some (73, false))⟩,
           ⟨(some 80), .mv (.tmp 13), (some (73, false))⟩,
           ⟨(some 81), .ixs 4 (.tmp 79) (.tmp 80), (some (73, false))⟩,
           ⟨(some 82), .pad 2 (.tmp 81), (some (73, false))⟩,
           ⟨(some 83), .ld (some 2) (.tmp 82), (some (73, false))⟩,
           ⟨(some 84), .call 25 [(.tmp 78), (.tmp 83)], (some (73, false))⟩,
           ⟨(some 85), .pk (.tmp 73) (.const (.bool true)) (.tmp 84), none⟩] [[], [], [0, 1], [2], [3], [], [4, 5], [6], [7, 6], [8], [8], [9, 10, 8], [11, 8], [12, 8], [8], [8], [14, 15, 8], [16, 8], [17, 8], [13, 18, 8, 8], [8, 19]])
        (.cond (.tmp 85)
         (.seq (.reg [⟨(some 6), .mv (.const (.bool false)), none⟩])
          .ret)
         .skip))
       (.reg [⟨(some 86), .mv (.tmp 9), none⟩,
         ⟨(some 87), .mv (.tmp 13), none⟩,
         ⟨(some 88), .ixs 4 (.tmp 86) (.tmp 87), none⟩,
         ⟨(some 89), .pad 2 (.tmp 88), none⟩,
         ⟨(some 90), .ld (some 2) (.tmp 89), none⟩,
         ⟨none, .st 2 (.tmp 12) (.tmp 90), none⟩])))
     (.reg [⟨(some 63), .mv (.tmp 13), none⟩,
       ⟨(some 64), .bin .add (.tmp 63) (.const (.int .i64 1)), none⟩,
       ⟨(some 13), .mv (.tmp 64), none⟩]))))))
  (.seq (.reg [⟨(some 91), .mv (.tmp 7), none⟩,
     ⟨(some 92), .mv (.tmp 91), none⟩,
     ⟨(some 93), .ld (some 2) (.tmp 12), (some (92, true))⟩,
     ⟨(some 94), .ld (some 2) (.tmp 11), (some (92, true))⟩,
     ⟨(some 95), .call 25 [(.tmp 93), (.tmp 94)], (some (92, true))⟩,
     ⟨(some 96), .pk (.tmp 92) (.tmp 95) (.const (.bool false)), none⟩,
     ⟨(some 6), .mv (.tmp 96), none⟩])
  .ret)))))))))))))
def glyphiclaw21_FlattenRows.l0 : Nat → List (Int) → List (Int × Int × Int × Int) → Int → Int → Int → Option ((Bool) ⊕ (Int × Int))
  | 0, _, _, _, _, _ => none
  | k + 1, l0, t373, x399, x400, x401 => if x399 < (t373.length : Int) then ((lgt t373 x399).bind fun (x403, x404, x405, x406) => ((glyphicref_SamePoint.f x403 x404 x400 x401).bind fun t408 => (if t408 = true then ((lgt t373 x399).bind fun (x411, x412, x413, x414) => ((lgt t373 x399).bind fun (x416, x417, x418, x419) => ((glyphicref_SamePoint.f x411 x412 x418 x419).bind fun t421 => (if t421 = true then (some (.inl false)) else ((lgt t373 x399).bind fun (x423, x424, x425, x426) => (glyphiclaw21_FlattenRows.l0 k l0 t373 (wr64 (x399 + 1)) x425 x426)))))) else (some (.inl false))))) else (some (.inr (x400, x401)))
def glyphiclaw21_FlattenRows.l1 : Nat → List (Int × Int × Int × Int) → Int → Int → Int → Option ((Bool) ⊕ (Int × Int))
  | 0, _, _, _, _ => none
  | k + 1, t373, x450, x451, x452 => if x450 < (t373.length : Int) then ((lgt t373 x450).bind fun (x454, x455, x456, x457) => ((glyphicref_SamePoint.f x454 x455 x451 x452).bind fun t459 => (if t459 = true then ((lgt t373 x450).bind fun (x462, x463, x464, x465) => ((lgt t373 x450).bind fun (x467, x468, x469, x470) => ((glyphicref_SamePoint.f x462 x463 x469 x470).bind fun t472 => (if t472 = true then (some (.inl false)) else ((lgt t373 x450).bind fun (x474, x475, x476, x477) => (glyphiclaw21_FlattenRows.l1 k t373 (wr64 (x450 + 1)) x476 x477)))))) else (some (.inl false))))) else (some (.inr (x451, x452)))
def glyphiclaw21_FlattenRows.l2 : Nat → List (Int × Int × Int × Int) → Int → Int → Int → Option ((Bool) ⊕ (Int × Int))
  | 0, _, _, _, _ => none
  | k + 1, t373, x501, x502, x503 => if x501 < (t373.length : Int) then ((lgt t373 x501).bind fun (x505, x506, x507, x508) => ((glyphicref_SamePoint.f x505 x506 x502 x503).bind fun t510 => (if t510 = true then ((lgt t373 x501).bind fun (x513, x514, x515, x516) => ((lgt t373 x501).bind fun (x518, x519, x520, x521) => ((glyphicref_SamePoint.f x513 x514 x520 x521).bind fun t523 => (if t523 = true then (some (.inl false)) else ((lgt t373 x501).bind fun (x525, x526, x527, x528) => (glyphiclaw21_FlattenRows.l2 k t373 (wr64 (x501 + 1)) x527 x528)))))) else (some (.inl false))))) else (some (.inr (x502, x503)))
def glyphiclaw21_FlattenRows.f (k : Nat) (l0 : List (Int)) (far1 : Int) (shut2 : Bool) : Option (Bool) := (glyphiclaw21_first.f).bind fun t40 => (if t40 = true then (if (l0.length : Int) > 60 then (some true) else (if (wru64 (wr64 ((Int.tmod (wr64 ((Int.tmod far1 20) + 20)) 20) + 1))) < 0 then none else ((glyphiclaw21_device_v1.f k (wr64 (1 * 2 ^ (min (Int.toNat (wru64 (wr64 ((Int.tmod (wr64 ((Int.tmod far1 20) + 20)) 20) + 1)))) 64))) l0 0).bind fun (t271, t272, t273, t274, t275) => ((flatten_Path_v2.f k t271 t272 t274 t273 shut2).bind fun t373 => ((lgt t274 (wr64 ((t274.length : Int) - 1))).bind fun (x376, x377, x378, x379, x380, x381, x382) => (if (wr64 (x376 - 1)) = 0 then ((if shut2 = true then (some (true, t271, t272)) else (if t273 = true then (some (true, t271, t272)) else (some (true, x377, x378))) : Option (Bool × Int × Int)).bind fun (x392, x393, x394) => ((glyphiclaw21_FlattenRows.l0 k l0 t373 0 t271 t272 : Option ((Bool) ⊕ (Int × Int))).bind fun s_ => match s_ with | .inl q435 => some q435 | .inr (x430, x431) => (if x392 = true then ((glyphicref_SamePoint.f x430 x431 x393 x394).bind fun t433 => (some t433)) else (some false)))) else (if (wr64 (x376 - 1)) = 1 then ((if shut2 = true then (some (true, t271, t272)) else (if t273 = true then (some (true, t271, t272)) else (some (true, x379, x380))) : Option (Bool × Int × Int)).bind fun (x443, x444, x445) => ((glyphiclaw21_FlattenRows.l1 k t373 0 t271 t272 : Option ((Bool) ⊕ (Int × Int))).bind fun s_ => match s_ with | .inl q486 => some q486 | .inr (x481, x482) => (if x443 = true then ((glyphicref_SamePoint.f x481 x482 x444 x445).bind fun t484 => (some t484)) else (some false)))) else (if (wr64 (x376 - 1)) = 2 then ((if shut2 = true then (some (true, t271, t272)) else (if t273 = true then (some (true, t271, t272)) else (some (true, x381, x382))) : Option (Bool × Int × Int)).bind fun (x494, x495, x496) => ((glyphiclaw21_FlattenRows.l2 k t373 0 t271 t272 : Option ((Bool) ⊕ (Int × Int))).bind fun s_ => match s_ with | .inl q537 => some q537 | .inr (x532, x533) => (if x494 = true then ((glyphicref_SamePoint.f x532 x533 x495 x496).bind fun t535 => (some t535)) else (some false)))) else (none))))))))) else (some false))
theorem glyphiclaw21_FlattenRows.ok {S : Seal} {k : Nat} {l0 : List (Int)} {far1 : Int} {shut2 : Bool} {a_l0 : Option Addr} {c_l0 : Nat} (h_l0 : SlE S E_i64 l0 a_l0) (e : glyphiclaw21_FlattenRows.f k l0 far1 shut2 = some true) :
    Cal Try.prog 6 [.slice a_l0 l0.length c_l0, .int .i64 far1, .bool shut2] [] S fun v H' S' => v = .bool true ∧ H' = [] ∧ S' = S := by
  unfold glyphiclaw21_FlattenRows.f at e
  refine cal_of (c := c6) (N := 97) Try.func6 rfl rfl (by kernel_rfl) (rs := [.t 6]) (by kernel_rfl) (Nat.le_of_ble_eq_true rfl) ?_
  unfold c6
  refine w_seq ?_
  refine w_reg fun all => ?_
  refine t_qz 1 [0, 1, 2] (σ' := [(0, .slice a_l0 l0.length c_l0), (1, .int .i64 far1), (2, .bool shut2)]) (by kernel_rfl) ?_
  refine t_end ?_
  show W _ _ _ _ _ _ _
  refine w_seq ?_
  refine w_reg fun all => ?_
  obtain ⟨t40, h41, e⟩ := bind_of e
  cases t40 with
  | true =>
    rw [if_pos rfl] at e
    refine t_v (.call (vs := []) rfl rfl (by kernel_rfl) (glyphiclaw21_first.ok h41)) ?_
    refine t_qz 1 [0, 1, 2, 7] (σ' := [(0, .slice a_l0 l0.length c_l0), (1, .int .i64 far1), (2, .bool shut2), (7, .bool true)]) (by kernel_rfl) ?_
    refine t_end ?_
    show W _ _ _ _ _ _ _
    refine w_seq ?_
    refine w_seq ?_
    refine w_reg fun all => ?_
    refine t_qz 2 [0, 1, 2, 7, 16] (σ' := [(0, .slice a_l0 l0.length c_l0), (1, .int .i64 far1), (2, .bool shut2), (7, .bool true), (16, .bool false)]) (by kernel_rfl) ?_
    refine t_end ?_
    show W _ _ _ _ _ _ _
    refine w_cond rfl (fun c_ => by cases c_) (fun _ => ?_)
    show W _ _ _ _ _ _ _
    refine w_skip ?_
    show W _ _ _ _ _ _ _
    refine w_seq ?_
    refine w_seq ?_
    refine w_reg fun all => ?_
    by_cases c42 : (l0.length : Int) > 60
    · rw [if_pos c42] at e
      have c42b : (decide ((l0.length : Int) > 60)) = true := decide_eq_true c42
      refine t_qz 2 [0, 1, 2, 7, 18] (σ' := [(0, .slice a_l0 l0.length c_l0), (1, .int .i64 far1), (2, .bool shut2), (7, .bool true), (18, .int .i64 (l0.length : Int))]) (by kernel_rfl) ?_
      refine t_v (dv_quiet rfl (congrArg (fun t => some (Value.bool t)) c42b)) ?_
      refine t_keep [0, 1, 2, 7, 19] (σ' := [(0, .slice a_l0 l0.length c_l0), (1, .int .i64 far1), (2, .bool shut2), (7, .bool true), (19, .bool true)]) (by kernel_rfl) ?_
      refine t_end ?_
      show W _ _ _ _ _ _ _
      refine w_cond rfl (fun _ => ?_) (fun c_ => by cases c_)
      show W _ _ _ _ _ _ _
      refine w_seq ?_
      refine w_reg fun all => ?_
      refine t_qz 2 [6] (σ' := [(6, .bool true)]) (by kernel_rfl) ?_
      refine t_end ?_
      show W _ _ _ _ _ _ _
      refine w_ret ?_
      have hr_ := Option.some.inj e
      exact ⟨[.bool true], [], S, ⟨rfl, trivial⟩, VS.none, congrArg Value.bool hr_, rfl, rfl⟩
    · rw [if_neg c42] at e
      have c42b : (decide ((l0.length : Int) > 60)) = false := decide_eq_false c42
      refine t_qz 2 [0, 1, 2, 7, 18] (σ' := [(0, .slice a_l0 l0.length c_l0), (1, .int .i64 far1), (2, .bool shut2), (7, .bool true), (18, .int .i64 (l0.length : Int))]) (by kernel_rfl) ?_
      refine t_v (dv_quiet rfl (congrArg (fun t => some (Value.bool t)) c42b)) ?_
      refine t_keep [0, 1, 2, 7, 19] (σ' := [(0, .slice a_l0 l0.length c_l0), (1, .int .i64 far1), (2, .bool shut2), (7, .bool true), (19, .bool false)]) (by kernel_rfl) ?_
      refine t_end ?_
      show W _ _ _ _ _ _ _
      refine w_cond rfl (fun c_ => by cases c_) (fun _ => ?_)
      show W _ _ _ _ _ _ _
      refine w_skip ?_
      show W _ _ _ _ _ _ _
      refine w_seq ?_
      refine w_reg fun all => ?_
      refine t_qz 6 [0, 1, 2, 7] (σ' := [(0, .slice a_l0 l0.length c_l0), (1, .int .i64 (wr64 ((Int.tmod (wr64 ((Int.tmod far1 20) + 20)) 20) + 1))), (2, .bool shut2), (7, .bool true)]) (by kernel_rfl) ?_
      refine t_end ?_
      show W _ _ _ _ _ _ _
      refine w_seq ?_
      refine w_reg fun all => ?_
      refine t_qz 2 [1, 2, 7, 27] (σ' := [(1, .int .i64 (wr64 ((Int.tmod (wr64 ((Int.tmod far1 20) + 20)) 20) + 1))), (2, .bool shut2), (7, .bool true), (27, .agg #[.slice a_l0 l0.length c_l0, .int .i64 0])]) (by kernel_rfl) ?_
      refine t_a (.box rfl rfl rfl) fun b43 fb43 sb43 => ?_
      have c44 : ¬ (wru64 (wr64 ((Int.tmod (wr64 ((Int.tmod far1 20) + 20)) 20) + 1))) < 0 := by
        intro h_; rw [if_pos h_] at e; cases e
      rw [if_neg c44] at e
      refine t_qz 2 [2, 7, 28, 30] (σ' := [(2, .bool shut2), (7, .bool true), (28, .pointer (some ⟨b43, 0, none⟩)), (30, .int .u64 (wru64 (wr64 ((Int.tmod (wr64 ((Int.tmod far1 20) + 20)) 20) + 1))))]) (by kernel_rfl) ?_
      refine t_v (.quiet rfl (qv_shl rfl rfl c44)) ?_
      obtain ⟨⟨t271, t272, t273, t274, t275⟩, h276, e⟩ := bind_of e
      try dsimp only at e
      refine t_call (vs := [.pointer (some ⟨b43, 0, none⟩), .int .i64 (wr64 (1 * 2 ^ (min (Int.toNat (wru64 (wr64 ((Int.tmod (wr64 ((Int.tmod far1 20) + 20)) 20) + 1)))) 64)))]) (H1 := ([⟨b43, [.slice a_l0 l0.length c_l0, .int .i64 0], 2⟩] : List Own)) (F := ([] : List Own)) rfl rfl (by kernel_rfl) (sel_perm (is := [0]) (by kernel_rfl)) (glyphiclaw21_device_v1.ok h_l0 h276) ?_
      rintro _ _ S_ ⟨N277, nN277, rfl, rfl, hS_⟩
      obtain rfl := hS_.symm
      refine t_a (.new rfl rfl) fun b278 fb278 sb278 => ?_
      refine t_sti 0 (cs := [.int .i64 t271, .int .i64 t272, .slice (ad N277) t274.length (nN277 / 7), .bool t273]) rfl rfl rfl rfl rfl rfl rfl rfl rfl ?_
      refine t_keep [2, 7, 8] (σ' := [(2, .bool shut2), (7, .bool true), (8, .pointer (some ⟨b278, 0, none⟩))]) (by kernel_rfl) ?_
      refine t_end ?_
      show W _ _ _ _ _ _ _
      refine w_seq ?_
      refine w_reg fun all => ?_
      refine t_v (.ldn rfl rfl rfl (.at 0 rfl rfl)) ?_
      obtain ⟨t373, h374, e⟩ := bind_of e
      refine t_qz 1 [2, 7, 8, 33, 34] (σ' := [(2, .bool shut2), (7, .bool true), (8, .pointer (some ⟨b278, 0, none⟩)), (33, .agg #[.int .i64 t271, .int .i64 t272, .slice (ad N277) t274.length (nN277 / 7), .bool t273]), (34, .bool shut2)]) (by kernel_rfl) ?_
      refine t_call (vs := [.agg #[.int .i64 t271, .int .i64 t272, .slice (ad N277) t274.length (nN277 / 7), .bool t273], .bool shut2]) (H1 := ([⟨N277, encL E_i647 t274, nN277⟩] : List Own)) (F := ([⟨b278, [.int .i64 t271, .int .i64 t272, .slice (ad N277) t274.length (nN277 / 7), .bool t273], 4⟩, ⟨b43, [.slice a_l0 l0.length c_l0, .int .i64 t275], 2⟩] : List Own)) rfl rfl (by kernel_rfl) (sel_perm (is := [1]) (by kernel_rfl)) (cal_lend (Qc := fun v_ H_ => ∃ (N375 : Option Nat) (nN375 : Nat), v_ = (.slice (ad N375) t373.length (nN375 / 4)) ∧ H_ = ([⟨N375, encL E_i644 t373, nN375⟩] : List Own)) fun S1_ le1_ hS1_ => (flatten_Path_v2.ok (SlE.ofAd (E := E_i647) (L := t274) hS1_ (by decide)) h374).mono fun _ _ _ ⟨N375, nN375, h1_, h2_, h3_⟩ => ⟨⟨N375, nN375, h1_, h2_⟩, h3_⟩) ?_
      rintro _ _ S_ ⟨⟨_, rfl, ⟨N375, nN375, rfl, rfl⟩⟩, hS_⟩
      obtain rfl := hS_.symm
      refine t_qz 1 [2, 7, 8, 9] (σ' := [(2, .bool shut2), (7, .bool true), (8, .pointer (some ⟨b278, 0, none⟩)), (9, .slice (ad N375) t373.length (nN375 / 4))]) (by kernel_rfl) ?_
      refine t_end ?_
      show W _ _ _ _ _ _ _
      refine w_seq ?_
      refine w_reg fun all => ?_
      refine t_qz 1 [2, 7, 8, 9, 36] (σ' := [(2, .bool shut2), (7, .bool true), (8, .pointer (some ⟨b278, 0, none⟩)), (9, .slice (ad N375) t373.length (nN375 / 4)), (36, .pointer (some ⟨b278, 2, none⟩))]) (by kernel_rfl) ?_
      refine t_v (.ld1 rfl rfl rfl (.at 2 rfl rfl)) ?_
      refine t_qz 1 [2, 7, 8, 9, 37, 38] (σ' := [(2, .bool shut2), (7, .bool true), (8, .pointer (some ⟨b278, 0, none⟩)), (9, .slice (ad N375) t373.length (nN375 / 4)), (37, .slice (ad N277) t274.length (nN277 / 7)), (38, .pointer (some ⟨b278, 2, none⟩))]) (by kernel_rfl) ?_
      refine t_v (.ld1 rfl rfl rfl (.at 2 rfl rfl)) ?_
      obtain ⟨⟨x376, x377, x378, x379, x380, x381, x382⟩, hx383, e⟩ := bind_of e
      try dsimp only at e
      refine t_qz 2 [2, 7, 8, 9, 37, 41] (σ' := [(2, .bool shut2), (7, .bool true), (8, .pointer (some ⟨b278, 0, none⟩)), (9, .slice (ad N375) t373.length (nN375 / 4)), (37, .slice (ad N277) t274.length (nN277 / 7)), (41, .int .i64 (wr64 ((t274.length : Int) - 1)))]) (by kernel_rfl) ?_
      refine t_v (.quietH rfl (by intro h_; cases h_) (ixl (E := E_i647) (j := 0) rfl rfl rfl (by decide) rfl hx383)) ?_
      refine t_v (.ldn (vs := [.int .i64 x376, .int .i64 x377, .int .i64 x378, .int .i64 x379, .int .i64 x380, .int .i64 x381, .int .i64 x382]) rfl rfl rfl (.lst 0 rfl (encL_sub (lgt_in hx383).1 (by kernel_rfl)))) ?_
      refine t_a (.new rfl rfl) fun b384 fb384 sb384 => ?_
      refine t_sti 0 (cs := [.int .i64 x376, .int .i64 x377, .int .i64 x378, .int .i64 x379, .int .i64 x380, .int .i64 x381, .int .i64 x382]) rfl rfl rfl rfl rfl rfl rfl rfl rfl ?_
      refine t_keep [2, 7, 8, 9, 10] (σ' := [(2, .bool shut2), (7, .bool true), (8, .pointer (some ⟨b278, 0, none⟩)), (9, .slice (ad N375) t373.length (nN375 / 4)), (10, .pointer (some ⟨b384, 0, none⟩))]) (by kernel_rfl) ?_
      refine t_end ?_
      show W _ _ _ _ _ _ _
      refine w_seq ?_
      refine w_reg fun all => ?_
      refine t_qz 1 [2, 7, 8, 9, 10, 44] (σ' := [(2, .bool shut2), (7, .bool true), (8, .pointer (some ⟨b278, 0, none⟩)), (9, .slice (ad N375) t373.length (nN375 / 4)), (10, .pointer (some ⟨b384, 0, none⟩)), (44, .pointer (some ⟨b384, 0, none⟩))]) (by kernel_rfl) ?_
      refine t_v (.ld1 rfl rfl rfl (.at 0 rfl rfl)) ?_
      by_cases c385 : (wr64 (x376 - 1)) = 0
      · rw [if_pos c385] at e
        have c385b : ((wr64 (x376 - 1)) == 0) = true := beq_iff_eq.mpr c385
        refine t_qz 2 [2, 7, 8, 9, 46, 47] (σ' := [(2, .bool shut2), (7, .bool true), (8, .pointer (some ⟨b278, 0, none⟩)), (9, .slice (ad N375) t373.length (nN375 / 4)), (46, .int .i64 (wr64 (x376 - 1))), (47, .pointer (some ⟨b384, 1, none⟩))]) (by kernel_rfl) ?_
        refine t_v (.quiet rfl (ixa_at (j := 0) (u := .pointer (some ⟨b384, 1, none⟩)) rfl c385b (by kernel_rfl))) ?_
        refine t_v (.ldn rfl rfl rfl (.at 0 rfl rfl)) ?_
        refine t_a (.new rfl rfl) fun b386 fb386 sb386 => ?_
        refine t_sti 0 (cs := [.int .i64 x377, .int .i64 x378]) rfl rfl rfl rfl rfl rfl rfl rfl rfl ?_
        refine t_keep [2, 7, 8, 9, 11] (σ' := [(2, .bool shut2), (7, .bool true), (8, .pointer (some ⟨b278, 0, none⟩)), (9, .slice (ad N375) t373.length (nN375 / 4)), (11, .pointer (some ⟨b386, 0, none⟩))]) (by kernel_rfl) ?_
        refine t_end ?_
        show W _ _ _ _ _ _ _
        obtain ⟨⟨x392, x393, x394⟩, e388, e⟩ := bind_of e
        try dsimp only at e
        refine w_cut [7, 8, 9, 11] (fun σ_ H_ S_ => [(7, .bool x392), (8, .pointer (some ⟨b278, 0, none⟩)), (9, .slice (ad N375) t373.length (nN375 / 4)), (11, .pointer (some ⟨b386, 0, none⟩))] = σ_ ∧ ([⟨b386, [.int .i64 x393, .int .i64 x394], 2⟩, ⟨b384, [.int .i64 x376, .int .i64 x377, .int .i64 x378, .int .i64 x379, .int .i64 x380, .int .i64 x381, .int .i64 x382], 7⟩, ⟨b278, [.int .i64 t271, .int .i64 t272, .slice (ad N277) t274.length (nN277 / 7), .bool t273], 4⟩, ⟨b43, [.slice a_l0 l0.length c_l0, .int .i64 t275], 2⟩, ⟨N375, encL E_i644 t373, nN375⟩, ⟨N277, encL E_i647 t274, nN277⟩] : List Own) = H_ ∧ S = S_) ?_ ?_
        · show W _ _ _ _ _ _ _
          refine w_seq ?_
          refine w_reg fun all => ?_
          by_cases c390 : shut2 = true
          · rw [if_pos c390] at e388
            have c390b : shut2 = true := c390
            refine t_v (dv_quiet rfl (congrArg (fun t => some (Value.bool t)) c390b)) ?_
            refine t_qz 4 [7, 8, 9, 11, 54] (σ' := [(7, .bool true), (8, .pointer (some ⟨b278, 0, none⟩)), (9, .slice (ad N375) t373.length (nN375 / 4)), (11, .pointer (some ⟨b386, 0, none⟩)), (54, .bool true)]) (by kernel_rfl) ?_
            refine t_end ?_
            show W _ _ _ _ _ _ _
            refine w_cond rfl (fun _ => ?_) (fun c_ => by cases c_)
            show W _ _ _ _ _ _ _
            refine w_reg fun all => ?_
            refine t_qz 1 [7, 8, 9, 11, 55] (σ' := [(7, .bool true), (8, .pointer (some ⟨b278, 0, none⟩)), (9, .slice (ad N375) t373.length (nN375 / 4)), (11, .pointer (some ⟨b386, 0, none⟩)), (55, .pointer (some ⟨b278, 0, none⟩))]) (by kernel_rfl) ?_
            refine t_v (.ldn rfl rfl rfl (.at 4 rfl rfl)) ?_
            refine t_sti 0 (cs := [.int .i64 t271, .int .i64 t272]) rfl rfl rfl rfl rfl rfl rfl rfl rfl ?_
            refine t_keep [7, 8, 9, 11] (σ' := [(7, .bool true), (8, .pointer (some ⟨b278, 0, none⟩)), (9, .slice (ad N375) t373.length (nN375 / 4)), (11, .pointer (some ⟨b386, 0, none⟩))]) (by kernel_rfl) ?_
            refine t_end ?_
            simp only [Option.some.injEq, Prod.mk.injEq] at e388
            obtain ⟨rfl, rfl, rfl⟩ := e388
            exact ⟨([⟨b386, [.int .i64 t271, .int .i64 t272], 2⟩, ⟨b384, [.int .i64 x376, .int .i64 x377, .int .i64 x378, .int .i64 x379, .int .i64 x380, .int .i64 x381, .int .i64 x382], 7⟩, ⟨b278, [.int .i64 t271, .int .i64 t272, .slice (ad N277) t274.length (nN277 / 7), .bool t273], 4⟩, ⟨b43, [.slice a_l0 l0.length c_l0, .int .i64 t275], 2⟩, ⟨N375, encL E_i644 t373, nN375⟩, ⟨N277, encL E_i647 t274, nN277⟩] : List Own), S, VS.sel [0, 0, 2, 2, 1, 0] (by kernel_rfl), by kernel_rfl, rfl, rfl⟩
          · rw [if_neg c390] at e388
            have c390b : shut2 = false := Bool.eq_false_iff.mpr c390
            refine t_v (dv_quiet rfl (congrArg (fun t => some (Value.bool t)) c390b)) ?_
            by_cases c391 : t273 = true
            · rw [if_pos c391] at e388
              have c391b : t273 = true := c391
              refine t_qz 2 [7, 8, 9, 11, 51, 52] (σ' := [(7, .bool true), (8, .pointer (some ⟨b278, 0, none⟩)), (9, .slice (ad N375) t373.length (nN375 / 4)), (11, .pointer (some ⟨b386, 0, none⟩)), (51, .bool false), (52, .pointer (some ⟨b278, 3, none⟩))]) (by kernel_rfl) ?_
              refine t_v (dv_eq (congrArg (fun t => Value.bool t) c391b) (.ld1 rfl rfl rfl (.at 4 rfl rfl))) ?_
              refine t_qz 1 [7, 8, 9, 11, 54] (σ' := [(7, .bool true), (8, .pointer (some ⟨b278, 0, none⟩)), (9, .slice (ad N375) t373.length (nN375 / 4)), (11, .pointer (some ⟨b386, 0, none⟩)), (54, .bool true)]) (by kernel_rfl) ?_
              refine t_end ?_
              show W _ _ _ _ _ _ _
              refine w_cond rfl (fun _ => ?_) (fun c_ => by cases c_)
              show W _ _ _ _ _ _ _
              refine w_reg fun all => ?_
              refine t_qz 1 [7, 8, 9, 11, 55] (σ' := [(7, .bool true), (8, .pointer (some ⟨b278, 0, none⟩)), (9, .slice (ad N375) t373.length (nN375 / 4)), (11, .pointer (some ⟨b386, 0, none⟩)), (55, .pointer (some ⟨b278, 0, none⟩))]) (by kernel_rfl) ?_
              refine t_v (.ldn rfl rfl rfl (.at 4 rfl rfl)) ?_
              refine t_sti 0 (cs := [.int .i64 t271, .int .i64 t272]) rfl rfl rfl rfl rfl rfl rfl rfl rfl ?_
              refine t_keep [7, 8, 9, 11] (σ' := [(7, .bool true), (8, .pointer (some ⟨b278, 0, none⟩)), (9, .slice (ad N375) t373.length (nN375 / 4)), (11, .pointer (some ⟨b386, 0, none⟩))]) (by kernel_rfl) ?_
              refine t_end ?_
              simp only [Option.some.injEq, Prod.mk.injEq] at e388
              obtain ⟨rfl, rfl, rfl⟩ := e388
              exact ⟨([⟨b386, [.int .i64 t271, .int .i64 t272], 2⟩, ⟨b384, [.int .i64 x376, .int .i64 x377, .int .i64 x378, .int .i64 x379, .int .i64 x380, .int .i64 x381, .int .i64 x382], 7⟩, ⟨b278, [.int .i64 t271, .int .i64 t272, .slice (ad N277) t274.length (nN277 / 7), .bool t273], 4⟩, ⟨b43, [.slice a_l0 l0.length c_l0, .int .i64 t275], 2⟩, ⟨N375, encL E_i644 t373, nN375⟩, ⟨N277, encL E_i647 t274, nN277⟩] : List Own), S, VS.sel [0, 0, 2, 2, 1, 0] (by kernel_rfl), by kernel_rfl, rfl, rfl⟩
            · rw [if_neg c391] at e388
              have c391b : t273 = false := Bool.eq_false_iff.mpr c391
              refine t_qz 2 [7, 8, 9, 11, 51, 52] (σ' := [(7, .bool true), (8, .pointer (some ⟨b278, 0, none⟩)), (9, .slice (ad N375) t373.length (nN375 / 4)), (11, .pointer (some ⟨b386, 0, none⟩)), (51, .bool false), (52, .pointer (some ⟨b278, 3, none⟩))]) (by kernel_rfl) ?_
              refine t_v (dv_eq (congrArg (fun t => Value.bool t) c391b) (.ld1 rfl rfl rfl (.at 4 rfl rfl))) ?_
              refine t_qz 1 [7, 8, 9, 11, 54] (σ' := [(7, .bool true), (8, .pointer (some ⟨b278, 0, none⟩)), (9, .slice (ad N375) t373.length (nN375 / 4)), (11, .pointer (some ⟨b386, 0, none⟩)), (54, .bool false)]) (by kernel_rfl) ?_
              refine t_end ?_
              show W _ _ _ _ _ _ _
              refine w_cond rfl (fun c_ => by cases c_) (fun _ => ?_)
              show W _ _ _ _ _ _ _
              refine w_skip ?_
              simp only [Option.some.injEq, Prod.mk.injEq] at e388
              obtain ⟨rfl, rfl, rfl⟩ := e388
              exact ⟨([⟨b386, [.int .i64 x377, .int .i64 x378], 2⟩, ⟨b384, [.int .i64 x376, .int .i64 x377, .int .i64 x378, .int .i64 x379, .int .i64 x380, .int .i64 x381, .int .i64 x382], 7⟩, ⟨b278, [.int .i64 t271, .int .i64 t272, .slice (ad N277) t274.length (nN277 / 7), .bool t273], 4⟩, ⟨b43, [.slice a_l0 l0.length c_l0, .int .i64 t275], 2⟩, ⟨N375, encL E_i644 t373, nN375⟩, ⟨N277, encL E_i647 t274, nN277⟩] : List Own), S, VS.sel [0, 0, 2, 2, 1, 0] (by kernel_rfl), by kernel_rfl, rfl, rfl⟩
        · rintro σ_ H_ S_ ⟨rfl, rfl, rfl⟩
          refine w_seq ?_
          refine w_reg fun all => ?_
          refine t_qz 1 [7, 9, 11, 57] (σ' := [(7, .bool x392), (9, .slice (ad N375) t373.length (nN375 / 4)), (11, .pointer (some ⟨b386, 0, none⟩)), (57, .pointer (some ⟨b278, 0, none⟩))]) (by kernel_rfl) ?_
          refine t_v (.ldn rfl rfl rfl (.at 2 rfl rfl)) ?_
          refine t_a (.new rfl rfl) fun b395 fb395 sb395 => ?_
          refine t_sti 0 (cs := [.int .i64 t271, .int .i64 t272]) rfl rfl rfl rfl rfl rfl rfl rfl rfl ?_
          refine t_keep [7, 9, 11, 12] (σ' := [(7, .bool x392), (9, .slice (ad N375) t373.length (nN375 / 4)), (11, .pointer (some ⟨b386, 0, none⟩)), (12, .pointer (some ⟨b395, 0, none⟩))]) (by kernel_rfl) ?_
          refine t_end ?_
          show W _ _ _ _ _ _ _
          obtain ⟨s398, e397, e⟩ := bind_of e
          refine w_cut [7, 11, 12] (fun σ_ H_ S_ => ∃ (x430 : Int) (x431 : Int), s398 = .inr (x430, x431) ∧ [(7, .bool x392), (11, .pointer (some ⟨b386, 0, none⟩)), (12, .pointer (some ⟨b395, 0, none⟩))] = σ_ ∧ ([⟨b395, [.int .i64 x430, .int .i64 x431], 2⟩, ⟨b386, [.int .i64 x393, .int .i64 x394], 2⟩, ⟨b384, [.int .i64 x376, .int .i64 x377, .int .i64 x378, .int .i64 x379, .int .i64 x380, .int .i64 x381, .int .i64 x382], 7⟩, ⟨b278, [.int .i64 t271, .int .i64 t272, .slice (ad N277) t274.length (nN277 / 7), .bool t273], 4⟩, ⟨b43, [.slice a_l0 l0.length c_l0, .int .i64 t275], 2⟩, ⟨N277, encL E_i647 t274, nN277⟩, ⟨N375, encL E_i644 t373, nN375⟩] : List Own) = H_ ∧ S = S_) ?_ ?_
          · show W _ _ _ _ _ _ _
            refine w_seq ?_
            refine w_reg fun all => ?_
            refine t_qz 1 [7, 9, 11, 12, 13] (σ' := [(7, .bool x392), (9, .slice (ad N375) t373.length (nN375 / 4)), (11, .pointer (some ⟨b386, 0, none⟩)), (12, .pointer (some ⟨b395, 0, none⟩)), (13, .int .i64 0)]) (by kernel_rfl) ?_
            refine t_end ?_
            show W _ _ _ _ _ _ _
            refine w_block ?_
            refine w_kp [7, 9, 11, 12, 13] (σ' := [(7, .bool x392), (9, .slice (ad N375) t373.length (nN375 / 4)), (11, .pointer (some ⟨b386, 0, none⟩)), (12, .pointer (some ⟨b395, 0, none⟩)), (13, .int .i64 0)]) (by kernel_rfl) ?_
            refine w_loop (fun n_ σ_ H_ S_ => ∃ (x399 : Int) (x400 : Int) (x401 : Int), [(7, .bool x392), (9, .slice (ad N375) t373.length (nN375 / 4)), (11, .pointer (some ⟨b386, 0, none⟩)), (12, .pointer (some ⟨b395, 0, none⟩)), (13, .int .i64 x399)] = σ_ ∧ ([⟨b395, [.int .i64 x400, .int .i64 x401], 2⟩, ⟨b386, [.int .i64 x393, .int .i64 x394], 2⟩, ⟨b384, [.int .i64 x376, .int .i64 x377, .int .i64 x378, .int .i64 x379, .int .i64 x380, .int .i64 x381, .int .i64 x382], 7⟩, ⟨b278, [.int .i64 t271, .int .i64 t272, .slice (ad N277) t274.length (nN277 / 7), .bool t273], 4⟩, ⟨b43, [.slice a_l0 l0.length c_l0, .int .i64 t275], 2⟩, ⟨N375, encL E_i644 t373, nN375⟩, ⟨N277, encL E_i647 t274, nN277⟩] : List Own) = H_ ∧ S = S_ ∧ glyphiclaw21_FlattenRows.l0 n_ l0 t373 x399 x400 x401 = some s398) _ ⟨0, t271, t272, rfl, rfl, rfl, e397⟩ ?_
            rintro n429 σ_ H_ S_ ⟨x399, x400, x401, rfl, rfl, rfl, e397⟩
            cases n429 with
            | zero => rw [glyphiclaw21_FlattenRows.l0.eq_1] at e397; cases e397
            | succ k_ =>
              rw [glyphiclaw21_FlattenRows.l0.eq_2] at e397
              refine w_seq ?_
              refine w_seq ?_
              refine w_reg fun all => ?_
              by_cases c402 : x399 < (t373.length : Int)
              · rw [if_pos c402] at e397
                have c402b : (decide (x399 < (t373.length : Int))) = true := decide_eq_true c402
                refine t_qz 3 [7, 9, 11, 12, 13, 59, 61] (σ' := [(7, .bool x392), (9, .slice (ad N375) t373.length (nN375 / 4)), (11, .pointer (some ⟨b386, 0, none⟩)), (12, .pointer (some ⟨b395, 0, none⟩)), (13, .int .i64 x399), (59, .int .i64 x399), (61, .int .i64 (t373.length : Int))]) (by kernel_rfl) ?_
                refine t_v (dv_quiet rfl (congrArg (fun t => some (Value.bool t)) c402b)) ?_
                refine t_keep [7, 9, 11, 12, 13, 62] (σ' := [(7, .bool x392), (9, .slice (ad N375) t373.length (nN375 / 4)), (11, .pointer (some ⟨b386, 0, none⟩)), (12, .pointer (some ⟨b395, 0, none⟩)), (13, .int .i64 x399), (62, .bool true)]) (by kernel_rfl) ?_
                refine t_end ?_
                show W _ _ _ _ _ _ _
                refine w_cond rfl (fun _ => ?_) (fun c_ => by cases c_)
                show W _ _ _ _ _ _ _
                refine w_skip ?_
                show W _ _ _ _ _ _ _
                refine w_seq ?_
                refine w_block ?_
                refine w_seq ?_
                refine w_seq ?_
                obtain ⟨⟨x403, x404, x405, x406⟩, hx407, e397⟩ := bind_of e397
                try dsimp only at e397
                obtain ⟨t408, h409, e397⟩ := bind_of e397
                by_cases c410 : t408 = true
                · rw [if_pos c410] at e397
                  have c410b : t408 = true := c410
                  obtain ⟨⟨x411, x412, x413, x414⟩, hx415, e397⟩ := bind_of e397
                  try dsimp only at e397
                  obtain ⟨⟨x416, x417, x418, x419⟩, hx420, e397⟩ := bind_of e397
                  try dsimp only at e397
                  obtain ⟨t421, h422, e397⟩ := bind_of e397
                  cases t421 with
                  | true =>
                    rw [if_pos rfl] at e397
                    refine w_drwE mixed 21 [.v (.slice (ad N375) t373.length (nN375 / 4)), .v (.int .i64 x399), .v (.pointer (some ⟨bk N375, (x399).toNat * 4 + 0, none⟩)), .v (.pointer (some ⟨bk N375, (x399).toNat * 4 + 0, none⟩)), .v (.agg #[.int .i64 x403, .int .i64 x404]), .v (.agg #[.int .i64 x400, .int .i64 x401]), .v (.bool t408), .v (.bool false), .v (.bool false), .v (.slice (ad N375) t373.length (nN375 / 4)), .v (.int .i64 x399), .v (.pointer (some ⟨bk N375, (x399).toNat * 4 + 0, none⟩)), .v (.pointer (some ⟨bk N375, (x399).toNat * 4 + 0, none⟩)), .v (.agg #[.int .i64 x411, .int .i64 x412]), .v (.slice (ad N375) t373.length (nN375 / 4)), .v (.int .i64 x399), .v (.pointer (some ⟨bk N375, (x399).toNat * 4 + 0, none⟩)), .v (.pointer (some ⟨bk N375, (x399).toNat * 4 + 2, none⟩)), .v (.agg #[.int .i64 x418, .int .i64 x419]), .v (.bool true), .v (.bool true)] (by kernel_rfl) ?_ ?_
                    · refine DI.sq 2 (by kernel_rfl) rfl ?_
                      refine .cons (.quietH rfl (by intro h_; cases h_) (ixl (E := E_i644) (j := 5) rfl rfl rfl (by decide) rfl hx407)) ?_
                      refine DI.sq 1 (by kernel_rfl) rfl ?_
                      refine .cons (.ldn (vs := [.int .i64 x403, .int .i64 x404]) rfl rfl rfl (.lst 5 rfl (encL_sub (lgt_in hx407).1 (by kernel_rfl)))) ?_
                      refine .cons (.ldn rfl rfl rfl (.at 0 rfl rfl)) ?_
                      refine .cons (.call (vs := [.agg #[.int .i64 x403, .int .i64 x404], .agg #[.int .i64 x400, .int .i64 x401]]) rfl rfl (by kernel_rfl) (glyphicref_SamePoint.ok h409)) ?_
                      refine .cons (dv_quiet rfl (congrArg (fun t => some (Value.bool (!t))) c410b)) ?_
                      refine DI.sq 3 (by kernel_rfl) rfl ?_
                      refine .cons (.quietH rfl (by intro h_; cases h_) (ixl (E := E_i644) (j := 5) rfl rfl rfl (by decide) rfl hx415)) ?_
                      refine DI.sq 1 (by kernel_rfl) rfl ?_
                      refine .cons (.ldn (vs := [.int .i64 x411, .int .i64 x412]) rfl rfl rfl (.lst 5 rfl (encL_sub (lgt_in hx415).1 (by kernel_rfl)))) ?_
                      refine DI.sq 2 (by kernel_rfl) rfl ?_
                      refine .cons (.quietH rfl (by intro h_; cases h_) (ixl (E := E_i644) (j := 5) rfl rfl rfl (by decide) rfl hx420)) ?_
                      refine DI.sq 1 (by kernel_rfl) rfl ?_
                      refine .cons (.ldn (vs := [.int .i64 x418, .int .i64 x419]) rfl rfl rfl (.lst 5 rfl (encL_sub (lgt_in hx420).1 (by kernel_rfl)))) ?_
                      refine .cons (.call (vs := [.agg #[.int .i64 x411, .int .i64 x412], .agg #[.int .i64 x418, .int .i64 x419]]) rfl rfl (by kernel_rfl) (glyphicref_SamePoint.ok h422)) ?_
                      refine DI.sq 1 (by kernel_rfl) rfl ?_
                      exact .nil
                    refine fk_q 21 [7, 9, 11, 12, 13, 74, 75, 76, 77, 78, 79, 80, 81, 82, 83, 84, 85] (σ' := [(7, .bool x392), (9, .slice (ad N375) t373.length (nN375 / 4)), (11, .pointer (some ⟨b386, 0, none⟩)), (12, .pointer (some ⟨b395, 0, none⟩)), (13, .int .i64 x399), (74, .slice (ad N375) t373.length (nN375 / 4)), (75, .int .i64 x399), (76, .pointer (some ⟨bk N375, (x399).toNat * 4 + 0, none⟩)), (77, .pointer (some ⟨bk N375, (x399).toNat * 4 + 0, none⟩)), (78, .agg #[.int .i64 x411, .int .i64 x412]), (79, .slice (ad N375) t373.length (nN375 / 4)), (80, .int .i64 x399), (81, .pointer (some ⟨bk N375, (x399).toNat * 4 + 0, none⟩)), (82, .pointer (some ⟨bk N375, (x399).toNat * 4 + 2, none⟩)), (83, .agg #[.int .i64 x418, .int .i64 x419]), (84, .bool true), (85, .bool true)]) t_more (by kernel_rfl) ?_
                    refine fk_nil fun all => ?_
                    refine t_keep [7, 9, 11, 12, 13, 74, 75, 76, 77, 78, 79, 80, 81, 82, 83, 84, 85] (σ' := [(7, .bool x392), (9, .slice (ad N375) t373.length (nN375 / 4)), (11, .pointer (some ⟨b386, 0, none⟩)), (12, .pointer (some ⟨b395, 0, none⟩)), (13, .int .i64 x399), (74, .slice (ad N375) t373.length (nN375 / 4)), (75, .int .i64 x399), (76, .pointer (some ⟨bk N375, (x399).toNat * 4 + 0, none⟩)), (77, .pointer (some ⟨bk N375, (x399).toNat * 4 + 0, none⟩)), (78, .agg #[.int .i64 x411, .int .i64 x412]), (79, .slice (ad N375) t373.length (nN375 / 4)), (80, .int .i64 x399), (81, .pointer (some ⟨bk N375, (x399).toNat * 4 + 0, none⟩)), (82, .pointer (some ⟨bk N375, (x399).toNat * 4 + 2, none⟩)), (83, .agg #[.int .i64 x418, .int .i64 x419]), (84, .bool true), (85, .bool true)]) (by kernel_rfl) ?_
                    refine t_end ?_
                    show W _ _ _ _ _ _ _
                    refine w_cond rfl (fun _ => ?_) (fun c_ => by cases c_)
                    show W _ _ _ _ _ _ _
                    refine w_seq ?_
                    refine w_reg fun all => ?_
                    refine t_qz 1 [6] (σ' := [(6, .bool false)]) (by kernel_rfl) ?_
                    refine t_end ?_
                    show W _ _ _ _ _ _ _
                    refine w_ret ?_
                    obtain rfl := Option.some.inj e397
                    have hr_ := Option.some.inj e
                    exact ⟨[.bool false], [], S, ⟨rfl, trivial⟩, VS.none, congrArg Value.bool hr_, rfl, rfl⟩
                  | false =>
                    rw [if_neg (by decide)] at e397
                    refine w_drwE mixed 21 [.v (.slice (ad N375) t373.length (nN375 / 4)), .v (.int .i64 x399), .v (.pointer (some ⟨bk N375, (x399).toNat * 4 + 0, none⟩)), .v (.pointer (some ⟨bk N375, (x399).toNat * 4 + 0, none⟩)), .v (.agg #[.int .i64 x403, .int .i64 x404]), .v (.agg #[.int .i64 x400, .int .i64 x401]), .v (.bool t408), .v (.bool false), .v (.bool false), .v (.slice (ad N375) t373.length (nN375 / 4)), .v (.int .i64 x399), .v (.pointer (some ⟨bk N375, (x399).toNat * 4 + 0, none⟩)), .v (.pointer (some ⟨bk N375, (x399).toNat * 4 + 0, none⟩)), .v (.agg #[.int .i64 x411, .int .i64 x412]), .v (.slice (ad N375) t373.length (nN375 / 4)), .v (.int .i64 x399), .v (.pointer (some ⟨bk N375, (x399).toNat * 4 + 0, none⟩)), .v (.pointer (some ⟨bk N375, (x399).toNat * 4 + 2, none⟩)), .v (.agg #[.int .i64 x418, .int .i64 x419]), .v (.bool false), .v (.bool false)] (by kernel_rfl) ?_ ?_
                    · refine DI.sq 2 (by kernel_rfl) rfl ?_
                      refine .cons (.quietH rfl (by intro h_; cases h_) (ixl (E := E_i644) (j := 5) rfl rfl rfl (by decide) rfl hx407)) ?_
                      refine DI.sq 1 (by kernel_rfl) rfl ?_
                      refine .cons (.ldn (vs := [.int .i64 x403, .int .i64 x404]) rfl rfl rfl (.lst 5 rfl (encL_sub (lgt_in hx407).1 (by kernel_rfl)))) ?_
                      refine .cons (.ldn rfl rfl rfl (.at 0 rfl rfl)) ?_
                      refine .cons (.call (vs := [.agg #[.int .i64 x403, .int .i64 x404], .agg #[.int .i64 x400, .int .i64 x401]]) rfl rfl (by kernel_rfl) (glyphicref_SamePoint.ok h409)) ?_
                      refine .cons (dv_quiet rfl (congrArg (fun t => some (Value.bool (!t))) c410b)) ?_
                      refine DI.sq 3 (by kernel_rfl) rfl ?_
                      refine .cons (.quietH rfl (by intro h_; cases h_) (ixl (E := E_i644) (j := 5) rfl rfl rfl (by decide) rfl hx415)) ?_
                      refine DI.sq 1 (by kernel_rfl) rfl ?_
                      refine .cons (.ldn (vs := [.int .i64 x411, .int .i64 x412]) rfl rfl rfl (.lst 5 rfl (encL_sub (lgt_in hx415).1 (by kernel_rfl)))) ?_
                      refine DI.sq 2 (by kernel_rfl) rfl ?_
                      refine .cons (.quietH rfl (by intro h_; cases h_) (ixl (E := E_i644) (j := 5) rfl rfl rfl (by decide) rfl hx420)) ?_
                      refine DI.sq 1 (by kernel_rfl) rfl ?_
                      refine .cons (.ldn (vs := [.int .i64 x418, .int .i64 x419]) rfl rfl rfl (.lst 5 rfl (encL_sub (lgt_in hx420).1 (by kernel_rfl)))) ?_
                      refine .cons (.call (vs := [.agg #[.int .i64 x411, .int .i64 x412], .agg #[.int .i64 x418, .int .i64 x419]]) rfl rfl (by kernel_rfl) (glyphicref_SamePoint.ok h422)) ?_
                      refine DI.sq 1 (by kernel_rfl) rfl ?_
                      exact .nil
                    refine fk_q 21 [7, 9, 11, 12, 13, 74, 75, 76, 77, 78, 79, 80, 81, 82, 83, 84, 85] (σ' := [(7, .bool x392), (9, .slice (ad N375) t373.length (nN375 / 4)), (11, .pointer (some ⟨b386, 0, none⟩)), (12, .pointer (some ⟨b395, 0, none⟩)), (13, .int .i64 x399), (74, .slice (ad N375) t373.length (nN375 / 4)), (75, .int .i64 x399), (76, .pointer (some ⟨bk N375, (x399).toNat * 4 + 0, none⟩)), (77, .pointer (some ⟨bk N375, (x399).toNat * 4 + 0, none⟩)), (78, .agg #[.int .i64 x411, .int .i64 x412]), (79, .slice (ad N375) t373.length (nN375 / 4)), (80, .int .i64 x399), (81, .pointer (some ⟨bk N375, (x399).toNat * 4 + 0, none⟩)), (82, .pointer (some ⟨bk N375, (x399).toNat * 4 + 2, none⟩)), (83, .agg #[.int .i64 x418, .int .i64 x419]), (84, .bool false), (85, .bool false)]) t_more (by kernel_rfl) ?_
                    refine fk_nil fun all => ?_
                    refine t_keep [7, 9, 11, 12, 13, 74, 75, 76, 77, 78, 79, 80, 81, 82, 83, 84, 85] (σ' := [(7, .bool x392), (9, .slice (ad N375) t373.length (nN375 / 4)), (11, .pointer (some ⟨b386, 0, none⟩)), (12, .pointer (some ⟨b395, 0, none⟩)), (13, .int .i64 x399), (74, .slice (ad N375) t373.length (nN375 / 4)), (75, .int .i64 x399), (76, .pointer (some ⟨bk N375, (x399).toNat * 4 + 0, none⟩)), (77, .pointer (some ⟨bk N375, (x399).toNat * 4 + 0, none⟩)), (78, .agg #[.int .i64 x411, .int .i64 x412]), (79, .slice (ad N375) t373.length (nN375 / 4)), (80, .int .i64 x399), (81, .pointer (some ⟨bk N375, (x399).toNat * 4 + 0, none⟩)), (82, .pointer (some ⟨bk N375, (x399).toNat * 4 + 2, none⟩)), (83, .agg #[.int .i64 x418, .int .i64 x419]), (84, .bool false), (85, .bool false)]) (by kernel_rfl) ?_
                    refine t_end ?_
                    show W _ _ _ _ _ _ _
                    refine w_cond rfl (fun c_ => by cases c_) (fun _ => ?_)
                    show W _ _ _ _ _ _ _
                    refine w_skip ?_
                    show W _ _ _ _ _ _ _
                    refine w_reg fun all => ?_
                    obtain ⟨⟨x423, x424, x425, x426⟩, hx427, e397⟩ := bind_of e397
                    try dsimp only at e397
                    refine t_qz 2 [7, 9, 11, 12, 13, 74, 75, 76, 77, 78, 79, 80, 81, 82, 83, 84, 86, 87] (σ' := [(7, .bool x392), (9, .slice (ad N375) t373.length (nN375 / 4)), (11, .pointer (some ⟨b386, 0, none⟩)), (12, .pointer (some ⟨b395, 0, none⟩)), (13, .int .i64 x399), (74, .slice (ad N375) t373.length (nN375 / 4)), (75, .int .i64 x399), (76, .pointer (some ⟨bk N375, (x399).toNat * 4 + 0, none⟩)), (77, .pointer (some ⟨bk N375, (x399).toNat * 4 + 0, none⟩)), (78, .agg #[.int .i64 x411, .int .i64 x412]), (79, .slice (ad N375) t373.length (nN375 / 4)), (80, .int .i64 x399), (81, .pointer (some ⟨bk N375, (x399).toNat * 4 + 0, none⟩)), (82, .pointer (some ⟨bk N375, (x399).toNat * 4 + 2, none⟩)), (83, .agg #[.int .i64 x418, .int .i64 x419]), (84, .bool false), (86, .slice (ad N375) t373.length (nN375 / 4)), (87, .int .i64 x399)]) (by kernel_rfl) ?_
                    refine t_v (.quietH rfl (by intro h_; cases h_) (ixl (E := E_i644) (j := 5) rfl rfl rfl (by decide) rfl hx427)) ?_
                    refine t_qz 1 [7, 9, 11, 12, 13, 74, 75, 76, 77, 78, 79, 80, 81, 82, 83, 84, 89] (σ' := [(7, .bool x392), (9, .slice (ad N375) t373.length (nN375 / 4)), (11, .pointer (some ⟨b386, 0, none⟩)), (12, .pointer (some ⟨b395, 0, none⟩)), (13, .int .i64 x399), (74, .slice (ad N375) t373.length (nN375 / 4)), (75, .int .i64 x399), (76, .pointer (some ⟨bk N375, (x399).toNat * 4 + 0, none⟩)), (77, .pointer (some ⟨bk N375, (x399).toNat * 4 + 0, none⟩)), (78, .agg #[.int .i64 x411, .int .i64 x412]), (79, .slice (ad N375) t373.length (nN375 / 4)), (80, .int .i64 x399), (81, .pointer (some ⟨bk N375, (x399).toNat * 4 + 0, none⟩)), (82, .pointer (some ⟨bk N375, (x399).toNat * 4 + 2, none⟩)), (83, .agg #[.int .i64 x418, .int .i64 x419]), (84, .bool false), (89, .pointer (some ⟨bk N375, (x399).toNat * 4 + 2, none⟩))]) (by kernel_rfl) ?_
                    refine t_v (.ldn (vs := [.int .i64 x425, .int .i64 x426]) rfl rfl rfl (.lst 5 rfl (encL_sub (lgt_in hx427).1 (by kernel_rfl)))) ?_
                    refine t_sti 0 (cs := [.int .i64 x425, .int .i64 x426]) rfl rfl rfl rfl rfl rfl rfl rfl rfl ?_
                    refine t_keep [7, 9, 11, 12, 13, 74, 75, 76, 77, 78, 79, 80, 81, 82, 83, 84] (σ' := [(7, .bool x392), (9, .slice (ad N375) t373.length (nN375 / 4)), (11, .pointer (some ⟨b386, 0, none⟩)), (12, .pointer (some ⟨b395, 0, none⟩)), (13, .int .i64 x399), (74, .slice (ad N375) t373.length (nN375 / 4)), (75, .int .i64 x399), (76, .pointer (some ⟨bk N375, (x399).toNat * 4 + 0, none⟩)), (77, .pointer (some ⟨bk N375, (x399).toNat * 4 + 0, none⟩)), (78, .agg #[.int .i64 x411, .int .i64 x412]), (79, .slice (ad N375) t373.length (nN375 / 4)), (80, .int .i64 x399), (81, .pointer (some ⟨bk N375, (x399).toNat * 4 + 0, none⟩)), (82, .pointer (some ⟨bk N375, (x399).toNat * 4 + 2, none⟩)), (83, .agg #[.int .i64 x418, .int .i64 x419]), (84, .bool false)]) (by kernel_rfl) ?_
                    refine t_end ?_
                    show W _ _ _ _ _ _ _
                    refine w_reg fun all => ?_
                    refine t_qz 3 [7, 9, 11, 12, 13, 74, 75, 76, 77, 78, 79, 80, 81, 82, 83, 84] (σ' := [(7, .bool x392), (9, .slice (ad N375) t373.length (nN375 / 4)), (11, .pointer (some ⟨b386, 0, none⟩)), (12, .pointer (some ⟨b395, 0, none⟩)), (13, .int .i64 (wr64 (x399 + 1))), (74, .slice (ad N375) t373.length (nN375 / 4)), (75, .int .i64 x399), (76, .pointer (some ⟨bk N375, (x399).toNat * 4 + 0, none⟩)), (77, .pointer (some ⟨bk N375, (x399).toNat * 4 + 0, none⟩)), (78, .agg #[.int .i64 x411, .int .i64 x412]), (79, .slice (ad N375) t373.length (nN375 / 4)), (80, .int .i64 x399), (81, .pointer (some ⟨bk N375, (x399).toNat * 4 + 0, none⟩)), (82, .pointer (some ⟨bk N375, (x399).toNat * 4 + 2, none⟩)), (83, .agg #[.int .i64 x418, .int .i64 x419]), (84, .bool false)]) (by kernel_rfl) ?_
                    refine t_end ?_
                    exact ⟨k_, Nat.lt_succ_self _, [(7, .bool x392), (9, .slice (ad N375) t373.length (nN375 / 4)), (11, .pointer (some ⟨b386, 0, none⟩)), (12, .pointer (some ⟨b395, 0, none⟩)), (13, .int .i64 (wr64 (x399 + 1)))], ([⟨b395, [.int .i64 x425, .int .i64 x426], 2⟩, ⟨b386, [.int .i64 x393, .int .i64 x394], 2⟩, ⟨b384, [.int .i64 x376, .int .i64 x377, .int .i64 x378, .int .i64 x379, .int .i64 x380, .int .i64 x381, .int .i64 x382], 7⟩, ⟨b278, [.int .i64 t271, .int .i64 t272, .slice (ad N277) t274.length (nN277 / 7), .bool t273], 4⟩, ⟨b43, [.slice a_l0 l0.length c_l0, .int .i64 t275], 2⟩, ⟨N375, encL E_i644 t373, nN375⟩, ⟨N277, encL E_i647 t274, nN277⟩] : List Own), S, keep_sub [7, 9, 11, 12, 13] (by kernel_rfl), VS.sel [0, 0, 0, 0, 0, 0, 0] (by kernel_rfl), wr64 (x399 + 1), x425, x426, rfl, rfl, rfl, e397⟩
                · rw [if_neg c410] at e397
                  have c410b : t408 = false := Bool.eq_false_iff.mpr c410
                  refine w_drwE mixed 21 [.v (.slice (ad N375) t373.length (nN375 / 4)), .v (.int .i64 x399), .v (.pointer (some ⟨bk N375, (x399).toNat * 4 + 0, none⟩)), .v (.pointer (some ⟨bk N375, (x399).toNat * 4 + 0, none⟩)), .v (.agg #[.int .i64 x403, .int .i64 x404]), .v (.agg #[.int .i64 x400, .int .i64 x401]), .v (.bool t408), .v (.bool true), .v (.bool true), .v (.tuple #[]), .v (.tuple #[]), .v (.tuple #[]), .v (.tuple #[]), .v (.tuple #[]), .v (.tuple #[]), .v (.tuple #[]), .v (.tuple #[]), .v (.tuple #[]), .v (.tuple #[]), .v (.tuple #[]), .v (.bool true)] (by kernel_rfl) ?_ ?_
                  · refine DI.sq 2 (by kernel_rfl) rfl ?_
                    refine .cons (.quietH rfl (by intro h_; cases h_) (ixl (E := E_i644) (j := 5) rfl rfl rfl (by decide) rfl hx407)) ?_
                    refine DI.sq 1 (by kernel_rfl) rfl ?_
                    refine .cons (.ldn (vs := [.int .i64 x403, .int .i64 x404]) rfl rfl rfl (.lst 5 rfl (encL_sub (lgt_in hx407).1 (by kernel_rfl)))) ?_
                    refine .cons (.ldn rfl rfl rfl (.at 0 rfl rfl)) ?_
                    refine .cons (.call (vs := [.agg #[.int .i64 x403, .int .i64 x404], .agg #[.int .i64 x400, .int .i64 x401]]) rfl rfl (by kernel_rfl) (glyphicref_SamePoint.ok h409)) ?_
                    refine .cons (dv_quiet rfl (congrArg (fun t => some (Value.bool (!t))) c410b)) ?_
                    refine DI.sq 13 (by kernel_rfl) rfl ?_
                    exact .nil
                  refine fk_q 21 [7, 9, 11, 12, 13, 74, 75, 76, 77, 78, 79, 80, 81, 82, 83, 84, 85] (σ' := [(7, .bool x392), (9, .slice (ad N375) t373.length (nN375 / 4)), (11, .pointer (some ⟨b386, 0, none⟩)), (12, .pointer (some ⟨b395, 0, none⟩)), (13, .int .i64 x399), (74, .tuple #[]), (75, .tuple #[]), (76, .tuple #[]), (77, .tuple #[]), (78, .tuple #[]), (79, .tuple #[]), (80, .tuple #[]), (81, .tuple #[]), (82, .tuple #[]), (83, .tuple #[]), (84, .tuple #[]), (85, .bool true)]) t_more (by kernel_rfl) ?_
                  refine fk_nil fun all => ?_
                  refine t_keep [7, 9, 11, 12, 13, 74, 75, 76, 77, 78, 79, 80, 81, 82, 83, 84, 85] (σ' := [(7, .bool x392), (9, .slice (ad N375) t373.length (nN375 / 4)), (11, .pointer (some ⟨b386, 0, none⟩)), (12, .pointer (some ⟨b395, 0, none⟩)), (13, .int .i64 x399), (74, .tuple #[]), (75, .tuple #[]), (76, .tuple #[]), (77, .tuple #[]), (78, .tuple #[]), (79, .tuple #[]), (80, .tuple #[]), (81, .tuple #[]), (82, .tuple #[]), (83, .tuple #[]), (84, .tuple #[]), (85, .bool true)]) (by kernel_rfl) ?_
                  refine t_end ?_
                  show W _ _ _ _ _ _ _
                  refine w_cond rfl (fun _ => ?_) (fun c_ => by cases c_)
                  show W _ _ _ _ _ _ _
                  refine w_seq ?_
                  refine w_reg fun all => ?_
                  refine t_qz 1 [6] (σ' := [(6, .bool false)]) (by kernel_rfl) ?_
                  refine t_end ?_
                  show W _ _ _ _ _ _ _
                  refine w_ret ?_
                  obtain rfl := Option.some.inj e397
                  have hr_ := Option.some.inj e
                  exact ⟨[.bool false], [], S, ⟨rfl, trivial⟩, VS.none, congrArg Value.bool hr_, rfl, rfl⟩
              · rw [if_neg c402] at e397
                have c402b : (decide (x399 < (t373.length : Int))) = false := decide_eq_false c402
                refine t_qz 3 [7, 9, 11, 12, 13, 59, 61] (σ' := [(7, .bool x392), (9, .slice (ad N375) t373.length (nN375 / 4)), (11, .pointer (some ⟨b386, 0, none⟩)), (12, .pointer (some ⟨b395, 0, none⟩)), (13, .int .i64 x399), (59, .int .i64 x399), (61, .int .i64 (t373.length : Int))]) (by kernel_rfl) ?_
                refine t_v (dv_quiet rfl (congrArg (fun t => some (Value.bool t)) c402b)) ?_
                refine t_keep [7, 9, 11, 12, 13, 62] (σ' := [(7, .bool x392), (9, .slice (ad N375) t373.length (nN375 / 4)), (11, .pointer (some ⟨b386, 0, none⟩)), (12, .pointer (some ⟨b395, 0, none⟩)), (13, .int .i64 x399), (62, .bool false)]) (by kernel_rfl) ?_
                refine t_end ?_
                show W _ _ _ _ _ _ _
                refine w_cond rfl (fun c_ => by cases c_) (fun _ => ?_)
                show W _ _ _ _ _ _ _
                refine w_exit ?_
                obtain rfl := Option.some.inj e397
                exact ⟨([⟨b395, [.int .i64 x400, .int .i64 x401], 2⟩, ⟨b386, [.int .i64 x393, .int .i64 x394], 2⟩, ⟨b384, [.int .i64 x376, .int .i64 x377, .int .i64 x378, .int .i64 x379, .int .i64 x380, .int .i64 x381, .int .i64 x382], 7⟩, ⟨b278, [.int .i64 t271, .int .i64 t272, .slice (ad N277) t274.length (nN277 / 7), .bool t273], 4⟩, ⟨b43, [.slice a_l0 l0.length c_l0, .int .i64 t275], 2⟩, ⟨N277, encL E_i647 t274, nN277⟩, ⟨N375, encL E_i644 t373, nN375⟩] : List Own), S, VS.sel [0, 0, 0, 0, 0, 1, 0] (by kernel_rfl), x400, x401, rfl, by kernel_rfl, rfl, rfl⟩
          · rintro σ_ H_ S_ ⟨x430, x431, rfl, rfl, rfl, rfl⟩
            dsimp only at e
            refine w_seq ?_
            refine w_reg fun all => ?_
            by_cases c432 : x392 = true
            · rw [if_pos c432] at e
              have c432b : x392 = true := c432
              refine t_v (dv_quiet rfl (congrArg (fun t => some (Value.bool t)) c432b)) ?_
              refine t_qz 1 [11, 12, 92] (σ' := [(11, .pointer (some ⟨b386, 0, none⟩)), (12, .pointer (some ⟨b395, 0, none⟩)), (92, .bool true)]) (by kernel_rfl) ?_
              refine t_v (.ldn rfl rfl rfl (.at 0 rfl rfl)) ?_
              refine t_v (.ldn rfl rfl rfl (.at 1 rfl rfl)) ?_
              obtain ⟨t433, h434, e⟩ := bind_of e
              refine t_v (.call (vs := [.agg #[.int .i64 x430, .int .i64 x431], .agg #[.int .i64 x393, .int .i64 x394]]) rfl rfl (by kernel_rfl) (glyphicref_SamePoint.ok h434)) ?_
              refine t_qz 2 [6] (σ' := [(6, .bool t433)]) (by kernel_rfl) ?_
              refine t_end ?_
              show W _ _ _ _ _ _ _
              refine w_ret ?_
              have hr_ := Option.some.inj e
              exact ⟨[.bool t433], [], S, ⟨rfl, trivial⟩, VS.none, congrArg Value.bool hr_, rfl, rfl⟩
            · rw [if_neg c432] at e
              exact absurd (Option.some.inj e) (by decide)
      · rw [if_neg c385] at e
        have c385b : ((wr64 (x376 - 1)) == 0) = false := beq_eq_false_iff_ne.mpr c385
        by_cases c436 : (wr64 (x376 - 1)) = 1
        · rw [if_pos c436] at e
          have c436b : ((wr64 (x376 - 1)) == 1) = true := beq_iff_eq.mpr c436
          refine t_qz 2 [2, 7, 8, 9, 46, 47] (σ' := [(2, .bool shut2), (7, .bool true), (8, .pointer (some ⟨b278, 0, none⟩)), (9, .slice (ad N375) t373.length (nN375 / 4)), (46, .int .i64 (wr64 (x376 - 1))), (47, .pointer (some ⟨b384, 1, none⟩))]) (by kernel_rfl) ?_
          refine t_v (.quiet rfl (ixa_at (j := 1) (u := .pointer (some ⟨b384, 3, none⟩)) rfl c436b (by kernel_rfl))) ?_
          refine t_v (.ldn rfl rfl rfl (.at 0 rfl rfl)) ?_
          refine t_a (.new rfl rfl) fun b437 fb437 sb437 => ?_
          refine t_sti 0 (cs := [.int .i64 x379, .int .i64 x380]) rfl rfl rfl rfl rfl rfl rfl rfl rfl ?_
          refine t_keep [2, 7, 8, 9, 11] (σ' := [(2, .bool shut2), (7, .bool true), (8, .pointer (some ⟨b278, 0, none⟩)), (9, .slice (ad N375) t373.length (nN375 / 4)), (11, .pointer (some ⟨b437, 0, none⟩))]) (by kernel_rfl) ?_
          refine t_end ?_
          show W _ _ _ _ _ _ _
          obtain ⟨⟨x443, x444, x445⟩, e439, e⟩ := bind_of e
          try dsimp only at e
          refine w_cut [7, 8, 9, 11] (fun σ_ H_ S_ => [(7, .bool x443), (8, .pointer (some ⟨b278, 0, none⟩)), (9, .slice (ad N375) t373.length (nN375 / 4)), (11, .pointer (some ⟨b437, 0, none⟩))] = σ_ ∧ ([⟨b437, [.int .i64 x444, .int .i64 x445], 2⟩, ⟨b384, [.int .i64 x376, .int .i64 x377, .int .i64 x378, .int .i64 x379, .int .i64 x380, .int .i64 x381, .int .i64 x382], 7⟩, ⟨b278, [.int .i64 t271, .int .i64 t272, .slice (ad N277) t274.length (nN277 / 7), .bool t273], 4⟩, ⟨b43, [.slice a_l0 l0.length c_l0, .int .i64 t275], 2⟩, ⟨N375, encL E_i644 t373, nN375⟩, ⟨N277, encL E_i647 t274, nN277⟩] : List Own) = H_ ∧ S = S_) ?_ ?_
          · show W _ _ _ _ _ _ _
            refine w_seq ?_
            refine w_reg fun all => ?_
            by_cases c441 : shut2 = true
            · rw [if_pos c441] at e439
              have c441b : shut2 = true := c441
              refine t_v (dv_quiet rfl (congrArg (fun t => some (Value.bool t)) c441b)) ?_
              refine t_qz 4 [7, 8, 9, 11, 54] (σ' := [(7, .bool true), (8, .pointer (some ⟨b278, 0, none⟩)), (9, .slice (ad N375) t373.length (nN375 / 4)), (11, .pointer (some ⟨b437, 0, none⟩)), (54, .bool true)]) (by kernel_rfl) ?_
              refine t_end ?_
              show W _ _ _ _ _ _ _
              refine w_cond rfl (fun _ => ?_) (fun c_ => by cases c_)
              show W _ _ _ _ _ _ _
              refine w_reg fun all => ?_
              refine t_qz 1 [7, 8, 9, 11, 55] (σ' := [(7, .bool true), (8, .pointer (some ⟨b278, 0, none⟩)), (9, .slice (ad N375) t373.length (nN375 / 4)), (11, .pointer (some ⟨b437, 0, none⟩)), (55, .pointer (some ⟨b278, 0, none⟩))]) (by kernel_rfl) ?_
              refine t_v (.ldn rfl rfl rfl (.at 4 rfl rfl)) ?_
              refine t_sti 0 (cs := [.int .i64 t271, .int .i64 t272]) rfl rfl rfl rfl rfl rfl rfl rfl rfl ?_
              refine t_keep [7, 8, 9, 11] (σ' := [(7, .bool true), (8, .pointer (some ⟨b278, 0, none⟩)), (9, .slice (ad N375) t373.length (nN375 / 4)), (11, .pointer (some ⟨b437, 0, none⟩))]) (by kernel_rfl) ?_
              refine t_end ?_
              simp only [Option.some.injEq, Prod.mk.injEq] at e439
              obtain ⟨rfl, rfl, rfl⟩ := e439
              exact ⟨([⟨b437, [.int .i64 t271, .int .i64 t272], 2⟩, ⟨b384, [.int .i64 x376, .int .i64 x377, .int .i64 x378, .int .i64 x379, .int .i64 x380, .int .i64 x381, .int .i64 x382], 7⟩, ⟨b278, [.int .i64 t271, .int .i64 t272, .slice (ad N277) t274.length (nN277 / 7), .bool t273], 4⟩, ⟨b43, [.slice a_l0 l0.length c_l0, .int .i64 t275], 2⟩, ⟨N375, encL E_i644 t373, nN375⟩, ⟨N277, encL E_i647 t274, nN277⟩] : List Own), S, VS.sel [0, 0, 2, 2, 1, 0] (by kernel_rfl), by kernel_rfl, rfl, rfl⟩
            · rw [if_neg c441] at e439
              have c441b : shut2 = false := Bool.eq_false_iff.mpr c441
              refine t_v (dv_quiet rfl (congrArg (fun t => some (Value.bool t)) c441b)) ?_
              by_cases c442 : t273 = true
              · rw [if_pos c442] at e439
                have c442b : t273 = true := c442
                refine t_qz 2 [7, 8, 9, 11, 51, 52] (σ' := [(7, .bool true), (8, .pointer (some ⟨b278, 0, none⟩)), (9, .slice (ad N375) t373.length (nN375 / 4)), (11, .pointer (some ⟨b437, 0, none⟩)), (51, .bool false), (52, .pointer (some ⟨b278, 3, none⟩))]) (by kernel_rfl) ?_
                refine t_v (dv_eq (congrArg (fun t => Value.bool t) c442b) (.ld1 rfl rfl rfl (.at 4 rfl rfl))) ?_
                refine t_qz 1 [7, 8, 9, 11, 54] (σ' := [(7, .bool true), (8, .pointer (some ⟨b278, 0, none⟩)), (9, .slice (ad N375) t373.length (nN375 / 4)), (11, .pointer (some ⟨b437, 0, none⟩)), (54, .bool true)]) (by kernel_rfl) ?_
                refine t_end ?_
                show W _ _ _ _ _ _ _
                refine w_cond rfl (fun _ => ?_) (fun c_ => by cases c_)
                show W _ _ _ _ _ _ _
                refine w_reg fun all => ?_
                refine t_qz 1 [7, 8, 9, 11, 55] (σ' := [(7, .bool true), (8, .pointer (some ⟨b278, 0, none⟩)), (9, .slice (ad N375) t373.length (nN375 / 4)), (11, .pointer (some ⟨b437, 0, none⟩)), (55, .pointer (some ⟨b278, 0, none⟩))]) (by kernel_rfl) ?_
                refine t_v (.ldn rfl rfl rfl (.at 4 rfl rfl)) ?_
                refine t_sti 0 (cs := [.int .i64 t271, .int .i64 t272]) rfl rfl rfl rfl rfl rfl rfl rfl rfl ?_
                refine t_keep [7, 8, 9, 11] (σ' := [(7, .bool true), (8, .pointer (some ⟨b278, 0, none⟩)), (9, .slice (ad N375) t373.length (nN375 / 4)), (11, .pointer (some ⟨b437, 0, none⟩))]) (by kernel_rfl) ?_
                refine t_end ?_
                simp only [Option.some.injEq, Prod.mk.injEq] at e439
                obtain ⟨rfl, rfl, rfl⟩ := e439
                exact ⟨([⟨b437, [.int .i64 t271, .int .i64 t272], 2⟩, ⟨b384, [.int .i64 x376, .int .i64 x377, .int .i64 x378, .int .i64 x379, .int .i64 x380, .int .i64 x381, .int .i64 x382], 7⟩, ⟨b278, [.int .i64 t271, .int .i64 t272, .slice (ad N277) t274.length (nN277 / 7), .bool t273], 4⟩, ⟨b43, [.slice a_l0 l0.length c_l0, .int .i64 t275], 2⟩, ⟨N375, encL E_i644 t373, nN375⟩, ⟨N277, encL E_i647 t274, nN277⟩] : List Own), S, VS.sel [0, 0, 2, 2, 1, 0] (by kernel_rfl), by kernel_rfl, rfl, rfl⟩
              · rw [if_neg c442] at e439
                have c442b : t273 = false := Bool.eq_false_iff.mpr c442
                refine t_qz 2 [7, 8, 9, 11, 51, 52] (σ' := [(7, .bool true), (8, .pointer (some ⟨b278, 0, none⟩)), (9, .slice (ad N375) t373.length (nN375 / 4)), (11, .pointer (some ⟨b437, 0, none⟩)), (51, .bool false), (52, .pointer (some ⟨b278, 3, none⟩))]) (by kernel_rfl) ?_
                refine t_v (dv_eq (congrArg (fun t => Value.bool t) c442b) (.ld1 rfl rfl rfl (.at 4 rfl rfl))) ?_
                refine t_qz 1 [7, 8, 9, 11, 54] (σ' := [(7, .bool true), (8, .pointer (some ⟨b278, 0, none⟩)), (9, .slice (ad N375) t373.length (nN375 / 4)), (11, .pointer (some ⟨b437, 0, none⟩)), (54, .bool false)]) (by kernel_rfl) ?_
                refine t_end ?_
                show W _ _ _ _ _ _ _
                refine w_cond rfl (fun c_ => by cases c_) (fun _ => ?_)
                show W _ _ _ _ _ _ _
                refine w_skip ?_
                simp only [Option.some.injEq, Prod.mk.injEq] at e439
                obtain ⟨rfl, rfl, rfl⟩ := e439
                exact ⟨([⟨b437, [.int .i64 x379, .int .i64 x380], 2⟩, ⟨b384, [.int .i64 x376, .int .i64 x377, .int .i64 x378, .int .i64 x379, .int .i64 x380, .int .i64 x381, .int .i64 x382], 7⟩, ⟨b278, [.int .i64 t271, .int .i64 t272, .slice (ad N277) t274.length (nN277 / 7), .bool t273], 4⟩, ⟨b43, [.slice a_l0 l0.length c_l0, .int .i64 t275], 2⟩, ⟨N375, encL E_i644 t373, nN375⟩, ⟨N277, encL E_i647 t274, nN277⟩] : List Own), S, VS.sel [0, 0, 2, 2, 1, 0] (by kernel_rfl), by kernel_rfl, rfl, rfl⟩
          · rintro σ_ H_ S_ ⟨rfl, rfl, rfl⟩
            refine w_seq ?_
            refine w_reg fun all => ?_
            refine t_qz 1 [7, 9, 11, 57] (σ' := [(7, .bool x443), (9, .slice (ad N375) t373.length (nN375 / 4)), (11, .pointer (some ⟨b437, 0, none⟩)), (57, .pointer (some ⟨b278, 0, none⟩))]) (by kernel_rfl) ?_
            refine t_v (.ldn rfl rfl rfl (.at 2 rfl rfl)) ?_
            refine t_a (.new rfl rfl) fun b446 fb446 sb446 => ?_
            refine t_sti 0 (cs := [.int .i64 t271, .int .i64 t272]) rfl rfl rfl rfl rfl rfl rfl rfl rfl ?_
            refine t_keep [7, 9, 11, 12] (σ' := [(7, .bool x443), (9, .slice (ad N375) t373.length (nN375 / 4)), (11, .pointer (some ⟨b437, 0, none⟩)), (12, .pointer (some ⟨b446, 0, none⟩))]) (by kernel_rfl) ?_
            refine t_end ?_
            show W _ _ _ _ _ _ _
            obtain ⟨s449, e448, e⟩ := bind_of e
            refine w_cut [7, 11, 12] (fun σ_ H_ S_ => ∃ (x481 : Int) (x482 : Int), s449 = .inr (x481, x482) ∧ [(7, .bool x443), (11, .pointer (some ⟨b437, 0, none⟩)), (12, .pointer (some ⟨b446, 0, none⟩))] = σ_ ∧ ([⟨b446, [.int .i64 x481, .int .i64 x482], 2⟩, ⟨b437, [.int .i64 x444, .int .i64 x445], 2⟩, ⟨b384, [.int .i64 x376, .int .i64 x377, .int .i64 x378, .int .i64 x379, .int .i64 x380, .int .i64 x381, .int .i64 x382], 7⟩, ⟨b278, [.int .i64 t271, .int .i64 t272, .slice (ad N277) t274.length (nN277 / 7), .bool t273], 4⟩, ⟨b43, [.slice a_l0 l0.length c_l0, .int .i64 t275], 2⟩, ⟨N277, encL E_i647 t274, nN277⟩, ⟨N375, encL E_i644 t373, nN375⟩] : List Own) = H_ ∧ S = S_) ?_ ?_
            · show W _ _ _ _ _ _ _
              refine w_seq ?_
              refine w_reg fun all => ?_
              refine t_qz 1 [7, 9, 11, 12, 13] (σ' := [(7, .bool x443), (9, .slice (ad N375) t373.length (nN375 / 4)), (11, .pointer (some ⟨b437, 0, none⟩)), (12, .pointer (some ⟨b446, 0, none⟩)), (13, .int .i64 0)]) (by kernel_rfl) ?_
              refine t_end ?_
              show W _ _ _ _ _ _ _
              refine w_block ?_
              refine w_kp [7, 9, 11, 12, 13] (σ' := [(7, .bool x443), (9, .slice (ad N375) t373.length (nN375 / 4)), (11, .pointer (some ⟨b437, 0, none⟩)), (12, .pointer (some ⟨b446, 0, none⟩)), (13, .int .i64 0)]) (by kernel_rfl) ?_
              refine w_loop (fun n_ σ_ H_ S_ => ∃ (x450 : Int) (x451 : Int) (x452 : Int), [(7, .bool x443), (9, .slice (ad N375) t373.length (nN375 / 4)), (11, .pointer (some ⟨b437, 0, none⟩)), (12, .pointer (some ⟨b446, 0, none⟩)), (13, .int .i64 x450)] = σ_ ∧ ([⟨b446, [.int .i64 x451, .int .i64 x452], 2⟩, ⟨b437, [.int .i64 x444, .int .i64 x445], 2⟩, ⟨b384, [.int .i64 x376, .int .i64 x377, .int .i64 x378, .int .i64 x379, .int .i64 x380, .int .i64 x381, .int .i64 x382], 7⟩, ⟨b278, [.int .i64 t271, .int .i64 t272, .slice (ad N277) t274.length (nN277 / 7), .bool t273], 4⟩, ⟨b43, [.slice a_l0 l0.length c_l0, .int .i64 t275], 2⟩, ⟨N375, encL E_i644 t373, nN375⟩, ⟨N277, encL E_i647 t274, nN277⟩] : List Own) = H_ ∧ S = S_ ∧ glyphiclaw21_FlattenRows.l1 n_ t373 x450 x451 x452 = some s449) _ ⟨0, t271, t272, rfl, rfl, rfl, e448⟩ ?_
              rintro n480 σ_ H_ S_ ⟨x450, x451, x452, rfl, rfl, rfl, e448⟩
              cases n480 with
              | zero => rw [glyphiclaw21_FlattenRows.l1.eq_1] at e448; cases e448
              | succ k_ =>
                rw [glyphiclaw21_FlattenRows.l1.eq_2] at e448
                refine w_seq ?_
                refine w_seq ?_
                refine w_reg fun all => ?_
                by_cases c453 : x450 < (t373.length : Int)
                · rw [if_pos c453] at e448
                  have c453b : (decide (x450 < (t373.length : Int))) = true := decide_eq_true c453
                  refine t_qz 3 [7, 9, 11, 12, 13, 59, 61] (σ' := [(7, .bool x443), (9, .slice (ad N375) t373.length (nN375 / 4)), (11, .pointer (some ⟨b437, 0, none⟩)), (12, .pointer (some ⟨b446, 0, none⟩)), (13, .int .i64 x450), (59, .int .i64 x450), (61, .int .i64 (t373.length : Int))]) (by kernel_rfl) ?_
                  refine t_v (dv_quiet rfl (congrArg (fun t => some (Value.bool t)) c453b)) ?_
                  refine t_keep [7, 9, 11, 12, 13, 62] (σ' := [(7, .bool x443), (9, .slice (ad N375) t373.length (nN375 / 4)), (11, .pointer (some ⟨b437, 0, none⟩)), (12, .pointer (some ⟨b446, 0, none⟩)), (13, .int .i64 x450), (62, .bool true)]) (by kernel_rfl) ?_
                  refine t_end ?_
                  show W _ _ _ _ _ _ _
                  refine w_cond rfl (fun _ => ?_) (fun c_ => by cases c_)
                  show W _ _ _ _ _ _ _
                  refine w_skip ?_
                  show W _ _ _ _ _ _ _
                  refine w_seq ?_
                  refine w_block ?_
                  refine w_seq ?_
                  refine w_seq ?_
                  obtain ⟨⟨x454, x455, x456, x457⟩, hx458, e448⟩ := bind_of e448
                  try dsimp only at e448
                  obtain ⟨t459, h460, e448⟩ := bind_of e448
                  by_cases c461 : t459 = true
                  · rw [if_pos c461] at e448
                    have c461b : t459 = true := c461
                    obtain ⟨⟨x462, x463, x464, x465⟩, hx466, e448⟩ := bind_of e448
                    try dsimp only at e448
                    obtain ⟨⟨x467, x468, x469, x470⟩, hx471, e448⟩ := bind_of e448
                    try dsimp only at e448
                    obtain ⟨t472, h473, e448⟩ := bind_of e448
                    cases t472 with
                    | true =>
                      rw [if_pos rfl] at e448
                      refine w_drwE mixed 21 [.v (.slice (ad N375) t373.length (nN375 / 4)), .v (.int .i64 x450), .v (.pointer (some ⟨bk N375, (x450).toNat * 4 + 0, none⟩)), .v (.pointer (some ⟨bk N375, (x450).toNat * 4 + 0, none⟩)), .v (.agg #[.int .i64 x454, .int .i64 x455]), .v (.agg #[.int .i64 x451, .int .i64 x452]), .v (.bool t459), .v (.bool false), .v (.bool false), .v (.slice (ad N375) t373.length (nN375 / 4)), .v (.int .i64 x450), .v (.pointer (some ⟨bk N375, (x450).toNat * 4 + 0, none⟩)), .v (.pointer (some ⟨bk N375, (x450).toNat * 4 + 0, none⟩)), .v (.agg #[.int .i64 x462, .int .i64 x463]), .v (.slice (ad N375) t373.length (nN375 / 4)), .v (.int .i64 x450), .v (.pointer (some ⟨bk N375, (x450).toNat * 4 + 0, none⟩)), .v (.pointer (some ⟨bk N375, (x450).toNat * 4 + 2, none⟩)), .v (.agg #[.int .i64 x469, .int .i64 x470]), .v (.bool true), .v (.bool true)] (by kernel_rfl) ?_ ?_
                      · refine DI.sq 2 (by kernel_rfl) rfl ?_
                        refine .cons (.quietH rfl (by intro h_; cases h_) (ixl (E := E_i644) (j := 5) rfl rfl rfl (by decide) rfl hx458)) ?_
                        refine DI.sq 1 (by kernel_rfl) rfl ?_
                        refine .cons (.ldn (vs := [.int .i64 x454, .int .i64 x455]) rfl rfl rfl (.lst 5 rfl (encL_sub (lgt_in hx458).1 (by kernel_rfl)))) ?_
                        refine .cons (.ldn rfl rfl rfl (.at 0 rfl rfl)) ?_
                        refine .cons (.call (vs := [.agg #[.int .i64 x454, .int .i64 x455], .agg #[.int .i64 x451, .int .i64 x452]]) rfl rfl (by kernel_rfl) (glyphicref_SamePoint.ok h460)) ?_
                        refine .cons (dv_quiet rfl (congrArg (fun t => some (Value.bool (!t))) c461b)) ?_
                        refine DI.sq 3 (by kernel_rfl) rfl ?_
                        refine .cons (.quietH rfl (by intro h_; cases h_) (ixl (E := E_i644) (j := 5) rfl rfl rfl (by decide) rfl hx466)) ?_
                        refine DI.sq 1 (by kernel_rfl) rfl ?_
                        refine .cons (.ldn (vs := [.int .i64 x462, .int .i64 x463]) rfl rfl rfl (.lst 5 rfl (encL_sub (lgt_in hx466).1 (by kernel_rfl)))) ?_
                        refine DI.sq 2 (by kernel_rfl) rfl ?_
                        refine .cons (.quietH rfl (by intro h_; cases h_) (ixl (E := E_i644) (j := 5) rfl rfl rfl (by decide) rfl hx471)) ?_
                        refine DI.sq 1 (by kernel_rfl) rfl ?_
                        refine .cons (.ldn (vs := [.int .i64 x469, .int .i64 x470]) rfl rfl rfl (.lst 5 rfl (encL_sub (lgt_in hx471).1 (by kernel_rfl)))) ?_
                        refine .cons (.call (vs := [.agg #[.int .i64 x462, .int .i64 x463], .agg #[.int .i64 x469, .int .i64 x470]]) rfl rfl (by kernel_rfl) (glyphicref_SamePoint.ok h473)) ?_
                        refine DI.sq 1 (by kernel_rfl) rfl ?_
                        exact .nil
                      refine fk_q 21 [7, 9, 11, 12, 13, 74, 75, 76, 77, 78, 79, 80, 81, 82, 83, 84, 85] (σ' := [(7, .bool x443), (9, .slice (ad N375) t373.length (nN375 / 4)), (11, .pointer (some ⟨b437, 0, none⟩)), (12, .pointer (some ⟨b446, 0, none⟩)), (13, .int .i64 x450), (74, .slice (ad N375) t373.length (nN375 / 4)), (75, .int .i64 x450), (76, .pointer (some ⟨bk N375, (x450).toNat * 4 + 0, none⟩)), (77, .pointer (some ⟨bk N375, (x450).toNat * 4 + 0, none⟩)), (78, .agg #[.int .i64 x462, .int .i64 x463]), (79, .slice (ad N375) t373.length (nN375 / 4)), (80, .int .i64 x450), (81, .pointer (some ⟨bk N375, (x450).toNat * 4 + 0, none⟩)), (82, .pointer (some ⟨bk N375, (x450).toNat * 4 + 2, none⟩)), (83, .agg #[.int .i64 x469, .int .i64 x470]), (84, .bool true), (85, .bool true)]) t_more (by kernel_rfl) ?_
                      refine fk_nil fun all => ?_
                      refine t_keep [7, 9, 11, 12, 13, 74, 75, 76, 77, 78, 79, 80, 81, 82, 83, 84, 85] (σ' := [(7, .bool x443), (9, .slice (ad N375) t373.length (nN375 / 4)), (11, .pointer (some ⟨b437, 0, none⟩)), (12, .pointer (some ⟨b446, 0, none⟩)), (13, .int .i64 x450), (74, .slice (ad N375) t373.length (nN375 / 4)), (75, .int .i64 x450), (76, .pointer (some ⟨bk N375, (x450).toNat * 4 + 0, none⟩)), (77, .pointer (some ⟨bk N375, (x450).toNat * 4 + 0, none⟩)), (78, .agg #[.int .i64 x462, .int .i64 x463]), (79, .slice (ad N375) t373.length (nN375 / 4)), (80, .int .i64 x450), (81, .pointer (some ⟨bk N375, (x450).toNat * 4 + 0, none⟩)), (82, .pointer (some ⟨bk N375, (x450).toNat * 4 + 2, none⟩)), (83, .agg #[.int .i64 x469, .int .i64 x470]), (84, .bool true), (85, .bool true)]) (by kernel_rfl) ?_
                      refine t_end ?_
                      show W _ _ _ _ _ _ _
                      refine w_cond rfl (fun _ => ?_) (fun c_ => by cases c_)
                      show W _ _ _ _ _ _ _
                      refine w_seq ?_
                      refine w_reg fun all => ?_
                      refine t_qz 1 [6] (σ' := [(6, .bool false)]) (by kernel_rfl) ?_
                      refine t_end ?_
                      show W _ _ _ _ _ _ _
                      refine w_ret ?_
                      obtain rfl := Option.some.inj e448
                      have hr_ := Option.some.inj e
                      exact ⟨[.bool false], [], S, ⟨rfl, trivial⟩, VS.none, congrArg Value.bool hr_, rfl, rfl⟩
                    | false =>
                      rw [if_neg (by decide)] at e448
                      refine w_drwE mixed 21 [.v (.slice (ad N375) t373.length (nN375 / 4)), .v (.int .i64 x450), .v (.pointer (some ⟨bk N375, (x450).toNat * 4 + 0, none⟩)), .v (.pointer (some ⟨bk N375, (x450).toNat * 4 + 0, none⟩)), .v (.agg #[.int .i64 x454, .int .i64 x455]), .v (.agg #[.int .i64 x451, .int .i64 x452]), .v (.bool t459), .v (.bool false), .v (.bool false), .v (.slice (ad N375) t373.length (nN375 / 4)), .v (.int .i64 x450), .v (.pointer (some ⟨bk N375, (x450).toNat * 4 + 0, none⟩)), .v (.pointer (some ⟨bk N375, (x450).toNat * 4 + 0, none⟩)), .v (.agg #[.int .i64 x462, .int .i64 x463]), .v (.slice (ad N375) t373.length (nN375 / 4)), .v (.int .i64 x450), .v (.pointer (some ⟨bk N375, (x450).toNat * 4 + 0, none⟩)), .v (.pointer (some ⟨bk N375, (x450).toNat * 4 + 2, none⟩)), .v (.agg #[.int .i64 x469, .int .i64 x470]), .v (.bool false), .v (.bool false)] (by kernel_rfl) ?_ ?_
                      · refine DI.sq 2 (by kernel_rfl) rfl ?_
                        refine .cons (.quietH rfl (by intro h_; cases h_) (ixl (E := E_i644) (j := 5) rfl rfl rfl (by decide) rfl hx458)) ?_
                        refine DI.sq 1 (by kernel_rfl) rfl ?_
                        refine .cons (.ldn (vs := [.int .i64 x454, .int .i64 x455]) rfl rfl rfl (.lst 5 rfl (encL_sub (lgt_in hx458).1 (by kernel_rfl)))) ?_
                        refine .cons (.ldn rfl rfl rfl (.at 0 rfl rfl)) ?_
                        refine .cons (.call (vs := [.agg #[.int .i64 x454, .int .i64 x455], .agg #[.int .i64 x451, .int .i64 x452]]) rfl rfl (by kernel_rfl) (glyphicref_SamePoint.ok h460)) ?_
                        refine .cons (dv_quiet rfl (congrArg (fun t => some (Value.bool (!t))) c461b)) ?_
                        refine DI.sq 3 (by kernel_rfl) rfl ?_
                        refine .cons (.quietH rfl (by intro h_; cases h_) (ixl (E := E_i644) (j := 5) rfl rfl rfl (by decide) rfl hx466)) ?_
                        refine DI.sq 1 (by kernel_rfl) rfl ?_
                        refine .cons (.ldn (vs := [.int .i64 x462, .int .i64 x463]) rfl rfl rfl (.lst 5 rfl (encL_sub (lgt_in hx466).1 (by kernel_rfl)))) ?_
                        refine DI.sq 2 (by kernel_rfl) rfl ?_
                        refine .cons (.quietH rfl (by intro h_; cases h_) (ixl (E := E_i644) (j := 5) rfl rfl rfl (by decide) rfl hx471)) ?_
                        refine DI.sq 1 (by kernel_rfl) rfl ?_
                        refine .cons (.ldn (vs := [.int .i64 x469, .int .i64 x470]) rfl rfl rfl (.lst 5 rfl (encL_sub (lgt_in hx471).1 (by kernel_rfl)))) ?_
                        refine .cons (.call (vs := [.agg #[.int .i64 x462, .int .i64 x463], .agg #[.int .i64 x469, .int .i64 x470]]) rfl rfl (by kernel_rfl) (glyphicref_SamePoint.ok h473)) ?_
                        refine DI.sq 1 (by kernel_rfl) rfl ?_
                        exact .nil
                      refine fk_q 21 [7, 9, 11, 12, 13, 74, 75, 76, 77, 78, 79, 80, 81, 82, 83, 84, 85] (σ' := [(7, .bool x443), (9, .slice (ad N375) t373.length (nN375 / 4)), (11, .pointer (some ⟨b437, 0, none⟩)), (12, .pointer (some ⟨b446, 0, none⟩)), (13, .int .i64 x450), (74, .slice (ad N375) t373.length (nN375 / 4)), (75, .int .i64 x450), (76, .pointer (some ⟨bk N375, (x450).toNat * 4 + 0, none⟩)), (77, .pointer (some ⟨bk N375, (x450).toNat * 4 + 0, none⟩)), (78, .agg #[.int .i64 x462, .int .i64 x463]), (79, .slice (ad N375) t373.length (nN375 / 4)), (80, .int .i64 x450), (81, .pointer (some ⟨bk N375, (x450).toNat * 4 + 0, none⟩)), (82, .pointer (some ⟨bk N375, (x450).toNat * 4 + 2, none⟩)), (83, .agg #[.int .i64 x469, .int .i64 x470]), (84, .bool false), (85, .bool false)]) t_more (by kernel_rfl) ?_
                      refine fk_nil fun all => ?_
                      refine t_keep [7, 9, 11, 12, 13, 74, 75, 76, 77, 78, 79, 80, 81, 82, 83, 84, 85] (σ' := [(7, .bool x443), (9, .slice (ad N375) t373.length (nN375 / 4)), (11, .pointer (some ⟨b437, 0, none⟩)), (12, .pointer (some ⟨b446, 0, none⟩)), (13, .int .i64 x450), (74, .slice (ad N375) t373.length (nN375 / 4)), (75, .int .i64 x450), (76, .pointer (some ⟨bk N375, (x450).toNat * 4 + 0, none⟩)), (77, .pointer (some ⟨bk N375, (x450).toNat * 4 + 0, none⟩)), (78, .agg #[.int .i64 x462, .int .i64 x463]), (79, .slice (ad N375) t373.length (nN375 / 4)), (80, .int .i64 x450), (81, .pointer (some ⟨bk N375, (x450).toNat * 4 + 0, none⟩)), (82, .pointer (some ⟨bk N375, (x450).toNat * 4 + 2, none⟩)), (83, .agg #[.int .i64 x469, .int .i64 x470]), (84, .bool false), (85, .bool false)]) (by kernel_rfl) ?_
                      refine t_end ?_
                      show W _ _ _ _ _ _ _
                      refine w_cond rfl (fun c_ => by cases c_) (fun _ => ?_)
                      show W _ _ _ _ _ _ _
                      refine w_skip ?_
                      show W _ _ _ _ _ _ _
                      refine w_reg fun all => ?_
                      obtain ⟨⟨x474, x475, x476, x477⟩, hx478, e448⟩ := bind_of e448
                      try dsimp only at e448
                      refine t_qz 2 [7, 9, 11, 12, 13, 74, 75, 76, 77, 78, 79, 80, 81, 82, 83, 84, 86, 87] (σ' := [(7, .bool x443), (9, .slice (ad N375) t373.length (nN375 / 4)), (11, .pointer (some ⟨b437, 0, none⟩)), (12, .pointer (some ⟨b446, 0, none⟩)), (13, .int .i64 x450), (74, .slice (ad N375) t373.length (nN375 / 4)), (75, .int .i64 x450), (76, .pointer (some ⟨bk N375, (x450).toNat * 4 + 0, none⟩)), (77, .pointer (some ⟨bk N375, (x450).toNat * 4 + 0, none⟩)), (78, .agg #[.int .i64 x462, .int .i64 x463]), (79, .slice (ad N375) t373.length (nN375 / 4)), (80, .int .i64 x450), (81, .pointer (some ⟨bk N375, (x450).toNat * 4 + 0, none⟩)), (82, .pointer (some ⟨bk N375, (x450).toNat * 4 + 2, none⟩)), (83, .agg #[.int .i64 x469, .int .i64 x470]), (84, .bool false), (86, .slice (ad N375) t373.length (nN375 / 4)), (87, .int .i64 x450)]) (by kernel_rfl) ?_
                      refine t_v (.quietH rfl (by intro h_; cases h_) (ixl (E := E_i644) (j := 5) rfl rfl rfl (by decide) rfl hx478)) ?_
                      refine t_qz 1 [7, 9, 11, 12, 13, 74, 75, 76, 77, 78, 79, 80, 81, 82, 83, 84, 89] (σ' := [(7, .bool x443), (9, .slice (ad N375) t373.length (nN375 / 4)), (11, .pointer (some ⟨b437, 0, none⟩)), (12, .pointer (some ⟨b446, 0, none⟩)), (13, .int .i64 x450), (74, .slice (ad N375) t373.length (nN375 / 4)), (75, .int .i64 x450), (76, .pointer (some ⟨bk N375, (x450).toNat * 4 + 0, none⟩)), (77, .pointer (some ⟨bk N375, (x450).toNat * 4 + 0, none⟩)), (78, .agg #[.int .i64 x462, .int .i64 x463]), (79, .slice (ad N375) t373.length (nN375 / 4)), (80, .int .i64 x450), (81, .pointer (some ⟨bk N375, (x450).toNat * 4 + 0, none⟩)), (82, .pointer (some ⟨bk N375, (x450).toNat * 4 + 2, none⟩)), (83, .agg #[.int .i64 x469, .int .i64 x470]), (84, .bool false), (89, .pointer (some ⟨bk N375, (x450).toNat * 4 + 2, none⟩))]) (by kernel_rfl) ?_
                      refine t_v (.ldn (vs := [.int .i64 x476, .int .i64 x477]) rfl rfl rfl (.lst 5 rfl (encL_sub (lgt_in hx478).1 (by kernel_rfl)))) ?_
                      refine t_sti 0 (cs := [.int .i64 x476, .int .i64 x477]) rfl rfl rfl rfl rfl rfl rfl rfl rfl ?_
                      refine t_keep [7, 9, 11, 12, 13, 74, 75, 76, 77, 78, 79, 80, 81, 82, 83, 84] (σ' := [(7, .bool x443), (9, .slice (ad N375) t373.length (nN375 / 4)), (11, .pointer (some ⟨b437, 0, none⟩)), (12, .pointer (some ⟨b446, 0, none⟩)), (13, .int .i64 x450), (74, .slice (ad N375) t373.length (nN375 / 4)), (75, .int .i64 x450), (76, .pointer (some ⟨bk N375, (x450).toNat * 4 + 0, none⟩)), (77, .pointer (some ⟨bk N375, (x450).toNat * 4 + 0, none⟩)), (78, .agg #[.int .i64 x462, .int .i64 x463]), (79, .slice (ad N375) t373.length (nN375 / 4)), (80, .int .i64 x450), (81, .pointer (some ⟨bk N375, (x450).toNat * 4 + 0, none⟩)), (82, .pointer (some ⟨bk N375, (x450).toNat * 4 + 2, none⟩)), (83, .agg #[.int .i64 x469, .int .i64 x470]), (84, .bool false)]) (by kernel_rfl) ?_
                      refine t_end ?_
                      show W _ _ _ _ _ _ _
                      refine w_reg fun all => ?_
                      refine t_qz 3 [7, 9, 11, 12, 13, 74, 75, 76, 77, 78, 79, 80, 81, 82, 83, 84] (σ' := [(7, .bool x443), (9, .slice (ad N375) t373.length (nN375 / 4)), (11, .pointer (some ⟨b437, 0, none⟩)), (12, .pointer (some ⟨b446, 0, none⟩)), (13, .int .i64 (wr64 (x450 + 1))), (74, .slice (ad N375) t373.length (nN375 / 4)), (75, .int .i64 x450), (76, .pointer (some ⟨bk N375, (x450).toNat * 4 + 0, none⟩)), (77, .pointer (some ⟨bk N375, (x450).toNat * 4 + 0, none⟩)), (78, .agg #[.int .i64 x462, .int .i64 x463]), (79, .slice (ad N375) t373.length (nN375 / 4)), (80, .int .i64 x450), (81, .pointer (some ⟨bk N375, (x450).toNat * 4 + 0, none⟩)), (82, .pointer (some ⟨bk N375, (x450).toNat * 4 + 2, none⟩)), (83, .agg #[.int .i64 x469, .int .i64 x470]), (84, .bool false)]) (by kernel_rfl) ?_
                      refine t_end ?_
                      exact ⟨k_, Nat.lt_succ_self _, [(7, .bool x443), (9, .slice (ad N375) t373.length (nN375 / 4)), (11, .pointer (some ⟨b437, 0, none⟩)), (12, .pointer (some ⟨b446, 0, none⟩)), (13, .int .i64 (wr64 (x450 + 1)))], ([⟨b446, [.int .i64 x476, .int .i64 x477], 2⟩, ⟨b437, [.int .i64 x444, .int .i64 x445], 2⟩, ⟨b384, [.int .i64 x376, .int .i64 x377, .int .i64 x378, .int .i64 x379, .int .i64 x380, .int .i64 x381, .int .i64 x382], 7⟩, ⟨b278, [.int .i64 t271, .int .i64 t272, .slice (ad N277) t274.length (nN277 / 7), .bool t273], 4⟩, ⟨b43, [.slice a_l0 l0.length c_l0, .int .i64 t275], 2⟩, ⟨N375, encL E_i644 t373, nN375⟩, ⟨N277, encL E_i647 t274, nN277⟩] : List Own), S, keep_sub [7, 9, 11, 12, 13] (by kernel_rfl), VS.sel [0, 0, 0, 0, 0, 0, 0] (by kernel_rfl), wr64 (x450 + 1), x476, x477, rfl, rfl, rfl, e448⟩
                  · rw [if_neg c461] at e448
                    have c461b : t459 = false := Bool.eq_false_iff.mpr c461
                    refine w_drwE mixed 21 [.v (.slice (ad N375) t373.length (nN375 / 4)), .v (.int .i64 x450), .v (.pointer (some ⟨bk N375, (x450).toNat * 4 + 0, none⟩)), .v (.pointer (some ⟨bk N375, (x450).toNat * 4 + 0, none⟩)), .v (.agg #[.int .i64 x454, .int .i64 x455]), .v (.agg #[.int .i64 x451, .int .i64 x452]), .v (.bool t459), .v (.bool true), .v (.bool true), .v (.tuple #[]), .v (.tuple #[]), .v (.tuple #[]), .v (.tuple #[]), .v (.tuple #[]), .v (.tuple #[]), .v (.tuple #[]), .v (.tuple #[]), .v (.tuple #[]), .v (.tuple #[]), .v (.tuple #[]), .v (.bool true)] (by kernel_rfl) ?_ ?_
                    · refine DI.sq 2 (by kernel_rfl) rfl ?_
                      refine .cons (.quietH rfl (by intro h_; cases h_) (ixl (E := E_i644) (j := 5) rfl rfl rfl (by decide) rfl hx458)) ?_
                      refine DI.sq 1 (by kernel_rfl) rfl ?_
                      refine .cons (.ldn (vs := [.int .i64 x454, .int .i64 x455]) rfl rfl rfl (.lst 5 rfl (encL_sub (lgt_in hx458).1 (by kernel_rfl)))) ?_
                      refine .cons (.ldn rfl rfl rfl (.at 0 rfl rfl)) ?_
                      refine .cons (.call (vs := [.agg #[.int .i64 x454, .int .i64 x455], .agg #[.int .i64 x451, .int .i64 x452]]) rfl rfl (by kernel_rfl) (glyphicref_SamePoint.ok h460)) ?_
                      refine .cons (dv_quiet rfl (congrArg (fun t => some (Value.bool (!t))) c461b)) ?_
                      refine DI.sq 13 (by kernel_rfl) rfl ?_
                      exact .nil
                    refine fk_q 21 [7, 9, 11, 12, 13, 74, 75, 76, 77, 78, 79, 80, 81, 82, 83, 84, 85] (σ' := [(7, .bool x443), (9, .slice (ad N375) t373.length (nN375 / 4)), (11, .pointer (some ⟨b437, 0, none⟩)), (12, .pointer (some ⟨b446, 0, none⟩)), (13, .int .i64 x450), (74, .tuple #[]), (75, .tuple #[]), (76, .tuple #[]), (77, .tuple #[]), (78, .tuple #[]), (79, .tuple #[]), (80, .tuple #[]), (81, .tuple #[]), (82, .tuple #[]), (83, .tuple #[]), (84, .tuple #[]), (85, .bool true)]) t_more (by kernel_rfl) ?_
                    refine fk_nil fun all => ?_
                    refine t_keep [7, 9, 11, 12, 13, 74, 75, 76, 77, 78, 79, 80, 81, 82, 83, 84, 85] (σ' := [(7, .bool x443), (9, .slice (ad N375) t373.length (nN375 / 4)), (11, .pointer (some ⟨b437, 0, none⟩)), (12, .pointer (some ⟨b446, 0, none⟩)), (13, .int .i64 x450), (74, .tuple #[]), (75, .tuple #[]), (76, .tuple #[]), (77, .tuple #[]), (78, .tuple #[]), (79, .tuple #[]), (80, .tuple #[]), (81, .tuple #[]), (82, .tuple #[]), (83, .tuple #[]), (84, .tuple #[]), (85, .bool true)]) (by kernel_rfl) ?_
                    refine t_end ?_
                    show W _ _ _ _ _ _ _
                    refine w_cond rfl (fun _ => ?_) (fun c_ => by cases c_)
                    show W _ _ _ _ _ _ _
                    refine w_seq ?_
                    refine w_reg fun all => ?_
                    refine t_qz 1 [6] (σ' := [(6, .bool false)]) (by kernel_rfl) ?_
                    refine t_end ?_
                    show W _ _ _ _ _ _ _
                    refine w_ret ?_
                    obtain rfl := Option.some.inj e448
                    have hr_ := Option.some.inj e
                    exact ⟨[.bool false], [], S, ⟨rfl, trivial⟩, VS.none, congrArg Value.bool hr_, rfl, rfl⟩
                · rw [if_neg c453] at e448
                  have c453b : (decide (x450 < (t373.length : Int))) = false := decide_eq_false c453
                  refine t_qz 3 [7, 9, 11, 12, 13, 59, 61] (σ' := [(7, .bool x443), (9, .slice (ad N375) t373.length (nN375 / 4)), (11, .pointer (some ⟨b437, 0, none⟩)), (12, .pointer (some ⟨b446, 0, none⟩)), (13, .int .i64 x450), (59, .int .i64 x450), (61, .int .i64 (t373.length : Int))]) (by kernel_rfl) ?_
                  refine t_v (dv_quiet rfl (congrArg (fun t => some (Value.bool t)) c453b)) ?_
                  refine t_keep [7, 9, 11, 12, 13, 62] (σ' := [(7, .bool x443), (9, .slice (ad N375) t373.length (nN375 / 4)), (11, .pointer (some ⟨b437, 0, none⟩)), (12, .pointer (some ⟨b446, 0, none⟩)), (13, .int .i64 x450), (62, .bool false)]) (by kernel_rfl) ?_
                  refine t_end ?_
                  show W _ _ _ _ _ _ _
                  refine w_cond rfl (fun c_ => by cases c_) (fun _ => ?_)
                  show W _ _ _ _ _ _ _
                  refine w_exit ?_
                  obtain rfl := Option.some.inj e448
                  exact ⟨([⟨b446, [.int .i64 x451, .int .i64 x452], 2⟩, ⟨b437, [.int .i64 x444, .int .i64 x445], 2⟩, ⟨b384, [.int .i64 x376, .int .i64 x377, .int .i64 x378, .int .i64 x379, .int .i64 x380, .int .i64 x381, .int .i64 x382], 7⟩, ⟨b278, [.int .i64 t271, .int .i64 t272, .slice (ad N277) t274.length (nN277 / 7), .bool t273], 4⟩, ⟨b43, [.slice a_l0 l0.length c_l0, .int .i64 t275], 2⟩, ⟨N277, encL E_i647 t274, nN277⟩, ⟨N375, encL E_i644 t373, nN375⟩] : List Own), S, VS.sel [0, 0, 0, 0, 0, 1, 0] (by kernel_rfl), x451, x452, rfl, by kernel_rfl, rfl, rfl⟩
            · rintro σ_ H_ S_ ⟨x481, x482, rfl, rfl, rfl, rfl⟩
              dsimp only at e
              refine w_seq ?_
              refine w_reg fun all => ?_
              by_cases c483 : x443 = true
              · rw [if_pos c483] at e
                have c483b : x443 = true := c483
                refine t_v (dv_quiet rfl (congrArg (fun t => some (Value.bool t)) c483b)) ?_
                refine t_qz 1 [11, 12, 92] (σ' := [(11, .pointer (some ⟨b437, 0, none⟩)), (12, .pointer (some ⟨b446, 0, none⟩)), (92, .bool true)]) (by kernel_rfl) ?_
                refine t_v (.ldn rfl rfl rfl (.at 0 rfl rfl)) ?_
                refine t_v (.ldn rfl rfl rfl (.at 1 rfl rfl)) ?_
                obtain ⟨t484, h485, e⟩ := bind_of e
                refine t_v (.call (vs := [.agg #[.int .i64 x481, .int .i64 x482], .agg #[.int .i64 x444, .int .i64 x445]]) rfl rfl (by kernel_rfl) (glyphicref_SamePoint.ok h485)) ?_
                refine t_qz 2 [6] (σ' := [(6, .bool t484)]) (by kernel_rfl) ?_
                refine t_end ?_
                show W _ _ _ _ _ _ _
                refine w_ret ?_
                have hr_ := Option.some.inj e
                exact ⟨[.bool t484], [], S, ⟨rfl, trivial⟩, VS.none, congrArg Value.bool hr_, rfl, rfl⟩
              · rw [if_neg c483] at e
                exact absurd (Option.some.inj e) (by decide)
        · rw [if_neg c436] at e
          have c436b : ((wr64 (x376 - 1)) == 1) = false := beq_eq_false_iff_ne.mpr c436
          by_cases c487 : (wr64 (x376 - 1)) = 2
          · rw [if_pos c487] at e
            have c487b : ((wr64 (x376 - 1)) == 2) = true := beq_iff_eq.mpr c487
            refine t_qz 2 [2, 7, 8, 9, 46, 47] (σ' := [(2, .bool shut2), (7, .bool true), (8, .pointer (some ⟨b278, 0, none⟩)), (9, .slice (ad N375) t373.length (nN375 / 4)), (46, .int .i64 (wr64 (x376 - 1))), (47, .pointer (some ⟨b384, 1, none⟩))]) (by kernel_rfl) ?_
            refine t_v (.quiet rfl (ixa_at (j := 2) (u := .pointer (some ⟨b384, 5, none⟩)) rfl c487b (by kernel_rfl))) ?_
            refine t_v (.ldn rfl rfl rfl (.at 0 rfl rfl)) ?_
            refine t_a (.new rfl rfl) fun b488 fb488 sb488 => ?_
            refine t_sti 0 (cs := [.int .i64 x381, .int .i64 x382]) rfl rfl rfl rfl rfl rfl rfl rfl rfl ?_
            refine t_keep [2, 7, 8, 9, 11] (σ' := [(2, .bool shut2), (7, .bool true), (8, .pointer (some ⟨b278, 0, none⟩)), (9, .slice (ad N375) t373.length (nN375 / 4)), (11, .pointer (some ⟨b488, 0, none⟩))]) (by kernel_rfl) ?_
            refine t_end ?_
            show W _ _ _ _ _ _ _
            obtain ⟨⟨x494, x495, x496⟩, e490, e⟩ := bind_of e
            try dsimp only at e
            refine w_cut [7, 8, 9, 11] (fun σ_ H_ S_ => [(7, .bool x494), (8, .pointer (some ⟨b278, 0, none⟩)), (9, .slice (ad N375) t373.length (nN375 / 4)), (11, .pointer (some ⟨b488, 0, none⟩))] = σ_ ∧ ([⟨b488, [.int .i64 x495, .int .i64 x496], 2⟩, ⟨b384, [.int .i64 x376, .int .i64 x377, .int .i64 x378, .int .i64 x379, .int .i64 x380, .int .i64 x381, .int .i64 x382], 7⟩, ⟨b278, [.int .i64 t271, .int .i64 t272, .slice (ad N277) t274.length (nN277 / 7), .bool t273], 4⟩, ⟨b43, [.slice a_l0 l0.length c_l0, .int .i64 t275], 2⟩, ⟨N375, encL E_i644 t373, nN375⟩, ⟨N277, encL E_i647 t274, nN277⟩] : List Own) = H_ ∧ S = S_) ?_ ?_
            · show W _ _ _ _ _ _ _
              refine w_seq ?_
              refine w_reg fun all => ?_
              by_cases c492 : shut2 = true
              · rw [if_pos c492] at e490
                have c492b : shut2 = true := c492
                refine t_v (dv_quiet rfl (congrArg (fun t => some (Value.bool t)) c492b)) ?_
                refine t_qz 4 [7, 8, 9, 11, 54] (σ' := [(7, .bool true), (8, .pointer (some ⟨b278, 0, none⟩)), (9, .slice (ad N375) t373.length (nN375 / 4)), (11, .pointer (some ⟨b488, 0, none⟩)), (54, .bool true)]) (by kernel_rfl) ?_
                refine t_end ?_
                show W _ _ _ _ _ _ _
                refine w_cond rfl (fun _ => ?_) (fun c_ => by cases c_)
                show W _ _ _ _ _ _ _
                refine w_reg fun all => ?_
                refine t_qz 1 [7, 8, 9, 11, 55] (σ' := [(7, .bool true), (8, .pointer (some ⟨b278, 0, none⟩)), (9, .slice (ad N375) t373.length (nN375 / 4)), (11, .pointer (some ⟨b488, 0, none⟩)), (55, .pointer (some ⟨b278, 0, none⟩))]) (by kernel_rfl) ?_
                refine t_v (.ldn rfl rfl rfl (.at 4 rfl rfl)) ?_
                refine t_sti 0 (cs := [.int .i64 t271, .int .i64 t272]) rfl rfl rfl rfl rfl rfl rfl rfl rfl ?_
                refine t_keep [7, 8, 9, 11] (σ' := [(7, .bool true), (8, .pointer (some ⟨b278, 0, none⟩)), (9, .slice (ad N375) t373.length (nN375 / 4)), (11, .pointer (some ⟨b488, 0, none⟩))]) (by kernel_rfl) ?_
                refine t_end ?_
                simp only [Option.some.injEq, Prod.mk.injEq] at e490
                obtain ⟨rfl, rfl, rfl⟩ := e490
                exact ⟨([⟨b488, [.int .i64 t271, .int .i64 t272], 2⟩, ⟨b384, [.int .i64 x376, .int .i64 x377, .int .i64 x378, .int .i64 x379, .int .i64 x380, .int .i64 x381, .int .i64 x382], 7⟩, ⟨b278, [.int .i64 t271, .int .i64 t272, .slice (ad N277) t274.length (nN277 / 7), .bool t273], 4⟩, ⟨b43, [.slice a_l0 l0.length c_l0, .int .i64 t275], 2⟩, ⟨N375, encL E_i644 t373, nN375⟩, ⟨N277, encL E_i647 t274, nN277⟩] : List Own), S, VS.sel [0, 0, 2, 2, 1, 0] (by kernel_rfl), by kernel_rfl, rfl, rfl⟩
              · rw [if_neg c492] at e490
                have c492b : shut2 = false := Bool.eq_false_iff.mpr c492
                refine t_v (dv_quiet rfl (congrArg (fun t => some (Value.bool t)) c492b)) ?_
                by_cases c493 : t273 = true
                · rw [if_pos c493] at e490
                  have c493b : t273 = true := c493
                  refine t_qz 2 [7, 8, 9, 11, 51, 52] (σ' := [(7, .bool true), (8, .pointer (some ⟨b278, 0, none⟩)), (9, .slice (ad N375) t373.length (nN375 / 4)), (11, .pointer (some ⟨b488, 0, none⟩)), (51, .bool false), (52, .pointer (some ⟨b278, 3, none⟩))]) (by kernel_rfl) ?_
                  refine t_v (dv_eq (congrArg (fun t => Value.bool t) c493b) (.ld1 rfl rfl rfl (.at 4 rfl rfl))) ?_
                  refine t_qz 1 [7, 8, 9, 11, 54] (σ' := [(7, .bool true), (8, .pointer (some ⟨b278, 0, none⟩)), (9, .slice (ad N375) t373.length (nN375 / 4)), (11, .pointer (some ⟨b488, 0, none⟩)), (54, .bool true)]) (by kernel_rfl) ?_
                  refine t_end ?_
                  show W _ _ _ _ _ _ _
                  refine w_cond rfl (fun _ => ?_) (fun c_ => by cases c_)
                  show W _ _ _ _ _ _ _
                  refine w_reg fun all => ?_
                  refine t_qz 1 [7, 8, 9, 11, 55] (σ' := [(7, .bool true), (8, .pointer (some ⟨b278, 0, none⟩)), (9, .slice (ad N375) t373.length (nN375 / 4)), (11, .pointer (some ⟨b488, 0, none⟩)), (55, .pointer (some ⟨b278, 0, none⟩))]) (by kernel_rfl) ?_
                  refine t_v (.ldn rfl rfl rfl (.at 4 rfl rfl)) ?_
                  refine t_sti 0 (cs := [.int .i64 t271, .int .i64 t272]) rfl rfl rfl rfl rfl rfl rfl rfl rfl ?_
                  refine t_keep [7, 8, 9, 11] (σ' := [(7, .bool true), (8, .pointer (some ⟨b278, 0, none⟩)), (9, .slice (ad N375) t373.length (nN375 / 4)), (11, .pointer (some ⟨b488, 0, none⟩))]) (by kernel_rfl) ?_
                  refine t_end ?_
                  simp only [Option.some.injEq, Prod.mk.injEq] at e490
                  obtain ⟨rfl, rfl, rfl⟩ := e490
                  exact ⟨([⟨b488, [.int .i64 t271, .int .i64 t272], 2⟩, ⟨b384, [.int .i64 x376, .int .i64 x377, .int .i64 x378, .int .i64 x379, .int .i64 x380, .int .i64 x381, .int .i64 x382], 7⟩, ⟨b278, [.int .i64 t271, .int .i64 t272, .slice (ad N277) t274.length (nN277 / 7), .bool t273], 4⟩, ⟨b43, [.slice a_l0 l0.length c_l0, .int .i64 t275], 2⟩, ⟨N375, encL E_i644 t373, nN375⟩, ⟨N277, encL E_i647 t274, nN277⟩] : List Own), S, VS.sel [0, 0, 2, 2, 1, 0] (by kernel_rfl), by kernel_rfl, rfl, rfl⟩
                · rw [if_neg c493] at e490
                  have c493b : t273 = false := Bool.eq_false_iff.mpr c493
                  refine t_qz 2 [7, 8, 9, 11, 51, 52] (σ' := [(7, .bool true), (8, .pointer (some ⟨b278, 0, none⟩)), (9, .slice (ad N375) t373.length (nN375 / 4)), (11, .pointer (some ⟨b488, 0, none⟩)), (51, .bool false), (52, .pointer (some ⟨b278, 3, none⟩))]) (by kernel_rfl) ?_
                  refine t_v (dv_eq (congrArg (fun t => Value.bool t) c493b) (.ld1 rfl rfl rfl (.at 4 rfl rfl))) ?_
                  refine t_qz 1 [7, 8, 9, 11, 54] (σ' := [(7, .bool true), (8, .pointer (some ⟨b278, 0, none⟩)), (9, .slice (ad N375) t373.length (nN375 / 4)), (11, .pointer (some ⟨b488, 0, none⟩)), (54, .bool false)]) (by kernel_rfl) ?_
                  refine t_end ?_
                  show W _ _ _ _ _ _ _
                  refine w_cond rfl (fun c_ => by cases c_) (fun _ => ?_)
                  show W _ _ _ _ _ _ _
                  refine w_skip ?_
                  simp only [Option.some.injEq, Prod.mk.injEq] at e490
                  obtain ⟨rfl, rfl, rfl⟩ := e490
                  exact ⟨([⟨b488, [.int .i64 x381, .int .i64 x382], 2⟩, ⟨b384, [.int .i64 x376, .int .i64 x377, .int .i64 x378, .int .i64 x379, .int .i64 x380, .int .i64 x381, .int .i64 x382], 7⟩, ⟨b278, [.int .i64 t271, .int .i64 t272, .slice (ad N277) t274.length (nN277 / 7), .bool t273], 4⟩, ⟨b43, [.slice a_l0 l0.length c_l0, .int .i64 t275], 2⟩, ⟨N375, encL E_i644 t373, nN375⟩, ⟨N277, encL E_i647 t274, nN277⟩] : List Own), S, VS.sel [0, 0, 2, 2, 1, 0] (by kernel_rfl), by kernel_rfl, rfl, rfl⟩
            · rintro σ_ H_ S_ ⟨rfl, rfl, rfl⟩
              refine w_seq ?_
              refine w_reg fun all => ?_
              refine t_qz 1 [7, 9, 11, 57] (σ' := [(7, .bool x494), (9, .slice (ad N375) t373.length (nN375 / 4)), (11, .pointer (some ⟨b488, 0, none⟩)), (57, .pointer (some ⟨b278, 0, none⟩))]) (by kernel_rfl) ?_
              refine t_v (.ldn rfl rfl rfl (.at 2 rfl rfl)) ?_
              refine t_a (.new rfl rfl) fun b497 fb497 sb497 => ?_
              refine t_sti 0 (cs := [.int .i64 t271, .int .i64 t272]) rfl rfl rfl rfl rfl rfl rfl rfl rfl ?_
              refine t_keep [7, 9, 11, 12] (σ' := [(7, .bool x494), (9, .slice (ad N375) t373.length (nN375 / 4)), (11, .pointer (some ⟨b488, 0, none⟩)), (12, .pointer (some ⟨b497, 0, none⟩))]) (by kernel_rfl) ?_
              refine t_end ?_
              show W _ _ _ _ _ _ _
              obtain ⟨s500, e499, e⟩ := bind_of e
              refine w_cut [7, 11, 12] (fun σ_ H_ S_ => ∃ (x532 : Int) (x533 : Int), s500 = .inr (x532, x533) ∧ [(7, .bool x494), (11, .pointer (some ⟨b488, 0, none⟩)), (12, .pointer (some ⟨b497, 0, none⟩))] = σ_ ∧ ([⟨b497, [.int .i64 x532, .int .i64 x533], 2⟩, ⟨b488, [.int .i64 x495, .int .i64 x496], 2⟩, ⟨b384, [.int .i64 x376, .int .i64 x377, .int .i64 x378, .int .i64 x379, .int .i64 x380, .int .i64 x381, .int .i64 x382], 7⟩, ⟨b278, [.int .i64 t271, .int .i64 t272, .slice (ad N277) t274.length (nN277 / 7), .bool t273], 4⟩, ⟨b43, [.slice a_l0 l0.length c_l0, .int .i64 t275], 2⟩, ⟨N277, encL E_i647 t274, nN277⟩, ⟨N375, encL E_i644 t373, nN375⟩] : List Own) = H_ ∧ S = S_) ?_ ?_
              · show W _ _ _ _ _ _ _
                refine w_seq ?_
                refine w_reg fun all => ?_
                refine t_qz 1 [7, 9, 11, 12, 13] (σ' := [(7, .bool x494), (9, .slice (ad N375) t373.length (nN375 / 4)), (11, .pointer (some ⟨b488, 0, none⟩)), (12, .pointer (some ⟨b497, 0, none⟩)), (13, .int .i64 0)]) (by kernel_rfl) ?_
                refine t_end ?_
                show W _ _ _ _ _ _ _
                refine w_block ?_
                refine w_kp [7, 9, 11, 12, 13] (σ' := [(7, .bool x494), (9, .slice (ad N375) t373.length (nN375 / 4)), (11, .pointer (some ⟨b488, 0, none⟩)), (12, .pointer (some ⟨b497, 0, none⟩)), (13, .int .i64 0)]) (by kernel_rfl) ?_
                refine w_loop (fun n_ σ_ H_ S_ => ∃ (x501 : Int) (x502 : Int) (x503 : Int), [(7, .bool x494), (9, .slice (ad N375) t373.length (nN375 / 4)), (11, .pointer (some ⟨b488, 0, none⟩)), (12, .pointer (some ⟨b497, 0, none⟩)), (13, .int .i64 x501)] = σ_ ∧ ([⟨b497, [.int .i64 x502, .int .i64 x503], 2⟩, ⟨b488, [.int .i64 x495, .int .i64 x496], 2⟩, ⟨b384, [.int .i64 x376, .int .i64 x377, .int .i64 x378, .int .i64 x379, .int .i64 x380, .int .i64 x381, .int .i64 x382], 7⟩, ⟨b278, [.int .i64 t271, .int .i64 t272, .slice (ad N277) t274.length (nN277 / 7), .bool t273], 4⟩, ⟨b43, [.slice a_l0 l0.length c_l0, .int .i64 t275], 2⟩, ⟨N375, encL E_i644 t373, nN375⟩, ⟨N277, encL E_i647 t274, nN277⟩] : List Own) = H_ ∧ S = S_ ∧ glyphiclaw21_FlattenRows.l2 n_ t373 x501 x502 x503 = some s500) _ ⟨0, t271, t272, rfl, rfl, rfl, e499⟩ ?_
                rintro n531 σ_ H_ S_ ⟨x501, x502, x503, rfl, rfl, rfl, e499⟩
                cases n531 with
                | zero => rw [glyphiclaw21_FlattenRows.l2.eq_1] at e499; cases e499
                | succ k_ =>
                  rw [glyphiclaw21_FlattenRows.l2.eq_2] at e499
                  refine w_seq ?_
                  refine w_seq ?_
                  refine w_reg fun all => ?_
                  by_cases c504 : x501 < (t373.length : Int)
                  · rw [if_pos c504] at e499
                    have c504b : (decide (x501 < (t373.length : Int))) = true := decide_eq_true c504
                    refine t_qz 3 [7, 9, 11, 12, 13, 59, 61] (σ' := [(7, .bool x494), (9, .slice (ad N375) t373.length (nN375 / 4)), (11, .pointer (some ⟨b488, 0, none⟩)), (12, .pointer (some ⟨b497, 0, none⟩)), (13, .int .i64 x501), (59, .int .i64 x501), (61, .int .i64 (t373.length : Int))]) (by kernel_rfl) ?_
                    refine t_v (dv_quiet rfl (congrArg (fun t => some (Value.bool t)) c504b)) ?_
                    refine t_keep [7, 9, 11, 12, 13, 62] (σ' := [(7, .bool x494), (9, .slice (ad N375) t373.length (nN375 / 4)), (11, .pointer (some ⟨b488, 0, none⟩)), (12, .pointer (some ⟨b497, 0, none⟩)), (13, .int .i64 x501), (62, .bool true)]) (by kernel_rfl) ?_
                    refine t_end ?_
                    show W _ _ _ _ _ _ _
                    refine w_cond rfl (fun _ => ?_) (fun c_ => by cases c_)
                    show W _ _ _ _ _ _ _
                    refine w_skip ?_
                    show W _ _ _ _ _ _ _
                    refine w_seq ?_
                    refine w_block ?_
                    refine w_seq ?_
                    refine w_seq ?_
                    obtain ⟨⟨x505, x506, x507, x508⟩, hx509, e499⟩ := bind_of e499
                    try dsimp only at e499
                    obtain ⟨t510, h511, e499⟩ := bind_of e499
                    by_cases c512 : t510 = true
                    · rw [if_pos c512] at e499
                      have c512b : t510 = true := c512
                      obtain ⟨⟨x513, x514, x515, x516⟩, hx517, e499⟩ := bind_of e499
                      try dsimp only at e499
                      obtain ⟨⟨x518, x519, x520, x521⟩, hx522, e499⟩ := bind_of e499
                      try dsimp only at e499
                      obtain ⟨t523, h524, e499⟩ := bind_of e499
                      cases t523 with
                      | true =>
                        rw [if_pos rfl] at e499
                        refine w_drwE mixed 21 [.v (.slice (ad N375) t373.length (nN375 / 4)), .v (.int .i64 x501), .v (.pointer (some ⟨bk N375, (x501).toNat * 4 + 0, none⟩)), .v (.pointer (some ⟨bk N375, (x501).toNat * 4 + 0, none⟩)), .v (.agg #[.int .i64 x505, .int .i64 x506]), .v (.agg #[.int .i64 x502, .int .i64 x503]), .v (.bool t510), .v (.bool false), .v (.bool false), .v (.slice (ad N375) t373.length (nN375 / 4)), .v (.int .i64 x501), .v (.pointer (some ⟨bk N375, (x501).toNat * 4 + 0, none⟩)), .v (.pointer (some ⟨bk N375, (x501).toNat * 4 + 0, none⟩)), .v (.agg #[.int .i64 x513, .int .i64 x514]), .v (.slice (ad N375) t373.length (nN375 / 4)), .v (.int .i64 x501), .v (.pointer (some ⟨bk N375, (x501).toNat * 4 + 0, none⟩)), .v (.pointer (some ⟨bk N375, (x501).toNat * 4 + 2, none⟩)), .v (.agg #[.int .i64 x520, .int .i64 x521]), .v (.bool true), .v (.bool true)] (by kernel_rfl) ?_ ?_
                        · refine DI.sq 2 (by kernel_rfl) rfl ?_
                          refine .cons (.quietH rfl (by intro h_; cases h_) (ixl (E := E_i644) (j := 5) rfl rfl rfl (by decide) rfl hx509)) ?_
                          refine DI.sq 1 (by kernel_rfl) rfl ?_
                          refine .cons (.ldn (vs := [.int .i64 x505, .int .i64 x506]) rfl rfl rfl (.lst 5 rfl (encL_sub (lgt_in hx509).1 (by kernel_rfl)))) ?_
                          refine .cons (.ldn rfl rfl rfl (.at 0 rfl rfl)) ?_
                          refine .cons (.call (vs := [.agg #[.int .i64 x505, .int .i64 x506], .agg #[.int .i64 x502, .int .i64 x503]]) rfl rfl (by kernel_rfl) (glyphicref_SamePoint.ok h511)) ?_
                          refine .cons (dv_quiet rfl (congrArg (fun t => some (Value.bool (!t))) c512b)) ?_
                          refine DI.sq 3 (by kernel_rfl) rfl ?_
                          refine .cons (.quietH rfl (by intro h_; cases h_) (ixl (E := E_i644) (j := 5) rfl rfl rfl (by decide) rfl hx517)) ?_
                          refine DI.sq 1 (by kernel_rfl) rfl ?_
                          refine .cons (.ldn (vs := [.int .i64 x513, .int .i64 x514]) rfl rfl rfl (.lst 5 rfl (encL_sub (lgt_in hx517).1 (by kernel_rfl)))) ?_
                          refine DI.sq 2 (by kernel_rfl) rfl ?_
                          refine .cons (.quietH rfl (by intro h_; cases h_) (ixl (E := E_i644) (j := 5) rfl rfl rfl (by decide) rfl hx522)) ?_
                          refine DI.sq 1 (by kernel_rfl) rfl ?_
                          refine .cons (.ldn (vs := [.int .i64 x520, .int .i64 x521]) rfl rfl rfl (.lst 5 rfl (encL_sub (lgt_in hx522).1 (by kernel_rfl)))) ?_
                          refine .cons (.call (vs := [.agg #[.int .i64 x513, .int .i64 x514], .agg #[.int .i64 x520, .int .i64 x521]]) rfl rfl (by kernel_rfl) (glyphicref_SamePoint.ok h524)) ?_
                          refine DI.sq 1 (by kernel_rfl) rfl ?_
                          exact .nil
                        refine fk_q 21 [7, 9, 11, 12, 13, 74, 75, 76, 77, 78, 79, 80, 81, 82, 83, 84, 85] (σ' := [(7, .bool x494), (9, .slice (ad N375) t373.length (nN375 / 4)), (11, .pointer (some ⟨b488, 0, none⟩)), (12, .pointer (some ⟨b497, 0, none⟩)), (13, .int .i64 x501), (74, .slice (ad N375) t373.length (nN375 / 4)), (75, .int .i64 x501), (76, .pointer (some ⟨bk N375, (x501).toNat * 4 + 0, none⟩)), (77, .pointer (some ⟨bk N375, (x501).toNat * 4 + 0, none⟩)), (78, .agg #[.int .i64 x513, .int .i64 x514]), (79, .slice (ad N375) t373.length (nN375 / 4)), (80, .int .i64 x501), (81, .pointer (some ⟨bk N375, (x501).toNat * 4 + 0, none⟩)), (82, .pointer (some ⟨bk N375, (x501).toNat * 4 + 2, none⟩)), (83, .agg #[.int .i64 x520, .int .i64 x521]), (84, .bool true), (85, .bool true)]) t_more (by kernel_rfl) ?_
                        refine fk_nil fun all => ?_
                        refine t_keep [7, 9, 11, 12, 13, 74, 75, 76, 77, 78, 79, 80, 81, 82, 83, 84, 85] (σ' := [(7, .bool x494), (9, .slice (ad N375) t373.length (nN375 / 4)), (11, .pointer (some ⟨b488, 0, none⟩)), (12, .pointer (some ⟨b497, 0, none⟩)), (13, .int .i64 x501), (74, .slice (ad N375) t373.length (nN375 / 4)), (75, .int .i64 x501), (76, .pointer (some ⟨bk N375, (x501).toNat * 4 + 0, none⟩)), (77, .pointer (some ⟨bk N375, (x501).toNat * 4 + 0, none⟩)), (78, .agg #[.int .i64 x513, .int .i64 x514]), (79, .slice (ad N375) t373.length (nN375 / 4)), (80, .int .i64 x501), (81, .pointer (some ⟨bk N375, (x501).toNat * 4 + 0, none⟩)), (82, .pointer (some ⟨bk N375, (x501).toNat * 4 + 2, none⟩)), (83, .agg #[.int .i64 x520, .int .i64 x521]), (84, .bool true), (85, .bool true)]) (by kernel_rfl) ?_
                        refine t_end ?_
                        show W _ _ _ _ _ _ _
                        refine w_cond rfl (fun _ => ?_) (fun c_ => by cases c_)
                        show W _ _ _ _ _ _ _
                        refine w_seq ?_
                        refine w_reg fun all => ?_
                        refine t_qz 1 [6] (σ' := [(6, .bool false)]) (by kernel_rfl) ?_
                        refine t_end ?_
                        show W _ _ _ _ _ _ _
                        refine w_ret ?_
                        obtain rfl := Option.some.inj e499
                        have hr_ := Option.some.inj e
                        exact ⟨[.bool false], [], S, ⟨rfl, trivial⟩, VS.none, congrArg Value.bool hr_, rfl, rfl⟩
                      | false =>
                        rw [if_neg (by decide)] at e499
                        refine w_drwE mixed 21 [.v (.slice (ad N375) t373.length (nN375 / 4)), .v (.int .i64 x501), .v (.pointer (some ⟨bk N375, (x501).toNat * 4 + 0, none⟩)), .v (.pointer (some ⟨bk N375, (x501).toNat * 4 + 0, none⟩)), .v (.agg #[.int .i64 x505, .int .i64 x506]), .v (.agg #[.int .i64 x502, .int .i64 x503]), .v (.bool t510), .v (.bool false), .v (.bool false), .v (.slice (ad N375) t373.length (nN375 / 4)), .v (.int .i64 x501), .v (.pointer (some ⟨bk N375, (x501).toNat * 4 + 0, none⟩)), .v (.pointer (some ⟨bk N375, (x501).toNat * 4 + 0, none⟩)), .v (.agg #[.int .i64 x513, .int .i64 x514]), .v (.slice (ad N375) t373.length (nN375 / 4)), .v (.int .i64 x501), .v (.pointer (some ⟨bk N375, (x501).toNat * 4 + 0, none⟩)), .v (.pointer (some ⟨bk N375, (x501).toNat * 4 + 2, none⟩)), .v (.agg #[.int .i64 x520, .int .i64 x521]), .v (.bool false), .v (.bool false)] (by kernel_rfl) ?_ ?_
                        · refine DI.sq 2 (by kernel_rfl) rfl ?_
                          refine .cons (.quietH rfl (by intro h_; cases h_) (ixl (E := E_i644) (j := 5) rfl rfl rfl (by decide) rfl hx509)) ?_
                          refine DI.sq 1 (by kernel_rfl) rfl ?_
                          refine .cons (.ldn (vs := [.int .i64 x505, .int .i64 x506]) rfl rfl rfl (.lst 5 rfl (encL_sub (lgt_in hx509).1 (by kernel_rfl)))) ?_
                          refine .cons (.ldn rfl rfl rfl (.at 0 rfl rfl)) ?_
                          refine .cons (.call (vs := [.agg #[.int .i64 x505, .int .i64 x506], .agg #[.int .i64 x502, .int .i64 x503]]) rfl rfl (by kernel_rfl) (glyphicref_SamePoint.ok h511)) ?_
                          refine .cons (dv_quiet rfl (congrArg (fun t => some (Value.bool (!t))) c512b)) ?_
                          refine DI.sq 3 (by kernel_rfl) rfl ?_
                          refine .cons (.quietH rfl (by intro h_; cases h_) (ixl (E := E_i644) (j := 5) rfl rfl rfl (by decide) rfl hx517)) ?_
                          refine DI.sq 1 (by kernel_rfl) rfl ?_
                          refine .cons (.ldn (vs := [.int .i64 x513, .int .i64 x514]) rfl rfl rfl (.lst 5 rfl (encL_sub (lgt_in hx517).1 (by kernel_rfl)))) ?_
                          refine DI.sq 2 (by kernel_rfl) rfl ?_
                          refine .cons (.quietH rfl (by intro h_; cases h_) (ixl (E := E_i644) (j := 5) rfl rfl rfl (by decide) rfl hx522)) ?_
                          refine DI.sq 1 (by kernel_rfl) rfl ?_
                          refine .cons (.ldn (vs := [.int .i64 x520, .int .i64 x521]) rfl rfl rfl (.lst 5 rfl (encL_sub (lgt_in hx522).1 (by kernel_rfl)))) ?_
                          refine .cons (.call (vs := [.agg #[.int .i64 x513, .int .i64 x514], .agg #[.int .i64 x520, .int .i64 x521]]) rfl rfl (by kernel_rfl) (glyphicref_SamePoint.ok h524)) ?_
                          refine DI.sq 1 (by kernel_rfl) rfl ?_
                          exact .nil
                        refine fk_q 21 [7, 9, 11, 12, 13, 74, 75, 76, 77, 78, 79, 80, 81, 82, 83, 84, 85] (σ' := [(7, .bool x494), (9, .slice (ad N375) t373.length (nN375 / 4)), (11, .pointer (some ⟨b488, 0, none⟩)), (12, .pointer (some ⟨b497, 0, none⟩)), (13, .int .i64 x501), (74, .slice (ad N375) t373.length (nN375 / 4)), (75, .int .i64 x501), (76, .pointer (some ⟨bk N375, (x501).toNat * 4 + 0, none⟩)), (77, .pointer (some ⟨bk N375, (x501).toNat * 4 + 0, none⟩)), (78, .agg #[.int .i64 x513, .int .i64 x514]), (79, .slice (ad N375) t373.length (nN375 / 4)), (80, .int .i64 x501), (81, .pointer (some ⟨bk N375, (x501).toNat * 4 + 0, none⟩)), (82, .pointer (some ⟨bk N375, (x501).toNat * 4 + 2, none⟩)), (83, .agg #[.int .i64 x520, .int .i64 x521]), (84, .bool false), (85, .bool false)]) t_more (by kernel_rfl) ?_
                        refine fk_nil fun all => ?_
                        refine t_keep [7, 9, 11, 12, 13, 74, 75, 76, 77, 78, 79, 80, 81, 82, 83, 84, 85] (σ' := [(7, .bool x494), (9, .slice (ad N375) t373.length (nN375 / 4)), (11, .pointer (some ⟨b488, 0, none⟩)), (12, .pointer (some ⟨b497, 0, none⟩)), (13, .int .i64 x501), (74, .slice (ad N375) t373.length (nN375 / 4)), (75, .int .i64 x501), (76, .pointer (some ⟨bk N375, (x501).toNat * 4 + 0, none⟩)), (77, .pointer (some ⟨bk N375, (x501).toNat * 4 + 0, none⟩)), (78, .agg #[.int .i64 x513, .int .i64 x514]), (79, .slice (ad N375) t373.length (nN375 / 4)), (80, .int .i64 x501), (81, .pointer (some ⟨bk N375, (x501).toNat * 4 + 0, none⟩)), (82, .pointer (some ⟨bk N375, (x501).toNat * 4 + 2, none⟩)), (83, .agg #[.int .i64 x520, .int .i64 x521]), (84, .bool false), (85, .bool false)]) (by kernel_rfl) ?_
                        refine t_end ?_
                        show W _ _ _ _ _ _ _
                        refine w_cond rfl (fun c_ => by cases c_) (fun _ => ?_)
                        show W _ _ _ _ _ _ _
                        refine w_skip ?_
                        show W _ _ _ _ _ _ _
                        refine w_reg fun all => ?_
                        obtain ⟨⟨x525, x526, x527, x528⟩, hx529, e499⟩ := bind_of e499
                        try dsimp only at e499
                        refine t_qz 2 [7, 9, 11, 12, 13, 74, 75, 76, 77, 78, 79, 80, 81, 82, 83, 84, 86, 87] (σ' := [(7, .bool x494), (9, .slice (ad N375) t373.length (nN375 / 4)), (11, .pointer (some ⟨b488, 0, none⟩)), (12, .pointer (some ⟨b497, 0, none⟩)), (13, .int .i64 x501), (74, .slice (ad N375) t373.length (nN375 / 4)), (75, .int .i64 x501), (76, .pointer (some ⟨bk N375, (x501).toNat * 4 + 0, none⟩)), (77, .pointer (some ⟨bk N375, (x501).toNat * 4 + 0, none⟩)), (78, .agg #[.int .i64 x513, .int .i64 x514]), (79, .slice (ad N375) t373.length (nN375 / 4)), (80, .int .i64 x501), (81, .pointer (some ⟨bk N375, (x501).toNat * 4 + 0, none⟩)), (82, .pointer (some ⟨bk N375, (x501).toNat * 4 + 2, none⟩)), (83, .agg #[.int .i64 x520, .int .i64 x521]), (84, .bool false), (86, .slice (ad N375) t373.length (nN375 / 4)), (87, .int .i64 x501)]) (by kernel_rfl) ?_
                        refine t_v (.quietH rfl (by intro h_; cases h_) (ixl (E := E_i644) (j := 5) rfl rfl rfl (by decide) rfl hx529)) ?_
                        refine t_qz 1 [7, 9, 11, 12, 13, 74, 75, 76, 77, 78, 79, 80, 81, 82, 83, 84, 89] (σ' := [(7, .bool x494), (9, .slice (ad N375) t373.length (nN375 / 4)), (11, .pointer (some ⟨b488, 0, none⟩)), (12, .pointer (some ⟨b497, 0, none⟩)), (13, .int .i64 x501), (74, .slice (ad N375) t373.length (nN375 / 4)), (75, .int .i64 x501), (76, .pointer (some ⟨bk N375, (x501).toNat * 4 + 0, none⟩)), (77, .pointer (some ⟨bk N375, (x501).toNat * 4 + 0, none⟩)), (78, .agg #[.int .i64 x513, .int .i64 x514]), (79, .slice (ad N375) t373.length (nN375 / 4)), (80, .int .i64 x501), (81, .pointer (some ⟨bk N375, (x501).toNat * 4 + 0, none⟩)), (82, .pointer (some ⟨bk N375, (x501).toNat * 4 + 2, none⟩)), (83, .agg #[.int .i64 x520, .int .i64 x521]), (84, .bool false), (89, .pointer (some ⟨bk N375, (x501).toNat * 4 + 2, none⟩))]) (by kernel_rfl) ?_
                        refine t_v (.ldn (vs := [.int .i64 x527, .int .i64 x528]) rfl rfl rfl (.lst 5 rfl (encL_sub (lgt_in hx529).1 (by kernel_rfl)))) ?_
                        refine t_sti 0 (cs := [.int .i64 x527, .int .i64 x528]) rfl rfl rfl rfl rfl rfl rfl rfl rfl ?_
                        refine t_keep [7, 9, 11, 12, 13, 74, 75, 76, 77, 78, 79, 80, 81, 82, 83, 84] (σ' := [(7, .bool x494), (9, .slice (ad N375) t373.length (nN375 / 4)), (11, .pointer (some ⟨b488, 0, none⟩)), (12, .pointer (some ⟨b497, 0, none⟩)), (13, .int .i64 x501), (74, .slice (ad N375) t373.length (nN375 / 4)), (75, .int .i64 x501), (76, .pointer (some ⟨bk N375, (x501).toNat * 4 + 0, none⟩)), (77, .pointer (some ⟨bk N375, (x501).toNat * 4 + 0, none⟩)), (78, .agg #[.int .i64 x513, .int .i64 x514]), (79, .slice (ad N375) t373.length (nN375 / 4)), (80, .int .i64 x501), (81, .pointer (some ⟨bk N375, (x501).toNat * 4 + 0, none⟩)), (82, .pointer (some ⟨bk N375, (x501).toNat * 4 + 2, none⟩)), (83, .agg #[.int .i64 x520, .int .i64 x521]), (84, .bool false)]) (by kernel_rfl) ?_
                        refine t_end ?_
                        show W _ _ _ _ _ _ _
                        refine w_reg fun all => ?_
                        refine t_qz 3 [7, 9, 11, 12, 13, 74, 75, 76, 77, 78, 79, 80, 81, 82, 83, 84] (σ' := [(7, .bool x494), (9, .slice (ad N375) t373.length (nN375 / 4)), (11, .pointer (some ⟨b488, 0, none⟩)), (12, .pointer (some ⟨b497, 0, none⟩)), (13, .int .i64 (wr64 (x501 + 1))), (74, .slice (ad N375) t373.length (nN375 / 4)), (75, .int .i64 x501), (76, .pointer (some ⟨bk N375, (x501).toNat * 4 + 0, none⟩)), (77, .pointer (some ⟨bk N375, (x501).toNat * 4 + 0, none⟩)), (78, .agg #[.int .i64 x513, .int .i64 x514]), (79, .slice (ad N375) t373.length (nN375 / 4)), (80, .int .i64 x501), (81, .pointer (some ⟨bk N375, (x501).toNat * 4 + 0, none⟩)), (82, .pointer (some ⟨bk N375, (x501).toNat * 4 + 2, none⟩)), (83, .agg #[.int .i64 x520, .int .i64 x521]), (84, .bool false)]) (by kernel_rfl) ?_
                        refine t_end ?_
                        exact ⟨k_, Nat.lt_succ_self _, [(7, .bool x494), (9, .slice (ad N375) t373.length (nN375 / 4)), (11, .pointer (some ⟨b488, 0, none⟩)), (12, .pointer (some ⟨b497, 0, none⟩)), (13, .int .i64 (wr64 (x501 + 1)))], ([⟨b497, [.int .i64 x527, .int .i64 x528], 2⟩, ⟨b488, [.int .i64 x495, .int .i64 x496], 2⟩, ⟨b384, [.int .i64 x376, .int .i64 x377, .int .i64 x378, .int .i64 x379, .int .i64 x380, .int .i64 x381, .int .i64 x382], 7⟩, ⟨b278, [.int .i64 t271, .int .i64 t272, .slice (ad N277) t274.length (nN277 / 7), .bool t273], 4⟩, ⟨b43, [.slice a_l0 l0.length c_l0, .int .i64 t275], 2⟩, ⟨N375, encL E_i644 t373, nN375⟩, ⟨N277, encL E_i647 t274, nN277⟩] : List Own), S, keep_sub [7, 9, 11, 12, 13] (by kernel_rfl), VS.sel [0, 0, 0, 0, 0, 0, 0] (by kernel_rfl), wr64 (x501 + 1), x527, x528, rfl, rfl, rfl, e499⟩
                    · rw [if_neg c512] at e499
                      have c512b : t510 = false := Bool.eq_false_iff.mpr c512
                      refine w_drwE mixed 21 [.v (.slice (ad N375) t373.length (nN375 / 4)), .v (.int .i64 x501), .v (.pointer (some ⟨bk N375, (x501).toNat * 4 + 0, none⟩)), .v (.pointer (some ⟨bk N375, (x501).toNat * 4 + 0, none⟩)), .v (.agg #[.int .i64 x505, .int .i64 x506]), .v (.agg #[.int .i64 x502, .int .i64 x503]), .v (.bool t510), .v (.bool true), .v (.bool true), .v (.tuple #[]), .v (.tuple #[]), .v (.tuple #[]), .v (.tuple #[]), .v (.tuple #[]), .v (.tuple #[]), .v (.tuple #[]), .v (.tuple #[]), .v (.tuple #[]), .v (.tuple #[]), .v (.tuple #[]), .v (.bool true)] (by kernel_rfl) ?_ ?_
                      · refine DI.sq 2 (by kernel_rfl) rfl ?_
                        refine .cons (.quietH rfl (by intro h_; cases h_) (ixl (E := E_i644) (j := 5) rfl rfl rfl (by decide) rfl hx509)) ?_
                        refine DI.sq 1 (by kernel_rfl) rfl ?_
                        refine .cons (.ldn (vs := [.int .i64 x505, .int .i64 x506]) rfl rfl rfl (.lst 5 rfl (encL_sub (lgt_in hx509).1 (by kernel_rfl)))) ?_
                        refine .cons (.ldn rfl rfl rfl (.at 0 rfl rfl)) ?_
                        refine .cons (.call (vs := [.agg #[.int .i64 x505, .int .i64 x506], .agg #[.int .i64 x502, .int .i64 x503]]) rfl rfl (by kernel_rfl) (glyphicref_SamePoint.ok h511)) ?_
                        refine .cons (dv_quiet rfl (congrArg (fun t => some (Value.bool (!t))) c512b)) ?_
                        refine DI.sq 13 (by kernel_rfl) rfl ?_
                        exact .nil
                      refine fk_q 21 [7, 9, 11, 12, 13, 74, 75, 76, 77, 78, 79, 80, 81, 82, 83, 84, 85] (σ' := [(7, .bool x494), (9, .slice (ad N375) t373.length (nN375 / 4)), (11, .pointer (some ⟨b488, 0, none⟩)), (12, .pointer (some ⟨b497, 0, none⟩)), (13, .int .i64 x501), (74, .tuple #[]), (75, .tuple #[]), (76, .tuple #[]), (77, .tuple #[]), (78, .tuple #[]), (79, .tuple #[]), (80, .tuple #[]), (81, .tuple #[]), (82, .tuple #[]), (83, .tuple #[]), (84, .tuple #[]), (85, .bool true)]) t_more (by kernel_rfl) ?_
                      refine fk_nil fun all => ?_
                      refine t_keep [7, 9, 11, 12, 13, 74, 75, 76, 77, 78, 79, 80, 81, 82, 83, 84, 85] (σ' := [(7, .bool x494), (9, .slice (ad N375) t373.length (nN375 / 4)), (11, .pointer (some ⟨b488, 0, none⟩)), (12, .pointer (some ⟨b497, 0, none⟩)), (13, .int .i64 x501), (74, .tuple #[]), (75, .tuple #[]), (76, .tuple #[]), (77, .tuple #[]), (78, .tuple #[]), (79, .tuple #[]), (80, .tuple #[]), (81, .tuple #[]), (82, .tuple #[]), (83, .tuple #[]), (84, .tuple #[]), (85, .bool true)]) (by kernel_rfl) ?_
                      refine t_end ?_
                      show W _ _ _ _ _ _ _
                      refine w_cond rfl (fun _ => ?_) (fun c_ => by cases c_)
                      show W _ _ _ _ _ _ _
                      refine w_seq ?_
                      refine w_reg fun all => ?_
                      refine t_qz 1 [6] (σ' := [(6, .bool false)]) (by kernel_rfl) ?_
                      refine t_end ?_
                      show W _ _ _ _ _ _ _
                      refine w_ret ?_
                      obtain rfl := Option.some.inj e499
                      have hr_ := Option.some.inj e
                      exact ⟨[.bool false], [], S, ⟨rfl, trivial⟩, VS.none, congrArg Value.bool hr_, rfl, rfl⟩
                  · rw [if_neg c504] at e499
                    have c504b : (decide (x501 < (t373.length : Int))) = false := decide_eq_false c504
                    refine t_qz 3 [7, 9, 11, 12, 13, 59, 61] (σ' := [(7, .bool x494), (9, .slice (ad N375) t373.length (nN375 / 4)), (11, .pointer (some ⟨b488, 0, none⟩)), (12, .pointer (some ⟨b497, 0, none⟩)), (13, .int .i64 x501), (59, .int .i64 x501), (61, .int .i64 (t373.length : Int))]) (by kernel_rfl) ?_
                    refine t_v (dv_quiet rfl (congrArg (fun t => some (Value.bool t)) c504b)) ?_
                    refine t_keep [7, 9, 11, 12, 13, 62] (σ' := [(7, .bool x494), (9, .slice (ad N375) t373.length (nN375 / 4)), (11, .pointer (some ⟨b488, 0, none⟩)), (12, .pointer (some ⟨b497, 0, none⟩)), (13, .int .i64 x501), (62, .bool false)]) (by kernel_rfl) ?_
                    refine t_end ?_
                    show W _ _ _ _ _ _ _
                    refine w_cond rfl (fun c_ => by cases c_) (fun _ => ?_)
                    show W _ _ _ _ _ _ _
                    refine w_exit ?_
                    obtain rfl := Option.some.inj e499
                    exact ⟨([⟨b497, [.int .i64 x502, .int .i64 x503], 2⟩, ⟨b488, [.int .i64 x495, .int .i64 x496], 2⟩, ⟨b384, [.int .i64 x376, .int .i64 x377, .int .i64 x378, .int .i64 x379, .int .i64 x380, .int .i64 x381, .int .i64 x382], 7⟩, ⟨b278, [.int .i64 t271, .int .i64 t272, .slice (ad N277) t274.length (nN277 / 7), .bool t273], 4⟩, ⟨b43, [.slice a_l0 l0.length c_l0, .int .i64 t275], 2⟩, ⟨N277, encL E_i647 t274, nN277⟩, ⟨N375, encL E_i644 t373, nN375⟩] : List Own), S, VS.sel [0, 0, 0, 0, 0, 1, 0] (by kernel_rfl), x502, x503, rfl, by kernel_rfl, rfl, rfl⟩
              · rintro σ_ H_ S_ ⟨x532, x533, rfl, rfl, rfl, rfl⟩
                dsimp only at e
                refine w_seq ?_
                refine w_reg fun all => ?_
                by_cases c534 : x494 = true
                · rw [if_pos c534] at e
                  have c534b : x494 = true := c534
                  refine t_v (dv_quiet rfl (congrArg (fun t => some (Value.bool t)) c534b)) ?_
                  refine t_qz 1 [11, 12, 92] (σ' := [(11, .pointer (some ⟨b488, 0, none⟩)), (12, .pointer (some ⟨b497, 0, none⟩)), (92, .bool true)]) (by kernel_rfl) ?_
                  refine t_v (.ldn rfl rfl rfl (.at 0 rfl rfl)) ?_
                  refine t_v (.ldn rfl rfl rfl (.at 1 rfl rfl)) ?_
                  obtain ⟨t535, h536, e⟩ := bind_of e
                  refine t_v (.call (vs := [.agg #[.int .i64 x532, .int .i64 x533], .agg #[.int .i64 x495, .int .i64 x496]]) rfl rfl (by kernel_rfl) (glyphicref_SamePoint.ok h536)) ?_
                  refine t_qz 2 [6] (σ' := [(6, .bool t535)]) (by kernel_rfl) ?_
                  refine t_end ?_
                  show W _ _ _ _ _ _ _
                  refine w_ret ?_
                  have hr_ := Option.some.inj e
                  exact ⟨[.bool t535], [], S, ⟨rfl, trivial⟩, VS.none, congrArg Value.bool hr_, rfl, rfl⟩
                · rw [if_neg c534] at e
                  exact absurd (Option.some.inj e) (by decide)
          · rw [if_neg c487] at e
            have c487b : ((wr64 (x376 - 1)) == 2) = false := beq_eq_false_iff_ne.mpr c487
            cases e
  | false =>
    rw [if_neg (by decide)] at e
    exact absurd (Option.some.inj e) (by decide)

def glyphiclaw21_FlattenRows.Pure : Prop := ∀ (l0 : List (Int)) (far1 : Int) (shut2 : Bool), (Lit.int .i64 far1).wf = true → ∃ k, glyphiclaw21_FlattenRows.f k l0 far1 shut2 = some true
theorem glyphiclaw21_FlattenRows.walk (P : glyphiclaw21_FlattenRows.Pure) (l0 : List (Int)) (far1 : Int) (shut2 : Bool) (w : World) {S : Seal} (hS : HOK [] S w) {a_l0 : Option Addr} {c_l0 : Nat} (h_l0 : SlI S .i64 l0 a_l0) (hfar1 : (Lit.int .i64 far1).wf = true) :
    Calls Try.prog 6 #[.slice a_l0 l0.length c_l0, .int .i64 far1, .bool shut2] w fun e w' => e = .returned (.bool true) ∧ Below w.heap.size w w' := let ⟨k, h⟩ := P l0 far1 shut2 hfar1; law_w hS (glyphiclaw21_FlattenRows.ok (SlI.e h_l0) (k := k) h)
end Go.Proofs.Ytpimfacaalkmdaa.QFlattenRows
