/- Functions of the program as Lean functions, each with the proof of its walk. Written by gen.py, a program of these sessions. -/
import Derived.Test.YtpimfacaalkmdaaQFlattenNearx3
namespace Go.Proofs.Ytpimfacaalkmdaa.QFlattenNear
open Go Go.RowKit Go.Proofs.YtpimfacaalkmdaaE Go.Proofs.YtpimfacaalkmdaaX
set_option linter.unusedVariables false
set_option maxRecDepth 100000
set_option maxHeartbeats 8000000
/-- glyphiclaw21.FlattenNear -/
def c8 : C :=
  (.seq (.reg [⟨(some 6), .mv (.const (.bool false)), none⟩])
  (.seq (.reg [⟨(some 17), .call 26 [], none⟩,
     ⟨(some 7), .mv (.tmp 17), none⟩])
  (.seq (.seq (.reg [⟨(some 18), .mv (.tmp 7), none⟩,
      ⟨(some 19), .un .not (.tmp 18), none⟩])
   (.cond (.tmp 19)
    (.seq (.reg [⟨(some 6), .mv (.const (.bool false)), none⟩])
     .ret)
    .skip))
  (.seq (.seq (.reg [⟨(some 20), .mv (.tmp 0), none⟩,
      ⟨(some 21), .lns (.tmp 20), none⟩,
      ⟨(some 22), .bin .gtr (.tmp 21) (.const (.int .i64 30)), none⟩])
   (.cond (.tmp 22)
    (.seq (.reg [⟨(some 23), .mv (.tmp 7), none⟩,
        ⟨(some 6), .mv (.tmp 23), none⟩])
     .ret)
    .skip))
  (.seq (.reg [⟨(some 24), .mv (.tmp 1), none⟩,
     ⟨(some 25), .bin .rem (.tmp 24) (.const (.int .i64 17)), none⟩,
     ⟨(some 26), .bin .add (.tmp 25) (.const (.int .i64 17)), none⟩,
     ⟨(some 27), .bin .rem (.tmp 26) (.const (.int .i64 17)), none⟩,
     ⟨(some 28), .bin .add (.tmp 27) (.const (.int .i64 1)), none⟩,
     ⟨(some 1), .mv (.tmp 28), none⟩])
  (.seq (.reg [⟨(some 29), .mv (.tmp 0), none⟩,
     ⟨(some 30), .bld [(.slice none 0 0), (.int .i64 0)] [(0, 1, (.tmp 29))], none⟩,
     ⟨(some 31), .box (.tmp 30), none⟩,
     ⟨(some 8), .mv (.tmp 31), none⟩])
  (.seq (.reg [⟨(some 32), .mv (.tmp 1), none⟩,
     ⟨(some 33), .cnv .u64 (.tmp 32), none⟩,
     ⟨(some 34), .bin .shl (.const (.int .i64 1)) (.tmp 33), none⟩,
     ⟨(some 9), .mv (.tmp 34), none⟩])
  (.seq (.reg [⟨(some 35), .mv (.tmp 8), none⟩,
     ⟨(some 36), .mv (.tmp 9), none⟩,
     ⟨(some 37), .call 18 [(.tmp 35), (.tmp 36)], none⟩,
     ⟨(some 10), .new [(.int .i64 0), (.int .i64 0)], none⟩,
     ⟨none, .st 2 (.tmp 10) (.tmp 37), none⟩])
  (.seq (.reg [⟨(some 38), .mv (.tmp 8), none⟩,
     ⟨(some 39), .call 37 [(.tmp 38), (.const (.int .i64 3))], none⟩,
     ⟨(some 40), .bin .add (.const (.int .i64 1)) (.tmp 39), none⟩,
     ⟨(some 41), .bld [(.int .i64 0), (.int .i64 0), (.int .i64 0), (.int .i64 0), (.int .i64 0), (.int .i64 0), (.int .i64 0)] [(0, 1, (.tmp 40))], none⟩,
     ⟨(some 11), .new [(.int .i64 0), (.int .i64 0), (.int .i64 0), (.int .i64 0), (.int .i64 0), (.int .i64 0), (.int .i64 0)], none⟩,
     ⟨none, .st 7 (.tmp 11) (.tmp 41), none⟩])
  (.seq (.seq (.reg [⟨(some 12), .mv (.const (.int .i64 0)), none⟩])
   (.block 0 (.loop (.seq (.seq (.reg [⟨(some 42), .mv (.tmp 12), none⟩,
         ⟨(some 43), .pad 0 (.tmp 11), none⟩,
         ⟨(some 44), .ld none (.tmp 43), none⟩,
         ⟨(some 45), .bin .lss (.tmp 42) (.tmp 44), none⟩])
      (.cond (.tmp 45)
       .skip
       (.exit 0)))
     (.seq (.block 1 (.reg [⟨(some 48), .mv (.tmp 12), none⟩,
         ⟨(some 49), .mv (.tmp 8), none⟩,
         ⟨(some 50), .mv (.tmp 9), none⟩,
         ⟨(some 51), .call 18 [(.tmp 49), (.tmp 50)], none⟩,
         ⟨(some 52), .pad 1 (.tmp 11), none⟩,
         ⟨(some 53), .ixa 2 3 (.tmp 52) (.tmp 48), none⟩,
         ⟨none, .st 2 (.tmp 53) (.tmp 51), none⟩]))
     (.reg [⟨(some 46), .mv (.tmp 12), none⟩,
       ⟨(some 47), .bin .add (.tmp 46) (.const (.int .i64 1)), none⟩,
       ⟨(some 12), .mv (.tmp 47), none⟩]))))))
  (.seq (.reg [⟨(some 54), .ld (some 2) (.tmp 10), none⟩,
     ⟨(some 55), .ld (some 7) (.tmp 11), none⟩,
     ⟨(some 56), .bsl [(.int .i64 0), (.int .i64 0), (.int .i64 0), (.int .i64 0), (.int .i64 0), (.int .i64 0), (.int .i64 0)] 1 [(0, 7, (.tmp 55))], none⟩,
     ⟨(some 57), .bld [(.int .i64 0), (.int .i64 0), (.slice none 0 0), (.bool false)] [(0, 2, (.tmp 54)), (2, 1, (.tmp 56))], none⟩,
     ⟨(some 58), .call 28 [(.tmp 57), (.const (.bool false))], none⟩,
     ⟨(some 13), .mv (.tmp 58), none⟩])
  (.seq (.reg [⟨(some 59), .mv (.tmp 2), none⟩,
     ⟨(some 60), .bin .rem (.tmp 59) (.const (.int .i64 513)), none⟩,
     ⟨(some 61), .bin .add (.tmp 60) (.const (.int .i64 513)), none⟩,
     ⟨(some 62), .bin .rem (.tmp 61) (.const (.int .i64 513)), none⟩,
     ⟨(some 14), .mv (.tmp 62), none⟩])
  (.seq (.reg [⟨(some 63), .ld (some 2) (.tmp 10), none⟩,
     ⟨(some 64), .ld (some 7) (.tmp 11), none⟩,
     ⟨(some 65), .mv (.tmp 14), none⟩,
     ⟨(some 66), .call 38 [(.tmp 63), (.tmp 64), (.tmp 65), (.const (.int .i64 512))], none⟩,
     ⟨(some 15), .new [(.int .i64 0), (.int .i64 0)], none⟩,
     ⟨none, .st 2 (.tmp 15) (.tmp 66), none⟩])
  (.seq (.seq (.reg [⟨(some 67), .mv (.tmp 13), none⟩,
      ⟨(some 68), .lns (.tmp 67), none⟩,
      ⟨(some 69), .bin .eql (.tmp 68) (.const (.int .i64 0)), none⟩])
   (.cond (.tmp 69)
    (.seq (.reg [⟨(some 70), .mv (.tmp 7), none⟩,
        ⟨(some 6), .mv (.tmp 70), none⟩])
     .ret)
    .skip))
  (.seq (.seq (.reg [⟨(some 16), .mv (.const (.int .i64 0)), none⟩])
   (.block 2 (.loop (.seq (.seq (.reg [⟨(some 71), .mv (.tmp 16), none⟩,
         ⟨(some 72), .mv (.tmp 13), none⟩,
         ⟨(some 73), .lns (.tmp 72), none⟩,
         ⟨(some 74), .bin .lss (.tmp 71) (.tmp 73), none⟩])
      (.cond (.tmp 74)
       .skip
       (.exit 2)))
     (.seq (.block 3 (.seq (.drw [⟨(some 77), .mv (.tmp 13), none⟩,
          ⟨(some 78), .mv (.tmp 16), none⟩,
          ⟨(some 79), .ixs 4 (.tmp 77) (.tmp 78), none⟩,
          ⟨(some 80), .pad 0 (.tmp 79), none⟩,
          ⟨(some 81), .ld (some 2) (.tmp 80), none⟩,
          ⟨(some 82), .mv (.tmp 13), none⟩,
          ⟨(some 83), .mv (.tmp 16), none⟩,
          ⟨(some 84), .ixs 4 (.tmp 82) (.tmp 83), none⟩,
          ⟨(some 85), .pad 2 (.tmp 84), none⟩,
          ⟨(some 86), .ld (some 2) (.tmp 85), none⟩,
          ⟨(some 87), .ld (some 2) (.tmp 15), none⟩,
          ⟨(some 88), .call 39 [(.tmp 81), (.tmp 86), (.tmp 87), (.const (.int .i64 34))], none⟩] [[], [], [0, 1], [2], [3], [], [], [5, 6], [7], [8], [], [4, 9, 10]])
       (.cond (.tmp 88)
        (.seq (.reg [⟨(some 89), .mv (.tmp 7), none⟩,
            ⟨(some 6), .mv (.tmp 89), none⟩])
         .ret)
        .skip)))
     (.reg [⟨(some 75), .mv (.tmp 16), none⟩,
       ⟨(some 76), .bin .add (.tmp 75) (.const (.int .i64 1)), none⟩,
       ⟨(some 16), .mv (.tmp 76), none⟩]))))))
  (.seq (.reg [⟨(some 6), .mv (.const (.bool false)), none⟩])
  .ret))))))))))))))))
def glyphiclaw21_FlattenNear.l0 : Nat → List (Int) → Int → Int → Int → Int → Int → Int → Int → Int → Int → Int → Option (Int × Int × Int × Int × Int × Int × Int × Int)
  | 0, _, _, _, _, _, _, _, _, _, _, _ => none
  | k + 1, l0, far1, t101, x108, x109, x110, x111, x112, x113, x114, x115 => if x108 < (wr64 (1 + t101)) then ((glyphicmake_Point_v1.f (wr64 (1 * 2 ^ (min (Int.toNat (wru64 (wr64 ((Int.tmod (wr64 ((Int.tmod far1 17) + 17)) 17) + 1)))) 64))) l0 x115).bind fun (t117, t118, t119) => (if x108 = 0 then (glyphiclaw21_FlattenNear.l0 k l0 far1 t101 (wr64 (x108 + 1)) t117 t118 x111 x112 x113 x114 t119) else (if x108 = 1 then (glyphiclaw21_FlattenNear.l0 k l0 far1 t101 (wr64 (x108 + 1)) x109 x110 t117 t118 x113 x114 t119) else (if x108 = 2 then (glyphiclaw21_FlattenNear.l0 k l0 far1 t101 (wr64 (x108 + 1)) x109 x110 x111 x112 t117 t118 t119) else (none))))) else (some (wr64 (1 + t101), x109, x110, x111, x112, x113, x114, x115))
def glyphiclaw21_FlattenNear.l1 : Nat → Bool → List (Int × Int × Int × Int) → Int → Int → Int → Option ((Bool) ⊕ (Unit))
  | 0, _, _, _, _, _ => none
  | k + 1, t40, t216, t239, t240, x247 => if x247 < (t216.length : Int) then ((lgt t216 x247).bind fun (x249, x250, x251, x252) => ((lgt t216 x247).bind fun (x254, x255, x256, x257) => ((glyphicref1_Near.f x249 x250 x256 x257 t239 t240 34).bind fun t259 => (if t259 = true then (some (.inl t40)) else (glyphiclaw21_FlattenNear.l1 k t40 t216 t239 t240 (wr64 (x247 + 1))))))) else (some (.inr ()))
def glyphiclaw21_FlattenNear.l2 : Nat → Bool → List (Int × Int × Int × Int) → Int → Int → Int → Option ((Bool) ⊕ (Unit))
  | 0, _, _, _, _, _ => none
  | k + 1, t40, t216, t277, t278, x285 => if x285 < (t216.length : Int) then ((lgt t216 x285).bind fun (x287, x288, x289, x290) => ((lgt t216 x285).bind fun (x292, x293, x294, x295) => ((glyphicref1_Near.f x287 x288 x294 x295 t277 t278 34).bind fun t297 => (if t297 = true then (some (.inl t40)) else (glyphiclaw21_FlattenNear.l2 k t40 t216 t277 t278 (wr64 (x285 + 1))))))) else (some (.inr ()))
def glyphiclaw21_FlattenNear.l3 : Nat → Bool → List (Int × Int × Int × Int) → Int → Int → Int → Option ((Bool) ⊕ (Unit))
  | 0, _, _, _, _, _ => none
  | k + 1, t40, t216, t315, t316, x323 => if x323 < (t216.length : Int) then ((lgt t216 x323).bind fun (x325, x326, x327, x328) => ((lgt t216 x323).bind fun (x330, x331, x332, x333) => ((glyphicref1_Near.f x325 x326 x332 x333 t315 t316 34).bind fun t335 => (if t335 = true then (some (.inl t40)) else (glyphiclaw21_FlattenNear.l3 k t40 t216 t315 t316 (wr64 (x323 + 1))))))) else (some (.inr ()))
def glyphiclaw21_FlattenNear.f (k : Nat) (l0 : List (Int)) (far1 : Int) (part2 : Int) : Option (Bool) := (glyphiclaw21_first.f).bind fun t40 => (if t40 = true then (if (l0.length : Int) > 30 then (some t40) else (if (wru64 (wr64 ((Int.tmod (wr64 ((Int.tmod far1 17) + 17)) 17) + 1))) < 0 then none else ((glyphicmake_Point_v1.f (wr64 (1 * 2 ^ (min (Int.toNat (wru64 (wr64 ((Int.tmod (wr64 ((Int.tmod far1 17) + 17)) 17) + 1)))) 64))) l0 0).bind fun (t96, t97, t98) => ((glyphicmake_Seq_Next_v1.f 3 l0 t98).bind fun (t101, t102) => ((glyphiclaw21_FlattenNear.l0 k l0 far1 t101 0 0 0 0 0 0 0 t102 : Option (Int × Int × Int × Int × Int × Int × Int × Int)).bind fun (x128, x129, x130, x131, x132, x133, x134, x135) => ((flatten_Path_v2.f k t96 t97 false false x128 x129 x130 x131 x132 x133 x134).bind fun t216 => (if x128 = 1 then ((glyphiclaw21_curve_v1.f t96 t97 x129 x130 x131 x132 x133 x134 (Int.tmod (wr64 ((Int.tmod part2 513) + 513)) 513)).bind fun (t239, t240) => (if (t216.length : Int) = 0 then (some t40) else ((glyphiclaw21_FlattenNear.l1 k t40 t216 t239 t240 0 : Option ((Bool) ⊕ (Unit))).bind fun s_ => match s_ with | .inl q263 => some q263 | .inr _ => (some false)))) else (if x128 = 2 then ((glyphiclaw21_curve_v2.f t96 t97 x129 x130 x131 x132 x133 x134 (Int.tmod (wr64 ((Int.tmod part2 513) + 513)) 513)).bind fun (t277, t278) => (if (t216.length : Int) = 0 then (some t40) else ((glyphiclaw21_FlattenNear.l2 k t40 t216 t277 t278 0 : Option ((Bool) ⊕ (Unit))).bind fun s_ => match s_ with | .inl q301 => some q301 | .inr _ => (some false)))) else (if x128 = 3 then ((glyphiclaw21_curve_v3.f t96 t97 x129 x130 x131 x132 x133 x134 (Int.tmod (wr64 ((Int.tmod part2 513) + 513)) 513)).bind fun (t315, t316) => (if (t216.length : Int) = 0 then (some t40) else ((glyphiclaw21_FlattenNear.l3 k t40 t216 t315 t316 0 : Option ((Bool) ⊕ (Unit))).bind fun s_ => match s_ with | .inl q339 => some q339 | .inr _ => (some false)))) else (none)))))))))) else (some false))
theorem glyphiclaw21_FlattenNear.ok {S : Seal} {k : Nat} {l0 : List (Int)} {far1 : Int} {part2 : Int} {a_l0 : Option Addr} {c_l0 : Nat} (h_l0 : SlE S E_i64 l0 a_l0) (e : glyphiclaw21_FlattenNear.f k l0 far1 part2 = some true) :
    Cal Try.prog 8 [.slice a_l0 l0.length c_l0, .int .i64 far1, .int .i64 part2] [] S fun v H' S' => v = .bool true ∧ H' = [] ∧ S' = S := by
  unfold glyphiclaw21_FlattenNear.f at e
  refine cal_of (c := c8) (N := 90) Try.func8 rfl rfl (by kernel_rfl) (rs := [.t 6]) (by kernel_rfl) (Nat.le_of_ble_eq_true rfl) ?_
  unfold c8
  refine w_seq ?_
  refine w_reg fun all => ?_
  refine t_qz 1 [0, 1, 2] (σ' := [(0, .slice a_l0 l0.length c_l0), (1, .int .i64 far1), (2, .int .i64 part2)]) (by kernel_rfl) ?_
  refine t_end ?_
  show W _ _ _ _ _ _ _
  refine w_seq ?_
  refine w_reg fun all => ?_
  obtain ⟨t40, h41, e⟩ := bind_of e
  refine t_v (.call (vs := []) rfl rfl (by kernel_rfl) (glyphiclaw21_first.ok h41)) ?_
  refine t_qz 1 [0, 1, 2, 7] (σ' := [(0, .slice a_l0 l0.length c_l0), (1, .int .i64 far1), (2, .int .i64 part2), (7, .bool t40)]) (by kernel_rfl) ?_
  refine t_end ?_
  show W _ _ _ _ _ _ _
  refine w_seq ?_
  refine w_seq ?_
  refine w_reg fun all => ?_
  by_cases c42 : t40 = true
  · rw [if_pos c42] at e
    have c42b : t40 = true := c42
    refine t_qz 1 [0, 1, 2, 7, 18] (σ' := [(0, .slice a_l0 l0.length c_l0), (1, .int .i64 far1), (2, .int .i64 part2), (7, .bool t40), (18, .bool t40)]) (by kernel_rfl) ?_
    refine t_v (dv_quiet rfl (congrArg (fun t => some (Value.bool (!t))) c42b)) ?_
    refine t_keep [0, 1, 2, 7, 19] (σ' := [(0, .slice a_l0 l0.length c_l0), (1, .int .i64 far1), (2, .int .i64 part2), (7, .bool t40), (19, .bool false)]) (by kernel_rfl) ?_
    refine t_end ?_
    show W _ _ _ _ _ _ _
    refine w_cond rfl (fun c_ => by cases c_) (fun _ => ?_)
    show W _ _ _ _ _ _ _
    refine w_skip ?_
    show W _ _ _ _ _ _ _
    refine w_seq ?_
    refine w_seq ?_
    refine w_reg fun all => ?_
    by_cases c43 : (l0.length : Int) > 30
    · rw [if_pos c43] at e
      have c43b : (decide ((l0.length : Int) > 30)) = true := decide_eq_true c43
      refine t_qz 2 [0, 1, 2, 7, 21] (σ' := [(0, .slice a_l0 l0.length c_l0), (1, .int .i64 far1), (2, .int .i64 part2), (7, .bool t40), (21, .int .i64 (l0.length : Int))]) (by kernel_rfl) ?_
      refine t_v (dv_quiet rfl (congrArg (fun t => some (Value.bool t)) c43b)) ?_
      refine t_keep [0, 1, 2, 7, 22] (σ' := [(0, .slice a_l0 l0.length c_l0), (1, .int .i64 far1), (2, .int .i64 part2), (7, .bool t40), (22, .bool true)]) (by kernel_rfl) ?_
      refine t_end ?_
      show W _ _ _ _ _ _ _
      refine w_cond rfl (fun _ => ?_) (fun c_ => by cases c_)
      show W _ _ _ _ _ _ _
      refine w_seq ?_
      refine w_reg fun all => ?_
      refine t_qz 2 [6] (σ' := [(6, .bool t40)]) (by kernel_rfl) ?_
      refine t_end ?_
      show W _ _ _ _ _ _ _
      refine w_ret ?_
      have hr_ := Option.some.inj e
      exact ⟨[.bool t40], [], S, ⟨rfl, trivial⟩, VS.none, congrArg Value.bool hr_, rfl, rfl⟩
    · rw [if_neg c43] at e
      have c43b : (decide ((l0.length : Int) > 30)) = false := decide_eq_false c43
      refine t_qz 2 [0, 1, 2, 7, 21] (σ' := [(0, .slice a_l0 l0.length c_l0), (1, .int .i64 far1), (2, .int .i64 part2), (7, .bool t40), (21, .int .i64 (l0.length : Int))]) (by kernel_rfl) ?_
      refine t_v (dv_quiet rfl (congrArg (fun t => some (Value.bool t)) c43b)) ?_
      refine t_keep [0, 1, 2, 7, 22] (σ' := [(0, .slice a_l0 l0.length c_l0), (1, .int .i64 far1), (2, .int .i64 part2), (7, .bool t40), (22, .bool false)]) (by kernel_rfl) ?_
      refine t_end ?_
      show W _ _ _ _ _ _ _
      refine w_cond rfl (fun c_ => by cases c_) (fun _ => ?_)
      show W _ _ _ _ _ _ _
      refine w_skip ?_
      show W _ _ _ _ _ _ _
      refine w_seq ?_
      refine w_reg fun all => ?_
      refine t_qz 6 [0, 1, 2, 7] (σ' := [(0, .slice a_l0 l0.length c_l0), (1, .int .i64 (wr64 ((Int.tmod (wr64 ((Int.tmod far1 17) + 17)) 17) + 1))), (2, .int .i64 part2), (7, .bool t40)]) (by kernel_rfl) ?_
      refine t_end ?_
      show W _ _ _ _ _ _ _
      refine w_seq ?_
      refine w_reg fun all => ?_
      refine t_qz 2 [1, 2, 7, 30] (σ' := [(1, .int .i64 (wr64 ((Int.tmod (wr64 ((Int.tmod far1 17) + 17)) 17) + 1))), (2, .int .i64 part2), (7, .bool t40), (30, .agg #[.slice a_l0 l0.length c_l0, .int .i64 0])]) (by kernel_rfl) ?_
      refine t_a (.box rfl rfl rfl) fun b44 fb44 sb44 => ?_
      refine t_qz 1 [1, 2, 7, 8] (σ' := [(1, .int .i64 (wr64 ((Int.tmod (wr64 ((Int.tmod far1 17) + 17)) 17) + 1))), (2, .int .i64 part2), (7, .bool t40), (8, .pointer (some ⟨b44, 0, none⟩))]) (by kernel_rfl) ?_
      refine t_end ?_
      show W _ _ _ _ _ _ _
      refine w_seq ?_
      refine w_reg fun all => ?_
      have c45 : ¬ (wru64 (wr64 ((Int.tmod (wr64 ((Int.tmod far1 17) + 17)) 17) + 1))) < 0 := by
        intro h_; rw [if_pos h_] at e; cases e
      rw [if_neg c45] at e
      refine t_qz 2 [2, 7, 8, 33] (σ' := [(2, .int .i64 part2), (7, .bool t40), (8, .pointer (some ⟨b44, 0, none⟩)), (33, .int .u64 (wru64 (wr64 ((Int.tmod (wr64 ((Int.tmod far1 17) + 17)) 17) + 1))))]) (by kernel_rfl) ?_
      refine t_v (.quiet rfl (qv_shl rfl rfl c45)) ?_
      refine t_qz 1 [2, 7, 8, 9] (σ' := [(2, .int .i64 part2), (7, .bool t40), (8, .pointer (some ⟨b44, 0, none⟩)), (9, .int .i64 (wr64 (1 * 2 ^ (min (Int.toNat (wru64 (wr64 ((Int.tmod (wr64 ((Int.tmod far1 17) + 17)) 17) + 1)))) 64))))]) (by kernel_rfl) ?_
      refine t_end ?_
      show W _ _ _ _ _ _ _
      refine w_seq ?_
      refine w_reg fun all => ?_
      obtain ⟨⟨t96, t97, t98⟩, h99, e⟩ := bind_of e
      try dsimp only at e
      refine t_qz 2 [2, 7, 8, 9, 35, 36] (σ' := [(2, .int .i64 part2), (7, .bool t40), (8, .pointer (some ⟨b44, 0, none⟩)), (9, .int .i64 (wr64 (1 * 2 ^ (min (Int.toNat (wru64 (wr64 ((Int.tmod (wr64 ((Int.tmod far1 17) + 17)) 17) + 1)))) 64)))), (35, .pointer (some ⟨b44, 0, none⟩)), (36, .int .i64 (wr64 (1 * 2 ^ (min (Int.toNat (wru64 (wr64 ((Int.tmod (wr64 ((Int.tmod far1 17) + 17)) 17) + 1)))) 64))))]) (by kernel_rfl) ?_
      refine t_call (vs := [.pointer (some ⟨b44, 0, none⟩), .int .i64 (wr64 (1 * 2 ^ (min (Int.toNat (wru64 (wr64 ((Int.tmod (wr64 ((Int.tmod far1 17) + 17)) 17) + 1)))) 64)))]) (H1 := ([⟨b44, [.slice a_l0 l0.length c_l0, .int .i64 0], 2⟩] : List Own)) (F := ([] : List Own)) rfl rfl (by kernel_rfl) (sel_perm (is := [0]) (by kernel_rfl)) (glyphicmake_Point_v1.ok h_l0 h99) ?_
      rintro _ _ S_ ⟨rfl, rfl, hS_⟩
      obtain rfl := hS_.symm
      refine t_a (.new rfl rfl) fun b100 fb100 sb100 => ?_
      refine t_sti 0 (cs := [.int .i64 t96, .int .i64 t97]) rfl rfl rfl rfl rfl rfl rfl rfl rfl ?_
      refine t_keep [2, 7, 8, 9, 10] (σ' := [(2, .int .i64 part2), (7, .bool t40), (8, .pointer (some ⟨b44, 0, none⟩)), (9, .int .i64 (wr64 (1 * 2 ^ (min (Int.toNat (wru64 (wr64 ((Int.tmod (wr64 ((Int.tmod far1 17) + 17)) 17) + 1)))) 64)))), (10, .pointer (some ⟨b100, 0, none⟩))]) (by kernel_rfl) ?_
      refine t_end ?_
      show W _ _ _ _ _ _ _
      refine w_seq ?_
      refine w_reg fun all => ?_
      obtain ⟨⟨t101, t102⟩, h103, e⟩ := bind_of e
      try dsimp only at e
      refine t_qz 1 [2, 7, 8, 9, 10, 38] (σ' := [(2, .int .i64 part2), (7, .bool t40), (8, .pointer (some ⟨b44, 0, none⟩)), (9, .int .i64 (wr64 (1 * 2 ^ (min (Int.toNat (wru64 (wr64 ((Int.tmod (wr64 ((Int.tmod far1 17) + 17)) 17) + 1)))) 64)))), (10, .pointer (some ⟨b100, 0, none⟩)), (38, .pointer (some ⟨b44, 0, none⟩))]) (by kernel_rfl) ?_
      refine t_call (vs := [.pointer (some ⟨b44, 0, none⟩), .int .i64 3]) (H1 := ([⟨b44, [.slice a_l0 l0.length c_l0, .int .i64 t98], 2⟩] : List Own)) (F := ([⟨b100, [.int .i64 t96, .int .i64 t97], 2⟩] : List Own)) rfl rfl (by kernel_rfl) (sel_perm (is := [1]) (by kernel_rfl)) (glyphicmake_Seq_Next_v1.ok h_l0 h103) ?_
      rintro _ _ S_ ⟨rfl, rfl, hS_⟩
      obtain rfl := hS_.symm
      refine t_qz 2 [2, 7, 8, 9, 10, 41] (σ' := [(2, .int .i64 part2), (7, .bool t40), (8, .pointer (some ⟨b44, 0, none⟩)), (9, .int .i64 (wr64 (1 * 2 ^ (min (Int.toNat (wru64 (wr64 ((Int.tmod (wr64 ((Int.tmod far1 17) + 17)) 17) + 1)))) 64)))), (10, .pointer (some ⟨b100, 0, none⟩)), (41, .agg #[.int .i64 (wr64 (1 + t101)), .int .i64 0, .int .i64 0, .int .i64 0, .int .i64 0, .int .i64 0, .int .i64 0])]) (by kernel_rfl) ?_
      refine t_a (.new rfl rfl) fun b104 fb104 sb104 => ?_
      refine t_sti 0 (cs := [.int .i64 (wr64 (1 + t101)), .int .i64 0, .int .i64 0, .int .i64 0, .int .i64 0, .int .i64 0, .int .i64 0]) rfl rfl rfl rfl rfl rfl rfl rfl rfl ?_
      refine t_keep [2, 7, 8, 9, 10, 11] (σ' := [(2, .int .i64 part2), (7, .bool t40), (8, .pointer (some ⟨b44, 0, none⟩)), (9, .int .i64 (wr64 (1 * 2 ^ (min (Int.toNat (wru64 (wr64 ((Int.tmod (wr64 ((Int.tmod far1 17) + 17)) 17) + 1)))) 64)))), (10, .pointer (some ⟨b100, 0, none⟩)), (11, .pointer (some ⟨b104, 0, none⟩))]) (by kernel_rfl) ?_
      refine t_end ?_
      show W _ _ _ _ _ _ _
      obtain ⟨⟨x128, x129, x130, x131, x132, x133, x134, x135⟩, e106, e⟩ := bind_of e
      try dsimp only at e
      refine w_cut [2, 7, 10, 11] (fun σ_ H_ S_ => [(2, .int .i64 part2), (7, .bool t40), (10, .pointer (some ⟨b100, 0, none⟩)), (11, .pointer (some ⟨b104, 0, none⟩))] = σ_ ∧ ([⟨b104, [.int .i64 x128, .int .i64 x129, .int .i64 x130, .int .i64 x131, .int .i64 x132, .int .i64 x133, .int .i64 x134], 7⟩, ⟨b44, [.slice a_l0 l0.length c_l0, .int .i64 x135], 2⟩, ⟨b100, [.int .i64 t96, .int .i64 t97], 2⟩] : List Own) = H_ ∧ S = S_) ?_ ?_
      · show W _ _ _ _ _ _ _
        refine w_seq ?_
        refine w_reg fun all => ?_
        refine t_qz 1 [2, 7, 8, 9, 10, 11, 12] (σ' := [(2, .int .i64 part2), (7, .bool t40), (8, .pointer (some ⟨b44, 0, none⟩)), (9, .int .i64 (wr64 (1 * 2 ^ (min (Int.toNat (wru64 (wr64 ((Int.tmod (wr64 ((Int.tmod far1 17) + 17)) 17) + 1)))) 64)))), (10, .pointer (some ⟨b100, 0, none⟩)), (11, .pointer (some ⟨b104, 0, none⟩)), (12, .int .i64 0)]) (by kernel_rfl) ?_
        refine t_end ?_
        show W _ _ _ _ _ _ _
        refine w_block ?_
        refine w_kp [2, 7, 8, 9, 10, 11, 12] (σ' := [(2, .int .i64 part2), (7, .bool t40), (8, .pointer (some ⟨b44, 0, none⟩)), (9, .int .i64 (wr64 (1 * 2 ^ (min (Int.toNat (wru64 (wr64 ((Int.tmod (wr64 ((Int.tmod far1 17) + 17)) 17) + 1)))) 64)))), (10, .pointer (some ⟨b100, 0, none⟩)), (11, .pointer (some ⟨b104, 0, none⟩)), (12, .int .i64 0)]) (by kernel_rfl) ?_
        refine w_loop (fun n_ σ_ H_ S_ => ∃ (x108 : Int) (x109 : Int) (x110 : Int) (x111 : Int) (x112 : Int) (x113 : Int) (x114 : Int) (x115 : Int), [(2, .int .i64 part2), (7, .bool t40), (8, .pointer (some ⟨b44, 0, none⟩)), (9, .int .i64 (wr64 (1 * 2 ^ (min (Int.toNat (wru64 (wr64 ((Int.tmod (wr64 ((Int.tmod far1 17) + 17)) 17) + 1)))) 64)))), (10, .pointer (some ⟨b100, 0, none⟩)), (11, .pointer (some ⟨b104, 0, none⟩)), (12, .int .i64 x108)] = σ_ ∧ ([⟨b104, [.int .i64 (wr64 (1 + t101)), .int .i64 x109, .int .i64 x110, .int .i64 x111, .int .i64 x112, .int .i64 x113, .int .i64 x114], 7⟩, ⟨b44, [.slice a_l0 l0.length c_l0, .int .i64 x115], 2⟩, ⟨b100, [.int .i64 t96, .int .i64 t97], 2⟩] : List Own) = H_ ∧ S = S_ ∧ glyphiclaw21_FlattenNear.l0 n_ l0 far1 t101 x108 x109 x110 x111 x112 x113 x114 x115 = some (x128, x129, x130, x131, x132, x133, x134, x135)) _ ⟨0, 0, 0, 0, 0, 0, 0, t102, rfl, rfl, rfl, e106⟩ ?_
        rintro n127 σ_ H_ S_ ⟨x108, x109, x110, x111, x112, x113, x114, x115, rfl, rfl, rfl, e106⟩
        cases n127 with
        | zero => rw [glyphiclaw21_FlattenNear.l0.eq_1] at e106; cases e106
        | succ k_ =>
          rw [glyphiclaw21_FlattenNear.l0.eq_2] at e106
          refine w_seq ?_
          refine w_seq ?_
          refine w_reg fun all => ?_
          refine t_qz 2 [2, 7, 8, 9, 10, 11, 12, 42, 43] (σ' := [(2, .int .i64 part2), (7, .bool t40), (8, .pointer (some ⟨b44, 0, none⟩)), (9, .int .i64 (wr64 (1 * 2 ^ (min (Int.toNat (wru64 (wr64 ((Int.tmod (wr64 ((Int.tmod far1 17) + 17)) 17) + 1)))) 64)))), (10, .pointer (some ⟨b100, 0, none⟩)), (11, .pointer (some ⟨b104, 0, none⟩)), (12, .int .i64 x108), (42, .int .i64 x108), (43, .pointer (some ⟨b104, 0, none⟩))]) (by kernel_rfl) ?_
          refine t_v (.ld1 rfl rfl rfl (.at 0 rfl rfl)) ?_
          by_cases c116 : x108 < (wr64 (1 + t101))
          · rw [if_pos c116] at e106
            have c116b : (decide (x108 < (wr64 (1 + t101)))) = true := decide_eq_true c116
            refine t_v (dv_quiet rfl (congrArg (fun t => some (Value.bool t)) c116b)) ?_
            refine t_keep [2, 7, 8, 9, 10, 11, 12, 45] (σ' := [(2, .int .i64 part2), (7, .bool t40), (8, .pointer (some ⟨b44, 0, none⟩)), (9, .int .i64 (wr64 (1 * 2 ^ (min (Int.toNat (wru64 (wr64 ((Int.tmod (wr64 ((Int.tmod far1 17) + 17)) 17) + 1)))) 64)))), (10, .pointer (some ⟨b100, 0, none⟩)), (11, .pointer (some ⟨b104, 0, none⟩)), (12, .int .i64 x108), (45, .bool true)]) (by kernel_rfl) ?_
            refine t_end ?_
            show W _ _ _ _ _ _ _
            refine w_cond rfl (fun _ => ?_) (fun c_ => by cases c_)
            show W _ _ _ _ _ _ _
            refine w_skip ?_
            show W _ _ _ _ _ _ _
            refine w_seq ?_
            refine w_block ?_
            refine w_reg fun all => ?_
            obtain ⟨⟨t117, t118, t119⟩, h120, e106⟩ := bind_of e106
            try dsimp only at e106
            refine t_qz 3 [2, 7, 8, 9, 10, 11, 12, 48, 49, 50] (σ' := [(2, .int .i64 part2), (7, .bool t40), (8, .pointer (some ⟨b44, 0, none⟩)), (9, .int .i64 (wr64 (1 * 2 ^ (min (Int.toNat (wru64 (wr64 ((Int.tmod (wr64 ((Int.tmod far1 17) + 17)) 17) + 1)))) 64)))), (10, .pointer (some ⟨b100, 0, none⟩)), (11, .pointer (some ⟨b104, 0, none⟩)), (12, .int .i64 x108), (48, .int .i64 x108), (49, .pointer (some ⟨b44, 0, none⟩)), (50, .int .i64 (wr64 (1 * 2 ^ (min (Int.toNat (wru64 (wr64 ((Int.tmod (wr64 ((Int.tmod far1 17) + 17)) 17) + 1)))) 64))))]) (by kernel_rfl) ?_
            refine t_call (vs := [.pointer (some ⟨b44, 0, none⟩), .int .i64 (wr64 (1 * 2 ^ (min (Int.toNat (wru64 (wr64 ((Int.tmod (wr64 ((Int.tmod far1 17) + 17)) 17) + 1)))) 64)))]) (H1 := ([⟨b44, [.slice a_l0 l0.length c_l0, .int .i64 x115], 2⟩] : List Own)) (F := ([⟨b104, [.int .i64 (wr64 (1 + t101)), .int .i64 x109, .int .i64 x110, .int .i64 x111, .int .i64 x112, .int .i64 x113, .int .i64 x114], 7⟩, ⟨b100, [.int .i64 t96, .int .i64 t97], 2⟩] : List Own)) rfl rfl (by kernel_rfl) (sel_perm (is := [1]) (by kernel_rfl)) (glyphicmake_Point_v1.ok h_l0 h120) ?_
            rintro _ _ S_ ⟨rfl, rfl, hS_⟩
            obtain rfl := hS_.symm
            by_cases c121 : x108 = 0
            · rw [if_pos c121] at e106
              have c121b : (x108 == 0) = true := beq_iff_eq.mpr c121
              refine t_qz 1 [2, 7, 8, 9, 10, 11, 12, 48, 51, 52] (σ' := [(2, .int .i64 part2), (7, .bool t40), (8, .pointer (some ⟨b44, 0, none⟩)), (9, .int .i64 (wr64 (1 * 2 ^ (min (Int.toNat (wru64 (wr64 ((Int.tmod (wr64 ((Int.tmod far1 17) + 17)) 17) + 1)))) 64)))), (10, .pointer (some ⟨b100, 0, none⟩)), (11, .pointer (some ⟨b104, 0, none⟩)), (12, .int .i64 x108), (48, .int .i64 x108), (51, .agg #[.int .i64 t117, .int .i64 t118]), (52, .pointer (some ⟨b104, 1, none⟩))]) (by kernel_rfl) ?_
              refine t_v (.quiet rfl (ixa_at (j := 0) (u := .pointer (some ⟨b104, 1, none⟩)) rfl c121b (by kernel_rfl))) ?_
              refine t_sti 1 (cs := [.int .i64 (wr64 (1 + t101)), .int .i64 t117, .int .i64 t118, .int .i64 x111, .int .i64 x112, .int .i64 x113, .int .i64 x114]) rfl rfl rfl rfl rfl rfl rfl rfl rfl ?_
              refine t_keep [2, 7, 8, 9, 10, 11, 12] (σ' := [(2, .int .i64 part2), (7, .bool t40), (8, .pointer (some ⟨b44, 0, none⟩)), (9, .int .i64 (wr64 (1 * 2 ^ (min (Int.toNat (wru64 (wr64 ((Int.tmod (wr64 ((Int.tmod far1 17) + 17)) 17) + 1)))) 64)))), (10, .pointer (some ⟨b100, 0, none⟩)), (11, .pointer (some ⟨b104, 0, none⟩)), (12, .int .i64 x108)]) (by kernel_rfl) ?_
              refine t_end ?_
              show W _ _ _ _ _ _ _
              refine w_reg fun all => ?_
              refine t_qz 3 [2, 7, 8, 9, 10, 11, 12] (σ' := [(2, .int .i64 part2), (7, .bool t40), (8, .pointer (some ⟨b44, 0, none⟩)), (9, .int .i64 (wr64 (1 * 2 ^ (min (Int.toNat (wru64 (wr64 ((Int.tmod (wr64 ((Int.tmod far1 17) + 17)) 17) + 1)))) 64)))), (10, .pointer (some ⟨b100, 0, none⟩)), (11, .pointer (some ⟨b104, 0, none⟩)), (12, .int .i64 (wr64 (x108 + 1)))]) (by kernel_rfl) ?_
              refine t_end ?_
              exact ⟨k_, Nat.lt_succ_self _, [(2, .int .i64 part2), (7, .bool t40), (8, .pointer (some ⟨b44, 0, none⟩)), (9, .int .i64 (wr64 (1 * 2 ^ (min (Int.toNat (wru64 (wr64 ((Int.tmod (wr64 ((Int.tmod far1 17) + 17)) 17) + 1)))) 64)))), (10, .pointer (some ⟨b100, 0, none⟩)), (11, .pointer (some ⟨b104, 0, none⟩)), (12, .int .i64 (wr64 (x108 + 1)))], ([⟨b104, [.int .i64 (wr64 (1 + t101)), .int .i64 t117, .int .i64 t118, .int .i64 x111, .int .i64 x112, .int .i64 x113, .int .i64 x114], 7⟩, ⟨b44, [.slice a_l0 l0.length c_l0, .int .i64 t119], 2⟩, ⟨b100, [.int .i64 t96, .int .i64 t97], 2⟩] : List Own), S, keep_sub [2, 7, 8, 9, 10, 11, 12] (by kernel_rfl), VS.sel [1, 0, 0] (by kernel_rfl), wr64 (x108 + 1), t117, t118, x111, x112, x113, x114, t119, rfl, rfl, rfl, e106⟩
            · rw [if_neg c121] at e106
              have c121b : (x108 == 0) = false := beq_eq_false_iff_ne.mpr c121
              by_cases c123 : x108 = 1
              · rw [if_pos c123] at e106
                have c123b : (x108 == 1) = true := beq_iff_eq.mpr c123
                refine t_qz 1 [2, 7, 8, 9, 10, 11, 12, 48, 51, 52] (σ' := [(2, .int .i64 part2), (7, .bool t40), (8, .pointer (some ⟨b44, 0, none⟩)), (9, .int .i64 (wr64 (1 * 2 ^ (min (Int.toNat (wru64 (wr64 ((Int.tmod (wr64 ((Int.tmod far1 17) + 17)) 17) + 1)))) 64)))), (10, .pointer (some ⟨b100, 0, none⟩)), (11, .pointer (some ⟨b104, 0, none⟩)), (12, .int .i64 x108), (48, .int .i64 x108), (51, .agg #[.int .i64 t117, .int .i64 t118]), (52, .pointer (some ⟨b104, 1, none⟩))]) (by kernel_rfl) ?_
                refine t_v (.quiet rfl (ixa_at (j := 1) (u := .pointer (some ⟨b104, 3, none⟩)) rfl c123b (by kernel_rfl))) ?_
                refine t_sti 1 (cs := [.int .i64 (wr64 (1 + t101)), .int .i64 x109, .int .i64 x110, .int .i64 t117, .int .i64 t118, .int .i64 x113, .int .i64 x114]) rfl rfl rfl rfl rfl rfl rfl rfl rfl ?_
                refine t_keep [2, 7, 8, 9, 10, 11, 12] (σ' := [(2, .int .i64 part2), (7, .bool t40), (8, .pointer (some ⟨b44, 0, none⟩)), (9, .int .i64 (wr64 (1 * 2 ^ (min (Int.toNat (wru64 (wr64 ((Int.tmod (wr64 ((Int.tmod far1 17) + 17)) 17) + 1)))) 64)))), (10, .pointer (some ⟨b100, 0, none⟩)), (11, .pointer (some ⟨b104, 0, none⟩)), (12, .int .i64 x108)]) (by kernel_rfl) ?_
                refine t_end ?_
                show W _ _ _ _ _ _ _
                refine w_reg fun all => ?_
                refine t_qz 3 [2, 7, 8, 9, 10, 11, 12] (σ' := [(2, .int .i64 part2), (7, .bool t40), (8, .pointer (some ⟨b44, 0, none⟩)), (9, .int .i64 (wr64 (1 * 2 ^ (min (Int.toNat (wru64 (wr64 ((Int.tmod (wr64 ((Int.tmod far1 17) + 17)) 17) + 1)))) 64)))), (10, .pointer (some ⟨b100, 0, none⟩)), (11, .pointer (some ⟨b104, 0, none⟩)), (12, .int .i64 (wr64 (x108 + 1)))]) (by kernel_rfl) ?_
                refine t_end ?_
                exact ⟨k_, Nat.lt_succ_self _, [(2, .int .i64 part2), (7, .bool t40), (8, .pointer (some ⟨b44, 0, none⟩)), (9, .int .i64 (wr64 (1 * 2 ^ (min (Int.toNat (wru64 (wr64 ((Int.tmod (wr64 ((Int.tmod far1 17) + 17)) 17) + 1)))) 64)))), (10, .pointer (some ⟨b100, 0, none⟩)), (11, .pointer (some ⟨b104, 0, none⟩)), (12, .int .i64 (wr64 (x108 + 1)))], ([⟨b104, [.int .i64 (wr64 (1 + t101)), .int .i64 x109, .int .i64 x110, .int .i64 t117, .int .i64 t118, .int .i64 x113, .int .i64 x114], 7⟩, ⟨b44, [.slice a_l0 l0.length c_l0, .int .i64 t119], 2⟩, ⟨b100, [.int .i64 t96, .int .i64 t97], 2⟩] : List Own), S, keep_sub [2, 7, 8, 9, 10, 11, 12] (by kernel_rfl), VS.sel [1, 0, 0] (by kernel_rfl), wr64 (x108 + 1), x109, x110, t117, t118, x113, x114, t119, rfl, rfl, rfl, e106⟩
              · rw [if_neg c123] at e106
                have c123b : (x108 == 1) = false := beq_eq_false_iff_ne.mpr c123
                by_cases c125 : x108 = 2
                · rw [if_pos c125] at e106
                  have c125b : (x108 == 2) = true := beq_iff_eq.mpr c125
                  refine t_qz 1 [2, 7, 8, 9, 10, 11, 12, 48, 51, 52] (σ' := [(2, .int .i64 part2), (7, .bool t40), (8, .pointer (some ⟨b44, 0, none⟩)), (9, .int .i64 (wr64 (1 * 2 ^ (min (Int.toNat (wru64 (wr64 ((Int.tmod (wr64 ((Int.tmod far1 17) + 17)) 17) + 1)))) 64)))), (10, .pointer (some ⟨b100, 0, none⟩)), (11, .pointer (some ⟨b104, 0, none⟩)), (12, .int .i64 x108), (48, .int .i64 x108), (51, .agg #[.int .i64 t117, .int .i64 t118]), (52, .pointer (some ⟨b104, 1, none⟩))]) (by kernel_rfl) ?_
                  refine t_v (.quiet rfl (ixa_at (j := 2) (u := .pointer (some ⟨b104, 5, none⟩)) rfl c125b (by kernel_rfl))) ?_
                  refine t_sti 1 (cs := [.int .i64 (wr64 (1 + t101)), .int .i64 x109, .int .i64 x110, .int .i64 x111, .int .i64 x112, .int .i64 t117, .int .i64 t118]) rfl rfl rfl rfl rfl rfl rfl rfl rfl ?_
                  refine t_keep [2, 7, 8, 9, 10, 11, 12] (σ' := [(2, .int .i64 part2), (7, .bool t40), (8, .pointer (some ⟨b44, 0, none⟩)), (9, .int .i64 (wr64 (1 * 2 ^ (min (Int.toNat (wru64 (wr64 ((Int.tmod (wr64 ((Int.tmod far1 17) + 17)) 17) + 1)))) 64)))), (10, .pointer (some ⟨b100, 0, none⟩)), (11, .pointer (some ⟨b104, 0, none⟩)), (12, .int .i64 x108)]) (by kernel_rfl) ?_
                  refine t_end ?_
                  show W _ _ _ _ _ _ _
                  refine w_reg fun all => ?_
                  refine t_qz 3 [2, 7, 8, 9, 10, 11, 12] (σ' := [(2, .int .i64 part2), (7, .bool t40), (8, .pointer (some ⟨b44, 0, none⟩)), (9, .int .i64 (wr64 (1 * 2 ^ (min (Int.toNat (wru64 (wr64 ((Int.tmod (wr64 ((Int.tmod far1 17) + 17)) 17) + 1)))) 64)))), (10, .pointer (some ⟨b100, 0, none⟩)), (11, .pointer (some ⟨b104, 0, none⟩)), (12, .int .i64 (wr64 (x108 + 1)))]) (by kernel_rfl) ?_
                  refine t_end ?_
                  exact ⟨k_, Nat.lt_succ_self _, [(2, .int .i64 part2), (7, .bool t40), (8, .pointer (some ⟨b44, 0, none⟩)), (9, .int .i64 (wr64 (1 * 2 ^ (min (Int.toNat (wru64 (wr64 ((Int.tmod (wr64 ((Int.tmod far1 17) + 17)) 17) + 1)))) 64)))), (10, .pointer (some ⟨b100, 0, none⟩)), (11, .pointer (some ⟨b104, 0, none⟩)), (12, .int .i64 (wr64 (x108 + 1)))], ([⟨b104, [.int .i64 (wr64 (1 + t101)), .int .i64 x109, .int .i64 x110, .int .i64 x111, .int .i64 x112, .int .i64 t117, .int .i64 t118], 7⟩, ⟨b44, [.slice a_l0 l0.length c_l0, .int .i64 t119], 2⟩, ⟨b100, [.int .i64 t96, .int .i64 t97], 2⟩] : List Own), S, keep_sub [2, 7, 8, 9, 10, 11, 12] (by kernel_rfl), VS.sel [1, 0, 0] (by kernel_rfl), wr64 (x108 + 1), x109, x110, x111, x112, t117, t118, t119, rfl, rfl, rfl, e106⟩
                · rw [if_neg c125] at e106
                  have c125b : (x108 == 2) = false := beq_eq_false_iff_ne.mpr c125
                  cases e106
          · rw [if_neg c116] at e106
            have c116b : (decide (x108 < (wr64 (1 + t101)))) = false := decide_eq_false c116
            refine t_v (dv_quiet rfl (congrArg (fun t => some (Value.bool t)) c116b)) ?_
            refine t_keep [2, 7, 8, 9, 10, 11, 12, 45] (σ' := [(2, .int .i64 part2), (7, .bool t40), (8, .pointer (some ⟨b44, 0, none⟩)), (9, .int .i64 (wr64 (1 * 2 ^ (min (Int.toNat (wru64 (wr64 ((Int.tmod (wr64 ((Int.tmod far1 17) + 17)) 17) + 1)))) 64)))), (10, .pointer (some ⟨b100, 0, none⟩)), (11, .pointer (some ⟨b104, 0, none⟩)), (12, .int .i64 x108), (45, .bool false)]) (by kernel_rfl) ?_
            refine t_end ?_
            show W _ _ _ _ _ _ _
            refine w_cond rfl (fun c_ => by cases c_) (fun _ => ?_)
            show W _ _ _ _ _ _ _
            refine w_exit ?_
            simp only [Option.some.injEq, Prod.mk.injEq] at e106
            obtain ⟨rfl, rfl, rfl, rfl, rfl, rfl, rfl, rfl⟩ := e106
            exact ⟨([⟨b104, [.int .i64 (wr64 (1 + t101)), .int .i64 x109, .int .i64 x110, .int .i64 x111, .int .i64 x112, .int .i64 x113, .int .i64 x114], 7⟩, ⟨b44, [.slice a_l0 l0.length c_l0, .int .i64 x115], 2⟩, ⟨b100, [.int .i64 t96, .int .i64 t97], 2⟩] : List Own), S, VS.sel [0, 0, 0] (by kernel_rfl), by kernel_rfl, rfl, rfl⟩
      · rintro σ_ H_ S_ ⟨rfl, rfl, rfl⟩
        refine w_seq ?_
        refine w_reg fun all => ?_
        refine t_v (.ldn rfl rfl rfl (.at 2 rfl rfl)) ?_
        refine t_v (.ldn rfl rfl rfl (.at 0 rfl rfl)) ?_
        refine t_a (.bsl rfl rfl rfl rfl) fun b136 fb136 sb136 => ?_
        obtain ⟨t216, h217, e⟩ := bind_of e
        refine t_qz 1 [2, 7, 10, 11, 57] (σ' := [(2, .int .i64 part2), (7, .bool t40), (10, .pointer (some ⟨b100, 0, none⟩)), (11, .pointer (some ⟨b104, 0, none⟩)), (57, .agg #[.int .i64 t96, .int .i64 t97, .slice (some ⟨b136, 0, none⟩) 1 1, .bool false])]) (by kernel_rfl) ?_
        refine t_call (vs := [.agg #[.int .i64 t96, .int .i64 t97, .slice (some ⟨b136, 0, none⟩) 1 1, .bool false], .bool false]) (H1 := ([⟨b136, [.int .i64 x128, .int .i64 x129, .int .i64 x130, .int .i64 x131, .int .i64 x132, .int .i64 x133, .int .i64 x134], 7⟩] : List Own)) (F := ([⟨b104, [.int .i64 x128, .int .i64 x129, .int .i64 x130, .int .i64 x131, .int .i64 x132, .int .i64 x133, .int .i64 x134], 7⟩, ⟨b44, [.slice a_l0 l0.length c_l0, .int .i64 x135], 2⟩, ⟨b100, [.int .i64 t96, .int .i64 t97], 2⟩] : List Own)) rfl rfl (by kernel_rfl) (sel_perm (is := [0]) (by kernel_rfl)) (flatten_Path_v2.ok h217) ?_
        rintro _ _ S_ ⟨N218, nN218, rfl, rfl, hS_⟩
        obtain rfl := hS_.symm
        refine t_qz 1 [2, 7, 10, 11, 13] (σ' := [(2, .int .i64 part2), (7, .bool t40), (10, .pointer (some ⟨b100, 0, none⟩)), (11, .pointer (some ⟨b104, 0, none⟩)), (13, .slice (ad N218) t216.length (nN218 / 4))]) (by kernel_rfl) ?_
        refine t_end ?_
        show W _ _ _ _ _ _ _
        refine w_seq ?_
        refine w_reg fun all => ?_
        refine t_qz 5 [7, 10, 11, 13, 14] (σ' := [(7, .bool t40), (10, .pointer (some ⟨b100, 0, none⟩)), (11, .pointer (some ⟨b104, 0, none⟩)), (13, .slice (ad N218) t216.length (nN218 / 4)), (14, .int .i64 (Int.tmod (wr64 ((Int.tmod part2 513) + 513)) 513))]) (by kernel_rfl) ?_
        refine t_end ?_
        show W _ _ _ _ _ _ _
        refine w_seq ?_
        refine w_reg fun all => ?_
        refine t_v (.ldn rfl rfl rfl (.at 4 rfl rfl)) ?_
        refine t_v (.ldn rfl rfl rfl (.at 2 rfl rfl)) ?_
        by_cases c219 : x128 = 1
        · rw [if_pos c219] at e
          have c219b : (x128 == 1) = true := beq_iff_eq.mpr c219
          obtain ⟨⟨t239, t240⟩, h241, e⟩ := bind_of e
          try dsimp only at e
          refine t_qz 1 [7, 13, 63, 64, 65] (σ' := [(7, .bool t40), (13, .slice (ad N218) t216.length (nN218 / 4)), (63, .agg #[.int .i64 t96, .int .i64 t97]), (64, .agg #[.int .i64 x128, .int .i64 x129, .int .i64 x130, .int .i64 x131, .int .i64 x132, .int .i64 x133, .int .i64 x134]), (65, .int .i64 (Int.tmod (wr64 ((Int.tmod part2 513) + 513)) 513))]) (by kernel_rfl) ?_
          refine t_v (.call (vs := [.agg #[.int .i64 t96, .int .i64 t97], .agg #[.int .i64 1, .int .i64 x129, .int .i64 x130, .int .i64 x131, .int .i64 x132, .int .i64 x133, .int .i64 x134], .int .i64 (Int.tmod (wr64 ((Int.tmod part2 513) + 513)) 513), .int .i64 512]) rfl rfl (Eq.trans (b := (some [.agg #[.int .i64 t96, .int .i64 t97], .agg #[.int .i64 x128, .int .i64 x129, .int .i64 x130, .int .i64 x131, .int .i64 x132, .int .i64 x133, .int .i64 x134], .int .i64 (Int.tmod (wr64 ((Int.tmod part2 513) + 513)) 513), .int .i64 512] : Option (List Value))) (by kernel_rfl) (congrArg (fun q_ => (some [.agg #[.int .i64 t96, .int .i64 t97], .agg #[.int .i64 q_, .int .i64 x129, .int .i64 x130, .int .i64 x131, .int .i64 x132, .int .i64 x133, .int .i64 x134], .int .i64 (Int.tmod (wr64 ((Int.tmod part2 513) + 513)) 513), .int .i64 512] : Option (List Value))) c219)) (glyphiclaw21_curve_v1.ok h241)) ?_
          refine t_a (.new rfl rfl) fun b242 fb242 sb242 => ?_
          refine t_sti 0 (cs := [.int .i64 t239, .int .i64 t240]) rfl rfl rfl rfl rfl rfl rfl rfl rfl ?_
          refine t_keep [7, 13, 15] (σ' := [(7, .bool t40), (13, .slice (ad N218) t216.length (nN218 / 4)), (15, .pointer (some ⟨b242, 0, none⟩))]) (by kernel_rfl) ?_
          refine t_end ?_
          show W _ _ _ _ _ _ _
          refine w_seq ?_
          refine w_seq ?_
          refine w_reg fun all => ?_
          by_cases c243 : (t216.length : Int) = 0
          · rw [if_pos c243] at e
            have c243b : ((t216.length : Int) == 0) = true := beq_iff_eq.mpr c243
            refine t_qz 2 [7, 13, 15, 68] (σ' := [(7, .bool t40), (13, .slice (ad N218) t216.length (nN218 / 4)), (15, .pointer (some ⟨b242, 0, none⟩)), (68, .int .i64 (t216.length : Int))]) (by kernel_rfl) ?_
            refine t_v (dv_quiet rfl (congrArg (fun t => some (Value.bool t)) c243b)) ?_
            refine t_keep [7, 13, 15, 69] (σ' := [(7, .bool t40), (13, .slice (ad N218) t216.length (nN218 / 4)), (15, .pointer (some ⟨b242, 0, none⟩)), (69, .bool true)]) (by kernel_rfl) ?_
            refine t_end ?_
            show W _ _ _ _ _ _ _
            refine w_cond rfl (fun _ => ?_) (fun c_ => by cases c_)
            show W _ _ _ _ _ _ _
            refine w_seq ?_
            refine w_reg fun all => ?_
            refine t_qz 2 [6] (σ' := [(6, .bool t40)]) (by kernel_rfl) ?_
            refine t_end ?_
            show W _ _ _ _ _ _ _
            refine w_ret ?_
            have hr_ := Option.some.inj e
            exact ⟨[.bool t40], [], S, ⟨rfl, trivial⟩, VS.none, congrArg Value.bool hr_, rfl, rfl⟩
          · rw [if_neg c243] at e
            have c243b : ((t216.length : Int) == 0) = false := beq_eq_false_iff_ne.mpr c243
            refine t_qz 2 [7, 13, 15, 68] (σ' := [(7, .bool t40), (13, .slice (ad N218) t216.length (nN218 / 4)), (15, .pointer (some ⟨b242, 0, none⟩)), (68, .int .i64 (t216.length : Int))]) (by kernel_rfl) ?_
            refine t_v (dv_quiet rfl (congrArg (fun t => some (Value.bool t)) c243b)) ?_
            refine t_keep [7, 13, 15, 69] (σ' := [(7, .bool t40), (13, .slice (ad N218) t216.length (nN218 / 4)), (15, .pointer (some ⟨b242, 0, none⟩)), (69, .bool false)]) (by kernel_rfl) ?_
            refine t_end ?_
            show W _ _ _ _ _ _ _
            refine w_cond rfl (fun c_ => by cases c_) (fun _ => ?_)
            show W _ _ _ _ _ _ _
            refine w_skip ?_
            show W _ _ _ _ _ _ _
            obtain ⟨s246, e245, e⟩ := bind_of e
            refine w_cut [] (fun σ_ H_ S_ => ∃ u_ : Unit, s246 = .inr u_ ∧ [] = σ_ ∧ ([⟨b242, [.int .i64 t239, .int .i64 t240], 2⟩, ⟨b136, [.int .i64 x128, .int .i64 x129, .int .i64 x130, .int .i64 x131, .int .i64 x132, .int .i64 x133, .int .i64 x134], 7⟩, ⟨b104, [.int .i64 x128, .int .i64 x129, .int .i64 x130, .int .i64 x131, .int .i64 x132, .int .i64 x133, .int .i64 x134], 7⟩, ⟨b44, [.slice a_l0 l0.length c_l0, .int .i64 x135], 2⟩, ⟨b100, [.int .i64 t96, .int .i64 t97], 2⟩, ⟨N218, encL E_i644 t216, nN218⟩] : List Own) = H_ ∧ S = S_) ?_ ?_
            · show W _ _ _ _ _ _ _
              refine w_seq ?_
              refine w_reg fun all => ?_
              refine t_qz 1 [7, 13, 15, 16] (σ' := [(7, .bool t40), (13, .slice (ad N218) t216.length (nN218 / 4)), (15, .pointer (some ⟨b242, 0, none⟩)), (16, .int .i64 0)]) (by kernel_rfl) ?_
              refine t_end ?_
              show W _ _ _ _ _ _ _
              refine w_block ?_
              refine w_kp [7, 13, 15, 16] (σ' := [(7, .bool t40), (13, .slice (ad N218) t216.length (nN218 / 4)), (15, .pointer (some ⟨b242, 0, none⟩)), (16, .int .i64 0)]) (by kernel_rfl) ?_
              refine w_loop (fun n_ σ_ H_ S_ => ∃ (x247 : Int), [(7, .bool t40), (13, .slice (ad N218) t216.length (nN218 / 4)), (15, .pointer (some ⟨b242, 0, none⟩)), (16, .int .i64 x247)] = σ_ ∧ ([⟨b242, [.int .i64 t239, .int .i64 t240], 2⟩, ⟨N218, encL E_i644 t216, nN218⟩, ⟨b136, [.int .i64 x128, .int .i64 x129, .int .i64 x130, .int .i64 x131, .int .i64 x132, .int .i64 x133, .int .i64 x134], 7⟩, ⟨b104, [.int .i64 x128, .int .i64 x129, .int .i64 x130, .int .i64 x131, .int .i64 x132, .int .i64 x133, .int .i64 x134], 7⟩, ⟨b44, [.slice a_l0 l0.length c_l0, .int .i64 x135], 2⟩, ⟨b100, [.int .i64 t96, .int .i64 t97], 2⟩] : List Own) = H_ ∧ S = S_ ∧ glyphiclaw21_FlattenNear.l1 n_ t40 t216 t239 t240 x247 = some s246) _ ⟨0, rfl, rfl, rfl, e245⟩ ?_
              rintro n262 σ_ H_ S_ ⟨x247, rfl, rfl, rfl, e245⟩
              cases n262 with
              | zero => rw [glyphiclaw21_FlattenNear.l1.eq_1] at e245; cases e245
              | succ k_ =>
                rw [glyphiclaw21_FlattenNear.l1.eq_2] at e245
                refine w_seq ?_
                refine w_seq ?_
                refine w_reg fun all => ?_
                by_cases c248 : x247 < (t216.length : Int)
                · rw [if_pos c248] at e245
                  have c248b : (decide (x247 < (t216.length : Int))) = true := decide_eq_true c248
                  refine t_qz 3 [7, 13, 15, 16, 71, 73] (σ' := [(7, .bool t40), (13, .slice (ad N218) t216.length (nN218 / 4)), (15, .pointer (some ⟨b242, 0, none⟩)), (16, .int .i64 x247), (71, .int .i64 x247), (73, .int .i64 (t216.length : Int))]) (by kernel_rfl) ?_
                  refine t_v (dv_quiet rfl (congrArg (fun t => some (Value.bool t)) c248b)) ?_
                  refine t_keep [7, 13, 15, 16, 74] (σ' := [(7, .bool t40), (13, .slice (ad N218) t216.length (nN218 / 4)), (15, .pointer (some ⟨b242, 0, none⟩)), (16, .int .i64 x247), (74, .bool true)]) (by kernel_rfl) ?_
                  refine t_end ?_
                  show W _ _ _ _ _ _ _
                  refine w_cond rfl (fun _ => ?_) (fun c_ => by cases c_)
                  show W _ _ _ _ _ _ _
                  refine w_skip ?_
                  show W _ _ _ _ _ _ _
                  refine w_seq ?_
                  refine w_block ?_
                  refine w_seq ?_
                  obtain ⟨⟨x249, x250, x251, x252⟩, hx253, e245⟩ := bind_of e245
                  try dsimp only at e245
                  obtain ⟨⟨x254, x255, x256, x257⟩, hx258, e245⟩ := bind_of e245
                  try dsimp only at e245
                  obtain ⟨t259, h260, e245⟩ := bind_of e245
                  cases t259 with
                  | true =>
                    rw [if_pos rfl] at e245
                    refine w_drwE mixed 12 [.v (.slice (ad N218) t216.length (nN218 / 4)), .v (.int .i64 x247), .v (.pointer (some ⟨bk N218, (x247).toNat * 4 + 0, none⟩)), .v (.pointer (some ⟨bk N218, (x247).toNat * 4 + 0, none⟩)), .v (.agg #[.int .i64 x249, .int .i64 x250]), .v (.slice (ad N218) t216.length (nN218 / 4)), .v (.int .i64 x247), .v (.pointer (some ⟨bk N218, (x247).toNat * 4 + 0, none⟩)), .v (.pointer (some ⟨bk N218, (x247).toNat * 4 + 2, none⟩)), .v (.agg #[.int .i64 x256, .int .i64 x257]), .v (.agg #[.int .i64 t239, .int .i64 t240]), .v (.bool true)] (by kernel_rfl) ?_ ?_
                    · refine DI.sq 2 (by kernel_rfl) rfl ?_
                      refine .cons (.quietH rfl (by intro h_; cases h_) (ixl (E := E_i644) (j := 1) rfl rfl rfl (by decide) rfl hx253)) ?_
                      refine DI.sq 1 (by kernel_rfl) rfl ?_
                      refine .cons (.ldn (vs := [.int .i64 x249, .int .i64 x250]) rfl rfl rfl (.lst 1 rfl (encL_sub (lgt_in hx253).1 (by kernel_rfl)))) ?_
                      refine DI.sq 2 (by kernel_rfl) rfl ?_
                      refine .cons (.quietH rfl (by intro h_; cases h_) (ixl (E := E_i644) (j := 1) rfl rfl rfl (by decide) rfl hx258)) ?_
                      refine DI.sq 1 (by kernel_rfl) rfl ?_
                      refine .cons (.ldn (vs := [.int .i64 x256, .int .i64 x257]) rfl rfl rfl (.lst 1 rfl (encL_sub (lgt_in hx258).1 (by kernel_rfl)))) ?_
                      refine .cons (.ldn rfl rfl rfl (.at 0 rfl rfl)) ?_
                      refine .cons (.call (vs := [.agg #[.int .i64 x249, .int .i64 x250], .agg #[.int .i64 x256, .int .i64 x257], .agg #[.int .i64 t239, .int .i64 t240], .int .i64 34]) rfl rfl (by kernel_rfl) (glyphicref1_Near.ok h260)) ?_
                      exact .nil
                    refine fk_q 12 [7, 13, 15, 16, 88] (σ' := [(7, .bool t40), (13, .slice (ad N218) t216.length (nN218 / 4)), (15, .pointer (some ⟨b242, 0, none⟩)), (16, .int .i64 x247), (88, .bool true)]) t_more (by kernel_rfl) ?_
                    refine fk_nil fun all => ?_
                    refine t_keep [7, 13, 15, 16, 88] (σ' := [(7, .bool t40), (13, .slice (ad N218) t216.length (nN218 / 4)), (15, .pointer (some ⟨b242, 0, none⟩)), (16, .int .i64 x247), (88, .bool true)]) (by kernel_rfl) ?_
                    refine t_end ?_
                    show W _ _ _ _ _ _ _
                    refine w_cond rfl (fun _ => ?_) (fun c_ => by cases c_)
                    show W _ _ _ _ _ _ _
                    refine w_seq ?_
                    refine w_reg fun all => ?_
                    refine t_qz 2 [6] (σ' := [(6, .bool t40)]) (by kernel_rfl) ?_
                    refine t_end ?_
                    show W _ _ _ _ _ _ _
                    refine w_ret ?_
                    obtain rfl := Option.some.inj e245
                    have hr_ := Option.some.inj e
                    exact ⟨[.bool t40], [], S, ⟨rfl, trivial⟩, VS.none, congrArg Value.bool hr_, rfl, rfl⟩
                  | false =>
                    rw [if_neg (by decide)] at e245
                    refine w_drwE mixed 12 [.v (.slice (ad N218) t216.length (nN218 / 4)), .v (.int .i64 x247), .v (.pointer (some ⟨bk N218, (x247).toNat * 4 + 0, none⟩)), .v (.pointer (some ⟨bk N218, (x247).toNat * 4 + 0, none⟩)), .v (.agg #[.int .i64 x249, .int .i64 x250]), .v (.slice (ad N218) t216.length (nN218 / 4)), .v (.int .i64 x247), .v (.pointer (some ⟨bk N218, (x247).toNat * 4 + 0, none⟩)), .v (.pointer (some ⟨bk N218, (x247).toNat * 4 + 2, none⟩)), .v (.agg #[.int .i64 x256, .int .i64 x257]), .v (.agg #[.int .i64 t239, .int .i64 t240]), .v (.bool false)] (by kernel_rfl) ?_ ?_
                    · refine DI.sq 2 (by kernel_rfl) rfl ?_
                      refine .cons (.quietH rfl (by intro h_; cases h_) (ixl (E := E_i644) (j := 1) rfl rfl rfl (by decide) rfl hx253)) ?_
                      refine DI.sq 1 (by kernel_rfl) rfl ?_
                      refine .cons (.ldn (vs := [.int .i64 x249, .int .i64 x250]) rfl rfl rfl (.lst 1 rfl (encL_sub (lgt_in hx253).1 (by kernel_rfl)))) ?_
                      refine DI.sq 2 (by kernel_rfl) rfl ?_
                      refine .cons (.quietH rfl (by intro h_; cases h_) (ixl (E := E_i644) (j := 1) rfl rfl rfl (by decide) rfl hx258)) ?_
                      refine DI.sq 1 (by kernel_rfl) rfl ?_
                      refine .cons (.ldn (vs := [.int .i64 x256, .int .i64 x257]) rfl rfl rfl (.lst 1 rfl (encL_sub (lgt_in hx258).1 (by kernel_rfl)))) ?_
                      refine .cons (.ldn rfl rfl rfl (.at 0 rfl rfl)) ?_
                      refine .cons (.call (vs := [.agg #[.int .i64 x249, .int .i64 x250], .agg #[.int .i64 x256, .int .i64 x257], .agg #[.int .i64 t239, .int .i64 t240], .int .i64 34]) rfl rfl (by kernel_rfl) (glyphicref1_Near.ok h260)) ?_
                      exact .nil
                    refine fk_q 12 [7, 13, 15, 16, 88] (σ' := [(7, .bool t40), (13, .slice (ad N218) t216.length (nN218 / 4)), (15, .pointer (some ⟨b242, 0, none⟩)), (16, .int .i64 x247), (88, .bool false)]) t_more (by kernel_rfl) ?_
                    refine fk_nil fun all => ?_
                    refine t_keep [7, 13, 15, 16, 88] (σ' := [(7, .bool t40), (13, .slice (ad N218) t216.length (nN218 / 4)), (15, .pointer (some ⟨b242, 0, none⟩)), (16, .int .i64 x247), (88, .bool false)]) (by kernel_rfl) ?_
                    refine t_end ?_
                    show W _ _ _ _ _ _ _
                    refine w_cond rfl (fun c_ => by cases c_) (fun _ => ?_)
                    show W _ _ _ _ _ _ _
                    refine w_skip ?_
                    show W _ _ _ _ _ _ _
                    refine w_reg fun all => ?_
                    refine t_qz 3 [7, 13, 15, 16] (σ' := [(7, .bool t40), (13, .slice (ad N218) t216.length (nN218 / 4)), (15, .pointer (some ⟨b242, 0, none⟩)), (16, .int .i64 (wr64 (x247 + 1)))]) (by kernel_rfl) ?_
                    refine t_end ?_
                    exact ⟨k_, Nat.lt_succ_self _, [(7, .bool t40), (13, .slice (ad N218) t216.length (nN218 / 4)), (15, .pointer (some ⟨b242, 0, none⟩)), (16, .int .i64 (wr64 (x247 + 1)))], ([⟨b242, [.int .i64 t239, .int .i64 t240], 2⟩, ⟨N218, encL E_i644 t216, nN218⟩, ⟨b136, [.int .i64 x128, .int .i64 x129, .int .i64 x130, .int .i64 x131, .int .i64 x132, .int .i64 x133, .int .i64 x134], 7⟩, ⟨b104, [.int .i64 x128, .int .i64 x129, .int .i64 x130, .int .i64 x131, .int .i64 x132, .int .i64 x133, .int .i64 x134], 7⟩, ⟨b44, [.slice a_l0 l0.length c_l0, .int .i64 x135], 2⟩, ⟨b100, [.int .i64 t96, .int .i64 t97], 2⟩] : List Own), S, keep_sub [7, 13, 15, 16] (by kernel_rfl), VS.sel [0, 0, 0, 0, 0, 0] (by kernel_rfl), wr64 (x247 + 1), rfl, rfl, rfl, e245⟩
                · rw [if_neg c248] at e245
                  have c248b : (decide (x247 < (t216.length : Int))) = false := decide_eq_false c248
                  refine t_qz 3 [7, 13, 15, 16, 71, 73] (σ' := [(7, .bool t40), (13, .slice (ad N218) t216.length (nN218 / 4)), (15, .pointer (some ⟨b242, 0, none⟩)), (16, .int .i64 x247), (71, .int .i64 x247), (73, .int .i64 (t216.length : Int))]) (by kernel_rfl) ?_
                  refine t_v (dv_quiet rfl (congrArg (fun t => some (Value.bool t)) c248b)) ?_
                  refine t_keep [7, 13, 15, 16, 74] (σ' := [(7, .bool t40), (13, .slice (ad N218) t216.length (nN218 / 4)), (15, .pointer (some ⟨b242, 0, none⟩)), (16, .int .i64 x247), (74, .bool false)]) (by kernel_rfl) ?_
                  refine t_end ?_
                  show W _ _ _ _ _ _ _
                  refine w_cond rfl (fun c_ => by cases c_) (fun _ => ?_)
                  show W _ _ _ _ _ _ _
                  refine w_exit ?_
                  obtain rfl := Option.some.inj e245
                  exact ⟨([⟨b242, [.int .i64 t239, .int .i64 t240], 2⟩, ⟨b136, [.int .i64 x128, .int .i64 x129, .int .i64 x130, .int .i64 x131, .int .i64 x132, .int .i64 x133, .int .i64 x134], 7⟩, ⟨b104, [.int .i64 x128, .int .i64 x129, .int .i64 x130, .int .i64 x131, .int .i64 x132, .int .i64 x133, .int .i64 x134], 7⟩, ⟨b44, [.slice a_l0 l0.length c_l0, .int .i64 x135], 2⟩, ⟨b100, [.int .i64 t96, .int .i64 t97], 2⟩, ⟨N218, encL E_i644 t216, nN218⟩] : List Own), S, VS.sel [0, 1, 1, 1, 1, 0] (by kernel_rfl), (), rfl, by kernel_rfl, rfl, rfl⟩
            · rintro σ_ H_ S_ ⟨u_, rfl, rfl, rfl, rfl⟩
              dsimp only at e
              refine w_seq ?_
              refine w_reg fun all => ?_
              refine t_qz 1 [6] (σ' := [(6, .bool false)]) (by kernel_rfl) ?_
              refine t_end ?_
              show W _ _ _ _ _ _ _
              refine w_ret ?_
              have hr_ := Option.some.inj e
              exact ⟨[.bool false], [], S, ⟨rfl, trivial⟩, VS.none, congrArg Value.bool hr_, rfl, rfl⟩
        · rw [if_neg c219] at e
          have c219b : (x128 == 1) = false := beq_eq_false_iff_ne.mpr c219
          by_cases c264 : x128 = 2
          · rw [if_pos c264] at e
            have c264b : (x128 == 2) = true := beq_iff_eq.mpr c264
            obtain ⟨⟨t277, t278⟩, h279, e⟩ := bind_of e
            try dsimp only at e
            refine t_qz 1 [7, 13, 63, 64, 65] (σ' := [(7, .bool t40), (13, .slice (ad N218) t216.length (nN218 / 4)), (63, .agg #[.int .i64 t96, .int .i64 t97]), (64, .agg #[.int .i64 x128, .int .i64 x129, .int .i64 x130, .int .i64 x131, .int .i64 x132, .int .i64 x133, .int .i64 x134]), (65, .int .i64 (Int.tmod (wr64 ((Int.tmod part2 513) + 513)) 513))]) (by kernel_rfl) ?_
            refine t_v (.call (vs := [.agg #[.int .i64 t96, .int .i64 t97], .agg #[.int .i64 2, .int .i64 x129, .int .i64 x130, .int .i64 x131, .int .i64 x132, .int .i64 x133, .int .i64 x134], .int .i64 (Int.tmod (wr64 ((Int.tmod part2 513) + 513)) 513), .int .i64 512]) rfl rfl (Eq.trans (b := (some [.agg #[.int .i64 t96, .int .i64 t97], .agg #[.int .i64 x128, .int .i64 x129, .int .i64 x130, .int .i64 x131, .int .i64 x132, .int .i64 x133, .int .i64 x134], .int .i64 (Int.tmod (wr64 ((Int.tmod part2 513) + 513)) 513), .int .i64 512] : Option (List Value))) (by kernel_rfl) (congrArg (fun q_ => (some [.agg #[.int .i64 t96, .int .i64 t97], .agg #[.int .i64 q_, .int .i64 x129, .int .i64 x130, .int .i64 x131, .int .i64 x132, .int .i64 x133, .int .i64 x134], .int .i64 (Int.tmod (wr64 ((Int.tmod part2 513) + 513)) 513), .int .i64 512] : Option (List Value))) c264)) (glyphiclaw21_curve_v2.ok h279)) ?_
            refine t_a (.new rfl rfl) fun b280 fb280 sb280 => ?_
            refine t_sti 0 (cs := [.int .i64 t277, .int .i64 t278]) rfl rfl rfl rfl rfl rfl rfl rfl rfl ?_
            refine t_keep [7, 13, 15] (σ' := [(7, .bool t40), (13, .slice (ad N218) t216.length (nN218 / 4)), (15, .pointer (some ⟨b280, 0, none⟩))]) (by kernel_rfl) ?_
            refine t_end ?_
            show W _ _ _ _ _ _ _
            refine w_seq ?_
            refine w_seq ?_
            refine w_reg fun all => ?_
            by_cases c281 : (t216.length : Int) = 0
            · rw [if_pos c281] at e
              have c281b : ((t216.length : Int) == 0) = true := beq_iff_eq.mpr c281
              refine t_qz 2 [7, 13, 15, 68] (σ' := [(7, .bool t40), (13, .slice (ad N218) t216.length (nN218 / 4)), (15, .pointer (some ⟨b280, 0, none⟩)), (68, .int .i64 (t216.length : Int))]) (by kernel_rfl) ?_
              refine t_v (dv_quiet rfl (congrArg (fun t => some (Value.bool t)) c281b)) ?_
              refine t_keep [7, 13, 15, 69] (σ' := [(7, .bool t40), (13, .slice (ad N218) t216.length (nN218 / 4)), (15, .pointer (some ⟨b280, 0, none⟩)), (69, .bool true)]) (by kernel_rfl) ?_
              refine t_end ?_
              show W _ _ _ _ _ _ _
              refine w_cond rfl (fun _ => ?_) (fun c_ => by cases c_)
              show W _ _ _ _ _ _ _
              refine w_seq ?_
              refine w_reg fun all => ?_
              refine t_qz 2 [6] (σ' := [(6, .bool t40)]) (by kernel_rfl) ?_
              refine t_end ?_
              show W _ _ _ _ _ _ _
              refine w_ret ?_
              have hr_ := Option.some.inj e
              exact ⟨[.bool t40], [], S, ⟨rfl, trivial⟩, VS.none, congrArg Value.bool hr_, rfl, rfl⟩
            · rw [if_neg c281] at e
              have c281b : ((t216.length : Int) == 0) = false := beq_eq_false_iff_ne.mpr c281
              refine t_qz 2 [7, 13, 15, 68] (σ' := [(7, .bool t40), (13, .slice (ad N218) t216.length (nN218 / 4)), (15, .pointer (some ⟨b280, 0, none⟩)), (68, .int .i64 (t216.length : Int))]) (by kernel_rfl) ?_
              refine t_v (dv_quiet rfl (congrArg (fun t => some (Value.bool t)) c281b)) ?_
              refine t_keep [7, 13, 15, 69] (σ' := [(7, .bool t40), (13, .slice (ad N218) t216.length (nN218 / 4)), (15, .pointer (some ⟨b280, 0, none⟩)), (69, .bool false)]) (by kernel_rfl) ?_
              refine t_end ?_
              show W _ _ _ _ _ _ _
              refine w_cond rfl (fun c_ => by cases c_) (fun _ => ?_)
              show W _ _ _ _ _ _ _
              refine w_skip ?_
              show W _ _ _ _ _ _ _
              obtain ⟨s284, e283, e⟩ := bind_of e
              refine w_cut [] (fun σ_ H_ S_ => ∃ u_ : Unit, s284 = .inr u_ ∧ [] = σ_ ∧ ([⟨b280, [.int .i64 t277, .int .i64 t278], 2⟩, ⟨b136, [.int .i64 x128, .int .i64 x129, .int .i64 x130, .int .i64 x131, .int .i64 x132, .int .i64 x133, .int .i64 x134], 7⟩, ⟨b104, [.int .i64 x128, .int .i64 x129, .int .i64 x130, .int .i64 x131, .int .i64 x132, .int .i64 x133, .int .i64 x134], 7⟩, ⟨b44, [.slice a_l0 l0.length c_l0, .int .i64 x135], 2⟩, ⟨b100, [.int .i64 t96, .int .i64 t97], 2⟩, ⟨N218, encL E_i644 t216, nN218⟩] : List Own) = H_ ∧ S = S_) ?_ ?_
              · show W _ _ _ _ _ _ _
                refine w_seq ?_
                refine w_reg fun all => ?_
                refine t_qz 1 [7, 13, 15, 16] (σ' := [(7, .bool t40), (13, .slice (ad N218) t216.length (nN218 / 4)), (15, .pointer (some ⟨b280, 0, none⟩)), (16, .int .i64 0)]) (by kernel_rfl) ?_
                refine t_end ?_
                show W _ _ _ _ _ _ _
                refine w_block ?_
                refine w_kp [7, 13, 15, 16] (σ' := [(7, .bool t40), (13, .slice (ad N218) t216.length (nN218 / 4)), (15, .pointer (some ⟨b280, 0, none⟩)), (16, .int .i64 0)]) (by kernel_rfl) ?_
                refine w_loop (fun n_ σ_ H_ S_ => ∃ (x285 : Int), [(7, .bool t40), (13, .slice (ad N218) t216.length (nN218 / 4)), (15, .pointer (some ⟨b280, 0, none⟩)), (16, .int .i64 x285)] = σ_ ∧ ([⟨b280, [.int .i64 t277, .int .i64 t278], 2⟩, ⟨N218, encL E_i644 t216, nN218⟩, ⟨b136, [.int .i64 x128, .int .i64 x129, .int .i64 x130, .int .i64 x131, .int .i64 x132, .int .i64 x133, .int .i64 x134], 7⟩, ⟨b104, [.int .i64 x128, .int .i64 x129, .int .i64 x130, .int .i64 x131, .int .i64 x132, .int .i64 x133, .int .i64 x134], 7⟩, ⟨b44, [.slice a_l0 l0.length c_l0, .int .i64 x135], 2⟩, ⟨b100, [.int .i64 t96, .int .i64 t97], 2⟩] : List Own) = H_ ∧ S = S_ ∧ glyphiclaw21_FlattenNear.l2 n_ t40 t216 t277 t278 x285 = some s284) _ ⟨0, rfl, rfl, rfl, e283⟩ ?_
                rintro n300 σ_ H_ S_ ⟨x285, rfl, rfl, rfl, e283⟩
                cases n300 with
                | zero => rw [glyphiclaw21_FlattenNear.l2.eq_1] at e283; cases e283
                | succ k_ =>
                  rw [glyphiclaw21_FlattenNear.l2.eq_2] at e283
                  refine w_seq ?_
                  refine w_seq ?_
                  refine w_reg fun all => ?_
                  by_cases c286 : x285 < (t216.length : Int)
                  · rw [if_pos c286] at e283
                    have c286b : (decide (x285 < (t216.length : Int))) = true := decide_eq_true c286
                    refine t_qz 3 [7, 13, 15, 16, 71, 73] (σ' := [(7, .bool t40), (13, .slice (ad N218) t216.length (nN218 / 4)), (15, .pointer (some ⟨b280, 0, none⟩)), (16, .int .i64 x285), (71, .int .i64 x285), (73, .int .i64 (t216.length : Int))]) (by kernel_rfl) ?_
                    refine t_v (dv_quiet rfl (congrArg (fun t => some (Value.bool t)) c286b)) ?_
                    refine t_keep [7, 13, 15, 16, 74] (σ' := [(7, .bool t40), (13, .slice (ad N218) t216.length (nN218 / 4)), (15, .pointer (some ⟨b280, 0, none⟩)), (16, .int .i64 x285), (74, .bool true)]) (by kernel_rfl) ?_
                    refine t_end ?_
                    show W _ _ _ _ _ _ _
                    refine w_cond rfl (fun _ => ?_) (fun c_ => by cases c_)
                    show W _ _ _ _ _ _ _
                    refine w_skip ?_
                    show W _ _ _ _ _ _ _
                    refine w_seq ?_
                    refine w_block ?_
                    refine w_seq ?_
                    obtain ⟨⟨x287, x288, x289, x290⟩, hx291, e283⟩ := bind_of e283
                    try dsimp only at e283
                    obtain ⟨⟨x292, x293, x294, x295⟩, hx296, e283⟩ := bind_of e283
                    try dsimp only at e283
                    obtain ⟨t297, h298, e283⟩ := bind_of e283
                    cases t297 with
                    | true =>
                      rw [if_pos rfl] at e283
                      refine w_drwE mixed 12 [.v (.slice (ad N218) t216.length (nN218 / 4)), .v (.int .i64 x285), .v (.pointer (some ⟨bk N218, (x285).toNat * 4 + 0, none⟩)), .v (.pointer (some ⟨bk N218, (x285).toNat * 4 + 0, none⟩)), .v (.agg #[.int .i64 x287, .int .i64 x288]), .v (.slice (ad N218) t216.length (nN218 / 4)), .v (.int .i64 x285), .v (.pointer (some ⟨bk N218, (x285).toNat * 4 + 0, none⟩)), .v (.pointer (some ⟨bk N218, (x285).toNat * 4 + 2, none⟩)), .v (.agg #[.int .i64 x294, .int .i64 x295]), .v (.agg #[.int .i64 t277, .int .i64 t278]), .v (.bool true)] (by kernel_rfl) ?_ ?_
                      · refine DI.sq 2 (by kernel_rfl) rfl ?_
                        refine .cons (.quietH rfl (by intro h_; cases h_) (ixl (E := E_i644) (j := 1) rfl rfl rfl (by decide) rfl hx291)) ?_
                        refine DI.sq 1 (by kernel_rfl) rfl ?_
                        refine .cons (.ldn (vs := [.int .i64 x287, .int .i64 x288]) rfl rfl rfl (.lst 1 rfl (encL_sub (lgt_in hx291).1 (by kernel_rfl)))) ?_
                        refine DI.sq 2 (by kernel_rfl) rfl ?_
                        refine .cons (.quietH rfl (by intro h_; cases h_) (ixl (E := E_i644) (j := 1) rfl rfl rfl (by decide) rfl hx296)) ?_
                        refine DI.sq 1 (by kernel_rfl) rfl ?_
                        refine .cons (.ldn (vs := [.int .i64 x294, .int .i64 x295]) rfl rfl rfl (.lst 1 rfl (encL_sub (lgt_in hx296).1 (by kernel_rfl)))) ?_
                        refine .cons (.ldn rfl rfl rfl (.at 0 rfl rfl)) ?_
                        refine .cons (.call (vs := [.agg #[.int .i64 x287, .int .i64 x288], .agg #[.int .i64 x294, .int .i64 x295], .agg #[.int .i64 t277, .int .i64 t278], .int .i64 34]) rfl rfl (by kernel_rfl) (glyphicref1_Near.ok h298)) ?_
                        exact .nil
                      refine fk_q 12 [7, 13, 15, 16, 88] (σ' := [(7, .bool t40), (13, .slice (ad N218) t216.length (nN218 / 4)), (15, .pointer (some ⟨b280, 0, none⟩)), (16, .int .i64 x285), (88, .bool true)]) t_more (by kernel_rfl) ?_
                      refine fk_nil fun all => ?_
                      refine t_keep [7, 13, 15, 16, 88] (σ' := [(7, .bool t40), (13, .slice (ad N218) t216.length (nN218 / 4)), (15, .pointer (some ⟨b280, 0, none⟩)), (16, .int .i64 x285), (88, .bool true)]) (by kernel_rfl) ?_
                      refine t_end ?_
                      show W _ _ _ _ _ _ _
                      refine w_cond rfl (fun _ => ?_) (fun c_ => by cases c_)
                      show W _ _ _ _ _ _ _
                      refine w_seq ?_
                      refine w_reg fun all => ?_
                      refine t_qz 2 [6] (σ' := [(6, .bool t40)]) (by kernel_rfl) ?_
                      refine t_end ?_
                      show W _ _ _ _ _ _ _
                      refine w_ret ?_
                      obtain rfl := Option.some.inj e283
                      have hr_ := Option.some.inj e
                      exact ⟨[.bool t40], [], S, ⟨rfl, trivial⟩, VS.none, congrArg Value.bool hr_, rfl, rfl⟩
                    | false =>
                      rw [if_neg (by decide)] at e283
                      refine w_drwE mixed 12 [.v (.slice (ad N218) t216.length (nN218 / 4)), .v (.int .i64 x285), .v (.pointer (some ⟨bk N218, (x285).toNat * 4 + 0, none⟩)), .v (.pointer (some ⟨bk N218, (x285).toNat * 4 + 0, none⟩)), .v (.agg #[.int .i64 x287, .int .i64 x288]), .v (.slice (ad N218) t216.length (nN218 / 4)), .v (.int .i64 x285), .v (.pointer (some ⟨bk N218, (x285).toNat * 4 + 0, none⟩)), .v (.pointer (some ⟨bk N218, (x285).toNat * 4 + 2, none⟩)), .v (.agg #[.int .i64 x294, .int .i64 x295]), .v (.agg #[.int .i64 t277, .int .i64 t278]), .v (.bool false)] (by kernel_rfl) ?_ ?_
                      · refine DI.sq 2 (by kernel_rfl) rfl ?_
                        refine .cons (.quietH rfl (by intro h_; cases h_) (ixl (E := E_i644) (j := 1) rfl rfl rfl (by decide) rfl hx291)) ?_
                        refine DI.sq 1 (by kernel_rfl) rfl ?_
                        refine .cons (.ldn (vs := [.int .i64 x287, .int .i64 x288]) rfl rfl rfl (.lst 1 rfl (encL_sub (lgt_in hx291).1 (by kernel_rfl)))) ?_
                        refine DI.sq 2 (by kernel_rfl) rfl ?_
                        refine .cons (.quietH rfl (by intro h_; cases h_) (ixl (E := E_i644) (j := 1) rfl rfl rfl (by decide) rfl hx296)) ?_
                        refine DI.sq 1 (by kernel_rfl) rfl ?_
                        refine .cons (.ldn (vs := [.int .i64 x294, .int .i64 x295]) rfl rfl rfl (.lst 1 rfl (encL_sub (lgt_in hx296).1 (by kernel_rfl)))) ?_
                        refine .cons (.ldn rfl rfl rfl (.at 0 rfl rfl)) ?_
                        refine .cons (.call (vs := [.agg #[.int .i64 x287, .int .i64 x288], .agg #[.int .i64 x294, .int .i64 x295], .agg #[.int .i64 t277, .int .i64 t278], .int .i64 34]) rfl rfl (by kernel_rfl) (glyphicref1_Near.ok h298)) ?_
                        exact .nil
                      refine fk_q 12 [7, 13, 15, 16, 88] (σ' := [(7, .bool t40), (13, .slice (ad N218) t216.length (nN218 / 4)), (15, .pointer (some ⟨b280, 0, none⟩)), (16, .int .i64 x285), (88, .bool false)]) t_more (by kernel_rfl) ?_
                      refine fk_nil fun all => ?_
                      refine t_keep [7, 13, 15, 16, 88] (σ' := [(7, .bool t40), (13, .slice (ad N218) t216.length (nN218 / 4)), (15, .pointer (some ⟨b280, 0, none⟩)), (16, .int .i64 x285), (88, .bool false)]) (by kernel_rfl) ?_
                      refine t_end ?_
                      show W _ _ _ _ _ _ _
                      refine w_cond rfl (fun c_ => by cases c_) (fun _ => ?_)
                      show W _ _ _ _ _ _ _
                      refine w_skip ?_
                      show W _ _ _ _ _ _ _
                      refine w_reg fun all => ?_
                      refine t_qz 3 [7, 13, 15, 16] (σ' := [(7, .bool t40), (13, .slice (ad N218) t216.length (nN218 / 4)), (15, .pointer (some ⟨b280, 0, none⟩)), (16, .int .i64 (wr64 (x285 + 1)))]) (by kernel_rfl) ?_
                      refine t_end ?_
                      exact ⟨k_, Nat.lt_succ_self _, [(7, .bool t40), (13, .slice (ad N218) t216.length (nN218 / 4)), (15, .pointer (some ⟨b280, 0, none⟩)), (16, .int .i64 (wr64 (x285 + 1)))], ([⟨b280, [.int .i64 t277, .int .i64 t278], 2⟩, ⟨N218, encL E_i644 t216, nN218⟩, ⟨b136, [.int .i64 x128, .int .i64 x129, .int .i64 x130, .int .i64 x131, .int .i64 x132, .int .i64 x133, .int .i64 x134], 7⟩, ⟨b104, [.int .i64 x128, .int .i64 x129, .int .i64 x130, .int .i64 x131, .int .i64 x132, .int .i64 x133, .int .i64 x134], 7⟩, ⟨b44, [.slice a_l0 l0.length c_l0, .int .i64 x135], 2⟩, ⟨b100, [.int .i64 t96, .int .i64 t97], 2⟩] : List Own), S, keep_sub [7, 13, 15, 16] (by kernel_rfl), VS.sel [0, 0, 0, 0, 0, 0] (by kernel_rfl), wr64 (x285 + 1), rfl, rfl, rfl, e283⟩
                  · rw [if_neg c286] at e283
                    have c286b : (decide (x285 < (t216.length : Int))) = false := decide_eq_false c286
                    refine t_qz 3 [7, 13, 15, 16, 71, 73] (σ' := [(7, .bool t40), (13, .slice (ad N218) t216.length (nN218 / 4)), (15, .pointer (some ⟨b280, 0, none⟩)), (16, .int .i64 x285), (71, .int .i64 x285), (73, .int .i64 (t216.length : Int))]) (by kernel_rfl) ?_
                    refine t_v (dv_quiet rfl (congrArg (fun t => some (Value.bool t)) c286b)) ?_
                    refine t_keep [7, 13, 15, 16, 74] (σ' := [(7, .bool t40), (13, .slice (ad N218) t216.length (nN218 / 4)), (15, .pointer (some ⟨b280, 0, none⟩)), (16, .int .i64 x285), (74, .bool false)]) (by kernel_rfl) ?_
                    refine t_end ?_
                    show W _ _ _ _ _ _ _
                    refine w_cond rfl (fun c_ => by cases c_) (fun _ => ?_)
                    show W _ _ _ _ _ _ _
                    refine w_exit ?_
                    obtain rfl := Option.some.inj e283
                    exact ⟨([⟨b280, [.int .i64 t277, .int .i64 t278], 2⟩, ⟨b136, [.int .i64 x128, .int .i64 x129, .int .i64 x130, .int .i64 x131, .int .i64 x132, .int .i64 x133, .int .i64 x134], 7⟩, ⟨b104, [.int .i64 x128, .int .i64 x129, .int .i64 x130, .int .i64 x131, .int .i64 x132, .int .i64 x133, .int .i64 x134], 7⟩, ⟨b44, [.slice a_l0 l0.length c_l0, .int .i64 x135], 2⟩, ⟨b100, [.int .i64 t96, .int .i64 t97], 2⟩, ⟨N218, encL E_i644 t216, nN218⟩] : List Own), S, VS.sel [0, 1, 1, 1, 1, 0] (by kernel_rfl), (), rfl, by kernel_rfl, rfl, rfl⟩
              · rintro σ_ H_ S_ ⟨u_, rfl, rfl, rfl, rfl⟩
                dsimp only at e
                refine w_seq ?_
                refine w_reg fun all => ?_
                refine t_qz 1 [6] (σ' := [(6, .bool false)]) (by kernel_rfl) ?_
                refine t_end ?_
                show W _ _ _ _ _ _ _
                refine w_ret ?_
                have hr_ := Option.some.inj e
                exact ⟨[.bool false], [], S, ⟨rfl, trivial⟩, VS.none, congrArg Value.bool hr_, rfl, rfl⟩
          · rw [if_neg c264] at e
            have c264b : (x128 == 2) = false := beq_eq_false_iff_ne.mpr c264
            by_cases c302 : x128 = 3
            · rw [if_pos c302] at e
              have c302b : (x128 == 3) = true := beq_iff_eq.mpr c302
              obtain ⟨⟨t315, t316⟩, h317, e⟩ := bind_of e
              try dsimp only at e
              refine t_qz 1 [7, 13, 63, 64, 65] (σ' := [(7, .bool t40), (13, .slice (ad N218) t216.length (nN218 / 4)), (63, .agg #[.int .i64 t96, .int .i64 t97]), (64, .agg #[.int .i64 x128, .int .i64 x129, .int .i64 x130, .int .i64 x131, .int .i64 x132, .int .i64 x133, .int .i64 x134]), (65, .int .i64 (Int.tmod (wr64 ((Int.tmod part2 513) + 513)) 513))]) (by kernel_rfl) ?_
              refine t_v (.call (vs := [.agg #[.int .i64 t96, .int .i64 t97], .agg #[.int .i64 3, .int .i64 x129, .int .i64 x130, .int .i64 x131, .int .i64 x132, .int .i64 x133, .int .i64 x134], .int .i64 (Int.tmod (wr64 ((Int.tmod part2 513) + 513)) 513), .int .i64 512]) rfl rfl (Eq.trans (b := (some [.agg #[.int .i64 t96, .int .i64 t97], .agg #[.int .i64 x128, .int .i64 x129, .int .i64 x130, .int .i64 x131, .int .i64 x132, .int .i64 x133, .int .i64 x134], .int .i64 (Int.tmod (wr64 ((Int.tmod part2 513) + 513)) 513), .int .i64 512] : Option (List Value))) (by kernel_rfl) (congrArg (fun q_ => (some [.agg #[.int .i64 t96, .int .i64 t97], .agg #[.int .i64 q_, .int .i64 x129, .int .i64 x130, .int .i64 x131, .int .i64 x132, .int .i64 x133, .int .i64 x134], .int .i64 (Int.tmod (wr64 ((Int.tmod part2 513) + 513)) 513), .int .i64 512] : Option (List Value))) c302)) (glyphiclaw21_curve_v3.ok h317)) ?_
              refine t_a (.new rfl rfl) fun b318 fb318 sb318 => ?_
              refine t_sti 0 (cs := [.int .i64 t315, .int .i64 t316]) rfl rfl rfl rfl rfl rfl rfl rfl rfl ?_
              refine t_keep [7, 13, 15] (σ' := [(7, .bool t40), (13, .slice (ad N218) t216.length (nN218 / 4)), (15, .pointer (some ⟨b318, 0, none⟩))]) (by kernel_rfl) ?_
              refine t_end ?_
              show W _ _ _ _ _ _ _
              refine w_seq ?_
              refine w_seq ?_
              refine w_reg fun all => ?_
              by_cases c319 : (t216.length : Int) = 0
              · rw [if_pos c319] at e
                have c319b : ((t216.length : Int) == 0) = true := beq_iff_eq.mpr c319
                refine t_qz 2 [7, 13, 15, 68] (σ' := [(7, .bool t40), (13, .slice (ad N218) t216.length (nN218 / 4)), (15, .pointer (some ⟨b318, 0, none⟩)), (68, .int .i64 (t216.length : Int))]) (by kernel_rfl) ?_
                refine t_v (dv_quiet rfl (congrArg (fun t => some (Value.bool t)) c319b)) ?_
                refine t_keep [7, 13, 15, 69] (σ' := [(7, .bool t40), (13, .slice (ad N218) t216.length (nN218 / 4)), (15, .pointer (some ⟨b318, 0, none⟩)), (69, .bool true)]) (by kernel_rfl) ?_
                refine t_end ?_
                show W _ _ _ _ _ _ _
                refine w_cond rfl (fun _ => ?_) (fun c_ => by cases c_)
                show W _ _ _ _ _ _ _
                refine w_seq ?_
                refine w_reg fun all => ?_
                refine t_qz 2 [6] (σ' := [(6, .bool t40)]) (by kernel_rfl) ?_
                refine t_end ?_
                show W _ _ _ _ _ _ _
                refine w_ret ?_
                have hr_ := Option.some.inj e
                exact ⟨[.bool t40], [], S, ⟨rfl, trivial⟩, VS.none, congrArg Value.bool hr_, rfl, rfl⟩
              · rw [if_neg c319] at e
                have c319b : ((t216.length : Int) == 0) = false := beq_eq_false_iff_ne.mpr c319
                refine t_qz 2 [7, 13, 15, 68] (σ' := [(7, .bool t40), (13, .slice (ad N218) t216.length (nN218 / 4)), (15, .pointer (some ⟨b318, 0, none⟩)), (68, .int .i64 (t216.length : Int))]) (by kernel_rfl) ?_
                refine t_v (dv_quiet rfl (congrArg (fun t => some (Value.bool t)) c319b)) ?_
                refine t_keep [7, 13, 15, 69] (σ' := [(7, .bool t40), (13, .slice (ad N218) t216.length (nN218 / 4)), (15, .pointer (some ⟨b318, 0, none⟩)), (69, .bool false)]) (by kernel_rfl) ?_
                refine t_end ?_
                show W _ _ _ _ _ _ _
                refine w_cond rfl (fun c_ => by cases c_) (fun _ => ?_)
                show W _ _ _ _ _ _ _
                refine w_skip ?_
                show W _ _ _ _ _ _ _
                obtain ⟨s322, e321, e⟩ := bind_of e
                refine w_cut [] (fun σ_ H_ S_ => ∃ u_ : Unit, s322 = .inr u_ ∧ [] = σ_ ∧ ([⟨b318, [.int .i64 t315, .int .i64 t316], 2⟩, ⟨b136, [.int .i64 x128, .int .i64 x129, .int .i64 x130, .int .i64 x131, .int .i64 x132, .int .i64 x133, .int .i64 x134], 7⟩, ⟨b104, [.int .i64 x128, .int .i64 x129, .int .i64 x130, .int .i64 x131, .int .i64 x132, .int .i64 x133, .int .i64 x134], 7⟩, ⟨b44, [.slice a_l0 l0.length c_l0, .int .i64 x135], 2⟩, ⟨b100, [.int .i64 t96, .int .i64 t97], 2⟩, ⟨N218, encL E_i644 t216, nN218⟩] : List Own) = H_ ∧ S = S_) ?_ ?_
                · show W _ _ _ _ _ _ _
                  refine w_seq ?_
                  refine w_reg fun all => ?_
                  refine t_qz 1 [7, 13, 15, 16] (σ' := [(7, .bool t40), (13, .slice (ad N218) t216.length (nN218 / 4)), (15, .pointer (some ⟨b318, 0, none⟩)), (16, .int .i64 0)]) (by kernel_rfl) ?_
                  refine t_end ?_
                  show W _ _ _ _ _ _ _
                  refine w_block ?_
                  refine w_kp [7, 13, 15, 16] (σ' := [(7, .bool t40), (13, .slice (ad N218) t216.length (nN218 / 4)), (15, .pointer (some ⟨b318, 0, none⟩)), (16, .int .i64 0)]) (by kernel_rfl) ?_
                  refine w_loop (fun n_ σ_ H_ S_ => ∃ (x323 : Int), [(7, .bool t40), (13, .slice (ad N218) t216.length (nN218 / 4)), (15, .pointer (some ⟨b318, 0, none⟩)), (16, .int .i64 x323)] = σ_ ∧ ([⟨b318, [.int .i64 t315, .int .i64 t316], 2⟩, ⟨N218, encL E_i644 t216, nN218⟩, ⟨b136, [.int .i64 x128, .int .i64 x129, .int .i64 x130, .int .i64 x131, .int .i64 x132, .int .i64 x133, .int .i64 x134], 7⟩, ⟨b104, [.int .i64 x128, .int .i64 x129, .int .i64 x130, .int .i64 x131, .int .i64 x132, .int .i64 x133, .int .i64 x134], 7⟩, ⟨b44, [.slice a_l0 l0.length c_l0, .int .i64 x135], 2⟩, ⟨b100, [.int .i64 t96, .int .i64 t97], 2⟩] : List Own) = H_ ∧ S = S_ ∧ glyphiclaw21_FlattenNear.l3 n_ t40 t216 t315 t316 x323 = some s322) _ ⟨0, rfl, rfl, rfl, e321⟩ ?_
                  rintro n338 σ_ H_ S_ ⟨x323, rfl, rfl, rfl, e321⟩
                  cases n338 with
                  | zero => rw [glyphiclaw21_FlattenNear.l3.eq_1] at e321; cases e321
                  | succ k_ =>
                    rw [glyphiclaw21_FlattenNear.l3.eq_2] at e321
                    refine w_seq ?_
                    refine w_seq ?_
                    refine w_reg fun all => ?_
                    by_cases c324 : x323 < (t216.length : Int)
                    · rw [if_pos c324] at e321
                      have c324b : (decide (x323 < (t216.length : Int))) = true := decide_eq_true c324
                      refine t_qz 3 [7, 13, 15, 16, 71, 73] (σ' := [(7, .bool t40), (13, .slice (ad N218) t216.length (nN218 / 4)), (15, .pointer (some ⟨b318, 0, none⟩)), (16, .int .i64 x323), (71, .int .i64 x323), (73, .int .i64 (t216.length : Int))]) (by kernel_rfl) ?_
                      refine t_v (dv_quiet rfl (congrArg (fun t => some (Value.bool t)) c324b)) ?_
                      refine t_keep [7, 13, 15, 16, 74] (σ' := [(7, .bool t40), (13, .slice (ad N218) t216.length (nN218 / 4)), (15, .pointer (some ⟨b318, 0, none⟩)), (16, .int .i64 x323), (74, .bool true)]) (by kernel_rfl) ?_
                      refine t_end ?_
                      show W _ _ _ _ _ _ _
                      refine w_cond rfl (fun _ => ?_) (fun c_ => by cases c_)
                      show W _ _ _ _ _ _ _
                      refine w_skip ?_
                      show W _ _ _ _ _ _ _
                      refine w_seq ?_
                      refine w_block ?_
                      refine w_seq ?_
                      obtain ⟨⟨x325, x326, x327, x328⟩, hx329, e321⟩ := bind_of e321
                      try dsimp only at e321
                      obtain ⟨⟨x330, x331, x332, x333⟩, hx334, e321⟩ := bind_of e321
                      try dsimp only at e321
                      obtain ⟨t335, h336, e321⟩ := bind_of e321
                      cases t335 with
                      | true =>
                        rw [if_pos rfl] at e321
                        refine w_drwE mixed 12 [.v (.slice (ad N218) t216.length (nN218 / 4)), .v (.int .i64 x323), .v (.pointer (some ⟨bk N218, (x323).toNat * 4 + 0, none⟩)), .v (.pointer (some ⟨bk N218, (x323).toNat * 4 + 0, none⟩)), .v (.agg #[.int .i64 x325, .int .i64 x326]), .v (.slice (ad N218) t216.length (nN218 / 4)), .v (.int .i64 x323), .v (.pointer (some ⟨bk N218, (x323).toNat * 4 + 0, none⟩)), .v (.pointer (some ⟨bk N218, (x323).toNat * 4 + 2, none⟩)), .v (.agg #[.int .i64 x332, .int .i64 x333]), .v (.agg #[.int .i64 t315, .int .i64 t316]), .v (.bool true)] (by kernel_rfl) ?_ ?_
                        · refine DI.sq 2 (by kernel_rfl) rfl ?_
                          refine .cons (.quietH rfl (by intro h_; cases h_) (ixl (E := E_i644) (j := 1) rfl rfl rfl (by decide) rfl hx329)) ?_
                          refine DI.sq 1 (by kernel_rfl) rfl ?_
                          refine .cons (.ldn (vs := [.int .i64 x325, .int .i64 x326]) rfl rfl rfl (.lst 1 rfl (encL_sub (lgt_in hx329).1 (by kernel_rfl)))) ?_
                          refine DI.sq 2 (by kernel_rfl) rfl ?_
                          refine .cons (.quietH rfl (by intro h_; cases h_) (ixl (E := E_i644) (j := 1) rfl rfl rfl (by decide) rfl hx334)) ?_
                          refine DI.sq 1 (by kernel_rfl) rfl ?_
                          refine .cons (.ldn (vs := [.int .i64 x332, .int .i64 x333]) rfl rfl rfl (.lst 1 rfl (encL_sub (lgt_in hx334).1 (by kernel_rfl)))) ?_
                          refine .cons (.ldn rfl rfl rfl (.at 0 rfl rfl)) ?_
                          refine .cons (.call (vs := [.agg #[.int .i64 x325, .int .i64 x326], .agg #[.int .i64 x332, .int .i64 x333], .agg #[.int .i64 t315, .int .i64 t316], .int .i64 34]) rfl rfl (by kernel_rfl) (glyphicref1_Near.ok h336)) ?_
                          exact .nil
                        refine fk_q 12 [7, 13, 15, 16, 88] (σ' := [(7, .bool t40), (13, .slice (ad N218) t216.length (nN218 / 4)), (15, .pointer (some ⟨b318, 0, none⟩)), (16, .int .i64 x323), (88, .bool true)]) t_more (by kernel_rfl) ?_
                        refine fk_nil fun all => ?_
                        refine t_keep [7, 13, 15, 16, 88] (σ' := [(7, .bool t40), (13, .slice (ad N218) t216.length (nN218 / 4)), (15, .pointer (some ⟨b318, 0, none⟩)), (16, .int .i64 x323), (88, .bool true)]) (by kernel_rfl) ?_
                        refine t_end ?_
                        show W _ _ _ _ _ _ _
                        refine w_cond rfl (fun _ => ?_) (fun c_ => by cases c_)
                        show W _ _ _ _ _ _ _
                        refine w_seq ?_
                        refine w_reg fun all => ?_
                        refine t_qz 2 [6] (σ' := [(6, .bool t40)]) (by kernel_rfl) ?_
                        refine t_end ?_
                        show W _ _ _ _ _ _ _
                        refine w_ret ?_
                        obtain rfl := Option.some.inj e321
                        have hr_ := Option.some.inj e
                        exact ⟨[.bool t40], [], S, ⟨rfl, trivial⟩, VS.none, congrArg Value.bool hr_, rfl, rfl⟩
                      | false =>
                        rw [if_neg (by decide)] at e321
                        refine w_drwE mixed 12 [.v (.slice (ad N218) t216.length (nN218 / 4)), .v (.int .i64 x323), .v (.pointer (some ⟨bk N218, (x323).toNat * 4 + 0, none⟩)), .v (.pointer (some ⟨bk N218, (x323).toNat * 4 + 0, none⟩)), .v (.agg #[.int .i64 x325, .int .i64 x326]), .v (.slice (ad N218) t216.length (nN218 / 4)), .v (.int .i64 x323), .v (.pointer (some ⟨bk N218, (x323).toNat * 4 + 0, none⟩)), .v (.pointer (some ⟨bk N218, (x323).toNat * 4 + 2, none⟩)), .v (.agg #[.int .i64 x332, .int .i64 x333]), .v (.agg #[.int .i64 t315, .int .i64 t316]), .v (.bool false)] (by kernel_rfl) ?_ ?_
                        · refine DI.sq 2 (by kernel_rfl) rfl ?_
                          refine .cons (.quietH rfl (by intro h_; cases h_) (ixl (E := E_i644) (j := 1) rfl rfl rfl (by decide) rfl hx329)) ?_
                          refine DI.sq 1 (by kernel_rfl) rfl ?_
                          refine .cons (.ldn (vs := [.int .i64 x325, .int .i64 x326]) rfl rfl rfl (.lst 1 rfl (encL_sub (lgt_in hx329).1 (by kernel_rfl)))) ?_
                          refine DI.sq 2 (by kernel_rfl) rfl ?_
                          refine .cons (.quietH rfl (by intro h_; cases h_) (ixl (E := E_i644) (j := 1) rfl rfl rfl (by decide) rfl hx334)) ?_
                          refine DI.sq 1 (by kernel_rfl) rfl ?_
                          refine .cons (.ldn (vs := [.int .i64 x332, .int .i64 x333]) rfl rfl rfl (.lst 1 rfl (encL_sub (lgt_in hx334).1 (by kernel_rfl)))) ?_
                          refine .cons (.ldn rfl rfl rfl (.at 0 rfl rfl)) ?_
                          refine .cons (.call (vs := [.agg #[.int .i64 x325, .int .i64 x326], .agg #[.int .i64 x332, .int .i64 x333], .agg #[.int .i64 t315, .int .i64 t316], .int .i64 34]) rfl rfl (by kernel_rfl) (glyphicref1_Near.ok h336)) ?_
                          exact .nil
                        refine fk_q 12 [7, 13, 15, 16, 88] (σ' := [(7, .bool t40), (13, .slice (ad N218) t216.length (nN218 / 4)), (15, .pointer (some ⟨b318, 0, none⟩)), (16, .int .i64 x323), (88, .bool false)]) t_more (by kernel_rfl) ?_
                        refine fk_nil fun all => ?_
                        refine t_keep [7, 13, 15, 16, 88] (σ' := [(7, .bool t40), (13, .slice (ad N218) t216.length (nN218 / 4)), (15, .pointer (some ⟨b318, 0, none⟩)), (16, .int .i64 x323), (88, .bool false)]) (by kernel_rfl) ?_
                        refine t_end ?_
                        show W _ _ _ _ _ _ _
                        refine w_cond rfl (fun c_ => by cases c_) (fun _ => ?_)
                        show W _ _ _ _ _ _ _
                        refine w_skip ?_
                        show W _ _ _ _ _ _ _
                        refine w_reg fun all => ?_
                        refine t_qz 3 [7, 13, 15, 16] (σ' := [(7, .bool t40), (13, .slice (ad N218) t216.length (nN218 / 4)), (15, .pointer (some ⟨b318, 0, none⟩)), (16, .int .i64 (wr64 (x323 + 1)))]) (by kernel_rfl) ?_
                        refine t_end ?_
                        exact ⟨k_, Nat.lt_succ_self _, [(7, .bool t40), (13, .slice (ad N218) t216.length (nN218 / 4)), (15, .pointer (some ⟨b318, 0, none⟩)), (16, .int .i64 (wr64 (x323 + 1)))], ([⟨b318, [.int .i64 t315, .int .i64 t316], 2⟩, ⟨N218, encL E_i644 t216, nN218⟩, ⟨b136, [.int .i64 x128, .int .i64 x129, .int .i64 x130, .int .i64 x131, .int .i64 x132, .int .i64 x133, .int .i64 x134], 7⟩, ⟨b104, [.int .i64 x128, .int .i64 x129, .int .i64 x130, .int .i64 x131, .int .i64 x132, .int .i64 x133, .int .i64 x134], 7⟩, ⟨b44, [.slice a_l0 l0.length c_l0, .int .i64 x135], 2⟩, ⟨b100, [.int .i64 t96, .int .i64 t97], 2⟩] : List Own), S, keep_sub [7, 13, 15, 16] (by kernel_rfl), VS.sel [0, 0, 0, 0, 0, 0] (by kernel_rfl), wr64 (x323 + 1), rfl, rfl, rfl, e321⟩
                    · rw [if_neg c324] at e321
                      have c324b : (decide (x323 < (t216.length : Int))) = false := decide_eq_false c324
                      refine t_qz 3 [7, 13, 15, 16, 71, 73] (σ' := [(7, .bool t40), (13, .slice (ad N218) t216.length (nN218 / 4)), (15, .pointer (some ⟨b318, 0, none⟩)), (16, .int .i64 x323), (71, .int .i64 x323), (73, .int .i64 (t216.length : Int))]) (by kernel_rfl) ?_
                      refine t_v (dv_quiet rfl (congrArg (fun t => some (Value.bool t)) c324b)) ?_
                      refine t_keep [7, 13, 15, 16, 74] (σ' := [(7, .bool t40), (13, .slice (ad N218) t216.length (nN218 / 4)), (15, .pointer (some ⟨b318, 0, none⟩)), (16, .int .i64 x323), (74, .bool false)]) (by kernel_rfl) ?_
                      refine t_end ?_
                      show W _ _ _ _ _ _ _
                      refine w_cond rfl (fun c_ => by cases c_) (fun _ => ?_)
                      show W _ _ _ _ _ _ _
                      refine w_exit ?_
                      obtain rfl := Option.some.inj e321
                      exact ⟨([⟨b318, [.int .i64 t315, .int .i64 t316], 2⟩, ⟨b136, [.int .i64 x128, .int .i64 x129, .int .i64 x130, .int .i64 x131, .int .i64 x132, .int .i64 x133, .int .i64 x134], 7⟩, ⟨b104, [.int .i64 x128, .int .i64 x129, .int .i64 x130, .int .i64 x131, .int .i64 x132, .int .i64 x133, .int .i64 x134], 7⟩, ⟨b44, [.slice a_l0 l0.length c_l0, .int .i64 x135], 2⟩, ⟨b100, [.int .i64 t96, .int .i64 t97], 2⟩, ⟨N218, encL E_i644 t216, nN218⟩] : List Own), S, VS.sel [0, 1, 1, 1, 1, 0] (by kernel_rfl), (), rfl, by kernel_rfl, rfl, rfl⟩
                · rintro σ_ H_ S_ ⟨u_, rfl, rfl, rfl, rfl⟩
                  dsimp only at e
                  refine w_seq ?_
                  refine w_reg fun all => ?_
                  refine t_qz 1 [6] (σ' := [(6, .bool false)]) (by kernel_rfl) ?_
                  refine t_end ?_
                  show W _ _ _ _ _ _ _
                  refine w_ret ?_
                  have hr_ := Option.some.inj e
                  exact ⟨[.bool false], [], S, ⟨rfl, trivial⟩, VS.none, congrArg Value.bool hr_, rfl, rfl⟩
            · rw [if_neg c302] at e
              have c302b : (x128 == 3) = false := beq_eq_false_iff_ne.mpr c302
              cases e
  · rw [if_neg c42] at e
    exact absurd (Option.some.inj e) (by decide)

def glyphiclaw21_FlattenNear.Pure : Prop := ∀ (l0 : List (Int)) (far1 : Int) (part2 : Int), (Lit.int .i64 far1).wf = true → (Lit.int .i64 part2).wf = true → ∃ k, glyphiclaw21_FlattenNear.f k l0 far1 part2 = some true
theorem glyphiclaw21_FlattenNear.walk (P : glyphiclaw21_FlattenNear.Pure) (l0 : List (Int)) (far1 : Int) (part2 : Int) (w : World) {S : Seal} (hS : HOK [] S w) {a_l0 : Option Addr} {c_l0 : Nat} (h_l0 : SlI S .i64 l0 a_l0) (hfar1 : (Lit.int .i64 far1).wf = true) (hpart2 : (Lit.int .i64 part2).wf = true) :
    Calls Try.prog 8 #[.slice a_l0 l0.length c_l0, .int .i64 far1, .int .i64 part2] w fun e w' => e = .returned (.bool true) ∧ Below w.heap.size w w' := let ⟨k, h⟩ := P l0 far1 part2 hfar1 hpart2; law_w hS (glyphiclaw21_FlattenNear.ok (SlI.e h_l0) (k := k) h)
end Go.Proofs.Ytpimfacaalkmdaa.QFlattenNear
