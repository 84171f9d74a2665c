/- Functions of the program as Lean functions, each with the proof of its walk. Written by gen.py, a program of these sessions. -/
import Derived.Test.YtiaigehjogpcaaaDoorQScaleSaysx1
namespace Go.Proofs.YtiaigehjogpcaaaDoor.QScaleSays
open Go Go.RowKit Go.Proofs.YtiaigehjogpcaaaDoorE
set_option linter.unusedVariables false
set_option maxRecDepth 100000
set_option maxHeartbeats 8000000
/-- glyphicsee.sentinels -/
def c47 : C :=
  (.seq (.reg [⟨(some 0), .mv (.const (.slice none 0 0)), none⟩])
  (.seq (.reg [⟨(some 1), .ld none (.global 2), none⟩,
     ⟨(some 2), .ld none (.global 3), none⟩,
     ⟨(some 3), .ld none (.global 4), none⟩,
     ⟨(some 4), .ld none (.global 5), none⟩,
     ⟨(some 5), .ld none (.global 6), none⟩,
     ⟨(some 6), .ld none (.global 7), none⟩,
     ⟨(some 7), .ld none (.global 8), none⟩,
     ⟨(some 8), .ld none (.global 9), none⟩,
     ⟨(some 9), .ld none (.global 10), none⟩,
     ⟨(some 10), .ld none (.global 11), none⟩,
     ⟨(some 11), .ld none (.global 12), none⟩,
     ⟨(some 12), .ld none (.global 0), none⟩,
     ⟨(some 13), .ld none (.global 1), none⟩,
     ⟨(some 14), .bsl [.nilIface, .nilIface, .nilIface, .nilIface, .nilIface, .nilIface, .nilIface, .nilIface, .nilIface, .nilIface, .nilIface, .nilIface, .nilIface] 13 [(0, 1, (.tmp 1)), (1, 1, (.tmp 2)), (2, 1, (.tmp 3)), (3, 1, (.tmp 4)), (4, 1, (.tmp 5)), (5, 1, (.tmp 6)), (6, 1, (.tmp 7)), (7, 1, (.tmp 8)), (8, 1, (.tmp 9)), (9, 1, (.tmp 10)), (10, 1, (.tmp 11)), (11, 1, (.tmp 12)), (12, 1, (.tmp 13))], none⟩,
     ⟨(some 0), .mv (.tmp 14), none⟩])
  .ret))
def glyphicsee_sentinels.f  : Option (Unit) := some ()
theorem glyphicsee_sentinels.ok {S : Seal}  {A_ : Int → Addr} (hE_ : EO gsE S A_ 94) (e : glyphicsee_sentinels.f  = some ()) :
    Cal Tryd.prog 47 [] [] S fun v H' S' => ∃ (N0_ : Nat) , v = .slice (some ⟨N0_, 0, none⟩) 13 13 ∧ H' = ([⟨N0_, [.iface 94 (.pointer (some (A_ 3))), .iface 94 (.pointer (some (A_ 4))), .iface 94 (.pointer (some (A_ 5))), .iface 94 (.pointer (some (A_ 6))), .iface 94 (.pointer (some (A_ 7))), .iface 94 (.pointer (some (A_ 8))), .iface 94 (.pointer (some (A_ 9))), .iface 94 (.pointer (some (A_ 10))), .iface 94 (.pointer (some (A_ 11))), .iface 94 (.pointer (some (A_ 12))), .iface 94 (.pointer (some (A_ 13))), .iface 94 (.pointer (some (A_ 1))), .iface 94 (.pointer (some (A_ 2)))], 13⟩] : List Own) ∧ S' = S := by
  unfold glyphicsee_sentinels.f at e
  refine cal_of (c := c47) (N := 15) Tryd.func47 rfl rfl (by kernel_rfl) (rs := [.t 0]) (by kernel_rfl) (Nat.le_of_ble_eq_true rfl) ?_
  unfold c47
  refine w_seq ?_
  refine w_reg fun all => ?_
  refine t_qz 1 [] (σ' := []) (by kernel_rfl) ?_
  refine t_end ?_
  show W _ _ _ _ _ _ _
  refine w_seq ?_
  refine w_reg fun all => ?_
  refine t_v (.ld1 rfl rfl rfl (hE_.atc 2 3 (by decide) (by decide))) ?_
  refine t_v (.ld1 rfl rfl rfl (hE_.atc 3 4 (by decide) (by decide))) ?_
  refine t_v (.ld1 rfl rfl rfl (hE_.atc 4 5 (by decide) (by decide))) ?_
  refine t_v (.ld1 rfl rfl rfl (hE_.atc 5 6 (by decide) (by decide))) ?_
  refine t_v (.ld1 rfl rfl rfl (hE_.atc 6 7 (by decide) (by decide))) ?_
  refine t_v (.ld1 rfl rfl rfl (hE_.atc 7 8 (by decide) (by decide))) ?_
  refine t_v (.ld1 rfl rfl rfl (hE_.atc 8 9 (by decide) (by decide))) ?_
  refine t_v (.ld1 rfl rfl rfl (hE_.atc 9 10 (by decide) (by decide))) ?_
  refine t_v (.ld1 rfl rfl rfl (hE_.atc 10 11 (by decide) (by decide))) ?_
  refine t_v (.ld1 rfl rfl rfl (hE_.atc 11 12 (by decide) (by decide))) ?_
  refine t_v (.ld1 rfl rfl rfl (hE_.atc 12 13 (by decide) (by decide))) ?_
  refine t_v (.ld1 rfl rfl rfl (hE_.atc 0 1 (by decide) (by decide))) ?_
  refine t_v (.ld1 rfl rfl rfl (hE_.atc 1 2 (by decide) (by decide))) ?_
  refine t_a (dv_bsl (cs := [.iface 94 (.pointer (some (A_ 3))), .iface 94 (.pointer (some (A_ 4))), .iface 94 (.pointer (some (A_ 5))), .iface 94 (.pointer (some (A_ 6))), .iface 94 (.pointer (some (A_ 7))), .iface 94 (.pointer (some (A_ 8))), .iface 94 (.pointer (some (A_ 9))), .iface 94 (.pointer (some (A_ 10))), .iface 94 (.pointer (some (A_ 11))), .iface 94 (.pointer (some (A_ 12))), .iface 94 (.pointer (some (A_ 13))), .iface 94 (.pointer (some (A_ 1))), .iface 94 (.pointer (some (A_ 2)))]) rfl rfl (by kernel_rfl)) fun b439 fb439 sb439 => ?_
  refine t_qz 1 [0] (σ' := [(0, .slice (some ⟨b439, 0, none⟩) 13 13)]) (by kernel_rfl) ?_
  refine t_end ?_
  show W _ _ _ _ _ _ _
  refine w_ret ?_
  exact ⟨[.slice (some ⟨b439, 0, none⟩) 13 13], ([⟨b439, [.iface 94 (.pointer (some (A_ 3))), .iface 94 (.pointer (some (A_ 4))), .iface 94 (.pointer (some (A_ 5))), .iface 94 (.pointer (some (A_ 6))), .iface 94 (.pointer (some (A_ 7))), .iface 94 (.pointer (some (A_ 8))), .iface 94 (.pointer (some (A_ 9))), .iface 94 (.pointer (some (A_ 10))), .iface 94 (.pointer (some (A_ 11))), .iface 94 (.pointer (some (A_ 12))), .iface 94 (.pointer (some (A_ 13))), .iface 94 (.pointer (some (A_ 1))), .iface 94 (.pointer (some (A_ 2)))], 13⟩] : List Own), S, ⟨rfl, trivial⟩, VS.sel [0] (by kernel_rfl), b439, rfl, rfl, rfl⟩

/-- glyphicsee.Alike -/
def c48 : C :=
  (.seq (.reg [⟨(some 4), .mv (.const (.bool false)), none⟩])
  (.seq (.seq (.reg [⟨(some 5), .mv (.tmp 0), none⟩,
      ⟨(some 6), .eqt false 38 (.tmp 5) (.const .nilIface), none⟩,
      ⟨(some 7), .mv (.tmp 6), none⟩,
      ⟨(some 8), .mv (.tmp 1), (some (7, false))⟩,
      ⟨(some 9), .eqt false 38 (.tmp 8) (.const .nilIface), (some (7, false))⟩,
      ⟨(some 10), .pk (.tmp 7) (.const (.bool true)) (.tmp 9), none⟩])
   (.cond (.tmp 10)
    (.seq (.reg [⟨(some 11), .mv (.tmp 0), none⟩,
        ⟨(some 12), .eqt false 38 (.tmp 11) (.const .nilIface), none⟩,
        ⟨(some 13), .mv (.tmp 12), none⟩,
        ⟨(some 14), .mv (.tmp 1), (some (13, true))⟩,
        ⟨(some 15), .eqt false 38 (.tmp 14) (.const .nilIface), (some (13, true))⟩,
        ⟨(some 16), .pk (.tmp 13) (.tmp 15) (.const (.bool false)), none⟩,
        ⟨(some 4), .mv (.tmp 16), none⟩])
     .ret)
    .skip))
  (.seq (.reg [⟨(some 17), .mv (.tmp 0), none⟩,
     ⟨(some 18), .mv (.tmp 1), none⟩,
     ⟨(some 19), .eqt false 38 (.tmp 17) (.tmp 18), none⟩,
     ⟨(some 4), .mv (.tmp 19), none⟩])
  .ret)))
def glyphicsee_Alike_v1.f (a0 : Int) (b1 : Int) : Option (Bool) := if a0 = 0 then (some (b1 == 0)) else (if b1 = 0 then (some false) else (if isL gsE a0 = false then none else (if isL gsE b1 = false then none else (some (a0 == b1)))))
theorem glyphicsee_Alike_v1.ok {S : Seal} {a0 : Int} {b1 : Int} {r0_ : Bool}{A_ : Int → Addr} (hE_ : EO gsE S A_ 94) (e : glyphicsee_Alike_v1.f a0 b1 = some r0_) :
    Cal Tryd.prog 48 [errV 94 A_ a0, errV 94 A_ b1] [] S fun v H' S' => v = .bool r0_ ∧ H' = [] ∧ S' = S := by
  unfold glyphicsee_Alike_v1.f at e
  refine cal_of (c := c48) (N := 20) Tryd.func48 rfl rfl (by kernel_rfl) (rs := [.t 4]) (by kernel_rfl) (Nat.le_of_ble_eq_true rfl) ?_
  unfold c48
  refine w_seq ?_
  refine w_reg fun all => ?_
  refine t_qz 1 [0, 1] (σ' := [(0, errV 94 A_ a0), (1, errV 94 A_ b1)]) (by kernel_rfl) ?_
  refine t_end ?_
  show W _ _ _ _ _ _ _
  refine w_seq ?_
  refine w_seq ?_
  refine w_reg fun all => ?_
  by_cases c442 : a0 = 0
  · rw [if_pos c442] at e
    have c442b : (a0 == 0) = true := beq_iff_eq.mpr c442
    refine t_qz 1 [0, 1, 5] (σ' := [(0, errV 94 A_ a0), (1, errV 94 A_ b1), (5, errV 94 A_ a0)]) (by kernel_rfl) ?_
    refine t_v (.eqt (a := errV 94 A_ a0) (b := .nilIface) (r := a0 == 0) rfl rfl rfl rfl (eqErr (by kernel_rfl) rfl) (bnk c442b rfl)) ?_
    refine t_qz 4 [0, 1, 10] (σ' := [(0, errV 94 A_ a0), (1, errV 94 A_ b1), (10, .bool true)]) (by kernel_rfl) ?_
    refine t_end ?_
    show W _ _ _ _ _ _ _
    refine w_cond rfl (fun _ => ?_) (fun c_ => by cases c_)
    show W _ _ _ _ _ _ _
    refine w_seq ?_
    refine w_reg fun all => ?_
    refine t_qz 1 [1, 11] (σ' := [(1, errV 94 A_ b1), (11, errV 94 A_ a0)]) (by kernel_rfl) ?_
    refine t_v (.eqt (a := errV 94 A_ a0) (b := .nilIface) (r := a0 == 0) rfl rfl rfl rfl (eqErr (by kernel_rfl) rfl) (bnk c442b rfl)) ?_
    refine t_qz 2 [13, 14] (σ' := [(13, .bool true), (14, errV 94 A_ b1)]) (by kernel_rfl) ?_
    refine t_v (.eqt (a := errV 94 A_ b1) (b := .nilIface) (r := b1 == 0) rfl rfl rfl rfl (eqErr (by kernel_rfl) rfl) (bnf _)) ?_
    refine t_qz 2 [4] (σ' := [(4, .bool (b1 == 0))]) (by kernel_rfl) ?_
    refine t_end ?_
    show W _ _ _ _ _ _ _
    refine w_ret ?_
    obtain rfl := Option.some.inj e
    exact ⟨[.bool (b1 == 0)], [], S, ⟨rfl, trivial⟩, VS.none, rfl, rfl, rfl⟩
  · rw [if_neg c442] at e
    have c442b : (a0 == 0) = false := beq_eq_false_iff_ne.mpr c442
    refine t_qz 1 [0, 1, 5] (σ' := [(0, errV 94 A_ a0), (1, errV 94 A_ b1), (5, errV 94 A_ a0)]) (by kernel_rfl) ?_
    refine t_v (.eqt (a := errV 94 A_ a0) (b := .nilIface) (r := a0 == 0) rfl rfl rfl rfl (eqErr (by kernel_rfl) rfl) (bnk c442b rfl)) ?_
    by_cases c443 : b1 = 0
    · rw [if_pos c443] at e
      have c443b : (b1 == 0) = true := beq_iff_eq.mpr c443
      refine t_qz 2 [0, 1, 7, 8] (σ' := [(0, errV 94 A_ a0), (1, errV 94 A_ b1), (7, .bool false), (8, errV 94 A_ b1)]) (by kernel_rfl) ?_
      refine t_v (.eqt (a := errV 94 A_ b1) (b := .nilIface) (r := b1 == 0) rfl rfl rfl rfl (eqErr (by kernel_rfl) rfl) (bnk c443b rfl)) ?_
      refine t_qz 1 [0, 1, 10] (σ' := [(0, errV 94 A_ a0), (1, errV 94 A_ b1), (10, .bool true)]) (by kernel_rfl) ?_
      refine t_end ?_
      show W _ _ _ _ _ _ _
      refine w_cond rfl (fun _ => ?_) (fun c_ => by cases c_)
      show W _ _ _ _ _ _ _
      refine w_seq ?_
      refine w_reg fun all => ?_
      refine t_qz 1 [1, 11] (σ' := [(1, errV 94 A_ b1), (11, errV 94 A_ a0)]) (by kernel_rfl) ?_
      refine t_v (.eqt (a := errV 94 A_ a0) (b := .nilIface) (r := a0 == 0) rfl rfl rfl rfl (eqErr (by kernel_rfl) rfl) (bnk c442b rfl)) ?_
      refine t_qz 5 [4] (σ' := [(4, .bool false)]) (by kernel_rfl) ?_
      refine t_end ?_
      show W _ _ _ _ _ _ _
      refine w_ret ?_
      obtain rfl := Option.some.inj e
      exact ⟨[.bool false], [], S, ⟨rfl, trivial⟩, VS.none, rfl, rfl, rfl⟩
    · rw [if_neg c443] at e
      have c443b : (b1 == 0) = false := beq_eq_false_iff_ne.mpr c443
      refine t_qz 2 [0, 1, 7, 8] (σ' := [(0, errV 94 A_ a0), (1, errV 94 A_ b1), (7, .bool false), (8, errV 94 A_ b1)]) (by kernel_rfl) ?_
      refine t_v (.eqt (a := errV 94 A_ b1) (b := .nilIface) (r := b1 == 0) rfl rfl rfl rfl (eqErr (by kernel_rfl) rfl) (bnk c443b rfl)) ?_
      refine t_qz 1 [0, 1, 10] (σ' := [(0, errV 94 A_ a0), (1, errV 94 A_ b1), (10, .bool false)]) (by kernel_rfl) ?_
      refine t_end ?_
      show W _ _ _ _ _ _ _
      refine w_cond rfl (fun c_ => by cases c_) (fun _ => ?_)
      show W _ _ _ _ _ _ _
      refine w_skip ?_
      show W _ _ _ _ _ _ _
      refine w_seq ?_
      refine w_reg fun all => ?_
      have c444 : ¬ isL gsE a0 = false := by
        intro h_; rw [if_pos h_] at e; cases e
      rw [if_neg c444] at e
      have c445 : ¬ isL gsE b1 = false := by
        intro h_; rw [if_pos h_] at e; cases e
      rw [if_neg c445] at e
      refine t_qz 2 [17, 18] (σ' := [(17, errV 94 A_ a0), (18, errV 94 A_ b1)]) (by kernel_rfl) ?_
      refine t_v (.eqp (a := errV 94 A_ a0) (b := errV 94 A_ b1) (r := a0 == b1) rfl rfl rfl rfl (eqp_sym hE_ c444 c445 (by kernel_rfl)) (bnf _)) ?_
      refine t_qz 1 [4] (σ' := [(4, .bool (a0 == b1))]) (by kernel_rfl) ?_
      refine t_end ?_
      show W _ _ _ _ _ _ _
      refine w_ret ?_
      obtain rfl := Option.some.inj e
      exact ⟨[.bool (a0 == b1)], [], S, ⟨rfl, trivial⟩, VS.none, rfl, rfl, rfl⟩

/-- glyphicsee.sentinel -/
def c44 : C :=
  (.seq (.reg [⟨(some 2), .mv (.const (.int .i64 0)), none⟩])
  (.seq (.reg [⟨(some 5), .call 47 [], none⟩,
     ⟨(some 3), .mv (.tmp 5), none⟩])
  (.seq (.seq (.reg [⟨(some 4), .mv (.const (.int .i64 0)), none⟩])
   (.block 0 (.loop (.seq (.seq (.reg [⟨(some 6), .mv (.tmp 4), none⟩,
         ⟨(some 7), .mv (.tmp 3), none⟩,
         ⟨(some 8), .lns (.tmp 7), none⟩,
         ⟨(some 9), .bin .lss (.tmp 6) (.tmp 8), none⟩])
      (.cond (.tmp 9)
       .skip
       (.exit 0)))
     (.seq (.block 1 (.seq (.reg [⟨(some 12), .mv (.tmp 0), none⟩,
          ⟨(some 13), .mv (.tmp 3), none⟩,
          ⟨(some 14), .mv (.tmp 4), none⟩,
          ⟨(some 15), .ixs 1 (.tmp 13) (.tmp 14), none⟩,
          ⟨(some 16), .ld none (.tmp 15), none⟩,
          ⟨(some 17), .call 48 [(.tmp 12), (.tmp 16)], none⟩])
       (.cond (.tmp 17)
        (.seq (.reg [⟨(some 18), .mv (.tmp 4), none⟩,
            ⟨(some 19), .bin .add (.const (.int .i64 101)) (.tmp 18), none⟩,
            ⟨(some 2), .mv (.tmp 19), none⟩])
         .ret)
        .skip)))
     (.reg [⟨(some 10), .mv (.tmp 4), none⟩,
       ⟨(some 11), .bin .add (.tmp 10) (.const (.int .i64 1)), none⟩,
       ⟨(some 4), .mv (.tmp 11), none⟩]))))))
  (.seq (.reg [⟨(some 2), .mv (.const (.int .i64 (-1))), none⟩])
  .ret))))
def glyphicsee_sentinel_v1.f (e0 : Int) : Option (Int) := (glyphicsee_sentinels.f).bind fun _ => ((glyphicsee_Alike_v1.f e0 3).bind fun t446 => (if t446 = true then (some 101) else ((glyphicsee_Alike_v1.f e0 4).bind fun t448 => (if t448 = true then (some 102) else ((glyphicsee_Alike_v1.f e0 5).bind fun t450 => (if t450 = true then (some 103) else ((glyphicsee_Alike_v1.f e0 6).bind fun t452 => (if t452 = true then (some 104) else ((glyphicsee_Alike_v1.f e0 7).bind fun t454 => (if t454 = true then (some 105) else ((glyphicsee_Alike_v1.f e0 8).bind fun t456 => (if t456 = true then (some 106) else ((glyphicsee_Alike_v1.f e0 9).bind fun t458 => (if t458 = true then (some 107) else ((glyphicsee_Alike_v1.f e0 10).bind fun t460 => (if t460 = true then (some 108) else ((glyphicsee_Alike_v1.f e0 11).bind fun t462 => (if t462 = true then (some 109) else ((glyphicsee_Alike_v1.f e0 12).bind fun t464 => (if t464 = true then (some 110) else ((glyphicsee_Alike_v1.f e0 13).bind fun t466 => (if t466 = true then (some 111) else ((glyphicsee_Alike_v1.f e0 1).bind fun t468 => (if t468 = true then (some 112) else ((glyphicsee_Alike_v1.f e0 2).bind fun t470 => (if t470 = true then (some 113) else (some (-1))))))))))))))))))))))))))))
theorem glyphicsee_sentinel_v1.ok {S : Seal} {e0 : Int} {r0_ : Int}{A_ : Int → Addr} (hE_ : EO gsE S A_ 94) (e : glyphicsee_sentinel_v1.f e0 = some r0_) :
    Cal Tryd.prog 44 [errV 94 A_ e0] [] S fun v H' S' => v = .int .i64 r0_ ∧ H' = [] ∧ S' = S := by
  unfold glyphicsee_sentinel_v1.f at e
  refine cal_of (c := c44) (N := 20) Tryd.func44 rfl rfl (by kernel_rfl) (rs := [.t 2]) (by kernel_rfl) (Nat.le_of_ble_eq_true rfl) ?_
  unfold c44
  refine w_seq ?_
  refine w_reg fun all => ?_
  refine t_qz 1 [0] (σ' := [(0, errV 94 A_ e0)]) (by kernel_rfl) ?_
  refine t_end ?_
  show W _ _ _ _ _ _ _
  refine w_seq ?_
  refine w_reg fun all => ?_
  obtain ⟨u_, h440, e⟩ := bind_of e
  refine t_call (vs := []) (H1 := []) (F := ([] : List Own)) rfl rfl (by kernel_rfl) (sel_perm (is := []) (by kernel_rfl)) (glyphicsee_sentinels.ok hE_ h440) ?_
  rintro _ _ S_ ⟨N441, rfl, rfl, hS_⟩
  obtain rfl := hS_.symm
  refine t_qz 1 [0, 3] (σ' := [(0, errV 94 A_ e0), (3, .slice (some ⟨N441, 0, none⟩) 13 13)]) (by kernel_rfl) ?_
  refine t_end ?_
  show W _ _ _ _ _ _ _
  refine w_seq ?_
  refine w_seq ?_
  refine w_reg fun all => ?_
  refine t_qz 1 [0, 3, 4] (σ' := [(0, errV 94 A_ e0), (3, .slice (some ⟨N441, 0, none⟩) 13 13), (4, .int .i64 0)]) (by kernel_rfl) ?_
  refine t_end ?_
  show W _ _ _ _ _ _ _
  refine w_block ?_
  refine w_lun 15 ?_
  refine wl_step ?_
  refine w_seq ?_
  refine w_seq ?_
  refine w_reg fun all => ?_
  refine t_qz 4 [0, 3, 4, 9] (σ' := [(0, errV 94 A_ e0), (3, .slice (some ⟨N441, 0, none⟩) 13 13), (4, .int .i64 0), (9, .bool true)]) (by kernel_rfl) ?_
  refine t_end ?_
  show W _ _ _ _ _ _ _
  refine w_cond rfl (fun _ => ?_) (fun c_ => by cases c_)
  show W _ _ _ _ _ _ _
  refine w_skip ?_
  show W _ _ _ _ _ _ _
  refine w_seq ?_
  refine w_block ?_
  refine w_seq ?_
  refine w_reg fun all => ?_
  refine t_qz 4 [0, 3, 4, 12, 15] (σ' := [(0, errV 94 A_ e0), (3, .slice (some ⟨N441, 0, none⟩) 13 13), (4, .int .i64 0), (12, errV 94 A_ e0), (15, .pointer (some ⟨N441, 0, none⟩))]) (by kernel_rfl) ?_
  refine t_v (.ld1 rfl rfl rfl (.at 0 rfl rfl)) ?_
  obtain ⟨t446, h447, e⟩ := bind_of e
  cases t446 with
  | true =>
    rw [if_pos rfl] at e
    refine t_v (.call (vs := [errV 94 A_ e0, .iface 94 (.pointer (some (A_ 3)))]) rfl rfl (by kernel_rfl) (glyphicsee_Alike_v1.ok (a0 := e0) (b1 := 3) hE_ h447)) ?_
    refine t_keep [0, 3, 4, 17] (σ' := [(0, errV 94 A_ e0), (3, .slice (some ⟨N441, 0, none⟩) 13 13), (4, .int .i64 0), (17, .bool true)]) (by kernel_rfl) ?_
    refine t_end ?_
    show W _ _ _ _ _ _ _
    refine w_cond rfl (fun _ => ?_) (fun c_ => by cases c_)
    show W _ _ _ _ _ _ _
    refine w_seq ?_
    refine w_reg fun all => ?_
    refine t_qz 3 [2] (σ' := [(2, .int .i64 101)]) (by kernel_rfl) ?_
    refine t_end ?_
    show W _ _ _ _ _ _ _
    refine w_ret ?_
    obtain rfl := Option.some.inj e
    exact ⟨[.int .i64 101], [], S, ⟨rfl, trivial⟩, VS.none, rfl, rfl, rfl⟩
  | false =>
    rw [if_neg (by decide)] at e
    refine t_v (.call (vs := [errV 94 A_ e0, .iface 94 (.pointer (some (A_ 3)))]) rfl rfl (by kernel_rfl) (glyphicsee_Alike_v1.ok (a0 := e0) (b1 := 3) hE_ h447)) ?_
    refine t_keep [0, 3, 4, 17] (σ' := [(0, errV 94 A_ e0), (3, .slice (some ⟨N441, 0, none⟩) 13 13), (4, .int .i64 0), (17, .bool false)]) (by kernel_rfl) ?_
    refine t_end ?_
    show W _ _ _ _ _ _ _
    refine w_cond rfl (fun c_ => by cases c_) (fun _ => ?_)
    show W _ _ _ _ _ _ _
    refine w_skip ?_
    show W _ _ _ _ _ _ _
    refine w_reg fun all => ?_
    refine t_qz 3 [0, 3, 4] (σ' := [(0, errV 94 A_ e0), (3, .slice (some ⟨N441, 0, none⟩) 13 13), (4, .int .i64 1)]) (by kernel_rfl) ?_
    refine t_end ?_
    show WL _ _ _ _ _ _ _ _
    refine wl_step ?_
    refine w_seq ?_
    refine w_seq ?_
    refine w_reg fun all => ?_
    refine t_qz 4 [0, 3, 4, 9] (σ' := [(0, errV 94 A_ e0), (3, .slice (some ⟨N441, 0, none⟩) 13 13), (4, .int .i64 1), (9, .bool true)]) (by kernel_rfl) ?_
    refine t_end ?_
    show W _ _ _ _ _ _ _
    refine w_cond rfl (fun _ => ?_) (fun c_ => by cases c_)
    show W _ _ _ _ _ _ _
    refine w_skip ?_
    show W _ _ _ _ _ _ _
    refine w_seq ?_
    refine w_block ?_
    refine w_seq ?_
    refine w_reg fun all => ?_
    refine t_qz 4 [0, 3, 4, 12, 15] (σ' := [(0, errV 94 A_ e0), (3, .slice (some ⟨N441, 0, none⟩) 13 13), (4, .int .i64 1), (12, errV 94 A_ e0), (15, .pointer (some ⟨N441, 1, none⟩))]) (by kernel_rfl) ?_
    refine t_v (.ld1 rfl rfl rfl (.at 0 rfl rfl)) ?_
    obtain ⟨t448, h449, e⟩ := bind_of e
    cases t448 with
    | true =>
      rw [if_pos rfl] at e
      refine t_v (.call (vs := [errV 94 A_ e0, .iface 94 (.pointer (some (A_ 4)))]) rfl rfl (by kernel_rfl) (glyphicsee_Alike_v1.ok (a0 := e0) (b1 := 4) hE_ h449)) ?_
      refine t_keep [0, 3, 4, 17] (σ' := [(0, errV 94 A_ e0), (3, .slice (some ⟨N441, 0, none⟩) 13 13), (4, .int .i64 1), (17, .bool true)]) (by kernel_rfl) ?_
      refine t_end ?_
      show W _ _ _ _ _ _ _
      refine w_cond rfl (fun _ => ?_) (fun c_ => by cases c_)
      show W _ _ _ _ _ _ _
      refine w_seq ?_
      refine w_reg fun all => ?_
      refine t_qz 3 [2] (σ' := [(2, .int .i64 102)]) (by kernel_rfl) ?_
      refine t_end ?_
      show W _ _ _ _ _ _ _
      refine w_ret ?_
      obtain rfl := Option.some.inj e
      exact ⟨[.int .i64 102], [], S, ⟨rfl, trivial⟩, VS.none, rfl, rfl, rfl⟩
    | false =>
      rw [if_neg (by decide)] at e
      refine t_v (.call (vs := [errV 94 A_ e0, .iface 94 (.pointer (some (A_ 4)))]) rfl rfl (by kernel_rfl) (glyphicsee_Alike_v1.ok (a0 := e0) (b1 := 4) hE_ h449)) ?_
      refine t_keep [0, 3, 4, 17] (σ' := [(0, errV 94 A_ e0), (3, .slice (some ⟨N441, 0, none⟩) 13 13), (4, .int .i64 1), (17, .bool false)]) (by kernel_rfl) ?_
      refine t_end ?_
      show W _ _ _ _ _ _ _
      refine w_cond rfl (fun c_ => by cases c_) (fun _ => ?_)
      show W _ _ _ _ _ _ _
      refine w_skip ?_
      show W _ _ _ _ _ _ _
      refine w_reg fun all => ?_
      refine t_qz 3 [0, 3, 4] (σ' := [(0, errV 94 A_ e0), (3, .slice (some ⟨N441, 0, none⟩) 13 13), (4, .int .i64 2)]) (by kernel_rfl) ?_
      refine t_end ?_
      show WL _ _ _ _ _ _ _ _
      refine wl_step ?_
      refine w_seq ?_
      refine w_seq ?_
      refine w_reg fun all => ?_
      refine t_qz 4 [0, 3, 4, 9] (σ' := [(0, errV 94 A_ e0), (3, .slice (some ⟨N441, 0, none⟩) 13 13), (4, .int .i64 2), (9, .bool true)]) (by kernel_rfl) ?_
      refine t_end ?_
      show W _ _ _ _ _ _ _
      refine w_cond rfl (fun _ => ?_) (fun c_ => by cases c_)
      show W _ _ _ _ _ _ _
      refine w_skip ?_
      show W _ _ _ _ _ _ _
      refine w_seq ?_
      refine w_block ?_
      refine w_seq ?_
      refine w_reg fun all => ?_
      refine t_qz 4 [0, 3, 4, 12, 15] (σ' := [(0, errV 94 A_ e0), (3, .slice (some ⟨N441, 0, none⟩) 13 13), (4, .int .i64 2), (12, errV 94 A_ e0), (15, .pointer (some ⟨N441, 2, none⟩))]) (by kernel_rfl) ?_
      refine t_v (.ld1 rfl rfl rfl (.at 0 rfl rfl)) ?_
      obtain ⟨t450, h451, e⟩ := bind_of e
      cases t450 with
      | true =>
        rw [if_pos rfl] at e
        refine t_v (.call (vs := [errV 94 A_ e0, .iface 94 (.pointer (some (A_ 5)))]) rfl rfl (by kernel_rfl) (glyphicsee_Alike_v1.ok (a0 := e0) (b1 := 5) hE_ h451)) ?_
        refine t_keep [0, 3, 4, 17] (σ' := [(0, errV 94 A_ e0), (3, .slice (some ⟨N441, 0, none⟩) 13 13), (4, .int .i64 2), (17, .bool true)]) (by kernel_rfl) ?_
        refine t_end ?_
        show W _ _ _ _ _ _ _
        refine w_cond rfl (fun _ => ?_) (fun c_ => by cases c_)
        show W _ _ _ _ _ _ _
        refine w_seq ?_
        refine w_reg fun all => ?_
        refine t_qz 3 [2] (σ' := [(2, .int .i64 103)]) (by kernel_rfl) ?_
        refine t_end ?_
        show W _ _ _ _ _ _ _
        refine w_ret ?_
        obtain rfl := Option.some.inj e
        exact ⟨[.int .i64 103], [], S, ⟨rfl, trivial⟩, VS.none, rfl, rfl, rfl⟩
      | false =>
        rw [if_neg (by decide)] at e
        refine t_v (.call (vs := [errV 94 A_ e0, .iface 94 (.pointer (some (A_ 5)))]) rfl rfl (by kernel_rfl) (glyphicsee_Alike_v1.ok (a0 := e0) (b1 := 5) hE_ h451)) ?_
        refine t_keep [0, 3, 4, 17] (σ' := [(0, errV 94 A_ e0), (3, .slice (some ⟨N441, 0, none⟩) 13 13), (4, .int .i64 2), (17, .bool false)]) (by kernel_rfl) ?_
        refine t_end ?_
        show W _ _ _ _ _ _ _
        refine w_cond rfl (fun c_ => by cases c_) (fun _ => ?_)
        show W _ _ _ _ _ _ _
        refine w_skip ?_
        show W _ _ _ _ _ _ _
        refine w_reg fun all => ?_
        refine t_qz 3 [0, 3, 4] (σ' := [(0, errV 94 A_ e0), (3, .slice (some ⟨N441, 0, none⟩) 13 13), (4, .int .i64 3)]) (by kernel_rfl) ?_
        refine t_end ?_
        show WL _ _ _ _ _ _ _ _
        refine wl_step ?_
        refine w_seq ?_
        refine w_seq ?_
        refine w_reg fun all => ?_
        refine t_qz 4 [0, 3, 4, 9] (σ' := [(0, errV 94 A_ e0), (3, .slice (some ⟨N441, 0, none⟩) 13 13), (4, .int .i64 3), (9, .bool true)]) (by kernel_rfl) ?_
        refine t_end ?_
        show W _ _ _ _ _ _ _
        refine w_cond rfl (fun _ => ?_) (fun c_ => by cases c_)
        show W _ _ _ _ _ _ _
        refine w_skip ?_
        show W _ _ _ _ _ _ _
        refine w_seq ?_
        refine w_block ?_
        refine w_seq ?_
        refine w_reg fun all => ?_
        refine t_qz 4 [0, 3, 4, 12, 15] (σ' := [(0, errV 94 A_ e0), (3, .slice (some ⟨N441, 0, none⟩) 13 13), (4, .int .i64 3), (12, errV 94 A_ e0), (15, .pointer (some ⟨N441, 3, none⟩))]) (by kernel_rfl) ?_
        refine t_v (.ld1 rfl rfl rfl (.at 0 rfl rfl)) ?_
        obtain ⟨t452, h453, e⟩ := bind_of e
        cases t452 with
        | true =>
          rw [if_pos rfl] at e
          refine t_v (.call (vs := [errV 94 A_ e0, .iface 94 (.pointer (some (A_ 6)))]) rfl rfl (by kernel_rfl) (glyphicsee_Alike_v1.ok (a0 := e0) (b1 := 6) hE_ h453)) ?_
          refine t_keep [0, 3, 4, 17] (σ' := [(0, errV 94 A_ e0), (3, .slice (some ⟨N441, 0, none⟩) 13 13), (4, .int .i64 3), (17, .bool true)]) (by kernel_rfl) ?_
          refine t_end ?_
          show W _ _ _ _ _ _ _
          refine w_cond rfl (fun _ => ?_) (fun c_ => by cases c_)
          show W _ _ _ _ _ _ _
          refine w_seq ?_
          refine w_reg fun all => ?_
          refine t_qz 3 [2] (σ' := [(2, .int .i64 104)]) (by kernel_rfl) ?_
          refine t_end ?_
          show W _ _ _ _ _ _ _
          refine w_ret ?_
          obtain rfl := Option.some.inj e
          exact ⟨[.int .i64 104], [], S, ⟨rfl, trivial⟩, VS.none, rfl, rfl, rfl⟩
        | false =>
          rw [if_neg (by decide)] at e
          refine t_v (.call (vs := [errV 94 A_ e0, .iface 94 (.pointer (some (A_ 6)))]) rfl rfl (by kernel_rfl) (glyphicsee_Alike_v1.ok (a0 := e0) (b1 := 6) hE_ h453)) ?_
          refine t_keep [0, 3, 4, 17] (σ' := [(0, errV 94 A_ e0), (3, .slice (some ⟨N441, 0, none⟩) 13 13), (4, .int .i64 3), (17, .bool false)]) (by kernel_rfl) ?_
          refine t_end ?_
          show W _ _ _ _ _ _ _
          refine w_cond rfl (fun c_ => by cases c_) (fun _ => ?_)
          show W _ _ _ _ _ _ _
          refine w_skip ?_
          show W _ _ _ _ _ _ _
          refine w_reg fun all => ?_
          refine t_qz 3 [0, 3, 4] (σ' := [(0, errV 94 A_ e0), (3, .slice (some ⟨N441, 0, none⟩) 13 13), (4, .int .i64 4)]) (by kernel_rfl) ?_
          refine t_end ?_
          show WL _ _ _ _ _ _ _ _
          refine wl_step ?_
          refine w_seq ?_
          refine w_seq ?_
          refine w_reg fun all => ?_
          refine t_qz 4 [0, 3, 4, 9] (σ' := [(0, errV 94 A_ e0), (3, .slice (some ⟨N441, 0, none⟩) 13 13), (4, .int .i64 4), (9, .bool true)]) (by kernel_rfl) ?_
          refine t_end ?_
          show W _ _ _ _ _ _ _
          refine w_cond rfl (fun _ => ?_) (fun c_ => by cases c_)
          show W _ _ _ _ _ _ _
          refine w_skip ?_
          show W _ _ _ _ _ _ _
          refine w_seq ?_
          refine w_block ?_
          refine w_seq ?_
          refine w_reg fun all => ?_
          refine t_qz 4 [0, 3, 4, 12, 15] (σ' := [(0, errV 94 A_ e0), (3, .slice (some ⟨N441, 0, none⟩) 13 13), (4, .int .i64 4), (12, errV 94 A_ e0), (15, .pointer (some ⟨N441, 4, none⟩))]) (by kernel_rfl) ?_
          refine t_v (.ld1 rfl rfl rfl (.at 0 rfl rfl)) ?_
          obtain ⟨t454, h455, e⟩ := bind_of e
          cases t454 with
          | true =>
            rw [if_pos rfl] at e
            refine t_v (.call (vs := [errV 94 A_ e0, .iface 94 (.pointer (some (A_ 7)))]) rfl rfl (by kernel_rfl) (glyphicsee_Alike_v1.ok (a0 := e0) (b1 := 7) hE_ h455)) ?_
            refine t_keep [0, 3, 4, 17] (σ' := [(0, errV 94 A_ e0), (3, .slice (some ⟨N441, 0, none⟩) 13 13), (4, .int .i64 4), (17, .bool true)]) (by kernel_rfl) ?_
            refine t_end ?_
            show W _ _ _ _ _ _ _
            refine w_cond rfl (fun _ => ?_) (fun c_ => by cases c_)
            show W _ _ _ _ _ _ _
            refine w_seq ?_
            refine w_reg fun all => ?_
            refine t_qz 3 [2] (σ' := [(2, .int .i64 105)]) (by kernel_rfl) ?_
            refine t_end ?_
            show W _ _ _ _ _ _ _
            refine w_ret ?_
            obtain rfl := Option.some.inj e
            exact ⟨[.int .i64 105], [], S, ⟨rfl, trivial⟩, VS.none, rfl, rfl, rfl⟩
          | false =>
            rw [if_neg (by decide)] at e
            refine t_v (.call (vs := [errV 94 A_ e0, .iface 94 (.pointer (some (A_ 7)))]) rfl rfl (by kernel_rfl) (glyphicsee_Alike_v1.ok (a0 := e0) (b1 := 7) hE_ h455)) ?_
            refine t_keep [0, 3, 4, 17] (σ' := [(0, errV 94 A_ e0), (3, .slice (some ⟨N441, 0, none⟩) 13 13), (4, .int .i64 4), (17, .bool false)]) (by kernel_rfl) ?_
            refine t_end ?_
            show W _ _ _ _ _ _ _
            refine w_cond rfl (fun c_ => by cases c_) (fun _ => ?_)
            show W _ _ _ _ _ _ _
            refine w_skip ?_
            show W _ _ _ _ _ _ _
            refine w_reg fun all => ?_
            refine t_qz 3 [0, 3, 4] (σ' := [(0, errV 94 A_ e0), (3, .slice (some ⟨N441, 0, none⟩) 13 13), (4, .int .i64 5)]) (by kernel_rfl) ?_
            refine t_end ?_
            show WL _ _ _ _ _ _ _ _
            refine wl_step ?_
            refine w_seq ?_
            refine w_seq ?_
            refine w_reg fun all => ?_
            refine t_qz 4 [0, 3, 4, 9] (σ' := [(0, errV 94 A_ e0), (3, .slice (some ⟨N441, 0, none⟩) 13 13), (4, .int .i64 5), (9, .bool true)]) (by kernel_rfl) ?_
            refine t_end ?_
            show W _ _ _ _ _ _ _
            refine w_cond rfl (fun _ => ?_) (fun c_ => by cases c_)
            show W _ _ _ _ _ _ _
            refine w_skip ?_
            show W _ _ _ _ _ _ _
            refine w_seq ?_
            refine w_block ?_
            refine w_seq ?_
            refine w_reg fun all => ?_
            refine t_qz 4 [0, 3, 4, 12, 15] (σ' := [(0, errV 94 A_ e0), (3, .slice (some ⟨N441, 0, none⟩) 13 13), (4, .int .i64 5), (12, errV 94 A_ e0), (15, .pointer (some ⟨N441, 5, none⟩))]) (by kernel_rfl) ?_
            refine t_v (.ld1 rfl rfl rfl (.at 0 rfl rfl)) ?_
            obtain ⟨t456, h457, e⟩ := bind_of e
            cases t456 with
            | true =>
              rw [if_pos rfl] at e
              refine t_v (.call (vs := [errV 94 A_ e0, .iface 94 (.pointer (some (A_ 8)))]) rfl rfl (by kernel_rfl) (glyphicsee_Alike_v1.ok (a0 := e0) (b1 := 8) hE_ h457)) ?_
              refine t_keep [0, 3, 4, 17] (σ' := [(0, errV 94 A_ e0), (3, .slice (some ⟨N441, 0, none⟩) 13 13), (4, .int .i64 5), (17, .bool true)]) (by kernel_rfl) ?_
              refine t_end ?_
              show W _ _ _ _ _ _ _
              refine w_cond rfl (fun _ => ?_) (fun c_ => by cases c_)
              show W _ _ _ _ _ _ _
              refine w_seq ?_
              refine w_reg fun all => ?_
              refine t_qz 3 [2] (σ' := [(2, .int .i64 106)]) (by kernel_rfl) ?_
              refine t_end ?_
              show W _ _ _ _ _ _ _
              refine w_ret ?_
              obtain rfl := Option.some.inj e
              exact ⟨[.int .i64 106], [], S, ⟨rfl, trivial⟩, VS.none, rfl, rfl, rfl⟩
            | false =>
              rw [if_neg (by decide)] at e
              refine t_v (.call (vs := [errV 94 A_ e0, .iface 94 (.pointer (some (A_ 8)))]) rfl rfl (by kernel_rfl) (glyphicsee_Alike_v1.ok (a0 := e0) (b1 := 8) hE_ h457)) ?_
              refine t_keep [0, 3, 4, 17] (σ' := [(0, errV 94 A_ e0), (3, .slice (some ⟨N441, 0, none⟩) 13 13), (4, .int .i64 5), (17, .bool false)]) (by kernel_rfl) ?_
              refine t_end ?_
              show W _ _ _ _ _ _ _
              refine w_cond rfl (fun c_ => by cases c_) (fun _ => ?_)
              show W _ _ _ _ _ _ _
              refine w_skip ?_
              show W _ _ _ _ _ _ _
              refine w_reg fun all => ?_
              refine t_qz 3 [0, 3, 4] (σ' := [(0, errV 94 A_ e0), (3, .slice (some ⟨N441, 0, none⟩) 13 13), (4, .int .i64 6)]) (by kernel_rfl) ?_
              refine t_end ?_
              show WL _ _ _ _ _ _ _ _
              refine wl_step ?_
              refine w_seq ?_
              refine w_seq ?_
              refine w_reg fun all => ?_
              refine t_qz 4 [0, 3, 4, 9] (σ' := [(0, errV 94 A_ e0), (3, .slice (some ⟨N441, 0, none⟩) 13 13), (4, .int .i64 6), (9, .bool true)]) (by kernel_rfl) ?_
              refine t_end ?_
              show W _ _ _ _ _ _ _
              refine w_cond rfl (fun _ => ?_) (fun c_ => by cases c_)
              show W _ _ _ _ _ _ _
              refine w_skip ?_
              show W _ _ _ _ _ _ _
              refine w_seq ?_
              refine w_block ?_
              refine w_seq ?_
              refine w_reg fun all => ?_
              refine t_qz 4 [0, 3, 4, 12, 15] (σ' := [(0, errV 94 A_ e0), (3, .slice (some ⟨N441, 0, none⟩) 13 13), (4, .int .i64 6), (12, errV 94 A_ e0), (15, .pointer (some ⟨N441, 6, none⟩))]) (by kernel_rfl) ?_
              refine t_v (.ld1 rfl rfl rfl (.at 0 rfl rfl)) ?_
              obtain ⟨t458, h459, e⟩ := bind_of e
              cases t458 with
              | true =>
                rw [if_pos rfl] at e
                refine t_v (.call (vs := [errV 94 A_ e0, .iface 94 (.pointer (some (A_ 9)))]) rfl rfl (by kernel_rfl) (glyphicsee_Alike_v1.ok (a0 := e0) (b1 := 9) hE_ h459)) ?_
                refine t_keep [0, 3, 4, 17] (σ' := [(0, errV 94 A_ e0), (3, .slice (some ⟨N441, 0, none⟩) 13 13), (4, .int .i64 6), (17, .bool true)]) (by kernel_rfl) ?_
                refine t_end ?_
                show W _ _ _ _ _ _ _
                refine w_cond rfl (fun _ => ?_) (fun c_ => by cases c_)
                show W _ _ _ _ _ _ _
                refine w_seq ?_
                refine w_reg fun all => ?_
                refine t_qz 3 [2] (σ' := [(2, .int .i64 107)]) (by kernel_rfl) ?_
                refine t_end ?_
                show W _ _ _ _ _ _ _
                refine w_ret ?_
                obtain rfl := Option.some.inj e
                exact ⟨[.int .i64 107], [], S, ⟨rfl, trivial⟩, VS.none, rfl, rfl, rfl⟩
              | false =>
                rw [if_neg (by decide)] at e
                refine t_v (.call (vs := [errV 94 A_ e0, .iface 94 (.pointer (some (A_ 9)))]) rfl rfl (by kernel_rfl) (glyphicsee_Alike_v1.ok (a0 := e0) (b1 := 9) hE_ h459)) ?_
                refine t_keep [0, 3, 4, 17] (σ' := [(0, errV 94 A_ e0), (3, .slice (some ⟨N441, 0, none⟩) 13 13), (4, .int .i64 6), (17, .bool false)]) (by kernel_rfl) ?_
                refine t_end ?_
                show W _ _ _ _ _ _ _
                refine w_cond rfl (fun c_ => by cases c_) (fun _ => ?_)
                show W _ _ _ _ _ _ _
                refine w_skip ?_
                show W _ _ _ _ _ _ _
                refine w_reg fun all => ?_
                refine t_qz 3 [0, 3, 4] (σ' := [(0, errV 94 A_ e0), (3, .slice (some ⟨N441, 0, none⟩) 13 13), (4, .int .i64 7)]) (by kernel_rfl) ?_
                refine t_end ?_
                show WL _ _ _ _ _ _ _ _
                refine wl_step ?_
                refine w_seq ?_
                refine w_seq ?_
                refine w_reg fun all => ?_
                refine t_qz 4 [0, 3, 4, 9] (σ' := [(0, errV 94 A_ e0), (3, .slice (some ⟨N441, 0, none⟩) 13 13), (4, .int .i64 7), (9, .bool true)]) (by kernel_rfl) ?_
                refine t_end ?_
                show W _ _ _ _ _ _ _
                refine w_cond rfl (fun _ => ?_) (fun c_ => by cases c_)
                show W _ _ _ _ _ _ _
                refine w_skip ?_
                show W _ _ _ _ _ _ _
                refine w_seq ?_
                refine w_block ?_
                refine w_seq ?_
                refine w_reg fun all => ?_
                refine t_qz 4 [0, 3, 4, 12, 15] (σ' := [(0, errV 94 A_ e0), (3, .slice (some ⟨N441, 0, none⟩) 13 13), (4, .int .i64 7), (12, errV 94 A_ e0), (15, .pointer (some ⟨N441, 7, none⟩))]) (by kernel_rfl) ?_
                refine t_v (.ld1 rfl rfl rfl (.at 0 rfl rfl)) ?_
                obtain ⟨t460, h461, e⟩ := bind_of e
                cases t460 with
                | true =>
                  rw [if_pos rfl] at e
                  refine t_v (.call (vs := [errV 94 A_ e0, .iface 94 (.pointer (some (A_ 10)))]) rfl rfl (by kernel_rfl) (glyphicsee_Alike_v1.ok (a0 := e0) (b1 := 10) hE_ h461)) ?_
                  refine t_keep [0, 3, 4, 17] (σ' := [(0, errV 94 A_ e0), (3, .slice (some ⟨N441, 0, none⟩) 13 13), (4, .int .i64 7), (17, .bool true)]) (by kernel_rfl) ?_
                  refine t_end ?_
                  show W _ _ _ _ _ _ _
                  refine w_cond rfl (fun _ => ?_) (fun c_ => by cases c_)
                  show W _ _ _ _ _ _ _
                  refine w_seq ?_
                  refine w_reg fun all => ?_
                  refine t_qz 3 [2] (σ' := [(2, .int .i64 108)]) (by kernel_rfl) ?_
                  refine t_end ?_
                  show W _ _ _ _ _ _ _
                  refine w_ret ?_
                  obtain rfl := Option.some.inj e
                  exact ⟨[.int .i64 108], [], S, ⟨rfl, trivial⟩, VS.none, rfl, rfl, rfl⟩
                | false =>
                  rw [if_neg (by decide)] at e
                  refine t_v (.call (vs := [errV 94 A_ e0, .iface 94 (.pointer (some (A_ 10)))]) rfl rfl (by kernel_rfl) (glyphicsee_Alike_v1.ok (a0 := e0) (b1 := 10) hE_ h461)) ?_
                  refine t_keep [0, 3, 4, 17] (σ' := [(0, errV 94 A_ e0), (3, .slice (some ⟨N441, 0, none⟩) 13 13), (4, .int .i64 7), (17, .bool false)]) (by kernel_rfl) ?_
                  refine t_end ?_
                  show W _ _ _ _ _ _ _
                  refine w_cond rfl (fun c_ => by cases c_) (fun _ => ?_)
                  show W _ _ _ _ _ _ _
                  refine w_skip ?_
                  show W _ _ _ _ _ _ _
                  refine w_reg fun all => ?_
                  refine t_qz 3 [0, 3, 4] (σ' := [(0, errV 94 A_ e0), (3, .slice (some ⟨N441, 0, none⟩) 13 13), (4, .int .i64 8)]) (by kernel_rfl) ?_
                  refine t_end ?_
                  show WL _ _ _ _ _ _ _ _
                  refine wl_step ?_
                  refine w_seq ?_
                  refine w_seq ?_
                  refine w_reg fun all => ?_
                  refine t_qz 4 [0, 3, 4, 9] (σ' := [(0, errV 94 A_ e0), (3, .slice (some ⟨N441, 0, none⟩) 13 13), (4, .int .i64 8), (9, .bool true)]) (by kernel_rfl) ?_
                  refine t_end ?_
                  show W _ _ _ _ _ _ _
                  refine w_cond rfl (fun _ => ?_) (fun c_ => by cases c_)
                  show W _ _ _ _ _ _ _
                  refine w_skip ?_
                  show W _ _ _ _ _ _ _
                  refine w_seq ?_
                  refine w_block ?_
                  refine w_seq ?_
                  refine w_reg fun all => ?_
                  refine t_qz 4 [0, 3, 4, 12, 15] (σ' := [(0, errV 94 A_ e0), (3, .slice (some ⟨N441, 0, none⟩) 13 13), (4, .int .i64 8), (12, errV 94 A_ e0), (15, .pointer (some ⟨N441, 8, none⟩))]) (by kernel_rfl) ?_
                  refine t_v (.ld1 rfl rfl rfl (.at 0 rfl rfl)) ?_
                  obtain ⟨t462, h463, e⟩ := bind_of e
                  cases t462 with
                  | true =>
                    rw [if_pos rfl] at e
                    refine t_v (.call (vs := [errV 94 A_ e0, .iface 94 (.pointer (some (A_ 11)))]) rfl rfl (by kernel_rfl) (glyphicsee_Alike_v1.ok (a0 := e0) (b1 := 11) hE_ h463)) ?_
                    refine t_keep [0, 3, 4, 17] (σ' := [(0, errV 94 A_ e0), (3, .slice (some ⟨N441, 0, none⟩) 13 13), (4, .int .i64 8), (17, .bool true)]) (by kernel_rfl) ?_
                    refine t_end ?_
                    show W _ _ _ _ _ _ _
                    refine w_cond rfl (fun _ => ?_) (fun c_ => by cases c_)
                    show W _ _ _ _ _ _ _
                    refine w_seq ?_
                    refine w_reg fun all => ?_
                    refine t_qz 3 [2] (σ' := [(2, .int .i64 109)]) (by kernel_rfl) ?_
                    refine t_end ?_
                    show W _ _ _ _ _ _ _
                    refine w_ret ?_
                    obtain rfl := Option.some.inj e
                    exact ⟨[.int .i64 109], [], S, ⟨rfl, trivial⟩, VS.none, rfl, rfl, rfl⟩
                  | false =>
                    rw [if_neg (by decide)] at e
                    refine t_v (.call (vs := [errV 94 A_ e0, .iface 94 (.pointer (some (A_ 11)))]) rfl rfl (by kernel_rfl) (glyphicsee_Alike_v1.ok (a0 := e0) (b1 := 11) hE_ h463)) ?_
                    refine t_keep [0, 3, 4, 17] (σ' := [(0, errV 94 A_ e0), (3, .slice (some ⟨N441, 0, none⟩) 13 13), (4, .int .i64 8), (17, .bool false)]) (by kernel_rfl) ?_
                    refine t_end ?_
                    show W _ _ _ _ _ _ _
                    refine w_cond rfl (fun c_ => by cases c_) (fun _ => ?_)
                    show W _ _ _ _ _ _ _
                    refine w_skip ?_
                    show W _ _ _ _ _ _ _
                    refine w_reg fun all => ?_
                    refine t_qz 3 [0, 3, 4] (σ' := [(0, errV 94 A_ e0), (3, .slice (some ⟨N441, 0, none⟩) 13 13), (4, .int .i64 9)]) (by kernel_rfl) ?_
                    refine t_end ?_
                    show WL _ _ _ _ _ _ _ _
                    refine wl_step ?_
                    refine w_seq ?_
                    refine w_seq ?_
                    refine w_reg fun all => ?_
                    refine t_qz 4 [0, 3, 4, 9] (σ' := [(0, errV 94 A_ e0), (3, .slice (some ⟨N441, 0, none⟩) 13 13), (4, .int .i64 9), (9, .bool true)]) (by kernel_rfl) ?_
                    refine t_end ?_
                    show W _ _ _ _ _ _ _
                    refine w_cond rfl (fun _ => ?_) (fun c_ => by cases c_)
                    show W _ _ _ _ _ _ _
                    refine w_skip ?_
                    show W _ _ _ _ _ _ _
                    refine w_seq ?_
                    refine w_block ?_
                    refine w_seq ?_
                    refine w_reg fun all => ?_
                    refine t_qz 4 [0, 3, 4, 12, 15] (σ' := [(0, errV 94 A_ e0), (3, .slice (some ⟨N441, 0, none⟩) 13 13), (4, .int .i64 9), (12, errV 94 A_ e0), (15, .pointer (some ⟨N441, 9, none⟩))]) (by kernel_rfl) ?_
                    refine t_v (.ld1 rfl rfl rfl (.at 0 rfl rfl)) ?_
                    obtain ⟨t464, h465, e⟩ := bind_of e
                    cases t464 with
                    | true =>
                      rw [if_pos rfl] at e
                      refine t_v (.call (vs := [errV 94 A_ e0, .iface 94 (.pointer (some (A_ 12)))]) rfl rfl (by kernel_rfl) (glyphicsee_Alike_v1.ok (a0 := e0) (b1 := 12) hE_ h465)) ?_
                      refine t_keep [0, 3, 4, 17] (σ' := [(0, errV 94 A_ e0), (3, .slice (some ⟨N441, 0, none⟩) 13 13), (4, .int .i64 9), (17, .bool true)]) (by kernel_rfl) ?_
                      refine t_end ?_
                      show W _ _ _ _ _ _ _
                      refine w_cond rfl (fun _ => ?_) (fun c_ => by cases c_)
                      show W _ _ _ _ _ _ _
                      refine w_seq ?_
                      refine w_reg fun all => ?_
                      refine t_qz 3 [2] (σ' := [(2, .int .i64 110)]) (by kernel_rfl) ?_
                      refine t_end ?_
                      show W _ _ _ _ _ _ _
                      refine w_ret ?_
                      obtain rfl := Option.some.inj e
                      exact ⟨[.int .i64 110], [], S, ⟨rfl, trivial⟩, VS.none, rfl, rfl, rfl⟩
                    | false =>
                      rw [if_neg (by decide)] at e
                      refine t_v (.call (vs := [errV 94 A_ e0, .iface 94 (.pointer (some (A_ 12)))]) rfl rfl (by kernel_rfl) (glyphicsee_Alike_v1.ok (a0 := e0) (b1 := 12) hE_ h465)) ?_
                      refine t_keep [0, 3, 4, 17] (σ' := [(0, errV 94 A_ e0), (3, .slice (some ⟨N441, 0, none⟩) 13 13), (4, .int .i64 9), (17, .bool false)]) (by kernel_rfl) ?_
                      refine t_end ?_
                      show W _ _ _ _ _ _ _
                      refine w_cond rfl (fun c_ => by cases c_) (fun _ => ?_)
                      show W _ _ _ _ _ _ _
                      refine w_skip ?_
                      show W _ _ _ _ _ _ _
                      refine w_reg fun all => ?_
                      refine t_qz 3 [0, 3, 4] (σ' := [(0, errV 94 A_ e0), (3, .slice (some ⟨N441, 0, none⟩) 13 13), (4, .int .i64 10)]) (by kernel_rfl) ?_
                      refine t_end ?_
                      show WL _ _ _ _ _ _ _ _
                      refine wl_step ?_
                      refine w_seq ?_
                      refine w_seq ?_
                      refine w_reg fun all => ?_
                      refine t_qz 4 [0, 3, 4, 9] (σ' := [(0, errV 94 A_ e0), (3, .slice (some ⟨N441, 0, none⟩) 13 13), (4, .int .i64 10), (9, .bool true)]) (by kernel_rfl) ?_
                      refine t_end ?_
                      show W _ _ _ _ _ _ _
                      refine w_cond rfl (fun _ => ?_) (fun c_ => by cases c_)
                      show W _ _ _ _ _ _ _
                      refine w_skip ?_
                      show W _ _ _ _ _ _ _
                      refine w_seq ?_
                      refine w_block ?_
                      refine w_seq ?_
                      refine w_reg fun all => ?_
                      refine t_qz 4 [0, 3, 4, 12, 15] (σ' := [(0, errV 94 A_ e0), (3, .slice (some ⟨N441, 0, none⟩) 13 13), (4, .int .i64 10), (12, errV 94 A_ e0), (15, .pointer (some ⟨N441, 10, none⟩))]) (by kernel_rfl) ?_
                      refine t_v (.ld1 rfl rfl rfl (.at 0 rfl rfl)) ?_
                      obtain ⟨t466, h467, e⟩ := bind_of e
                      cases t466 with
                      | true =>
                        rw [if_pos rfl] at e
                        refine t_v (.call (vs := [errV 94 A_ e0, .iface 94 (.pointer (some (A_ 13)))]) rfl rfl (by kernel_rfl) (glyphicsee_Alike_v1.ok (a0 := e0) (b1 := 13) hE_ h467)) ?_
                        refine t_keep [0, 3, 4, 17] (σ' := [(0, errV 94 A_ e0), (3, .slice (some ⟨N441, 0, none⟩) 13 13), (4, .int .i64 10), (17, .bool true)]) (by kernel_rfl) ?_
                        refine t_end ?_
                        show W _ _ _ _ _ _ _
                        refine w_cond rfl (fun _ => ?_) (fun c_ => by cases c_)
                        show W _ _ _ _ _ _ _
                        refine w_seq ?_
                        refine w_reg fun all => ?_
                        refine t_qz 3 [2] (σ' := [(2, .int .i64 111)]) (by kernel_rfl) ?_
                        refine t_end ?_
                        show W _ _ _ _ _ _ _
                        refine w_ret ?_
                        obtain rfl := Option.some.inj e
                        exact ⟨[.int .i64 111], [], S, ⟨rfl, trivial⟩, VS.none, rfl, rfl, rfl⟩
                      | false =>
                        rw [if_neg (by decide)] at e
                        refine t_v (.call (vs := [errV 94 A_ e0, .iface 94 (.pointer (some (A_ 13)))]) rfl rfl (by kernel_rfl) (glyphicsee_Alike_v1.ok (a0 := e0) (b1 := 13) hE_ h467)) ?_
                        refine t_keep [0, 3, 4, 17] (σ' := [(0, errV 94 A_ e0), (3, .slice (some ⟨N441, 0, none⟩) 13 13), (4, .int .i64 10), (17, .bool false)]) (by kernel_rfl) ?_
                        refine t_end ?_
                        show W _ _ _ _ _ _ _
                        refine w_cond rfl (fun c_ => by cases c_) (fun _ => ?_)
                        show W _ _ _ _ _ _ _
                        refine w_skip ?_
                        show W _ _ _ _ _ _ _
                        refine w_reg fun all => ?_
                        refine t_qz 3 [0, 3, 4] (σ' := [(0, errV 94 A_ e0), (3, .slice (some ⟨N441, 0, none⟩) 13 13), (4, .int .i64 11)]) (by kernel_rfl) ?_
                        refine t_end ?_
                        show WL _ _ _ _ _ _ _ _
                        refine wl_step ?_
                        refine w_seq ?_
                        refine w_seq ?_
                        refine w_reg fun all => ?_
                        refine t_qz 4 [0, 3, 4, 9] (σ' := [(0, errV 94 A_ e0), (3, .slice (some ⟨N441, 0, none⟩) 13 13), (4, .int .i64 11), (9, .bool true)]) (by kernel_rfl) ?_
                        refine t_end ?_
                        show W _ _ _ _ _ _ _
                        refine w_cond rfl (fun _ => ?_) (fun c_ => by cases c_)
                        show W _ _ _ _ _ _ _
                        refine w_skip ?_
                        show W _ _ _ _ _ _ _
                        refine w_seq ?_
                        refine w_block ?_
                        refine w_seq ?_
                        refine w_reg fun all => ?_
                        refine t_qz 4 [0, 3, 4, 12, 15] (σ' := [(0, errV 94 A_ e0), (3, .slice (some ⟨N441, 0, none⟩) 13 13), (4, .int .i64 11), (12, errV 94 A_ e0), (15, .pointer (some ⟨N441, 11, none⟩))]) (by kernel_rfl) ?_
                        refine t_v (.ld1 rfl rfl rfl (.at 0 rfl rfl)) ?_
                        obtain ⟨t468, h469, e⟩ := bind_of e
                        cases t468 with
                        | true =>
                          rw [if_pos rfl] at e
                          refine t_v (.call (vs := [errV 94 A_ e0, .iface 94 (.pointer (some (A_ 1)))]) rfl rfl (by kernel_rfl) (glyphicsee_Alike_v1.ok (a0 := e0) (b1 := 1) hE_ h469)) ?_
                          refine t_keep [0, 3, 4, 17] (σ' := [(0, errV 94 A_ e0), (3, .slice (some ⟨N441, 0, none⟩) 13 13), (4, .int .i64 11), (17, .bool true)]) (by kernel_rfl) ?_
                          refine t_end ?_
                          show W _ _ _ _ _ _ _
                          refine w_cond rfl (fun _ => ?_) (fun c_ => by cases c_)
                          show W _ _ _ _ _ _ _
                          refine w_seq ?_
                          refine w_reg fun all => ?_
                          refine t_qz 3 [2] (σ' := [(2, .int .i64 112)]) (by kernel_rfl) ?_
                          refine t_end ?_
                          show W _ _ _ _ _ _ _
                          refine w_ret ?_
                          obtain rfl := Option.some.inj e
                          exact ⟨[.int .i64 112], [], S, ⟨rfl, trivial⟩, VS.none, rfl, rfl, rfl⟩
                        | false =>
                          rw [if_neg (by decide)] at e
                          refine t_v (.call (vs := [errV 94 A_ e0, .iface 94 (.pointer (some (A_ 1)))]) rfl rfl (by kernel_rfl) (glyphicsee_Alike_v1.ok (a0 := e0) (b1 := 1) hE_ h469)) ?_
                          refine t_keep [0, 3, 4, 17] (σ' := [(0, errV 94 A_ e0), (3, .slice (some ⟨N441, 0, none⟩) 13 13), (4, .int .i64 11), (17, .bool false)]) (by kernel_rfl) ?_
                          refine t_end ?_
                          show W _ _ _ _ _ _ _
                          refine w_cond rfl (fun c_ => by cases c_) (fun _ => ?_)
                          show W _ _ _ _ _ _ _
                          refine w_skip ?_
                          show W _ _ _ _ _ _ _
                          refine w_reg fun all => ?_
                          refine t_qz 3 [0, 3, 4] (σ' := [(0, errV 94 A_ e0), (3, .slice (some ⟨N441, 0, none⟩) 13 13), (4, .int .i64 12)]) (by kernel_rfl) ?_
                          refine t_end ?_
                          show WL _ _ _ _ _ _ _ _
                          refine wl_step ?_
                          refine w_seq ?_
                          refine w_seq ?_
                          refine w_reg fun all => ?_
                          refine t_qz 4 [0, 3, 4, 9] (σ' := [(0, errV 94 A_ e0), (3, .slice (some ⟨N441, 0, none⟩) 13 13), (4, .int .i64 12), (9, .bool true)]) (by kernel_rfl) ?_
                          refine t_end ?_
                          show W _ _ _ _ _ _ _
                          refine w_cond rfl (fun _ => ?_) (fun c_ => by cases c_)
                          show W _ _ _ _ _ _ _
                          refine w_skip ?_
                          show W _ _ _ _ _ _ _
                          refine w_seq ?_
                          refine w_block ?_
                          refine w_seq ?_
                          refine w_reg fun all => ?_
                          refine t_qz 4 [0, 3, 4, 12, 15] (σ' := [(0, errV 94 A_ e0), (3, .slice (some ⟨N441, 0, none⟩) 13 13), (4, .int .i64 12), (12, errV 94 A_ e0), (15, .pointer (some ⟨N441, 12, none⟩))]) (by kernel_rfl) ?_
                          refine t_v (.ld1 rfl rfl rfl (.at 0 rfl rfl)) ?_
                          obtain ⟨t470, h471, e⟩ := bind_of e
                          cases t470 with
                          | true =>
                            rw [if_pos rfl] at e
                            refine t_v (.call (vs := [errV 94 A_ e0, .iface 94 (.pointer (some (A_ 2)))]) rfl rfl (by kernel_rfl) (glyphicsee_Alike_v1.ok (a0 := e0) (b1 := 2) hE_ h471)) ?_
                            refine t_keep [0, 3, 4, 17] (σ' := [(0, errV 94 A_ e0), (3, .slice (some ⟨N441, 0, none⟩) 13 13), (4, .int .i64 12), (17, .bool true)]) (by kernel_rfl) ?_
                            refine t_end ?_
                            show W _ _ _ _ _ _ _
                            refine w_cond rfl (fun _ => ?_) (fun c_ => by cases c_)
                            show W _ _ _ _ _ _ _
                            refine w_seq ?_
                            refine w_reg fun all => ?_
                            refine t_qz 3 [2] (σ' := [(2, .int .i64 113)]) (by kernel_rfl) ?_
                            refine t_end ?_
                            show W _ _ _ _ _ _ _
                            refine w_ret ?_
                            obtain rfl := Option.some.inj e
                            exact ⟨[.int .i64 113], [], S, ⟨rfl, trivial⟩, VS.none, rfl, rfl, rfl⟩
                          | false =>
                            rw [if_neg (by decide)] at e
                            refine t_v (.call (vs := [errV 94 A_ e0, .iface 94 (.pointer (some (A_ 2)))]) rfl rfl (by kernel_rfl) (glyphicsee_Alike_v1.ok (a0 := e0) (b1 := 2) hE_ h471)) ?_
                            refine t_keep [0, 3, 4, 17] (σ' := [(0, errV 94 A_ e0), (3, .slice (some ⟨N441, 0, none⟩) 13 13), (4, .int .i64 12), (17, .bool false)]) (by kernel_rfl) ?_
                            refine t_end ?_
                            show W _ _ _ _ _ _ _
                            refine w_cond rfl (fun c_ => by cases c_) (fun _ => ?_)
                            show W _ _ _ _ _ _ _
                            refine w_skip ?_
                            show W _ _ _ _ _ _ _
                            refine w_reg fun all => ?_
                            refine t_qz 3 [0, 3, 4] (σ' := [(0, errV 94 A_ e0), (3, .slice (some ⟨N441, 0, none⟩) 13 13), (4, .int .i64 13)]) (by kernel_rfl) ?_
                            refine t_end ?_
                            show WL _ _ _ _ _ _ _ _
                            refine wl_step ?_
                            refine w_seq ?_
                            refine w_seq ?_
                            refine w_reg fun all => ?_
                            refine t_qz 4 [0, 3, 4, 9] (σ' := [(0, errV 94 A_ e0), (3, .slice (some ⟨N441, 0, none⟩) 13 13), (4, .int .i64 13), (9, .bool false)]) (by kernel_rfl) ?_
                            refine t_end ?_
                            show W _ _ _ _ _ _ _
                            refine w_cond rfl (fun c_ => by cases c_) (fun _ => ?_)
                            show W _ _ _ _ _ _ _
                            refine w_exit ?_
                            show W _ _ _ _ _ _ _
                            refine w_seq ?_
                            refine w_reg fun all => ?_
                            refine t_qz 1 [2] (σ' := [(2, .int .i64 (-1))]) (by kernel_rfl) ?_
                            refine t_end ?_
                            show W _ _ _ _ _ _ _
                            refine w_ret ?_
                            obtain rfl := Option.some.inj e
                            exact ⟨[.int .i64 (-1)], [], S, ⟨rfl, trivial⟩, VS.none, rfl, rfl, rfl⟩

/-- glyphicsee.Fault -/
def c39 : C :=
  (.seq (.reg [⟨(some 2), .new [(.int .i64 0), (.bool false), (.int .i64 0)], none⟩])
  (.seq (.seq (.reg [⟨(some 5), .mv (.tmp 0), none⟩,
      ⟨(some 6), .eqt false 38 (.tmp 5) (.const .nilIface), none⟩])
   (.cond (.tmp 6)
    (.seq (.reg [⟨(some 7), .call 43 [], none⟩,
        ⟨none, .st 3 (.tmp 2) (.tmp 7), none⟩])
     .ret)
    .skip))
  (.seq (.reg [⟨(some 9), .mv (.tmp 0), none⟩,
     ⟨(some 10), .tas 83 true (.pointer none) (.tmp 9), none⟩,
     ⟨(some 8), .mv (.tmp 10), none⟩,
     ⟨(some 11), .xt 0 (.tmp 8), none⟩,
     ⟨(some 12), .xt 1 (.tmp 8), none⟩,
     ⟨(some 3), .mv (.tmp 11), none⟩,
     ⟨(some 4), .mv (.tmp 12), none⟩])
  (.seq (.seq (.reg [⟨(some 13), .mv (.tmp 4), none⟩,
      ⟨(some 14), .un .not (.tmp 13), none⟩])
   (.cond (.tmp 14)
    (.seq (.reg [⟨(some 15), .mv (.tmp 0), none⟩,
        ⟨(some 16), .call 44 [(.tmp 15)], none⟩,
        ⟨(some 17), .call 30 [(.tmp 16)], none⟩,
        ⟨none, .st 3 (.tmp 2) (.tmp 17), none⟩])
     .ret)
    .skip))
  (.seq (.seq (.reg [⟨(some 18), .mv (.tmp 3), none⟩,
      ⟨(some 19), .fail, none⟩,
      ⟨(some 20), .mv (.tmp 19), none⟩,
      ⟨(some 21), .mv (.tmp 3), (some (20, false))⟩,
      ⟨(some 22), .nck (.tmp 21), (some (20, false))⟩,
      ⟨(some 23), .pad 1 (.tmp 22), (some (20, false))⟩,
      ⟨(some 24), .ld none (.tmp 23), (some (20, false))⟩,
      ⟨(some 25), .eqt false 38 (.tmp 24) (.const .nilIface), (some (20, false))⟩,
      ⟨(some 26), .pk (.tmp 20) (.const (.bool true)) (.tmp 25), none⟩])
   (.cond (.tmp 26)
    (.seq (.reg [⟨(some 27), .call 30 [(.const (.int .i64 (-1)))], none⟩,
        ⟨none, .st 3 (.tmp 2) (.tmp 27), none⟩])
     .ret)
    .skip))
  (.seq (.drw [⟨(some 28), .mv (.tmp 3), none⟩,
     ⟨(some 29), .nck (.tmp 28), none⟩,
     ⟨(some 30), .pad 1 (.tmp 29), none⟩,
     ⟨(some 31), .ld none (.tmp 30), none⟩,
     ⟨(some 32), .call 44 [(.tmp 31)], none⟩,
     ⟨(some 33), .mv (.tmp 3), none⟩,
     ⟨(some 34), .nck (.tmp 33), none⟩,
     ⟨(some 35), .pad 0 (.tmp 34), none⟩,
     ⟨(some 36), .ld none (.tmp 35), none⟩,
     ⟨(some 37), .call 45 [(.tmp 32), (.tmp 36)], none⟩,
     ⟨none, .st 3 (.tmp 2) (.tmp 37), none⟩] [[], [0], [1], [2], [3], [], [5], [6], [7], [4, 8, 4], [9, 9, 0, 1, 2, 3, 4, 5, 6, 7, 8, 9]])
  .ret))))))
def glyphicsee_Fault_v1.f (e0 : Int) : Option (Int × Bool × Int) := if e0 = 0 then ((glyphicref_None.f).bind fun (t435, t436, t437) => (some (t435, t436, t437))) else ((glyphicsee_sentinel_v1.f e0).bind fun t439 => ((glyphicref_Bare.f t439).bind fun (t441, t442, t443) => (some (t441, t442, t443))))
theorem glyphicsee_Fault_v1.ok {S : Seal} {e0 : Int} {r0_ : Int} {r1_ : Bool} {r2_ : Int}{A_ : Int → Addr} (hE_ : EO gsE S A_ 94) (e : glyphicsee_Fault_v1.f e0 = some (r0_, r1_, r2_)) :
    Cal Tryd.prog 39 [errV 94 A_ e0] [] S fun v H' S' => v = .agg #[.int .i64 r0_, .bool r1_, .int .i64 r2_] ∧ H' = [] ∧ S' = S := by
  unfold glyphicsee_Fault_v1.f at e
  refine cal_of (c := c39) (N := 38) Tryd.func39 rfl rfl (by kernel_rfl) (rs := [.cn 3 2]) (by kernel_rfl) (Nat.le_of_ble_eq_true rfl) ?_
  unfold c39
  refine w_seq ?_
  refine w_reg fun all => ?_
  refine t_a (.new rfl rfl) fun b433 fb433 sb433 => ?_
  refine t_keep [0, 2] (σ' := [(0, errV 94 A_ e0), (2, .pointer (some ⟨b433, 0, none⟩))]) (by kernel_rfl) ?_
  refine t_end ?_
  show W _ _ _ _ _ _ _
  refine w_seq ?_
  refine w_seq ?_
  refine w_reg fun all => ?_
  by_cases c434 : e0 = 0
  · rw [if_pos c434] at e
    have c434b : (e0 == 0) = true := beq_iff_eq.mpr c434
    refine t_qz 1 [0, 2, 5] (σ' := [(0, errV 94 A_ e0), (2, .pointer (some ⟨b433, 0, none⟩)), (5, errV 94 A_ e0)]) (by kernel_rfl) ?_
    refine t_v (.eqt (a := errV 94 A_ e0) (b := .nilIface) (r := e0 == 0) rfl rfl rfl rfl (eqErr (by kernel_rfl) rfl) (bnk c434b rfl)) ?_
    refine t_keep [0, 2, 6] (σ' := [(0, errV 94 A_ e0), (2, .pointer (some ⟨b433, 0, none⟩)), (6, .bool true)]) (by kernel_rfl) ?_
    refine t_end ?_
    show W _ _ _ _ _ _ _
    refine w_cond rfl (fun _ => ?_) (fun c_ => by cases c_)
    show W _ _ _ _ _ _ _
    refine w_seq ?_
    refine w_reg fun all => ?_
    obtain ⟨⟨t435, t436, t437⟩, h438, e⟩ := bind_of e
    try dsimp only at e
    refine t_v (.call (vs := []) rfl rfl (by kernel_rfl) (glyphicref_None.ok hE_ h438)) ?_
    refine t_sti 0 (cs := [.int .i64 t435, .bool t436, .int .i64 t437]) rfl rfl rfl rfl rfl rfl rfl rfl rfl ?_
    refine t_keep [2] (σ' := [(2, .pointer (some ⟨b433, 0, none⟩))]) (by kernel_rfl) ?_
    refine t_end ?_
    show W _ _ _ _ _ _ _
    refine w_ret ?_
    simp only [Option.some.injEq, Prod.mk.injEq] at e
    obtain ⟨rfl, rfl, rfl⟩ := e
    exact ⟨[.agg #[.int .i64 t435, .bool t436, .int .i64 t437]], [], S, ⟨⟨_, _, _, rfl, .at 0 rfl rfl, rfl⟩, trivial⟩, VS.none, rfl, rfl, rfl⟩
  · rw [if_neg c434] at e
    have c434b : (e0 == 0) = false := beq_eq_false_iff_ne.mpr c434
    refine t_qz 1 [0, 2, 5] (σ' := [(0, errV 94 A_ e0), (2, .pointer (some ⟨b433, 0, none⟩)), (5, errV 94 A_ e0)]) (by kernel_rfl) ?_
    refine t_v (.eqt (a := errV 94 A_ e0) (b := .nilIface) (r := e0 == 0) rfl rfl rfl rfl (eqErr (by kernel_rfl) rfl) (bnk c434b rfl)) ?_
    refine t_keep [0, 2, 6] (σ' := [(0, errV 94 A_ e0), (2, .pointer (some ⟨b433, 0, none⟩)), (6, .bool false)]) (by kernel_rfl) ?_
    refine t_end ?_
    show W _ _ _ _ _ _ _
    refine w_cond rfl (fun c_ => by cases c_) (fun _ => ?_)
    show W _ _ _ _ _ _ _
    refine w_skip ?_
    show W _ _ _ _ _ _ _
    refine w_seq ?_
    refine w_reg fun all => ?_
    refine t_qz 1 [0, 2, 9] (σ' := [(0, errV 94 A_ e0), (2, .pointer (some ⟨b433, 0, none⟩)), (9, errV 94 A_ e0)]) (by kernel_rfl) ?_
    refine t_v (dv_tas (T := 94) (A := A_) (c := e0) rfl rfl rfl (by decide)) ?_
    refine t_qz 5 [0, 2, 3, 4] (σ' := [(0, errV 94 A_ e0), (2, .pointer (some ⟨b433, 0, none⟩)), (3, .pointer none), (4, .bool false)]) (by kernel_rfl) ?_
    refine t_end ?_
    show W _ _ _ _ _ _ _
    refine w_seq ?_
    refine w_seq ?_
    refine w_reg fun all => ?_
    refine t_qz 2 [0, 2, 3, 14] (σ' := [(0, errV 94 A_ e0), (2, .pointer (some ⟨b433, 0, none⟩)), (3, .pointer none), (14, .bool true)]) (by kernel_rfl) ?_
    refine t_end ?_
    show W _ _ _ _ _ _ _
    refine w_cond rfl (fun _ => ?_) (fun c_ => by cases c_)
    show W _ _ _ _ _ _ _
    refine w_seq ?_
    refine w_reg fun all => ?_
    obtain ⟨t439, h440, e⟩ := bind_of e
    refine t_qz 1 [2, 15] (σ' := [(2, .pointer (some ⟨b433, 0, none⟩)), (15, errV 94 A_ e0)]) (by kernel_rfl) ?_
    refine t_v (.call (vs := [errV 94 A_ e0]) rfl rfl (by kernel_rfl) (glyphicsee_sentinel_v1.ok (e0 := e0) hE_ h440)) ?_
    obtain ⟨⟨t441, t442, t443⟩, h444, e⟩ := bind_of e
    try dsimp only at e
    refine t_v (.call (vs := [.int .i64 t439]) rfl rfl (by kernel_rfl) (glyphicref_Bare.ok hE_ h444)) ?_
    refine t_sti 0 (cs := [.int .i64 t441, .bool t442, .int .i64 t443]) rfl rfl rfl rfl rfl rfl rfl rfl rfl ?_
    refine t_keep [2] (σ' := [(2, .pointer (some ⟨b433, 0, none⟩))]) (by kernel_rfl) ?_
    refine t_end ?_
    show W _ _ _ _ _ _ _
    refine w_ret ?_
    simp only [Option.some.injEq, Prod.mk.injEq] at e
    obtain ⟨rfl, rfl, rfl⟩ := e
    exact ⟨[.agg #[.int .i64 t441, .bool t442, .int .i64 t443]], [], S, ⟨⟨_, _, _, rfl, .at 0 rfl rfl, rfl⟩, trivial⟩, VS.none, rfl, rfl, rfl⟩

/-- glyphicref.SameFault -/
def c38 : C :=
  (.seq (.reg [⟨(some 2), .box (.tmp 0), none⟩,
     ⟨(some 3), .box (.tmp 1), none⟩,
     ⟨(some 4), .mv (.const (.bool false)), none⟩])
  (.seq (.reg [⟨(some 5), .pad 0 (.tmp 2), none⟩,
     ⟨(some 6), .ld none (.tmp 5), none⟩,
     ⟨(some 7), .pad 0 (.tmp 3), none⟩,
     ⟨(some 8), .ld none (.tmp 7), none⟩,
     ⟨(some 9), .bin .eql (.tmp 6) (.tmp 8), none⟩,
     ⟨(some 10), .mv (.tmp 9), none⟩,
     ⟨(some 11), .pad 1 (.tmp 2), (some (10, true))⟩,
     ⟨(some 12), .ld none (.tmp 11), (some (10, true))⟩,
     ⟨(some 13), .pad 1 (.tmp 3), (some (10, true))⟩,
     ⟨(some 14), .ld none (.tmp 13), (some (10, true))⟩,
     ⟨(some 15), .beq false (.tmp 12) (.tmp 14), (some (10, true))⟩,
     ⟨(some 16), .pk (.tmp 10) (.tmp 15) (.const (.bool false)), none⟩,
     ⟨(some 17), .mv (.tmp 16), none⟩,
     ⟨(some 18), .pad 2 (.tmp 2), (some (17, true))⟩,
     ⟨(some 19), .ld none (.tmp 18), (some (17, true))⟩,
     ⟨(some 20), .pad 2 (.tmp 3), (some (17, true))⟩,
     ⟨(some 21), .ld none (.tmp 20), (some (17, true))⟩,
     ⟨(some 22), .bin .eql (.tmp 19) (.tmp 21), (some (17, true))⟩,
     ⟨(some 23), .pk (.tmp 17) (.tmp 22) (.const (.bool false)), none⟩,
     ⟨(some 4), .mv (.tmp 23), none⟩])
  .ret))
def glyphicref_SameFault.f (a0_Code : Int) (a0_Placed : Bool) (a0_Pos : Int) (b1_Code : Int) (b1_Placed : Bool) (b1_Pos : Int) : Option (Bool) := if a0_Code = b1_Code then (if a0_Placed = b1_Placed then (some (a0_Pos == b1_Pos)) else (some false)) else (some false)
theorem glyphicref_SameFault.ok {S : Seal} {a0_Code : Int} {a0_Placed : Bool} {a0_Pos : Int} {b1_Code : Int} {b1_Placed : Bool} {b1_Pos : Int} {r0_ : Bool}{A_ : Int → Addr} (hE_ : EO gsE S A_ 94) (e : glyphicref_SameFault.f a0_Code a0_Placed a0_Pos b1_Code b1_Placed b1_Pos = some r0_) :
    Cal Tryd.prog 38 [.agg #[.int .i64 a0_Code, .bool a0_Placed, .int .i64 a0_Pos], .agg #[.int .i64 b1_Code, .bool b1_Placed, .int .i64 b1_Pos]] [] S fun v H' S' => v = .bool r0_ ∧ H' = [] ∧ S' = S := by
  unfold glyphicref_SameFault.f at e
  refine cal_of (c := c38) (N := 24) Tryd.func38 rfl rfl (by kernel_rfl) (rs := [.t 4]) (by kernel_rfl) (Nat.le_of_ble_eq_true rfl) ?_
  unfold c38
  refine w_seq ?_
  refine w_reg fun all => ?_
  refine t_a (.box rfl rfl rfl) fun b449 fb449 sb449 => ?_
  refine t_a (.box rfl rfl rfl) fun b450 fb450 sb450 => ?_
  refine t_qz 1 [2, 3] (σ' := [(2, .pointer (some ⟨b449, 0, none⟩)), (3, .pointer (some ⟨b450, 0, none⟩))]) (by kernel_rfl) ?_
  refine t_end ?_
  show W _ _ _ _ _ _ _
  refine w_seq ?_
  refine w_reg fun all => ?_
  refine t_qz 1 [2, 3, 5] (σ' := [(2, .pointer (some ⟨b449, 0, none⟩)), (3, .pointer (some ⟨b450, 0, none⟩)), (5, .pointer (some ⟨b449, 0, none⟩))]) (by kernel_rfl) ?_
  refine t_v (.ld1 rfl rfl rfl (.at 1 rfl rfl)) ?_
  refine t_qz 1 [2, 3, 6, 7] (σ' := [(2, .pointer (some ⟨b449, 0, none⟩)), (3, .pointer (some ⟨b450, 0, none⟩)), (6, .int .i64 a0_Code), (7, .pointer (some ⟨b450, 0, none⟩))]) (by kernel_rfl) ?_
  refine t_v (.ld1 rfl rfl rfl (.at 0 rfl rfl)) ?_
  by_cases c451 : a0_Code = b1_Code
  · rw [if_pos c451] at e
    have c451b : (a0_Code == b1_Code) = true := beq_iff_eq.mpr c451
    refine t_v (dv_quiet rfl (congrArg (fun t => some (Value.bool t)) c451b)) ?_
    refine t_qz 2 [2, 3, 10, 11] (σ' := [(2, .pointer (some ⟨b449, 0, none⟩)), (3, .pointer (some ⟨b450, 0, none⟩)), (10, .bool true), (11, .pointer (some ⟨b449, 1, none⟩))]) (by kernel_rfl) ?_
    refine t_v (.ld1 rfl rfl rfl (.at 1 rfl rfl)) ?_
    refine t_qz 1 [2, 3, 10, 12, 13] (σ' := [(2, .pointer (some ⟨b449, 0, none⟩)), (3, .pointer (some ⟨b450, 0, none⟩)), (10, .bool true), (12, .bool a0_Placed), (13, .pointer (some ⟨b450, 1, none⟩))]) (by kernel_rfl) ?_
    refine t_v (.ld1 rfl rfl rfl (.at 0 rfl rfl)) ?_
    by_cases c452 : a0_Placed = b1_Placed
    · rw [if_pos c452] at e
      have c452b : (a0_Placed == b1_Placed) = true := beq_iff_eq.mpr c452
      refine t_v (dv_quiet rfl (congrArg (fun t => some (Value.bool t)) c452b)) ?_
      refine t_qz 3 [3, 17, 18] (σ' := [(3, .pointer (some ⟨b450, 0, none⟩)), (17, .bool true), (18, .pointer (some ⟨b449, 2, none⟩))]) (by kernel_rfl) ?_
      refine t_v (.ld1 rfl rfl rfl (.at 1 rfl rfl)) ?_
      refine t_qz 1 [17, 19, 20] (σ' := [(17, .bool true), (19, .int .i64 a0_Pos), (20, .pointer (some ⟨b450, 2, none⟩))]) (by kernel_rfl) ?_
      refine t_v (.ld1 rfl rfl rfl (.at 0 rfl rfl)) ?_
      refine t_qz 3 [4] (σ' := [(4, .bool (a0_Pos == b1_Pos))]) (by kernel_rfl) ?_
      refine t_end ?_
      show W _ _ _ _ _ _ _
      refine w_ret ?_
      obtain rfl := Option.some.inj e
      exact ⟨[.bool (a0_Pos == b1_Pos)], [], S, ⟨rfl, trivial⟩, VS.none, rfl, rfl, rfl⟩
    · rw [if_neg c452] at e
      have c452b : (a0_Placed == b1_Placed) = false := beq_eq_false_iff_ne.mpr c452
      refine t_v (dv_quiet rfl (congrArg (fun t => some (Value.bool t)) c452b)) ?_
      refine t_qz 9 [4] (σ' := [(4, .bool false)]) (by kernel_rfl) ?_
      refine t_end ?_
      show W _ _ _ _ _ _ _
      refine w_ret ?_
      obtain rfl := Option.some.inj e
      exact ⟨[.bool false], [], S, ⟨rfl, trivial⟩, VS.none, rfl, rfl, rfl⟩
  · rw [if_neg c451] at e
    have c451b : (a0_Code == b1_Code) = false := beq_eq_false_iff_ne.mpr c451
    refine t_v (dv_quiet rfl (congrArg (fun t => some (Value.bool t)) c451b)) ?_
    refine t_qz 15 [4] (σ' := [(4, .bool false)]) (by kernel_rfl) ?_
    refine t_end ?_
    show W _ _ _ _ _ _ _
    refine w_ret ?_
    obtain rfl := Option.some.inj e
    exact ⟨[.bool false], [], S, ⟨rfl, trivial⟩, VS.none, rfl, rfl, rfl⟩

/-- glyphicsee.Same -/
def c29 : C :=
  (.seq (.reg [⟨(some 3), .box (.tmp 1), none⟩,
     ⟨(some 4), .mv (.const (.bool false)), none⟩])
  (.seq (.drw [⟨(some 5), .mv (.tmp 0), none⟩,
     ⟨(some 6), .call 39 [(.tmp 5)], none⟩,
     ⟨(some 7), .ld (some 3) (.tmp 3), none⟩,
     ⟨(some 8), .call 38 [(.tmp 6), (.tmp 7)], none⟩,
     ⟨(some 4), .mv (.tmp 8), none⟩] [[], [0], [], [1, 2, 1], [3, 3, 0, 1, 2, 3]])
  .ret))
def glyphicsee_Same_v1.f (e0 : Int) (f1_0 : Int) (f1_1 : Bool) (f1_2 : Int) : Option (Bool) := (glyphicsee_Fault_v1.f e0).bind fun (t433, t434, t435) => ((glyphicref_SameFault.f t433 t434 t435 f1_0 f1_1 f1_2).bind fun t437 => (some t437))
theorem glyphicsee_Same_v1.ok {S : Seal} {e0 : Int} {f1_0 : Int} {f1_1 : Bool} {f1_2 : Int} {r0_ : Bool}{A_ : Int → Addr} (hE_ : EO gsE S A_ 94) (e : glyphicsee_Same_v1.f e0 f1_0 f1_1 f1_2 = some r0_) :
    Cal Tryd.prog 29 [errV 94 A_ e0, .agg #[.int .i64 f1_0, .bool f1_1, .int .i64 f1_2]] [] S fun v H' S' => v = .bool r0_ ∧ H' = [] ∧ S' = S := by
  unfold glyphicsee_Same_v1.f at e
  refine cal_of (c := c29) (N := 9) Tryd.func29 rfl rfl (by kernel_rfl) (rs := [.t 4]) (by kernel_rfl) (Nat.le_of_ble_eq_true rfl) ?_
  unfold c29
  refine w_seq ?_
  refine w_reg fun all => ?_
  refine t_a (.box rfl rfl rfl) fun b432 fb432 sb432 => ?_
  refine t_qz 1 [0, 3] (σ' := [(0, errV 94 A_ e0), (3, .pointer (some ⟨b432, 0, none⟩))]) (by kernel_rfl) ?_
  refine t_end ?_
  show W _ _ _ _ _ _ _
  refine w_seq ?_
  obtain ⟨⟨t433, t434, t435⟩, h436, e⟩ := bind_of e
  try dsimp only at e
  obtain ⟨t437, h438, e⟩ := bind_of e
  refine w_drwE mixed 5 [.v (errV 94 A_ e0), .v (.agg #[.int .i64 t433, .bool t434, .int .i64 t435]), .v (.agg #[.int .i64 f1_0, .bool f1_1, .int .i64 f1_2]), .v (.bool t437), .v (.bool t437)] (by kernel_rfl) ?_ ?_
  · refine DI.sq 1 (by kernel_rfl) rfl ?_
    refine .cons (.call (vs := [errV 94 A_ e0]) rfl rfl (by kernel_rfl) (glyphicsee_Fault_v1.ok (e0 := e0) hE_ h436)) ?_
    refine .cons (.ldn rfl rfl rfl (.at 0 rfl rfl)) ?_
    refine .cons (.call (vs := [.agg #[.int .i64 t433, .bool t434, .int .i64 t435], .agg #[.int .i64 f1_0, .bool f1_1, .int .i64 f1_2]]) rfl rfl (by kernel_rfl) (glyphicref_SameFault.ok hE_ h438)) ?_
    refine DI.sq 1 (by kernel_rfl) rfl ?_
    exact .nil
  refine fk_q 5 [4] (σ' := [(4, .bool t437)]) t_more (by kernel_rfl) ?_
  refine fk_nil fun all => ?_
  refine t_keep [4] (σ' := [(4, .bool t437)]) (by kernel_rfl) ?_
  refine t_end ?_
  show W _ _ _ _ _ _ _
  refine w_ret ?_
  obtain rfl := Option.some.inj e
  exact ⟨[.bool t437], [], S, ⟨rfl, trivial⟩, VS.none, rfl, rfl, rfl⟩

/-- glyphicsee.Is -/
def c10 : C :=
  (.seq (.reg [⟨(some 4), .mv (.const (.bool false)), none⟩])
  (.seq (.reg [⟨(some 5), .mv (.tmp 0), none⟩,
     ⟨(some 6), .mv (.tmp 1), none⟩,
     ⟨(some 7), .call 30 [(.tmp 6)], none⟩,
     ⟨(some 8), .call 29 [(.tmp 5), (.tmp 7)], none⟩,
     ⟨(some 4), .mv (.tmp 8), none⟩])
  .ret))
def glyphicsee_Is_v1.f (e0 : Int) (code1 : Int) : Option (Bool) := (glyphicref_Bare.f code1).bind fun (t428, t429, t430) => ((glyphicsee_Same_v1.f e0 t428 t429 t430).bind fun t439 => (some t439))
theorem glyphicsee_Is_v1.ok {S : Seal} {e0 : Int} {code1 : Int} {r0_ : Bool}{A_ : Int → Addr} (hE_ : EO gsE S A_ 94) (e : glyphicsee_Is_v1.f e0 code1 = some r0_) :
    Cal Tryd.prog 10 [errV 94 A_ e0, .int .i64 code1] [] S fun v H' S' => v = .bool r0_ ∧ H' = [] ∧ S' = S := by
  unfold glyphicsee_Is_v1.f at e
  refine cal_of (c := c10) (N := 9) Tryd.func10 rfl rfl (by kernel_rfl) (rs := [.t 4]) (by kernel_rfl) (Nat.le_of_ble_eq_true rfl) ?_
  unfold c10
  refine w_seq ?_
  refine w_reg fun all => ?_
  refine t_qz 1 [0, 1] (σ' := [(0, errV 94 A_ e0), (1, .int .i64 code1)]) (by kernel_rfl) ?_
  refine t_end ?_
  show W _ _ _ _ _ _ _
  refine w_seq ?_
  refine w_reg fun all => ?_
  obtain ⟨⟨t428, t429, t430⟩, h431, e⟩ := bind_of e
  try dsimp only at e
  refine t_qz 2 [5, 6] (σ' := [(5, errV 94 A_ e0), (6, .int .i64 code1)]) (by kernel_rfl) ?_
  refine t_v (.call (vs := [.int .i64 code1]) rfl rfl (by kernel_rfl) (glyphicref_Bare.ok hE_ h431)) ?_
  obtain ⟨t439, h440, e⟩ := bind_of e
  refine t_v (.call (vs := [errV 94 A_ e0, .agg #[.int .i64 t428, .bool t429, .int .i64 t430]]) rfl rfl (by kernel_rfl) (glyphicsee_Same_v1.ok (e0 := e0) hE_ h440)) ?_
  refine t_qz 1 [4] (σ' := [(4, .bool t439)]) (by kernel_rfl) ?_
  refine t_end ?_
  show W _ _ _ _ _ _ _
  refine w_ret ?_
  obtain rfl := Option.some.inj e
  exact ⟨[.bool t439], [], S, ⟨rfl, trivial⟩, VS.none, rfl, rfl, rfl⟩

def fixed_Round.f (a0 : Int) (b1 : Int) : Option (Int) := if b1 < 1 then (some 0) else ((fixed_Down.f a0 b1).bind fun t449 => (if (wr64 (a0 - (wr64 (t449 * b1)))) ≥ (wr64 (b1 - (wr64 (a0 - (wr64 (t449 * b1)))))) then (some (wr64 (t449 + 1))) else (some t449)))
theorem fixed_Round.ok {S : Seal} {a0 : Int} {b1 : Int} {r0_ : Int}{A_ : Int → Addr} (hE_ : EO gsE S A_ 94) (e : fixed_Round.f a0 b1 = some r0_) :
    Cal Tryd.prog 20 [.int .i64 a0, .int .i64 b1] [] S fun v H' S' => v = .int .i64 r0_ ∧ H' = [] ∧ S' = S := by
  unfold fixed_Round.f at e
  refine cal_of (c := c20) (N := 25) Tryd.func20 rfl rfl (by kernel_rfl) (rs := [.t 4]) (by kernel_rfl) (Nat.le_of_ble_eq_true rfl) ?_
  unfold c20
  refine w_seq ?_
  refine w_reg fun all => ?_
  refine t_qz 1 [0, 1] (σ' := [(0, .int .i64 a0), (1, .int .i64 b1)]) (by kernel_rfl) ?_
  refine t_end ?_
  show W _ _ _ _ _ _ _
  refine w_seq ?_
  refine w_seq ?_
  refine w_reg fun all => ?_
  by_cases c448 : b1 < 1
  · rw [if_pos c448] at e
    have c448b : (decide (b1 < 1)) = true := decide_eq_true c448
    refine t_qz 1 [0, 1, 7] (σ' := [(0, .int .i64 a0), (1, .int .i64 b1), (7, .int .i64 b1)]) (by kernel_rfl) ?_
    refine t_v (dv_quiet rfl (congrArg (fun t => some (Value.bool t)) c448b)) ?_
    refine t_keep [0, 1, 8] (σ' := [(0, .int .i64 a0), (1, .int .i64 b1), (8, .bool true)]) (by kernel_rfl) ?_
    refine t_end ?_
    show W _ _ _ _ _ _ _
    refine w_cond rfl (fun _ => ?_) (fun c_ => by cases c_)
    show W _ _ _ _ _ _ _
    refine w_seq ?_
    refine w_reg fun all => ?_
    refine t_qz 1 [4] (σ' := [(4, .int .i64 0)]) (by kernel_rfl) ?_
    refine t_end ?_
    show W _ _ _ _ _ _ _
    refine w_ret ?_
    obtain rfl := Option.some.inj e
    exact ⟨[.int .i64 0], [], S, ⟨rfl, trivial⟩, VS.none, rfl, rfl, rfl⟩
  · rw [if_neg c448] at e
    have c448b : (decide (b1 < 1)) = false := decide_eq_false c448
    refine t_qz 1 [0, 1, 7] (σ' := [(0, .int .i64 a0), (1, .int .i64 b1), (7, .int .i64 b1)]) (by kernel_rfl) ?_
    refine t_v (dv_quiet rfl (congrArg (fun t => some (Value.bool t)) c448b)) ?_
    refine t_keep [0, 1, 8] (σ' := [(0, .int .i64 a0), (1, .int .i64 b1), (8, .bool false)]) (by kernel_rfl) ?_
    refine t_end ?_
    show W _ _ _ _ _ _ _
    refine w_cond rfl (fun c_ => by cases c_) (fun _ => ?_)
    show W _ _ _ _ _ _ _
    refine w_skip ?_
    show W _ _ _ _ _ _ _
    refine w_seq ?_
    refine w_reg fun all => ?_
    obtain ⟨t449, h450, e⟩ := bind_of e
    refine t_qz 2 [0, 1, 9, 10] (σ' := [(0, .int .i64 a0), (1, .int .i64 b1), (9, .int .i64 a0), (10, .int .i64 b1)]) (by kernel_rfl) ?_
    refine t_v (.call (vs := [.int .i64 a0, .int .i64 b1]) rfl rfl (by kernel_rfl) (fixed_Down.ok hE_ h450)) ?_
    refine t_qz 1 [0, 1, 5] (σ' := [(0, .int .i64 a0), (1, .int .i64 b1), (5, .int .i64 t449)]) (by kernel_rfl) ?_
    refine t_end ?_
    show W _ _ _ _ _ _ _
    refine w_seq ?_
    refine w_seq ?_
    refine w_reg fun all => ?_
    refine t_qz 6 [1, 5, 6] (σ' := [(1, .int .i64 b1), (5, .int .i64 t449), (6, .int .i64 (wr64 (a0 - (wr64 (t449 * b1)))))]) (by kernel_rfl) ?_
    refine t_end ?_
    show W _ _ _ _ _ _ _
    refine w_seq ?_
    refine w_reg fun all => ?_
    by_cases c451 : (wr64 (a0 - (wr64 (t449 * b1)))) ≥ (wr64 (b1 - (wr64 (a0 - (wr64 (t449 * b1))))))
    · rw [if_pos c451] at e
      have c451b : (decide ((wr64 (a0 - (wr64 (t449 * b1)))) ≥ (wr64 (b1 - (wr64 (a0 - (wr64 (t449 * b1)))))))) = true := decide_eq_true c451
      refine t_qz 4 [5, 17, 20] (σ' := [(5, .int .i64 t449), (17, .int .i64 (wr64 (a0 - (wr64 (t449 * b1))))), (20, .int .i64 (wr64 (b1 - (wr64 (a0 - (wr64 (t449 * b1)))))))]) (by kernel_rfl) ?_
      refine t_v (dv_quiet rfl (congrArg (fun t => some (Value.bool t)) c451b)) ?_
      refine t_keep [5, 21] (σ' := [(5, .int .i64 t449), (21, .bool true)]) (by kernel_rfl) ?_
      refine t_end ?_
      show W _ _ _ _ _ _ _
      refine w_cond rfl (fun _ => ?_) (fun c_ => by cases c_)
      show W _ _ _ _ _ _ _
      refine w_reg fun all => ?_
      refine t_qz 3 [5] (σ' := [(5, .int .i64 (wr64 (t449 + 1)))]) (by kernel_rfl) ?_
      refine t_end ?_
      show W _ _ _ _ _ _ _
      refine w_seq ?_
      refine w_reg fun all => ?_
      refine t_qz 2 [4] (σ' := [(4, .int .i64 (wr64 (t449 + 1)))]) (by kernel_rfl) ?_
      refine t_end ?_
      show W _ _ _ _ _ _ _
      refine w_ret ?_
      obtain rfl := Option.some.inj e
      exact ⟨[.int .i64 (wr64 (t449 + 1))], [], S, ⟨rfl, trivial⟩, VS.none, rfl, rfl, rfl⟩
    · rw [if_neg c451] at e
      have c451b : (decide ((wr64 (a0 - (wr64 (t449 * b1)))) ≥ (wr64 (b1 - (wr64 (a0 - (wr64 (t449 * b1)))))))) = false := decide_eq_false c451
      refine t_qz 4 [5, 17, 20] (σ' := [(5, .int .i64 t449), (17, .int .i64 (wr64 (a0 - (wr64 (t449 * b1))))), (20, .int .i64 (wr64 (b1 - (wr64 (a0 - (wr64 (t449 * b1)))))))]) (by kernel_rfl) ?_
      refine t_v (dv_quiet rfl (congrArg (fun t => some (Value.bool t)) c451b)) ?_
      refine t_keep [5, 21] (σ' := [(5, .int .i64 t449), (21, .bool false)]) (by kernel_rfl) ?_
      refine t_end ?_
      show W _ _ _ _ _ _ _
      refine w_cond rfl (fun c_ => by cases c_) (fun _ => ?_)
      show W _ _ _ _ _ _ _
      refine w_skip ?_
      show W _ _ _ _ _ _ _
      refine w_seq ?_
      refine w_reg fun all => ?_
      refine t_qz 2 [4] (σ' := [(4, .int .i64 t449)]) (by kernel_rfl) ?_
      refine t_end ?_
      show W _ _ _ _ _ _ _
      refine w_ret ?_
      obtain rfl := Option.some.inj e
      exact ⟨[.int .i64 t449], [], S, ⟨rfl, trivial⟩, VS.none, rfl, rfl, rfl⟩

def scale_At_v2.f (i0_0 : Int) (i0_1 : Int) (i0_2 : Int) (w1 : Int) (v2 : Int) : Option (Int) := if i0_2 < 0 then none else ((fixed_Round.f (wr64 ((wr64 (v2 * w1)) * 256)) (wr64 (i0_0 * 2 ^ (min (Int.toNat i0_2) 64)))).bind fun t452 => (some t452))
theorem scale_At_v2.ok {S : Seal} {i0_0 : Int} {i0_1 : Int} {i0_2 : Int} {w1 : Int} {v2 : Int} {r0_ : Int}{A_ : Int → Addr} (hE_ : EO gsE S A_ 94) {a_i0_3 : Option Addr} {n_i0_3 c_i0_3 : Nat} {a_i0_4 : Option Addr} {n_i0_4 c_i0_4 : Nat} (e : scale_At_v2.f i0_0 i0_1 i0_2 w1 v2 = some r0_) :
    Cal Tryd.prog 7 [.agg #[.int .i64 i0_0, .int .i64 i0_1, .int .i64 i0_2, .slice a_i0_3 n_i0_3 c_i0_3, .slice a_i0_4 n_i0_4 c_i0_4], .int .i64 w1, .int .i64 v2] [] S fun v H' S' => v = .int .i64 r0_ ∧ H' = [] ∧ S' = S := by
  unfold scale_At_v2.f at e
  refine cal_of (c := c7) (N := 17) Tryd.func7 rfl rfl (by kernel_rfl) (rs := [.t 6]) (by kernel_rfl) (Nat.le_of_ble_eq_true rfl) ?_
  unfold c7
  refine w_seq ?_
  refine w_reg fun all => ?_
  refine t_a (.box rfl rfl rfl) fun b446 fb446 sb446 => ?_
  refine t_qz 1 [1, 2, 3] (σ' := [(1, .int .i64 w1), (2, .int .i64 v2), (3, .pointer (some ⟨b446, 0, none⟩))]) (by kernel_rfl) ?_
  refine t_end ?_
  show W _ _ _ _ _ _ _
  refine w_seq ?_
  refine w_reg fun all => ?_
  refine t_qz 5 [3, 10, 11] (σ' := [(3, .pointer (some ⟨b446, 0, none⟩)), (10, .int .i64 (wr64 ((wr64 (v2 * w1)) * 256))), (11, .pointer (some ⟨b446, 0, none⟩))]) (by kernel_rfl) ?_
  refine t_v (.ld1 rfl rfl rfl (.at 0 rfl rfl)) ?_
  refine t_qz 1 [10, 12, 13] (σ' := [(10, .int .i64 (wr64 ((wr64 (v2 * w1)) * 256))), (12, .int .i64 i0_0), (13, .pointer (some ⟨b446, 2, none⟩))]) (by kernel_rfl) ?_
  refine t_v (.ld1 rfl rfl rfl (.at 0 rfl rfl)) ?_
  have c447 : ¬ i0_2 < 0 := by
    intro h_; rw [if_pos h_] at e; cases e
  rw [if_neg c447] at e
  refine t_v (.quiet rfl (qv_shl rfl rfl c447)) ?_
  obtain ⟨t452, h453, e⟩ := bind_of e
  refine t_v (.call (vs := [.int .i64 (wr64 ((wr64 (v2 * w1)) * 256)), .int .i64 (wr64 (i0_0 * 2 ^ (min (Int.toNat i0_2) 64)))]) rfl rfl (by kernel_rfl) (fixed_Round.ok hE_ h453)) ?_
  refine t_qz 1 [6] (σ' := [(6, .int .i64 t452)]) (by kernel_rfl) ?_
  refine t_end ?_
  show W _ _ _ _ _ _ _
  refine w_ret ?_
  obtain rfl := Option.some.inj e
  exact ⟨[.int .i64 t452], [], S, ⟨rfl, trivial⟩, VS.none, rfl, rfl, rfl⟩

/-- scale.Cmd$1 -/
def c33 : C :=
  (.seq (.reg [⟨(some 3), .box (.tmp 0), none⟩,
     ⟨(some 4), .new [(.int .i64 0), (.int .i64 0)], none⟩])
  (.seq (.drw [⟨(some 5), .ld (some 5) (.tmp 1), none⟩,
     ⟨(some 6), .ld none (.tmp 2), none⟩,
     ⟨(some 7), .pad 0 (.tmp 3), none⟩,
     ⟨(some 8), .ld none (.tmp 7), none⟩,
     ⟨(some 9), .call 7 [(.tmp 5), (.tmp 6), (.tmp 8)], none⟩,
     ⟨(some 10), .ld (some 5) (.tmp 1), none⟩,
     ⟨(some 11), .ld none (.tmp 2), none⟩,
     ⟨(some 12), .pad 1 (.tmp 3), none⟩,
     ⟨(some 13), .ld none (.tmp 12), none⟩,
     ⟨(some 14), .call 7 [(.tmp 10), (.tmp 11), (.tmp 13)], none⟩,
     ⟨(some 15), .bld [(.int .i64 0), (.int .i64 0)] [(0, 1, (.tmp 9)), (1, 1, (.tmp 14))], none⟩,
     ⟨none, .st 2 (.tmp 4) (.tmp 15), none⟩] [[], [], [], [2], [0, 1, 3], [], [], [], [7], [5, 6, 8, 4], [4, 9], [10, 9, 0, 1, 2, 3, 4, 5, 6, 7, 8, 9, 10]])
  .ret))
def scale_Cmd_1_v1.f (p0_0 : Int) (p0_1 : Int) (m0_0 : Int) (m0_1 : Int) (m0_2 : Int) (m1_0 : Int) : Option (Int × Int) := (scale_At_v2.f m0_0 m0_1 m0_2 m1_0 p0_0).bind fun t446 => ((scale_At_v2.f m0_0 m0_1 m0_2 m1_0 p0_1).bind fun t448 => (some (t446, t448)))
theorem scale_Cmd_1_v1.ok {S : Seal} {B0 : Nat} {B1 : Nat} {p0_0 : Int} {p0_1 : Int} {m0_0 : Int} {m0_1 : Int} {m0_2 : Int} {m1_0 : Int} {r0_ : Int} {r1_ : Int}{A_ : Int → Addr} (hE_ : EO gsE S A_ 94) {a_m0_3 : Option Addr} {n_m0_3 c_m0_3 : Nat} {a_m0_4 : Option Addr} {n_m0_4 c_m0_4 : Nat} (e : scale_Cmd_1_v1.f p0_0 p0_1 m0_0 m0_1 m0_2 m1_0 = some (r0_, r1_)) :
    Cal Tryd.prog 33 [.agg #[.int .i64 p0_0, .int .i64 p0_1], .pointer (some ⟨B0, 0, none⟩), .pointer (some ⟨B1, 0, none⟩)] ([⟨B0, [.int .i64 m0_0, .int .i64 m0_1, .int .i64 m0_2, .slice a_m0_3 n_m0_3 c_m0_3, .slice a_m0_4 n_m0_4 c_m0_4], 5⟩, ⟨B1, [.int .i64 m1_0], 1⟩] : List Own) S fun v H' S' => v = .agg #[.int .i64 r0_, .int .i64 r1_] ∧ H' = ([⟨B0, [.int .i64 m0_0, .int .i64 m0_1, .int .i64 m0_2, .slice a_m0_3 n_m0_3 c_m0_3, .slice a_m0_4 n_m0_4 c_m0_4], 5⟩, ⟨B1, [.int .i64 m1_0], 1⟩] : List Own) ∧ S' = S := by
  unfold scale_Cmd_1_v1.f at e
  refine cal_of (c := c33) (N := 16) Tryd.func33 rfl rfl (by kernel_rfl) (rs := [.cn 2 4]) (by kernel_rfl) (Nat.le_of_ble_eq_true rfl) ?_
  unfold c33
  refine w_seq ?_
  refine w_reg fun all => ?_
  refine t_a (.box rfl rfl rfl) fun b444 fb444 sb444 => ?_
  refine t_a (.new rfl rfl) fun b445 fb445 sb445 => ?_
  refine t_keep [1, 2, 3, 4] (σ' := [(1, .pointer (some ⟨B0, 0, none⟩)), (2, .pointer (some ⟨B1, 0, none⟩)), (3, .pointer (some ⟨b444, 0, none⟩)), (4, .pointer (some ⟨b445, 0, none⟩))]) (by kernel_rfl) ?_
  refine t_end ?_
  show W _ _ _ _ _ _ _
  refine w_seq ?_
  obtain ⟨t446, h447, e⟩ := bind_of e
  obtain ⟨t448, h449, e⟩ := bind_of e
  refine w_drwE mixed 11 [.v (.agg #[.int .i64 m0_0, .int .i64 m0_1, .int .i64 m0_2, .slice a_m0_3 n_m0_3 c_m0_3, .slice a_m0_4 n_m0_4 c_m0_4]), .v (.int .i64 m1_0), .v (.pointer (some ⟨b444, 0, none⟩)), .v (.int .i64 p0_0), .v (.int .i64 t446), .v (.agg #[.int .i64 m0_0, .int .i64 m0_1, .int .i64 m0_2, .slice a_m0_3 n_m0_3 c_m0_3, .slice a_m0_4 n_m0_4 c_m0_4]), .v (.int .i64 m1_0), .v (.pointer (some ⟨b444, 1, none⟩)), .v (.int .i64 p0_1), .v (.int .i64 t448), .v (.agg #[.int .i64 t446, .int .i64 t448])] (by kernel_rfl) ?_ ?_
  · refine .cons (.ldn rfl rfl rfl (.at 2 rfl rfl)) ?_
    refine .cons (.ld1 rfl rfl rfl (.at 3 rfl rfl)) ?_
    refine DI.sq 1 (by kernel_rfl) rfl ?_
    refine .cons (.ld1 rfl rfl rfl (.at 1 rfl rfl)) ?_
    refine .cons (.call (vs := [.agg #[.int .i64 m0_0, .int .i64 m0_1, .int .i64 m0_2, .slice a_m0_3 n_m0_3 c_m0_3, .slice a_m0_4 n_m0_4 c_m0_4], .int .i64 m1_0, .int .i64 p0_0]) rfl rfl (by kernel_rfl) (scale_At_v2.ok hE_ h447)) ?_
    refine .cons (.ldn rfl rfl rfl (.at 2 rfl rfl)) ?_
    refine .cons (.ld1 rfl rfl rfl (.at 3 rfl rfl)) ?_
    refine DI.sq 1 (by kernel_rfl) rfl ?_
    refine .cons (.ld1 rfl rfl rfl (.at 1 rfl rfl)) ?_
    refine .cons (.call (vs := [.agg #[.int .i64 m0_0, .int .i64 m0_1, .int .i64 m0_2, .slice a_m0_3 n_m0_3 c_m0_3, .slice a_m0_4 n_m0_4 c_m0_4], .int .i64 m1_0, .int .i64 p0_1]) rfl rfl (by kernel_rfl) (scale_At_v2.ok hE_ h449)) ?_
    refine DI.sq 1 (by kernel_rfl) rfl ?_
    exact .nil
  refine fk_q 11 [4, 15] (σ' := [(4, .pointer (some ⟨b445, 0, none⟩)), (15, .agg #[.int .i64 t446, .int .i64 t448])]) t_more (by kernel_rfl) ?_
  refine fk_nil fun all => ?_
  refine t_sti 0 (cs := [.int .i64 t446, .int .i64 t448]) rfl rfl rfl rfl rfl rfl rfl rfl rfl ?_
  refine t_keep [4] (σ' := [(4, .pointer (some ⟨b445, 0, none⟩))]) (by kernel_rfl) ?_
  refine t_end ?_
  show W _ _ _ _ _ _ _
  refine w_ret ?_
  simp only [Option.some.injEq, Prod.mk.injEq] at e
  obtain ⟨rfl, rfl⟩ := e
  exact ⟨[.agg #[.int .i64 t446, .int .i64 t448]], ([⟨B0, [.int .i64 m0_0, .int .i64 m0_1, .int .i64 m0_2, .slice a_m0_3 n_m0_3 c_m0_3, .slice a_m0_4 n_m0_4 c_m0_4], 5⟩, ⟨B1, [.int .i64 m1_0], 1⟩] : List Own), S, ⟨⟨_, _, _, rfl, .at 0 rfl rfl, rfl⟩, trivial⟩, VS.sel [2, 2] (by kernel_rfl), rfl, rfl, rfl⟩

/-- scale.Cmd -/
def c15 : C :=
  (.seq (.reg [⟨(some 3), .box (.tmp 0), none⟩,
     ⟨(some 4), .box (.tmp 1), none⟩,
     ⟨(some 5), .box (.tmp 2), none⟩,
     ⟨(some 6), .new [(.int .i64 0), (.int .i64 0), (.int .i64 0), (.int .i64 0), (.int .i64 0), (.int .i64 0), (.int .i64 0), (.int .i64 0), (.int .i64 0), (.int .i64 0), (.slice none 0 0)], none⟩])
  (.seq (.reg [⟨(some 15), .mkf 33 [(.tmp 3), (.tmp 4)], none⟩,
     ⟨(some 7), .mv (.tmp 15), none⟩])
  (.seq (.drw [⟨(some 16), .mv (.tmp 7), none⟩,
     ⟨(some 17), .pad 3 (.tmp 5), none⟩,
     ⟨(some 18), .pad 3 (.tmp 17), none⟩,
     ⟨(some 19), .ld (some 2) (.tmp 18), none⟩,
     ⟨(some 20), .clo (.tmp 16) [(.tmp 19)], none⟩,
     ⟨(some 21), .mv (.tmp 7), none⟩,
     ⟨(some 22), .pad 3 (.tmp 5), none⟩,
     ⟨(some 23), .pad 5 (.tmp 22), none⟩,
     ⟨(some 24), .ld (some 2) (.tmp 23), none⟩,
     ⟨(some 25), .clo (.tmp 21) [(.tmp 24)], none⟩,
     ⟨(some 26), .pad 3 (.tmp 5), none⟩,
     ⟨(some 27), .pad 3 (.tmp 26), none⟩,
     ⟨none, .st 2 (.tmp 27) (.tmp 20), none⟩,
     ⟨(some 28), .pad 3 (.tmp 5), none⟩,
     ⟨(some 29), .pad 5 (.tmp 28), none⟩,
     ⟨none, .st 2 (.tmp 29) (.tmp 25), none⟩] [[], [], [1], [2], [0, 3], [], [], [6], [7], [5, 8, 4], [0, 1, 2, 3, 4, 6, 7, 8], [10, 0, 1, 2, 3, 4, 6, 7, 8], [11, 4, 9, 0, 1, 2, 3, 4, 6, 7, 8], [0, 1, 2, 3, 4, 5, 6, 7, 8, 9, 10, 11, 12], [13, 0, 1, 2, 3, 4, 5, 6, 7, 8, 9, 10, 11, 12], [14, 9, 12, 0, 1, 2, 3, 4, 5, 6, 7, 8, 9, 10, 11, 12]])
  (.seq (.seq (.reg [⟨(some 30), .pad 3 (.tmp 5), none⟩,
      ⟨(some 31), .pad 0 (.tmp 30), none⟩,
      ⟨(some 32), .ld none (.tmp 31), none⟩,
      ⟨(some 33), .bin .eql (.tmp 32) (.const (.int .i64 2)), none⟩])
   (.cond (.tmp 33)
    (.reg [⟨(some 34), .pad 3 (.tmp 5), none⟩,
       ⟨(some 35), .pad 5 (.tmp 34), none⟩,
       ⟨(some 36), .pad 0 (.tmp 35), none⟩,
       ⟨(some 37), .ld none (.tmp 36), none⟩,
       ⟨(some 38), .mm true [(.tmp 37), (.const (.int .i64 1))], none⟩,
       ⟨(some 39), .pad 3 (.tmp 5), none⟩,
       ⟨(some 40), .pad 5 (.tmp 39), none⟩,
       ⟨(some 41), .pad 0 (.tmp 40), none⟩,
       ⟨none, .st 1 (.tmp 41) (.tmp 38), none⟩])
    .skip))
  (.seq (.seq (.reg [⟨(some 42), .pad 0 (.tmp 5), none⟩,
      ⟨(some 43), .ld none (.tmp 42), none⟩,
      ⟨(some 44), .bin .eql (.tmp 43) (.const (.int .i64 2)), none⟩])
   (.cond (.tmp 44)
    (.reg [⟨(some 45), .ld (some 5) (.tmp 3), none⟩,
       ⟨(some 46), .ld none (.tmp 4), none⟩,
       ⟨(some 47), .pad 2 (.tmp 5), none⟩,
       ⟨(some 48), .ld none (.tmp 47), none⟩,
       ⟨(some 49), .call 7 [(.tmp 45), (.tmp 46), (.tmp 48)], none⟩,
       ⟨(some 50), .mm true [(.tmp 49), (.const (.int .i64 1))], none⟩,
       ⟨(some 51), .pad 2 (.tmp 5), none⟩,
       ⟨none, .st 1 (.tmp 51) (.tmp 50), none⟩])
    .skip))
  (.seq (.reg [⟨(some 52), .pad 10 (.tmp 5), none⟩,
     ⟨(some 53), .ld none (.tmp 52), none⟩,
     ⟨(some 8), .mv (.tmp 53), none⟩])
  (.seq (.reg [⟨(some 54), .pad 10 (.tmp 5), none⟩,
     ⟨none, .st 1 (.tmp 54) (.const (.slice none 0 0)), none⟩])
  (.seq (.seq (.reg [⟨(some 55), .mv (.tmp 8), none⟩,
      ⟨(some 56), .lns (.tmp 55), none⟩,
      ⟨(some 57), .mv (.const (.int .i64 0)), none⟩])
   (.block 0 (.loop (.seq (.reg [⟨(some 58), .bin .lss (.tmp 57) (.tmp 56), none⟩])
     (.seq (.cond (.tmp 58)
       .skip
       (.exit 0))
     (.seq (.block 1 (.seq (.reg [⟨(some 59), .ixs 4 (.tmp 55) (.tmp 57), none⟩,
          ⟨(some 60), .ld (some 4) (.tmp 59), none⟩,
          ⟨(some 10), .new [(.int .i64 0), (.int .i64 0), (.slice none 0 0), (.bool false)], none⟩,
          ⟨none, .st 4 (.tmp 10) (.tmp 60), none⟩])
       (.seq (.drw [⟨(some 61), .mv (.tmp 7), none⟩,
          ⟨(some 62), .pad 0 (.tmp 10), none⟩,
          ⟨(some 63), .ld (some 2) (.tmp 62), none⟩,
          ⟨(some 64), .clo (.tmp 61) [(.tmp 63)], none⟩,
          ⟨(some 65), .pad 3 (.tmp 10), none⟩,
          ⟨(some 66), .ld none (.tmp 65), none⟩,
          ⟨(some 67), .bld [(.int .i64 0), (.int .i64 0), (.slice none 0 0), (.bool false)] [(0, 2, (.tmp 64)), (3, 1, (.tmp 66))], none⟩,
          ⟨(some 11), .new [(.int .i64 0), (.int .i64 0), (.slice none 0 0), (.bool false)], none⟩,
          ⟨none, .st 4 (.tmp 11) (.tmp 67), none⟩] [[], [], [1], [0, 2], [], [4], [3, 5], [], [7, 6, 3, 0, 1, 2, 3, 4, 5, 6, 7]])
       (.seq (.seq (.reg [⟨(some 68), .pad 2 (.tmp 10), none⟩,
           ⟨(some 69), .ld none (.tmp 68), none⟩,
           ⟨(some 70), .lns (.tmp 69), none⟩,
           ⟨(some 71), .mv (.const (.int .i64 0)), none⟩])
        (.block 2 (.loop (.seq (.reg [⟨(some 72), .bin .lss (.tmp 71) (.tmp 70), none⟩])
          (.seq (.cond (.tmp 72)
            .skip
            (.exit 2))
          (.seq (.block 3 (.seq (.reg [⟨(some 73), .ixs 7 (.tmp 69) (.tmp 71), none⟩,
               ⟨(some 74), .ld (some 7) (.tmp 73), none⟩,
               ⟨(some 13), .new [(.int .i64 0), (.int .i64 0), (.int .i64 0), (.int .i64 0), (.int .i64 0), (.int .i64 0), (.int .i64 0)], none⟩,
               ⟨none, .st 7 (.tmp 13) (.tmp 74), none⟩])
            (.seq (.seq (.reg [⟨(some 75), .mv (.const (.int .i64 0)), none⟩])
             (.block 4 (.loop (.seq (.reg [⟨(some 76), .bin .lss (.tmp 75) (.const (.int .i64 3)), none⟩])
               (.seq (.cond (.tmp 76)
                 .skip
                 (.exit 4))
               (.seq (.block 5 (.seq (.reg [⟨(some 77), .mv (.tmp 75), none⟩,
                    ⟨(some 14), .mv (.tmp 77), none⟩])
                 (.reg [⟨(some 78), .mv (.tmp 14), none⟩,
                   ⟨(some 79), .mv (.tmp 7), none⟩,
                   ⟨(some 80), .mv (.tmp 14), none⟩,
                   ⟨(some 81), .pad 1 (.tmp 13), none⟩,
                   ⟨(some 82), .ixa 2 3 (.tmp 81) (.tmp 80), none⟩,
                   ⟨(some 83), .ld (some 2) (.tmp 82), none⟩,
                   ⟨(some 84), .clo (.tmp 79) [(.tmp 83)], none⟩,
                   ⟨(some 85), .pad 1 (.tmp 13), none⟩,
                   ⟨(some 86), .ixa 2 3 (.tmp 85) (.tmp 78), none⟩,
                   ⟨none, .st 2 (.tmp 86) (.tmp 84), none⟩])))
               (.reg [⟨(some 87), .bin .add (.tmp 75) (.const (.int .i64 1)), none⟩,
                 ⟨(some 75), .mv (.tmp 87), none⟩])))))))
            (.reg [⟨(some 88), .pad 2 (.tmp 11), none⟩,
              ⟨(some 89), .ld none (.tmp 88), none⟩,
              ⟨(some 90), .ld (some 7) (.tmp 13), none⟩,
              ⟨(some 91), .bsl [(.int .i64 0), (.int .i64 0), (.int .i64 0), (.int .i64 0), (.int .i64 0), (.int .i64 0), (.int .i64 0)] 1 [(0, 7, (.tmp 90))], none⟩,
              ⟨(some 92), .app 56 7 56 [(.int .i64 0), (.int .i64 0), (.int .i64 0), (.int .i64 0), (.int .i64 0), (.int .i64 0), (.int .i64 0)] (.tmp 89) (.tmp 91), none⟩,
              ⟨(some 93), .pad 2 (.tmp 11), none⟩,
              ⟨none, .st 1 (.tmp 93) (.tmp 92), none⟩]))))
          (.reg [⟨(some 94), .bin .add (.tmp 71) (.const (.int .i64 1)), none⟩,
            ⟨(some 71), .mv (.tmp 94), none⟩])))))))
       (.reg [⟨(some 95), .pad 10 (.tmp 5), none⟩,
         ⟨(some 96), .ld none (.tmp 95), none⟩,
         ⟨(some 97), .ld (some 4) (.tmp 11), none⟩,
         ⟨(some 98), .bsl [(.int .i64 0), (.int .i64 0), (.slice none 0 0), (.bool false)] 1 [(0, 4, (.tmp 97))], none⟩,
         ⟨(some 99), .app 53 4 48 [(.int .i64 0), (.int .i64 0), (.slice none 0 0), (.bool false)] (.tmp 96) (.tmp 98), none⟩,
         ⟨(some 100), .pad 10 (.tmp 5), none⟩,
         ⟨none, .st 1 (.tmp 100) (.tmp 99), none⟩])))))
     (.reg [⟨(some 101), .bin .add (.tmp 57) (.const (.int .i64 1)), none⟩,
       ⟨(some 57), .mv (.tmp 101), none⟩])))))))
  (.seq (.reg [⟨(some 102), .ld (some 11) (.tmp 5), none⟩,
     ⟨none, .st 11 (.tmp 6) (.tmp 102), none⟩])
  .ret)))))))))
def scale_Cmd_v1.l1 : Nat → Int → Int → Int → Int → List (Int × Int × Int × Int × Int × Int × Int) → Int → List (Int × Int × Int × Int × Int × Int × Int) → Option (List (Int × Int × Int × Int × Int × Int × Int))
  | 0, _, _, _, _, _, _, _ => none
  | k + 1, i0_0, i0_1, i0_2, w1, x474, x496, y498 => if x496 < (x474.length : Int) then (((lgt x474 x496).bind fun (x503, x504, x505, x506, x507, x508, x509) => (((scale_Cmd_1_v1.f x504 x505 i0_0 i0_1 i0_2 w1).bind fun (t523, t524) => ((scale_Cmd_1_v1.f x506 x507 i0_0 i0_1 i0_2 w1).bind fun (t526, t527) => ((scale_Cmd_1_v1.f x508 x509 i0_0 i0_1 i0_2 w1).bind fun (t529, t530) => (some (t523, t524, t526, t527, t529, t530)))) : Option (Int × Int × Int × Int × Int × Int)).bind fun (x532, x533, x534, x535, x536, x537) => ((lapp y498 ([(x503, x532, x533, x534, x535, x536, x537)] : List (Int × Int × Int × Int × Int × Int × Int))).bind fun y539 => (some y539))) : Option (List (Int × Int × Int × Int × Int × Int × Int))).bind fun y543 => (scale_Cmd_v1.l1 k i0_0 i0_1 i0_2 w1 x474 (wr64 (x496 + 1)) y543)) else (some y498)
def scale_Cmd_v1.l0 : Nat → Int → Int → Int → Int → List (Int × Int × List (Int × Int × Int × Int × Int × Int × Int) × Bool) → Int → List (Int × Int × List (Int × Int × Int × Int × Int × Int × Int) × Bool) → Option (List (Int × Int × List (Int × Int × Int × Int × Int × Int × Int) × Bool))
  | 0, _, _, _, _, _, _, _ => none
  | k + 1, i0_0, i0_1, i0_2, w1, c2_10, x465, y467 => if x465 < (c2_10.length : Int) then (((lgt c2_10 x465).bind fun (x472, x473, x474, x475) => ((scale_Cmd_1_v1.f x472 x473 i0_0 i0_1 i0_2 w1).bind fun (t489, t490) => ((scale_Cmd_v1.l1 k i0_0 i0_1 i0_2 w1 x474 0 ([] : List (Int × Int × Int × Int × Int × Int × Int)) : Option (List (Int × Int × Int × Int × Int × Int × Int))).bind fun y547 => ((lapp y467 ([(t489, t490, y547, x475)] : List (Int × Int × List (Int × Int × Int × Int × Int × Int × Int) × Bool))).bind fun y549 => (some y549)))) : Option (List (Int × Int × List (Int × Int × Int × Int × Int × Int × Int) × Bool))).bind fun y553 => (scale_Cmd_v1.l0 k i0_0 i0_1 i0_2 w1 c2_10 (wr64 (x465 + 1)) y553)) else (some y467)
def scale_Cmd_v1.f (k : Nat) (i0_0 : Int) (i0_1 : Int) (i0_2 : Int) (w1 : Int) (c2_0 : Int) (c2_1 : Int) (c2_2 : Int) (c2_3 : Int) (c2_4 : Int) (c2_5 : Int) (c2_6 : Int) (c2_7 : Int) (c2_8 : Int) (c2_9 : Int) (c2_10 : List (Int × Int × List (Int × Int × Int × Int × Int × Int × Int) × Bool)) : Option (Int × Int × Int × Int × Int × Int × Int × Int × Int × Int × List (Int × Int × List (Int × Int × Int × Int × Int × Int × Int) × Bool)) := (scale_Cmd_1_v1.f c2_6 c2_7 i0_0 i0_1 i0_2 w1).bind fun (t444, t445) => ((scale_Cmd_1_v1.f c2_8 c2_9 i0_0 i0_1 i0_2 w1).bind fun (t447, t448) => ((if c2_3 = 2 then (some (mx t447 1)) else (some t447) : Option (Int)).bind fun x454 => ((if c2_0 = 2 then ((scale_At_v2.f i0_0 i0_1 i0_2 w1 c2_2).bind fun t459 => (some (mx t459 1))) else (some c2_2) : Option (Int)).bind fun x461 => ((scale_Cmd_v1.l0 k i0_0 i0_1 i0_2 w1 c2_10 0 ([] : List (Int × Int × List (Int × Int × Int × Int × Int × Int × Int) × Bool)) : Option (List (Int × Int × List (Int × Int × Int × Int × Int × Int × Int) × Bool))).bind fun y557 => (some (c2_0, c2_1, x461, c2_3, c2_4, c2_5, t444, t445, x454, t448, y557))))))
theorem scale_Cmd_v1.ok {S : Seal} {k : Nat} {i0_0 : Int} {i0_1 : Int} {i0_2 : Int} {w1 : Int} {c2_0 : Int} {c2_1 : Int} {c2_2 : Int} {c2_3 : Int} {c2_4 : Int} {c2_5 : Int} {c2_6 : Int} {c2_7 : Int} {c2_8 : Int} {c2_9 : Int} {c2_10 : List (Int × Int × List (Int × Int × Int × Int × Int × Int × Int) × Bool)} {r0_ : Int} {r1_ : Int} {r2_ : Int} {r3_ : Int} {r4_ : Int} {r5_ : Int} {r6_ : Int} {r7_ : Int} {r8_ : Int} {r9_ : Int} {r10_ : List (Int × Int × List (Int × Int × Int × Int × Int × Int × Int) × Bool)}{A_ : Int → Addr} (hE_ : EO gsE S A_ 94) {a_i0_3 : Option Addr} {n_i0_3 c_i0_3 : Nat} {a_i0_4 : Option Addr} {n_i0_4 c_i0_4 : Nat} {a_c2_10 : Option Addr} {c_c2_10 : Nat} (h_c2_10 : SlN (rdOf [] S) N_0 c2_10 a_c2_10) (e : scale_Cmd_v1.f k i0_0 i0_1 i0_2 w1 c2_0 c2_1 c2_2 c2_3 c2_4 c2_5 c2_6 c2_7 c2_8 c2_9 c2_10 = some (r0_, r1_, r2_, r3_, r4_, r5_, r6_, r7_, r8_, r9_, r10_)) :
    Cal Tryd.prog 15 [.agg #[.int .i64 i0_0, .int .i64 i0_1, .int .i64 i0_2, .slice a_i0_3 n_i0_3 c_i0_3, .slice a_i0_4 n_i0_4 c_i0_4], .int .i64 w1, .agg #[.int .i64 c2_0, .int .i64 c2_1, .int .i64 c2_2, .int .i64 c2_3, .int .i64 c2_4, .int .i64 c2_5, .int .i64 c2_6, .int .i64 c2_7, .int .i64 c2_8, .int .i64 c2_9, .slice a_c2_10 c2_10.length c_c2_10]] [] S fun v H' S' => ∃ (a0_ : Option Addr) (c0_ : Nat) (NF_ : List Own), v = .agg #[.int .i64 r0_, .int .i64 r1_, .int .i64 r2_, .int .i64 r3_, .int .i64 r4_, .int .i64 r5_, .int .i64 r6_, .int .i64 r7_, .int .i64 r8_, .int .i64 r9_, .slice a0_ r10_.length c0_] ∧ H' = (NF_ ++ []) ∧ S' = S ∧ SlN (rdOf (NF_ ++ []) S) N_0 r10_ a0_ := by
  unfold scale_Cmd_v1.f at e
  refine cal_of (c := c15) (N := 103) Tryd.func15 rfl rfl (by kernel_rfl) (rs := [.cn 11 6]) (by kernel_rfl) (Nat.le_of_ble_eq_true rfl) ?_
  unfold c15
  refine w_seq ?_
  refine w_reg fun all => ?_
  refine t_a (.box rfl rfl rfl) fun b440 fb440 sb440 => ?_
  refine t_a (.box rfl rfl rfl) fun b441 fb441 sb441 => ?_
  refine t_a (.box rfl rfl rfl) fun b442 fb442 sb442 => ?_
  refine t_a (.new rfl rfl) fun b443 fb443 sb443 => ?_
  refine t_keep [3, 4, 5, 6] (σ' := [(3, .pointer (some ⟨b440, 0, none⟩)), (4, .pointer (some ⟨b441, 0, none⟩)), (5, .pointer (some ⟨b442, 0, none⟩)), (6, .pointer (some ⟨b443, 0, none⟩))]) (by kernel_rfl) ?_
  refine t_end ?_
  show W _ _ _ _ _ _ _
  refine w_seq ?_
  refine w_reg fun all => ?_
  refine t_qz 2 [3, 4, 5, 6, 7] (σ' := [(3, .pointer (some ⟨b440, 0, none⟩)), (4, .pointer (some ⟨b441, 0, none⟩)), (5, .pointer (some ⟨b442, 0, none⟩)), (6, .pointer (some ⟨b443, 0, none⟩)), (7, .func (.func 33) #[] #[.pointer (some ⟨b440, 0, none⟩), .pointer (some ⟨b441, 0, none⟩)])]) (by kernel_rfl) ?_
  refine t_end ?_
  show W _ _ _ _ _ _ _
  refine w_seq ?_
  obtain ⟨⟨t444, t445⟩, h446, e⟩ := bind_of e
  try dsimp only at e
  obtain ⟨⟨t447, t448⟩, h449, e⟩ := bind_of e
  try dsimp only at e
  refine w_drwE mixed 12 [.v (.func (.func 33) #[] #[.pointer (some ⟨b440, 0, none⟩), .pointer (some ⟨b441, 0, none⟩)]), .v (.pointer (some ⟨b442, 3, none⟩)), .v (.pointer (some ⟨b442, 6, none⟩)), .v (.agg #[.int .i64 c2_6, .int .i64 c2_7]), .v (.agg #[.int .i64 t444, .int .i64 t445]), .v (.func (.func 33) #[] #[.pointer (some ⟨b440, 0, none⟩), .pointer (some ⟨b441, 0, none⟩)]), .v (.pointer (some ⟨b442, 3, none⟩)), .v (.pointer (some ⟨b442, 8, none⟩)), .v (.agg #[.int .i64 c2_8, .int .i64 c2_9]), .v (.agg #[.int .i64 t447, .int .i64 t448]), .v (.pointer (some ⟨b442, 3, none⟩)), .v (.pointer (some ⟨b442, 6, none⟩))] (by kernel_rfl) ?_ ?_
  · refine DI.sq 3 (by kernel_rfl) rfl ?_
    refine .cons (.ldn rfl rfl rfl (.at 1 rfl rfl)) ?_
    refine .cons (.clor (vs := [.agg #[.int .i64 c2_6, .int .i64 c2_7]]) (caps := #[.pointer (some ⟨b440, 0, none⟩), .pointer (some ⟨b441, 0, none⟩)]) (A := ([⟨b440, [.int .i64 i0_0, .int .i64 i0_1, .int .i64 i0_2, .slice a_i0_3 n_i0_3 c_i0_3, .slice a_i0_4 n_i0_4 c_i0_4], 5⟩, ⟨b441, [.int .i64 w1], 1⟩] : List Own)) (F0 := ([⟨b443, [.int .i64 0, .int .i64 0, .int .i64 0, .int .i64 0, .int .i64 0, .int .i64 0, .int .i64 0, .int .i64 0, .int .i64 0, .int .i64 0, .slice none 0 0], 11⟩, ⟨b442, [.int .i64 c2_0, .int .i64 c2_1, .int .i64 c2_2, .int .i64 c2_3, .int .i64 c2_4, .int .i64 c2_5, .int .i64 c2_6, .int .i64 c2_7, .int .i64 c2_8, .int .i64 c2_9, .slice a_c2_10 c2_10.length c_c2_10], 11⟩] : List Own)) rfl rfl rfl (by kernel_rfl) (by kernel_rfl) (sel_perm (is := [3, 2]) (by kernel_rfl)) (scale_Cmd_1_v1.ok hE_ h446)) ?_
    refine DI.sq 3 (by kernel_rfl) rfl ?_
    refine .cons (.ldn rfl rfl rfl (.at 1 rfl rfl)) ?_
    refine .cons (.clor (vs := [.agg #[.int .i64 c2_8, .int .i64 c2_9]]) (caps := #[.pointer (some ⟨b440, 0, none⟩), .pointer (some ⟨b441, 0, none⟩)]) (A := ([⟨b440, [.int .i64 i0_0, .int .i64 i0_1, .int .i64 i0_2, .slice a_i0_3 n_i0_3 c_i0_3, .slice a_i0_4 n_i0_4 c_i0_4], 5⟩, ⟨b441, [.int .i64 w1], 1⟩] : List Own)) (F0 := ([⟨b443, [.int .i64 0, .int .i64 0, .int .i64 0, .int .i64 0, .int .i64 0, .int .i64 0, .int .i64 0, .int .i64 0, .int .i64 0, .int .i64 0, .slice none 0 0], 11⟩, ⟨b442, [.int .i64 c2_0, .int .i64 c2_1, .int .i64 c2_2, .int .i64 c2_3, .int .i64 c2_4, .int .i64 c2_5, .int .i64 c2_6, .int .i64 c2_7, .int .i64 c2_8, .int .i64 c2_9, .slice a_c2_10 c2_10.length c_c2_10], 11⟩] : List Own)) rfl rfl rfl (by kernel_rfl) (by kernel_rfl) (sel_perm (is := [3, 2]) (by kernel_rfl)) (scale_Cmd_1_v1.ok hE_ h449)) ?_
    refine DI.sq 2 (by kernel_rfl) rfl ?_
    exact .nil
  refine fk_q 12 [3, 4, 5, 6, 7, 20, 25, 27] (σ' := [(3, .pointer (some ⟨b440, 0, none⟩)), (4, .pointer (some ⟨b441, 0, none⟩)), (5, .pointer (some ⟨b442, 0, none⟩)), (6, .pointer (some ⟨b443, 0, none⟩)), (7, .func (.func 33) #[] #[.pointer (some ⟨b440, 0, none⟩), .pointer (some ⟨b441, 0, none⟩)]), (20, .agg #[.int .i64 t444, .int .i64 t445]), (25, .agg #[.int .i64 t447, .int .i64 t448]), (27, .pointer (some ⟨b442, 6, none⟩))]) t_more (by kernel_rfl) ?_
  refine fk_nil fun all => ?_
  refine t_sti 1 (cs := [.int .i64 c2_0, .int .i64 c2_1, .int .i64 c2_2, .int .i64 c2_3, .int .i64 c2_4, .int .i64 c2_5, .int .i64 t444, .int .i64 t445, .int .i64 c2_8, .int .i64 c2_9, .slice a_c2_10 c2_10.length c_c2_10]) rfl rfl rfl rfl rfl rfl rfl rfl rfl ?_
  refine t_qz 2 [3, 4, 5, 6, 7, 25, 29] (σ' := [(3, .pointer (some ⟨b440, 0, none⟩)), (4, .pointer (some ⟨b441, 0, none⟩)), (5, .pointer (some ⟨b442, 0, none⟩)), (6, .pointer (some ⟨b443, 0, none⟩)), (7, .func (.func 33) #[] #[.pointer (some ⟨b440, 0, none⟩), .pointer (some ⟨b441, 0, none⟩)]), (25, .agg #[.int .i64 t447, .int .i64 t448]), (29, .pointer (some ⟨b442, 8, none⟩))]) (by kernel_rfl) ?_
  refine t_sti 1 (cs := [.int .i64 c2_0, .int .i64 c2_1, .int .i64 c2_2, .int .i64 c2_3, .int .i64 c2_4, .int .i64 c2_5, .int .i64 t444, .int .i64 t445, .int .i64 t447, .int .i64 t448, .slice a_c2_10 c2_10.length c_c2_10]) rfl rfl rfl rfl rfl rfl rfl rfl rfl ?_
  refine t_keep [3, 4, 5, 6, 7] (σ' := [(3, .pointer (some ⟨b440, 0, none⟩)), (4, .pointer (some ⟨b441, 0, none⟩)), (5, .pointer (some ⟨b442, 0, none⟩)), (6, .pointer (some ⟨b443, 0, none⟩)), (7, .func (.func 33) #[] #[.pointer (some ⟨b440, 0, none⟩), .pointer (some ⟨b441, 0, none⟩)])]) (by kernel_rfl) ?_
  refine t_end ?_
  show W _ _ _ _ _ _ _
  obtain ⟨x454, e451, e⟩ := bind_of e
  refine w_cut [3, 4, 5, 6, 7] (fun σ_ H_ S_ => [(3, .pointer (some ⟨b440, 0, none⟩)), (4, .pointer (some ⟨b441, 0, none⟩)), (5, .pointer (some ⟨b442, 0, none⟩)), (6, .pointer (some ⟨b443, 0, none⟩)), (7, .func (.func 33) #[] #[.pointer (some ⟨b440, 0, none⟩), .pointer (some ⟨b441, 0, none⟩)])] = σ_ ∧ ([⟨b443, [.int .i64 0, .int .i64 0, .int .i64 0, .int .i64 0, .int .i64 0, .int .i64 0, .int .i64 0, .int .i64 0, .int .i64 0, .int .i64 0, .slice none 0 0], 11⟩, ⟨b442, [.int .i64 c2_0, .int .i64 c2_1, .int .i64 c2_2, .int .i64 c2_3, .int .i64 c2_4, .int .i64 c2_5, .int .i64 t444, .int .i64 t445, .int .i64 x454, .int .i64 t448, .slice a_c2_10 c2_10.length c_c2_10], 11⟩, ⟨b441, [.int .i64 w1], 1⟩, ⟨b440, [.int .i64 i0_0, .int .i64 i0_1, .int .i64 i0_2, .slice a_i0_3 n_i0_3 c_i0_3, .slice a_i0_4 n_i0_4 c_i0_4], 5⟩] : List Own) = H_ ∧ S = S_) ?_ ?_
  · show W _ _ _ _ _ _ _
    refine w_seq ?_
    refine w_reg fun all => ?_
    refine t_qz 2 [3, 4, 5, 6, 7, 31] (σ' := [(3, .pointer (some ⟨b440, 0, none⟩)), (4, .pointer (some ⟨b441, 0, none⟩)), (5, .pointer (some ⟨b442, 0, none⟩)), (6, .pointer (some ⟨b443, 0, none⟩)), (7, .func (.func 33) #[] #[.pointer (some ⟨b440, 0, none⟩), .pointer (some ⟨b441, 0, none⟩)]), (31, .pointer (some ⟨b442, 3, none⟩))]) (by kernel_rfl) ?_
    refine t_v (.ld1 rfl rfl rfl (.at 1 rfl rfl)) ?_
    by_cases c453 : c2_3 = 2
    · rw [if_pos c453] at e451
      have c453b : (c2_3 == 2) = true := beq_iff_eq.mpr c453
      refine t_v (dv_quiet rfl (congrArg (fun t => some (Value.bool t)) c453b)) ?_
      refine t_keep [3, 4, 5, 6, 7, 33] (σ' := [(3, .pointer (some ⟨b440, 0, none⟩)), (4, .pointer (some ⟨b441, 0, none⟩)), (5, .pointer (some ⟨b442, 0, none⟩)), (6, .pointer (some ⟨b443, 0, none⟩)), (7, .func (.func 33) #[] #[.pointer (some ⟨b440, 0, none⟩), .pointer (some ⟨b441, 0, none⟩)]), (33, .bool true)]) (by kernel_rfl) ?_
      refine t_end ?_
      show W _ _ _ _ _ _ _
      refine w_cond rfl (fun _ => ?_) (fun c_ => by cases c_)
      show W _ _ _ _ _ _ _
      refine w_reg fun all => ?_
      refine t_qz 3 [3, 4, 5, 6, 7, 36] (σ' := [(3, .pointer (some ⟨b440, 0, none⟩)), (4, .pointer (some ⟨b441, 0, none⟩)), (5, .pointer (some ⟨b442, 0, none⟩)), (6, .pointer (some ⟨b443, 0, none⟩)), (7, .func (.func 33) #[] #[.pointer (some ⟨b440, 0, none⟩), .pointer (some ⟨b441, 0, none⟩)]), (36, .pointer (some ⟨b442, 8, none⟩))]) (by kernel_rfl) ?_
      refine t_v (.ld1 rfl rfl rfl (.at 1 rfl rfl)) ?_
      refine t_qz 4 [3, 4, 5, 6, 7, 38, 41] (σ' := [(3, .pointer (some ⟨b440, 0, none⟩)), (4, .pointer (some ⟨b441, 0, none⟩)), (5, .pointer (some ⟨b442, 0, none⟩)), (6, .pointer (some ⟨b443, 0, none⟩)), (7, .func (.func 33) #[] #[.pointer (some ⟨b440, 0, none⟩), .pointer (some ⟨b441, 0, none⟩)]), (38, .int .i64 (mx t447 1)), (41, .pointer (some ⟨b442, 8, none⟩))]) (by kernel_rfl) ?_
      refine t_sti 1 (cs := [.int .i64 c2_0, .int .i64 c2_1, .int .i64 c2_2, .int .i64 c2_3, .int .i64 c2_4, .int .i64 c2_5, .int .i64 t444, .int .i64 t445, .int .i64 (mx t447 1), .int .i64 t448, .slice a_c2_10 c2_10.length c_c2_10]) rfl rfl rfl rfl rfl rfl rfl rfl rfl ?_
      refine t_keep [3, 4, 5, 6, 7] (σ' := [(3, .pointer (some ⟨b440, 0, none⟩)), (4, .pointer (some ⟨b441, 0, none⟩)), (5, .pointer (some ⟨b442, 0, none⟩)), (6, .pointer (some ⟨b443, 0, none⟩)), (7, .func (.func 33) #[] #[.pointer (some ⟨b440, 0, none⟩), .pointer (some ⟨b441, 0, none⟩)])]) (by kernel_rfl) ?_
      refine t_end ?_
      obtain rfl := Option.some.inj e451
      exact ⟨([⟨b443, [.int .i64 0, .int .i64 0, .int .i64 0, .int .i64 0, .int .i64 0, .int .i64 0, .int .i64 0, .int .i64 0, .int .i64 0, .int .i64 0, .slice none 0 0], 11⟩, ⟨b442, [.int .i64 c2_0, .int .i64 c2_1, .int .i64 c2_2, .int .i64 c2_3, .int .i64 c2_4, .int .i64 c2_5, .int .i64 t444, .int .i64 t445, .int .i64 (mx t447 1), .int .i64 t448, .slice a_c2_10 c2_10.length c_c2_10], 11⟩, ⟨b441, [.int .i64 w1], 1⟩, ⟨b440, [.int .i64 i0_0, .int .i64 i0_1, .int .i64 i0_2, .slice a_i0_3 n_i0_3 c_i0_3, .slice a_i0_4 n_i0_4 c_i0_4], 5⟩] : List Own), S, VS.sel [0, 0, 0, 0] (by kernel_rfl), by kernel_rfl, rfl, rfl⟩
    · rw [if_neg c453] at e451
      have c453b : (c2_3 == 2) = false := beq_eq_false_iff_ne.mpr c453
      refine t_v (dv_quiet rfl (congrArg (fun t => some (Value.bool t)) c453b)) ?_
      refine t_keep [3, 4, 5, 6, 7, 33] (σ' := [(3, .pointer (some ⟨b440, 0, none⟩)), (4, .pointer (some ⟨b441, 0, none⟩)), (5, .pointer (some ⟨b442, 0, none⟩)), (6, .pointer (some ⟨b443, 0, none⟩)), (7, .func (.func 33) #[] #[.pointer (some ⟨b440, 0, none⟩), .pointer (some ⟨b441, 0, none⟩)]), (33, .bool false)]) (by kernel_rfl) ?_
      refine t_end ?_
      show W _ _ _ _ _ _ _
      refine w_cond rfl (fun c_ => by cases c_) (fun _ => ?_)
      show W _ _ _ _ _ _ _
      refine w_skip ?_
      obtain rfl := Option.some.inj e451
      exact ⟨([⟨b443, [.int .i64 0, .int .i64 0, .int .i64 0, .int .i64 0, .int .i64 0, .int .i64 0, .int .i64 0, .int .i64 0, .int .i64 0, .int .i64 0, .slice none 0 0], 11⟩, ⟨b442, [.int .i64 c2_0, .int .i64 c2_1, .int .i64 c2_2, .int .i64 c2_3, .int .i64 c2_4, .int .i64 c2_5, .int .i64 t444, .int .i64 t445, .int .i64 t447, .int .i64 t448, .slice a_c2_10 c2_10.length c_c2_10], 11⟩, ⟨b441, [.int .i64 w1], 1⟩, ⟨b440, [.int .i64 i0_0, .int .i64 i0_1, .int .i64 i0_2, .slice a_i0_3 n_i0_3 c_i0_3, .slice a_i0_4 n_i0_4 c_i0_4], 5⟩] : List Own), S, VS.sel [0, 0, 0, 0] (by kernel_rfl), by kernel_rfl, rfl, rfl⟩
  · rintro σ_ H_ S_ ⟨rfl, rfl, rfl⟩
    obtain ⟨x461, e456, e⟩ := bind_of e
    refine w_cut [5, 6, 7] (fun σ_ H_ S_ => [(5, .pointer (some ⟨b442, 0, none⟩)), (6, .pointer (some ⟨b443, 0, none⟩)), (7, .func (.func 33) #[] #[.pointer (some ⟨b440, 0, none⟩), .pointer (some ⟨b441, 0, none⟩)])] = σ_ ∧ ([⟨b443, [.int .i64 0, .int .i64 0, .int .i64 0, .int .i64 0, .int .i64 0, .int .i64 0, .int .i64 0, .int .i64 0, .int .i64 0, .int .i64 0, .slice none 0 0], 11⟩, ⟨b442, [.int .i64 c2_0, .int .i64 c2_1, .int .i64 x461, .int .i64 c2_3, .int .i64 c2_4, .int .i64 c2_5, .int .i64 t444, .int .i64 t445, .int .i64 x454, .int .i64 t448, .slice a_c2_10 c2_10.length c_c2_10], 11⟩, ⟨b441, [.int .i64 w1], 1⟩, ⟨b440, [.int .i64 i0_0, .int .i64 i0_1, .int .i64 i0_2, .slice a_i0_3 n_i0_3 c_i0_3, .slice a_i0_4 n_i0_4 c_i0_4], 5⟩] : List Own) = H_ ∧ S = S_) ?_ ?_
    · show W _ _ _ _ _ _ _
      refine w_seq ?_
      refine w_reg fun all => ?_
      refine t_qz 1 [3, 4, 5, 6, 7, 42] (σ' := [(3, .pointer (some ⟨b440, 0, none⟩)), (4, .pointer (some ⟨b441, 0, none⟩)), (5, .pointer (some ⟨b442, 0, none⟩)), (6, .pointer (some ⟨b443, 0, none⟩)), (7, .func (.func 33) #[] #[.pointer (some ⟨b440, 0, none⟩), .pointer (some ⟨b441, 0, none⟩)]), (42, .pointer (some ⟨b442, 0, none⟩))]) (by kernel_rfl) ?_
      refine t_v (.ld1 rfl rfl rfl (.at 1 rfl rfl)) ?_
      by_cases c458 : c2_0 = 2
      · rw [if_pos c458] at e456
        have c458b : (c2_0 == 2) = true := beq_iff_eq.mpr c458
        refine t_v (dv_quiet rfl (congrArg (fun t => some (Value.bool t)) c458b)) ?_
        refine t_keep [3, 4, 5, 6, 7, 44] (σ' := [(3, .pointer (some ⟨b440, 0, none⟩)), (4, .pointer (some ⟨b441, 0, none⟩)), (5, .pointer (some ⟨b442, 0, none⟩)), (6, .pointer (some ⟨b443, 0, none⟩)), (7, .func (.func 33) #[] #[.pointer (some ⟨b440, 0, none⟩), .pointer (some ⟨b441, 0, none⟩)]), (44, .bool true)]) (by kernel_rfl) ?_
        refine t_end ?_
        show W _ _ _ _ _ _ _
        refine w_cond rfl (fun _ => ?_) (fun c_ => by cases c_)
        show W _ _ _ _ _ _ _
        refine w_reg fun all => ?_
        refine t_v (.ldn rfl rfl rfl (.at 3 rfl rfl)) ?_
        refine t_v (.ld1 rfl rfl rfl (.at 2 rfl rfl)) ?_
        refine t_qz 1 [5, 6, 7, 45, 46, 47] (σ' := [(5, .pointer (some ⟨b442, 0, none⟩)), (6, .pointer (some ⟨b443, 0, none⟩)), (7, .func (.func 33) #[] #[.pointer (some ⟨b440, 0, none⟩), .pointer (some ⟨b441, 0, none⟩)]), (45, .agg #[.int .i64 i0_0, .int .i64 i0_1, .int .i64 i0_2, .slice a_i0_3 n_i0_3 c_i0_3, .slice a_i0_4 n_i0_4 c_i0_4]), (46, .int .i64 w1), (47, .pointer (some ⟨b442, 2, none⟩))]) (by kernel_rfl) ?_
        refine t_v (.ld1 rfl rfl rfl (.at 1 rfl rfl)) ?_
        obtain ⟨t459, h460, e456⟩ := bind_of e456
        refine t_v (.call (vs := [.agg #[.int .i64 i0_0, .int .i64 i0_1, .int .i64 i0_2, .slice a_i0_3 n_i0_3 c_i0_3, .slice a_i0_4 n_i0_4 c_i0_4], .int .i64 w1, .int .i64 c2_2]) rfl rfl (by kernel_rfl) (scale_At_v2.ok hE_ h460)) ?_
        refine t_qz 2 [5, 6, 7, 50, 51] (σ' := [(5, .pointer (some ⟨b442, 0, none⟩)), (6, .pointer (some ⟨b443, 0, none⟩)), (7, .func (.func 33) #[] #[.pointer (some ⟨b440, 0, none⟩), .pointer (some ⟨b441, 0, none⟩)]), (50, .int .i64 (mx t459 1)), (51, .pointer (some ⟨b442, 2, none⟩))]) (by kernel_rfl) ?_
        refine t_sti 1 (cs := [.int .i64 c2_0, .int .i64 c2_1, .int .i64 (mx t459 1), .int .i64 c2_3, .int .i64 c2_4, .int .i64 c2_5, .int .i64 t444, .int .i64 t445, .int .i64 x454, .int .i64 t448, .slice a_c2_10 c2_10.length c_c2_10]) rfl rfl rfl rfl rfl rfl rfl rfl rfl ?_
        refine t_keep [5, 6, 7] (σ' := [(5, .pointer (some ⟨b442, 0, none⟩)), (6, .pointer (some ⟨b443, 0, none⟩)), (7, .func (.func 33) #[] #[.pointer (some ⟨b440, 0, none⟩), .pointer (some ⟨b441, 0, none⟩)])]) (by kernel_rfl) ?_
        refine t_end ?_
        obtain rfl := Option.some.inj e456
        exact ⟨([⟨b443, [.int .i64 0, .int .i64 0, .int .i64 0, .int .i64 0, .int .i64 0, .int .i64 0, .int .i64 0, .int .i64 0, .int .i64 0, .int .i64 0, .slice none 0 0], 11⟩, ⟨b442, [.int .i64 c2_0, .int .i64 c2_1, .int .i64 (mx t459 1), .int .i64 c2_3, .int .i64 c2_4, .int .i64 c2_5, .int .i64 t444, .int .i64 t445, .int .i64 x454, .int .i64 t448, .slice a_c2_10 c2_10.length c_c2_10], 11⟩, ⟨b441, [.int .i64 w1], 1⟩, ⟨b440, [.int .i64 i0_0, .int .i64 i0_1, .int .i64 i0_2, .slice a_i0_3 n_i0_3 c_i0_3, .slice a_i0_4 n_i0_4 c_i0_4], 5⟩] : List Own), S, VS.sel [0, 0, 0, 0] (by kernel_rfl), by kernel_rfl, rfl, rfl⟩
      · rw [if_neg c458] at e456
        have c458b : (c2_0 == 2) = false := beq_eq_false_iff_ne.mpr c458
        refine t_v (dv_quiet rfl (congrArg (fun t => some (Value.bool t)) c458b)) ?_
        refine t_keep [3, 4, 5, 6, 7, 44] (σ' := [(3, .pointer (some ⟨b440, 0, none⟩)), (4, .pointer (some ⟨b441, 0, none⟩)), (5, .pointer (some ⟨b442, 0, none⟩)), (6, .pointer (some ⟨b443, 0, none⟩)), (7, .func (.func 33) #[] #[.pointer (some ⟨b440, 0, none⟩), .pointer (some ⟨b441, 0, none⟩)]), (44, .bool false)]) (by kernel_rfl) ?_
        refine t_end ?_
        show W _ _ _ _ _ _ _
        refine w_cond rfl (fun c_ => by cases c_) (fun _ => ?_)
        show W _ _ _ _ _ _ _
        refine w_skip ?_
        obtain rfl := Option.some.inj e456
        exact ⟨([⟨b443, [.int .i64 0, .int .i64 0, .int .i64 0, .int .i64 0, .int .i64 0, .int .i64 0, .int .i64 0, .int .i64 0, .int .i64 0, .int .i64 0, .slice none 0 0], 11⟩, ⟨b442, [.int .i64 c2_0, .int .i64 c2_1, .int .i64 c2_2, .int .i64 c2_3, .int .i64 c2_4, .int .i64 c2_5, .int .i64 t444, .int .i64 t445, .int .i64 x454, .int .i64 t448, .slice a_c2_10 c2_10.length c_c2_10], 11⟩, ⟨b441, [.int .i64 w1], 1⟩, ⟨b440, [.int .i64 i0_0, .int .i64 i0_1, .int .i64 i0_2, .slice a_i0_3 n_i0_3 c_i0_3, .slice a_i0_4 n_i0_4 c_i0_4], 5⟩] : List Own), S, VS.sel [0, 0, 0, 0] (by kernel_rfl), by kernel_rfl, rfl, rfl⟩
    · rintro σ_ H_ S_ ⟨rfl, rfl, rfl⟩
      refine w_seq ?_
      refine w_reg fun all => ?_
      refine t_qz 1 [5, 6, 7, 52] (σ' := [(5, .pointer (some ⟨b442, 0, none⟩)), (6, .pointer (some ⟨b443, 0, none⟩)), (7, .func (.func 33) #[] #[.pointer (some ⟨b440, 0, none⟩), .pointer (some ⟨b441, 0, none⟩)]), (52, .pointer (some ⟨b442, 10, none⟩))]) (by kernel_rfl) ?_
      refine t_v (.ld1 rfl rfl rfl (.at 1 rfl rfl)) ?_
      refine t_qz 1 [5, 6, 7, 8] (σ' := [(5, .pointer (some ⟨b442, 0, none⟩)), (6, .pointer (some ⟨b443, 0, none⟩)), (7, .func (.func 33) #[] #[.pointer (some ⟨b440, 0, none⟩), .pointer (some ⟨b441, 0, none⟩)]), (8, .slice a_c2_10 c2_10.length c_c2_10)]) (by kernel_rfl) ?_
      refine t_end ?_
      show W _ _ _ _ _ _ _
      refine w_seq ?_
      refine w_reg fun all => ?_
      refine t_qz 1 [5, 6, 7, 8, 54] (σ' := [(5, .pointer (some ⟨b442, 0, none⟩)), (6, .pointer (some ⟨b443, 0, none⟩)), (7, .func (.func 33) #[] #[.pointer (some ⟨b440, 0, none⟩), .pointer (some ⟨b441, 0, none⟩)]), (8, .slice a_c2_10 c2_10.length c_c2_10), (54, .pointer (some ⟨b442, 10, none⟩))]) (by kernel_rfl) ?_
      refine t_sti 1 (cs := [.int .i64 c2_0, .int .i64 c2_1, .int .i64 x461, .int .i64 c2_3, .int .i64 c2_4, .int .i64 c2_5, .int .i64 t444, .int .i64 t445, .int .i64 x454, .int .i64 t448, .slice none 0 0]) rfl rfl rfl rfl rfl rfl rfl rfl rfl ?_
      refine t_keep [5, 6, 7, 8] (σ' := [(5, .pointer (some ⟨b442, 0, none⟩)), (6, .pointer (some ⟨b443, 0, none⟩)), (7, .func (.func 33) #[] #[.pointer (some ⟨b440, 0, none⟩), .pointer (some ⟨b441, 0, none⟩)]), (8, .slice a_c2_10 c2_10.length c_c2_10)]) (by kernel_rfl) ?_
      refine t_end ?_
      show W _ _ _ _ _ _ _
      obtain ⟨y557, e463, e⟩ := bind_of e
      refine w_cut [5, 6] (fun σ_ H_ S_ => ∃ (a556 : Option Nat) (na556 : Nat) (csa556 : List Value) (Fa556 : List Own), [(5, .pointer (some ⟨b442, 0, none⟩)), (6, .pointer (some ⟨b443, 0, none⟩))] = σ_ ∧ (([⟨b443, [.int .i64 0, .int .i64 0, .int .i64 0, .int .i64 0, .int .i64 0, .int .i64 0, .int .i64 0, .int .i64 0, .int .i64 0, .int .i64 0, .slice none 0 0], 11⟩, ⟨b442, [.int .i64 c2_0, .int .i64 c2_1, .int .i64 x461, .int .i64 c2_3, .int .i64 c2_4, .int .i64 c2_5, .int .i64 t444, .int .i64 t445, .int .i64 x454, .int .i64 t448, .slice (ad a556) y557.length (na556 / 4)], 11⟩, ⟨b441, [.int .i64 w1], 1⟩, ⟨b440, [.int .i64 i0_0, .int .i64 i0_1, .int .i64 i0_2, .slice a_i0_3 n_i0_3 c_i0_3, .slice a_i0_4 n_i0_4 c_i0_4], 5⟩, ⟨a556, csa556, na556⟩] : List Own) ++ (Fa556 ++ [])) = H_ ∧ S = S_ ∧ RL (rdOf (Fa556 ++ []) S) N_0 y557 csa556) ?_ ?_
      · show W _ _ _ _ _ _ _
        refine w_seq ?_
        refine w_reg fun all => ?_
        refine t_qz 3 [5, 6, 7, 55, 56, 57] (σ' := [(5, .pointer (some ⟨b442, 0, none⟩)), (6, .pointer (some ⟨b443, 0, none⟩)), (7, .func (.func 33) #[] #[.pointer (some ⟨b440, 0, none⟩), .pointer (some ⟨b441, 0, none⟩)]), (55, .slice a_c2_10 c2_10.length c_c2_10), (56, .int .i64 (c2_10.length : Int)), (57, .int .i64 0)]) (by kernel_rfl) ?_
        refine t_end ?_
        show W _ _ _ _ _ _ _
        refine w_block ?_
        refine w_vs VS.vac ?_
        refine w_kp [5, 6, 7, 55, 56, 57] (σ' := [(5, .pointer (some ⟨b442, 0, none⟩)), (6, .pointer (some ⟨b443, 0, none⟩)), (7, .func (.func 33) #[] #[.pointer (some ⟨b440, 0, none⟩), .pointer (some ⟨b441, 0, none⟩)]), (55, .slice a_c2_10 c2_10.length c_c2_10), (56, .int .i64 (c2_10.length : Int)), (57, .int .i64 0)]) (by kernel_rfl) ?_
        refine w_vs (H' := (([⟨none, [], 0⟩, ⟨b443, [.int .i64 0, .int .i64 0, .int .i64 0, .int .i64 0, .int .i64 0, .int .i64 0, .int .i64 0, .int .i64 0, .int .i64 0, .int .i64 0, .slice none 0 0], 11⟩, ⟨b442, [.int .i64 c2_0, .int .i64 c2_1, .int .i64 x461, .int .i64 c2_3, .int .i64 c2_4, .int .i64 c2_5, .int .i64 t444, .int .i64 t445, .int .i64 x454, .int .i64 t448, .slice (ad none) ([] : List (Int × Int × List (Int × Int × Int × Int × Int × Int × Int) × Bool)).length (0 / 4)], 11⟩, ⟨b441, [.int .i64 w1], 1⟩, ⟨b440, [.int .i64 i0_0, .int .i64 i0_1, .int .i64 i0_2, .slice a_i0_3 n_i0_3 c_i0_3, .slice a_i0_4 n_i0_4 c_i0_4], 5⟩] : List Own) ++ (([] : List Own) ++ []))) (S' := S) (VS.treeA (.l ([⟨none, [], 0⟩, ⟨b443, [.int .i64 0, .int .i64 0, .int .i64 0, .int .i64 0, .int .i64 0, .int .i64 0, .int .i64 0, .int .i64 0, .int .i64 0, .int .i64 0, .slice none 0 0], 11⟩, ⟨b442, [.int .i64 c2_0, .int .i64 c2_1, .int .i64 x461, .int .i64 c2_3, .int .i64 c2_4, .int .i64 c2_5, .int .i64 t444, .int .i64 t445, .int .i64 x454, .int .i64 t448, .slice (ad none) ([] : List (Int × Int × List (Int × Int × Int × Int × Int × Int × Int) × Bool)).length (0 / 4)], 11⟩, ⟨b441, [.int .i64 w1], 1⟩, ⟨b440, [.int .i64 i0_0, .int .i64 i0_1, .int .i64 i0_2, .slice a_i0_3 n_i0_3 c_i0_3, .slice a_i0_4 n_i0_4 c_i0_4], 5⟩] : List Own)) (.a (.l ([⟨none, [], 0⟩, ⟨b443, [.int .i64 0, .int .i64 0, .int .i64 0, .int .i64 0, .int .i64 0, .int .i64 0, .int .i64 0, .int .i64 0, .int .i64 0, .int .i64 0, .slice none 0 0], 11⟩, ⟨b442, [.int .i64 c2_0, .int .i64 c2_1, .int .i64 x461, .int .i64 c2_3, .int .i64 c2_4, .int .i64 c2_5, .int .i64 t444, .int .i64 t445, .int .i64 x454, .int .i64 t448, .slice (ad none) ([] : List (Int × Int × List (Int × Int × Int × Int × Int × Int × Int) × Bool)).length (0 / 4)], 11⟩, ⟨b441, [.int .i64 w1], 1⟩, ⟨b440, [.int .i64 i0_0, .int .i64 i0_1, .int .i64 i0_2, .slice a_i0_3 n_i0_3 c_i0_3, .slice a_i0_4 n_i0_4 c_i0_4], 5⟩] : List Own)) (.a (.l ([] : List Own)) (.l []))) [0, 0, 0, 0, 0] (by kernel_rfl)) ?_
        refine w_loop (fun n_ σ_ H_ S_ => ∃ (x465 : Int) (y467 : List (Int × Int × List (Int × Int × Int × Int × Int × Int × Int) × Bool)), ∃ (a466 : Option Nat) (na466 : Nat) (csa466 : List Value) (Fa466 : List Own), [(5, .pointer (some ⟨b442, 0, none⟩)), (6, .pointer (some ⟨b443, 0, none⟩)), (7, .func (.func 33) #[] #[.pointer (some ⟨b440, 0, none⟩), .pointer (some ⟨b441, 0, none⟩)]), (55, .slice a_c2_10 c2_10.length c_c2_10), (56, .int .i64 (c2_10.length : Int)), (57, .int .i64 x465)] = σ_ ∧ (([⟨a466, csa466, na466⟩, ⟨b443, [.int .i64 0, .int .i64 0, .int .i64 0, .int .i64 0, .int .i64 0, .int .i64 0, .int .i64 0, .int .i64 0, .int .i64 0, .int .i64 0, .slice none 0 0], 11⟩, ⟨b442, [.int .i64 c2_0, .int .i64 c2_1, .int .i64 x461, .int .i64 c2_3, .int .i64 c2_4, .int .i64 c2_5, .int .i64 t444, .int .i64 t445, .int .i64 x454, .int .i64 t448, .slice (ad a466) y467.length (na466 / 4)], 11⟩, ⟨b441, [.int .i64 w1], 1⟩, ⟨b440, [.int .i64 i0_0, .int .i64 i0_1, .int .i64 i0_2, .slice a_i0_3 n_i0_3 c_i0_3, .slice a_i0_4 n_i0_4 c_i0_4], 5⟩] : List Own) ++ (Fa466 ++ [])) = H_ ∧ S = S_ ∧ scale_Cmd_v1.l0 n_ i0_0 i0_1 i0_2 w1 c2_10 x465 y467 = some y557 ∧ RL (rdOf (Fa466 ++ []) S) N_0 y467 csa466) _ ⟨0, ([] : List (Int × Int × List (Int × Int × Int × Int × Int × Int × Int) × Bool)), none, 0, [], ([] : List Own), rfl, rfl, rfl, e463, RL.mono (RL.nil (R := rdOf [] S) (E := N_0)) (rd_sub seg_hd)⟩ ?_
        rintro n555 σ_ H_ S_ ⟨x465, y467, a466, na466, csa466, Fa466, rfl, rfl, rfl, e463, hra466⟩
        cases n555 with
        | zero => rw [scale_Cmd_v1.l0.eq_1] at e463; cases e463
        | succ k_ =>
          rw [scale_Cmd_v1.l0.eq_2] at e463
          refine w_seq ?_
          refine w_reg fun all => ?_
          by_cases c468 : x465 < (c2_10.length : Int)
          · rw [if_pos c468] at e463
            have c468b : (decide (x465 < (c2_10.length : Int))) = true := decide_eq_true c468
            refine t_v (dv_quiet rfl (congrArg (fun t => some (Value.bool t)) c468b)) ?_
            refine t_keep [5, 6, 7, 55, 56, 57, 58] (σ' := [(5, .pointer (some ⟨b442, 0, none⟩)), (6, .pointer (some ⟨b443, 0, none⟩)), (7, .func (.func 33) #[] #[.pointer (some ⟨b440, 0, none⟩), .pointer (some ⟨b441, 0, none⟩)]), (55, .slice a_c2_10 c2_10.length c_c2_10), (56, .int .i64 (c2_10.length : Int)), (57, .int .i64 x465), (58, .bool true)]) (by kernel_rfl) ?_
            refine t_end ?_
            show W _ _ _ _ _ _ _
            refine w_seq ?_
            refine w_cond rfl (fun _ => ?_) (fun c_ => by cases c_)
            show W _ _ _ _ _ _ _
            refine w_skip ?_
            show W _ _ _ _ _ _ _
            obtain ⟨y553, e470, e463⟩ := bind_of e463
            refine w_cut [5, 6, 7, 55, 56, 57] (fun σ_ H_ S_ => ∃ (a552 : Option Nat) (na552 : Nat) (csa552 : List Value) (Fa552 : List Own), [(5, .pointer (some ⟨b442, 0, none⟩)), (6, .pointer (some ⟨b443, 0, none⟩)), (7, .func (.func 33) #[] #[.pointer (some ⟨b440, 0, none⟩), .pointer (some ⟨b441, 0, none⟩)]), (55, .slice a_c2_10 c2_10.length c_c2_10), (56, .int .i64 (c2_10.length : Int)), (57, .int .i64 x465)] = σ_ ∧ (([⟨b443, [.int .i64 0, .int .i64 0, .int .i64 0, .int .i64 0, .int .i64 0, .int .i64 0, .int .i64 0, .int .i64 0, .int .i64 0, .int .i64 0, .slice none 0 0], 11⟩, ⟨b442, [.int .i64 c2_0, .int .i64 c2_1, .int .i64 x461, .int .i64 c2_3, .int .i64 c2_4, .int .i64 c2_5, .int .i64 t444, .int .i64 t445, .int .i64 x454, .int .i64 t448, .slice (ad a552) y553.length (na552 / 4)], 11⟩, ⟨b441, [.int .i64 w1], 1⟩, ⟨b440, [.int .i64 i0_0, .int .i64 i0_1, .int .i64 i0_2, .slice a_i0_3 n_i0_3 c_i0_3, .slice a_i0_4 n_i0_4 c_i0_4], 5⟩, ⟨a552, csa552, na552⟩] : List Own) ++ (Fa552 ++ [])) = H_ ∧ S = S_ ∧ RL (rdOf (Fa552 ++ []) S) N_0 y553 csa552) ?_ ?_
            · show W _ _ _ _ _ _ _
              refine w_block ?_
              refine w_seq ?_
              refine w_reg fun all => ?_
              obtain ⟨⟨x472, x473, x474, x475⟩, hx476, e470⟩ := bind_of e470
              try dsimp only at e470
              obtain ⟨lb477, lo478, ll479, vs_, la480, lR481, lv482, hrep_, lz483, lu484⟩ := sln_get (E := N_0) h_c2_10 hx476
              obtain ⟨na485, nc486, rfl, nh487⟩ := hrep_
              refine t_v (.quiet rfl (ixs_sle rfl rfl la480 lz483 lu484)) ?_
              refine t_v (.ldn (vs := [.int .i64 x472, .int .i64 x473, .slice na485 x474.length nc486, .bool x475]) rfl rfl rfl (rd_n lR481 sub_nil (subl_sub lv482 (by kernel_rfl)))) ?_
              refine t_a (.new rfl rfl) fun b488 fb488 sb488 => ?_
              refine t_sti 0 (cs := [.int .i64 x472, .int .i64 x473, .slice na485 x474.length nc486, .bool x475]) rfl rfl rfl rfl rfl rfl rfl rfl rfl ?_
              refine t_keep [5, 6, 7, 10, 55, 56, 57] (σ' := [(5, .pointer (some ⟨b442, 0, none⟩)), (6, .pointer (some ⟨b443, 0, none⟩)), (7, .func (.func 33) #[] #[.pointer (some ⟨b440, 0, none⟩), .pointer (some ⟨b441, 0, none⟩)]), (10, .pointer (some ⟨b488, 0, none⟩)), (55, .slice a_c2_10 c2_10.length c_c2_10), (56, .int .i64 (c2_10.length : Int)), (57, .int .i64 x465)]) (by kernel_rfl) ?_
              refine t_end ?_
              show W _ _ _ _ _ _ _
              refine w_seq ?_
              obtain ⟨⟨t489, t490⟩, h491, e470⟩ := bind_of e470
              try dsimp only at e470
              refine w_drwE mixed 8 [.v (.func (.func 33) #[] #[.pointer (some ⟨b440, 0, none⟩), .pointer (some ⟨b441, 0, none⟩)]), .v (.pointer (some ⟨b488, 0, none⟩)), .v (.agg #[.int .i64 x472, .int .i64 x473]), .v (.agg #[.int .i64 t489, .int .i64 t490]), .v (.pointer (some ⟨b488, 3, none⟩)), .v (.bool x475), .v (.agg #[.int .i64 t489, .int .i64 t490, .slice none 0 0, .bool x475]), .a [.int .i64 0, .int .i64 0, .slice none 0 0, .bool false] ptrTo] (by kernel_rfl) ?_ ?_
              · refine DI.sq 2 (by kernel_rfl) rfl ?_
                refine .cons (.ldn rfl rfl rfl (.at 0 rfl rfl)) ?_
                refine .cons (.clor (vs := [.agg #[.int .i64 x472, .int .i64 x473]]) (caps := #[.pointer (some ⟨b440, 0, none⟩), .pointer (some ⟨b441, 0, none⟩)]) (A := ([⟨b440, [.int .i64 i0_0, .int .i64 i0_1, .int .i64 i0_2, .slice a_i0_3 n_i0_3 c_i0_3, .slice a_i0_4 n_i0_4 c_i0_4], 5⟩, ⟨b441, [.int .i64 w1], 1⟩] : List Own)) (F0 := (([⟨b488, [.int .i64 x472, .int .i64 x473, .slice na485 x474.length nc486, .bool x475], 4⟩, ⟨a466, csa466, na466⟩, ⟨b443, [.int .i64 0, .int .i64 0, .int .i64 0, .int .i64 0, .int .i64 0, .int .i64 0, .int .i64 0, .int .i64 0, .int .i64 0, .int .i64 0, .slice none 0 0], 11⟩, ⟨b442, [.int .i64 c2_0, .int .i64 c2_1, .int .i64 x461, .int .i64 c2_3, .int .i64 c2_4, .int .i64 c2_5, .int .i64 t444, .int .i64 t445, .int .i64 x454, .int .i64 t448, .slice (ad a466) y467.length (na466 / 4)], 11⟩] : List Own) ++ (Fa466 ++ []))) rfl rfl rfl (by kernel_rfl) (by kernel_rfl) (sel_perm (is := [5, 4]) (by kernel_rfl)) (scale_Cmd_1_v1.ok hE_ h491)) ?_
                refine DI.sq 1 (by kernel_rfl) rfl ?_
                refine .cons (.ld1 rfl rfl rfl (.at 0 rfl rfl)) ?_
                refine DI.sq 1 (by kernel_rfl) rfl ?_
                refine .cons (.new rfl rfl) ?_
                exact .nil
              refine fk_q 7 [5, 6, 7, 10, 55, 56, 57, 67] (σ' := [(5, .pointer (some ⟨b442, 0, none⟩)), (6, .pointer (some ⟨b443, 0, none⟩)), (7, .func (.func 33) #[] #[.pointer (some ⟨b440, 0, none⟩), .pointer (some ⟨b441, 0, none⟩)]), (10, .pointer (some ⟨b488, 0, none⟩)), (55, .slice a_c2_10 c2_10.length c_c2_10), (56, .int .i64 (c2_10.length : Int)), (57, .int .i64 x465), (67, .agg #[.int .i64 t489, .int .i64 t490, .slice none 0 0, .bool x475])]) t_more (by kernel_rfl) ?_
              refine fk_a fun b492 fb492 sb492 => ?_
              refine fk_nil fun all => ?_
              refine t_sti 0 (cs := [.int .i64 t489, .int .i64 t490, .slice none 0 0, .bool x475]) rfl rfl rfl rfl rfl rfl rfl rfl rfl ?_
              refine t_keep [5, 6, 7, 10, 11, 55, 56, 57] (σ' := [(5, .pointer (some ⟨b442, 0, none⟩)), (6, .pointer (some ⟨b443, 0, none⟩)), (7, .func (.func 33) #[] #[.pointer (some ⟨b440, 0, none⟩), .pointer (some ⟨b441, 0, none⟩)]), (10, .pointer (some ⟨b488, 0, none⟩)), (11, .pointer (some ⟨b492, 0, none⟩)), (55, .slice a_c2_10 c2_10.length c_c2_10), (56, .int .i64 (c2_10.length : Int)), (57, .int .i64 x465)]) (by kernel_rfl) ?_
              refine t_end ?_
              show W _ _ _ _ _ _ _
              obtain ⟨y547, e494, e470⟩ := bind_of e470
              refine w_cut [5, 6, 7, 11, 55, 56, 57] (fun σ_ H_ S_ => ∃ (a546 : Option Nat) (na546 : Nat), [(5, .pointer (some ⟨b442, 0, none⟩)), (6, .pointer (some ⟨b443, 0, none⟩)), (7, .func (.func 33) #[] #[.pointer (some ⟨b440, 0, none⟩), .pointer (some ⟨b441, 0, none⟩)]), (11, .pointer (some ⟨b492, 0, none⟩)), (55, .slice a_c2_10 c2_10.length c_c2_10), (56, .int .i64 (c2_10.length : Int)), (57, .int .i64 x465)] = σ_ ∧ (([⟨b492, [.int .i64 t489, .int .i64 t490, .slice (ad a546) y547.length (na546 / 7), .bool x475], 4⟩, ⟨b488, [.int .i64 x472, .int .i64 x473, .slice na485 x474.length nc486, .bool x475], 4⟩, ⟨b443, [.int .i64 0, .int .i64 0, .int .i64 0, .int .i64 0, .int .i64 0, .int .i64 0, .int .i64 0, .int .i64 0, .int .i64 0, .int .i64 0, .slice none 0 0], 11⟩, ⟨b442, [.int .i64 c2_0, .int .i64 c2_1, .int .i64 x461, .int .i64 c2_3, .int .i64 c2_4, .int .i64 c2_5, .int .i64 t444, .int .i64 t445, .int .i64 x454, .int .i64 t448, .slice (ad a466) y467.length (na466 / 4)], 11⟩, ⟨b441, [.int .i64 w1], 1⟩, ⟨b440, [.int .i64 i0_0, .int .i64 i0_1, .int .i64 i0_2, .slice a_i0_3 n_i0_3 c_i0_3, .slice a_i0_4 n_i0_4 c_i0_4], 5⟩, ⟨a546, encL E_i647 y547, na546⟩, ⟨a466, csa466, na466⟩] : List Own) ++ (Fa466 ++ [])) = H_ ∧ S = S_) ?_ ?_
              · show W _ _ _ _ _ _ _
                refine w_seq ?_
                refine w_reg fun all => ?_
                refine t_qz 1 [5, 6, 7, 11, 55, 56, 57, 68] (σ' := [(5, .pointer (some ⟨b442, 0, none⟩)), (6, .pointer (some ⟨b443, 0, none⟩)), (7, .func (.func 33) #[] #[.pointer (some ⟨b440, 0, none⟩), .pointer (some ⟨b441, 0, none⟩)]), (11, .pointer (some ⟨b492, 0, none⟩)), (55, .slice a_c2_10 c2_10.length c_c2_10), (56, .int .i64 (c2_10.length : Int)), (57, .int .i64 x465), (68, .pointer (some ⟨b488, 2, none⟩))]) (by kernel_rfl) ?_
                refine t_v (.ld1 rfl rfl rfl (.at 1 rfl rfl)) ?_
                refine t_qz 2 [5, 6, 7, 11, 55, 56, 57, 69, 70, 71] (σ' := [(5, .pointer (some ⟨b442, 0, none⟩)), (6, .pointer (some ⟨b443, 0, none⟩)), (7, .func (.func 33) #[] #[.pointer (some ⟨b440, 0, none⟩), .pointer (some ⟨b441, 0, none⟩)]), (11, .pointer (some ⟨b492, 0, none⟩)), (55, .slice a_c2_10 c2_10.length c_c2_10), (56, .int .i64 (c2_10.length : Int)), (57, .int .i64 x465), (69, .slice na485 x474.length nc486), (70, .int .i64 (x474.length : Int)), (71, .int .i64 0)]) (by kernel_rfl) ?_
                refine t_end ?_
                show W _ _ _ _ _ _ _
                refine w_block ?_
                refine w_vs VS.vac ?_
                refine w_kp [5, 6, 7, 11, 55, 56, 57, 69, 70, 71] (σ' := [(5, .pointer (some ⟨b442, 0, none⟩)), (6, .pointer (some ⟨b443, 0, none⟩)), (7, .func (.func 33) #[] #[.pointer (some ⟨b440, 0, none⟩), .pointer (some ⟨b441, 0, none⟩)]), (11, .pointer (some ⟨b492, 0, none⟩)), (55, .slice a_c2_10 c2_10.length c_c2_10), (56, .int .i64 (c2_10.length : Int)), (57, .int .i64 x465), (69, .slice na485 x474.length nc486), (70, .int .i64 (x474.length : Int)), (71, .int .i64 0)]) (by kernel_rfl) ?_
                refine w_loop (fun n_ σ_ H_ S_ => ∃ (x496 : Int) (y498 : List (Int × Int × Int × Int × Int × Int × Int)), ∃ (a497 : Option Nat) (na497 : Nat), [(5, .pointer (some ⟨b442, 0, none⟩)), (6, .pointer (some ⟨b443, 0, none⟩)), (7, .func (.func 33) #[] #[.pointer (some ⟨b440, 0, none⟩), .pointer (some ⟨b441, 0, none⟩)]), (11, .pointer (some ⟨b492, 0, none⟩)), (55, .slice a_c2_10 c2_10.length c_c2_10), (56, .int .i64 (c2_10.length : Int)), (57, .int .i64 x465), (69, .slice na485 x474.length nc486), (70, .int .i64 (x474.length : Int)), (71, .int .i64 x496)] = σ_ ∧ (([⟨a497, encL E_i647 y498, na497⟩, ⟨b492, [.int .i64 t489, .int .i64 t490, .slice (ad a497) y498.length (na497 / 7), .bool x475], 4⟩, ⟨b488, [.int .i64 x472, .int .i64 x473, .slice na485 x474.length nc486, .bool x475], 4⟩, ⟨a466, csa466, na466⟩, ⟨b443, [.int .i64 0, .int .i64 0, .int .i64 0, .int .i64 0, .int .i64 0, .int .i64 0, .int .i64 0, .int .i64 0, .int .i64 0, .int .i64 0, .slice none 0 0], 11⟩, ⟨b442, [.int .i64 c2_0, .int .i64 c2_1, .int .i64 x461, .int .i64 c2_3, .int .i64 c2_4, .int .i64 c2_5, .int .i64 t444, .int .i64 t445, .int .i64 x454, .int .i64 t448, .slice (ad a466) y467.length (na466 / 4)], 11⟩, ⟨b441, [.int .i64 w1], 1⟩, ⟨b440, [.int .i64 i0_0, .int .i64 i0_1, .int .i64 i0_2, .slice a_i0_3 n_i0_3 c_i0_3, .slice a_i0_4 n_i0_4 c_i0_4], 5⟩] : List Own) ++ (Fa466 ++ [])) = H_ ∧ S = S_ ∧ scale_Cmd_v1.l1 n_ i0_0 i0_1 i0_2 w1 x474 x496 y498 = some y547) _ ⟨0, ([] : List (Int × Int × Int × Int × Int × Int × Int)), none, 0, rfl, rfl, rfl, e494⟩ ?_
                rintro n545 σ_ H_ S_ ⟨x496, y498, a497, na497, rfl, rfl, rfl, e494⟩
                cases n545 with
                | zero => rw [scale_Cmd_v1.l1.eq_1] at e494; cases e494
                | succ k_ =>
                  rw [scale_Cmd_v1.l1.eq_2] at e494
                  refine w_seq ?_
                  refine w_reg fun all => ?_
                  by_cases c499 : x496 < (x474.length : Int)
                  · rw [if_pos c499] at e494
                    have c499b : (decide (x496 < (x474.length : Int))) = true := decide_eq_true c499
                    refine t_v (dv_quiet rfl (congrArg (fun t => some (Value.bool t)) c499b)) ?_
                    refine t_keep [5, 6, 7, 11, 55, 56, 57, 69, 70, 71, 72] (σ' := [(5, .pointer (some ⟨b442, 0, none⟩)), (6, .pointer (some ⟨b443, 0, none⟩)), (7, .func (.func 33) #[] #[.pointer (some ⟨b440, 0, none⟩), .pointer (some ⟨b441, 0, none⟩)]), (11, .pointer (some ⟨b492, 0, none⟩)), (55, .slice a_c2_10 c2_10.length c_c2_10), (56, .int .i64 (c2_10.length : Int)), (57, .int .i64 x465), (69, .slice na485 x474.length nc486), (70, .int .i64 (x474.length : Int)), (71, .int .i64 x496), (72, .bool true)]) (by kernel_rfl) ?_
                    refine t_end ?_
                    show W _ _ _ _ _ _ _
                    refine w_seq ?_
                    refine w_cond rfl (fun _ => ?_) (fun c_ => by cases c_)
                    show W _ _ _ _ _ _ _
                    refine w_skip ?_
                    show W _ _ _ _ _ _ _
                    obtain ⟨y543, e501, e494⟩ := bind_of e494
                    refine w_cut [5, 6, 7, 11, 55, 56, 57, 69, 70, 71] (fun σ_ H_ S_ => ∃ (a542 : Option Nat) (na542 : Nat), [(5, .pointer (some ⟨b442, 0, none⟩)), (6, .pointer (some ⟨b443, 0, none⟩)), (7, .func (.func 33) #[] #[.pointer (some ⟨b440, 0, none⟩), .pointer (some ⟨b441, 0, none⟩)]), (11, .pointer (some ⟨b492, 0, none⟩)), (55, .slice a_c2_10 c2_10.length c_c2_10), (56, .int .i64 (c2_10.length : Int)), (57, .int .i64 x465), (69, .slice na485 x474.length nc486), (70, .int .i64 (x474.length : Int)), (71, .int .i64 x496)] = σ_ ∧ (([⟨b492, [.int .i64 t489, .int .i64 t490, .slice (ad a542) y543.length (na542 / 7), .bool x475], 4⟩, ⟨b488, [.int .i64 x472, .int .i64 x473, .slice na485 x474.length nc486, .bool x475], 4⟩, ⟨b443, [.int .i64 0, .int .i64 0, .int .i64 0, .int .i64 0, .int .i64 0, .int .i64 0, .int .i64 0, .int .i64 0, .int .i64 0, .int .i64 0, .slice none 0 0], 11⟩, ⟨b442, [.int .i64 c2_0, .int .i64 c2_1, .int .i64 x461, .int .i64 c2_3, .int .i64 c2_4, .int .i64 c2_5, .int .i64 t444, .int .i64 t445, .int .i64 x454, .int .i64 t448, .slice (ad a466) y467.length (na466 / 4)], 11⟩, ⟨b441, [.int .i64 w1], 1⟩, ⟨b440, [.int .i64 i0_0, .int .i64 i0_1, .int .i64 i0_2, .slice a_i0_3 n_i0_3 c_i0_3, .slice a_i0_4 n_i0_4 c_i0_4], 5⟩, ⟨a542, encL E_i647 y543, na542⟩, ⟨a466, csa466, na466⟩] : List Own) ++ (Fa466 ++ [])) = H_ ∧ S = S_) ?_ ?_
                    · show W _ _ _ _ _ _ _
                      refine w_block ?_
                      refine w_seq ?_
                      refine w_reg fun all => ?_
                      obtain ⟨⟨x503, x504, x505, x506, x507, x508, x509⟩, hx510, e501⟩ := bind_of e501
                      try dsimp only at e501
                      obtain ⟨lb511, lo512, ll513, vs_, la514, lR515, lv516, hrep_, lz517, lu518⟩ := sln_get (E := (flatN E_i647)) nh487 hx510
                      obtain rfl := (show vs_ = _ from hrep_)
                      refine t_v (.quiet rfl (ixs_sle rfl rfl la514 lz517 lu518)) ?_
                      refine t_v (.ldn (vs := [.int .i64 x503, .int .i64 x504, .int .i64 x505, .int .i64 x506, .int .i64 x507, .int .i64 x508, .int .i64 x509]) rfl rfl rfl (rd_n lR515 sub_nil (subl_sub lv516 (by kernel_rfl)))) ?_
                      refine t_a (.new rfl rfl) fun b519 fb519 sb519 => ?_
                      refine t_sti 0 (cs := [.int .i64 x503, .int .i64 x504, .int .i64 x505, .int .i64 x506, .int .i64 x507, .int .i64 x508, .int .i64 x509]) rfl rfl rfl rfl rfl rfl rfl rfl rfl ?_
                      refine t_keep [5, 6, 7, 11, 13, 55, 56, 57, 69, 70, 71] (σ' := [(5, .pointer (some ⟨b442, 0, none⟩)), (6, .pointer (some ⟨b443, 0, none⟩)), (7, .func (.func 33) #[] #[.pointer (some ⟨b440, 0, none⟩), .pointer (some ⟨b441, 0, none⟩)]), (11, .pointer (some ⟨b492, 0, none⟩)), (13, .pointer (some ⟨b519, 0, none⟩)), (55, .slice a_c2_10 c2_10.length c_c2_10), (56, .int .i64 (c2_10.length : Int)), (57, .int .i64 x465), (69, .slice na485 x474.length nc486), (70, .int .i64 (x474.length : Int)), (71, .int .i64 x496)]) (by kernel_rfl) ?_
                      refine t_end ?_
                      show W _ _ _ _ _ _ _
                      obtain ⟨⟨x532, x533, x534, x535, x536, x537⟩, e521, e501⟩ := bind_of e501
                      try dsimp only at e501
                      refine w_cut [5, 6, 7, 11, 13, 55, 56, 57, 69, 70, 71] (fun σ_ H_ S_ => [(5, .pointer (some ⟨b442, 0, none⟩)), (6, .pointer (some ⟨b443, 0, none⟩)), (7, .func (.func 33) #[] #[.pointer (some ⟨b440, 0, none⟩), .pointer (some ⟨b441, 0, none⟩)]), (11, .pointer (some ⟨b492, 0, none⟩)), (13, .pointer (some ⟨b519, 0, none⟩)), (55, .slice a_c2_10 c2_10.length c_c2_10), (56, .int .i64 (c2_10.length : Int)), (57, .int .i64 x465), (69, .slice na485 x474.length nc486), (70, .int .i64 (x474.length : Int)), (71, .int .i64 x496)] = σ_ ∧ (([⟨b519, [.int .i64 x503, .int .i64 x532, .int .i64 x533, .int .i64 x534, .int .i64 x535, .int .i64 x536, .int .i64 x537], 7⟩, ⟨b492, [.int .i64 t489, .int .i64 t490, .slice (ad a497) y498.length (na497 / 7), .bool x475], 4⟩, ⟨b488, [.int .i64 x472, .int .i64 x473, .slice na485 x474.length nc486, .bool x475], 4⟩, ⟨b443, [.int .i64 0, .int .i64 0, .int .i64 0, .int .i64 0, .int .i64 0, .int .i64 0, .int .i64 0, .int .i64 0, .int .i64 0, .int .i64 0, .slice none 0 0], 11⟩, ⟨b442, [.int .i64 c2_0, .int .i64 c2_1, .int .i64 x461, .int .i64 c2_3, .int .i64 c2_4, .int .i64 c2_5, .int .i64 t444, .int .i64 t445, .int .i64 x454, .int .i64 t448, .slice (ad a466) y467.length (na466 / 4)], 11⟩, ⟨b441, [.int .i64 w1], 1⟩, ⟨b440, [.int .i64 i0_0, .int .i64 i0_1, .int .i64 i0_2, .slice a_i0_3 n_i0_3 c_i0_3, .slice a_i0_4 n_i0_4 c_i0_4], 5⟩, ⟨a497, encL E_i647 y498, na497⟩, ⟨a466, csa466, na466⟩] : List Own) ++ (Fa466 ++ [])) = H_ ∧ S = S_) ?_ ?_
                      · show W _ _ _ _ _ _ _
                        refine w_seq ?_
                        refine w_reg fun all => ?_
                        refine t_qz 1 [5, 6, 7, 11, 13, 55, 56, 57, 69, 70, 71, 75] (σ' := [(5, .pointer (some ⟨b442, 0, none⟩)), (6, .pointer (some ⟨b443, 0, none⟩)), (7, .func (.func 33) #[] #[.pointer (some ⟨b440, 0, none⟩), .pointer (some ⟨b441, 0, none⟩)]), (11, .pointer (some ⟨b492, 0, none⟩)), (13, .pointer (some ⟨b519, 0, none⟩)), (55, .slice a_c2_10 c2_10.length c_c2_10), (56, .int .i64 (c2_10.length : Int)), (57, .int .i64 x465), (69, .slice na485 x474.length nc486), (70, .int .i64 (x474.length : Int)), (71, .int .i64 x496), (75, .int .i64 0)]) (by kernel_rfl) ?_
                        refine t_end ?_
                        show W _ _ _ _ _ _ _
                        refine w_block ?_
                        refine w_lun 15 ?_
                        refine wl_step ?_
                        refine w_seq ?_
                        refine w_reg fun all => ?_
                        refine t_qz 1 [5, 6, 7, 11, 13, 55, 56, 57, 69, 70, 71, 75, 76] (σ' := [(5, .pointer (some ⟨b442, 0, none⟩)), (6, .pointer (some ⟨b443, 0, none⟩)), (7, .func (.func 33) #[] #[.pointer (some ⟨b440, 0, none⟩), .pointer (some ⟨b441, 0, none⟩)]), (11, .pointer (some ⟨b492, 0, none⟩)), (13, .pointer (some ⟨b519, 0, none⟩)), (55, .slice a_c2_10 c2_10.length c_c2_10), (56, .int .i64 (c2_10.length : Int)), (57, .int .i64 x465), (69, .slice na485 x474.length nc486), (70, .int .i64 (x474.length : Int)), (71, .int .i64 x496), (75, .int .i64 0), (76, .bool true)]) (by kernel_rfl) ?_
                        refine t_end ?_
                        show W _ _ _ _ _ _ _
                        refine w_seq ?_
                        refine w_cond rfl (fun _ => ?_) (fun c_ => by cases c_)
                        show W _ _ _ _ _ _ _
                        refine w_skip ?_
                        show W _ _ _ _ _ _ _
                        refine w_seq ?_
                        refine w_block ?_
                        refine w_seq ?_
                        refine w_reg fun all => ?_
                        refine t_qz 2 [5, 6, 7, 11, 13, 14, 55, 56, 57, 69, 70, 71, 75] (σ' := [(5, .pointer (some ⟨b442, 0, none⟩)), (6, .pointer (some ⟨b443, 0, none⟩)), (7, .func (.func 33) #[] #[.pointer (some ⟨b440, 0, none⟩), .pointer (some ⟨b441, 0, none⟩)]), (11, .pointer (some ⟨b492, 0, none⟩)), (13, .pointer (some ⟨b519, 0, none⟩)), (14, .int .i64 0), (55, .slice a_c2_10 c2_10.length c_c2_10), (56, .int .i64 (c2_10.length : Int)), (57, .int .i64 x465), (69, .slice na485 x474.length nc486), (70, .int .i64 (x474.length : Int)), (71, .int .i64 x496), (75, .int .i64 0)]) (by kernel_rfl) ?_
                        refine t_end ?_
                        show W _ _ _ _ _ _ _
                        refine w_reg fun all => ?_
                        refine t_qz 5 [5, 6, 7, 11, 13, 55, 56, 57, 69, 70, 71, 75, 78, 79, 82] (σ' := [(5, .pointer (some ⟨b442, 0, none⟩)), (6, .pointer (some ⟨b443, 0, none⟩)), (7, .func (.func 33) #[] #[.pointer (some ⟨b440, 0, none⟩), .pointer (some ⟨b441, 0, none⟩)]), (11, .pointer (some ⟨b492, 0, none⟩)), (13, .pointer (some ⟨b519, 0, none⟩)), (55, .slice a_c2_10 c2_10.length c_c2_10), (56, .int .i64 (c2_10.length : Int)), (57, .int .i64 x465), (69, .slice na485 x474.length nc486), (70, .int .i64 (x474.length : Int)), (71, .int .i64 x496), (75, .int .i64 0), (78, .int .i64 0), (79, .func (.func 33) #[] #[.pointer (some ⟨b440, 0, none⟩), .pointer (some ⟨b441, 0, none⟩)]), (82, .pointer (some ⟨b519, 1, none⟩))]) (by kernel_rfl) ?_
                        refine t_v (.ldn rfl rfl rfl (.at 0 rfl rfl)) ?_
                        obtain ⟨⟨t523, t524⟩, h525, e521⟩ := bind_of e521
                        try dsimp only at e521
                        refine t_v (.clor (vs := [.agg #[.int .i64 x504, .int .i64 x505]]) (caps := #[.pointer (some ⟨b440, 0, none⟩), .pointer (some ⟨b441, 0, none⟩)]) (A := ([⟨b440, [.int .i64 i0_0, .int .i64 i0_1, .int .i64 i0_2, .slice a_i0_3 n_i0_3 c_i0_3, .slice a_i0_4 n_i0_4 c_i0_4], 5⟩, ⟨b441, [.int .i64 w1], 1⟩] : List Own)) (F0 := (([⟨b519, [.int .i64 x503, .int .i64 x504, .int .i64 x505, .int .i64 x506, .int .i64 x507, .int .i64 x508, .int .i64 x509], 7⟩, ⟨a497, encL E_i647 y498, na497⟩, ⟨b492, [.int .i64 t489, .int .i64 t490, .slice (ad a497) y498.length (na497 / 7), .bool x475], 4⟩, ⟨b488, [.int .i64 x472, .int .i64 x473, .slice na485 x474.length nc486, .bool x475], 4⟩, ⟨a466, csa466, na466⟩, ⟨b443, [.int .i64 0, .int .i64 0, .int .i64 0, .int .i64 0, .int .i64 0, .int .i64 0, .int .i64 0, .int .i64 0, .int .i64 0, .int .i64 0, .slice none 0 0], 11⟩, ⟨b442, [.int .i64 c2_0, .int .i64 c2_1, .int .i64 x461, .int .i64 c2_3, .int .i64 c2_4, .int .i64 c2_5, .int .i64 t444, .int .i64 t445, .int .i64 x454, .int .i64 t448, .slice (ad a466) y467.length (na466 / 4)], 11⟩] : List Own) ++ (Fa466 ++ []))) rfl rfl rfl (by kernel_rfl) (by kernel_rfl) (sel_perm (is := [8, 7]) (by kernel_rfl)) (scale_Cmd_1_v1.ok hE_ h525)) ?_
                        refine t_qz 2 [5, 6, 7, 11, 13, 55, 56, 57, 69, 70, 71, 75, 84, 86] (σ' := [(5, .pointer (some ⟨b442, 0, none⟩)), (6, .pointer (some ⟨b443, 0, none⟩)), (7, .func (.func 33) #[] #[.pointer (some ⟨b440, 0, none⟩), .pointer (some ⟨b441, 0, none⟩)]), (11, .pointer (some ⟨b492, 0, none⟩)), (13, .pointer (some ⟨b519, 0, none⟩)), (55, .slice a_c2_10 c2_10.length c_c2_10), (56, .int .i64 (c2_10.length : Int)), (57, .int .i64 x465), (69, .slice na485 x474.length nc486), (70, .int .i64 (x474.length : Int)), (71, .int .i64 x496), (75, .int .i64 0), (84, .agg #[.int .i64 t523, .int .i64 t524]), (86, .pointer (some ⟨b519, 1, none⟩))]) (by kernel_rfl) ?_
                        refine t_sti 0 (cs := [.int .i64 x503, .int .i64 t523, .int .i64 t524, .int .i64 x506, .int .i64 x507, .int .i64 x508, .int .i64 x509]) rfl rfl rfl rfl rfl rfl rfl rfl rfl ?_
                        refine t_keep [5, 6, 7, 11, 13, 55, 56, 57, 69, 70, 71, 75] (σ' := [(5, .pointer (some ⟨b442, 0, none⟩)), (6, .pointer (some ⟨b443, 0, none⟩)), (7, .func (.func 33) #[] #[.pointer (some ⟨b440, 0, none⟩), .pointer (some ⟨b441, 0, none⟩)]), (11, .pointer (some ⟨b492, 0, none⟩)), (13, .pointer (some ⟨b519, 0, none⟩)), (55, .slice a_c2_10 c2_10.length c_c2_10), (56, .int .i64 (c2_10.length : Int)), (57, .int .i64 x465), (69, .slice na485 x474.length nc486), (70, .int .i64 (x474.length : Int)), (71, .int .i64 x496), (75, .int .i64 0)]) (by kernel_rfl) ?_
                        refine t_end ?_
                        show W _ _ _ _ _ _ _
                        refine w_reg fun all => ?_
                        refine t_qz 2 [5, 6, 7, 11, 13, 55, 56, 57, 69, 70, 71, 75] (σ' := [(5, .pointer (some ⟨b442, 0, none⟩)), (6, .pointer (some ⟨b443, 0, none⟩)), (7, .func (.func 33) #[] #[.pointer (some ⟨b440, 0, none⟩), .pointer (some ⟨b441, 0, none⟩)]), (11, .pointer (some ⟨b492, 0, none⟩)), (13, .pointer (some ⟨b519, 0, none⟩)), (55, .slice a_c2_10 c2_10.length c_c2_10), (56, .int .i64 (c2_10.length : Int)), (57, .int .i64 x465), (69, .slice na485 x474.length nc486), (70, .int .i64 (x474.length : Int)), (71, .int .i64 x496), (75, .int .i64 1)]) (by kernel_rfl) ?_
                        refine t_end ?_
                        show WL _ _ _ _ _ _ _ _
                        refine wl_step ?_
                        refine w_seq ?_
                        refine w_reg fun all => ?_
                        refine t_qz 1 [5, 6, 7, 11, 13, 55, 56, 57, 69, 70, 71, 75, 76] (σ' := [(5, .pointer (some ⟨b442, 0, none⟩)), (6, .pointer (some ⟨b443, 0, none⟩)), (7, .func (.func 33) #[] #[.pointer (some ⟨b440, 0, none⟩), .pointer (some ⟨b441, 0, none⟩)]), (11, .pointer (some ⟨b492, 0, none⟩)), (13, .pointer (some ⟨b519, 0, none⟩)), (55, .slice a_c2_10 c2_10.length c_c2_10), (56, .int .i64 (c2_10.length : Int)), (57, .int .i64 x465), (69, .slice na485 x474.length nc486), (70, .int .i64 (x474.length : Int)), (71, .int .i64 x496), (75, .int .i64 1), (76, .bool true)]) (by kernel_rfl) ?_
                        refine t_end ?_
                        show W _ _ _ _ _ _ _
                        refine w_seq ?_
                        refine w_cond rfl (fun _ => ?_) (fun c_ => by cases c_)
                        show W _ _ _ _ _ _ _
                        refine w_skip ?_
                        show W _ _ _ _ _ _ _
                        refine w_seq ?_
                        refine w_block ?_
                        refine w_seq ?_
                        refine w_reg fun all => ?_
                        refine t_qz 2 [5, 6, 7, 11, 13, 14, 55, 56, 57, 69, 70, 71, 75] (σ' := [(5, .pointer (some ⟨b442, 0, none⟩)), (6, .pointer (some ⟨b443, 0, none⟩)), (7, .func (.func 33) #[] #[.pointer (some ⟨b440, 0, none⟩), .pointer (some ⟨b441, 0, none⟩)]), (11, .pointer (some ⟨b492, 0, none⟩)), (13, .pointer (some ⟨b519, 0, none⟩)), (14, .int .i64 1), (55, .slice a_c2_10 c2_10.length c_c2_10), (56, .int .i64 (c2_10.length : Int)), (57, .int .i64 x465), (69, .slice na485 x474.length nc486), (70, .int .i64 (x474.length : Int)), (71, .int .i64 x496), (75, .int .i64 1)]) (by kernel_rfl) ?_
                        refine t_end ?_
                        show W _ _ _ _ _ _ _
                        refine w_reg fun all => ?_
                        refine t_qz 5 [5, 6, 7, 11, 13, 55, 56, 57, 69, 70, 71, 75, 78, 79, 82] (σ' := [(5, .pointer (some ⟨b442, 0, none⟩)), (6, .pointer (some ⟨b443, 0, none⟩)), (7, .func (.func 33) #[] #[.pointer (some ⟨b440, 0, none⟩), .pointer (some ⟨b441, 0, none⟩)]), (11, .pointer (some ⟨b492, 0, none⟩)), (13, .pointer (some ⟨b519, 0, none⟩)), (55, .slice a_c2_10 c2_10.length c_c2_10), (56, .int .i64 (c2_10.length : Int)), (57, .int .i64 x465), (69, .slice na485 x474.length nc486), (70, .int .i64 (x474.length : Int)), (71, .int .i64 x496), (75, .int .i64 1), (78, .int .i64 1), (79, .func (.func 33) #[] #[.pointer (some ⟨b440, 0, none⟩), .pointer (some ⟨b441, 0, none⟩)]), (82, .pointer (some ⟨b519, 3, none⟩))]) (by kernel_rfl) ?_
                        refine t_v (.ldn rfl rfl rfl (.at 0 rfl rfl)) ?_
                        obtain ⟨⟨t526, t527⟩, h528, e521⟩ := bind_of e521
                        try dsimp only at e521
                        refine t_v (.clor (vs := [.agg #[.int .i64 x506, .int .i64 x507]]) (caps := #[.pointer (some ⟨b440, 0, none⟩), .pointer (some ⟨b441, 0, none⟩)]) (A := ([⟨b440, [.int .i64 i0_0, .int .i64 i0_1, .int .i64 i0_2, .slice a_i0_3 n_i0_3 c_i0_3, .slice a_i0_4 n_i0_4 c_i0_4], 5⟩, ⟨b441, [.int .i64 w1], 1⟩] : List Own)) (F0 := (([⟨b519, [.int .i64 x503, .int .i64 t523, .int .i64 t524, .int .i64 x506, .int .i64 x507, .int .i64 x508, .int .i64 x509], 7⟩, ⟨a497, encL E_i647 y498, na497⟩, ⟨b492, [.int .i64 t489, .int .i64 t490, .slice (ad a497) y498.length (na497 / 7), .bool x475], 4⟩, ⟨b488, [.int .i64 x472, .int .i64 x473, .slice na485 x474.length nc486, .bool x475], 4⟩, ⟨a466, csa466, na466⟩, ⟨b443, [.int .i64 0, .int .i64 0, .int .i64 0, .int .i64 0, .int .i64 0, .int .i64 0, .int .i64 0, .int .i64 0, .int .i64 0, .int .i64 0, .slice none 0 0], 11⟩, ⟨b442, [.int .i64 c2_0, .int .i64 c2_1, .int .i64 x461, .int .i64 c2_3, .int .i64 c2_4, .int .i64 c2_5, .int .i64 t444, .int .i64 t445, .int .i64 x454, .int .i64 t448, .slice (ad a466) y467.length (na466 / 4)], 11⟩] : List Own) ++ (Fa466 ++ []))) rfl rfl rfl (by kernel_rfl) (by kernel_rfl) (sel_perm (is := [8, 7]) (by kernel_rfl)) (scale_Cmd_1_v1.ok hE_ h528)) ?_
                        refine t_qz 2 [5, 6, 7, 11, 13, 55, 56, 57, 69, 70, 71, 75, 84, 86] (σ' := [(5, .pointer (some ⟨b442, 0, none⟩)), (6, .pointer (some ⟨b443, 0, none⟩)), (7, .func (.func 33) #[] #[.pointer (some ⟨b440, 0, none⟩), .pointer (some ⟨b441, 0, none⟩)]), (11, .pointer (some ⟨b492, 0, none⟩)), (13, .pointer (some ⟨b519, 0, none⟩)), (55, .slice a_c2_10 c2_10.length c_c2_10), (56, .int .i64 (c2_10.length : Int)), (57, .int .i64 x465), (69, .slice na485 x474.length nc486), (70, .int .i64 (x474.length : Int)), (71, .int .i64 x496), (75, .int .i64 1), (84, .agg #[.int .i64 t526, .int .i64 t527]), (86, .pointer (some ⟨b519, 3, none⟩))]) (by kernel_rfl) ?_
                        refine t_sti 0 (cs := [.int .i64 x503, .int .i64 t523, .int .i64 t524, .int .i64 t526, .int .i64 t527, .int .i64 x508, .int .i64 x509]) rfl rfl rfl rfl rfl rfl rfl rfl rfl ?_
                        refine t_keep [5, 6, 7, 11, 13, 55, 56, 57, 69, 70, 71, 75] (σ' := [(5, .pointer (some ⟨b442, 0, none⟩)), (6, .pointer (some ⟨b443, 0, none⟩)), (7, .func (.func 33) #[] #[.pointer (some ⟨b440, 0, none⟩), .pointer (some ⟨b441, 0, none⟩)]), (11, .pointer (some ⟨b492, 0, none⟩)), (13, .pointer (some ⟨b519, 0, none⟩)), (55, .slice a_c2_10 c2_10.length c_c2_10), (56, .int .i64 (c2_10.length : Int)), (57, .int .i64 x465), (69, .slice na485 x474.length nc486), (70, .int .i64 (x474.length : Int)), (71, .int .i64 x496), (75, .int .i64 1)]) (by kernel_rfl) ?_
                        refine t_end ?_
                        show W _ _ _ _ _ _ _
                        refine w_reg fun all => ?_
                        refine t_qz 2 [5, 6, 7, 11, 13, 55, 56, 57, 69, 70, 71, 75] (σ' := [(5, .pointer (some ⟨b442, 0, none⟩)), (6, .pointer (some ⟨b443, 0, none⟩)), (7, .func (.func 33) #[] #[.pointer (some ⟨b440, 0, none⟩), .pointer (some ⟨b441, 0, none⟩)]), (11, .pointer (some ⟨b492, 0, none⟩)), (13, .pointer (some ⟨b519, 0, none⟩)), (55, .slice a_c2_10 c2_10.length c_c2_10), (56, .int .i64 (c2_10.length : Int)), (57, .int .i64 x465), (69, .slice na485 x474.length nc486), (70, .int .i64 (x474.length : Int)), (71, .int .i64 x496), (75, .int .i64 2)]) (by kernel_rfl) ?_
                        refine t_end ?_
                        show WL _ _ _ _ _ _ _ _
                        refine wl_step ?_
                        refine w_seq ?_
                        refine w_reg fun all => ?_
                        refine t_qz 1 [5, 6, 7, 11, 13, 55, 56, 57, 69, 70, 71, 75, 76] (σ' := [(5, .pointer (some ⟨b442, 0, none⟩)), (6, .pointer (some ⟨b443, 0, none⟩)), (7, .func (.func 33) #[] #[.pointer (some ⟨b440, 0, none⟩), .pointer (some ⟨b441, 0, none⟩)]), (11, .pointer (some ⟨b492, 0, none⟩)), (13, .pointer (some ⟨b519, 0, none⟩)), (55, .slice a_c2_10 c2_10.length c_c2_10), (56, .int .i64 (c2_10.length : Int)), (57, .int .i64 x465), (69, .slice na485 x474.length nc486), (70, .int .i64 (x474.length : Int)), (71, .int .i64 x496), (75, .int .i64 2), (76, .bool true)]) (by kernel_rfl) ?_
                        refine t_end ?_
                        show W _ _ _ _ _ _ _
                        refine w_seq ?_
                        refine w_cond rfl (fun _ => ?_) (fun c_ => by cases c_)
                        show W _ _ _ _ _ _ _
                        refine w_skip ?_
                        show W _ _ _ _ _ _ _
                        refine w_seq ?_
                        refine w_block ?_
                        refine w_seq ?_
                        refine w_reg fun all => ?_
                        refine t_qz 2 [5, 6, 7, 11, 13, 14, 55, 56, 57, 69, 70, 71, 75] (σ' := [(5, .pointer (some ⟨b442, 0, none⟩)), (6, .pointer (some ⟨b443, 0, none⟩)), (7, .func (.func 33) #[] #[.pointer (some ⟨b440, 0, none⟩), .pointer (some ⟨b441, 0, none⟩)]), (11, .pointer (some ⟨b492, 0, none⟩)), (13, .pointer (some ⟨b519, 0, none⟩)), (14, .int .i64 2), (55, .slice a_c2_10 c2_10.length c_c2_10), (56, .int .i64 (c2_10.length : Int)), (57, .int .i64 x465), (69, .slice na485 x474.length nc486), (70, .int .i64 (x474.length : Int)), (71, .int .i64 x496), (75, .int .i64 2)]) (by kernel_rfl) ?_
                        refine t_end ?_
                        show W _ _ _ _ _ _ _
                        refine w_reg fun all => ?_
                        refine t_qz 5 [5, 6, 7, 11, 13, 55, 56, 57, 69, 70, 71, 75, 78, 79, 82] (σ' := [(5, .pointer (some ⟨b442, 0, none⟩)), (6, .pointer (some ⟨b443, 0, none⟩)), (7, .func (.func 33) #[] #[.pointer (some ⟨b440, 0, none⟩), .pointer (some ⟨b441, 0, none⟩)]), (11, .pointer (some ⟨b492, 0, none⟩)), (13, .pointer (some ⟨b519, 0, none⟩)), (55, .slice a_c2_10 c2_10.length c_c2_10), (56, .int .i64 (c2_10.length : Int)), (57, .int .i64 x465), (69, .slice na485 x474.length nc486), (70, .int .i64 (x474.length : Int)), (71, .int .i64 x496), (75, .int .i64 2), (78, .int .i64 2), (79, .func (.func 33) #[] #[.pointer (some ⟨b440, 0, none⟩), .pointer (some ⟨b441, 0, none⟩)]), (82, .pointer (some ⟨b519, 5, none⟩))]) (by kernel_rfl) ?_
                        refine t_v (.ldn rfl rfl rfl (.at 0 rfl rfl)) ?_
                        obtain ⟨⟨t529, t530⟩, h531, e521⟩ := bind_of e521
                        try dsimp only at e521
                        refine t_v (.clor (vs := [.agg #[.int .i64 x508, .int .i64 x509]]) (caps := #[.pointer (some ⟨b440, 0, none⟩), .pointer (some ⟨b441, 0, none⟩)]) (A := ([⟨b440, [.int .i64 i0_0, .int .i64 i0_1, .int .i64 i0_2, .slice a_i0_3 n_i0_3 c_i0_3, .slice a_i0_4 n_i0_4 c_i0_4], 5⟩, ⟨b441, [.int .i64 w1], 1⟩] : List Own)) (F0 := (([⟨b519, [.int .i64 x503, .int .i64 t523, .int .i64 t524, .int .i64 t526, .int .i64 t527, .int .i64 x508, .int .i64 x509], 7⟩, ⟨a497, encL E_i647 y498, na497⟩, ⟨b492, [.int .i64 t489, .int .i64 t490, .slice (ad a497) y498.length (na497 / 7), .bool x475], 4⟩, ⟨b488, [.int .i64 x472, .int .i64 x473, .slice na485 x474.length nc486, .bool x475], 4⟩, ⟨a466, csa466, na466⟩, ⟨b443, [.int .i64 0, .int .i64 0, .int .i64 0, .int .i64 0, .int .i64 0, .int .i64 0, .int .i64 0, .int .i64 0, .int .i64 0, .int .i64 0, .slice none 0 0], 11⟩, ⟨b442, [.int .i64 c2_0, .int .i64 c2_1, .int .i64 x461, .int .i64 c2_3, .int .i64 c2_4, .int .i64 c2_5, .int .i64 t444, .int .i64 t445, .int .i64 x454, .int .i64 t448, .slice (ad a466) y467.length (na466 / 4)], 11⟩] : List Own) ++ (Fa466 ++ []))) rfl rfl rfl (by kernel_rfl) (by kernel_rfl) (sel_perm (is := [8, 7]) (by kernel_rfl)) (scale_Cmd_1_v1.ok hE_ h531)) ?_
                        refine t_qz 2 [5, 6, 7, 11, 13, 55, 56, 57, 69, 70, 71, 75, 84, 86] (σ' := [(5, .pointer (some ⟨b442, 0, none⟩)), (6, .pointer (some ⟨b443, 0, none⟩)), (7, .func (.func 33) #[] #[.pointer (some ⟨b440, 0, none⟩), .pointer (some ⟨b441, 0, none⟩)]), (11, .pointer (some ⟨b492, 0, none⟩)), (13, .pointer (some ⟨b519, 0, none⟩)), (55, .slice a_c2_10 c2_10.length c_c2_10), (56, .int .i64 (c2_10.length : Int)), (57, .int .i64 x465), (69, .slice na485 x474.length nc486), (70, .int .i64 (x474.length : Int)), (71, .int .i64 x496), (75, .int .i64 2), (84, .agg #[.int .i64 t529, .int .i64 t530]), (86, .pointer (some ⟨b519, 5, none⟩))]) (by kernel_rfl) ?_
                        refine t_sti 0 (cs := [.int .i64 x503, .int .i64 t523, .int .i64 t524, .int .i64 t526, .int .i64 t527, .int .i64 t529, .int .i64 t530]) rfl rfl rfl rfl rfl rfl rfl rfl rfl ?_
                        refine t_keep [5, 6, 7, 11, 13, 55, 56, 57, 69, 70, 71, 75] (σ' := [(5, .pointer (some ⟨b442, 0, none⟩)), (6, .pointer (some ⟨b443, 0, none⟩)), (7, .func (.func 33) #[] #[.pointer (some ⟨b440, 0, none⟩), .pointer (some ⟨b441, 0, none⟩)]), (11, .pointer (some ⟨b492, 0, none⟩)), (13, .pointer (some ⟨b519, 0, none⟩)), (55, .slice a_c2_10 c2_10.length c_c2_10), (56, .int .i64 (c2_10.length : Int)), (57, .int .i64 x465), (69, .slice na485 x474.length nc486), (70, .int .i64 (x474.length : Int)), (71, .int .i64 x496), (75, .int .i64 2)]) (by kernel_rfl) ?_
                        refine t_end ?_
                        show W _ _ _ _ _ _ _
                        refine w_reg fun all => ?_
                        refine t_qz 2 [5, 6, 7, 11, 13, 55, 56, 57, 69, 70, 71, 75] (σ' := [(5, .pointer (some ⟨b442, 0, none⟩)), (6, .pointer (some ⟨b443, 0, none⟩)), (7, .func (.func 33) #[] #[.pointer (some ⟨b440, 0, none⟩), .pointer (some ⟨b441, 0, none⟩)]), (11, .pointer (some ⟨b492, 0, none⟩)), (13, .pointer (some ⟨b519, 0, none⟩)), (55, .slice a_c2_10 c2_10.length c_c2_10), (56, .int .i64 (c2_10.length : Int)), (57, .int .i64 x465), (69, .slice na485 x474.length nc486), (70, .int .i64 (x474.length : Int)), (71, .int .i64 x496), (75, .int .i64 3)]) (by kernel_rfl) ?_
                        refine t_end ?_
                        show WL _ _ _ _ _ _ _ _
                        refine wl_step ?_
                        refine w_seq ?_
                        refine w_reg fun all => ?_
                        refine t_qz 1 [5, 6, 7, 11, 13, 55, 56, 57, 69, 70, 71, 75, 76] (σ' := [(5, .pointer (some ⟨b442, 0, none⟩)), (6, .pointer (some ⟨b443, 0, none⟩)), (7, .func (.func 33) #[] #[.pointer (some ⟨b440, 0, none⟩), .pointer (some ⟨b441, 0, none⟩)]), (11, .pointer (some ⟨b492, 0, none⟩)), (13, .pointer (some ⟨b519, 0, none⟩)), (55, .slice a_c2_10 c2_10.length c_c2_10), (56, .int .i64 (c2_10.length : Int)), (57, .int .i64 x465), (69, .slice na485 x474.length nc486), (70, .int .i64 (x474.length : Int)), (71, .int .i64 x496), (75, .int .i64 3), (76, .bool false)]) (by kernel_rfl) ?_
                        refine t_end ?_
                        show W _ _ _ _ _ _ _
                        refine w_seq ?_
                        refine w_cond rfl (fun c_ => by cases c_) (fun _ => ?_)
                        show W _ _ _ _ _ _ _
                        refine w_exit ?_
                        simp only [Option.some.injEq, Prod.mk.injEq] at e521
                        obtain ⟨rfl, rfl, rfl, rfl, rfl, rfl⟩ := e521
                        exact ⟨(([⟨b519, [.int .i64 x503, .int .i64 t523, .int .i64 t524, .int .i64 t526, .int .i64 t527, .int .i64 t529, .int .i64 t530], 7⟩, ⟨b492, [.int .i64 t489, .int .i64 t490, .slice (ad a497) y498.length (na497 / 7), .bool x475], 4⟩, ⟨b488, [.int .i64 x472, .int .i64 x473, .slice na485 x474.length nc486, .bool x475], 4⟩, ⟨b443, [.int .i64 0, .int .i64 0, .int .i64 0, .int .i64 0, .int .i64 0, .int .i64 0, .int .i64 0, .int .i64 0, .int .i64 0, .int .i64 0, .slice none 0 0], 11⟩, ⟨b442, [.int .i64 c2_0, .int .i64 c2_1, .int .i64 x461, .int .i64 c2_3, .int .i64 c2_4, .int .i64 c2_5, .int .i64 t444, .int .i64 t445, .int .i64 x454, .int .i64 t448, .slice (ad a466) y467.length (na466 / 4)], 11⟩, ⟨b441, [.int .i64 w1], 1⟩, ⟨b440, [.int .i64 i0_0, .int .i64 i0_1, .int .i64 i0_2, .slice a_i0_3 n_i0_3 c_i0_3, .slice a_i0_4 n_i0_4 c_i0_4], 5⟩, ⟨a497, encL E_i647 y498, na497⟩, ⟨a466, csa466, na466⟩] : List Own) ++ (Fa466 ++ [])), S, VS.selT 9 [0, 1, 1, 2, 2, 2, 2, 0, 0] (by kernel_rfl), by kernel_rfl, rfl, rfl⟩
                      · rintro σ_ H_ S_ ⟨rfl, rfl, rfl⟩
                        refine w_reg fun all => ?_
                        refine t_qz 1 [5, 6, 7, 11, 13, 55, 56, 57, 69, 70, 71, 88] (σ' := [(5, .pointer (some ⟨b442, 0, none⟩)), (6, .pointer (some ⟨b443, 0, none⟩)), (7, .func (.func 33) #[] #[.pointer (some ⟨b440, 0, none⟩), .pointer (some ⟨b441, 0, none⟩)]), (11, .pointer (some ⟨b492, 0, none⟩)), (13, .pointer (some ⟨b519, 0, none⟩)), (55, .slice a_c2_10 c2_10.length c_c2_10), (56, .int .i64 (c2_10.length : Int)), (57, .int .i64 x465), (69, .slice na485 x474.length nc486), (70, .int .i64 (x474.length : Int)), (71, .int .i64 x496), (88, .pointer (some ⟨b492, 2, none⟩))]) (by kernel_rfl) ?_
                        refine t_v (.ld1 rfl rfl rfl (.at 1 rfl rfl)) ?_
                        refine t_v (.ldn rfl rfl rfl (.at 0 rfl rfl)) ?_
                        refine t_a (dv_bsl (cs := [.int .i64 x503, .int .i64 x532, .int .i64 x533, .int .i64 x534, .int .i64 x535, .int .i64 x536, .int .i64 x537]) rfl rfl (by kernel_rfl)) fun b538 fb538 sb538 => ?_
                        obtain ⟨y539, hl540, e501⟩ := bind_of e501
                        refine t_appX (E := E_i647) (L := y498) (X := ([(x503, x532, x533, x534, x535, x536, x537)] : List (Int × Int × Int × Int × Int × Int × Int))) (F := (([⟨b538, [.int .i64 x503, .int .i64 x532, .int .i64 x533, .int .i64 x534, .int .i64 x535, .int .i64 x536, .int .i64 x537], 7⟩, ⟨b519, [.int .i64 x503, .int .i64 x532, .int .i64 x533, .int .i64 x534, .int .i64 x535, .int .i64 x536, .int .i64 x537], 7⟩, ⟨b492, [.int .i64 t489, .int .i64 t490, .slice (ad a497) y498.length (na497 / 7), .bool x475], 4⟩, ⟨b488, [.int .i64 x472, .int .i64 x473, .slice na485 x474.length nc486, .bool x475], 4⟩, ⟨b443, [.int .i64 0, .int .i64 0, .int .i64 0, .int .i64 0, .int .i64 0, .int .i64 0, .int .i64 0, .int .i64 0, .int .i64 0, .int .i64 0, .slice none 0 0], 11⟩, ⟨b442, [.int .i64 c2_0, .int .i64 c2_1, .int .i64 x461, .int .i64 c2_3, .int .i64 c2_4, .int .i64 c2_5, .int .i64 t444, .int .i64 t445, .int .i64 x454, .int .i64 t448, .slice (ad a466) y467.length (na466 / 4)], 11⟩, ⟨b441, [.int .i64 w1], 1⟩, ⟨b440, [.int .i64 i0_0, .int .i64 i0_1, .int .i64 i0_2, .slice a_i0_3 n_i0_3 c_i0_3, .slice a_i0_4 n_i0_4 c_i0_4], 5⟩, ⟨a466, csa466, na466⟩] : List Own) ++ (Fa466 ++ []))) rfl rfl rfl rfl (sel_perm (is := [8]) (by kernel_rfl)) rfl (Or.inr ⟨_, _, rfl, .at 0 rfl (by kernel_rfl)⟩) rfl (by decide) (by decide) rfl hl540 fun a541 na541 => ?_
                        refine t_qz 1 [5, 6, 7, 11, 55, 56, 57, 69, 70, 71, 92, 93] (σ' := [(5, .pointer (some ⟨b442, 0, none⟩)), (6, .pointer (some ⟨b443, 0, none⟩)), (7, .func (.func 33) #[] #[.pointer (some ⟨b440, 0, none⟩), .pointer (some ⟨b441, 0, none⟩)]), (11, .pointer (some ⟨b492, 0, none⟩)), (55, .slice a_c2_10 c2_10.length c_c2_10), (56, .int .i64 (c2_10.length : Int)), (57, .int .i64 x465), (69, .slice na485 x474.length nc486), (70, .int .i64 (x474.length : Int)), (71, .int .i64 x496), (92, .slice (ad a541) y539.length (na541 / 7)), (93, .pointer (some ⟨b492, 2, none⟩))]) (by kernel_rfl) ?_
                        refine t_sti 3 (cs := [.int .i64 t489, .int .i64 t490, .slice (ad a541) y539.length (na541 / 7), .bool x475]) rfl rfl rfl rfl rfl rfl rfl rfl rfl ?_
                        refine t_keep [5, 6, 7, 11, 55, 56, 57, 69, 70, 71] (σ' := [(5, .pointer (some ⟨b442, 0, none⟩)), (6, .pointer (some ⟨b443, 0, none⟩)), (7, .func (.func 33) #[] #[.pointer (some ⟨b440, 0, none⟩), .pointer (some ⟨b441, 0, none⟩)]), (11, .pointer (some ⟨b492, 0, none⟩)), (55, .slice a_c2_10 c2_10.length c_c2_10), (56, .int .i64 (c2_10.length : Int)), (57, .int .i64 x465), (69, .slice na485 x474.length nc486), (70, .int .i64 (x474.length : Int)), (71, .int .i64 x496)]) (by kernel_rfl) ?_
                        refine t_end ?_
                        obtain rfl := Option.some.inj e501
                        exact ⟨(([⟨b492, [.int .i64 t489, .int .i64 t490, .slice (ad a541) y539.length (na541 / 7), .bool x475], 4⟩, ⟨b488, [.int .i64 x472, .int .i64 x473, .slice na485 x474.length nc486, .bool x475], 4⟩, ⟨b443, [.int .i64 0, .int .i64 0, .int .i64 0, .int .i64 0, .int .i64 0, .int .i64 0, .int .i64 0, .int .i64 0, .int .i64 0, .int .i64 0, .slice none 0 0], 11⟩, ⟨b442, [.int .i64 c2_0, .int .i64 c2_1, .int .i64 x461, .int .i64 c2_3, .int .i64 c2_4, .int .i64 c2_5, .int .i64 t444, .int .i64 t445, .int .i64 x454, .int .i64 t448, .slice (ad a466) y467.length (na466 / 4)], 11⟩, ⟨b441, [.int .i64 w1], 1⟩, ⟨b440, [.int .i64 i0_0, .int .i64 i0_1, .int .i64 i0_2, .slice a_i0_3 n_i0_3 c_i0_3, .slice a_i0_4 n_i0_4 c_i0_4], 5⟩, ⟨a541, encL E_i647 y539, na541⟩, ⟨a466, csa466, na466⟩] : List Own) ++ (Fa466 ++ [])), S, VS.selT 10 [3, 3, 3, 3, 3, 3, 0, 2] (by kernel_rfl), a541, na541, by kernel_rfl, rfl, rfl⟩
                    · rintro σ_ H_ S_ ⟨a542, na542, rfl, rfl, rfl⟩
                      refine w_reg fun all => ?_
                      refine t_qz 2 [5, 6, 7, 11, 55, 56, 57, 69, 70, 71] (σ' := [(5, .pointer (some ⟨b442, 0, none⟩)), (6, .pointer (some ⟨b443, 0, none⟩)), (7, .func (.func 33) #[] #[.pointer (some ⟨b440, 0, none⟩), .pointer (some ⟨b441, 0, none⟩)]), (11, .pointer (some ⟨b492, 0, none⟩)), (55, .slice a_c2_10 c2_10.length c_c2_10), (56, .int .i64 (c2_10.length : Int)), (57, .int .i64 x465), (69, .slice na485 x474.length nc486), (70, .int .i64 (x474.length : Int)), (71, .int .i64 (wr64 (x496 + 1)))]) (by kernel_rfl) ?_
                      refine t_end ?_
                      exact ⟨k_, Nat.lt_succ_self _, [(5, .pointer (some ⟨b442, 0, none⟩)), (6, .pointer (some ⟨b443, 0, none⟩)), (7, .func (.func 33) #[] #[.pointer (some ⟨b440, 0, none⟩), .pointer (some ⟨b441, 0, none⟩)]), (11, .pointer (some ⟨b492, 0, none⟩)), (55, .slice a_c2_10 c2_10.length c_c2_10), (56, .int .i64 (c2_10.length : Int)), (57, .int .i64 x465), (69, .slice na485 x474.length nc486), (70, .int .i64 (x474.length : Int)), (71, .int .i64 (wr64 (x496 + 1)))], (([⟨a542, encL E_i647 y543, na542⟩, ⟨b492, [.int .i64 t489, .int .i64 t490, .slice (ad a542) y543.length (na542 / 7), .bool x475], 4⟩, ⟨b488, [.int .i64 x472, .int .i64 x473, .slice na485 x474.length nc486, .bool x475], 4⟩, ⟨a466, csa466, na466⟩, ⟨b443, [.int .i64 0, .int .i64 0, .int .i64 0, .int .i64 0, .int .i64 0, .int .i64 0, .int .i64 0, .int .i64 0, .int .i64 0, .int .i64 0, .slice none 0 0], 11⟩, ⟨b442, [.int .i64 c2_0, .int .i64 c2_1, .int .i64 x461, .int .i64 c2_3, .int .i64 c2_4, .int .i64 c2_5, .int .i64 t444, .int .i64 t445, .int .i64 x454, .int .i64 t448, .slice (ad a466) y467.length (na466 / 4)], 11⟩, ⟨b441, [.int .i64 w1], 1⟩, ⟨b440, [.int .i64 i0_0, .int .i64 i0_1, .int .i64 i0_2, .slice a_i0_3 n_i0_3 c_i0_3, .slice a_i0_4 n_i0_4 c_i0_4], 5⟩] : List Own) ++ (Fa466 ++ [])), S, keep_sub [5, 6, 7, 11, 55, 56, 57, 69, 70, 71] (by kernel_rfl), VS.selT 8 [6, 0, 0, 4, 0, 0, 0, 0] (by kernel_rfl), wr64 (x496 + 1), y543, a542, na542, rfl, rfl, rfl, e494⟩
                  · rw [if_neg c499] at e494
                    have c499b : (decide (x496 < (x474.length : Int))) = false := decide_eq_false c499
                    refine t_v (dv_quiet rfl (congrArg (fun t => some (Value.bool t)) c499b)) ?_
                    refine t_keep [5, 6, 7, 11, 55, 56, 57, 69, 70, 71, 72] (σ' := [(5, .pointer (some ⟨b442, 0, none⟩)), (6, .pointer (some ⟨b443, 0, none⟩)), (7, .func (.func 33) #[] #[.pointer (some ⟨b440, 0, none⟩), .pointer (some ⟨b441, 0, none⟩)]), (11, .pointer (some ⟨b492, 0, none⟩)), (55, .slice a_c2_10 c2_10.length c_c2_10), (56, .int .i64 (c2_10.length : Int)), (57, .int .i64 x465), (69, .slice na485 x474.length nc486), (70, .int .i64 (x474.length : Int)), (71, .int .i64 x496), (72, .bool false)]) (by kernel_rfl) ?_
                    refine t_end ?_
                    show W _ _ _ _ _ _ _
                    refine w_seq ?_
                    refine w_cond rfl (fun c_ => by cases c_) (fun _ => ?_)
                    show W _ _ _ _ _ _ _
                    refine w_exit ?_
                    obtain rfl := Option.some.inj e494
                    exact ⟨(([⟨b492, [.int .i64 t489, .int .i64 t490, .slice (ad a497) y498.length (na497 / 7), .bool x475], 4⟩, ⟨b488, [.int .i64 x472, .int .i64 x473, .slice na485 x474.length nc486, .bool x475], 4⟩, ⟨b443, [.int .i64 0, .int .i64 0, .int .i64 0, .int .i64 0, .int .i64 0, .int .i64 0, .int .i64 0, .int .i64 0, .int .i64 0, .int .i64 0, .slice none 0 0], 11⟩, ⟨b442, [.int .i64 c2_0, .int .i64 c2_1, .int .i64 x461, .int .i64 c2_3, .int .i64 c2_4, .int .i64 c2_5, .int .i64 t444, .int .i64 t445, .int .i64 x454, .int .i64 t448, .slice (ad a466) y467.length (na466 / 4)], 11⟩, ⟨b441, [.int .i64 w1], 1⟩, ⟨b440, [.int .i64 i0_0, .int .i64 i0_1, .int .i64 i0_2, .slice a_i0_3 n_i0_3 c_i0_3, .slice a_i0_4 n_i0_4 c_i0_4], 5⟩, ⟨a497, encL E_i647 y498, na497⟩, ⟨a466, csa466, na466⟩] : List Own) ++ (Fa466 ++ [])), S, VS.selT 8 [1, 1, 2, 2, 2, 2, 0, 0] (by kernel_rfl), a497, na497, by kernel_rfl, rfl, rfl⟩
              · rintro σ_ H_ S_ ⟨a546, na546, rfl, rfl, rfl⟩
                refine w_reg fun all => ?_
                refine t_qz 1 [5, 6, 7, 11, 55, 56, 57, 95] (σ' := [(5, .pointer (some ⟨b442, 0, none⟩)), (6, .pointer (some ⟨b443, 0, none⟩)), (7, .func (.func 33) #[] #[.pointer (some ⟨b440, 0, none⟩), .pointer (some ⟨b441, 0, none⟩)]), (11, .pointer (some ⟨b492, 0, none⟩)), (55, .slice a_c2_10 c2_10.length c_c2_10), (56, .int .i64 (c2_10.length : Int)), (57, .int .i64 x465), (95, .pointer (some ⟨b442, 10, none⟩))]) (by kernel_rfl) ?_
                refine t_v (.ld1 rfl rfl rfl (.at 3 rfl rfl)) ?_
                refine t_v (.ldn rfl rfl rfl (.at 0 rfl rfl)) ?_
                refine t_a (dv_bsl (cs := [.int .i64 t489, .int .i64 t490, .slice (ad a546) y547.length (na546 / 7), .bool x475]) rfl rfl (by kernel_rfl)) fun b548 fb548 sb548 => ?_
                obtain ⟨y549, hl550, e470⟩ := bind_of e470
                refine t_someB 7 rfl fun hba546_ => ?_
                refine t_appN (R := rdOf (([⟨a546, encL E_i647 y547, na546⟩] : List Own) ++ (Fa466 ++ [])) S) (E := N_0) (L := y467) (X := ([(t489, t490, y547, x475)] : List (Int × Int × List (Int × Int × Int × Int × Int × Int × Int) × Bool))) (cs := csa466) (ds := [.int .i64 t489, .int .i64 t490, .slice (ad a546) y547.length (na546 / 7), .bool x475]) (F := (([⟨b548, [.int .i64 t489, .int .i64 t490, .slice (ad a546) y547.length (na546 / 7), .bool x475], 4⟩, ⟨b492, [.int .i64 t489, .int .i64 t490, .slice (ad a546) y547.length (na546 / 7), .bool x475], 4⟩, ⟨b488, [.int .i64 x472, .int .i64 x473, .slice na485 x474.length nc486, .bool x475], 4⟩, ⟨b443, [.int .i64 0, .int .i64 0, .int .i64 0, .int .i64 0, .int .i64 0, .int .i64 0, .int .i64 0, .int .i64 0, .int .i64 0, .int .i64 0, .slice none 0 0], 11⟩, ⟨b442, [.int .i64 c2_0, .int .i64 c2_1, .int .i64 x461, .int .i64 c2_3, .int .i64 c2_4, .int .i64 c2_5, .int .i64 t444, .int .i64 t445, .int .i64 x454, .int .i64 t448, .slice (ad a466) y467.length (na466 / 4)], 11⟩, ⟨b441, [.int .i64 w1], 1⟩, ⟨b440, [.int .i64 i0_0, .int .i64 i0_1, .int .i64 i0_2, .slice a_i0_3 n_i0_3 c_i0_3, .slice a_i0_4 n_i0_4 c_i0_4], 5⟩, ⟨a546, encL E_i647 y547, na546⟩] : List Own) ++ (Fa466 ++ []))) rfl rfl rfl rfl (sel_perm (is := [8]) (by kernel_rfl)) (RL.mono hra466 (rd_sub (sub_app (seg_in 1 (X := (Fa466 ++ [])) rfl seg_hd) sub_nil))) (RL.one (E := N_0) ⟨_, _, rfl, SlN.own (RL.flat (E := E_i647)) hba546_ (by decide) (fun _ hk_ => Or.inl ⟨_, mem_at 0 rfl, hk_, rfl⟩)⟩) rfl (by decide) (.at 0 rfl (by kernel_rfl)) rfl (by decide) (by decide) rfl hl550 fun a551 na551 csa551 hra551 => ?_
                refine t_qz 1 [5, 6, 7, 55, 56, 57, 99, 100] (σ' := [(5, .pointer (some ⟨b442, 0, none⟩)), (6, .pointer (some ⟨b443, 0, none⟩)), (7, .func (.func 33) #[] #[.pointer (some ⟨b440, 0, none⟩), .pointer (some ⟨b441, 0, none⟩)]), (55, .slice a_c2_10 c2_10.length c_c2_10), (56, .int .i64 (c2_10.length : Int)), (57, .int .i64 x465), (99, .slice (ad a551) y549.length (na551 / 4)), (100, .pointer (some ⟨b442, 10, none⟩))]) (by kernel_rfl) ?_
                refine t_sti 5 (cs := [.int .i64 c2_0, .int .i64 c2_1, .int .i64 x461, .int .i64 c2_3, .int .i64 c2_4, .int .i64 c2_5, .int .i64 t444, .int .i64 t445, .int .i64 x454, .int .i64 t448, .slice (ad a551) y549.length (na551 / 4)]) rfl rfl rfl rfl rfl rfl rfl rfl rfl ?_
                refine t_keep [5, 6, 7, 55, 56, 57] (σ' := [(5, .pointer (some ⟨b442, 0, none⟩)), (6, .pointer (some ⟨b443, 0, none⟩)), (7, .func (.func 33) #[] #[.pointer (some ⟨b440, 0, none⟩), .pointer (some ⟨b441, 0, none⟩)]), (55, .slice a_c2_10 c2_10.length c_c2_10), (56, .int .i64 (c2_10.length : Int)), (57, .int .i64 x465)]) (by kernel_rfl) ?_
                refine t_end ?_
                obtain rfl := Option.some.inj e470
                exact ⟨(([⟨b443, [.int .i64 0, .int .i64 0, .int .i64 0, .int .i64 0, .int .i64 0, .int .i64 0, .int .i64 0, .int .i64 0, .int .i64 0, .int .i64 0, .slice none 0 0], 11⟩, ⟨b442, [.int .i64 c2_0, .int .i64 c2_1, .int .i64 x461, .int .i64 c2_3, .int .i64 c2_4, .int .i64 c2_5, .int .i64 t444, .int .i64 t445, .int .i64 x454, .int .i64 t448, .slice (ad a551) y549.length (na551 / 4)], 11⟩, ⟨b441, [.int .i64 w1], 1⟩, ⟨b440, [.int .i64 i0_0, .int .i64 i0_1, .int .i64 i0_2, .slice a_i0_3 n_i0_3 c_i0_3, .slice a_i0_4 n_i0_4 c_i0_4], 5⟩, ⟨a551, csa551, na551⟩] : List Own) ++ ((([⟨a546, encL E_i647 y547, na546⟩] : List Own) ++ (Fa466 ++ [])) ++ [])), S, VS.treeA (.a (.l ([⟨a551, csa551, na551⟩, ⟨b548, [.int .i64 t489, .int .i64 t490, .slice (ad a546) y547.length (na546 / 7), .bool x475], 4⟩, ⟨b492, [.int .i64 t489, .int .i64 t490, .slice (ad a546) y547.length (na546 / 7), .bool x475], 4⟩, ⟨b488, [.int .i64 x472, .int .i64 x473, .slice na485 x474.length nc486, .bool x475], 4⟩, ⟨b443, [.int .i64 0, .int .i64 0, .int .i64 0, .int .i64 0, .int .i64 0, .int .i64 0, .int .i64 0, .int .i64 0, .int .i64 0, .int .i64 0, .slice none 0 0], 11⟩, ⟨b442, [.int .i64 c2_0, .int .i64 c2_1, .int .i64 x461, .int .i64 c2_3, .int .i64 c2_4, .int .i64 c2_5, .int .i64 t444, .int .i64 t445, .int .i64 x454, .int .i64 t448, .slice (ad a551) y549.length (na551 / 4)], 11⟩, ⟨b441, [.int .i64 w1], 1⟩, ⟨b440, [.int .i64 i0_0, .int .i64 i0_1, .int .i64 i0_2, .slice a_i0_3 n_i0_3 c_i0_3, .slice a_i0_4 n_i0_4 c_i0_4], 5⟩, ⟨a546, encL E_i647 y547, na546⟩] : List Own)) (.a (.f Fa466) (.l []))) (.a (.l ([⟨b443, [.int .i64 0, .int .i64 0, .int .i64 0, .int .i64 0, .int .i64 0, .int .i64 0, .int .i64 0, .int .i64 0, .int .i64 0, .int .i64 0, .slice none 0 0], 11⟩, ⟨b442, [.int .i64 c2_0, .int .i64 c2_1, .int .i64 x461, .int .i64 c2_3, .int .i64 c2_4, .int .i64 c2_5, .int .i64 t444, .int .i64 t445, .int .i64 x454, .int .i64 t448, .slice (ad a551) y549.length (na551 / 4)], 11⟩, ⟨b441, [.int .i64 w1], 1⟩, ⟨b440, [.int .i64 i0_0, .int .i64 i0_1, .int .i64 i0_2, .slice a_i0_3 n_i0_3 c_i0_3, .slice a_i0_4 n_i0_4 c_i0_4], 5⟩, ⟨a551, csa551, na551⟩] : List Own)) (.a (.a (.l ([⟨a546, encL E_i647 y547, na546⟩] : List Own)) (.a (.f Fa466) (.l []))) (.l []))) [4, 4, 4, 4, 0, 3, 3] (by kernel_rfl), a551, na551, csa551, (([⟨a546, encL E_i647 y547, na546⟩] : List Own) ++ (Fa466 ++ [])), by kernel_rfl, rfl, rfl, RL.mono hra551 (rd_sub seg_hd)⟩
            · rintro σ_ H_ S_ ⟨a552, na552, csa552, Fa552, rfl, rfl, rfl, hra552⟩
              refine w_reg fun all => ?_
              refine t_qz 2 [5, 6, 7, 55, 56, 57] (σ' := [(5, .pointer (some ⟨b442, 0, none⟩)), (6, .pointer (some ⟨b443, 0, none⟩)), (7, .func (.func 33) #[] #[.pointer (some ⟨b440, 0, none⟩), .pointer (some ⟨b441, 0, none⟩)]), (55, .slice a_c2_10 c2_10.length c_c2_10), (56, .int .i64 (c2_10.length : Int)), (57, .int .i64 (wr64 (x465 + 1)))]) (by kernel_rfl) ?_
              refine t_end ?_
              exact ⟨k_, Nat.lt_succ_self _, [(5, .pointer (some ⟨b442, 0, none⟩)), (6, .pointer (some ⟨b443, 0, none⟩)), (7, .func (.func 33) #[] #[.pointer (some ⟨b440, 0, none⟩), .pointer (some ⟨b441, 0, none⟩)]), (55, .slice a_c2_10 c2_10.length c_c2_10), (56, .int .i64 (c2_10.length : Int)), (57, .int .i64 (wr64 (x465 + 1)))], (([⟨a552, csa552, na552⟩, ⟨b443, [.int .i64 0, .int .i64 0, .int .i64 0, .int .i64 0, .int .i64 0, .int .i64 0, .int .i64 0, .int .i64 0, .int .i64 0, .int .i64 0, .slice none 0 0], 11⟩, ⟨b442, [.int .i64 c2_0, .int .i64 c2_1, .int .i64 x461, .int .i64 c2_3, .int .i64 c2_4, .int .i64 c2_5, .int .i64 t444, .int .i64 t445, .int .i64 x454, .int .i64 t448, .slice (ad a552) y553.length (na552 / 4)], 11⟩, ⟨b441, [.int .i64 w1], 1⟩, ⟨b440, [.int .i64 i0_0, .int .i64 i0_1, .int .i64 i0_2, .slice a_i0_3 n_i0_3 c_i0_3, .slice a_i0_4 n_i0_4 c_i0_4], 5⟩] : List Own) ++ ((Fa552 ++ []) ++ [])), S, keep_sub [5, 6, 7, 55, 56, 57] (by kernel_rfl), VS.treeA (.a (.l ([⟨b443, [.int .i64 0, .int .i64 0, .int .i64 0, .int .i64 0, .int .i64 0, .int .i64 0, .int .i64 0, .int .i64 0, .int .i64 0, .int .i64 0, .slice none 0 0], 11⟩, ⟨b442, [.int .i64 c2_0, .int .i64 c2_1, .int .i64 x461, .int .i64 c2_3, .int .i64 c2_4, .int .i64 c2_5, .int .i64 t444, .int .i64 t445, .int .i64 x454, .int .i64 t448, .slice (ad a552) y553.length (na552 / 4)], 11⟩, ⟨b441, [.int .i64 w1], 1⟩, ⟨b440, [.int .i64 i0_0, .int .i64 i0_1, .int .i64 i0_2, .slice a_i0_3 n_i0_3 c_i0_3, .slice a_i0_4 n_i0_4 c_i0_4], 5⟩, ⟨a552, csa552, na552⟩] : List Own)) (.a (.f Fa552) (.l []))) (.a (.l ([⟨a552, csa552, na552⟩, ⟨b443, [.int .i64 0, .int .i64 0, .int .i64 0, .int .i64 0, .int .i64 0, .int .i64 0, .int .i64 0, .int .i64 0, .int .i64 0, .int .i64 0, .slice none 0 0], 11⟩, ⟨b442, [.int .i64 c2_0, .int .i64 c2_1, .int .i64 x461, .int .i64 c2_3, .int .i64 c2_4, .int .i64 c2_5, .int .i64 t444, .int .i64 t445, .int .i64 x454, .int .i64 t448, .slice (ad a552) y553.length (na552 / 4)], 11⟩, ⟨b441, [.int .i64 w1], 1⟩, ⟨b440, [.int .i64 i0_0, .int .i64 i0_1, .int .i64 i0_2, .slice a_i0_3 n_i0_3 c_i0_3, .slice a_i0_4 n_i0_4 c_i0_4], 5⟩] : List Own)) (.a (.a (.f Fa552) (.l [])) (.l []))) [4, 0, 0, 0, 0, 0] (by kernel_rfl), wr64 (x465 + 1), y553, a552, na552, csa552, (Fa552 ++ []), rfl, rfl, rfl, e463, RL.mono hra552 (rd_sub seg_hd)⟩
          · rw [if_neg c468] at e463
            have c468b : (decide (x465 < (c2_10.length : Int))) = false := decide_eq_false c468
            refine t_v (dv_quiet rfl (congrArg (fun t => some (Value.bool t)) c468b)) ?_
            refine t_keep [5, 6, 7, 55, 56, 57, 58] (σ' := [(5, .pointer (some ⟨b442, 0, none⟩)), (6, .pointer (some ⟨b443, 0, none⟩)), (7, .func (.func 33) #[] #[.pointer (some ⟨b440, 0, none⟩), .pointer (some ⟨b441, 0, none⟩)]), (55, .slice a_c2_10 c2_10.length c_c2_10), (56, .int .i64 (c2_10.length : Int)), (57, .int .i64 x465), (58, .bool false)]) (by kernel_rfl) ?_
            refine t_end ?_
            show W _ _ _ _ _ _ _
            refine w_seq ?_
            refine w_cond rfl (fun c_ => by cases c_) (fun _ => ?_)
            show W _ _ _ _ _ _ _
            refine w_exit ?_
            obtain rfl := Option.some.inj e463
            exact ⟨(([⟨b443, [.int .i64 0, .int .i64 0, .int .i64 0, .int .i64 0, .int .i64 0, .int .i64 0, .int .i64 0, .int .i64 0, .int .i64 0, .int .i64 0, .slice none 0 0], 11⟩, ⟨b442, [.int .i64 c2_0, .int .i64 c2_1, .int .i64 x461, .int .i64 c2_3, .int .i64 c2_4, .int .i64 c2_5, .int .i64 t444, .int .i64 t445, .int .i64 x454, .int .i64 t448, .slice (ad a466) y467.length (na466 / 4)], 11⟩, ⟨b441, [.int .i64 w1], 1⟩, ⟨b440, [.int .i64 i0_0, .int .i64 i0_1, .int .i64 i0_2, .slice a_i0_3 n_i0_3 c_i0_3, .slice a_i0_4 n_i0_4 c_i0_4], 5⟩, ⟨a466, csa466, na466⟩] : List Own) ++ ((Fa466 ++ []) ++ [])), S, VS.treeA (.a (.l ([⟨a466, csa466, na466⟩, ⟨b443, [.int .i64 0, .int .i64 0, .int .i64 0, .int .i64 0, .int .i64 0, .int .i64 0, .int .i64 0, .int .i64 0, .int .i64 0, .int .i64 0, .slice none 0 0], 11⟩, ⟨b442, [.int .i64 c2_0, .int .i64 c2_1, .int .i64 x461, .int .i64 c2_3, .int .i64 c2_4, .int .i64 c2_5, .int .i64 t444, .int .i64 t445, .int .i64 x454, .int .i64 t448, .slice (ad a466) y467.length (na466 / 4)], 11⟩, ⟨b441, [.int .i64 w1], 1⟩, ⟨b440, [.int .i64 i0_0, .int .i64 i0_1, .int .i64 i0_2, .slice a_i0_3 n_i0_3 c_i0_3, .slice a_i0_4 n_i0_4 c_i0_4], 5⟩] : List Own)) (.a (.f Fa466) (.l []))) (.a (.l ([⟨b443, [.int .i64 0, .int .i64 0, .int .i64 0, .int .i64 0, .int .i64 0, .int .i64 0, .int .i64 0, .int .i64 0, .int .i64 0, .int .i64 0, .slice none 0 0], 11⟩, ⟨b442, [.int .i64 c2_0, .int .i64 c2_1, .int .i64 x461, .int .i64 c2_3, .int .i64 c2_4, .int .i64 c2_5, .int .i64 t444, .int .i64 t445, .int .i64 x454, .int .i64 t448, .slice (ad a466) y467.length (na466 / 4)], 11⟩, ⟨b441, [.int .i64 w1], 1⟩, ⟨b440, [.int .i64 i0_0, .int .i64 i0_1, .int .i64 i0_2, .slice a_i0_3 n_i0_3 c_i0_3, .slice a_i0_4 n_i0_4 c_i0_4], 5⟩, ⟨a466, csa466, na466⟩] : List Own)) (.a (.a (.f Fa466) (.l [])) (.l []))) [1, 1, 1, 1, 0, 0] (by kernel_rfl), a466, na466, csa466, (Fa466 ++ []), by kernel_rfl, rfl, rfl, RL.mono hra466 (rd_sub seg_hd)⟩
      · rintro σ_ H_ S_ ⟨a556, na556, csa556, Fa556, rfl, rfl, rfl, hra556⟩
        refine w_seq ?_
        refine w_reg fun all => ?_
        refine t_v (.ldn rfl rfl rfl (.at 1 rfl rfl)) ?_
        refine t_sti 0 (cs := [.int .i64 c2_0, .int .i64 c2_1, .int .i64 x461, .int .i64 c2_3, .int .i64 c2_4, .int .i64 c2_5, .int .i64 t444, .int .i64 t445, .int .i64 x454, .int .i64 t448, .slice (ad a556) y557.length (na556 / 4)]) rfl rfl rfl rfl rfl rfl rfl rfl rfl ?_
        refine t_keep [6] (σ' := [(6, .pointer (some ⟨b443, 0, none⟩))]) (by kernel_rfl) ?_
        refine t_end ?_
        show W _ _ _ _ _ _ _
        refine w_someB 4 rfl fun hz4_ => ?_
        refine w_ret ?_
        simp only [Option.some.injEq, Prod.mk.injEq] at e
        obtain ⟨rfl, rfl, rfl, rfl, rfl, rfl, rfl, rfl, rfl, rfl, rfl⟩ := e
        exact ⟨[.agg #[.int .i64 c2_0, .int .i64 c2_1, .int .i64 x461, .int .i64 c2_3, .int .i64 c2_4, .int .i64 c2_5, .int .i64 t444, .int .i64 t445, .int .i64 x454, .int .i64 t448, .slice (ad a556) y557.length (na556 / 4)]], ((([⟨a556, csa556, na556⟩] : List Own) ++ (Fa556 ++ [])) ++ []), S, ⟨⟨_, _, _, rfl, .at 0 rfl rfl, rfl⟩, trivial⟩, VS.treeA (.a (.l ([⟨b443, [.int .i64 c2_0, .int .i64 c2_1, .int .i64 x461, .int .i64 c2_3, .int .i64 c2_4, .int .i64 c2_5, .int .i64 t444, .int .i64 t445, .int .i64 x454, .int .i64 t448, .slice (ad a556) y557.length (na556 / 4)], 11⟩, ⟨b442, [.int .i64 c2_0, .int .i64 c2_1, .int .i64 x461, .int .i64 c2_3, .int .i64 c2_4, .int .i64 c2_5, .int .i64 t444, .int .i64 t445, .int .i64 x454, .int .i64 t448, .slice (ad a556) y557.length (na556 / 4)], 11⟩, ⟨b441, [.int .i64 w1], 1⟩, ⟨b440, [.int .i64 i0_0, .int .i64 i0_1, .int .i64 i0_2, .slice a_i0_3 n_i0_3 c_i0_3, .slice a_i0_4 n_i0_4 c_i0_4], 5⟩, ⟨a556, csa556, na556⟩] : List Own)) (.a (.f Fa556) (.l []))) (.a (.a (.l ([⟨a556, csa556, na556⟩] : List Own)) (.a (.f Fa556) (.l []))) (.l [])) [4, 4] (by kernel_rfl), (ad a556), (na556 / 4), (([⟨a556, csa556, na556⟩] : List Own) ++ (Fa556 ++ [])), rfl, rfl, rfl, SlN.mono (SlN.own (E := N_0) (RL.mono hra556 (rd_sub (sub_app (seg_in 1 (X := (Fa556 ++ [])) rfl seg_hd) sub_nil))) hz4_ (by decide) (fun _ hk_ => Or.inl ⟨_, mem_at 0 rfl, hk_, rfl⟩)) (rd_sub fun e_ he_ => seg_hd e_ ((sub_app (sub_cons (mem_at 0 rfl) sub_nil) (sub_app (seg_in 1 (X := (Fa556 ++ [])) rfl seg_hd) sub_nil)) e_ he_))⟩

/-- glyphicref1.Down -/
def c41 : C :=
  (.seq (.reg [⟨(some 4), .mv (.const (.int .i64 0)), none⟩])
  (.seq (.seq (.reg [⟨(some 6), .mv (.tmp 1), none⟩,
      ⟨(some 7), .bin .lss (.tmp 6) (.const (.int .i64 1)), none⟩])
   (.cond (.tmp 7)
    (.seq (.reg [⟨(some 4), .mv (.const (.int .i64 0)), none⟩])
     .ret)
    .skip))
  (.seq (.reg [⟨(some 8), .mv (.tmp 0), none⟩,
     ⟨(some 9), .mv (.tmp 1), none⟩,
     ⟨(some 10), .bin .quo (.tmp 8) (.tmp 9), none⟩,
     ⟨(some 5), .mv (.tmp 10), none⟩])
  (.seq (.seq (.reg [⟨(some 11), .mv (.tmp 0), none⟩,
      ⟨(some 12), .mv (.tmp 1), none⟩,
      ⟨(some 13), .bin .rem (.tmp 11) (.tmp 12), none⟩,
      ⟨(some 14), .bin .lss (.tmp 13) (.const (.int .i64 0)), none⟩])
   (.cond (.tmp 14)
    (.reg [⟨(some 15), .mv (.tmp 5), none⟩,
       ⟨(some 16), .bin .sub (.tmp 15) (.const (.int .i64 1)), none⟩,
       ⟨(some 5), .mv (.tmp 16), none⟩])
    .skip))
  (.seq (.reg [⟨(some 17), .mv (.tmp 5), none⟩,
     ⟨(some 4), .mv (.tmp 17), none⟩])
  .ret)))))
def glyphicref1_Down.f (a0 : Int) (b1 : Int) : Option (Int) := if b1 < 1 then (some 0) else (if b1 = 0 then none else (if (Int.tmod a0 b1) < 0 then (some (wr64 ((wr64 (Int.tdiv a0 b1)) - 1))) else (some (wr64 (Int.tdiv a0 b1)))))
theorem glyphicref1_Down.ok {S : Seal} {a0 : Int} {b1 : Int} {r0_ : Int}{A_ : Int → Addr} (hE_ : EO gsE S A_ 94) (e : glyphicref1_Down.f a0 b1 = some r0_) :
    Cal Tryd.prog 41 [.int .i64 a0, .int .i64 b1] [] S fun v H' S' => v = .int .i64 r0_ ∧ H' = [] ∧ S' = S := by
  unfold glyphicref1_Down.f at e
  refine cal_of (c := c41) (N := 18) Tryd.func41 rfl rfl (by kernel_rfl) (rs := [.t 4]) (by kernel_rfl) (Nat.le_of_ble_eq_true rfl) ?_
  unfold c41
  refine w_seq ?_
  refine w_reg fun all => ?_
  refine t_qz 1 [0, 1] (σ' := [(0, .int .i64 a0), (1, .int .i64 b1)]) (by kernel_rfl) ?_
  refine t_end ?_
  show W _ _ _ _ _ _ _
  refine w_seq ?_
  refine w_seq ?_
  refine w_reg fun all => ?_
  by_cases c602 : b1 < 1
  · rw [if_pos c602] at e
    have c602b : (decide (b1 < 1)) = true := decide_eq_true c602
    refine t_qz 1 [0, 1, 6] (σ' := [(0, .int .i64 a0), (1, .int .i64 b1), (6, .int .i64 b1)]) (by kernel_rfl) ?_
    refine t_v (dv_quiet rfl (congrArg (fun t => some (Value.bool t)) c602b)) ?_
    refine t_keep [0, 1, 7] (σ' := [(0, .int .i64 a0), (1, .int .i64 b1), (7, .bool true)]) (by kernel_rfl) ?_
    refine t_end ?_
    show W _ _ _ _ _ _ _
    refine w_cond rfl (fun _ => ?_) (fun c_ => by cases c_)
    show W _ _ _ _ _ _ _
    refine w_seq ?_
    refine w_reg fun all => ?_
    refine t_qz 1 [4] (σ' := [(4, .int .i64 0)]) (by kernel_rfl) ?_
    refine t_end ?_
    show W _ _ _ _ _ _ _
    refine w_ret ?_
    obtain rfl := Option.some.inj e
    exact ⟨[.int .i64 0], [], S, ⟨rfl, trivial⟩, VS.none, rfl, rfl, rfl⟩
  · rw [if_neg c602] at e
    have c602b : (decide (b1 < 1)) = false := decide_eq_false c602
    refine t_qz 1 [0, 1, 6] (σ' := [(0, .int .i64 a0), (1, .int .i64 b1), (6, .int .i64 b1)]) (by kernel_rfl) ?_
    refine t_v (dv_quiet rfl (congrArg (fun t => some (Value.bool t)) c602b)) ?_
    refine t_keep [0, 1, 7] (σ' := [(0, .int .i64 a0), (1, .int .i64 b1), (7, .bool false)]) (by kernel_rfl) ?_
    refine t_end ?_
    show W _ _ _ _ _ _ _
    refine w_cond rfl (fun c_ => by cases c_) (fun _ => ?_)
    show W _ _ _ _ _ _ _
    refine w_skip ?_
    show W _ _ _ _ _ _ _
    refine w_seq ?_
    refine w_reg fun all => ?_
    have c603 : ¬ b1 = 0 := by
      intro h_; rw [if_pos h_] at e; cases e
    rw [if_neg c603] at e
    refine t_qz 2 [0, 1, 8, 9] (σ' := [(0, .int .i64 a0), (1, .int .i64 b1), (8, .int .i64 a0), (9, .int .i64 b1)]) (by kernel_rfl) ?_
    refine t_v (.quiet rfl (qv_quo rfl rfl c603)) ?_
    refine t_qz 1 [0, 1, 5] (σ' := [(0, .int .i64 a0), (1, .int .i64 b1), (5, .int .i64 (wr64 (Int.tdiv a0 b1)))]) (by kernel_rfl) ?_
    refine t_end ?_
    show W _ _ _ _ _ _ _
    refine w_seq ?_
    refine w_seq ?_
    refine w_reg fun all => ?_
    refine t_qz 2 [5, 11, 12] (σ' := [(5, .int .i64 (wr64 (Int.tdiv a0 b1))), (11, .int .i64 a0), (12, .int .i64 b1)]) (by kernel_rfl) ?_
    refine t_v (.quiet rfl (qv_rem rfl rfl c603)) ?_
    by_cases c604 : (Int.tmod a0 b1) < 0
    · rw [if_pos c604] at e
      have c604b : (decide ((Int.tmod a0 b1) < 0)) = true := decide_eq_true c604
      refine t_v (dv_quiet rfl (congrArg (fun t => some (Value.bool t)) c604b)) ?_
      refine t_keep [5, 14] (σ' := [(5, .int .i64 (wr64 (Int.tdiv a0 b1))), (14, .bool true)]) (by kernel_rfl) ?_
      refine t_end ?_
      show W _ _ _ _ _ _ _
      refine w_cond rfl (fun _ => ?_) (fun c_ => by cases c_)
      show W _ _ _ _ _ _ _
      refine w_reg fun all => ?_
      refine t_qz 3 [5] (σ' := [(5, .int .i64 (wr64 ((wr64 (Int.tdiv a0 b1)) - 1)))]) (by kernel_rfl) ?_
      refine t_end ?_
      show W _ _ _ _ _ _ _
      refine w_seq ?_
      refine w_reg fun all => ?_
      refine t_qz 2 [4] (σ' := [(4, .int .i64 (wr64 ((wr64 (Int.tdiv a0 b1)) - 1)))]) (by kernel_rfl) ?_
      refine t_end ?_
      show W _ _ _ _ _ _ _
      refine w_ret ?_
      obtain rfl := Option.some.inj e
      exact ⟨[.int .i64 (wr64 ((wr64 (Int.tdiv a0 b1)) - 1))], [], S, ⟨rfl, trivial⟩, VS.none, rfl, rfl, rfl⟩
    · rw [if_neg c604] at e
      have c604b : (decide ((Int.tmod a0 b1) < 0)) = false := decide_eq_false c604
      refine t_v (dv_quiet rfl (congrArg (fun t => some (Value.bool t)) c604b)) ?_
      refine t_keep [5, 14] (σ' := [(5, .int .i64 (wr64 (Int.tdiv a0 b1))), (14, .bool false)]) (by kernel_rfl) ?_
      refine t_end ?_
      show W _ _ _ _ _ _ _
      refine w_cond rfl (fun c_ => by cases c_) (fun _ => ?_)
      show W _ _ _ _ _ _ _
      refine w_skip ?_
      show W _ _ _ _ _ _ _
      refine w_seq ?_
      refine w_reg fun all => ?_
      refine t_qz 2 [4] (σ' := [(4, .int .i64 (wr64 (Int.tdiv a0 b1)))]) (by kernel_rfl) ?_
      refine t_end ?_
      show W _ _ _ _ _ _ _
      refine w_ret ?_
      obtain rfl := Option.some.inj e
      exact ⟨[.int .i64 (wr64 (Int.tdiv a0 b1))], [], S, ⟨rfl, trivial⟩, VS.none, rfl, rfl, rfl⟩

/-- glyphicref1.Round -/
def c35 : C :=
  (.seq (.reg [⟨(some 4), .mv (.const (.int .i64 0)), none⟩])
  (.seq (.seq (.reg [⟨(some 7), .mv (.tmp 1), none⟩,
      ⟨(some 8), .bin .lss (.tmp 7) (.const (.int .i64 1)), none⟩])
   (.cond (.tmp 8)
    (.seq (.reg [⟨(some 4), .mv (.const (.int .i64 0)), none⟩])
     .ret)
    .skip))
  (.seq (.reg [⟨(some 9), .mv (.tmp 0), none⟩,
     ⟨(some 10), .mv (.tmp 1), none⟩,
     ⟨(some 11), .call 41 [(.tmp 9), (.tmp 10)], none⟩,
     ⟨(some 5), .mv (.tmp 11), none⟩])
  (.seq (.reg [⟨(some 12), .mv (.tmp 0), none⟩,
     ⟨(some 13), .mv (.tmp 5), none⟩,
     ⟨(some 14), .mv (.tmp 1), none⟩,
     ⟨(some 15), .bin .mul (.tmp 13) (.tmp 14), none⟩,
     ⟨(some 16), .bin .sub (.tmp 12) (.tmp 15), none⟩,
     ⟨(some 6), .mv (.tmp 16), none⟩])
  (.seq (.seq (.reg [⟨(some 17), .mv (.tmp 6), none⟩,
      ⟨(some 18), .mv (.tmp 1), none⟩,
      ⟨(some 19), .mv (.tmp 6), none⟩,
      ⟨(some 20), .bin .sub (.tmp 18) (.tmp 19), none⟩,
      ⟨(some 21), .bin .geq (.tmp 17) (.tmp 20), none⟩])
   (.cond (.tmp 21)
    (.reg [⟨(some 22), .mv (.tmp 5), none⟩,
       ⟨(some 23), .bin .add (.tmp 22) (.const (.int .i64 1)), none⟩,
       ⟨(some 5), .mv (.tmp 23), none⟩])
    .skip))
  (.seq (.reg [⟨(some 24), .mv (.tmp 5), none⟩,
     ⟨(some 4), .mv (.tmp 24), none⟩])
  .ret))))))
def glyphicref1_Round.f (a0 : Int) (b1 : Int) : Option (Int) := if b1 < 1 then (some 0) else ((glyphicref1_Down.f a0 b1).bind fun t605 => (if (wr64 (a0 - (wr64 (t605 * b1)))) ≥ (wr64 (b1 - (wr64 (a0 - (wr64 (t605 * b1)))))) then (some (wr64 (t605 + 1))) else (some t605)))
theorem glyphicref1_Round.ok {S : Seal} {a0 : Int} {b1 : Int} {r0_ : Int}{A_ : Int → Addr} (hE_ : EO gsE S A_ 94) (e : glyphicref1_Round.f a0 b1 = some r0_) :
    Cal Tryd.prog 35 [.int .i64 a0, .int .i64 b1] [] S fun v H' S' => v = .int .i64 r0_ ∧ H' = [] ∧ S' = S := by
  unfold glyphicref1_Round.f at e
  refine cal_of (c := c35) (N := 25) Tryd.func35 rfl rfl (by kernel_rfl) (rs := [.t 4]) (by kernel_rfl) (Nat.le_of_ble_eq_true rfl) ?_
  unfold c35
  refine w_seq ?_
  refine w_reg fun all => ?_
  refine t_qz 1 [0, 1] (σ' := [(0, .int .i64 a0), (1, .int .i64 b1)]) (by kernel_rfl) ?_
  refine t_end ?_
  show W _ _ _ _ _ _ _
  refine w_seq ?_
  refine w_seq ?_
  refine w_reg fun all => ?_
  by_cases c601 : b1 < 1
  · rw [if_pos c601] at e
    have c601b : (decide (b1 < 1)) = true := decide_eq_true c601
    refine t_qz 1 [0, 1, 7] (σ' := [(0, .int .i64 a0), (1, .int .i64 b1), (7, .int .i64 b1)]) (by kernel_rfl) ?_
    refine t_v (dv_quiet rfl (congrArg (fun t => some (Value.bool t)) c601b)) ?_
    refine t_keep [0, 1, 8] (σ' := [(0, .int .i64 a0), (1, .int .i64 b1), (8, .bool true)]) (by kernel_rfl) ?_
    refine t_end ?_
    show W _ _ _ _ _ _ _
    refine w_cond rfl (fun _ => ?_) (fun c_ => by cases c_)
    show W _ _ _ _ _ _ _
    refine w_seq ?_
    refine w_reg fun all => ?_
    refine t_qz 1 [4] (σ' := [(4, .int .i64 0)]) (by kernel_rfl) ?_
    refine t_end ?_
    show W _ _ _ _ _ _ _
    refine w_ret ?_
    obtain rfl := Option.some.inj e
    exact ⟨[.int .i64 0], [], S, ⟨rfl, trivial⟩, VS.none, rfl, rfl, rfl⟩
  · rw [if_neg c601] at e
    have c601b : (decide (b1 < 1)) = false := decide_eq_false c601
    refine t_qz 1 [0, 1, 7] (σ' := [(0, .int .i64 a0), (1, .int .i64 b1), (7, .int .i64 b1)]) (by kernel_rfl) ?_
    refine t_v (dv_quiet rfl (congrArg (fun t => some (Value.bool t)) c601b)) ?_
    refine t_keep [0, 1, 8] (σ' := [(0, .int .i64 a0), (1, .int .i64 b1), (8, .bool false)]) (by kernel_rfl) ?_
    refine t_end ?_
    show W _ _ _ _ _ _ _
    refine w_cond rfl (fun c_ => by cases c_) (fun _ => ?_)
    show W _ _ _ _ _ _ _
    refine w_skip ?_
    show W _ _ _ _ _ _ _
    refine w_seq ?_
    refine w_reg fun all => ?_
    obtain ⟨t605, h606, e⟩ := bind_of e
    refine t_qz 2 [0, 1, 9, 10] (σ' := [(0, .int .i64 a0), (1, .int .i64 b1), (9, .int .i64 a0), (10, .int .i64 b1)]) (by kernel_rfl) ?_
    refine t_v (.call (vs := [.int .i64 a0, .int .i64 b1]) rfl rfl (by kernel_rfl) (glyphicref1_Down.ok hE_ h606)) ?_
    refine t_qz 1 [0, 1, 5] (σ' := [(0, .int .i64 a0), (1, .int .i64 b1), (5, .int .i64 t605)]) (by kernel_rfl) ?_
    refine t_end ?_
    show W _ _ _ _ _ _ _
    refine w_seq ?_
    refine w_reg fun all => ?_
    refine t_qz 6 [1, 5, 6] (σ' := [(1, .int .i64 b1), (5, .int .i64 t605), (6, .int .i64 (wr64 (a0 - (wr64 (t605 * b1)))))]) (by kernel_rfl) ?_
    refine t_end ?_
    show W _ _ _ _ _ _ _
    refine w_seq ?_
    refine w_seq ?_
    refine w_reg fun all => ?_
    by_cases c607 : (wr64 (a0 - (wr64 (t605 * b1)))) ≥ (wr64 (b1 - (wr64 (a0 - (wr64 (t605 * b1))))))
    · rw [if_pos c607] at e
      have c607b : (decide ((wr64 (a0 - (wr64 (t605 * b1)))) ≥ (wr64 (b1 - (wr64 (a0 - (wr64 (t605 * b1)))))))) = true := decide_eq_true c607
      refine t_qz 4 [5, 17, 20] (σ' := [(5, .int .i64 t605), (17, .int .i64 (wr64 (a0 - (wr64 (t605 * b1))))), (20, .int .i64 (wr64 (b1 - (wr64 (a0 - (wr64 (t605 * b1)))))))]) (by kernel_rfl) ?_
      refine t_v (dv_quiet rfl (congrArg (fun t => some (Value.bool t)) c607b)) ?_
      refine t_keep [5, 21] (σ' := [(5, .int .i64 t605), (21, .bool true)]) (by kernel_rfl) ?_
      refine t_end ?_
      show W _ _ _ _ _ _ _
      refine w_cond rfl (fun _ => ?_) (fun c_ => by cases c_)
      show W _ _ _ _ _ _ _
      refine w_reg fun all => ?_
      refine t_qz 3 [5] (σ' := [(5, .int .i64 (wr64 (t605 + 1)))]) (by kernel_rfl) ?_
      refine t_end ?_
      show W _ _ _ _ _ _ _
      refine w_seq ?_
      refine w_reg fun all => ?_
      refine t_qz 2 [4] (σ' := [(4, .int .i64 (wr64 (t605 + 1)))]) (by kernel_rfl) ?_
      refine t_end ?_
      show W _ _ _ _ _ _ _
      refine w_ret ?_
      obtain rfl := Option.some.inj e
      exact ⟨[.int .i64 (wr64 (t605 + 1))], [], S, ⟨rfl, trivial⟩, VS.none, rfl, rfl, rfl⟩
    · rw [if_neg c607] at e
      have c607b : (decide ((wr64 (a0 - (wr64 (t605 * b1)))) ≥ (wr64 (b1 - (wr64 (a0 - (wr64 (t605 * b1)))))))) = false := decide_eq_false c607
      refine t_qz 4 [5, 17, 20] (σ' := [(5, .int .i64 t605), (17, .int .i64 (wr64 (a0 - (wr64 (t605 * b1))))), (20, .int .i64 (wr64 (b1 - (wr64 (a0 - (wr64 (t605 * b1)))))))]) (by kernel_rfl) ?_
      refine t_v (dv_quiet rfl (congrArg (fun t => some (Value.bool t)) c607b)) ?_
      refine t_keep [5, 21] (σ' := [(5, .int .i64 t605), (21, .bool false)]) (by kernel_rfl) ?_
      refine t_end ?_
      show W _ _ _ _ _ _ _
      refine w_cond rfl (fun c_ => by cases c_) (fun _ => ?_)
      show W _ _ _ _ _ _ _
      refine w_skip ?_
      show W _ _ _ _ _ _ _
      refine w_seq ?_
      refine w_reg fun all => ?_
      refine t_qz 2 [4] (σ' := [(4, .int .i64 t605)]) (by kernel_rfl) ?_
      refine t_end ?_
      show W _ _ _ _ _ _ _
      refine w_ret ?_
      obtain rfl := Option.some.inj e
      exact ⟨[.int .i64 t605], [], S, ⟨rfl, trivial⟩, VS.none, rfl, rfl, rfl⟩

/-- glyphicref20.At -/
def c18 : C :=
  (.seq (.reg [⟨(some 3), .box (.tmp 0), none⟩,
     ⟨(some 6), .mv (.const (.int .i64 0)), none⟩])
  (.seq (.reg [⟨(some 7), .mv (.tmp 2), none⟩,
     ⟨(some 8), .mv (.tmp 1), none⟩,
     ⟨(some 9), .bin .mul (.tmp 7) (.tmp 8), none⟩,
     ⟨(some 10), .bin .mul (.tmp 9) (.const (.int .i64 256)), none⟩,
     ⟨(some 11), .pad 0 (.tmp 3), none⟩,
     ⟨(some 12), .ld none (.tmp 11), none⟩,
     ⟨(some 13), .pad 2 (.tmp 3), none⟩,
     ⟨(some 14), .ld none (.tmp 13), none⟩,
     ⟨(some 15), .cnv .u64 (.tmp 14), none⟩,
     ⟨(some 16), .bin .shl (.tmp 12) (.tmp 15), none⟩,
     ⟨(some 17), .call 35 [(.tmp 10), (.tmp 16)], none⟩,
     ⟨(some 6), .mv (.tmp 17), none⟩])
  .ret))
def glyphicref20_At_v1.f (i0_0 : Int) (i0_1 : Int) (i0_2 : Int) (w1 : Int) (v2 : Int) : Option (Int) := if (wru64 i0_2) < 0 then none else ((glyphicref1_Round.f (wr64 ((wr64 (v2 * w1)) * 256)) (wr64 (i0_0 * 2 ^ (min (Int.toNat (wru64 i0_2)) 64)))).bind fun t608 => (some t608))
theorem glyphicref20_At_v1.ok {S : Seal} {i0_0 : Int} {i0_1 : Int} {i0_2 : Int} {w1 : Int} {v2 : Int} {r0_ : Int}{A_ : Int → Addr} (hE_ : EO gsE S A_ 94) {a_i0_3 : Option Addr} {n_i0_3 c_i0_3 : Nat} {a_i0_4 : Option Addr} {n_i0_4 c_i0_4 : Nat} (e : glyphicref20_At_v1.f i0_0 i0_1 i0_2 w1 v2 = some r0_) :
    Cal Tryd.prog 18 [.agg #[.int .i64 i0_0, .int .i64 i0_1, .int .i64 i0_2, .slice a_i0_3 n_i0_3 c_i0_3, .slice a_i0_4 n_i0_4 c_i0_4], .int .i64 w1, .int .i64 v2] [] S fun v H' S' => v = .int .i64 r0_ ∧ H' = [] ∧ S' = S := by
  unfold glyphicref20_At_v1.f at e
  refine cal_of (c := c18) (N := 18) Tryd.func18 rfl rfl (by kernel_rfl) (rs := [.t 6]) (by kernel_rfl) (Nat.le_of_ble_eq_true rfl) ?_
  unfold c18
  refine w_seq ?_
  refine w_reg fun all => ?_
  refine t_a (.box rfl rfl rfl) fun b599 fb599 sb599 => ?_
  refine t_qz 1 [1, 2, 3] (σ' := [(1, .int .i64 w1), (2, .int .i64 v2), (3, .pointer (some ⟨b599, 0, none⟩))]) (by kernel_rfl) ?_
  refine t_end ?_
  show W _ _ _ _ _ _ _
  refine w_seq ?_
  refine w_reg fun all => ?_
  refine t_qz 5 [3, 10, 11] (σ' := [(3, .pointer (some ⟨b599, 0, none⟩)), (10, .int .i64 (wr64 ((wr64 (v2 * w1)) * 256))), (11, .pointer (some ⟨b599, 0, none⟩))]) (by kernel_rfl) ?_
  refine t_v (.ld1 rfl rfl rfl (.at 0 rfl rfl)) ?_
  refine t_qz 1 [10, 12, 13] (σ' := [(10, .int .i64 (wr64 ((wr64 (v2 * w1)) * 256))), (12, .int .i64 i0_0), (13, .pointer (some ⟨b599, 2, none⟩))]) (by kernel_rfl) ?_
  refine t_v (.ld1 rfl rfl rfl (.at 0 rfl rfl)) ?_
  have c600 : ¬ (wru64 i0_2) < 0 := by
    intro h_; rw [if_pos h_] at e; cases e
  rw [if_neg c600] at e
  refine t_qz 1 [10, 12, 15] (σ' := [(10, .int .i64 (wr64 ((wr64 (v2 * w1)) * 256))), (12, .int .i64 i0_0), (15, .int .u64 (wru64 i0_2))]) (by kernel_rfl) ?_
  refine t_v (.quiet rfl (qv_shl rfl rfl c600)) ?_
  obtain ⟨t608, h609, e⟩ := bind_of e
  refine t_v (.call (vs := [.int .i64 (wr64 ((wr64 (v2 * w1)) * 256)), .int .i64 (wr64 (i0_0 * 2 ^ (min (Int.toNat (wru64 i0_2)) 64)))]) rfl rfl (by kernel_rfl) (glyphicref1_Round.ok hE_ h609)) ?_
  refine t_qz 1 [6] (σ' := [(6, .int .i64 t608)]) (by kernel_rfl) ?_
  refine t_end ?_
  show W _ _ _ _ _ _ _
  refine w_ret ?_
  obtain rfl := Option.some.inj e
  exact ⟨[.int .i64 t608], [], S, ⟨rfl, trivial⟩, VS.none, rfl, rfl, rfl⟩

/-- glyphicref20.point -/
def c34 : C :=
  (.seq (.reg [⟨(some 3), .box (.tmp 0), none⟩,
     ⟨(some 5), .box (.tmp 2), none⟩,
     ⟨(some 6), .new [(.int .i64 0), (.int .i64 0)], none⟩])
  (.seq (.drw [⟨(some 7), .ld (some 5) (.tmp 3), none⟩,
     ⟨(some 8), .mv (.tmp 1), none⟩,
     ⟨(some 9), .pad 0 (.tmp 5), none⟩,
     ⟨(some 10), .ld none (.tmp 9), none⟩,
     ⟨(some 11), .call 18 [(.tmp 7), (.tmp 8), (.tmp 10)], none⟩,
     ⟨(some 12), .ld (some 5) (.tmp 3), none⟩,
     ⟨(some 13), .mv (.tmp 1), none⟩,
     ⟨(some 14), .pad 1 (.tmp 5), none⟩,
     ⟨(some 15), .ld none (.tmp 14), none⟩,
     ⟨(some 16), .call 18 [(.tmp 12), (.tmp 13), (.tmp 15)], none⟩,
     ⟨(some 17), .bld [(.int .i64 0), (.int .i64 0)] [(0, 1, (.tmp 11)), (1, 1, (.tmp 16))], none⟩,
     ⟨none, .st 2 (.tmp 6) (.tmp 17), none⟩] [[], [], [], [2], [0, 1, 3], [], [], [], [7], [5, 6, 8, 4], [4, 9], [10, 9, 0, 1, 2, 3, 4, 5, 6, 7, 8, 9, 10]])
  .ret))
def glyphicref20_point_v1.f (i0_0 : Int) (i0_1 : Int) (i0_2 : Int) (w1 : Int) (p2_0 : Int) (p2_1 : Int) : Option (Int × Int) := (glyphicref20_At_v1.f i0_0 i0_1 i0_2 w1 p2_0).bind fun t609 => ((glyphicref20_At_v1.f i0_0 i0_1 i0_2 w1 p2_1).bind fun t611 => (some (t609, t611)))
theorem glyphicref20_point_v1.ok {S : Seal} {i0_0 : Int} {i0_1 : Int} {i0_2 : Int} {w1 : Int} {p2_0 : Int} {p2_1 : Int} {r0_ : Int} {r1_ : Int}{A_ : Int → Addr} (hE_ : EO gsE S A_ 94) {a_i0_3 : Option Addr} {n_i0_3 c_i0_3 : Nat} {a_i0_4 : Option Addr} {n_i0_4 c_i0_4 : Nat} (e : glyphicref20_point_v1.f i0_0 i0_1 i0_2 w1 p2_0 p2_1 = some (r0_, r1_)) :
    Cal Tryd.prog 34 [.agg #[.int .i64 i0_0, .int .i64 i0_1, .int .i64 i0_2, .slice a_i0_3 n_i0_3 c_i0_3, .slice a_i0_4 n_i0_4 c_i0_4], .int .i64 w1, .agg #[.int .i64 p2_0, .int .i64 p2_1]] [] S fun v H' S' => v = .agg #[.int .i64 r0_, .int .i64 r1_] ∧ H' = [] ∧ S' = S := by
  unfold glyphicref20_point_v1.f at e
  refine cal_of (c := c34) (N := 18) Tryd.func34 rfl rfl (by kernel_rfl) (rs := [.cn 2 6]) (by kernel_rfl) (Nat.le_of_ble_eq_true rfl) ?_
  unfold c34
  refine w_seq ?_
  refine w_reg fun all => ?_
  refine t_a (.box rfl rfl rfl) fun b606 fb606 sb606 => ?_
  refine t_a (.box rfl rfl rfl) fun b607 fb607 sb607 => ?_
  refine t_a (.new rfl rfl) fun b608 fb608 sb608 => ?_
  refine t_keep [1, 3, 5, 6] (σ' := [(1, .int .i64 w1), (3, .pointer (some ⟨b606, 0, none⟩)), (5, .pointer (some ⟨b607, 0, none⟩)), (6, .pointer (some ⟨b608, 0, none⟩))]) (by kernel_rfl) ?_
  refine t_end ?_
  show W _ _ _ _ _ _ _
  refine w_seq ?_
  obtain ⟨t609, h610, e⟩ := bind_of e
  obtain ⟨t611, h612, e⟩ := bind_of e
  refine w_drwE mixed 11 [.v (.agg #[.int .i64 i0_0, .int .i64 i0_1, .int .i64 i0_2, .slice a_i0_3 n_i0_3 c_i0_3, .slice a_i0_4 n_i0_4 c_i0_4]), .v (.int .i64 w1), .v (.pointer (some ⟨b607, 0, none⟩)), .v (.int .i64 p2_0), .v (.int .i64 t609), .v (.agg #[.int .i64 i0_0, .int .i64 i0_1, .int .i64 i0_2, .slice a_i0_3 n_i0_3 c_i0_3, .slice a_i0_4 n_i0_4 c_i0_4]), .v (.int .i64 w1), .v (.pointer (some ⟨b607, 1, none⟩)), .v (.int .i64 p2_1), .v (.int .i64 t611), .v (.agg #[.int .i64 t609, .int .i64 t611])] (by kernel_rfl) ?_ ?_
  · refine .cons (.ldn rfl rfl rfl (.at 2 rfl rfl)) ?_
    refine DI.sq 2 (by kernel_rfl) rfl ?_
    refine .cons (.ld1 rfl rfl rfl (.at 1 rfl rfl)) ?_
    refine .cons (.call (vs := [.agg #[.int .i64 i0_0, .int .i64 i0_1, .int .i64 i0_2, .slice a_i0_3 n_i0_3 c_i0_3, .slice a_i0_4 n_i0_4 c_i0_4], .int .i64 w1, .int .i64 p2_0]) rfl rfl (by kernel_rfl) (glyphicref20_At_v1.ok hE_ h610)) ?_
    refine .cons (.ldn rfl rfl rfl (.at 2 rfl rfl)) ?_
    refine DI.sq 2 (by kernel_rfl) rfl ?_
    refine .cons (.ld1 rfl rfl rfl (.at 1 rfl rfl)) ?_
    refine .cons (.call (vs := [.agg #[.int .i64 i0_0, .int .i64 i0_1, .int .i64 i0_2, .slice a_i0_3 n_i0_3 c_i0_3, .slice a_i0_4 n_i0_4 c_i0_4], .int .i64 w1, .int .i64 p2_1]) rfl rfl (by kernel_rfl) (glyphicref20_At_v1.ok hE_ h612)) ?_
    refine DI.sq 1 (by kernel_rfl) rfl ?_
    exact .nil
  refine fk_q 11 [6, 17] (σ' := [(6, .pointer (some ⟨b608, 0, none⟩)), (17, .agg #[.int .i64 t609, .int .i64 t611])]) t_more (by kernel_rfl) ?_
  refine fk_nil fun all => ?_
  refine t_sti 0 (cs := [.int .i64 t609, .int .i64 t611]) rfl rfl rfl rfl rfl rfl rfl rfl rfl ?_
  refine t_keep [6] (σ' := [(6, .pointer (some ⟨b608, 0, none⟩))]) (by kernel_rfl) ?_
  refine t_end ?_
  show W _ _ _ _ _ _ _
  refine w_ret ?_
  simp only [Option.some.injEq, Prod.mk.injEq] at e
  obtain ⟨rfl, rfl⟩ := e
  exact ⟨[.agg #[.int .i64 t609, .int .i64 t611]], [], S, ⟨⟨_, _, _, rfl, .at 0 rfl rfl, rfl⟩, trivial⟩, VS.none, rfl, rfl, rfl⟩
end Go.Proofs.YtiaigehjogpcaaaDoor.QScaleSays
