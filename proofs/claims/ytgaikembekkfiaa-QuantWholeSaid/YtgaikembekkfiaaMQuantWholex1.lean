/- The functions that QuantWhole reaches, each as a Lean function with its walk. Written by a program (fix.py) after a print. -/
import Derived.Test.YtgaikembekkfiaaMQuantWholex0
namespace Go.Proofs.Ytgaikembekkfiaa.MQuantWhole
open Go.RowKit Go.Proofs.YtgaikembekkfiaaW.PrintWords Go.Proofs.YtgaikembekkfiaaW.PrintLast Go.Proofs.YtgaikembekkfiaaW.PrintMore
attribute [local go_sem] max2_int min2_int max_two min_two max_three min_three max_four min_four   -- for this text's walks alone
set_option linter.unusedVariables false
set_option linter.unusedSimpArgs false

/-! ### fixed_Down: function 31 -/
def fixed_Down.f (a0 : Int) (a1 : Int) : Option (Int) := if a1 < 1 then (some 0) else (if a1 = 0 then (none) else (if (Int.tmod a0 a1) < 0 then (some (wrap64 ((wrap64 (Int.tdiv a0 a1)) - 1))) else (some (wrap64 (Int.tdiv a0 a1)))))
set_option maxHeartbeats 8000000 in
set_option maxRecDepth 100000 in
theorem fixed_Down.calls (a0 : Int) (a1 : Int) (r : Int) (w : World) (h : fixed_Down.f a0 a1 = some r) :
    Calls Try.prog 31 #[.int .i64 a0, .int .i64 a1] w fun e w' => e = .returned (.int .i64 r) ∧ Drawn0 w w' := by
  have H : (if a1 < 1 then (some 0) else (if a1 = 0 then (none) else (if (Int.tmod a0 a1) < 0 then (some (wrap64 ((wrap64 (Int.tdiv a0 a1)) - 1))) else (some (wrap64 (Int.tdiv a0 a1)))))) = some r := h
  clear h
  by_cases c3 : a1 < 1
  · rw [if_pos c3] at H
    have c3b0 : decide (a1 < 1) = true := decide_eq_true c3
    clear c3
    obtain rfl := Option.some.inj H
    go_enter Try.func31, Try.ntmps31
    go_wp2
    go_ret
    exact ⟨by first | rfl | (simp; done) | (simp [*]; done), by repeat (first | exact Drawn0.refl _ | apply Drawn0.step)⟩
  · rw [if_neg c3] at H
    have c3b0 : decide (a1 < 1) = false := decide_eq_false c3
    clear c3
    by_cases c4 : a1 = 0
    · rw [if_pos c4] at H
      exact absurd H (by simp)
    · rw [if_neg c4] at H
      have c4b0 : (a1 == 0) = false := beq_eq_false_iff_ne.mpr c4
      have c4b1 : (a1 != 0) = true := bne_iff_ne.mpr c4
      by_cases c5 : (Int.tmod a0 a1) < 0
      · rw [if_pos c5] at H
        have c5b0 : decide ((Int.tmod a0 a1) < 0) = true := decide_eq_true c5
        clear c5
        obtain rfl := Option.some.inj H
        go_enter Try.func31, Try.ntmps31
        go_wp2
        go_ret
        exact ⟨by first | rfl | (simp; done) | (simp [*]; done), by repeat (first | exact Drawn0.refl _ | apply Drawn0.step)⟩
      · rw [if_neg c5] at H
        have c5b0 : decide ((Int.tmod a0 a1) < 0) = false := decide_eq_false c5
        clear c5
        obtain rfl := Option.some.inj H
        go_enter Try.func31, Try.ntmps31
        go_wp2
        go_ret
        exact ⟨by first | rfl | (simp; done) | (simp [*]; done), by repeat (first | exact Drawn0.refl _ | apply Drawn0.step)⟩

/-! ### fixed_Round: function 30 -/
def fixed_Round.f (a0 : Int) (a1 : Int) : Option (Int) := if a1 < 1 then (some 0) else ((fixed_Down.f a0 a1).bind fun t101 => (if (wrap64 (a0 - (wrap64 (t101 * a1)))) ≥ (wrap64 (a1 - (wrap64 (a0 - (wrap64 (t101 * a1)))))) then (some (wrap64 (t101 + 1))) else (some t101)))
set_option maxHeartbeats 8000000 in
set_option maxRecDepth 100000 in
theorem fixed_Round.calls (a0 : Int) (a1 : Int) (r : Int) (w : World) (h : fixed_Round.f a0 a1 = some r) :
    Calls Try.prog 30 #[.int .i64 a0, .int .i64 a1] w fun e w' => e = .returned (.int .i64 r) ∧ Drawn0 w w' := by
  have H : (if a1 < 1 then (some 0) else ((fixed_Down.f a0 a1).bind fun t101 => (if (wrap64 (a0 - (wrap64 (t101 * a1)))) ≥ (wrap64 (a1 - (wrap64 (a0 - (wrap64 (t101 * a1)))))) then (some (wrap64 (t101 + 1))) else (some t101)))) = some r := h
  clear h
  by_cases c3 : a1 < 1
  · rw [if_pos c3] at H
    have c3b0 : decide (a1 < 1) = true := decide_eq_true c3
    clear c3
    obtain rfl := Option.some.inj H
    go_enter Try.func30, Try.ntmps30
    go_wp2
    go_ret
    exact ⟨by first | rfl | (simp; done) | (simp [*]; done), by repeat (first | exact Drawn0.refl _ | apply Drawn0.step)⟩
  · rw [if_neg c3] at H
    have c3b0 : decide (a1 < 1) = false := decide_eq_false c3
    clear c3
    replace H := Option.bind_eq_some_iff.mp H
    obtain ⟨t101, A40, H⟩ := H
    replace H : (if (wrap64 (a0 - (wrap64 (t101 * a1)))) ≥ (wrap64 (a1 - (wrap64 (a0 - (wrap64 (t101 * a1)))))) then (some (wrap64 (t101 + 1))) else (some t101)) = some r := H
    have A4 := Aside0.mk A40
    clear A40
    by_cases c5 : (wrap64 (a0 - (wrap64 (t101 * a1)))) ≥ (wrap64 (a1 - (wrap64 (a0 - (wrap64 (t101 * a1))))))
    · rw [if_pos c5] at H
      have c5b0 : decide ((wrap64 (a1 - (wrap64 (a0 - (wrap64 (t101 * a1)))))) ≤ (wrap64 (a0 - (wrap64 (t101 * a1))))) = true := decide_eq_true c5
      clear c5
      obtain rfl := Option.some.inj H
      go_enter Try.func30, Try.ntmps30
      go_wp2_with (first | ((with_reducible refine gate_callee (f := 31) rfl ?_); refine goesL_ (some 11) rfl rfl Try.func31 (by kernel_rfl) rfl #[.int .i64 a0, .int .i64 a1] rfl (by (try simp only [List.map_toArray, List.map_cons, List.map_nil]); first | done | rfl | (simp only [List.length_drop, List.length_take]; rfl)) ?_; (with_reducible refine (fixed_Down.calls a0 a1 t101 _ A4.out).mono ?_); rintro e w' ⟨rfl, ⟨nd, rfl⟩⟩; refine ⟨_, rfl, ?_⟩))
      go_ret
      exact ⟨by first | rfl | (simp; done) | (simp [*]; done), by repeat (first | exact Drawn0.refl _ | apply Drawn0.step)⟩
    · rw [if_neg c5] at H
      have c5b0 : decide ((wrap64 (a1 - (wrap64 (a0 - (wrap64 (t101 * a1)))))) ≤ (wrap64 (a0 - (wrap64 (t101 * a1))))) = false := decide_eq_false c5
      clear c5
      obtain rfl := Option.some.inj H
      go_enter Try.func30, Try.ntmps30
      go_wp2_with (first | ((with_reducible refine gate_callee (f := 31) rfl ?_); refine goesL_ (some 11) rfl rfl Try.func31 (by kernel_rfl) rfl #[.int .i64 a0, .int .i64 a1] rfl (by (try simp only [List.map_toArray, List.map_cons, List.map_nil]); first | done | rfl | (simp only [List.length_drop, List.length_take]; rfl)) ?_; (with_reducible refine (fixed_Down.calls a0 a1 t101 _ A4.out).mono ?_); rintro e w' ⟨rfl, ⟨nd, rfl⟩⟩; refine ⟨_, rfl, ?_⟩))
      go_ret
      exact ⟨by first | rfl | (simp; done) | (simp [*]; done), by repeat (first | exact Drawn0.refl _ | apply Drawn0.step)⟩

/-! ### quant_steps: function 54 -/
def quant_steps.f (a0 : Int) : Option (Int) := some (wrap64 (2 ^ (mn (mx a0 0) 6).toNat))
set_option maxHeartbeats 8000000 in
set_option maxRecDepth 100000 in
theorem quant_steps.calls (a0 : Int) (r : Int) (w : World) (h : quant_steps.f a0 = some r) :
    Calls Try.prog 54 #[.int .i64 a0] w fun e w' => e = .returned (.int .i64 r) ∧ Below w.heap.size w w' := by
  have HB := Aside0.mk (Below.refl w.heap.size w)
  have H : (some (wrap64 (2 ^ (mn (mx a0 0) 6).toNat))) = some r := h
  clear h
  obtain ⟨ji2, hji2⟩ : ∃ j_ : Int, (mx a0 0) = j_ := ⟨_, rfl⟩
  replace H : (some (wrap64 (2 ^ (mn (ji2) 6).toNat))) = some r := by first | (rw [hji2] at H; exact H) | (simp only [hji2] at H ⊢; exact H)
  (try (have hji2l : 0 ≤ ji2 := by (rw [← hji2]; unfold mx; (repeat' split) <;> omega)))
  (try (have hji2m : 0 ≤ ji2 := by omega))
  have hji2_ : (if a0 < 0 then 0 else a0) = ji2 := hji2
  obtain ⟨ji3, hji3⟩ : ∃ j_ : Int, (mn (ji2) 6) = j_ := ⟨_, rfl⟩
  replace H : (some (wrap64 (2 ^ (ji3).toNat))) = some r := by first | (rw [hji3] at H; exact H) | (simp only [hji3] at H ⊢; exact H)
  have hji3_ : (if 6 < (ji2) then 6 else (ji2)) = ji3 := hji3
  obtain rfl := Option.some.inj H
  go_enter Try.func54, Try.ntmps54
  go_wp2
  go_ret
  exact ⟨by first | rfl | (simp [errW_none, errW_some] <;> rfl) | (simp only [← hji2, ← hji3]; first | rfl | (simp [errW_none, errW_some] <;> rfl)) | (simp [*, errW_none, errW_some] <;> rfl), by repeat (first | (with_reducible first | exact HB.out | apply below_alloc | apply pw_below_drewN | apply below_drew1) | exact HB.out)⟩

/-! ### quant_Of: function 22 -/
def quant_Of.f (a0 : Int) (a1 : Int) : Option (Int) := (quant_steps.f a1).bind fun t102 => ((fixed_Round.f (wrap64 (a0 * t102)) 1000000).bind fun t103 => (some t103))
set_option maxHeartbeats 8000000 in
set_option maxRecDepth 100000 in
theorem quant_Of.calls (a0 : Int) (a1 : Int) (r : Int) (w : World) (h : quant_Of.f a0 a1 = some r) :
    Calls Try.prog 22 #[.int .i64 a0, .int .i64 a1] w fun e w' => e = .returned (.int .i64 r) ∧ Below w.heap.size w w' := by
  have HB := Aside0.mk (Below.refl w.heap.size w)
  have H : ((quant_steps.f a1).bind fun t102 => ((fixed_Round.f (wrap64 (a0 * t102)) 1000000).bind fun t103 => (some t103))) = some r := h
  clear h
  replace H := Option.bind_eq_some_iff.mp H
  obtain ⟨t102, A30, H⟩ := H
  replace H : ((fixed_Round.f (wrap64 (a0 * t102)) 1000000).bind fun t103 => (some t103)) = some r := H
  have A3 := Aside0.mk A30
  clear A30
  replace H := Option.bind_eq_some_iff.mp H
  obtain ⟨t103, A40, H⟩ := H
  replace H : (some t103) = some r := H
  have A4 := Aside0.mk A40
  clear A40
  obtain rfl := Option.some.inj H
  go_enter Try.func22, Try.ntmps22
  go_wp2_with (first | ((with_reducible refine gate_callee (f := 54) rfl ?_); refine goesL_ (some 7) rfl rfl Try.func54 (by kernel_rfl) rfl #[.int .i64 a1] rfl (by (try simp only [List.map_toArray, List.map_cons, List.map_nil]); first | done | rfl | (simp only [List.length_drop, List.length_take]; rfl)) ?_; (with_reducible refine (quant_steps.calls a1 t102 _ A3.out).mono ?_); rintro e w5 ⟨rfl, hb⟩; refine ⟨_, rfl, ?_⟩; have n0_ := Aside0.mk (below_step (by repeat (first | (with_reducible first | exact HB.out | apply below_alloc | apply pw_below_drewN | apply below_drew1) | exact HB.out)) hb); clear HB; have HB := n0_; clear n0_; (try clear hb); (try clear hb2); (try clear hk); (try clear hi)) | ((with_reducible refine gate_callee (f := 30) rfl ?_); refine goesL_ (some 9) rfl rfl Try.func30 (by kernel_rfl) rfl #[.int .i64 (wrap64 (a0 * t102)), .int .i64 1000000] rfl (by (try simp only [List.map_toArray, List.map_cons, List.map_nil]); first | done | rfl | (simp only [List.length_drop, List.length_take]; rfl)) ?_; (with_reducible refine (fixed_Round.calls (wrap64 (a0 * t102)) 1000000 t103 _ A4.out).mono ?_); rintro e w' ⟨rfl, ⟨nd, rfl⟩⟩; refine ⟨_, rfl, ?_⟩))
  go_ret
  exact ⟨by first | rfl | (simp [errW_none, errW_some] <;> rfl) | (simp [*, errW_none, errW_some] <;> rfl), by repeat (first | (with_reducible first | exact HB.out | apply below_alloc | apply pw_below_drewN | apply below_drew1) | exact HB.out)⟩

/-! ### quant_Back: function 23 -/
def quant_Back.f (a0 : Int) (a1 : Int) : Option (Int) := (quant_steps.f a1).bind fun t104 => (if t104 = 0 then (none) else (some (wrap64 (a0 * (wrap64 (Int.tdiv 1000000 t104))))))
set_option maxHeartbeats 8000000 in
set_option maxRecDepth 100000 in
theorem quant_Back.calls (a0 : Int) (a1 : Int) (r : Int) (w : World) (h : quant_Back.f a0 a1 = some r) :
    Calls Try.prog 23 #[.int .i64 a0, .int .i64 a1] w fun e w' => e = .returned (.int .i64 r) ∧ Below w.heap.size w w' := by
  have HB := Aside0.mk (Below.refl w.heap.size w)
  have H : ((quant_steps.f a1).bind fun t104 => (if t104 = 0 then (none) else (some (wrap64 (a0 * (wrap64 (Int.tdiv 1000000 t104))))))) = some r := h
  clear h
  replace H := Option.bind_eq_some_iff.mp H
  obtain ⟨t104, A30, H⟩ := H
  replace H : (if t104 = 0 then (none) else (some (wrap64 (a0 * (wrap64 (Int.tdiv 1000000 t104)))))) = some r := H
  have A3 := Aside0.mk A30
  clear A30
  by_cases c4 : t104 = 0
  · rw [if_pos c4] at H
    exact absurd H (by simp)
  · rw [if_neg c4] at H
    have c4b0 : (t104 == 0) = false := beq_eq_false_iff_ne.mpr c4
    have c4b1 : (t104 != 0) = true := bne_iff_ne.mpr c4
    obtain rfl := Option.some.inj H
    go_enter Try.func23, Try.ntmps23
    go_wp2_with (first | ((with_reducible refine gate_callee (f := 54) rfl ?_); refine goesL_ (some 7) rfl rfl Try.func54 (by kernel_rfl) rfl #[.int .i64 a1] rfl (by (try simp only [List.map_toArray, List.map_cons, List.map_nil]); first | done | rfl | (simp only [List.length_drop, List.length_take]; rfl)) ?_; (with_reducible refine (quant_steps.calls a1 t104 _ A3.out).mono ?_); rintro e w5 ⟨rfl, hb⟩; refine ⟨_, rfl, ?_⟩; have n0_ := Aside0.mk (below_step (by repeat (first | (with_reducible first | exact HB.out | apply below_alloc | apply pw_below_drewN | apply below_drew1) | exact HB.out)) hb); clear HB; have HB := n0_; clear n0_; (try clear hb); (try clear hb2); (try clear hk); (try clear hi)))
    go_ret
    exact ⟨by first | rfl | (simp [errW_none, errW_some] <;> rfl) | (simp [*, errW_none, errW_some] <;> rfl), by repeat (first | (with_reducible first | exact HB.out | apply below_alloc | apply pw_below_drewN | apply below_drew1) | exact HB.out)⟩

/-! ### glyphiclaw15_first: function 21 -/
def glyphiclaw15_first.f  : Option (Bool) := (quant_Of.f 500000 0).bind fun t105 => (if t105 = 1 then ((quant_Back.f 1 6).bind fun t106 => (some (t106 == 15625))) else (some false))
set_option maxHeartbeats 8000000 in
set_option maxRecDepth 100000 in
theorem glyphiclaw15_first.calls  (r : Bool) (w : World) (h : glyphiclaw15_first.f  = some r) :
    Calls Try.prog 21 #[] w fun e w' => e = .returned (.bool r) ∧ Below w.heap.size w w' := by
  have HB := Aside0.mk (Below.refl w.heap.size w)
  have H : ((quant_Of.f 500000 0).bind fun t105 => (if t105 = 1 then ((quant_Back.f 1 6).bind fun t106 => (some (t106 == 15625))) else (some false))) = some r := h
  clear h
  replace H := Option.bind_eq_some_iff.mp H
  obtain ⟨t105, A10, H⟩ := H
  replace H : (if t105 = 1 then ((quant_Back.f 1 6).bind fun t106 => (some (t106 == 15625))) else (some false)) = some r := H
  have A1 := Aside0.mk A10
  clear A10
  by_cases c2 : t105 = 1
  · rw [if_pos c2] at H
    have c2b0 : (t105 == 1) = true := beq_iff_eq.mpr c2
    have c2b1 : (t105 != 1) = false := bne_eq_false_iff_eq.mpr c2
    clear c2
    replace H := Option.bind_eq_some_iff.mp H
    obtain ⟨t106, A30, H⟩ := H
    replace H : (some (t106 == 15625)) = some r := H
    have A3 := Aside0.mk A30
    clear A30
    obtain rfl := Option.some.inj H
    go_enter Try.func21, Try.ntmps21
    go_wp2_with (first | ((with_reducible refine gate_callee (f := 22) rfl ?_); refine goesL_ (some 1) rfl rfl Try.func22 (by kernel_rfl) rfl #[.int .i64 500000, .int .i64 0] rfl (by (try simp only [List.map_toArray, List.map_cons, List.map_nil]); first | done | rfl | (simp only [List.length_drop, List.length_take]; rfl)) ?_; (with_reducible refine (quant_Of.calls 500000 0 t105 _ A1.out).mono ?_); rintro e w4 ⟨rfl, hb⟩; refine ⟨_, rfl, ?_⟩; have n0_ := Aside0.mk (below_step (by repeat (first | (with_reducible first | exact HB.out | apply below_alloc | apply pw_below_drewN | apply below_drew1) | exact HB.out)) hb); clear HB; have HB := n0_; clear n0_; (try clear hb); (try clear hb2); (try clear hk); (try clear hi)) | (go_at_call 23; (with_reducible refine (quant_Back.calls 1 6 t106 _ A3.out).mono ?_); rintro e w5 ⟨rfl, hb⟩; have n0_ := Aside0.mk (below_step (by repeat (first | (with_reducible first | exact HB.out | apply below_alloc | apply pw_below_drewN | apply below_drew1) | exact HB.out)) hb); clear HB; have HB := n0_; clear n0_; (try clear hb); (try clear hb2); (try clear hk); (try clear hi)))
    go_ret
    exact ⟨by first | rfl | (simp [errW_none, errW_some] <;> rfl) | (simp [*, errW_none, errW_some] <;> rfl), by repeat (first | (with_reducible first | exact HB.out | apply below_alloc | apply pw_below_drewN | apply below_drew1) | exact HB.out)⟩
  · rw [if_neg c2] at H
    have c2b0 : (t105 == 1) = false := beq_eq_false_iff_ne.mpr c2
    have c2b1 : (t105 != 1) = true := bne_iff_ne.mpr c2
    obtain rfl := Option.some.inj H
    go_enter Try.func21, Try.ntmps21
    go_wp2_with (first | ((with_reducible refine gate_callee (f := 22) rfl ?_); refine goesL_ (some 1) rfl rfl Try.func22 (by kernel_rfl) rfl #[.int .i64 500000, .int .i64 0] rfl (by (try simp only [List.map_toArray, List.map_cons, List.map_nil]); first | done | rfl | (simp only [List.length_drop, List.length_take]; rfl)) ?_; (with_reducible refine (quant_Of.calls 500000 0 t105 _ A1.out).mono ?_); rintro e w6 ⟨rfl, hb⟩; refine ⟨_, rfl, ?_⟩; have n0_ := Aside0.mk (below_step (by repeat (first | (with_reducible first | exact HB.out | apply below_alloc | apply pw_below_drewN | apply below_drew1) | exact HB.out)) hb); clear HB; have HB := n0_; clear n0_; (try clear hb); (try clear hb2); (try clear hk); (try clear hi)))
    go_ret
    exact ⟨by first | rfl | (simp [errW_none, errW_some] <;> rfl) | (simp [*, errW_none, errW_some] <;> rfl), by repeat (first | (with_reducible first | exact HB.out | apply below_alloc | apply pw_below_drewN | apply below_drew1) | exact HB.out)⟩

/-! ### glyphiclaw15_QuantWhole: function 4 -/
def glyphiclaw15_QuantWhole.f (a0 : Int) (a1 : Int) : Option (Bool) := (glyphiclaw15_first.f).bind fun t107 => (if t107 = true then (if 0 ≤ (IntKind.u64.wrap (Int.tmod (wrap64 ((Int.tmod a1 7) + 7)) 7)) then (if (shl .i64 1 (IntKind.u64.wrap (Int.tmod (wrap64 ((Int.tmod a1 7) + 7)) 7))) = 0 then (none) else ((quant_Of.f (wrap64 ((Int.tmod a0 1000000) * 1000000)) (Int.tmod (wrap64 ((Int.tmod a1 7) + 7)) 7)).bind fun t108 => ((quant_Of.f (wrap64 ((wrap64 ((Int.tmod a0 1000000) * 1000000)) + (wrap64 (Int.tdiv (wrap64 (Int.tdiv 1000000 (shl .i64 1 (IntKind.u64.wrap (Int.tmod (wrap64 ((Int.tmod a1 7) + 7)) 7))))) 2)))) (Int.tmod (wrap64 ((Int.tmod a1 7) + 7)) 7)).bind fun t109 => ((quant_Of.f (wrap64 ((wrap64 ((Int.tmod a0 1000000) * 1000000)) - (wrap64 (Int.tdiv (wrap64 (Int.tdiv 1000000 (shl .i64 1 (IntKind.u64.wrap (Int.tmod (wrap64 ((Int.tmod a1 7) + 7)) 7))))) 2)))) (Int.tmod (wrap64 ((Int.tmod a1 7) + 7)) 7)).bind fun t110 => (if (Int.tmod (wrap64 (Int.tdiv 1000000 (shl .i64 1 (IntKind.u64.wrap (Int.tmod (wrap64 ((Int.tmod a1 7) + 7)) 7))))) 2) = 1 then (if t108 = (wrap64 ((Int.tmod a0 1000000) * (shl .i64 1 (IntKind.u64.wrap (Int.tmod (wrap64 ((Int.tmod a1 7) + 7)) 7))))) then (if t109 = (wrap64 ((Int.tmod a0 1000000) * (shl .i64 1 (IntKind.u64.wrap (Int.tmod (wrap64 ((Int.tmod a1 7) + 7)) 7))))) then (some (t110 == (wrap64 ((Int.tmod a0 1000000) * (shl .i64 1 (IntKind.u64.wrap (Int.tmod (wrap64 ((Int.tmod a1 7) + 7)) 7))))))) else (some false)) else (some false)) else (if t108 = (wrap64 ((Int.tmod a0 1000000) * (shl .i64 1 (IntKind.u64.wrap (Int.tmod (wrap64 ((Int.tmod a1 7) + 7)) 7))))) then (if t109 = (wrap64 ((wrap64 ((Int.tmod a0 1000000) * (shl .i64 1 (IntKind.u64.wrap (Int.tmod (wrap64 ((Int.tmod a1 7) + 7)) 7))))) + 1)) then (if t110 = (wrap64 ((Int.tmod a0 1000000) * (shl .i64 1 (IntKind.u64.wrap (Int.tmod (wrap64 ((Int.tmod a1 7) + 7)) 7))))) then (some true) else (some false)) else (some false)) else (some false))))))) else (none)) else (some false))
set_option maxHeartbeats 8000000 in
set_option maxRecDepth 100000 in
theorem glyphiclaw15_QuantWhole.calls (a0 : Int) (a1 : Int) (r : Bool) (w : World) (h : glyphiclaw15_QuantWhole.f a0 a1 = some r) :
    Calls Try.prog 4 #[.int .i64 a0, .int .i64 a1] w fun e w' => e = .returned (.bool r) ∧ Below w.heap.size w w' := by
  have HB := Aside0.mk (Below.refl w.heap.size w)
  have H : ((glyphiclaw15_first.f).bind fun t107 => (if t107 = true then (if 0 ≤ (IntKind.u64.wrap (Int.tmod (wrap64 ((Int.tmod a1 7) + 7)) 7)) then (if (shl .i64 1 (IntKind.u64.wrap (Int.tmod (wrap64 ((Int.tmod a1 7) + 7)) 7))) = 0 then (none) else ((quant_Of.f (wrap64 ((Int.tmod a0 1000000) * 1000000)) (Int.tmod (wrap64 ((Int.tmod a1 7) + 7)) 7)).bind fun t108 => ((quant_Of.f (wrap64 ((wrap64 ((Int.tmod a0 1000000) * 1000000)) + (wrap64 (Int.tdiv (wrap64 (Int.tdiv 1000000 (shl .i64 1 (IntKind.u64.wrap (Int.tmod (wrap64 ((Int.tmod a1 7) + 7)) 7))))) 2)))) (Int.tmod (wrap64 ((Int.tmod a1 7) + 7)) 7)).bind fun t109 => ((quant_Of.f (wrap64 ((wrap64 ((Int.tmod a0 1000000) * 1000000)) - (wrap64 (Int.tdiv (wrap64 (Int.tdiv 1000000 (shl .i64 1 (IntKind.u64.wrap (Int.tmod (wrap64 ((Int.tmod a1 7) + 7)) 7))))) 2)))) (Int.tmod (wrap64 ((Int.tmod a1 7) + 7)) 7)).bind fun t110 => (if (Int.tmod (wrap64 (Int.tdiv 1000000 (shl .i64 1 (IntKind.u64.wrap (Int.tmod (wrap64 ((Int.tmod a1 7) + 7)) 7))))) 2) = 1 then (if t108 = (wrap64 ((Int.tmod a0 1000000) * (shl .i64 1 (IntKind.u64.wrap (Int.tmod (wrap64 ((Int.tmod a1 7) + 7)) 7))))) then (if t109 = (wrap64 ((Int.tmod a0 1000000) * (shl .i64 1 (IntKind.u64.wrap (Int.tmod (wrap64 ((Int.tmod a1 7) + 7)) 7))))) then (some (t110 == (wrap64 ((Int.tmod a0 1000000) * (shl .i64 1 (IntKind.u64.wrap (Int.tmod (wrap64 ((Int.tmod a1 7) + 7)) 7))))))) else (some false)) else (some false)) else (if t108 = (wrap64 ((Int.tmod a0 1000000) * (shl .i64 1 (IntKind.u64.wrap (Int.tmod (wrap64 ((Int.tmod a1 7) + 7)) 7))))) then (if t109 = (wrap64 ((wrap64 ((Int.tmod a0 1000000) * (shl .i64 1 (IntKind.u64.wrap (Int.tmod (wrap64 ((Int.tmod a1 7) + 7)) 7))))) + 1)) then (if t110 = (wrap64 ((Int.tmod a0 1000000) * (shl .i64 1 (IntKind.u64.wrap (Int.tmod (wrap64 ((Int.tmod a1 7) + 7)) 7))))) then (some true) else (some false)) else (some false)) else (some false))))))) else (none)) else (some false))) = some r := h
  clear h
  replace H := Option.bind_eq_some_iff.mp H
  obtain ⟨t107, A30, H⟩ := H
  replace H : (if t107 = true then (if 0 ≤ (IntKind.u64.wrap (Int.tmod (wrap64 ((Int.tmod a1 7) + 7)) 7)) then (if (shl .i64 1 (IntKind.u64.wrap (Int.tmod (wrap64 ((Int.tmod a1 7) + 7)) 7))) = 0 then (none) else ((quant_Of.f (wrap64 ((Int.tmod a0 1000000) * 1000000)) (Int.tmod (wrap64 ((Int.tmod a1 7) + 7)) 7)).bind fun t108 => ((quant_Of.f (wrap64 ((wrap64 ((Int.tmod a0 1000000) * 1000000)) + (wrap64 (Int.tdiv (wrap64 (Int.tdiv 1000000 (shl .i64 1 (IntKind.u64.wrap (Int.tmod (wrap64 ((Int.tmod a1 7) + 7)) 7))))) 2)))) (Int.tmod (wrap64 ((Int.tmod a1 7) + 7)) 7)).bind fun t109 => ((quant_Of.f (wrap64 ((wrap64 ((Int.tmod a0 1000000) * 1000000)) - (wrap64 (Int.tdiv (wrap64 (Int.tdiv 1000000 (shl .i64 1 (IntKind.u64.wrap (Int.tmod (wrap64 ((Int.tmod a1 7) + 7)) 7))))) 2)))) (Int.tmod (wrap64 ((Int.tmod a1 7) + 7)) 7)).bind fun t110 => (if (Int.tmod (wrap64 (Int.tdiv 1000000 (shl .i64 1 (IntKind.u64.wrap (Int.tmod (wrap64 ((Int.tmod a1 7) + 7)) 7))))) 2) = 1 then (if t108 = (wrap64 ((Int.tmod a0 1000000) * (shl .i64 1 (IntKind.u64.wrap (Int.tmod (wrap64 ((Int.tmod a1 7) + 7)) 7))))) then (if t109 = (wrap64 ((Int.tmod a0 1000000) * (shl .i64 1 (IntKind.u64.wrap (Int.tmod (wrap64 ((Int.tmod a1 7) + 7)) 7))))) then (some (t110 == (wrap64 ((Int.tmod a0 1000000) * (shl .i64 1 (IntKind.u64.wrap (Int.tmod (wrap64 ((Int.tmod a1 7) + 7)) 7))))))) else (some false)) else (some false)) else (if t108 = (wrap64 ((Int.tmod a0 1000000) * (shl .i64 1 (IntKind.u64.wrap (Int.tmod (wrap64 ((Int.tmod a1 7) + 7)) 7))))) then (if t109 = (wrap64 ((wrap64 ((Int.tmod a0 1000000) * (shl .i64 1 (IntKind.u64.wrap (Int.tmod (wrap64 ((Int.tmod a1 7) + 7)) 7))))) + 1)) then (if t110 = (wrap64 ((Int.tmod a0 1000000) * (shl .i64 1 (IntKind.u64.wrap (Int.tmod (wrap64 ((Int.tmod a1 7) + 7)) 7))))) then (some true) else (some false)) else (some false)) else (some false))))))) else (none)) else (some false)) = some r := H
  have A3 := Aside0.mk A30
  clear A30
  by_cases c4 : t107 = true
  · subst c4
    have H1 : (if 0 ≤ (IntKind.u64.wrap (Int.tmod (wrap64 ((Int.tmod a1 7) + 7)) 7)) then (if (shl .i64 1 (IntKind.u64.wrap (Int.tmod (wrap64 ((Int.tmod a1 7) + 7)) 7))) = 0 then (none) else ((quant_Of.f (wrap64 ((Int.tmod a0 1000000) * 1000000)) (Int.tmod (wrap64 ((Int.tmod a1 7) + 7)) 7)).bind fun t108 => ((quant_Of.f (wrap64 ((wrap64 ((Int.tmod a0 1000000) * 1000000)) + (wrap64 (Int.tdiv (wrap64 (Int.tdiv 1000000 (shl .i64 1 (IntKind.u64.wrap (Int.tmod (wrap64 ((Int.tmod a1 7) + 7)) 7))))) 2)))) (Int.tmod (wrap64 ((Int.tmod a1 7) + 7)) 7)).bind fun t109 => ((quant_Of.f (wrap64 ((wrap64 ((Int.tmod a0 1000000) * 1000000)) - (wrap64 (Int.tdiv (wrap64 (Int.tdiv 1000000 (shl .i64 1 (IntKind.u64.wrap (Int.tmod (wrap64 ((Int.tmod a1 7) + 7)) 7))))) 2)))) (Int.tmod (wrap64 ((Int.tmod a1 7) + 7)) 7)).bind fun t110 => (if (Int.tmod (wrap64 (Int.tdiv 1000000 (shl .i64 1 (IntKind.u64.wrap (Int.tmod (wrap64 ((Int.tmod a1 7) + 7)) 7))))) 2) = 1 then (if t108 = (wrap64 ((Int.tmod a0 1000000) * (shl .i64 1 (IntKind.u64.wrap (Int.tmod (wrap64 ((Int.tmod a1 7) + 7)) 7))))) then (if t109 = (wrap64 ((Int.tmod a0 1000000) * (shl .i64 1 (IntKind.u64.wrap (Int.tmod (wrap64 ((Int.tmod a1 7) + 7)) 7))))) then (some (t110 == (wrap64 ((Int.tmod a0 1000000) * (shl .i64 1 (IntKind.u64.wrap (Int.tmod (wrap64 ((Int.tmod a1 7) + 7)) 7))))))) else (some false)) else (some false)) else (if t108 = (wrap64 ((Int.tmod a0 1000000) * (shl .i64 1 (IntKind.u64.wrap (Int.tmod (wrap64 ((Int.tmod a1 7) + 7)) 7))))) then (if t109 = (wrap64 ((wrap64 ((Int.tmod a0 1000000) * (shl .i64 1 (IntKind.u64.wrap (Int.tmod (wrap64 ((Int.tmod a1 7) + 7)) 7))))) + 1)) then (if t110 = (wrap64 ((Int.tmod a0 1000000) * (shl .i64 1 (IntKind.u64.wrap (Int.tmod (wrap64 ((Int.tmod a1 7) + 7)) 7))))) then (some true) else (some false)) else (some false)) else (some false))))))) else (none)) = some r := by first | (rw [if_pos rfl] at H; exact H) | (rw [if_pos trivial] at H; exact H) | exact H
    clear H
    have H := H1
    clear H1
    obtain ⟨ji5, hji5⟩ : ∃ j_ : Int, (IntKind.u64.wrap (Int.tmod (wrap64 ((Int.tmod a1 7) + 7)) 7)) = j_ := ⟨_, rfl⟩
    replace H : (if 0 ≤ (ji5) then (if (shl .i64 1 (ji5)) = 0 then (none) else ((quant_Of.f (wrap64 ((Int.tmod a0 1000000) * 1000000)) (Int.tmod (wrap64 ((Int.tmod a1 7) + 7)) 7)).bind fun t108 => ((quant_Of.f (wrap64 ((wrap64 ((Int.tmod a0 1000000) * 1000000)) + (wrap64 (Int.tdiv (wrap64 (Int.tdiv 1000000 (shl .i64 1 (ji5)))) 2)))) (Int.tmod (wrap64 ((Int.tmod a1 7) + 7)) 7)).bind fun t109 => ((quant_Of.f (wrap64 ((wrap64 ((Int.tmod a0 1000000) * 1000000)) - (wrap64 (Int.tdiv (wrap64 (Int.tdiv 1000000 (shl .i64 1 (ji5)))) 2)))) (Int.tmod (wrap64 ((Int.tmod a1 7) + 7)) 7)).bind fun t110 => (if (Int.tmod (wrap64 (Int.tdiv 1000000 (shl .i64 1 (ji5)))) 2) = 1 then (if t108 = (wrap64 ((Int.tmod a0 1000000) * (shl .i64 1 (ji5)))) then (if t109 = (wrap64 ((Int.tmod a0 1000000) * (shl .i64 1 (ji5)))) then (some (t110 == (wrap64 ((Int.tmod a0 1000000) * (shl .i64 1 (ji5)))))) else (some false)) else (some false)) else (if t108 = (wrap64 ((Int.tmod a0 1000000) * (shl .i64 1 (ji5)))) then (if t109 = (wrap64 ((wrap64 ((Int.tmod a0 1000000) * (shl .i64 1 (ji5)))) + 1)) then (if t110 = (wrap64 ((Int.tmod a0 1000000) * (shl .i64 1 (ji5)))) then (some true) else (some false)) else (some false)) else (some false))))))) else (none)) = some r := by first | (rw [hji5] at H; exact H) | (simp only [hji5] at H ⊢; exact H)
    (try rw [hji5] at A3)
    by_cases c6 : 0 ≤ (ji5)
    · rw [if_pos c6] at H
      have c6b0 := eq_true c6
      have c6b1 : decide (0 ≤ (ji5)) = true := decide_eq_true c6
      clear c6
      obtain ⟨ji7, hji7⟩ : ∃ j_ : Int, (shl .i64 1 (ji5)) = j_ := ⟨_, rfl⟩
      replace H : (if (ji7) = 0 then (none) else ((quant_Of.f (wrap64 ((Int.tmod a0 1000000) * 1000000)) (Int.tmod (wrap64 ((Int.tmod a1 7) + 7)) 7)).bind fun t108 => ((quant_Of.f (wrap64 ((wrap64 ((Int.tmod a0 1000000) * 1000000)) + (wrap64 (Int.tdiv (wrap64 (Int.tdiv 1000000 (ji7))) 2)))) (Int.tmod (wrap64 ((Int.tmod a1 7) + 7)) 7)).bind fun t109 => ((quant_Of.f (wrap64 ((wrap64 ((Int.tmod a0 1000000) * 1000000)) - (wrap64 (Int.tdiv (wrap64 (Int.tdiv 1000000 (ji7))) 2)))) (Int.tmod (wrap64 ((Int.tmod a1 7) + 7)) 7)).bind fun t110 => (if (Int.tmod (wrap64 (Int.tdiv 1000000 (ji7))) 2) = 1 then (if t108 = (wrap64 ((Int.tmod a0 1000000) * (ji7))) then (if t109 = (wrap64 ((Int.tmod a0 1000000) * (ji7))) then (some (t110 == (wrap64 ((Int.tmod a0 1000000) * (ji7))))) else (some false)) else (some false)) else (if t108 = (wrap64 ((Int.tmod a0 1000000) * (ji7))) then (if t109 = (wrap64 ((wrap64 ((Int.tmod a0 1000000) * (ji7))) + 1)) then (if t110 = (wrap64 ((Int.tmod a0 1000000) * (ji7))) then (some true) else (some false)) else (some false)) else (some false))))))) = some r := by first | (rw [hji7] at H; exact H) | (simp only [hji7] at H ⊢; exact H)
      (try rw [hji7] at A3)
      have hji7_ : (IntKind.i64.wrap (1 * 2 ^ min (ji5).toNat 64)) = ji7 := hji7
      have hji7z : (ji5) ≤ 64 → (IntKind.i64.wrap (1 * 2 ^ (ji5).toNat)) = ji7 := shl_small hji7
      have hji7u : (IntKind.i64.wrap (2 ^ min (ji5).toNat 64)) = ji7 := by have h_ := hji7_; rw [Int.one_mul] at h_; exact h_
      have hji7v : (ji5) ≤ 64 → (IntKind.i64.wrap (2 ^ (ji5).toNat)) = ji7 := fun hle_ => by have h_ := hji7z hle_; rw [Int.one_mul] at h_; exact h_
      have hji7y : (wrap64 (1 * 2 ^ min (ji5).toNat 64)) = ji7 := (i64_w _).symm.trans hji7_
      have hji7x : (ji5) ≤ 64 → (wrap64 (1 * 2 ^ (ji5).toNat)) = ji7 := fun h_ => (i64_w _).symm.trans (hji7z h_)
      by_cases c8 : (ji7) = 0
      · rw [if_pos c8] at H
        exact absurd H (by simp)
      · rw [if_neg c8] at H
        have c8b0 : ((ji7) == 0) = false := beq_eq_false_iff_ne.mpr c8
        have c8b1 : ((ji7) != 0) = true := bne_iff_ne.mpr c8
        replace H := Option.bind_eq_some_iff.mp H
        obtain ⟨t108, A90, H⟩ := H
        replace H : ((quant_Of.f (wrap64 ((wrap64 ((Int.tmod a0 1000000) * 1000000)) + (wrap64 (Int.tdiv (wrap64 (Int.tdiv 1000000 (ji7))) 2)))) (Int.tmod (wrap64 ((Int.tmod a1 7) + 7)) 7)).bind fun t109 => ((quant_Of.f (wrap64 ((wrap64 ((Int.tmod a0 1000000) * 1000000)) - (wrap64 (Int.tdiv (wrap64 (Int.tdiv 1000000 (ji7))) 2)))) (Int.tmod (wrap64 ((Int.tmod a1 7) + 7)) 7)).bind fun t110 => (if (Int.tmod (wrap64 (Int.tdiv 1000000 (ji7))) 2) = 1 then (if t108 = (wrap64 ((Int.tmod a0 1000000) * (ji7))) then (if t109 = (wrap64 ((Int.tmod a0 1000000) * (ji7))) then (some (t110 == (wrap64 ((Int.tmod a0 1000000) * (ji7))))) else (some false)) else (some false)) else (if t108 = (wrap64 ((Int.tmod a0 1000000) * (ji7))) then (if t109 = (wrap64 ((wrap64 ((Int.tmod a0 1000000) * (ji7))) + 1)) then (if t110 = (wrap64 ((Int.tmod a0 1000000) * (ji7))) then (some true) else (some false)) else (some false)) else (some false))))) = some r := H
        have A9 := Aside0.mk A90
        clear A90
        replace H := Option.bind_eq_some_iff.mp H
        obtain ⟨t109, A100, H⟩ := H
        replace H : ((quant_Of.f (wrap64 ((wrap64 ((Int.tmod a0 1000000) * 1000000)) - (wrap64 (Int.tdiv (wrap64 (Int.tdiv 1000000 (ji7))) 2)))) (Int.tmod (wrap64 ((Int.tmod a1 7) + 7)) 7)).bind fun t110 => (if (Int.tmod (wrap64 (Int.tdiv 1000000 (ji7))) 2) = 1 then (if t108 = (wrap64 ((Int.tmod a0 1000000) * (ji7))) then (if t109 = (wrap64 ((Int.tmod a0 1000000) * (ji7))) then (some (t110 == (wrap64 ((Int.tmod a0 1000000) * (ji7))))) else (some false)) else (some false)) else (if t108 = (wrap64 ((Int.tmod a0 1000000) * (ji7))) then (if t109 = (wrap64 ((wrap64 ((Int.tmod a0 1000000) * (ji7))) + 1)) then (if t110 = (wrap64 ((Int.tmod a0 1000000) * (ji7))) then (some true) else (some false)) else (some false)) else (some false)))) = some r := H
        have A10 := Aside0.mk A100
        clear A100
        replace H := Option.bind_eq_some_iff.mp H
        obtain ⟨t110, A110, H⟩ := H
        replace H : (if (Int.tmod (wrap64 (Int.tdiv 1000000 (ji7))) 2) = 1 then (if t108 = (wrap64 ((Int.tmod a0 1000000) * (ji7))) then (if t109 = (wrap64 ((Int.tmod a0 1000000) * (ji7))) then (some (t110 == (wrap64 ((Int.tmod a0 1000000) * (ji7))))) else (some false)) else (some false)) else (if t108 = (wrap64 ((Int.tmod a0 1000000) * (ji7))) then (if t109 = (wrap64 ((wrap64 ((Int.tmod a0 1000000) * (ji7))) + 1)) then (if t110 = (wrap64 ((Int.tmod a0 1000000) * (ji7))) then (some true) else (some false)) else (some false)) else (some false))) = some r := H
        have A11 := Aside0.mk A110
        clear A110
        by_cases c12 : (Int.tmod (wrap64 (Int.tdiv 1000000 (ji7))) 2) = 1
        · rw [if_pos c12] at H
          have c12b0 : ((Int.tmod (wrap64 (Int.tdiv 1000000 (ji7))) 2) == 1) = true := beq_iff_eq.mpr c12
          have c12b1 : ((Int.tmod (wrap64 (Int.tdiv 1000000 (ji7))) 2) != 1) = false := bne_eq_false_iff_eq.mpr c12
          clear c12
          by_cases c13 : t108 = (wrap64 ((Int.tmod a0 1000000) * (ji7)))
          · rw [if_pos c13] at H
            have c13b0 : (t108 == (wrap64 ((Int.tmod a0 1000000) * (ji7)))) = true := beq_iff_eq.mpr c13
            have c13b1 : (t108 != (wrap64 ((Int.tmod a0 1000000) * (ji7)))) = false := bne_eq_false_iff_eq.mpr c13
            clear c13
            by_cases c14 : t109 = (wrap64 ((Int.tmod a0 1000000) * (ji7)))
            · rw [if_pos c14] at H
              have c14b0 : (t109 == (wrap64 ((Int.tmod a0 1000000) * (ji7)))) = true := beq_iff_eq.mpr c14
              have c14b1 : (t109 != (wrap64 ((Int.tmod a0 1000000) * (ji7)))) = false := bne_eq_false_iff_eq.mpr c14
              clear c14
              obtain rfl := Option.some.inj H
              go_enter Try.func4, Try.ntmps4
              go_wp2_with (first | ((with_reducible refine gate_callee (f := 21) rfl ?_); refine goesL_ (some 12) rfl rfl Try.func21 (by kernel_rfl) rfl #[] rfl (by (try simp only [List.map_toArray, List.map_cons, List.map_nil]); first | done | rfl | (simp only [List.length_drop, List.length_take]; rfl)) ?_; (with_reducible refine (glyphiclaw15_first.calls  true _ A3.out).mono ?_); rintro e w15 ⟨rfl, hb⟩; refine ⟨_, rfl, ?_⟩; have n0_ := Aside0.mk (below_step (by repeat (first | (with_reducible first | exact HB.out | apply below_alloc | apply pw_below_drewN | apply below_drew1) | exact HB.out)) hb); clear HB; have HB := n0_; clear n0_; (try clear hb); (try clear hb2); (try clear hk); (try clear hi)) | ((with_reducible refine gate_callee (f := 22) rfl ?_); refine goesL_ (some 34) rfl rfl Try.func22 (by kernel_rfl) rfl #[.int .i64 (wrap64 ((Int.tmod a0 1000000) * 1000000)), .int .i64 (Int.tmod (wrap64 ((Int.tmod a1 7) + 7)) 7)] rfl (by (try simp only [List.map_toArray, List.map_cons, List.map_nil]); first | done | rfl | (simp only [List.length_drop, List.length_take]; rfl)) ?_; (with_reducible refine (quant_Of.calls (wrap64 ((Int.tmod a0 1000000) * 1000000)) (Int.tmod (wrap64 ((Int.tmod a1 7) + 7)) 7) t108 _ A9.out).mono ?_); rintro e w16 ⟨rfl, hb⟩; refine ⟨_, rfl, ?_⟩; have n0_ := Aside0.mk (below_step (by repeat (first | (with_reducible first | exact HB.out | apply below_alloc | apply pw_below_drewN | apply below_drew1) | exact HB.out)) hb); clear HB; have HB := n0_; clear n0_; (try clear hb); (try clear hb2); (try clear hk); (try clear hi)) | ((with_reducible refine gate_callee (f := 22) rfl ?_); refine goesL_ (some 40) rfl rfl Try.func22 (by kernel_rfl) rfl #[.int .i64 (wrap64 ((wrap64 ((Int.tmod a0 1000000) * 1000000)) + (wrap64 (Int.tdiv (wrap64 (Int.tdiv 1000000 (ji7))) 2)))), .int .i64 (Int.tmod (wrap64 ((Int.tmod a1 7) + 7)) 7)] rfl (by (try simp only [List.map_toArray, List.map_cons, List.map_nil]); first | done | (simp only [hji7]; rfl) | rfl | (simp only [List.length_drop, List.length_take]; rfl)) ?_; (with_reducible refine (quant_Of.calls (wrap64 ((wrap64 ((Int.tmod a0 1000000) * 1000000)) + (wrap64 (Int.tdiv (wrap64 (Int.tdiv 1000000 (ji7))) 2)))) (Int.tmod (wrap64 ((Int.tmod a1 7) + 7)) 7) t109 _ A10.out).mono ?_); rintro e w17 ⟨rfl, hb⟩; refine ⟨_, rfl, ?_⟩; have n0_ := Aside0.mk (below_step (by repeat (first | (with_reducible first | exact HB.out | apply below_alloc | apply pw_below_drewN | apply below_drew1) | exact HB.out)) hb); clear HB; have HB := n0_; clear n0_; (try clear hb); (try clear hb2); (try clear hk); (try clear hi)) | ((with_reducible refine gate_callee (f := 22) rfl ?_); refine goesL_ (some 46) rfl rfl Try.func22 (by kernel_rfl) rfl #[.int .i64 (wrap64 ((wrap64 ((Int.tmod a0 1000000) * 1000000)) - (wrap64 (Int.tdiv (wrap64 (Int.tdiv 1000000 (ji7))) 2)))), .int .i64 (Int.tmod (wrap64 ((Int.tmod a1 7) + 7)) 7)] rfl (by (try simp only [List.map_toArray, List.map_cons, List.map_nil]); first | done | (simp only [hji7]; rfl) | rfl | (simp only [List.length_drop, List.length_take]; rfl)) ?_; (with_reducible refine (quant_Of.calls (wrap64 ((wrap64 ((Int.tmod a0 1000000) * 1000000)) - (wrap64 (Int.tdiv (wrap64 (Int.tdiv 1000000 (ji7))) 2)))) (Int.tmod (wrap64 ((Int.tmod a1 7) + 7)) 7) t110 _ A11.out).mono ?_); rintro e w18 ⟨rfl, hb⟩; refine ⟨_, rfl, ?_⟩; have n0_ := Aside0.mk (below_step (by repeat (first | (with_reducible first | exact HB.out | apply below_alloc | apply pw_below_drewN | apply below_drew1) | exact HB.out)) hb); clear HB; have HB := n0_; clear n0_; (try clear hb); (try clear hb2); (try clear hk); (try clear hi)))
              go_ret
              exact ⟨by first | rfl | (simp [errW_none, errW_some] <;> rfl) | (simp only [← hji5, ← hji7]; first | rfl | (simp [errW_none, errW_some] <;> rfl)) | (simp [*, errW_none, errW_some] <;> rfl), by repeat (first | (with_reducible first | exact HB.out | apply below_alloc | apply pw_below_drewN | apply below_drew1) | exact HB.out)⟩
            · rw [if_neg c14] at H
              have c14b0 : (t109 == (wrap64 ((Int.tmod a0 1000000) * (ji7)))) = false := beq_eq_false_iff_ne.mpr c14
              have c14b1 : (t109 != (wrap64 ((Int.tmod a0 1000000) * (ji7)))) = true := bne_iff_ne.mpr c14
              obtain rfl := Option.some.inj H
              go_enter Try.func4, Try.ntmps4
              go_wp2_with (first | ((with_reducible refine gate_callee (f := 21) rfl ?_); refine goesL_ (some 12) rfl rfl Try.func21 (by kernel_rfl) rfl #[] rfl (by (try simp only [List.map_toArray, List.map_cons, List.map_nil]); first | done | rfl | (simp only [List.length_drop, List.length_take]; rfl)) ?_; (with_reducible refine (glyphiclaw15_first.calls  true _ A3.out).mono ?_); rintro e w19 ⟨rfl, hb⟩; refine ⟨_, rfl, ?_⟩; have n0_ := Aside0.mk (below_step (by repeat (first | (with_reducible first | exact HB.out | apply below_alloc | apply pw_below_drewN | apply below_drew1) | exact HB.out)) hb); clear HB; have HB := n0_; clear n0_; (try clear hb); (try clear hb2); (try clear hk); (try clear hi)) | ((with_reducible refine gate_callee (f := 22) rfl ?_); refine goesL_ (some 34) rfl rfl Try.func22 (by kernel_rfl) rfl #[.int .i64 (wrap64 ((Int.tmod a0 1000000) * 1000000)), .int .i64 (Int.tmod (wrap64 ((Int.tmod a1 7) + 7)) 7)] rfl (by (try simp only [List.map_toArray, List.map_cons, List.map_nil]); first | done | rfl | (simp only [List.length_drop, List.length_take]; rfl)) ?_; (with_reducible refine (quant_Of.calls (wrap64 ((Int.tmod a0 1000000) * 1000000)) (Int.tmod (wrap64 ((Int.tmod a1 7) + 7)) 7) t108 _ A9.out).mono ?_); rintro e w20 ⟨rfl, hb⟩; refine ⟨_, rfl, ?_⟩; have n0_ := Aside0.mk (below_step (by repeat (first | (with_reducible first | exact HB.out | apply below_alloc | apply pw_below_drewN | apply below_drew1) | exact HB.out)) hb); clear HB; have HB := n0_; clear n0_; (try clear hb); (try clear hb2); (try clear hk); (try clear hi)) | ((with_reducible refine gate_callee (f := 22) rfl ?_); refine goesL_ (some 40) rfl rfl Try.func22 (by kernel_rfl) rfl #[.int .i64 (wrap64 ((wrap64 ((Int.tmod a0 1000000) * 1000000)) + (wrap64 (Int.tdiv (wrap64 (Int.tdiv 1000000 (ji7))) 2)))), .int .i64 (Int.tmod (wrap64 ((Int.tmod a1 7) + 7)) 7)] rfl (by (try simp only [List.map_toArray, List.map_cons, List.map_nil]); first | done | (simp only [hji7]; rfl) | rfl | (simp only [List.length_drop, List.length_take]; rfl)) ?_; (with_reducible refine (quant_Of.calls (wrap64 ((wrap64 ((Int.tmod a0 1000000) * 1000000)) + (wrap64 (Int.tdiv (wrap64 (Int.tdiv 1000000 (ji7))) 2)))) (Int.tmod (wrap64 ((Int.tmod a1 7) + 7)) 7) t109 _ A10.out).mono ?_); rintro e w21 ⟨rfl, hb⟩; refine ⟨_, rfl, ?_⟩; have n0_ := Aside0.mk (below_step (by repeat (first | (with_reducible first | exact HB.out | apply below_alloc | apply pw_below_drewN | apply below_drew1) | exact HB.out)) hb); clear HB; have HB := n0_; clear n0_; (try clear hb); (try clear hb2); (try clear hk); (try clear hi)) | ((with_reducible refine gate_callee (f := 22) rfl ?_); refine goesL_ (some 46) rfl rfl Try.func22 (by kernel_rfl) rfl #[.int .i64 (wrap64 ((wrap64 ((Int.tmod a0 1000000) * 1000000)) - (wrap64 (Int.tdiv (wrap64 (Int.tdiv 1000000 (ji7))) 2)))), .int .i64 (Int.tmod (wrap64 ((Int.tmod a1 7) + 7)) 7)] rfl (by (try simp only [List.map_toArray, List.map_cons, List.map_nil]); first | done | (simp only [hji7]; rfl) | rfl | (simp only [List.length_drop, List.length_take]; rfl)) ?_; (with_reducible refine (quant_Of.calls (wrap64 ((wrap64 ((Int.tmod a0 1000000) * 1000000)) - (wrap64 (Int.tdiv (wrap64 (Int.tdiv 1000000 (ji7))) 2)))) (Int.tmod (wrap64 ((Int.tmod a1 7) + 7)) 7) t110 _ A11.out).mono ?_); rintro e w22 ⟨rfl, hb⟩; refine ⟨_, rfl, ?_⟩; have n0_ := Aside0.mk (below_step (by repeat (first | (with_reducible first | exact HB.out | apply below_alloc | apply pw_below_drewN | apply below_drew1) | exact HB.out)) hb); clear HB; have HB := n0_; clear n0_; (try clear hb); (try clear hb2); (try clear hk); (try clear hi)))
              go_ret
              exact ⟨by first | rfl | (simp [errW_none, errW_some] <;> rfl) | (simp only [← hji5, ← hji7]; first | rfl | (simp [errW_none, errW_some] <;> rfl)) | (simp [*, errW_none, errW_some] <;> rfl), by repeat (first | (with_reducible first | exact HB.out | apply below_alloc | apply pw_below_drewN | apply below_drew1) | exact HB.out)⟩
          · rw [if_neg c13] at H
            have c13b0 : (t108 == (wrap64 ((Int.tmod a0 1000000) * (ji7)))) = false := beq_eq_false_iff_ne.mpr c13
            have c13b1 : (t108 != (wrap64 ((Int.tmod a0 1000000) * (ji7)))) = true := bne_iff_ne.mpr c13
            obtain rfl := Option.some.inj H
            go_enter Try.func4, Try.ntmps4
            go_wp2_with (first | ((with_reducible refine gate_callee (f := 21) rfl ?_); refine goesL_ (some 12) rfl rfl Try.func21 (by kernel_rfl) rfl #[] rfl (by (try simp only [List.map_toArray, List.map_cons, List.map_nil]); first | done | rfl | (simp only [List.length_drop, List.length_take]; rfl)) ?_; (with_reducible refine (glyphiclaw15_first.calls  true _ A3.out).mono ?_); rintro e w23 ⟨rfl, hb⟩; refine ⟨_, rfl, ?_⟩; have n0_ := Aside0.mk (below_step (by repeat (first | (with_reducible first | exact HB.out | apply below_alloc | apply pw_below_drewN | apply below_drew1) | exact HB.out)) hb); clear HB; have HB := n0_; clear n0_; (try clear hb); (try clear hb2); (try clear hk); (try clear hi)) | ((with_reducible refine gate_callee (f := 22) rfl ?_); refine goesL_ (some 34) rfl rfl Try.func22 (by kernel_rfl) rfl #[.int .i64 (wrap64 ((Int.tmod a0 1000000) * 1000000)), .int .i64 (Int.tmod (wrap64 ((Int.tmod a1 7) + 7)) 7)] rfl (by (try simp only [List.map_toArray, List.map_cons, List.map_nil]); first | done | rfl | (simp only [List.length_drop, List.length_take]; rfl)) ?_; (with_reducible refine (quant_Of.calls (wrap64 ((Int.tmod a0 1000000) * 1000000)) (Int.tmod (wrap64 ((Int.tmod a1 7) + 7)) 7) t108 _ A9.out).mono ?_); rintro e w24 ⟨rfl, hb⟩; refine ⟨_, rfl, ?_⟩; have n0_ := Aside0.mk (below_step (by repeat (first | (with_reducible first | exact HB.out | apply below_alloc | apply pw_below_drewN | apply below_drew1) | exact HB.out)) hb); clear HB; have HB := n0_; clear n0_; (try clear hb); (try clear hb2); (try clear hk); (try clear hi)) | ((with_reducible refine gate_callee (f := 22) rfl ?_); refine goesL_ (some 40) rfl rfl Try.func22 (by kernel_rfl) rfl #[.int .i64 (wrap64 ((wrap64 ((Int.tmod a0 1000000) * 1000000)) + (wrap64 (Int.tdiv (wrap64 (Int.tdiv 1000000 (ji7))) 2)))), .int .i64 (Int.tmod (wrap64 ((Int.tmod a1 7) + 7)) 7)] rfl (by (try simp only [List.map_toArray, List.map_cons, List.map_nil]); first | done | (simp only [hji7]; rfl) | rfl | (simp only [List.length_drop, List.length_take]; rfl)) ?_; (with_reducible refine (quant_Of.calls (wrap64 ((wrap64 ((Int.tmod a0 1000000) * 1000000)) + (wrap64 (Int.tdiv (wrap64 (Int.tdiv 1000000 (ji7))) 2)))) (Int.tmod (wrap64 ((Int.tmod a1 7) + 7)) 7) t109 _ A10.out).mono ?_); rintro e w25 ⟨rfl, hb⟩; refine ⟨_, rfl, ?_⟩; have n0_ := Aside0.mk (below_step (by repeat (first | (with_reducible first | exact HB.out | apply below_alloc | apply pw_below_drewN | apply below_drew1) | exact HB.out)) hb); clear HB; have HB := n0_; clear n0_; (try clear hb); (try clear hb2); (try clear hk); (try clear hi)) | ((with_reducible refine gate_callee (f := 22) rfl ?_); refine goesL_ (some 46) rfl rfl Try.func22 (by kernel_rfl) rfl #[.int .i64 (wrap64 ((wrap64 ((Int.tmod a0 1000000) * 1000000)) - (wrap64 (Int.tdiv (wrap64 (Int.tdiv 1000000 (ji7))) 2)))), .int .i64 (Int.tmod (wrap64 ((Int.tmod a1 7) + 7)) 7)] rfl (by (try simp only [List.map_toArray, List.map_cons, List.map_nil]); first | done | (simp only [hji7]; rfl) | rfl | (simp only [List.length_drop, List.length_take]; rfl)) ?_; (with_reducible refine (quant_Of.calls (wrap64 ((wrap64 ((Int.tmod a0 1000000) * 1000000)) - (wrap64 (Int.tdiv (wrap64 (Int.tdiv 1000000 (ji7))) 2)))) (Int.tmod (wrap64 ((Int.tmod a1 7) + 7)) 7) t110 _ A11.out).mono ?_); rintro e w26 ⟨rfl, hb⟩; refine ⟨_, rfl, ?_⟩; have n0_ := Aside0.mk (below_step (by repeat (first | (with_reducible first | exact HB.out | apply below_alloc | apply pw_below_drewN | apply below_drew1) | exact HB.out)) hb); clear HB; have HB := n0_; clear n0_; (try clear hb); (try clear hb2); (try clear hk); (try clear hi)))
            go_ret
            exact ⟨by first | rfl | (simp [errW_none, errW_some] <;> rfl) | (simp only [← hji5, ← hji7]; first | rfl | (simp [errW_none, errW_some] <;> rfl)) | (simp [*, errW_none, errW_some] <;> rfl), by repeat (first | (with_reducible first | exact HB.out | apply below_alloc | apply pw_below_drewN | apply below_drew1) | exact HB.out)⟩
        · rw [if_neg c12] at H
          have c12b0 : ((Int.tmod (wrap64 (Int.tdiv 1000000 (ji7))) 2) == 1) = false := beq_eq_false_iff_ne.mpr c12
          have c12b1 : ((Int.tmod (wrap64 (Int.tdiv 1000000 (ji7))) 2) != 1) = true := bne_iff_ne.mpr c12
          by_cases c27 : t108 = (wrap64 ((Int.tmod a0 1000000) * (ji7)))
          · rw [if_pos c27] at H
            have c27b0 : (t108 == (wrap64 ((Int.tmod a0 1000000) * (ji7)))) = true := beq_iff_eq.mpr c27
            have c27b1 : (t108 != (wrap64 ((Int.tmod a0 1000000) * (ji7)))) = false := bne_eq_false_iff_eq.mpr c27
            clear c27
            by_cases c28 : t109 = (wrap64 ((wrap64 ((Int.tmod a0 1000000) * (ji7))) + 1))
            · rw [if_pos c28] at H
              have c28b0 : (t109 == (wrap64 ((wrap64 ((Int.tmod a0 1000000) * (ji7))) + 1))) = true := beq_iff_eq.mpr c28
              have c28b1 : (t109 != (wrap64 ((wrap64 ((Int.tmod a0 1000000) * (ji7))) + 1))) = false := bne_eq_false_iff_eq.mpr c28
              clear c28
              by_cases c29 : t110 = (wrap64 ((Int.tmod a0 1000000) * (ji7)))
              · rw [if_pos c29] at H
                have c29b0 : (t110 == (wrap64 ((Int.tmod a0 1000000) * (ji7)))) = true := beq_iff_eq.mpr c29
                have c29b1 : (t110 != (wrap64 ((Int.tmod a0 1000000) * (ji7)))) = false := bne_eq_false_iff_eq.mpr c29
                clear c29
                obtain rfl := Option.some.inj H
                go_enter Try.func4, Try.ntmps4
                go_wp2_with (first | ((with_reducible refine gate_callee (f := 21) rfl ?_); refine goesL_ (some 12) rfl rfl Try.func21 (by kernel_rfl) rfl #[] rfl (by (try simp only [List.map_toArray, List.map_cons, List.map_nil]); first | done | rfl | (simp only [List.length_drop, List.length_take]; rfl)) ?_; (with_reducible refine (glyphiclaw15_first.calls  true _ A3.out).mono ?_); rintro e w30 ⟨rfl, hb⟩; refine ⟨_, rfl, ?_⟩; have n0_ := Aside0.mk (below_step (by repeat (first | (with_reducible first | exact HB.out | apply below_alloc | apply pw_below_drewN | apply below_drew1) | exact HB.out)) hb); clear HB; have HB := n0_; clear n0_; (try clear hb); (try clear hb2); (try clear hk); (try clear hi)) | ((with_reducible refine gate_callee (f := 22) rfl ?_); refine goesL_ (some 34) rfl rfl Try.func22 (by kernel_rfl) rfl #[.int .i64 (wrap64 ((Int.tmod a0 1000000) * 1000000)), .int .i64 (Int.tmod (wrap64 ((Int.tmod a1 7) + 7)) 7)] rfl (by (try simp only [List.map_toArray, List.map_cons, List.map_nil]); first | done | rfl | (simp only [List.length_drop, List.length_take]; rfl)) ?_; (with_reducible refine (quant_Of.calls (wrap64 ((Int.tmod a0 1000000) * 1000000)) (Int.tmod (wrap64 ((Int.tmod a1 7) + 7)) 7) t108 _ A9.out).mono ?_); rintro e w31 ⟨rfl, hb⟩; refine ⟨_, rfl, ?_⟩; have n0_ := Aside0.mk (below_step (by repeat (first | (with_reducible first | exact HB.out | apply below_alloc | apply pw_below_drewN | apply below_drew1) | exact HB.out)) hb); clear HB; have HB := n0_; clear n0_; (try clear hb); (try clear hb2); (try clear hk); (try clear hi)) | ((with_reducible refine gate_callee (f := 22) rfl ?_); refine goesL_ (some 40) rfl rfl Try.func22 (by kernel_rfl) rfl #[.int .i64 (wrap64 ((wrap64 ((Int.tmod a0 1000000) * 1000000)) + (wrap64 (Int.tdiv (wrap64 (Int.tdiv 1000000 (ji7))) 2)))), .int .i64 (Int.tmod (wrap64 ((Int.tmod a1 7) + 7)) 7)] rfl (by (try simp only [List.map_toArray, List.map_cons, List.map_nil]); first | done | (simp only [hji7]; rfl) | rfl | (simp only [List.length_drop, List.length_take]; rfl)) ?_; (with_reducible refine (quant_Of.calls (wrap64 ((wrap64 ((Int.tmod a0 1000000) * 1000000)) + (wrap64 (Int.tdiv (wrap64 (Int.tdiv 1000000 (ji7))) 2)))) (Int.tmod (wrap64 ((Int.tmod a1 7) + 7)) 7) t109 _ A10.out).mono ?_); rintro e w32 ⟨rfl, hb⟩; refine ⟨_, rfl, ?_⟩; have n0_ := Aside0.mk (below_step (by repeat (first | (with_reducible first | exact HB.out | apply below_alloc | apply pw_below_drewN | apply below_drew1) | exact HB.out)) hb); clear HB; have HB := n0_; clear n0_; (try clear hb); (try clear hb2); (try clear hk); (try clear hi)) | ((with_reducible refine gate_callee (f := 22) rfl ?_); refine goesL_ (some 46) rfl rfl Try.func22 (by kernel_rfl) rfl #[.int .i64 (wrap64 ((wrap64 ((Int.tmod a0 1000000) * 1000000)) - (wrap64 (Int.tdiv (wrap64 (Int.tdiv 1000000 (ji7))) 2)))), .int .i64 (Int.tmod (wrap64 ((Int.tmod a1 7) + 7)) 7)] rfl (by (try simp only [List.map_toArray, List.map_cons, List.map_nil]); first | done | (simp only [hji7]; rfl) | rfl | (simp only [List.length_drop, List.length_take]; rfl)) ?_; (with_reducible refine (quant_Of.calls (wrap64 ((wrap64 ((Int.tmod a0 1000000) * 1000000)) - (wrap64 (Int.tdiv (wrap64 (Int.tdiv 1000000 (ji7))) 2)))) (Int.tmod (wrap64 ((Int.tmod a1 7) + 7)) 7) t110 _ A11.out).mono ?_); rintro e w33 ⟨rfl, hb⟩; refine ⟨_, rfl, ?_⟩; have n0_ := Aside0.mk (below_step (by repeat (first | (with_reducible first | exact HB.out | apply below_alloc | apply pw_below_drewN | apply below_drew1) | exact HB.out)) hb); clear HB; have HB := n0_; clear n0_; (try clear hb); (try clear hb2); (try clear hk); (try clear hi)))
                go_ret
                exact ⟨by first | rfl | (simp [errW_none, errW_some] <;> rfl) | (simp only [← hji5, ← hji7]; first | rfl | (simp [errW_none, errW_some] <;> rfl)) | (simp [*, errW_none, errW_some] <;> rfl), by repeat (first | (with_reducible first | exact HB.out | apply below_alloc | apply pw_below_drewN | apply below_drew1) | exact HB.out)⟩
              · rw [if_neg c29] at H
                have c29b0 : (t110 == (wrap64 ((Int.tmod a0 1000000) * (ji7)))) = false := beq_eq_false_iff_ne.mpr c29
                have c29b1 : (t110 != (wrap64 ((Int.tmod a0 1000000) * (ji7)))) = true := bne_iff_ne.mpr c29
                obtain rfl := Option.some.inj H
                go_enter Try.func4, Try.ntmps4
                go_wp2_with (first | ((with_reducible refine gate_callee (f := 21) rfl ?_); refine goesL_ (some 12) rfl rfl Try.func21 (by kernel_rfl) rfl #[] rfl (by (try simp only [List.map_toArray, List.map_cons, List.map_nil]); first | done | rfl | (simp only [List.length_drop, List.length_take]; rfl)) ?_; (with_reducible refine (glyphiclaw15_first.calls  true _ A3.out).mono ?_); rintro e w34 ⟨rfl, hb⟩; refine ⟨_, rfl, ?_⟩; have n0_ := Aside0.mk (below_step (by repeat (first | (with_reducible first | exact HB.out | apply below_alloc | apply pw_below_drewN | apply below_drew1) | exact HB.out)) hb); clear HB; have HB := n0_; clear n0_; (try clear hb); (try clear hb2); (try clear hk); (try clear hi)) | ((with_reducible refine gate_callee (f := 22) rfl ?_); refine goesL_ (some 34) rfl rfl Try.func22 (by kernel_rfl) rfl #[.int .i64 (wrap64 ((Int.tmod a0 1000000) * 1000000)), .int .i64 (Int.tmod (wrap64 ((Int.tmod a1 7) + 7)) 7)] rfl (by (try simp only [List.map_toArray, List.map_cons, List.map_nil]); first | done | rfl | (simp only [List.length_drop, List.length_take]; rfl)) ?_; (with_reducible refine (quant_Of.calls (wrap64 ((Int.tmod a0 1000000) * 1000000)) (Int.tmod (wrap64 ((Int.tmod a1 7) + 7)) 7) t108 _ A9.out).mono ?_); rintro e w35 ⟨rfl, hb⟩; refine ⟨_, rfl, ?_⟩; have n0_ := Aside0.mk (below_step (by repeat (first | (with_reducible first | exact HB.out | apply below_alloc | apply pw_below_drewN | apply below_drew1) | exact HB.out)) hb); clear HB; have HB := n0_; clear n0_; (try clear hb); (try clear hb2); (try clear hk); (try clear hi)) | ((with_reducible refine gate_callee (f := 22) rfl ?_); refine goesL_ (some 40) rfl rfl Try.func22 (by kernel_rfl) rfl #[.int .i64 (wrap64 ((wrap64 ((Int.tmod a0 1000000) * 1000000)) + (wrap64 (Int.tdiv (wrap64 (Int.tdiv 1000000 (ji7))) 2)))), .int .i64 (Int.tmod (wrap64 ((Int.tmod a1 7) + 7)) 7)] rfl (by (try simp only [List.map_toArray, List.map_cons, List.map_nil]); first | done | (simp only [hji7]; rfl) | rfl | (simp only [List.length_drop, List.length_take]; rfl)) ?_; (with_reducible refine (quant_Of.calls (wrap64 ((wrap64 ((Int.tmod a0 1000000) * 1000000)) + (wrap64 (Int.tdiv (wrap64 (Int.tdiv 1000000 (ji7))) 2)))) (Int.tmod (wrap64 ((Int.tmod a1 7) + 7)) 7) t109 _ A10.out).mono ?_); rintro e w36 ⟨rfl, hb⟩; refine ⟨_, rfl, ?_⟩; have n0_ := Aside0.mk (below_step (by repeat (first | (with_reducible first | exact HB.out | apply below_alloc | apply pw_below_drewN | apply below_drew1) | exact HB.out)) hb); clear HB; have HB := n0_; clear n0_; (try clear hb); (try clear hb2); (try clear hk); (try clear hi)) | ((with_reducible refine gate_callee (f := 22) rfl ?_); refine goesL_ (some 46) rfl rfl Try.func22 (by kernel_rfl) rfl #[.int .i64 (wrap64 ((wrap64 ((Int.tmod a0 1000000) * 1000000)) - (wrap64 (Int.tdiv (wrap64 (Int.tdiv 1000000 (ji7))) 2)))), .int .i64 (Int.tmod (wrap64 ((Int.tmod a1 7) + 7)) 7)] rfl (by (try simp only [List.map_toArray, List.map_cons, List.map_nil]); first | done | (simp only [hji7]; rfl) | rfl | (simp only [List.length_drop, List.length_take]; rfl)) ?_; (with_reducible refine (quant_Of.calls (wrap64 ((wrap64 ((Int.tmod a0 1000000) * 1000000)) - (wrap64 (Int.tdiv (wrap64 (Int.tdiv 1000000 (ji7))) 2)))) (Int.tmod (wrap64 ((Int.tmod a1 7) + 7)) 7) t110 _ A11.out).mono ?_); rintro e w37 ⟨rfl, hb⟩; refine ⟨_, rfl, ?_⟩; have n0_ := Aside0.mk (below_step (by repeat (first | (with_reducible first | exact HB.out | apply below_alloc | apply pw_below_drewN | apply below_drew1) | exact HB.out)) hb); clear HB; have HB := n0_; clear n0_; (try clear hb); (try clear hb2); (try clear hk); (try clear hi)))
                go_ret
                exact ⟨by first | rfl | (simp [errW_none, errW_some] <;> rfl) | (simp only [← hji5, ← hji7]; first | rfl | (simp [errW_none, errW_some] <;> rfl)) | (simp [*, errW_none, errW_some] <;> rfl), by repeat (first | (with_reducible first | exact HB.out | apply below_alloc | apply pw_below_drewN | apply below_drew1) | exact HB.out)⟩
            · rw [if_neg c28] at H
              have c28b0 : (t109 == (wrap64 ((wrap64 ((Int.tmod a0 1000000) * (ji7))) + 1))) = false := beq_eq_false_iff_ne.mpr c28
              have c28b1 : (t109 != (wrap64 ((wrap64 ((Int.tmod a0 1000000) * (ji7))) + 1))) = true := bne_iff_ne.mpr c28
              obtain rfl := Option.some.inj H
              go_enter Try.func4, Try.ntmps4
              go_wp2_with (first | ((with_reducible refine gate_callee (f := 21) rfl ?_); refine goesL_ (some 12) rfl rfl Try.func21 (by kernel_rfl) rfl #[] rfl (by (try simp only [List.map_toArray, List.map_cons, List.map_nil]); first | done | rfl | (simp only [List.length_drop, List.length_take]; rfl)) ?_; (with_reducible refine (glyphiclaw15_first.calls  true _ A3.out).mono ?_); rintro e w38 ⟨rfl, hb⟩; refine ⟨_, rfl, ?_⟩; have n0_ := Aside0.mk (below_step (by repeat (first | (with_reducible first | exact HB.out | apply below_alloc | apply pw_below_drewN | apply below_drew1) | exact HB.out)) hb); clear HB; have HB := n0_; clear n0_; (try clear hb); (try clear hb2); (try clear hk); (try clear hi)) | ((with_reducible refine gate_callee (f := 22) rfl ?_); refine goesL_ (some 34) rfl rfl Try.func22 (by kernel_rfl) rfl #[.int .i64 (wrap64 ((Int.tmod a0 1000000) * 1000000)), .int .i64 (Int.tmod (wrap64 ((Int.tmod a1 7) + 7)) 7)] rfl (by (try simp only [List.map_toArray, List.map_cons, List.map_nil]); first | done | rfl | (simp only [List.length_drop, List.length_take]; rfl)) ?_; (with_reducible refine (quant_Of.calls (wrap64 ((Int.tmod a0 1000000) * 1000000)) (Int.tmod (wrap64 ((Int.tmod a1 7) + 7)) 7) t108 _ A9.out).mono ?_); rintro e w39 ⟨rfl, hb⟩; refine ⟨_, rfl, ?_⟩; have n0_ := Aside0.mk (below_step (by repeat (first | (with_reducible first | exact HB.out | apply below_alloc | apply pw_below_drewN | apply below_drew1) | exact HB.out)) hb); clear HB; have HB := n0_; clear n0_; (try clear hb); (try clear hb2); (try clear hk); (try clear hi)) | ((with_reducible refine gate_callee (f := 22) rfl ?_); refine goesL_ (some 40) rfl rfl Try.func22 (by kernel_rfl) rfl #[.int .i64 (wrap64 ((wrap64 ((Int.tmod a0 1000000) * 1000000)) + (wrap64 (Int.tdiv (wrap64 (Int.tdiv 1000000 (ji7))) 2)))), .int .i64 (Int.tmod (wrap64 ((Int.tmod a1 7) + 7)) 7)] rfl (by (try simp only [List.map_toArray, List.map_cons, List.map_nil]); first | done | (simp only [hji7]; rfl) | rfl | (simp only [List.length_drop, List.length_take]; rfl)) ?_; (with_reducible refine (quant_Of.calls (wrap64 ((wrap64 ((Int.tmod a0 1000000) * 1000000)) + (wrap64 (Int.tdiv (wrap64 (Int.tdiv 1000000 (ji7))) 2)))) (Int.tmod (wrap64 ((Int.tmod a1 7) + 7)) 7) t109 _ A10.out).mono ?_); rintro e w40 ⟨rfl, hb⟩; refine ⟨_, rfl, ?_⟩; have n0_ := Aside0.mk (below_step (by repeat (first | (with_reducible first | exact HB.out | apply below_alloc | apply pw_below_drewN | apply below_drew1) | exact HB.out)) hb); clear HB; have HB := n0_; clear n0_; (try clear hb); (try clear hb2); (try clear hk); (try clear hi)) | ((with_reducible refine gate_callee (f := 22) rfl ?_); refine goesL_ (some 46) rfl rfl Try.func22 (by kernel_rfl) rfl #[.int .i64 (wrap64 ((wrap64 ((Int.tmod a0 1000000) * 1000000)) - (wrap64 (Int.tdiv (wrap64 (Int.tdiv 1000000 (ji7))) 2)))), .int .i64 (Int.tmod (wrap64 ((Int.tmod a1 7) + 7)) 7)] rfl (by (try simp only [List.map_toArray, List.map_cons, List.map_nil]); first | done | (simp only [hji7]; rfl) | rfl | (simp only [List.length_drop, List.length_take]; rfl)) ?_; (with_reducible refine (quant_Of.calls (wrap64 ((wrap64 ((Int.tmod a0 1000000) * 1000000)) - (wrap64 (Int.tdiv (wrap64 (Int.tdiv 1000000 (ji7))) 2)))) (Int.tmod (wrap64 ((Int.tmod a1 7) + 7)) 7) t110 _ A11.out).mono ?_); rintro e w41 ⟨rfl, hb⟩; refine ⟨_, rfl, ?_⟩; have n0_ := Aside0.mk (below_step (by repeat (first | (with_reducible first | exact HB.out | apply below_alloc | apply pw_below_drewN | apply below_drew1) | exact HB.out)) hb); clear HB; have HB := n0_; clear n0_; (try clear hb); (try clear hb2); (try clear hk); (try clear hi)))
              go_ret
              exact ⟨by first | rfl | (simp [errW_none, errW_some] <;> rfl) | (simp only [← hji5, ← hji7]; first | rfl | (simp [errW_none, errW_some] <;> rfl)) | (simp [*, errW_none, errW_some] <;> rfl), by repeat (first | (with_reducible first | exact HB.out | apply below_alloc | apply pw_below_drewN | apply below_drew1) | exact HB.out)⟩
          · rw [if_neg c27] at H
            have c27b0 : (t108 == (wrap64 ((Int.tmod a0 1000000) * (ji7)))) = false := beq_eq_false_iff_ne.mpr c27
            have c27b1 : (t108 != (wrap64 ((Int.tmod a0 1000000) * (ji7)))) = true := bne_iff_ne.mpr c27
            obtain rfl := Option.some.inj H
            go_enter Try.func4, Try.ntmps4
            go_wp2_with (first | ((with_reducible refine gate_callee (f := 21) rfl ?_); refine goesL_ (some 12) rfl rfl Try.func21 (by kernel_rfl) rfl #[] rfl (by (try simp only [List.map_toArray, List.map_cons, List.map_nil]); first | done | rfl | (simp only [List.length_drop, List.length_take]; rfl)) ?_; (with_reducible refine (glyphiclaw15_first.calls  true _ A3.out).mono ?_); rintro e w42 ⟨rfl, hb⟩; refine ⟨_, rfl, ?_⟩; have n0_ := Aside0.mk (below_step (by repeat (first | (with_reducible first | exact HB.out | apply below_alloc | apply pw_below_drewN | apply below_drew1) | exact HB.out)) hb); clear HB; have HB := n0_; clear n0_; (try clear hb); (try clear hb2); (try clear hk); (try clear hi)) | ((with_reducible refine gate_callee (f := 22) rfl ?_); refine goesL_ (some 34) rfl rfl Try.func22 (by kernel_rfl) rfl #[.int .i64 (wrap64 ((Int.tmod a0 1000000) * 1000000)), .int .i64 (Int.tmod (wrap64 ((Int.tmod a1 7) + 7)) 7)] rfl (by (try simp only [List.map_toArray, List.map_cons, List.map_nil]); first | done | rfl | (simp only [List.length_drop, List.length_take]; rfl)) ?_; (with_reducible refine (quant_Of.calls (wrap64 ((Int.tmod a0 1000000) * 1000000)) (Int.tmod (wrap64 ((Int.tmod a1 7) + 7)) 7) t108 _ A9.out).mono ?_); rintro e w43 ⟨rfl, hb⟩; refine ⟨_, rfl, ?_⟩; have n0_ := Aside0.mk (below_step (by repeat (first | (with_reducible first | exact HB.out | apply below_alloc | apply pw_below_drewN | apply below_drew1) | exact HB.out)) hb); clear HB; have HB := n0_; clear n0_; (try clear hb); (try clear hb2); (try clear hk); (try clear hi)) | ((with_reducible refine gate_callee (f := 22) rfl ?_); refine goesL_ (some 40) rfl rfl Try.func22 (by kernel_rfl) rfl #[.int .i64 (wrap64 ((wrap64 ((Int.tmod a0 1000000) * 1000000)) + (wrap64 (Int.tdiv (wrap64 (Int.tdiv 1000000 (ji7))) 2)))), .int .i64 (Int.tmod (wrap64 ((Int.tmod a1 7) + 7)) 7)] rfl (by (try simp only [List.map_toArray, List.map_cons, List.map_nil]); first | done | (simp only [hji7]; rfl) | rfl | (simp only [List.length_drop, List.length_take]; rfl)) ?_; (with_reducible refine (quant_Of.calls (wrap64 ((wrap64 ((Int.tmod a0 1000000) * 1000000)) + (wrap64 (Int.tdiv (wrap64 (Int.tdiv 1000000 (ji7))) 2)))) (Int.tmod (wrap64 ((Int.tmod a1 7) + 7)) 7) t109 _ A10.out).mono ?_); rintro e w44 ⟨rfl, hb⟩; refine ⟨_, rfl, ?_⟩; have n0_ := Aside0.mk (below_step (by repeat (first | (with_reducible first | exact HB.out | apply below_alloc | apply pw_below_drewN | apply below_drew1) | exact HB.out)) hb); clear HB; have HB := n0_; clear n0_; (try clear hb); (try clear hb2); (try clear hk); (try clear hi)) | ((with_reducible refine gate_callee (f := 22) rfl ?_); refine goesL_ (some 46) rfl rfl Try.func22 (by kernel_rfl) rfl #[.int .i64 (wrap64 ((wrap64 ((Int.tmod a0 1000000) * 1000000)) - (wrap64 (Int.tdiv (wrap64 (Int.tdiv 1000000 (ji7))) 2)))), .int .i64 (Int.tmod (wrap64 ((Int.tmod a1 7) + 7)) 7)] rfl (by (try simp only [List.map_toArray, List.map_cons, List.map_nil]); first | done | (simp only [hji7]; rfl) | rfl | (simp only [List.length_drop, List.length_take]; rfl)) ?_; (with_reducible refine (quant_Of.calls (wrap64 ((wrap64 ((Int.tmod a0 1000000) * 1000000)) - (wrap64 (Int.tdiv (wrap64 (Int.tdiv 1000000 (ji7))) 2)))) (Int.tmod (wrap64 ((Int.tmod a1 7) + 7)) 7) t110 _ A11.out).mono ?_); rintro e w45 ⟨rfl, hb⟩; refine ⟨_, rfl, ?_⟩; have n0_ := Aside0.mk (below_step (by repeat (first | (with_reducible first | exact HB.out | apply below_alloc | apply pw_below_drewN | apply below_drew1) | exact HB.out)) hb); clear HB; have HB := n0_; clear n0_; (try clear hb); (try clear hb2); (try clear hk); (try clear hi)))
            go_ret
            exact ⟨by first | rfl | (simp [errW_none, errW_some] <;> rfl) | (simp only [← hji5, ← hji7]; first | rfl | (simp [errW_none, errW_some] <;> rfl)) | (simp [*, errW_none, errW_some] <;> rfl), by repeat (first | (with_reducible first | exact HB.out | apply below_alloc | apply pw_below_drewN | apply below_drew1) | exact HB.out)⟩
    · rw [if_neg c6] at H
      exact absurd H (by simp)
  · replace c4 := Bool.eq_false_iff.mpr c4
    subst c4
    have H1 : (some false) = some r := by rw [if_neg (show ¬ (false = true) by decide)] at H; exact H
    clear H
    have H := H1
    clear H1
    obtain rfl := Option.some.inj H
    go_enter Try.func4, Try.ntmps4
    go_wp2_with (first | ((with_reducible refine gate_callee (f := 21) rfl ?_); refine goesL_ (some 12) rfl rfl Try.func21 (by kernel_rfl) rfl #[] rfl (by (try simp only [List.map_toArray, List.map_cons, List.map_nil]); first | done | rfl | (simp only [List.length_drop, List.length_take]; rfl)) ?_; (with_reducible refine (glyphiclaw15_first.calls  false _ A3.out).mono ?_); rintro e w46 ⟨rfl, hb⟩; refine ⟨_, rfl, ?_⟩; have n0_ := Aside0.mk (below_step (by repeat (first | (with_reducible first | exact HB.out | apply below_alloc | apply pw_below_drewN | apply below_drew1) | exact HB.out)) hb); clear HB; have HB := n0_; clear n0_; (try clear hb); (try clear hb2); (try clear hk); (try clear hi)))
    go_ret
    exact ⟨by first | rfl | (simp [errW_none, errW_some] <;> rfl) | (simp [*, errW_none, errW_some] <;> rfl), by repeat (first | (with_reducible first | exact HB.out | apply below_alloc | apply pw_below_drewN | apply below_drew1) | exact HB.out)⟩

/-- THE ONE PURE STATEMENT of glyphiclaw15_QuantWhole: yours. -/
def glyphiclaw15_QuantWhole.Pure : Prop := ∀ (a0 : Int) (a1 : Int), (Lit.int .i64 a0).wf = true → (Lit.int .i64 a1).wf = true → glyphiclaw15_QuantWhole.f a0 a1 = some true
theorem glyphiclaw15_QuantWhole.walk (P : glyphiclaw15_QuantWhole.Pure) (a0 : Int) (a1 : Int) (w : World) (w0 : (Lit.int .i64 a0).wf = true) (w1 : (Lit.int .i64 a1).wf = true) :
    Calls Try.prog 4 #[.int .i64 a0, .int .i64 a1] w fun e w' => e = .returned (.bool true) ∧ Below w.heap.size w w' := by
  have h := P a0 a1 w0 w1
  refine (glyphiclaw15_QuantWhole.calls a0 a1 true w h).mono ?_
  rintro e w' ⟨rfl, hd⟩
  exact ⟨rfl, hd⟩

end Go.Proofs.Ytgaikembekkfiaa.MQuantWhole
