/- The functions that QuantBack reaches, each as a Lean function with its walk. Written by a program (fix.py) after a print. -/
import Derived.Test.YtgaikembekkfiaaMQuantBackx0
namespace Go.Proofs.Ytgaikembekkfiaa.MQuantBack
open Go.RowKit Go.Proofs.YtgaikembekkfiaaW.PrintWords Go.Proofs.YtgaikembekkfiaaW.PrintLast Go.Proofs.YtgaikembekkfiaaW.PrintMore
attribute [local go_sem] max2_int min2_int max_two min_two max_three min_three max_four min_four   -- for this text's walks alone
set_option linter.unusedVariables false
set_option linter.unusedSimpArgs false

/-! ### fixed_Down: function 31 -/
def fixed_Down.f (a0 : Int) (a1 : Int) : Option (Int) := if a1 < 1 then (some 0) else (if a1 = 0 then (none) else (if (Int.tmod a0 a1) < 0 then (some (wrap64 ((wrap64 (Int.tdiv a0 a1)) - 1))) else (some (wrap64 (Int.tdiv a0 a1)))))
set_option maxHeartbeats 8000000 in
set_option maxRecDepth 100000 in
theorem fixed_Down.calls (a0 : Int) (a1 : Int) (r : Int) (w : World) (h : fixed_Down.f a0 a1 = some r) :
    Calls Try.prog 31 #[.int .i64 a0, .int .i64 a1] w fun e w' => e = .returned (.int .i64 r) ∧ Drawn0 w w' := by
  have H : (if a1 < 1 then (some 0) else (if a1 = 0 then (none) else (if (Int.tmod a0 a1) < 0 then (some (wrap64 ((wrap64 (Int.tdiv a0 a1)) - 1))) else (some (wrap64 (Int.tdiv a0 a1)))))) = some r := h
  clear h
  by_cases c3 : a1 < 1
  · rw [if_pos c3] at H
    have c3b0 : decide (a1 < 1) = true := decide_eq_true c3
    clear c3
    obtain rfl := Option.some.inj H
    go_enter Try.func31, Try.ntmps31
    go_wp2
    go_ret
    exact ⟨by first | rfl | (simp; done) | (simp [*]; done), by repeat (first | exact Drawn0.refl _ | apply Drawn0.step)⟩
  · rw [if_neg c3] at H
    have c3b0 : decide (a1 < 1) = false := decide_eq_false c3
    clear c3
    by_cases c4 : a1 = 0
    · rw [if_pos c4] at H
      exact absurd H (by simp)
    · rw [if_neg c4] at H
      have c4b0 : (a1 == 0) = false := beq_eq_false_iff_ne.mpr c4
      have c4b1 : (a1 != 0) = true := bne_iff_ne.mpr c4
      by_cases c5 : (Int.tmod a0 a1) < 0
      · rw [if_pos c5] at H
        have c5b0 : decide ((Int.tmod a0 a1) < 0) = true := decide_eq_true c5
        clear c5
        obtain rfl := Option.some.inj H
        go_enter Try.func31, Try.ntmps31
        go_wp2
        go_ret
        exact ⟨by first | rfl | (simp; done) | (simp [*]; done), by repeat (first | exact Drawn0.refl _ | apply Drawn0.step)⟩
      · rw [if_neg c5] at H
        have c5b0 : decide ((Int.tmod a0 a1) < 0) = false := decide_eq_false c5
        clear c5
        obtain rfl := Option.some.inj H
        go_enter Try.func31, Try.ntmps31
        go_wp2
        go_ret
        exact ⟨by first | rfl | (simp; done) | (simp [*]; done), by repeat (first | exact Drawn0.refl _ | apply Drawn0.step)⟩

/-! ### fixed_Round: function 30 -/
def fixed_Round.f (a0 : Int) (a1 : Int) : Option (Int) := if a1 < 1 then (some 0) else ((fixed_Down.f a0 a1).bind fun t101 => (if (wrap64 (a0 - (wrap64 (t101 * a1)))) ≥ (wrap64 (a1 - (wrap64 (a0 - (wrap64 (t101 * a1)))))) then (some (wrap64 (t101 + 1))) else (some t101)))
set_option maxHeartbeats 8000000 in
set_option maxRecDepth 100000 in
theorem fixed_Round.calls (a0 : Int) (a1 : Int) (r : Int) (w : World) (h : fixed_Round.f a0 a1 = some r) :
    Calls Try.prog 30 #[.int .i64 a0, .int .i64 a1] w fun e w' => e = .returned (.int .i64 r) ∧ Drawn0 w w' := by
  have H : (if a1 < 1 then (some 0) else ((fixed_Down.f a0 a1).bind fun t101 => (if (wrap64 (a0 - (wrap64 (t101 * a1)))) ≥ (wrap64 (a1 - (wrap64 (a0 - (wrap64 (t101 * a1)))))) then (some (wrap64 (t101 + 1))) else (some t101)))) = some r := h
  clear h
  by_cases c3 : a1 < 1
  · rw [if_pos c3] at H
    have c3b0 : decide (a1 < 1) = true := decide_eq_true c3
    clear c3
    obtain rfl := Option.some.inj H
    go_enter Try.func30, Try.ntmps30
    go_wp2
    go_ret
    exact ⟨by first | rfl | (simp; done) | (simp [*]; done), by repeat (first | exact Drawn0.refl _ | apply Drawn0.step)⟩
  · rw [if_neg c3] at H
    have c3b0 : decide (a1 < 1) = false := decide_eq_false c3
    clear c3
    replace H := Option.bind_eq_some_iff.mp H
    obtain ⟨t101, A40, H⟩ := H
    replace H : (if (wrap64 (a0 - (wrap64 (t101 * a1)))) ≥ (wrap64 (a1 - (wrap64 (a0 - (wrap64 (t101 * a1)))))) then (some (wrap64 (t101 + 1))) else (some t101)) = some r := H
    have A4 := Aside0.mk A40
    clear A40
    by_cases c5 : (wrap64 (a0 - (wrap64 (t101 * a1)))) ≥ (wrap64 (a1 - (wrap64 (a0 - (wrap64 (t101 * a1))))))
    · rw [if_pos c5] at H
      have c5b0 : decide ((wrap64 (a1 - (wrap64 (a0 - (wrap64 (t101 * a1)))))) ≤ (wrap64 (a0 - (wrap64 (t101 * a1))))) = true := decide_eq_true c5
      clear c5
      obtain rfl := Option.some.inj H
      go_enter Try.func30, Try.ntmps30
      go_wp2_with (first | ((with_reducible refine gate_callee (f := 31) rfl ?_); refine goesL_ (some 11) rfl rfl Try.func31 (by kernel_rfl) rfl #[.int .i64 a0, .int .i64 a1] rfl (by (try simp only [List.map_toArray, List.map_cons, List.map_nil]); first | done | rfl | (simp only [List.length_drop, List.length_take]; rfl)) ?_; (with_reducible refine (fixed_Down.calls a0 a1 t101 _ A4.out).mono ?_); rintro e w' ⟨rfl, ⟨nd, rfl⟩⟩; refine ⟨_, rfl, ?_⟩))
      go_ret
      exact ⟨by first | rfl | (simp; done) | (simp [*]; done), by repeat (first | exact Drawn0.refl _ | apply Drawn0.step)⟩
    · rw [if_neg c5] at H
      have c5b0 : decide ((wrap64 (a1 - (wrap64 (a0 - (wrap64 (t101 * a1)))))) ≤ (wrap64 (a0 - (wrap64 (t101 * a1))))) = false := decide_eq_false c5
      clear c5
      obtain rfl := Option.some.inj H
      go_enter Try.func30, Try.ntmps30
      go_wp2_with (first | ((with_reducible refine gate_callee (f := 31) rfl ?_); refine goesL_ (some 11) rfl rfl Try.func31 (by kernel_rfl) rfl #[.int .i64 a0, .int .i64 a1] rfl (by (try simp only [List.map_toArray, List.map_cons, List.map_nil]); first | done | rfl | (simp only [List.length_drop, List.length_take]; rfl)) ?_; (with_reducible refine (fixed_Down.calls a0 a1 t101 _ A4.out).mono ?_); rintro e w' ⟨rfl, ⟨nd, rfl⟩⟩; refine ⟨_, rfl, ?_⟩))
      go_ret
      exact ⟨by first | rfl | (simp; done) | (simp [*]; done), by repeat (first | exact Drawn0.refl _ | apply Drawn0.step)⟩

/-! ### quant_steps: function 54 -/
def quant_steps.f (a0 : Int) : Option (Int) := some (wrap64 (2 ^ (mn (mx a0 0) 6).toNat))
set_option maxHeartbeats 8000000 in
set_option maxRecDepth 100000 in
theorem quant_steps.calls (a0 : Int) (r : Int) (w : World) (h : quant_steps.f a0 = some r) :
    Calls Try.prog 54 #[.int .i64 a0] w fun e w' => e = .returned (.int .i64 r) ∧ Below w.heap.size w w' := by
  have HB := Aside0.mk (Below.refl w.heap.size w)
  have H : (some (wrap64 (2 ^ (mn (mx a0 0) 6).toNat))) = some r := h
  clear h
  obtain ⟨ji2, hji2⟩ : ∃ j_ : Int, (mx a0 0) = j_ := ⟨_, rfl⟩
  replace H : (some (wrap64 (2 ^ (mn (ji2) 6).toNat))) = some r := by first | (rw [hji2] at H; exact H) | (simp only [hji2] at H ⊢; exact H)
  (try (have hji2l : 0 ≤ ji2 := by (rw [← hji2]; unfold mx; (repeat' split) <;> omega)))
  (try (have hji2m : 0 ≤ ji2 := by omega))
  have hji2_ : (if a0 < 0 then 0 else a0) = ji2 := hji2
  obtain ⟨ji3, hji3⟩ : ∃ j_ : Int, (mn (ji2) 6) = j_ := ⟨_, rfl⟩
  replace H : (some (wrap64 (2 ^ (ji3).toNat))) = some r := by first | (rw [hji3] at H; exact H) | (simp only [hji3] at H ⊢; exact H)
  have hji3_ : (if 6 < (ji2) then 6 else (ji2)) = ji3 := hji3
  obtain rfl := Option.some.inj H
  go_enter Try.func54, Try.ntmps54
  go_wp2
  go_ret
  exact ⟨by first | rfl | (simp [errW_none, errW_some] <;> rfl) | (simp only [← hji2, ← hji3]; first | rfl | (simp [errW_none, errW_some] <;> rfl)) | (simp [*, errW_none, errW_some] <;> rfl), by repeat (first | (with_reducible first | exact HB.out | apply below_alloc | apply pw_below_drewN | apply below_drew1) | exact HB.out)⟩

/-! ### quant_Of: function 22 -/
def quant_Of.f (a0 : Int) (a1 : Int) : Option (Int) := (quant_steps.f a1).bind fun t102 => ((fixed_Round.f (wrap64 (a0 * t102)) 1000000).bind fun t103 => (some t103))
set_option maxHeartbeats 8000000 in
set_option maxRecDepth 100000 in
theorem quant_Of.calls (a0 : Int) (a1 : Int) (r : Int) (w : World) (h : quant_Of.f a0 a1 = some r) :
    Calls Try.prog 22 #[.int .i64 a0, .int .i64 a1] w fun e w' => e = .returned (.int .i64 r) ∧ Below w.heap.size w w' := by
  have HB := Aside0.mk (Below.refl w.heap.size w)
  have H : ((quant_steps.f a1).bind fun t102 => ((fixed_Round.f (wrap64 (a0 * t102)) 1000000).bind fun t103 => (some t103))) = some r := h
  clear h
  replace H := Option.bind_eq_some_iff.mp H
  obtain ⟨t102, A30, H⟩ := H
  replace H : ((fixed_Round.f (wrap64 (a0 * t102)) 1000000).bind fun t103 => (some t103)) = some r := H
  have A3 := Aside0.mk A30
  clear A30
  replace H := Option.bind_eq_some_iff.mp H
  obtain ⟨t103, A40, H⟩ := H
  replace H : (some t103) = some r := H
  have A4 := Aside0.mk A40
  clear A40
  obtain rfl := Option.some.inj H
  go_enter Try.func22, Try.ntmps22
  go_wp2_with (first | ((with_reducible refine gate_callee (f := 54) rfl ?_); refine goesL_ (some 7) rfl rfl Try.func54 (by kernel_rfl) rfl #[.int .i64 a1] rfl (by (try simp only [List.map_toArray, List.map_cons, List.map_nil]); first | done | rfl | (simp only [List.length_drop, List.length_take]; rfl)) ?_; (with_reducible refine (quant_steps.calls a1 t102 _ A3.out).mono ?_); rintro e w5 ⟨rfl, hb⟩; refine ⟨_, rfl, ?_⟩; have n0_ := Aside0.mk (below_step (by repeat (first | (with_reducible first | exact HB.out | apply below_alloc | apply pw_below_drewN | apply below_drew1) | exact HB.out)) hb); clear HB; have HB := n0_; clear n0_; (try clear hb); (try clear hb2); (try clear hk); (try clear hi)) | ((with_reducible refine gate_callee (f := 30) rfl ?_); refine goesL_ (some 9) rfl rfl Try.func30 (by kernel_rfl) rfl #[.int .i64 (wrap64 (a0 * t102)), .int .i64 1000000] rfl (by (try simp only [List.map_toArray, List.map_cons, List.map_nil]); first | done | rfl | (simp only [List.length_drop, List.length_take]; rfl)) ?_; (with_reducible refine (fixed_Round.calls (wrap64 (a0 * t102)) 1000000 t103 _ A4.out).mono ?_); rintro e w' ⟨rfl, ⟨nd, rfl⟩⟩; refine ⟨_, rfl, ?_⟩))
  go_ret
  exact ⟨by first | rfl | (simp [errW_none, errW_some] <;> rfl) | (simp [*, errW_none, errW_some] <;> rfl), by repeat (first | (with_reducible first | exact HB.out | apply below_alloc | apply pw_below_drewN | apply below_drew1) | exact HB.out)⟩

/-! ### quant_Back: function 23 -/
def quant_Back.f (a0 : Int) (a1 : Int) : Option (Int) := (quant_steps.f a1).bind fun t104 => (if t104 = 0 then (none) else (some (wrap64 (a0 * (wrap64 (Int.tdiv 1000000 t104))))))
set_option maxHeartbeats 8000000 in
set_option maxRecDepth 100000 in
theorem quant_Back.calls (a0 : Int) (a1 : Int) (r : Int) (w : World) (h : quant_Back.f a0 a1 = some r) :
    Calls Try.prog 23 #[.int .i64 a0, .int .i64 a1] w fun e w' => e = .returned (.int .i64 r) ∧ Below w.heap.size w w' := by
  have HB := Aside0.mk (Below.refl w.heap.size w)
  have H : ((quant_steps.f a1).bind fun t104 => (if t104 = 0 then (none) else (some (wrap64 (a0 * (wrap64 (Int.tdiv 1000000 t104))))))) = some r := h
  clear h
  replace H := Option.bind_eq_some_iff.mp H
  obtain ⟨t104, A30, H⟩ := H
  replace H : (if t104 = 0 then (none) else (some (wrap64 (a0 * (wrap64 (Int.tdiv 1000000 t104)))))) = some r := H
  have A3 := Aside0.mk A30
  clear A30
  by_cases c4 : t104 = 0
  · rw [if_pos c4] at H
    exact absurd H (by simp)
  · rw [if_neg c4] at H
    have c4b0 : (t104 == 0) = false := beq_eq_false_iff_ne.mpr c4
    have c4b1 : (t104 != 0) = true := bne_iff_ne.mpr c4
    obtain rfl := Option.some.inj H
    go_enter Try.func23, Try.ntmps23
    go_wp2_with (first | ((with_reducible refine gate_callee (f := 54) rfl ?_); refine goesL_ (some 7) rfl rfl Try.func54 (by kernel_rfl) rfl #[.int .i64 a1] rfl (by (try simp only [List.map_toArray, List.map_cons, List.map_nil]); first | done | rfl | (simp only [List.length_drop, List.length_take]; rfl)) ?_; (with_reducible refine (quant_steps.calls a1 t104 _ A3.out).mono ?_); rintro e w5 ⟨rfl, hb⟩; refine ⟨_, rfl, ?_⟩; have n0_ := Aside0.mk (below_step (by repeat (first | (with_reducible first | exact HB.out | apply below_alloc | apply pw_below_drewN | apply below_drew1) | exact HB.out)) hb); clear HB; have HB := n0_; clear n0_; (try clear hb); (try clear hb2); (try clear hk); (try clear hi)))
    go_ret
    exact ⟨by first | rfl | (simp [errW_none, errW_some] <;> rfl) | (simp [*, errW_none, errW_some] <;> rfl), by repeat (first | (with_reducible first | exact HB.out | apply below_alloc | apply pw_below_drewN | apply below_drew1) | exact HB.out)⟩

/-! ### glyphiclaw15_first: function 21 -/
def glyphiclaw15_first.f  : Option (Bool) := (quant_Of.f 500000 0).bind fun t105 => (if t105 = 1 then ((quant_Back.f 1 6).bind fun t106 => (some (t106 == 15625))) else (some false))
set_option maxHeartbeats 8000000 in
set_option maxRecDepth 100000 in
theorem glyphiclaw15_first.calls  (r : Bool) (w : World) (h : glyphiclaw15_first.f  = some r) :
    Calls Try.prog 21 #[] w fun e w' => e = .returned (.bool r) ∧ Below w.heap.size w w' := by
  have HB := Aside0.mk (Below.refl w.heap.size w)
  have H : ((quant_Of.f 500000 0).bind fun t105 => (if t105 = 1 then ((quant_Back.f 1 6).bind fun t106 => (some (t106 == 15625))) else (some false))) = some r := h
  clear h
  replace H := Option.bind_eq_some_iff.mp H
  obtain ⟨t105, A10, H⟩ := H
  replace H : (if t105 = 1 then ((quant_Back.f 1 6).bind fun t106 => (some (t106 == 15625))) else (some false)) = some r := H
  have A1 := Aside0.mk A10
  clear A10
  by_cases c2 : t105 = 1
  · rw [if_pos c2] at H
    have c2b0 : (t105 == 1) = true := beq_iff_eq.mpr c2
    have c2b1 : (t105 != 1) = false := bne_eq_false_iff_eq.mpr c2
    clear c2
    replace H := Option.bind_eq_some_iff.mp H
    obtain ⟨t106, A30, H⟩ := H
    replace H : (some (t106 == 15625)) = some r := H
    have A3 := Aside0.mk A30
    clear A30
    obtain rfl := Option.some.inj H
    go_enter Try.func21, Try.ntmps21
    go_wp2_with (first | ((with_reducible refine gate_callee (f := 22) rfl ?_); refine goesL_ (some 1) rfl rfl Try.func22 (by kernel_rfl) rfl #[.int .i64 500000, .int .i64 0] rfl (by (try simp only [List.map_toArray, List.map_cons, List.map_nil]); first | done | rfl | (simp only [List.length_drop, List.length_take]; rfl)) ?_; (with_reducible refine (quant_Of.calls 500000 0 t105 _ A1.out).mono ?_); rintro e w4 ⟨rfl, hb⟩; refine ⟨_, rfl, ?_⟩; have n0_ := Aside0.mk (below_step (by repeat (first | (with_reducible first | exact HB.out | apply below_alloc | apply pw_below_drewN | apply below_drew1) | exact HB.out)) hb); clear HB; have HB := n0_; clear n0_; (try clear hb); (try clear hb2); (try clear hk); (try clear hi)) | (go_at_call 23; (with_reducible refine (quant_Back.calls 1 6 t106 _ A3.out).mono ?_); rintro e w5 ⟨rfl, hb⟩; have n0_ := Aside0.mk (below_step (by repeat (first | (with_reducible first | exact HB.out | apply below_alloc | apply pw_below_drewN | apply below_drew1) | exact HB.out)) hb); clear HB; have HB := n0_; clear n0_; (try clear hb); (try clear hb2); (try clear hk); (try clear hi)))
    go_ret
    exact ⟨by first | rfl | (simp [errW_none, errW_some] <;> rfl) | (simp [*, errW_none, errW_some] <;> rfl), by repeat (first | (with_reducible first | exact HB.out | apply below_alloc | apply pw_below_drewN | apply below_drew1) | exact HB.out)⟩
  · rw [if_neg c2] at H
    have c2b0 : (t105 == 1) = false := beq_eq_false_iff_ne.mpr c2
    have c2b1 : (t105 != 1) = true := bne_iff_ne.mpr c2
    obtain rfl := Option.some.inj H
    go_enter Try.func21, Try.ntmps21
    go_wp2_with (first | ((with_reducible refine gate_callee (f := 22) rfl ?_); refine goesL_ (some 1) rfl rfl Try.func22 (by kernel_rfl) rfl #[.int .i64 500000, .int .i64 0] rfl (by (try simp only [List.map_toArray, List.map_cons, List.map_nil]); first | done | rfl | (simp only [List.length_drop, List.length_take]; rfl)) ?_; (with_reducible refine (quant_Of.calls 500000 0 t105 _ A1.out).mono ?_); rintro e w6 ⟨rfl, hb⟩; refine ⟨_, rfl, ?_⟩; have n0_ := Aside0.mk (below_step (by repeat (first | (with_reducible first | exact HB.out | apply below_alloc | apply pw_below_drewN | apply below_drew1) | exact HB.out)) hb); clear HB; have HB := n0_; clear n0_; (try clear hb); (try clear hb2); (try clear hk); (try clear hi)))
    go_ret
    exact ⟨by first | rfl | (simp [errW_none, errW_some] <;> rfl) | (simp [*, errW_none, errW_some] <;> rfl), by repeat (first | (with_reducible first | exact HB.out | apply below_alloc | apply pw_below_drewN | apply below_drew1) | exact HB.out)⟩

/-! ### glyphiclaw15_QuantBack: function 3 -/
def glyphiclaw15_QuantBack.j0 : Nat → Int → Int → Int → Int → Bool → Int → Int → Option (Bool)
  | 0, _, _, _, _, _, _, _ => none
  | k + 1, x0, x1, x2, x3, x9, x10, x12 => if x9 = true then ((quant_Back.f x2 x3).bind fun t110 => ((quant_Of.f t110 x3).bind fun t111 => (if t111 = x2 then (if x12 ≤ x10 then (if x12 > (wrap64 (-x10)) then ((quant_Of.f x0 x3).bind fun t112 => ((quant_Of.f x1 x3).bind fun t113 => (if t112 ≤ t113 then ((quant_Back.f 1 x3).bind fun t114 => (some (t114 == x10))) else (some false)))) else (some false)) else (some false)) else (some false)))) else (some false)
def glyphiclaw15_QuantBack.f (k : Nat) (a0 : Int) (a1 : Int) (a2 : Int) (a3 : Int) : Option (Bool) := (glyphiclaw15_first.f).bind fun t107 => (if t107 = true then (if 0 ≤ (IntKind.u64.wrap (Int.tmod (wrap64 ((Int.tmod a3 7) + 7)) 7)) then ((quant_Of.f (Int.tmod a0 1000000000000001) (Int.tmod (wrap64 ((Int.tmod a3 7) + 7)) 7)).bind fun t108 => ((quant_Back.f t108 (Int.tmod (wrap64 ((Int.tmod a3 7) + 7)) 7)).bind fun t109 => (if (Int.tmod a0 1000000000000001) > (Int.tmod a1 1000000000000001) then (glyphiclaw15_QuantBack.j0 k (Int.tmod a1 1000000000000001) (Int.tmod a0 1000000000000001) (Int.tmod a2 900000000) (Int.tmod (wrap64 ((Int.tmod a3 7) + 7)) 7) t107 (shr .i64 1000000 (IntKind.u64.wrap (Int.tmod (wrap64 ((Int.tmod a3 7) + 7)) 7))) (wrap64 (2 * (wrap64 (t109 - (Int.tmod a0 1000000000000001)))))) else (glyphiclaw15_QuantBack.j0 k (Int.tmod a0 1000000000000001) (Int.tmod a1 1000000000000001) (Int.tmod a2 900000000) (Int.tmod (wrap64 ((Int.tmod a3 7) + 7)) 7) t107 (shr .i64 1000000 (IntKind.u64.wrap (Int.tmod (wrap64 ((Int.tmod a3 7) + 7)) 7))) (wrap64 (2 * (wrap64 (t109 - (Int.tmod a0 1000000000000001))))))))) else (none)) else (some false))
theorem glyphiclaw15_QuantBack.mono_l : ∀ k, (∀ y0 y1 y2 y3 y4 y5 y6, LeO (glyphiclaw15_QuantBack.j0 k y0 y1 y2 y3 y4 y5 y6) (glyphiclaw15_QuantBack.j0 (k + 1) y0 y1 y2 y3 y4 y5 y6))
  | 0 => fun _ _ _ _ _ _ _ r h => by simp [glyphiclaw15_QuantBack.j0] at h
  | k + 1 => by
    have ih0 := glyphiclaw15_QuantBack.mono_l k
    · intro y0 y1 y2 y3 y4 y5 y6
      unfold glyphiclaw15_QuantBack.j0
      repeat' first
      | (with_reducible exact ih0 _ _ _ _ _ _ _)
      | (with_reducible exact LeO.refl _)
      | (with_reducible exact LeO.none _)
      | (with_reducible refine LeO.ite ?_ ?_)
      | (with_reducible refine LeO.bind ?_ (fun _ => ?_))
      | exact ih0 _ _ _ _ _ _ _
      | exact LeO.none _
      | refine LeO.ite ?_ ?_
      | refine LeO.bind ?_ (fun _ => ?_)
theorem glyphiclaw15_QuantBack.mono : ∀ a0 a1 a2 a3 k, LeO (glyphiclaw15_QuantBack.f k a0 a1 a2 a3) (glyphiclaw15_QuantBack.f (k + 1) a0 a1 a2 a3) := by
  intro a0 a1 a2 a3 k
  have ih0 := glyphiclaw15_QuantBack.mono_l k
  unfold glyphiclaw15_QuantBack.f
  repeat' first
      | (with_reducible exact ih0 _ _ _ _ _ _ _)
      | (with_reducible exact LeO.refl _)
      | (with_reducible exact LeO.none _)
      | (with_reducible refine LeO.ite ?_ ?_)
      | (with_reducible refine LeO.bind ?_ (fun _ => ?_))
      | exact ih0 _ _ _ _ _ _ _
      | exact LeO.none _
      | refine LeO.ite ?_ ?_
      | refine LeO.bind ?_ (fun _ => ?_)
set_option maxHeartbeats 8000000 in
set_option maxRecDepth 100000 in
theorem glyphiclaw15_QuantBack.calls (k : Nat) (a0 : Int) (a1 : Int) (a2 : Int) (a3 : Int) (r : Bool) (w : World) (h : glyphiclaw15_QuantBack.f k a0 a1 a2 a3 = some r) :
    Calls Try.prog 3 #[.int .i64 a0, .int .i64 a1, .int .i64 a2, .int .i64 a3] w fun e w' => e = .returned (.bool r) ∧ Below w.heap.size w w' := by
  have HB := Aside0.mk (Below.refl w.heap.size w)
  have H : ((glyphiclaw15_first.f).bind fun t107 => (if t107 = true then (if 0 ≤ (IntKind.u64.wrap (Int.tmod (wrap64 ((Int.tmod a3 7) + 7)) 7)) then ((quant_Of.f (Int.tmod a0 1000000000000001) (Int.tmod (wrap64 ((Int.tmod a3 7) + 7)) 7)).bind fun t108 => ((quant_Back.f t108 (Int.tmod (wrap64 ((Int.tmod a3 7) + 7)) 7)).bind fun t109 => (if (Int.tmod a0 1000000000000001) > (Int.tmod a1 1000000000000001) then (glyphiclaw15_QuantBack.j0 k (Int.tmod a1 1000000000000001) (Int.tmod a0 1000000000000001) (Int.tmod a2 900000000) (Int.tmod (wrap64 ((Int.tmod a3 7) + 7)) 7) t107 (shr .i64 1000000 (IntKind.u64.wrap (Int.tmod (wrap64 ((Int.tmod a3 7) + 7)) 7))) (wrap64 (2 * (wrap64 (t109 - (Int.tmod a0 1000000000000001)))))) else (glyphiclaw15_QuantBack.j0 k (Int.tmod a0 1000000000000001) (Int.tmod a1 1000000000000001) (Int.tmod a2 900000000) (Int.tmod (wrap64 ((Int.tmod a3 7) + 7)) 7) t107 (shr .i64 1000000 (IntKind.u64.wrap (Int.tmod (wrap64 ((Int.tmod a3 7) + 7)) 7))) (wrap64 (2 * (wrap64 (t109 - (Int.tmod a0 1000000000000001))))))))) else (none)) else (some false))) = some r := h
  clear h
  replace H := Option.bind_eq_some_iff.mp H
  obtain ⟨t107, A50, H⟩ := H
  replace H : (if t107 = true then (if 0 ≤ (IntKind.u64.wrap (Int.tmod (wrap64 ((Int.tmod a3 7) + 7)) 7)) then ((quant_Of.f (Int.tmod a0 1000000000000001) (Int.tmod (wrap64 ((Int.tmod a3 7) + 7)) 7)).bind fun t108 => ((quant_Back.f t108 (Int.tmod (wrap64 ((Int.tmod a3 7) + 7)) 7)).bind fun t109 => (if (Int.tmod a0 1000000000000001) > (Int.tmod a1 1000000000000001) then (glyphiclaw15_QuantBack.j0 k (Int.tmod a1 1000000000000001) (Int.tmod a0 1000000000000001) (Int.tmod a2 900000000) (Int.tmod (wrap64 ((Int.tmod a3 7) + 7)) 7) t107 (shr .i64 1000000 (IntKind.u64.wrap (Int.tmod (wrap64 ((Int.tmod a3 7) + 7)) 7))) (wrap64 (2 * (wrap64 (t109 - (Int.tmod a0 1000000000000001)))))) else (glyphiclaw15_QuantBack.j0 k (Int.tmod a0 1000000000000001) (Int.tmod a1 1000000000000001) (Int.tmod a2 900000000) (Int.tmod (wrap64 ((Int.tmod a3 7) + 7)) 7) t107 (shr .i64 1000000 (IntKind.u64.wrap (Int.tmod (wrap64 ((Int.tmod a3 7) + 7)) 7))) (wrap64 (2 * (wrap64 (t109 - (Int.tmod a0 1000000000000001))))))))) else (none)) else (some false)) = some r := H
  have A5 := Aside0.mk A50
  clear A50
  by_cases c6 : t107 = true
  · subst c6
    have H1 : (if 0 ≤ (IntKind.u64.wrap (Int.tmod (wrap64 ((Int.tmod a3 7) + 7)) 7)) then ((quant_Of.f (Int.tmod a0 1000000000000001) (Int.tmod (wrap64 ((Int.tmod a3 7) + 7)) 7)).bind fun t108 => ((quant_Back.f t108 (Int.tmod (wrap64 ((Int.tmod a3 7) + 7)) 7)).bind fun t109 => (if (Int.tmod a0 1000000000000001) > (Int.tmod a1 1000000000000001) then (glyphiclaw15_QuantBack.j0 k (Int.tmod a1 1000000000000001) (Int.tmod a0 1000000000000001) (Int.tmod a2 900000000) (Int.tmod (wrap64 ((Int.tmod a3 7) + 7)) 7) true (shr .i64 1000000 (IntKind.u64.wrap (Int.tmod (wrap64 ((Int.tmod a3 7) + 7)) 7))) (wrap64 (2 * (wrap64 (t109 - (Int.tmod a0 1000000000000001)))))) else (glyphiclaw15_QuantBack.j0 k (Int.tmod a0 1000000000000001) (Int.tmod a1 1000000000000001) (Int.tmod a2 900000000) (Int.tmod (wrap64 ((Int.tmod a3 7) + 7)) 7) true (shr .i64 1000000 (IntKind.u64.wrap (Int.tmod (wrap64 ((Int.tmod a3 7) + 7)) 7))) (wrap64 (2 * (wrap64 (t109 - (Int.tmod a0 1000000000000001))))))))) else (none)) = some r := by first | (rw [if_pos rfl] at H; exact H) | (rw [if_pos trivial] at H; exact H) | exact H
    clear H
    have H := H1
    clear H1
    obtain ⟨ji7, hji7⟩ : ∃ j_ : Int, (IntKind.u64.wrap (Int.tmod (wrap64 ((Int.tmod a3 7) + 7)) 7)) = j_ := ⟨_, rfl⟩
    replace H : (if 0 ≤ (ji7) then ((quant_Of.f (Int.tmod a0 1000000000000001) (Int.tmod (wrap64 ((Int.tmod a3 7) + 7)) 7)).bind fun t108 => ((quant_Back.f t108 (Int.tmod (wrap64 ((Int.tmod a3 7) + 7)) 7)).bind fun t109 => (if (Int.tmod a0 1000000000000001) > (Int.tmod a1 1000000000000001) then (glyphiclaw15_QuantBack.j0 k (Int.tmod a1 1000000000000001) (Int.tmod a0 1000000000000001) (Int.tmod a2 900000000) (Int.tmod (wrap64 ((Int.tmod a3 7) + 7)) 7) true (shr .i64 1000000 (ji7)) (wrap64 (2 * (wrap64 (t109 - (Int.tmod a0 1000000000000001)))))) else (glyphiclaw15_QuantBack.j0 k (Int.tmod a0 1000000000000001) (Int.tmod a1 1000000000000001) (Int.tmod a2 900000000) (Int.tmod (wrap64 ((Int.tmod a3 7) + 7)) 7) true (shr .i64 1000000 (ji7)) (wrap64 (2 * (wrap64 (t109 - (Int.tmod a0 1000000000000001))))))))) else (none)) = some r := by first | (rw [hji7] at H; exact H) | (simp only [hji7] at H ⊢; exact H)
    (try rw [hji7] at A5)
    by_cases c8 : 0 ≤ (ji7)
    · rw [if_pos c8] at H
      have c8b0 := eq_true c8
      have c8b1 : decide (0 ≤ (ji7)) = true := decide_eq_true c8
      clear c8
      obtain ⟨ji9, hji9⟩ : ∃ j_ : Int, (shr .i64 1000000 (ji7)) = j_ := ⟨_, rfl⟩
      replace H : ((quant_Of.f (Int.tmod a0 1000000000000001) (Int.tmod (wrap64 ((Int.tmod a3 7) + 7)) 7)).bind fun t108 => ((quant_Back.f t108 (Int.tmod (wrap64 ((Int.tmod a3 7) + 7)) 7)).bind fun t109 => (if (Int.tmod a0 1000000000000001) > (Int.tmod a1 1000000000000001) then (glyphiclaw15_QuantBack.j0 k (Int.tmod a1 1000000000000001) (Int.tmod a0 1000000000000001) (Int.tmod a2 900000000) (Int.tmod (wrap64 ((Int.tmod a3 7) + 7)) 7) true ji9 (wrap64 (2 * (wrap64 (t109 - (Int.tmod a0 1000000000000001)))))) else (glyphiclaw15_QuantBack.j0 k (Int.tmod a0 1000000000000001) (Int.tmod a1 1000000000000001) (Int.tmod a2 900000000) (Int.tmod (wrap64 ((Int.tmod a3 7) + 7)) 7) true ji9 (wrap64 (2 * (wrap64 (t109 - (Int.tmod a0 1000000000000001))))))))) = some r := by first | (rw [hji9] at H; exact H) | (simp only [hji9] at H ⊢; exact H)
      (try rw [hji9] at A5)
      have hji9_ : (1000000 / 2 ^ min (ji7).toNat 64) = ji9 := hji9
      have hji9z : (ji7) ≤ 64 → (1000000 / 2 ^ (ji7).toNat) = ji9 := shr_small hji9
      replace H := Option.bind_eq_some_iff.mp H
      obtain ⟨t108, A100, H⟩ := H
      replace H : ((quant_Back.f t108 (Int.tmod (wrap64 ((Int.tmod a3 7) + 7)) 7)).bind fun t109 => (if (Int.tmod a0 1000000000000001) > (Int.tmod a1 1000000000000001) then (glyphiclaw15_QuantBack.j0 k (Int.tmod a1 1000000000000001) (Int.tmod a0 1000000000000001) (Int.tmod a2 900000000) (Int.tmod (wrap64 ((Int.tmod a3 7) + 7)) 7) true ji9 (wrap64 (2 * (wrap64 (t109 - (Int.tmod a0 1000000000000001)))))) else (glyphiclaw15_QuantBack.j0 k (Int.tmod a0 1000000000000001) (Int.tmod a1 1000000000000001) (Int.tmod a2 900000000) (Int.tmod (wrap64 ((Int.tmod a3 7) + 7)) 7) true ji9 (wrap64 (2 * (wrap64 (t109 - (Int.tmod a0 1000000000000001)))))))) = some r := H
      have A10 := Aside0.mk A100
      clear A100
      replace H := Option.bind_eq_some_iff.mp H
      obtain ⟨t109, A110, H⟩ := H
      replace H : (if (Int.tmod a0 1000000000000001) > (Int.tmod a1 1000000000000001) then (glyphiclaw15_QuantBack.j0 k (Int.tmod a1 1000000000000001) (Int.tmod a0 1000000000000001) (Int.tmod a2 900000000) (Int.tmod (wrap64 ((Int.tmod a3 7) + 7)) 7) true ji9 (wrap64 (2 * (wrap64 (t109 - (Int.tmod a0 1000000000000001)))))) else (glyphiclaw15_QuantBack.j0 k (Int.tmod a0 1000000000000001) (Int.tmod a1 1000000000000001) (Int.tmod a2 900000000) (Int.tmod (wrap64 ((Int.tmod a3 7) + 7)) 7) true ji9 (wrap64 (2 * (wrap64 (t109 - (Int.tmod a0 1000000000000001))))))) = some r := H
      have A11 := Aside0.mk A110
      clear A110
      have HC12 := Aside0.mk H
      clear H
      go_enter Try.func3, Try.ntmps3
      go_upto_if 40 with (first | ((with_reducible refine gate_callee (f := 21) rfl ?_); refine goesL_ (some 13) rfl rfl Try.func21 (by kernel_rfl) rfl #[] rfl (by (try simp only [List.map_toArray, List.map_cons, List.map_nil]); first | done | rfl | (simp only [List.length_drop, List.length_take]; rfl)) ?_; (with_reducible refine (glyphiclaw15_first.calls  true _ A5.out).mono ?_); rintro e w13 ⟨rfl, hb⟩; refine ⟨_, rfl, ?_⟩; have n0_ := Aside0.mk (below_step (by repeat (first | (with_reducible first | exact HB.out | apply below_alloc | apply pw_below_drewN | apply below_drew1) | exact HB.out)) hb); clear HB; have HB := n0_; clear n0_; (try clear hb); (try clear hb2); (try clear hk); (try clear hi)) | ((with_reducible refine gate_callee (f := 22) rfl ?_); refine goesL_ (some 31) rfl rfl Try.func22 (by kernel_rfl) rfl #[.int .i64 (Int.tmod a0 1000000000000001), .int .i64 (Int.tmod (wrap64 ((Int.tmod a3 7) + 7)) 7)] rfl (by (try simp only [List.map_toArray, List.map_cons, List.map_nil]); first | done | rfl | (simp only [List.length_drop, List.length_take]; rfl)) ?_; (with_reducible refine (quant_Of.calls (Int.tmod a0 1000000000000001) (Int.tmod (wrap64 ((Int.tmod a3 7) + 7)) 7) t108 _ A10.out).mono ?_); rintro e w14 ⟨rfl, hb⟩; refine ⟨_, rfl, ?_⟩; have n0_ := Aside0.mk (below_step (by repeat (first | (with_reducible first | exact HB.out | apply below_alloc | apply pw_below_drewN | apply below_drew1) | exact HB.out)) hb); clear HB; have HB := n0_; clear n0_; (try clear hb); (try clear hb2); (try clear hk); (try clear hi)) | ((with_reducible refine gate_callee (f := 23) rfl ?_); refine goesL_ (some 34) rfl rfl Try.func23 (by kernel_rfl) rfl #[.int .i64 t108, .int .i64 (Int.tmod (wrap64 ((Int.tmod a3 7) + 7)) 7)] rfl (by (try simp only [List.map_toArray, List.map_cons, List.map_nil]); first | done | rfl | (simp only [List.length_drop, List.length_take]; rfl)) ?_; (with_reducible refine (quant_Back.calls t108 (Int.tmod (wrap64 ((Int.tmod a3 7) + 7)) 7) t109 _ A11.out).mono ?_); rintro e w15 ⟨rfl, hb⟩; refine ⟨_, rfl, ?_⟩; have n0_ := Aside0.mk (below_step (by repeat (first | (with_reducible first | exact HB.out | apply below_alloc | apply pw_below_drewN | apply below_drew1) | exact HB.out)) hb); clear HB; have HB := n0_; clear n0_; (try clear hb); (try clear hb2); (try clear hk); (try clear hi)))
      (try simp only [Act.put, List.setIfInBounds_toArray, List.set_cons_zero, List.set_cons_succ])
      go_cut [0, 1] (fun v0 v1 wc => ∃ (kq : Nat) (x0_11 : Int) (x1_11 : Int), v0 = .int .i64 x0_11 ∧ v1 = .int .i64 x1_11 ∧ Aside0 (glyphiclaw15_QuantBack.j0 kq x0_11 x1_11 (Int.tmod a2 900000000) (Int.tmod (wrap64 ((Int.tmod a3 7) + 7)) 7) true ji9 (wrap64 (2 * (wrap64 (t109 - (Int.tmod a0 1000000000000001))))) = some r) ∧ Aside0 (kq ≤ k) ∧ Aside0 (Below w.heap.size w wc))
      case first =>
        have H := HC12.out
        clear HC12
        by_cases c16 : (Int.tmod a0 1000000000000001) > (Int.tmod a1 1000000000000001)
        · rw [if_pos c16] at H
          have c16b0 : decide ((Int.tmod a1 1000000000000001) < (Int.tmod a0 1000000000000001)) = true := decide_eq_true c16
          clear c16
          (first | rw [c16b0] | (simp only [i64_w, i32_w]; rw [c16b0]) | skip)
          have H' := Aside0.mk H
          clear H
          go_wp2
          go_meet
          case rel => exact ⟨_, (Int.tmod a1 1000000000000001), (Int.tmod a0 1000000000000001), (by first | rfl | (simp; done) | (simp [*]; done)), (by first | rfl | (simp; done) | (simp [*]; done)), H', ⟨by first | omega | exact Nat.le_refl _⟩, ⟨by repeat (first | (with_reducible first | exact HB.out | apply below_alloc | apply pw_below_drewN | apply below_drew1) | exact HB.out)⟩⟩
        · rw [if_neg c16] at H
          have c16b0 : decide ((Int.tmod a1 1000000000000001) < (Int.tmod a0 1000000000000001)) = false := decide_eq_false c16
          clear c16
          (first | rw [c16b0] | (simp only [i64_w, i32_w]; rw [c16b0]) | skip)
          have H' := Aside0.mk H
          clear H
          go_wp2
          go_meet
          case rel => exact ⟨_, (Int.tmod a0 1000000000000001), (Int.tmod a1 1000000000000001), (by first | rfl | (simp; done) | (simp [*]; done)), (by first | rfl | (simp; done) | (simp [*]; done)), H', ⟨by first | omega | exact Nat.le_refl _⟩, ⟨by repeat (first | (with_reducible first | exact HB.out | apply below_alloc | apply pw_below_drewN | apply below_drew1) | exact HB.out)⟩⟩
      case rest =>
        clear HC12
        try clear c1
        try clear c2
        try clear p2
        try clear c3
        try clear c6
        try clear p6
        try clear c8
        try clear c8b0
        try clear c8b1
        try clear c16
        try clear c16b0
        obtain ⟨kq, x0_11, x1_11, rfl, rfl, HA, HJ11, HB⟩ := hcut
        cases kq with
        | zero => exact absurd HA.out (by simp [glyphiclaw15_QuantBack.j0])
        | succ kj11 =>
          have H := HA.out
          clear HA
          simp only [glyphiclaw15_QuantBack.j0] at H
          by_cases c17 : true = true
          · clear c17
            have H1 : ((quant_Back.f (Int.tmod a2 900000000) (Int.tmod (wrap64 ((Int.tmod a3 7) + 7)) 7)).bind fun t110 => ((quant_Of.f t110 (Int.tmod (wrap64 ((Int.tmod a3 7) + 7)) 7)).bind fun t111 => (if t111 = (Int.tmod a2 900000000) then (if (wrap64 (2 * (wrap64 (t109 - (Int.tmod a0 1000000000000001))))) ≤ ji9 then (if (wrap64 (2 * (wrap64 (t109 - (Int.tmod a0 1000000000000001))))) > (wrap64 (-ji9)) then ((quant_Of.f x0_11 (Int.tmod (wrap64 ((Int.tmod a3 7) + 7)) 7)).bind fun t112 => ((quant_Of.f x1_11 (Int.tmod (wrap64 ((Int.tmod a3 7) + 7)) 7)).bind fun t113 => (if t112 ≤ t113 then ((quant_Back.f 1 (Int.tmod (wrap64 ((Int.tmod a3 7) + 7)) 7)).bind fun t114 => (some (t114 == ji9))) else (some false)))) else (some false)) else (some false)) else (some false)))) = some r := by first | (rw [if_pos rfl] at H; exact H) | (rw [if_pos trivial] at H; exact H) | exact H
            clear H
            have H := H1
            clear H1
            replace H := Option.bind_eq_some_iff.mp H
            obtain ⟨t110, A180, H⟩ := H
            replace H : ((quant_Of.f t110 (Int.tmod (wrap64 ((Int.tmod a3 7) + 7)) 7)).bind fun t111 => (if t111 = (Int.tmod a2 900000000) then (if (wrap64 (2 * (wrap64 (t109 - (Int.tmod a0 1000000000000001))))) ≤ ji9 then (if (wrap64 (2 * (wrap64 (t109 - (Int.tmod a0 1000000000000001))))) > (wrap64 (-ji9)) then ((quant_Of.f x0_11 (Int.tmod (wrap64 ((Int.tmod a3 7) + 7)) 7)).bind fun t112 => ((quant_Of.f x1_11 (Int.tmod (wrap64 ((Int.tmod a3 7) + 7)) 7)).bind fun t113 => (if t112 ≤ t113 then ((quant_Back.f 1 (Int.tmod (wrap64 ((Int.tmod a3 7) + 7)) 7)).bind fun t114 => (some (t114 == ji9))) else (some false)))) else (some false)) else (some false)) else (some false))) = some r := H
            have A18 := Aside0.mk A180
            clear A180
            replace H := Option.bind_eq_some_iff.mp H
            obtain ⟨t111, A190, H⟩ := H
            replace H : (if t111 = (Int.tmod a2 900000000) then (if (wrap64 (2 * (wrap64 (t109 - (Int.tmod a0 1000000000000001))))) ≤ ji9 then (if (wrap64 (2 * (wrap64 (t109 - (Int.tmod a0 1000000000000001))))) > (wrap64 (-ji9)) then ((quant_Of.f x0_11 (Int.tmod (wrap64 ((Int.tmod a3 7) + 7)) 7)).bind fun t112 => ((quant_Of.f x1_11 (Int.tmod (wrap64 ((Int.tmod a3 7) + 7)) 7)).bind fun t113 => (if t112 ≤ t113 then ((quant_Back.f 1 (Int.tmod (wrap64 ((Int.tmod a3 7) + 7)) 7)).bind fun t114 => (some (t114 == ji9))) else (some false)))) else (some false)) else (some false)) else (some false)) = some r := H
            have A19 := Aside0.mk A190
            clear A190
            by_cases c20 : t111 = (Int.tmod a2 900000000)
            · rw [if_pos c20] at H
              have c20b0 : (t111 == (Int.tmod a2 900000000)) = true := beq_iff_eq.mpr c20
              have c20b1 : (t111 != (Int.tmod a2 900000000)) = false := bne_eq_false_iff_eq.mpr c20
              clear c20
              by_cases c21 : (wrap64 (2 * (wrap64 (t109 - (Int.tmod a0 1000000000000001))))) ≤ ji9
              · rw [if_pos c21] at H
                have c21b0 : decide ((wrap64 (2 * (wrap64 (t109 - (Int.tmod a0 1000000000000001))))) ≤ ji9) = true := decide_eq_true c21
                clear c21
                by_cases c22 : (wrap64 (2 * (wrap64 (t109 - (Int.tmod a0 1000000000000001))))) > (wrap64 (-ji9))
                · rw [if_pos c22] at H
                  have c22b0 : decide ((wrap64 (-ji9)) < (wrap64 (2 * (wrap64 (t109 - (Int.tmod a0 1000000000000001)))))) = true := decide_eq_true c22
                  clear c22
                  replace H := Option.bind_eq_some_iff.mp H
                  obtain ⟨t112, A230, H⟩ := H
                  replace H : ((quant_Of.f x1_11 (Int.tmod (wrap64 ((Int.tmod a3 7) + 7)) 7)).bind fun t113 => (if t112 ≤ t113 then ((quant_Back.f 1 (Int.tmod (wrap64 ((Int.tmod a3 7) + 7)) 7)).bind fun t114 => (some (t114 == ji9))) else (some false))) = some r := H
                  have A23 := Aside0.mk A230
                  clear A230
                  replace H := Option.bind_eq_some_iff.mp H
                  obtain ⟨t113, A240, H⟩ := H
                  replace H : (if t112 ≤ t113 then ((quant_Back.f 1 (Int.tmod (wrap64 ((Int.tmod a3 7) + 7)) 7)).bind fun t114 => (some (t114 == ji9))) else (some false)) = some r := H
                  have A24 := Aside0.mk A240
                  clear A240
                  by_cases c25 : t112 ≤ t113
                  · rw [if_pos c25] at H
                    have c25b0 : decide (t112 ≤ t113) = true := decide_eq_true c25
                    clear c25
                    replace H := Option.bind_eq_some_iff.mp H
                    obtain ⟨t114, A260, H⟩ := H
                    replace H : (some (t114 == ji9)) = some r := H
                    have A26 := Aside0.mk A260
                    clear A260
                    obtain rfl := Option.some.inj H
                    go_wp2_with (first | (go_at_call 23; (with_reducible refine (quant_Back.calls (Int.tmod a2 900000000) (Int.tmod (wrap64 ((Int.tmod a3 7) + 7)) 7) t110 _ A18.out).mono ?_); rintro e w27 ⟨rfl, hb⟩; have n0_ := Aside0.mk (below_step (by repeat (first | (with_reducible first | exact HB.out | apply below_alloc | apply pw_below_drewN | apply below_drew1) | exact HB.out)) hb); clear HB; have HB := n0_; clear n0_; (try clear hb); (try clear hb2); (try clear hk); (try clear hi)) | (go_at_call 22; (with_reducible refine (quant_Of.calls t110 (Int.tmod (wrap64 ((Int.tmod a3 7) + 7)) 7) t111 _ A19.out).mono ?_); rintro e w28 ⟨rfl, hb⟩; have n0_ := Aside0.mk (below_step (by repeat (first | (with_reducible first | exact HB.out | apply below_alloc | apply pw_below_drewN | apply below_drew1) | exact HB.out)) hb); clear HB; have HB := n0_; clear n0_; (try clear hb); (try clear hb2); (try clear hk); (try clear hi)) | (go_at_call 22; (with_reducible refine (quant_Of.calls x0_11 (Int.tmod (wrap64 ((Int.tmod a3 7) + 7)) 7) t112 _ A23.out).mono ?_); rintro e w29 ⟨rfl, hb⟩; have n0_ := Aside0.mk (below_step (by repeat (first | (with_reducible first | exact HB.out | apply below_alloc | apply pw_below_drewN | apply below_drew1) | exact HB.out)) hb); clear HB; have HB := n0_; clear n0_; (try clear hb); (try clear hb2); (try clear hk); (try clear hi)) | (go_at_call 22; (with_reducible refine (quant_Of.calls x1_11 (Int.tmod (wrap64 ((Int.tmod a3 7) + 7)) 7) t113 _ A24.out).mono ?_); rintro e w30 ⟨rfl, hb⟩; have n0_ := Aside0.mk (below_step (by repeat (first | (with_reducible first | exact HB.out | apply below_alloc | apply pw_below_drewN | apply below_drew1) | exact HB.out)) hb); clear HB; have HB := n0_; clear n0_; (try clear hb); (try clear hb2); (try clear hk); (try clear hi)) | (go_at_call 23; (with_reducible refine (quant_Back.calls 1 (Int.tmod (wrap64 ((Int.tmod a3 7) + 7)) 7) t114 _ A26.out).mono ?_); rintro e w31 ⟨rfl, hb⟩; have n0_ := Aside0.mk (below_step (by repeat (first | (with_reducible first | exact HB.out | apply below_alloc | apply pw_below_drewN | apply below_drew1) | exact HB.out)) hb); clear HB; have HB := n0_; clear n0_; (try clear hb); (try clear hb2); (try clear hk); (try clear hi)))
                    go_ret
                    exact ⟨by first | rfl | (simp [errW_none, errW_some] <;> rfl) | (simp only [← hji7, ← hji9]; first | rfl | (simp [errW_none, errW_some] <;> rfl)) | (simp [*, errW_none, errW_some] <;> rfl), by repeat (first | (with_reducible first | exact HB.out | apply below_alloc | apply pw_below_drewN | apply below_drew1) | exact HB.out)⟩
                  · rw [if_neg c25] at H
                    have c25b0 : decide (t112 ≤ t113) = false := decide_eq_false c25
                    clear c25
                    obtain rfl := Option.some.inj H
                    go_wp2_with (first | (go_at_call 23; (with_reducible refine (quant_Back.calls (Int.tmod a2 900000000) (Int.tmod (wrap64 ((Int.tmod a3 7) + 7)) 7) t110 _ A18.out).mono ?_); rintro e w32 ⟨rfl, hb⟩; have n0_ := Aside0.mk (below_step (by repeat (first | (with_reducible first | exact HB.out | apply below_alloc | apply pw_below_drewN | apply below_drew1) | exact HB.out)) hb); clear HB; have HB := n0_; clear n0_; (try clear hb); (try clear hb2); (try clear hk); (try clear hi)) | (go_at_call 22; (with_reducible refine (quant_Of.calls t110 (Int.tmod (wrap64 ((Int.tmod a3 7) + 7)) 7) t111 _ A19.out).mono ?_); rintro e w33 ⟨rfl, hb⟩; have n0_ := Aside0.mk (below_step (by repeat (first | (with_reducible first | exact HB.out | apply below_alloc | apply pw_below_drewN | apply below_drew1) | exact HB.out)) hb); clear HB; have HB := n0_; clear n0_; (try clear hb); (try clear hb2); (try clear hk); (try clear hi)) | (go_at_call 22; (with_reducible refine (quant_Of.calls x0_11 (Int.tmod (wrap64 ((Int.tmod a3 7) + 7)) 7) t112 _ A23.out).mono ?_); rintro e w34 ⟨rfl, hb⟩; have n0_ := Aside0.mk (below_step (by repeat (first | (with_reducible first | exact HB.out | apply below_alloc | apply pw_below_drewN | apply below_drew1) | exact HB.out)) hb); clear HB; have HB := n0_; clear n0_; (try clear hb); (try clear hb2); (try clear hk); (try clear hi)) | (go_at_call 22; (with_reducible refine (quant_Of.calls x1_11 (Int.tmod (wrap64 ((Int.tmod a3 7) + 7)) 7) t113 _ A24.out).mono ?_); rintro e w35 ⟨rfl, hb⟩; have n0_ := Aside0.mk (below_step (by repeat (first | (with_reducible first | exact HB.out | apply below_alloc | apply pw_below_drewN | apply below_drew1) | exact HB.out)) hb); clear HB; have HB := n0_; clear n0_; (try clear hb); (try clear hb2); (try clear hk); (try clear hi)))
                    go_ret
                    exact ⟨by first | rfl | (simp [errW_none, errW_some] <;> rfl) | (simp only [← hji7, ← hji9]; first | rfl | (simp [errW_none, errW_some] <;> rfl)) | (simp [*, errW_none, errW_some] <;> rfl), by repeat (first | (with_reducible first | exact HB.out | apply below_alloc | apply pw_below_drewN | apply below_drew1) | exact HB.out)⟩
                · rw [if_neg c22] at H
                  have c22b0 : decide ((wrap64 (-ji9)) < (wrap64 (2 * (wrap64 (t109 - (Int.tmod a0 1000000000000001)))))) = false := decide_eq_false c22
                  clear c22
                  obtain rfl := Option.some.inj H
                  go_wp2_with (first | (go_at_call 23; (with_reducible refine (quant_Back.calls (Int.tmod a2 900000000) (Int.tmod (wrap64 ((Int.tmod a3 7) + 7)) 7) t110 _ A18.out).mono ?_); rintro e w36 ⟨rfl, hb⟩; have n0_ := Aside0.mk (below_step (by repeat (first | (with_reducible first | exact HB.out | apply below_alloc | apply pw_below_drewN | apply below_drew1) | exact HB.out)) hb); clear HB; have HB := n0_; clear n0_; (try clear hb); (try clear hb2); (try clear hk); (try clear hi)) | (go_at_call 22; (with_reducible refine (quant_Of.calls t110 (Int.tmod (wrap64 ((Int.tmod a3 7) + 7)) 7) t111 _ A19.out).mono ?_); rintro e w37 ⟨rfl, hb⟩; have n0_ := Aside0.mk (below_step (by repeat (first | (with_reducible first | exact HB.out | apply below_alloc | apply pw_below_drewN | apply below_drew1) | exact HB.out)) hb); clear HB; have HB := n0_; clear n0_; (try clear hb); (try clear hb2); (try clear hk); (try clear hi)))
                  go_ret
                  exact ⟨by first | rfl | (simp [errW_none, errW_some] <;> rfl) | (simp only [← hji7, ← hji9]; first | rfl | (simp [errW_none, errW_some] <;> rfl)) | (simp [*, errW_none, errW_some] <;> rfl), by repeat (first | (with_reducible first | exact HB.out | apply below_alloc | apply pw_below_drewN | apply below_drew1) | exact HB.out)⟩
              · rw [if_neg c21] at H
                have c21b0 : decide ((wrap64 (2 * (wrap64 (t109 - (Int.tmod a0 1000000000000001))))) ≤ ji9) = false := decide_eq_false c21
                clear c21
                obtain rfl := Option.some.inj H
                go_wp2_with (first | (go_at_call 23; (with_reducible refine (quant_Back.calls (Int.tmod a2 900000000) (Int.tmod (wrap64 ((Int.tmod a3 7) + 7)) 7) t110 _ A18.out).mono ?_); rintro e w38 ⟨rfl, hb⟩; have n0_ := Aside0.mk (below_step (by repeat (first | (with_reducible first | exact HB.out | apply below_alloc | apply pw_below_drewN | apply below_drew1) | exact HB.out)) hb); clear HB; have HB := n0_; clear n0_; (try clear hb); (try clear hb2); (try clear hk); (try clear hi)) | (go_at_call 22; (with_reducible refine (quant_Of.calls t110 (Int.tmod (wrap64 ((Int.tmod a3 7) + 7)) 7) t111 _ A19.out).mono ?_); rintro e w39 ⟨rfl, hb⟩; have n0_ := Aside0.mk (below_step (by repeat (first | (with_reducible first | exact HB.out | apply below_alloc | apply pw_below_drewN | apply below_drew1) | exact HB.out)) hb); clear HB; have HB := n0_; clear n0_; (try clear hb); (try clear hb2); (try clear hk); (try clear hi)))
                go_ret
                exact ⟨by first | rfl | (simp [errW_none, errW_some] <;> rfl) | (simp only [← hji7, ← hji9]; first | rfl | (simp [errW_none, errW_some] <;> rfl)) | (simp [*, errW_none, errW_some] <;> rfl), by repeat (first | (with_reducible first | exact HB.out | apply below_alloc | apply pw_below_drewN | apply below_drew1) | exact HB.out)⟩
            · rw [if_neg c20] at H
              have c20b0 : (t111 == (Int.tmod a2 900000000)) = false := beq_eq_false_iff_ne.mpr c20
              have c20b1 : (t111 != (Int.tmod a2 900000000)) = true := bne_iff_ne.mpr c20
              obtain rfl := Option.some.inj H
              go_wp2_with (first | (go_at_call 23; (with_reducible refine (quant_Back.calls (Int.tmod a2 900000000) (Int.tmod (wrap64 ((Int.tmod a3 7) + 7)) 7) t110 _ A18.out).mono ?_); rintro e w40 ⟨rfl, hb⟩; have n0_ := Aside0.mk (below_step (by repeat (first | (with_reducible first | exact HB.out | apply below_alloc | apply pw_below_drewN | apply below_drew1) | exact HB.out)) hb); clear HB; have HB := n0_; clear n0_; (try clear hb); (try clear hb2); (try clear hk); (try clear hi)) | (go_at_call 22; (with_reducible refine (quant_Of.calls t110 (Int.tmod (wrap64 ((Int.tmod a3 7) + 7)) 7) t111 _ A19.out).mono ?_); rintro e w41 ⟨rfl, hb⟩; have n0_ := Aside0.mk (below_step (by repeat (first | (with_reducible first | exact HB.out | apply below_alloc | apply pw_below_drewN | apply below_drew1) | exact HB.out)) hb); clear HB; have HB := n0_; clear n0_; (try clear hb); (try clear hb2); (try clear hk); (try clear hi)))
              go_ret
              exact ⟨by first | rfl | (simp [errW_none, errW_some] <;> rfl) | (simp only [← hji7, ← hji9]; first | rfl | (simp [errW_none, errW_some] <;> rfl)) | (simp [*, errW_none, errW_some] <;> rfl), by repeat (first | (with_reducible first | exact HB.out | apply below_alloc | apply pw_below_drewN | apply below_drew1) | exact HB.out)⟩
          · exact absurd rfl c17
    · rw [if_neg c8] at H
      exact absurd H (by simp)
  · replace c6 := Bool.eq_false_iff.mpr c6
    subst c6
    have H1 : (some false) = some r := by rw [if_neg (show ¬ (false = true) by decide)] at H; exact H
    clear H
    have H := H1
    clear H1
    obtain rfl := Option.some.inj H
    go_enter Try.func3, Try.ntmps3
    go_wp2_with (first | ((with_reducible refine gate_callee (f := 21) rfl ?_); refine goesL_ (some 13) rfl rfl Try.func21 (by kernel_rfl) rfl #[] rfl (by (try simp only [List.map_toArray, List.map_cons, List.map_nil]); first | done | rfl | (simp only [List.length_drop, List.length_take]; rfl)) ?_; (with_reducible refine (glyphiclaw15_first.calls  false _ A5.out).mono ?_); rintro e w42 ⟨rfl, hb⟩; refine ⟨_, rfl, ?_⟩; have n0_ := Aside0.mk (below_step (by repeat (first | (with_reducible first | exact HB.out | apply below_alloc | apply pw_below_drewN | apply below_drew1) | exact HB.out)) hb); clear HB; have HB := n0_; clear n0_; (try clear hb); (try clear hb2); (try clear hk); (try clear hi)))
    go_ret
    exact ⟨by first | rfl | (simp [errW_none, errW_some] <;> rfl) | (simp [*, errW_none, errW_some] <;> rfl), by repeat (first | (with_reducible first | exact HB.out | apply below_alloc | apply pw_below_drewN | apply below_drew1) | exact HB.out)⟩

/-- THE ONE PURE STATEMENT of glyphiclaw15_QuantBack: yours. -/
def glyphiclaw15_QuantBack.Pure : Prop := ∀ (a0 : Int) (a1 : Int) (a2 : Int) (a3 : Int), (Lit.int .i64 a0).wf = true → (Lit.int .i64 a1).wf = true → (Lit.int .i64 a2).wf = true → (Lit.int .i64 a3).wf = true → ∃ k, glyphiclaw15_QuantBack.f k a0 a1 a2 a3 = some true
theorem glyphiclaw15_QuantBack.walk (P : glyphiclaw15_QuantBack.Pure) (a0 : Int) (a1 : Int) (a2 : Int) (a3 : Int) (w : World) (w0 : (Lit.int .i64 a0).wf = true) (w1 : (Lit.int .i64 a1).wf = true) (w2 : (Lit.int .i64 a2).wf = true) (w3 : (Lit.int .i64 a3).wf = true) :
    Calls Try.prog 3 #[.int .i64 a0, .int .i64 a1, .int .i64 a2, .int .i64 a3] w fun e w' => e = .returned (.bool true) ∧ Below w.heap.size w w' := by
  obtain ⟨k, h⟩ := P a0 a1 a2 a3 w0 w1 w2 w3
  refine (glyphiclaw15_QuantBack.calls k a0 a1 a2 a3 true w h).mono ?_
  rintro e w' ⟨rfl, hd⟩
  exact ⟨rfl, hd⟩

end Go.Proofs.Ytgaikembekkfiaa.MQuantBack
