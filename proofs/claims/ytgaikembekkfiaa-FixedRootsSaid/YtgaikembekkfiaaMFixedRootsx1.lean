/- The functions that FixedRoots reaches, each as a Lean function with its walk. Written by a program (fix.py) after a print. -/
import Derived.Test.YtgaikembekkfiaaMFixedRootsx0
namespace Go.Proofs.Ytgaikembekkfiaa.MFixedRoots
open Go.RowKit Go.Proofs.YtgaikembekkfiaaW.PrintWords Go.Proofs.YtgaikembekkfiaaW.PrintLast Go.Proofs.YtgaikembekkfiaaW.PrintMore
attribute [local go_sem] max2_int min2_int max_two min_two max_three min_three max_four min_four   -- for this text's walks alone
set_option linter.unusedVariables false
set_option linter.unusedSimpArgs false

/-! ### fixed_Down: function 31 -/
def fixed_Down.f (a0 : Int) (a1 : Int) : Option (Int) := if a1 < 1 then (some 0) else (if a1 = 0 then (none) else (if (Int.tmod a0 a1) < 0 then (some (wrap64 ((wrap64 (Int.tdiv a0 a1)) - 1))) else (some (wrap64 (Int.tdiv a0 a1)))))
set_option maxHeartbeats 8000000 in
set_option maxRecDepth 100000 in
theorem fixed_Down.calls (a0 : Int) (a1 : Int) (r : Int) (w : World) (h : fixed_Down.f a0 a1 = some r) :
    Calls Try.prog 31 #[.int .i64 a0, .int .i64 a1] w fun e w' => e = .returned (.int .i64 r) ∧ Drawn0 w w' := by
  have H : (if a1 < 1 then (some 0) else (if a1 = 0 then (none) else (if (Int.tmod a0 a1) < 0 then (some (wrap64 ((wrap64 (Int.tdiv a0 a1)) - 1))) else (some (wrap64 (Int.tdiv a0 a1)))))) = some r := h
  clear h
  by_cases c3 : a1 < 1
  · rw [if_pos c3] at H
    have c3b0 : decide (a1 < 1) = true := decide_eq_true c3
    clear c3
    obtain rfl := Option.some.inj H
    go_enter Try.func31, Try.ntmps31
    go_wp2
    go_ret
    exact ⟨by first | rfl | (simp; done) | (simp [*]; done), by repeat (first | exact Drawn0.refl _ | apply Drawn0.step)⟩
  · rw [if_neg c3] at H
    have c3b0 : decide (a1 < 1) = false := decide_eq_false c3
    clear c3
    by_cases c4 : a1 = 0
    · rw [if_pos c4] at H
      exact absurd H (by simp)
    · rw [if_neg c4] at H
      have c4b0 : (a1 == 0) = false := beq_eq_false_iff_ne.mpr c4
      have c4b1 : (a1 != 0) = true := bne_iff_ne.mpr c4
      by_cases c5 : (Int.tmod a0 a1) < 0
      · rw [if_pos c5] at H
        have c5b0 : decide ((Int.tmod a0 a1) < 0) = true := decide_eq_true c5
        clear c5
        obtain rfl := Option.some.inj H
        go_enter Try.func31, Try.ntmps31
        go_wp2
        go_ret
        exact ⟨by first | rfl | (simp; done) | (simp [*]; done), by repeat (first | exact Drawn0.refl _ | apply Drawn0.step)⟩
      · rw [if_neg c5] at H
        have c5b0 : decide ((Int.tmod a0 a1) < 0) = false := decide_eq_false c5
        clear c5
        obtain rfl := Option.some.inj H
        go_enter Try.func31, Try.ntmps31
        go_wp2
        go_ret
        exact ⟨by first | rfl | (simp; done) | (simp [*]; done), by repeat (first | exact Drawn0.refl _ | apply Drawn0.step)⟩

/-! ### fixed_Round: function 30 -/
def fixed_Round.f (a0 : Int) (a1 : Int) : Option (Int) := if a1 < 1 then (some 0) else ((fixed_Down.f a0 a1).bind fun t101 => (if (wrap64 (a0 - (wrap64 (t101 * a1)))) ≥ (wrap64 (a1 - (wrap64 (a0 - (wrap64 (t101 * a1)))))) then (some (wrap64 (t101 + 1))) else (some t101)))
set_option maxHeartbeats 8000000 in
set_option maxRecDepth 100000 in
theorem fixed_Round.calls (a0 : Int) (a1 : Int) (r : Int) (w : World) (h : fixed_Round.f a0 a1 = some r) :
    Calls Try.prog 30 #[.int .i64 a0, .int .i64 a1] w fun e w' => e = .returned (.int .i64 r) ∧ Drawn0 w w' := by
  have H : (if a1 < 1 then (some 0) else ((fixed_Down.f a0 a1).bind fun t101 => (if (wrap64 (a0 - (wrap64 (t101 * a1)))) ≥ (wrap64 (a1 - (wrap64 (a0 - (wrap64 (t101 * a1)))))) then (some (wrap64 (t101 + 1))) else (some t101)))) = some r := h
  clear h
  by_cases c3 : a1 < 1
  · rw [if_pos c3] at H
    have c3b0 : decide (a1 < 1) = true := decide_eq_true c3
    clear c3
    obtain rfl := Option.some.inj H
    go_enter Try.func30, Try.ntmps30
    go_wp2
    go_ret
    exact ⟨by first | rfl | (simp; done) | (simp [*]; done), by repeat (first | exact Drawn0.refl _ | apply Drawn0.step)⟩
  · rw [if_neg c3] at H
    have c3b0 : decide (a1 < 1) = false := decide_eq_false c3
    clear c3
    replace H := Option.bind_eq_some_iff.mp H
    obtain ⟨t101, A40, H⟩ := H
    replace H : (if (wrap64 (a0 - (wrap64 (t101 * a1)))) ≥ (wrap64 (a1 - (wrap64 (a0 - (wrap64 (t101 * a1)))))) then (some (wrap64 (t101 + 1))) else (some t101)) = some r := H
    have A4 := Aside0.mk A40
    clear A40
    by_cases c5 : (wrap64 (a0 - (wrap64 (t101 * a1)))) ≥ (wrap64 (a1 - (wrap64 (a0 - (wrap64 (t101 * a1))))))
    · rw [if_pos c5] at H
      have c5b0 : decide ((wrap64 (a1 - (wrap64 (a0 - (wrap64 (t101 * a1)))))) ≤ (wrap64 (a0 - (wrap64 (t101 * a1))))) = true := decide_eq_true c5
      clear c5
      obtain rfl := Option.some.inj H
      go_enter Try.func30, Try.ntmps30
      go_wp2_with (first | ((with_reducible refine gate_callee (f := 31) rfl ?_); refine goesL_ (some 11) rfl rfl Try.func31 (by kernel_rfl) rfl #[.int .i64 a0, .int .i64 a1] rfl (by (try simp only [List.map_toArray, List.map_cons, List.map_nil]); first | done | rfl | (simp only [List.length_drop, List.length_take]; rfl)) ?_; (with_reducible refine (fixed_Down.calls a0 a1 t101 _ A4.out).mono ?_); rintro e w' ⟨rfl, ⟨nd, rfl⟩⟩; refine ⟨_, rfl, ?_⟩))
      go_ret
      exact ⟨by first | rfl | (simp; done) | (simp [*]; done), by repeat (first | exact Drawn0.refl _ | apply Drawn0.step)⟩
    · rw [if_neg c5] at H
      have c5b0 : decide ((wrap64 (a1 - (wrap64 (a0 - (wrap64 (t101 * a1)))))) ≤ (wrap64 (a0 - (wrap64 (t101 * a1))))) = false := decide_eq_false c5
      clear c5
      obtain rfl := Option.some.inj H
      go_enter Try.func30, Try.ntmps30
      go_wp2_with (first | ((with_reducible refine gate_callee (f := 31) rfl ?_); refine goesL_ (some 11) rfl rfl Try.func31 (by kernel_rfl) rfl #[.int .i64 a0, .int .i64 a1] rfl (by (try simp only [List.map_toArray, List.map_cons, List.map_nil]); first | done | rfl | (simp only [List.length_drop, List.length_take]; rfl)) ?_; (with_reducible refine (fixed_Down.calls a0 a1 t101 _ A4.out).mono ?_); rintro e w' ⟨rfl, ⟨nd, rfl⟩⟩; refine ⟨_, rfl, ?_⟩))
      go_ret
      exact ⟨by first | rfl | (simp; done) | (simp [*]; done), by repeat (first | exact Drawn0.refl _ | apply Drawn0.step)⟩

/-! ### fixed_Sqrt: function 32 -/
def fixed_Sqrt.l0 : Nat → Int → Int → Int → Option (Int)
  | 0, _, _, _ => none
  | k + 1, x0, x3, x4 => if (wrap64 (x4 - x3)) > 1 then (if (wrap64 (x3 + (wrap64 (Int.tdiv (wrap64 (x4 - x3)) 2)))) = 0 then (none) else (if (wrap64 (x3 + (wrap64 (Int.tdiv (wrap64 (x4 - x3)) 2)))) ≤ (wrap64 (Int.tdiv x0 (wrap64 (x3 + (wrap64 (Int.tdiv (wrap64 (x4 - x3)) 2)))))) then (fixed_Sqrt.l0 k x0 (wrap64 (x3 + (wrap64 (Int.tdiv (wrap64 (x4 - x3)) 2)))) x4) else (fixed_Sqrt.l0 k x0 x3 (wrap64 (x3 + (wrap64 (Int.tdiv (wrap64 (x4 - x3)) 2))))))) else (some x3)
def fixed_Sqrt.f (k : Nat) (a0 : Int) : Option (Int) := if a0 < 1 then (some 0) else (fixed_Sqrt.l0 k a0 0 4294967296)
theorem fixed_Sqrt.mono_l : ∀ k, (∀ y0 y1 y2, LeO (fixed_Sqrt.l0 k y0 y1 y2) (fixed_Sqrt.l0 (k + 1) y0 y1 y2))
  | 0 => fun _ _ _ r h => by simp [fixed_Sqrt.l0] at h
  | k + 1 => by
    have ih0 := fixed_Sqrt.mono_l k
    · intro y0 y1 y2
      unfold fixed_Sqrt.l0
      repeat' first
      | (with_reducible exact ih0 _ _ _)
      | (with_reducible exact LeO.refl _)
      | (with_reducible exact LeO.none _)
      | (with_reducible refine LeO.ite ?_ ?_)
      | (with_reducible refine LeO.bind ?_ (fun _ => ?_))
      | exact ih0 _ _ _
      | exact LeO.none _
      | refine LeO.ite ?_ ?_
      | refine LeO.bind ?_ (fun _ => ?_)
theorem fixed_Sqrt.mono : ∀ a0 k, LeO (fixed_Sqrt.f k a0) (fixed_Sqrt.f (k + 1) a0) := by
  intro a0 k
  have ih0 := fixed_Sqrt.mono_l k
  unfold fixed_Sqrt.f
  repeat' first
      | (with_reducible exact ih0 _ _ _)
      | (with_reducible exact LeO.refl _)
      | (with_reducible exact LeO.none _)
      | (with_reducible refine LeO.ite ?_ ?_)
      | (with_reducible refine LeO.bind ?_ (fun _ => ?_))
      | exact ih0 _ _ _
      | exact LeO.none _
      | refine LeO.ite ?_ ?_
      | refine LeO.bind ?_ (fun _ => ?_)
set_option maxHeartbeats 8000000 in
set_option maxRecDepth 100000 in
theorem fixed_Sqrt.calls (k : Nat) (a0 : Int) (r : Int) (w : World) (h : fixed_Sqrt.f k a0 = some r) :
    Calls Try.prog 32 #[.int .i64 a0] w fun e w' => e = .returned (.int .i64 r) ∧ Drawn0 w w' := by
  have H : (if a0 < 1 then (some 0) else (fixed_Sqrt.l0 k a0 0 4294967296)) = some r := h
  clear h
  by_cases c2 : a0 < 1
  · rw [if_pos c2] at H
    have c2b0 : decide (a0 < 1) = true := decide_eq_true c2
    clear c2
    obtain rfl := Option.some.inj H
    go_enter Try.func32, Try.ntmps32
    go_wp2
    go_ret
    exact ⟨by first | rfl | (simp; done) | (simp [*]; done), by repeat (first | exact Drawn0.refl _ | apply Drawn0.step)⟩
  · rw [if_neg c2] at H
    have c2b0 : decide (a0 < 1) = false := decide_eq_false c2
    clear c2
    have H' := Aside0.mk H
    clear H
    go_enter Try.func32, Try.ntmps32
    go_wp2
    go_loopg [3, 4] k (fun kq v3 v4 w' => ∃ (x3_1 : Int) (x4_1 : Int), v3 = .int .i64 x3_1 ∧ v4 = .int .i64 x4_1 ∧ Aside0 (fixed_Sqrt.l0 kq a0 x3_1 x4_1 = some r) ∧ Aside0 (kq ≤ k) ∧ Drawn0 w w')
    case atStart => exact ⟨(0), (4294967296), (by first | rfl | (simp; done) | (simp [*]; done)), (by first | rfl | (simp; done) | (simp [*]; done)), H', ⟨Nat.le_refl _⟩, by repeat (first | exact Drawn0.refl _ | apply Drawn0.step)⟩
    case round =>
      clear H'
      try clear c2
      try clear c2b0
      try clear p2
      obtain ⟨x3_1, x4_1, rfl, rfl, HA, HK1, ⟨m1, rfl⟩⟩ := hrel
      cases gk with
      | zero => exact absurd HA.out (by simp [fixed_Sqrt.l0])
      | succ k1 =>
        have H := HA.out
        clear HA
        simp only [fixed_Sqrt.l0] at H
        by_cases c3 : (wrap64 (x4_1 - x3_1)) > 1
        · rw [if_pos c3] at H
          have c3b0 : decide (1 < (wrap64 (x4_1 - x3_1))) = true := decide_eq_true c3
          clear c3
          by_cases c4 : (wrap64 (x3_1 + (wrap64 (Int.tdiv (wrap64 (x4_1 - x3_1)) 2)))) = 0
          · rw [if_pos c4] at H
            exact absurd H (by simp)
          · rw [if_neg c4] at H
            have c4b0 : ((wrap64 (x3_1 + (wrap64 (Int.tdiv (wrap64 (x4_1 - x3_1)) 2)))) == 0) = false := beq_eq_false_iff_ne.mpr c4
            have c4b1 : ((wrap64 (x3_1 + (wrap64 (Int.tdiv (wrap64 (x4_1 - x3_1)) 2)))) != 0) = true := bne_iff_ne.mpr c4
            by_cases c5 : (wrap64 (x3_1 + (wrap64 (Int.tdiv (wrap64 (x4_1 - x3_1)) 2)))) ≤ (wrap64 (Int.tdiv a0 (wrap64 (x3_1 + (wrap64 (Int.tdiv (wrap64 (x4_1 - x3_1)) 2))))))
            · rw [if_pos c5] at H
              have c5b0 : decide ((wrap64 (x3_1 + (wrap64 (Int.tdiv (wrap64 (x4_1 - x3_1)) 2)))) ≤ (wrap64 (Int.tdiv a0 (wrap64 (x3_1 + (wrap64 (Int.tdiv (wrap64 (x4_1 - x3_1)) 2))))))) = true := decide_eq_true c5
              clear c5
              have H' := Aside0.mk H
              clear H
              go_wp2
              go_roundg k1
              case measure => have := HK1.out; omega
              case rel => exact ⟨(wrap64 (x3_1 + (wrap64 (Int.tdiv (wrap64 (x4_1 - x3_1)) 2)))), (x4_1), (by first | rfl | (simp; done) | (simp [*]; done)), (by first | rfl | (simp; done) | (simp [*]; done)), H', ⟨by have := HK1.out; omega⟩, by repeat (first | exact Drawn0.refl _ | apply Drawn0.step)⟩
            · rw [if_neg c5] at H
              have c5b0 : decide ((wrap64 (x3_1 + (wrap64 (Int.tdiv (wrap64 (x4_1 - x3_1)) 2)))) ≤ (wrap64 (Int.tdiv a0 (wrap64 (x3_1 + (wrap64 (Int.tdiv (wrap64 (x4_1 - x3_1)) 2))))))) = false := decide_eq_false c5
              clear c5
              have H' := Aside0.mk H
              clear H
              go_wp2
              go_roundg k1
              case measure => have := HK1.out; omega
              case rel => exact ⟨(x3_1), (wrap64 (x3_1 + (wrap64 (Int.tdiv (wrap64 (x4_1 - x3_1)) 2)))), (by first | rfl | (simp; done) | (simp [*]; done)), (by first | rfl | (simp; done) | (simp [*]; done)), H', ⟨by have := HK1.out; omega⟩, by repeat (first | exact Drawn0.refl _ | apply Drawn0.step)⟩
        · rw [if_neg c3] at H
          have c3b0 : decide (1 < (wrap64 (x4_1 - x3_1))) = false := decide_eq_false c3
          clear c3
          obtain rfl := Option.some.inj H
          go_wp2
          go_ret
          exact ⟨by first | rfl | (simp; done) | (simp [*]; done), by repeat (first | exact Drawn0.refl _ | apply Drawn0.step)⟩

/-! ### glyphiclaw1_first: function 29 -/
def glyphiclaw1_first.f (k : Nat)  : Option (Bool) := (fixed_Round.f (-1) 2).bind fun t102 => (if t102 = 0 then ((fixed_Round.f 3 2).bind fun t103 => (if t103 = 2 then ((fixed_Sqrt.f k 17).bind fun t104 => (some (t104 == 4))) else (some false))) else (some false))
theorem glyphiclaw1_first.mono : ∀ k, LeO (glyphiclaw1_first.f k ) (glyphiclaw1_first.f (k + 1) ) := by
  intro  k
  unfold glyphiclaw1_first.f
  repeat' first
      | (with_reducible exact fixed_Sqrt.mono _ _)
      | (with_reducible exact LeO.refl _)
      | (with_reducible exact LeO.none _)
      | (with_reducible refine LeO.ite ?_ ?_)
      | (with_reducible refine LeO.bind ?_ (fun _ => ?_))
      | exact fixed_Sqrt.mono _ _
      | exact LeO.none _
      | refine LeO.ite ?_ ?_
      | refine LeO.bind ?_ (fun _ => ?_)
set_option maxHeartbeats 8000000 in
set_option maxRecDepth 100000 in
theorem glyphiclaw1_first.calls (k : Nat)  (r : Bool) (w : World) (h : glyphiclaw1_first.f k  = some r) :
    Calls Try.prog 29 #[] w fun e w' => e = .returned (.bool r) ∧ Drawn0 w w' := by
  have H : ((fixed_Round.f (-1) 2).bind fun t102 => (if t102 = 0 then ((fixed_Round.f 3 2).bind fun t103 => (if t103 = 2 then ((fixed_Sqrt.f k 17).bind fun t104 => (some (t104 == 4))) else (some false))) else (some false))) = some r := h
  clear h
  replace H := Option.bind_eq_some_iff.mp H
  obtain ⟨t102, A10, H⟩ := H
  replace H : (if t102 = 0 then ((fixed_Round.f 3 2).bind fun t103 => (if t103 = 2 then ((fixed_Sqrt.f k 17).bind fun t104 => (some (t104 == 4))) else (some false))) else (some false)) = some r := H
  have A1 := Aside0.mk A10
  clear A10
  by_cases c2 : t102 = 0
  · rw [if_pos c2] at H
    have c2b0 : (t102 == 0) = true := beq_iff_eq.mpr c2
    have c2b1 : (t102 != 0) = false := bne_eq_false_iff_eq.mpr c2
    clear c2
    replace H := Option.bind_eq_some_iff.mp H
    obtain ⟨t103, A30, H⟩ := H
    replace H : (if t103 = 2 then ((fixed_Sqrt.f k 17).bind fun t104 => (some (t104 == 4))) else (some false)) = some r := H
    have A3 := Aside0.mk A30
    clear A30
    by_cases c4 : t103 = 2
    · rw [if_pos c4] at H
      have c4b0 : (t103 == 2) = true := beq_iff_eq.mpr c4
      have c4b1 : (t103 != 2) = false := bne_eq_false_iff_eq.mpr c4
      clear c4
      replace H := Option.bind_eq_some_iff.mp H
      obtain ⟨t104, A50, H⟩ := H
      replace H : (some (t104 == 4)) = some r := H
      have A5 := Aside0.mk A50
      clear A50
      obtain rfl := Option.some.inj H
      go_enter Try.func29, Try.ntmps29
      go_wp2_with (first | ((with_reducible refine gate_callee (f := 30) rfl ?_); refine goesL_ (some 1) rfl rfl Try.func30 (by kernel_rfl) rfl #[.int .i64 (-1), .int .i64 2] rfl (by (try simp only [List.map_toArray, List.map_cons, List.map_nil]); first | done | rfl | (simp only [List.length_drop, List.length_take]; rfl)) ?_; (with_reducible refine (fixed_Round.calls (-1) 2 t102 _ A1.out).mono ?_); rintro e w' ⟨rfl, ⟨nd, rfl⟩⟩; refine ⟨_, rfl, ?_⟩) | (go_at_call 30; (with_reducible refine (fixed_Round.calls 3 2 t103 _ A3.out).mono ?_); rintro e w' ⟨rfl, ⟨nd, rfl⟩⟩) | (go_at_call 32; (with_reducible refine (fixed_Sqrt.calls k 17 t104 _ A5.out).mono ?_); rintro e w' ⟨rfl, ⟨nd, rfl⟩⟩))
      go_ret
      exact ⟨by first | rfl | (simp; done) | (simp [*]; done), by repeat (first | exact Drawn0.refl _ | apply Drawn0.step)⟩
    · rw [if_neg c4] at H
      have c4b0 : (t103 == 2) = false := beq_eq_false_iff_ne.mpr c4
      have c4b1 : (t103 != 2) = true := bne_iff_ne.mpr c4
      obtain rfl := Option.some.inj H
      go_enter Try.func29, Try.ntmps29
      go_wp2_with (first | ((with_reducible refine gate_callee (f := 30) rfl ?_); refine goesL_ (some 1) rfl rfl Try.func30 (by kernel_rfl) rfl #[.int .i64 (-1), .int .i64 2] rfl (by (try simp only [List.map_toArray, List.map_cons, List.map_nil]); first | done | rfl | (simp only [List.length_drop, List.length_take]; rfl)) ?_; (with_reducible refine (fixed_Round.calls (-1) 2 t102 _ A1.out).mono ?_); rintro e w' ⟨rfl, ⟨nd, rfl⟩⟩; refine ⟨_, rfl, ?_⟩) | (go_at_call 30; (with_reducible refine (fixed_Round.calls 3 2 t103 _ A3.out).mono ?_); rintro e w' ⟨rfl, ⟨nd, rfl⟩⟩))
      go_ret
      exact ⟨by first | rfl | (simp; done) | (simp [*]; done), by repeat (first | exact Drawn0.refl _ | apply Drawn0.step)⟩
  · rw [if_neg c2] at H
    have c2b0 : (t102 == 0) = false := beq_eq_false_iff_ne.mpr c2
    have c2b1 : (t102 != 0) = true := bne_iff_ne.mpr c2
    obtain rfl := Option.some.inj H
    go_enter Try.func29, Try.ntmps29
    go_wp2_with (first | ((with_reducible refine gate_callee (f := 30) rfl ?_); refine goesL_ (some 1) rfl rfl Try.func30 (by kernel_rfl) rfl #[.int .i64 (-1), .int .i64 2] rfl (by (try simp only [List.map_toArray, List.map_cons, List.map_nil]); first | done | rfl | (simp only [List.length_drop, List.length_take]; rfl)) ?_; (with_reducible refine (fixed_Round.calls (-1) 2 t102 _ A1.out).mono ?_); rintro e w' ⟨rfl, ⟨nd, rfl⟩⟩; refine ⟨_, rfl, ?_⟩))
    go_ret
    exact ⟨by first | rfl | (simp; done) | (simp [*]; done), by repeat (first | exact Drawn0.refl _ | apply Drawn0.step)⟩

/-! ### glyphiclaw1_FixedRoots: function 8 -/
mutual
def glyphiclaw1_FixedRoots.j0 : Nat → Int → Int → Bool → Option (Bool)
  | 0, _, _, _ => none
  | k + 1, x0, x1, x5 => (fixed_Sqrt.f k x0).bind fun t107 => (if t107 < 0 then (glyphiclaw1_FixedRoots.j1 k x0 (Int.tmod x1 3037000499) x5 t107 true) else (if t107 > 3037000499 then (glyphiclaw1_FixedRoots.j1 k x0 (Int.tmod x1 3037000499) x5 t107 true) else (glyphiclaw1_FixedRoots.j1 k x0 (Int.tmod x1 3037000499) x5 t107 (decide ((wrap64 (t107 * t107)) > x0)))))
def glyphiclaw1_FixedRoots.j1 : Nat → Int → Int → Bool → Int → Bool → Option (Bool)
  | 0, _, _, _, _, _ => none
  | k + 1, x0, x1, x5, x6, x39 => if x39 = true then (some false) else (if x6 < 3037000499 then (glyphiclaw1_FixedRoots.j2 k x1 x5 (decide ((wrap64 ((wrap64 (x6 + 1)) * (wrap64 (x6 + 1)))) ≤ x0))) else (glyphiclaw1_FixedRoots.j2 k x1 x5 false))
def glyphiclaw1_FixedRoots.j2 : Nat → Int → Bool → Bool → Option (Bool)
  | 0, _, _, _ => none
  | k + 1, x1, x5, x50 => if x50 = true then (some false) else (if x5 = true then ((fixed_Sqrt.f k (wrap64 (x1 * x1))).bind fun t108 => (if t108 = x1 then (if x1 = 0 then ((fixed_Sqrt.f k (wrap64 ((wrap64 (x1 * x1)) + x1))).bind fun t109 => (some (t109 == x1))) else ((fixed_Sqrt.f k (wrap64 ((wrap64 (x1 * x1)) - 1))).bind fun t110 => (if t110 = (wrap64 (x1 - 1)) then ((fixed_Sqrt.f k (wrap64 ((wrap64 (x1 * x1)) + x1))).bind fun t111 => (some (t111 == x1))) else (some false)))) else (some false))) else (some false))
end
def glyphiclaw1_FixedRoots.f (k : Nat) (a0 : Int) (a1 : Int) : Option (Bool) := (glyphiclaw1_first.f k).bind fun t105 => (if t105 = true then (if a0 < 0 then ((fixed_Sqrt.f k a0).bind fun t106 => (some (t106 == 0))) else (if a1 < 0 then (glyphiclaw1_FixedRoots.j0 k a0 (wrap64 (-(wrap64 (a1 + 1)))) t105) else (glyphiclaw1_FixedRoots.j0 k a0 a1 t105))) else (some false))
theorem glyphiclaw1_FixedRoots.mono_l : ∀ k, (∀ y0 y1 y2, LeO (glyphiclaw1_FixedRoots.j0 k y0 y1 y2) (glyphiclaw1_FixedRoots.j0 (k + 1) y0 y1 y2)) ∧ (∀ y0 y1 y2 y3 y4, LeO (glyphiclaw1_FixedRoots.j1 k y0 y1 y2 y3 y4) (glyphiclaw1_FixedRoots.j1 (k + 1) y0 y1 y2 y3 y4)) ∧ (∀ y0 y1 y2, LeO (glyphiclaw1_FixedRoots.j2 k y0 y1 y2) (glyphiclaw1_FixedRoots.j2 (k + 1) y0 y1 y2))
  | 0 => ⟨fun _ _ _ r h => by simp [glyphiclaw1_FixedRoots.j0] at h, fun _ _ _ _ _ r h => by simp [glyphiclaw1_FixedRoots.j1] at h, fun _ _ _ r h => by simp [glyphiclaw1_FixedRoots.j2] at h⟩
  | k + 1 => by
    obtain ⟨ih0, ih1, ih2⟩ := glyphiclaw1_FixedRoots.mono_l k
    refine ⟨?_, ?_, ?_⟩
    · intro y0 y1 y2
      unfold glyphiclaw1_FixedRoots.j0
      repeat' first
      | (with_reducible exact ih0 _ _ _)
      | (with_reducible exact ih1 _ _ _ _ _)
      | (with_reducible exact ih2 _ _ _)
      | (with_reducible exact fixed_Sqrt.mono _ _)
      | (with_reducible exact glyphiclaw1_first.mono _)
      | (with_reducible exact LeO.refl _)
      | (with_reducible exact LeO.none _)
      | (with_reducible refine LeO.ite ?_ ?_)
      | (with_reducible refine LeO.bind ?_ (fun _ => ?_))
      | exact ih0 _ _ _
      | exact ih1 _ _ _ _ _
      | exact ih2 _ _ _
      | exact fixed_Sqrt.mono _ _
      | exact glyphiclaw1_first.mono _
      | exact LeO.none _
      | refine LeO.ite ?_ ?_
      | refine LeO.bind ?_ (fun _ => ?_)
    · intro y0 y1 y2 y3 y4
      unfold glyphiclaw1_FixedRoots.j1
      repeat' first
      | (with_reducible exact ih0 _ _ _)
      | (with_reducible exact ih1 _ _ _ _ _)
      | (with_reducible exact ih2 _ _ _)
      | (with_reducible exact fixed_Sqrt.mono _ _)
      | (with_reducible exact glyphiclaw1_first.mono _)
      | (with_reducible exact LeO.refl _)
      | (with_reducible exact LeO.none _)
      | (with_reducible refine LeO.ite ?_ ?_)
      | (with_reducible refine LeO.bind ?_ (fun _ => ?_))
      | exact ih0 _ _ _
      | exact ih1 _ _ _ _ _
      | exact ih2 _ _ _
      | exact fixed_Sqrt.mono _ _
      | exact glyphiclaw1_first.mono _
      | exact LeO.none _
      | refine LeO.ite ?_ ?_
      | refine LeO.bind ?_ (fun _ => ?_)
    · intro y0 y1 y2
      unfold glyphiclaw1_FixedRoots.j2
      repeat' first
      | (with_reducible exact ih0 _ _ _)
      | (with_reducible exact ih1 _ _ _ _ _)
      | (with_reducible exact ih2 _ _ _)
      | (with_reducible exact fixed_Sqrt.mono _ _)
      | (with_reducible exact glyphiclaw1_first.mono _)
      | (with_reducible exact LeO.refl _)
      | (with_reducible exact LeO.none _)
      | (with_reducible refine LeO.ite ?_ ?_)
      | (with_reducible refine LeO.bind ?_ (fun _ => ?_))
      | exact ih0 _ _ _
      | exact ih1 _ _ _ _ _
      | exact ih2 _ _ _
      | exact fixed_Sqrt.mono _ _
      | exact glyphiclaw1_first.mono _
      | exact LeO.none _
      | refine LeO.ite ?_ ?_
      | refine LeO.bind ?_ (fun _ => ?_)
theorem glyphiclaw1_FixedRoots.mono : ∀ a0 a1 k, LeO (glyphiclaw1_FixedRoots.f k a0 a1) (glyphiclaw1_FixedRoots.f (k + 1) a0 a1) := by
  intro a0 a1 k
  obtain ⟨ih0, ih1, ih2⟩ := glyphiclaw1_FixedRoots.mono_l k
  unfold glyphiclaw1_FixedRoots.f
  repeat' first
      | (with_reducible exact ih0 _ _ _)
      | (with_reducible exact ih1 _ _ _ _ _)
      | (with_reducible exact ih2 _ _ _)
      | (with_reducible exact fixed_Sqrt.mono _ _)
      | (with_reducible exact glyphiclaw1_first.mono _)
      | (with_reducible exact LeO.refl _)
      | (with_reducible exact LeO.none _)
      | (with_reducible refine LeO.ite ?_ ?_)
      | (with_reducible refine LeO.bind ?_ (fun _ => ?_))
      | exact ih0 _ _ _
      | exact ih1 _ _ _ _ _
      | exact ih2 _ _ _
      | exact fixed_Sqrt.mono _ _
      | exact glyphiclaw1_first.mono _
      | exact LeO.none _
      | refine LeO.ite ?_ ?_
      | refine LeO.bind ?_ (fun _ => ?_)
set_option maxHeartbeats 8000000 in
set_option maxRecDepth 100000 in
theorem glyphiclaw1_FixedRoots.calls (k : Nat) (a0 : Int) (a1 : Int) (r : Bool) (w : World) (h : glyphiclaw1_FixedRoots.f k a0 a1 = some r) :
    Calls Try.prog 8 #[.int .i64 a0, .int .i64 a1] w fun e w' => e = .returned (.bool r) ∧ Drawn0 w w' := by
  have H : ((glyphiclaw1_first.f k).bind fun t105 => (if t105 = true then (if a0 < 0 then ((fixed_Sqrt.f k a0).bind fun t106 => (some (t106 == 0))) else (if a1 < 0 then (glyphiclaw1_FixedRoots.j0 k a0 (wrap64 (-(wrap64 (a1 + 1)))) t105) else (glyphiclaw1_FixedRoots.j0 k a0 a1 t105))) else (some false))) = some r := h
  clear h
  replace H := Option.bind_eq_some_iff.mp H
  obtain ⟨t105, A30, H⟩ := H
  replace H : (if t105 = true then (if a0 < 0 then ((fixed_Sqrt.f k a0).bind fun t106 => (some (t106 == 0))) else (if a1 < 0 then (glyphiclaw1_FixedRoots.j0 k a0 (wrap64 (-(wrap64 (a1 + 1)))) t105) else (glyphiclaw1_FixedRoots.j0 k a0 a1 t105))) else (some false)) = some r := H
  have A3 := Aside0.mk A30
  clear A30
  by_cases c4 : t105 = true
  · subst c4
    have H1 : (if a0 < 0 then ((fixed_Sqrt.f k a0).bind fun t106 => (some (t106 == 0))) else (if a1 < 0 then (glyphiclaw1_FixedRoots.j0 k a0 (wrap64 (-(wrap64 (a1 + 1)))) true) else (glyphiclaw1_FixedRoots.j0 k a0 a1 true))) = some r := by first | (rw [if_pos rfl] at H; exact H) | (rw [if_pos trivial] at H; exact H) | exact H
    clear H
    have H := H1
    clear H1
    by_cases c5 : a0 < 0
    · rw [if_pos c5] at H
      have c5b0 : decide (a0 < 0) = true := decide_eq_true c5
      clear c5
      replace H := Option.bind_eq_some_iff.mp H
      obtain ⟨t106, A60, H⟩ := H
      replace H : (some (t106 == 0)) = some r := H
      have A6 := Aside0.mk A60
      clear A60
      obtain rfl := Option.some.inj H
      go_enter Try.func8, Try.ntmps8
      go_wp2_with (first | ((with_reducible refine gate_callee (f := 29) rfl ?_); refine goesL_ (some 7) rfl rfl Try.func29 (by kernel_rfl) rfl #[] rfl (by (try simp only [List.map_toArray, List.map_cons, List.map_nil]); first | done | rfl | (simp only [List.length_drop, List.length_take]; rfl)) ?_; (with_reducible refine (glyphiclaw1_first.calls k  true _ A3.out).mono ?_); rintro e w' ⟨rfl, ⟨nd, rfl⟩⟩; refine ⟨_, rfl, ?_⟩) | (go_at_call 32; (with_reducible refine (fixed_Sqrt.calls k a0 t106 _ A6.out).mono ?_); rintro e w' ⟨rfl, ⟨nd, rfl⟩⟩))
      go_ret
      exact ⟨by first | rfl | (simp; done) | (simp [*]; done), by repeat (first | exact Drawn0.refl _ | apply Drawn0.step)⟩
    · rw [if_neg c5] at H
      have c5b0 : decide (a0 < 0) = false := decide_eq_false c5
      clear c5
      have HC7 := Aside0.mk H
      clear H
      go_enter Try.func8, Try.ntmps8
      go_upto_if 19 with (first | ((with_reducible refine gate_callee (f := 29) rfl ?_); refine goesL_ (some 7) rfl rfl Try.func29 (by kernel_rfl) rfl #[] rfl (by (try simp only [List.map_toArray, List.map_cons, List.map_nil]); first | done | rfl | (simp only [List.length_drop, List.length_take]; rfl)) ?_; (with_reducible refine (glyphiclaw1_first.calls k  true _ A3.out).mono ?_); rintro e w' ⟨rfl, ⟨nd, rfl⟩⟩; refine ⟨_, rfl, ?_⟩))
      (try simp only [Act.put, List.setIfInBounds_toArray, List.set_cons_zero, List.set_cons_succ])
      go_cut [1] (fun v1 wc => ∃ (kq : Nat) (x1_6 : Int), v1 = .int .i64 x1_6 ∧ Aside0 (glyphiclaw1_FixedRoots.j0 kq a0 x1_6 true = some r) ∧ Aside0 (kq ≤ k) ∧ Drawn0 w wc)
      case first =>
        have H := HC7.out
        clear HC7
        by_cases c8 : a1 < 0
        · rw [if_pos c8] at H
          have c8b0 : decide (a1 < 0) = true := decide_eq_true c8
          clear c8
          (first | rw [c8b0] | (simp only [i64_w, i32_w]; rw [c8b0]) | skip)
          have H' := Aside0.mk H
          clear H
          go_wp2
          go_meet
          case rel => exact ⟨_, (wrap64 (-(wrap64 (a1 + 1)))), (by first | rfl | (simp; done) | (simp [*]; done)), H', ⟨by first | omega | exact Nat.le_refl _⟩, by repeat (first | exact Drawn0.refl _ | apply Drawn0.step)⟩
        · rw [if_neg c8] at H
          have c8b0 : decide (a1 < 0) = false := decide_eq_false c8
          clear c8
          (first | rw [c8b0] | (simp only [i64_w, i32_w]; rw [c8b0]) | skip)
          have H' := Aside0.mk H
          clear H
          go_wp2
          go_meet
          case rel => exact ⟨_, (a1), (by first | rfl | (simp; done) | (simp [*]; done)), H', ⟨by first | omega | exact Nat.le_refl _⟩, by repeat (first | exact Drawn0.refl _ | apply Drawn0.step)⟩
      case rest =>
        clear HC7
        try clear c2
        try clear p2
        try clear c4
        try clear c5
        try clear c5b0
        try clear p6
        try clear c8
        try clear c8b0
        obtain ⟨kq, x1_6, rfl, HA, HJ6, ⟨mc6, rfl⟩⟩ := hcut
        cases kq with
        | zero => exact absurd HA.out (by simp [glyphiclaw1_FixedRoots.j0])
        | succ kj6 =>
          have H := HA.out
          clear HA
          simp only [glyphiclaw1_FixedRoots.j0] at H
          replace H := Option.bind_eq_some_iff.mp H
          obtain ⟨t107, A90, H⟩ := H
          replace H : (if t107 < 0 then (glyphiclaw1_FixedRoots.j1 kj6 a0 (Int.tmod x1_6 3037000499) true t107 true) else (if t107 > 3037000499 then (glyphiclaw1_FixedRoots.j1 kj6 a0 (Int.tmod x1_6 3037000499) true t107 true) else (glyphiclaw1_FixedRoots.j1 kj6 a0 (Int.tmod x1_6 3037000499) true t107 (decide ((wrap64 (t107 * t107)) > a0))))) = some r := H
          have A9 := Aside0.mk A90
          clear A90
          have HC10 := Aside0.mk H
          clear H
          go_upto_region 10 with (first | ((with_reducible refine gate_callee (f := 32) rfl ?_); refine goesL_ (some 26) rfl rfl Try.func32 (by kernel_rfl) rfl #[.int .i64 a0] rfl (by (try simp only [List.map_toArray, List.map_cons, List.map_nil]); first | done | rfl | (simp only [List.length_drop, List.length_take]; rfl)) ?_; (with_reducible refine (fixed_Sqrt.calls kj6 a0 t107 _ A9.out).mono ?_); rintro e w' ⟨rfl, ⟨nd, rfl⟩⟩; refine ⟨_, rfl, ?_⟩))
          (try simp only [Act.put, List.setIfInBounds_toArray, List.set_cons_zero, List.set_cons_succ])
          go_cut [39] (fun v39 wc => ∃ (kq : Nat) (x39_9 : Bool), v39 = .bool x39_9 ∧ Aside0 (glyphiclaw1_FixedRoots.j1 kq a0 (Int.tmod x1_6 3037000499) true t107 x39_9 = some r) ∧ Aside0 (kq ≤ kj6) ∧ Drawn0 w wc)
          case first =>
            have H := HC10.out
            clear HC10
            by_cases c11 : t107 < 0
            · rw [if_pos c11] at H
              have c11b0 : decide (t107 < 0) = true := decide_eq_true c11
              clear c11
              (first | rw [c11b0] | (simp only [i64_w, i32_w]; rw [c11b0]) | skip)
              have H' := Aside0.mk H
              clear H
              go_wp2
              go_meet
              case rel => exact ⟨_, (true), (by first | rfl | (simp; done) | (simp [*]; done)), H', ⟨by have := HJ6.out; first | omega | exact Nat.le_refl _⟩, by repeat (first | exact Drawn0.refl _ | apply Drawn0.step)⟩
            · rw [if_neg c11] at H
              have c11b0 : decide (t107 < 0) = false := decide_eq_false c11
              clear c11
              (first | rw [c11b0] | (simp only [i64_w, i32_w]; rw [c11b0]) | skip)
              by_cases c12 : t107 > 3037000499
              · rw [if_pos c12] at H
                have c12b0 : decide (3037000499 < t107) = true := decide_eq_true c12
                clear c12
                have H' := Aside0.mk H
                clear H
                go_wp2
                go_meet
                case rel => exact ⟨_, (true), (by first | rfl | (simp; done) | (simp [*]; done)), H', ⟨by have := HJ6.out; first | omega | exact Nat.le_refl _⟩, by repeat (first | exact Drawn0.refl _ | apply Drawn0.step)⟩
              · rw [if_neg c12] at H
                have c12b0 : decide (3037000499 < t107) = false := decide_eq_false c12
                clear c12
                have H' := Aside0.mk H
                clear H
                go_wp2
                go_meet
                case rel => exact ⟨_, (decide ((wrap64 (t107 * t107)) > a0)), (by first | rfl | (simp; done) | (simp [*]; done)), H', ⟨by have := HJ6.out; first | omega | exact Nat.le_refl _⟩, by repeat (first | exact Drawn0.refl _ | apply Drawn0.step)⟩
          case rest =>
            clear HC10
            try clear c1
            try clear c2
            try clear p2
            try clear c3
            try clear c4
            try clear c5
            try clear c5b0
            try clear c6
            try clear p6
            try clear c8
            try clear c8b0
            try clear c11
            try clear c11b0
            try clear c12
            try clear c12b0
            try clear p2
            try clear p6
            obtain ⟨kq, x39_9, rfl, HA, HJ9, ⟨mc9, rfl⟩⟩ := hcut
            cases kq with
            | zero => exact absurd HA.out (by simp [glyphiclaw1_FixedRoots.j1])
            | succ kj9 =>
              have H := HA.out
              clear HA
              simp only [glyphiclaw1_FixedRoots.j1] at H
              by_cases c13 : x39_9 = true
              · subst c13
                have H1 : (some false) = some r := by first | (rw [if_pos rfl] at H; exact H) | (rw [if_pos trivial] at H; exact H) | exact H
                clear H
                have H := H1
                clear H1
                obtain rfl := Option.some.inj H
                go_wp2
                go_ret
                exact ⟨by first | rfl | (simp; done) | (simp [*]; done), by repeat (first | exact Drawn0.refl _ | apply Drawn0.step)⟩
              · replace c13 := Bool.eq_false_iff.mpr c13
                subst c13
                have H1 : (if t107 < 3037000499 then (glyphiclaw1_FixedRoots.j2 kj9 (Int.tmod x1_6 3037000499) true (decide ((wrap64 ((wrap64 (t107 + 1)) * (wrap64 (t107 + 1)))) ≤ a0))) else (glyphiclaw1_FixedRoots.j2 kj9 (Int.tmod x1_6 3037000499) true false)) = some r := by rw [if_neg (show ¬ (false = true) by decide)] at H; exact H
                clear H
                have H := H1
                clear H1
                have HC14 := Aside0.mk H
                clear H
                go_upto_region 12 with (fail)
                go_cut [50] (fun v50 wc => ∃ (kq : Nat) (x50_13 : Bool), v50 = .bool x50_13 ∧ Aside0 (glyphiclaw1_FixedRoots.j2 kq (Int.tmod x1_6 3037000499) true x50_13 = some r) ∧ Aside0 (kq ≤ kj9) ∧ Drawn0 w wc)
                case first =>
                  have H := HC14.out
                  clear HC14
                  by_cases c15 : t107 < 3037000499
                  · rw [if_pos c15] at H
                    have c15b0 : decide (t107 < 3037000499) = true := decide_eq_true c15
                    clear c15
                    (first | rw [c15b0] | (simp only [i64_w, i32_w]; rw [c15b0]) | skip)
                    have H' := Aside0.mk H
                    clear H
                    go_wp2
                    go_meet
                    case rel => exact ⟨_, (decide ((wrap64 ((wrap64 (t107 + 1)) * (wrap64 (t107 + 1)))) ≤ a0)), (by first | rfl | (simp; done) | (simp [*]; done)), H', ⟨by have := HJ6.out; have := HJ9.out; first | omega | exact Nat.le_refl _⟩, by repeat (first | exact Drawn0.refl _ | apply Drawn0.step)⟩
                  · rw [if_neg c15] at H
                    have c15b0 : decide (t107 < 3037000499) = false := decide_eq_false c15
                    clear c15
                    (first | rw [c15b0] | (simp only [i64_w, i32_w]; rw [c15b0]) | skip)
                    have H' := Aside0.mk H
                    clear H
                    go_wp2
                    go_meet
                    case rel => exact ⟨_, (false), (by first | rfl | (simp; done) | (simp [*]; done)), H', ⟨by have := HJ6.out; have := HJ9.out; first | omega | exact Nat.le_refl _⟩, by repeat (first | exact Drawn0.refl _ | apply Drawn0.step)⟩
                case rest =>
                  clear HC14
                  try clear c1
                  try clear c2
                  try clear p2
                  try clear c3
                  try clear c4
                  try clear c5
                  try clear c5b0
                  try clear c6
                  try clear p6
                  try clear c8
                  try clear c8b0
                  try clear c9
                  try clear c11
                  try clear c11b0
                  try clear c12
                  try clear c12b0
                  try clear c13
                  try clear c15
                  try clear c15b0
                  try clear p2
                  try clear p6
                  obtain ⟨kq, x50_13, rfl, HA, HJ13, ⟨mc13, rfl⟩⟩ := hcut
                  cases kq with
                  | zero => exact absurd HA.out (by simp [glyphiclaw1_FixedRoots.j2])
                  | succ kj13 =>
                    have H := HA.out
                    clear HA
                    simp only [glyphiclaw1_FixedRoots.j2] at H
                    by_cases c16 : x50_13 = true
                    · subst c16
                      have H1 : (some false) = some r := by first | (rw [if_pos rfl] at H; exact H) | (rw [if_pos trivial] at H; exact H) | exact H
                      clear H
                      have H := H1
                      clear H1
                      obtain rfl := Option.some.inj H
                      go_wp2
                      go_ret
                      exact ⟨by first | rfl | (simp; done) | (simp [*]; done), by repeat (first | exact Drawn0.refl _ | apply Drawn0.step)⟩
                    · replace c16 := Bool.eq_false_iff.mpr c16
                      subst c16
                      have H1 : (if true = true then ((fixed_Sqrt.f kj13 (wrap64 ((Int.tmod x1_6 3037000499) * (Int.tmod x1_6 3037000499)))).bind fun t108 => (if t108 = (Int.tmod x1_6 3037000499) then (if (Int.tmod x1_6 3037000499) = 0 then ((fixed_Sqrt.f kj13 (wrap64 ((wrap64 ((Int.tmod x1_6 3037000499) * (Int.tmod x1_6 3037000499))) + (Int.tmod x1_6 3037000499)))).bind fun t109 => (some (t109 == (Int.tmod x1_6 3037000499)))) else ((fixed_Sqrt.f kj13 (wrap64 ((wrap64 ((Int.tmod x1_6 3037000499) * (Int.tmod x1_6 3037000499))) - 1))).bind fun t110 => (if t110 = (wrap64 ((Int.tmod x1_6 3037000499) - 1)) then ((fixed_Sqrt.f kj13 (wrap64 ((wrap64 ((Int.tmod x1_6 3037000499) * (Int.tmod x1_6 3037000499))) + (Int.tmod x1_6 3037000499)))).bind fun t111 => (some (t111 == (Int.tmod x1_6 3037000499)))) else (some false)))) else (some false))) else (some false)) = some r := by rw [if_neg (show ¬ (false = true) by decide)] at H; exact H
                      clear H
                      have H := H1
                      clear H1
                      by_cases c17 : true = true
                      · clear c17
                        have H1 : ((fixed_Sqrt.f kj13 (wrap64 ((Int.tmod x1_6 3037000499) * (Int.tmod x1_6 3037000499)))).bind fun t108 => (if t108 = (Int.tmod x1_6 3037000499) then (if (Int.tmod x1_6 3037000499) = 0 then ((fixed_Sqrt.f kj13 (wrap64 ((wrap64 ((Int.tmod x1_6 3037000499) * (Int.tmod x1_6 3037000499))) + (Int.tmod x1_6 3037000499)))).bind fun t109 => (some (t109 == (Int.tmod x1_6 3037000499)))) else ((fixed_Sqrt.f kj13 (wrap64 ((wrap64 ((Int.tmod x1_6 3037000499) * (Int.tmod x1_6 3037000499))) - 1))).bind fun t110 => (if t110 = (wrap64 ((Int.tmod x1_6 3037000499) - 1)) then ((fixed_Sqrt.f kj13 (wrap64 ((wrap64 ((Int.tmod x1_6 3037000499) * (Int.tmod x1_6 3037000499))) + (Int.tmod x1_6 3037000499)))).bind fun t111 => (some (t111 == (Int.tmod x1_6 3037000499)))) else (some false)))) else (some false))) = some r := by first | (rw [if_pos rfl] at H; exact H) | (rw [if_pos trivial] at H; exact H) | exact H
                        clear H
                        have H := H1
                        clear H1
                        replace H := Option.bind_eq_some_iff.mp H
                        obtain ⟨t108, A180, H⟩ := H
                        replace H : (if t108 = (Int.tmod x1_6 3037000499) then (if (Int.tmod x1_6 3037000499) = 0 then ((fixed_Sqrt.f kj13 (wrap64 ((wrap64 ((Int.tmod x1_6 3037000499) * (Int.tmod x1_6 3037000499))) + (Int.tmod x1_6 3037000499)))).bind fun t109 => (some (t109 == (Int.tmod x1_6 3037000499)))) else ((fixed_Sqrt.f kj13 (wrap64 ((wrap64 ((Int.tmod x1_6 3037000499) * (Int.tmod x1_6 3037000499))) - 1))).bind fun t110 => (if t110 = (wrap64 ((Int.tmod x1_6 3037000499) - 1)) then ((fixed_Sqrt.f kj13 (wrap64 ((wrap64 ((Int.tmod x1_6 3037000499) * (Int.tmod x1_6 3037000499))) + (Int.tmod x1_6 3037000499)))).bind fun t111 => (some (t111 == (Int.tmod x1_6 3037000499)))) else (some false)))) else (some false)) = some r := H
                        have A18 := Aside0.mk A180
                        clear A180
                        by_cases c19 : t108 = (Int.tmod x1_6 3037000499)
                        · rw [if_pos c19] at H
                          have c19b0 : (t108 == (Int.tmod x1_6 3037000499)) = true := beq_iff_eq.mpr c19
                          have c19b1 : (t108 != (Int.tmod x1_6 3037000499)) = false := bne_eq_false_iff_eq.mpr c19
                          clear c19
                          by_cases c20 : (Int.tmod x1_6 3037000499) = 0
                          · rw [if_pos c20] at H
                            have c20b0 : ((Int.tmod x1_6 3037000499) == 0) = true := beq_iff_eq.mpr c20
                            have c20b1 : ((Int.tmod x1_6 3037000499) != 0) = false := bne_eq_false_iff_eq.mpr c20
                            clear c20
                            replace H := Option.bind_eq_some_iff.mp H
                            obtain ⟨t109, A210, H⟩ := H
                            replace H : (some (t109 == (Int.tmod x1_6 3037000499))) = some r := H
                            have A21 := Aside0.mk A210
                            clear A210
                            obtain rfl := Option.some.inj H
                            go_wp2_with (first | (go_at_call 32; (with_reducible refine (fixed_Sqrt.calls kj13 (wrap64 ((Int.tmod x1_6 3037000499) * (Int.tmod x1_6 3037000499))) t108 _ A18.out).mono ?_); rintro e w' ⟨rfl, ⟨nd, rfl⟩⟩) | (go_at_call 32; (with_reducible refine (fixed_Sqrt.calls kj13 (wrap64 ((wrap64 ((Int.tmod x1_6 3037000499) * (Int.tmod x1_6 3037000499))) + (Int.tmod x1_6 3037000499))) t109 _ A21.out).mono ?_); rintro e w' ⟨rfl, ⟨nd, rfl⟩⟩))
                            go_ret
                            exact ⟨by first | rfl | (simp; done) | (simp [*]; done), by repeat (first | exact Drawn0.refl _ | apply Drawn0.step)⟩
                          · rw [if_neg c20] at H
                            have c20b0 : ((Int.tmod x1_6 3037000499) == 0) = false := beq_eq_false_iff_ne.mpr c20
                            have c20b1 : ((Int.tmod x1_6 3037000499) != 0) = true := bne_iff_ne.mpr c20
                            replace H := Option.bind_eq_some_iff.mp H
                            obtain ⟨t110, A220, H⟩ := H
                            replace H : (if t110 = (wrap64 ((Int.tmod x1_6 3037000499) - 1)) then ((fixed_Sqrt.f kj13 (wrap64 ((wrap64 ((Int.tmod x1_6 3037000499) * (Int.tmod x1_6 3037000499))) + (Int.tmod x1_6 3037000499)))).bind fun t111 => (some (t111 == (Int.tmod x1_6 3037000499)))) else (some false)) = some r := H
                            have A22 := Aside0.mk A220
                            clear A220
                            by_cases c23 : t110 = (wrap64 ((Int.tmod x1_6 3037000499) - 1))
                            · rw [if_pos c23] at H
                              have c23b0 : (t110 == (wrap64 ((Int.tmod x1_6 3037000499) - 1))) = true := beq_iff_eq.mpr c23
                              have c23b1 : (t110 != (wrap64 ((Int.tmod x1_6 3037000499) - 1))) = false := bne_eq_false_iff_eq.mpr c23
                              clear c23
                              replace H := Option.bind_eq_some_iff.mp H
                              obtain ⟨t111, A240, H⟩ := H
                              replace H : (some (t111 == (Int.tmod x1_6 3037000499))) = some r := H
                              have A24 := Aside0.mk A240
                              clear A240
                              obtain rfl := Option.some.inj H
                              go_wp2_with (first | (go_at_call 32; (with_reducible refine (fixed_Sqrt.calls kj13 (wrap64 ((Int.tmod x1_6 3037000499) * (Int.tmod x1_6 3037000499))) t108 _ A18.out).mono ?_); rintro e w' ⟨rfl, ⟨nd, rfl⟩⟩) | (go_at_call 32; (with_reducible refine (fixed_Sqrt.calls kj13 (wrap64 ((wrap64 ((Int.tmod x1_6 3037000499) * (Int.tmod x1_6 3037000499))) - 1)) t110 _ A22.out).mono ?_); rintro e w' ⟨rfl, ⟨nd, rfl⟩⟩) | (go_at_call 32; (with_reducible refine (fixed_Sqrt.calls kj13 (wrap64 ((wrap64 ((Int.tmod x1_6 3037000499) * (Int.tmod x1_6 3037000499))) + (Int.tmod x1_6 3037000499))) t111 _ A24.out).mono ?_); rintro e w' ⟨rfl, ⟨nd, rfl⟩⟩))
                              go_ret
                              exact ⟨by first | rfl | (simp; done) | (simp [*]; done), by repeat (first | exact Drawn0.refl _ | apply Drawn0.step)⟩
                            · rw [if_neg c23] at H
                              have c23b0 : (t110 == (wrap64 ((Int.tmod x1_6 3037000499) - 1))) = false := beq_eq_false_iff_ne.mpr c23
                              have c23b1 : (t110 != (wrap64 ((Int.tmod x1_6 3037000499) - 1))) = true := bne_iff_ne.mpr c23
                              obtain rfl := Option.some.inj H
                              go_wp2_with (first | (go_at_call 32; (with_reducible refine (fixed_Sqrt.calls kj13 (wrap64 ((Int.tmod x1_6 3037000499) * (Int.tmod x1_6 3037000499))) t108 _ A18.out).mono ?_); rintro e w' ⟨rfl, ⟨nd, rfl⟩⟩) | (go_at_call 32; (with_reducible refine (fixed_Sqrt.calls kj13 (wrap64 ((wrap64 ((Int.tmod x1_6 3037000499) * (Int.tmod x1_6 3037000499))) - 1)) t110 _ A22.out).mono ?_); rintro e w' ⟨rfl, ⟨nd, rfl⟩⟩))
                              go_ret
                              exact ⟨by first | rfl | (simp; done) | (simp [*]; done), by repeat (first | exact Drawn0.refl _ | apply Drawn0.step)⟩
                        · rw [if_neg c19] at H
                          have c19b0 : (t108 == (Int.tmod x1_6 3037000499)) = false := beq_eq_false_iff_ne.mpr c19
                          have c19b1 : (t108 != (Int.tmod x1_6 3037000499)) = true := bne_iff_ne.mpr c19
                          obtain rfl := Option.some.inj H
                          go_wp2_with (first | (go_at_call 32; (with_reducible refine (fixed_Sqrt.calls kj13 (wrap64 ((Int.tmod x1_6 3037000499) * (Int.tmod x1_6 3037000499))) t108 _ A18.out).mono ?_); rintro e w' ⟨rfl, ⟨nd, rfl⟩⟩))
                          go_ret
                          exact ⟨by first | rfl | (simp; done) | (simp [*]; done), by repeat (first | exact Drawn0.refl _ | apply Drawn0.step)⟩
                      · exact absurd rfl c17
  · replace c4 := Bool.eq_false_iff.mpr c4
    subst c4
    have H1 : (some false) = some r := by rw [if_neg (show ¬ (false = true) by decide)] at H; exact H
    clear H
    have H := H1
    clear H1
    obtain rfl := Option.some.inj H
    go_enter Try.func8, Try.ntmps8
    go_wp2_with (first | ((with_reducible refine gate_callee (f := 29) rfl ?_); refine goesL_ (some 7) rfl rfl Try.func29 (by kernel_rfl) rfl #[] rfl (by (try simp only [List.map_toArray, List.map_cons, List.map_nil]); first | done | rfl | (simp only [List.length_drop, List.length_take]; rfl)) ?_; (with_reducible refine (glyphiclaw1_first.calls k  false _ A3.out).mono ?_); rintro e w' ⟨rfl, ⟨nd, rfl⟩⟩; refine ⟨_, rfl, ?_⟩))
    go_ret
    exact ⟨by first | rfl | (simp; done) | (simp [*]; done), by repeat (first | exact Drawn0.refl _ | apply Drawn0.step)⟩

/-- THE ONE PURE STATEMENT of glyphiclaw1_FixedRoots: yours. -/
def glyphiclaw1_FixedRoots.Pure : Prop := ∀ (a0 : Int) (a1 : Int), (Lit.int .i64 a0).wf = true → (Lit.int .i64 a1).wf = true → ∃ k, glyphiclaw1_FixedRoots.f k a0 a1 = some true
theorem glyphiclaw1_FixedRoots.walk (P : glyphiclaw1_FixedRoots.Pure) (a0 : Int) (a1 : Int) (w : World) (w0 : (Lit.int .i64 a0).wf = true) (w1 : (Lit.int .i64 a1).wf = true) :
    Calls Try.prog 8 #[.int .i64 a0, .int .i64 a1] w fun e w' => e = .returned (.bool true) ∧ Below w.heap.size w w' := by
  obtain ⟨k, h⟩ := P a0 a1 w0 w1
  refine (glyphiclaw1_FixedRoots.calls k a0 a1 true w h).mono ?_
  rintro e w' ⟨rfl, hd⟩
  exact ⟨rfl, hd.below⟩

end Go.Proofs.Ytgaikembekkfiaa.MFixedRoots
