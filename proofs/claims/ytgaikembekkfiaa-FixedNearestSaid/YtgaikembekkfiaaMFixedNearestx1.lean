/- The functions that FixedNearest reaches, each as a Lean function with its walk. Written by a program (fix.py) after a print. -/
import Derived.Test.YtgaikembekkfiaaMFixedNearestx0
namespace Go.Proofs.Ytgaikembekkfiaa.MFixedNearest
open Go.RowKit Go.Proofs.YtgaikembekkfiaaW.PrintWords Go.Proofs.YtgaikembekkfiaaW.PrintLast Go.Proofs.YtgaikembekkfiaaW.PrintMore
attribute [local go_sem] max2_int min2_int max_two min_two max_three min_three max_four min_four   -- for this text's walks alone
set_option linter.unusedVariables false
set_option linter.unusedSimpArgs false

/-! ### fixed_Down: function 31 -/
def fixed_Down.f (a0 : Int) (a1 : Int) : Option (Int) := if a1 < 1 then (some 0) else (if a1 = 0 then (none) else (if (Int.tmod a0 a1) < 0 then (some (wrap64 ((wrap64 (Int.tdiv a0 a1)) - 1))) else (some (wrap64 (Int.tdiv a0 a1)))))
set_option maxHeartbeats 8000000 in
set_option maxRecDepth 100000 in
theorem fixed_Down.calls (a0 : Int) (a1 : Int) (r : Int) (w : World) (h : fixed_Down.f a0 a1 = some r) :
    Calls Try.prog 31 #[.int .i64 a0, .int .i64 a1] w fun e w' => e = .returned (.int .i64 r) ∧ Drawn0 w w' := by
  have H : (if a1 < 1 then (some 0) else (if a1 = 0 then (none) else (if (Int.tmod a0 a1) < 0 then (some (wrap64 ((wrap64 (Int.tdiv a0 a1)) - 1))) else (some (wrap64 (Int.tdiv a0 a1)))))) = some r := h
  clear h
  by_cases c3 : a1 < 1
  · rw [if_pos c3] at H
    have c3b0 : decide (a1 < 1) = true := decide_eq_true c3
    clear c3
    obtain rfl := Option.some.inj H
    go_enter Try.func31, Try.ntmps31
    go_wp2
    go_ret
    exact ⟨by first | rfl | (simp; done) | (simp [*]; done), by repeat (first | exact Drawn0.refl _ | apply Drawn0.step)⟩
  · rw [if_neg c3] at H
    have c3b0 : decide (a1 < 1) = false := decide_eq_false c3
    clear c3
    by_cases c4 : a1 = 0
    · rw [if_pos c4] at H
      exact absurd H (by simp)
    · rw [if_neg c4] at H
      have c4b0 : (a1 == 0) = false := beq_eq_false_iff_ne.mpr c4
      have c4b1 : (a1 != 0) = true := bne_iff_ne.mpr c4
      by_cases c5 : (Int.tmod a0 a1) < 0
      · rw [if_pos c5] at H
        have c5b0 : decide ((Int.tmod a0 a1) < 0) = true := decide_eq_true c5
        clear c5
        obtain rfl := Option.some.inj H
        go_enter Try.func31, Try.ntmps31
        go_wp2
        go_ret
        exact ⟨by first | rfl | (simp; done) | (simp [*]; done), by repeat (first | exact Drawn0.refl _ | apply Drawn0.step)⟩
      · rw [if_neg c5] at H
        have c5b0 : decide ((Int.tmod a0 a1) < 0) = false := decide_eq_false c5
        clear c5
        obtain rfl := Option.some.inj H
        go_enter Try.func31, Try.ntmps31
        go_wp2
        go_ret
        exact ⟨by first | rfl | (simp; done) | (simp [*]; done), by repeat (first | exact Drawn0.refl _ | apply Drawn0.step)⟩

/-! ### fixed_Round: function 30 -/
def fixed_Round.f (a0 : Int) (a1 : Int) : Option (Int) := if a1 < 1 then (some 0) else ((fixed_Down.f a0 a1).bind fun t101 => (if (wrap64 (a0 - (wrap64 (t101 * a1)))) ≥ (wrap64 (a1 - (wrap64 (a0 - (wrap64 (t101 * a1)))))) then (some (wrap64 (t101 + 1))) else (some t101)))
set_option maxHeartbeats 8000000 in
set_option maxRecDepth 100000 in
theorem fixed_Round.calls (a0 : Int) (a1 : Int) (r : Int) (w : World) (h : fixed_Round.f a0 a1 = some r) :
    Calls Try.prog 30 #[.int .i64 a0, .int .i64 a1] w fun e w' => e = .returned (.int .i64 r) ∧ Drawn0 w w' := by
  have H : (if a1 < 1 then (some 0) else ((fixed_Down.f a0 a1).bind fun t101 => (if (wrap64 (a0 - (wrap64 (t101 * a1)))) ≥ (wrap64 (a1 - (wrap64 (a0 - (wrap64 (t101 * a1)))))) then (some (wrap64 (t101 + 1))) else (some t101)))) = some r := h
  clear h
  by_cases c3 : a1 < 1
  · rw [if_pos c3] at H
    have c3b0 : decide (a1 < 1) = true := decide_eq_true c3
    clear c3
    obtain rfl := Option.some.inj H
    go_enter Try.func30, Try.ntmps30
    go_wp2
    go_ret
    exact ⟨by first | rfl | (simp; done) | (simp [*]; done), by repeat (first | exact Drawn0.refl _ | apply Drawn0.step)⟩
  · rw [if_neg c3] at H
    have c3b0 : decide (a1 < 1) = false := decide_eq_false c3
    clear c3
    replace H := Option.bind_eq_some_iff.mp H
    obtain ⟨t101, A40, H⟩ := H
    replace H : (if (wrap64 (a0 - (wrap64 (t101 * a1)))) ≥ (wrap64 (a1 - (wrap64 (a0 - (wrap64 (t101 * a1)))))) then (some (wrap64 (t101 + 1))) else (some t101)) = some r := H
    have A4 := Aside0.mk A40
    clear A40
    by_cases c5 : (wrap64 (a0 - (wrap64 (t101 * a1)))) ≥ (wrap64 (a1 - (wrap64 (a0 - (wrap64 (t101 * a1))))))
    · rw [if_pos c5] at H
      have c5b0 : decide ((wrap64 (a1 - (wrap64 (a0 - (wrap64 (t101 * a1)))))) ≤ (wrap64 (a0 - (wrap64 (t101 * a1))))) = true := decide_eq_true c5
      clear c5
      obtain rfl := Option.some.inj H
      go_enter Try.func30, Try.ntmps30
      go_wp2_with (first | ((with_reducible refine gate_callee (f := 31) rfl ?_); refine goesL_ (some 11) rfl rfl Try.func31 (by kernel_rfl) rfl #[.int .i64 a0, .int .i64 a1] rfl (by (try simp only [List.map_toArray, List.map_cons, List.map_nil]); first | done | rfl | (simp only [List.length_drop, List.length_take]; rfl)) ?_; (with_reducible refine (fixed_Down.calls a0 a1 t101 _ A4.out).mono ?_); rintro e w' ⟨rfl, ⟨nd, rfl⟩⟩; refine ⟨_, rfl, ?_⟩))
      go_ret
      exact ⟨by first | rfl | (simp; done) | (simp [*]; done), by repeat (first | exact Drawn0.refl _ | apply Drawn0.step)⟩
    · rw [if_neg c5] at H
      have c5b0 : decide ((wrap64 (a1 - (wrap64 (a0 - (wrap64 (t101 * a1)))))) ≤ (wrap64 (a0 - (wrap64 (t101 * a1))))) = false := decide_eq_false c5
      clear c5
      obtain rfl := Option.some.inj H
      go_enter Try.func30, Try.ntmps30
      go_wp2_with (first | ((with_reducible refine gate_callee (f := 31) rfl ?_); refine goesL_ (some 11) rfl rfl Try.func31 (by kernel_rfl) rfl #[.int .i64 a0, .int .i64 a1] rfl (by (try simp only [List.map_toArray, List.map_cons, List.map_nil]); first | done | rfl | (simp only [List.length_drop, List.length_take]; rfl)) ?_; (with_reducible refine (fixed_Down.calls a0 a1 t101 _ A4.out).mono ?_); rintro e w' ⟨rfl, ⟨nd, rfl⟩⟩; refine ⟨_, rfl, ?_⟩))
      go_ret
      exact ⟨by first | rfl | (simp; done) | (simp [*]; done), by repeat (first | exact Drawn0.refl _ | apply Drawn0.step)⟩

/-! ### fixed_Sqrt: function 32 -/
def fixed_Sqrt.l0 : Nat → Int → Int → Int → Option (Int)
  | 0, _, _, _ => none
  | k + 1, x0, x3, x4 => if (wrap64 (x4 - x3)) > 1 then (if (wrap64 (x3 + (wrap64 (Int.tdiv (wrap64 (x4 - x3)) 2)))) = 0 then (none) else (if (wrap64 (x3 + (wrap64 (Int.tdiv (wrap64 (x4 - x3)) 2)))) ≤ (wrap64 (Int.tdiv x0 (wrap64 (x3 + (wrap64 (Int.tdiv (wrap64 (x4 - x3)) 2)))))) then (fixed_Sqrt.l0 k x0 (wrap64 (x3 + (wrap64 (Int.tdiv (wrap64 (x4 - x3)) 2)))) x4) else (fixed_Sqrt.l0 k x0 x3 (wrap64 (x3 + (wrap64 (Int.tdiv (wrap64 (x4 - x3)) 2))))))) else (some x3)
def fixed_Sqrt.f (k : Nat) (a0 : Int) : Option (Int) := if a0 < 1 then (some 0) else (fixed_Sqrt.l0 k a0 0 4294967296)
theorem fixed_Sqrt.mono_l : ∀ k, (∀ y0 y1 y2, LeO (fixed_Sqrt.l0 k y0 y1 y2) (fixed_Sqrt.l0 (k + 1) y0 y1 y2))
  | 0 => fun _ _ _ r h => by simp [fixed_Sqrt.l0] at h
  | k + 1 => by
    have ih0 := fixed_Sqrt.mono_l k
    · intro y0 y1 y2
      unfold fixed_Sqrt.l0
      repeat' first
      | (with_reducible exact ih0 _ _ _)
      | (with_reducible exact LeO.refl _)
      | (with_reducible exact LeO.none _)
      | (with_reducible refine LeO.ite ?_ ?_)
      | (with_reducible refine LeO.bind ?_ (fun _ => ?_))
      | exact ih0 _ _ _
      | exact LeO.none _
      | refine LeO.ite ?_ ?_
      | refine LeO.bind ?_ (fun _ => ?_)
theorem fixed_Sqrt.mono : ∀ a0 k, LeO (fixed_Sqrt.f k a0) (fixed_Sqrt.f (k + 1) a0) := by
  intro a0 k
  have ih0 := fixed_Sqrt.mono_l k
  unfold fixed_Sqrt.f
  repeat' first
      | (with_reducible exact ih0 _ _ _)
      | (with_reducible exact LeO.refl _)
      | (with_reducible exact LeO.none _)
      | (with_reducible refine LeO.ite ?_ ?_)
      | (with_reducible refine LeO.bind ?_ (fun _ => ?_))
      | exact ih0 _ _ _
      | exact LeO.none _
      | refine LeO.ite ?_ ?_
      | refine LeO.bind ?_ (fun _ => ?_)
set_option maxHeartbeats 8000000 in
set_option maxRecDepth 100000 in
theorem fixed_Sqrt.calls (k : Nat) (a0 : Int) (r : Int) (w : World) (h : fixed_Sqrt.f k a0 = some r) :
    Calls Try.prog 32 #[.int .i64 a0] w fun e w' => e = .returned (.int .i64 r) ∧ Drawn0 w w' := by
  have H : (if a0 < 1 then (some 0) else (fixed_Sqrt.l0 k a0 0 4294967296)) = some r := h
  clear h
  by_cases c2 : a0 < 1
  · rw [if_pos c2] at H
    have c2b0 : decide (a0 < 1) = true := decide_eq_true c2
    clear c2
    obtain rfl := Option.some.inj H
    go_enter Try.func32, Try.ntmps32
    go_wp2
    go_ret
    exact ⟨by first | rfl | (simp; done) | (simp [*]; done), by repeat (first | exact Drawn0.refl _ | apply Drawn0.step)⟩
  · rw [if_neg c2] at H
    have c2b0 : decide (a0 < 1) = false := decide_eq_false c2
    clear c2
    have H' := Aside0.mk H
    clear H
    go_enter Try.func32, Try.ntmps32
    go_wp2
    go_loopg [3, 4] k (fun kq v3 v4 w' => ∃ (x3_1 : Int) (x4_1 : Int), v3 = .int .i64 x3_1 ∧ v4 = .int .i64 x4_1 ∧ Aside0 (fixed_Sqrt.l0 kq a0 x3_1 x4_1 = some r) ∧ Aside0 (kq ≤ k) ∧ Drawn0 w w')
    case atStart => exact ⟨(0), (4294967296), (by first | rfl | (simp; done) | (simp [*]; done)), (by first | rfl | (simp; done) | (simp [*]; done)), H', ⟨Nat.le_refl _⟩, by repeat (first | exact Drawn0.refl _ | apply Drawn0.step)⟩
    case round =>
      clear H'
      try clear c2
      try clear c2b0
      try clear p2
      obtain ⟨x3_1, x4_1, rfl, rfl, HA, HK1, ⟨m1, rfl⟩⟩ := hrel
      cases gk with
      | zero => exact absurd HA.out (by simp [fixed_Sqrt.l0])
      | succ k1 =>
        have H := HA.out
        clear HA
        simp only [fixed_Sqrt.l0] at H
        by_cases c3 : (wrap64 (x4_1 - x3_1)) > 1
        · rw [if_pos c3] at H
          have c3b0 : decide (1 < (wrap64 (x4_1 - x3_1))) = true := decide_eq_true c3
          clear c3
          by_cases c4 : (wrap64 (x3_1 + (wrap64 (Int.tdiv (wrap64 (x4_1 - x3_1)) 2)))) = 0
          · rw [if_pos c4] at H
            exact absurd H (by simp)
          · rw [if_neg c4] at H
            have c4b0 : ((wrap64 (x3_1 + (wrap64 (Int.tdiv (wrap64 (x4_1 - x3_1)) 2)))) == 0) = false := beq_eq_false_iff_ne.mpr c4
            have c4b1 : ((wrap64 (x3_1 + (wrap64 (Int.tdiv (wrap64 (x4_1 - x3_1)) 2)))) != 0) = true := bne_iff_ne.mpr c4
            by_cases c5 : (wrap64 (x3_1 + (wrap64 (Int.tdiv (wrap64 (x4_1 - x3_1)) 2)))) ≤ (wrap64 (Int.tdiv a0 (wrap64 (x3_1 + (wrap64 (Int.tdiv (wrap64 (x4_1 - x3_1)) 2))))))
            · rw [if_pos c5] at H
              have c5b0 : decide ((wrap64 (x3_1 + (wrap64 (Int.tdiv (wrap64 (x4_1 - x3_1)) 2)))) ≤ (wrap64 (Int.tdiv a0 (wrap64 (x3_1 + (wrap64 (Int.tdiv (wrap64 (x4_1 - x3_1)) 2))))))) = true := decide_eq_true c5
              clear c5
              have H' := Aside0.mk H
              clear H
              go_wp2
              go_roundg k1
              case measure => have := HK1.out; omega
              case rel => exact ⟨(wrap64 (x3_1 + (wrap64 (Int.tdiv (wrap64 (x4_1 - x3_1)) 2)))), (x4_1), (by first | rfl | (simp; done) | (simp [*]; done)), (by first | rfl | (simp; done) | (simp [*]; done)), H', ⟨by have := HK1.out; omega⟩, by repeat (first | exact Drawn0.refl _ | apply Drawn0.step)⟩
            · rw [if_neg c5] at H
              have c5b0 : decide ((wrap64 (x3_1 + (wrap64 (Int.tdiv (wrap64 (x4_1 - x3_1)) 2)))) ≤ (wrap64 (Int.tdiv a0 (wrap64 (x3_1 + (wrap64 (Int.tdiv (wrap64 (x4_1 - x3_1)) 2))))))) = false := decide_eq_false c5
              clear c5
              have H' := Aside0.mk H
              clear H
              go_wp2
              go_roundg k1
              case measure => have := HK1.out; omega
              case rel => exact ⟨(x3_1), (wrap64 (x3_1 + (wrap64 (Int.tdiv (wrap64 (x4_1 - x3_1)) 2)))), (by first | rfl | (simp; done) | (simp [*]; done)), (by first | rfl | (simp; done) | (simp [*]; done)), H', ⟨by have := HK1.out; omega⟩, by repeat (first | exact Drawn0.refl _ | apply Drawn0.step)⟩
        · rw [if_neg c3] at H
          have c3b0 : decide (1 < (wrap64 (x4_1 - x3_1))) = false := decide_eq_false c3
          clear c3
          obtain rfl := Option.some.inj H
          go_wp2
          go_ret
          exact ⟨by first | rfl | (simp; done) | (simp [*]; done), by repeat (first | exact Drawn0.refl _ | apply Drawn0.step)⟩

/-! ### glyphiclaw1_first: function 29 -/
def glyphiclaw1_first.f (k : Nat)  : Option (Bool) := (fixed_Round.f (-1) 2).bind fun t102 => (if t102 = 0 then ((fixed_Round.f 3 2).bind fun t103 => (if t103 = 2 then ((fixed_Sqrt.f k 17).bind fun t104 => (some (t104 == 4))) else (some false))) else (some false))
theorem glyphiclaw1_first.mono : ∀ k, LeO (glyphiclaw1_first.f k ) (glyphiclaw1_first.f (k + 1) ) := by
  intro  k
  unfold glyphiclaw1_first.f
  repeat' first
      | (with_reducible exact fixed_Sqrt.mono _ _)
      | (with_reducible exact LeO.refl _)
      | (with_reducible exact LeO.none _)
      | (with_reducible refine LeO.ite ?_ ?_)
      | (with_reducible refine LeO.bind ?_ (fun _ => ?_))
      | exact fixed_Sqrt.mono _ _
      | exact LeO.none _
      | refine LeO.ite ?_ ?_
      | refine LeO.bind ?_ (fun _ => ?_)
set_option maxHeartbeats 8000000 in
set_option maxRecDepth 100000 in
theorem glyphiclaw1_first.calls (k : Nat)  (r : Bool) (w : World) (h : glyphiclaw1_first.f k  = some r) :
    Calls Try.prog 29 #[] w fun e w' => e = .returned (.bool r) ∧ Drawn0 w w' := by
  have H : ((fixed_Round.f (-1) 2).bind fun t102 => (if t102 = 0 then ((fixed_Round.f 3 2).bind fun t103 => (if t103 = 2 then ((fixed_Sqrt.f k 17).bind fun t104 => (some (t104 == 4))) else (some false))) else (some false))) = some r := h
  clear h
  replace H := Option.bind_eq_some_iff.mp H
  obtain ⟨t102, A10, H⟩ := H
  replace H : (if t102 = 0 then ((fixed_Round.f 3 2).bind fun t103 => (if t103 = 2 then ((fixed_Sqrt.f k 17).bind fun t104 => (some (t104 == 4))) else (some false))) else (some false)) = some r := H
  have A1 := Aside0.mk A10
  clear A10
  by_cases c2 : t102 = 0
  · rw [if_pos c2] at H
    have c2b0 : (t102 == 0) = true := beq_iff_eq.mpr c2
    have c2b1 : (t102 != 0) = false := bne_eq_false_iff_eq.mpr c2
    clear c2
    replace H := Option.bind_eq_some_iff.mp H
    obtain ⟨t103, A30, H⟩ := H
    replace H : (if t103 = 2 then ((fixed_Sqrt.f k 17).bind fun t104 => (some (t104 == 4))) else (some false)) = some r := H
    have A3 := Aside0.mk A30
    clear A30
    by_cases c4 : t103 = 2
    · rw [if_pos c4] at H
      have c4b0 : (t103 == 2) = true := beq_iff_eq.mpr c4
      have c4b1 : (t103 != 2) = false := bne_eq_false_iff_eq.mpr c4
      clear c4
      replace H := Option.bind_eq_some_iff.mp H
      obtain ⟨t104, A50, H⟩ := H
      replace H : (some (t104 == 4)) = some r := H
      have A5 := Aside0.mk A50
      clear A50
      obtain rfl := Option.some.inj H
      go_enter Try.func29, Try.ntmps29
      go_wp2_with (first | ((with_reducible refine gate_callee (f := 30) rfl ?_); refine goesL_ (some 1) rfl rfl Try.func30 (by kernel_rfl) rfl #[.int .i64 (-1), .int .i64 2] rfl (by (try simp only [List.map_toArray, List.map_cons, List.map_nil]); first | done | rfl | (simp only [List.length_drop, List.length_take]; rfl)) ?_; (with_reducible refine (fixed_Round.calls (-1) 2 t102 _ A1.out).mono ?_); rintro e w' ⟨rfl, ⟨nd, rfl⟩⟩; refine ⟨_, rfl, ?_⟩) | (go_at_call 30; (with_reducible refine (fixed_Round.calls 3 2 t103 _ A3.out).mono ?_); rintro e w' ⟨rfl, ⟨nd, rfl⟩⟩) | (go_at_call 32; (with_reducible refine (fixed_Sqrt.calls k 17 t104 _ A5.out).mono ?_); rintro e w' ⟨rfl, ⟨nd, rfl⟩⟩))
      go_ret
      exact ⟨by first | rfl | (simp; done) | (simp [*]; done), by repeat (first | exact Drawn0.refl _ | apply Drawn0.step)⟩
    · rw [if_neg c4] at H
      have c4b0 : (t103 == 2) = false := beq_eq_false_iff_ne.mpr c4
      have c4b1 : (t103 != 2) = true := bne_iff_ne.mpr c4
      obtain rfl := Option.some.inj H
      go_enter Try.func29, Try.ntmps29
      go_wp2_with (first | ((with_reducible refine gate_callee (f := 30) rfl ?_); refine goesL_ (some 1) rfl rfl Try.func30 (by kernel_rfl) rfl #[.int .i64 (-1), .int .i64 2] rfl (by (try simp only [List.map_toArray, List.map_cons, List.map_nil]); first | done | rfl | (simp only [List.length_drop, List.length_take]; rfl)) ?_; (with_reducible refine (fixed_Round.calls (-1) 2 t102 _ A1.out).mono ?_); rintro e w' ⟨rfl, ⟨nd, rfl⟩⟩; refine ⟨_, rfl, ?_⟩) | (go_at_call 30; (with_reducible refine (fixed_Round.calls 3 2 t103 _ A3.out).mono ?_); rintro e w' ⟨rfl, ⟨nd, rfl⟩⟩))
      go_ret
      exact ⟨by first | rfl | (simp; done) | (simp [*]; done), by repeat (first | exact Drawn0.refl _ | apply Drawn0.step)⟩
  · rw [if_neg c2] at H
    have c2b0 : (t102 == 0) = false := beq_eq_false_iff_ne.mpr c2
    have c2b1 : (t102 != 0) = true := bne_iff_ne.mpr c2
    obtain rfl := Option.some.inj H
    go_enter Try.func29, Try.ntmps29
    go_wp2_with (first | ((with_reducible refine gate_callee (f := 30) rfl ?_); refine goesL_ (some 1) rfl rfl Try.func30 (by kernel_rfl) rfl #[.int .i64 (-1), .int .i64 2] rfl (by (try simp only [List.map_toArray, List.map_cons, List.map_nil]); first | done | rfl | (simp only [List.length_drop, List.length_take]; rfl)) ?_; (with_reducible refine (fixed_Round.calls (-1) 2 t102 _ A1.out).mono ?_); rintro e w' ⟨rfl, ⟨nd, rfl⟩⟩; refine ⟨_, rfl, ?_⟩))
    go_ret
    exact ⟨by first | rfl | (simp; done) | (simp [*]; done), by repeat (first | exact Drawn0.refl _ | apply Drawn0.step)⟩

/-! ### glyphiclaw1_FixedNearest: function 7 -/
def glyphiclaw1_FixedNearest.j0 : Nat → Int → Int → Bool → Bool → Option (Bool)
  | 0, _, _, _, _ => none
  | k + 1, x0, x1, x5, x19 => if x19 = true then (if x5 = true then (if x1 ≥ 1 then (some true) else ((fixed_Round.f x0 x1).bind fun t106 => (if t106 = 0 then ((fixed_Down.f x0 x1).bind fun t107 => (some (t107 == 0))) else (some false)))) else (some false)) else ((fixed_Round.f x0 x1).bind fun t108 => ((fixed_Down.f x0 x1).bind fun t109 => (if x5 = true then (if (wrap64 (2 * (wrap64 ((wrap64 (t108 * x1)) - x0)))) ≤ x1 then (if (wrap64 (2 * (wrap64 ((wrap64 (t108 * x1)) - x0)))) > (wrap64 (-x1)) then (if (wrap64 (t109 * x1)) ≤ x0 then (if (wrap64 (x0 - (wrap64 (t109 * x1)))) < x1 then (if t108 = t109 then ((fixed_Round.f (wrap64 (x0 + x1)) x1).bind fun t110 => (some (t110 == (wrap64 (t108 + 1))))) else (if t108 = (wrap64 (t109 + 1)) then ((fixed_Round.f (wrap64 (x0 + x1)) x1).bind fun t111 => (some (t111 == (wrap64 (t108 + 1))))) else (some false))) else (some false)) else (some false)) else (some false)) else (some false)) else (some false))))
def glyphiclaw1_FixedNearest.f (k : Nat) (a0 : Int) (a1 : Int) : Option (Bool) := (glyphiclaw1_first.f k).bind fun t105 => (if t105 = true then (if a1 < 1 then (glyphiclaw1_FixedNearest.j0 k (a0 / 8) a1 t105 true) else (glyphiclaw1_FixedNearest.j0 k (a0 / 8) a1 t105 (decide (a1 > 576460752303423488)))) else (some false))
theorem glyphiclaw1_FixedNearest.mono_l : ∀ k, (∀ y0 y1 y2 y3, LeO (glyphiclaw1_FixedNearest.j0 k y0 y1 y2 y3) (glyphiclaw1_FixedNearest.j0 (k + 1) y0 y1 y2 y3))
  | 0 => fun _ _ _ _ r h => by simp [glyphiclaw1_FixedNearest.j0] at h
  | k + 1 => by
    have ih0 := glyphiclaw1_FixedNearest.mono_l k
    · intro y0 y1 y2 y3
      unfold glyphiclaw1_FixedNearest.j0
      repeat' first
      | (with_reducible exact ih0 _ _ _ _)
      | (with_reducible exact glyphiclaw1_first.mono _)
      | (with_reducible exact LeO.refl _)
      | (with_reducible exact LeO.none _)
      | (with_reducible refine LeO.ite ?_ ?_)
      | (with_reducible refine LeO.bind ?_ (fun _ => ?_))
      | exact ih0 _ _ _ _
      | exact glyphiclaw1_first.mono _
      | exact LeO.none _
      | refine LeO.ite ?_ ?_
      | refine LeO.bind ?_ (fun _ => ?_)
theorem glyphiclaw1_FixedNearest.mono : ∀ a0 a1 k, LeO (glyphiclaw1_FixedNearest.f k a0 a1) (glyphiclaw1_FixedNearest.f (k + 1) a0 a1) := by
  intro a0 a1 k
  have ih0 := glyphiclaw1_FixedNearest.mono_l k
  unfold glyphiclaw1_FixedNearest.f
  repeat' first
      | (with_reducible exact ih0 _ _ _ _)
      | (with_reducible exact glyphiclaw1_first.mono _)
      | (with_reducible exact LeO.refl _)
      | (with_reducible exact LeO.none _)
      | (with_reducible refine LeO.ite ?_ ?_)
      | (with_reducible refine LeO.bind ?_ (fun _ => ?_))
      | exact ih0 _ _ _ _
      | exact glyphiclaw1_first.mono _
      | exact LeO.none _
      | refine LeO.ite ?_ ?_
      | refine LeO.bind ?_ (fun _ => ?_)
set_option maxHeartbeats 8000000 in
set_option maxRecDepth 100000 in
theorem glyphiclaw1_FixedNearest.calls (k : Nat) (a0 : Int) (a1 : Int) (r : Bool) (w : World) (h : glyphiclaw1_FixedNearest.f k a0 a1 = some r) :
    Calls Try.prog 7 #[.int .i64 a0, .int .i64 a1] w fun e w' => e = .returned (.bool r) ∧ Drawn0 w w' := by
  have H : ((glyphiclaw1_first.f k).bind fun t105 => (if t105 = true then (if a1 < 1 then (glyphiclaw1_FixedNearest.j0 k (a0 / 8) a1 t105 true) else (glyphiclaw1_FixedNearest.j0 k (a0 / 8) a1 t105 (decide (a1 > 576460752303423488)))) else (some false))) = some r := h
  clear h
  replace H := Option.bind_eq_some_iff.mp H
  obtain ⟨t105, A30, H⟩ := H
  replace H : (if t105 = true then (if a1 < 1 then (glyphiclaw1_FixedNearest.j0 k (a0 / 8) a1 t105 true) else (glyphiclaw1_FixedNearest.j0 k (a0 / 8) a1 t105 (decide (a1 > 576460752303423488)))) else (some false)) = some r := H
  have A3 := Aside0.mk A30
  clear A30
  by_cases c4 : t105 = true
  · subst c4
    have H1 : (if a1 < 1 then (glyphiclaw1_FixedNearest.j0 k (a0 / 8) a1 true true) else (glyphiclaw1_FixedNearest.j0 k (a0 / 8) a1 true (decide (a1 > 576460752303423488)))) = some r := by first | (rw [if_pos rfl] at H; exact H) | (rw [if_pos trivial] at H; exact H) | exact H
    clear H
    have H := H1
    clear H1
    have HC5 := Aside0.mk H
    clear H
    go_enter Try.func7, Try.ntmps7
    go_upto_region 5 with (first | ((with_reducible refine gate_callee (f := 29) rfl ?_); refine goesL_ (some 9) rfl rfl Try.func29 (by kernel_rfl) rfl #[] rfl (by (try simp only [List.map_toArray, List.map_cons, List.map_nil]); first | done | rfl | (simp only [List.length_drop, List.length_take]; rfl)) ?_; (with_reducible refine (glyphiclaw1_first.calls k  true _ A3.out).mono ?_); rintro e w' ⟨rfl, ⟨nd, rfl⟩⟩; refine ⟨_, rfl, ?_⟩))
    (try simp only [Act.put, List.setIfInBounds_toArray, List.set_cons_zero, List.set_cons_succ])
    go_cut [19] (fun v19 wc => ∃ (kq : Nat) (x19_4 : Bool), v19 = .bool x19_4 ∧ Aside0 (glyphiclaw1_FixedNearest.j0 kq (a0 / 8) a1 true x19_4 = some r) ∧ Aside0 (kq ≤ k) ∧ Drawn0 w wc)
    case first =>
      have H := HC5.out
      clear HC5
      by_cases c6 : a1 < 1
      · rw [if_pos c6] at H
        have c6b0 : decide (a1 < 1) = true := decide_eq_true c6
        clear c6
        (first | rw [c6b0] | (simp only [i64_w, i32_w]; rw [c6b0]) | skip)
        have H' := Aside0.mk H
        clear H
        go_wp2
        go_meet
        case rel => exact ⟨_, (true), (by first | rfl | (simp; done) | (simp [*]; done)), H', ⟨by first | omega | exact Nat.le_refl _⟩, by repeat (first | exact Drawn0.refl _ | apply Drawn0.step)⟩
      · rw [if_neg c6] at H
        have c6b0 : decide (a1 < 1) = false := decide_eq_false c6
        clear c6
        (first | rw [c6b0] | (simp only [i64_w, i32_w]; rw [c6b0]) | skip)
        have H' := Aside0.mk H
        clear H
        go_wp2
        go_meet
        case rel => exact ⟨_, (decide (a1 > 576460752303423488)), (by first | rfl | (simp; done) | (simp [*]; done)), H', ⟨by first | omega | exact Nat.le_refl _⟩, by repeat (first | exact Drawn0.refl _ | apply Drawn0.step)⟩
    case rest =>
      clear HC5
      try clear c2
      try clear p2
      try clear c4
      try clear c6
      try clear c6b0
      obtain ⟨kq, x19_4, rfl, HA, HJ4, ⟨mc4, rfl⟩⟩ := hcut
      cases kq with
      | zero => exact absurd HA.out (by simp [glyphiclaw1_FixedNearest.j0])
      | succ kj4 =>
        have H := HA.out
        clear HA
        simp only [glyphiclaw1_FixedNearest.j0] at H
        by_cases c7 : x19_4 = true
        · subst c7
          have H1 : (if true = true then (if a1 ≥ 1 then (some true) else ((fixed_Round.f (a0 / 8) a1).bind fun t106 => (if t106 = 0 then ((fixed_Down.f (a0 / 8) a1).bind fun t107 => (some (t107 == 0))) else (some false)))) else (some false)) = some r := by first | (rw [if_pos rfl] at H; exact H) | (rw [if_pos trivial] at H; exact H) | exact H
          clear H
          have H := H1
          clear H1
          by_cases c8 : true = true
          · clear c8
            have H1 : (if a1 ≥ 1 then (some true) else ((fixed_Round.f (a0 / 8) a1).bind fun t106 => (if t106 = 0 then ((fixed_Down.f (a0 / 8) a1).bind fun t107 => (some (t107 == 0))) else (some false)))) = some r := by first | (rw [if_pos rfl] at H; exact H) | (rw [if_pos trivial] at H; exact H) | exact H
            clear H
            have H := H1
            clear H1
            by_cases c9 : a1 ≥ 1
            · rw [if_pos c9] at H
              have c9b0 : decide (1 ≤ a1) = true := decide_eq_true c9
              clear c9
              obtain rfl := Option.some.inj H
              go_wp2
              go_ret
              exact ⟨by first | rfl | (simp; done) | (simp [*]; done), by repeat (first | exact Drawn0.refl _ | apply Drawn0.step)⟩
            · rw [if_neg c9] at H
              have c9b0 : decide (1 ≤ a1) = false := decide_eq_false c9
              clear c9
              replace H := Option.bind_eq_some_iff.mp H
              obtain ⟨t106, A100, H⟩ := H
              replace H : (if t106 = 0 then ((fixed_Down.f (a0 / 8) a1).bind fun t107 => (some (t107 == 0))) else (some false)) = some r := H
              have A10 := Aside0.mk A100
              clear A100
              by_cases c11 : t106 = 0
              · rw [if_pos c11] at H
                have c11b0 : (t106 == 0) = true := beq_iff_eq.mpr c11
                have c11b1 : (t106 != 0) = false := bne_eq_false_iff_eq.mpr c11
                clear c11
                replace H := Option.bind_eq_some_iff.mp H
                obtain ⟨t107, A120, H⟩ := H
                replace H : (some (t107 == 0)) = some r := H
                have A12 := Aside0.mk A120
                clear A120
                obtain rfl := Option.some.inj H
                go_wp2_with (first | (go_at_call 30; (with_reducible refine (fixed_Round.calls (a0 / 8) a1 t106 _ A10.out).mono ?_); rintro e w' ⟨rfl, ⟨nd, rfl⟩⟩) | (go_at_call 31; (with_reducible refine (fixed_Down.calls (a0 / 8) a1 t107 _ A12.out).mono ?_); rintro e w' ⟨rfl, ⟨nd, rfl⟩⟩))
                go_ret
                exact ⟨by first | rfl | (simp; done) | (simp [*]; done), by repeat (first | exact Drawn0.refl _ | apply Drawn0.step)⟩
              · rw [if_neg c11] at H
                have c11b0 : (t106 == 0) = false := beq_eq_false_iff_ne.mpr c11
                have c11b1 : (t106 != 0) = true := bne_iff_ne.mpr c11
                obtain rfl := Option.some.inj H
                go_wp2_with (first | (go_at_call 30; (with_reducible refine (fixed_Round.calls (a0 / 8) a1 t106 _ A10.out).mono ?_); rintro e w' ⟨rfl, ⟨nd, rfl⟩⟩))
                go_ret
                exact ⟨by first | rfl | (simp; done) | (simp [*]; done), by repeat (first | exact Drawn0.refl _ | apply Drawn0.step)⟩
          · exact absurd rfl c8
        · replace c7 := Bool.eq_false_iff.mpr c7
          subst c7
          have H1 : ((fixed_Round.f (a0 / 8) a1).bind fun t108 => ((fixed_Down.f (a0 / 8) a1).bind fun t109 => (if true = true then (if (wrap64 (2 * (wrap64 ((wrap64 (t108 * a1)) - (a0 / 8))))) ≤ a1 then (if (wrap64 (2 * (wrap64 ((wrap64 (t108 * a1)) - (a0 / 8))))) > (wrap64 (-a1)) then (if (wrap64 (t109 * a1)) ≤ (a0 / 8) then (if (wrap64 ((a0 / 8) - (wrap64 (t109 * a1)))) < a1 then (if t108 = t109 then ((fixed_Round.f (wrap64 ((a0 / 8) + a1)) a1).bind fun t110 => (some (t110 == (wrap64 (t108 + 1))))) else (if t108 = (wrap64 (t109 + 1)) then ((fixed_Round.f (wrap64 ((a0 / 8) + a1)) a1).bind fun t111 => (some (t111 == (wrap64 (t108 + 1))))) else (some false))) else (some false)) else (some false)) else (some false)) else (some false)) else (some false)))) = some r := by rw [if_neg (show ¬ (false = true) by decide)] at H; exact H
          clear H
          have H := H1
          clear H1
          replace H := Option.bind_eq_some_iff.mp H
          obtain ⟨t108, A130, H⟩ := H
          replace H : ((fixed_Down.f (a0 / 8) a1).bind fun t109 => (if true = true then (if (wrap64 (2 * (wrap64 ((wrap64 (t108 * a1)) - (a0 / 8))))) ≤ a1 then (if (wrap64 (2 * (wrap64 ((wrap64 (t108 * a1)) - (a0 / 8))))) > (wrap64 (-a1)) then (if (wrap64 (t109 * a1)) ≤ (a0 / 8) then (if (wrap64 ((a0 / 8) - (wrap64 (t109 * a1)))) < a1 then (if t108 = t109 then ((fixed_Round.f (wrap64 ((a0 / 8) + a1)) a1).bind fun t110 => (some (t110 == (wrap64 (t108 + 1))))) else (if t108 = (wrap64 (t109 + 1)) then ((fixed_Round.f (wrap64 ((a0 / 8) + a1)) a1).bind fun t111 => (some (t111 == (wrap64 (t108 + 1))))) else (some false))) else (some false)) else (some false)) else (some false)) else (some false)) else (some false))) = some r := H
          have A13 := Aside0.mk A130
          clear A130
          replace H := Option.bind_eq_some_iff.mp H
          obtain ⟨t109, A140, H⟩ := H
          replace H : (if true = true then (if (wrap64 (2 * (wrap64 ((wrap64 (t108 * a1)) - (a0 / 8))))) ≤ a1 then (if (wrap64 (2 * (wrap64 ((wrap64 (t108 * a1)) - (a0 / 8))))) > (wrap64 (-a1)) then (if (wrap64 (t109 * a1)) ≤ (a0 / 8) then (if (wrap64 ((a0 / 8) - (wrap64 (t109 * a1)))) < a1 then (if t108 = t109 then ((fixed_Round.f (wrap64 ((a0 / 8) + a1)) a1).bind fun t110 => (some (t110 == (wrap64 (t108 + 1))))) else (if t108 = (wrap64 (t109 + 1)) then ((fixed_Round.f (wrap64 ((a0 / 8) + a1)) a1).bind fun t111 => (some (t111 == (wrap64 (t108 + 1))))) else (some false))) else (some false)) else (some false)) else (some false)) else (some false)) else (some false)) = some r := H
          have A14 := Aside0.mk A140
          clear A140
          by_cases c15 : true = true
          · clear c15
            have H1 : (if (wrap64 (2 * (wrap64 ((wrap64 (t108 * a1)) - (a0 / 8))))) ≤ a1 then (if (wrap64 (2 * (wrap64 ((wrap64 (t108 * a1)) - (a0 / 8))))) > (wrap64 (-a1)) then (if (wrap64 (t109 * a1)) ≤ (a0 / 8) then (if (wrap64 ((a0 / 8) - (wrap64 (t109 * a1)))) < a1 then (if t108 = t109 then ((fixed_Round.f (wrap64 ((a0 / 8) + a1)) a1).bind fun t110 => (some (t110 == (wrap64 (t108 + 1))))) else (if t108 = (wrap64 (t109 + 1)) then ((fixed_Round.f (wrap64 ((a0 / 8) + a1)) a1).bind fun t111 => (some (t111 == (wrap64 (t108 + 1))))) else (some false))) else (some false)) else (some false)) else (some false)) else (some false)) = some r := by first | (rw [if_pos rfl] at H; exact H) | (rw [if_pos trivial] at H; exact H) | exact H
            clear H
            have H := H1
            clear H1
            by_cases c16 : (wrap64 (2 * (wrap64 ((wrap64 (t108 * a1)) - (a0 / 8))))) ≤ a1
            · rw [if_pos c16] at H
              have c16b0 : decide ((wrap64 (2 * (wrap64 ((wrap64 (t108 * a1)) - (a0 / 8))))) ≤ a1) = true := decide_eq_true c16
              clear c16
              by_cases c17 : (wrap64 (2 * (wrap64 ((wrap64 (t108 * a1)) - (a0 / 8))))) > (wrap64 (-a1))
              · rw [if_pos c17] at H
                have c17b0 : decide ((wrap64 (-a1)) < (wrap64 (2 * (wrap64 ((wrap64 (t108 * a1)) - (a0 / 8)))))) = true := decide_eq_true c17
                clear c17
                by_cases c18 : (wrap64 (t109 * a1)) ≤ (a0 / 8)
                · rw [if_pos c18] at H
                  have c18b0 : decide ((wrap64 (t109 * a1)) ≤ (a0 / 8)) = true := decide_eq_true c18
                  clear c18
                  by_cases c19 : (wrap64 ((a0 / 8) - (wrap64 (t109 * a1)))) < a1
                  · rw [if_pos c19] at H
                    have c19b0 : decide ((wrap64 ((a0 / 8) - (wrap64 (t109 * a1)))) < a1) = true := decide_eq_true c19
                    clear c19
                    by_cases c20 : t108 = t109
                    · rw [if_pos c20] at H
                      have c20b0 : (t108 == t109) = true := beq_iff_eq.mpr c20
                      have c20b1 : (t108 != t109) = false := bne_eq_false_iff_eq.mpr c20
                      clear c20
                      replace H := Option.bind_eq_some_iff.mp H
                      obtain ⟨t110, A210, H⟩ := H
                      replace H : (some (t110 == (wrap64 (t108 + 1)))) = some r := H
                      have A21 := Aside0.mk A210
                      clear A210
                      obtain rfl := Option.some.inj H
                      go_wp2_with (first | ((with_reducible refine gate_callee (f := 30) rfl ?_); refine goesL_ (some 39) rfl rfl Try.func30 (by kernel_rfl) rfl #[.int .i64 (a0 / 8), .int .i64 a1] rfl (by (try simp only [List.map_toArray, List.map_cons, List.map_nil]); first | done | rfl | (simp only [List.length_drop, List.length_take]; rfl)) ?_; (with_reducible refine (fixed_Round.calls (a0 / 8) a1 t108 _ A13.out).mono ?_); rintro e w' ⟨rfl, ⟨nd, rfl⟩⟩; refine ⟨_, rfl, ?_⟩) | ((with_reducible refine gate_callee (f := 31) rfl ?_); refine goesL_ (some 42) rfl rfl Try.func31 (by kernel_rfl) rfl #[.int .i64 (a0 / 8), .int .i64 a1] rfl (by (try simp only [List.map_toArray, List.map_cons, List.map_nil]); first | done | rfl | (simp only [List.length_drop, List.length_take]; rfl)) ?_; (with_reducible refine (fixed_Down.calls (a0 / 8) a1 t109 _ A14.out).mono ?_); rintro e w' ⟨rfl, ⟨nd, rfl⟩⟩; refine ⟨_, rfl, ?_⟩) | (go_at_call 30; (with_reducible refine (fixed_Round.calls (wrap64 ((a0 / 8) + a1)) a1 t110 _ A21.out).mono ?_); rintro e w' ⟨rfl, ⟨nd, rfl⟩⟩))
                      go_ret
                      exact ⟨by first | rfl | (simp; done) | (simp [*]; done), by repeat (first | exact Drawn0.refl _ | apply Drawn0.step)⟩
                    · rw [if_neg c20] at H
                      have c20b0 : (t108 == t109) = false := beq_eq_false_iff_ne.mpr c20
                      have c20b1 : (t108 != t109) = true := bne_iff_ne.mpr c20
                      by_cases c22 : t108 = (wrap64 (t109 + 1))
                      · rw [if_pos c22] at H
                        have c22b0 : (t108 == (wrap64 (t109 + 1))) = true := beq_iff_eq.mpr c22
                        have c22b1 : (t108 != (wrap64 (t109 + 1))) = false := bne_eq_false_iff_eq.mpr c22
                        clear c22
                        replace H := Option.bind_eq_some_iff.mp H
                        obtain ⟨t111, A230, H⟩ := H
                        replace H : (some (t111 == (wrap64 (t108 + 1)))) = some r := H
                        have A23 := Aside0.mk A230
                        clear A230
                        obtain rfl := Option.some.inj H
                        go_wp2_with (first | ((with_reducible refine gate_callee (f := 30) rfl ?_); refine goesL_ (some 39) rfl rfl Try.func30 (by kernel_rfl) rfl #[.int .i64 (a0 / 8), .int .i64 a1] rfl (by (try simp only [List.map_toArray, List.map_cons, List.map_nil]); first | done | rfl | (simp only [List.length_drop, List.length_take]; rfl)) ?_; (with_reducible refine (fixed_Round.calls (a0 / 8) a1 t108 _ A13.out).mono ?_); rintro e w' ⟨rfl, ⟨nd, rfl⟩⟩; refine ⟨_, rfl, ?_⟩) | ((with_reducible refine gate_callee (f := 31) rfl ?_); refine goesL_ (some 42) rfl rfl Try.func31 (by kernel_rfl) rfl #[.int .i64 (a0 / 8), .int .i64 a1] rfl (by (try simp only [List.map_toArray, List.map_cons, List.map_nil]); first | done | rfl | (simp only [List.length_drop, List.length_take]; rfl)) ?_; (with_reducible refine (fixed_Down.calls (a0 / 8) a1 t109 _ A14.out).mono ?_); rintro e w' ⟨rfl, ⟨nd, rfl⟩⟩; refine ⟨_, rfl, ?_⟩) | (go_at_call 30; (with_reducible refine (fixed_Round.calls (wrap64 ((a0 / 8) + a1)) a1 t111 _ A23.out).mono ?_); rintro e w' ⟨rfl, ⟨nd, rfl⟩⟩))
                        go_ret
                        exact ⟨by first | rfl | (simp; done) | (simp [*]; done), by repeat (first | exact Drawn0.refl _ | apply Drawn0.step)⟩
                      · rw [if_neg c22] at H
                        have c22b0 : (t108 == (wrap64 (t109 + 1))) = false := beq_eq_false_iff_ne.mpr c22
                        have c22b1 : (t108 != (wrap64 (t109 + 1))) = true := bne_iff_ne.mpr c22
                        obtain rfl := Option.some.inj H
                        go_wp2_with (first | ((with_reducible refine gate_callee (f := 30) rfl ?_); refine goesL_ (some 39) rfl rfl Try.func30 (by kernel_rfl) rfl #[.int .i64 (a0 / 8), .int .i64 a1] rfl (by (try simp only [List.map_toArray, List.map_cons, List.map_nil]); first | done | rfl | (simp only [List.length_drop, List.length_take]; rfl)) ?_; (with_reducible refine (fixed_Round.calls (a0 / 8) a1 t108 _ A13.out).mono ?_); rintro e w' ⟨rfl, ⟨nd, rfl⟩⟩; refine ⟨_, rfl, ?_⟩) | ((with_reducible refine gate_callee (f := 31) rfl ?_); refine goesL_ (some 42) rfl rfl Try.func31 (by kernel_rfl) rfl #[.int .i64 (a0 / 8), .int .i64 a1] rfl (by (try simp only [List.map_toArray, List.map_cons, List.map_nil]); first | done | rfl | (simp only [List.length_drop, List.length_take]; rfl)) ?_; (with_reducible refine (fixed_Down.calls (a0 / 8) a1 t109 _ A14.out).mono ?_); rintro e w' ⟨rfl, ⟨nd, rfl⟩⟩; refine ⟨_, rfl, ?_⟩))
                        go_ret
                        exact ⟨by first | rfl | (simp; done) | (simp [*]; done), by repeat (first | exact Drawn0.refl _ | apply Drawn0.step)⟩
                  · rw [if_neg c19] at H
                    have c19b0 : decide ((wrap64 ((a0 / 8) - (wrap64 (t109 * a1)))) < a1) = false := decide_eq_false c19
                    clear c19
                    obtain rfl := Option.some.inj H
                    go_wp2_with (first | ((with_reducible refine gate_callee (f := 30) rfl ?_); refine goesL_ (some 39) rfl rfl Try.func30 (by kernel_rfl) rfl #[.int .i64 (a0 / 8), .int .i64 a1] rfl (by (try simp only [List.map_toArray, List.map_cons, List.map_nil]); first | done | rfl | (simp only [List.length_drop, List.length_take]; rfl)) ?_; (with_reducible refine (fixed_Round.calls (a0 / 8) a1 t108 _ A13.out).mono ?_); rintro e w' ⟨rfl, ⟨nd, rfl⟩⟩; refine ⟨_, rfl, ?_⟩) | ((with_reducible refine gate_callee (f := 31) rfl ?_); refine goesL_ (some 42) rfl rfl Try.func31 (by kernel_rfl) rfl #[.int .i64 (a0 / 8), .int .i64 a1] rfl (by (try simp only [List.map_toArray, List.map_cons, List.map_nil]); first | done | rfl | (simp only [List.length_drop, List.length_take]; rfl)) ?_; (with_reducible refine (fixed_Down.calls (a0 / 8) a1 t109 _ A14.out).mono ?_); rintro e w' ⟨rfl, ⟨nd, rfl⟩⟩; refine ⟨_, rfl, ?_⟩))
                    go_ret
                    exact ⟨by first | rfl | (simp; done) | (simp [*]; done), by repeat (first | exact Drawn0.refl _ | apply Drawn0.step)⟩
                · rw [if_neg c18] at H
                  have c18b0 : decide ((wrap64 (t109 * a1)) ≤ (a0 / 8)) = false := decide_eq_false c18
                  clear c18
                  obtain rfl := Option.some.inj H
                  go_wp2_with (first | ((with_reducible refine gate_callee (f := 30) rfl ?_); refine goesL_ (some 39) rfl rfl Try.func30 (by kernel_rfl) rfl #[.int .i64 (a0 / 8), .int .i64 a1] rfl (by (try simp only [List.map_toArray, List.map_cons, List.map_nil]); first | done | rfl | (simp only [List.length_drop, List.length_take]; rfl)) ?_; (with_reducible refine (fixed_Round.calls (a0 / 8) a1 t108 _ A13.out).mono ?_); rintro e w' ⟨rfl, ⟨nd, rfl⟩⟩; refine ⟨_, rfl, ?_⟩) | ((with_reducible refine gate_callee (f := 31) rfl ?_); refine goesL_ (some 42) rfl rfl Try.func31 (by kernel_rfl) rfl #[.int .i64 (a0 / 8), .int .i64 a1] rfl (by (try simp only [List.map_toArray, List.map_cons, List.map_nil]); first | done | rfl | (simp only [List.length_drop, List.length_take]; rfl)) ?_; (with_reducible refine (fixed_Down.calls (a0 / 8) a1 t109 _ A14.out).mono ?_); rintro e w' ⟨rfl, ⟨nd, rfl⟩⟩; refine ⟨_, rfl, ?_⟩))
                  go_ret
                  exact ⟨by first | rfl | (simp; done) | (simp [*]; done), by repeat (first | exact Drawn0.refl _ | apply Drawn0.step)⟩
              · rw [if_neg c17] at H
                have c17b0 : decide ((wrap64 (-a1)) < (wrap64 (2 * (wrap64 ((wrap64 (t108 * a1)) - (a0 / 8)))))) = false := decide_eq_false c17
                clear c17
                obtain rfl := Option.some.inj H
                go_wp2_with (first | ((with_reducible refine gate_callee (f := 30) rfl ?_); refine goesL_ (some 39) rfl rfl Try.func30 (by kernel_rfl) rfl #[.int .i64 (a0 / 8), .int .i64 a1] rfl (by (try simp only [List.map_toArray, List.map_cons, List.map_nil]); first | done | rfl | (simp only [List.length_drop, List.length_take]; rfl)) ?_; (with_reducible refine (fixed_Round.calls (a0 / 8) a1 t108 _ A13.out).mono ?_); rintro e w' ⟨rfl, ⟨nd, rfl⟩⟩; refine ⟨_, rfl, ?_⟩) | ((with_reducible refine gate_callee (f := 31) rfl ?_); refine goesL_ (some 42) rfl rfl Try.func31 (by kernel_rfl) rfl #[.int .i64 (a0 / 8), .int .i64 a1] rfl (by (try simp only [List.map_toArray, List.map_cons, List.map_nil]); first | done | rfl | (simp only [List.length_drop, List.length_take]; rfl)) ?_; (with_reducible refine (fixed_Down.calls (a0 / 8) a1 t109 _ A14.out).mono ?_); rintro e w' ⟨rfl, ⟨nd, rfl⟩⟩; refine ⟨_, rfl, ?_⟩))
                go_ret
                exact ⟨by first | rfl | (simp; done) | (simp [*]; done), by repeat (first | exact Drawn0.refl _ | apply Drawn0.step)⟩
            · rw [if_neg c16] at H
              have c16b0 : decide ((wrap64 (2 * (wrap64 ((wrap64 (t108 * a1)) - (a0 / 8))))) ≤ a1) = false := decide_eq_false c16
              clear c16
              obtain rfl := Option.some.inj H
              go_wp2_with (first | ((with_reducible refine gate_callee (f := 30) rfl ?_); refine goesL_ (some 39) rfl rfl Try.func30 (by kernel_rfl) rfl #[.int .i64 (a0 / 8), .int .i64 a1] rfl (by (try simp only [List.map_toArray, List.map_cons, List.map_nil]); first | done | rfl | (simp only [List.length_drop, List.length_take]; rfl)) ?_; (with_reducible refine (fixed_Round.calls (a0 / 8) a1 t108 _ A13.out).mono ?_); rintro e w' ⟨rfl, ⟨nd, rfl⟩⟩; refine ⟨_, rfl, ?_⟩) | ((with_reducible refine gate_callee (f := 31) rfl ?_); refine goesL_ (some 42) rfl rfl Try.func31 (by kernel_rfl) rfl #[.int .i64 (a0 / 8), .int .i64 a1] rfl (by (try simp only [List.map_toArray, List.map_cons, List.map_nil]); first | done | rfl | (simp only [List.length_drop, List.length_take]; rfl)) ?_; (with_reducible refine (fixed_Down.calls (a0 / 8) a1 t109 _ A14.out).mono ?_); rintro e w' ⟨rfl, ⟨nd, rfl⟩⟩; refine ⟨_, rfl, ?_⟩))
              go_ret
              exact ⟨by first | rfl | (simp; done) | (simp [*]; done), by repeat (first | exact Drawn0.refl _ | apply Drawn0.step)⟩
          · exact absurd rfl c15
  · replace c4 := Bool.eq_false_iff.mpr c4
    subst c4
    have H1 : (some false) = some r := by rw [if_neg (show ¬ (false = true) by decide)] at H; exact H
    clear H
    have H := H1
    clear H1
    obtain rfl := Option.some.inj H
    go_enter Try.func7, Try.ntmps7
    go_wp2_with (first | ((with_reducible refine gate_callee (f := 29) rfl ?_); refine goesL_ (some 9) rfl rfl Try.func29 (by kernel_rfl) rfl #[] rfl (by (try simp only [List.map_toArray, List.map_cons, List.map_nil]); first | done | rfl | (simp only [List.length_drop, List.length_take]; rfl)) ?_; (with_reducible refine (glyphiclaw1_first.calls k  false _ A3.out).mono ?_); rintro e w' ⟨rfl, ⟨nd, rfl⟩⟩; refine ⟨_, rfl, ?_⟩))
    go_ret
    exact ⟨by first | rfl | (simp; done) | (simp [*]; done), by repeat (first | exact Drawn0.refl _ | apply Drawn0.step)⟩

/-- THE ONE PURE STATEMENT of glyphiclaw1_FixedNearest: yours. -/
def glyphiclaw1_FixedNearest.Pure : Prop := ∀ (a0 : Int) (a1 : Int), (Lit.int .i64 a0).wf = true → (Lit.int .i64 a1).wf = true → ∃ k, glyphiclaw1_FixedNearest.f k a0 a1 = some true
theorem glyphiclaw1_FixedNearest.walk (P : glyphiclaw1_FixedNearest.Pure) (a0 : Int) (a1 : Int) (w : World) (w0 : (Lit.int .i64 a0).wf = true) (w1 : (Lit.int .i64 a1).wf = true) :
    Calls Try.prog 7 #[.int .i64 a0, .int .i64 a1] w fun e w' => e = .returned (.bool true) ∧ Below w.heap.size w w' := by
  obtain ⟨k, h⟩ := P a0 a1 w0 w1
  refine (glyphiclaw1_FixedNearest.calls k a0 a1 true w h).mono ?_
  rintro e w' ⟨rfl, hd⟩
  exact ⟨rfl, hd.below⟩

end Go.Proofs.Ytgaikembekkfiaa.MFixedNearest
