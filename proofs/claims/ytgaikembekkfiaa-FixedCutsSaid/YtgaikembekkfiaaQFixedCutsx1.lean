/- Functions of a Go program as Lean functions, each with its walk, or the row of a law. Written by a program of this session after the pattern of the print. -/
import Derived.Test.YtgaikembekkfiaaQFixedCutsx0
namespace Go.Proofs.Ytgaikembekkfiaa.QFixedCuts
open Go.RowKit Go.Proofs.YtgaikembekkfiaaW.PrintWords Go.Proofs.YtgaikembekkfiaaW.PrintLast Go.Proofs.YtgaikembekkfiaaW.PrintMore
attribute [local go_sem] max2_int min2_int max_two min_two max_three min_three max_four min_four   -- for this text's walks alone
set_option linter.unusedVariables false
set_option linter.unusedSimpArgs false

/-! ### fixed_Down: function 31 -/
def fixed_Down.f (a0 : Int) (a1 : Int) : Option (Int) := if a1 < 1 then (some 0) else (if a1 = 0 then (none) else (if (Int.tmod a0 a1) < 0 then (some (wrap64 ((wrap64 (Int.tdiv a0 a1)) - 1))) else (some (wrap64 (Int.tdiv a0 a1)))))
set_option maxHeartbeats 8000000 in
set_option maxRecDepth 100000 in
theorem fixed_Down.calls (a0 : Int) (a1 : Int) (r : Int) (w : World) (h : fixed_Down.f a0 a1 = some r) :
    Calls Try.prog 31 #[.int .i64 a0, .int .i64 a1] w fun e w' => e = .returned (.int .i64 r) ∧ Drawn0 w w' := by
  have H : (if a1 < 1 then (some 0) else (if a1 = 0 then (none) else (if (Int.tmod a0 a1) < 0 then (some (wrap64 ((wrap64 (Int.tdiv a0 a1)) - 1))) else (some (wrap64 (Int.tdiv a0 a1)))))) = some r := h
  clear h
  by_cases c3 : a1 < 1
  · rw [if_pos c3] at H
    have c3b0 : decide (a1 < 1) = true := decide_eq_true c3
    clear c3
    obtain rfl := Option.some.inj H
    go_enter Try.func31, Try.ntmps31
    go_wp2
    go_ret
    exact ⟨by first | rfl | (simp; done) | (simp [*]; done), by repeat (first | exact Drawn0.refl _ | apply Drawn0.step)⟩
  · rw [if_neg c3] at H
    have c3b0 : decide (a1 < 1) = false := decide_eq_false c3
    clear c3
    by_cases c4 : a1 = 0
    · rw [if_pos c4] at H
      exact absurd H (by simp)
    · rw [if_neg c4] at H
      have c4b0 : (a1 == 0) = false := beq_eq_false_iff_ne.mpr c4
      have c4b1 : (a1 != 0) = true := bne_iff_ne.mpr c4
      by_cases c5 : (Int.tmod a0 a1) < 0
      · rw [if_pos c5] at H
        have c5b0 : decide ((Int.tmod a0 a1) < 0) = true := decide_eq_true c5
        clear c5
        obtain rfl := Option.some.inj H
        go_enter Try.func31, Try.ntmps31
        go_wp2
        go_ret
        exact ⟨by first | rfl | (simp; done) | (simp [*]; done), by repeat (first | exact Drawn0.refl _ | apply Drawn0.step)⟩
      · rw [if_neg c5] at H
        have c5b0 : decide ((Int.tmod a0 a1) < 0) = false := decide_eq_false c5
        clear c5
        obtain rfl := Option.some.inj H
        go_enter Try.func31, Try.ntmps31
        go_wp2
        go_ret
        exact ⟨by first | rfl | (simp; done) | (simp [*]; done), by repeat (first | exact Drawn0.refl _ | apply Drawn0.step)⟩

/-! ### fixed_Round: function 30 -/
def fixed_Round.f (a0 : Int) (a1 : Int) : Option (Int) := if a1 < 1 then (some 0) else ((fixed_Down.f a0 a1).bind fun t101 => (if (wrap64 (a0 - (wrap64 (t101 * a1)))) ≥ (wrap64 (a1 - (wrap64 (a0 - (wrap64 (t101 * a1)))))) then (some (wrap64 (t101 + 1))) else (some t101)))
set_option maxHeartbeats 8000000 in
set_option maxRecDepth 100000 in
theorem fixed_Round.calls (a0 : Int) (a1 : Int) (r : Int) (w : World) (h : fixed_Round.f a0 a1 = some r) :
    Calls Try.prog 30 #[.int .i64 a0, .int .i64 a1] w fun e w' => e = .returned (.int .i64 r) ∧ Drawn0 w w' := by
  have H : (if a1 < 1 then (some 0) else ((fixed_Down.f a0 a1).bind fun t101 => (if (wrap64 (a0 - (wrap64 (t101 * a1)))) ≥ (wrap64 (a1 - (wrap64 (a0 - (wrap64 (t101 * a1)))))) then (some (wrap64 (t101 + 1))) else (some t101)))) = some r := h
  clear h
  by_cases c3 : a1 < 1
  · rw [if_pos c3] at H
    have c3b0 : decide (a1 < 1) = true := decide_eq_true c3
    clear c3
    obtain rfl := Option.some.inj H
    go_enter Try.func30, Try.ntmps30
    go_wp2
    go_ret
    exact ⟨by first | rfl | (simp; done) | (simp [*]; done), by repeat (first | exact Drawn0.refl _ | apply Drawn0.step)⟩
  · rw [if_neg c3] at H
    have c3b0 : decide (a1 < 1) = false := decide_eq_false c3
    clear c3
    replace H := Option.bind_eq_some_iff.mp H
    obtain ⟨t101, A40, H⟩ := H
    replace H : (if (wrap64 (a0 - (wrap64 (t101 * a1)))) ≥ (wrap64 (a1 - (wrap64 (a0 - (wrap64 (t101 * a1)))))) then (some (wrap64 (t101 + 1))) else (some t101)) = some r := H
    have A4 := Aside0.mk A40
    clear A40
    by_cases c5 : (wrap64 (a0 - (wrap64 (t101 * a1)))) ≥ (wrap64 (a1 - (wrap64 (a0 - (wrap64 (t101 * a1))))))
    · rw [if_pos c5] at H
      have c5b0 : decide ((wrap64 (a1 - (wrap64 (a0 - (wrap64 (t101 * a1)))))) ≤ (wrap64 (a0 - (wrap64 (t101 * a1))))) = true := decide_eq_true c5
      clear c5
      obtain rfl := Option.some.inj H
      go_enter Try.func30, Try.ntmps30
      go_wp2_with (first | ((with_reducible refine gate_callee (f := 31) rfl ?_); refine goesL_ (some 11) rfl rfl Try.func31 (by kernel_rfl) rfl #[.int .i64 a0, .int .i64 a1] rfl (by (try simp only [List.map_toArray, List.map_cons, List.map_nil]); first | done | rfl | (simp only [List.length_drop, List.length_take]; rfl)) ?_; (with_reducible refine (fixed_Down.calls a0 a1 t101 _ A4.out).mono ?_); rintro e w' ⟨rfl, ⟨nd, rfl⟩⟩; refine ⟨_, rfl, ?_⟩))
      go_ret
      exact ⟨by first | rfl | (simp; done) | (simp [*]; done), by repeat (first | exact Drawn0.refl _ | apply Drawn0.step)⟩
    · rw [if_neg c5] at H
      have c5b0 : decide ((wrap64 (a1 - (wrap64 (a0 - (wrap64 (t101 * a1)))))) ≤ (wrap64 (a0 - (wrap64 (t101 * a1))))) = false := decide_eq_false c5
      clear c5
      obtain rfl := Option.some.inj H
      go_enter Try.func30, Try.ntmps30
      go_wp2_with (first | ((with_reducible refine gate_callee (f := 31) rfl ?_); refine goesL_ (some 11) rfl rfl Try.func31 (by kernel_rfl) rfl #[.int .i64 a0, .int .i64 a1] rfl (by (try simp only [List.map_toArray, List.map_cons, List.map_nil]); first | done | rfl | (simp only [List.length_drop, List.length_take]; rfl)) ?_; (with_reducible refine (fixed_Down.calls a0 a1 t101 _ A4.out).mono ?_); rintro e w' ⟨rfl, ⟨nd, rfl⟩⟩; refine ⟨_, rfl, ?_⟩))
      go_ret
      exact ⟨by first | rfl | (simp; done) | (simp [*]; done), by repeat (first | exact Drawn0.refl _ | apply Drawn0.step)⟩

/-! ### fixed_Sqrt: function 32 -/
def fixed_Sqrt.l0 : Nat → Int → Int → Int → Option (Int)
  | 0, _, _, _ => none
  | k + 1, x0, x3, x4 => if (wrap64 (x4 - x3)) > 1 then (if (wrap64 (x3 + (wrap64 (Int.tdiv (wrap64 (x4 - x3)) 2)))) = 0 then (none) else (if (wrap64 (x3 + (wrap64 (Int.tdiv (wrap64 (x4 - x3)) 2)))) ≤ (wrap64 (Int.tdiv x0 (wrap64 (x3 + (wrap64 (Int.tdiv (wrap64 (x4 - x3)) 2)))))) then (fixed_Sqrt.l0 k x0 (wrap64 (x3 + (wrap64 (Int.tdiv (wrap64 (x4 - x3)) 2)))) x4) else (fixed_Sqrt.l0 k x0 x3 (wrap64 (x3 + (wrap64 (Int.tdiv (wrap64 (x4 - x3)) 2))))))) else (some x3)
def fixed_Sqrt.f (k : Nat) (a0 : Int) : Option (Int) := if a0 < 1 then (some 0) else (fixed_Sqrt.l0 k a0 0 4294967296)
theorem fixed_Sqrt.mono_l : ∀ k, (∀ y0 y1 y2, LeO (fixed_Sqrt.l0 k y0 y1 y2) (fixed_Sqrt.l0 (k + 1) y0 y1 y2))
  | 0 => fun _ _ _ r h => by simp [fixed_Sqrt.l0] at h
  | k + 1 => by
    have ih0 := fixed_Sqrt.mono_l k
    · intro y0 y1 y2
      unfold fixed_Sqrt.l0
      repeat' first
      | (with_reducible exact ih0 _ _ _)
      | (with_reducible exact LeO.refl _)
      | (with_reducible exact LeO.none _)
      | (with_reducible refine LeO.ite ?_ ?_)
      | (with_reducible refine LeO.bind ?_ (fun _ => ?_))
      | exact ih0 _ _ _
      | exact LeO.none _
      | refine LeO.ite ?_ ?_
      | refine LeO.bind ?_ (fun _ => ?_)
theorem fixed_Sqrt.mono : ∀ a0 k, LeO (fixed_Sqrt.f k a0) (fixed_Sqrt.f (k + 1) a0) := by
  intro a0 k
  have ih0 := fixed_Sqrt.mono_l k
  unfold fixed_Sqrt.f
  repeat' first
      | (with_reducible exact ih0 _ _ _)
      | (with_reducible exact LeO.refl _)
      | (with_reducible exact LeO.none _)
      | (with_reducible refine LeO.ite ?_ ?_)
      | (with_reducible refine LeO.bind ?_ (fun _ => ?_))
      | exact ih0 _ _ _
      | exact LeO.none _
      | refine LeO.ite ?_ ?_
      | refine LeO.bind ?_ (fun _ => ?_)
set_option maxHeartbeats 8000000 in
set_option maxRecDepth 100000 in
theorem fixed_Sqrt.calls (k : Nat) (a0 : Int) (r : Int) (w : World) (h : fixed_Sqrt.f k a0 = some r) :
    Calls Try.prog 32 #[.int .i64 a0] w fun e w' => e = .returned (.int .i64 r) ∧ Drawn0 w w' := by
  have H : (if a0 < 1 then (some 0) else (fixed_Sqrt.l0 k a0 0 4294967296)) = some r := h
  clear h
  by_cases c2 : a0 < 1
  · rw [if_pos c2] at H
    have c2b0 : decide (a0 < 1) = true := decide_eq_true c2
    clear c2
    obtain rfl := Option.some.inj H
    go_enter Try.func32, Try.ntmps32
    go_wp2
    go_ret
    exact ⟨by first | rfl | (simp; done) | (simp [*]; done), by repeat (first | exact Drawn0.refl _ | apply Drawn0.step)⟩
  · rw [if_neg c2] at H
    have c2b0 : decide (a0 < 1) = false := decide_eq_false c2
    clear c2
    have H' := Aside0.mk H
    clear H
    go_enter Try.func32, Try.ntmps32
    go_wp2
    go_loopg [3, 4] k (fun kq v3 v4 w' => ∃ (x3_1 : Int) (x4_1 : Int), v3 = .int .i64 x3_1 ∧ v4 = .int .i64 x4_1 ∧ Aside0 (fixed_Sqrt.l0 kq a0 x3_1 x4_1 = some r) ∧ Aside0 (kq ≤ k) ∧ Drawn0 w w')
    case atStart => exact ⟨(0), (4294967296), (by first | rfl | (simp; done) | (simp [*]; done)), (by first | rfl | (simp; done) | (simp [*]; done)), H', ⟨Nat.le_refl _⟩, by repeat (first | exact Drawn0.refl _ | apply Drawn0.step)⟩
    case round =>
      clear H'
      try clear c2
      try clear c2b0
      try clear p2
      obtain ⟨x3_1, x4_1, rfl, rfl, HA, HK1, ⟨m1, rfl⟩⟩ := hrel
      cases gk with
      | zero => exact absurd HA.out (by simp [fixed_Sqrt.l0])
      | succ k1 =>
        have H := HA.out
        clear HA
        simp only [fixed_Sqrt.l0] at H
        by_cases c3 : (wrap64 (x4_1 - x3_1)) > 1
        · rw [if_pos c3] at H
          have c3b0 : decide (1 < (wrap64 (x4_1 - x3_1))) = true := decide_eq_true c3
          clear c3
          by_cases c4 : (wrap64 (x3_1 + (wrap64 (Int.tdiv (wrap64 (x4_1 - x3_1)) 2)))) = 0
          · rw [if_pos c4] at H
            exact absurd H (by simp)
          · rw [if_neg c4] at H
            have c4b0 : ((wrap64 (x3_1 + (wrap64 (Int.tdiv (wrap64 (x4_1 - x3_1)) 2)))) == 0) = false := beq_eq_false_iff_ne.mpr c4
            have c4b1 : ((wrap64 (x3_1 + (wrap64 (Int.tdiv (wrap64 (x4_1 - x3_1)) 2)))) != 0) = true := bne_iff_ne.mpr c4
            by_cases c5 : (wrap64 (x3_1 + (wrap64 (Int.tdiv (wrap64 (x4_1 - x3_1)) 2)))) ≤ (wrap64 (Int.tdiv a0 (wrap64 (x3_1 + (wrap64 (Int.tdiv (wrap64 (x4_1 - x3_1)) 2))))))
            · rw [if_pos c5] at H
              have c5b0 : decide ((wrap64 (x3_1 + (wrap64 (Int.tdiv (wrap64 (x4_1 - x3_1)) 2)))) ≤ (wrap64 (Int.tdiv a0 (wrap64 (x3_1 + (wrap64 (Int.tdiv (wrap64 (x4_1 - x3_1)) 2))))))) = true := decide_eq_true c5
              clear c5
              have H' := Aside0.mk H
              clear H
              go_wp2
              go_roundg k1
              case measure => have := HK1.out; omega
              case rel => exact ⟨(wrap64 (x3_1 + (wrap64 (Int.tdiv (wrap64 (x4_1 - x3_1)) 2)))), (x4_1), (by first | rfl | (simp; done) | (simp [*]; done)), (by first | rfl | (simp; done) | (simp [*]; done)), H', ⟨by have := HK1.out; omega⟩, by repeat (first | exact Drawn0.refl _ | apply Drawn0.step)⟩
            · rw [if_neg c5] at H
              have c5b0 : decide ((wrap64 (x3_1 + (wrap64 (Int.tdiv (wrap64 (x4_1 - x3_1)) 2)))) ≤ (wrap64 (Int.tdiv a0 (wrap64 (x3_1 + (wrap64 (Int.tdiv (wrap64 (x4_1 - x3_1)) 2))))))) = false := decide_eq_false c5
              clear c5
              have H' := Aside0.mk H
              clear H
              go_wp2
              go_roundg k1
              case measure => have := HK1.out; omega
              case rel => exact ⟨(x3_1), (wrap64 (x3_1 + (wrap64 (Int.tdiv (wrap64 (x4_1 - x3_1)) 2)))), (by first | rfl | (simp; done) | (simp [*]; done)), (by first | rfl | (simp; done) | (simp [*]; done)), H', ⟨by have := HK1.out; omega⟩, by repeat (first | exact Drawn0.refl _ | apply Drawn0.step)⟩
        · rw [if_neg c3] at H
          have c3b0 : decide (1 < (wrap64 (x4_1 - x3_1))) = false := decide_eq_false c3
          clear c3
          obtain rfl := Option.some.inj H
          go_wp2
          go_ret
          exact ⟨by first | rfl | (simp; done) | (simp [*]; done), by repeat (first | exact Drawn0.refl _ | apply Drawn0.step)⟩

/-! ### glyphiclaw1_first: function 29 -/
def glyphiclaw1_first.f (k : Nat)  : Option (Bool) := (fixed_Round.f (-1) 2).bind fun t102 => (if t102 = 0 then ((fixed_Round.f 3 2).bind fun t103 => (if t103 = 2 then ((fixed_Sqrt.f k 17).bind fun t104 => (some (t104 == 4))) else (some false))) else (some false))
theorem glyphiclaw1_first.mono : ∀ k, LeO (glyphiclaw1_first.f k ) (glyphiclaw1_first.f (k + 1) ) := by
  intro  k
  unfold glyphiclaw1_first.f
  repeat' first
      | (with_reducible exact fixed_Sqrt.mono _ _)
      | (with_reducible exact LeO.refl _)
      | (with_reducible exact LeO.none _)
      | (with_reducible refine LeO.ite ?_ ?_)
      | (with_reducible refine LeO.bind ?_ (fun _ => ?_))
      | exact fixed_Sqrt.mono _ _
      | exact LeO.none _
      | refine LeO.ite ?_ ?_
      | refine LeO.bind ?_ (fun _ => ?_)
set_option maxHeartbeats 8000000 in
set_option maxRecDepth 100000 in
theorem glyphiclaw1_first.calls (k : Nat)  (r : Bool) (w : World) (h : glyphiclaw1_first.f k  = some r) :
    Calls Try.prog 29 #[] w fun e w' => e = .returned (.bool r) ∧ Drawn0 w w' := by
  have H : ((fixed_Round.f (-1) 2).bind fun t102 => (if t102 = 0 then ((fixed_Round.f 3 2).bind fun t103 => (if t103 = 2 then ((fixed_Sqrt.f k 17).bind fun t104 => (some (t104 == 4))) else (some false))) else (some false))) = some r := h
  clear h
  replace H := Option.bind_eq_some_iff.mp H
  obtain ⟨t102, A10, H⟩ := H
  replace H : (if t102 = 0 then ((fixed_Round.f 3 2).bind fun t103 => (if t103 = 2 then ((fixed_Sqrt.f k 17).bind fun t104 => (some (t104 == 4))) else (some false))) else (some false)) = some r := H
  have A1 := Aside0.mk A10
  clear A10
  by_cases c2 : t102 = 0
  · rw [if_pos c2] at H
    have c2b0 : (t102 == 0) = true := beq_iff_eq.mpr c2
    have c2b1 : (t102 != 0) = false := bne_eq_false_iff_eq.mpr c2
    clear c2
    replace H := Option.bind_eq_some_iff.mp H
    obtain ⟨t103, A30, H⟩ := H
    replace H : (if t103 = 2 then ((fixed_Sqrt.f k 17).bind fun t104 => (some (t104 == 4))) else (some false)) = some r := H
    have A3 := Aside0.mk A30
    clear A30
    by_cases c4 : t103 = 2
    · rw [if_pos c4] at H
      have c4b0 : (t103 == 2) = true := beq_iff_eq.mpr c4
      have c4b1 : (t103 != 2) = false := bne_eq_false_iff_eq.mpr c4
      clear c4
      replace H := Option.bind_eq_some_iff.mp H
      obtain ⟨t104, A50, H⟩ := H
      replace H : (some (t104 == 4)) = some r := H
      have A5 := Aside0.mk A50
      clear A50
      obtain rfl := Option.some.inj H
      go_enter Try.func29, Try.ntmps29
      go_wp2_with (first | ((with_reducible refine gate_callee (f := 30) rfl ?_); refine goesL_ (some 1) rfl rfl Try.func30 (by kernel_rfl) rfl #[.int .i64 (-1), .int .i64 2] rfl (by (try simp only [List.map_toArray, List.map_cons, List.map_nil]); first | done | rfl | (simp only [List.length_drop, List.length_take]; rfl)) ?_; (with_reducible refine (fixed_Round.calls (-1) 2 t102 _ A1.out).mono ?_); rintro e w' ⟨rfl, ⟨nd, rfl⟩⟩; refine ⟨_, rfl, ?_⟩) | (go_at_call 30; (with_reducible refine (fixed_Round.calls 3 2 t103 _ A3.out).mono ?_); rintro e w' ⟨rfl, ⟨nd, rfl⟩⟩) | (go_at_call 32; (with_reducible refine (fixed_Sqrt.calls k 17 t104 _ A5.out).mono ?_); rintro e w' ⟨rfl, ⟨nd, rfl⟩⟩))
      go_ret
      exact ⟨by first | rfl | (simp; done) | (simp [*]; done), by repeat (first | exact Drawn0.refl _ | apply Drawn0.step)⟩
    · rw [if_neg c4] at H
      have c4b0 : (t103 == 2) = false := beq_eq_false_iff_ne.mpr c4
      have c4b1 : (t103 != 2) = true := bne_iff_ne.mpr c4
      obtain rfl := Option.some.inj H
      go_enter Try.func29, Try.ntmps29
      go_wp2_with (first | ((with_reducible refine gate_callee (f := 30) rfl ?_); refine goesL_ (some 1) rfl rfl Try.func30 (by kernel_rfl) rfl #[.int .i64 (-1), .int .i64 2] rfl (by (try simp only [List.map_toArray, List.map_cons, List.map_nil]); first | done | rfl | (simp only [List.length_drop, List.length_take]; rfl)) ?_; (with_reducible refine (fixed_Round.calls (-1) 2 t102 _ A1.out).mono ?_); rintro e w' ⟨rfl, ⟨nd, rfl⟩⟩; refine ⟨_, rfl, ?_⟩) | (go_at_call 30; (with_reducible refine (fixed_Round.calls 3 2 t103 _ A3.out).mono ?_); rintro e w' ⟨rfl, ⟨nd, rfl⟩⟩))
      go_ret
      exact ⟨by first | rfl | (simp; done) | (simp [*]; done), by repeat (first | exact Drawn0.refl _ | apply Drawn0.step)⟩
  · rw [if_neg c2] at H
    have c2b0 : (t102 == 0) = false := beq_eq_false_iff_ne.mpr c2
    have c2b1 : (t102 != 0) = true := bne_iff_ne.mpr c2
    obtain rfl := Option.some.inj H
    go_enter Try.func29, Try.ntmps29
    go_wp2_with (first | ((with_reducible refine gate_callee (f := 30) rfl ?_); refine goesL_ (some 1) rfl rfl Try.func30 (by kernel_rfl) rfl #[.int .i64 (-1), .int .i64 2] rfl (by (try simp only [List.map_toArray, List.map_cons, List.map_nil]); first | done | rfl | (simp only [List.length_drop, List.length_take]; rfl)) ?_; (with_reducible refine (fixed_Round.calls (-1) 2 t102 _ A1.out).mono ?_); rintro e w' ⟨rfl, ⟨nd, rfl⟩⟩; refine ⟨_, rfl, ?_⟩))
    go_ret
    exact ⟨by first | rfl | (simp; done) | (simp [*]; done), by repeat (first | exact Drawn0.refl _ | apply Drawn0.step)⟩

/-! ### fixed_Clamp: function 33 -/
def fixed_Clamp.f (a0 : Int) (a1 : Int) (a2 : Int) : Option (Int) := some (mx (mn a0 a2) a1)
set_option maxHeartbeats 8000000 in
set_option maxRecDepth 100000 in
theorem fixed_Clamp.calls (a0 : Int) (a1 : Int) (a2 : Int) (r : Int) (w : World) (h : fixed_Clamp.f a0 a1 a2 = some r) :
    Calls Try.prog 33 #[.int .i64 a0, .int .i64 a1, .int .i64 a2] w fun e w' => e = .returned (.int .i64 r) ∧ Below w.heap.size w w' := by
  have HB := Aside0.mk (Below.refl w.heap.size w)
  have H : (some (mx (mn a0 a2) a1)) = some r := h
  clear h
  obtain ⟨ji4, hji4⟩ : ∃ j_ : Int, (mn a0 a2) = j_ := ⟨_, rfl⟩
  replace H : (some (mx (ji4) a1)) = some r := by first | (rw [hji4] at H; exact H) | (simp only [hji4] at H ⊢; exact H)
  have hji4_ : (if a2 < a0 then a2 else a0) = ji4 := hji4
  obtain ⟨ji5, hji5⟩ : ∃ j_ : Int, (mx (ji4) a1) = j_ := ⟨_, rfl⟩
  replace H : (some ji5) = some r := by first | (rw [hji5] at H; exact H) | (simp only [hji5] at H ⊢; exact H)
  have hji5_ : (if (ji4) < a1 then a1 else (ji4)) = ji5 := hji5
  obtain rfl := Option.some.inj H
  go_enter Try.func33, Try.ntmps33
  go_wp2
  go_ret
  exact ⟨by first | rfl | (simp [errW_none, errW_some] <;> rfl) | (simp only [← hji4, ← hji5]; first | rfl | (simp [errW_none, errW_some] <;> rfl)) | (simp [*, errW_none, errW_some] <;> rfl), by repeat (first | (with_reducible first | exact HB.out | apply below_alloc | apply pw_below_drewN | apply below_drew1) | exact HB.out)⟩

/-! ### glyphicref1_Down: function 34 -/
def glyphicref1_Down.f (a0 : Int) (a1 : Int) : Option (Int) := if a1 < 1 then (some 0) else (if a1 = 0 then (none) else (if (Int.tmod a0 a1) < 0 then (some (wrap64 ((wrap64 (Int.tdiv a0 a1)) - 1))) else (some (wrap64 (Int.tdiv a0 a1)))))
set_option maxHeartbeats 8000000 in
set_option maxRecDepth 100000 in
theorem glyphicref1_Down.calls (a0 : Int) (a1 : Int) (r : Int) (w : World) (h : glyphicref1_Down.f a0 a1 = some r) :
    Calls Try.prog 34 #[.int .i64 a0, .int .i64 a1] w fun e w' => e = .returned (.int .i64 r) ∧ Drawn0 w w' := by
  have H : (if a1 < 1 then (some 0) else (if a1 = 0 then (none) else (if (Int.tmod a0 a1) < 0 then (some (wrap64 ((wrap64 (Int.tdiv a0 a1)) - 1))) else (some (wrap64 (Int.tdiv a0 a1)))))) = some r := h
  clear h
  by_cases c3 : a1 < 1
  · rw [if_pos c3] at H
    have c3b0 : decide (a1 < 1) = true := decide_eq_true c3
    clear c3
    obtain rfl := Option.some.inj H
    go_enter Try.func34, Try.ntmps34
    go_wp2
    go_ret
    exact ⟨by first | rfl | (simp; done) | (simp [*]; done), by repeat (first | exact Drawn0.refl _ | apply Drawn0.step)⟩
  · rw [if_neg c3] at H
    have c3b0 : decide (a1 < 1) = false := decide_eq_false c3
    clear c3
    by_cases c4 : a1 = 0
    · rw [if_pos c4] at H
      exact absurd H (by simp)
    · rw [if_neg c4] at H
      have c4b0 : (a1 == 0) = false := beq_eq_false_iff_ne.mpr c4
      have c4b1 : (a1 != 0) = true := bne_iff_ne.mpr c4
      by_cases c5 : (Int.tmod a0 a1) < 0
      · rw [if_pos c5] at H
        have c5b0 : decide ((Int.tmod a0 a1) < 0) = true := decide_eq_true c5
        clear c5
        obtain rfl := Option.some.inj H
        go_enter Try.func34, Try.ntmps34
        go_wp2
        go_ret
        exact ⟨by first | rfl | (simp; done) | (simp [*]; done), by repeat (first | exact Drawn0.refl _ | apply Drawn0.step)⟩
      · rw [if_neg c5] at H
        have c5b0 : decide ((Int.tmod a0 a1) < 0) = false := decide_eq_false c5
        clear c5
        obtain rfl := Option.some.inj H
        go_enter Try.func34, Try.ntmps34
        go_wp2
        go_ret
        exact ⟨by first | rfl | (simp; done) | (simp [*]; done), by repeat (first | exact Drawn0.refl _ | apply Drawn0.step)⟩

/-! ### glyphiclaw1_FixedCuts: function 9 -/
mutual
def glyphiclaw1_FixedCuts.j0 : Nat → Int → Int → Int → Int → Int → Bool → Option (Bool)
  | 0, _, _, _, _, _, _ => none
  | k + 1, x0, x1, x2, x3, x4, x11 => (fixed_Clamp.f x0 x1 x2).bind fun t106 => (if x4 < 0 then (glyphiclaw1_FixedCuts.j1 k x0 x1 x2 (x3 / 8) (wrap64 (-(wrap64 (x4 + 1)))) x11 t106) else (glyphiclaw1_FixedCuts.j1 k x0 x1 x2 (x3 / 8) x4 x11 t106))
def glyphiclaw1_FixedCuts.j1 : Nat → Int → Int → Int → Int → Int → Bool → Int → Option (Bool)
  | 0, _, _, _, _, _, _, _ => none
  | k + 1, x0, x1, x2, x3, x4, x11, x12 => (fixed_Round.f x3 (wrap64 ((x4 / 16) + 1))).bind fun t107 => ((fixed_Round.f (wrap64 (-x3)) (wrap64 ((x4 / 16) + 1))).bind fun t108 => ((fixed_Down.f x3 (wrap64 ((x4 / 16) + 1))).bind fun t109 => (if x11 = true then (if x12 ≥ x1 then (if x12 ≤ x2 then (if x0 < x1 then (if (wrap64 (2 * (wrap64 (x3 - (wrap64 (t109 * (wrap64 ((x4 / 16) + 1)))))))) = (wrap64 ((x4 / 16) + 1)) then (if t108 = (wrap64 (1 - t107)) then ((glyphicref1_Down.f x3 (wrap64 ((x4 / 16) + 1))).bind fun t110 => ((fixed_Down.f x3 (wrap64 ((x4 / 16) + 1))).bind fun t111 => (some (t110 == t111)))) else (some false)) else (if t108 = (wrap64 (-t107)) then ((glyphicref1_Down.f x3 (wrap64 ((x4 / 16) + 1))).bind fun t112 => ((fixed_Down.f x3 (wrap64 ((x4 / 16) + 1))).bind fun t113 => (some (t112 == t113)))) else (some false))) else (if x0 > x2 then (if (wrap64 (2 * (wrap64 (x3 - (wrap64 (t109 * (wrap64 ((x4 / 16) + 1)))))))) = (wrap64 ((x4 / 16) + 1)) then (if t108 = (wrap64 (1 - t107)) then ((glyphicref1_Down.f x3 (wrap64 ((x4 / 16) + 1))).bind fun t114 => ((fixed_Down.f x3 (wrap64 ((x4 / 16) + 1))).bind fun t115 => (some (t114 == t115)))) else (some false)) else (if t108 = (wrap64 (-t107)) then ((glyphicref1_Down.f x3 (wrap64 ((x4 / 16) + 1))).bind fun t116 => ((fixed_Down.f x3 (wrap64 ((x4 / 16) + 1))).bind fun t117 => (some (t116 == t117)))) else (some false))) else (if x12 = x0 then (if (wrap64 (2 * (wrap64 (x3 - (wrap64 (t109 * (wrap64 ((x4 / 16) + 1)))))))) = (wrap64 ((x4 / 16) + 1)) then (if t108 = (wrap64 (1 - t107)) then ((glyphicref1_Down.f x3 (wrap64 ((x4 / 16) + 1))).bind fun t118 => ((fixed_Down.f x3 (wrap64 ((x4 / 16) + 1))).bind fun t119 => (some (t118 == t119)))) else (some false)) else (if t108 = (wrap64 (-t107)) then ((glyphicref1_Down.f x3 (wrap64 ((x4 / 16) + 1))).bind fun t120 => ((fixed_Down.f x3 (wrap64 ((x4 / 16) + 1))).bind fun t121 => (some (t120 == t121)))) else (some false))) else (some false)))) else (some false)) else (some false)) else (some false))))
end
def glyphiclaw1_FixedCuts.f (k : Nat) (a0 : Int) (a1 : Int) (a2 : Int) (a3 : Int) (a4 : Int) : Option (Bool) := (glyphiclaw1_first.f k).bind fun t105 => (if t105 = true then (if a1 > a2 then (glyphiclaw1_FixedCuts.j0 k a0 a2 a1 a3 a4 t105) else (glyphiclaw1_FixedCuts.j0 k a0 a1 a2 a3 a4 t105)) else (some false))
theorem glyphiclaw1_FixedCuts.mono_l : ∀ k, (∀ y0 y1 y2 y3 y4 y5, LeO (glyphiclaw1_FixedCuts.j0 k y0 y1 y2 y3 y4 y5) (glyphiclaw1_FixedCuts.j0 (k + 1) y0 y1 y2 y3 y4 y5)) ∧ (∀ y0 y1 y2 y3 y4 y5 y6, LeO (glyphiclaw1_FixedCuts.j1 k y0 y1 y2 y3 y4 y5 y6) (glyphiclaw1_FixedCuts.j1 (k + 1) y0 y1 y2 y3 y4 y5 y6))
  | 0 => ⟨fun _ _ _ _ _ _ r h => by simp [glyphiclaw1_FixedCuts.j0] at h, fun _ _ _ _ _ _ _ r h => by simp [glyphiclaw1_FixedCuts.j1] at h⟩
  | k + 1 => by
    obtain ⟨ih0, ih1⟩ := glyphiclaw1_FixedCuts.mono_l k
    refine ⟨?_, ?_⟩
    · intro y0 y1 y2 y3 y4 y5
      unfold glyphiclaw1_FixedCuts.j0
      repeat' first
      | (with_reducible exact ih0 _ _ _ _ _ _)
      | (with_reducible exact ih1 _ _ _ _ _ _ _)
      | (with_reducible exact glyphiclaw1_first.mono _)
      | (with_reducible exact LeO.refl _)
      | (with_reducible exact LeO.none _)
      | (with_reducible refine LeO.ite ?_ ?_)
      | (with_reducible refine LeO.bind ?_ (fun _ => ?_))
      | exact ih0 _ _ _ _ _ _
      | exact ih1 _ _ _ _ _ _ _
      | exact glyphiclaw1_first.mono _
      | exact LeO.none _
      | refine LeO.ite ?_ ?_
      | refine LeO.bind ?_ (fun _ => ?_)
    · intro y0 y1 y2 y3 y4 y5 y6
      unfold glyphiclaw1_FixedCuts.j1
      repeat' first
      | (with_reducible exact ih0 _ _ _ _ _ _)
      | (with_reducible exact ih1 _ _ _ _ _ _ _)
      | (with_reducible exact glyphiclaw1_first.mono _)
      | (with_reducible exact LeO.refl _)
      | (with_reducible exact LeO.none _)
      | (with_reducible refine LeO.ite ?_ ?_)
      | (with_reducible refine LeO.bind ?_ (fun _ => ?_))
      | exact ih0 _ _ _ _ _ _
      | exact ih1 _ _ _ _ _ _ _
      | exact glyphiclaw1_first.mono _
      | exact LeO.none _
      | refine LeO.ite ?_ ?_
      | refine LeO.bind ?_ (fun _ => ?_)
theorem glyphiclaw1_FixedCuts.mono : ∀ a0 a1 a2 a3 a4 k, LeO (glyphiclaw1_FixedCuts.f k a0 a1 a2 a3 a4) (glyphiclaw1_FixedCuts.f (k + 1) a0 a1 a2 a3 a4) := by
  intro a0 a1 a2 a3 a4 k
  obtain ⟨ih0, ih1⟩ := glyphiclaw1_FixedCuts.mono_l k
  unfold glyphiclaw1_FixedCuts.f
  repeat' first
      | (with_reducible exact ih0 _ _ _ _ _ _)
      | (with_reducible exact ih1 _ _ _ _ _ _ _)
      | (with_reducible exact glyphiclaw1_first.mono _)
      | (with_reducible exact LeO.refl _)
      | (with_reducible exact LeO.none _)
      | (with_reducible refine LeO.ite ?_ ?_)
      | (with_reducible refine LeO.bind ?_ (fun _ => ?_))
      | exact ih0 _ _ _ _ _ _
      | exact ih1 _ _ _ _ _ _ _
      | exact glyphiclaw1_first.mono _
      | exact LeO.none _
      | refine LeO.ite ?_ ?_
      | refine LeO.bind ?_ (fun _ => ?_)
set_option maxHeartbeats 8000000 in
set_option maxRecDepth 100000 in
theorem glyphiclaw1_FixedCuts.calls (k : Nat) (a0 : Int) (a1 : Int) (a2 : Int) (a3 : Int) (a4 : Int) (r : Bool) (w : World) (hr0_ : Aside0 (r = true)) (h : glyphiclaw1_FixedCuts.f k a0 a1 a2 a3 a4 = some r) :
    Calls Try.prog 9 #[.int .i64 a0, .int .i64 a1, .int .i64 a2, .int .i64 a3, .int .i64 a4] w fun e w' => e = .returned (.bool r) ∧ Below w.heap.size w w' := by
  have HB := Aside0.mk (Below.refl w.heap.size w)
  have H : ((glyphiclaw1_first.f k).bind fun t105 => (if t105 = true then (if a1 > a2 then (glyphiclaw1_FixedCuts.j0 k a0 a2 a1 a3 a4 t105) else (glyphiclaw1_FixedCuts.j0 k a0 a1 a2 a3 a4 t105)) else (some false))) = some r := h
  clear h
  replace H := Option.bind_eq_some_iff.mp H
  obtain ⟨t105, A60, H⟩ := H
  replace H : (if t105 = true then (if a1 > a2 then (glyphiclaw1_FixedCuts.j0 k a0 a2 a1 a3 a4 t105) else (glyphiclaw1_FixedCuts.j0 k a0 a1 a2 a3 a4 t105)) else (some false)) = some r := H
  have A6 := Aside0.mk A60
  clear A60
  by_cases c7 : t105 = true
  · subst c7
    have H1 : (if a1 > a2 then (glyphiclaw1_FixedCuts.j0 k a0 a2 a1 a3 a4 true) else (glyphiclaw1_FixedCuts.j0 k a0 a1 a2 a3 a4 true)) = some r := by rw [if_pos rfl] at H; exact H
    clear H
    have H := H1
    clear H1
    have HC8 := Aside0.mk H
    clear H
    go_enter Try.func9, Try.ntmps9
    go_upto_if 21 with (first | ((with_reducible refine gate_callee (f := 29) rfl ?_); refine goesL_ (some 16) rfl rfl Try.func29 (by kernel_rfl) rfl #[] rfl (by (try simp only [List.map_toArray, List.map_cons, List.map_nil]); first | done | rfl | (simp only [List.length_drop, List.length_take]; rfl)) ?_; (with_reducible refine (glyphiclaw1_first.calls k  true _ A6.out).mono ?_); rintro e w' ⟨rfl, ⟨nd, rfl⟩⟩; refine ⟨_, rfl, ?_⟩))
    (try simp only [Act.put, List.setIfInBounds_toArray, List.set_cons_zero, List.set_cons_succ])
    go_cut [1, 2] (fun v1 v2 wc => ∃ (kq : Nat) (x1_7 : Int) (x2_7 : Int), v1 = .int .i64 x1_7 ∧ v2 = .int .i64 x2_7 ∧ Aside0 (glyphiclaw1_FixedCuts.j0 kq a0 x1_7 x2_7 a3 a4 true = some r) ∧ Aside0 (kq ≤ k) ∧ Aside0 (Below w.heap.size w wc))
    case first =>
      have H := HC8.out
      clear HC8
      by_cases c9 : a1 > a2
      · rw [if_pos c9] at H
        have c9b0 : decide (a2 < a1) = true := decide_eq_true c9
        clear c9
        (first | rw [c9b0] | (simp only [i64_w, i32_w]; rw [c9b0]) | skip)
        have H' := Aside0.mk H
        clear H
        go_wp2
        go_meet
        case rel => exact ⟨_, (a2), (a1), (by first | rfl | (simp; done) | (simp [*]; done)), (by first | rfl | (simp; done) | (simp [*]; done)), H', ⟨by first | omega | exact Nat.le_refl _⟩, ⟨by repeat (first | (with_reducible first | exact HB.out | apply below_alloc | apply pw_below_drewN | apply below_drew1) | exact HB.out)⟩⟩
      · rw [if_neg c9] at H
        have c9b0 : decide (a2 < a1) = false := decide_eq_false c9
        clear c9
        (first | rw [c9b0] | (simp only [i64_w, i32_w]; rw [c9b0]) | skip)
        have H' := Aside0.mk H
        clear H
        go_wp2
        go_meet
        case rel => exact ⟨_, (a1), (a2), (by first | rfl | (simp; done) | (simp [*]; done)), (by first | rfl | (simp; done) | (simp [*]; done)), H', ⟨by first | omega | exact Nat.le_refl _⟩, ⟨by repeat (first | (with_reducible first | exact HB.out | apply below_alloc | apply pw_below_drewN | apply below_drew1) | exact HB.out)⟩⟩
    case rest =>
      clear HC8
      try clear c2
      try clear p2
      try clear c7
      try clear c9
      try clear c9b0
      obtain ⟨kq, x1_7, x2_7, rfl, rfl, HA, HJ7, HB⟩ := hcut
      cases kq with
      | zero => exact absurd HA.out (by simp [glyphiclaw1_FixedCuts.j0])
      | succ kj7 =>
        have H := HA.out
        clear HA
        simp only [glyphiclaw1_FixedCuts.j0] at H
        replace H := Option.bind_eq_some_iff.mp H
        obtain ⟨t106, A100, H⟩ := H
        replace H : (if a4 < 0 then (glyphiclaw1_FixedCuts.j1 kj7 a0 x1_7 x2_7 (a3 / 8) (wrap64 (-(wrap64 (a4 + 1)))) true t106) else (glyphiclaw1_FixedCuts.j1 kj7 a0 x1_7 x2_7 (a3 / 8) a4 true t106)) = some r := H
        have A10 := Aside0.mk A100
        clear A100
        have HC11 := Aside0.mk H
        clear H
        go_upto_if 31 with (first | ((with_reducible refine gate_callee (f := 33) rfl ?_); refine goesL_ (some 27) rfl rfl Try.func33 (by kernel_rfl) rfl #[.int .i64 a0, .int .i64 x1_7, .int .i64 x2_7] rfl (by (try simp only [List.map_toArray, List.map_cons, List.map_nil]); first | done | rfl | (simp only [List.length_drop, List.length_take]; rfl)) ?_; (with_reducible refine (fixed_Clamp.calls a0 x1_7 x2_7 t106 _ A10.out).mono ?_); rintro e w12 ⟨rfl, hb⟩; refine ⟨_, rfl, ?_⟩; have n0_ := Aside0.mk (below_step (by repeat (first | (with_reducible first | exact HB.out | apply below_alloc | apply pw_below_drewN | apply below_drew1) | exact HB.out)) hb); clear HB; have HB := n0_; clear n0_; (try clear hb); (try clear hb2); (try clear hk); (try clear hi)))
        (try simp only [Act.put, List.setIfInBounds_toArray, List.set_cons_zero, List.set_cons_succ])
        go_cut [4] (fun v4 wc => ∃ (kq : Nat) (x4_10 : Int), v4 = .int .i64 x4_10 ∧ Aside0 (glyphiclaw1_FixedCuts.j1 kq a0 x1_7 x2_7 (a3 / 8) x4_10 true t106 = some r) ∧ Aside0 (kq ≤ kj7) ∧ Aside0 (Below w.heap.size w wc))
        case first =>
          have H := HC11.out
          clear HC11
          by_cases c13 : a4 < 0
          · rw [if_pos c13] at H
            have c13b0 : decide (a4 < 0) = true := decide_eq_true c13
            clear c13
            (first | rw [c13b0] | (simp only [i64_w, i32_w]; rw [c13b0]) | skip)
            have H' := Aside0.mk H
            clear H
            go_wp2
            go_meet
            case rel => exact ⟨_, (wrap64 (-(wrap64 (a4 + 1)))), (by first | rfl | (simp; done) | (simp [*]; done)), H', ⟨by have := HJ7.out; first | omega | exact Nat.le_refl _⟩, ⟨by repeat (first | (with_reducible first | exact HB.out | apply below_alloc | apply pw_below_drewN | apply below_drew1) | exact HB.out)⟩⟩
          · rw [if_neg c13] at H
            have c13b0 : decide (a4 < 0) = false := decide_eq_false c13
            clear c13
            (first | rw [c13b0] | (simp only [i64_w, i32_w]; rw [c13b0]) | skip)
            have H' := Aside0.mk H
            clear H
            go_wp2
            go_meet
            case rel => exact ⟨_, (a4), (by first | rfl | (simp; done) | (simp [*]; done)), H', ⟨by have := HJ7.out; first | omega | exact Nat.le_refl _⟩, ⟨by repeat (first | (with_reducible first | exact HB.out | apply below_alloc | apply pw_below_drewN | apply below_drew1) | exact HB.out)⟩⟩
        case rest =>
          clear HC11
          try clear c1
          try clear c2
          try clear p2
          try clear c3
          try clear p6
          try clear c7
          try clear c9
          try clear c9b0
          try clear c13
          try clear c13b0
          try clear p2
          obtain ⟨kq, x4_10, rfl, HA, HJ10, HB⟩ := hcut
          cases kq with
          | zero => exact absurd HA.out (by simp [glyphiclaw1_FixedCuts.j1])
          | succ kj10 =>
            have H := HA.out
            clear HA
            simp only [glyphiclaw1_FixedCuts.j1] at H
            replace H := Option.bind_eq_some_iff.mp H
            obtain ⟨t107, A140, H⟩ := H
            replace H : ((fixed_Round.f (wrap64 (-(a3 / 8))) (wrap64 ((x4_10 / 16) + 1))).bind fun t108 => ((fixed_Down.f (a3 / 8) (wrap64 ((x4_10 / 16) + 1))).bind fun t109 => (if true = true then (if t106 ≥ x1_7 then (if t106 ≤ x2_7 then (if a0 < x1_7 then (if (wrap64 (2 * (wrap64 ((a3 / 8) - (wrap64 (t109 * (wrap64 ((x4_10 / 16) + 1)))))))) = (wrap64 ((x4_10 / 16) + 1)) then (if t108 = (wrap64 (1 - t107)) then ((glyphicref1_Down.f (a3 / 8) (wrap64 ((x4_10 / 16) + 1))).bind fun t110 => ((fixed_Down.f (a3 / 8) (wrap64 ((x4_10 / 16) + 1))).bind fun t111 => (some (t110 == t111)))) else (some false)) else (if t108 = (wrap64 (-t107)) then ((glyphicref1_Down.f (a3 / 8) (wrap64 ((x4_10 / 16) + 1))).bind fun t112 => ((fixed_Down.f (a3 / 8) (wrap64 ((x4_10 / 16) + 1))).bind fun t113 => (some (t112 == t113)))) else (some false))) else (if a0 > x2_7 then (if (wrap64 (2 * (wrap64 ((a3 / 8) - (wrap64 (t109 * (wrap64 ((x4_10 / 16) + 1)))))))) = (wrap64 ((x4_10 / 16) + 1)) then (if t108 = (wrap64 (1 - t107)) then ((glyphicref1_Down.f (a3 / 8) (wrap64 ((x4_10 / 16) + 1))).bind fun t114 => ((fixed_Down.f (a3 / 8) (wrap64 ((x4_10 / 16) + 1))).bind fun t115 => (some (t114 == t115)))) else (some false)) else (if t108 = (wrap64 (-t107)) then ((glyphicref1_Down.f (a3 / 8) (wrap64 ((x4_10 / 16) + 1))).bind fun t116 => ((fixed_Down.f (a3 / 8) (wrap64 ((x4_10 / 16) + 1))).bind fun t117 => (some (t116 == t117)))) else (some false))) else (if t106 = a0 then (if (wrap64 (2 * (wrap64 ((a3 / 8) - (wrap64 (t109 * (wrap64 ((x4_10 / 16) + 1)))))))) = (wrap64 ((x4_10 / 16) + 1)) then (if t108 = (wrap64 (1 - t107)) then ((glyphicref1_Down.f (a3 / 8) (wrap64 ((x4_10 / 16) + 1))).bind fun t118 => ((fixed_Down.f (a3 / 8) (wrap64 ((x4_10 / 16) + 1))).bind fun t119 => (some (t118 == t119)))) else (some false)) else (if t108 = (wrap64 (-t107)) then ((glyphicref1_Down.f (a3 / 8) (wrap64 ((x4_10 / 16) + 1))).bind fun t120 => ((fixed_Down.f (a3 / 8) (wrap64 ((x4_10 / 16) + 1))).bind fun t121 => (some (t120 == t121)))) else (some false))) else (some false)))) else (some false)) else (some false)) else (some false)))) = some r := H
            have A14 := Aside0.mk A140
            clear A140
            replace H := Option.bind_eq_some_iff.mp H
            obtain ⟨t108, A150, H⟩ := H
            replace H : ((fixed_Down.f (a3 / 8) (wrap64 ((x4_10 / 16) + 1))).bind fun t109 => (if true = true then (if t106 ≥ x1_7 then (if t106 ≤ x2_7 then (if a0 < x1_7 then (if (wrap64 (2 * (wrap64 ((a3 / 8) - (wrap64 (t109 * (wrap64 ((x4_10 / 16) + 1)))))))) = (wrap64 ((x4_10 / 16) + 1)) then (if t108 = (wrap64 (1 - t107)) then ((glyphicref1_Down.f (a3 / 8) (wrap64 ((x4_10 / 16) + 1))).bind fun t110 => ((fixed_Down.f (a3 / 8) (wrap64 ((x4_10 / 16) + 1))).bind fun t111 => (some (t110 == t111)))) else (some false)) else (if t108 = (wrap64 (-t107)) then ((glyphicref1_Down.f (a3 / 8) (wrap64 ((x4_10 / 16) + 1))).bind fun t112 => ((fixed_Down.f (a3 / 8) (wrap64 ((x4_10 / 16) + 1))).bind fun t113 => (some (t112 == t113)))) else (some false))) else (if a0 > x2_7 then (if (wrap64 (2 * (wrap64 ((a3 / 8) - (wrap64 (t109 * (wrap64 ((x4_10 / 16) + 1)))))))) = (wrap64 ((x4_10 / 16) + 1)) then (if t108 = (wrap64 (1 - t107)) then ((glyphicref1_Down.f (a3 / 8) (wrap64 ((x4_10 / 16) + 1))).bind fun t114 => ((fixed_Down.f (a3 / 8) (wrap64 ((x4_10 / 16) + 1))).bind fun t115 => (some (t114 == t115)))) else (some false)) else (if t108 = (wrap64 (-t107)) then ((glyphicref1_Down.f (a3 / 8) (wrap64 ((x4_10 / 16) + 1))).bind fun t116 => ((fixed_Down.f (a3 / 8) (wrap64 ((x4_10 / 16) + 1))).bind fun t117 => (some (t116 == t117)))) else (some false))) else (if t106 = a0 then (if (wrap64 (2 * (wrap64 ((a3 / 8) - (wrap64 (t109 * (wrap64 ((x4_10 / 16) + 1)))))))) = (wrap64 ((x4_10 / 16) + 1)) then (if t108 = (wrap64 (1 - t107)) then ((glyphicref1_Down.f (a3 / 8) (wrap64 ((x4_10 / 16) + 1))).bind fun t118 => ((fixed_Down.f (a3 / 8) (wrap64 ((x4_10 / 16) + 1))).bind fun t119 => (some (t118 == t119)))) else (some false)) else (if t108 = (wrap64 (-t107)) then ((glyphicref1_Down.f (a3 / 8) (wrap64 ((x4_10 / 16) + 1))).bind fun t120 => ((fixed_Down.f (a3 / 8) (wrap64 ((x4_10 / 16) + 1))).bind fun t121 => (some (t120 == t121)))) else (some false))) else (some false)))) else (some false)) else (some false)) else (some false))) = some r := H
            have A15 := Aside0.mk A150
            clear A150
            replace H := Option.bind_eq_some_iff.mp H
            obtain ⟨t109, A160, H⟩ := H
            replace H : (if true = true then (if t106 ≥ x1_7 then (if t106 ≤ x2_7 then (if a0 < x1_7 then (if (wrap64 (2 * (wrap64 ((a3 / 8) - (wrap64 (t109 * (wrap64 ((x4_10 / 16) + 1)))))))) = (wrap64 ((x4_10 / 16) + 1)) then (if t108 = (wrap64 (1 - t107)) then ((glyphicref1_Down.f (a3 / 8) (wrap64 ((x4_10 / 16) + 1))).bind fun t110 => ((fixed_Down.f (a3 / 8) (wrap64 ((x4_10 / 16) + 1))).bind fun t111 => (some (t110 == t111)))) else (some false)) else (if t108 = (wrap64 (-t107)) then ((glyphicref1_Down.f (a3 / 8) (wrap64 ((x4_10 / 16) + 1))).bind fun t112 => ((fixed_Down.f (a3 / 8) (wrap64 ((x4_10 / 16) + 1))).bind fun t113 => (some (t112 == t113)))) else (some false))) else (if a0 > x2_7 then (if (wrap64 (2 * (wrap64 ((a3 / 8) - (wrap64 (t109 * (wrap64 ((x4_10 / 16) + 1)))))))) = (wrap64 ((x4_10 / 16) + 1)) then (if t108 = (wrap64 (1 - t107)) then ((glyphicref1_Down.f (a3 / 8) (wrap64 ((x4_10 / 16) + 1))).bind fun t114 => ((fixed_Down.f (a3 / 8) (wrap64 ((x4_10 / 16) + 1))).bind fun t115 => (some (t114 == t115)))) else (some false)) else (if t108 = (wrap64 (-t107)) then ((glyphicref1_Down.f (a3 / 8) (wrap64 ((x4_10 / 16) + 1))).bind fun t116 => ((fixed_Down.f (a3 / 8) (wrap64 ((x4_10 / 16) + 1))).bind fun t117 => (some (t116 == t117)))) else (some false))) else (if t106 = a0 then (if (wrap64 (2 * (wrap64 ((a3 / 8) - (wrap64 (t109 * (wrap64 ((x4_10 / 16) + 1)))))))) = (wrap64 ((x4_10 / 16) + 1)) then (if t108 = (wrap64 (1 - t107)) then ((glyphicref1_Down.f (a3 / 8) (wrap64 ((x4_10 / 16) + 1))).bind fun t118 => ((fixed_Down.f (a3 / 8) (wrap64 ((x4_10 / 16) + 1))).bind fun t119 => (some (t118 == t119)))) else (some false)) else (if t108 = (wrap64 (-t107)) then ((glyphicref1_Down.f (a3 / 8) (wrap64 ((x4_10 / 16) + 1))).bind fun t120 => ((fixed_Down.f (a3 / 8) (wrap64 ((x4_10 / 16) + 1))).bind fun t121 => (some (t120 == t121)))) else (some false))) else (some false)))) else (some false)) else (some false)) else (some false)) = some r := H
            have A16 := Aside0.mk A160
            clear A160
            have H1 : (if t106 ≥ x1_7 then (if t106 ≤ x2_7 then (if a0 < x1_7 then (if (wrap64 (2 * (wrap64 ((a3 / 8) - (wrap64 (t109 * (wrap64 ((x4_10 / 16) + 1)))))))) = (wrap64 ((x4_10 / 16) + 1)) then (if t108 = (wrap64 (1 - t107)) then ((glyphicref1_Down.f (a3 / 8) (wrap64 ((x4_10 / 16) + 1))).bind fun t110 => ((fixed_Down.f (a3 / 8) (wrap64 ((x4_10 / 16) + 1))).bind fun t111 => (some (t110 == t111)))) else (some false)) else (if t108 = (wrap64 (-t107)) then ((glyphicref1_Down.f (a3 / 8) (wrap64 ((x4_10 / 16) + 1))).bind fun t112 => ((fixed_Down.f (a3 / 8) (wrap64 ((x4_10 / 16) + 1))).bind fun t113 => (some (t112 == t113)))) else (some false))) else (if a0 > x2_7 then (if (wrap64 (2 * (wrap64 ((a3 / 8) - (wrap64 (t109 * (wrap64 ((x4_10 / 16) + 1)))))))) = (wrap64 ((x4_10 / 16) + 1)) then (if t108 = (wrap64 (1 - t107)) then ((glyphicref1_Down.f (a3 / 8) (wrap64 ((x4_10 / 16) + 1))).bind fun t114 => ((fixed_Down.f (a3 / 8) (wrap64 ((x4_10 / 16) + 1))).bind fun t115 => (some (t114 == t115)))) else (some false)) else (if t108 = (wrap64 (-t107)) then ((glyphicref1_Down.f (a3 / 8) (wrap64 ((x4_10 / 16) + 1))).bind fun t116 => ((fixed_Down.f (a3 / 8) (wrap64 ((x4_10 / 16) + 1))).bind fun t117 => (some (t116 == t117)))) else (some false))) else (if t106 = a0 then (if (wrap64 (2 * (wrap64 ((a3 / 8) - (wrap64 (t109 * (wrap64 ((x4_10 / 16) + 1)))))))) = (wrap64 ((x4_10 / 16) + 1)) then (if t108 = (wrap64 (1 - t107)) then ((glyphicref1_Down.f (a3 / 8) (wrap64 ((x4_10 / 16) + 1))).bind fun t118 => ((fixed_Down.f (a3 / 8) (wrap64 ((x4_10 / 16) + 1))).bind fun t119 => (some (t118 == t119)))) else (some false)) else (if t108 = (wrap64 (-t107)) then ((glyphicref1_Down.f (a3 / 8) (wrap64 ((x4_10 / 16) + 1))).bind fun t120 => ((fixed_Down.f (a3 / 8) (wrap64 ((x4_10 / 16) + 1))).bind fun t121 => (some (t120 == t121)))) else (some false))) else (some false)))) else (some false)) else (some false)) = some r := by first | (rw [if_pos rfl] at H; exact H) | (rw [if_pos trivial] at H; exact H) | exact H
            clear H
            have H := H1
            clear H1
            by_cases c17 : t106 ≥ x1_7
            · rw [if_pos c17] at H
              have c17b0 : decide (x1_7 ≤ t106) = true := decide_eq_true c17
              clear c17
              by_cases c18 : t106 ≤ x2_7
              · rw [if_pos c18] at H
                have c18b0 : decide (t106 ≤ x2_7) = true := decide_eq_true c18
                clear c18
                by_cases c19 : a0 < x1_7
                · rw [if_pos c19] at H
                  have c19b0 : decide (a0 < x1_7) = true := decide_eq_true c19
                  clear c19
                  by_cases c20 : (wrap64 (2 * (wrap64 ((a3 / 8) - (wrap64 (t109 * (wrap64 ((x4_10 / 16) + 1)))))))) = (wrap64 ((x4_10 / 16) + 1))
                  · rw [if_pos c20] at H
                    have c20b0 : ((wrap64 (2 * (wrap64 ((a3 / 8) - (wrap64 (t109 * (wrap64 ((x4_10 / 16) + 1)))))))) == (wrap64 ((x4_10 / 16) + 1))) = true := beq_iff_eq.mpr c20
                    have c20b1 : ((wrap64 (2 * (wrap64 ((a3 / 8) - (wrap64 (t109 * (wrap64 ((x4_10 / 16) + 1)))))))) != (wrap64 ((x4_10 / 16) + 1))) = false := bne_eq_false_iff_eq.mpr c20
                    clear c20
                    by_cases c21 : t108 = (wrap64 (1 - t107))
                    · rw [if_pos c21] at H
                      have c21b0 : (t108 == (wrap64 (1 - t107))) = true := beq_iff_eq.mpr c21
                      have c21b1 : (t108 != (wrap64 (1 - t107))) = false := bne_eq_false_iff_eq.mpr c21
                      clear c21
                      replace H := Option.bind_eq_some_iff.mp H
                      obtain ⟨t110, A220, H⟩ := H
                      replace H : ((fixed_Down.f (a3 / 8) (wrap64 ((x4_10 / 16) + 1))).bind fun t111 => (some (t110 == t111))) = some r := H
                      have A22 := Aside0.mk A220
                      clear A220
                      replace H := Option.bind_eq_some_iff.mp H
                      obtain ⟨t111, A230, H⟩ := H
                      replace H : (some (t110 == t111)) = some r := H
                      have A23 := Aside0.mk A230
                      clear A230
                      obtain rfl := Option.some.inj H
                      go_wp2_with (first | ((with_reducible refine gate_callee (f := 30) rfl ?_); refine goesL_ (some 40) rfl rfl Try.func30 (by kernel_rfl) rfl #[.int .i64 (a3 / 8), .int .i64 (wrap64 ((x4_10 / 16) + 1))] rfl (by (try simp only [List.map_toArray, List.map_cons, List.map_nil]); first | done | rfl | (simp only [List.length_drop, List.length_take]; rfl)) ?_; (with_reducible refine (fixed_Round.calls (a3 / 8) (wrap64 ((x4_10 / 16) + 1)) t107 _ A14.out).mono ?_); rintro e w' ⟨rfl, ⟨nd, rfl⟩⟩; refine ⟨_, rfl, ?_⟩) | ((with_reducible refine gate_callee (f := 30) rfl ?_); refine goesL_ (some 44) rfl rfl Try.func30 (by kernel_rfl) rfl #[.int .i64 (wrap64 (-(a3 / 8))), .int .i64 (wrap64 ((x4_10 / 16) + 1))] rfl (by (try simp only [List.map_toArray, List.map_cons, List.map_nil]); first | done | rfl | (simp only [List.length_drop, List.length_take]; rfl)) ?_; (with_reducible refine (fixed_Round.calls (wrap64 (-(a3 / 8))) (wrap64 ((x4_10 / 16) + 1)) t108 _ A15.out).mono ?_); rintro e w' ⟨rfl, ⟨nd, rfl⟩⟩; refine ⟨_, rfl, ?_⟩) | ((with_reducible refine gate_callee (f := 31) rfl ?_); refine goesL_ (some 48) rfl rfl Try.func31 (by kernel_rfl) rfl #[.int .i64 (a3 / 8), .int .i64 (wrap64 ((x4_10 / 16) + 1))] rfl (by (try simp only [List.map_toArray, List.map_cons, List.map_nil]); first | done | rfl | (simp only [List.length_drop, List.length_take]; rfl)) ?_; (with_reducible refine (fixed_Down.calls (a3 / 8) (wrap64 ((x4_10 / 16) + 1)) t109 _ A16.out).mono ?_); rintro e w' ⟨rfl, ⟨nd, rfl⟩⟩; refine ⟨_, rfl, ?_⟩) | (go_at_call 34; (with_reducible refine (glyphicref1_Down.calls (a3 / 8) (wrap64 ((x4_10 / 16) + 1)) t110 _ A22.out).mono ?_); rintro e w' ⟨rfl, ⟨nd, rfl⟩⟩) | (go_at_call 31; (with_reducible refine (fixed_Down.calls (a3 / 8) (wrap64 ((x4_10 / 16) + 1)) t111 _ A23.out).mono ?_); rintro e w' ⟨rfl, ⟨nd, rfl⟩⟩))
                      go_ret
                      exact ⟨by first | rfl | (simp [errW_none, errW_some] <;> rfl) | (simp [*, errW_none, errW_some] <;> rfl), by repeat (first | (with_reducible first | exact HB.out | apply below_alloc | apply pw_below_drewN | apply below_drew1) | exact HB.out)⟩
                    · rw [if_neg c21] at H
                      have c21b0 : (t108 == (wrap64 (1 - t107))) = false := beq_eq_false_iff_ne.mpr c21
                      have c21b1 : (t108 != (wrap64 (1 - t107))) = true := bne_iff_ne.mpr c21
                      exact absurd ((Option.some.inj H).trans hr0_.out) (by decide)
                  · rw [if_neg c20] at H
                    have c20b0 : ((wrap64 (2 * (wrap64 ((a3 / 8) - (wrap64 (t109 * (wrap64 ((x4_10 / 16) + 1)))))))) == (wrap64 ((x4_10 / 16) + 1))) = false := beq_eq_false_iff_ne.mpr c20
                    have c20b1 : ((wrap64 (2 * (wrap64 ((a3 / 8) - (wrap64 (t109 * (wrap64 ((x4_10 / 16) + 1)))))))) != (wrap64 ((x4_10 / 16) + 1))) = true := bne_iff_ne.mpr c20
                    by_cases c24 : t108 = (wrap64 (-t107))
                    · rw [if_pos c24] at H
                      have c24b0 : (t108 == (wrap64 (-t107))) = true := beq_iff_eq.mpr c24
                      have c24b1 : (t108 != (wrap64 (-t107))) = false := bne_eq_false_iff_eq.mpr c24
                      clear c24
                      replace H := Option.bind_eq_some_iff.mp H
                      obtain ⟨t112, A250, H⟩ := H
                      replace H : ((fixed_Down.f (a3 / 8) (wrap64 ((x4_10 / 16) + 1))).bind fun t113 => (some (t112 == t113))) = some r := H
                      have A25 := Aside0.mk A250
                      clear A250
                      replace H := Option.bind_eq_some_iff.mp H
                      obtain ⟨t113, A260, H⟩ := H
                      replace H : (some (t112 == t113)) = some r := H
                      have A26 := Aside0.mk A260
                      clear A260
                      obtain rfl := Option.some.inj H
                      go_wp2_with (first | ((with_reducible refine gate_callee (f := 30) rfl ?_); refine goesL_ (some 40) rfl rfl Try.func30 (by kernel_rfl) rfl #[.int .i64 (a3 / 8), .int .i64 (wrap64 ((x4_10 / 16) + 1))] rfl (by (try simp only [List.map_toArray, List.map_cons, List.map_nil]); first | done | rfl | (simp only [List.length_drop, List.length_take]; rfl)) ?_; (with_reducible refine (fixed_Round.calls (a3 / 8) (wrap64 ((x4_10 / 16) + 1)) t107 _ A14.out).mono ?_); rintro e w' ⟨rfl, ⟨nd, rfl⟩⟩; refine ⟨_, rfl, ?_⟩) | ((with_reducible refine gate_callee (f := 30) rfl ?_); refine goesL_ (some 44) rfl rfl Try.func30 (by kernel_rfl) rfl #[.int .i64 (wrap64 (-(a3 / 8))), .int .i64 (wrap64 ((x4_10 / 16) + 1))] rfl (by (try simp only [List.map_toArray, List.map_cons, List.map_nil]); first | done | rfl | (simp only [List.length_drop, List.length_take]; rfl)) ?_; (with_reducible refine (fixed_Round.calls (wrap64 (-(a3 / 8))) (wrap64 ((x4_10 / 16) + 1)) t108 _ A15.out).mono ?_); rintro e w' ⟨rfl, ⟨nd, rfl⟩⟩; refine ⟨_, rfl, ?_⟩) | ((with_reducible refine gate_callee (f := 31) rfl ?_); refine goesL_ (some 48) rfl rfl Try.func31 (by kernel_rfl) rfl #[.int .i64 (a3 / 8), .int .i64 (wrap64 ((x4_10 / 16) + 1))] rfl (by (try simp only [List.map_toArray, List.map_cons, List.map_nil]); first | done | rfl | (simp only [List.length_drop, List.length_take]; rfl)) ?_; (with_reducible refine (fixed_Down.calls (a3 / 8) (wrap64 ((x4_10 / 16) + 1)) t109 _ A16.out).mono ?_); rintro e w' ⟨rfl, ⟨nd, rfl⟩⟩; refine ⟨_, rfl, ?_⟩) | (go_at_call 34; (with_reducible refine (glyphicref1_Down.calls (a3 / 8) (wrap64 ((x4_10 / 16) + 1)) t112 _ A25.out).mono ?_); rintro e w' ⟨rfl, ⟨nd, rfl⟩⟩) | (go_at_call 31; (with_reducible refine (fixed_Down.calls (a3 / 8) (wrap64 ((x4_10 / 16) + 1)) t113 _ A26.out).mono ?_); rintro e w' ⟨rfl, ⟨nd, rfl⟩⟩))
                      go_ret
                      exact ⟨by first | rfl | (simp [errW_none, errW_some] <;> rfl) | (simp [*, errW_none, errW_some] <;> rfl), by repeat (first | (with_reducible first | exact HB.out | apply below_alloc | apply pw_below_drewN | apply below_drew1) | exact HB.out)⟩
                    · rw [if_neg c24] at H
                      have c24b0 : (t108 == (wrap64 (-t107))) = false := beq_eq_false_iff_ne.mpr c24
                      have c24b1 : (t108 != (wrap64 (-t107))) = true := bne_iff_ne.mpr c24
                      exact absurd ((Option.some.inj H).trans hr0_.out) (by decide)
                · rw [if_neg c19] at H
                  have c19b0 : decide (a0 < x1_7) = false := decide_eq_false c19
                  clear c19
                  by_cases c27 : a0 > x2_7
                  · rw [if_pos c27] at H
                    have c27b0 : decide (x2_7 < a0) = true := decide_eq_true c27
                    clear c27
                    by_cases c28 : (wrap64 (2 * (wrap64 ((a3 / 8) - (wrap64 (t109 * (wrap64 ((x4_10 / 16) + 1)))))))) = (wrap64 ((x4_10 / 16) + 1))
                    · rw [if_pos c28] at H
                      have c28b0 : ((wrap64 (2 * (wrap64 ((a3 / 8) - (wrap64 (t109 * (wrap64 ((x4_10 / 16) + 1)))))))) == (wrap64 ((x4_10 / 16) + 1))) = true := beq_iff_eq.mpr c28
                      have c28b1 : ((wrap64 (2 * (wrap64 ((a3 / 8) - (wrap64 (t109 * (wrap64 ((x4_10 / 16) + 1)))))))) != (wrap64 ((x4_10 / 16) + 1))) = false := bne_eq_false_iff_eq.mpr c28
                      clear c28
                      by_cases c29 : t108 = (wrap64 (1 - t107))
                      · rw [if_pos c29] at H
                        have c29b0 : (t108 == (wrap64 (1 - t107))) = true := beq_iff_eq.mpr c29
                        have c29b1 : (t108 != (wrap64 (1 - t107))) = false := bne_eq_false_iff_eq.mpr c29
                        clear c29
                        replace H := Option.bind_eq_some_iff.mp H
                        obtain ⟨t114, A300, H⟩ := H
                        replace H : ((fixed_Down.f (a3 / 8) (wrap64 ((x4_10 / 16) + 1))).bind fun t115 => (some (t114 == t115))) = some r := H
                        have A30 := Aside0.mk A300
                        clear A300
                        replace H := Option.bind_eq_some_iff.mp H
                        obtain ⟨t115, A310, H⟩ := H
                        replace H : (some (t114 == t115)) = some r := H
                        have A31 := Aside0.mk A310
                        clear A310
                        obtain rfl := Option.some.inj H
                        go_wp2_with (first | ((with_reducible refine gate_callee (f := 30) rfl ?_); refine goesL_ (some 40) rfl rfl Try.func30 (by kernel_rfl) rfl #[.int .i64 (a3 / 8), .int .i64 (wrap64 ((x4_10 / 16) + 1))] rfl (by (try simp only [List.map_toArray, List.map_cons, List.map_nil]); first | done | rfl | (simp only [List.length_drop, List.length_take]; rfl)) ?_; (with_reducible refine (fixed_Round.calls (a3 / 8) (wrap64 ((x4_10 / 16) + 1)) t107 _ A14.out).mono ?_); rintro e w' ⟨rfl, ⟨nd, rfl⟩⟩; refine ⟨_, rfl, ?_⟩) | ((with_reducible refine gate_callee (f := 30) rfl ?_); refine goesL_ (some 44) rfl rfl Try.func30 (by kernel_rfl) rfl #[.int .i64 (wrap64 (-(a3 / 8))), .int .i64 (wrap64 ((x4_10 / 16) + 1))] rfl (by (try simp only [List.map_toArray, List.map_cons, List.map_nil]); first | done | rfl | (simp only [List.length_drop, List.length_take]; rfl)) ?_; (with_reducible refine (fixed_Round.calls (wrap64 (-(a3 / 8))) (wrap64 ((x4_10 / 16) + 1)) t108 _ A15.out).mono ?_); rintro e w' ⟨rfl, ⟨nd, rfl⟩⟩; refine ⟨_, rfl, ?_⟩) | ((with_reducible refine gate_callee (f := 31) rfl ?_); refine goesL_ (some 48) rfl rfl Try.func31 (by kernel_rfl) rfl #[.int .i64 (a3 / 8), .int .i64 (wrap64 ((x4_10 / 16) + 1))] rfl (by (try simp only [List.map_toArray, List.map_cons, List.map_nil]); first | done | rfl | (simp only [List.length_drop, List.length_take]; rfl)) ?_; (with_reducible refine (fixed_Down.calls (a3 / 8) (wrap64 ((x4_10 / 16) + 1)) t109 _ A16.out).mono ?_); rintro e w' ⟨rfl, ⟨nd, rfl⟩⟩; refine ⟨_, rfl, ?_⟩) | (go_at_call 34; (with_reducible refine (glyphicref1_Down.calls (a3 / 8) (wrap64 ((x4_10 / 16) + 1)) t114 _ A30.out).mono ?_); rintro e w' ⟨rfl, ⟨nd, rfl⟩⟩) | (go_at_call 31; (with_reducible refine (fixed_Down.calls (a3 / 8) (wrap64 ((x4_10 / 16) + 1)) t115 _ A31.out).mono ?_); rintro e w' ⟨rfl, ⟨nd, rfl⟩⟩))
                        go_ret
                        exact ⟨by first | rfl | (simp [errW_none, errW_some] <;> rfl) | (simp [*, errW_none, errW_some] <;> rfl), by repeat (first | (with_reducible first | exact HB.out | apply below_alloc | apply pw_below_drewN | apply below_drew1) | exact HB.out)⟩
                      · rw [if_neg c29] at H
                        have c29b0 : (t108 == (wrap64 (1 - t107))) = false := beq_eq_false_iff_ne.mpr c29
                        have c29b1 : (t108 != (wrap64 (1 - t107))) = true := bne_iff_ne.mpr c29
                        exact absurd ((Option.some.inj H).trans hr0_.out) (by decide)
                    · rw [if_neg c28] at H
                      have c28b0 : ((wrap64 (2 * (wrap64 ((a3 / 8) - (wrap64 (t109 * (wrap64 ((x4_10 / 16) + 1)))))))) == (wrap64 ((x4_10 / 16) + 1))) = false := beq_eq_false_iff_ne.mpr c28
                      have c28b1 : ((wrap64 (2 * (wrap64 ((a3 / 8) - (wrap64 (t109 * (wrap64 ((x4_10 / 16) + 1)))))))) != (wrap64 ((x4_10 / 16) + 1))) = true := bne_iff_ne.mpr c28
                      by_cases c32 : t108 = (wrap64 (-t107))
                      · rw [if_pos c32] at H
                        have c32b0 : (t108 == (wrap64 (-t107))) = true := beq_iff_eq.mpr c32
                        have c32b1 : (t108 != (wrap64 (-t107))) = false := bne_eq_false_iff_eq.mpr c32
                        clear c32
                        replace H := Option.bind_eq_some_iff.mp H
                        obtain ⟨t116, A330, H⟩ := H
                        replace H : ((fixed_Down.f (a3 / 8) (wrap64 ((x4_10 / 16) + 1))).bind fun t117 => (some (t116 == t117))) = some r := H
                        have A33 := Aside0.mk A330
                        clear A330
                        replace H := Option.bind_eq_some_iff.mp H
                        obtain ⟨t117, A340, H⟩ := H
                        replace H : (some (t116 == t117)) = some r := H
                        have A34 := Aside0.mk A340
                        clear A340
                        obtain rfl := Option.some.inj H
                        go_wp2_with (first | ((with_reducible refine gate_callee (f := 30) rfl ?_); refine goesL_ (some 40) rfl rfl Try.func30 (by kernel_rfl) rfl #[.int .i64 (a3 / 8), .int .i64 (wrap64 ((x4_10 / 16) + 1))] rfl (by (try simp only [List.map_toArray, List.map_cons, List.map_nil]); first | done | rfl | (simp only [List.length_drop, List.length_take]; rfl)) ?_; (with_reducible refine (fixed_Round.calls (a3 / 8) (wrap64 ((x4_10 / 16) + 1)) t107 _ A14.out).mono ?_); rintro e w' ⟨rfl, ⟨nd, rfl⟩⟩; refine ⟨_, rfl, ?_⟩) | ((with_reducible refine gate_callee (f := 30) rfl ?_); refine goesL_ (some 44) rfl rfl Try.func30 (by kernel_rfl) rfl #[.int .i64 (wrap64 (-(a3 / 8))), .int .i64 (wrap64 ((x4_10 / 16) + 1))] rfl (by (try simp only [List.map_toArray, List.map_cons, List.map_nil]); first | done | rfl | (simp only [List.length_drop, List.length_take]; rfl)) ?_; (with_reducible refine (fixed_Round.calls (wrap64 (-(a3 / 8))) (wrap64 ((x4_10 / 16) + 1)) t108 _ A15.out).mono ?_); rintro e w' ⟨rfl, ⟨nd, rfl⟩⟩; refine ⟨_, rfl, ?_⟩) | ((with_reducible refine gate_callee (f := 31) rfl ?_); refine goesL_ (some 48) rfl rfl Try.func31 (by kernel_rfl) rfl #[.int .i64 (a3 / 8), .int .i64 (wrap64 ((x4_10 / 16) + 1))] rfl (by (try simp only [List.map_toArray, List.map_cons, List.map_nil]); first | done | rfl | (simp only [List.length_drop, List.length_take]; rfl)) ?_; (with_reducible refine (fixed_Down.calls (a3 / 8) (wrap64 ((x4_10 / 16) + 1)) t109 _ A16.out).mono ?_); rintro e w' ⟨rfl, ⟨nd, rfl⟩⟩; refine ⟨_, rfl, ?_⟩) | (go_at_call 34; (with_reducible refine (glyphicref1_Down.calls (a3 / 8) (wrap64 ((x4_10 / 16) + 1)) t116 _ A33.out).mono ?_); rintro e w' ⟨rfl, ⟨nd, rfl⟩⟩) | (go_at_call 31; (with_reducible refine (fixed_Down.calls (a3 / 8) (wrap64 ((x4_10 / 16) + 1)) t117 _ A34.out).mono ?_); rintro e w' ⟨rfl, ⟨nd, rfl⟩⟩))
                        go_ret
                        exact ⟨by first | rfl | (simp [errW_none, errW_some] <;> rfl) | (simp [*, errW_none, errW_some] <;> rfl), by repeat (first | (with_reducible first | exact HB.out | apply below_alloc | apply pw_below_drewN | apply below_drew1) | exact HB.out)⟩
                      · rw [if_neg c32] at H
                        have c32b0 : (t108 == (wrap64 (-t107))) = false := beq_eq_false_iff_ne.mpr c32
                        have c32b1 : (t108 != (wrap64 (-t107))) = true := bne_iff_ne.mpr c32
                        exact absurd ((Option.some.inj H).trans hr0_.out) (by decide)
                  · rw [if_neg c27] at H
                    have c27b0 : decide (x2_7 < a0) = false := decide_eq_false c27
                    clear c27
                    by_cases c35 : t106 = a0
                    · rw [if_pos c35] at H
                      have c35b0 : (t106 == a0) = true := beq_iff_eq.mpr c35
                      have c35b1 : (t106 != a0) = false := bne_eq_false_iff_eq.mpr c35
                      clear c35
                      by_cases c36 : (wrap64 (2 * (wrap64 ((a3 / 8) - (wrap64 (t109 * (wrap64 ((x4_10 / 16) + 1)))))))) = (wrap64 ((x4_10 / 16) + 1))
                      · rw [if_pos c36] at H
                        have c36b0 : ((wrap64 (2 * (wrap64 ((a3 / 8) - (wrap64 (t109 * (wrap64 ((x4_10 / 16) + 1)))))))) == (wrap64 ((x4_10 / 16) + 1))) = true := beq_iff_eq.mpr c36
                        have c36b1 : ((wrap64 (2 * (wrap64 ((a3 / 8) - (wrap64 (t109 * (wrap64 ((x4_10 / 16) + 1)))))))) != (wrap64 ((x4_10 / 16) + 1))) = false := bne_eq_false_iff_eq.mpr c36
                        clear c36
                        by_cases c37 : t108 = (wrap64 (1 - t107))
                        · rw [if_pos c37] at H
                          have c37b0 : (t108 == (wrap64 (1 - t107))) = true := beq_iff_eq.mpr c37
                          have c37b1 : (t108 != (wrap64 (1 - t107))) = false := bne_eq_false_iff_eq.mpr c37
                          clear c37
                          replace H := Option.bind_eq_some_iff.mp H
                          obtain ⟨t118, A380, H⟩ := H
                          replace H : ((fixed_Down.f (a3 / 8) (wrap64 ((x4_10 / 16) + 1))).bind fun t119 => (some (t118 == t119))) = some r := H
                          have A38 := Aside0.mk A380
                          clear A380
                          replace H := Option.bind_eq_some_iff.mp H
                          obtain ⟨t119, A390, H⟩ := H
                          replace H : (some (t118 == t119)) = some r := H
                          have A39 := Aside0.mk A390
                          clear A390
                          obtain rfl := Option.some.inj H
                          go_wp2_with (first | ((with_reducible refine gate_callee (f := 30) rfl ?_); refine goesL_ (some 40) rfl rfl Try.func30 (by kernel_rfl) rfl #[.int .i64 (a3 / 8), .int .i64 (wrap64 ((x4_10 / 16) + 1))] rfl (by (try simp only [List.map_toArray, List.map_cons, List.map_nil]); first | done | rfl | (simp only [List.length_drop, List.length_take]; rfl)) ?_; (with_reducible refine (fixed_Round.calls (a3 / 8) (wrap64 ((x4_10 / 16) + 1)) t107 _ A14.out).mono ?_); rintro e w' ⟨rfl, ⟨nd, rfl⟩⟩; refine ⟨_, rfl, ?_⟩) | ((with_reducible refine gate_callee (f := 30) rfl ?_); refine goesL_ (some 44) rfl rfl Try.func30 (by kernel_rfl) rfl #[.int .i64 (wrap64 (-(a3 / 8))), .int .i64 (wrap64 ((x4_10 / 16) + 1))] rfl (by (try simp only [List.map_toArray, List.map_cons, List.map_nil]); first | done | rfl | (simp only [List.length_drop, List.length_take]; rfl)) ?_; (with_reducible refine (fixed_Round.calls (wrap64 (-(a3 / 8))) (wrap64 ((x4_10 / 16) + 1)) t108 _ A15.out).mono ?_); rintro e w' ⟨rfl, ⟨nd, rfl⟩⟩; refine ⟨_, rfl, ?_⟩) | ((with_reducible refine gate_callee (f := 31) rfl ?_); refine goesL_ (some 48) rfl rfl Try.func31 (by kernel_rfl) rfl #[.int .i64 (a3 / 8), .int .i64 (wrap64 ((x4_10 / 16) + 1))] rfl (by (try simp only [List.map_toArray, List.map_cons, List.map_nil]); first | done | rfl | (simp only [List.length_drop, List.length_take]; rfl)) ?_; (with_reducible refine (fixed_Down.calls (a3 / 8) (wrap64 ((x4_10 / 16) + 1)) t109 _ A16.out).mono ?_); rintro e w' ⟨rfl, ⟨nd, rfl⟩⟩; refine ⟨_, rfl, ?_⟩) | (go_at_call 34; (with_reducible refine (glyphicref1_Down.calls (a3 / 8) (wrap64 ((x4_10 / 16) + 1)) t118 _ A38.out).mono ?_); rintro e w' ⟨rfl, ⟨nd, rfl⟩⟩) | (go_at_call 31; (with_reducible refine (fixed_Down.calls (a3 / 8) (wrap64 ((x4_10 / 16) + 1)) t119 _ A39.out).mono ?_); rintro e w' ⟨rfl, ⟨nd, rfl⟩⟩))
                          go_ret
                          exact ⟨by first | rfl | (simp [errW_none, errW_some] <;> rfl) | (simp [*, errW_none, errW_some] <;> rfl), by repeat (first | (with_reducible first | exact HB.out | apply below_alloc | apply pw_below_drewN | apply below_drew1) | exact HB.out)⟩
                        · rw [if_neg c37] at H
                          have c37b0 : (t108 == (wrap64 (1 - t107))) = false := beq_eq_false_iff_ne.mpr c37
                          have c37b1 : (t108 != (wrap64 (1 - t107))) = true := bne_iff_ne.mpr c37
                          exact absurd ((Option.some.inj H).trans hr0_.out) (by decide)
                      · rw [if_neg c36] at H
                        have c36b0 : ((wrap64 (2 * (wrap64 ((a3 / 8) - (wrap64 (t109 * (wrap64 ((x4_10 / 16) + 1)))))))) == (wrap64 ((x4_10 / 16) + 1))) = false := beq_eq_false_iff_ne.mpr c36
                        have c36b1 : ((wrap64 (2 * (wrap64 ((a3 / 8) - (wrap64 (t109 * (wrap64 ((x4_10 / 16) + 1)))))))) != (wrap64 ((x4_10 / 16) + 1))) = true := bne_iff_ne.mpr c36
                        by_cases c40 : t108 = (wrap64 (-t107))
                        · rw [if_pos c40] at H
                          have c40b0 : (t108 == (wrap64 (-t107))) = true := beq_iff_eq.mpr c40
                          have c40b1 : (t108 != (wrap64 (-t107))) = false := bne_eq_false_iff_eq.mpr c40
                          clear c40
                          replace H := Option.bind_eq_some_iff.mp H
                          obtain ⟨t120, A410, H⟩ := H
                          replace H : ((fixed_Down.f (a3 / 8) (wrap64 ((x4_10 / 16) + 1))).bind fun t121 => (some (t120 == t121))) = some r := H
                          have A41 := Aside0.mk A410
                          clear A410
                          replace H := Option.bind_eq_some_iff.mp H
                          obtain ⟨t121, A420, H⟩ := H
                          replace H : (some (t120 == t121)) = some r := H
                          have A42 := Aside0.mk A420
                          clear A420
                          obtain rfl := Option.some.inj H
                          go_wp2_with (first | ((with_reducible refine gate_callee (f := 30) rfl ?_); refine goesL_ (some 40) rfl rfl Try.func30 (by kernel_rfl) rfl #[.int .i64 (a3 / 8), .int .i64 (wrap64 ((x4_10 / 16) + 1))] rfl (by (try simp only [List.map_toArray, List.map_cons, List.map_nil]); first | done | rfl | (simp only [List.length_drop, List.length_take]; rfl)) ?_; (with_reducible refine (fixed_Round.calls (a3 / 8) (wrap64 ((x4_10 / 16) + 1)) t107 _ A14.out).mono ?_); rintro e w' ⟨rfl, ⟨nd, rfl⟩⟩; refine ⟨_, rfl, ?_⟩) | ((with_reducible refine gate_callee (f := 30) rfl ?_); refine goesL_ (some 44) rfl rfl Try.func30 (by kernel_rfl) rfl #[.int .i64 (wrap64 (-(a3 / 8))), .int .i64 (wrap64 ((x4_10 / 16) + 1))] rfl (by (try simp only [List.map_toArray, List.map_cons, List.map_nil]); first | done | rfl | (simp only [List.length_drop, List.length_take]; rfl)) ?_; (with_reducible refine (fixed_Round.calls (wrap64 (-(a3 / 8))) (wrap64 ((x4_10 / 16) + 1)) t108 _ A15.out).mono ?_); rintro e w' ⟨rfl, ⟨nd, rfl⟩⟩; refine ⟨_, rfl, ?_⟩) | ((with_reducible refine gate_callee (f := 31) rfl ?_); refine goesL_ (some 48) rfl rfl Try.func31 (by kernel_rfl) rfl #[.int .i64 (a3 / 8), .int .i64 (wrap64 ((x4_10 / 16) + 1))] rfl (by (try simp only [List.map_toArray, List.map_cons, List.map_nil]); first | done | rfl | (simp only [List.length_drop, List.length_take]; rfl)) ?_; (with_reducible refine (fixed_Down.calls (a3 / 8) (wrap64 ((x4_10 / 16) + 1)) t109 _ A16.out).mono ?_); rintro e w' ⟨rfl, ⟨nd, rfl⟩⟩; refine ⟨_, rfl, ?_⟩) | (go_at_call 34; (with_reducible refine (glyphicref1_Down.calls (a3 / 8) (wrap64 ((x4_10 / 16) + 1)) t120 _ A41.out).mono ?_); rintro e w' ⟨rfl, ⟨nd, rfl⟩⟩) | (go_at_call 31; (with_reducible refine (fixed_Down.calls (a3 / 8) (wrap64 ((x4_10 / 16) + 1)) t121 _ A42.out).mono ?_); rintro e w' ⟨rfl, ⟨nd, rfl⟩⟩))
                          go_ret
                          exact ⟨by first | rfl | (simp [errW_none, errW_some] <;> rfl) | (simp [*, errW_none, errW_some] <;> rfl), by repeat (first | (with_reducible first | exact HB.out | apply below_alloc | apply pw_below_drewN | apply below_drew1) | exact HB.out)⟩
                        · rw [if_neg c40] at H
                          have c40b0 : (t108 == (wrap64 (-t107))) = false := beq_eq_false_iff_ne.mpr c40
                          have c40b1 : (t108 != (wrap64 (-t107))) = true := bne_iff_ne.mpr c40
                          exact absurd ((Option.some.inj H).trans hr0_.out) (by decide)
                    · rw [if_neg c35] at H
                      have c35b0 : (t106 == a0) = false := beq_eq_false_iff_ne.mpr c35
                      have c35b1 : (t106 != a0) = true := bne_iff_ne.mpr c35
                      exact absurd ((Option.some.inj H).trans hr0_.out) (by decide)
              · rw [if_neg c18] at H
                have c18b0 : decide (t106 ≤ x2_7) = false := decide_eq_false c18
                clear c18
                exact absurd ((Option.some.inj H).trans hr0_.out) (by decide)
            · rw [if_neg c17] at H
              have c17b0 : decide (x1_7 ≤ t106) = false := decide_eq_false c17
              clear c17
              exact absurd ((Option.some.inj H).trans hr0_.out) (by decide)
  · replace c7 := Bool.eq_false_iff.mpr c7
    subst c7
    have H1 : (some false) = some r := by rw [if_neg (show ¬ (false = true) by decide)] at H; exact H
    clear H
    have H := H1
    clear H1
    exact absurd ((Option.some.inj H).trans hr0_.out) (by decide)

/-- THE ONE PURE STATEMENT of glyphiclaw1_FixedCuts: yours. -/
def glyphiclaw1_FixedCuts.Pure : Prop := ∀ (a0 : Int) (a1 : Int) (a2 : Int) (a3 : Int) (a4 : Int), (Lit.int .i64 a0).wf = true → (Lit.int .i64 a1).wf = true → (Lit.int .i64 a2).wf = true → (Lit.int .i64 a3).wf = true → (Lit.int .i64 a4).wf = true → ∃ k, glyphiclaw1_FixedCuts.f k a0 a1 a2 a3 a4 = some true
theorem glyphiclaw1_FixedCuts.walk (P : glyphiclaw1_FixedCuts.Pure) (a0 : Int) (a1 : Int) (a2 : Int) (a3 : Int) (a4 : Int) (w : World) (w0 : (Lit.int .i64 a0).wf = true) (w1 : (Lit.int .i64 a1).wf = true) (w2 : (Lit.int .i64 a2).wf = true) (w3 : (Lit.int .i64 a3).wf = true) (w4 : (Lit.int .i64 a4).wf = true) :
    Calls Try.prog 9 #[.int .i64 a0, .int .i64 a1, .int .i64 a2, .int .i64 a3, .int .i64 a4] w fun e w' => e = .returned (.bool true) ∧ Below w.heap.size w w' := by
  obtain ⟨k, h⟩ := P a0 a1 a2 a3 a4 w0 w1 w2 w3 w4
  refine (glyphiclaw1_FixedCuts.calls k a0 a1 a2 a3 a4 true w (Aside0.mk rfl) h).mono ?_
  rintro e w' ⟨rfl, hd⟩
  exact ⟨rfl, hd⟩

end Go.Proofs.Ytgaikembekkfiaa.QFixedCuts
