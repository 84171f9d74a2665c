/- Functions of a Go program as Lean functions, each with its walk, or the row of a law. Written by a program of this session after the pattern of the print. -/
import Derived.Test.YtgaikembekkfiaaQFixedScalesx0
import Derived.Test.YtgaikembekkfiaaQFixedScalesx1
namespace Go.Proofs.Ytgaikembekkfiaa.QFixedScales
open Go.RowKit Go.Proofs.YtgaikembekkfiaaW.PrintWords Go.Proofs.YtgaikembekkfiaaW.PrintLast Go.Proofs.YtgaikembekkfiaaW.PrintMore
attribute [local go_sem] max2_int min2_int max_two min_two max_three min_three max_four min_four   -- for this text's walks alone
set_option linter.unusedVariables false
set_option linter.unusedSimpArgs false

/-! ### fixed_MulDiv: function 53 -/
mutual
def fixed_MulDiv.j0 : Nat → Int → Bool → Bool → Option (Int × Bool)
  | 0, _, _, _ => none
  | k + 1, x10, x12, x58 => if x58 = true then (fixed_MulDiv.j1 k (IntKind.u64.wrap (x10 + 1)) x12) else (fixed_MulDiv.j1 k x10 x12)
def fixed_MulDiv.j1 : Nat → Int → Bool → Option (Int × Bool)
  | 0, _, _ => none
  | k + 1, x10, x12 => if x12 = true then (fixed_MulDiv.j2 k x10 x12 false) else (fixed_MulDiv.j2 k x10 x12 (decide (x10 ≤ 9223372036854775807)))
def fixed_MulDiv.j2 : Nat → Int → Bool → Bool → Option (Int × Bool)
  | 0, _, _, _ => none
  | k + 1, x10, x12, x61 => if x61 = true then (some (wrap64 (x10), true)) else (if x12 = true then (if x10 ≤ 9223372036854775808 then (some (wrap64 (IntKind.u64.wrap (-x10)), true)) else (some (0, false))) else (some (0, false)))
end
def fixed_MulDiv.f (k : Nat) (a0 : Int) (a1 : Int) (a2 : Int) : Option (Int × Bool) := if a2 < 1 then (some (0, false)) else ((fixed_size.f a0).bind fun t105 => ((fixed_size.f a1).bind fun t106 => ((bits_Mul64.f t105 t106).bind fun bt107 => (if bt107.1 ≥ (IntKind.u64.wrap (a2)) then (some (0, false)) else ((bits_Div64.f bt107.1 bt107.2 (IntKind.u64.wrap (a2))).bind fun bt109 => (if bt109.1 > 9223372036854775808 then (some (0, false)) else (if bt109.2 > (IntKind.u64.wrap ((IntKind.u64.wrap (a2)) - bt109.2)) then (fixed_MulDiv.j0 k bt109.1 ((decide (a0 < 0)) != (decide (a1 < 0))) true) else (if bt109.2 = (IntKind.u64.wrap ((IntKind.u64.wrap (a2)) - bt109.2)) then (fixed_MulDiv.j0 k bt109.1 ((decide (a0 < 0)) != (decide (a1 < 0))) (!((decide (a0 < 0)) != (decide (a1 < 0))))) else (fixed_MulDiv.j0 k bt109.1 ((decide (a0 < 0)) != (decide (a1 < 0))) false)))))))))
theorem fixed_MulDiv.mono_l : ∀ k, (∀ y0 y1 y2, LeO (fixed_MulDiv.j0 k y0 y1 y2) (fixed_MulDiv.j0 (k + 1) y0 y1 y2)) ∧ (∀ y0 y1, LeO (fixed_MulDiv.j1 k y0 y1) (fixed_MulDiv.j1 (k + 1) y0 y1)) ∧ (∀ y0 y1 y2, LeO (fixed_MulDiv.j2 k y0 y1 y2) (fixed_MulDiv.j2 (k + 1) y0 y1 y2))
  | 0 => ⟨fun _ _ _ r h => by simp [fixed_MulDiv.j0] at h, fun _ _ r h => by simp [fixed_MulDiv.j1] at h, fun _ _ _ r h => by simp [fixed_MulDiv.j2] at h⟩
  | k + 1 => by
    obtain ⟨ih0, ih1, ih2⟩ := fixed_MulDiv.mono_l k
    refine ⟨?_, ?_, ?_⟩
    · intro y0 y1 y2
      unfold fixed_MulDiv.j0
      repeat' first
      | (with_reducible exact ih0 _ _ _)
      | (with_reducible exact ih1 _ _)
      | (with_reducible exact ih2 _ _ _)
      | (with_reducible exact LeO.refl _)
      | (with_reducible exact LeO.none _)
      | (with_reducible refine LeO.ite ?_ ?_)
      | (with_reducible refine LeO.bind ?_ (fun _ => ?_))
      | exact ih0 _ _ _
      | exact ih1 _ _
      | exact ih2 _ _ _
      | exact LeO.none _
      | refine LeO.ite ?_ ?_
      | refine LeO.bind ?_ (fun _ => ?_)
    · intro y0 y1
      unfold fixed_MulDiv.j1
      repeat' first
      | (with_reducible exact ih0 _ _ _)
      | (with_reducible exact ih1 _ _)
      | (with_reducible exact ih2 _ _ _)
      | (with_reducible exact LeO.refl _)
      | (with_reducible exact LeO.none _)
      | (with_reducible refine LeO.ite ?_ ?_)
      | (with_reducible refine LeO.bind ?_ (fun _ => ?_))
      | exact ih0 _ _ _
      | exact ih1 _ _
      | exact ih2 _ _ _
      | exact LeO.none _
      | refine LeO.ite ?_ ?_
      | refine LeO.bind ?_ (fun _ => ?_)
    · intro y0 y1 y2
      unfold fixed_MulDiv.j2
      repeat' first
      | (with_reducible exact ih0 _ _ _)
      | (with_reducible exact ih1 _ _)
      | (with_reducible exact ih2 _ _ _)
      | (with_reducible exact LeO.refl _)
      | (with_reducible exact LeO.none _)
      | (with_reducible refine LeO.ite ?_ ?_)
      | (with_reducible refine LeO.bind ?_ (fun _ => ?_))
      | exact ih0 _ _ _
      | exact ih1 _ _
      | exact ih2 _ _ _
      | exact LeO.none _
      | refine LeO.ite ?_ ?_
      | refine LeO.bind ?_ (fun _ => ?_)
theorem fixed_MulDiv.mono : ∀ a0 a1 a2 k, LeO (fixed_MulDiv.f k a0 a1 a2) (fixed_MulDiv.f (k + 1) a0 a1 a2) := by
  intro a0 a1 a2 k
  obtain ⟨ih0, ih1, ih2⟩ := fixed_MulDiv.mono_l k
  unfold fixed_MulDiv.f
  repeat' first
      | (with_reducible exact ih0 _ _ _)
      | (with_reducible exact ih1 _ _)
      | (with_reducible exact ih2 _ _ _)
      | (with_reducible exact LeO.refl _)
      | (with_reducible exact LeO.none _)
      | (with_reducible refine LeO.ite ?_ ?_)
      | (with_reducible refine LeO.bind ?_ (fun _ => ?_))
      | exact ih0 _ _ _
      | exact ih1 _ _
      | exact ih2 _ _ _
      | exact LeO.none _
      | refine LeO.ite ?_ ?_
      | refine LeO.bind ?_ (fun _ => ?_)
set_option maxHeartbeats 8000000 in
set_option maxRecDepth 100000 in
theorem fixed_MulDiv.calls (k : Nat) (a0 : Int) (a1 : Int) (a2 : Int) (r1 : Int) (r2 : Bool) (w : World) (h : fixed_MulDiv.f k a0 a1 a2 = some (r1, r2)) :
    Calls Try.prog 53 #[.int .i64 a0, .int .i64 a1, .int .i64 a2] w fun e w' => e = .returned (.tuple #[.int .i64 r1, .bool r2]) ∧ Drawn0 w w' := by
  have H : (if a2 < 1 then (some (0, false)) else ((fixed_size.f a0).bind fun t105 => ((fixed_size.f a1).bind fun t106 => ((bits_Mul64.f t105 t106).bind fun bt107 => (if bt107.1 ≥ (IntKind.u64.wrap (a2)) then (some (0, false)) else ((bits_Div64.f bt107.1 bt107.2 (IntKind.u64.wrap (a2))).bind fun bt109 => (if bt109.1 > 9223372036854775808 then (some (0, false)) else (if bt109.2 > (IntKind.u64.wrap ((IntKind.u64.wrap (a2)) - bt109.2)) then (fixed_MulDiv.j0 k bt109.1 ((decide (a0 < 0)) != (decide (a1 < 0))) true) else (if bt109.2 = (IntKind.u64.wrap ((IntKind.u64.wrap (a2)) - bt109.2)) then (fixed_MulDiv.j0 k bt109.1 ((decide (a0 < 0)) != (decide (a1 < 0))) (!((decide (a0 < 0)) != (decide (a1 < 0))))) else (fixed_MulDiv.j0 k bt109.1 ((decide (a0 < 0)) != (decide (a1 < 0))) false)))))))))) = some (r1, r2) := h
  clear h
  by_cases c4 : a2 < 1
  · rw [if_pos c4] at H
    have c4b0 : decide (a2 < 1) = true := decide_eq_true c4
    clear c4
    simp only [Option.some.injEq, Prod.mk.injEq] at H
    obtain ⟨rfl, rfl⟩ := H
    go_enter Try.func53, Try.ntmps53
    go_wp2
    go_ret2
    exact ⟨by first | rfl | (simp; done) | (simp [*]; done), by repeat (first | exact Drawn0.refl _ | apply Drawn0.step)⟩
  · rw [if_neg c4] at H
    have c4b0 : decide (a2 < 1) = false := decide_eq_false c4
    clear c4
    replace H := Option.bind_eq_some_iff.mp H
    obtain ⟨t105, A50, H⟩ := H
    replace H : ((fixed_size.f a1).bind fun t106 => ((bits_Mul64.f t105 t106).bind fun bt107 => (if bt107.1 ≥ (IntKind.u64.wrap (a2)) then (some (0, false)) else ((bits_Div64.f bt107.1 bt107.2 (IntKind.u64.wrap (a2))).bind fun bt109 => (if bt109.1 > 9223372036854775808 then (some (0, false)) else (if bt109.2 > (IntKind.u64.wrap ((IntKind.u64.wrap (a2)) - bt109.2)) then (fixed_MulDiv.j0 k bt109.1 ((decide (a0 < 0)) != (decide (a1 < 0))) true) else (if bt109.2 = (IntKind.u64.wrap ((IntKind.u64.wrap (a2)) - bt109.2)) then (fixed_MulDiv.j0 k bt109.1 ((decide (a0 < 0)) != (decide (a1 < 0))) (!((decide (a0 < 0)) != (decide (a1 < 0))))) else (fixed_MulDiv.j0 k bt109.1 ((decide (a0 < 0)) != (decide (a1 < 0))) false)))))))) = some (r1, r2) := H
    have A5 := Aside0.mk A50
    clear A50
    replace H := Option.bind_eq_some_iff.mp H
    obtain ⟨t106, A60, H⟩ := H
    replace H : ((bits_Mul64.f t105 t106).bind fun bt107 => (if bt107.1 ≥ (IntKind.u64.wrap (a2)) then (some (0, false)) else ((bits_Div64.f bt107.1 bt107.2 (IntKind.u64.wrap (a2))).bind fun bt109 => (if bt109.1 > 9223372036854775808 then (some (0, false)) else (if bt109.2 > (IntKind.u64.wrap ((IntKind.u64.wrap (a2)) - bt109.2)) then (fixed_MulDiv.j0 k bt109.1 ((decide (a0 < 0)) != (decide (a1 < 0))) true) else (if bt109.2 = (IntKind.u64.wrap ((IntKind.u64.wrap (a2)) - bt109.2)) then (fixed_MulDiv.j0 k bt109.1 ((decide (a0 < 0)) != (decide (a1 < 0))) (!((decide (a0 < 0)) != (decide (a1 < 0))))) else (fixed_MulDiv.j0 k bt109.1 ((decide (a0 < 0)) != (decide (a1 < 0))) false))))))) = some (r1, r2) := H
    have A6 := Aside0.mk A60
    clear A60
    replace H := Option.bind_eq_some_iff.mp H
    obtain ⟨⟨t107, t108⟩, A70, H⟩ := H
    replace H : (if t107 ≥ (IntKind.u64.wrap (a2)) then (some (0, false)) else ((bits_Div64.f t107 t108 (IntKind.u64.wrap (a2))).bind fun bt109 => (if bt109.1 > 9223372036854775808 then (some (0, false)) else (if bt109.2 > (IntKind.u64.wrap ((IntKind.u64.wrap (a2)) - bt109.2)) then (fixed_MulDiv.j0 k bt109.1 ((decide (a0 < 0)) != (decide (a1 < 0))) true) else (if bt109.2 = (IntKind.u64.wrap ((IntKind.u64.wrap (a2)) - bt109.2)) then (fixed_MulDiv.j0 k bt109.1 ((decide (a0 < 0)) != (decide (a1 < 0))) (!((decide (a0 < 0)) != (decide (a1 < 0))))) else (fixed_MulDiv.j0 k bt109.1 ((decide (a0 < 0)) != (decide (a1 < 0))) false)))))) = some (r1, r2) := H
    have A7 := Aside0.mk A70
    clear A70
    by_cases c8 : t107 ≥ (IntKind.u64.wrap (a2))
    · rw [if_pos c8] at H
      have c8b0 : decide ((IntKind.u64.wrap (a2)) ≤ t107) = true := decide_eq_true c8
      clear c8
      simp only [Option.some.injEq, Prod.mk.injEq] at H
      obtain ⟨rfl, rfl⟩ := H
      go_enter Try.func53, Try.ntmps53
      go_wp2_with (first | ((with_reducible refine gate_callee (f := 60) rfl ?_); refine goesL_ (some 18) rfl rfl Try.func60 (by kernel_rfl) rfl #[.int .i64 a0] rfl (by (try simp only [List.map_toArray, List.map_cons, List.map_nil]); first | done | rfl | (simp only [List.length_drop, List.length_take]; rfl)) ?_; (with_reducible refine (fixed_size.calls a0 t105 _ A5.out).mono ?_); rintro e w' ⟨rfl, ⟨nd, rfl⟩⟩; refine ⟨_, rfl, ?_⟩) | ((with_reducible refine gate_callee (f := 60) rfl ?_); refine goesL_ (some 20) rfl rfl Try.func60 (by kernel_rfl) rfl #[.int .i64 a1] rfl (by (try simp only [List.map_toArray, List.map_cons, List.map_nil]); first | done | rfl | (simp only [List.length_drop, List.length_take]; rfl)) ?_; (with_reducible refine (fixed_size.calls a1 t106 _ A6.out).mono ?_); rintro e w' ⟨rfl, ⟨nd, rfl⟩⟩; refine ⟨_, rfl, ?_⟩) | ((with_reducible refine gate_callee (f := 58) rfl ?_); refine goesL_ (some 21) rfl rfl Try.func58 (by kernel_rfl) rfl #[.int .u64 t105, .int .u64 t106] rfl (by (try simp only [List.map_toArray, List.map_cons, List.map_nil]); first | done | rfl | (simp only [List.length_drop, List.length_take]; rfl)) ?_; (with_reducible refine (bits_Mul64.calls t105 t106 t107 t108 _ A7.out).mono ?_); rintro e w' ⟨rfl, ⟨nd, rfl⟩⟩; refine ⟨_, rfl, ?_⟩))
      go_ret2
      exact ⟨by first | rfl | (simp; done) | (simp [*]; done), by repeat (first | exact Drawn0.refl _ | apply Drawn0.step)⟩
    · rw [if_neg c8] at H
      have c8b0 : decide ((IntKind.u64.wrap (a2)) ≤ t107) = false := decide_eq_false c8
      clear c8
      replace H := Option.bind_eq_some_iff.mp H
      obtain ⟨⟨t109, t110⟩, A90, H⟩ := H
      replace H : (if t109 > 9223372036854775808 then (some (0, false)) else (if t110 > (IntKind.u64.wrap ((IntKind.u64.wrap (a2)) - t110)) then (fixed_MulDiv.j0 k t109 ((decide (a0 < 0)) != (decide (a1 < 0))) true) else (if t110 = (IntKind.u64.wrap ((IntKind.u64.wrap (a2)) - t110)) then (fixed_MulDiv.j0 k t109 ((decide (a0 < 0)) != (decide (a1 < 0))) (!((decide (a0 < 0)) != (decide (a1 < 0))))) else (fixed_MulDiv.j0 k t109 ((decide (a0 < 0)) != (decide (a1 < 0))) false)))) = some (r1, r2) := H
      have A9 := Aside0.mk A90
      clear A90
      by_cases c10 : t109 > 9223372036854775808
      · rw [if_pos c10] at H
        have c10b0 : decide (9223372036854775808 < t109) = true := decide_eq_true c10
        clear c10
        simp only [Option.some.injEq, Prod.mk.injEq] at H
        obtain ⟨rfl, rfl⟩ := H
        go_enter Try.func53, Try.ntmps53
        go_wp2_with (first | ((with_reducible refine gate_callee (f := 60) rfl ?_); refine goesL_ (some 18) rfl rfl Try.func60 (by kernel_rfl) rfl #[.int .i64 a0] rfl (by (try simp only [List.map_toArray, List.map_cons, List.map_nil]); first | done | rfl | (simp only [List.length_drop, List.length_take]; rfl)) ?_; (with_reducible refine (fixed_size.calls a0 t105 _ A5.out).mono ?_); rintro e w' ⟨rfl, ⟨nd, rfl⟩⟩; refine ⟨_, rfl, ?_⟩) | ((with_reducible refine gate_callee (f := 60) rfl ?_); refine goesL_ (some 20) rfl rfl Try.func60 (by kernel_rfl) rfl #[.int .i64 a1] rfl (by (try simp only [List.map_toArray, List.map_cons, List.map_nil]); first | done | rfl | (simp only [List.length_drop, List.length_take]; rfl)) ?_; (with_reducible refine (fixed_size.calls a1 t106 _ A6.out).mono ?_); rintro e w' ⟨rfl, ⟨nd, rfl⟩⟩; refine ⟨_, rfl, ?_⟩) | ((with_reducible refine gate_callee (f := 58) rfl ?_); refine goesL_ (some 21) rfl rfl Try.func58 (by kernel_rfl) rfl #[.int .u64 t105, .int .u64 t106] rfl (by (try simp only [List.map_toArray, List.map_cons, List.map_nil]); first | done | rfl | (simp only [List.length_drop, List.length_take]; rfl)) ?_; (with_reducible refine (bits_Mul64.calls t105 t106 t107 t108 _ A7.out).mono ?_); rintro e w' ⟨rfl, ⟨nd, rfl⟩⟩; refine ⟨_, rfl, ?_⟩) | ((with_reducible refine gate_callee (f := 61) rfl ?_); refine goesL_ (some 33) rfl rfl Try.func61 (by kernel_rfl) rfl #[.int .u64 t107, .int .u64 t108, .int .u64 (IntKind.u64.wrap (a2))] rfl (by (try simp only [List.map_toArray, List.map_cons, List.map_nil]); first | done | rfl | (simp only [List.length_drop, List.length_take]; rfl)) ?_; (with_reducible refine (bits_Div64.calls t107 t108 (IntKind.u64.wrap (a2)) t109 t110 _ A9.out).mono ?_); rintro e w' ⟨rfl, ⟨nd, rfl⟩⟩; refine ⟨_, rfl, ?_⟩))
        go_ret2
        exact ⟨by first | rfl | (simp; done) | (simp [*]; done), by repeat (first | exact Drawn0.refl _ | apply Drawn0.step)⟩
      · rw [if_neg c10] at H
        have c10b0 : decide (9223372036854775808 < t109) = false := decide_eq_false c10
        clear c10
        have HC11 := Aside0.mk H
        clear H
        go_enter Try.func53, Try.ntmps53
        go_upto_region 11 with (first | ((with_reducible refine gate_callee (f := 60) rfl ?_); refine goesL_ (some 18) rfl rfl Try.func60 (by kernel_rfl) rfl #[.int .i64 a0] rfl (by (try simp only [List.map_toArray, List.map_cons, List.map_nil]); first | done | rfl | (simp only [List.length_drop, List.length_take]; rfl)) ?_; (with_reducible refine (fixed_size.calls a0 t105 _ A5.out).mono ?_); rintro e w' ⟨rfl, ⟨nd, rfl⟩⟩; refine ⟨_, rfl, ?_⟩) | ((with_reducible refine gate_callee (f := 60) rfl ?_); refine goesL_ (some 20) rfl rfl Try.func60 (by kernel_rfl) rfl #[.int .i64 a1] rfl (by (try simp only [List.map_toArray, List.map_cons, List.map_nil]); first | done | rfl | (simp only [List.length_drop, List.length_take]; rfl)) ?_; (with_reducible refine (fixed_size.calls a1 t106 _ A6.out).mono ?_); rintro e w' ⟨rfl, ⟨nd, rfl⟩⟩; refine ⟨_, rfl, ?_⟩) | ((with_reducible refine gate_callee (f := 58) rfl ?_); refine goesL_ (some 21) rfl rfl Try.func58 (by kernel_rfl) rfl #[.int .u64 t105, .int .u64 t106] rfl (by (try simp only [List.map_toArray, List.map_cons, List.map_nil]); first | done | rfl | (simp only [List.length_drop, List.length_take]; rfl)) ?_; (with_reducible refine (bits_Mul64.calls t105 t106 t107 t108 _ A7.out).mono ?_); rintro e w' ⟨rfl, ⟨nd, rfl⟩⟩; refine ⟨_, rfl, ?_⟩) | ((with_reducible refine gate_callee (f := 61) rfl ?_); refine goesL_ (some 33) rfl rfl Try.func61 (by kernel_rfl) rfl #[.int .u64 t107, .int .u64 t108, .int .u64 (IntKind.u64.wrap (a2))] rfl (by (try simp only [List.map_toArray, List.map_cons, List.map_nil]); first | done | rfl | (simp only [List.length_drop, List.length_take]; rfl)) ?_; (with_reducible refine (bits_Div64.calls t107 t108 (IntKind.u64.wrap (a2)) t109 t110 _ A9.out).mono ?_); rintro e w' ⟨rfl, ⟨nd, rfl⟩⟩; refine ⟨_, rfl, ?_⟩))
        (try simp only [Act.put, List.setIfInBounds_toArray, List.set_cons_zero, List.set_cons_succ])
        go_cut [58] (fun v58 wc => ∃ (kq : Nat) (x58_10 : Bool), v58 = .bool x58_10 ∧ Aside0 (fixed_MulDiv.j0 kq t109 ((decide (a0 < 0)) != (decide (a1 < 0))) x58_10 = some (r1, r2)) ∧ Aside0 (kq ≤ k) ∧ Drawn0 w wc)
        case first =>
          have H := HC11.out
          clear HC11
          by_cases c12 : t110 > (IntKind.u64.wrap ((IntKind.u64.wrap (a2)) - t110))
          · rw [if_pos c12] at H
            have c12b0 : decide ((IntKind.u64.wrap ((IntKind.u64.wrap (a2)) - t110)) < t110) = true := decide_eq_true c12
            clear c12
            (first | rw [c12b0] | (simp only [i64_w, i32_w]; rw [c12b0]) | skip)
            have H' := Aside0.mk H
            clear H
            go_wp2
            go_meet
            case rel => exact ⟨_, (true), (by first | rfl | (simp; done) | (simp [*]; done) | (simp [bne]; done)), H', ⟨by first | omega | exact Nat.le_refl _⟩, by repeat (first | exact Drawn0.refl _ | apply Drawn0.step)⟩
          · rw [if_neg c12] at H
            have c12b0 : decide ((IntKind.u64.wrap ((IntKind.u64.wrap (a2)) - t110)) < t110) = false := decide_eq_false c12
            clear c12
            (first | rw [c12b0] | (simp only [i64_w, i32_w]; rw [c12b0]) | skip)
            by_cases c13 : t110 = (IntKind.u64.wrap ((IntKind.u64.wrap (a2)) - t110))
            · rw [if_pos c13] at H
              have c13b0 : (t110 == (IntKind.u64.wrap ((IntKind.u64.wrap (a2)) - t110))) = true := beq_iff_eq.mpr c13
              have c13b1 : (t110 != (IntKind.u64.wrap ((IntKind.u64.wrap (a2)) - t110))) = false := bne_eq_false_iff_eq.mpr c13
              clear c13
              have H' := Aside0.mk H
              clear H
              go_wp2
              go_meet
              case rel => exact ⟨_, (!((decide (a0 < 0)) != (decide (a1 < 0)))), (by first | rfl | (simp; done) | (simp [*]; done) | (simp [bne]; done)), H', ⟨by first | omega | exact Nat.le_refl _⟩, by repeat (first | exact Drawn0.refl _ | apply Drawn0.step)⟩
            · rw [if_neg c13] at H
              have c13b0 : (t110 == (IntKind.u64.wrap ((IntKind.u64.wrap (a2)) - t110))) = false := beq_eq_false_iff_ne.mpr c13
              have c13b1 : (t110 != (IntKind.u64.wrap ((IntKind.u64.wrap (a2)) - t110))) = true := bne_iff_ne.mpr c13
              have H' := Aside0.mk H
              clear H
              go_wp2
              go_meet
              case rel => exact ⟨_, (false), (by first | rfl | (simp; done) | (simp [*]; done) | (simp [bne]; done)), H', ⟨by first | omega | exact Nat.le_refl _⟩, by repeat (first | exact Drawn0.refl _ | apply Drawn0.step)⟩
        case rest =>
          clear HC11
          try clear c1
          try clear p2
          try clear c4
          try clear c4b0
          try clear c5
          try clear c6
          try clear c8
          try clear c8b0
          try clear c10
          try clear c10b0
          try clear c12
          try clear c12b0
          try clear c13
          try clear c13b0
          try clear c13b1
          obtain ⟨kq, x58_10, rfl, HA, HJ10, ⟨mc10, rfl⟩⟩ := hcut
          cases kq with
          | zero => exact absurd HA.out (by simp [fixed_MulDiv.j0])
          | succ kj10 =>
            have H := HA.out
            clear HA
            simp only [fixed_MulDiv.j0] at H
            have HC14 := Aside0.mk H
            clear H
            go_upto_if 58 with (fail)
            go_cut [10] (fun v10 wc => ∃ (kq : Nat) (x10_13 : Int), v10 = .int .u64 x10_13 ∧ Aside0 (fixed_MulDiv.j1 kq x10_13 ((decide (a0 < 0)) != (decide (a1 < 0))) = some (r1, r2)) ∧ Aside0 (kq ≤ kj10) ∧ Drawn0 w wc)
            case first =>
              have H := HC14.out
              clear HC14
              by_cases c15 : x58_10 = true
              · subst c15
                have H1 : (fixed_MulDiv.j1 kj10 (IntKind.u64.wrap (t109 + 1)) ((decide (a0 < 0)) != (decide (a1 < 0)))) = some (r1, r2) := by rw [if_pos rfl] at H; exact H
                clear H
                have H := H1
                clear H1
                have H' := Aside0.mk H
                clear H
                go_wp2
                go_meet
                case rel => exact ⟨_, (IntKind.u64.wrap (t109 + 1)), (by first | rfl | (simp; done) | (simp [*]; done) | (simp [bne]; done)), H', ⟨by have := HJ10.out; first | omega | exact Nat.le_refl _⟩, by repeat (first | exact Drawn0.refl _ | apply Drawn0.step)⟩
              · replace c15 := Bool.eq_false_iff.mpr c15
                subst c15
                have H1 : (fixed_MulDiv.j1 kj10 t109 ((decide (a0 < 0)) != (decide (a1 < 0)))) = some (r1, r2) := by rw [if_neg (show ¬ (false = true) by decide)] at H; exact H
                clear H
                have H := H1
                clear H1
                have H' := Aside0.mk H
                clear H
                go_wp2
                go_meet
                case rel => exact ⟨_, (t109), (by first | rfl | (simp; done) | (simp [*]; done) | (simp [bne]; done)), H', ⟨by have := HJ10.out; first | omega | exact Nat.le_refl _⟩, by repeat (first | exact Drawn0.refl _ | apply Drawn0.step)⟩
            case rest =>
              clear HC14
              try clear c1
              try clear p2
              try clear c4
              try clear c4b0
              try clear c5
              try clear c6
              try clear c8
              try clear c8b0
              try clear c10
              try clear c10b0
              try clear c12
              try clear c12b0
              try clear c13
              try clear c13b0
              try clear c13b1
              try clear c15
              try clear p2
              obtain ⟨kq, x10_13, rfl, HA, HJ13, ⟨mc13, rfl⟩⟩ := hcut
              cases kq with
              | zero => exact absurd HA.out (by simp [fixed_MulDiv.j1])
              | succ kj13 =>
                have H := HA.out
                clear HA
                simp only [fixed_MulDiv.j1] at H
                have HC16 := Aside0.mk H
                clear H
                go_upto_region 13 with (fail)
                go_cut [61] (fun v61 wc => ∃ (kq : Nat) (x61_15 : Bool), v61 = .bool x61_15 ∧ Aside0 (fixed_MulDiv.j2 kq x10_13 ((decide (a0 < 0)) != (decide (a1 < 0))) x61_15 = some (r1, r2)) ∧ Aside0 (kq ≤ kj13) ∧ Drawn0 w wc)
                case first =>
                  have H := HC16.out
                  clear HC16
                  by_cases c17 : ((decide (a0 < 0)) != (decide (a1 < 0))) = true
                  · rw [if_pos c17] at H
                    have c17b0 : ((decide (a0 < 0)) != (decide (a1 < 0))) = true := c17
                    (try (have c17b1 : decide ((decide (a0 < 0)) = (decide (a1 < 0))) = false := by simpa using c17))
                    (try (have c17b2 : ((decide (a0 < 0)) == (decide (a1 < 0))) = false := by simpa using c17))
                    (try (have c17b3 : ¬ ((decide (a0 < 0)) = (decide (a1 < 0))) := by simpa using c17))
                    clear c17
                    (first | rw [c17b0] | (simp only [i64_w, i32_w]; rw [c17b0]) | skip)
                    have H' := Aside0.mk H
                    clear H
                    go_wp2
                    go_meet
                    case rel => exact ⟨_, (false), (by first | rfl | (simp; done) | (simp [*]; done) | (simp [bne]; done)), H', ⟨by have := HJ10.out; have := HJ13.out; first | omega | exact Nat.le_refl _⟩, by repeat (first | exact Drawn0.refl _ | apply Drawn0.step)⟩
                  · rw [if_neg c17] at H
                    have c17b0 : ((decide (a0 < 0)) != (decide (a1 < 0))) = false := by simpa using c17
                    (try (have c17b1 : decide ((decide (a0 < 0)) = (decide (a1 < 0))) = true := by simpa using c17))
                    (try (have c17b2 : ((decide (a0 < 0)) == (decide (a1 < 0))) = true := by simpa using c17))
                    clear c17
                    (first | rw [c17b0] | (simp only [i64_w, i32_w]; rw [c17b0]) | skip)
                    have H' := Aside0.mk H
                    clear H
                    go_wp2
                    go_meet
                    case rel => exact ⟨_, (decide (x10_13 ≤ 9223372036854775807)), (by first | rfl | (simp; done) | (simp [*]; done) | (simp [bne]; done)), H', ⟨by have := HJ10.out; have := HJ13.out; first | omega | exact Nat.le_refl _⟩, by repeat (first | exact Drawn0.refl _ | apply Drawn0.step)⟩
                case rest =>
                  clear HC16
                  try clear c1
                  try clear p2
                  try clear c4
                  try clear c4b0
                  try clear c5
                  try clear c6
                  try clear c8
                  try clear c8b0
                  try clear c10
                  try clear c10b0
                  try clear c12
                  try clear c12b0
                  try clear c13
                  try clear c13b0
                  try clear c13b1
                  try clear c15
                  try clear c17
                  try clear c17b0
                  try clear c17b1
                  try clear c17b2
                  try clear p2
                  obtain ⟨kq, x61_15, rfl, HA, HJ15, ⟨mc15, rfl⟩⟩ := hcut
                  cases kq with
                  | zero => exact absurd HA.out (by simp [fixed_MulDiv.j2])
                  | succ kj15 =>
                    have H := HA.out
                    clear HA
                    simp only [fixed_MulDiv.j2] at H
                    by_cases c18 : x61_15 = true
                    · subst c18
                      have H1 : (some (wrap64 (x10_13), true)) = some (r1, r2) := by rw [if_pos rfl] at H; exact H
                      clear H
                      have H := H1
                      clear H1
                      simp only [Option.some.injEq, Prod.mk.injEq] at H
                      obtain ⟨rfl, rfl⟩ := H
                      go_wp2
                      go_ret2
                      exact ⟨by first | rfl | (simp; done) | (simp [*]; done), by repeat (first | exact Drawn0.refl _ | apply Drawn0.step)⟩
                    · replace c18 := Bool.eq_false_iff.mpr c18
                      subst c18
                      have H1 : (if ((decide (a0 < 0)) != (decide (a1 < 0))) = true then (if x10_13 ≤ 9223372036854775808 then (some (wrap64 (IntKind.u64.wrap (-x10_13)), true)) else (some (0, false))) else (some (0, false))) = some (r1, r2) := by rw [if_neg (show ¬ (false = true) by decide)] at H; exact H
                      clear H
                      have H := H1
                      clear H1
                      by_cases c19 : ((decide (a0 < 0)) != (decide (a1 < 0))) = true
                      · rw [if_pos c19] at H
                        have c19b0 : ((decide (a0 < 0)) != (decide (a1 < 0))) = true := c19
                        (try (have c19b1 : decide ((decide (a0 < 0)) = (decide (a1 < 0))) = false := by simpa using c19))
                        (try (have c19b2 : ((decide (a0 < 0)) == (decide (a1 < 0))) = false := by simpa using c19))
                        (try (have c19b3 : ¬ ((decide (a0 < 0)) = (decide (a1 < 0))) := by simpa using c19))
                        clear c19
                        by_cases c20 : x10_13 ≤ 9223372036854775808
                        · rw [if_pos c20] at H
                          have c20b0 : decide (x10_13 ≤ 9223372036854775808) = true := decide_eq_true c20
                          clear c20
                          simp only [Option.some.injEq, Prod.mk.injEq] at H
                          obtain ⟨rfl, rfl⟩ := H
                          go_wp2
                          go_ret2
                          exact ⟨by first | rfl | (simp; done) | (simp [*]; done), by repeat (first | exact Drawn0.refl _ | apply Drawn0.step)⟩
                        · rw [if_neg c20] at H
                          have c20b0 : decide (x10_13 ≤ 9223372036854775808) = false := decide_eq_false c20
                          clear c20
                          simp only [Option.some.injEq, Prod.mk.injEq] at H
                          obtain ⟨rfl, rfl⟩ := H
                          go_wp2
                          go_ret2
                          exact ⟨by first | rfl | (simp; done) | (simp [*]; done), by repeat (first | exact Drawn0.refl _ | apply Drawn0.step)⟩
                      · rw [if_neg c19] at H
                        have c19b0 : ((decide (a0 < 0)) != (decide (a1 < 0))) = false := by simpa using c19
                        (try (have c19b1 : decide ((decide (a0 < 0)) = (decide (a1 < 0))) = true := by simpa using c19))
                        (try (have c19b2 : ((decide (a0 < 0)) == (decide (a1 < 0))) = true := by simpa using c19))
                        clear c19
                        simp only [Option.some.injEq, Prod.mk.injEq] at H
                        obtain ⟨rfl, rfl⟩ := H
                        go_wp2
                        go_ret2
                        exact ⟨by first | rfl | (simp; done) | (simp [*]; done), by repeat (first | exact Drawn0.refl _ | apply Drawn0.step)⟩

/-! ### glyphiclaw1_FixedScales: function 18 -/
def glyphiclaw1_FixedScales.j0 : Nat → Int → Int → Int → Bool → Option (Bool)
  | 0, _, _, _, _ => none
  | k + 1, x0, x1, x2, x7 => (fixed_MulDiv.f k x0 x1 x2).bind fun bt112 => ((fixed_MulDiv.f k x0 x2 x2).bind fun bt114 => ((fixed_MulDiv.f k 4611686018427387904 4 1).bind fun bt116 => ((fixed_MulDiv.f k 4611686018427387904 4 1152921504606846976).bind fun bt118 => ((fixed_MulDiv.f k (-9223372036854775808) 1 1).bind fun bt120 => (if x7 = true then (if bt112.2 = true then ((fixed_Round.f (wrap64 (x0 * x1)) x2).bind fun t122 => (if bt112.1 = t122 then (if bt114.2 = true then (if bt114.1 = x0 then (if bt116.2 = true then (some false) else (if bt118.2 = true then (if bt118.1 = 16 then (if bt120.2 = true then (some (bt120.1 == (-9223372036854775808))) else (some false)) else (some false)) else (some false))) else (some false)) else (some false)) else (some false))) else (some false)) else (some false))))))
def glyphiclaw1_FixedScales.f (k : Nat) (a0 : Int) (a1 : Int) (a2 : Int) : Option (Bool) := (glyphiclaw1_first.f k).bind fun t111 => (if t111 = true then (if (a2 / 4) < 1 then (glyphiclaw1_FixedScales.j0 k (a0 / 4294967296) (a1 / 8589934592) (wrap64 (1 - (a2 / 4))) t111) else (glyphiclaw1_FixedScales.j0 k (a0 / 4294967296) (a1 / 8589934592) (a2 / 4) t111)) else (some false))
theorem glyphiclaw1_FixedScales.mono_l : ∀ k, (∀ y0 y1 y2 y3, LeO (glyphiclaw1_FixedScales.j0 k y0 y1 y2 y3) (glyphiclaw1_FixedScales.j0 (k + 1) y0 y1 y2 y3))
  | 0 => fun _ _ _ _ r h => by simp [glyphiclaw1_FixedScales.j0] at h
  | k + 1 => by
    have ih0 := glyphiclaw1_FixedScales.mono_l k
    · intro y0 y1 y2 y3
      unfold glyphiclaw1_FixedScales.j0
      repeat' first
      | (with_reducible exact ih0 _ _ _ _)
      | (with_reducible exact fixed_MulDiv.mono _ _ _ _)
      | (with_reducible exact glyphiclaw1_first.mono _)
      | (with_reducible exact LeO.refl _)
      | (with_reducible exact LeO.none _)
      | (with_reducible refine LeO.ite ?_ ?_)
      | (with_reducible refine LeO.bind ?_ (fun _ => ?_))
      | exact ih0 _ _ _ _
      | exact fixed_MulDiv.mono _ _ _ _
      | exact glyphiclaw1_first.mono _
      | exact LeO.none _
      | refine LeO.ite ?_ ?_
      | refine LeO.bind ?_ (fun _ => ?_)
theorem glyphiclaw1_FixedScales.mono : ∀ a0 a1 a2 k, LeO (glyphiclaw1_FixedScales.f k a0 a1 a2) (glyphiclaw1_FixedScales.f (k + 1) a0 a1 a2) := by
  intro a0 a1 a2 k
  have ih0 := glyphiclaw1_FixedScales.mono_l k
  unfold glyphiclaw1_FixedScales.f
  repeat' first
      | (with_reducible exact ih0 _ _ _ _)
      | (with_reducible exact fixed_MulDiv.mono _ _ _ _)
      | (with_reducible exact glyphiclaw1_first.mono _)
      | (with_reducible exact LeO.refl _)
      | (with_reducible exact LeO.none _)
      | (with_reducible refine LeO.ite ?_ ?_)
      | (with_reducible refine LeO.bind ?_ (fun _ => ?_))
      | exact ih0 _ _ _ _
      | exact fixed_MulDiv.mono _ _ _ _
      | exact glyphiclaw1_first.mono _
      | exact LeO.none _
      | refine LeO.ite ?_ ?_
      | refine LeO.bind ?_ (fun _ => ?_)
set_option maxHeartbeats 8000000 in
set_option maxRecDepth 100000 in
theorem glyphiclaw1_FixedScales.calls (k : Nat) (a0 : Int) (a1 : Int) (a2 : Int) (r : Bool) (w : World) (hr0_ : Aside0 (r = true)) (h : glyphiclaw1_FixedScales.f k a0 a1 a2 = some r) :
    Calls Try.prog 18 #[.int .i64 a0, .int .i64 a1, .int .i64 a2] w fun e w' => e = .returned (.bool r) ∧ Drawn0 w w' := by
  have H : ((glyphiclaw1_first.f k).bind fun t111 => (if t111 = true then (if (a2 / 4) < 1 then (glyphiclaw1_FixedScales.j0 k (a0 / 4294967296) (a1 / 8589934592) (wrap64 (1 - (a2 / 4))) t111) else (glyphiclaw1_FixedScales.j0 k (a0 / 4294967296) (a1 / 8589934592) (a2 / 4) t111)) else (some false))) = some r := h
  clear h
  replace H := Option.bind_eq_some_iff.mp H
  obtain ⟨t111, A40, H⟩ := H
  replace H : (if t111 = true then (if (a2 / 4) < 1 then (glyphiclaw1_FixedScales.j0 k (a0 / 4294967296) (a1 / 8589934592) (wrap64 (1 - (a2 / 4))) t111) else (glyphiclaw1_FixedScales.j0 k (a0 / 4294967296) (a1 / 8589934592) (a2 / 4) t111)) else (some false)) = some r := H
  have A4 := Aside0.mk A40
  clear A40
  by_cases c5 : t111 = true
  · subst c5
    have H1 : (if (a2 / 4) < 1 then (glyphiclaw1_FixedScales.j0 k (a0 / 4294967296) (a1 / 8589934592) (wrap64 (1 - (a2 / 4))) true) else (glyphiclaw1_FixedScales.j0 k (a0 / 4294967296) (a1 / 8589934592) (a2 / 4) true)) = some r := by rw [if_pos rfl] at H; exact H
    clear H
    have H := H1
    clear H1
    have HC6 := Aside0.mk H
    clear H
    go_enter Try.func18, Try.ntmps18
    go_upto_if 28 with (first | ((with_reducible refine gate_callee (f := 29) rfl ?_); refine goesL_ (some 18) rfl rfl Try.func29 (by kernel_rfl) rfl #[] rfl (by (try simp only [List.map_toArray, List.map_cons, List.map_nil]); first | done | rfl | (simp only [List.length_drop, List.length_take]; rfl)) ?_; (with_reducible refine (glyphiclaw1_first.calls k  true _ A4.out).mono ?_); rintro e w' ⟨rfl, ⟨nd, rfl⟩⟩; refine ⟨_, rfl, ?_⟩))
    (try simp only [Act.put, List.setIfInBounds_toArray, List.set_cons_zero, List.set_cons_succ])
    go_cut [2] (fun v2 wc => ∃ (kq : Nat) (x2_5 : Int), v2 = .int .i64 x2_5 ∧ Aside0 (glyphiclaw1_FixedScales.j0 kq (a0 / 4294967296) (a1 / 8589934592) x2_5 true = some r) ∧ Aside0 (kq ≤ k) ∧ Drawn0 w wc)
    case first =>
      have H := HC6.out
      clear HC6
      by_cases c7 : (a2 / 4) < 1
      · rw [if_pos c7] at H
        have c7b0 : decide ((a2 / 4) < 1) = true := decide_eq_true c7
        clear c7
        (first | rw [c7b0] | (simp only [i64_w, i32_w]; rw [c7b0]) | skip)
        have H' := Aside0.mk H
        clear H
        go_wp2
        go_meet
        case rel => exact ⟨_, (wrap64 (1 - (a2 / 4))), (by first | rfl | (simp; done) | (simp [*]; done) | (simp [bne]; done)), H', ⟨by first | omega | exact Nat.le_refl _⟩, by repeat (first | exact Drawn0.refl _ | apply Drawn0.step)⟩
      · rw [if_neg c7] at H
        have c7b0 : decide ((a2 / 4) < 1) = false := decide_eq_false c7
        clear c7
        (first | rw [c7b0] | (simp only [i64_w, i32_w]; rw [c7b0]) | skip)
        have H' := Aside0.mk H
        clear H
        go_wp2
        go_meet
        case rel => exact ⟨_, (a2 / 4), (by first | rfl | (simp; done) | (simp [*]; done) | (simp [bne]; done)), H', ⟨by first | omega | exact Nat.le_refl _⟩, by repeat (first | exact Drawn0.refl _ | apply Drawn0.step)⟩
    case rest =>
      clear HC6
      try clear c1
      try clear c2
      try clear p2
      try clear c5
      try clear p6
      try clear c7
      try clear c7b0
      obtain ⟨kq, x2_5, rfl, HA, HJ5, ⟨mc5, rfl⟩⟩ := hcut
      cases kq with
      | zero => exact absurd HA.out (by simp [glyphiclaw1_FixedScales.j0])
      | succ kj5 =>
        have H := HA.out
        clear HA
        simp only [glyphiclaw1_FixedScales.j0] at H
        replace H := Option.bind_eq_some_iff.mp H
        obtain ⟨⟨t112, t113⟩, A80, H⟩ := H
        replace H : ((fixed_MulDiv.f kj5 (a0 / 4294967296) x2_5 x2_5).bind fun bt114 => ((fixed_MulDiv.f kj5 4611686018427387904 4 1).bind fun bt116 => ((fixed_MulDiv.f kj5 4611686018427387904 4 1152921504606846976).bind fun bt118 => ((fixed_MulDiv.f kj5 (-9223372036854775808) 1 1).bind fun bt120 => (if true = true then (if t113 = true then ((fixed_Round.f (wrap64 ((a0 / 4294967296) * (a1 / 8589934592))) x2_5).bind fun t122 => (if t112 = t122 then (if bt114.2 = true then (if bt114.1 = (a0 / 4294967296) then (if bt116.2 = true then (some false) else (if bt118.2 = true then (if bt118.1 = 16 then (if bt120.2 = true then (some (bt120.1 == (-9223372036854775808))) else (some false)) else (some false)) else (some false))) else (some false)) else (some false)) else (some false))) else (some false)) else (some false)))))) = some r := H
        have A8 := Aside0.mk A80
        clear A80
        replace H := Option.bind_eq_some_iff.mp H
        obtain ⟨⟨t114, t115⟩, A90, H⟩ := H
        replace H : ((fixed_MulDiv.f kj5 4611686018427387904 4 1).bind fun bt116 => ((fixed_MulDiv.f kj5 4611686018427387904 4 1152921504606846976).bind fun bt118 => ((fixed_MulDiv.f kj5 (-9223372036854775808) 1 1).bind fun bt120 => (if true = true then (if t113 = true then ((fixed_Round.f (wrap64 ((a0 / 4294967296) * (a1 / 8589934592))) x2_5).bind fun t122 => (if t112 = t122 then (if t115 = true then (if t114 = (a0 / 4294967296) then (if bt116.2 = true then (some false) else (if bt118.2 = true then (if bt118.1 = 16 then (if bt120.2 = true then (some (bt120.1 == (-9223372036854775808))) else (some false)) else (some false)) else (some false))) else (some false)) else (some false)) else (some false))) else (some false)) else (some false))))) = some r := H
        have A9 := Aside0.mk A90
        clear A90
        replace H := Option.bind_eq_some_iff.mp H
        obtain ⟨⟨t116, t117⟩, A100, H⟩ := H
        replace H : ((fixed_MulDiv.f kj5 4611686018427387904 4 1152921504606846976).bind fun bt118 => ((fixed_MulDiv.f kj5 (-9223372036854775808) 1 1).bind fun bt120 => (if true = true then (if t113 = true then ((fixed_Round.f (wrap64 ((a0 / 4294967296) * (a1 / 8589934592))) x2_5).bind fun t122 => (if t112 = t122 then (if t115 = true then (if t114 = (a0 / 4294967296) then (if t117 = true then (some false) else (if bt118.2 = true then (if bt118.1 = 16 then (if bt120.2 = true then (some (bt120.1 == (-9223372036854775808))) else (some false)) else (some false)) else (some false))) else (some false)) else (some false)) else (some false))) else (some false)) else (some false)))) = some r := H
        have A10 := Aside0.mk A100
        clear A100
        replace H := Option.bind_eq_some_iff.mp H
        obtain ⟨⟨t118, t119⟩, A110, H⟩ := H
        replace H : ((fixed_MulDiv.f kj5 (-9223372036854775808) 1 1).bind fun bt120 => (if true = true then (if t113 = true then ((fixed_Round.f (wrap64 ((a0 / 4294967296) * (a1 / 8589934592))) x2_5).bind fun t122 => (if t112 = t122 then (if t115 = true then (if t114 = (a0 / 4294967296) then (if t117 = true then (some false) else (if t119 = true then (if t118 = 16 then (if bt120.2 = true then (some (bt120.1 == (-9223372036854775808))) else (some false)) else (some false)) else (some false))) else (some false)) else (some false)) else (some false))) else (some false)) else (some false))) = some r := H
        have A11 := Aside0.mk A110
        clear A110
        replace H := Option.bind_eq_some_iff.mp H
        obtain ⟨⟨t120, t121⟩, A120, H⟩ := H
        replace H : (if true = true then (if t113 = true then ((fixed_Round.f (wrap64 ((a0 / 4294967296) * (a1 / 8589934592))) x2_5).bind fun t122 => (if t112 = t122 then (if t115 = true then (if t114 = (a0 / 4294967296) then (if t117 = true then (some false) else (if t119 = true then (if t118 = 16 then (if t121 = true then (some (t120 == (-9223372036854775808))) else (some false)) else (some false)) else (some false))) else (some false)) else (some false)) else (some false))) else (some false)) else (some false)) = some r := H
        have A12 := Aside0.mk A120
        clear A120
        have H1 : (if t113 = true then ((fixed_Round.f (wrap64 ((a0 / 4294967296) * (a1 / 8589934592))) x2_5).bind fun t122 => (if t112 = t122 then (if t115 = true then (if t114 = (a0 / 4294967296) then (if t117 = true then (some false) else (if t119 = true then (if t118 = 16 then (if t121 = true then (some (t120 == (-9223372036854775808))) else (some false)) else (some false)) else (some false))) else (some false)) else (some false)) else (some false))) else (some false)) = some r := by first | (rw [if_pos rfl] at H; exact H) | (rw [if_pos trivial] at H; exact H) | exact H
        clear H
        have H := H1
        clear H1
        by_cases c13 : t113 = true
        · subst c13
          have H1 : ((fixed_Round.f (wrap64 ((a0 / 4294967296) * (a1 / 8589934592))) x2_5).bind fun t122 => (if t112 = t122 then (if t115 = true then (if t114 = (a0 / 4294967296) then (if t117 = true then (some false) else (if t119 = true then (if t118 = 16 then (if t121 = true then (some (t120 == (-9223372036854775808))) else (some false)) else (some false)) else (some false))) else (some false)) else (some false)) else (some false))) = some r := by rw [if_pos rfl] at H; exact H
          clear H
          have H := H1
          clear H1
          replace H := Option.bind_eq_some_iff.mp H
          obtain ⟨t122, A140, H⟩ := H
          replace H : (if t112 = t122 then (if t115 = true then (if t114 = (a0 / 4294967296) then (if t117 = true then (some false) else (if t119 = true then (if t118 = 16 then (if t121 = true then (some (t120 == (-9223372036854775808))) else (some false)) else (some false)) else (some false))) else (some false)) else (some false)) else (some false)) = some r := H
          have A14 := Aside0.mk A140
          clear A140
          by_cases c15 : t112 = t122
          · rw [if_pos c15] at H
            have c15b0 : (t112 == t122) = true := beq_iff_eq.mpr c15
            have c15b1 : (t112 != t122) = false := bne_eq_false_iff_eq.mpr c15
            clear c15
            by_cases c16 : t115 = true
            · subst c16
              have H1 : (if t114 = (a0 / 4294967296) then (if t117 = true then (some false) else (if t119 = true then (if t118 = 16 then (if t121 = true then (some (t120 == (-9223372036854775808))) else (some false)) else (some false)) else (some false))) else (some false)) = some r := by rw [if_pos rfl] at H; exact H
              clear H
              have H := H1
              clear H1
              by_cases c17 : t114 = (a0 / 4294967296)
              · rw [if_pos c17] at H
                have c17b0 : (t114 == (a0 / 4294967296)) = true := beq_iff_eq.mpr c17
                have c17b1 : (t114 != (a0 / 4294967296)) = false := bne_eq_false_iff_eq.mpr c17
                clear c17
                by_cases c18 : t117 = true
                · subst c18
                  have H1 : (some false) = some r := by rw [if_pos rfl] at H; exact H
                  clear H
                  have H := H1
                  clear H1
                  exact absurd ((Option.some.inj H).trans hr0_.out) (by decide)
                · replace c18 := Bool.eq_false_iff.mpr c18
                  subst c18
                  have H1 : (if t119 = true then (if t118 = 16 then (if t121 = true then (some (t120 == (-9223372036854775808))) else (some false)) else (some false)) else (some false)) = some r := by rw [if_neg (show ¬ (false = true) by decide)] at H; exact H
                  clear H
                  have H := H1
                  clear H1
                  by_cases c19 : t119 = true
                  · subst c19
                    have H1 : (if t118 = 16 then (if t121 = true then (some (t120 == (-9223372036854775808))) else (some false)) else (some false)) = some r := by rw [if_pos rfl] at H; exact H
                    clear H
                    have H := H1
                    clear H1
                    by_cases c20 : t118 = 16
                    · rw [if_pos c20] at H
                      have c20b0 : (t118 == 16) = true := beq_iff_eq.mpr c20
                      have c20b1 : (t118 != 16) = false := bne_eq_false_iff_eq.mpr c20
                      clear c20
                      by_cases c21 : t121 = true
                      · subst c21
                        have H1 : (some (t120 == (-9223372036854775808))) = some r := by rw [if_pos rfl] at H; exact H
                        clear H
                        have H := H1
                        clear H1
                        obtain rfl := Option.some.inj H
                        go_wp2_with (first | ((with_reducible refine gate_callee (f := 53) rfl ?_); refine goesL_ (some 35) rfl rfl Try.func53 (by kernel_rfl) rfl #[.int .i64 (a0 / 4294967296), .int .i64 (a1 / 8589934592), .int .i64 x2_5] rfl (by (try simp only [List.map_toArray, List.map_cons, List.map_nil]); first | done | rfl | (simp only [List.length_drop, List.length_take]; rfl)) ?_; (with_reducible refine (fixed_MulDiv.calls kj5 (a0 / 4294967296) (a1 / 8589934592) x2_5 t112 true _ A8.out).mono ?_); rintro e w' ⟨rfl, ⟨nd, rfl⟩⟩; refine ⟨_, rfl, ?_⟩) | ((with_reducible refine gate_callee (f := 53) rfl ?_); refine goesL_ (some 42) rfl rfl Try.func53 (by kernel_rfl) rfl #[.int .i64 (a0 / 4294967296), .int .i64 x2_5, .int .i64 x2_5] rfl (by (try simp only [List.map_toArray, List.map_cons, List.map_nil]); first | done | rfl | (simp only [List.length_drop, List.length_take]; rfl)) ?_; (with_reducible refine (fixed_MulDiv.calls kj5 (a0 / 4294967296) x2_5 x2_5 t114 true _ A9.out).mono ?_); rintro e w' ⟨rfl, ⟨nd, rfl⟩⟩; refine ⟨_, rfl, ?_⟩) | ((with_reducible refine gate_callee (f := 53) rfl ?_); refine goesL_ (some 46) rfl rfl Try.func53 (by kernel_rfl) rfl #[.int .i64 4611686018427387904, .int .i64 4, .int .i64 1] rfl (by (try simp only [List.map_toArray, List.map_cons, List.map_nil]); first | done | rfl | (simp only [List.length_drop, List.length_take]; rfl)) ?_; (with_reducible refine (fixed_MulDiv.calls kj5 4611686018427387904 4 1 t116 false _ A10.out).mono ?_); rintro e w' ⟨rfl, ⟨nd, rfl⟩⟩; refine ⟨_, rfl, ?_⟩) | ((with_reducible refine gate_callee (f := 53) rfl ?_); refine goesL_ (some 50) rfl rfl Try.func53 (by kernel_rfl) rfl #[.int .i64 4611686018427387904, .int .i64 4, .int .i64 1152921504606846976] rfl (by (try simp only [List.map_toArray, List.map_cons, List.map_nil]); first | done | rfl | (simp only [List.length_drop, List.length_take]; rfl)) ?_; (with_reducible refine (fixed_MulDiv.calls kj5 4611686018427387904 4 1152921504606846976 t118 true _ A11.out).mono ?_); rintro e w' ⟨rfl, ⟨nd, rfl⟩⟩; refine ⟨_, rfl, ?_⟩) | ((with_reducible refine gate_callee (f := 53) rfl ?_); refine goesL_ (some 54) rfl rfl Try.func53 (by kernel_rfl) rfl #[.int .i64 (-9223372036854775808), .int .i64 1, .int .i64 1] rfl (by (try simp only [List.map_toArray, List.map_cons, List.map_nil]); first | done | rfl | (simp only [List.length_drop, List.length_take]; rfl)) ?_; (with_reducible refine (fixed_MulDiv.calls kj5 (-9223372036854775808) 1 1 t120 true _ A12.out).mono ?_); rintro e w' ⟨rfl, ⟨nd, rfl⟩⟩; refine ⟨_, rfl, ?_⟩) | (go_at_call 30; (with_reducible refine (fixed_Round.calls (wrap64 ((a0 / 4294967296) * (a1 / 8589934592))) x2_5 t122 _ A14.out).mono ?_); rintro e w' ⟨rfl, ⟨nd, rfl⟩⟩))
                        go_ret
                        exact ⟨by first | rfl | (simp; done) | (simp [*]; done), by repeat (first | exact Drawn0.refl _ | apply Drawn0.step)⟩
                      · replace c21 := Bool.eq_false_iff.mpr c21
                        subst c21
                        have H1 : (some false) = some r := by rw [if_neg (show ¬ (false = true) by decide)] at H; exact H
                        clear H
                        have H := H1
                        clear H1
                        exact absurd ((Option.some.inj H).trans hr0_.out) (by decide)
                    · rw [if_neg c20] at H
                      have c20b0 : (t118 == 16) = false := beq_eq_false_iff_ne.mpr c20
                      have c20b1 : (t118 != 16) = true := bne_iff_ne.mpr c20
                      exact absurd ((Option.some.inj H).trans hr0_.out) (by decide)
                  · replace c19 := Bool.eq_false_iff.mpr c19
                    subst c19
                    have H1 : (some false) = some r := by rw [if_neg (show ¬ (false = true) by decide)] at H; exact H
                    clear H
                    have H := H1
                    clear H1
                    exact absurd ((Option.some.inj H).trans hr0_.out) (by decide)
              · rw [if_neg c17] at H
                have c17b0 : (t114 == (a0 / 4294967296)) = false := beq_eq_false_iff_ne.mpr c17
                have c17b1 : (t114 != (a0 / 4294967296)) = true := bne_iff_ne.mpr c17
                exact absurd ((Option.some.inj H).trans hr0_.out) (by decide)
            · replace c16 := Bool.eq_false_iff.mpr c16
              subst c16
              have H1 : (some false) = some r := by rw [if_neg (show ¬ (false = true) by decide)] at H; exact H
              clear H
              have H := H1
              clear H1
              exact absurd ((Option.some.inj H).trans hr0_.out) (by decide)
          · rw [if_neg c15] at H
            have c15b0 : (t112 == t122) = false := beq_eq_false_iff_ne.mpr c15
            have c15b1 : (t112 != t122) = true := bne_iff_ne.mpr c15
            exact absurd ((Option.some.inj H).trans hr0_.out) (by decide)
        · replace c13 := Bool.eq_false_iff.mpr c13
          subst c13
          have H1 : (some false) = some r := by rw [if_neg (show ¬ (false = true) by decide)] at H; exact H
          clear H
          have H := H1
          clear H1
          exact absurd ((Option.some.inj H).trans hr0_.out) (by decide)
  · replace c5 := Bool.eq_false_iff.mpr c5
    subst c5
    have H1 : (some false) = some r := by rw [if_neg (show ¬ (false = true) by decide)] at H; exact H
    clear H
    have H := H1
    clear H1
    exact absurd ((Option.some.inj H).trans hr0_.out) (by decide)

/-- THE ONE PURE STATEMENT of glyphiclaw1_FixedScales: yours. -/
def glyphiclaw1_FixedScales.Pure : Prop := ∀ (a0 : Int) (a1 : Int) (a2 : Int), (Lit.int .i64 a0).wf = true → (Lit.int .i64 a1).wf = true → (Lit.int .i64 a2).wf = true → ∃ k, glyphiclaw1_FixedScales.f k a0 a1 a2 = some true
theorem glyphiclaw1_FixedScales.walk (P : glyphiclaw1_FixedScales.Pure) (a0 : Int) (a1 : Int) (a2 : Int) (w : World) (w0 : (Lit.int .i64 a0).wf = true) (w1 : (Lit.int .i64 a1).wf = true) (w2 : (Lit.int .i64 a2).wf = true) :
    Calls Try.prog 18 #[.int .i64 a0, .int .i64 a1, .int .i64 a2] w fun e w' => e = .returned (.bool true) ∧ Below w.heap.size w w' := by
  obtain ⟨k, h⟩ := P a0 a1 a2 w0 w1 w2
  refine (glyphiclaw1_FixedScales.calls k a0 a1 a2 true w (Aside0.mk rfl) h).mono ?_
  rintro e w' ⟨rfl, hd⟩
  exact ⟨rfl, hd.below⟩

end Go.Proofs.Ytgaikembekkfiaa.QFixedScales
