/- Functions of a Go program as Lean functions, each with its walk, or the row of a law. Written by a program of this session after the pattern of the print. -/
import Derived.Test.YtgaikembekkfiaaQFixedGrowsx0
import Derived.Test.YtgaikembekkfiaaQFixedGrowsx1
namespace Go.Proofs.Ytgaikembekkfiaa.QFixedGrows
open Go.RowKit Go.Proofs.YtgaikembekkfiaaW.PrintWords Go.Proofs.YtgaikembekkfiaaW.PrintLast Go.Proofs.YtgaikembekkfiaaW.PrintMore
attribute [local go_sem] max2_int min2_int max_two min_two max_three min_three max_four min_four   -- for this text's walks alone
set_option linter.unusedVariables false
set_option linter.unusedSimpArgs false

/-! ### fixed_MulDiv: function 53 -/
mutual
def fixed_MulDiv.j0 : Nat → Int → Bool → Bool → Option (Int × Bool)
  | 0, _, _, _ => none
  | k + 1, x10, x12, x58 => if x58 = true then (fixed_MulDiv.j1 k (IntKind.u64.wrap (x10 + 1)) x12) else (fixed_MulDiv.j1 k x10 x12)
def fixed_MulDiv.j1 : Nat → Int → Bool → Option (Int × Bool)
  | 0, _, _ => none
  | k + 1, x10, x12 => if x12 = true then (fixed_MulDiv.j2 k x10 x12 false) else (fixed_MulDiv.j2 k x10 x12 (decide (x10 ≤ 9223372036854775807)))
def fixed_MulDiv.j2 : Nat → Int → Bool → Bool → Option (Int × Bool)
  | 0, _, _, _ => none
  | k + 1, x10, x12, x61 => if x61 = true then (some (wrap64 (x10), true)) else (if x12 = true then (if x10 ≤ 9223372036854775808 then (some (wrap64 (IntKind.u64.wrap (-x10)), true)) else (some (0, false))) else (some (0, false)))
end
def fixed_MulDiv.f (k : Nat) (a0 : Int) (a1 : Int) (a2 : Int) : Option (Int × Bool) := if a2 < 1 then (some (0, false)) else ((fixed_size.f a0).bind fun t105 => ((fixed_size.f a1).bind fun t106 => ((bits_Mul64.f t105 t106).bind fun bt107 => (if bt107.1 ≥ (IntKind.u64.wrap (a2)) then (some (0, false)) else ((bits_Div64.f bt107.1 bt107.2 (IntKind.u64.wrap (a2))).bind fun bt109 => (if bt109.1 > 9223372036854775808 then (some (0, false)) else (if bt109.2 > (IntKind.u64.wrap ((IntKind.u64.wrap (a2)) - bt109.2)) then (fixed_MulDiv.j0 k bt109.1 ((decide (a0 < 0)) != (decide (a1 < 0))) true) else (if bt109.2 = (IntKind.u64.wrap ((IntKind.u64.wrap (a2)) - bt109.2)) then (fixed_MulDiv.j0 k bt109.1 ((decide (a0 < 0)) != (decide (a1 < 0))) (!((decide (a0 < 0)) != (decide (a1 < 0))))) else (fixed_MulDiv.j0 k bt109.1 ((decide (a0 < 0)) != (decide (a1 < 0))) false)))))))))
theorem fixed_MulDiv.mono_l : ∀ k, (∀ y0 y1 y2, LeO (fixed_MulDiv.j0 k y0 y1 y2) (fixed_MulDiv.j0 (k + 1) y0 y1 y2)) ∧ (∀ y0 y1, LeO (fixed_MulDiv.j1 k y0 y1) (fixed_MulDiv.j1 (k + 1) y0 y1)) ∧ (∀ y0 y1 y2, LeO (fixed_MulDiv.j2 k y0 y1 y2) (fixed_MulDiv.j2 (k + 1) y0 y1 y2))
  | 0 => ⟨fun _ _ _ r h => by simp [fixed_MulDiv.j0] at h, fun _ _ r h => by simp [fixed_MulDiv.j1] at h, fun _ _ _ r h => by simp [fixed_MulDiv.j2] at h⟩
  | k + 1 => by
    obtain ⟨ih0, ih1, ih2⟩ := fixed_MulDiv.mono_l k
    refine ⟨?_, ?_, ?_⟩
    · intro y0 y1 y2
      unfold fixed_MulDiv.j0
      repeat' first
      | (with_reducible exact ih0 _ _ _)
      | (with_reducible exact ih1 _ _)
      | (with_reducible exact ih2 _ _ _)
      | (with_reducible exact LeO.refl _)
      | (with_reducible exact LeO.none _)
      | (with_reducible refine LeO.ite ?_ ?_)
      | (with_reducible refine LeO.bind ?_ (fun _ => ?_))
      | exact ih0 _ _ _
      | exact ih1 _ _
      | exact ih2 _ _ _
      | exact LeO.none _
      | refine LeO.ite ?_ ?_
      | refine LeO.bind ?_ (fun _ => ?_)
    · intro y0 y1
      unfold fixed_MulDiv.j1
      repeat' first
      | (with_reducible exact ih0 _ _ _)
      | (with_reducible exact ih1 _ _)
      | (with_reducible exact ih2 _ _ _)
      | (with_reducible exact LeO.refl _)
      | (with_reducible exact LeO.none _)
      | (with_reducible refine LeO.ite ?_ ?_)
      | (with_reducible refine LeO.bind ?_ (fun _ => ?_))
      | exact ih0 _ _ _
      | exact ih1 _ _
      | exact ih2 _ _ _
      | exact LeO.none _
      | refine LeO.ite ?_ ?_
      | refine LeO.bind ?_ (fun _ => ?_)
    · intro y0 y1 y2
      unfold fixed_MulDiv.j2
      repeat' first
      | (with_reducible exact ih0 _ _ _)
      | (with_reducible exact ih1 _ _)
      | (with_reducible exact ih2 _ _ _)
      | (with_reducible exact LeO.refl _)
      | (with_reducible exact LeO.none _)
      | (with_reducible refine LeO.ite ?_ ?_)
      | (with_reducible refine LeO.bind ?_ (fun _ => ?_))
      | exact ih0 _ _ _
      | exact ih1 _ _
      | exact ih2 _ _ _
      | exact LeO.none _
      | refine LeO.ite ?_ ?_
      | refine LeO.bind ?_ (fun _ => ?_)
theorem fixed_MulDiv.mono : ∀ a0 a1 a2 k, LeO (fixed_MulDiv.f k a0 a1 a2) (fixed_MulDiv.f (k + 1) a0 a1 a2) := by
  intro a0 a1 a2 k
  obtain ⟨ih0, ih1, ih2⟩ := fixed_MulDiv.mono_l k
  unfold fixed_MulDiv.f
  repeat' first
      | (with_reducible exact ih0 _ _ _)
      | (with_reducible exact ih1 _ _)
      | (with_reducible exact ih2 _ _ _)
      | (with_reducible exact LeO.refl _)
      | (with_reducible exact LeO.none _)
      | (with_reducible refine LeO.ite ?_ ?_)
      | (with_reducible refine LeO.bind ?_ (fun _ => ?_))
      | exact ih0 _ _ _
      | exact ih1 _ _
      | exact ih2 _ _ _
      | exact LeO.none _
      | refine LeO.ite ?_ ?_
      | refine LeO.bind ?_ (fun _ => ?_)
set_option maxHeartbeats 8000000 in
set_option maxRecDepth 100000 in
theorem fixed_MulDiv.calls (k : Nat) (a0 : Int) (a1 : Int) (a2 : Int) (r1 : Int) (r2 : Bool) (w : World) (h : fixed_MulDiv.f k a0 a1 a2 = some (r1, r2)) :
    Calls Try.prog 53 #[.int .i64 a0, .int .i64 a1, .int .i64 a2] w fun e w' => e = .returned (.tuple #[.int .i64 r1, .bool r2]) ∧ Drawn0 w w' := by
  have H : (if a2 < 1 then (some (0, false)) else ((fixed_size.f a0).bind fun t105 => ((fixed_size.f a1).bind fun t106 => ((bits_Mul64.f t105 t106).bind fun bt107 => (if bt107.1 ≥ (IntKind.u64.wrap (a2)) then (some (0, false)) else ((bits_Div64.f bt107.1 bt107.2 (IntKind.u64.wrap (a2))).bind fun bt109 => (if bt109.1 > 9223372036854775808 then (some (0, false)) else (if bt109.2 > (IntKind.u64.wrap ((IntKind.u64.wrap (a2)) - bt109.2)) then (fixed_MulDiv.j0 k bt109.1 ((decide (a0 < 0)) != (decide (a1 < 0))) true) else (if bt109.2 = (IntKind.u64.wrap ((IntKind.u64.wrap (a2)) - bt109.2)) then (fixed_MulDiv.j0 k bt109.1 ((decide (a0 < 0)) != (decide (a1 < 0))) (!((decide (a0 < 0)) != (decide (a1 < 0))))) else (fixed_MulDiv.j0 k bt109.1 ((decide (a0 < 0)) != (decide (a1 < 0))) false)))))))))) = some (r1, r2) := h
  clear h
  by_cases c4 : a2 < 1
  · rw [if_pos c4] at H
    have c4b0 : decide (a2 < 1) = true := decide_eq_true c4
    clear c4
    simp only [Option.some.injEq, Prod.mk.injEq] at H
    obtain ⟨rfl, rfl⟩ := H
    go_enter Try.func53, Try.ntmps53
    go_wp2
    go_ret2
    exact ⟨by first | rfl | (simp; done) | (simp [*]; done), by repeat (first | exact Drawn0.refl _ | apply Drawn0.step)⟩
  · rw [if_neg c4] at H
    have c4b0 : decide (a2 < 1) = false := decide_eq_false c4
    clear c4
    replace H := Option.bind_eq_some_iff.mp H
    obtain ⟨t105, A50, H⟩ := H
    replace H : ((fixed_size.f a1).bind fun t106 => ((bits_Mul64.f t105 t106).bind fun bt107 => (if bt107.1 ≥ (IntKind.u64.wrap (a2)) then (some (0, false)) else ((bits_Div64.f bt107.1 bt107.2 (IntKind.u64.wrap (a2))).bind fun bt109 => (if bt109.1 > 9223372036854775808 then (some (0, false)) else (if bt109.2 > (IntKind.u64.wrap ((IntKind.u64.wrap (a2)) - bt109.2)) then (fixed_MulDiv.j0 k bt109.1 ((decide (a0 < 0)) != (decide (a1 < 0))) true) else (if bt109.2 = (IntKind.u64.wrap ((IntKind.u64.wrap (a2)) - bt109.2)) then (fixed_MulDiv.j0 k bt109.1 ((decide (a0 < 0)) != (decide (a1 < 0))) (!((decide (a0 < 0)) != (decide (a1 < 0))))) else (fixed_MulDiv.j0 k bt109.1 ((decide (a0 < 0)) != (decide (a1 < 0))) false)))))))) = some (r1, r2) := H
    have A5 := Aside0.mk A50
    clear A50
    replace H := Option.bind_eq_some_iff.mp H
    obtain ⟨t106, A60, H⟩ := H
    replace H : ((bits_Mul64.f t105 t106).bind fun bt107 => (if bt107.1 ≥ (IntKind.u64.wrap (a2)) then (some (0, false)) else ((bits_Div64.f bt107.1 bt107.2 (IntKind.u64.wrap (a2))).bind fun bt109 => (if bt109.1 > 9223372036854775808 then (some (0, false)) else (if bt109.2 > (IntKind.u64.wrap ((IntKind.u64.wrap (a2)) - bt109.2)) then (fixed_MulDiv.j0 k bt109.1 ((decide (a0 < 0)) != (decide (a1 < 0))) true) else (if bt109.2 = (IntKind.u64.wrap ((IntKind.u64.wrap (a2)) - bt109.2)) then (fixed_MulDiv.j0 k bt109.1 ((decide (a0 < 0)) != (decide (a1 < 0))) (!((decide (a0 < 0)) != (decide (a1 < 0))))) else (fixed_MulDiv.j0 k bt109.1 ((decide (a0 < 0)) != (decide (a1 < 0))) false))))))) = some (r1, r2) := H
    have A6 := Aside0.mk A60
    clear A60
    replace H := Option.bind_eq_some_iff.mp H
    obtain ⟨⟨t107, t108⟩, A70, H⟩ := H
    replace H : (if t107 ≥ (IntKind.u64.wrap (a2)) then (some (0, false)) else ((bits_Div64.f t107 t108 (IntKind.u64.wrap (a2))).bind fun bt109 => (if bt109.1 > 9223372036854775808 then (some (0, false)) else (if bt109.2 > (IntKind.u64.wrap ((IntKind.u64.wrap (a2)) - bt109.2)) then (fixed_MulDiv.j0 k bt109.1 ((decide (a0 < 0)) != (decide (a1 < 0))) true) else (if bt109.2 = (IntKind.u64.wrap ((IntKind.u64.wrap (a2)) - bt109.2)) then (fixed_MulDiv.j0 k bt109.1 ((decide (a0 < 0)) != (decide (a1 < 0))) (!((decide (a0 < 0)) != (decide (a1 < 0))))) else (fixed_MulDiv.j0 k bt109.1 ((decide (a0 < 0)) != (decide (a1 < 0))) false)))))) = some (r1, r2) := H
    have A7 := Aside0.mk A70
    clear A70
    by_cases c8 : t107 ≥ (IntKind.u64.wrap (a2))
    · rw [if_pos c8] at H
      have c8b0 : decide ((IntKind.u64.wrap (a2)) ≤ t107) = true := decide_eq_true c8
      clear c8
      simp only [Option.some.injEq, Prod.mk.injEq] at H
      obtain ⟨rfl, rfl⟩ := H
      go_enter Try.func53, Try.ntmps53
      go_wp2_with (first | ((with_reducible refine gate_callee (f := 60) rfl ?_); refine goesL_ (some 18) rfl rfl Try.func60 (by kernel_rfl) rfl #[.int .i64 a0] rfl (by (try simp only [List.map_toArray, List.map_cons, List.map_nil]); first | done | rfl | (simp only [List.length_drop, List.length_take]; rfl)) ?_; (with_reducible refine (fixed_size.calls a0 t105 _ A5.out).mono ?_); rintro e w' ⟨rfl, ⟨nd, rfl⟩⟩; refine ⟨_, rfl, ?_⟩) | ((with_reducible refine gate_callee (f := 60) rfl ?_); refine goesL_ (some 20) rfl rfl Try.func60 (by kernel_rfl) rfl #[.int .i64 a1] rfl (by (try simp only [List.map_toArray, List.map_cons, List.map_nil]); first | done | rfl | (simp only [List.length_drop, List.length_take]; rfl)) ?_; (with_reducible refine (fixed_size.calls a1 t106 _ A6.out).mono ?_); rintro e w' ⟨rfl, ⟨nd, rfl⟩⟩; refine ⟨_, rfl, ?_⟩) | ((with_reducible refine gate_callee (f := 58) rfl ?_); refine goesL_ (some 21) rfl rfl Try.func58 (by kernel_rfl) rfl #[.int .u64 t105, .int .u64 t106] rfl (by (try simp only [List.map_toArray, List.map_cons, List.map_nil]); first | done | rfl | (simp only [List.length_drop, List.length_take]; rfl)) ?_; (with_reducible refine (bits_Mul64.calls t105 t106 t107 t108 _ A7.out).mono ?_); rintro e w' ⟨rfl, ⟨nd, rfl⟩⟩; refine ⟨_, rfl, ?_⟩))
      go_ret2
      exact ⟨by first | rfl | (simp; done) | (simp [*]; done), by repeat (first | exact Drawn0.refl _ | apply Drawn0.step)⟩
    · rw [if_neg c8] at H
      have c8b0 : decide ((IntKind.u64.wrap (a2)) ≤ t107) = false := decide_eq_false c8
      clear c8
      replace H := Option.bind_eq_some_iff.mp H
      obtain ⟨⟨t109, t110⟩, A90, H⟩ := H
      replace H : (if t109 > 9223372036854775808 then (some (0, false)) else (if t110 > (IntKind.u64.wrap ((IntKind.u64.wrap (a2)) - t110)) then (fixed_MulDiv.j0 k t109 ((decide (a0 < 0)) != (decide (a1 < 0))) true) else (if t110 = (IntKind.u64.wrap ((IntKind.u64.wrap (a2)) - t110)) then (fixed_MulDiv.j0 k t109 ((decide (a0 < 0)) != (decide (a1 < 0))) (!((decide (a0 < 0)) != (decide (a1 < 0))))) else (fixed_MulDiv.j0 k t109 ((decide (a0 < 0)) != (decide (a1 < 0))) false)))) = some (r1, r2) := H
      have A9 := Aside0.mk A90
      clear A90
      by_cases c10 : t109 > 9223372036854775808
      · rw [if_pos c10] at H
        have c10b0 : decide (9223372036854775808 < t109) = true := decide_eq_true c10
        clear c10
        simp only [Option.some.injEq, Prod.mk.injEq] at H
        obtain ⟨rfl, rfl⟩ := H
        go_enter Try.func53, Try.ntmps53
        go_wp2_with (first | ((with_reducible refine gate_callee (f := 60) rfl ?_); refine goesL_ (some 18) rfl rfl Try.func60 (by kernel_rfl) rfl #[.int .i64 a0] rfl (by (try simp only [List.map_toArray, List.map_cons, List.map_nil]); first | done | rfl | (simp only [List.length_drop, List.length_take]; rfl)) ?_; (with_reducible refine (fixed_size.calls a0 t105 _ A5.out).mono ?_); rintro e w' ⟨rfl, ⟨nd, rfl⟩⟩; refine ⟨_, rfl, ?_⟩) | ((with_reducible refine gate_callee (f := 60) rfl ?_); refine goesL_ (some 20) rfl rfl Try.func60 (by kernel_rfl) rfl #[.int .i64 a1] rfl (by (try simp only [List.map_toArray, List.map_cons, List.map_nil]); first | done | rfl | (simp only [List.length_drop, List.length_take]; rfl)) ?_; (with_reducible refine (fixed_size.calls a1 t106 _ A6.out).mono ?_); rintro e w' ⟨rfl, ⟨nd, rfl⟩⟩; refine ⟨_, rfl, ?_⟩) | ((with_reducible refine gate_callee (f := 58) rfl ?_); refine goesL_ (some 21) rfl rfl Try.func58 (by kernel_rfl) rfl #[.int .u64 t105, .int .u64 t106] rfl (by (try simp only [List.map_toArray, List.map_cons, List.map_nil]); first | done | rfl | (simp only [List.length_drop, List.length_take]; rfl)) ?_; (with_reducible refine (bits_Mul64.calls t105 t106 t107 t108 _ A7.out).mono ?_); rintro e w' ⟨rfl, ⟨nd, rfl⟩⟩; refine ⟨_, rfl, ?_⟩) | ((with_reducible refine gate_callee (f := 61) rfl ?_); refine goesL_ (some 33) rfl rfl Try.func61 (by kernel_rfl) rfl #[.int .u64 t107, .int .u64 t108, .int .u64 (IntKind.u64.wrap (a2))] rfl (by (try simp only [List.map_toArray, List.map_cons, List.map_nil]); first | done | rfl | (simp only [List.length_drop, List.length_take]; rfl)) ?_; (with_reducible refine (bits_Div64.calls t107 t108 (IntKind.u64.wrap (a2)) t109 t110 _ A9.out).mono ?_); rintro e w' ⟨rfl, ⟨nd, rfl⟩⟩; refine ⟨_, rfl, ?_⟩))
        go_ret2
        exact ⟨by first | rfl | (simp; done) | (simp [*]; done), by repeat (first | exact Drawn0.refl _ | apply Drawn0.step)⟩
      · rw [if_neg c10] at H
        have c10b0 : decide (9223372036854775808 < t109) = false := decide_eq_false c10
        clear c10
        have HC11 := Aside0.mk H
        clear H
        go_enter Try.func53, Try.ntmps53
        go_upto_region 11 with (first | ((with_reducible refine gate_callee (f := 60) rfl ?_); refine goesL_ (some 18) rfl rfl Try.func60 (by kernel_rfl) rfl #[.int .i64 a0] rfl (by (try simp only [List.map_toArray, List.map_cons, List.map_nil]); first | done | rfl | (simp only [List.length_drop, List.length_take]; rfl)) ?_; (with_reducible refine (fixed_size.calls a0 t105 _ A5.out).mono ?_); rintro e w' ⟨rfl, ⟨nd, rfl⟩⟩; refine ⟨_, rfl, ?_⟩) | ((with_reducible refine gate_callee (f := 60) rfl ?_); refine goesL_ (some 20) rfl rfl Try.func60 (by kernel_rfl) rfl #[.int .i64 a1] rfl (by (try simp only [List.map_toArray, List.map_cons, List.map_nil]); first | done | rfl | (simp only [List.length_drop, List.length_take]; rfl)) ?_; (with_reducible refine (fixed_size.calls a1 t106 _ A6.out).mono ?_); rintro e w' ⟨rfl, ⟨nd, rfl⟩⟩; refine ⟨_, rfl, ?_⟩) | ((with_reducible refine gate_callee (f := 58) rfl ?_); refine goesL_ (some 21) rfl rfl Try.func58 (by kernel_rfl) rfl #[.int .u64 t105, .int .u64 t106] rfl (by (try simp only [List.map_toArray, List.map_cons, List.map_nil]); first | done | rfl | (simp only [List.length_drop, List.length_take]; rfl)) ?_; (with_reducible refine (bits_Mul64.calls t105 t106 t107 t108 _ A7.out).mono ?_); rintro e w' ⟨rfl, ⟨nd, rfl⟩⟩; refine ⟨_, rfl, ?_⟩) | ((with_reducible refine gate_callee (f := 61) rfl ?_); refine goesL_ (some 33) rfl rfl Try.func61 (by kernel_rfl) rfl #[.int .u64 t107, .int .u64 t108, .int .u64 (IntKind.u64.wrap (a2))] rfl (by (try simp only [List.map_toArray, List.map_cons, List.map_nil]); first | done | rfl | (simp only [List.length_drop, List.length_take]; rfl)) ?_; (with_reducible refine (bits_Div64.calls t107 t108 (IntKind.u64.wrap (a2)) t109 t110 _ A9.out).mono ?_); rintro e w' ⟨rfl, ⟨nd, rfl⟩⟩; refine ⟨_, rfl, ?_⟩))
        (try simp only [Act.put, List.setIfInBounds_toArray, List.set_cons_zero, List.set_cons_succ])
        go_cut [58] (fun v58 wc => ∃ (kq : Nat) (x58_10 : Bool), v58 = .bool x58_10 ∧ Aside0 (fixed_MulDiv.j0 kq t109 ((decide (a0 < 0)) != (decide (a1 < 0))) x58_10 = some (r1, r2)) ∧ Aside0 (kq ≤ k) ∧ Drawn0 w wc)
        case first =>
          have H := HC11.out
          clear HC11
          by_cases c12 : t110 > (IntKind.u64.wrap ((IntKind.u64.wrap (a2)) - t110))
          · rw [if_pos c12] at H
            have c12b0 : decide ((IntKind.u64.wrap ((IntKind.u64.wrap (a2)) - t110)) < t110) = true := decide_eq_true c12
            clear c12
            (first | rw [c12b0] | (simp only [i64_w, i32_w]; rw [c12b0]) | skip)
            have H' := Aside0.mk H
            clear H
            go_wp2
            go_meet
            case rel => exact ⟨_, (true), (by first | rfl | (simp; done) | (simp [*]; done) | (simp [bne]; done)), H', ⟨by first | omega | exact Nat.le_refl _⟩, by repeat (first | exact Drawn0.refl _ | apply Drawn0.step)⟩
          · rw [if_neg c12] at H
            have c12b0 : decide ((IntKind.u64.wrap ((IntKind.u64.wrap (a2)) - t110)) < t110) = false := decide_eq_false c12
            clear c12
            (first | rw [c12b0] | (simp only [i64_w, i32_w]; rw [c12b0]) | skip)
            by_cases c13 : t110 = (IntKind.u64.wrap ((IntKind.u64.wrap (a2)) - t110))
            · rw [if_pos c13] at H
              have c13b0 : (t110 == (IntKind.u64.wrap ((IntKind.u64.wrap (a2)) - t110))) = true := beq_iff_eq.mpr c13
              have c13b1 : (t110 != (IntKind.u64.wrap ((IntKind.u64.wrap (a2)) - t110))) = false := bne_eq_false_iff_eq.mpr c13
              clear c13
              have H' := Aside0.mk H
              clear H
              go_wp2
              go_meet
              case rel => exact ⟨_, (!((decide (a0 < 0)) != (decide (a1 < 0)))), (by first | rfl | (simp; done) | (simp [*]; done) | (simp [bne]; done)), H', ⟨by first | omega | exact Nat.le_refl _⟩, by repeat (first | exact Drawn0.refl _ | apply Drawn0.step)⟩
            · rw [if_neg c13] at H
              have c13b0 : (t110 == (IntKind.u64.wrap ((IntKind.u64.wrap (a2)) - t110))) = false := beq_eq_false_iff_ne.mpr c13
              have c13b1 : (t110 != (IntKind.u64.wrap ((IntKind.u64.wrap (a2)) - t110))) = true := bne_iff_ne.mpr c13
              have H' := Aside0.mk H
              clear H
              go_wp2
              go_meet
              case rel => exact ⟨_, (false), (by first | rfl | (simp; done) | (simp [*]; done) | (simp [bne]; done)), H', ⟨by first | omega | exact Nat.le_refl _⟩, by repeat (first | exact Drawn0.refl _ | apply Drawn0.step)⟩
        case rest =>
          clear HC11
          try clear c1
          try clear p2
          try clear c4
          try clear c4b0
          try clear c5
          try clear c6
          try clear c8
          try clear c8b0
          try clear c10
          try clear c10b0
          try clear c12
          try clear c12b0
          try clear c13
          try clear c13b0
          try clear c13b1
          obtain ⟨kq, x58_10, rfl, HA, HJ10, ⟨mc10, rfl⟩⟩ := hcut
          cases kq with
          | zero => exact absurd HA.out (by simp [fixed_MulDiv.j0])
          | succ kj10 =>
            have H := HA.out
            clear HA
            simp only [fixed_MulDiv.j0] at H
            have HC14 := Aside0.mk H
            clear H
            go_upto_if 58 with (fail)
            go_cut [10] (fun v10 wc => ∃ (kq : Nat) (x10_13 : Int), v10 = .int .u64 x10_13 ∧ Aside0 (fixed_MulDiv.j1 kq x10_13 ((decide (a0 < 0)) != (decide (a1 < 0))) = some (r1, r2)) ∧ Aside0 (kq ≤ kj10) ∧ Drawn0 w wc)
            case first =>
              have H := HC14.out
              clear HC14
              by_cases c15 : x58_10 = true
              · subst c15
                have H1 : (fixed_MulDiv.j1 kj10 (IntKind.u64.wrap (t109 + 1)) ((decide (a0 < 0)) != (decide (a1 < 0)))) = some (r1, r2) := by rw [if_pos rfl] at H; exact H
                clear H
                have H := H1
                clear H1
                have H' := Aside0.mk H
                clear H
                go_wp2
                go_meet
                case rel => exact ⟨_, (IntKind.u64.wrap (t109 + 1)), (by first | rfl | (simp; done) | (simp [*]; done) | (simp [bne]; done)), H', ⟨by have := HJ10.out; first | omega | exact Nat.le_refl _⟩, by repeat (first | exact Drawn0.refl _ | apply Drawn0.step)⟩
              · replace c15 := Bool.eq_false_iff.mpr c15
                subst c15
                have H1 : (fixed_MulDiv.j1 kj10 t109 ((decide (a0 < 0)) != (decide (a1 < 0)))) = some (r1, r2) := by rw [if_neg (show ¬ (false = true) by decide)] at H; exact H
                clear H
                have H := H1
                clear H1
                have H' := Aside0.mk H
                clear H
                go_wp2
                go_meet
                case rel => exact ⟨_, (t109), (by first | rfl | (simp; done) | (simp [*]; done) | (simp [bne]; done)), H', ⟨by have := HJ10.out; first | omega | exact Nat.le_refl _⟩, by repeat (first | exact Drawn0.refl _ | apply Drawn0.step)⟩
            case rest =>
              clear HC14
              try clear c1
              try clear p2
              try clear c4
              try clear c4b0
              try clear c5
              try clear c6
              try clear c8
              try clear c8b0
              try clear c10
              try clear c10b0
              try clear c12
              try clear c12b0
              try clear c13
              try clear c13b0
              try clear c13b1
              try clear c15
              try clear p2
              obtain ⟨kq, x10_13, rfl, HA, HJ13, ⟨mc13, rfl⟩⟩ := hcut
              cases kq with
              | zero => exact absurd HA.out (by simp [fixed_MulDiv.j1])
              | succ kj13 =>
                have H := HA.out
                clear HA
                simp only [fixed_MulDiv.j1] at H
                have HC16 := Aside0.mk H
                clear H
                go_upto_region 13 with (fail)
                go_cut [61] (fun v61 wc => ∃ (kq : Nat) (x61_15 : Bool), v61 = .bool x61_15 ∧ Aside0 (fixed_MulDiv.j2 kq x10_13 ((decide (a0 < 0)) != (decide (a1 < 0))) x61_15 = some (r1, r2)) ∧ Aside0 (kq ≤ kj13) ∧ Drawn0 w wc)
                case first =>
                  have H := HC16.out
                  clear HC16
                  by_cases c17 : ((decide (a0 < 0)) != (decide (a1 < 0))) = true
                  · rw [if_pos c17] at H
                    have c17b0 : ((decide (a0 < 0)) != (decide (a1 < 0))) = true := c17
                    (try (have c17b1 : decide ((decide (a0 < 0)) = (decide (a1 < 0))) = false := by simpa using c17))
                    (try (have c17b2 : ((decide (a0 < 0)) == (decide (a1 < 0))) = false := by simpa using c17))
                    (try (have c17b3 : ¬ ((decide (a0 < 0)) = (decide (a1 < 0))) := by simpa using c17))
                    clear c17
                    (first | rw [c17b0] | (simp only [i64_w, i32_w]; rw [c17b0]) | skip)
                    have H' := Aside0.mk H
                    clear H
                    go_wp2
                    go_meet
                    case rel => exact ⟨_, (false), (by first | rfl | (simp; done) | (simp [*]; done) | (simp [bne]; done)), H', ⟨by have := HJ10.out; have := HJ13.out; first | omega | exact Nat.le_refl _⟩, by repeat (first | exact Drawn0.refl _ | apply Drawn0.step)⟩
                  · rw [if_neg c17] at H
                    have c17b0 : ((decide (a0 < 0)) != (decide (a1 < 0))) = false := by simpa using c17
                    (try (have c17b1 : decide ((decide (a0 < 0)) = (decide (a1 < 0))) = true := by simpa using c17))
                    (try (have c17b2 : ((decide (a0 < 0)) == (decide (a1 < 0))) = true := by simpa using c17))
                    clear c17
                    (first | rw [c17b0] | (simp only [i64_w, i32_w]; rw [c17b0]) | skip)
                    have H' := Aside0.mk H
                    clear H
                    go_wp2
                    go_meet
                    case rel => exact ⟨_, (decide (x10_13 ≤ 9223372036854775807)), (by first | rfl | (simp; done) | (simp [*]; done) | (simp [bne]; done)), H', ⟨by have := HJ10.out; have := HJ13.out; first | omega | exact Nat.le_refl _⟩, by repeat (first | exact Drawn0.refl _ | apply Drawn0.step)⟩
                case rest =>
                  clear HC16
                  try clear c1
                  try clear p2
                  try clear c4
                  try clear c4b0
                  try clear c5
                  try clear c6
                  try clear c8
                  try clear c8b0
                  try clear c10
                  try clear c10b0
                  try clear c12
                  try clear c12b0
                  try clear c13
                  try clear c13b0
                  try clear c13b1
                  try clear c15
                  try clear c17
                  try clear c17b0
                  try clear c17b1
                  try clear c17b2
                  try clear p2
                  obtain ⟨kq, x61_15, rfl, HA, HJ15, ⟨mc15, rfl⟩⟩ := hcut
                  cases kq with
                  | zero => exact absurd HA.out (by simp [fixed_MulDiv.j2])
                  | succ kj15 =>
                    have H := HA.out
                    clear HA
                    simp only [fixed_MulDiv.j2] at H
                    by_cases c18 : x61_15 = true
                    · subst c18
                      have H1 : (some (wrap64 (x10_13), true)) = some (r1, r2) := by rw [if_pos rfl] at H; exact H
                      clear H
                      have H := H1
                      clear H1
                      simp only [Option.some.injEq, Prod.mk.injEq] at H
                      obtain ⟨rfl, rfl⟩ := H
                      go_wp2
                      go_ret2
                      exact ⟨by first | rfl | (simp; done) | (simp [*]; done), by repeat (first | exact Drawn0.refl _ | apply Drawn0.step)⟩
                    · replace c18 := Bool.eq_false_iff.mpr c18
                      subst c18
                      have H1 : (if ((decide (a0 < 0)) != (decide (a1 < 0))) = true then (if x10_13 ≤ 9223372036854775808 then (some (wrap64 (IntKind.u64.wrap (-x10_13)), true)) else (some (0, false))) else (some (0, false))) = some (r1, r2) := by rw [if_neg (show ¬ (false = true) by decide)] at H; exact H
                      clear H
                      have H := H1
                      clear H1
                      by_cases c19 : ((decide (a0 < 0)) != (decide (a1 < 0))) = true
                      · rw [if_pos c19] at H
                        have c19b0 : ((decide (a0 < 0)) != (decide (a1 < 0))) = true := c19
                        (try (have c19b1 : decide ((decide (a0 < 0)) = (decide (a1 < 0))) = false := by simpa using c19))
                        (try (have c19b2 : ((decide (a0 < 0)) == (decide (a1 < 0))) = false := by simpa using c19))
                        (try (have c19b3 : ¬ ((decide (a0 < 0)) = (decide (a1 < 0))) := by simpa using c19))
                        clear c19
                        by_cases c20 : x10_13 ≤ 9223372036854775808
                        · rw [if_pos c20] at H
                          have c20b0 : decide (x10_13 ≤ 9223372036854775808) = true := decide_eq_true c20
                          clear c20
                          simp only [Option.some.injEq, Prod.mk.injEq] at H
                          obtain ⟨rfl, rfl⟩ := H
                          go_wp2
                          go_ret2
                          exact ⟨by first | rfl | (simp; done) | (simp [*]; done), by repeat (first | exact Drawn0.refl _ | apply Drawn0.step)⟩
                        · rw [if_neg c20] at H
                          have c20b0 : decide (x10_13 ≤ 9223372036854775808) = false := decide_eq_false c20
                          clear c20
                          simp only [Option.some.injEq, Prod.mk.injEq] at H
                          obtain ⟨rfl, rfl⟩ := H
                          go_wp2
                          go_ret2
                          exact ⟨by first | rfl | (simp; done) | (simp [*]; done), by repeat (first | exact Drawn0.refl _ | apply Drawn0.step)⟩
                      · rw [if_neg c19] at H
                        have c19b0 : ((decide (a0 < 0)) != (decide (a1 < 0))) = false := by simpa using c19
                        (try (have c19b1 : decide ((decide (a0 < 0)) = (decide (a1 < 0))) = true := by simpa using c19))
                        (try (have c19b2 : ((decide (a0 < 0)) == (decide (a1 < 0))) = true := by simpa using c19))
                        clear c19
                        simp only [Option.some.injEq, Prod.mk.injEq] at H
                        obtain ⟨rfl, rfl⟩ := H
                        go_wp2
                        go_ret2
                        exact ⟨by first | rfl | (simp; done) | (simp [*]; done), by repeat (first | exact Drawn0.refl _ | apply Drawn0.step)⟩

/-! ### glyphiclaw1_FixedGrows: function 20 -/
mutual
def glyphiclaw1_FixedGrows.j0 : Nat → Int → Int → Int → Int → Bool → Option (Bool)
  | 0, _, _, _, _, _ => none
  | k + 1, x0, x1, x2, x3, x9 => (fixed_MulDiv.f k x0 3 7).bind fun bt112 => ((fixed_MulDiv.f k x1 3 7).bind fun bt114 => (if x2 < 0 then (glyphiclaw1_FixedGrows.j1 k x0 x1 (wrap64 (-(wrap64 (x2 + 1)))) x3 x9 bt112.1 bt112.2 bt114.1 bt114.2 (x0 / 8) (x1 / 8)) else (glyphiclaw1_FixedGrows.j1 k x0 x1 x2 x3 x9 bt112.1 bt112.2 bt114.1 bt114.2 (x0 / 8) (x1 / 8))))
def glyphiclaw1_FixedGrows.j1 : Nat → Int → Int → Int → Int → Bool → Int → Bool → Int → Bool → Int → Int → Option (Bool)
  | 0, _, _, _, _, _, _, _, _, _, _, _ => none
  | k + 1, x0, x1, x2, x3, x9, x10, x11, x12, x13, x14, x15 => if x9 = true then ((fixed_Sqrt.f k x0).bind fun t116 => ((fixed_Sqrt.f k x1).bind fun t117 => (if t116 ≤ t117 then ((fixed_Round.f x14 (wrap64 ((x2 / 16) + 1))).bind fun t118 => ((fixed_Round.f x15 (wrap64 ((x2 / 16) + 1))).bind fun t119 => (if t118 ≤ t119 then ((fixed_Down.f x14 (wrap64 ((x2 / 16) + 1))).bind fun t120 => ((fixed_Down.f x15 (wrap64 ((x2 / 16) + 1))).bind fun t121 => (if t120 ≤ t121 then (if x11 = true then (if x13 = true then (if x10 ≤ x12 then ((fixed_Clamp.f x0 (-1000) 1000).bind fun t122 => ((fixed_Clamp.f x1 (-1000) 1000).bind fun t123 => (if t122 ≤ t123 then ((fixed_Round.f x3 0).bind fun t124 => (if t124 = 0 then ((fixed_Round.f (x3 / 2) 1).bind fun t125 => (some (t125 == (x3 / 2)))) else (some false))) else (some false)))) else (some false)) else (some false)) else (some false)) else (some false)))) else (some false)))) else (some false)))) else (some false)
end
def glyphiclaw1_FixedGrows.f (k : Nat) (a0 : Int) (a1 : Int) (a2 : Int) (a3 : Int) : Option (Bool) := (glyphiclaw1_first.f k).bind fun t111 => (if t111 = true then (if a0 > a1 then (glyphiclaw1_FixedGrows.j0 k a1 a0 a2 a3 t111) else (glyphiclaw1_FixedGrows.j0 k a0 a1 a2 a3 t111)) else (some false))
theorem glyphiclaw1_FixedGrows.mono_l : ∀ k, (∀ y0 y1 y2 y3 y4, LeO (glyphiclaw1_FixedGrows.j0 k y0 y1 y2 y3 y4) (glyphiclaw1_FixedGrows.j0 (k + 1) y0 y1 y2 y3 y4)) ∧ (∀ y0 y1 y2 y3 y4 y5 y6 y7 y8 y9 y10, LeO (glyphiclaw1_FixedGrows.j1 k y0 y1 y2 y3 y4 y5 y6 y7 y8 y9 y10) (glyphiclaw1_FixedGrows.j1 (k + 1) y0 y1 y2 y3 y4 y5 y6 y7 y8 y9 y10))
  | 0 => ⟨fun _ _ _ _ _ r h => by simp [glyphiclaw1_FixedGrows.j0] at h, fun _ _ _ _ _ _ _ _ _ _ _ r h => by simp [glyphiclaw1_FixedGrows.j1] at h⟩
  | k + 1 => by
    obtain ⟨ih0, ih1⟩ := glyphiclaw1_FixedGrows.mono_l k
    refine ⟨?_, ?_⟩
    · intro y0 y1 y2 y3 y4
      unfold glyphiclaw1_FixedGrows.j0
      repeat' first
      | (with_reducible exact ih0 _ _ _ _ _)
      | (with_reducible exact ih1 _ _ _ _ _ _ _ _ _ _ _)
      | (with_reducible exact fixed_MulDiv.mono _ _ _ _)
      | (with_reducible exact fixed_Sqrt.mono _ _)
      | (with_reducible exact glyphiclaw1_first.mono _)
      | (with_reducible exact LeO.refl _)
      | (with_reducible exact LeO.none _)
      | (with_reducible refine LeO.ite ?_ ?_)
      | (with_reducible refine LeO.bind ?_ (fun _ => ?_))
      | exact ih0 _ _ _ _ _
      | exact ih1 _ _ _ _ _ _ _ _ _ _ _
      | exact fixed_MulDiv.mono _ _ _ _
      | exact fixed_Sqrt.mono _ _
      | exact glyphiclaw1_first.mono _
      | exact LeO.none _
      | refine LeO.ite ?_ ?_
      | refine LeO.bind ?_ (fun _ => ?_)
    · intro y0 y1 y2 y3 y4 y5 y6 y7 y8 y9 y10
      unfold glyphiclaw1_FixedGrows.j1
      repeat' first
      | (with_reducible exact ih0 _ _ _ _ _)
      | (with_reducible exact ih1 _ _ _ _ _ _ _ _ _ _ _)
      | (with_reducible exact fixed_MulDiv.mono _ _ _ _)
      | (with_reducible exact fixed_Sqrt.mono _ _)
      | (with_reducible exact glyphiclaw1_first.mono _)
      | (with_reducible exact LeO.refl _)
      | (with_reducible exact LeO.none _)
      | (with_reducible refine LeO.ite ?_ ?_)
      | (with_reducible refine LeO.bind ?_ (fun _ => ?_))
      | exact ih0 _ _ _ _ _
      | exact ih1 _ _ _ _ _ _ _ _ _ _ _
      | exact fixed_MulDiv.mono _ _ _ _
      | exact fixed_Sqrt.mono _ _
      | exact glyphiclaw1_first.mono _
      | exact LeO.none _
      | refine LeO.ite ?_ ?_
      | refine LeO.bind ?_ (fun _ => ?_)
theorem glyphiclaw1_FixedGrows.mono : ∀ a0 a1 a2 a3 k, LeO (glyphiclaw1_FixedGrows.f k a0 a1 a2 a3) (glyphiclaw1_FixedGrows.f (k + 1) a0 a1 a2 a3) := by
  intro a0 a1 a2 a3 k
  obtain ⟨ih0, ih1⟩ := glyphiclaw1_FixedGrows.mono_l k
  unfold glyphiclaw1_FixedGrows.f
  repeat' first
      | (with_reducible exact ih0 _ _ _ _ _)
      | (with_reducible exact ih1 _ _ _ _ _ _ _ _ _ _ _)
      | (with_reducible exact fixed_MulDiv.mono _ _ _ _)
      | (with_reducible exact fixed_Sqrt.mono _ _)
      | (with_reducible exact glyphiclaw1_first.mono _)
      | (with_reducible exact LeO.refl _)
      | (with_reducible exact LeO.none _)
      | (with_reducible refine LeO.ite ?_ ?_)
      | (with_reducible refine LeO.bind ?_ (fun _ => ?_))
      | exact ih0 _ _ _ _ _
      | exact ih1 _ _ _ _ _ _ _ _ _ _ _
      | exact fixed_MulDiv.mono _ _ _ _
      | exact fixed_Sqrt.mono _ _
      | exact glyphiclaw1_first.mono _
      | exact LeO.none _
      | refine LeO.ite ?_ ?_
      | refine LeO.bind ?_ (fun _ => ?_)
set_option maxHeartbeats 8000000 in
set_option maxRecDepth 100000 in
theorem glyphiclaw1_FixedGrows.calls (k : Nat) (a0 : Int) (a1 : Int) (a2 : Int) (a3 : Int) (r : Bool) (w : World) (hr0_ : Aside0 (r = true)) (h : glyphiclaw1_FixedGrows.f k a0 a1 a2 a3 = some r) :
    Calls Try.prog 20 #[.int .i64 a0, .int .i64 a1, .int .i64 a2, .int .i64 a3] w fun e w' => e = .returned (.bool r) ∧ Below w.heap.size w w' := by
  have HB := Aside0.mk (Below.refl w.heap.size w)
  have H : ((glyphiclaw1_first.f k).bind fun t111 => (if t111 = true then (if a0 > a1 then (glyphiclaw1_FixedGrows.j0 k a1 a0 a2 a3 t111) else (glyphiclaw1_FixedGrows.j0 k a0 a1 a2 a3 t111)) else (some false))) = some r := h
  clear h
  replace H := Option.bind_eq_some_iff.mp H
  obtain ⟨t111, A50, H⟩ := H
  replace H : (if t111 = true then (if a0 > a1 then (glyphiclaw1_FixedGrows.j0 k a1 a0 a2 a3 t111) else (glyphiclaw1_FixedGrows.j0 k a0 a1 a2 a3 t111)) else (some false)) = some r := H
  have A5 := Aside0.mk A50
  clear A50
  by_cases c6 : t111 = true
  · subst c6
    have H1 : (if a0 > a1 then (glyphiclaw1_FixedGrows.j0 k a1 a0 a2 a3 true) else (glyphiclaw1_FixedGrows.j0 k a0 a1 a2 a3 true)) = some r := by rw [if_pos rfl] at H; exact H
    clear H
    have H := H1
    clear H1
    have HC7 := Aside0.mk H
    clear H
    go_enter Try.func20, Try.ntmps20
    go_upto_if 21 with (first | ((with_reducible refine gate_callee (f := 29) rfl ?_); refine goesL_ (some 16) rfl rfl Try.func29 (by kernel_rfl) rfl #[] rfl (by (try simp only [List.map_toArray, List.map_cons, List.map_nil]); first | done | rfl | (simp only [List.length_drop, List.length_take]; rfl)) ?_; (with_reducible refine (glyphiclaw1_first.calls k  true _ A5.out).mono ?_); rintro e w' ⟨rfl, ⟨nd, rfl⟩⟩; refine ⟨_, rfl, ?_⟩))
    (try simp only [Act.put, List.setIfInBounds_toArray, List.set_cons_zero, List.set_cons_succ])
    go_cut [0, 1] (fun v0 v1 wc => ∃ (kq : Nat) (x0_6 : Int) (x1_6 : Int), v0 = .int .i64 x0_6 ∧ v1 = .int .i64 x1_6 ∧ Aside0 (glyphiclaw1_FixedGrows.j0 kq x0_6 x1_6 a2 a3 true = some r) ∧ Aside0 (kq ≤ k) ∧ Aside0 (Below w.heap.size w wc))
    case first =>
      have H := HC7.out
      clear HC7
      by_cases c8 : a0 > a1
      · rw [if_pos c8] at H
        have c8b0 : decide (a1 < a0) = true := decide_eq_true c8
        clear c8
        (first | rw [c8b0] | (simp only [i64_w, i32_w]; rw [c8b0]) | skip)
        have H' := Aside0.mk H
        clear H
        go_wp2
        go_meet
        case rel => exact ⟨_, (a1), (a0), (by first | rfl | (simp; done) | (simp [*]; done) | (simp [bne]; done)), (by first | rfl | (simp; done) | (simp [*]; done) | (simp [bne]; done)), H', ⟨by first | omega | exact Nat.le_refl _⟩, ⟨by repeat (first | (with_reducible first | exact HB.out | apply below_alloc | apply pw_below_drewN | apply below_drew1) | exact HB.out)⟩⟩
      · rw [if_neg c8] at H
        have c8b0 : decide (a1 < a0) = false := decide_eq_false c8
        clear c8
        (first | rw [c8b0] | (simp only [i64_w, i32_w]; rw [c8b0]) | skip)
        have H' := Aside0.mk H
        clear H
        go_wp2
        go_meet
        case rel => exact ⟨_, (a0), (a1), (by first | rfl | (simp; done) | (simp [*]; done) | (simp [bne]; done)), (by first | rfl | (simp; done) | (simp [*]; done) | (simp [bne]; done)), H', ⟨by first | omega | exact Nat.le_refl _⟩, ⟨by repeat (first | (with_reducible first | exact HB.out | apply below_alloc | apply pw_below_drewN | apply below_drew1) | exact HB.out)⟩⟩
    case rest =>
      clear HC7
      try clear c2
      try clear p2
      try clear c6
      try clear c8
      try clear c8b0
      obtain ⟨kq, x0_6, x1_6, rfl, rfl, HA, HJ6, HB⟩ := hcut
      cases kq with
      | zero => exact absurd HA.out (by simp [glyphiclaw1_FixedGrows.j0])
      | succ kj6 =>
        have H := HA.out
        clear HA
        simp only [glyphiclaw1_FixedGrows.j0] at H
        replace H := Option.bind_eq_some_iff.mp H
        obtain ⟨⟨t112, t113⟩, A90, H⟩ := H
        replace H : ((fixed_MulDiv.f kj6 x1_6 3 7).bind fun bt114 => (if a2 < 0 then (glyphiclaw1_FixedGrows.j1 kj6 x0_6 x1_6 (wrap64 (-(wrap64 (a2 + 1)))) a3 true t112 t113 bt114.1 bt114.2 (x0_6 / 8) (x1_6 / 8)) else (glyphiclaw1_FixedGrows.j1 kj6 x0_6 x1_6 a2 a3 true t112 t113 bt114.1 bt114.2 (x0_6 / 8) (x1_6 / 8)))) = some r := H
        have A9 := Aside0.mk A90
        clear A90
        replace H := Option.bind_eq_some_iff.mp H
        obtain ⟨⟨t114, t115⟩, A100, H⟩ := H
        replace H : (if a2 < 0 then (glyphiclaw1_FixedGrows.j1 kj6 x0_6 x1_6 (wrap64 (-(wrap64 (a2 + 1)))) a3 true t112 t113 t114 t115 (x0_6 / 8) (x1_6 / 8)) else (glyphiclaw1_FixedGrows.j1 kj6 x0_6 x1_6 a2 a3 true t112 t113 t114 t115 (x0_6 / 8) (x1_6 / 8))) = some r := H
        have A10 := Aside0.mk A100
        clear A100
        have HC11 := Aside0.mk H
        clear H
        go_upto_if 39 with (first | ((with_reducible refine gate_callee (f := 53) rfl ?_); refine goesL_ (some 26) rfl rfl Try.func53 (by kernel_rfl) rfl #[.int .i64 x0_6, .int .i64 3, .int .i64 7] rfl (by (try simp only [List.map_toArray, List.map_cons, List.map_nil]); first | done | rfl | (simp only [List.length_drop, List.length_take]; rfl)) ?_; (with_reducible refine (fixed_MulDiv.calls kj6 x0_6 3 7 t112 t113 _ A9.out).mono ?_); rintro e w' ⟨rfl, ⟨nd, rfl⟩⟩; refine ⟨_, rfl, ?_⟩) | ((with_reducible refine gate_callee (f := 53) rfl ?_); refine goesL_ (some 31) rfl rfl Try.func53 (by kernel_rfl) rfl #[.int .i64 x1_6, .int .i64 3, .int .i64 7] rfl (by (try simp only [List.map_toArray, List.map_cons, List.map_nil]); first | done | rfl | (simp only [List.length_drop, List.length_take]; rfl)) ?_; (with_reducible refine (fixed_MulDiv.calls kj6 x1_6 3 7 t114 t115 _ A10.out).mono ?_); rintro e w' ⟨rfl, ⟨nd, rfl⟩⟩; refine ⟨_, rfl, ?_⟩))
        (try simp only [Act.put, List.setIfInBounds_toArray, List.set_cons_zero, List.set_cons_succ])
        go_cut [2] (fun v2 wc => ∃ (kq : Nat) (x2_10 : Int), v2 = .int .i64 x2_10 ∧ Aside0 (glyphiclaw1_FixedGrows.j1 kq x0_6 x1_6 x2_10 a3 true t112 t113 t114 t115 (x0_6 / 8) (x1_6 / 8) = some r) ∧ Aside0 (kq ≤ kj6) ∧ Aside0 (Below w.heap.size w wc))
        case first =>
          have H := HC11.out
          clear HC11
          by_cases c12 : a2 < 0
          · rw [if_pos c12] at H
            have c12b0 : decide (a2 < 0) = true := decide_eq_true c12
            clear c12
            (first | rw [c12b0] | (simp only [i64_w, i32_w]; rw [c12b0]) | skip)
            have H' := Aside0.mk H
            clear H
            go_wp2
            go_meet
            case rel => exact ⟨_, (wrap64 (-(wrap64 (a2 + 1)))), (by first | rfl | (simp; done) | (simp [*]; done) | (simp [bne]; done)), H', ⟨by have := HJ6.out; first | omega | exact Nat.le_refl _⟩, ⟨by repeat (first | (with_reducible first | exact HB.out | apply below_alloc | apply pw_below_drewN | apply below_drew1) | exact HB.out)⟩⟩
          · rw [if_neg c12] at H
            have c12b0 : decide (a2 < 0) = false := decide_eq_false c12
            clear c12
            (first | rw [c12b0] | (simp only [i64_w, i32_w]; rw [c12b0]) | skip)
            have H' := Aside0.mk H
            clear H
            go_wp2
            go_meet
            case rel => exact ⟨_, (a2), (by first | rfl | (simp; done) | (simp [*]; done) | (simp [bne]; done)), H', ⟨by have := HJ6.out; first | omega | exact Nat.le_refl _⟩, ⟨by repeat (first | (with_reducible first | exact HB.out | apply below_alloc | apply pw_below_drewN | apply below_drew1) | exact HB.out)⟩⟩
        case rest =>
          clear HC11
          try clear c1
          try clear c2
          try clear p2
          try clear c5
          try clear c6
          try clear p6
          try clear c8
          try clear c8b0
          try clear c12
          try clear c12b0
          try clear p2
          obtain ⟨kq, x2_10, rfl, HA, HJ10, HB⟩ := hcut
          cases kq with
          | zero => exact absurd HA.out (by simp [glyphiclaw1_FixedGrows.j1])
          | succ kj10 =>
            have H := HA.out
            clear HA
            simp only [glyphiclaw1_FixedGrows.j1] at H
            have H1 : ((fixed_Sqrt.f kj10 x0_6).bind fun t116 => ((fixed_Sqrt.f kj10 x1_6).bind fun t117 => (if t116 ≤ t117 then ((fixed_Round.f (x0_6 / 8) (wrap64 ((x2_10 / 16) + 1))).bind fun t118 => ((fixed_Round.f (x1_6 / 8) (wrap64 ((x2_10 / 16) + 1))).bind fun t119 => (if t118 ≤ t119 then ((fixed_Down.f (x0_6 / 8) (wrap64 ((x2_10 / 16) + 1))).bind fun t120 => ((fixed_Down.f (x1_6 / 8) (wrap64 ((x2_10 / 16) + 1))).bind fun t121 => (if t120 ≤ t121 then (if t113 = true then (if t115 = true then (if t112 ≤ t114 then ((fixed_Clamp.f x0_6 (-1000) 1000).bind fun t122 => ((fixed_Clamp.f x1_6 (-1000) 1000).bind fun t123 => (if t122 ≤ t123 then ((fixed_Round.f a3 0).bind fun t124 => (if t124 = 0 then ((fixed_Round.f (a3 / 2) 1).bind fun t125 => (some (t125 == (a3 / 2)))) else (some false))) else (some false)))) else (some false)) else (some false)) else (some false)) else (some false)))) else (some false)))) else (some false)))) = some r := by first | (rw [if_pos rfl] at H; exact H) | (rw [if_pos trivial] at H; exact H) | exact H
            clear H
            have H := H1
            clear H1
            replace H := Option.bind_eq_some_iff.mp H
            obtain ⟨t116, A130, H⟩ := H
            replace H : ((fixed_Sqrt.f kj10 x1_6).bind fun t117 => (if t116 ≤ t117 then ((fixed_Round.f (x0_6 / 8) (wrap64 ((x2_10 / 16) + 1))).bind fun t118 => ((fixed_Round.f (x1_6 / 8) (wrap64 ((x2_10 / 16) + 1))).bind fun t119 => (if t118 ≤ t119 then ((fixed_Down.f (x0_6 / 8) (wrap64 ((x2_10 / 16) + 1))).bind fun t120 => ((fixed_Down.f (x1_6 / 8) (wrap64 ((x2_10 / 16) + 1))).bind fun t121 => (if t120 ≤ t121 then (if t113 = true then (if t115 = true then (if t112 ≤ t114 then ((fixed_Clamp.f x0_6 (-1000) 1000).bind fun t122 => ((fixed_Clamp.f x1_6 (-1000) 1000).bind fun t123 => (if t122 ≤ t123 then ((fixed_Round.f a3 0).bind fun t124 => (if t124 = 0 then ((fixed_Round.f (a3 / 2) 1).bind fun t125 => (some (t125 == (a3 / 2)))) else (some false))) else (some false)))) else (some false)) else (some false)) else (some false)) else (some false)))) else (some false)))) else (some false))) = some r := H
            have A13 := Aside0.mk A130
            clear A130
            replace H := Option.bind_eq_some_iff.mp H
            obtain ⟨t117, A140, H⟩ := H
            replace H : (if t116 ≤ t117 then ((fixed_Round.f (x0_6 / 8) (wrap64 ((x2_10 / 16) + 1))).bind fun t118 => ((fixed_Round.f (x1_6 / 8) (wrap64 ((x2_10 / 16) + 1))).bind fun t119 => (if t118 ≤ t119 then ((fixed_Down.f (x0_6 / 8) (wrap64 ((x2_10 / 16) + 1))).bind fun t120 => ((fixed_Down.f (x1_6 / 8) (wrap64 ((x2_10 / 16) + 1))).bind fun t121 => (if t120 ≤ t121 then (if t113 = true then (if t115 = true then (if t112 ≤ t114 then ((fixed_Clamp.f x0_6 (-1000) 1000).bind fun t122 => ((fixed_Clamp.f x1_6 (-1000) 1000).bind fun t123 => (if t122 ≤ t123 then ((fixed_Round.f a3 0).bind fun t124 => (if t124 = 0 then ((fixed_Round.f (a3 / 2) 1).bind fun t125 => (some (t125 == (a3 / 2)))) else (some false))) else (some false)))) else (some false)) else (some false)) else (some false)) else (some false)))) else (some false)))) else (some false)) = some r := H
            have A14 := Aside0.mk A140
            clear A140
            by_cases c15 : t116 ≤ t117
            · rw [if_pos c15] at H
              have c15b0 : decide (t116 ≤ t117) = true := decide_eq_true c15
              clear c15
              replace H := Option.bind_eq_some_iff.mp H
              obtain ⟨t118, A160, H⟩ := H
              replace H : ((fixed_Round.f (x1_6 / 8) (wrap64 ((x2_10 / 16) + 1))).bind fun t119 => (if t118 ≤ t119 then ((fixed_Down.f (x0_6 / 8) (wrap64 ((x2_10 / 16) + 1))).bind fun t120 => ((fixed_Down.f (x1_6 / 8) (wrap64 ((x2_10 / 16) + 1))).bind fun t121 => (if t120 ≤ t121 then (if t113 = true then (if t115 = true then (if t112 ≤ t114 then ((fixed_Clamp.f x0_6 (-1000) 1000).bind fun t122 => ((fixed_Clamp.f x1_6 (-1000) 1000).bind fun t123 => (if t122 ≤ t123 then ((fixed_Round.f a3 0).bind fun t124 => (if t124 = 0 then ((fixed_Round.f (a3 / 2) 1).bind fun t125 => (some (t125 == (a3 / 2)))) else (some false))) else (some false)))) else (some false)) else (some false)) else (some false)) else (some false)))) else (some false))) = some r := H
              have A16 := Aside0.mk A160
              clear A160
              replace H := Option.bind_eq_some_iff.mp H
              obtain ⟨t119, A170, H⟩ := H
              replace H : (if t118 ≤ t119 then ((fixed_Down.f (x0_6 / 8) (wrap64 ((x2_10 / 16) + 1))).bind fun t120 => ((fixed_Down.f (x1_6 / 8) (wrap64 ((x2_10 / 16) + 1))).bind fun t121 => (if t120 ≤ t121 then (if t113 = true then (if t115 = true then (if t112 ≤ t114 then ((fixed_Clamp.f x0_6 (-1000) 1000).bind fun t122 => ((fixed_Clamp.f x1_6 (-1000) 1000).bind fun t123 => (if t122 ≤ t123 then ((fixed_Round.f a3 0).bind fun t124 => (if t124 = 0 then ((fixed_Round.f (a3 / 2) 1).bind fun t125 => (some (t125 == (a3 / 2)))) else (some false))) else (some false)))) else (some false)) else (some false)) else (some false)) else (some false)))) else (some false)) = some r := H
              have A17 := Aside0.mk A170
              clear A170
              by_cases c18 : t118 ≤ t119
              · rw [if_pos c18] at H
                have c18b0 : decide (t118 ≤ t119) = true := decide_eq_true c18
                clear c18
                replace H := Option.bind_eq_some_iff.mp H
                obtain ⟨t120, A190, H⟩ := H
                replace H : ((fixed_Down.f (x1_6 / 8) (wrap64 ((x2_10 / 16) + 1))).bind fun t121 => (if t120 ≤ t121 then (if t113 = true then (if t115 = true then (if t112 ≤ t114 then ((fixed_Clamp.f x0_6 (-1000) 1000).bind fun t122 => ((fixed_Clamp.f x1_6 (-1000) 1000).bind fun t123 => (if t122 ≤ t123 then ((fixed_Round.f a3 0).bind fun t124 => (if t124 = 0 then ((fixed_Round.f (a3 / 2) 1).bind fun t125 => (some (t125 == (a3 / 2)))) else (some false))) else (some false)))) else (some false)) else (some false)) else (some false)) else (some false))) = some r := H
                have A19 := Aside0.mk A190
                clear A190
                replace H := Option.bind_eq_some_iff.mp H
                obtain ⟨t121, A200, H⟩ := H
                replace H : (if t120 ≤ t121 then (if t113 = true then (if t115 = true then (if t112 ≤ t114 then ((fixed_Clamp.f x0_6 (-1000) 1000).bind fun t122 => ((fixed_Clamp.f x1_6 (-1000) 1000).bind fun t123 => (if t122 ≤ t123 then ((fixed_Round.f a3 0).bind fun t124 => (if t124 = 0 then ((fixed_Round.f (a3 / 2) 1).bind fun t125 => (some (t125 == (a3 / 2)))) else (some false))) else (some false)))) else (some false)) else (some false)) else (some false)) else (some false)) = some r := H
                have A20 := Aside0.mk A200
                clear A200
                by_cases c21 : t120 ≤ t121
                · rw [if_pos c21] at H
                  have c21b0 : decide (t120 ≤ t121) = true := decide_eq_true c21
                  clear c21
                  by_cases c22 : t113 = true
                  · subst c22
                    have H1 : (if t115 = true then (if t112 ≤ t114 then ((fixed_Clamp.f x0_6 (-1000) 1000).bind fun t122 => ((fixed_Clamp.f x1_6 (-1000) 1000).bind fun t123 => (if t122 ≤ t123 then ((fixed_Round.f a3 0).bind fun t124 => (if t124 = 0 then ((fixed_Round.f (a3 / 2) 1).bind fun t125 => (some (t125 == (a3 / 2)))) else (some false))) else (some false)))) else (some false)) else (some false)) = some r := by rw [if_pos rfl] at H; exact H
                    clear H
                    have H := H1
                    clear H1
                    by_cases c23 : t115 = true
                    · subst c23
                      have H1 : (if t112 ≤ t114 then ((fixed_Clamp.f x0_6 (-1000) 1000).bind fun t122 => ((fixed_Clamp.f x1_6 (-1000) 1000).bind fun t123 => (if t122 ≤ t123 then ((fixed_Round.f a3 0).bind fun t124 => (if t124 = 0 then ((fixed_Round.f (a3 / 2) 1).bind fun t125 => (some (t125 == (a3 / 2)))) else (some false))) else (some false)))) else (some false)) = some r := by rw [if_pos rfl] at H; exact H
                      clear H
                      have H := H1
                      clear H1
                      by_cases c24 : t112 ≤ t114
                      · rw [if_pos c24] at H
                        have c24b0 : decide (t112 ≤ t114) = true := decide_eq_true c24
                        clear c24
                        replace H := Option.bind_eq_some_iff.mp H
                        obtain ⟨t122, A250, H⟩ := H
                        replace H : ((fixed_Clamp.f x1_6 (-1000) 1000).bind fun t123 => (if t122 ≤ t123 then ((fixed_Round.f a3 0).bind fun t124 => (if t124 = 0 then ((fixed_Round.f (a3 / 2) 1).bind fun t125 => (some (t125 == (a3 / 2)))) else (some false))) else (some false))) = some r := H
                        have A25 := Aside0.mk A250
                        clear A250
                        replace H := Option.bind_eq_some_iff.mp H
                        obtain ⟨t123, A260, H⟩ := H
                        replace H : (if t122 ≤ t123 then ((fixed_Round.f a3 0).bind fun t124 => (if t124 = 0 then ((fixed_Round.f (a3 / 2) 1).bind fun t125 => (some (t125 == (a3 / 2)))) else (some false))) else (some false)) = some r := H
                        have A26 := Aside0.mk A260
                        clear A260
                        by_cases c27 : t122 ≤ t123
                        · rw [if_pos c27] at H
                          have c27b0 : decide (t122 ≤ t123) = true := decide_eq_true c27
                          clear c27
                          replace H := Option.bind_eq_some_iff.mp H
                          obtain ⟨t124, A280, H⟩ := H
                          replace H : (if t124 = 0 then ((fixed_Round.f (a3 / 2) 1).bind fun t125 => (some (t125 == (a3 / 2)))) else (some false)) = some r := H
                          have A28 := Aside0.mk A280
                          clear A280
                          by_cases c29 : t124 = 0
                          · rw [if_pos c29] at H
                            have c29b0 : (t124 == 0) = true := beq_iff_eq.mpr c29
                            have c29b1 : (t124 != 0) = false := bne_eq_false_iff_eq.mpr c29
                            clear c29
                            replace H := Option.bind_eq_some_iff.mp H
                            obtain ⟨t125, A300, H⟩ := H
                            replace H : (some (t125 == (a3 / 2))) = some r := H
                            have A30 := Aside0.mk A300
                            clear A300
                            obtain rfl := Option.some.inj H
                            go_wp2_with (first | (go_at_call 32; (with_reducible refine (fixed_Sqrt.calls kj10 x0_6 t116 _ A13.out).mono ?_); rintro e w' ⟨rfl, ⟨nd, rfl⟩⟩) | (go_at_call 32; (with_reducible refine (fixed_Sqrt.calls kj10 x1_6 t117 _ A14.out).mono ?_); rintro e w' ⟨rfl, ⟨nd, rfl⟩⟩) | (go_at_call 30; (with_reducible refine (fixed_Round.calls (x0_6 / 8) (wrap64 ((x2_10 / 16) + 1)) t118 _ A16.out).mono ?_); rintro e w' ⟨rfl, ⟨nd, rfl⟩⟩) | (go_at_call 30; (with_reducible refine (fixed_Round.calls (x1_6 / 8) (wrap64 ((x2_10 / 16) + 1)) t119 _ A17.out).mono ?_); rintro e w' ⟨rfl, ⟨nd, rfl⟩⟩) | (go_at_call 31; (with_reducible refine (fixed_Down.calls (x0_6 / 8) (wrap64 ((x2_10 / 16) + 1)) t120 _ A19.out).mono ?_); rintro e w' ⟨rfl, ⟨nd, rfl⟩⟩) | (go_at_call 31; (with_reducible refine (fixed_Down.calls (x1_6 / 8) (wrap64 ((x2_10 / 16) + 1)) t121 _ A20.out).mono ?_); rintro e w' ⟨rfl, ⟨nd, rfl⟩⟩) | (go_at_call 33; (with_reducible refine (fixed_Clamp.calls x0_6 (-1000) 1000 t122 _ A25.out).mono ?_); rintro e w31 ⟨rfl, hb⟩; have n0_ := Aside0.mk (below_step (by repeat (first | (with_reducible first | exact HB.out | apply below_alloc | apply pw_below_drewN | apply below_drew1) | exact HB.out)) hb); clear HB; have HB := n0_; clear n0_; (try clear hb); (try clear hb2); (try clear hk); (try clear hi)) | (go_at_call 33; (with_reducible refine (fixed_Clamp.calls x1_6 (-1000) 1000 t123 _ A26.out).mono ?_); rintro e w32 ⟨rfl, hb⟩; have n0_ := Aside0.mk (below_step (by repeat (first | (with_reducible first | exact HB.out | apply below_alloc | apply pw_below_drewN | apply below_drew1) | exact HB.out)) hb); clear HB; have HB := n0_; clear n0_; (try clear hb); (try clear hb2); (try clear hk); (try clear hi)) | (go_at_call 30; (with_reducible refine (fixed_Round.calls a3 0 t124 _ A28.out).mono ?_); rintro e w' ⟨rfl, ⟨nd, rfl⟩⟩) | (go_at_call 30; (with_reducible refine (fixed_Round.calls (a3 / 2) 1 t125 _ A30.out).mono ?_); rintro e w' ⟨rfl, ⟨nd, rfl⟩⟩))
                            go_ret
                            exact ⟨by first | rfl | (simp [errW_none, errW_some] <;> rfl) | (simp [*, errW_none, errW_some] <;> rfl), by repeat (first | (with_reducible first | exact HB.out | apply below_alloc | apply pw_below_drewN | apply below_drew1) | exact HB.out)⟩
                          · rw [if_neg c29] at H
                            have c29b0 : (t124 == 0) = false := beq_eq_false_iff_ne.mpr c29
                            have c29b1 : (t124 != 0) = true := bne_iff_ne.mpr c29
                            exact absurd ((Option.some.inj H).trans hr0_.out) (by decide)
                        · rw [if_neg c27] at H
                          have c27b0 : decide (t122 ≤ t123) = false := decide_eq_false c27
                          clear c27
                          exact absurd ((Option.some.inj H).trans hr0_.out) (by decide)
                      · rw [if_neg c24] at H
                        have c24b0 : decide (t112 ≤ t114) = false := decide_eq_false c24
                        clear c24
                        exact absurd ((Option.some.inj H).trans hr0_.out) (by decide)
                    · replace c23 := Bool.eq_false_iff.mpr c23
                      subst c23
                      have H1 : (some false) = some r := by rw [if_neg (show ¬ (false = true) by decide)] at H; exact H
                      clear H
                      have H := H1
                      clear H1
                      exact absurd ((Option.some.inj H).trans hr0_.out) (by decide)
                  · replace c22 := Bool.eq_false_iff.mpr c22
                    subst c22
                    have H1 : (some false) = some r := by rw [if_neg (show ¬ (false = true) by decide)] at H; exact H
                    clear H
                    have H := H1
                    clear H1
                    exact absurd ((Option.some.inj H).trans hr0_.out) (by decide)
                · rw [if_neg c21] at H
                  have c21b0 : decide (t120 ≤ t121) = false := decide_eq_false c21
                  clear c21
                  exact absurd ((Option.some.inj H).trans hr0_.out) (by decide)
              · rw [if_neg c18] at H
                have c18b0 : decide (t118 ≤ t119) = false := decide_eq_false c18
                clear c18
                exact absurd ((Option.some.inj H).trans hr0_.out) (by decide)
            · rw [if_neg c15] at H
              have c15b0 : decide (t116 ≤ t117) = false := decide_eq_false c15
              clear c15
              exact absurd ((Option.some.inj H).trans hr0_.out) (by decide)
  · replace c6 := Bool.eq_false_iff.mpr c6
    subst c6
    have H1 : (some false) = some r := by rw [if_neg (show ¬ (false = true) by decide)] at H; exact H
    clear H
    have H := H1
    clear H1
    exact absurd ((Option.some.inj H).trans hr0_.out) (by decide)

/-- THE ONE PURE STATEMENT of glyphiclaw1_FixedGrows: yours. -/
def glyphiclaw1_FixedGrows.Pure : Prop := ∀ (a0 : Int) (a1 : Int) (a2 : Int) (a3 : Int), (Lit.int .i64 a0).wf = true → (Lit.int .i64 a1).wf = true → (Lit.int .i64 a2).wf = true → (Lit.int .i64 a3).wf = true → ∃ k, glyphiclaw1_FixedGrows.f k a0 a1 a2 a3 = some true
theorem glyphiclaw1_FixedGrows.walk (P : glyphiclaw1_FixedGrows.Pure) (a0 : Int) (a1 : Int) (a2 : Int) (a3 : Int) (w : World) (w0 : (Lit.int .i64 a0).wf = true) (w1 : (Lit.int .i64 a1).wf = true) (w2 : (Lit.int .i64 a2).wf = true) (w3 : (Lit.int .i64 a3).wf = true) :
    Calls Try.prog 20 #[.int .i64 a0, .int .i64 a1, .int .i64 a2, .int .i64 a3] w fun e w' => e = .returned (.bool true) ∧ Below w.heap.size w w' := by
  obtain ⟨k, h⟩ := P a0 a1 a2 a3 w0 w1 w2 w3
  refine (glyphiclaw1_FixedGrows.calls k a0 a1 a2 a3 true w (Aside0.mk rfl) h).mono ?_
  rintro e w' ⟨rfl, hd⟩
  exact ⟨rfl, hd⟩

end Go.Proofs.Ytgaikembekkfiaa.QFixedGrows
