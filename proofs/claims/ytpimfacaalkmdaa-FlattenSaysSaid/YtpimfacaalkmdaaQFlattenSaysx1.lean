/- Functions of the program as Lean functions, each with the proof of its walk. Written by gen.py, a program of these sessions. -/
import Derived.Test.YtpimfacaalkmdaaQFlattenSaysx0
namespace Go.Proofs.Ytpimfacaalkmdaa.QFlattenSays
open Go Go.RowKit Go.Proofs.YtpimfacaalkmdaaE
set_option linter.unusedVariables false
set_option maxRecDepth 100000
set_option maxHeartbeats 8000000
def flatten_Point_v2.f (a0_0 : Int) (a0_1 : Int) (s1_1 : Int) (s1_2 : Int) (s1_3 : Int) (s1_4 : Int) (s1_5 : Int) (s1_6 : Int) (i2 : Int) (n3 : Int) : Option (Int × Int) := (flatten_points_v2.f s1_1 s1_2 s1_3 s1_4 s1_5 s1_6).bind fun (t327, t328, t329, t330, t331, t332, t333) => ((flatten_mix_v3.f i2 n3 a0_0 t328).bind fun t343 => ((flatten_mix_v3.f i2 n3 a0_1 t329).bind fun t345 => (some (t343, t345))))
theorem flatten_Point_v2.ok {S : Seal} {a0_0 : Int} {a0_1 : Int} {s1_1 : Int} {s1_2 : Int} {s1_3 : Int} {s1_4 : Int} {s1_5 : Int} {s1_6 : Int} {i2 : Int} {n3 : Int} {r0_ : Int} {r1_ : Int}(e : flatten_Point_v2.f a0_0 a0_1 s1_1 s1_2 s1_3 s1_4 s1_5 s1_6 i2 n3 = some (r0_, r1_)) :
    Cal Try.prog 31 [.agg #[.int .i64 a0_0, .int .i64 a0_1], .agg #[.int .i64 1, .int .i64 s1_1, .int .i64 s1_2, .int .i64 s1_3, .int .i64 s1_4, .int .i64 s1_5, .int .i64 s1_6], .int .i64 i2, .int .i64 n3] [] S fun v H' S' => v = .agg #[.int .i64 r0_, .int .i64 r1_] ∧ H' = [] ∧ S' = S := by
  unfold flatten_Point_v2.f at e
  refine cal_of (c := c31) (N := 46) Try.func31 rfl rfl (by kernel_rfl) (rs := [.cn 2 8]) (by kernel_rfl) (Nat.le_of_ble_eq_true rfl) ?_
  unfold c31
  refine w_seq ?_
  refine w_reg fun all => ?_
  refine t_a (.box rfl rfl rfl) fun b321 fb321 sb321 => ?_
  refine t_a (.box rfl rfl rfl) fun b322 fb322 sb322 => ?_
  refine t_a (.new rfl rfl) fun b323 fb323 sb323 => ?_
  refine t_keep [2, 3, 4, 5, 8] (σ' := [(2, .int .i64 i2), (3, .int .i64 n3), (4, .pointer (some ⟨b321, 0, none⟩)), (5, .pointer (some ⟨b322, 0, none⟩)), (8, .pointer (some ⟨b323, 0, none⟩))]) (by kernel_rfl) ?_
  refine t_end ?_
  show W _ _ _ _ _ _ _
  refine w_seq ?_
  refine w_kp [2, 3, 4, 5, 8] (σ' := [(2, .int .i64 i2), (3, .int .i64 n3), (4, .pointer (some ⟨b321, 0, none⟩)), (5, .pointer (some ⟨b322, 0, none⟩)), (8, .pointer (some ⟨b323, 0, none⟩))]) (by kernel_rfl) ?_
  refine w_gameQ mixed (by kernel_rfl) fun all G hend hstep hqf => ?_
  have hg_ff : ∀ (g325 : Nat) (g324 : Nat), G [true, true, true, true, true, true, true, true] [(2, .int .i64 i2), (3, .int .i64 n3), (5, .pointer (some ⟨b322, 0, none⟩)), (8, .pointer (some ⟨b323, 0, none⟩)), (9, .slice (some ⟨g324, 0, none⟩) 1 1), (10, .slice (some ⟨g325, 0, none⟩) 1 1)] ([⟨g325, [.int .i64 a0_1], 1⟩, ⟨g324, [.int .i64 a0_0], 1⟩, ⟨b323, [.int .i64 0, .int .i64 0], 2⟩, ⟨b322, [.int .i64 1, .int .i64 s1_1, .int .i64 s1_2, .int .i64 s1_3, .int .i64 s1_4, .int .i64 s1_5, .int .i64 s1_6], 7⟩, ⟨b321, [.int .i64 a0_0, .int .i64 a0_1], 2⟩] : List Own) := by
    intro g325 g324
    refine hend _ _ _ (by kernel_rfl) ?_
    show W _ _ _ _ _ _ _
    refine w_seq ?_
    refine w_seq ?_
    refine w_reg fun all => ?_
    refine t_v (.ldn rfl rfl rfl (.at 3 rfl rfl)) ?_
    obtain ⟨⟨t327, t328, t329, t330, t331, t332, t333⟩, h334, e⟩ := bind_of e
    try dsimp only at e
    refine t_call (vs := [.agg #[.int .i64 1, .int .i64 s1_1, .int .i64 s1_2, .int .i64 s1_3, .int .i64 s1_4, .int .i64 s1_5, .int .i64 s1_6]]) (H1 := ([] : List Own)) (F := ([⟨g325, [.int .i64 a0_1], 1⟩, ⟨g324, [.int .i64 a0_0], 1⟩, ⟨b323, [.int .i64 0, .int .i64 0], 2⟩, ⟨b322, [.int .i64 1, .int .i64 s1_1, .int .i64 s1_2, .int .i64 s1_3, .int .i64 s1_4, .int .i64 s1_5, .int .i64 s1_6], 7⟩, ⟨b321, [.int .i64 a0_0, .int .i64 a0_1], 2⟩] : List Own)) rfl rfl (by kernel_rfl) (sel_perm (is := []) (by kernel_rfl)) (flatten_points_v2.ok h334) ?_
    rintro _ _ S_ ⟨N335, rfl, rfl, hS_⟩
    obtain rfl := hS_.symm
    refine t_qz 2 [2, 3, 8, 9, 10, 20, 21, 22] (σ' := [(2, .int .i64 i2), (3, .int .i64 n3), (8, .pointer (some ⟨b323, 0, none⟩)), (9, .slice (some ⟨g324, 0, none⟩) 1 1), (10, .slice (some ⟨g325, 0, none⟩) 1 1), (20, .slice (some ⟨N335, 1, none⟩) 1 3), (21, .int .i64 1), (22, .int .i64 0)]) (by kernel_rfl) ?_
    refine t_end ?_
    show W _ _ _ _ _ _ _
    refine w_block ?_
    refine w_lun 10 ?_
    refine wl_step ?_
    refine w_seq ?_
    refine w_reg fun all => ?_
    refine t_qz 1 [2, 3, 8, 9, 10, 20, 21, 22, 23] (σ' := [(2, .int .i64 i2), (3, .int .i64 n3), (8, .pointer (some ⟨b323, 0, none⟩)), (9, .slice (some ⟨g324, 0, none⟩) 1 1), (10, .slice (some ⟨g325, 0, none⟩) 1 1), (20, .slice (some ⟨N335, 1, none⟩) 1 3), (21, .int .i64 1), (22, .int .i64 0), (23, .bool true)]) (by kernel_rfl) ?_
    refine t_end ?_
    show W _ _ _ _ _ _ _
    refine w_seq ?_
    refine w_cond rfl (fun _ => ?_) (fun c_ => by cases c_)
    show W _ _ _ _ _ _ _
    refine w_skip ?_
    show W _ _ _ _ _ _ _
    refine w_seq ?_
    refine w_block ?_
    refine w_seq ?_
    refine w_reg fun all => ?_
    refine t_qz 1 [2, 3, 8, 9, 10, 20, 21, 22, 24] (σ' := [(2, .int .i64 i2), (3, .int .i64 n3), (8, .pointer (some ⟨b323, 0, none⟩)), (9, .slice (some ⟨g324, 0, none⟩) 1 1), (10, .slice (some ⟨g325, 0, none⟩) 1 1), (20, .slice (some ⟨N335, 1, none⟩) 1 3), (21, .int .i64 1), (22, .int .i64 0), (24, .pointer (some ⟨N335, 1, none⟩))]) (by kernel_rfl) ?_
    refine t_v (.ldn rfl rfl rfl (.at 0 rfl rfl)) ?_
    refine t_a (.new rfl rfl) fun b336 fb336 sb336 => ?_
    refine t_sti 0 (cs := [.int .i64 t328, .int .i64 t329]) rfl rfl rfl rfl rfl rfl rfl rfl rfl ?_
    refine t_keep [2, 3, 8, 9, 10, 12, 20, 21, 22] (σ' := [(2, .int .i64 i2), (3, .int .i64 n3), (8, .pointer (some ⟨b323, 0, none⟩)), (9, .slice (some ⟨g324, 0, none⟩) 1 1), (10, .slice (some ⟨g325, 0, none⟩) 1 1), (12, .pointer (some ⟨b336, 0, none⟩)), (20, .slice (some ⟨N335, 1, none⟩) 1 3), (21, .int .i64 1), (22, .int .i64 0)]) (by kernel_rfl) ?_
    refine t_end ?_
    show W _ _ _ _ _ _ _
    refine w_kp [2, 3, 8, 9, 10, 12, 20, 21, 22] (σ' := [(2, .int .i64 i2), (3, .int .i64 n3), (8, .pointer (some ⟨b323, 0, none⟩)), (9, .slice (some ⟨g324, 0, none⟩) 1 1), (10, .slice (some ⟨g325, 0, none⟩) 1 1), (12, .pointer (some ⟨b336, 0, none⟩)), (20, .slice (some ⟨N335, 1, none⟩) 1 3), (21, .int .i64 1), (22, .int .i64 0)]) (by kernel_rfl) ?_
    refine w_gameQ mixed (by kernel_rfl) fun all G hend hstep hqf => ?_
    have hg_fff : ∀ (g340 : Nat) (ng340 : Nat) (g339 : Nat) (g338 : Nat) (ng338 : Nat) (g337 : Nat), G [true, true, true, true, true, true, true, true, true, true, true, true] [(2, .int .i64 i2), (3, .int .i64 n3), (8, .pointer (some ⟨b323, 0, none⟩)), (9, .slice (some ⟨g338, 0, none⟩) 2 (ng338 / 1)), (10, .slice (some ⟨g340, 0, none⟩) 2 (ng340 / 1)), (20, .slice (some ⟨N335, 1, none⟩) 1 3), (21, .int .i64 1), (22, .int .i64 0)] ([⟨g340, [.int .i64 a0_1, .int .i64 t329], ng340⟩, ⟨g339, [.int .i64 t329], 1⟩, ⟨g338, [.int .i64 a0_0, .int .i64 t328], ng338⟩, ⟨g337, [.int .i64 t328], 1⟩, ⟨b336, [.int .i64 t328, .int .i64 t329], 2⟩, ⟨N335, [.int .i64 t327, .int .i64 t328, .int .i64 t329, .int .i64 t330, .int .i64 t331, .int .i64 t332, .int .i64 t333], 7⟩, ⟨b323, [.int .i64 0, .int .i64 0], 2⟩, ⟨b322, [.int .i64 1, .int .i64 s1_1, .int .i64 s1_2, .int .i64 s1_3, .int .i64 s1_4, .int .i64 s1_5, .int .i64 s1_6], 7⟩, ⟨b321, [.int .i64 a0_0, .int .i64 a0_1], 2⟩] : List Own) := by
      intro g340 ng340 g339 g338 ng338 g337
      refine hend _ _ _ (by kernel_rfl) ?_
      show W _ _ _ _ _ _ _
      refine w_reg fun all => ?_
      refine t_qz 2 [2, 3, 8, 9, 10, 20, 21, 22] (σ' := [(2, .int .i64 i2), (3, .int .i64 n3), (8, .pointer (some ⟨b323, 0, none⟩)), (9, .slice (some ⟨g338, 0, none⟩) 2 (ng338 / 1)), (10, .slice (some ⟨g340, 0, none⟩) 2 (ng340 / 1)), (20, .slice (some ⟨N335, 1, none⟩) 1 3), (21, .int .i64 1), (22, .int .i64 1)]) (by kernel_rfl) ?_
      refine t_end ?_
      show WL _ _ _ _ _ _ _ _
      refine wl_step ?_
      refine w_seq ?_
      refine w_reg fun all => ?_
      refine t_qz 1 [2, 3, 8, 9, 10, 20, 21, 22, 23] (σ' := [(2, .int .i64 i2), (3, .int .i64 n3), (8, .pointer (some ⟨b323, 0, none⟩)), (9, .slice (some ⟨g338, 0, none⟩) 2 (ng338 / 1)), (10, .slice (some ⟨g340, 0, none⟩) 2 (ng340 / 1)), (20, .slice (some ⟨N335, 1, none⟩) 1 3), (21, .int .i64 1), (22, .int .i64 1), (23, .bool false)]) (by kernel_rfl) ?_
      refine t_end ?_
      show W _ _ _ _ _ _ _
      refine w_seq ?_
      refine w_cond rfl (fun c_ => by cases c_) (fun _ => ?_)
      show W _ _ _ _ _ _ _
      refine w_exit ?_
      show W _ _ _ _ _ _ _
      refine w_seq ?_
      refine w_reg fun all => ?_
      obtain ⟨t343, h344, e⟩ := bind_of e
      refine t_qz 3 [2, 3, 8, 10, 37, 38, 39] (σ' := [(2, .int .i64 i2), (3, .int .i64 n3), (8, .pointer (some ⟨b323, 0, none⟩)), (10, .slice (some ⟨g340, 0, none⟩) 2 (ng340 / 1)), (37, .int .i64 i2), (38, .int .i64 n3), (39, .slice (some ⟨g338, 0, none⟩) 2 (ng338 / 1))]) (by kernel_rfl) ?_
      refine t_v (.callr (vs := [.int .i64 i2, .int .i64 n3, .slice (some ⟨g338, 0, none⟩) 2 (ng338 / 1)]) (A := ([⟨g338, [.int .i64 a0_0, .int .i64 t328], ng338⟩] : List Own)) (F0 := ([⟨g340, [.int .i64 a0_1, .int .i64 t329], ng340⟩, ⟨g339, [.int .i64 t329], 1⟩, ⟨g337, [.int .i64 t328], 1⟩, ⟨b336, [.int .i64 t328, .int .i64 t329], 2⟩, ⟨N335, [.int .i64 t327, .int .i64 t328, .int .i64 t329, .int .i64 t330, .int .i64 t331, .int .i64 t332, .int .i64 t333], 7⟩, ⟨b323, [.int .i64 0, .int .i64 0], 2⟩, ⟨b322, [.int .i64 1, .int .i64 s1_1, .int .i64 s1_2, .int .i64 s1_3, .int .i64 s1_4, .int .i64 s1_5, .int .i64 s1_6], 7⟩, ⟨b321, [.int .i64 a0_0, .int .i64 a0_1], 2⟩] : List Own)) rfl rfl (by kernel_rfl) (sel_perm (is := [2]) (by kernel_rfl)) (flatten_mix_v3.ok h344)) ?_
      obtain ⟨t345, h346, e⟩ := bind_of e
      refine t_qz 3 [8, 40, 41, 42, 43] (σ' := [(8, .pointer (some ⟨b323, 0, none⟩)), (40, .int .i64 t343), (41, .int .i64 i2), (42, .int .i64 n3), (43, .slice (some ⟨g340, 0, none⟩) 2 (ng340 / 1))]) (by kernel_rfl) ?_
      refine t_v (.callr (vs := [.int .i64 i2, .int .i64 n3, .slice (some ⟨g340, 0, none⟩) 2 (ng340 / 1)]) (A := ([⟨g340, [.int .i64 a0_1, .int .i64 t329], ng340⟩] : List Own)) (F0 := ([⟨g339, [.int .i64 t329], 1⟩, ⟨g338, [.int .i64 a0_0, .int .i64 t328], ng338⟩, ⟨g337, [.int .i64 t328], 1⟩, ⟨b336, [.int .i64 t328, .int .i64 t329], 2⟩, ⟨N335, [.int .i64 t327, .int .i64 t328, .int .i64 t329, .int .i64 t330, .int .i64 t331, .int .i64 t332, .int .i64 t333], 7⟩, ⟨b323, [.int .i64 0, .int .i64 0], 2⟩, ⟨b322, [.int .i64 1, .int .i64 s1_1, .int .i64 s1_2, .int .i64 s1_3, .int .i64 s1_4, .int .i64 s1_5, .int .i64 s1_6], 7⟩, ⟨b321, [.int .i64 a0_0, .int .i64 a0_1], 2⟩] : List Own)) rfl rfl (by kernel_rfl) (sel_perm (is := [0]) (by kernel_rfl)) (flatten_mix_v3.ok h346)) ?_
      refine t_qz 1 [8, 45] (σ' := [(8, .pointer (some ⟨b323, 0, none⟩)), (45, .agg #[.int .i64 t343, .int .i64 t345])]) (by kernel_rfl) ?_
      refine t_sti 6 (cs := [.int .i64 t343, .int .i64 t345]) rfl rfl rfl rfl rfl rfl rfl rfl rfl ?_
      refine t_keep [8] (σ' := [(8, .pointer (some ⟨b323, 0, none⟩))]) (by kernel_rfl) ?_
      refine t_end ?_
      show W _ _ _ _ _ _ _
      refine w_ret ?_
      simp only [Option.some.injEq, Prod.mk.injEq] at e
      obtain ⟨rfl, rfl⟩ := e
      exact ⟨[.agg #[.int .i64 t343, .int .i64 t345]], [], S, ⟨⟨_, _, _, rfl, .at 6 rfl rfl, rfl⟩, trivial⟩, VS.none, rfl, rfl, rfl⟩
    have hg_7ff : ∀ (g340 : Nat) (ng340 : Nat) (g339 : Nat) (g338 : Nat) (ng338 : Nat) (g337 : Nat), G [true, true, true, true, true, true, true, true, true, true, true, false] [(2, .int .i64 i2), (3, .int .i64 n3), (8, .pointer (some ⟨b323, 0, none⟩)), (9, .slice (some ⟨g338, 0, none⟩) 2 (ng338 / 1)), (10, .slice (some ⟨g325, 0, none⟩) 1 1), (20, .slice (some ⟨N335, 1, none⟩) 1 3), (21, .int .i64 1), (22, .int .i64 0), (35, .slice (some ⟨g340, 0, none⟩) 2 (ng340 / 1))] ([⟨g340, [.int .i64 a0_1, .int .i64 t329], ng340⟩, ⟨g339, [.int .i64 t329], 1⟩, ⟨g338, [.int .i64 a0_0, .int .i64 t328], ng338⟩, ⟨g337, [.int .i64 t328], 1⟩, ⟨b336, [.int .i64 t328, .int .i64 t329], 2⟩, ⟨N335, [.int .i64 t327, .int .i64 t328, .int .i64 t329, .int .i64 t330, .int .i64 t331, .int .i64 t332, .int .i64 t333], 7⟩, ⟨b323, [.int .i64 0, .int .i64 0], 2⟩, ⟨b322, [.int .i64 1, .int .i64 s1_1, .int .i64 s1_2, .int .i64 s1_3, .int .i64 s1_4, .int .i64 s1_5, .int .i64 s1_6], 7⟩, ⟨b321, [.int .i64 a0_0, .int .i64 a0_1], 2⟩] : List Own) := by
      intro g340 ng340 g339 g338 ng338 g337
      exact hqf 11 [2, 3, 8, 9, 10, 20, 21, 22] _ _ _ [(2, .int .i64 i2), (3, .int .i64 n3), (8, .pointer (some ⟨b323, 0, none⟩)), (9, .slice (some ⟨g338, 0, none⟩) 2 (ng338 / 1)), (10, .slice (some ⟨g340, 0, none⟩) 2 (ng340 / 1)), (20, .slice (some ⟨N335, 1, none⟩) 1 3), (21, .int .i64 1), (22, .int .i64 0)] (by kernel_rfl) (by kernel_rfl) (hg_fff g340 ng340 g339 g338 ng338 g337)
    have hg_3ff : ∀ (g340 : Nat) (ng340 : Nat) (g339 : Nat) (g338 : Nat) (ng338 : Nat) (g337 : Nat), G [true, true, true, true, true, true, true, true, true, true, false, false] [(2, .int .i64 i2), (3, .int .i64 n3), (8, .pointer (some ⟨b323, 0, none⟩)), (9, .slice (some ⟨g324, 0, none⟩) 1 1), (10, .slice (some ⟨g325, 0, none⟩) 1 1), (20, .slice (some ⟨N335, 1, none⟩) 1 3), (21, .int .i64 1), (22, .int .i64 0), (30, .slice (some ⟨g338, 0, none⟩) 2 (ng338 / 1)), (35, .slice (some ⟨g340, 0, none⟩) 2 (ng340 / 1))] ([⟨g340, [.int .i64 a0_1, .int .i64 t329], ng340⟩, ⟨g339, [.int .i64 t329], 1⟩, ⟨g338, [.int .i64 a0_0, .int .i64 t328], ng338⟩, ⟨g337, [.int .i64 t328], 1⟩, ⟨b336, [.int .i64 t328, .int .i64 t329], 2⟩, ⟨N335, [.int .i64 t327, .int .i64 t328, .int .i64 t329, .int .i64 t330, .int .i64 t331, .int .i64 t332, .int .i64 t333], 7⟩, ⟨b323, [.int .i64 0, .int .i64 0], 2⟩, ⟨b322, [.int .i64 1, .int .i64 s1_1, .int .i64 s1_2, .int .i64 s1_3, .int .i64 s1_4, .int .i64 s1_5, .int .i64 s1_6], 7⟩, ⟨b321, [.int .i64 a0_0, .int .i64 a0_1], 2⟩] : List Own) := by
      intro g340 ng340 g339 g338 ng338 g337
      exact hqf 10 [2, 3, 8, 9, 10, 20, 21, 22, 35] _ _ _ [(2, .int .i64 i2), (3, .int .i64 n3), (8, .pointer (some ⟨b323, 0, none⟩)), (9, .slice (some ⟨g338, 0, none⟩) 2 (ng338 / 1)), (10, .slice (some ⟨g325, 0, none⟩) 1 1), (20, .slice (some ⟨N335, 1, none⟩) 1 3), (21, .int .i64 1), (22, .int .i64 0), (35, .slice (some ⟨g340, 0, none⟩) 2 (ng340 / 1))] (by kernel_rfl) (by kernel_rfl) (hg_7ff g340 ng340 g339 g338 ng338 g337)
    have hg_1ff : ∀ (g339 : Nat) (g338 : Nat) (ng338 : Nat) (g337 : Nat), G [true, true, true, true, true, true, true, true, true, false, false, false] [(2, .int .i64 i2), (3, .int .i64 n3), (8, .pointer (some ⟨b323, 0, none⟩)), (9, .slice (some ⟨g324, 0, none⟩) 1 1), (10, .slice (some ⟨g325, 0, none⟩) 1 1), (20, .slice (some ⟨N335, 1, none⟩) 1 3), (21, .int .i64 1), (22, .int .i64 0), (30, .slice (some ⟨g338, 0, none⟩) 2 (ng338 / 1)), (31, .slice (some ⟨g325, 0, none⟩) 1 1), (34, .slice (some ⟨g339, 0, none⟩) 1 1)] ([⟨g339, [.int .i64 t329], 1⟩, ⟨g338, [.int .i64 a0_0, .int .i64 t328], ng338⟩, ⟨g337, [.int .i64 t328], 1⟩, ⟨b336, [.int .i64 t328, .int .i64 t329], 2⟩, ⟨N335, [.int .i64 t327, .int .i64 t328, .int .i64 t329, .int .i64 t330, .int .i64 t331, .int .i64 t332, .int .i64 t333], 7⟩, ⟨g325, [.int .i64 a0_1], 1⟩, ⟨b323, [.int .i64 0, .int .i64 0], 2⟩, ⟨b322, [.int .i64 1, .int .i64 s1_1, .int .i64 s1_2, .int .i64 s1_3, .int .i64 s1_4, .int .i64 s1_5, .int .i64 s1_6], 7⟩, ⟨b321, [.int .i64 a0_0, .int .i64 a0_1], 2⟩] : List Own) := by
      intro g339 g338 ng338 g337
      refine hstep [9] _ _ _ (by kernel_rfl) (List.cons_ne_nil _ _) ⟨?_, trivial⟩
      · show T _ _ _ _ _ _ _ _
        refine t_app1 (cs := [.int .i64 a0_1]) (M := 1) (F := ([⟨g339, [.int .i64 t329], 1⟩, ⟨g338, [.int .i64 a0_0, .int .i64 t328], ng338⟩, ⟨g337, [.int .i64 t328], 1⟩, ⟨b336, [.int .i64 t328, .int .i64 t329], 2⟩, ⟨N335, [.int .i64 t327, .int .i64 t328, .int .i64 t329, .int .i64 t330, .int .i64 t331, .int .i64 t332, .int .i64 t333], 7⟩, ⟨b323, [.int .i64 0, .int .i64 0], 2⟩, ⟨b322, [.int .i64 1, .int .i64 s1_1, .int .i64 s1_2, .int .i64 s1_3, .int .i64 s1_4, .int .i64 s1_5, .int .i64 s1_6], 7⟩, ⟨b321, [.int .i64 a0_0, .int .i64 a0_1], 2⟩] : List Own)) (news := [.int .i64 t329]) rfl rfl rfl rfl (sel_perm (is := [5]) (by kernel_rfl)) (.at 0 rfl rfl) (by kernel_rfl) rfl rfl (by decide) (by decide) rfl fun g340 ng340 => ?_
        refine t_keep [2, 3, 8, 9, 10, 20, 21, 22, 30, 35] (σ' := [(2, .int .i64 i2), (3, .int .i64 n3), (8, .pointer (some ⟨b323, 0, none⟩)), (9, .slice (some ⟨g324, 0, none⟩) 1 1), (10, .slice (some ⟨g325, 0, none⟩) 1 1), (20, .slice (some ⟨N335, 1, none⟩) 1 3), (21, .int .i64 1), (22, .int .i64 0), (30, .slice (some ⟨g338, 0, none⟩) 2 (ng338 / 1)), (35, .slice (some ⟨g340, 0, none⟩) 2 (ng340 / 1))]) (by kernel_rfl) ?_
        refine t_end ?_
        exact ⟨hg_3ff g340 ng340 g339 g338 ng338 g337, rfl⟩
    have hg_ff : ∀ (g338 : Nat) (ng338 : Nat) (g337 : Nat), G [true, true, true, true, true, true, true, true, false, false, false, false] [(2, .int .i64 i2), (3, .int .i64 n3), (8, .pointer (some ⟨b323, 0, none⟩)), (9, .slice (some ⟨g324, 0, none⟩) 1 1), (10, .slice (some ⟨g325, 0, none⟩) 1 1), (20, .slice (some ⟨N335, 1, none⟩) 1 3), (21, .int .i64 1), (22, .int .i64 0), (30, .slice (some ⟨g338, 0, none⟩) 2 (ng338 / 1)), (31, .slice (some ⟨g325, 0, none⟩) 1 1), (33, .int .i64 t329)] ([⟨g338, [.int .i64 a0_0, .int .i64 t328], ng338⟩, ⟨g337, [.int .i64 t328], 1⟩, ⟨b336, [.int .i64 t328, .int .i64 t329], 2⟩, ⟨N335, [.int .i64 t327, .int .i64 t328, .int .i64 t329, .int .i64 t330, .int .i64 t331, .int .i64 t332, .int .i64 t333], 7⟩, ⟨g325, [.int .i64 a0_1], 1⟩, ⟨b323, [.int .i64 0, .int .i64 0], 2⟩, ⟨b322, [.int .i64 1, .int .i64 s1_1, .int .i64 s1_2, .int .i64 s1_3, .int .i64 s1_4, .int .i64 s1_5, .int .i64 s1_6], 7⟩, ⟨b321, [.int .i64 a0_0, .int .i64 a0_1], 2⟩] : List Own) := by
      intro g338 ng338 g337
      refine hstep [8] _ _ _ (by kernel_rfl) (List.cons_ne_nil _ _) ⟨?_, trivial⟩
      · show T _ _ _ _ _ _ _ _
        refine t_a (.bsl rfl rfl rfl rfl) fun g339 fg339 sg339 => ?_
        refine t_keep [2, 3, 8, 9, 10, 20, 21, 22, 30, 31, 34] (σ' := [(2, .int .i64 i2), (3, .int .i64 n3), (8, .pointer (some ⟨b323, 0, none⟩)), (9, .slice (some ⟨g324, 0, none⟩) 1 1), (10, .slice (some ⟨g325, 0, none⟩) 1 1), (20, .slice (some ⟨N335, 1, none⟩) 1 3), (21, .int .i64 1), (22, .int .i64 0), (30, .slice (some ⟨g338, 0, none⟩) 2 (ng338 / 1)), (31, .slice (some ⟨g325, 0, none⟩) 1 1), (34, .slice (some ⟨g339, 0, none⟩) 1 1)]) (by kernel_rfl) ?_
        refine t_end ?_
        exact ⟨hg_1ff g339 g338 ng338 g337, rfl⟩
    have hg_1ef : ∀ (g339 : Nat) (g337 : Nat), G [true, true, true, true, false, true, true, true, true, false, false, false] [(2, .int .i64 i2), (3, .int .i64 n3), (8, .pointer (some ⟨b323, 0, none⟩)), (9, .slice (some ⟨g324, 0, none⟩) 1 1), (10, .slice (some ⟨g325, 0, none⟩) 1 1), (20, .slice (some ⟨N335, 1, none⟩) 1 3), (21, .int .i64 1), (22, .int .i64 0), (26, .slice (some ⟨g324, 0, none⟩) 1 1), (29, .slice (some ⟨g337, 0, none⟩) 1 1), (31, .slice (some ⟨g325, 0, none⟩) 1 1), (34, .slice (some ⟨g339, 0, none⟩) 1 1)] ([⟨g339, [.int .i64 t329], 1⟩, ⟨g337, [.int .i64 t328], 1⟩, ⟨b336, [.int .i64 t328, .int .i64 t329], 2⟩, ⟨N335, [.int .i64 t327, .int .i64 t328, .int .i64 t329, .int .i64 t330, .int .i64 t331, .int .i64 t332, .int .i64 t333], 7⟩, ⟨g325, [.int .i64 a0_1], 1⟩, ⟨g324, [.int .i64 a0_0], 1⟩, ⟨b323, [.int .i64 0, .int .i64 0], 2⟩, ⟨b322, [.int .i64 1, .int .i64 s1_1, .int .i64 s1_2, .int .i64 s1_3, .int .i64 s1_4, .int .i64 s1_5, .int .i64 s1_6], 7⟩, ⟨b321, [.int .i64 a0_0, .int .i64 a0_1], 2⟩] : List Own) := by
      intro g339 g337
      refine hstep [4] _ _ _ (by kernel_rfl) (List.cons_ne_nil _ _) ⟨?_, trivial⟩
      · show T _ _ _ _ _ _ _ _
        refine t_app1 (cs := [.int .i64 a0_0]) (M := 1) (F := ([⟨g339, [.int .i64 t329], 1⟩, ⟨g337, [.int .i64 t328], 1⟩, ⟨b336, [.int .i64 t328, .int .i64 t329], 2⟩, ⟨N335, [.int .i64 t327, .int .i64 t328, .int .i64 t329, .int .i64 t330, .int .i64 t331, .int .i64 t332, .int .i64 t333], 7⟩, ⟨g325, [.int .i64 a0_1], 1⟩, ⟨b323, [.int .i64 0, .int .i64 0], 2⟩, ⟨b322, [.int .i64 1, .int .i64 s1_1, .int .i64 s1_2, .int .i64 s1_3, .int .i64 s1_4, .int .i64 s1_5, .int .i64 s1_6], 7⟩, ⟨b321, [.int .i64 a0_0, .int .i64 a0_1], 2⟩] : List Own)) (news := [.int .i64 t328]) rfl rfl rfl rfl (sel_perm (is := [5]) (by kernel_rfl)) (.at 1 rfl rfl) (by kernel_rfl) rfl rfl (by decide) (by decide) rfl fun g338 ng338 => ?_
        refine t_keep [2, 3, 8, 9, 10, 20, 21, 22, 30, 31, 34] (σ' := [(2, .int .i64 i2), (3, .int .i64 n3), (8, .pointer (some ⟨b323, 0, none⟩)), (9, .slice (some ⟨g324, 0, none⟩) 1 1), (10, .slice (some ⟨g325, 0, none⟩) 1 1), (20, .slice (some ⟨N335, 1, none⟩) 1 3), (21, .int .i64 1), (22, .int .i64 0), (30, .slice (some ⟨g338, 0, none⟩) 2 (ng338 / 1)), (31, .slice (some ⟨g325, 0, none⟩) 1 1), (34, .slice (some ⟨g339, 0, none⟩) 1 1)]) (by kernel_rfl) ?_
        refine t_vs (H' := ([⟨g339, [.int .i64 t329], 1⟩, ⟨g338, [.int .i64 a0_0, .int .i64 t328], ng338⟩, ⟨g337, [.int .i64 t328], 1⟩, ⟨b336, [.int .i64 t328, .int .i64 t329], 2⟩, ⟨N335, [.int .i64 t327, .int .i64 t328, .int .i64 t329, .int .i64 t330, .int .i64 t331, .int .i64 t332, .int .i64 t333], 7⟩, ⟨g325, [.int .i64 a0_1], 1⟩, ⟨b323, [.int .i64 0, .int .i64 0], 2⟩, ⟨b322, [.int .i64 1, .int .i64 s1_1, .int .i64 s1_2, .int .i64 s1_3, .int .i64 s1_4, .int .i64 s1_5, .int .i64 s1_6], 7⟩, ⟨b321, [.int .i64 a0_0, .int .i64 a0_1], 2⟩] : List Own)) (S' := S) (VS.sel [1, 0, 0, 0, 0, 0, 0, 0, 0] (by kernel_rfl)) ?_
        refine t_end ?_
        exact ⟨hg_1ff g339 g338 ng338 g337, rfl⟩
    have hg_1e7 : ∀ (g339 : Nat), G [true, true, true, false, false, true, true, true, true, false, false, false] [(2, .int .i64 i2), (3, .int .i64 n3), (8, .pointer (some ⟨b323, 0, none⟩)), (9, .slice (some ⟨g324, 0, none⟩) 1 1), (10, .slice (some ⟨g325, 0, none⟩) 1 1), (20, .slice (some ⟨N335, 1, none⟩) 1 3), (21, .int .i64 1), (22, .int .i64 0), (26, .slice (some ⟨g324, 0, none⟩) 1 1), (28, .int .i64 t328), (31, .slice (some ⟨g325, 0, none⟩) 1 1), (34, .slice (some ⟨g339, 0, none⟩) 1 1)] ([⟨g339, [.int .i64 t329], 1⟩, ⟨b336, [.int .i64 t328, .int .i64 t329], 2⟩, ⟨N335, [.int .i64 t327, .int .i64 t328, .int .i64 t329, .int .i64 t330, .int .i64 t331, .int .i64 t332, .int .i64 t333], 7⟩, ⟨g325, [.int .i64 a0_1], 1⟩, ⟨g324, [.int .i64 a0_0], 1⟩, ⟨b323, [.int .i64 0, .int .i64 0], 2⟩, ⟨b322, [.int .i64 1, .int .i64 s1_1, .int .i64 s1_2, .int .i64 s1_3, .int .i64 s1_4, .int .i64 s1_5, .int .i64 s1_6], 7⟩, ⟨b321, [.int .i64 a0_0, .int .i64 a0_1], 2⟩] : List Own) := by
      intro g339
      refine hstep [3] _ _ _ (by kernel_rfl) (List.cons_ne_nil _ _) ⟨?_, trivial⟩
      · show T _ _ _ _ _ _ _ _
        refine t_a (.bsl rfl rfl rfl rfl) fun g337 fg337 sg337 => ?_
        refine t_keep [2, 3, 8, 9, 10, 20, 21, 22, 26, 29, 31, 34] (σ' := [(2, .int .i64 i2), (3, .int .i64 n3), (8, .pointer (some ⟨b323, 0, none⟩)), (9, .slice (some ⟨g324, 0, none⟩) 1 1), (10, .slice (some ⟨g325, 0, none⟩) 1 1), (20, .slice (some ⟨N335, 1, none⟩) 1 3), (21, .int .i64 1), (22, .int .i64 0), (26, .slice (some ⟨g324, 0, none⟩) 1 1), (29, .slice (some ⟨g337, 0, none⟩) 1 1), (31, .slice (some ⟨g325, 0, none⟩) 1 1), (34, .slice (some ⟨g339, 0, none⟩) 1 1)]) (by kernel_rfl) ?_
        refine t_vs (H' := ([⟨g339, [.int .i64 t329], 1⟩, ⟨g337, [.int .i64 t328], 1⟩, ⟨b336, [.int .i64 t328, .int .i64 t329], 2⟩, ⟨N335, [.int .i64 t327, .int .i64 t328, .int .i64 t329, .int .i64 t330, .int .i64 t331, .int .i64 t332, .int .i64 t333], 7⟩, ⟨g325, [.int .i64 a0_1], 1⟩, ⟨g324, [.int .i64 a0_0], 1⟩, ⟨b323, [.int .i64 0, .int .i64 0], 2⟩, ⟨b322, [.int .i64 1, .int .i64 s1_1, .int .i64 s1_2, .int .i64 s1_3, .int .i64 s1_4, .int .i64 s1_5, .int .i64 s1_6], 7⟩, ⟨b321, [.int .i64 a0_0, .int .i64 a0_1], 2⟩] : List Own)) (S' := S) (VS.sel [1, 0, 0, 0, 0, 0, 0, 0, 0] (by kernel_rfl)) ?_
        refine t_end ?_
        exact ⟨hg_1ef g339 g337, rfl⟩
    have hg_ef : ∀ (g337 : Nat), G [true, true, true, true, false, true, true, true, false, false, false, false] [(2, .int .i64 i2), (3, .int .i64 n3), (8, .pointer (some ⟨b323, 0, none⟩)), (9, .slice (some ⟨g324, 0, none⟩) 1 1), (10, .slice (some ⟨g325, 0, none⟩) 1 1), (20, .slice (some ⟨N335, 1, none⟩) 1 3), (21, .int .i64 1), (22, .int .i64 0), (26, .slice (some ⟨g324, 0, none⟩) 1 1), (29, .slice (some ⟨g337, 0, none⟩) 1 1), (31, .slice (some ⟨g325, 0, none⟩) 1 1), (33, .int .i64 t329)] ([⟨g337, [.int .i64 t328], 1⟩, ⟨b336, [.int .i64 t328, .int .i64 t329], 2⟩, ⟨N335, [.int .i64 t327, .int .i64 t328, .int .i64 t329, .int .i64 t330, .int .i64 t331, .int .i64 t332, .int .i64 t333], 7⟩, ⟨g325, [.int .i64 a0_1], 1⟩, ⟨g324, [.int .i64 a0_0], 1⟩, ⟨b323, [.int .i64 0, .int .i64 0], 2⟩, ⟨b322, [.int .i64 1, .int .i64 s1_1, .int .i64 s1_2, .int .i64 s1_3, .int .i64 s1_4, .int .i64 s1_5, .int .i64 s1_6], 7⟩, ⟨b321, [.int .i64 a0_0, .int .i64 a0_1], 2⟩] : List Own) := by
      intro g337
      refine hstep [4, 8] _ _ _ (by kernel_rfl) (List.cons_ne_nil _ _) ⟨?_, ?_, trivial⟩
      · show T _ _ _ _ _ _ _ _
        refine t_app1 (cs := [.int .i64 a0_0]) (M := 1) (F := ([⟨g337, [.int .i64 t328], 1⟩, ⟨b336, [.int .i64 t328, .int .i64 t329], 2⟩, ⟨N335, [.int .i64 t327, .int .i64 t328, .int .i64 t329, .int .i64 t330, .int .i64 t331, .int .i64 t332, .int .i64 t333], 7⟩, ⟨g325, [.int .i64 a0_1], 1⟩, ⟨b323, [.int .i64 0, .int .i64 0], 2⟩, ⟨b322, [.int .i64 1, .int .i64 s1_1, .int .i64 s1_2, .int .i64 s1_3, .int .i64 s1_4, .int .i64 s1_5, .int .i64 s1_6], 7⟩, ⟨b321, [.int .i64 a0_0, .int .i64 a0_1], 2⟩] : List Own)) (news := [.int .i64 t328]) rfl rfl rfl rfl (sel_perm (is := [4]) (by kernel_rfl)) (.at 0 rfl rfl) (by kernel_rfl) rfl rfl (by decide) (by decide) rfl fun g338 ng338 => ?_
        refine t_keep [2, 3, 8, 9, 10, 20, 21, 22, 30, 31, 33] (σ' := [(2, .int .i64 i2), (3, .int .i64 n3), (8, .pointer (some ⟨b323, 0, none⟩)), (9, .slice (some ⟨g324, 0, none⟩) 1 1), (10, .slice (some ⟨g325, 0, none⟩) 1 1), (20, .slice (some ⟨N335, 1, none⟩) 1 3), (21, .int .i64 1), (22, .int .i64 0), (30, .slice (some ⟨g338, 0, none⟩) 2 (ng338 / 1)), (31, .slice (some ⟨g325, 0, none⟩) 1 1), (33, .int .i64 t329)]) (by kernel_rfl) ?_
        refine t_end ?_
        exact ⟨hg_ff g338 ng338 g337, rfl⟩
      · show T _ _ _ _ _ _ _ _
        refine t_a (.bsl rfl rfl rfl rfl) fun g339 fg339 sg339 => ?_
        refine t_keep [2, 3, 8, 9, 10, 20, 21, 22, 26, 29, 31, 34] (σ' := [(2, .int .i64 i2), (3, .int .i64 n3), (8, .pointer (some ⟨b323, 0, none⟩)), (9, .slice (some ⟨g324, 0, none⟩) 1 1), (10, .slice (some ⟨g325, 0, none⟩) 1 1), (20, .slice (some ⟨N335, 1, none⟩) 1 3), (21, .int .i64 1), (22, .int .i64 0), (26, .slice (some ⟨g324, 0, none⟩) 1 1), (29, .slice (some ⟨g337, 0, none⟩) 1 1), (31, .slice (some ⟨g325, 0, none⟩) 1 1), (34, .slice (some ⟨g339, 0, none⟩) 1 1)]) (by kernel_rfl) ?_
        refine t_end ?_
        exact ⟨hg_1ef g339 g337, rfl⟩
    have hg_7f : ∀ (g338 : Nat) (ng338 : Nat) (g337 : Nat), G [true, true, true, true, true, true, true, false, false, false, false, false] [(2, .int .i64 i2), (3, .int .i64 n3), (8, .pointer (some ⟨b323, 0, none⟩)), (9, .slice (some ⟨g324, 0, none⟩) 1 1), (10, .slice (some ⟨g325, 0, none⟩) 1 1), (20, .slice (some ⟨N335, 1, none⟩) 1 3), (21, .int .i64 1), (22, .int .i64 0), (30, .slice (some ⟨g338, 0, none⟩) 2 (ng338 / 1)), (31, .slice (some ⟨g325, 0, none⟩) 1 1), (32, .pointer (some ⟨b336, 1, none⟩))] ([⟨g338, [.int .i64 a0_0, .int .i64 t328], ng338⟩, ⟨g337, [.int .i64 t328], 1⟩, ⟨b336, [.int .i64 t328, .int .i64 t329], 2⟩, ⟨N335, [.int .i64 t327, .int .i64 t328, .int .i64 t329, .int .i64 t330, .int .i64 t331, .int .i64 t332, .int .i64 t333], 7⟩, ⟨g325, [.int .i64 a0_1], 1⟩, ⟨b323, [.int .i64 0, .int .i64 0], 2⟩, ⟨b322, [.int .i64 1, .int .i64 s1_1, .int .i64 s1_2, .int .i64 s1_3, .int .i64 s1_4, .int .i64 s1_5, .int .i64 s1_6], 7⟩, ⟨b321, [.int .i64 a0_0, .int .i64 a0_1], 2⟩] : List Own) := by
      intro g338 ng338 g337
      refine hstep [7] _ _ _ (by kernel_rfl) (List.cons_ne_nil _ _) ⟨?_, trivial⟩
      · show T _ _ _ _ _ _ _ _
        refine t_v (.ld1 rfl rfl rfl (.at 2 rfl rfl)) ?_
        refine t_keep [2, 3, 8, 9, 10, 20, 21, 22, 30, 31, 33] (σ' := [(2, .int .i64 i2), (3, .int .i64 n3), (8, .pointer (some ⟨b323, 0, none⟩)), (9, .slice (some ⟨g324, 0, none⟩) 1 1), (10, .slice (some ⟨g325, 0, none⟩) 1 1), (20, .slice (some ⟨N335, 1, none⟩) 1 3), (21, .int .i64 1), (22, .int .i64 0), (30, .slice (some ⟨g338, 0, none⟩) 2 (ng338 / 1)), (31, .slice (some ⟨g325, 0, none⟩) 1 1), (33, .int .i64 t329)]) (by kernel_rfl) ?_
        refine t_end ?_
        exact ⟨hg_ff g338 ng338 g337, rfl⟩
    have hg_1e3 : ∀ (g339 : Nat), G [true, true, false, false, false, true, true, true, true, false, false, false] [(2, .int .i64 i2), (3, .int .i64 n3), (8, .pointer (some ⟨b323, 0, none⟩)), (9, .slice (some ⟨g324, 0, none⟩) 1 1), (10, .slice (some ⟨g325, 0, none⟩) 1 1), (20, .slice (some ⟨N335, 1, none⟩) 1 3), (21, .int .i64 1), (22, .int .i64 0), (26, .slice (some ⟨g324, 0, none⟩) 1 1), (27, .pointer (some ⟨b336, 0, none⟩)), (31, .slice (some ⟨g325, 0, none⟩) 1 1), (34, .slice (some ⟨g339, 0, none⟩) 1 1)] ([⟨g339, [.int .i64 t329], 1⟩, ⟨b336, [.int .i64 t328, .int .i64 t329], 2⟩, ⟨N335, [.int .i64 t327, .int .i64 t328, .int .i64 t329, .int .i64 t330, .int .i64 t331, .int .i64 t332, .int .i64 t333], 7⟩, ⟨g325, [.int .i64 a0_1], 1⟩, ⟨g324, [.int .i64 a0_0], 1⟩, ⟨b323, [.int .i64 0, .int .i64 0], 2⟩, ⟨b322, [.int .i64 1, .int .i64 s1_1, .int .i64 s1_2, .int .i64 s1_3, .int .i64 s1_4, .int .i64 s1_5, .int .i64 s1_6], 7⟩, ⟨b321, [.int .i64 a0_0, .int .i64 a0_1], 2⟩] : List Own) := by
      intro g339
      refine hstep [2] _ _ _ (by kernel_rfl) (List.cons_ne_nil _ _) ⟨?_, trivial⟩
      · show T _ _ _ _ _ _ _ _
        refine t_v (.ld1 rfl rfl rfl (.at 1 rfl rfl)) ?_
        refine t_keep [2, 3, 8, 9, 10, 20, 21, 22, 26, 28, 31, 34] (σ' := [(2, .int .i64 i2), (3, .int .i64 n3), (8, .pointer (some ⟨b323, 0, none⟩)), (9, .slice (some ⟨g324, 0, none⟩) 1 1), (10, .slice (some ⟨g325, 0, none⟩) 1 1), (20, .slice (some ⟨N335, 1, none⟩) 1 3), (21, .int .i64 1), (22, .int .i64 0), (26, .slice (some ⟨g324, 0, none⟩) 1 1), (28, .int .i64 t328), (31, .slice (some ⟨g325, 0, none⟩) 1 1), (34, .slice (some ⟨g339, 0, none⟩) 1 1)]) (by kernel_rfl) ?_
        refine t_end ?_
        exact ⟨hg_1e7 g339, rfl⟩
    have hg_e7 : G [true, true, true, false, false, true, true, true, false, false, false, false] [(2, .int .i64 i2), (3, .int .i64 n3), (8, .pointer (some ⟨b323, 0, none⟩)), (9, .slice (some ⟨g324, 0, none⟩) 1 1), (10, .slice (some ⟨g325, 0, none⟩) 1 1), (20, .slice (some ⟨N335, 1, none⟩) 1 3), (21, .int .i64 1), (22, .int .i64 0), (26, .slice (some ⟨g324, 0, none⟩) 1 1), (28, .int .i64 t328), (31, .slice (some ⟨g325, 0, none⟩) 1 1), (33, .int .i64 t329)] ([⟨b336, [.int .i64 t328, .int .i64 t329], 2⟩, ⟨N335, [.int .i64 t327, .int .i64 t328, .int .i64 t329, .int .i64 t330, .int .i64 t331, .int .i64 t332, .int .i64 t333], 7⟩, ⟨g325, [.int .i64 a0_1], 1⟩, ⟨g324, [.int .i64 a0_0], 1⟩, ⟨b323, [.int .i64 0, .int .i64 0], 2⟩, ⟨b322, [.int .i64 1, .int .i64 s1_1, .int .i64 s1_2, .int .i64 s1_3, .int .i64 s1_4, .int .i64 s1_5, .int .i64 s1_6], 7⟩, ⟨b321, [.int .i64 a0_0, .int .i64 a0_1], 2⟩] : List Own) := by
      refine hstep [3, 8] _ _ _ (by kernel_rfl) (List.cons_ne_nil _ _) ⟨?_, ?_, trivial⟩
      · show T _ _ _ _ _ _ _ _
        refine t_a (.bsl rfl rfl rfl rfl) fun g337 fg337 sg337 => ?_
        refine t_keep [2, 3, 8, 9, 10, 20, 21, 22, 26, 29, 31, 33] (σ' := [(2, .int .i64 i2), (3, .int .i64 n3), (8, .pointer (some ⟨b323, 0, none⟩)), (9, .slice (some ⟨g324, 0, none⟩) 1 1), (10, .slice (some ⟨g325, 0, none⟩) 1 1), (20, .slice (some ⟨N335, 1, none⟩) 1 3), (21, .int .i64 1), (22, .int .i64 0), (26, .slice (some ⟨g324, 0, none⟩) 1 1), (29, .slice (some ⟨g337, 0, none⟩) 1 1), (31, .slice (some ⟨g325, 0, none⟩) 1 1), (33, .int .i64 t329)]) (by kernel_rfl) ?_
        refine t_end ?_
        exact ⟨hg_ef g337, rfl⟩
      · show T _ _ _ _ _ _ _ _
        refine t_a (.bsl rfl rfl rfl rfl) fun g339 fg339 sg339 => ?_
        refine t_keep [2, 3, 8, 9, 10, 20, 21, 22, 26, 28, 31, 34] (σ' := [(2, .int .i64 i2), (3, .int .i64 n3), (8, .pointer (some ⟨b323, 0, none⟩)), (9, .slice (some ⟨g324, 0, none⟩) 1 1), (10, .slice (some ⟨g325, 0, none⟩) 1 1), (20, .slice (some ⟨N335, 1, none⟩) 1 3), (21, .int .i64 1), (22, .int .i64 0), (26, .slice (some ⟨g324, 0, none⟩) 1 1), (28, .int .i64 t328), (31, .slice (some ⟨g325, 0, none⟩) 1 1), (34, .slice (some ⟨g339, 0, none⟩) 1 1)]) (by kernel_rfl) ?_
        refine t_end ?_
        exact ⟨hg_1e7 g339, rfl⟩
    have hg_6f : ∀ (g337 : Nat), G [true, true, true, true, false, true, true, false, false, false, false, false] [(2, .int .i64 i2), (3, .int .i64 n3), (8, .pointer (some ⟨b323, 0, none⟩)), (9, .slice (some ⟨g324, 0, none⟩) 1 1), (10, .slice (some ⟨g325, 0, none⟩) 1 1), (20, .slice (some ⟨N335, 1, none⟩) 1 3), (21, .int .i64 1), (22, .int .i64 0), (26, .slice (some ⟨g324, 0, none⟩) 1 1), (29, .slice (some ⟨g337, 0, none⟩) 1 1), (31, .slice (some ⟨g325, 0, none⟩) 1 1), (32, .pointer (some ⟨b336, 1, none⟩))] ([⟨g337, [.int .i64 t328], 1⟩, ⟨b336, [.int .i64 t328, .int .i64 t329], 2⟩, ⟨N335, [.int .i64 t327, .int .i64 t328, .int .i64 t329, .int .i64 t330, .int .i64 t331, .int .i64 t332, .int .i64 t333], 7⟩, ⟨g325, [.int .i64 a0_1], 1⟩, ⟨g324, [.int .i64 a0_0], 1⟩, ⟨b323, [.int .i64 0, .int .i64 0], 2⟩, ⟨b322, [.int .i64 1, .int .i64 s1_1, .int .i64 s1_2, .int .i64 s1_3, .int .i64 s1_4, .int .i64 s1_5, .int .i64 s1_6], 7⟩, ⟨b321, [.int .i64 a0_0, .int .i64 a0_1], 2⟩] : List Own) := by
      intro g337
      refine hstep [4, 7] _ _ _ (by kernel_rfl) (List.cons_ne_nil _ _) ⟨?_, ?_, trivial⟩
      · show T _ _ _ _ _ _ _ _
        refine t_app1 (cs := [.int .i64 a0_0]) (M := 1) (F := ([⟨g337, [.int .i64 t328], 1⟩, ⟨b336, [.int .i64 t328, .int .i64 t329], 2⟩, ⟨N335, [.int .i64 t327, .int .i64 t328, .int .i64 t329, .int .i64 t330, .int .i64 t331, .int .i64 t332, .int .i64 t333], 7⟩, ⟨g325, [.int .i64 a0_1], 1⟩, ⟨b323, [.int .i64 0, .int .i64 0], 2⟩, ⟨b322, [.int .i64 1, .int .i64 s1_1, .int .i64 s1_2, .int .i64 s1_3, .int .i64 s1_4, .int .i64 s1_5, .int .i64 s1_6], 7⟩, ⟨b321, [.int .i64 a0_0, .int .i64 a0_1], 2⟩] : List Own)) (news := [.int .i64 t328]) rfl rfl rfl rfl (sel_perm (is := [4]) (by kernel_rfl)) (.at 0 rfl rfl) (by kernel_rfl) rfl rfl (by decide) (by decide) rfl fun g338 ng338 => ?_
        refine t_keep [2, 3, 8, 9, 10, 20, 21, 22, 30, 31, 32] (σ' := [(2, .int .i64 i2), (3, .int .i64 n3), (8, .pointer (some ⟨b323, 0, none⟩)), (9, .slice (some ⟨g324, 0, none⟩) 1 1), (10, .slice (some ⟨g325, 0, none⟩) 1 1), (20, .slice (some ⟨N335, 1, none⟩) 1 3), (21, .int .i64 1), (22, .int .i64 0), (30, .slice (some ⟨g338, 0, none⟩) 2 (ng338 / 1)), (31, .slice (some ⟨g325, 0, none⟩) 1 1), (32, .pointer (some ⟨b336, 1, none⟩))]) (by kernel_rfl) ?_
        refine t_end ?_
        exact ⟨hg_7f g338 ng338 g337, rfl⟩
      · show T _ _ _ _ _ _ _ _
        refine t_v (.ld1 rfl rfl rfl (.at 1 rfl rfl)) ?_
        refine t_keep [2, 3, 8, 9, 10, 20, 21, 22, 26, 29, 31, 33] (σ' := [(2, .int .i64 i2), (3, .int .i64 n3), (8, .pointer (some ⟨b323, 0, none⟩)), (9, .slice (some ⟨g324, 0, none⟩) 1 1), (10, .slice (some ⟨g325, 0, none⟩) 1 1), (20, .slice (some ⟨N335, 1, none⟩) 1 3), (21, .int .i64 1), (22, .int .i64 0), (26, .slice (some ⟨g324, 0, none⟩) 1 1), (29, .slice (some ⟨g337, 0, none⟩) 1 1), (31, .slice (some ⟨g325, 0, none⟩) 1 1), (33, .int .i64 t329)]) (by kernel_rfl) ?_
        refine t_end ?_
        exact ⟨hg_ef g337, rfl⟩
    have hg_e3 : G [true, true, false, false, false, true, true, true, false, false, false, false] [(2, .int .i64 i2), (3, .int .i64 n3), (8, .pointer (some ⟨b323, 0, none⟩)), (9, .slice (some ⟨g324, 0, none⟩) 1 1), (10, .slice (some ⟨g325, 0, none⟩) 1 1), (20, .slice (some ⟨N335, 1, none⟩) 1 3), (21, .int .i64 1), (22, .int .i64 0), (26, .slice (some ⟨g324, 0, none⟩) 1 1), (27, .pointer (some ⟨b336, 0, none⟩)), (31, .slice (some ⟨g325, 0, none⟩) 1 1), (33, .int .i64 t329)] ([⟨b336, [.int .i64 t328, .int .i64 t329], 2⟩, ⟨N335, [.int .i64 t327, .int .i64 t328, .int .i64 t329, .int .i64 t330, .int .i64 t331, .int .i64 t332, .int .i64 t333], 7⟩, ⟨g325, [.int .i64 a0_1], 1⟩, ⟨g324, [.int .i64 a0_0], 1⟩, ⟨b323, [.int .i64 0, .int .i64 0], 2⟩, ⟨b322, [.int .i64 1, .int .i64 s1_1, .int .i64 s1_2, .int .i64 s1_3, .int .i64 s1_4, .int .i64 s1_5, .int .i64 s1_6], 7⟩, ⟨b321, [.int .i64 a0_0, .int .i64 a0_1], 2⟩] : List Own) := by
      refine hstep [2, 8] _ _ _ (by kernel_rfl) (List.cons_ne_nil _ _) ⟨?_, ?_, trivial⟩
      · show T _ _ _ _ _ _ _ _
        refine t_v (.ld1 rfl rfl rfl (.at 0 rfl rfl)) ?_
        refine t_keep [2, 3, 8, 9, 10, 20, 21, 22, 26, 28, 31, 33] (σ' := [(2, .int .i64 i2), (3, .int .i64 n3), (8, .pointer (some ⟨b323, 0, none⟩)), (9, .slice (some ⟨g324, 0, none⟩) 1 1), (10, .slice (some ⟨g325, 0, none⟩) 1 1), (20, .slice (some ⟨N335, 1, none⟩) 1 3), (21, .int .i64 1), (22, .int .i64 0), (26, .slice (some ⟨g324, 0, none⟩) 1 1), (28, .int .i64 t328), (31, .slice (some ⟨g325, 0, none⟩) 1 1), (33, .int .i64 t329)]) (by kernel_rfl) ?_
        refine t_end ?_
        exact ⟨hg_e7, rfl⟩
      · show T _ _ _ _ _ _ _ _
        refine t_a (.bsl rfl rfl rfl rfl) fun g339 fg339 sg339 => ?_
        refine t_keep [2, 3, 8, 9, 10, 20, 21, 22, 26, 27, 31, 34] (σ' := [(2, .int .i64 i2), (3, .int .i64 n3), (8, .pointer (some ⟨b323, 0, none⟩)), (9, .slice (some ⟨g324, 0, none⟩) 1 1), (10, .slice (some ⟨g325, 0, none⟩) 1 1), (20, .slice (some ⟨N335, 1, none⟩) 1 3), (21, .int .i64 1), (22, .int .i64 0), (26, .slice (some ⟨g324, 0, none⟩) 1 1), (27, .pointer (some ⟨b336, 0, none⟩)), (31, .slice (some ⟨g325, 0, none⟩) 1 1), (34, .slice (some ⟨g339, 0, none⟩) 1 1)]) (by kernel_rfl) ?_
        refine t_end ?_
        exact ⟨hg_1e3 g339, rfl⟩
    have hg_67 : G [true, true, true, false, false, true, true, false, false, false, false, false] [(2, .int .i64 i2), (3, .int .i64 n3), (8, .pointer (some ⟨b323, 0, none⟩)), (9, .slice (some ⟨g324, 0, none⟩) 1 1), (10, .slice (some ⟨g325, 0, none⟩) 1 1), (20, .slice (some ⟨N335, 1, none⟩) 1 3), (21, .int .i64 1), (22, .int .i64 0), (26, .slice (some ⟨g324, 0, none⟩) 1 1), (28, .int .i64 t328), (31, .slice (some ⟨g325, 0, none⟩) 1 1), (32, .pointer (some ⟨b336, 1, none⟩))] ([⟨b336, [.int .i64 t328, .int .i64 t329], 2⟩, ⟨N335, [.int .i64 t327, .int .i64 t328, .int .i64 t329, .int .i64 t330, .int .i64 t331, .int .i64 t332, .int .i64 t333], 7⟩, ⟨g325, [.int .i64 a0_1], 1⟩, ⟨g324, [.int .i64 a0_0], 1⟩, ⟨b323, [.int .i64 0, .int .i64 0], 2⟩, ⟨b322, [.int .i64 1, .int .i64 s1_1, .int .i64 s1_2, .int .i64 s1_3, .int .i64 s1_4, .int .i64 s1_5, .int .i64 s1_6], 7⟩, ⟨b321, [.int .i64 a0_0, .int .i64 a0_1], 2⟩] : List Own) := by
      refine hstep [3, 7] _ _ _ (by kernel_rfl) (List.cons_ne_nil _ _) ⟨?_, ?_, trivial⟩
      · show T _ _ _ _ _ _ _ _
        refine t_a (.bsl rfl rfl rfl rfl) fun g337 fg337 sg337 => ?_
        refine t_keep [2, 3, 8, 9, 10, 20, 21, 22, 26, 29, 31, 32] (σ' := [(2, .int .i64 i2), (3, .int .i64 n3), (8, .pointer (some ⟨b323, 0, none⟩)), (9, .slice (some ⟨g324, 0, none⟩) 1 1), (10, .slice (some ⟨g325, 0, none⟩) 1 1), (20, .slice (some ⟨N335, 1, none⟩) 1 3), (21, .int .i64 1), (22, .int .i64 0), (26, .slice (some ⟨g324, 0, none⟩) 1 1), (29, .slice (some ⟨g337, 0, none⟩) 1 1), (31, .slice (some ⟨g325, 0, none⟩) 1 1), (32, .pointer (some ⟨b336, 1, none⟩))]) (by kernel_rfl) ?_
        refine t_end ?_
        exact ⟨hg_6f g337, rfl⟩
      · show T _ _ _ _ _ _ _ _
        refine t_v (.ld1 rfl rfl rfl (.at 0 rfl rfl)) ?_
        refine t_keep [2, 3, 8, 9, 10, 20, 21, 22, 26, 28, 31, 33] (σ' := [(2, .int .i64 i2), (3, .int .i64 n3), (8, .pointer (some ⟨b323, 0, none⟩)), (9, .slice (some ⟨g324, 0, none⟩) 1 1), (10, .slice (some ⟨g325, 0, none⟩) 1 1), (20, .slice (some ⟨N335, 1, none⟩) 1 3), (21, .int .i64 1), (22, .int .i64 0), (26, .slice (some ⟨g324, 0, none⟩) 1 1), (28, .int .i64 t328), (31, .slice (some ⟨g325, 0, none⟩) 1 1), (33, .int .i64 t329)]) (by kernel_rfl) ?_
        refine t_end ?_
        exact ⟨hg_e7, rfl⟩
    have hg_63 : G [true, true, false, false, false, true, true, false, false, false, false, false] [(2, .int .i64 i2), (3, .int .i64 n3), (8, .pointer (some ⟨b323, 0, none⟩)), (9, .slice (some ⟨g324, 0, none⟩) 1 1), (10, .slice (some ⟨g325, 0, none⟩) 1 1), (20, .slice (some ⟨N335, 1, none⟩) 1 3), (21, .int .i64 1), (22, .int .i64 0), (26, .slice (some ⟨g324, 0, none⟩) 1 1), (27, .pointer (some ⟨b336, 0, none⟩)), (31, .slice (some ⟨g325, 0, none⟩) 1 1), (32, .pointer (some ⟨b336, 1, none⟩))] ([⟨b336, [.int .i64 t328, .int .i64 t329], 2⟩, ⟨N335, [.int .i64 t327, .int .i64 t328, .int .i64 t329, .int .i64 t330, .int .i64 t331, .int .i64 t332, .int .i64 t333], 7⟩, ⟨g325, [.int .i64 a0_1], 1⟩, ⟨g324, [.int .i64 a0_0], 1⟩, ⟨b323, [.int .i64 0, .int .i64 0], 2⟩, ⟨b322, [.int .i64 1, .int .i64 s1_1, .int .i64 s1_2, .int .i64 s1_3, .int .i64 s1_4, .int .i64 s1_5, .int .i64 s1_6], 7⟩, ⟨b321, [.int .i64 a0_0, .int .i64 a0_1], 2⟩] : List Own) := by
      refine hstep [2, 7] _ _ _ (by kernel_rfl) (List.cons_ne_nil _ _) ⟨?_, ?_, trivial⟩
      · show T _ _ _ _ _ _ _ _
        refine t_v (.ld1 rfl rfl rfl (.at 0 rfl rfl)) ?_
        refine t_keep [2, 3, 8, 9, 10, 20, 21, 22, 26, 28, 31, 32] (σ' := [(2, .int .i64 i2), (3, .int .i64 n3), (8, .pointer (some ⟨b323, 0, none⟩)), (9, .slice (some ⟨g324, 0, none⟩) 1 1), (10, .slice (some ⟨g325, 0, none⟩) 1 1), (20, .slice (some ⟨N335, 1, none⟩) 1 3), (21, .int .i64 1), (22, .int .i64 0), (26, .slice (some ⟨g324, 0, none⟩) 1 1), (28, .int .i64 t328), (31, .slice (some ⟨g325, 0, none⟩) 1 1), (32, .pointer (some ⟨b336, 1, none⟩))]) (by kernel_rfl) ?_
        refine t_end ?_
        exact ⟨hg_67, rfl⟩
      · show T _ _ _ _ _ _ _ _
        refine t_v (.ld1 rfl rfl rfl (.at 0 rfl rfl)) ?_
        refine t_keep [2, 3, 8, 9, 10, 20, 21, 22, 26, 27, 31, 33] (σ' := [(2, .int .i64 i2), (3, .int .i64 n3), (8, .pointer (some ⟨b323, 0, none⟩)), (9, .slice (some ⟨g324, 0, none⟩) 1 1), (10, .slice (some ⟨g325, 0, none⟩) 1 1), (20, .slice (some ⟨N335, 1, none⟩) 1 3), (21, .int .i64 1), (22, .int .i64 0), (26, .slice (some ⟨g324, 0, none⟩) 1 1), (27, .pointer (some ⟨b336, 0, none⟩)), (31, .slice (some ⟨g325, 0, none⟩) 1 1), (33, .int .i64 t329)]) (by kernel_rfl) ?_
        refine t_end ?_
        exact ⟨hg_e3, rfl⟩
    have hg_23 : G [true, true, false, false, false, true, false, false, false, false, false, false] [(2, .int .i64 i2), (3, .int .i64 n3), (8, .pointer (some ⟨b323, 0, none⟩)), (9, .slice (some ⟨g324, 0, none⟩) 1 1), (10, .slice (some ⟨g325, 0, none⟩) 1 1), (12, .pointer (some ⟨b336, 0, none⟩)), (20, .slice (some ⟨N335, 1, none⟩) 1 3), (21, .int .i64 1), (22, .int .i64 0), (26, .slice (some ⟨g324, 0, none⟩) 1 1), (27, .pointer (some ⟨b336, 0, none⟩)), (31, .slice (some ⟨g325, 0, none⟩) 1 1)] ([⟨b336, [.int .i64 t328, .int .i64 t329], 2⟩, ⟨N335, [.int .i64 t327, .int .i64 t328, .int .i64 t329, .int .i64 t330, .int .i64 t331, .int .i64 t332, .int .i64 t333], 7⟩, ⟨g325, [.int .i64 a0_1], 1⟩, ⟨g324, [.int .i64 a0_0], 1⟩, ⟨b323, [.int .i64 0, .int .i64 0], 2⟩, ⟨b322, [.int .i64 1, .int .i64 s1_1, .int .i64 s1_2, .int .i64 s1_3, .int .i64 s1_4, .int .i64 s1_5, .int .i64 s1_6], 7⟩, ⟨b321, [.int .i64 a0_0, .int .i64 a0_1], 2⟩] : List Own) := by
      exact hqf 6 [2, 3, 8, 9, 10, 20, 21, 22, 26, 27, 31, 32] _ _ _ [(2, .int .i64 i2), (3, .int .i64 n3), (8, .pointer (some ⟨b323, 0, none⟩)), (9, .slice (some ⟨g324, 0, none⟩) 1 1), (10, .slice (some ⟨g325, 0, none⟩) 1 1), (20, .slice (some ⟨N335, 1, none⟩) 1 3), (21, .int .i64 1), (22, .int .i64 0), (26, .slice (some ⟨g324, 0, none⟩) 1 1), (27, .pointer (some ⟨b336, 0, none⟩)), (31, .slice (some ⟨g325, 0, none⟩) 1 1), (32, .pointer (some ⟨b336, 1, none⟩))] (by kernel_rfl) (by kernel_rfl) hg_63
    have hg_3 : G [true, true, false, false, false, false, false, false, false, false, false, false] [(2, .int .i64 i2), (3, .int .i64 n3), (8, .pointer (some ⟨b323, 0, none⟩)), (9, .slice (some ⟨g324, 0, none⟩) 1 1), (10, .slice (some ⟨g325, 0, none⟩) 1 1), (12, .pointer (some ⟨b336, 0, none⟩)), (20, .slice (some ⟨N335, 1, none⟩) 1 3), (21, .int .i64 1), (22, .int .i64 0), (26, .slice (some ⟨g324, 0, none⟩) 1 1), (27, .pointer (some ⟨b336, 0, none⟩))] ([⟨b336, [.int .i64 t328, .int .i64 t329], 2⟩, ⟨N335, [.int .i64 t327, .int .i64 t328, .int .i64 t329, .int .i64 t330, .int .i64 t331, .int .i64 t332, .int .i64 t333], 7⟩, ⟨g325, [.int .i64 a0_1], 1⟩, ⟨g324, [.int .i64 a0_0], 1⟩, ⟨b323, [.int .i64 0, .int .i64 0], 2⟩, ⟨b322, [.int .i64 1, .int .i64 s1_1, .int .i64 s1_2, .int .i64 s1_3, .int .i64 s1_4, .int .i64 s1_5, .int .i64 s1_6], 7⟩, ⟨b321, [.int .i64 a0_0, .int .i64 a0_1], 2⟩] : List Own) := by
      exact hqf 5 [2, 3, 8, 9, 10, 12, 20, 21, 22, 26, 27, 31] _ _ _ [(2, .int .i64 i2), (3, .int .i64 n3), (8, .pointer (some ⟨b323, 0, none⟩)), (9, .slice (some ⟨g324, 0, none⟩) 1 1), (10, .slice (some ⟨g325, 0, none⟩) 1 1), (12, .pointer (some ⟨b336, 0, none⟩)), (20, .slice (some ⟨N335, 1, none⟩) 1 3), (21, .int .i64 1), (22, .int .i64 0), (26, .slice (some ⟨g324, 0, none⟩) 1 1), (27, .pointer (some ⟨b336, 0, none⟩)), (31, .slice (some ⟨g325, 0, none⟩) 1 1)] (by kernel_rfl) (by kernel_rfl) hg_23
    have hg_1 : G [true, false, false, false, false, false, false, false, false, false, false, false] [(2, .int .i64 i2), (3, .int .i64 n3), (8, .pointer (some ⟨b323, 0, none⟩)), (9, .slice (some ⟨g324, 0, none⟩) 1 1), (10, .slice (some ⟨g325, 0, none⟩) 1 1), (12, .pointer (some ⟨b336, 0, none⟩)), (20, .slice (some ⟨N335, 1, none⟩) 1 3), (21, .int .i64 1), (22, .int .i64 0), (26, .slice (some ⟨g324, 0, none⟩) 1 1)] ([⟨b336, [.int .i64 t328, .int .i64 t329], 2⟩, ⟨N335, [.int .i64 t327, .int .i64 t328, .int .i64 t329, .int .i64 t330, .int .i64 t331, .int .i64 t332, .int .i64 t333], 7⟩, ⟨g325, [.int .i64 a0_1], 1⟩, ⟨g324, [.int .i64 a0_0], 1⟩, ⟨b323, [.int .i64 0, .int .i64 0], 2⟩, ⟨b322, [.int .i64 1, .int .i64 s1_1, .int .i64 s1_2, .int .i64 s1_3, .int .i64 s1_4, .int .i64 s1_5, .int .i64 s1_6], 7⟩, ⟨b321, [.int .i64 a0_0, .int .i64 a0_1], 2⟩] : List Own) := by
      exact hqf 1 [2, 3, 8, 9, 10, 12, 20, 21, 22, 26, 27] _ _ _ [(2, .int .i64 i2), (3, .int .i64 n3), (8, .pointer (some ⟨b323, 0, none⟩)), (9, .slice (some ⟨g324, 0, none⟩) 1 1), (10, .slice (some ⟨g325, 0, none⟩) 1 1), (12, .pointer (some ⟨b336, 0, none⟩)), (20, .slice (some ⟨N335, 1, none⟩) 1 3), (21, .int .i64 1), (22, .int .i64 0), (26, .slice (some ⟨g324, 0, none⟩) 1 1), (27, .pointer (some ⟨b336, 0, none⟩))] (by kernel_rfl) (by kernel_rfl) hg_3
    have hg_0 : G [false, false, false, false, false, false, false, false, false, false, false, false] [(2, .int .i64 i2), (3, .int .i64 n3), (8, .pointer (some ⟨b323, 0, none⟩)), (9, .slice (some ⟨g324, 0, none⟩) 1 1), (10, .slice (some ⟨g325, 0, none⟩) 1 1), (12, .pointer (some ⟨b336, 0, none⟩)), (20, .slice (some ⟨N335, 1, none⟩) 1 3), (21, .int .i64 1), (22, .int .i64 0)] ([⟨b336, [.int .i64 t328, .int .i64 t329], 2⟩, ⟨N335, [.int .i64 t327, .int .i64 t328, .int .i64 t329, .int .i64 t330, .int .i64 t331, .int .i64 t332, .int .i64 t333], 7⟩, ⟨g325, [.int .i64 a0_1], 1⟩, ⟨g324, [.int .i64 a0_0], 1⟩, ⟨b323, [.int .i64 0, .int .i64 0], 2⟩, ⟨b322, [.int .i64 1, .int .i64 s1_1, .int .i64 s1_2, .int .i64 s1_3, .int .i64 s1_4, .int .i64 s1_5, .int .i64 s1_6], 7⟩, ⟨b321, [.int .i64 a0_0, .int .i64 a0_1], 2⟩] : List Own) := by
      exact hqf 0 [2, 3, 8, 9, 10, 12, 20, 21, 22, 26] _ _ _ [(2, .int .i64 i2), (3, .int .i64 n3), (8, .pointer (some ⟨b323, 0, none⟩)), (9, .slice (some ⟨g324, 0, none⟩) 1 1), (10, .slice (some ⟨g325, 0, none⟩) 1 1), (12, .pointer (some ⟨b336, 0, none⟩)), (20, .slice (some ⟨N335, 1, none⟩) 1 3), (21, .int .i64 1), (22, .int .i64 0), (26, .slice (some ⟨g324, 0, none⟩) 1 1)] (by kernel_rfl) (by kernel_rfl) hg_1
    exact hg_0
  have hg_7f : ∀ (g325 : Nat) (g324 : Nat), G [true, true, true, true, true, true, true, false] [(2, .int .i64 i2), (3, .int .i64 n3), (5, .pointer (some ⟨b322, 0, none⟩)), (8, .pointer (some ⟨b323, 0, none⟩)), (9, .slice (some ⟨g324, 0, none⟩) 1 1), (18, .slice (some ⟨g325, 0, none⟩) 1 1)] ([⟨g325, [.int .i64 a0_1], 1⟩, ⟨g324, [.int .i64 a0_0], 1⟩, ⟨b323, [.int .i64 0, .int .i64 0], 2⟩, ⟨b322, [.int .i64 1, .int .i64 s1_1, .int .i64 s1_2, .int .i64 s1_3, .int .i64 s1_4, .int .i64 s1_5, .int .i64 s1_6], 7⟩, ⟨b321, [.int .i64 a0_0, .int .i64 a0_1], 2⟩] : List Own) := by
    intro g325 g324
    exact hqf 7 [2, 3, 5, 8, 9, 10] _ _ _ [(2, .int .i64 i2), (3, .int .i64 n3), (5, .pointer (some ⟨b322, 0, none⟩)), (8, .pointer (some ⟨b323, 0, none⟩)), (9, .slice (some ⟨g324, 0, none⟩) 1 1), (10, .slice (some ⟨g325, 0, none⟩) 1 1)] (by kernel_rfl) (by kernel_rfl) (hg_ff g325 g324)
  have hg_3f : ∀ (g325 : Nat) (g324 : Nat), G [true, true, true, true, true, true, false, false] [(2, .int .i64 i2), (3, .int .i64 n3), (5, .pointer (some ⟨b322, 0, none⟩)), (8, .pointer (some ⟨b323, 0, none⟩)), (15, .slice (some ⟨g324, 0, none⟩) 1 1), (18, .slice (some ⟨g325, 0, none⟩) 1 1)] ([⟨g325, [.int .i64 a0_1], 1⟩, ⟨g324, [.int .i64 a0_0], 1⟩, ⟨b323, [.int .i64 0, .int .i64 0], 2⟩, ⟨b322, [.int .i64 1, .int .i64 s1_1, .int .i64 s1_2, .int .i64 s1_3, .int .i64 s1_4, .int .i64 s1_5, .int .i64 s1_6], 7⟩, ⟨b321, [.int .i64 a0_0, .int .i64 a0_1], 2⟩] : List Own) := by
    intro g325 g324
    exact hqf 6 [2, 3, 5, 8, 9, 18] _ _ _ [(2, .int .i64 i2), (3, .int .i64 n3), (5, .pointer (some ⟨b322, 0, none⟩)), (8, .pointer (some ⟨b323, 0, none⟩)), (9, .slice (some ⟨g324, 0, none⟩) 1 1), (18, .slice (some ⟨g325, 0, none⟩) 1 1)] (by kernel_rfl) (by kernel_rfl) (hg_7f g325 g324)
  have hg_5f : ∀ (g324 : Nat), G [true, true, true, true, true, false, true, false] [(2, .int .i64 i2), (3, .int .i64 n3), (5, .pointer (some ⟨b322, 0, none⟩)), (8, .pointer (some ⟨b323, 0, none⟩)), (9, .slice (some ⟨g324, 0, none⟩) 1 1), (17, .int .i64 a0_1)] ([⟨g324, [.int .i64 a0_0], 1⟩, ⟨b323, [.int .i64 0, .int .i64 0], 2⟩, ⟨b322, [.int .i64 1, .int .i64 s1_1, .int .i64 s1_2, .int .i64 s1_3, .int .i64 s1_4, .int .i64 s1_5, .int .i64 s1_6], 7⟩, ⟨b321, [.int .i64 a0_0, .int .i64 a0_1], 2⟩] : List Own) := by
    intro g324
    refine hstep [5] _ _ _ (by kernel_rfl) (List.cons_ne_nil _ _) ⟨?_, trivial⟩
    · show T _ _ _ _ _ _ _ _
      refine t_a (.bsl rfl rfl rfl rfl) fun g325 fg325 sg325 => ?_
      refine t_keep [2, 3, 5, 8, 9, 18] (σ' := [(2, .int .i64 i2), (3, .int .i64 n3), (5, .pointer (some ⟨b322, 0, none⟩)), (8, .pointer (some ⟨b323, 0, none⟩)), (9, .slice (some ⟨g324, 0, none⟩) 1 1), (18, .slice (some ⟨g325, 0, none⟩) 1 1)]) (by kernel_rfl) ?_
      refine t_end ?_
      exact ⟨hg_7f g325 g324, rfl⟩
  have hg_3b : ∀ (g325 : Nat), G [true, true, false, true, true, true, false, false] [(2, .int .i64 i2), (3, .int .i64 n3), (5, .pointer (some ⟨b322, 0, none⟩)), (8, .pointer (some ⟨b323, 0, none⟩)), (14, .int .i64 a0_0), (18, .slice (some ⟨g325, 0, none⟩) 1 1)] ([⟨g325, [.int .i64 a0_1], 1⟩, ⟨b323, [.int .i64 0, .int .i64 0], 2⟩, ⟨b322, [.int .i64 1, .int .i64 s1_1, .int .i64 s1_2, .int .i64 s1_3, .int .i64 s1_4, .int .i64 s1_5, .int .i64 s1_6], 7⟩, ⟨b321, [.int .i64 a0_0, .int .i64 a0_1], 2⟩] : List Own) := by
    intro g325
    refine hstep [2] _ _ _ (by kernel_rfl) (List.cons_ne_nil _ _) ⟨?_, trivial⟩
    · show T _ _ _ _ _ _ _ _
      refine t_a (.bsl rfl rfl rfl rfl) fun g324 fg324 sg324 => ?_
      refine t_keep [2, 3, 5, 8, 15, 18] (σ' := [(2, .int .i64 i2), (3, .int .i64 n3), (5, .pointer (some ⟨b322, 0, none⟩)), (8, .pointer (some ⟨b323, 0, none⟩)), (15, .slice (some ⟨g324, 0, none⟩) 1 1), (18, .slice (some ⟨g325, 0, none⟩) 1 1)]) (by kernel_rfl) ?_
      refine t_vs (H' := ([⟨g325, [.int .i64 a0_1], 1⟩, ⟨g324, [.int .i64 a0_0], 1⟩, ⟨b323, [.int .i64 0, .int .i64 0], 2⟩, ⟨b322, [.int .i64 1, .int .i64 s1_1, .int .i64 s1_2, .int .i64 s1_3, .int .i64 s1_4, .int .i64 s1_5, .int .i64 s1_6], 7⟩, ⟨b321, [.int .i64 a0_0, .int .i64 a0_1], 2⟩] : List Own)) (S' := S) (VS.sel [1, 0, 0, 0, 0] (by kernel_rfl)) ?_
      refine t_end ?_
      exact ⟨hg_3f g325 g324, rfl⟩
  have hg_1f : ∀ (g324 : Nat), G [true, true, true, true, true, false, false, false] [(2, .int .i64 i2), (3, .int .i64 n3), (5, .pointer (some ⟨b322, 0, none⟩)), (8, .pointer (some ⟨b323, 0, none⟩)), (15, .slice (some ⟨g324, 0, none⟩) 1 1), (17, .int .i64 a0_1)] ([⟨g324, [.int .i64 a0_0], 1⟩, ⟨b323, [.int .i64 0, .int .i64 0], 2⟩, ⟨b322, [.int .i64 1, .int .i64 s1_1, .int .i64 s1_2, .int .i64 s1_3, .int .i64 s1_4, .int .i64 s1_5, .int .i64 s1_6], 7⟩, ⟨b321, [.int .i64 a0_0, .int .i64 a0_1], 2⟩] : List Own) := by
    intro g324
    exact hqf 6 [2, 3, 5, 8, 9, 17] _ _ _ [(2, .int .i64 i2), (3, .int .i64 n3), (5, .pointer (some ⟨b322, 0, none⟩)), (8, .pointer (some ⟨b323, 0, none⟩)), (9, .slice (some ⟨g324, 0, none⟩) 1 1), (17, .int .i64 a0_1)] (by kernel_rfl) (by kernel_rfl) (hg_5f g324)
  have hg_4f : ∀ (g324 : Nat), G [true, true, true, true, false, false, true, false] [(2, .int .i64 i2), (3, .int .i64 n3), (5, .pointer (some ⟨b322, 0, none⟩)), (8, .pointer (some ⟨b323, 0, none⟩)), (9, .slice (some ⟨g324, 0, none⟩) 1 1), (16, .pointer (some ⟨b321, 1, none⟩))] ([⟨g324, [.int .i64 a0_0], 1⟩, ⟨b323, [.int .i64 0, .int .i64 0], 2⟩, ⟨b322, [.int .i64 1, .int .i64 s1_1, .int .i64 s1_2, .int .i64 s1_3, .int .i64 s1_4, .int .i64 s1_5, .int .i64 s1_6], 7⟩, ⟨b321, [.int .i64 a0_0, .int .i64 a0_1], 2⟩] : List Own) := by
    intro g324
    refine hstep [4] _ _ _ (by kernel_rfl) (List.cons_ne_nil _ _) ⟨?_, trivial⟩
    · show T _ _ _ _ _ _ _ _
      refine t_v (.ld1 rfl rfl rfl (.at 3 rfl rfl)) ?_
      refine t_keep [2, 3, 5, 8, 9, 17] (σ' := [(2, .int .i64 i2), (3, .int .i64 n3), (5, .pointer (some ⟨b322, 0, none⟩)), (8, .pointer (some ⟨b323, 0, none⟩)), (9, .slice (some ⟨g324, 0, none⟩) 1 1), (17, .int .i64 a0_1)]) (by kernel_rfl) ?_
      refine t_end ?_
      exact ⟨hg_5f g324, rfl⟩
  have hg_f : ∀ (g324 : Nat), G [true, true, true, true, false, false, false, false] [(2, .int .i64 i2), (3, .int .i64 n3), (5, .pointer (some ⟨b322, 0, none⟩)), (8, .pointer (some ⟨b323, 0, none⟩)), (15, .slice (some ⟨g324, 0, none⟩) 1 1), (16, .pointer (some ⟨b321, 1, none⟩))] ([⟨g324, [.int .i64 a0_0], 1⟩, ⟨b323, [.int .i64 0, .int .i64 0], 2⟩, ⟨b322, [.int .i64 1, .int .i64 s1_1, .int .i64 s1_2, .int .i64 s1_3, .int .i64 s1_4, .int .i64 s1_5, .int .i64 s1_6], 7⟩, ⟨b321, [.int .i64 a0_0, .int .i64 a0_1], 2⟩] : List Own) := by
    intro g324
    exact hqf 6 [2, 3, 5, 8, 9, 16] _ _ _ [(2, .int .i64 i2), (3, .int .i64 n3), (5, .pointer (some ⟨b322, 0, none⟩)), (8, .pointer (some ⟨b323, 0, none⟩)), (9, .slice (some ⟨g324, 0, none⟩) 1 1), (16, .pointer (some ⟨b321, 1, none⟩))] (by kernel_rfl) (by kernel_rfl) (hg_4f g324)
  have hg_1b : G [true, true, false, true, true, false, false, false] [(2, .int .i64 i2), (3, .int .i64 n3), (5, .pointer (some ⟨b322, 0, none⟩)), (8, .pointer (some ⟨b323, 0, none⟩)), (14, .int .i64 a0_0), (17, .int .i64 a0_1)] ([⟨b323, [.int .i64 0, .int .i64 0], 2⟩, ⟨b322, [.int .i64 1, .int .i64 s1_1, .int .i64 s1_2, .int .i64 s1_3, .int .i64 s1_4, .int .i64 s1_5, .int .i64 s1_6], 7⟩, ⟨b321, [.int .i64 a0_0, .int .i64 a0_1], 2⟩] : List Own) := by
    refine hstep [2, 5] _ _ _ (by kernel_rfl) (List.cons_ne_nil _ _) ⟨?_, ?_, trivial⟩
    · show T _ _ _ _ _ _ _ _
      refine t_a (.bsl rfl rfl rfl rfl) fun g324 fg324 sg324 => ?_
      refine t_keep [2, 3, 5, 8, 15, 17] (σ' := [(2, .int .i64 i2), (3, .int .i64 n3), (5, .pointer (some ⟨b322, 0, none⟩)), (8, .pointer (some ⟨b323, 0, none⟩)), (15, .slice (some ⟨g324, 0, none⟩) 1 1), (17, .int .i64 a0_1)]) (by kernel_rfl) ?_
      refine t_end ?_
      exact ⟨hg_1f g324, rfl⟩
    · show T _ _ _ _ _ _ _ _
      refine t_a (.bsl rfl rfl rfl rfl) fun g325 fg325 sg325 => ?_
      refine t_keep [2, 3, 5, 8, 14, 18] (σ' := [(2, .int .i64 i2), (3, .int .i64 n3), (5, .pointer (some ⟨b322, 0, none⟩)), (8, .pointer (some ⟨b323, 0, none⟩)), (14, .int .i64 a0_0), (18, .slice (some ⟨g325, 0, none⟩) 1 1)]) (by kernel_rfl) ?_
      refine t_end ?_
      exact ⟨hg_3b g325, rfl⟩
  have hg_39 : ∀ (g325 : Nat), G [true, false, false, true, true, true, false, false] [(2, .int .i64 i2), (3, .int .i64 n3), (5, .pointer (some ⟨b322, 0, none⟩)), (8, .pointer (some ⟨b323, 0, none⟩)), (13, .pointer (some ⟨b321, 0, none⟩)), (18, .slice (some ⟨g325, 0, none⟩) 1 1)] ([⟨g325, [.int .i64 a0_1], 1⟩, ⟨b323, [.int .i64 0, .int .i64 0], 2⟩, ⟨b322, [.int .i64 1, .int .i64 s1_1, .int .i64 s1_2, .int .i64 s1_3, .int .i64 s1_4, .int .i64 s1_5, .int .i64 s1_6], 7⟩, ⟨b321, [.int .i64 a0_0, .int .i64 a0_1], 2⟩] : List Own) := by
    intro g325
    refine hstep [1] _ _ _ (by kernel_rfl) (List.cons_ne_nil _ _) ⟨?_, trivial⟩
    · show T _ _ _ _ _ _ _ _
      refine t_v (.ld1 rfl rfl rfl (.at 3 rfl rfl)) ?_
      refine t_keep [2, 3, 5, 8, 14, 18] (σ' := [(2, .int .i64 i2), (3, .int .i64 n3), (5, .pointer (some ⟨b322, 0, none⟩)), (8, .pointer (some ⟨b323, 0, none⟩)), (14, .int .i64 a0_0), (18, .slice (some ⟨g325, 0, none⟩) 1 1)]) (by kernel_rfl) ?_
      refine t_end ?_
      exact ⟨hg_3b g325, rfl⟩
  have hg_b : G [true, true, false, true, false, false, false, false] [(2, .int .i64 i2), (3, .int .i64 n3), (5, .pointer (some ⟨b322, 0, none⟩)), (8, .pointer (some ⟨b323, 0, none⟩)), (14, .int .i64 a0_0), (16, .pointer (some ⟨b321, 1, none⟩))] ([⟨b323, [.int .i64 0, .int .i64 0], 2⟩, ⟨b322, [.int .i64 1, .int .i64 s1_1, .int .i64 s1_2, .int .i64 s1_3, .int .i64 s1_4, .int .i64 s1_5, .int .i64 s1_6], 7⟩, ⟨b321, [.int .i64 a0_0, .int .i64 a0_1], 2⟩] : List Own) := by
    refine hstep [2, 4] _ _ _ (by kernel_rfl) (List.cons_ne_nil _ _) ⟨?_, ?_, trivial⟩
    · show T _ _ _ _ _ _ _ _
      refine t_a (.bsl rfl rfl rfl rfl) fun g324 fg324 sg324 => ?_
      refine t_keep [2, 3, 5, 8, 15, 16] (σ' := [(2, .int .i64 i2), (3, .int .i64 n3), (5, .pointer (some ⟨b322, 0, none⟩)), (8, .pointer (some ⟨b323, 0, none⟩)), (15, .slice (some ⟨g324, 0, none⟩) 1 1), (16, .pointer (some ⟨b321, 1, none⟩))]) (by kernel_rfl) ?_
      refine t_end ?_
      exact ⟨hg_f g324, rfl⟩
    · show T _ _ _ _ _ _ _ _
      refine t_v (.ld1 rfl rfl rfl (.at 2 rfl rfl)) ?_
      refine t_keep [2, 3, 5, 8, 14, 17] (σ' := [(2, .int .i64 i2), (3, .int .i64 n3), (5, .pointer (some ⟨b322, 0, none⟩)), (8, .pointer (some ⟨b323, 0, none⟩)), (14, .int .i64 a0_0), (17, .int .i64 a0_1)]) (by kernel_rfl) ?_
      refine t_end ?_
      exact ⟨hg_1b, rfl⟩
  have hg_19 : G [true, false, false, true, true, false, false, false] [(2, .int .i64 i2), (3, .int .i64 n3), (5, .pointer (some ⟨b322, 0, none⟩)), (8, .pointer (some ⟨b323, 0, none⟩)), (13, .pointer (some ⟨b321, 0, none⟩)), (17, .int .i64 a0_1)] ([⟨b323, [.int .i64 0, .int .i64 0], 2⟩, ⟨b322, [.int .i64 1, .int .i64 s1_1, .int .i64 s1_2, .int .i64 s1_3, .int .i64 s1_4, .int .i64 s1_5, .int .i64 s1_6], 7⟩, ⟨b321, [.int .i64 a0_0, .int .i64 a0_1], 2⟩] : List Own) := by
    refine hstep [1, 5] _ _ _ (by kernel_rfl) (List.cons_ne_nil _ _) ⟨?_, ?_, trivial⟩
    · show T _ _ _ _ _ _ _ _
      refine t_v (.ld1 rfl rfl rfl (.at 2 rfl rfl)) ?_
      refine t_keep [2, 3, 5, 8, 14, 17] (σ' := [(2, .int .i64 i2), (3, .int .i64 n3), (5, .pointer (some ⟨b322, 0, none⟩)), (8, .pointer (some ⟨b323, 0, none⟩)), (14, .int .i64 a0_0), (17, .int .i64 a0_1)]) (by kernel_rfl) ?_
      refine t_end ?_
      exact ⟨hg_1b, rfl⟩
    · show T _ _ _ _ _ _ _ _
      refine t_a (.bsl rfl rfl rfl rfl) fun g325 fg325 sg325 => ?_
      refine t_keep [2, 3, 5, 8, 13, 18] (σ' := [(2, .int .i64 i2), (3, .int .i64 n3), (5, .pointer (some ⟨b322, 0, none⟩)), (8, .pointer (some ⟨b323, 0, none⟩)), (13, .pointer (some ⟨b321, 0, none⟩)), (18, .slice (some ⟨g325, 0, none⟩) 1 1)]) (by kernel_rfl) ?_
      refine t_end ?_
      exact ⟨hg_39 g325, rfl⟩
  have hg_9 : G [true, false, false, true, false, false, false, false] [(2, .int .i64 i2), (3, .int .i64 n3), (5, .pointer (some ⟨b322, 0, none⟩)), (8, .pointer (some ⟨b323, 0, none⟩)), (13, .pointer (some ⟨b321, 0, none⟩)), (16, .pointer (some ⟨b321, 1, none⟩))] ([⟨b323, [.int .i64 0, .int .i64 0], 2⟩, ⟨b322, [.int .i64 1, .int .i64 s1_1, .int .i64 s1_2, .int .i64 s1_3, .int .i64 s1_4, .int .i64 s1_5, .int .i64 s1_6], 7⟩, ⟨b321, [.int .i64 a0_0, .int .i64 a0_1], 2⟩] : List Own) := by
    refine hstep [1, 4] _ _ _ (by kernel_rfl) (List.cons_ne_nil _ _) ⟨?_, ?_, trivial⟩
    · show T _ _ _ _ _ _ _ _
      refine t_v (.ld1 rfl rfl rfl (.at 2 rfl rfl)) ?_
      refine t_keep [2, 3, 5, 8, 14, 16] (σ' := [(2, .int .i64 i2), (3, .int .i64 n3), (5, .pointer (some ⟨b322, 0, none⟩)), (8, .pointer (some ⟨b323, 0, none⟩)), (14, .int .i64 a0_0), (16, .pointer (some ⟨b321, 1, none⟩))]) (by kernel_rfl) ?_
      refine t_end ?_
      exact ⟨hg_b, rfl⟩
    · show T _ _ _ _ _ _ _ _
      refine t_v (.ld1 rfl rfl rfl (.at 2 rfl rfl)) ?_
      refine t_keep [2, 3, 5, 8, 13, 17] (σ' := [(2, .int .i64 i2), (3, .int .i64 n3), (5, .pointer (some ⟨b322, 0, none⟩)), (8, .pointer (some ⟨b323, 0, none⟩)), (13, .pointer (some ⟨b321, 0, none⟩)), (17, .int .i64 a0_1)]) (by kernel_rfl) ?_
      refine t_end ?_
      exact ⟨hg_19, rfl⟩
  have hg_1 : G [true, false, false, false, false, false, false, false] [(2, .int .i64 i2), (3, .int .i64 n3), (4, .pointer (some ⟨b321, 0, none⟩)), (5, .pointer (some ⟨b322, 0, none⟩)), (8, .pointer (some ⟨b323, 0, none⟩)), (13, .pointer (some ⟨b321, 0, none⟩))] ([⟨b323, [.int .i64 0, .int .i64 0], 2⟩, ⟨b322, [.int .i64 1, .int .i64 s1_1, .int .i64 s1_2, .int .i64 s1_3, .int .i64 s1_4, .int .i64 s1_5, .int .i64 s1_6], 7⟩, ⟨b321, [.int .i64 a0_0, .int .i64 a0_1], 2⟩] : List Own) := by
    exact hqf 3 [2, 3, 5, 8, 13, 16] _ _ _ [(2, .int .i64 i2), (3, .int .i64 n3), (5, .pointer (some ⟨b322, 0, none⟩)), (8, .pointer (some ⟨b323, 0, none⟩)), (13, .pointer (some ⟨b321, 0, none⟩)), (16, .pointer (some ⟨b321, 1, none⟩))] (by kernel_rfl) (by kernel_rfl) hg_9
  have hg_0 : G [false, false, false, false, false, false, false, false] [(2, .int .i64 i2), (3, .int .i64 n3), (4, .pointer (some ⟨b321, 0, none⟩)), (5, .pointer (some ⟨b322, 0, none⟩)), (8, .pointer (some ⟨b323, 0, none⟩))] ([⟨b323, [.int .i64 0, .int .i64 0], 2⟩, ⟨b322, [.int .i64 1, .int .i64 s1_1, .int .i64 s1_2, .int .i64 s1_3, .int .i64 s1_4, .int .i64 s1_5, .int .i64 s1_6], 7⟩, ⟨b321, [.int .i64 a0_0, .int .i64 a0_1], 2⟩] : List Own) := by
    exact hqf 0 [2, 3, 4, 5, 8, 13] _ _ _ [(2, .int .i64 i2), (3, .int .i64 n3), (4, .pointer (some ⟨b321, 0, none⟩)), (5, .pointer (some ⟨b322, 0, none⟩)), (8, .pointer (some ⟨b323, 0, none⟩)), (13, .pointer (some ⟨b321, 0, none⟩))] (by kernel_rfl) (by kernel_rfl) hg_1
  exact hg_0

/-- glyphicref1.Down -/
def c109 : C :=
  (.seq (.reg [⟨(some 4), .mv (.const (.int .i64 0)), none⟩])
  (.seq (.seq (.reg [⟨(some 6), .mv (.tmp 1), none⟩,
      ⟨(some 7), .bin .lss (.tmp 6) (.const (.int .i64 1)), none⟩])
   (.cond (.tmp 7)
    (.seq (.reg [⟨(some 4), .mv (.const (.int .i64 0)), none⟩])
     .ret)
    .skip))
  (.seq (.reg [⟨(some 8), .mv (.tmp 0), none⟩,
     ⟨(some 9), .mv (.tmp 1), none⟩,
     ⟨(some 10), .bin .quo (.tmp 8) (.tmp 9), none⟩,
     ⟨(some 5), .mv (.tmp 10), none⟩])
  (.seq (.seq (.reg [⟨(some 11), .mv (.tmp 0), none⟩,
      ⟨(some 12), .mv (.tmp 1), none⟩,
      ⟨(some 13), .bin .rem (.tmp 11) (.tmp 12), none⟩,
      ⟨(some 14), .bin .lss (.tmp 13) (.const (.int .i64 0)), none⟩])
   (.cond (.tmp 14)
    (.reg [⟨(some 15), .mv (.tmp 5), none⟩,
       ⟨(some 16), .bin .sub (.tmp 15) (.const (.int .i64 1)), none⟩,
       ⟨(some 5), .mv (.tmp 16), none⟩])
    .skip))
  (.seq (.reg [⟨(some 17), .mv (.tmp 5), none⟩,
     ⟨(some 4), .mv (.tmp 17), none⟩])
  .ret)))))
def glyphicref1_Down.f (a0 : Int) (b1 : Int) : Option (Int) := if b1 < 1 then (some 0) else (if b1 = 0 then none else (if (Int.tmod a0 b1) < 0 then (some (wr64 ((wr64 (Int.tdiv a0 b1)) - 1))) else (some (wr64 (Int.tdiv a0 b1)))))
theorem glyphicref1_Down.ok {S : Seal} {a0 : Int} {b1 : Int} {r0_ : Int}(e : glyphicref1_Down.f a0 b1 = some r0_) :
    Cal Try.prog 109 [.int .i64 a0, .int .i64 b1] [] S fun v H' S' => v = .int .i64 r0_ ∧ H' = [] ∧ S' = S := by
  unfold glyphicref1_Down.f at e
  refine cal_of (c := c109) (N := 18) Try.func109 rfl rfl (by kernel_rfl) (rs := [.t 4]) (by kernel_rfl) (Nat.le_of_ble_eq_true rfl) ?_
  unfold c109
  refine w_seq ?_
  refine w_reg fun all => ?_
  refine t_qz 1 [0, 1] (σ' := [(0, .int .i64 a0), (1, .int .i64 b1)]) (by kernel_rfl) ?_
  refine t_end ?_
  show W _ _ _ _ _ _ _
  refine w_seq ?_
  refine w_seq ?_
  refine w_reg fun all => ?_
  by_cases c355 : b1 < 1
  · rw [if_pos c355] at e
    have c355b : (decide (b1 < 1)) = true := decide_eq_true c355
    refine t_qz 1 [0, 1, 6] (σ' := [(0, .int .i64 a0), (1, .int .i64 b1), (6, .int .i64 b1)]) (by kernel_rfl) ?_
    refine t_v (dv_quiet rfl (congrArg (fun t => some (Value.bool t)) c355b)) ?_
    refine t_keep [0, 1, 7] (σ' := [(0, .int .i64 a0), (1, .int .i64 b1), (7, .bool true)]) (by kernel_rfl) ?_
    refine t_end ?_
    show W _ _ _ _ _ _ _
    refine w_cond rfl (fun _ => ?_) (fun c_ => by cases c_)
    show W _ _ _ _ _ _ _
    refine w_seq ?_
    refine w_reg fun all => ?_
    refine t_qz 1 [4] (σ' := [(4, .int .i64 0)]) (by kernel_rfl) ?_
    refine t_end ?_
    show W _ _ _ _ _ _ _
    refine w_ret ?_
    obtain rfl := Option.some.inj e
    exact ⟨[.int .i64 0], [], S, ⟨rfl, trivial⟩, VS.none, rfl, rfl, rfl⟩
  · rw [if_neg c355] at e
    have c355b : (decide (b1 < 1)) = false := decide_eq_false c355
    refine t_qz 1 [0, 1, 6] (σ' := [(0, .int .i64 a0), (1, .int .i64 b1), (6, .int .i64 b1)]) (by kernel_rfl) ?_
    refine t_v (dv_quiet rfl (congrArg (fun t => some (Value.bool t)) c355b)) ?_
    refine t_keep [0, 1, 7] (σ' := [(0, .int .i64 a0), (1, .int .i64 b1), (7, .bool false)]) (by kernel_rfl) ?_
    refine t_end ?_
    show W _ _ _ _ _ _ _
    refine w_cond rfl (fun c_ => by cases c_) (fun _ => ?_)
    show W _ _ _ _ _ _ _
    refine w_skip ?_
    show W _ _ _ _ _ _ _
    refine w_seq ?_
    refine w_reg fun all => ?_
    have c356 : ¬ b1 = 0 := by
      intro h_; rw [if_pos h_] at e; cases e
    rw [if_neg c356] at e
    refine t_qz 2 [0, 1, 8, 9] (σ' := [(0, .int .i64 a0), (1, .int .i64 b1), (8, .int .i64 a0), (9, .int .i64 b1)]) (by kernel_rfl) ?_
    refine t_v (.quiet rfl (qv_quo rfl rfl c356)) ?_
    refine t_qz 1 [0, 1, 5] (σ' := [(0, .int .i64 a0), (1, .int .i64 b1), (5, .int .i64 (wr64 (Int.tdiv a0 b1)))]) (by kernel_rfl) ?_
    refine t_end ?_
    show W _ _ _ _ _ _ _
    refine w_seq ?_
    refine w_seq ?_
    refine w_reg fun all => ?_
    refine t_qz 2 [5, 11, 12] (σ' := [(5, .int .i64 (wr64 (Int.tdiv a0 b1))), (11, .int .i64 a0), (12, .int .i64 b1)]) (by kernel_rfl) ?_
    refine t_v (.quiet rfl (qv_rem rfl rfl c356)) ?_
    by_cases c357 : (Int.tmod a0 b1) < 0
    · rw [if_pos c357] at e
      have c357b : (decide ((Int.tmod a0 b1) < 0)) = true := decide_eq_true c357
      refine t_v (dv_quiet rfl (congrArg (fun t => some (Value.bool t)) c357b)) ?_
      refine t_keep [5, 14] (σ' := [(5, .int .i64 (wr64 (Int.tdiv a0 b1))), (14, .bool true)]) (by kernel_rfl) ?_
      refine t_end ?_
      show W _ _ _ _ _ _ _
      refine w_cond rfl (fun _ => ?_) (fun c_ => by cases c_)
      show W _ _ _ _ _ _ _
      refine w_reg fun all => ?_
      refine t_qz 3 [5] (σ' := [(5, .int .i64 (wr64 ((wr64 (Int.tdiv a0 b1)) - 1)))]) (by kernel_rfl) ?_
      refine t_end ?_
      show W _ _ _ _ _ _ _
      refine w_seq ?_
      refine w_reg fun all => ?_
      refine t_qz 2 [4] (σ' := [(4, .int .i64 (wr64 ((wr64 (Int.tdiv a0 b1)) - 1)))]) (by kernel_rfl) ?_
      refine t_end ?_
      show W _ _ _ _ _ _ _
      refine w_ret ?_
      obtain rfl := Option.some.inj e
      exact ⟨[.int .i64 (wr64 ((wr64 (Int.tdiv a0 b1)) - 1))], [], S, ⟨rfl, trivial⟩, VS.none, rfl, rfl, rfl⟩
    · rw [if_neg c357] at e
      have c357b : (decide ((Int.tmod a0 b1) < 0)) = false := decide_eq_false c357
      refine t_v (dv_quiet rfl (congrArg (fun t => some (Value.bool t)) c357b)) ?_
      refine t_keep [5, 14] (σ' := [(5, .int .i64 (wr64 (Int.tdiv a0 b1))), (14, .bool false)]) (by kernel_rfl) ?_
      refine t_end ?_
      show W _ _ _ _ _ _ _
      refine w_cond rfl (fun c_ => by cases c_) (fun _ => ?_)
      show W _ _ _ _ _ _ _
      refine w_skip ?_
      show W _ _ _ _ _ _ _
      refine w_seq ?_
      refine w_reg fun all => ?_
      refine t_qz 2 [4] (σ' := [(4, .int .i64 (wr64 (Int.tdiv a0 b1)))]) (by kernel_rfl) ?_
      refine t_end ?_
      show W _ _ _ _ _ _ _
      refine w_ret ?_
      obtain rfl := Option.some.inj e
      exact ⟨[.int .i64 (wr64 (Int.tdiv a0 b1))], [], S, ⟨rfl, trivial⟩, VS.none, rfl, rfl, rfl⟩

/-- glyphicref1.Round -/
def c76 : C :=
  (.seq (.reg [⟨(some 4), .mv (.const (.int .i64 0)), none⟩])
  (.seq (.seq (.reg [⟨(some 7), .mv (.tmp 1), none⟩,
      ⟨(some 8), .bin .lss (.tmp 7) (.const (.int .i64 1)), none⟩])
   (.cond (.tmp 8)
    (.seq (.reg [⟨(some 4), .mv (.const (.int .i64 0)), none⟩])
     .ret)
    .skip))
  (.seq (.reg [⟨(some 9), .mv (.tmp 0), none⟩,
     ⟨(some 10), .mv (.tmp 1), none⟩,
     ⟨(some 11), .call 109 [(.tmp 9), (.tmp 10)], none⟩,
     ⟨(some 5), .mv (.tmp 11), none⟩])
  (.seq (.reg [⟨(some 12), .mv (.tmp 0), none⟩,
     ⟨(some 13), .mv (.tmp 5), none⟩,
     ⟨(some 14), .mv (.tmp 1), none⟩,
     ⟨(some 15), .bin .mul (.tmp 13) (.tmp 14), none⟩,
     ⟨(some 16), .bin .sub (.tmp 12) (.tmp 15), none⟩,
     ⟨(some 6), .mv (.tmp 16), none⟩])
  (.seq (.seq (.reg [⟨(some 17), .mv (.tmp 6), none⟩,
      ⟨(some 18), .mv (.tmp 1), none⟩,
      ⟨(some 19), .mv (.tmp 6), none⟩,
      ⟨(some 20), .bin .sub (.tmp 18) (.tmp 19), none⟩,
      ⟨(some 21), .bin .geq (.tmp 17) (.tmp 20), none⟩])
   (.cond (.tmp 21)
    (.reg [⟨(some 22), .mv (.tmp 5), none⟩,
       ⟨(some 23), .bin .add (.tmp 22) (.const (.int .i64 1)), none⟩,
       ⟨(some 5), .mv (.tmp 23), none⟩])
    .skip))
  (.seq (.reg [⟨(some 24), .mv (.tmp 5), none⟩,
     ⟨(some 4), .mv (.tmp 24), none⟩])
  .ret))))))
def glyphicref1_Round.f (a0 : Int) (b1 : Int) : Option (Int) := if b1 < 1 then (some 0) else ((glyphicref1_Down.f a0 b1).bind fun t358 => (if (wr64 (a0 - (wr64 (t358 * b1)))) ≥ (wr64 (b1 - (wr64 (a0 - (wr64 (t358 * b1)))))) then (some (wr64 (t358 + 1))) else (some t358)))
theorem glyphicref1_Round.ok {S : Seal} {a0 : Int} {b1 : Int} {r0_ : Int}(e : glyphicref1_Round.f a0 b1 = some r0_) :
    Cal Try.prog 76 [.int .i64 a0, .int .i64 b1] [] S fun v H' S' => v = .int .i64 r0_ ∧ H' = [] ∧ S' = S := by
  unfold glyphicref1_Round.f at e
  refine cal_of (c := c76) (N := 25) Try.func76 rfl rfl (by kernel_rfl) (rs := [.t 4]) (by kernel_rfl) (Nat.le_of_ble_eq_true rfl) ?_
  unfold c76
  refine w_seq ?_
  refine w_reg fun all => ?_
  refine t_qz 1 [0, 1] (σ' := [(0, .int .i64 a0), (1, .int .i64 b1)]) (by kernel_rfl) ?_
  refine t_end ?_
  show W _ _ _ _ _ _ _
  refine w_seq ?_
  refine w_seq ?_
  refine w_reg fun all => ?_
  by_cases c354 : b1 < 1
  · rw [if_pos c354] at e
    have c354b : (decide (b1 < 1)) = true := decide_eq_true c354
    refine t_qz 1 [0, 1, 7] (σ' := [(0, .int .i64 a0), (1, .int .i64 b1), (7, .int .i64 b1)]) (by kernel_rfl) ?_
    refine t_v (dv_quiet rfl (congrArg (fun t => some (Value.bool t)) c354b)) ?_
    refine t_keep [0, 1, 8] (σ' := [(0, .int .i64 a0), (1, .int .i64 b1), (8, .bool true)]) (by kernel_rfl) ?_
    refine t_end ?_
    show W _ _ _ _ _ _ _
    refine w_cond rfl (fun _ => ?_) (fun c_ => by cases c_)
    show W _ _ _ _ _ _ _
    refine w_seq ?_
    refine w_reg fun all => ?_
    refine t_qz 1 [4] (σ' := [(4, .int .i64 0)]) (by kernel_rfl) ?_
    refine t_end ?_
    show W _ _ _ _ _ _ _
    refine w_ret ?_
    obtain rfl := Option.some.inj e
    exact ⟨[.int .i64 0], [], S, ⟨rfl, trivial⟩, VS.none, rfl, rfl, rfl⟩
  · rw [if_neg c354] at e
    have c354b : (decide (b1 < 1)) = false := decide_eq_false c354
    refine t_qz 1 [0, 1, 7] (σ' := [(0, .int .i64 a0), (1, .int .i64 b1), (7, .int .i64 b1)]) (by kernel_rfl) ?_
    refine t_v (dv_quiet rfl (congrArg (fun t => some (Value.bool t)) c354b)) ?_
    refine t_keep [0, 1, 8] (σ' := [(0, .int .i64 a0), (1, .int .i64 b1), (8, .bool false)]) (by kernel_rfl) ?_
    refine t_end ?_
    show W _ _ _ _ _ _ _
    refine w_cond rfl (fun c_ => by cases c_) (fun _ => ?_)
    show W _ _ _ _ _ _ _
    refine w_skip ?_
    show W _ _ _ _ _ _ _
    refine w_seq ?_
    refine w_reg fun all => ?_
    obtain ⟨t358, h359, e⟩ := bind_of e
    refine t_qz 2 [0, 1, 9, 10] (σ' := [(0, .int .i64 a0), (1, .int .i64 b1), (9, .int .i64 a0), (10, .int .i64 b1)]) (by kernel_rfl) ?_
    refine t_v (.call (vs := [.int .i64 a0, .int .i64 b1]) rfl rfl (by kernel_rfl) (glyphicref1_Down.ok h359)) ?_
    refine t_qz 1 [0, 1, 5] (σ' := [(0, .int .i64 a0), (1, .int .i64 b1), (5, .int .i64 t358)]) (by kernel_rfl) ?_
    refine t_end ?_
    show W _ _ _ _ _ _ _
    refine w_seq ?_
    refine w_reg fun all => ?_
    refine t_qz 6 [1, 5, 6] (σ' := [(1, .int .i64 b1), (5, .int .i64 t358), (6, .int .i64 (wr64 (a0 - (wr64 (t358 * b1)))))]) (by kernel_rfl) ?_
    refine t_end ?_
    show W _ _ _ _ _ _ _
    refine w_seq ?_
    refine w_seq ?_
    refine w_reg fun all => ?_
    by_cases c360 : (wr64 (a0 - (wr64 (t358 * b1)))) ≥ (wr64 (b1 - (wr64 (a0 - (wr64 (t358 * b1))))))
    · rw [if_pos c360] at e
      have c360b : (decide ((wr64 (a0 - (wr64 (t358 * b1)))) ≥ (wr64 (b1 - (wr64 (a0 - (wr64 (t358 * b1)))))))) = true := decide_eq_true c360
      refine t_qz 4 [5, 17, 20] (σ' := [(5, .int .i64 t358), (17, .int .i64 (wr64 (a0 - (wr64 (t358 * b1))))), (20, .int .i64 (wr64 (b1 - (wr64 (a0 - (wr64 (t358 * b1)))))))]) (by kernel_rfl) ?_
      refine t_v (dv_quiet rfl (congrArg (fun t => some (Value.bool t)) c360b)) ?_
      refine t_keep [5, 21] (σ' := [(5, .int .i64 t358), (21, .bool true)]) (by kernel_rfl) ?_
      refine t_end ?_
      show W _ _ _ _ _ _ _
      refine w_cond rfl (fun _ => ?_) (fun c_ => by cases c_)
      show W _ _ _ _ _ _ _
      refine w_reg fun all => ?_
      refine t_qz 3 [5] (σ' := [(5, .int .i64 (wr64 (t358 + 1)))]) (by kernel_rfl) ?_
      refine t_end ?_
      show W _ _ _ _ _ _ _
      refine w_seq ?_
      refine w_reg fun all => ?_
      refine t_qz 2 [4] (σ' := [(4, .int .i64 (wr64 (t358 + 1)))]) (by kernel_rfl) ?_
      refine t_end ?_
      show W _ _ _ _ _ _ _
      refine w_ret ?_
      obtain rfl := Option.some.inj e
      exact ⟨[.int .i64 (wr64 (t358 + 1))], [], S, ⟨rfl, trivial⟩, VS.none, rfl, rfl, rfl⟩
    · rw [if_neg c360] at e
      have c360b : (decide ((wr64 (a0 - (wr64 (t358 * b1)))) ≥ (wr64 (b1 - (wr64 (a0 - (wr64 (t358 * b1)))))))) = false := decide_eq_false c360
      refine t_qz 4 [5, 17, 20] (σ' := [(5, .int .i64 t358), (17, .int .i64 (wr64 (a0 - (wr64 (t358 * b1))))), (20, .int .i64 (wr64 (b1 - (wr64 (a0 - (wr64 (t358 * b1)))))))]) (by kernel_rfl) ?_
      refine t_v (dv_quiet rfl (congrArg (fun t => some (Value.bool t)) c360b)) ?_
      refine t_keep [5, 21] (σ' := [(5, .int .i64 t358), (21, .bool false)]) (by kernel_rfl) ?_
      refine t_end ?_
      show W _ _ _ _ _ _ _
      refine w_cond rfl (fun c_ => by cases c_) (fun _ => ?_)
      show W _ _ _ _ _ _ _
      refine w_skip ?_
      show W _ _ _ _ _ _ _
      refine w_seq ?_
      refine w_reg fun all => ?_
      refine t_qz 2 [4] (σ' := [(4, .int .i64 t358)]) (by kernel_rfl) ?_
      refine t_end ?_
      show W _ _ _ _ _ _ _
      refine w_ret ?_
      obtain rfl := Option.some.inj e
      exact ⟨[.int .i64 t358], [], S, ⟨rfl, trivial⟩, VS.none, rfl, rfl, rfl⟩

/-- glyphicref20.part -/
def c72 : C :=
  (.seq (.reg [⟨(some 14), .mv (.const (.int .i64 0)), none⟩])
  (.seq (.reg [⟨(some 16), .mv (.tmp 6), none⟩,
     ⟨(some 17), .mv (.tmp 5), none⟩,
     ⟨(some 18), .bin .sub (.tmp 16) (.tmp 17), none⟩,
     ⟨(some 15), .mv (.tmp 18), none⟩])
  (.seq (.seq (.reg [⟨(some 19), .mv (.tmp 4), none⟩])
   (.block 0 (.seq (.reg [⟨(some 21), .bin .eql (.tmp 19) (.const (.int .i64 1)), none⟩,
       ⟨(some 20), .mv (.tmp 21), none⟩])
    (.cond (.tmp 20)
     (.seq (.reg [⟨(some 22), .mv (.tmp 0), none⟩,
         ⟨(some 23), .mv (.tmp 15), none⟩,
         ⟨(some 24), .bin .mul (.tmp 22) (.tmp 23), none⟩,
         ⟨(some 25), .mv (.tmp 1), none⟩,
         ⟨(some 26), .mv (.tmp 5), none⟩,
         ⟨(some 27), .bin .mul (.tmp 25) (.tmp 26), none⟩,
         ⟨(some 28), .bin .add (.tmp 24) (.tmp 27), none⟩,
         ⟨(some 29), .mv (.tmp 6), none⟩,
         ⟨(some 30), .call 76 [(.tmp 28), (.tmp 29)], none⟩,
         ⟨(some 14), .mv (.tmp 30), none⟩])
      .ret)
     (.seq (.reg [⟨(some 32), .bin .eql (.tmp 19) (.const (.int .i64 2)), none⟩,
         ⟨(some 31), .mv (.tmp 32), none⟩])
      (.cond (.tmp 31)
       (.seq (.reg [⟨(some 33), .mv (.tmp 0), none⟩,
           ⟨(some 34), .mv (.tmp 15), none⟩,
           ⟨(some 35), .bin .mul (.tmp 33) (.tmp 34), none⟩,
           ⟨(some 36), .mv (.tmp 15), none⟩,
           ⟨(some 37), .bin .mul (.tmp 35) (.tmp 36), none⟩,
           ⟨(some 38), .mv (.tmp 1), none⟩,
           ⟨(some 39), .bin .mul (.const (.int .i64 2)) (.tmp 38), none⟩,
           ⟨(some 40), .mv (.tmp 5), none⟩,
           ⟨(some 41), .bin .mul (.tmp 39) (.tmp 40), none⟩,
           ⟨(some 42), .mv (.tmp 15), none⟩,
           ⟨(some 43), .bin .mul (.tmp 41) (.tmp 42), none⟩,
           ⟨(some 44), .bin .add (.tmp 37) (.tmp 43), none⟩,
           ⟨(some 45), .mv (.tmp 2), none⟩,
           ⟨(some 46), .mv (.tmp 5), none⟩,
           ⟨(some 47), .bin .mul (.tmp 45) (.tmp 46), none⟩,
           ⟨(some 48), .mv (.tmp 5), none⟩,
           ⟨(some 49), .bin .mul (.tmp 47) (.tmp 48), none⟩,
           ⟨(some 50), .bin .add (.tmp 44) (.tmp 49), none⟩,
           ⟨(some 51), .mv (.tmp 6), none⟩,
           ⟨(some 52), .mv (.tmp 6), none⟩,
           ⟨(some 53), .bin .mul (.tmp 51) (.tmp 52), none⟩,
           ⟨(some 54), .call 76 [(.tmp 50), (.tmp 53)], none⟩,
           ⟨(some 14), .mv (.tmp 54), none⟩])
        .ret)
       .skip))))))
  (.seq (.reg [⟨(some 55), .mv (.tmp 0), none⟩,
     ⟨(some 56), .mv (.tmp 15), none⟩,
     ⟨(some 57), .bin .mul (.tmp 55) (.tmp 56), none⟩,
     ⟨(some 58), .mv (.tmp 15), none⟩,
     ⟨(some 59), .bin .mul (.tmp 57) (.tmp 58), none⟩,
     ⟨(some 60), .mv (.tmp 15), none⟩,
     ⟨(some 61), .bin .mul (.tmp 59) (.tmp 60), none⟩,
     ⟨(some 62), .mv (.tmp 1), none⟩,
     ⟨(some 63), .bin .mul (.const (.int .i64 3)) (.tmp 62), none⟩,
     ⟨(some 64), .mv (.tmp 5), none⟩,
     ⟨(some 65), .bin .mul (.tmp 63) (.tmp 64), none⟩,
     ⟨(some 66), .mv (.tmp 15), none⟩,
     ⟨(some 67), .bin .mul (.tmp 65) (.tmp 66), none⟩,
     ⟨(some 68), .mv (.tmp 15), none⟩,
     ⟨(some 69), .bin .mul (.tmp 67) (.tmp 68), none⟩,
     ⟨(some 70), .bin .add (.tmp 61) (.tmp 69), none⟩,
     ⟨(some 71), .mv (.tmp 2), none⟩,
     ⟨(some 72), .bin .mul (.const (.int .i64 3)) (.tmp 71), none⟩,
     ⟨(some 73), .mv (.tmp 5), none⟩,
     ⟨(some 74), .bin .mul (.tmp 72) (.tmp 73), none⟩,
     ⟨(some 75), .mv (.tmp 5), none⟩,
     ⟨(some 76), .bin .mul (.tmp 74) (.tmp 75), none⟩,
     ⟨(some 77), .mv (.tmp 15), none⟩,
     ⟨(some 78), .bin .mul (.tmp 76) (.tmp 77), none⟩,
     ⟨(some 79), .bin .add (.tmp 70) (.tmp 78), none⟩,
     ⟨(some 80), .mv (.tmp 3), none⟩,
     ⟨(some 81), .mv (.tmp 5), none⟩,
     ⟨(some 82), .bin .mul (.tmp 80) (.tmp 81), none⟩,
     ⟨(some 83), .mv (.tmp 5), none⟩,
     ⟨(some 84), .bin .mul (.tmp 82) (.tmp 83), none⟩,
     ⟨(some 85), .mv (.tmp 5), none⟩,
     ⟨(some 86), .bin .mul (.tmp 84) (.tmp 85), none⟩,
     ⟨(some 87), .bin .add (.tmp 79) (.tmp 86), none⟩,
     ⟨(some 88), .mv (.tmp 6), none⟩,
     ⟨(some 89), .mv (.tmp 6), none⟩,
     ⟨(some 90), .bin .mul (.tmp 88) (.tmp 89), none⟩,
     ⟨(some 91), .mv (.tmp 6), none⟩,
     ⟨(some 92), .bin .mul (.tmp 90) (.tmp 91), none⟩,
     ⟨(some 93), .call 76 [(.tmp 87), (.tmp 92)], none⟩,
     ⟨(some 14), .mv (.tmp 93), none⟩])
  .ret))))
def glyphicref20_part.f (a0 : Int) (b1 : Int) (c2 : Int) (d3 : Int) (kind4 : Int) (i5 : Int) (n6 : Int) : Option (Int) := if kind4 = 1 then ((glyphicref1_Round.f (wr64 ((wr64 (a0 * (wr64 (n6 - i5)))) + (wr64 (b1 * i5)))) n6).bind fun t354 => (some t354)) else (if kind4 = 2 then ((glyphicref1_Round.f (wr64 ((wr64 ((wr64 ((wr64 (a0 * (wr64 (n6 - i5)))) * (wr64 (n6 - i5)))) + (wr64 ((wr64 ((wr64 (2 * b1)) * i5)) * (wr64 (n6 - i5)))))) + (wr64 ((wr64 (c2 * i5)) * i5)))) (wr64 (n6 * n6))).bind fun t357 => (some t357)) else ((glyphicref1_Round.f (wr64 ((wr64 ((wr64 ((wr64 ((wr64 ((wr64 (a0 * (wr64 (n6 - i5)))) * (wr64 (n6 - i5)))) * (wr64 (n6 - i5)))) + (wr64 ((wr64 ((wr64 ((wr64 (3 * b1)) * i5)) * (wr64 (n6 - i5)))) * (wr64 (n6 - i5)))))) + (wr64 ((wr64 ((wr64 ((wr64 (3 * c2)) * i5)) * i5)) * (wr64 (n6 - i5)))))) + (wr64 ((wr64 ((wr64 (d3 * i5)) * i5)) * i5)))) (wr64 ((wr64 (n6 * n6)) * n6))).bind fun t359 => (some t359)))
theorem glyphicref20_part.ok {S : Seal} {a0 : Int} {b1 : Int} {c2 : Int} {d3 : Int} {kind4 : Int} {i5 : Int} {n6 : Int} {r0_ : Int}(e : glyphicref20_part.f a0 b1 c2 d3 kind4 i5 n6 = some r0_) :
    Cal Try.prog 72 [.int .i64 a0, .int .i64 b1, .int .i64 c2, .int .i64 d3, .int .i64 kind4, .int .i64 i5, .int .i64 n6] [] S fun v H' S' => v = .int .i64 r0_ ∧ H' = [] ∧ S' = S := by
  unfold glyphicref20_part.f at e
  refine cal_of (c := c72) (N := 94) Try.func72 rfl rfl (by kernel_rfl) (rs := [.t 14]) (by kernel_rfl) (Nat.le_of_ble_eq_true rfl) ?_
  unfold c72
  refine w_seq ?_
  refine w_reg fun all => ?_
  refine t_qz 1 [0, 1, 2, 3, 4, 5, 6] (σ' := [(0, .int .i64 a0), (1, .int .i64 b1), (2, .int .i64 c2), (3, .int .i64 d3), (4, .int .i64 kind4), (5, .int .i64 i5), (6, .int .i64 n6)]) (by kernel_rfl) ?_
  refine t_end ?_
  show W _ _ _ _ _ _ _
  refine w_seq ?_
  refine w_reg fun all => ?_
  refine t_qz 4 [0, 1, 2, 3, 4, 5, 6, 15] (σ' := [(0, .int .i64 a0), (1, .int .i64 b1), (2, .int .i64 c2), (3, .int .i64 d3), (4, .int .i64 kind4), (5, .int .i64 i5), (6, .int .i64 n6), (15, .int .i64 (wr64 (n6 - i5)))]) (by kernel_rfl) ?_
  refine t_end ?_
  show W _ _ _ _ _ _ _
  refine w_seq ?_
  refine w_seq ?_
  refine w_reg fun all => ?_
  refine t_qz 1 [0, 1, 2, 3, 5, 6, 15, 19] (σ' := [(0, .int .i64 a0), (1, .int .i64 b1), (2, .int .i64 c2), (3, .int .i64 d3), (5, .int .i64 i5), (6, .int .i64 n6), (15, .int .i64 (wr64 (n6 - i5))), (19, .int .i64 kind4)]) (by kernel_rfl) ?_
  refine t_end ?_
  show W _ _ _ _ _ _ _
  refine w_block ?_
  refine w_seq ?_
  refine w_reg fun all => ?_
  by_cases c353 : kind4 = 1
  · rw [if_pos c353] at e
    have c353b : (kind4 == 1) = true := beq_iff_eq.mpr c353
    refine t_v (dv_quiet rfl (congrArg (fun t => some (Value.bool t)) c353b)) ?_
    refine t_qz 1 [0, 1, 2, 3, 5, 6, 15, 19, 20] (σ' := [(0, .int .i64 a0), (1, .int .i64 b1), (2, .int .i64 c2), (3, .int .i64 d3), (5, .int .i64 i5), (6, .int .i64 n6), (15, .int .i64 (wr64 (n6 - i5))), (19, .int .i64 kind4), (20, .bool true)]) (by kernel_rfl) ?_
    refine t_end ?_
    show W _ _ _ _ _ _ _
    refine w_cond rfl (fun _ => ?_) (fun c_ => by cases c_)
    show W _ _ _ _ _ _ _
    refine w_seq ?_
    refine w_reg fun all => ?_
    obtain ⟨t354, h355, e⟩ := bind_of e
    refine t_qz 8 [28, 29] (σ' := [(28, .int .i64 (wr64 ((wr64 (a0 * (wr64 (n6 - i5)))) + (wr64 (b1 * i5))))), (29, .int .i64 n6)]) (by kernel_rfl) ?_
    refine t_v (.call (vs := [.int .i64 (wr64 ((wr64 (a0 * (wr64 (n6 - i5)))) + (wr64 (b1 * i5)))), .int .i64 n6]) rfl rfl (by kernel_rfl) (glyphicref1_Round.ok h355)) ?_
    refine t_qz 1 [14] (σ' := [(14, .int .i64 t354)]) (by kernel_rfl) ?_
    refine t_end ?_
    show W _ _ _ _ _ _ _
    refine w_ret ?_
    obtain rfl := Option.some.inj e
    exact ⟨[.int .i64 t354], [], S, ⟨rfl, trivial⟩, VS.none, rfl, rfl, rfl⟩
  · rw [if_neg c353] at e
    have c353b : (kind4 == 1) = false := beq_eq_false_iff_ne.mpr c353
    refine t_v (dv_quiet rfl (congrArg (fun t => some (Value.bool t)) c353b)) ?_
    refine t_qz 1 [0, 1, 2, 3, 5, 6, 15, 19, 20] (σ' := [(0, .int .i64 a0), (1, .int .i64 b1), (2, .int .i64 c2), (3, .int .i64 d3), (5, .int .i64 i5), (6, .int .i64 n6), (15, .int .i64 (wr64 (n6 - i5))), (19, .int .i64 kind4), (20, .bool false)]) (by kernel_rfl) ?_
    refine t_end ?_
    show W _ _ _ _ _ _ _
    refine w_cond rfl (fun c_ => by cases c_) (fun _ => ?_)
    show W _ _ _ _ _ _ _
    refine w_seq ?_
    refine w_reg fun all => ?_
    by_cases c356 : kind4 = 2
    · rw [if_pos c356] at e
      have c356b : (kind4 == 2) = true := beq_iff_eq.mpr c356
      refine t_v (dv_quiet rfl (congrArg (fun t => some (Value.bool t)) c356b)) ?_
      refine t_qz 1 [0, 1, 2, 3, 5, 6, 15, 31] (σ' := [(0, .int .i64 a0), (1, .int .i64 b1), (2, .int .i64 c2), (3, .int .i64 d3), (5, .int .i64 i5), (6, .int .i64 n6), (15, .int .i64 (wr64 (n6 - i5))), (31, .bool true)]) (by kernel_rfl) ?_
      refine t_end ?_
      show W _ _ _ _ _ _ _
      refine w_cond rfl (fun _ => ?_) (fun c_ => by cases c_)
      show W _ _ _ _ _ _ _
      refine w_seq ?_
      refine w_reg fun all => ?_
      obtain ⟨t357, h358, e⟩ := bind_of e
      refine t_qz 21 [50, 53] (σ' := [(50, .int .i64 (wr64 ((wr64 ((wr64 ((wr64 (a0 * (wr64 (n6 - i5)))) * (wr64 (n6 - i5)))) + (wr64 ((wr64 ((wr64 (2 * b1)) * i5)) * (wr64 (n6 - i5)))))) + (wr64 ((wr64 (c2 * i5)) * i5))))), (53, .int .i64 (wr64 (n6 * n6)))]) (by kernel_rfl) ?_
      refine t_v (.call (vs := [.int .i64 (wr64 ((wr64 ((wr64 ((wr64 (a0 * (wr64 (n6 - i5)))) * (wr64 (n6 - i5)))) + (wr64 ((wr64 ((wr64 (2 * b1)) * i5)) * (wr64 (n6 - i5)))))) + (wr64 ((wr64 (c2 * i5)) * i5)))), .int .i64 (wr64 (n6 * n6))]) rfl rfl (by kernel_rfl) (glyphicref1_Round.ok h358)) ?_
      refine t_qz 1 [14] (σ' := [(14, .int .i64 t357)]) (by kernel_rfl) ?_
      refine t_end ?_
      show W _ _ _ _ _ _ _
      refine w_ret ?_
      obtain rfl := Option.some.inj e
      exact ⟨[.int .i64 t357], [], S, ⟨rfl, trivial⟩, VS.none, rfl, rfl, rfl⟩
    · rw [if_neg c356] at e
      have c356b : (kind4 == 2) = false := beq_eq_false_iff_ne.mpr c356
      refine t_v (dv_quiet rfl (congrArg (fun t => some (Value.bool t)) c356b)) ?_
      refine t_qz 1 [0, 1, 2, 3, 5, 6, 15, 31] (σ' := [(0, .int .i64 a0), (1, .int .i64 b1), (2, .int .i64 c2), (3, .int .i64 d3), (5, .int .i64 i5), (6, .int .i64 n6), (15, .int .i64 (wr64 (n6 - i5))), (31, .bool false)]) (by kernel_rfl) ?_
      refine t_end ?_
      show W _ _ _ _ _ _ _
      refine w_cond rfl (fun c_ => by cases c_) (fun _ => ?_)
      show W _ _ _ _ _ _ _
      refine w_skip ?_
      show W _ _ _ _ _ _ _
      refine w_seq ?_
      refine w_reg fun all => ?_
      obtain ⟨t359, h360, e⟩ := bind_of e
      refine t_qz 38 [87, 92] (σ' := [(87, .int .i64 (wr64 ((wr64 ((wr64 ((wr64 ((wr64 ((wr64 (a0 * (wr64 (n6 - i5)))) * (wr64 (n6 - i5)))) * (wr64 (n6 - i5)))) + (wr64 ((wr64 ((wr64 ((wr64 (3 * b1)) * i5)) * (wr64 (n6 - i5)))) * (wr64 (n6 - i5)))))) + (wr64 ((wr64 ((wr64 ((wr64 (3 * c2)) * i5)) * i5)) * (wr64 (n6 - i5)))))) + (wr64 ((wr64 ((wr64 (d3 * i5)) * i5)) * i5))))), (92, .int .i64 (wr64 ((wr64 (n6 * n6)) * n6)))]) (by kernel_rfl) ?_
      refine t_v (.call (vs := [.int .i64 (wr64 ((wr64 ((wr64 ((wr64 ((wr64 ((wr64 (a0 * (wr64 (n6 - i5)))) * (wr64 (n6 - i5)))) * (wr64 (n6 - i5)))) + (wr64 ((wr64 ((wr64 ((wr64 (3 * b1)) * i5)) * (wr64 (n6 - i5)))) * (wr64 (n6 - i5)))))) + (wr64 ((wr64 ((wr64 ((wr64 (3 * c2)) * i5)) * i5)) * (wr64 (n6 - i5)))))) + (wr64 ((wr64 ((wr64 (d3 * i5)) * i5)) * i5)))), .int .i64 (wr64 ((wr64 (n6 * n6)) * n6))]) rfl rfl (by kernel_rfl) (glyphicref1_Round.ok h360)) ?_
      refine t_qz 1 [14] (σ' := [(14, .int .i64 t359)]) (by kernel_rfl) ?_
      refine t_end ?_
      show W _ _ _ _ _ _ _
      refine w_ret ?_
      obtain rfl := Option.some.inj e
      exact ⟨[.int .i64 t359], [], S, ⟨rfl, trivial⟩, VS.none, rfl, rfl, rfl⟩

/-- glyphicref20.Point -/
def c32 : C :=
  (.seq (.reg [⟨(some 4), .box (.tmp 0), none⟩,
     ⟨(some 5), .box (.tmp 1), none⟩,
     ⟨(some 8), .new [(.int .i64 0), (.int .i64 0)], none⟩])
  (.seq (.drw [⟨(some 9), .pad 0 (.tmp 4), none⟩,
     ⟨(some 10), .ld none (.tmp 9), none⟩,
     ⟨(some 11), .pad 1 (.tmp 5), none⟩,
     ⟨(some 12), .ixa 2 3 (.tmp 11) (.const (.int .i64 0)), none⟩,
     ⟨(some 13), .pad 0 (.tmp 12), none⟩,
     ⟨(some 14), .ld none (.tmp 13), none⟩,
     ⟨(some 15), .pad 1 (.tmp 5), none⟩,
     ⟨(some 16), .ixa 2 3 (.tmp 15) (.const (.int .i64 1)), none⟩,
     ⟨(some 17), .pad 0 (.tmp 16), none⟩,
     ⟨(some 18), .ld none (.tmp 17), none⟩,
     ⟨(some 19), .pad 1 (.tmp 5), none⟩,
     ⟨(some 20), .ixa 2 3 (.tmp 19) (.const (.int .i64 2)), none⟩,
     ⟨(some 21), .pad 0 (.tmp 20), none⟩,
     ⟨(some 22), .ld none (.tmp 21), none⟩,
     ⟨(some 23), .pad 0 (.tmp 5), none⟩,
     ⟨(some 24), .ld none (.tmp 23), none⟩,
     ⟨(some 25), .mv (.tmp 2), none⟩,
     ⟨(some 26), .mv (.tmp 3), none⟩,
     ⟨(some 27), .call 72 [(.tmp 10), (.tmp 14), (.tmp 18), (.tmp 22), (.tmp 24), (.tmp 25), (.tmp 26)], none⟩,
     ⟨(some 28), .pad 1 (.tmp 4), none⟩,
     ⟨(some 29), .ld none (.tmp 28), none⟩,
     ⟨(some 30), .pad 1 (.tmp 5), none⟩,
     ⟨(some 31), .ixa 2 3 (.tmp 30) (.const (.int .i64 0)), none⟩,
     ⟨(some 32), .pad 1 (.tmp 31), none⟩,
     ⟨(some 33), .ld none (.tmp 32), none⟩,
     ⟨(some 34), .pad 1 (.tmp 5), none⟩,
     ⟨(some 35), .ixa 2 3 (.tmp 34) (.const (.int .i64 1)), none⟩,
     ⟨(some 36), .pad 1 (.tmp 35), none⟩,
     ⟨(some 37), .ld none (.tmp 36), none⟩,
     ⟨(some 38), .pad 1 (.tmp 5), none⟩,
     ⟨(some 39), .ixa 2 3 (.tmp 38) (.const (.int .i64 2)), none⟩,
     ⟨(some 40), .pad 1 (.tmp 39), none⟩,
     ⟨(some 41), .ld none (.tmp 40), none⟩,
     ⟨(some 42), .pad 0 (.tmp 5), none⟩,
     ⟨(some 43), .ld none (.tmp 42), none⟩,
     ⟨(some 44), .mv (.tmp 2), none⟩,
     ⟨(some 45), .mv (.tmp 3), none⟩,
     ⟨(some 46), .call 72 [(.tmp 29), (.tmp 33), (.tmp 37), (.tmp 41), (.tmp 43), (.tmp 44), (.tmp 45)], none⟩,
     ⟨(some 47), .bld [(.int .i64 0), (.int .i64 0)] [(0, 1, (.tmp 27)), (1, 1, (.tmp 46))], none⟩,
     ⟨none, .st 2 (.tmp 8) (.tmp 47), none⟩] [[], [0], [], [2], [3], [4], [], [6], [7], [8], [], [10], [11], [12], [], [14], [], [], [1, 5, 9, 13, 15, 16, 17], [], [19], [], [21], [22], [23], [], [25], [26], [27], [], [29], [30], [31], [], [33], [], [], [20, 24, 28, 32, 34, 35, 36, 18], [18, 37], [38, 37, 0, 1, 2, 3, 4, 5, 6, 7, 8, 9, 10, 11, 12, 13, 14, 15, 16, 17, 18, 19, 20, 21, 22, 23, 24, 25, 26, 27, 28, 29, 30, 31, 32, 33, 34, 35, 36, 37, 38]])
  .ret))
def glyphicref20_Point.f (a0_X : Int) (a0_Y : Int) (s1_Kind : Int) (s1_P_0_X : Int) (s1_P_0_Y : Int) (s1_P_1_X : Int) (s1_P_1_Y : Int) (s1_P_2_X : Int) (s1_P_2_Y : Int) (i2 : Int) (n3 : Int) : Option (Int × Int) := (glyphicref20_part.f a0_X s1_P_0_X s1_P_1_X s1_P_2_X s1_Kind i2 n3).bind fun t353 => ((glyphicref20_part.f a0_Y s1_P_0_Y s1_P_1_Y s1_P_2_Y s1_Kind i2 n3).bind fun t355 => (some (t353, t355)))
theorem glyphicref20_Point.ok {S : Seal} {a0_X : Int} {a0_Y : Int} {s1_Kind : Int} {s1_P_0_X : Int} {s1_P_0_Y : Int} {s1_P_1_X : Int} {s1_P_1_Y : Int} {s1_P_2_X : Int} {s1_P_2_Y : Int} {i2 : Int} {n3 : Int} {r0_ : Int} {r1_ : Int}(e : glyphicref20_Point.f a0_X a0_Y s1_Kind s1_P_0_X s1_P_0_Y s1_P_1_X s1_P_1_Y s1_P_2_X s1_P_2_Y i2 n3 = some (r0_, r1_)) :
    Cal Try.prog 32 [.agg #[.int .i64 a0_X, .int .i64 a0_Y], .agg #[.int .i64 s1_Kind, .int .i64 s1_P_0_X, .int .i64 s1_P_0_Y, .int .i64 s1_P_1_X, .int .i64 s1_P_1_Y, .int .i64 s1_P_2_X, .int .i64 s1_P_2_Y], .int .i64 i2, .int .i64 n3] [] S fun v H' S' => v = .agg #[.int .i64 r0_, .int .i64 r1_] ∧ H' = [] ∧ S' = S := by
  unfold glyphicref20_Point.f at e
  refine cal_of (c := c32) (N := 48) Try.func32 rfl rfl (by kernel_rfl) (rs := [.cn 2 8]) (by kernel_rfl) (Nat.le_of_ble_eq_true rfl) ?_
  unfold c32
  refine w_seq ?_
  refine w_reg fun all => ?_
  refine t_a (.box rfl rfl rfl) fun b350 fb350 sb350 => ?_
  refine t_a (.box rfl rfl rfl) fun b351 fb351 sb351 => ?_
  refine t_a (.new rfl rfl) fun b352 fb352 sb352 => ?_
  refine t_keep [2, 3, 4, 5, 8] (σ' := [(2, .int .i64 i2), (3, .int .i64 n3), (4, .pointer (some ⟨b350, 0, none⟩)), (5, .pointer (some ⟨b351, 0, none⟩)), (8, .pointer (some ⟨b352, 0, none⟩))]) (by kernel_rfl) ?_
  refine t_end ?_
  show W _ _ _ _ _ _ _
  refine w_seq ?_
  obtain ⟨t353, h354, e⟩ := bind_of e
  obtain ⟨t355, h356, e⟩ := bind_of e
  refine w_drwE mixed 39 [.v (.pointer (some ⟨b350, 0, none⟩)), .v (.int .i64 a0_X), .v (.pointer (some ⟨b351, 1, none⟩)), .v (.pointer (some ⟨b351, 1, none⟩)), .v (.pointer (some ⟨b351, 1, none⟩)), .v (.int .i64 s1_P_0_X), .v (.pointer (some ⟨b351, 1, none⟩)), .v (.pointer (some ⟨b351, 3, none⟩)), .v (.pointer (some ⟨b351, 3, none⟩)), .v (.int .i64 s1_P_1_X), .v (.pointer (some ⟨b351, 1, none⟩)), .v (.pointer (some ⟨b351, 5, none⟩)), .v (.pointer (some ⟨b351, 5, none⟩)), .v (.int .i64 s1_P_2_X), .v (.pointer (some ⟨b351, 0, none⟩)), .v (.int .i64 s1_Kind), .v (.int .i64 i2), .v (.int .i64 n3), .v (.int .i64 t353), .v (.pointer (some ⟨b350, 1, none⟩)), .v (.int .i64 a0_Y), .v (.pointer (some ⟨b351, 1, none⟩)), .v (.pointer (some ⟨b351, 1, none⟩)), .v (.pointer (some ⟨b351, 2, none⟩)), .v (.int .i64 s1_P_0_Y), .v (.pointer (some ⟨b351, 1, none⟩)), .v (.pointer (some ⟨b351, 3, none⟩)), .v (.pointer (some ⟨b351, 4, none⟩)), .v (.int .i64 s1_P_1_Y), .v (.pointer (some ⟨b351, 1, none⟩)), .v (.pointer (some ⟨b351, 5, none⟩)), .v (.pointer (some ⟨b351, 6, none⟩)), .v (.int .i64 s1_P_2_Y), .v (.pointer (some ⟨b351, 0, none⟩)), .v (.int .i64 s1_Kind), .v (.int .i64 i2), .v (.int .i64 n3), .v (.int .i64 t355), .v (.agg #[.int .i64 t353, .int .i64 t355])] (by kernel_rfl) ?_ ?_
  · refine DI.sq 1 (by kernel_rfl) rfl ?_
    refine .cons (.ld1 rfl rfl rfl (.at 2 rfl rfl)) ?_
    refine DI.sq 3 (by kernel_rfl) rfl ?_
    refine .cons (.ld1 rfl rfl rfl (.at 1 rfl rfl)) ?_
    refine DI.sq 3 (by kernel_rfl) rfl ?_
    refine .cons (.ld1 rfl rfl rfl (.at 1 rfl rfl)) ?_
    refine DI.sq 3 (by kernel_rfl) rfl ?_
    refine .cons (.ld1 rfl rfl rfl (.at 1 rfl rfl)) ?_
    refine DI.sq 1 (by kernel_rfl) rfl ?_
    refine .cons (.ld1 rfl rfl rfl (.at 1 rfl rfl)) ?_
    refine DI.sq 2 (by kernel_rfl) rfl ?_
    refine .cons (.call (vs := [.int .i64 a0_X, .int .i64 s1_P_0_X, .int .i64 s1_P_1_X, .int .i64 s1_P_2_X, .int .i64 s1_Kind, .int .i64 i2, .int .i64 n3]) rfl rfl (by kernel_rfl) (glyphicref20_part.ok h354)) ?_
    refine DI.sq 1 (by kernel_rfl) rfl ?_
    refine .cons (.ld1 rfl rfl rfl (.at 2 rfl rfl)) ?_
    refine DI.sq 3 (by kernel_rfl) rfl ?_
    refine .cons (.ld1 rfl rfl rfl (.at 1 rfl rfl)) ?_
    refine DI.sq 3 (by kernel_rfl) rfl ?_
    refine .cons (.ld1 rfl rfl rfl (.at 1 rfl rfl)) ?_
    refine DI.sq 3 (by kernel_rfl) rfl ?_
    refine .cons (.ld1 rfl rfl rfl (.at 1 rfl rfl)) ?_
    refine DI.sq 1 (by kernel_rfl) rfl ?_
    refine .cons (.ld1 rfl rfl rfl (.at 1 rfl rfl)) ?_
    refine DI.sq 2 (by kernel_rfl) rfl ?_
    refine .cons (.call (vs := [.int .i64 a0_Y, .int .i64 s1_P_0_Y, .int .i64 s1_P_1_Y, .int .i64 s1_P_2_Y, .int .i64 s1_Kind, .int .i64 i2, .int .i64 n3]) rfl rfl (by kernel_rfl) (glyphicref20_part.ok h356)) ?_
    refine DI.sq 1 (by kernel_rfl) rfl ?_
    exact .nil
  refine fk_q 39 [8, 47] (σ' := [(8, .pointer (some ⟨b352, 0, none⟩)), (47, .agg #[.int .i64 t353, .int .i64 t355])]) t_more (by kernel_rfl) ?_
  refine fk_nil fun all => ?_
  refine t_sti 0 (cs := [.int .i64 t353, .int .i64 t355]) rfl rfl rfl rfl rfl rfl rfl rfl rfl ?_
  refine t_keep [8] (σ' := [(8, .pointer (some ⟨b352, 0, none⟩))]) (by kernel_rfl) ?_
  refine t_end ?_
  show W _ _ _ _ _ _ _
  refine w_ret ?_
  simp only [Option.some.injEq, Prod.mk.injEq] at e
  obtain ⟨rfl, rfl⟩ := e
  exact ⟨[.agg #[.int .i64 t353, .int .i64 t355]], [], S, ⟨⟨_, _, _, rfl, .at 0 rfl rfl, rfl⟩, trivial⟩, VS.none, rfl, rfl, rfl⟩

/-- glyphicref.SamePoint -/
def c25 : C :=
  (.seq (.reg [⟨(some 2), .box (.tmp 0), none⟩,
     ⟨(some 3), .box (.tmp 1), none⟩,
     ⟨(some 4), .mv (.const (.bool false)), none⟩])
  (.seq (.reg [⟨(some 5), .pad 0 (.tmp 2), none⟩,
     ⟨(some 6), .ld none (.tmp 5), none⟩,
     ⟨(some 7), .pad 0 (.tmp 3), none⟩,
     ⟨(some 8), .ld none (.tmp 7), none⟩,
     ⟨(some 9), .bin .eql (.tmp 6) (.tmp 8), none⟩,
     ⟨(some 10), .mv (.tmp 9), none⟩,
     ⟨(some 11), .pad 1 (.tmp 2), (some (10, true))⟩,
     ⟨(some 12), .ld none (.tmp 11), (some (10, true))⟩,
     ⟨(some 13), .pad 1 (.tmp 3), (some (10, true))⟩,
     ⟨(some 14), .ld none (.tmp 13), (some (10, true))⟩,
     ⟨(some 15), .bin .eql (.tmp 12) (.tmp 14), (some (10, true))⟩,
     ⟨(some 16), .pk (.tmp 10) (.tmp 15) (.const (.bool false)), none⟩,
     ⟨(some 4), .mv (.tmp 16), none⟩])
  .ret))
def glyphicref_SamePoint.f (a0_X : Int) (a0_Y : Int) (b1_X : Int) (b1_Y : Int) : Option (Bool) := if a0_X = b1_X then (some (a0_Y == b1_Y)) else (some false)
theorem glyphicref_SamePoint.ok {S : Seal} {a0_X : Int} {a0_Y : Int} {b1_X : Int} {b1_Y : Int} {r0_ : Bool}(e : glyphicref_SamePoint.f a0_X a0_Y b1_X b1_Y = some r0_) :
    Cal Try.prog 25 [.agg #[.int .i64 a0_X, .int .i64 a0_Y], .agg #[.int .i64 b1_X, .int .i64 b1_Y]] [] S fun v H' S' => v = .bool r0_ ∧ H' = [] ∧ S' = S := by
  unfold glyphicref_SamePoint.f at e
  refine cal_of (c := c25) (N := 17) Try.func25 rfl rfl (by kernel_rfl) (rs := [.t 4]) (by kernel_rfl) (Nat.le_of_ble_eq_true rfl) ?_
  unfold c25
  refine w_seq ?_
  refine w_reg fun all => ?_
  refine t_a (.box rfl rfl rfl) fun b360 fb360 sb360 => ?_
  refine t_a (.box rfl rfl rfl) fun b361 fb361 sb361 => ?_
  refine t_qz 1 [2, 3] (σ' := [(2, .pointer (some ⟨b360, 0, none⟩)), (3, .pointer (some ⟨b361, 0, none⟩))]) (by kernel_rfl) ?_
  refine t_end ?_
  show W _ _ _ _ _ _ _
  refine w_seq ?_
  refine w_reg fun all => ?_
  refine t_qz 1 [2, 3, 5] (σ' := [(2, .pointer (some ⟨b360, 0, none⟩)), (3, .pointer (some ⟨b361, 0, none⟩)), (5, .pointer (some ⟨b360, 0, none⟩))]) (by kernel_rfl) ?_
  refine t_v (.ld1 rfl rfl rfl (.at 1 rfl rfl)) ?_
  refine t_qz 1 [2, 3, 6, 7] (σ' := [(2, .pointer (some ⟨b360, 0, none⟩)), (3, .pointer (some ⟨b361, 0, none⟩)), (6, .int .i64 a0_X), (7, .pointer (some ⟨b361, 0, none⟩))]) (by kernel_rfl) ?_
  refine t_v (.ld1 rfl rfl rfl (.at 0 rfl rfl)) ?_
  by_cases c362 : a0_X = b1_X
  · rw [if_pos c362] at e
    have c362b : (a0_X == b1_X) = true := beq_iff_eq.mpr c362
    refine t_v (dv_quiet rfl (congrArg (fun t => some (Value.bool t)) c362b)) ?_
    refine t_qz 2 [3, 10, 11] (σ' := [(3, .pointer (some ⟨b361, 0, none⟩)), (10, .bool true), (11, .pointer (some ⟨b360, 1, none⟩))]) (by kernel_rfl) ?_
    refine t_v (.ld1 rfl rfl rfl (.at 1 rfl rfl)) ?_
    refine t_qz 1 [10, 12, 13] (σ' := [(10, .bool true), (12, .int .i64 a0_Y), (13, .pointer (some ⟨b361, 1, none⟩))]) (by kernel_rfl) ?_
    refine t_v (.ld1 rfl rfl rfl (.at 0 rfl rfl)) ?_
    refine t_qz 3 [4] (σ' := [(4, .bool (a0_Y == b1_Y))]) (by kernel_rfl) ?_
    refine t_end ?_
    show W _ _ _ _ _ _ _
    refine w_ret ?_
    obtain rfl := Option.some.inj e
    exact ⟨[.bool (a0_Y == b1_Y)], [], S, ⟨rfl, trivial⟩, VS.none, rfl, rfl, rfl⟩
  · rw [if_neg c362] at e
    have c362b : (a0_X == b1_X) = false := beq_eq_false_iff_ne.mpr c362
    refine t_v (dv_quiet rfl (congrArg (fun t => some (Value.bool t)) c362b)) ?_
    refine t_qz 8 [4] (σ' := [(4, .bool false)]) (by kernel_rfl) ?_
    refine t_end ?_
    show W _ _ _ _ _ _ _
    refine w_ret ?_
    obtain rfl := Option.some.inj e
    exact ⟨[.bool false], [], S, ⟨rfl, trivial⟩, VS.none, rfl, rfl, rfl⟩

def flatten_points_v3.f (s0_1 : Int) (s0_2 : Int) (s0_3 : Int) (s0_4 : Int) (s0_5 : Int) (s0_6 : Int) : Option (Int × Int × Int × Int × Int × Int × Int) := some (2, s0_1, s0_2, s0_3, s0_4, s0_5, s0_6)
theorem flatten_points_v3.ok {S : Seal} {s0_1 : Int} {s0_2 : Int} {s0_3 : Int} {s0_4 : Int} {s0_5 : Int} {s0_6 : Int} {r0_ : Int} {r1_ : Int} {r2_ : Int} {r3_ : Int} {r4_ : Int} {r5_ : Int} {r6_ : Int}(e : flatten_points_v3.f s0_1 s0_2 s0_3 s0_4 s0_5 s0_6 = some (r0_, r1_, r2_, r3_, r4_, r5_, r6_)) :
    Cal Try.prog 70 [.agg #[.int .i64 2, .int .i64 s0_1, .int .i64 s0_2, .int .i64 s0_3, .int .i64 s0_4, .int .i64 s0_5, .int .i64 s0_6]] [] S fun v H' S' => ∃ (N0_ : Nat) , v = .slice (some ⟨N0_, 1, none⟩) 2 3 ∧ H' = ([⟨N0_, [.int .i64 r0_, .int .i64 r1_, .int .i64 r2_, .int .i64 r3_, .int .i64 r4_, .int .i64 r5_, .int .i64 r6_], 7⟩] : List Own) ∧ S' = S := by
  unfold flatten_points_v3.f at e
  refine cal_of (c := c70) (N := 15) Try.func70 rfl rfl (by kernel_rfl) (rs := [.t 2]) (by kernel_rfl) (Nat.le_of_ble_eq_true rfl) ?_
  unfold c70
  refine w_seq ?_
  refine w_reg fun all => ?_
  refine t_a (.box rfl rfl rfl) fun b372 fb372 sb372 => ?_
  refine t_qz 1 [1] (σ' := [(1, .pointer (some ⟨b372, 0, none⟩))]) (by kernel_rfl) ?_
  refine t_end ?_
  show W _ _ _ _ _ _ _
  refine w_seq ?_
  refine w_seq ?_
  refine w_reg fun all => ?_
  refine t_qz 1 [1, 3] (σ' := [(1, .pointer (some ⟨b372, 0, none⟩)), (3, .pointer (some ⟨b372, 0, none⟩))]) (by kernel_rfl) ?_
  refine t_v (.ld1 rfl rfl rfl (.at 0 rfl rfl)) ?_
  refine t_qz 3 [1, 6, 7] (σ' := [(1, .pointer (some ⟨b372, 0, none⟩)), (6, .bool false), (7, .pointer (some ⟨b372, 0, none⟩))]) (by kernel_rfl) ?_
  refine t_v (.ld1 rfl rfl rfl (.at 0 rfl rfl)) ?_
  refine t_qz 2 [1, 10] (σ' := [(1, .pointer (some ⟨b372, 0, none⟩)), (10, .bool false)]) (by kernel_rfl) ?_
  refine t_end ?_
  show W _ _ _ _ _ _ _
  refine w_cond rfl (fun c_ => by cases c_) (fun _ => ?_)
  show W _ _ _ _ _ _ _
  refine w_skip ?_
  show W _ _ _ _ _ _ _
  refine w_seq ?_
  refine w_reg fun all => ?_
  refine t_qz 2 [11, 12] (σ' := [(11, .pointer (some ⟨b372, 1, none⟩)), (12, .pointer (some ⟨b372, 0, none⟩))]) (by kernel_rfl) ?_
  refine t_v (.ld1 rfl rfl rfl (.at 0 rfl rfl)) ?_
  refine t_qz 2 [2] (σ' := [(2, .slice (some ⟨b372, 1, none⟩) 2 3)]) (by kernel_rfl) ?_
  refine t_end ?_
  show W _ _ _ _ _ _ _
  refine w_ret ?_
  simp only [Option.some.injEq, Prod.mk.injEq] at e
  obtain ⟨rfl, rfl, rfl, rfl, rfl, rfl, rfl⟩ := e
  exact ⟨[.slice (some ⟨b372, 1, none⟩) 2 3], ([⟨b372, [.int .i64 2, .int .i64 s0_1, .int .i64 s0_2, .int .i64 s0_3, .int .i64 s0_4, .int .i64 s0_5, .int .i64 s0_6], 7⟩] : List Own), S, ⟨rfl, trivial⟩, VS.sel [0] (by kernel_rfl), b372, rfl, rfl, rfl⟩

def flatten_mix_v4.f (i0 : Int) (n1 : Int) (m0_0 : Int) (m0_1 : Int) (m0_2 : Int) : Option (Int) := (fixed_Round.f (wr64 ((wr64 ((wr64 ((wr64 ((wr64 (n1 - i0)) * (wr64 (n1 - i0)))) * m0_0)) + (wr64 ((wr64 ((wr64 (2 * i0)) * (wr64 (n1 - i0)))) * m0_1)))) + (wr64 ((wr64 (i0 * i0)) * m0_2)))) (wr64 (n1 * n1))).bind fun t392 => (some t392)
theorem flatten_mix_v4.ok {S : Seal} {B0 nB0 : Nat} {i0 : Int} {n1 : Int} {m0_0 : Int} {m0_1 : Int} {m0_2 : Int} {r0_ : Int}(e : flatten_mix_v4.f i0 n1 m0_0 m0_1 m0_2 = some r0_) :
    Cal Try.prog 71 [.int .i64 i0, .int .i64 n1, .slice (some ⟨B0, 0, none⟩) 3 (nB0 / 1)] ([⟨B0, [.int .i64 m0_0, .int .i64 m0_1, .int .i64 m0_2], nB0⟩] : List Own) S fun v H' S' => v = .int .i64 r0_ ∧ H' = ([⟨B0, [.int .i64 m0_0, .int .i64 m0_1, .int .i64 m0_2], nB0⟩] : List Own) ∧ S' = S := by
  unfold flatten_mix_v4.f at e
  refine cal_of (c := c71) (N := 110) Try.func71 rfl rfl (by kernel_rfl) (rs := [.t 6]) (by kernel_rfl) (Nat.le_of_ble_eq_true rfl) ?_
  unfold c71
  refine w_seq ?_
  refine w_reg fun all => ?_
  refine t_qz 1 [0, 1, 2] (σ' := [(0, .int .i64 i0), (1, .int .i64 n1), (2, .slice (some ⟨B0, 0, none⟩) 3 (nB0 / 1))]) (by kernel_rfl) ?_
  refine t_end ?_
  show W _ _ _ _ _ _ _
  refine w_seq ?_
  refine w_reg fun all => ?_
  refine t_qz 4 [0, 1, 2, 7] (σ' := [(0, .int .i64 i0), (1, .int .i64 n1), (2, .slice (some ⟨B0, 0, none⟩) 3 (nB0 / 1)), (7, .int .i64 (wr64 (n1 - i0)))]) (by kernel_rfl) ?_
  refine t_end ?_
  show W _ _ _ _ _ _ _
  refine w_seq ?_
  refine w_seq ?_
  refine w_reg fun all => ?_
  refine t_qz 2 [0, 1, 2, 7, 12] (σ' := [(0, .int .i64 i0), (1, .int .i64 n1), (2, .slice (some ⟨B0, 0, none⟩) 3 (nB0 / 1)), (7, .int .i64 (wr64 (n1 - i0))), (12, .int .i64 3)]) (by kernel_rfl) ?_
  refine t_end ?_
  show W _ _ _ _ _ _ _
  refine w_block ?_
  refine w_seq ?_
  refine w_reg fun all => ?_
  refine t_qz 2 [0, 1, 2, 7, 12, 13] (σ' := [(0, .int .i64 i0), (1, .int .i64 n1), (2, .slice (some ⟨B0, 0, none⟩) 3 (nB0 / 1)), (7, .int .i64 (wr64 (n1 - i0))), (12, .int .i64 3), (13, .bool false)]) (by kernel_rfl) ?_
  refine t_end ?_
  show W _ _ _ _ _ _ _
  refine w_cond rfl (fun c_ => by cases c_) (fun _ => ?_)
  show W _ _ _ _ _ _ _
  refine w_seq ?_
  refine w_reg fun all => ?_
  refine t_qz 2 [0, 1, 2, 7, 12, 18] (σ' := [(0, .int .i64 i0), (1, .int .i64 n1), (2, .slice (some ⟨B0, 0, none⟩) 3 (nB0 / 1)), (7, .int .i64 (wr64 (n1 - i0))), (12, .int .i64 3), (18, .bool false)]) (by kernel_rfl) ?_
  refine t_end ?_
  show W _ _ _ _ _ _ _
  refine w_cond rfl (fun c_ => by cases c_) (fun _ => ?_)
  show W _ _ _ _ _ _ _
  refine w_seq ?_
  refine w_reg fun all => ?_
  refine t_qz 2 [0, 1, 2, 7, 33] (σ' := [(0, .int .i64 i0), (1, .int .i64 n1), (2, .slice (some ⟨B0, 0, none⟩) 3 (nB0 / 1)), (7, .int .i64 (wr64 (n1 - i0))), (33, .bool true)]) (by kernel_rfl) ?_
  refine t_end ?_
  show W _ _ _ _ _ _ _
  refine w_cond rfl (fun _ => ?_) (fun c_ => by cases c_)
  show W _ _ _ _ _ _ _
  refine w_seq ?_
  obtain ⟨t392, h393, e⟩ := bind_of e
  refine w_drwE mixed 29 [.v (.int .i64 (wr64 (n1 - i0))), .v (.int .i64 (wr64 (n1 - i0))), .v (.int .i64 (wr64 ((wr64 (n1 - i0)) * (wr64 (n1 - i0))))), .v (.slice (some ⟨B0, 0, none⟩) 3 (nB0 / 1)), .v (.pointer (some ⟨B0, 0, none⟩)), .v (.int .i64 m0_0), .v (.int .i64 (wr64 ((wr64 ((wr64 (n1 - i0)) * (wr64 (n1 - i0)))) * m0_0))), .v (.int .i64 i0), .v (.int .i64 (wr64 (2 * i0))), .v (.int .i64 (wr64 (n1 - i0))), .v (.int .i64 (wr64 ((wr64 (2 * i0)) * (wr64 (n1 - i0))))), .v (.slice (some ⟨B0, 0, none⟩) 3 (nB0 / 1)), .v (.pointer (some ⟨B0, 1, none⟩)), .v (.int .i64 m0_1), .v (.int .i64 (wr64 ((wr64 ((wr64 (2 * i0)) * (wr64 (n1 - i0)))) * m0_1))), .v (.int .i64 (wr64 ((wr64 ((wr64 ((wr64 (n1 - i0)) * (wr64 (n1 - i0)))) * m0_0)) + (wr64 ((wr64 ((wr64 (2 * i0)) * (wr64 (n1 - i0)))) * m0_1))))), .v (.int .i64 i0), .v (.int .i64 i0), .v (.int .i64 (wr64 (i0 * i0))), .v (.slice (some ⟨B0, 0, none⟩) 3 (nB0 / 1)), .v (.pointer (some ⟨B0, 2, none⟩)), .v (.int .i64 m0_2), .v (.int .i64 (wr64 ((wr64 (i0 * i0)) * m0_2))), .v (.int .i64 (wr64 ((wr64 ((wr64 ((wr64 ((wr64 (n1 - i0)) * (wr64 (n1 - i0)))) * m0_0)) + (wr64 ((wr64 ((wr64 (2 * i0)) * (wr64 (n1 - i0)))) * m0_1)))) + (wr64 ((wr64 (i0 * i0)) * m0_2))))), .v (.int .i64 n1), .v (.int .i64 n1), .v (.int .i64 (wr64 (n1 * n1))), .v (.int .i64 t392), .v (.int .i64 t392)] (by kernel_rfl) ?_ ?_
  · refine DI.sq 5 (by kernel_rfl) rfl ?_
    refine .cons (.ld1 rfl rfl rfl (.at 0 rfl rfl)) ?_
    refine DI.sq 7 (by kernel_rfl) rfl ?_
    refine .cons (.ld1 rfl rfl rfl (.at 0 rfl rfl)) ?_
    refine DI.sq 7 (by kernel_rfl) rfl ?_
    refine .cons (.ld1 rfl rfl rfl (.at 0 rfl rfl)) ?_
    refine DI.sq 5 (by kernel_rfl) rfl ?_
    refine .cons (.call (vs := [.int .i64 (wr64 ((wr64 ((wr64 ((wr64 ((wr64 (n1 - i0)) * (wr64 (n1 - i0)))) * m0_0)) + (wr64 ((wr64 ((wr64 (2 * i0)) * (wr64 (n1 - i0)))) * m0_1)))) + (wr64 ((wr64 (i0 * i0)) * m0_2)))), .int .i64 (wr64 (n1 * n1))]) rfl rfl (by kernel_rfl) (fixed_Round.ok h393)) ?_
    refine DI.sq 1 (by kernel_rfl) rfl ?_
    exact .nil
  refine fk_q 29 [6] (σ' := [(6, .int .i64 t392)]) t_more (by kernel_rfl) ?_
  refine fk_nil fun all => ?_
  refine t_keep [6] (σ' := [(6, .int .i64 t392)]) (by kernel_rfl) ?_
  refine t_end ?_
  show W _ _ _ _ _ _ _
  refine w_ret ?_
  obtain rfl := Option.some.inj e
  exact ⟨[.int .i64 t392], ([⟨B0, [.int .i64 m0_0, .int .i64 m0_1, .int .i64 m0_2], nB0⟩] : List Own), S, ⟨rfl, trivial⟩, VS.sel [0] (by kernel_rfl), rfl, rfl, rfl⟩

def flatten_Point_v3.f (a0_0 : Int) (a0_1 : Int) (s1_1 : Int) (s1_2 : Int) (s1_3 : Int) (s1_4 : Int) (s1_5 : Int) (s1_6 : Int) (i2 : Int) (n3 : Int) : Option (Int × Int) := (flatten_points_v3.f s1_1 s1_2 s1_3 s1_4 s1_5 s1_6).bind fun (t373, t374, t375, t376, t377, t378, t379) => ((flatten_mix_v4.f i2 n3 a0_0 t374 t376).bind fun t394 => ((flatten_mix_v4.f i2 n3 a0_1 t375 t377).bind fun t396 => (some (t394, t396))))
theorem flatten_Point_v3.ok {S : Seal} {a0_0 : Int} {a0_1 : Int} {s1_1 : Int} {s1_2 : Int} {s1_3 : Int} {s1_4 : Int} {s1_5 : Int} {s1_6 : Int} {i2 : Int} {n3 : Int} {r0_ : Int} {r1_ : Int}(e : flatten_Point_v3.f a0_0 a0_1 s1_1 s1_2 s1_3 s1_4 s1_5 s1_6 i2 n3 = some (r0_, r1_)) :
    Cal Try.prog 31 [.agg #[.int .i64 a0_0, .int .i64 a0_1], .agg #[.int .i64 2, .int .i64 s1_1, .int .i64 s1_2, .int .i64 s1_3, .int .i64 s1_4, .int .i64 s1_5, .int .i64 s1_6], .int .i64 i2, .int .i64 n3] [] S fun v H' S' => v = .agg #[.int .i64 r0_, .int .i64 r1_] ∧ H' = [] ∧ S' = S := by
  unfold flatten_Point_v3.f at e
  refine cal_of (c := c31) (N := 46) Try.func31 rfl rfl (by kernel_rfl) (rs := [.cn 2 8]) (by kernel_rfl) (Nat.le_of_ble_eq_true rfl) ?_
  unfold c31
  refine w_seq ?_
  refine w_reg fun all => ?_
  refine t_a (.box rfl rfl rfl) fun b367 fb367 sb367 => ?_
  refine t_a (.box rfl rfl rfl) fun b368 fb368 sb368 => ?_
  refine t_a (.new rfl rfl) fun b369 fb369 sb369 => ?_
  refine t_keep [2, 3, 4, 5, 8] (σ' := [(2, .int .i64 i2), (3, .int .i64 n3), (4, .pointer (some ⟨b367, 0, none⟩)), (5, .pointer (some ⟨b368, 0, none⟩)), (8, .pointer (some ⟨b369, 0, none⟩))]) (by kernel_rfl) ?_
  refine t_end ?_
  show W _ _ _ _ _ _ _
  refine w_seq ?_
  refine w_kp [2, 3, 4, 5, 8] (σ' := [(2, .int .i64 i2), (3, .int .i64 n3), (4, .pointer (some ⟨b367, 0, none⟩)), (5, .pointer (some ⟨b368, 0, none⟩)), (8, .pointer (some ⟨b369, 0, none⟩))]) (by kernel_rfl) ?_
  refine w_gameQ mixed (by kernel_rfl) fun all G hend hstep hqf => ?_
  have hg_ff : ∀ (g371 : Nat) (g370 : Nat), G [true, true, true, true, true, true, true, true] [(2, .int .i64 i2), (3, .int .i64 n3), (5, .pointer (some ⟨b368, 0, none⟩)), (8, .pointer (some ⟨b369, 0, none⟩)), (9, .slice (some ⟨g370, 0, none⟩) 1 1), (10, .slice (some ⟨g371, 0, none⟩) 1 1)] ([⟨g371, [.int .i64 a0_1], 1⟩, ⟨g370, [.int .i64 a0_0], 1⟩, ⟨b369, [.int .i64 0, .int .i64 0], 2⟩, ⟨b368, [.int .i64 2, .int .i64 s1_1, .int .i64 s1_2, .int .i64 s1_3, .int .i64 s1_4, .int .i64 s1_5, .int .i64 s1_6], 7⟩, ⟨b367, [.int .i64 a0_0, .int .i64 a0_1], 2⟩] : List Own) := by
    intro g371 g370
    refine hend _ _ _ (by kernel_rfl) ?_
    show W _ _ _ _ _ _ _
    refine w_seq ?_
    refine w_seq ?_
    refine w_reg fun all => ?_
    refine t_v (.ldn rfl rfl rfl (.at 3 rfl rfl)) ?_
    obtain ⟨⟨t373, t374, t375, t376, t377, t378, t379⟩, h380, e⟩ := bind_of e
    try dsimp only at e
    refine t_call (vs := [.agg #[.int .i64 2, .int .i64 s1_1, .int .i64 s1_2, .int .i64 s1_3, .int .i64 s1_4, .int .i64 s1_5, .int .i64 s1_6]]) (H1 := ([] : List Own)) (F := ([⟨g371, [.int .i64 a0_1], 1⟩, ⟨g370, [.int .i64 a0_0], 1⟩, ⟨b369, [.int .i64 0, .int .i64 0], 2⟩, ⟨b368, [.int .i64 2, .int .i64 s1_1, .int .i64 s1_2, .int .i64 s1_3, .int .i64 s1_4, .int .i64 s1_5, .int .i64 s1_6], 7⟩, ⟨b367, [.int .i64 a0_0, .int .i64 a0_1], 2⟩] : List Own)) rfl rfl (by kernel_rfl) (sel_perm (is := []) (by kernel_rfl)) (flatten_points_v3.ok h380) ?_
    rintro _ _ S_ ⟨N381, rfl, rfl, hS_⟩
    obtain rfl := hS_.symm
    refine t_qz 2 [2, 3, 8, 9, 10, 20, 21, 22] (σ' := [(2, .int .i64 i2), (3, .int .i64 n3), (8, .pointer (some ⟨b369, 0, none⟩)), (9, .slice (some ⟨g370, 0, none⟩) 1 1), (10, .slice (some ⟨g371, 0, none⟩) 1 1), (20, .slice (some ⟨N381, 1, none⟩) 2 3), (21, .int .i64 2), (22, .int .i64 0)]) (by kernel_rfl) ?_
    refine t_end ?_
    show W _ _ _ _ _ _ _
    refine w_block ?_
    refine w_lun 10 ?_
    refine wl_step ?_
    refine w_seq ?_
    refine w_reg fun all => ?_
    refine t_qz 1 [2, 3, 8, 9, 10, 20, 21, 22, 23] (σ' := [(2, .int .i64 i2), (3, .int .i64 n3), (8, .pointer (some ⟨b369, 0, none⟩)), (9, .slice (some ⟨g370, 0, none⟩) 1 1), (10, .slice (some ⟨g371, 0, none⟩) 1 1), (20, .slice (some ⟨N381, 1, none⟩) 2 3), (21, .int .i64 2), (22, .int .i64 0), (23, .bool true)]) (by kernel_rfl) ?_
    refine t_end ?_
    show W _ _ _ _ _ _ _
    refine w_seq ?_
    refine w_cond rfl (fun _ => ?_) (fun c_ => by cases c_)
    show W _ _ _ _ _ _ _
    refine w_skip ?_
    show W _ _ _ _ _ _ _
    refine w_seq ?_
    refine w_block ?_
    refine w_seq ?_
    refine w_reg fun all => ?_
    refine t_qz 1 [2, 3, 8, 9, 10, 20, 21, 22, 24] (σ' := [(2, .int .i64 i2), (3, .int .i64 n3), (8, .pointer (some ⟨b369, 0, none⟩)), (9, .slice (some ⟨g370, 0, none⟩) 1 1), (10, .slice (some ⟨g371, 0, none⟩) 1 1), (20, .slice (some ⟨N381, 1, none⟩) 2 3), (21, .int .i64 2), (22, .int .i64 0), (24, .pointer (some ⟨N381, 1, none⟩))]) (by kernel_rfl) ?_
    refine t_v (.ldn rfl rfl rfl (.at 0 rfl rfl)) ?_
    refine t_a (.new rfl rfl) fun b382 fb382 sb382 => ?_
    refine t_sti 0 (cs := [.int .i64 t374, .int .i64 t375]) rfl rfl rfl rfl rfl rfl rfl rfl rfl ?_
    refine t_keep [2, 3, 8, 9, 10, 12, 20, 21, 22] (σ' := [(2, .int .i64 i2), (3, .int .i64 n3), (8, .pointer (some ⟨b369, 0, none⟩)), (9, .slice (some ⟨g370, 0, none⟩) 1 1), (10, .slice (some ⟨g371, 0, none⟩) 1 1), (12, .pointer (some ⟨b382, 0, none⟩)), (20, .slice (some ⟨N381, 1, none⟩) 2 3), (21, .int .i64 2), (22, .int .i64 0)]) (by kernel_rfl) ?_
    refine t_end ?_
    show W _ _ _ _ _ _ _
    refine w_kp [2, 3, 8, 9, 10, 12, 20, 21, 22] (σ' := [(2, .int .i64 i2), (3, .int .i64 n3), (8, .pointer (some ⟨b369, 0, none⟩)), (9, .slice (some ⟨g370, 0, none⟩) 1 1), (10, .slice (some ⟨g371, 0, none⟩) 1 1), (12, .pointer (some ⟨b382, 0, none⟩)), (20, .slice (some ⟨N381, 1, none⟩) 2 3), (21, .int .i64 2), (22, .int .i64 0)]) (by kernel_rfl) ?_
    refine w_gameQ mixed (by kernel_rfl) fun all G hend hstep hqf => ?_
    have hg_fff : ∀ (g386 : Nat) (ng386 : Nat) (g385 : Nat) (g384 : Nat) (ng384 : Nat) (g383 : Nat), G [true, true, true, true, true, true, true, true, true, true, true, true] [(2, .int .i64 i2), (3, .int .i64 n3), (8, .pointer (some ⟨b369, 0, none⟩)), (9, .slice (some ⟨g384, 0, none⟩) 2 (ng384 / 1)), (10, .slice (some ⟨g386, 0, none⟩) 2 (ng386 / 1)), (20, .slice (some ⟨N381, 1, none⟩) 2 3), (21, .int .i64 2), (22, .int .i64 0)] ([⟨g386, [.int .i64 a0_1, .int .i64 t375], ng386⟩, ⟨g385, [.int .i64 t375], 1⟩, ⟨g384, [.int .i64 a0_0, .int .i64 t374], ng384⟩, ⟨g383, [.int .i64 t374], 1⟩, ⟨b382, [.int .i64 t374, .int .i64 t375], 2⟩, ⟨N381, [.int .i64 t373, .int .i64 t374, .int .i64 t375, .int .i64 t376, .int .i64 t377, .int .i64 t378, .int .i64 t379], 7⟩, ⟨b369, [.int .i64 0, .int .i64 0], 2⟩, ⟨b368, [.int .i64 2, .int .i64 s1_1, .int .i64 s1_2, .int .i64 s1_3, .int .i64 s1_4, .int .i64 s1_5, .int .i64 s1_6], 7⟩, ⟨b367, [.int .i64 a0_0, .int .i64 a0_1], 2⟩] : List Own) := by
      intro g386 ng386 g385 g384 ng384 g383
      refine hend _ _ _ (by kernel_rfl) ?_
      show W _ _ _ _ _ _ _
      refine w_reg fun all => ?_
      refine t_qz 2 [2, 3, 8, 9, 10, 20, 21, 22] (σ' := [(2, .int .i64 i2), (3, .int .i64 n3), (8, .pointer (some ⟨b369, 0, none⟩)), (9, .slice (some ⟨g384, 0, none⟩) 2 (ng384 / 1)), (10, .slice (some ⟨g386, 0, none⟩) 2 (ng386 / 1)), (20, .slice (some ⟨N381, 1, none⟩) 2 3), (21, .int .i64 2), (22, .int .i64 1)]) (by kernel_rfl) ?_
      refine t_end ?_
      show WL _ _ _ _ _ _ _ _
      refine wl_step ?_
      refine w_seq ?_
      refine w_reg fun all => ?_
      refine t_qz 1 [2, 3, 8, 9, 10, 20, 21, 22, 23] (σ' := [(2, .int .i64 i2), (3, .int .i64 n3), (8, .pointer (some ⟨b369, 0, none⟩)), (9, .slice (some ⟨g384, 0, none⟩) 2 (ng384 / 1)), (10, .slice (some ⟨g386, 0, none⟩) 2 (ng386 / 1)), (20, .slice (some ⟨N381, 1, none⟩) 2 3), (21, .int .i64 2), (22, .int .i64 1), (23, .bool true)]) (by kernel_rfl) ?_
      refine t_end ?_
      show W _ _ _ _ _ _ _
      refine w_seq ?_
      refine w_cond rfl (fun _ => ?_) (fun c_ => by cases c_)
      show W _ _ _ _ _ _ _
      refine w_skip ?_
      show W _ _ _ _ _ _ _
      refine w_seq ?_
      refine w_block ?_
      refine w_seq ?_
      refine w_reg fun all => ?_
      refine t_qz 1 [2, 3, 8, 9, 10, 20, 21, 22, 24] (σ' := [(2, .int .i64 i2), (3, .int .i64 n3), (8, .pointer (some ⟨b369, 0, none⟩)), (9, .slice (some ⟨g384, 0, none⟩) 2 (ng384 / 1)), (10, .slice (some ⟨g386, 0, none⟩) 2 (ng386 / 1)), (20, .slice (some ⟨N381, 1, none⟩) 2 3), (21, .int .i64 2), (22, .int .i64 1), (24, .pointer (some ⟨N381, 3, none⟩))]) (by kernel_rfl) ?_
      refine t_v (.ldn rfl rfl rfl (.at 5 rfl rfl)) ?_
      refine t_a (.new rfl rfl) fun b387 fb387 sb387 => ?_
      refine t_sti 0 (cs := [.int .i64 t376, .int .i64 t377]) rfl rfl rfl rfl rfl rfl rfl rfl rfl ?_
      refine t_keep [2, 3, 8, 9, 10, 12, 20, 21, 22] (σ' := [(2, .int .i64 i2), (3, .int .i64 n3), (8, .pointer (some ⟨b369, 0, none⟩)), (9, .slice (some ⟨g384, 0, none⟩) 2 (ng384 / 1)), (10, .slice (some ⟨g386, 0, none⟩) 2 (ng386 / 1)), (12, .pointer (some ⟨b387, 0, none⟩)), (20, .slice (some ⟨N381, 1, none⟩) 2 3), (21, .int .i64 2), (22, .int .i64 1)]) (by kernel_rfl) ?_
      refine t_end ?_
      show W _ _ _ _ _ _ _
      refine w_kp [2, 3, 8, 9, 10, 12, 20, 21, 22] (σ' := [(2, .int .i64 i2), (3, .int .i64 n3), (8, .pointer (some ⟨b369, 0, none⟩)), (9, .slice (some ⟨g384, 0, none⟩) 2 (ng384 / 1)), (10, .slice (some ⟨g386, 0, none⟩) 2 (ng386 / 1)), (12, .pointer (some ⟨b387, 0, none⟩)), (20, .slice (some ⟨N381, 1, none⟩) 2 3), (21, .int .i64 2), (22, .int .i64 1)]) (by kernel_rfl) ?_
      refine w_gameQ mixed (by kernel_rfl) fun all G hend hstep hqf => ?_
      have hg_fff : ∀ (g391 : Nat) (ng391 : Nat) (g390 : Nat) (g389 : Nat) (ng389 : Nat) (g388 : Nat), G [true, true, true, true, true, true, true, true, true, true, true, true] [(2, .int .i64 i2), (3, .int .i64 n3), (8, .pointer (some ⟨b369, 0, none⟩)), (9, .slice (some ⟨g389, 0, none⟩) 3 (ng389 / 1)), (10, .slice (some ⟨g391, 0, none⟩) 3 (ng391 / 1)), (20, .slice (some ⟨N381, 1, none⟩) 2 3), (21, .int .i64 2), (22, .int .i64 1)] ([⟨g391, [.int .i64 a0_1, .int .i64 t375, .int .i64 t377], ng391⟩, ⟨g390, [.int .i64 t377], 1⟩, ⟨g389, [.int .i64 a0_0, .int .i64 t374, .int .i64 t376], ng389⟩, ⟨g388, [.int .i64 t376], 1⟩, ⟨b387, [.int .i64 t376, .int .i64 t377], 2⟩, ⟨g385, [.int .i64 t375], 1⟩, ⟨g383, [.int .i64 t374], 1⟩, ⟨b382, [.int .i64 t374, .int .i64 t375], 2⟩, ⟨N381, [.int .i64 t373, .int .i64 t374, .int .i64 t375, .int .i64 t376, .int .i64 t377, .int .i64 t378, .int .i64 t379], 7⟩, ⟨b369, [.int .i64 0, .int .i64 0], 2⟩, ⟨b368, [.int .i64 2, .int .i64 s1_1, .int .i64 s1_2, .int .i64 s1_3, .int .i64 s1_4, .int .i64 s1_5, .int .i64 s1_6], 7⟩, ⟨b367, [.int .i64 a0_0, .int .i64 a0_1], 2⟩] : List Own) := by
        intro g391 ng391 g390 g389 ng389 g388
        refine hend _ _ _ (by kernel_rfl) ?_
        show W _ _ _ _ _ _ _
        refine w_reg fun all => ?_
        refine t_qz 2 [2, 3, 8, 9, 10, 20, 21, 22] (σ' := [(2, .int .i64 i2), (3, .int .i64 n3), (8, .pointer (some ⟨b369, 0, none⟩)), (9, .slice (some ⟨g389, 0, none⟩) 3 (ng389 / 1)), (10, .slice (some ⟨g391, 0, none⟩) 3 (ng391 / 1)), (20, .slice (some ⟨N381, 1, none⟩) 2 3), (21, .int .i64 2), (22, .int .i64 2)]) (by kernel_rfl) ?_
        refine t_end ?_
        show WL _ _ _ _ _ _ _ _
        refine wl_step ?_
        refine w_seq ?_
        refine w_reg fun all => ?_
        refine t_qz 1 [2, 3, 8, 9, 10, 20, 21, 22, 23] (σ' := [(2, .int .i64 i2), (3, .int .i64 n3), (8, .pointer (some ⟨b369, 0, none⟩)), (9, .slice (some ⟨g389, 0, none⟩) 3 (ng389 / 1)), (10, .slice (some ⟨g391, 0, none⟩) 3 (ng391 / 1)), (20, .slice (some ⟨N381, 1, none⟩) 2 3), (21, .int .i64 2), (22, .int .i64 2), (23, .bool false)]) (by kernel_rfl) ?_
        refine t_end ?_
        show W _ _ _ _ _ _ _
        refine w_seq ?_
        refine w_cond rfl (fun c_ => by cases c_) (fun _ => ?_)
        show W _ _ _ _ _ _ _
        refine w_exit ?_
        show W _ _ _ _ _ _ _
        refine w_seq ?_
        refine w_reg fun all => ?_
        obtain ⟨t394, h395, e⟩ := bind_of e
        refine t_qz 3 [2, 3, 8, 10, 37, 38, 39] (σ' := [(2, .int .i64 i2), (3, .int .i64 n3), (8, .pointer (some ⟨b369, 0, none⟩)), (10, .slice (some ⟨g391, 0, none⟩) 3 (ng391 / 1)), (37, .int .i64 i2), (38, .int .i64 n3), (39, .slice (some ⟨g389, 0, none⟩) 3 (ng389 / 1))]) (by kernel_rfl) ?_
        refine t_v (.callr (vs := [.int .i64 i2, .int .i64 n3, .slice (some ⟨g389, 0, none⟩) 3 (ng389 / 1)]) (A := ([⟨g389, [.int .i64 a0_0, .int .i64 t374, .int .i64 t376], ng389⟩] : List Own)) (F0 := ([⟨g391, [.int .i64 a0_1, .int .i64 t375, .int .i64 t377], ng391⟩, ⟨g390, [.int .i64 t377], 1⟩, ⟨g388, [.int .i64 t376], 1⟩, ⟨b387, [.int .i64 t376, .int .i64 t377], 2⟩, ⟨g385, [.int .i64 t375], 1⟩, ⟨g383, [.int .i64 t374], 1⟩, ⟨b382, [.int .i64 t374, .int .i64 t375], 2⟩, ⟨N381, [.int .i64 t373, .int .i64 t374, .int .i64 t375, .int .i64 t376, .int .i64 t377, .int .i64 t378, .int .i64 t379], 7⟩, ⟨b369, [.int .i64 0, .int .i64 0], 2⟩, ⟨b368, [.int .i64 2, .int .i64 s1_1, .int .i64 s1_2, .int .i64 s1_3, .int .i64 s1_4, .int .i64 s1_5, .int .i64 s1_6], 7⟩, ⟨b367, [.int .i64 a0_0, .int .i64 a0_1], 2⟩] : List Own)) rfl rfl (by kernel_rfl) (sel_perm (is := [2]) (by kernel_rfl)) (flatten_mix_v4.ok h395)) ?_
        obtain ⟨t396, h397, e⟩ := bind_of e
        refine t_qz 3 [8, 40, 41, 42, 43] (σ' := [(8, .pointer (some ⟨b369, 0, none⟩)), (40, .int .i64 t394), (41, .int .i64 i2), (42, .int .i64 n3), (43, .slice (some ⟨g391, 0, none⟩) 3 (ng391 / 1))]) (by kernel_rfl) ?_
        refine t_v (.callr (vs := [.int .i64 i2, .int .i64 n3, .slice (some ⟨g391, 0, none⟩) 3 (ng391 / 1)]) (A := ([⟨g391, [.int .i64 a0_1, .int .i64 t375, .int .i64 t377], ng391⟩] : List Own)) (F0 := ([⟨g390, [.int .i64 t377], 1⟩, ⟨g389, [.int .i64 a0_0, .int .i64 t374, .int .i64 t376], ng389⟩, ⟨g388, [.int .i64 t376], 1⟩, ⟨b387, [.int .i64 t376, .int .i64 t377], 2⟩, ⟨g385, [.int .i64 t375], 1⟩, ⟨g383, [.int .i64 t374], 1⟩, ⟨b382, [.int .i64 t374, .int .i64 t375], 2⟩, ⟨N381, [.int .i64 t373, .int .i64 t374, .int .i64 t375, .int .i64 t376, .int .i64 t377, .int .i64 t378, .int .i64 t379], 7⟩, ⟨b369, [.int .i64 0, .int .i64 0], 2⟩, ⟨b368, [.int .i64 2, .int .i64 s1_1, .int .i64 s1_2, .int .i64 s1_3, .int .i64 s1_4, .int .i64 s1_5, .int .i64 s1_6], 7⟩, ⟨b367, [.int .i64 a0_0, .int .i64 a0_1], 2⟩] : List Own)) rfl rfl (by kernel_rfl) (sel_perm (is := [0]) (by kernel_rfl)) (flatten_mix_v4.ok h397)) ?_
        refine t_qz 1 [8, 45] (σ' := [(8, .pointer (some ⟨b369, 0, none⟩)), (45, .agg #[.int .i64 t394, .int .i64 t396])]) (by kernel_rfl) ?_
        refine t_sti 9 (cs := [.int .i64 t394, .int .i64 t396]) rfl rfl rfl rfl rfl rfl rfl rfl rfl ?_
        refine t_keep [8] (σ' := [(8, .pointer (some ⟨b369, 0, none⟩))]) (by kernel_rfl) ?_
        refine t_end ?_
        show W _ _ _ _ _ _ _
        refine w_ret ?_
        simp only [Option.some.injEq, Prod.mk.injEq] at e
        obtain ⟨rfl, rfl⟩ := e
        exact ⟨[.agg #[.int .i64 t394, .int .i64 t396]], [], S, ⟨⟨_, _, _, rfl, .at 9 rfl rfl, rfl⟩, trivial⟩, VS.none, rfl, rfl, rfl⟩
      have hg_7ff : ∀ (g391 : Nat) (ng391 : Nat) (g390 : Nat) (g389 : Nat) (ng389 : Nat) (g388 : Nat), G [true, true, true, true, true, true, true, true, true, true, true, false] [(2, .int .i64 i2), (3, .int .i64 n3), (8, .pointer (some ⟨b369, 0, none⟩)), (9, .slice (some ⟨g389, 0, none⟩) 3 (ng389 / 1)), (10, .slice (some ⟨g386, 0, none⟩) 2 (ng386 / 1)), (20, .slice (some ⟨N381, 1, none⟩) 2 3), (21, .int .i64 2), (22, .int .i64 1), (35, .slice (some ⟨g391, 0, none⟩) 3 (ng391 / 1))] ([⟨g391, [.int .i64 a0_1, .int .i64 t375, .int .i64 t377], ng391⟩, ⟨g390, [.int .i64 t377], 1⟩, ⟨g389, [.int .i64 a0_0, .int .i64 t374, .int .i64 t376], ng389⟩, ⟨g388, [.int .i64 t376], 1⟩, ⟨b387, [.int .i64 t376, .int .i64 t377], 2⟩, ⟨g385, [.int .i64 t375], 1⟩, ⟨g383, [.int .i64 t374], 1⟩, ⟨b382, [.int .i64 t374, .int .i64 t375], 2⟩, ⟨N381, [.int .i64 t373, .int .i64 t374, .int .i64 t375, .int .i64 t376, .int .i64 t377, .int .i64 t378, .int .i64 t379], 7⟩, ⟨b369, [.int .i64 0, .int .i64 0], 2⟩, ⟨b368, [.int .i64 2, .int .i64 s1_1, .int .i64 s1_2, .int .i64 s1_3, .int .i64 s1_4, .int .i64 s1_5, .int .i64 s1_6], 7⟩, ⟨b367, [.int .i64 a0_0, .int .i64 a0_1], 2⟩] : List Own) := by
        intro g391 ng391 g390 g389 ng389 g388
        exact hqf 11 [2, 3, 8, 9, 10, 20, 21, 22] _ _ _ [(2, .int .i64 i2), (3, .int .i64 n3), (8, .pointer (some ⟨b369, 0, none⟩)), (9, .slice (some ⟨g389, 0, none⟩) 3 (ng389 / 1)), (10, .slice (some ⟨g391, 0, none⟩) 3 (ng391 / 1)), (20, .slice (some ⟨N381, 1, none⟩) 2 3), (21, .int .i64 2), (22, .int .i64 1)] (by kernel_rfl) (by kernel_rfl) (hg_fff g391 ng391 g390 g389 ng389 g388)
      have hg_3ff : ∀ (g391 : Nat) (ng391 : Nat) (g390 : Nat) (g389 : Nat) (ng389 : Nat) (g388 : Nat), G [true, true, true, true, true, true, true, true, true, true, false, false] [(2, .int .i64 i2), (3, .int .i64 n3), (8, .pointer (some ⟨b369, 0, none⟩)), (9, .slice (some ⟨g384, 0, none⟩) 2 (ng384 / 1)), (10, .slice (some ⟨g386, 0, none⟩) 2 (ng386 / 1)), (20, .slice (some ⟨N381, 1, none⟩) 2 3), (21, .int .i64 2), (22, .int .i64 1), (30, .slice (some ⟨g389, 0, none⟩) 3 (ng389 / 1)), (35, .slice (some ⟨g391, 0, none⟩) 3 (ng391 / 1))] ([⟨g391, [.int .i64 a0_1, .int .i64 t375, .int .i64 t377], ng391⟩, ⟨g390, [.int .i64 t377], 1⟩, ⟨g389, [.int .i64 a0_0, .int .i64 t374, .int .i64 t376], ng389⟩, ⟨g388, [.int .i64 t376], 1⟩, ⟨b387, [.int .i64 t376, .int .i64 t377], 2⟩, ⟨g385, [.int .i64 t375], 1⟩, ⟨g383, [.int .i64 t374], 1⟩, ⟨b382, [.int .i64 t374, .int .i64 t375], 2⟩, ⟨N381, [.int .i64 t373, .int .i64 t374, .int .i64 t375, .int .i64 t376, .int .i64 t377, .int .i64 t378, .int .i64 t379], 7⟩, ⟨b369, [.int .i64 0, .int .i64 0], 2⟩, ⟨b368, [.int .i64 2, .int .i64 s1_1, .int .i64 s1_2, .int .i64 s1_3, .int .i64 s1_4, .int .i64 s1_5, .int .i64 s1_6], 7⟩, ⟨b367, [.int .i64 a0_0, .int .i64 a0_1], 2⟩] : List Own) := by
        intro g391 ng391 g390 g389 ng389 g388
        exact hqf 10 [2, 3, 8, 9, 10, 20, 21, 22, 35] _ _ _ [(2, .int .i64 i2), (3, .int .i64 n3), (8, .pointer (some ⟨b369, 0, none⟩)), (9, .slice (some ⟨g389, 0, none⟩) 3 (ng389 / 1)), (10, .slice (some ⟨g386, 0, none⟩) 2 (ng386 / 1)), (20, .slice (some ⟨N381, 1, none⟩) 2 3), (21, .int .i64 2), (22, .int .i64 1), (35, .slice (some ⟨g391, 0, none⟩) 3 (ng391 / 1))] (by kernel_rfl) (by kernel_rfl) (hg_7ff g391 ng391 g390 g389 ng389 g388)
      have hg_1ff : ∀ (g390 : Nat) (g389 : Nat) (ng389 : Nat) (g388 : Nat), G [true, true, true, true, true, true, true, true, true, false, false, false] [(2, .int .i64 i2), (3, .int .i64 n3), (8, .pointer (some ⟨b369, 0, none⟩)), (9, .slice (some ⟨g384, 0, none⟩) 2 (ng384 / 1)), (10, .slice (some ⟨g386, 0, none⟩) 2 (ng386 / 1)), (20, .slice (some ⟨N381, 1, none⟩) 2 3), (21, .int .i64 2), (22, .int .i64 1), (30, .slice (some ⟨g389, 0, none⟩) 3 (ng389 / 1)), (31, .slice (some ⟨g386, 0, none⟩) 2 (ng386 / 1)), (34, .slice (some ⟨g390, 0, none⟩) 1 1)] ([⟨g390, [.int .i64 t377], 1⟩, ⟨g389, [.int .i64 a0_0, .int .i64 t374, .int .i64 t376], ng389⟩, ⟨g388, [.int .i64 t376], 1⟩, ⟨b387, [.int .i64 t376, .int .i64 t377], 2⟩, ⟨g386, [.int .i64 a0_1, .int .i64 t375], ng386⟩, ⟨g385, [.int .i64 t375], 1⟩, ⟨g383, [.int .i64 t374], 1⟩, ⟨b382, [.int .i64 t374, .int .i64 t375], 2⟩, ⟨N381, [.int .i64 t373, .int .i64 t374, .int .i64 t375, .int .i64 t376, .int .i64 t377, .int .i64 t378, .int .i64 t379], 7⟩, ⟨b369, [.int .i64 0, .int .i64 0], 2⟩, ⟨b368, [.int .i64 2, .int .i64 s1_1, .int .i64 s1_2, .int .i64 s1_3, .int .i64 s1_4, .int .i64 s1_5, .int .i64 s1_6], 7⟩, ⟨b367, [.int .i64 a0_0, .int .i64 a0_1], 2⟩] : List Own) := by
        intro g390 g389 ng389 g388
        refine hstep [9] _ _ _ (by kernel_rfl) (List.cons_ne_nil _ _) ⟨?_, trivial⟩
        · show T _ _ _ _ _ _ _ _
          refine t_app1 (cs := [.int .i64 a0_1, .int .i64 t375]) (M := ng386) (F := ([⟨g390, [.int .i64 t377], 1⟩, ⟨g389, [.int .i64 a0_0, .int .i64 t374, .int .i64 t376], ng389⟩, ⟨g388, [.int .i64 t376], 1⟩, ⟨b387, [.int .i64 t376, .int .i64 t377], 2⟩, ⟨g385, [.int .i64 t375], 1⟩, ⟨g383, [.int .i64 t374], 1⟩, ⟨b382, [.int .i64 t374, .int .i64 t375], 2⟩, ⟨N381, [.int .i64 t373, .int .i64 t374, .int .i64 t375, .int .i64 t376, .int .i64 t377, .int .i64 t378, .int .i64 t379], 7⟩, ⟨b369, [.int .i64 0, .int .i64 0], 2⟩, ⟨b368, [.int .i64 2, .int .i64 s1_1, .int .i64 s1_2, .int .i64 s1_3, .int .i64 s1_4, .int .i64 s1_5, .int .i64 s1_6], 7⟩, ⟨b367, [.int .i64 a0_0, .int .i64 a0_1], 2⟩] : List Own)) (news := [.int .i64 t377]) rfl rfl rfl rfl (sel_perm (is := [4]) (by kernel_rfl)) (.at 0 rfl rfl) (by kernel_rfl) rfl rfl (by decide) (by decide) rfl fun g391 ng391 => ?_
          refine t_keep [2, 3, 8, 9, 10, 20, 21, 22, 30, 35] (σ' := [(2, .int .i64 i2), (3, .int .i64 n3), (8, .pointer (some ⟨b369, 0, none⟩)), (9, .slice (some ⟨g384, 0, none⟩) 2 (ng384 / 1)), (10, .slice (some ⟨g386, 0, none⟩) 2 (ng386 / 1)), (20, .slice (some ⟨N381, 1, none⟩) 2 3), (21, .int .i64 2), (22, .int .i64 1), (30, .slice (some ⟨g389, 0, none⟩) 3 (ng389 / 1)), (35, .slice (some ⟨g391, 0, none⟩) 3 (ng391 / 1))]) (by kernel_rfl) ?_
          refine t_end ?_
          exact ⟨hg_3ff g391 ng391 g390 g389 ng389 g388, rfl⟩
      have hg_ff : ∀ (g389 : Nat) (ng389 : Nat) (g388 : Nat), G [true, true, true, true, true, true, true, true, false, false, false, false] [(2, .int .i64 i2), (3, .int .i64 n3), (8, .pointer (some ⟨b369, 0, none⟩)), (9, .slice (some ⟨g384, 0, none⟩) 2 (ng384 / 1)), (10, .slice (some ⟨g386, 0, none⟩) 2 (ng386 / 1)), (20, .slice (some ⟨N381, 1, none⟩) 2 3), (21, .int .i64 2), (22, .int .i64 1), (30, .slice (some ⟨g389, 0, none⟩) 3 (ng389 / 1)), (31, .slice (some ⟨g386, 0, none⟩) 2 (ng386 / 1)), (33, .int .i64 t377)] ([⟨g389, [.int .i64 a0_0, .int .i64 t374, .int .i64 t376], ng389⟩, ⟨g388, [.int .i64 t376], 1⟩, ⟨b387, [.int .i64 t376, .int .i64 t377], 2⟩, ⟨g386, [.int .i64 a0_1, .int .i64 t375], ng386⟩, ⟨g385, [.int .i64 t375], 1⟩, ⟨g383, [.int .i64 t374], 1⟩, ⟨b382, [.int .i64 t374, .int .i64 t375], 2⟩, ⟨N381, [.int .i64 t373, .int .i64 t374, .int .i64 t375, .int .i64 t376, .int .i64 t377, .int .i64 t378, .int .i64 t379], 7⟩, ⟨b369, [.int .i64 0, .int .i64 0], 2⟩, ⟨b368, [.int .i64 2, .int .i64 s1_1, .int .i64 s1_2, .int .i64 s1_3, .int .i64 s1_4, .int .i64 s1_5, .int .i64 s1_6], 7⟩, ⟨b367, [.int .i64 a0_0, .int .i64 a0_1], 2⟩] : List Own) := by
        intro g389 ng389 g388
        refine hstep [8] _ _ _ (by kernel_rfl) (List.cons_ne_nil _ _) ⟨?_, trivial⟩
        · show T _ _ _ _ _ _ _ _
          refine t_a (.bsl rfl rfl rfl rfl) fun g390 fg390 sg390 => ?_
          refine t_keep [2, 3, 8, 9, 10, 20, 21, 22, 30, 31, 34] (σ' := [(2, .int .i64 i2), (3, .int .i64 n3), (8, .pointer (some ⟨b369, 0, none⟩)), (9, .slice (some ⟨g384, 0, none⟩) 2 (ng384 / 1)), (10, .slice (some ⟨g386, 0, none⟩) 2 (ng386 / 1)), (20, .slice (some ⟨N381, 1, none⟩) 2 3), (21, .int .i64 2), (22, .int .i64 1), (30, .slice (some ⟨g389, 0, none⟩) 3 (ng389 / 1)), (31, .slice (some ⟨g386, 0, none⟩) 2 (ng386 / 1)), (34, .slice (some ⟨g390, 0, none⟩) 1 1)]) (by kernel_rfl) ?_
          refine t_end ?_
          exact ⟨hg_1ff g390 g389 ng389 g388, rfl⟩
      have hg_1ef : ∀ (g390 : Nat) (g388 : Nat), G [true, true, true, true, false, true, true, true, true, false, false, false] [(2, .int .i64 i2), (3, .int .i64 n3), (8, .pointer (some ⟨b369, 0, none⟩)), (9, .slice (some ⟨g384, 0, none⟩) 2 (ng384 / 1)), (10, .slice (some ⟨g386, 0, none⟩) 2 (ng386 / 1)), (20, .slice (some ⟨N381, 1, none⟩) 2 3), (21, .int .i64 2), (22, .int .i64 1), (26, .slice (some ⟨g384, 0, none⟩) 2 (ng384 / 1)), (29, .slice (some ⟨g388, 0, none⟩) 1 1), (31, .slice (some ⟨g386, 0, none⟩) 2 (ng386 / 1)), (34, .slice (some ⟨g390, 0, none⟩) 1 1)] ([⟨g390, [.int .i64 t377], 1⟩, ⟨g388, [.int .i64 t376], 1⟩, ⟨b387, [.int .i64 t376, .int .i64 t377], 2⟩, ⟨g386, [.int .i64 a0_1, .int .i64 t375], ng386⟩, ⟨g385, [.int .i64 t375], 1⟩, ⟨g384, [.int .i64 a0_0, .int .i64 t374], ng384⟩, ⟨g383, [.int .i64 t374], 1⟩, ⟨b382, [.int .i64 t374, .int .i64 t375], 2⟩, ⟨N381, [.int .i64 t373, .int .i64 t374, .int .i64 t375, .int .i64 t376, .int .i64 t377, .int .i64 t378, .int .i64 t379], 7⟩, ⟨b369, [.int .i64 0, .int .i64 0], 2⟩, ⟨b368, [.int .i64 2, .int .i64 s1_1, .int .i64 s1_2, .int .i64 s1_3, .int .i64 s1_4, .int .i64 s1_5, .int .i64 s1_6], 7⟩, ⟨b367, [.int .i64 a0_0, .int .i64 a0_1], 2⟩] : List Own) := by
        intro g390 g388
        refine hstep [4] _ _ _ (by kernel_rfl) (List.cons_ne_nil _ _) ⟨?_, trivial⟩
        · show T _ _ _ _ _ _ _ _
          refine t_app1 (cs := [.int .i64 a0_0, .int .i64 t374]) (M := ng384) (F := ([⟨g390, [.int .i64 t377], 1⟩, ⟨g388, [.int .i64 t376], 1⟩, ⟨b387, [.int .i64 t376, .int .i64 t377], 2⟩, ⟨g386, [.int .i64 a0_1, .int .i64 t375], ng386⟩, ⟨g385, [.int .i64 t375], 1⟩, ⟨g383, [.int .i64 t374], 1⟩, ⟨b382, [.int .i64 t374, .int .i64 t375], 2⟩, ⟨N381, [.int .i64 t373, .int .i64 t374, .int .i64 t375, .int .i64 t376, .int .i64 t377, .int .i64 t378, .int .i64 t379], 7⟩, ⟨b369, [.int .i64 0, .int .i64 0], 2⟩, ⟨b368, [.int .i64 2, .int .i64 s1_1, .int .i64 s1_2, .int .i64 s1_3, .int .i64 s1_4, .int .i64 s1_5, .int .i64 s1_6], 7⟩, ⟨b367, [.int .i64 a0_0, .int .i64 a0_1], 2⟩] : List Own)) (news := [.int .i64 t376]) rfl rfl rfl rfl (sel_perm (is := [5]) (by kernel_rfl)) (.at 1 rfl rfl) (by kernel_rfl) rfl rfl (by decide) (by decide) rfl fun g389 ng389 => ?_
          refine t_keep [2, 3, 8, 9, 10, 20, 21, 22, 30, 31, 34] (σ' := [(2, .int .i64 i2), (3, .int .i64 n3), (8, .pointer (some ⟨b369, 0, none⟩)), (9, .slice (some ⟨g384, 0, none⟩) 2 (ng384 / 1)), (10, .slice (some ⟨g386, 0, none⟩) 2 (ng386 / 1)), (20, .slice (some ⟨N381, 1, none⟩) 2 3), (21, .int .i64 2), (22, .int .i64 1), (30, .slice (some ⟨g389, 0, none⟩) 3 (ng389 / 1)), (31, .slice (some ⟨g386, 0, none⟩) 2 (ng386 / 1)), (34, .slice (some ⟨g390, 0, none⟩) 1 1)]) (by kernel_rfl) ?_
          refine t_vs (H' := ([⟨g390, [.int .i64 t377], 1⟩, ⟨g389, [.int .i64 a0_0, .int .i64 t374, .int .i64 t376], ng389⟩, ⟨g388, [.int .i64 t376], 1⟩, ⟨b387, [.int .i64 t376, .int .i64 t377], 2⟩, ⟨g386, [.int .i64 a0_1, .int .i64 t375], ng386⟩, ⟨g385, [.int .i64 t375], 1⟩, ⟨g383, [.int .i64 t374], 1⟩, ⟨b382, [.int .i64 t374, .int .i64 t375], 2⟩, ⟨N381, [.int .i64 t373, .int .i64 t374, .int .i64 t375, .int .i64 t376, .int .i64 t377, .int .i64 t378, .int .i64 t379], 7⟩, ⟨b369, [.int .i64 0, .int .i64 0], 2⟩, ⟨b368, [.int .i64 2, .int .i64 s1_1, .int .i64 s1_2, .int .i64 s1_3, .int .i64 s1_4, .int .i64 s1_5, .int .i64 s1_6], 7⟩, ⟨b367, [.int .i64 a0_0, .int .i64 a0_1], 2⟩] : List Own)) (S' := S) (VS.sel [1, 0, 0, 0, 0, 0, 0, 0, 0, 0, 0, 0] (by kernel_rfl)) ?_
          refine t_end ?_
          exact ⟨hg_1ff g390 g389 ng389 g388, rfl⟩
      have hg_1e7 : ∀ (g390 : Nat), G [true, true, true, false, false, true, true, true, true, false, false, false] [(2, .int .i64 i2), (3, .int .i64 n3), (8, .pointer (some ⟨b369, 0, none⟩)), (9, .slice (some ⟨g384, 0, none⟩) 2 (ng384 / 1)), (10, .slice (some ⟨g386, 0, none⟩) 2 (ng386 / 1)), (20, .slice (some ⟨N381, 1, none⟩) 2 3), (21, .int .i64 2), (22, .int .i64 1), (26, .slice (some ⟨g384, 0, none⟩) 2 (ng384 / 1)), (28, .int .i64 t376), (31, .slice (some ⟨g386, 0, none⟩) 2 (ng386 / 1)), (34, .slice (some ⟨g390, 0, none⟩) 1 1)] ([⟨g390, [.int .i64 t377], 1⟩, ⟨b387, [.int .i64 t376, .int .i64 t377], 2⟩, ⟨g386, [.int .i64 a0_1, .int .i64 t375], ng386⟩, ⟨g385, [.int .i64 t375], 1⟩, ⟨g384, [.int .i64 a0_0, .int .i64 t374], ng384⟩, ⟨g383, [.int .i64 t374], 1⟩, ⟨b382, [.int .i64 t374, .int .i64 t375], 2⟩, ⟨N381, [.int .i64 t373, .int .i64 t374, .int .i64 t375, .int .i64 t376, .int .i64 t377, .int .i64 t378, .int .i64 t379], 7⟩, ⟨b369, [.int .i64 0, .int .i64 0], 2⟩, ⟨b368, [.int .i64 2, .int .i64 s1_1, .int .i64 s1_2, .int .i64 s1_3, .int .i64 s1_4, .int .i64 s1_5, .int .i64 s1_6], 7⟩, ⟨b367, [.int .i64 a0_0, .int .i64 a0_1], 2⟩] : List Own) := by
        intro g390
        refine hstep [3] _ _ _ (by kernel_rfl) (List.cons_ne_nil _ _) ⟨?_, trivial⟩
        · show T _ _ _ _ _ _ _ _
          refine t_a (.bsl rfl rfl rfl rfl) fun g388 fg388 sg388 => ?_
          refine t_keep [2, 3, 8, 9, 10, 20, 21, 22, 26, 29, 31, 34] (σ' := [(2, .int .i64 i2), (3, .int .i64 n3), (8, .pointer (some ⟨b369, 0, none⟩)), (9, .slice (some ⟨g384, 0, none⟩) 2 (ng384 / 1)), (10, .slice (some ⟨g386, 0, none⟩) 2 (ng386 / 1)), (20, .slice (some ⟨N381, 1, none⟩) 2 3), (21, .int .i64 2), (22, .int .i64 1), (26, .slice (some ⟨g384, 0, none⟩) 2 (ng384 / 1)), (29, .slice (some ⟨g388, 0, none⟩) 1 1), (31, .slice (some ⟨g386, 0, none⟩) 2 (ng386 / 1)), (34, .slice (some ⟨g390, 0, none⟩) 1 1)]) (by kernel_rfl) ?_
          refine t_vs (H' := ([⟨g390, [.int .i64 t377], 1⟩, ⟨g388, [.int .i64 t376], 1⟩, ⟨b387, [.int .i64 t376, .int .i64 t377], 2⟩, ⟨g386, [.int .i64 a0_1, .int .i64 t375], ng386⟩, ⟨g385, [.int .i64 t375], 1⟩, ⟨g384, [.int .i64 a0_0, .int .i64 t374], ng384⟩, ⟨g383, [.int .i64 t374], 1⟩, ⟨b382, [.int .i64 t374, .int .i64 t375], 2⟩, ⟨N381, [.int .i64 t373, .int .i64 t374, .int .i64 t375, .int .i64 t376, .int .i64 t377, .int .i64 t378, .int .i64 t379], 7⟩, ⟨b369, [.int .i64 0, .int .i64 0], 2⟩, ⟨b368, [.int .i64 2, .int .i64 s1_1, .int .i64 s1_2, .int .i64 s1_3, .int .i64 s1_4, .int .i64 s1_5, .int .i64 s1_6], 7⟩, ⟨b367, [.int .i64 a0_0, .int .i64 a0_1], 2⟩] : List Own)) (S' := S) (VS.sel [1, 0, 0, 0, 0, 0, 0, 0, 0, 0, 0, 0] (by kernel_rfl)) ?_
          refine t_end ?_
          exact ⟨hg_1ef g390 g388, rfl⟩
      have hg_ef : ∀ (g388 : Nat), G [true, true, true, true, false, true, true, true, false, false, false, false] [(2, .int .i64 i2), (3, .int .i64 n3), (8, .pointer (some ⟨b369, 0, none⟩)), (9, .slice (some ⟨g384, 0, none⟩) 2 (ng384 / 1)), (10, .slice (some ⟨g386, 0, none⟩) 2 (ng386 / 1)), (20, .slice (some ⟨N381, 1, none⟩) 2 3), (21, .int .i64 2), (22, .int .i64 1), (26, .slice (some ⟨g384, 0, none⟩) 2 (ng384 / 1)), (29, .slice (some ⟨g388, 0, none⟩) 1 1), (31, .slice (some ⟨g386, 0, none⟩) 2 (ng386 / 1)), (33, .int .i64 t377)] ([⟨g388, [.int .i64 t376], 1⟩, ⟨b387, [.int .i64 t376, .int .i64 t377], 2⟩, ⟨g386, [.int .i64 a0_1, .int .i64 t375], ng386⟩, ⟨g385, [.int .i64 t375], 1⟩, ⟨g384, [.int .i64 a0_0, .int .i64 t374], ng384⟩, ⟨g383, [.int .i64 t374], 1⟩, ⟨b382, [.int .i64 t374, .int .i64 t375], 2⟩, ⟨N381, [.int .i64 t373, .int .i64 t374, .int .i64 t375, .int .i64 t376, .int .i64 t377, .int .i64 t378, .int .i64 t379], 7⟩, ⟨b369, [.int .i64 0, .int .i64 0], 2⟩, ⟨b368, [.int .i64 2, .int .i64 s1_1, .int .i64 s1_2, .int .i64 s1_3, .int .i64 s1_4, .int .i64 s1_5, .int .i64 s1_6], 7⟩, ⟨b367, [.int .i64 a0_0, .int .i64 a0_1], 2⟩] : List Own) := by
        intro g388
        refine hstep [4, 8] _ _ _ (by kernel_rfl) (List.cons_ne_nil _ _) ⟨?_, ?_, trivial⟩
        · show T _ _ _ _ _ _ _ _
          refine t_app1 (cs := [.int .i64 a0_0, .int .i64 t374]) (M := ng384) (F := ([⟨g388, [.int .i64 t376], 1⟩, ⟨b387, [.int .i64 t376, .int .i64 t377], 2⟩, ⟨g386, [.int .i64 a0_1, .int .i64 t375], ng386⟩, ⟨g385, [.int .i64 t375], 1⟩, ⟨g383, [.int .i64 t374], 1⟩, ⟨b382, [.int .i64 t374, .int .i64 t375], 2⟩, ⟨N381, [.int .i64 t373, .int .i64 t374, .int .i64 t375, .int .i64 t376, .int .i64 t377, .int .i64 t378, .int .i64 t379], 7⟩, ⟨b369, [.int .i64 0, .int .i64 0], 2⟩, ⟨b368, [.int .i64 2, .int .i64 s1_1, .int .i64 s1_2, .int .i64 s1_3, .int .i64 s1_4, .int .i64 s1_5, .int .i64 s1_6], 7⟩, ⟨b367, [.int .i64 a0_0, .int .i64 a0_1], 2⟩] : List Own)) (news := [.int .i64 t376]) rfl rfl rfl rfl (sel_perm (is := [4]) (by kernel_rfl)) (.at 0 rfl rfl) (by kernel_rfl) rfl rfl (by decide) (by decide) rfl fun g389 ng389 => ?_
          refine t_keep [2, 3, 8, 9, 10, 20, 21, 22, 30, 31, 33] (σ' := [(2, .int .i64 i2), (3, .int .i64 n3), (8, .pointer (some ⟨b369, 0, none⟩)), (9, .slice (some ⟨g384, 0, none⟩) 2 (ng384 / 1)), (10, .slice (some ⟨g386, 0, none⟩) 2 (ng386 / 1)), (20, .slice (some ⟨N381, 1, none⟩) 2 3), (21, .int .i64 2), (22, .int .i64 1), (30, .slice (some ⟨g389, 0, none⟩) 3 (ng389 / 1)), (31, .slice (some ⟨g386, 0, none⟩) 2 (ng386 / 1)), (33, .int .i64 t377)]) (by kernel_rfl) ?_
          refine t_end ?_
          exact ⟨hg_ff g389 ng389 g388, rfl⟩
        · show T _ _ _ _ _ _ _ _
          refine t_a (.bsl rfl rfl rfl rfl) fun g390 fg390 sg390 => ?_
          refine t_keep [2, 3, 8, 9, 10, 20, 21, 22, 26, 29, 31, 34] (σ' := [(2, .int .i64 i2), (3, .int .i64 n3), (8, .pointer (some ⟨b369, 0, none⟩)), (9, .slice (some ⟨g384, 0, none⟩) 2 (ng384 / 1)), (10, .slice (some ⟨g386, 0, none⟩) 2 (ng386 / 1)), (20, .slice (some ⟨N381, 1, none⟩) 2 3), (21, .int .i64 2), (22, .int .i64 1), (26, .slice (some ⟨g384, 0, none⟩) 2 (ng384 / 1)), (29, .slice (some ⟨g388, 0, none⟩) 1 1), (31, .slice (some ⟨g386, 0, none⟩) 2 (ng386 / 1)), (34, .slice (some ⟨g390, 0, none⟩) 1 1)]) (by kernel_rfl) ?_
          refine t_end ?_
          exact ⟨hg_1ef g390 g388, rfl⟩
      have hg_7f : ∀ (g389 : Nat) (ng389 : Nat) (g388 : Nat), G [true, true, true, true, true, true, true, false, false, false, false, false] [(2, .int .i64 i2), (3, .int .i64 n3), (8, .pointer (some ⟨b369, 0, none⟩)), (9, .slice (some ⟨g384, 0, none⟩) 2 (ng384 / 1)), (10, .slice (some ⟨g386, 0, none⟩) 2 (ng386 / 1)), (20, .slice (some ⟨N381, 1, none⟩) 2 3), (21, .int .i64 2), (22, .int .i64 1), (30, .slice (some ⟨g389, 0, none⟩) 3 (ng389 / 1)), (31, .slice (some ⟨g386, 0, none⟩) 2 (ng386 / 1)), (32, .pointer (some ⟨b387, 1, none⟩))] ([⟨g389, [.int .i64 a0_0, .int .i64 t374, .int .i64 t376], ng389⟩, ⟨g388, [.int .i64 t376], 1⟩, ⟨b387, [.int .i64 t376, .int .i64 t377], 2⟩, ⟨g386, [.int .i64 a0_1, .int .i64 t375], ng386⟩, ⟨g385, [.int .i64 t375], 1⟩, ⟨g383, [.int .i64 t374], 1⟩, ⟨b382, [.int .i64 t374, .int .i64 t375], 2⟩, ⟨N381, [.int .i64 t373, .int .i64 t374, .int .i64 t375, .int .i64 t376, .int .i64 t377, .int .i64 t378, .int .i64 t379], 7⟩, ⟨b369, [.int .i64 0, .int .i64 0], 2⟩, ⟨b368, [.int .i64 2, .int .i64 s1_1, .int .i64 s1_2, .int .i64 s1_3, .int .i64 s1_4, .int .i64 s1_5, .int .i64 s1_6], 7⟩, ⟨b367, [.int .i64 a0_0, .int .i64 a0_1], 2⟩] : List Own) := by
        intro g389 ng389 g388
        refine hstep [7] _ _ _ (by kernel_rfl) (List.cons_ne_nil _ _) ⟨?_, trivial⟩
        · show T _ _ _ _ _ _ _ _
          refine t_v (.ld1 rfl rfl rfl (.at 2 rfl rfl)) ?_
          refine t_keep [2, 3, 8, 9, 10, 20, 21, 22, 30, 31, 33] (σ' := [(2, .int .i64 i2), (3, .int .i64 n3), (8, .pointer (some ⟨b369, 0, none⟩)), (9, .slice (some ⟨g384, 0, none⟩) 2 (ng384 / 1)), (10, .slice (some ⟨g386, 0, none⟩) 2 (ng386 / 1)), (20, .slice (some ⟨N381, 1, none⟩) 2 3), (21, .int .i64 2), (22, .int .i64 1), (30, .slice (some ⟨g389, 0, none⟩) 3 (ng389 / 1)), (31, .slice (some ⟨g386, 0, none⟩) 2 (ng386 / 1)), (33, .int .i64 t377)]) (by kernel_rfl) ?_
          refine t_end ?_
          exact ⟨hg_ff g389 ng389 g388, rfl⟩
      have hg_1e3 : ∀ (g390 : Nat), G [true, true, false, false, false, true, true, true, true, false, false, false] [(2, .int .i64 i2), (3, .int .i64 n3), (8, .pointer (some ⟨b369, 0, none⟩)), (9, .slice (some ⟨g384, 0, none⟩) 2 (ng384 / 1)), (10, .slice (some ⟨g386, 0, none⟩) 2 (ng386 / 1)), (20, .slice (some ⟨N381, 1, none⟩) 2 3), (21, .int .i64 2), (22, .int .i64 1), (26, .slice (some ⟨g384, 0, none⟩) 2 (ng384 / 1)), (27, .pointer (some ⟨b387, 0, none⟩)), (31, .slice (some ⟨g386, 0, none⟩) 2 (ng386 / 1)), (34, .slice (some ⟨g390, 0, none⟩) 1 1)] ([⟨g390, [.int .i64 t377], 1⟩, ⟨b387, [.int .i64 t376, .int .i64 t377], 2⟩, ⟨g386, [.int .i64 a0_1, .int .i64 t375], ng386⟩, ⟨g385, [.int .i64 t375], 1⟩, ⟨g384, [.int .i64 a0_0, .int .i64 t374], ng384⟩, ⟨g383, [.int .i64 t374], 1⟩, ⟨b382, [.int .i64 t374, .int .i64 t375], 2⟩, ⟨N381, [.int .i64 t373, .int .i64 t374, .int .i64 t375, .int .i64 t376, .int .i64 t377, .int .i64 t378, .int .i64 t379], 7⟩, ⟨b369, [.int .i64 0, .int .i64 0], 2⟩, ⟨b368, [.int .i64 2, .int .i64 s1_1, .int .i64 s1_2, .int .i64 s1_3, .int .i64 s1_4, .int .i64 s1_5, .int .i64 s1_6], 7⟩, ⟨b367, [.int .i64 a0_0, .int .i64 a0_1], 2⟩] : List Own) := by
        intro g390
        refine hstep [2] _ _ _ (by kernel_rfl) (List.cons_ne_nil _ _) ⟨?_, trivial⟩
        · show T _ _ _ _ _ _ _ _
          refine t_v (.ld1 rfl rfl rfl (.at 1 rfl rfl)) ?_
          refine t_keep [2, 3, 8, 9, 10, 20, 21, 22, 26, 28, 31, 34] (σ' := [(2, .int .i64 i2), (3, .int .i64 n3), (8, .pointer (some ⟨b369, 0, none⟩)), (9, .slice (some ⟨g384, 0, none⟩) 2 (ng384 / 1)), (10, .slice (some ⟨g386, 0, none⟩) 2 (ng386 / 1)), (20, .slice (some ⟨N381, 1, none⟩) 2 3), (21, .int .i64 2), (22, .int .i64 1), (26, .slice (some ⟨g384, 0, none⟩) 2 (ng384 / 1)), (28, .int .i64 t376), (31, .slice (some ⟨g386, 0, none⟩) 2 (ng386 / 1)), (34, .slice (some ⟨g390, 0, none⟩) 1 1)]) (by kernel_rfl) ?_
          refine t_end ?_
          exact ⟨hg_1e7 g390, rfl⟩
      have hg_e7 : G [true, true, true, false, false, true, true, true, false, false, false, false] [(2, .int .i64 i2), (3, .int .i64 n3), (8, .pointer (some ⟨b369, 0, none⟩)), (9, .slice (some ⟨g384, 0, none⟩) 2 (ng384 / 1)), (10, .slice (some ⟨g386, 0, none⟩) 2 (ng386 / 1)), (20, .slice (some ⟨N381, 1, none⟩) 2 3), (21, .int .i64 2), (22, .int .i64 1), (26, .slice (some ⟨g384, 0, none⟩) 2 (ng384 / 1)), (28, .int .i64 t376), (31, .slice (some ⟨g386, 0, none⟩) 2 (ng386 / 1)), (33, .int .i64 t377)] ([⟨b387, [.int .i64 t376, .int .i64 t377], 2⟩, ⟨g386, [.int .i64 a0_1, .int .i64 t375], ng386⟩, ⟨g385, [.int .i64 t375], 1⟩, ⟨g384, [.int .i64 a0_0, .int .i64 t374], ng384⟩, ⟨g383, [.int .i64 t374], 1⟩, ⟨b382, [.int .i64 t374, .int .i64 t375], 2⟩, ⟨N381, [.int .i64 t373, .int .i64 t374, .int .i64 t375, .int .i64 t376, .int .i64 t377, .int .i64 t378, .int .i64 t379], 7⟩, ⟨b369, [.int .i64 0, .int .i64 0], 2⟩, ⟨b368, [.int .i64 2, .int .i64 s1_1, .int .i64 s1_2, .int .i64 s1_3, .int .i64 s1_4, .int .i64 s1_5, .int .i64 s1_6], 7⟩, ⟨b367, [.int .i64 a0_0, .int .i64 a0_1], 2⟩] : List Own) := by
        refine hstep [3, 8] _ _ _ (by kernel_rfl) (List.cons_ne_nil _ _) ⟨?_, ?_, trivial⟩
        · show T _ _ _ _ _ _ _ _
          refine t_a (.bsl rfl rfl rfl rfl) fun g388 fg388 sg388 => ?_
          refine t_keep [2, 3, 8, 9, 10, 20, 21, 22, 26, 29, 31, 33] (σ' := [(2, .int .i64 i2), (3, .int .i64 n3), (8, .pointer (some ⟨b369, 0, none⟩)), (9, .slice (some ⟨g384, 0, none⟩) 2 (ng384 / 1)), (10, .slice (some ⟨g386, 0, none⟩) 2 (ng386 / 1)), (20, .slice (some ⟨N381, 1, none⟩) 2 3), (21, .int .i64 2), (22, .int .i64 1), (26, .slice (some ⟨g384, 0, none⟩) 2 (ng384 / 1)), (29, .slice (some ⟨g388, 0, none⟩) 1 1), (31, .slice (some ⟨g386, 0, none⟩) 2 (ng386 / 1)), (33, .int .i64 t377)]) (by kernel_rfl) ?_
          refine t_end ?_
          exact ⟨hg_ef g388, rfl⟩
        · show T _ _ _ _ _ _ _ _
          refine t_a (.bsl rfl rfl rfl rfl) fun g390 fg390 sg390 => ?_
          refine t_keep [2, 3, 8, 9, 10, 20, 21, 22, 26, 28, 31, 34] (σ' := [(2, .int .i64 i2), (3, .int .i64 n3), (8, .pointer (some ⟨b369, 0, none⟩)), (9, .slice (some ⟨g384, 0, none⟩) 2 (ng384 / 1)), (10, .slice (some ⟨g386, 0, none⟩) 2 (ng386 / 1)), (20, .slice (some ⟨N381, 1, none⟩) 2 3), (21, .int .i64 2), (22, .int .i64 1), (26, .slice (some ⟨g384, 0, none⟩) 2 (ng384 / 1)), (28, .int .i64 t376), (31, .slice (some ⟨g386, 0, none⟩) 2 (ng386 / 1)), (34, .slice (some ⟨g390, 0, none⟩) 1 1)]) (by kernel_rfl) ?_
          refine t_end ?_
          exact ⟨hg_1e7 g390, rfl⟩
      have hg_6f : ∀ (g388 : Nat), G [true, true, true, true, false, true, true, false, false, false, false, false] [(2, .int .i64 i2), (3, .int .i64 n3), (8, .pointer (some ⟨b369, 0, none⟩)), (9, .slice (some ⟨g384, 0, none⟩) 2 (ng384 / 1)), (10, .slice (some ⟨g386, 0, none⟩) 2 (ng386 / 1)), (20, .slice (some ⟨N381, 1, none⟩) 2 3), (21, .int .i64 2), (22, .int .i64 1), (26, .slice (some ⟨g384, 0, none⟩) 2 (ng384 / 1)), (29, .slice (some ⟨g388, 0, none⟩) 1 1), (31, .slice (some ⟨g386, 0, none⟩) 2 (ng386 / 1)), (32, .pointer (some ⟨b387, 1, none⟩))] ([⟨g388, [.int .i64 t376], 1⟩, ⟨b387, [.int .i64 t376, .int .i64 t377], 2⟩, ⟨g386, [.int .i64 a0_1, .int .i64 t375], ng386⟩, ⟨g385, [.int .i64 t375], 1⟩, ⟨g384, [.int .i64 a0_0, .int .i64 t374], ng384⟩, ⟨g383, [.int .i64 t374], 1⟩, ⟨b382, [.int .i64 t374, .int .i64 t375], 2⟩, ⟨N381, [.int .i64 t373, .int .i64 t374, .int .i64 t375, .int .i64 t376, .int .i64 t377, .int .i64 t378, .int .i64 t379], 7⟩, ⟨b369, [.int .i64 0, .int .i64 0], 2⟩, ⟨b368, [.int .i64 2, .int .i64 s1_1, .int .i64 s1_2, .int .i64 s1_3, .int .i64 s1_4, .int .i64 s1_5, .int .i64 s1_6], 7⟩, ⟨b367, [.int .i64 a0_0, .int .i64 a0_1], 2⟩] : List Own) := by
        intro g388
        refine hstep [4, 7] _ _ _ (by kernel_rfl) (List.cons_ne_nil _ _) ⟨?_, ?_, trivial⟩
        · show T _ _ _ _ _ _ _ _
          refine t_app1 (cs := [.int .i64 a0_0, .int .i64 t374]) (M := ng384) (F := ([⟨g388, [.int .i64 t376], 1⟩, ⟨b387, [.int .i64 t376, .int .i64 t377], 2⟩, ⟨g386, [.int .i64 a0_1, .int .i64 t375], ng386⟩, ⟨g385, [.int .i64 t375], 1⟩, ⟨g383, [.int .i64 t374], 1⟩, ⟨b382, [.int .i64 t374, .int .i64 t375], 2⟩, ⟨N381, [.int .i64 t373, .int .i64 t374, .int .i64 t375, .int .i64 t376, .int .i64 t377, .int .i64 t378, .int .i64 t379], 7⟩, ⟨b369, [.int .i64 0, .int .i64 0], 2⟩, ⟨b368, [.int .i64 2, .int .i64 s1_1, .int .i64 s1_2, .int .i64 s1_3, .int .i64 s1_4, .int .i64 s1_5, .int .i64 s1_6], 7⟩, ⟨b367, [.int .i64 a0_0, .int .i64 a0_1], 2⟩] : List Own)) (news := [.int .i64 t376]) rfl rfl rfl rfl (sel_perm (is := [4]) (by kernel_rfl)) (.at 0 rfl rfl) (by kernel_rfl) rfl rfl (by decide) (by decide) rfl fun g389 ng389 => ?_
          refine t_keep [2, 3, 8, 9, 10, 20, 21, 22, 30, 31, 32] (σ' := [(2, .int .i64 i2), (3, .int .i64 n3), (8, .pointer (some ⟨b369, 0, none⟩)), (9, .slice (some ⟨g384, 0, none⟩) 2 (ng384 / 1)), (10, .slice (some ⟨g386, 0, none⟩) 2 (ng386 / 1)), (20, .slice (some ⟨N381, 1, none⟩) 2 3), (21, .int .i64 2), (22, .int .i64 1), (30, .slice (some ⟨g389, 0, none⟩) 3 (ng389 / 1)), (31, .slice (some ⟨g386, 0, none⟩) 2 (ng386 / 1)), (32, .pointer (some ⟨b387, 1, none⟩))]) (by kernel_rfl) ?_
          refine t_end ?_
          exact ⟨hg_7f g389 ng389 g388, rfl⟩
        · show T _ _ _ _ _ _ _ _
          refine t_v (.ld1 rfl rfl rfl (.at 1 rfl rfl)) ?_
          refine t_keep [2, 3, 8, 9, 10, 20, 21, 22, 26, 29, 31, 33] (σ' := [(2, .int .i64 i2), (3, .int .i64 n3), (8, .pointer (some ⟨b369, 0, none⟩)), (9, .slice (some ⟨g384, 0, none⟩) 2 (ng384 / 1)), (10, .slice (some ⟨g386, 0, none⟩) 2 (ng386 / 1)), (20, .slice (some ⟨N381, 1, none⟩) 2 3), (21, .int .i64 2), (22, .int .i64 1), (26, .slice (some ⟨g384, 0, none⟩) 2 (ng384 / 1)), (29, .slice (some ⟨g388, 0, none⟩) 1 1), (31, .slice (some ⟨g386, 0, none⟩) 2 (ng386 / 1)), (33, .int .i64 t377)]) (by kernel_rfl) ?_
          refine t_end ?_
          exact ⟨hg_ef g388, rfl⟩
      have hg_e3 : G [true, true, false, false, false, true, true, true, false, false, false, false] [(2, .int .i64 i2), (3, .int .i64 n3), (8, .pointer (some ⟨b369, 0, none⟩)), (9, .slice (some ⟨g384, 0, none⟩) 2 (ng384 / 1)), (10, .slice (some ⟨g386, 0, none⟩) 2 (ng386 / 1)), (20, .slice (some ⟨N381, 1, none⟩) 2 3), (21, .int .i64 2), (22, .int .i64 1), (26, .slice (some ⟨g384, 0, none⟩) 2 (ng384 / 1)), (27, .pointer (some ⟨b387, 0, none⟩)), (31, .slice (some ⟨g386, 0, none⟩) 2 (ng386 / 1)), (33, .int .i64 t377)] ([⟨b387, [.int .i64 t376, .int .i64 t377], 2⟩, ⟨g386, [.int .i64 a0_1, .int .i64 t375], ng386⟩, ⟨g385, [.int .i64 t375], 1⟩, ⟨g384, [.int .i64 a0_0, .int .i64 t374], ng384⟩, ⟨g383, [.int .i64 t374], 1⟩, ⟨b382, [.int .i64 t374, .int .i64 t375], 2⟩, ⟨N381, [.int .i64 t373, .int .i64 t374, .int .i64 t375, .int .i64 t376, .int .i64 t377, .int .i64 t378, .int .i64 t379], 7⟩, ⟨b369, [.int .i64 0, .int .i64 0], 2⟩, ⟨b368, [.int .i64 2, .int .i64 s1_1, .int .i64 s1_2, .int .i64 s1_3, .int .i64 s1_4, .int .i64 s1_5, .int .i64 s1_6], 7⟩, ⟨b367, [.int .i64 a0_0, .int .i64 a0_1], 2⟩] : List Own) := by
        refine hstep [2, 8] _ _ _ (by kernel_rfl) (List.cons_ne_nil _ _) ⟨?_, ?_, trivial⟩
        · show T _ _ _ _ _ _ _ _
          refine t_v (.ld1 rfl rfl rfl (.at 0 rfl rfl)) ?_
          refine t_keep [2, 3, 8, 9, 10, 20, 21, 22, 26, 28, 31, 33] (σ' := [(2, .int .i64 i2), (3, .int .i64 n3), (8, .pointer (some ⟨b369, 0, none⟩)), (9, .slice (some ⟨g384, 0, none⟩) 2 (ng384 / 1)), (10, .slice (some ⟨g386, 0, none⟩) 2 (ng386 / 1)), (20, .slice (some ⟨N381, 1, none⟩) 2 3), (21, .int .i64 2), (22, .int .i64 1), (26, .slice (some ⟨g384, 0, none⟩) 2 (ng384 / 1)), (28, .int .i64 t376), (31, .slice (some ⟨g386, 0, none⟩) 2 (ng386 / 1)), (33, .int .i64 t377)]) (by kernel_rfl) ?_
          refine t_end ?_
          exact ⟨hg_e7, rfl⟩
        · show T _ _ _ _ _ _ _ _
          refine t_a (.bsl rfl rfl rfl rfl) fun g390 fg390 sg390 => ?_
          refine t_keep [2, 3, 8, 9, 10, 20, 21, 22, 26, 27, 31, 34] (σ' := [(2, .int .i64 i2), (3, .int .i64 n3), (8, .pointer (some ⟨b369, 0, none⟩)), (9, .slice (some ⟨g384, 0, none⟩) 2 (ng384 / 1)), (10, .slice (some ⟨g386, 0, none⟩) 2 (ng386 / 1)), (20, .slice (some ⟨N381, 1, none⟩) 2 3), (21, .int .i64 2), (22, .int .i64 1), (26, .slice (some ⟨g384, 0, none⟩) 2 (ng384 / 1)), (27, .pointer (some ⟨b387, 0, none⟩)), (31, .slice (some ⟨g386, 0, none⟩) 2 (ng386 / 1)), (34, .slice (some ⟨g390, 0, none⟩) 1 1)]) (by kernel_rfl) ?_
          refine t_end ?_
          exact ⟨hg_1e3 g390, rfl⟩
      have hg_67 : G [true, true, true, false, false, true, true, false, false, false, false, false] [(2, .int .i64 i2), (3, .int .i64 n3), (8, .pointer (some ⟨b369, 0, none⟩)), (9, .slice (some ⟨g384, 0, none⟩) 2 (ng384 / 1)), (10, .slice (some ⟨g386, 0, none⟩) 2 (ng386 / 1)), (20, .slice (some ⟨N381, 1, none⟩) 2 3), (21, .int .i64 2), (22, .int .i64 1), (26, .slice (some ⟨g384, 0, none⟩) 2 (ng384 / 1)), (28, .int .i64 t376), (31, .slice (some ⟨g386, 0, none⟩) 2 (ng386 / 1)), (32, .pointer (some ⟨b387, 1, none⟩))] ([⟨b387, [.int .i64 t376, .int .i64 t377], 2⟩, ⟨g386, [.int .i64 a0_1, .int .i64 t375], ng386⟩, ⟨g385, [.int .i64 t375], 1⟩, ⟨g384, [.int .i64 a0_0, .int .i64 t374], ng384⟩, ⟨g383, [.int .i64 t374], 1⟩, ⟨b382, [.int .i64 t374, .int .i64 t375], 2⟩, ⟨N381, [.int .i64 t373, .int .i64 t374, .int .i64 t375, .int .i64 t376, .int .i64 t377, .int .i64 t378, .int .i64 t379], 7⟩, ⟨b369, [.int .i64 0, .int .i64 0], 2⟩, ⟨b368, [.int .i64 2, .int .i64 s1_1, .int .i64 s1_2, .int .i64 s1_3, .int .i64 s1_4, .int .i64 s1_5, .int .i64 s1_6], 7⟩, ⟨b367, [.int .i64 a0_0, .int .i64 a0_1], 2⟩] : List Own) := by
        refine hstep [3, 7] _ _ _ (by kernel_rfl) (List.cons_ne_nil _ _) ⟨?_, ?_, trivial⟩
        · show T _ _ _ _ _ _ _ _
          refine t_a (.bsl rfl rfl rfl rfl) fun g388 fg388 sg388 => ?_
          refine t_keep [2, 3, 8, 9, 10, 20, 21, 22, 26, 29, 31, 32] (σ' := [(2, .int .i64 i2), (3, .int .i64 n3), (8, .pointer (some ⟨b369, 0, none⟩)), (9, .slice (some ⟨g384, 0, none⟩) 2 (ng384 / 1)), (10, .slice (some ⟨g386, 0, none⟩) 2 (ng386 / 1)), (20, .slice (some ⟨N381, 1, none⟩) 2 3), (21, .int .i64 2), (22, .int .i64 1), (26, .slice (some ⟨g384, 0, none⟩) 2 (ng384 / 1)), (29, .slice (some ⟨g388, 0, none⟩) 1 1), (31, .slice (some ⟨g386, 0, none⟩) 2 (ng386 / 1)), (32, .pointer (some ⟨b387, 1, none⟩))]) (by kernel_rfl) ?_
          refine t_end ?_
          exact ⟨hg_6f g388, rfl⟩
        · show T _ _ _ _ _ _ _ _
          refine t_v (.ld1 rfl rfl rfl (.at 0 rfl rfl)) ?_
          refine t_keep [2, 3, 8, 9, 10, 20, 21, 22, 26, 28, 31, 33] (σ' := [(2, .int .i64 i2), (3, .int .i64 n3), (8, .pointer (some ⟨b369, 0, none⟩)), (9, .slice (some ⟨g384, 0, none⟩) 2 (ng384 / 1)), (10, .slice (some ⟨g386, 0, none⟩) 2 (ng386 / 1)), (20, .slice (some ⟨N381, 1, none⟩) 2 3), (21, .int .i64 2), (22, .int .i64 1), (26, .slice (some ⟨g384, 0, none⟩) 2 (ng384 / 1)), (28, .int .i64 t376), (31, .slice (some ⟨g386, 0, none⟩) 2 (ng386 / 1)), (33, .int .i64 t377)]) (by kernel_rfl) ?_
          refine t_end ?_
          exact ⟨hg_e7, rfl⟩
      have hg_63 : G [true, true, false, false, false, true, true, false, false, false, false, false] [(2, .int .i64 i2), (3, .int .i64 n3), (8, .pointer (some ⟨b369, 0, none⟩)), (9, .slice (some ⟨g384, 0, none⟩) 2 (ng384 / 1)), (10, .slice (some ⟨g386, 0, none⟩) 2 (ng386 / 1)), (20, .slice (some ⟨N381, 1, none⟩) 2 3), (21, .int .i64 2), (22, .int .i64 1), (26, .slice (some ⟨g384, 0, none⟩) 2 (ng384 / 1)), (27, .pointer (some ⟨b387, 0, none⟩)), (31, .slice (some ⟨g386, 0, none⟩) 2 (ng386 / 1)), (32, .pointer (some ⟨b387, 1, none⟩))] ([⟨b387, [.int .i64 t376, .int .i64 t377], 2⟩, ⟨g386, [.int .i64 a0_1, .int .i64 t375], ng386⟩, ⟨g385, [.int .i64 t375], 1⟩, ⟨g384, [.int .i64 a0_0, .int .i64 t374], ng384⟩, ⟨g383, [.int .i64 t374], 1⟩, ⟨b382, [.int .i64 t374, .int .i64 t375], 2⟩, ⟨N381, [.int .i64 t373, .int .i64 t374, .int .i64 t375, .int .i64 t376, .int .i64 t377, .int .i64 t378, .int .i64 t379], 7⟩, ⟨b369, [.int .i64 0, .int .i64 0], 2⟩, ⟨b368, [.int .i64 2, .int .i64 s1_1, .int .i64 s1_2, .int .i64 s1_3, .int .i64 s1_4, .int .i64 s1_5, .int .i64 s1_6], 7⟩, ⟨b367, [.int .i64 a0_0, .int .i64 a0_1], 2⟩] : List Own) := by
        refine hstep [2, 7] _ _ _ (by kernel_rfl) (List.cons_ne_nil _ _) ⟨?_, ?_, trivial⟩
        · show T _ _ _ _ _ _ _ _
          refine t_v (.ld1 rfl rfl rfl (.at 0 rfl rfl)) ?_
          refine t_keep [2, 3, 8, 9, 10, 20, 21, 22, 26, 28, 31, 32] (σ' := [(2, .int .i64 i2), (3, .int .i64 n3), (8, .pointer (some ⟨b369, 0, none⟩)), (9, .slice (some ⟨g384, 0, none⟩) 2 (ng384 / 1)), (10, .slice (some ⟨g386, 0, none⟩) 2 (ng386 / 1)), (20, .slice (some ⟨N381, 1, none⟩) 2 3), (21, .int .i64 2), (22, .int .i64 1), (26, .slice (some ⟨g384, 0, none⟩) 2 (ng384 / 1)), (28, .int .i64 t376), (31, .slice (some ⟨g386, 0, none⟩) 2 (ng386 / 1)), (32, .pointer (some ⟨b387, 1, none⟩))]) (by kernel_rfl) ?_
          refine t_end ?_
          exact ⟨hg_67, rfl⟩
        · show T _ _ _ _ _ _ _ _
          refine t_v (.ld1 rfl rfl rfl (.at 0 rfl rfl)) ?_
          refine t_keep [2, 3, 8, 9, 10, 20, 21, 22, 26, 27, 31, 33] (σ' := [(2, .int .i64 i2), (3, .int .i64 n3), (8, .pointer (some ⟨b369, 0, none⟩)), (9, .slice (some ⟨g384, 0, none⟩) 2 (ng384 / 1)), (10, .slice (some ⟨g386, 0, none⟩) 2 (ng386 / 1)), (20, .slice (some ⟨N381, 1, none⟩) 2 3), (21, .int .i64 2), (22, .int .i64 1), (26, .slice (some ⟨g384, 0, none⟩) 2 (ng384 / 1)), (27, .pointer (some ⟨b387, 0, none⟩)), (31, .slice (some ⟨g386, 0, none⟩) 2 (ng386 / 1)), (33, .int .i64 t377)]) (by kernel_rfl) ?_
          refine t_end ?_
          exact ⟨hg_e3, rfl⟩
      have hg_23 : G [true, true, false, false, false, true, false, false, false, false, false, false] [(2, .int .i64 i2), (3, .int .i64 n3), (8, .pointer (some ⟨b369, 0, none⟩)), (9, .slice (some ⟨g384, 0, none⟩) 2 (ng384 / 1)), (10, .slice (some ⟨g386, 0, none⟩) 2 (ng386 / 1)), (12, .pointer (some ⟨b387, 0, none⟩)), (20, .slice (some ⟨N381, 1, none⟩) 2 3), (21, .int .i64 2), (22, .int .i64 1), (26, .slice (some ⟨g384, 0, none⟩) 2 (ng384 / 1)), (27, .pointer (some ⟨b387, 0, none⟩)), (31, .slice (some ⟨g386, 0, none⟩) 2 (ng386 / 1))] ([⟨b387, [.int .i64 t376, .int .i64 t377], 2⟩, ⟨g386, [.int .i64 a0_1, .int .i64 t375], ng386⟩, ⟨g385, [.int .i64 t375], 1⟩, ⟨g384, [.int .i64 a0_0, .int .i64 t374], ng384⟩, ⟨g383, [.int .i64 t374], 1⟩, ⟨b382, [.int .i64 t374, .int .i64 t375], 2⟩, ⟨N381, [.int .i64 t373, .int .i64 t374, .int .i64 t375, .int .i64 t376, .int .i64 t377, .int .i64 t378, .int .i64 t379], 7⟩, ⟨b369, [.int .i64 0, .int .i64 0], 2⟩, ⟨b368, [.int .i64 2, .int .i64 s1_1, .int .i64 s1_2, .int .i64 s1_3, .int .i64 s1_4, .int .i64 s1_5, .int .i64 s1_6], 7⟩, ⟨b367, [.int .i64 a0_0, .int .i64 a0_1], 2⟩] : List Own) := by
        exact hqf 6 [2, 3, 8, 9, 10, 20, 21, 22, 26, 27, 31, 32] _ _ _ [(2, .int .i64 i2), (3, .int .i64 n3), (8, .pointer (some ⟨b369, 0, none⟩)), (9, .slice (some ⟨g384, 0, none⟩) 2 (ng384 / 1)), (10, .slice (some ⟨g386, 0, none⟩) 2 (ng386 / 1)), (20, .slice (some ⟨N381, 1, none⟩) 2 3), (21, .int .i64 2), (22, .int .i64 1), (26, .slice (some ⟨g384, 0, none⟩) 2 (ng384 / 1)), (27, .pointer (some ⟨b387, 0, none⟩)), (31, .slice (some ⟨g386, 0, none⟩) 2 (ng386 / 1)), (32, .pointer (some ⟨b387, 1, none⟩))] (by kernel_rfl) (by kernel_rfl) hg_63
      have hg_3 : G [true, true, false, false, false, false, false, false, false, false, false, false] [(2, .int .i64 i2), (3, .int .i64 n3), (8, .pointer (some ⟨b369, 0, none⟩)), (9, .slice (some ⟨g384, 0, none⟩) 2 (ng384 / 1)), (10, .slice (some ⟨g386, 0, none⟩) 2 (ng386 / 1)), (12, .pointer (some ⟨b387, 0, none⟩)), (20, .slice (some ⟨N381, 1, none⟩) 2 3), (21, .int .i64 2), (22, .int .i64 1), (26, .slice (some ⟨g384, 0, none⟩) 2 (ng384 / 1)), (27, .pointer (some ⟨b387, 0, none⟩))] ([⟨b387, [.int .i64 t376, .int .i64 t377], 2⟩, ⟨g386, [.int .i64 a0_1, .int .i64 t375], ng386⟩, ⟨g385, [.int .i64 t375], 1⟩, ⟨g384, [.int .i64 a0_0, .int .i64 t374], ng384⟩, ⟨g383, [.int .i64 t374], 1⟩, ⟨b382, [.int .i64 t374, .int .i64 t375], 2⟩, ⟨N381, [.int .i64 t373, .int .i64 t374, .int .i64 t375, .int .i64 t376, .int .i64 t377, .int .i64 t378, .int .i64 t379], 7⟩, ⟨b369, [.int .i64 0, .int .i64 0], 2⟩, ⟨b368, [.int .i64 2, .int .i64 s1_1, .int .i64 s1_2, .int .i64 s1_3, .int .i64 s1_4, .int .i64 s1_5, .int .i64 s1_6], 7⟩, ⟨b367, [.int .i64 a0_0, .int .i64 a0_1], 2⟩] : List Own) := by
        exact hqf 5 [2, 3, 8, 9, 10, 12, 20, 21, 22, 26, 27, 31] _ _ _ [(2, .int .i64 i2), (3, .int .i64 n3), (8, .pointer (some ⟨b369, 0, none⟩)), (9, .slice (some ⟨g384, 0, none⟩) 2 (ng384 / 1)), (10, .slice (some ⟨g386, 0, none⟩) 2 (ng386 / 1)), (12, .pointer (some ⟨b387, 0, none⟩)), (20, .slice (some ⟨N381, 1, none⟩) 2 3), (21, .int .i64 2), (22, .int .i64 1), (26, .slice (some ⟨g384, 0, none⟩) 2 (ng384 / 1)), (27, .pointer (some ⟨b387, 0, none⟩)), (31, .slice (some ⟨g386, 0, none⟩) 2 (ng386 / 1))] (by kernel_rfl) (by kernel_rfl) hg_23
      have hg_1 : G [true, false, false, false, false, false, false, false, false, false, false, false] [(2, .int .i64 i2), (3, .int .i64 n3), (8, .pointer (some ⟨b369, 0, none⟩)), (9, .slice (some ⟨g384, 0, none⟩) 2 (ng384 / 1)), (10, .slice (some ⟨g386, 0, none⟩) 2 (ng386 / 1)), (12, .pointer (some ⟨b387, 0, none⟩)), (20, .slice (some ⟨N381, 1, none⟩) 2 3), (21, .int .i64 2), (22, .int .i64 1), (26, .slice (some ⟨g384, 0, none⟩) 2 (ng384 / 1))] ([⟨b387, [.int .i64 t376, .int .i64 t377], 2⟩, ⟨g386, [.int .i64 a0_1, .int .i64 t375], ng386⟩, ⟨g385, [.int .i64 t375], 1⟩, ⟨g384, [.int .i64 a0_0, .int .i64 t374], ng384⟩, ⟨g383, [.int .i64 t374], 1⟩, ⟨b382, [.int .i64 t374, .int .i64 t375], 2⟩, ⟨N381, [.int .i64 t373, .int .i64 t374, .int .i64 t375, .int .i64 t376, .int .i64 t377, .int .i64 t378, .int .i64 t379], 7⟩, ⟨b369, [.int .i64 0, .int .i64 0], 2⟩, ⟨b368, [.int .i64 2, .int .i64 s1_1, .int .i64 s1_2, .int .i64 s1_3, .int .i64 s1_4, .int .i64 s1_5, .int .i64 s1_6], 7⟩, ⟨b367, [.int .i64 a0_0, .int .i64 a0_1], 2⟩] : List Own) := by
        exact hqf 1 [2, 3, 8, 9, 10, 12, 20, 21, 22, 26, 27] _ _ _ [(2, .int .i64 i2), (3, .int .i64 n3), (8, .pointer (some ⟨b369, 0, none⟩)), (9, .slice (some ⟨g384, 0, none⟩) 2 (ng384 / 1)), (10, .slice (some ⟨g386, 0, none⟩) 2 (ng386 / 1)), (12, .pointer (some ⟨b387, 0, none⟩)), (20, .slice (some ⟨N381, 1, none⟩) 2 3), (21, .int .i64 2), (22, .int .i64 1), (26, .slice (some ⟨g384, 0, none⟩) 2 (ng384 / 1)), (27, .pointer (some ⟨b387, 0, none⟩))] (by kernel_rfl) (by kernel_rfl) hg_3
      have hg_0 : G [false, false, false, false, false, false, false, false, false, false, false, false] [(2, .int .i64 i2), (3, .int .i64 n3), (8, .pointer (some ⟨b369, 0, none⟩)), (9, .slice (some ⟨g384, 0, none⟩) 2 (ng384 / 1)), (10, .slice (some ⟨g386, 0, none⟩) 2 (ng386 / 1)), (12, .pointer (some ⟨b387, 0, none⟩)), (20, .slice (some ⟨N381, 1, none⟩) 2 3), (21, .int .i64 2), (22, .int .i64 1)] ([⟨b387, [.int .i64 t376, .int .i64 t377], 2⟩, ⟨g386, [.int .i64 a0_1, .int .i64 t375], ng386⟩, ⟨g385, [.int .i64 t375], 1⟩, ⟨g384, [.int .i64 a0_0, .int .i64 t374], ng384⟩, ⟨g383, [.int .i64 t374], 1⟩, ⟨b382, [.int .i64 t374, .int .i64 t375], 2⟩, ⟨N381, [.int .i64 t373, .int .i64 t374, .int .i64 t375, .int .i64 t376, .int .i64 t377, .int .i64 t378, .int .i64 t379], 7⟩, ⟨b369, [.int .i64 0, .int .i64 0], 2⟩, ⟨b368, [.int .i64 2, .int .i64 s1_1, .int .i64 s1_2, .int .i64 s1_3, .int .i64 s1_4, .int .i64 s1_5, .int .i64 s1_6], 7⟩, ⟨b367, [.int .i64 a0_0, .int .i64 a0_1], 2⟩] : List Own) := by
        exact hqf 0 [2, 3, 8, 9, 10, 12, 20, 21, 22, 26] _ _ _ [(2, .int .i64 i2), (3, .int .i64 n3), (8, .pointer (some ⟨b369, 0, none⟩)), (9, .slice (some ⟨g384, 0, none⟩) 2 (ng384 / 1)), (10, .slice (some ⟨g386, 0, none⟩) 2 (ng386 / 1)), (12, .pointer (some ⟨b387, 0, none⟩)), (20, .slice (some ⟨N381, 1, none⟩) 2 3), (21, .int .i64 2), (22, .int .i64 1), (26, .slice (some ⟨g384, 0, none⟩) 2 (ng384 / 1))] (by kernel_rfl) (by kernel_rfl) hg_1
      exact hg_0
    have hg_7ff : ∀ (g386 : Nat) (ng386 : Nat) (g385 : Nat) (g384 : Nat) (ng384 : Nat) (g383 : Nat), G [true, true, true, true, true, true, true, true, true, true, true, false] [(2, .int .i64 i2), (3, .int .i64 n3), (8, .pointer (some ⟨b369, 0, none⟩)), (9, .slice (some ⟨g384, 0, none⟩) 2 (ng384 / 1)), (10, .slice (some ⟨g371, 0, none⟩) 1 1), (20, .slice (some ⟨N381, 1, none⟩) 2 3), (21, .int .i64 2), (22, .int .i64 0), (35, .slice (some ⟨g386, 0, none⟩) 2 (ng386 / 1))] ([⟨g386, [.int .i64 a0_1, .int .i64 t375], ng386⟩, ⟨g385, [.int .i64 t375], 1⟩, ⟨g384, [.int .i64 a0_0, .int .i64 t374], ng384⟩, ⟨g383, [.int .i64 t374], 1⟩, ⟨b382, [.int .i64 t374, .int .i64 t375], 2⟩, ⟨N381, [.int .i64 t373, .int .i64 t374, .int .i64 t375, .int .i64 t376, .int .i64 t377, .int .i64 t378, .int .i64 t379], 7⟩, ⟨b369, [.int .i64 0, .int .i64 0], 2⟩, ⟨b368, [.int .i64 2, .int .i64 s1_1, .int .i64 s1_2, .int .i64 s1_3, .int .i64 s1_4, .int .i64 s1_5, .int .i64 s1_6], 7⟩, ⟨b367, [.int .i64 a0_0, .int .i64 a0_1], 2⟩] : List Own) := by
      intro g386 ng386 g385 g384 ng384 g383
      exact hqf 11 [2, 3, 8, 9, 10, 20, 21, 22] _ _ _ [(2, .int .i64 i2), (3, .int .i64 n3), (8, .pointer (some ⟨b369, 0, none⟩)), (9, .slice (some ⟨g384, 0, none⟩) 2 (ng384 / 1)), (10, .slice (some ⟨g386, 0, none⟩) 2 (ng386 / 1)), (20, .slice (some ⟨N381, 1, none⟩) 2 3), (21, .int .i64 2), (22, .int .i64 0)] (by kernel_rfl) (by kernel_rfl) (hg_fff g386 ng386 g385 g384 ng384 g383)
    have hg_3ff : ∀ (g386 : Nat) (ng386 : Nat) (g385 : Nat) (g384 : Nat) (ng384 : Nat) (g383 : Nat), G [true, true, true, true, true, true, true, true, true, true, false, false] [(2, .int .i64 i2), (3, .int .i64 n3), (8, .pointer (some ⟨b369, 0, none⟩)), (9, .slice (some ⟨g370, 0, none⟩) 1 1), (10, .slice (some ⟨g371, 0, none⟩) 1 1), (20, .slice (some ⟨N381, 1, none⟩) 2 3), (21, .int .i64 2), (22, .int .i64 0), (30, .slice (some ⟨g384, 0, none⟩) 2 (ng384 / 1)), (35, .slice (some ⟨g386, 0, none⟩) 2 (ng386 / 1))] ([⟨g386, [.int .i64 a0_1, .int .i64 t375], ng386⟩, ⟨g385, [.int .i64 t375], 1⟩, ⟨g384, [.int .i64 a0_0, .int .i64 t374], ng384⟩, ⟨g383, [.int .i64 t374], 1⟩, ⟨b382, [.int .i64 t374, .int .i64 t375], 2⟩, ⟨N381, [.int .i64 t373, .int .i64 t374, .int .i64 t375, .int .i64 t376, .int .i64 t377, .int .i64 t378, .int .i64 t379], 7⟩, ⟨b369, [.int .i64 0, .int .i64 0], 2⟩, ⟨b368, [.int .i64 2, .int .i64 s1_1, .int .i64 s1_2, .int .i64 s1_3, .int .i64 s1_4, .int .i64 s1_5, .int .i64 s1_6], 7⟩, ⟨b367, [.int .i64 a0_0, .int .i64 a0_1], 2⟩] : List Own) := by
      intro g386 ng386 g385 g384 ng384 g383
      exact hqf 10 [2, 3, 8, 9, 10, 20, 21, 22, 35] _ _ _ [(2, .int .i64 i2), (3, .int .i64 n3), (8, .pointer (some ⟨b369, 0, none⟩)), (9, .slice (some ⟨g384, 0, none⟩) 2 (ng384 / 1)), (10, .slice (some ⟨g371, 0, none⟩) 1 1), (20, .slice (some ⟨N381, 1, none⟩) 2 3), (21, .int .i64 2), (22, .int .i64 0), (35, .slice (some ⟨g386, 0, none⟩) 2 (ng386 / 1))] (by kernel_rfl) (by kernel_rfl) (hg_7ff g386 ng386 g385 g384 ng384 g383)
    have hg_1ff : ∀ (g385 : Nat) (g384 : Nat) (ng384 : Nat) (g383 : Nat), G [true, true, true, true, true, true, true, true, true, false, false, false] [(2, .int .i64 i2), (3, .int .i64 n3), (8, .pointer (some ⟨b369, 0, none⟩)), (9, .slice (some ⟨g370, 0, none⟩) 1 1), (10, .slice (some ⟨g371, 0, none⟩) 1 1), (20, .slice (some ⟨N381, 1, none⟩) 2 3), (21, .int .i64 2), (22, .int .i64 0), (30, .slice (some ⟨g384, 0, none⟩) 2 (ng384 / 1)), (31, .slice (some ⟨g371, 0, none⟩) 1 1), (34, .slice (some ⟨g385, 0, none⟩) 1 1)] ([⟨g385, [.int .i64 t375], 1⟩, ⟨g384, [.int .i64 a0_0, .int .i64 t374], ng384⟩, ⟨g383, [.int .i64 t374], 1⟩, ⟨b382, [.int .i64 t374, .int .i64 t375], 2⟩, ⟨N381, [.int .i64 t373, .int .i64 t374, .int .i64 t375, .int .i64 t376, .int .i64 t377, .int .i64 t378, .int .i64 t379], 7⟩, ⟨g371, [.int .i64 a0_1], 1⟩, ⟨b369, [.int .i64 0, .int .i64 0], 2⟩, ⟨b368, [.int .i64 2, .int .i64 s1_1, .int .i64 s1_2, .int .i64 s1_3, .int .i64 s1_4, .int .i64 s1_5, .int .i64 s1_6], 7⟩, ⟨b367, [.int .i64 a0_0, .int .i64 a0_1], 2⟩] : List Own) := by
      intro g385 g384 ng384 g383
      refine hstep [9] _ _ _ (by kernel_rfl) (List.cons_ne_nil _ _) ⟨?_, trivial⟩
      · show T _ _ _ _ _ _ _ _
        refine t_app1 (cs := [.int .i64 a0_1]) (M := 1) (F := ([⟨g385, [.int .i64 t375], 1⟩, ⟨g384, [.int .i64 a0_0, .int .i64 t374], ng384⟩, ⟨g383, [.int .i64 t374], 1⟩, ⟨b382, [.int .i64 t374, .int .i64 t375], 2⟩, ⟨N381, [.int .i64 t373, .int .i64 t374, .int .i64 t375, .int .i64 t376, .int .i64 t377, .int .i64 t378, .int .i64 t379], 7⟩, ⟨b369, [.int .i64 0, .int .i64 0], 2⟩, ⟨b368, [.int .i64 2, .int .i64 s1_1, .int .i64 s1_2, .int .i64 s1_3, .int .i64 s1_4, .int .i64 s1_5, .int .i64 s1_6], 7⟩, ⟨b367, [.int .i64 a0_0, .int .i64 a0_1], 2⟩] : List Own)) (news := [.int .i64 t375]) rfl rfl rfl rfl (sel_perm (is := [5]) (by kernel_rfl)) (.at 0 rfl rfl) (by kernel_rfl) rfl rfl (by decide) (by decide) rfl fun g386 ng386 => ?_
        refine t_keep [2, 3, 8, 9, 10, 20, 21, 22, 30, 35] (σ' := [(2, .int .i64 i2), (3, .int .i64 n3), (8, .pointer (some ⟨b369, 0, none⟩)), (9, .slice (some ⟨g370, 0, none⟩) 1 1), (10, .slice (some ⟨g371, 0, none⟩) 1 1), (20, .slice (some ⟨N381, 1, none⟩) 2 3), (21, .int .i64 2), (22, .int .i64 0), (30, .slice (some ⟨g384, 0, none⟩) 2 (ng384 / 1)), (35, .slice (some ⟨g386, 0, none⟩) 2 (ng386 / 1))]) (by kernel_rfl) ?_
        refine t_end ?_
        exact ⟨hg_3ff g386 ng386 g385 g384 ng384 g383, rfl⟩
    have hg_ff : ∀ (g384 : Nat) (ng384 : Nat) (g383 : Nat), G [true, true, true, true, true, true, true, true, false, false, false, false] [(2, .int .i64 i2), (3, .int .i64 n3), (8, .pointer (some ⟨b369, 0, none⟩)), (9, .slice (some ⟨g370, 0, none⟩) 1 1), (10, .slice (some ⟨g371, 0, none⟩) 1 1), (20, .slice (some ⟨N381, 1, none⟩) 2 3), (21, .int .i64 2), (22, .int .i64 0), (30, .slice (some ⟨g384, 0, none⟩) 2 (ng384 / 1)), (31, .slice (some ⟨g371, 0, none⟩) 1 1), (33, .int .i64 t375)] ([⟨g384, [.int .i64 a0_0, .int .i64 t374], ng384⟩, ⟨g383, [.int .i64 t374], 1⟩, ⟨b382, [.int .i64 t374, .int .i64 t375], 2⟩, ⟨N381, [.int .i64 t373, .int .i64 t374, .int .i64 t375, .int .i64 t376, .int .i64 t377, .int .i64 t378, .int .i64 t379], 7⟩, ⟨g371, [.int .i64 a0_1], 1⟩, ⟨b369, [.int .i64 0, .int .i64 0], 2⟩, ⟨b368, [.int .i64 2, .int .i64 s1_1, .int .i64 s1_2, .int .i64 s1_3, .int .i64 s1_4, .int .i64 s1_5, .int .i64 s1_6], 7⟩, ⟨b367, [.int .i64 a0_0, .int .i64 a0_1], 2⟩] : List Own) := by
      intro g384 ng384 g383
      refine hstep [8] _ _ _ (by kernel_rfl) (List.cons_ne_nil _ _) ⟨?_, trivial⟩
      · show T _ _ _ _ _ _ _ _
        refine t_a (.bsl rfl rfl rfl rfl) fun g385 fg385 sg385 => ?_
        refine t_keep [2, 3, 8, 9, 10, 20, 21, 22, 30, 31, 34] (σ' := [(2, .int .i64 i2), (3, .int .i64 n3), (8, .pointer (some ⟨b369, 0, none⟩)), (9, .slice (some ⟨g370, 0, none⟩) 1 1), (10, .slice (some ⟨g371, 0, none⟩) 1 1), (20, .slice (some ⟨N381, 1, none⟩) 2 3), (21, .int .i64 2), (22, .int .i64 0), (30, .slice (some ⟨g384, 0, none⟩) 2 (ng384 / 1)), (31, .slice (some ⟨g371, 0, none⟩) 1 1), (34, .slice (some ⟨g385, 0, none⟩) 1 1)]) (by kernel_rfl) ?_
        refine t_end ?_
        exact ⟨hg_1ff g385 g384 ng384 g383, rfl⟩
    have hg_1ef : ∀ (g385 : Nat) (g383 : Nat), G [true, true, true, true, false, true, true, true, true, false, false, false] [(2, .int .i64 i2), (3, .int .i64 n3), (8, .pointer (some ⟨b369, 0, none⟩)), (9, .slice (some ⟨g370, 0, none⟩) 1 1), (10, .slice (some ⟨g371, 0, none⟩) 1 1), (20, .slice (some ⟨N381, 1, none⟩) 2 3), (21, .int .i64 2), (22, .int .i64 0), (26, .slice (some ⟨g370, 0, none⟩) 1 1), (29, .slice (some ⟨g383, 0, none⟩) 1 1), (31, .slice (some ⟨g371, 0, none⟩) 1 1), (34, .slice (some ⟨g385, 0, none⟩) 1 1)] ([⟨g385, [.int .i64 t375], 1⟩, ⟨g383, [.int .i64 t374], 1⟩, ⟨b382, [.int .i64 t374, .int .i64 t375], 2⟩, ⟨N381, [.int .i64 t373, .int .i64 t374, .int .i64 t375, .int .i64 t376, .int .i64 t377, .int .i64 t378, .int .i64 t379], 7⟩, ⟨g371, [.int .i64 a0_1], 1⟩, ⟨g370, [.int .i64 a0_0], 1⟩, ⟨b369, [.int .i64 0, .int .i64 0], 2⟩, ⟨b368, [.int .i64 2, .int .i64 s1_1, .int .i64 s1_2, .int .i64 s1_3, .int .i64 s1_4, .int .i64 s1_5, .int .i64 s1_6], 7⟩, ⟨b367, [.int .i64 a0_0, .int .i64 a0_1], 2⟩] : List Own) := by
      intro g385 g383
      refine hstep [4] _ _ _ (by kernel_rfl) (List.cons_ne_nil _ _) ⟨?_, trivial⟩
      · show T _ _ _ _ _ _ _ _
        refine t_app1 (cs := [.int .i64 a0_0]) (M := 1) (F := ([⟨g385, [.int .i64 t375], 1⟩, ⟨g383, [.int .i64 t374], 1⟩, ⟨b382, [.int .i64 t374, .int .i64 t375], 2⟩, ⟨N381, [.int .i64 t373, .int .i64 t374, .int .i64 t375, .int .i64 t376, .int .i64 t377, .int .i64 t378, .int .i64 t379], 7⟩, ⟨g371, [.int .i64 a0_1], 1⟩, ⟨b369, [.int .i64 0, .int .i64 0], 2⟩, ⟨b368, [.int .i64 2, .int .i64 s1_1, .int .i64 s1_2, .int .i64 s1_3, .int .i64 s1_4, .int .i64 s1_5, .int .i64 s1_6], 7⟩, ⟨b367, [.int .i64 a0_0, .int .i64 a0_1], 2⟩] : List Own)) (news := [.int .i64 t374]) rfl rfl rfl rfl (sel_perm (is := [5]) (by kernel_rfl)) (.at 1 rfl rfl) (by kernel_rfl) rfl rfl (by decide) (by decide) rfl fun g384 ng384 => ?_
        refine t_keep [2, 3, 8, 9, 10, 20, 21, 22, 30, 31, 34] (σ' := [(2, .int .i64 i2), (3, .int .i64 n3), (8, .pointer (some ⟨b369, 0, none⟩)), (9, .slice (some ⟨g370, 0, none⟩) 1 1), (10, .slice (some ⟨g371, 0, none⟩) 1 1), (20, .slice (some ⟨N381, 1, none⟩) 2 3), (21, .int .i64 2), (22, .int .i64 0), (30, .slice (some ⟨g384, 0, none⟩) 2 (ng384 / 1)), (31, .slice (some ⟨g371, 0, none⟩) 1 1), (34, .slice (some ⟨g385, 0, none⟩) 1 1)]) (by kernel_rfl) ?_
        refine t_vs (H' := ([⟨g385, [.int .i64 t375], 1⟩, ⟨g384, [.int .i64 a0_0, .int .i64 t374], ng384⟩, ⟨g383, [.int .i64 t374], 1⟩, ⟨b382, [.int .i64 t374, .int .i64 t375], 2⟩, ⟨N381, [.int .i64 t373, .int .i64 t374, .int .i64 t375, .int .i64 t376, .int .i64 t377, .int .i64 t378, .int .i64 t379], 7⟩, ⟨g371, [.int .i64 a0_1], 1⟩, ⟨b369, [.int .i64 0, .int .i64 0], 2⟩, ⟨b368, [.int .i64 2, .int .i64 s1_1, .int .i64 s1_2, .int .i64 s1_3, .int .i64 s1_4, .int .i64 s1_5, .int .i64 s1_6], 7⟩, ⟨b367, [.int .i64 a0_0, .int .i64 a0_1], 2⟩] : List Own)) (S' := S) (VS.sel [1, 0, 0, 0, 0, 0, 0, 0, 0] (by kernel_rfl)) ?_
        refine t_end ?_
        exact ⟨hg_1ff g385 g384 ng384 g383, rfl⟩
    have hg_1e7 : ∀ (g385 : Nat), G [true, true, true, false, false, true, true, true, true, false, false, false] [(2, .int .i64 i2), (3, .int .i64 n3), (8, .pointer (some ⟨b369, 0, none⟩)), (9, .slice (some ⟨g370, 0, none⟩) 1 1), (10, .slice (some ⟨g371, 0, none⟩) 1 1), (20, .slice (some ⟨N381, 1, none⟩) 2 3), (21, .int .i64 2), (22, .int .i64 0), (26, .slice (some ⟨g370, 0, none⟩) 1 1), (28, .int .i64 t374), (31, .slice (some ⟨g371, 0, none⟩) 1 1), (34, .slice (some ⟨g385, 0, none⟩) 1 1)] ([⟨g385, [.int .i64 t375], 1⟩, ⟨b382, [.int .i64 t374, .int .i64 t375], 2⟩, ⟨N381, [.int .i64 t373, .int .i64 t374, .int .i64 t375, .int .i64 t376, .int .i64 t377, .int .i64 t378, .int .i64 t379], 7⟩, ⟨g371, [.int .i64 a0_1], 1⟩, ⟨g370, [.int .i64 a0_0], 1⟩, ⟨b369, [.int .i64 0, .int .i64 0], 2⟩, ⟨b368, [.int .i64 2, .int .i64 s1_1, .int .i64 s1_2, .int .i64 s1_3, .int .i64 s1_4, .int .i64 s1_5, .int .i64 s1_6], 7⟩, ⟨b367, [.int .i64 a0_0, .int .i64 a0_1], 2⟩] : List Own) := by
      intro g385
      refine hstep [3] _ _ _ (by kernel_rfl) (List.cons_ne_nil _ _) ⟨?_, trivial⟩
      · show T _ _ _ _ _ _ _ _
        refine t_a (.bsl rfl rfl rfl rfl) fun g383 fg383 sg383 => ?_
        refine t_keep [2, 3, 8, 9, 10, 20, 21, 22, 26, 29, 31, 34] (σ' := [(2, .int .i64 i2), (3, .int .i64 n3), (8, .pointer (some ⟨b369, 0, none⟩)), (9, .slice (some ⟨g370, 0, none⟩) 1 1), (10, .slice (some ⟨g371, 0, none⟩) 1 1), (20, .slice (some ⟨N381, 1, none⟩) 2 3), (21, .int .i64 2), (22, .int .i64 0), (26, .slice (some ⟨g370, 0, none⟩) 1 1), (29, .slice (some ⟨g383, 0, none⟩) 1 1), (31, .slice (some ⟨g371, 0, none⟩) 1 1), (34, .slice (some ⟨g385, 0, none⟩) 1 1)]) (by kernel_rfl) ?_
        refine t_vs (H' := ([⟨g385, [.int .i64 t375], 1⟩, ⟨g383, [.int .i64 t374], 1⟩, ⟨b382, [.int .i64 t374, .int .i64 t375], 2⟩, ⟨N381, [.int .i64 t373, .int .i64 t374, .int .i64 t375, .int .i64 t376, .int .i64 t377, .int .i64 t378, .int .i64 t379], 7⟩, ⟨g371, [.int .i64 a0_1], 1⟩, ⟨g370, [.int .i64 a0_0], 1⟩, ⟨b369, [.int .i64 0, .int .i64 0], 2⟩, ⟨b368, [.int .i64 2, .int .i64 s1_1, .int .i64 s1_2, .int .i64 s1_3, .int .i64 s1_4, .int .i64 s1_5, .int .i64 s1_6], 7⟩, ⟨b367, [.int .i64 a0_0, .int .i64 a0_1], 2⟩] : List Own)) (S' := S) (VS.sel [1, 0, 0, 0, 0, 0, 0, 0, 0] (by kernel_rfl)) ?_
        refine t_end ?_
        exact ⟨hg_1ef g385 g383, rfl⟩
    have hg_ef : ∀ (g383 : Nat), G [true, true, true, true, false, true, true, true, false, false, false, false] [(2, .int .i64 i2), (3, .int .i64 n3), (8, .pointer (some ⟨b369, 0, none⟩)), (9, .slice (some ⟨g370, 0, none⟩) 1 1), (10, .slice (some ⟨g371, 0, none⟩) 1 1), (20, .slice (some ⟨N381, 1, none⟩) 2 3), (21, .int .i64 2), (22, .int .i64 0), (26, .slice (some ⟨g370, 0, none⟩) 1 1), (29, .slice (some ⟨g383, 0, none⟩) 1 1), (31, .slice (some ⟨g371, 0, none⟩) 1 1), (33, .int .i64 t375)] ([⟨g383, [.int .i64 t374], 1⟩, ⟨b382, [.int .i64 t374, .int .i64 t375], 2⟩, ⟨N381, [.int .i64 t373, .int .i64 t374, .int .i64 t375, .int .i64 t376, .int .i64 t377, .int .i64 t378, .int .i64 t379], 7⟩, ⟨g371, [.int .i64 a0_1], 1⟩, ⟨g370, [.int .i64 a0_0], 1⟩, ⟨b369, [.int .i64 0, .int .i64 0], 2⟩, ⟨b368, [.int .i64 2, .int .i64 s1_1, .int .i64 s1_2, .int .i64 s1_3, .int .i64 s1_4, .int .i64 s1_5, .int .i64 s1_6], 7⟩, ⟨b367, [.int .i64 a0_0, .int .i64 a0_1], 2⟩] : List Own) := by
      intro g383
      refine hstep [4, 8] _ _ _ (by kernel_rfl) (List.cons_ne_nil _ _) ⟨?_, ?_, trivial⟩
      · show T _ _ _ _ _ _ _ _
        refine t_app1 (cs := [.int .i64 a0_0]) (M := 1) (F := ([⟨g383, [.int .i64 t374], 1⟩, ⟨b382, [.int .i64 t374, .int .i64 t375], 2⟩, ⟨N381, [.int .i64 t373, .int .i64 t374, .int .i64 t375, .int .i64 t376, .int .i64 t377, .int .i64 t378, .int .i64 t379], 7⟩, ⟨g371, [.int .i64 a0_1], 1⟩, ⟨b369, [.int .i64 0, .int .i64 0], 2⟩, ⟨b368, [.int .i64 2, .int .i64 s1_1, .int .i64 s1_2, .int .i64 s1_3, .int .i64 s1_4, .int .i64 s1_5, .int .i64 s1_6], 7⟩, ⟨b367, [.int .i64 a0_0, .int .i64 a0_1], 2⟩] : List Own)) (news := [.int .i64 t374]) rfl rfl rfl rfl (sel_perm (is := [4]) (by kernel_rfl)) (.at 0 rfl rfl) (by kernel_rfl) rfl rfl (by decide) (by decide) rfl fun g384 ng384 => ?_
        refine t_keep [2, 3, 8, 9, 10, 20, 21, 22, 30, 31, 33] (σ' := [(2, .int .i64 i2), (3, .int .i64 n3), (8, .pointer (some ⟨b369, 0, none⟩)), (9, .slice (some ⟨g370, 0, none⟩) 1 1), (10, .slice (some ⟨g371, 0, none⟩) 1 1), (20, .slice (some ⟨N381, 1, none⟩) 2 3), (21, .int .i64 2), (22, .int .i64 0), (30, .slice (some ⟨g384, 0, none⟩) 2 (ng384 / 1)), (31, .slice (some ⟨g371, 0, none⟩) 1 1), (33, .int .i64 t375)]) (by kernel_rfl) ?_
        refine t_end ?_
        exact ⟨hg_ff g384 ng384 g383, rfl⟩
      · show T _ _ _ _ _ _ _ _
        refine t_a (.bsl rfl rfl rfl rfl) fun g385 fg385 sg385 => ?_
        refine t_keep [2, 3, 8, 9, 10, 20, 21, 22, 26, 29, 31, 34] (σ' := [(2, .int .i64 i2), (3, .int .i64 n3), (8, .pointer (some ⟨b369, 0, none⟩)), (9, .slice (some ⟨g370, 0, none⟩) 1 1), (10, .slice (some ⟨g371, 0, none⟩) 1 1), (20, .slice (some ⟨N381, 1, none⟩) 2 3), (21, .int .i64 2), (22, .int .i64 0), (26, .slice (some ⟨g370, 0, none⟩) 1 1), (29, .slice (some ⟨g383, 0, none⟩) 1 1), (31, .slice (some ⟨g371, 0, none⟩) 1 1), (34, .slice (some ⟨g385, 0, none⟩) 1 1)]) (by kernel_rfl) ?_
        refine t_end ?_
        exact ⟨hg_1ef g385 g383, rfl⟩
    have hg_7f : ∀ (g384 : Nat) (ng384 : Nat) (g383 : Nat), G [true, true, true, true, true, true, true, false, false, false, false, false] [(2, .int .i64 i2), (3, .int .i64 n3), (8, .pointer (some ⟨b369, 0, none⟩)), (9, .slice (some ⟨g370, 0, none⟩) 1 1), (10, .slice (some ⟨g371, 0, none⟩) 1 1), (20, .slice (some ⟨N381, 1, none⟩) 2 3), (21, .int .i64 2), (22, .int .i64 0), (30, .slice (some ⟨g384, 0, none⟩) 2 (ng384 / 1)), (31, .slice (some ⟨g371, 0, none⟩) 1 1), (32, .pointer (some ⟨b382, 1, none⟩))] ([⟨g384, [.int .i64 a0_0, .int .i64 t374], ng384⟩, ⟨g383, [.int .i64 t374], 1⟩, ⟨b382, [.int .i64 t374, .int .i64 t375], 2⟩, ⟨N381, [.int .i64 t373, .int .i64 t374, .int .i64 t375, .int .i64 t376, .int .i64 t377, .int .i64 t378, .int .i64 t379], 7⟩, ⟨g371, [.int .i64 a0_1], 1⟩, ⟨b369, [.int .i64 0, .int .i64 0], 2⟩, ⟨b368, [.int .i64 2, .int .i64 s1_1, .int .i64 s1_2, .int .i64 s1_3, .int .i64 s1_4, .int .i64 s1_5, .int .i64 s1_6], 7⟩, ⟨b367, [.int .i64 a0_0, .int .i64 a0_1], 2⟩] : List Own) := by
      intro g384 ng384 g383
      refine hstep [7] _ _ _ (by kernel_rfl) (List.cons_ne_nil _ _) ⟨?_, trivial⟩
      · show T _ _ _ _ _ _ _ _
        refine t_v (.ld1 rfl rfl rfl (.at 2 rfl rfl)) ?_
        refine t_keep [2, 3, 8, 9, 10, 20, 21, 22, 30, 31, 33] (σ' := [(2, .int .i64 i2), (3, .int .i64 n3), (8, .pointer (some ⟨b369, 0, none⟩)), (9, .slice (some ⟨g370, 0, none⟩) 1 1), (10, .slice (some ⟨g371, 0, none⟩) 1 1), (20, .slice (some ⟨N381, 1, none⟩) 2 3), (21, .int .i64 2), (22, .int .i64 0), (30, .slice (some ⟨g384, 0, none⟩) 2 (ng384 / 1)), (31, .slice (some ⟨g371, 0, none⟩) 1 1), (33, .int .i64 t375)]) (by kernel_rfl) ?_
        refine t_end ?_
        exact ⟨hg_ff g384 ng384 g383, rfl⟩
    have hg_1e3 : ∀ (g385 : Nat), G [true, true, false, false, false, true, true, true, true, false, false, false] [(2, .int .i64 i2), (3, .int .i64 n3), (8, .pointer (some ⟨b369, 0, none⟩)), (9, .slice (some ⟨g370, 0, none⟩) 1 1), (10, .slice (some ⟨g371, 0, none⟩) 1 1), (20, .slice (some ⟨N381, 1, none⟩) 2 3), (21, .int .i64 2), (22, .int .i64 0), (26, .slice (some ⟨g370, 0, none⟩) 1 1), (27, .pointer (some ⟨b382, 0, none⟩)), (31, .slice (some ⟨g371, 0, none⟩) 1 1), (34, .slice (some ⟨g385, 0, none⟩) 1 1)] ([⟨g385, [.int .i64 t375], 1⟩, ⟨b382, [.int .i64 t374, .int .i64 t375], 2⟩, ⟨N381, [.int .i64 t373, .int .i64 t374, .int .i64 t375, .int .i64 t376, .int .i64 t377, .int .i64 t378, .int .i64 t379], 7⟩, ⟨g371, [.int .i64 a0_1], 1⟩, ⟨g370, [.int .i64 a0_0], 1⟩, ⟨b369, [.int .i64 0, .int .i64 0], 2⟩, ⟨b368, [.int .i64 2, .int .i64 s1_1, .int .i64 s1_2, .int .i64 s1_3, .int .i64 s1_4, .int .i64 s1_5, .int .i64 s1_6], 7⟩, ⟨b367, [.int .i64 a0_0, .int .i64 a0_1], 2⟩] : List Own) := by
      intro g385
      refine hstep [2] _ _ _ (by kernel_rfl) (List.cons_ne_nil _ _) ⟨?_, trivial⟩
      · show T _ _ _ _ _ _ _ _
        refine t_v (.ld1 rfl rfl rfl (.at 1 rfl rfl)) ?_
        refine t_keep [2, 3, 8, 9, 10, 20, 21, 22, 26, 28, 31, 34] (σ' := [(2, .int .i64 i2), (3, .int .i64 n3), (8, .pointer (some ⟨b369, 0, none⟩)), (9, .slice (some ⟨g370, 0, none⟩) 1 1), (10, .slice (some ⟨g371, 0, none⟩) 1 1), (20, .slice (some ⟨N381, 1, none⟩) 2 3), (21, .int .i64 2), (22, .int .i64 0), (26, .slice (some ⟨g370, 0, none⟩) 1 1), (28, .int .i64 t374), (31, .slice (some ⟨g371, 0, none⟩) 1 1), (34, .slice (some ⟨g385, 0, none⟩) 1 1)]) (by kernel_rfl) ?_
        refine t_end ?_
        exact ⟨hg_1e7 g385, rfl⟩
    have hg_e7 : G [true, true, true, false, false, true, true, true, false, false, false, false] [(2, .int .i64 i2), (3, .int .i64 n3), (8, .pointer (some ⟨b369, 0, none⟩)), (9, .slice (some ⟨g370, 0, none⟩) 1 1), (10, .slice (some ⟨g371, 0, none⟩) 1 1), (20, .slice (some ⟨N381, 1, none⟩) 2 3), (21, .int .i64 2), (22, .int .i64 0), (26, .slice (some ⟨g370, 0, none⟩) 1 1), (28, .int .i64 t374), (31, .slice (some ⟨g371, 0, none⟩) 1 1), (33, .int .i64 t375)] ([⟨b382, [.int .i64 t374, .int .i64 t375], 2⟩, ⟨N381, [.int .i64 t373, .int .i64 t374, .int .i64 t375, .int .i64 t376, .int .i64 t377, .int .i64 t378, .int .i64 t379], 7⟩, ⟨g371, [.int .i64 a0_1], 1⟩, ⟨g370, [.int .i64 a0_0], 1⟩, ⟨b369, [.int .i64 0, .int .i64 0], 2⟩, ⟨b368, [.int .i64 2, .int .i64 s1_1, .int .i64 s1_2, .int .i64 s1_3, .int .i64 s1_4, .int .i64 s1_5, .int .i64 s1_6], 7⟩, ⟨b367, [.int .i64 a0_0, .int .i64 a0_1], 2⟩] : List Own) := by
      refine hstep [3, 8] _ _ _ (by kernel_rfl) (List.cons_ne_nil _ _) ⟨?_, ?_, trivial⟩
      · show T _ _ _ _ _ _ _ _
        refine t_a (.bsl rfl rfl rfl rfl) fun g383 fg383 sg383 => ?_
        refine t_keep [2, 3, 8, 9, 10, 20, 21, 22, 26, 29, 31, 33] (σ' := [(2, .int .i64 i2), (3, .int .i64 n3), (8, .pointer (some ⟨b369, 0, none⟩)), (9, .slice (some ⟨g370, 0, none⟩) 1 1), (10, .slice (some ⟨g371, 0, none⟩) 1 1), (20, .slice (some ⟨N381, 1, none⟩) 2 3), (21, .int .i64 2), (22, .int .i64 0), (26, .slice (some ⟨g370, 0, none⟩) 1 1), (29, .slice (some ⟨g383, 0, none⟩) 1 1), (31, .slice (some ⟨g371, 0, none⟩) 1 1), (33, .int .i64 t375)]) (by kernel_rfl) ?_
        refine t_end ?_
        exact ⟨hg_ef g383, rfl⟩
      · show T _ _ _ _ _ _ _ _
        refine t_a (.bsl rfl rfl rfl rfl) fun g385 fg385 sg385 => ?_
        refine t_keep [2, 3, 8, 9, 10, 20, 21, 22, 26, 28, 31, 34] (σ' := [(2, .int .i64 i2), (3, .int .i64 n3), (8, .pointer (some ⟨b369, 0, none⟩)), (9, .slice (some ⟨g370, 0, none⟩) 1 1), (10, .slice (some ⟨g371, 0, none⟩) 1 1), (20, .slice (some ⟨N381, 1, none⟩) 2 3), (21, .int .i64 2), (22, .int .i64 0), (26, .slice (some ⟨g370, 0, none⟩) 1 1), (28, .int .i64 t374), (31, .slice (some ⟨g371, 0, none⟩) 1 1), (34, .slice (some ⟨g385, 0, none⟩) 1 1)]) (by kernel_rfl) ?_
        refine t_end ?_
        exact ⟨hg_1e7 g385, rfl⟩
    have hg_6f : ∀ (g383 : Nat), G [true, true, true, true, false, true, true, false, false, false, false, false] [(2, .int .i64 i2), (3, .int .i64 n3), (8, .pointer (some ⟨b369, 0, none⟩)), (9, .slice (some ⟨g370, 0, none⟩) 1 1), (10, .slice (some ⟨g371, 0, none⟩) 1 1), (20, .slice (some ⟨N381, 1, none⟩) 2 3), (21, .int .i64 2), (22, .int .i64 0), (26, .slice (some ⟨g370, 0, none⟩) 1 1), (29, .slice (some ⟨g383, 0, none⟩) 1 1), (31, .slice (some ⟨g371, 0, none⟩) 1 1), (32, .pointer (some ⟨b382, 1, none⟩))] ([⟨g383, [.int .i64 t374], 1⟩, ⟨b382, [.int .i64 t374, .int .i64 t375], 2⟩, ⟨N381, [.int .i64 t373, .int .i64 t374, .int .i64 t375, .int .i64 t376, .int .i64 t377, .int .i64 t378, .int .i64 t379], 7⟩, ⟨g371, [.int .i64 a0_1], 1⟩, ⟨g370, [.int .i64 a0_0], 1⟩, ⟨b369, [.int .i64 0, .int .i64 0], 2⟩, ⟨b368, [.int .i64 2, .int .i64 s1_1, .int .i64 s1_2, .int .i64 s1_3, .int .i64 s1_4, .int .i64 s1_5, .int .i64 s1_6], 7⟩, ⟨b367, [.int .i64 a0_0, .int .i64 a0_1], 2⟩] : List Own) := by
      intro g383
      refine hstep [4, 7] _ _ _ (by kernel_rfl) (List.cons_ne_nil _ _) ⟨?_, ?_, trivial⟩
      · show T _ _ _ _ _ _ _ _
        refine t_app1 (cs := [.int .i64 a0_0]) (M := 1) (F := ([⟨g383, [.int .i64 t374], 1⟩, ⟨b382, [.int .i64 t374, .int .i64 t375], 2⟩, ⟨N381, [.int .i64 t373, .int .i64 t374, .int .i64 t375, .int .i64 t376, .int .i64 t377, .int .i64 t378, .int .i64 t379], 7⟩, ⟨g371, [.int .i64 a0_1], 1⟩, ⟨b369, [.int .i64 0, .int .i64 0], 2⟩, ⟨b368, [.int .i64 2, .int .i64 s1_1, .int .i64 s1_2, .int .i64 s1_3, .int .i64 s1_4, .int .i64 s1_5, .int .i64 s1_6], 7⟩, ⟨b367, [.int .i64 a0_0, .int .i64 a0_1], 2⟩] : List Own)) (news := [.int .i64 t374]) rfl rfl rfl rfl (sel_perm (is := [4]) (by kernel_rfl)) (.at 0 rfl rfl) (by kernel_rfl) rfl rfl (by decide) (by decide) rfl fun g384 ng384 => ?_
        refine t_keep [2, 3, 8, 9, 10, 20, 21, 22, 30, 31, 32] (σ' := [(2, .int .i64 i2), (3, .int .i64 n3), (8, .pointer (some ⟨b369, 0, none⟩)), (9, .slice (some ⟨g370, 0, none⟩) 1 1), (10, .slice (some ⟨g371, 0, none⟩) 1 1), (20, .slice (some ⟨N381, 1, none⟩) 2 3), (21, .int .i64 2), (22, .int .i64 0), (30, .slice (some ⟨g384, 0, none⟩) 2 (ng384 / 1)), (31, .slice (some ⟨g371, 0, none⟩) 1 1), (32, .pointer (some ⟨b382, 1, none⟩))]) (by kernel_rfl) ?_
        refine t_end ?_
        exact ⟨hg_7f g384 ng384 g383, rfl⟩
      · show T _ _ _ _ _ _ _ _
        refine t_v (.ld1 rfl rfl rfl (.at 1 rfl rfl)) ?_
        refine t_keep [2, 3, 8, 9, 10, 20, 21, 22, 26, 29, 31, 33] (σ' := [(2, .int .i64 i2), (3, .int .i64 n3), (8, .pointer (some ⟨b369, 0, none⟩)), (9, .slice (some ⟨g370, 0, none⟩) 1 1), (10, .slice (some ⟨g371, 0, none⟩) 1 1), (20, .slice (some ⟨N381, 1, none⟩) 2 3), (21, .int .i64 2), (22, .int .i64 0), (26, .slice (some ⟨g370, 0, none⟩) 1 1), (29, .slice (some ⟨g383, 0, none⟩) 1 1), (31, .slice (some ⟨g371, 0, none⟩) 1 1), (33, .int .i64 t375)]) (by kernel_rfl) ?_
        refine t_end ?_
        exact ⟨hg_ef g383, rfl⟩
    have hg_e3 : G [true, true, false, false, false, true, true, true, false, false, false, false] [(2, .int .i64 i2), (3, .int .i64 n3), (8, .pointer (some ⟨b369, 0, none⟩)), (9, .slice (some ⟨g370, 0, none⟩) 1 1), (10, .slice (some ⟨g371, 0, none⟩) 1 1), (20, .slice (some ⟨N381, 1, none⟩) 2 3), (21, .int .i64 2), (22, .int .i64 0), (26, .slice (some ⟨g370, 0, none⟩) 1 1), (27, .pointer (some ⟨b382, 0, none⟩)), (31, .slice (some ⟨g371, 0, none⟩) 1 1), (33, .int .i64 t375)] ([⟨b382, [.int .i64 t374, .int .i64 t375], 2⟩, ⟨N381, [.int .i64 t373, .int .i64 t374, .int .i64 t375, .int .i64 t376, .int .i64 t377, .int .i64 t378, .int .i64 t379], 7⟩, ⟨g371, [.int .i64 a0_1], 1⟩, ⟨g370, [.int .i64 a0_0], 1⟩, ⟨b369, [.int .i64 0, .int .i64 0], 2⟩, ⟨b368, [.int .i64 2, .int .i64 s1_1, .int .i64 s1_2, .int .i64 s1_3, .int .i64 s1_4, .int .i64 s1_5, .int .i64 s1_6], 7⟩, ⟨b367, [.int .i64 a0_0, .int .i64 a0_1], 2⟩] : List Own) := by
      refine hstep [2, 8] _ _ _ (by kernel_rfl) (List.cons_ne_nil _ _) ⟨?_, ?_, trivial⟩
      · show T _ _ _ _ _ _ _ _
        refine t_v (.ld1 rfl rfl rfl (.at 0 rfl rfl)) ?_
        refine t_keep [2, 3, 8, 9, 10, 20, 21, 22, 26, 28, 31, 33] (σ' := [(2, .int .i64 i2), (3, .int .i64 n3), (8, .pointer (some ⟨b369, 0, none⟩)), (9, .slice (some ⟨g370, 0, none⟩) 1 1), (10, .slice (some ⟨g371, 0, none⟩) 1 1), (20, .slice (some ⟨N381, 1, none⟩) 2 3), (21, .int .i64 2), (22, .int .i64 0), (26, .slice (some ⟨g370, 0, none⟩) 1 1), (28, .int .i64 t374), (31, .slice (some ⟨g371, 0, none⟩) 1 1), (33, .int .i64 t375)]) (by kernel_rfl) ?_
        refine t_end ?_
        exact ⟨hg_e7, rfl⟩
      · show T _ _ _ _ _ _ _ _
        refine t_a (.bsl rfl rfl rfl rfl) fun g385 fg385 sg385 => ?_
        refine t_keep [2, 3, 8, 9, 10, 20, 21, 22, 26, 27, 31, 34] (σ' := [(2, .int .i64 i2), (3, .int .i64 n3), (8, .pointer (some ⟨b369, 0, none⟩)), (9, .slice (some ⟨g370, 0, none⟩) 1 1), (10, .slice (some ⟨g371, 0, none⟩) 1 1), (20, .slice (some ⟨N381, 1, none⟩) 2 3), (21, .int .i64 2), (22, .int .i64 0), (26, .slice (some ⟨g370, 0, none⟩) 1 1), (27, .pointer (some ⟨b382, 0, none⟩)), (31, .slice (some ⟨g371, 0, none⟩) 1 1), (34, .slice (some ⟨g385, 0, none⟩) 1 1)]) (by kernel_rfl) ?_
        refine t_end ?_
        exact ⟨hg_1e3 g385, rfl⟩
    have hg_67 : G [true, true, true, false, false, true, true, false, false, false, false, false] [(2, .int .i64 i2), (3, .int .i64 n3), (8, .pointer (some ⟨b369, 0, none⟩)), (9, .slice (some ⟨g370, 0, none⟩) 1 1), (10, .slice (some ⟨g371, 0, none⟩) 1 1), (20, .slice (some ⟨N381, 1, none⟩) 2 3), (21, .int .i64 2), (22, .int .i64 0), (26, .slice (some ⟨g370, 0, none⟩) 1 1), (28, .int .i64 t374), (31, .slice (some ⟨g371, 0, none⟩) 1 1), (32, .pointer (some ⟨b382, 1, none⟩))] ([⟨b382, [.int .i64 t374, .int .i64 t375], 2⟩, ⟨N381, [.int .i64 t373, .int .i64 t374, .int .i64 t375, .int .i64 t376, .int .i64 t377, .int .i64 t378, .int .i64 t379], 7⟩, ⟨g371, [.int .i64 a0_1], 1⟩, ⟨g370, [.int .i64 a0_0], 1⟩, ⟨b369, [.int .i64 0, .int .i64 0], 2⟩, ⟨b368, [.int .i64 2, .int .i64 s1_1, .int .i64 s1_2, .int .i64 s1_3, .int .i64 s1_4, .int .i64 s1_5, .int .i64 s1_6], 7⟩, ⟨b367, [.int .i64 a0_0, .int .i64 a0_1], 2⟩] : List Own) := by
      refine hstep [3, 7] _ _ _ (by kernel_rfl) (List.cons_ne_nil _ _) ⟨?_, ?_, trivial⟩
      · show T _ _ _ _ _ _ _ _
        refine t_a (.bsl rfl rfl rfl rfl) fun g383 fg383 sg383 => ?_
        refine t_keep [2, 3, 8, 9, 10, 20, 21, 22, 26, 29, 31, 32] (σ' := [(2, .int .i64 i2), (3, .int .i64 n3), (8, .pointer (some ⟨b369, 0, none⟩)), (9, .slice (some ⟨g370, 0, none⟩) 1 1), (10, .slice (some ⟨g371, 0, none⟩) 1 1), (20, .slice (some ⟨N381, 1, none⟩) 2 3), (21, .int .i64 2), (22, .int .i64 0), (26, .slice (some ⟨g370, 0, none⟩) 1 1), (29, .slice (some ⟨g383, 0, none⟩) 1 1), (31, .slice (some ⟨g371, 0, none⟩) 1 1), (32, .pointer (some ⟨b382, 1, none⟩))]) (by kernel_rfl) ?_
        refine t_end ?_
        exact ⟨hg_6f g383, rfl⟩
      · show T _ _ _ _ _ _ _ _
        refine t_v (.ld1 rfl rfl rfl (.at 0 rfl rfl)) ?_
        refine t_keep [2, 3, 8, 9, 10, 20, 21, 22, 26, 28, 31, 33] (σ' := [(2, .int .i64 i2), (3, .int .i64 n3), (8, .pointer (some ⟨b369, 0, none⟩)), (9, .slice (some ⟨g370, 0, none⟩) 1 1), (10, .slice (some ⟨g371, 0, none⟩) 1 1), (20, .slice (some ⟨N381, 1, none⟩) 2 3), (21, .int .i64 2), (22, .int .i64 0), (26, .slice (some ⟨g370, 0, none⟩) 1 1), (28, .int .i64 t374), (31, .slice (some ⟨g371, 0, none⟩) 1 1), (33, .int .i64 t375)]) (by kernel_rfl) ?_
        refine t_end ?_
        exact ⟨hg_e7, rfl⟩
    have hg_63 : G [true, true, false, false, false, true, true, false, false, false, false, false] [(2, .int .i64 i2), (3, .int .i64 n3), (8, .pointer (some ⟨b369, 0, none⟩)), (9, .slice (some ⟨g370, 0, none⟩) 1 1), (10, .slice (some ⟨g371, 0, none⟩) 1 1), (20, .slice (some ⟨N381, 1, none⟩) 2 3), (21, .int .i64 2), (22, .int .i64 0), (26, .slice (some ⟨g370, 0, none⟩) 1 1), (27, .pointer (some ⟨b382, 0, none⟩)), (31, .slice (some ⟨g371, 0, none⟩) 1 1), (32, .pointer (some ⟨b382, 1, none⟩))] ([⟨b382, [.int .i64 t374, .int .i64 t375], 2⟩, ⟨N381, [.int .i64 t373, .int .i64 t374, .int .i64 t375, .int .i64 t376, .int .i64 t377, .int .i64 t378, .int .i64 t379], 7⟩, ⟨g371, [.int .i64 a0_1], 1⟩, ⟨g370, [.int .i64 a0_0], 1⟩, ⟨b369, [.int .i64 0, .int .i64 0], 2⟩, ⟨b368, [.int .i64 2, .int .i64 s1_1, .int .i64 s1_2, .int .i64 s1_3, .int .i64 s1_4, .int .i64 s1_5, .int .i64 s1_6], 7⟩, ⟨b367, [.int .i64 a0_0, .int .i64 a0_1], 2⟩] : List Own) := by
      refine hstep [2, 7] _ _ _ (by kernel_rfl) (List.cons_ne_nil _ _) ⟨?_, ?_, trivial⟩
      · show T _ _ _ _ _ _ _ _
        refine t_v (.ld1 rfl rfl rfl (.at 0 rfl rfl)) ?_
        refine t_keep [2, 3, 8, 9, 10, 20, 21, 22, 26, 28, 31, 32] (σ' := [(2, .int .i64 i2), (3, .int .i64 n3), (8, .pointer (some ⟨b369, 0, none⟩)), (9, .slice (some ⟨g370, 0, none⟩) 1 1), (10, .slice (some ⟨g371, 0, none⟩) 1 1), (20, .slice (some ⟨N381, 1, none⟩) 2 3), (21, .int .i64 2), (22, .int .i64 0), (26, .slice (some ⟨g370, 0, none⟩) 1 1), (28, .int .i64 t374), (31, .slice (some ⟨g371, 0, none⟩) 1 1), (32, .pointer (some ⟨b382, 1, none⟩))]) (by kernel_rfl) ?_
        refine t_end ?_
        exact ⟨hg_67, rfl⟩
      · show T _ _ _ _ _ _ _ _
        refine t_v (.ld1 rfl rfl rfl (.at 0 rfl rfl)) ?_
        refine t_keep [2, 3, 8, 9, 10, 20, 21, 22, 26, 27, 31, 33] (σ' := [(2, .int .i64 i2), (3, .int .i64 n3), (8, .pointer (some ⟨b369, 0, none⟩)), (9, .slice (some ⟨g370, 0, none⟩) 1 1), (10, .slice (some ⟨g371, 0, none⟩) 1 1), (20, .slice (some ⟨N381, 1, none⟩) 2 3), (21, .int .i64 2), (22, .int .i64 0), (26, .slice (some ⟨g370, 0, none⟩) 1 1), (27, .pointer (some ⟨b382, 0, none⟩)), (31, .slice (some ⟨g371, 0, none⟩) 1 1), (33, .int .i64 t375)]) (by kernel_rfl) ?_
        refine t_end ?_
        exact ⟨hg_e3, rfl⟩
    have hg_23 : G [true, true, false, false, false, true, false, false, false, false, false, false] [(2, .int .i64 i2), (3, .int .i64 n3), (8, .pointer (some ⟨b369, 0, none⟩)), (9, .slice (some ⟨g370, 0, none⟩) 1 1), (10, .slice (some ⟨g371, 0, none⟩) 1 1), (12, .pointer (some ⟨b382, 0, none⟩)), (20, .slice (some ⟨N381, 1, none⟩) 2 3), (21, .int .i64 2), (22, .int .i64 0), (26, .slice (some ⟨g370, 0, none⟩) 1 1), (27, .pointer (some ⟨b382, 0, none⟩)), (31, .slice (some ⟨g371, 0, none⟩) 1 1)] ([⟨b382, [.int .i64 t374, .int .i64 t375], 2⟩, ⟨N381, [.int .i64 t373, .int .i64 t374, .int .i64 t375, .int .i64 t376, .int .i64 t377, .int .i64 t378, .int .i64 t379], 7⟩, ⟨g371, [.int .i64 a0_1], 1⟩, ⟨g370, [.int .i64 a0_0], 1⟩, ⟨b369, [.int .i64 0, .int .i64 0], 2⟩, ⟨b368, [.int .i64 2, .int .i64 s1_1, .int .i64 s1_2, .int .i64 s1_3, .int .i64 s1_4, .int .i64 s1_5, .int .i64 s1_6], 7⟩, ⟨b367, [.int .i64 a0_0, .int .i64 a0_1], 2⟩] : List Own) := by
      exact hqf 6 [2, 3, 8, 9, 10, 20, 21, 22, 26, 27, 31, 32] _ _ _ [(2, .int .i64 i2), (3, .int .i64 n3), (8, .pointer (some ⟨b369, 0, none⟩)), (9, .slice (some ⟨g370, 0, none⟩) 1 1), (10, .slice (some ⟨g371, 0, none⟩) 1 1), (20, .slice (some ⟨N381, 1, none⟩) 2 3), (21, .int .i64 2), (22, .int .i64 0), (26, .slice (some ⟨g370, 0, none⟩) 1 1), (27, .pointer (some ⟨b382, 0, none⟩)), (31, .slice (some ⟨g371, 0, none⟩) 1 1), (32, .pointer (some ⟨b382, 1, none⟩))] (by kernel_rfl) (by kernel_rfl) hg_63
    have hg_3 : G [true, true, false, false, false, false, false, false, false, false, false, false] [(2, .int .i64 i2), (3, .int .i64 n3), (8, .pointer (some ⟨b369, 0, none⟩)), (9, .slice (some ⟨g370, 0, none⟩) 1 1), (10, .slice (some ⟨g371, 0, none⟩) 1 1), (12, .pointer (some ⟨b382, 0, none⟩)), (20, .slice (some ⟨N381, 1, none⟩) 2 3), (21, .int .i64 2), (22, .int .i64 0), (26, .slice (some ⟨g370, 0, none⟩) 1 1), (27, .pointer (some ⟨b382, 0, none⟩))] ([⟨b382, [.int .i64 t374, .int .i64 t375], 2⟩, ⟨N381, [.int .i64 t373, .int .i64 t374, .int .i64 t375, .int .i64 t376, .int .i64 t377, .int .i64 t378, .int .i64 t379], 7⟩, ⟨g371, [.int .i64 a0_1], 1⟩, ⟨g370, [.int .i64 a0_0], 1⟩, ⟨b369, [.int .i64 0, .int .i64 0], 2⟩, ⟨b368, [.int .i64 2, .int .i64 s1_1, .int .i64 s1_2, .int .i64 s1_3, .int .i64 s1_4, .int .i64 s1_5, .int .i64 s1_6], 7⟩, ⟨b367, [.int .i64 a0_0, .int .i64 a0_1], 2⟩] : List Own) := by
      exact hqf 5 [2, 3, 8, 9, 10, 12, 20, 21, 22, 26, 27, 31] _ _ _ [(2, .int .i64 i2), (3, .int .i64 n3), (8, .pointer (some ⟨b369, 0, none⟩)), (9, .slice (some ⟨g370, 0, none⟩) 1 1), (10, .slice (some ⟨g371, 0, none⟩) 1 1), (12, .pointer (some ⟨b382, 0, none⟩)), (20, .slice (some ⟨N381, 1, none⟩) 2 3), (21, .int .i64 2), (22, .int .i64 0), (26, .slice (some ⟨g370, 0, none⟩) 1 1), (27, .pointer (some ⟨b382, 0, none⟩)), (31, .slice (some ⟨g371, 0, none⟩) 1 1)] (by kernel_rfl) (by kernel_rfl) hg_23
    have hg_1 : G [true, false, false, false, false, false, false, false, false, false, false, false] [(2, .int .i64 i2), (3, .int .i64 n3), (8, .pointer (some ⟨b369, 0, none⟩)), (9, .slice (some ⟨g370, 0, none⟩) 1 1), (10, .slice (some ⟨g371, 0, none⟩) 1 1), (12, .pointer (some ⟨b382, 0, none⟩)), (20, .slice (some ⟨N381, 1, none⟩) 2 3), (21, .int .i64 2), (22, .int .i64 0), (26, .slice (some ⟨g370, 0, none⟩) 1 1)] ([⟨b382, [.int .i64 t374, .int .i64 t375], 2⟩, ⟨N381, [.int .i64 t373, .int .i64 t374, .int .i64 t375, .int .i64 t376, .int .i64 t377, .int .i64 t378, .int .i64 t379], 7⟩, ⟨g371, [.int .i64 a0_1], 1⟩, ⟨g370, [.int .i64 a0_0], 1⟩, ⟨b369, [.int .i64 0, .int .i64 0], 2⟩, ⟨b368, [.int .i64 2, .int .i64 s1_1, .int .i64 s1_2, .int .i64 s1_3, .int .i64 s1_4, .int .i64 s1_5, .int .i64 s1_6], 7⟩, ⟨b367, [.int .i64 a0_0, .int .i64 a0_1], 2⟩] : List Own) := by
      exact hqf 1 [2, 3, 8, 9, 10, 12, 20, 21, 22, 26, 27] _ _ _ [(2, .int .i64 i2), (3, .int .i64 n3), (8, .pointer (some ⟨b369, 0, none⟩)), (9, .slice (some ⟨g370, 0, none⟩) 1 1), (10, .slice (some ⟨g371, 0, none⟩) 1 1), (12, .pointer (some ⟨b382, 0, none⟩)), (20, .slice (some ⟨N381, 1, none⟩) 2 3), (21, .int .i64 2), (22, .int .i64 0), (26, .slice (some ⟨g370, 0, none⟩) 1 1), (27, .pointer (some ⟨b382, 0, none⟩))] (by kernel_rfl) (by kernel_rfl) hg_3
    have hg_0 : G [false, false, false, false, false, false, false, false, false, false, false, false] [(2, .int .i64 i2), (3, .int .i64 n3), (8, .pointer (some ⟨b369, 0, none⟩)), (9, .slice (some ⟨g370, 0, none⟩) 1 1), (10, .slice (some ⟨g371, 0, none⟩) 1 1), (12, .pointer (some ⟨b382, 0, none⟩)), (20, .slice (some ⟨N381, 1, none⟩) 2 3), (21, .int .i64 2), (22, .int .i64 0)] ([⟨b382, [.int .i64 t374, .int .i64 t375], 2⟩, ⟨N381, [.int .i64 t373, .int .i64 t374, .int .i64 t375, .int .i64 t376, .int .i64 t377, .int .i64 t378, .int .i64 t379], 7⟩, ⟨g371, [.int .i64 a0_1], 1⟩, ⟨g370, [.int .i64 a0_0], 1⟩, ⟨b369, [.int .i64 0, .int .i64 0], 2⟩, ⟨b368, [.int .i64 2, .int .i64 s1_1, .int .i64 s1_2, .int .i64 s1_3, .int .i64 s1_4, .int .i64 s1_5, .int .i64 s1_6], 7⟩, ⟨b367, [.int .i64 a0_0, .int .i64 a0_1], 2⟩] : List Own) := by
      exact hqf 0 [2, 3, 8, 9, 10, 12, 20, 21, 22, 26] _ _ _ [(2, .int .i64 i2), (3, .int .i64 n3), (8, .pointer (some ⟨b369, 0, none⟩)), (9, .slice (some ⟨g370, 0, none⟩) 1 1), (10, .slice (some ⟨g371, 0, none⟩) 1 1), (12, .pointer (some ⟨b382, 0, none⟩)), (20, .slice (some ⟨N381, 1, none⟩) 2 3), (21, .int .i64 2), (22, .int .i64 0), (26, .slice (some ⟨g370, 0, none⟩) 1 1)] (by kernel_rfl) (by kernel_rfl) hg_1
    exact hg_0
  have hg_7f : ∀ (g371 : Nat) (g370 : Nat), G [true, true, true, true, true, true, true, false] [(2, .int .i64 i2), (3, .int .i64 n3), (5, .pointer (some ⟨b368, 0, none⟩)), (8, .pointer (some ⟨b369, 0, none⟩)), (9, .slice (some ⟨g370, 0, none⟩) 1 1), (18, .slice (some ⟨g371, 0, none⟩) 1 1)] ([⟨g371, [.int .i64 a0_1], 1⟩, ⟨g370, [.int .i64 a0_0], 1⟩, ⟨b369, [.int .i64 0, .int .i64 0], 2⟩, ⟨b368, [.int .i64 2, .int .i64 s1_1, .int .i64 s1_2, .int .i64 s1_3, .int .i64 s1_4, .int .i64 s1_5, .int .i64 s1_6], 7⟩, ⟨b367, [.int .i64 a0_0, .int .i64 a0_1], 2⟩] : List Own) := by
    intro g371 g370
    exact hqf 7 [2, 3, 5, 8, 9, 10] _ _ _ [(2, .int .i64 i2), (3, .int .i64 n3), (5, .pointer (some ⟨b368, 0, none⟩)), (8, .pointer (some ⟨b369, 0, none⟩)), (9, .slice (some ⟨g370, 0, none⟩) 1 1), (10, .slice (some ⟨g371, 0, none⟩) 1 1)] (by kernel_rfl) (by kernel_rfl) (hg_ff g371 g370)
  have hg_3f : ∀ (g371 : Nat) (g370 : Nat), G [true, true, true, true, true, true, false, false] [(2, .int .i64 i2), (3, .int .i64 n3), (5, .pointer (some ⟨b368, 0, none⟩)), (8, .pointer (some ⟨b369, 0, none⟩)), (15, .slice (some ⟨g370, 0, none⟩) 1 1), (18, .slice (some ⟨g371, 0, none⟩) 1 1)] ([⟨g371, [.int .i64 a0_1], 1⟩, ⟨g370, [.int .i64 a0_0], 1⟩, ⟨b369, [.int .i64 0, .int .i64 0], 2⟩, ⟨b368, [.int .i64 2, .int .i64 s1_1, .int .i64 s1_2, .int .i64 s1_3, .int .i64 s1_4, .int .i64 s1_5, .int .i64 s1_6], 7⟩, ⟨b367, [.int .i64 a0_0, .int .i64 a0_1], 2⟩] : List Own) := by
    intro g371 g370
    exact hqf 6 [2, 3, 5, 8, 9, 18] _ _ _ [(2, .int .i64 i2), (3, .int .i64 n3), (5, .pointer (some ⟨b368, 0, none⟩)), (8, .pointer (some ⟨b369, 0, none⟩)), (9, .slice (some ⟨g370, 0, none⟩) 1 1), (18, .slice (some ⟨g371, 0, none⟩) 1 1)] (by kernel_rfl) (by kernel_rfl) (hg_7f g371 g370)
  have hg_5f : ∀ (g370 : Nat), G [true, true, true, true, true, false, true, false] [(2, .int .i64 i2), (3, .int .i64 n3), (5, .pointer (some ⟨b368, 0, none⟩)), (8, .pointer (some ⟨b369, 0, none⟩)), (9, .slice (some ⟨g370, 0, none⟩) 1 1), (17, .int .i64 a0_1)] ([⟨g370, [.int .i64 a0_0], 1⟩, ⟨b369, [.int .i64 0, .int .i64 0], 2⟩, ⟨b368, [.int .i64 2, .int .i64 s1_1, .int .i64 s1_2, .int .i64 s1_3, .int .i64 s1_4, .int .i64 s1_5, .int .i64 s1_6], 7⟩, ⟨b367, [.int .i64 a0_0, .int .i64 a0_1], 2⟩] : List Own) := by
    intro g370
    refine hstep [5] _ _ _ (by kernel_rfl) (List.cons_ne_nil _ _) ⟨?_, trivial⟩
    · show T _ _ _ _ _ _ _ _
      refine t_a (.bsl rfl rfl rfl rfl) fun g371 fg371 sg371 => ?_
      refine t_keep [2, 3, 5, 8, 9, 18] (σ' := [(2, .int .i64 i2), (3, .int .i64 n3), (5, .pointer (some ⟨b368, 0, none⟩)), (8, .pointer (some ⟨b369, 0, none⟩)), (9, .slice (some ⟨g370, 0, none⟩) 1 1), (18, .slice (some ⟨g371, 0, none⟩) 1 1)]) (by kernel_rfl) ?_
      refine t_end ?_
      exact ⟨hg_7f g371 g370, rfl⟩
  have hg_3b : ∀ (g371 : Nat), G [true, true, false, true, true, true, false, false] [(2, .int .i64 i2), (3, .int .i64 n3), (5, .pointer (some ⟨b368, 0, none⟩)), (8, .pointer (some ⟨b369, 0, none⟩)), (14, .int .i64 a0_0), (18, .slice (some ⟨g371, 0, none⟩) 1 1)] ([⟨g371, [.int .i64 a0_1], 1⟩, ⟨b369, [.int .i64 0, .int .i64 0], 2⟩, ⟨b368, [.int .i64 2, .int .i64 s1_1, .int .i64 s1_2, .int .i64 s1_3, .int .i64 s1_4, .int .i64 s1_5, .int .i64 s1_6], 7⟩, ⟨b367, [.int .i64 a0_0, .int .i64 a0_1], 2⟩] : List Own) := by
    intro g371
    refine hstep [2] _ _ _ (by kernel_rfl) (List.cons_ne_nil _ _) ⟨?_, trivial⟩
    · show T _ _ _ _ _ _ _ _
      refine t_a (.bsl rfl rfl rfl rfl) fun g370 fg370 sg370 => ?_
      refine t_keep [2, 3, 5, 8, 15, 18] (σ' := [(2, .int .i64 i2), (3, .int .i64 n3), (5, .pointer (some ⟨b368, 0, none⟩)), (8, .pointer (some ⟨b369, 0, none⟩)), (15, .slice (some ⟨g370, 0, none⟩) 1 1), (18, .slice (some ⟨g371, 0, none⟩) 1 1)]) (by kernel_rfl) ?_
      refine t_vs (H' := ([⟨g371, [.int .i64 a0_1], 1⟩, ⟨g370, [.int .i64 a0_0], 1⟩, ⟨b369, [.int .i64 0, .int .i64 0], 2⟩, ⟨b368, [.int .i64 2, .int .i64 s1_1, .int .i64 s1_2, .int .i64 s1_3, .int .i64 s1_4, .int .i64 s1_5, .int .i64 s1_6], 7⟩, ⟨b367, [.int .i64 a0_0, .int .i64 a0_1], 2⟩] : List Own)) (S' := S) (VS.sel [1, 0, 0, 0, 0] (by kernel_rfl)) ?_
      refine t_end ?_
      exact ⟨hg_3f g371 g370, rfl⟩
  have hg_1f : ∀ (g370 : Nat), G [true, true, true, true, true, false, false, false] [(2, .int .i64 i2), (3, .int .i64 n3), (5, .pointer (some ⟨b368, 0, none⟩)), (8, .pointer (some ⟨b369, 0, none⟩)), (15, .slice (some ⟨g370, 0, none⟩) 1 1), (17, .int .i64 a0_1)] ([⟨g370, [.int .i64 a0_0], 1⟩, ⟨b369, [.int .i64 0, .int .i64 0], 2⟩, ⟨b368, [.int .i64 2, .int .i64 s1_1, .int .i64 s1_2, .int .i64 s1_3, .int .i64 s1_4, .int .i64 s1_5, .int .i64 s1_6], 7⟩, ⟨b367, [.int .i64 a0_0, .int .i64 a0_1], 2⟩] : List Own) := by
    intro g370
    exact hqf 6 [2, 3, 5, 8, 9, 17] _ _ _ [(2, .int .i64 i2), (3, .int .i64 n3), (5, .pointer (some ⟨b368, 0, none⟩)), (8, .pointer (some ⟨b369, 0, none⟩)), (9, .slice (some ⟨g370, 0, none⟩) 1 1), (17, .int .i64 a0_1)] (by kernel_rfl) (by kernel_rfl) (hg_5f g370)
  have hg_4f : ∀ (g370 : Nat), G [true, true, true, true, false, false, true, false] [(2, .int .i64 i2), (3, .int .i64 n3), (5, .pointer (some ⟨b368, 0, none⟩)), (8, .pointer (some ⟨b369, 0, none⟩)), (9, .slice (some ⟨g370, 0, none⟩) 1 1), (16, .pointer (some ⟨b367, 1, none⟩))] ([⟨g370, [.int .i64 a0_0], 1⟩, ⟨b369, [.int .i64 0, .int .i64 0], 2⟩, ⟨b368, [.int .i64 2, .int .i64 s1_1, .int .i64 s1_2, .int .i64 s1_3, .int .i64 s1_4, .int .i64 s1_5, .int .i64 s1_6], 7⟩, ⟨b367, [.int .i64 a0_0, .int .i64 a0_1], 2⟩] : List Own) := by
    intro g370
    refine hstep [4] _ _ _ (by kernel_rfl) (List.cons_ne_nil _ _) ⟨?_, trivial⟩
    · show T _ _ _ _ _ _ _ _
      refine t_v (.ld1 rfl rfl rfl (.at 3 rfl rfl)) ?_
      refine t_keep [2, 3, 5, 8, 9, 17] (σ' := [(2, .int .i64 i2), (3, .int .i64 n3), (5, .pointer (some ⟨b368, 0, none⟩)), (8, .pointer (some ⟨b369, 0, none⟩)), (9, .slice (some ⟨g370, 0, none⟩) 1 1), (17, .int .i64 a0_1)]) (by kernel_rfl) ?_
      refine t_end ?_
      exact ⟨hg_5f g370, rfl⟩
  have hg_f : ∀ (g370 : Nat), G [true, true, true, true, false, false, false, false] [(2, .int .i64 i2), (3, .int .i64 n3), (5, .pointer (some ⟨b368, 0, none⟩)), (8, .pointer (some ⟨b369, 0, none⟩)), (15, .slice (some ⟨g370, 0, none⟩) 1 1), (16, .pointer (some ⟨b367, 1, none⟩))] ([⟨g370, [.int .i64 a0_0], 1⟩, ⟨b369, [.int .i64 0, .int .i64 0], 2⟩, ⟨b368, [.int .i64 2, .int .i64 s1_1, .int .i64 s1_2, .int .i64 s1_3, .int .i64 s1_4, .int .i64 s1_5, .int .i64 s1_6], 7⟩, ⟨b367, [.int .i64 a0_0, .int .i64 a0_1], 2⟩] : List Own) := by
    intro g370
    exact hqf 6 [2, 3, 5, 8, 9, 16] _ _ _ [(2, .int .i64 i2), (3, .int .i64 n3), (5, .pointer (some ⟨b368, 0, none⟩)), (8, .pointer (some ⟨b369, 0, none⟩)), (9, .slice (some ⟨g370, 0, none⟩) 1 1), (16, .pointer (some ⟨b367, 1, none⟩))] (by kernel_rfl) (by kernel_rfl) (hg_4f g370)
  have hg_1b : G [true, true, false, true, true, false, false, false] [(2, .int .i64 i2), (3, .int .i64 n3), (5, .pointer (some ⟨b368, 0, none⟩)), (8, .pointer (some ⟨b369, 0, none⟩)), (14, .int .i64 a0_0), (17, .int .i64 a0_1)] ([⟨b369, [.int .i64 0, .int .i64 0], 2⟩, ⟨b368, [.int .i64 2, .int .i64 s1_1, .int .i64 s1_2, .int .i64 s1_3, .int .i64 s1_4, .int .i64 s1_5, .int .i64 s1_6], 7⟩, ⟨b367, [.int .i64 a0_0, .int .i64 a0_1], 2⟩] : List Own) := by
    refine hstep [2, 5] _ _ _ (by kernel_rfl) (List.cons_ne_nil _ _) ⟨?_, ?_, trivial⟩
    · show T _ _ _ _ _ _ _ _
      refine t_a (.bsl rfl rfl rfl rfl) fun g370 fg370 sg370 => ?_
      refine t_keep [2, 3, 5, 8, 15, 17] (σ' := [(2, .int .i64 i2), (3, .int .i64 n3), (5, .pointer (some ⟨b368, 0, none⟩)), (8, .pointer (some ⟨b369, 0, none⟩)), (15, .slice (some ⟨g370, 0, none⟩) 1 1), (17, .int .i64 a0_1)]) (by kernel_rfl) ?_
      refine t_end ?_
      exact ⟨hg_1f g370, rfl⟩
    · show T _ _ _ _ _ _ _ _
      refine t_a (.bsl rfl rfl rfl rfl) fun g371 fg371 sg371 => ?_
      refine t_keep [2, 3, 5, 8, 14, 18] (σ' := [(2, .int .i64 i2), (3, .int .i64 n3), (5, .pointer (some ⟨b368, 0, none⟩)), (8, .pointer (some ⟨b369, 0, none⟩)), (14, .int .i64 a0_0), (18, .slice (some ⟨g371, 0, none⟩) 1 1)]) (by kernel_rfl) ?_
      refine t_end ?_
      exact ⟨hg_3b g371, rfl⟩
  have hg_39 : ∀ (g371 : Nat), G [true, false, false, true, true, true, false, false] [(2, .int .i64 i2), (3, .int .i64 n3), (5, .pointer (some ⟨b368, 0, none⟩)), (8, .pointer (some ⟨b369, 0, none⟩)), (13, .pointer (some ⟨b367, 0, none⟩)), (18, .slice (some ⟨g371, 0, none⟩) 1 1)] ([⟨g371, [.int .i64 a0_1], 1⟩, ⟨b369, [.int .i64 0, .int .i64 0], 2⟩, ⟨b368, [.int .i64 2, .int .i64 s1_1, .int .i64 s1_2, .int .i64 s1_3, .int .i64 s1_4, .int .i64 s1_5, .int .i64 s1_6], 7⟩, ⟨b367, [.int .i64 a0_0, .int .i64 a0_1], 2⟩] : List Own) := by
    intro g371
    refine hstep [1] _ _ _ (by kernel_rfl) (List.cons_ne_nil _ _) ⟨?_, trivial⟩
    · show T _ _ _ _ _ _ _ _
      refine t_v (.ld1 rfl rfl rfl (.at 3 rfl rfl)) ?_
      refine t_keep [2, 3, 5, 8, 14, 18] (σ' := [(2, .int .i64 i2), (3, .int .i64 n3), (5, .pointer (some ⟨b368, 0, none⟩)), (8, .pointer (some ⟨b369, 0, none⟩)), (14, .int .i64 a0_0), (18, .slice (some ⟨g371, 0, none⟩) 1 1)]) (by kernel_rfl) ?_
      refine t_end ?_
      exact ⟨hg_3b g371, rfl⟩
  have hg_b : G [true, true, false, true, false, false, false, false] [(2, .int .i64 i2), (3, .int .i64 n3), (5, .pointer (some ⟨b368, 0, none⟩)), (8, .pointer (some ⟨b369, 0, none⟩)), (14, .int .i64 a0_0), (16, .pointer (some ⟨b367, 1, none⟩))] ([⟨b369, [.int .i64 0, .int .i64 0], 2⟩, ⟨b368, [.int .i64 2, .int .i64 s1_1, .int .i64 s1_2, .int .i64 s1_3, .int .i64 s1_4, .int .i64 s1_5, .int .i64 s1_6], 7⟩, ⟨b367, [.int .i64 a0_0, .int .i64 a0_1], 2⟩] : List Own) := by
    refine hstep [2, 4] _ _ _ (by kernel_rfl) (List.cons_ne_nil _ _) ⟨?_, ?_, trivial⟩
    · show T _ _ _ _ _ _ _ _
      refine t_a (.bsl rfl rfl rfl rfl) fun g370 fg370 sg370 => ?_
      refine t_keep [2, 3, 5, 8, 15, 16] (σ' := [(2, .int .i64 i2), (3, .int .i64 n3), (5, .pointer (some ⟨b368, 0, none⟩)), (8, .pointer (some ⟨b369, 0, none⟩)), (15, .slice (some ⟨g370, 0, none⟩) 1 1), (16, .pointer (some ⟨b367, 1, none⟩))]) (by kernel_rfl) ?_
      refine t_end ?_
      exact ⟨hg_f g370, rfl⟩
    · show T _ _ _ _ _ _ _ _
      refine t_v (.ld1 rfl rfl rfl (.at 2 rfl rfl)) ?_
      refine t_keep [2, 3, 5, 8, 14, 17] (σ' := [(2, .int .i64 i2), (3, .int .i64 n3), (5, .pointer (some ⟨b368, 0, none⟩)), (8, .pointer (some ⟨b369, 0, none⟩)), (14, .int .i64 a0_0), (17, .int .i64 a0_1)]) (by kernel_rfl) ?_
      refine t_end ?_
      exact ⟨hg_1b, rfl⟩
  have hg_19 : G [true, false, false, true, true, false, false, false] [(2, .int .i64 i2), (3, .int .i64 n3), (5, .pointer (some ⟨b368, 0, none⟩)), (8, .pointer (some ⟨b369, 0, none⟩)), (13, .pointer (some ⟨b367, 0, none⟩)), (17, .int .i64 a0_1)] ([⟨b369, [.int .i64 0, .int .i64 0], 2⟩, ⟨b368, [.int .i64 2, .int .i64 s1_1, .int .i64 s1_2, .int .i64 s1_3, .int .i64 s1_4, .int .i64 s1_5, .int .i64 s1_6], 7⟩, ⟨b367, [.int .i64 a0_0, .int .i64 a0_1], 2⟩] : List Own) := by
    refine hstep [1, 5] _ _ _ (by kernel_rfl) (List.cons_ne_nil _ _) ⟨?_, ?_, trivial⟩
    · show T _ _ _ _ _ _ _ _
      refine t_v (.ld1 rfl rfl rfl (.at 2 rfl rfl)) ?_
      refine t_keep [2, 3, 5, 8, 14, 17] (σ' := [(2, .int .i64 i2), (3, .int .i64 n3), (5, .pointer (some ⟨b368, 0, none⟩)), (8, .pointer (some ⟨b369, 0, none⟩)), (14, .int .i64 a0_0), (17, .int .i64 a0_1)]) (by kernel_rfl) ?_
      refine t_end ?_
      exact ⟨hg_1b, rfl⟩
    · show T _ _ _ _ _ _ _ _
      refine t_a (.bsl rfl rfl rfl rfl) fun g371 fg371 sg371 => ?_
      refine t_keep [2, 3, 5, 8, 13, 18] (σ' := [(2, .int .i64 i2), (3, .int .i64 n3), (5, .pointer (some ⟨b368, 0, none⟩)), (8, .pointer (some ⟨b369, 0, none⟩)), (13, .pointer (some ⟨b367, 0, none⟩)), (18, .slice (some ⟨g371, 0, none⟩) 1 1)]) (by kernel_rfl) ?_
      refine t_end ?_
      exact ⟨hg_39 g371, rfl⟩
  have hg_9 : G [true, false, false, true, false, false, false, false] [(2, .int .i64 i2), (3, .int .i64 n3), (5, .pointer (some ⟨b368, 0, none⟩)), (8, .pointer (some ⟨b369, 0, none⟩)), (13, .pointer (some ⟨b367, 0, none⟩)), (16, .pointer (some ⟨b367, 1, none⟩))] ([⟨b369, [.int .i64 0, .int .i64 0], 2⟩, ⟨b368, [.int .i64 2, .int .i64 s1_1, .int .i64 s1_2, .int .i64 s1_3, .int .i64 s1_4, .int .i64 s1_5, .int .i64 s1_6], 7⟩, ⟨b367, [.int .i64 a0_0, .int .i64 a0_1], 2⟩] : List Own) := by
    refine hstep [1, 4] _ _ _ (by kernel_rfl) (List.cons_ne_nil _ _) ⟨?_, ?_, trivial⟩
    · show T _ _ _ _ _ _ _ _
      refine t_v (.ld1 rfl rfl rfl (.at 2 rfl rfl)) ?_
      refine t_keep [2, 3, 5, 8, 14, 16] (σ' := [(2, .int .i64 i2), (3, .int .i64 n3), (5, .pointer (some ⟨b368, 0, none⟩)), (8, .pointer (some ⟨b369, 0, none⟩)), (14, .int .i64 a0_0), (16, .pointer (some ⟨b367, 1, none⟩))]) (by kernel_rfl) ?_
      refine t_end ?_
      exact ⟨hg_b, rfl⟩
    · show T _ _ _ _ _ _ _ _
      refine t_v (.ld1 rfl rfl rfl (.at 2 rfl rfl)) ?_
      refine t_keep [2, 3, 5, 8, 13, 17] (σ' := [(2, .int .i64 i2), (3, .int .i64 n3), (5, .pointer (some ⟨b368, 0, none⟩)), (8, .pointer (some ⟨b369, 0, none⟩)), (13, .pointer (some ⟨b367, 0, none⟩)), (17, .int .i64 a0_1)]) (by kernel_rfl) ?_
      refine t_end ?_
      exact ⟨hg_19, rfl⟩
  have hg_1 : G [true, false, false, false, false, false, false, false] [(2, .int .i64 i2), (3, .int .i64 n3), (4, .pointer (some ⟨b367, 0, none⟩)), (5, .pointer (some ⟨b368, 0, none⟩)), (8, .pointer (some ⟨b369, 0, none⟩)), (13, .pointer (some ⟨b367, 0, none⟩))] ([⟨b369, [.int .i64 0, .int .i64 0], 2⟩, ⟨b368, [.int .i64 2, .int .i64 s1_1, .int .i64 s1_2, .int .i64 s1_3, .int .i64 s1_4, .int .i64 s1_5, .int .i64 s1_6], 7⟩, ⟨b367, [.int .i64 a0_0, .int .i64 a0_1], 2⟩] : List Own) := by
    exact hqf 3 [2, 3, 5, 8, 13, 16] _ _ _ [(2, .int .i64 i2), (3, .int .i64 n3), (5, .pointer (some ⟨b368, 0, none⟩)), (8, .pointer (some ⟨b369, 0, none⟩)), (13, .pointer (some ⟨b367, 0, none⟩)), (16, .pointer (some ⟨b367, 1, none⟩))] (by kernel_rfl) (by kernel_rfl) hg_9
  have hg_0 : G [false, false, false, false, false, false, false, false] [(2, .int .i64 i2), (3, .int .i64 n3), (4, .pointer (some ⟨b367, 0, none⟩)), (5, .pointer (some ⟨b368, 0, none⟩)), (8, .pointer (some ⟨b369, 0, none⟩))] ([⟨b369, [.int .i64 0, .int .i64 0], 2⟩, ⟨b368, [.int .i64 2, .int .i64 s1_1, .int .i64 s1_2, .int .i64 s1_3, .int .i64 s1_4, .int .i64 s1_5, .int .i64 s1_6], 7⟩, ⟨b367, [.int .i64 a0_0, .int .i64 a0_1], 2⟩] : List Own) := by
    exact hqf 0 [2, 3, 4, 5, 8, 13] _ _ _ [(2, .int .i64 i2), (3, .int .i64 n3), (4, .pointer (some ⟨b367, 0, none⟩)), (5, .pointer (some ⟨b368, 0, none⟩)), (8, .pointer (some ⟨b369, 0, none⟩)), (13, .pointer (some ⟨b367, 0, none⟩))] (by kernel_rfl) (by kernel_rfl) hg_1
  exact hg_0

def flatten_points_v4.f (s0_1 : Int) (s0_2 : Int) (s0_3 : Int) (s0_4 : Int) (s0_5 : Int) (s0_6 : Int) : Option (Int × Int × Int × Int × Int × Int × Int) := some (3, s0_1, s0_2, s0_3, s0_4, s0_5, s0_6)
theorem flatten_points_v4.ok {S : Seal} {s0_1 : Int} {s0_2 : Int} {s0_3 : Int} {s0_4 : Int} {s0_5 : Int} {s0_6 : Int} {r0_ : Int} {r1_ : Int} {r2_ : Int} {r3_ : Int} {r4_ : Int} {r5_ : Int} {r6_ : Int}(e : flatten_points_v4.f s0_1 s0_2 s0_3 s0_4 s0_5 s0_6 = some (r0_, r1_, r2_, r3_, r4_, r5_, r6_)) :
    Cal Try.prog 70 [.agg #[.int .i64 3, .int .i64 s0_1, .int .i64 s0_2, .int .i64 s0_3, .int .i64 s0_4, .int .i64 s0_5, .int .i64 s0_6]] [] S fun v H' S' => ∃ (N0_ : Nat) , v = .slice (some ⟨N0_, 1, none⟩) 3 3 ∧ H' = ([⟨N0_, [.int .i64 r0_, .int .i64 r1_, .int .i64 r2_, .int .i64 r3_, .int .i64 r4_, .int .i64 r5_, .int .i64 r6_], 7⟩] : List Own) ∧ S' = S := by
  unfold flatten_points_v4.f at e
  refine cal_of (c := c70) (N := 15) Try.func70 rfl rfl (by kernel_rfl) (rs := [.t 2]) (by kernel_rfl) (Nat.le_of_ble_eq_true rfl) ?_
  unfold c70
  refine w_seq ?_
  refine w_reg fun all => ?_
  refine t_a (.box rfl rfl rfl) fun b407 fb407 sb407 => ?_
  refine t_qz 1 [1] (σ' := [(1, .pointer (some ⟨b407, 0, none⟩))]) (by kernel_rfl) ?_
  refine t_end ?_
  show W _ _ _ _ _ _ _
  refine w_seq ?_
  refine w_seq ?_
  refine w_reg fun all => ?_
  refine t_qz 1 [1, 3] (σ' := [(1, .pointer (some ⟨b407, 0, none⟩)), (3, .pointer (some ⟨b407, 0, none⟩))]) (by kernel_rfl) ?_
  refine t_v (.ld1 rfl rfl rfl (.at 0 rfl rfl)) ?_
  refine t_qz 3 [1, 6, 7] (σ' := [(1, .pointer (some ⟨b407, 0, none⟩)), (6, .bool false), (7, .pointer (some ⟨b407, 0, none⟩))]) (by kernel_rfl) ?_
  refine t_v (.ld1 rfl rfl rfl (.at 0 rfl rfl)) ?_
  refine t_qz 2 [1, 10] (σ' := [(1, .pointer (some ⟨b407, 0, none⟩)), (10, .bool false)]) (by kernel_rfl) ?_
  refine t_end ?_
  show W _ _ _ _ _ _ _
  refine w_cond rfl (fun c_ => by cases c_) (fun _ => ?_)
  show W _ _ _ _ _ _ _
  refine w_skip ?_
  show W _ _ _ _ _ _ _
  refine w_seq ?_
  refine w_reg fun all => ?_
  refine t_qz 2 [11, 12] (σ' := [(11, .pointer (some ⟨b407, 1, none⟩)), (12, .pointer (some ⟨b407, 0, none⟩))]) (by kernel_rfl) ?_
  refine t_v (.ld1 rfl rfl rfl (.at 0 rfl rfl)) ?_
  refine t_qz 2 [2] (σ' := [(2, .slice (some ⟨b407, 1, none⟩) 3 3)]) (by kernel_rfl) ?_
  refine t_end ?_
  show W _ _ _ _ _ _ _
  refine w_ret ?_
  simp only [Option.some.injEq, Prod.mk.injEq] at e
  obtain ⟨rfl, rfl, rfl, rfl, rfl, rfl, rfl⟩ := e
  exact ⟨[.slice (some ⟨b407, 1, none⟩) 3 3], ([⟨b407, [.int .i64 3, .int .i64 s0_1, .int .i64 s0_2, .int .i64 s0_3, .int .i64 s0_4, .int .i64 s0_5, .int .i64 s0_6], 7⟩] : List Own), S, ⟨rfl, trivial⟩, VS.sel [0] (by kernel_rfl), b407, rfl, rfl, rfl⟩

def flatten_mix_v5.f (i0 : Int) (n1 : Int) (m0_0 : Int) (m0_1 : Int) (m0_2 : Int) (m0_3 : Int) : Option (Int) := (fixed_Round.f (wr64 ((wr64 ((wr64 ((wr64 ((wr64 ((wr64 ((wr64 (n1 - i0)) * (wr64 (n1 - i0)))) * (wr64 (n1 - i0)))) * m0_0)) + (wr64 ((wr64 ((wr64 ((wr64 (3 * i0)) * (wr64 (n1 - i0)))) * (wr64 (n1 - i0)))) * m0_1)))) + (wr64 ((wr64 ((wr64 ((wr64 (3 * i0)) * i0)) * (wr64 (n1 - i0)))) * m0_2)))) + (wr64 ((wr64 ((wr64 (i0 * i0)) * i0)) * m0_3)))) (wr64 ((wr64 (n1 * n1)) * n1))).bind fun t432 => (some t432)
theorem flatten_mix_v5.ok {S : Seal} {B0 nB0 : Nat} {i0 : Int} {n1 : Int} {m0_0 : Int} {m0_1 : Int} {m0_2 : Int} {m0_3 : Int} {r0_ : Int}(e : flatten_mix_v5.f i0 n1 m0_0 m0_1 m0_2 m0_3 = some r0_) :
    Cal Try.prog 71 [.int .i64 i0, .int .i64 n1, .slice (some ⟨B0, 0, none⟩) 4 (nB0 / 1)] ([⟨B0, [.int .i64 m0_0, .int .i64 m0_1, .int .i64 m0_2, .int .i64 m0_3], nB0⟩] : List Own) S fun v H' S' => v = .int .i64 r0_ ∧ H' = ([⟨B0, [.int .i64 m0_0, .int .i64 m0_1, .int .i64 m0_2, .int .i64 m0_3], nB0⟩] : List Own) ∧ S' = S := by
  unfold flatten_mix_v5.f at e
  refine cal_of (c := c71) (N := 110) Try.func71 rfl rfl (by kernel_rfl) (rs := [.t 6]) (by kernel_rfl) (Nat.le_of_ble_eq_true rfl) ?_
  unfold c71
  refine w_seq ?_
  refine w_reg fun all => ?_
  refine t_qz 1 [0, 1, 2] (σ' := [(0, .int .i64 i0), (1, .int .i64 n1), (2, .slice (some ⟨B0, 0, none⟩) 4 (nB0 / 1))]) (by kernel_rfl) ?_
  refine t_end ?_
  show W _ _ _ _ _ _ _
  refine w_seq ?_
  refine w_reg fun all => ?_
  refine t_qz 4 [0, 1, 2, 7] (σ' := [(0, .int .i64 i0), (1, .int .i64 n1), (2, .slice (some ⟨B0, 0, none⟩) 4 (nB0 / 1)), (7, .int .i64 (wr64 (n1 - i0)))]) (by kernel_rfl) ?_
  refine t_end ?_
  show W _ _ _ _ _ _ _
  refine w_seq ?_
  refine w_seq ?_
  refine w_reg fun all => ?_
  refine t_qz 2 [0, 1, 2, 7, 12] (σ' := [(0, .int .i64 i0), (1, .int .i64 n1), (2, .slice (some ⟨B0, 0, none⟩) 4 (nB0 / 1)), (7, .int .i64 (wr64 (n1 - i0))), (12, .int .i64 4)]) (by kernel_rfl) ?_
  refine t_end ?_
  show W _ _ _ _ _ _ _
  refine w_block ?_
  refine w_seq ?_
  refine w_reg fun all => ?_
  refine t_qz 2 [0, 1, 2, 7, 12, 13] (σ' := [(0, .int .i64 i0), (1, .int .i64 n1), (2, .slice (some ⟨B0, 0, none⟩) 4 (nB0 / 1)), (7, .int .i64 (wr64 (n1 - i0))), (12, .int .i64 4), (13, .bool false)]) (by kernel_rfl) ?_
  refine t_end ?_
  show W _ _ _ _ _ _ _
  refine w_cond rfl (fun c_ => by cases c_) (fun _ => ?_)
  show W _ _ _ _ _ _ _
  refine w_seq ?_
  refine w_reg fun all => ?_
  refine t_qz 2 [0, 1, 2, 7, 12, 18] (σ' := [(0, .int .i64 i0), (1, .int .i64 n1), (2, .slice (some ⟨B0, 0, none⟩) 4 (nB0 / 1)), (7, .int .i64 (wr64 (n1 - i0))), (12, .int .i64 4), (18, .bool false)]) (by kernel_rfl) ?_
  refine t_end ?_
  show W _ _ _ _ _ _ _
  refine w_cond rfl (fun c_ => by cases c_) (fun _ => ?_)
  show W _ _ _ _ _ _ _
  refine w_seq ?_
  refine w_reg fun all => ?_
  refine t_qz 2 [0, 1, 2, 7, 33] (σ' := [(0, .int .i64 i0), (1, .int .i64 n1), (2, .slice (some ⟨B0, 0, none⟩) 4 (nB0 / 1)), (7, .int .i64 (wr64 (n1 - i0))), (33, .bool false)]) (by kernel_rfl) ?_
  refine t_end ?_
  show W _ _ _ _ _ _ _
  refine w_cond rfl (fun c_ => by cases c_) (fun _ => ?_)
  show W _ _ _ _ _ _ _
  refine w_skip ?_
  show W _ _ _ _ _ _ _
  refine w_seq ?_
  obtain ⟨t432, h433, e⟩ := bind_of e
  refine w_drwE mixed 48 [.v (.int .i64 (wr64 (n1 - i0))), .v (.int .i64 (wr64 (n1 - i0))), .v (.int .i64 (wr64 ((wr64 (n1 - i0)) * (wr64 (n1 - i0))))), .v (.int .i64 (wr64 (n1 - i0))), .v (.int .i64 (wr64 ((wr64 ((wr64 (n1 - i0)) * (wr64 (n1 - i0)))) * (wr64 (n1 - i0))))), .v (.slice (some ⟨B0, 0, none⟩) 4 (nB0 / 1)), .v (.pointer (some ⟨B0, 0, none⟩)), .v (.int .i64 m0_0), .v (.int .i64 (wr64 ((wr64 ((wr64 ((wr64 (n1 - i0)) * (wr64 (n1 - i0)))) * (wr64 (n1 - i0)))) * m0_0))), .v (.int .i64 i0), .v (.int .i64 (wr64 (3 * i0))), .v (.int .i64 (wr64 (n1 - i0))), .v (.int .i64 (wr64 ((wr64 (3 * i0)) * (wr64 (n1 - i0))))), .v (.int .i64 (wr64 (n1 - i0))), .v (.int .i64 (wr64 ((wr64 ((wr64 (3 * i0)) * (wr64 (n1 - i0)))) * (wr64 (n1 - i0))))), .v (.slice (some ⟨B0, 0, none⟩) 4 (nB0 / 1)), .v (.pointer (some ⟨B0, 1, none⟩)), .v (.int .i64 m0_1), .v (.int .i64 (wr64 ((wr64 ((wr64 ((wr64 (3 * i0)) * (wr64 (n1 - i0)))) * (wr64 (n1 - i0)))) * m0_1))), .v (.int .i64 (wr64 ((wr64 ((wr64 ((wr64 ((wr64 (n1 - i0)) * (wr64 (n1 - i0)))) * (wr64 (n1 - i0)))) * m0_0)) + (wr64 ((wr64 ((wr64 ((wr64 (3 * i0)) * (wr64 (n1 - i0)))) * (wr64 (n1 - i0)))) * m0_1))))), .v (.int .i64 i0), .v (.int .i64 (wr64 (3 * i0))), .v (.int .i64 i0), .v (.int .i64 (wr64 ((wr64 (3 * i0)) * i0))), .v (.int .i64 (wr64 (n1 - i0))), .v (.int .i64 (wr64 ((wr64 ((wr64 (3 * i0)) * i0)) * (wr64 (n1 - i0))))), .v (.slice (some ⟨B0, 0, none⟩) 4 (nB0 / 1)), .v (.pointer (some ⟨B0, 2, none⟩)), .v (.int .i64 m0_2), .v (.int .i64 (wr64 ((wr64 ((wr64 ((wr64 (3 * i0)) * i0)) * (wr64 (n1 - i0)))) * m0_2))), .v (.int .i64 (wr64 ((wr64 ((wr64 ((wr64 ((wr64 ((wr64 (n1 - i0)) * (wr64 (n1 - i0)))) * (wr64 (n1 - i0)))) * m0_0)) + (wr64 ((wr64 ((wr64 ((wr64 (3 * i0)) * (wr64 (n1 - i0)))) * (wr64 (n1 - i0)))) * m0_1)))) + (wr64 ((wr64 ((wr64 ((wr64 (3 * i0)) * i0)) * (wr64 (n1 - i0)))) * m0_2))))), .v (.int .i64 i0), .v (.int .i64 i0), .v (.int .i64 (wr64 (i0 * i0))), .v (.int .i64 i0), .v (.int .i64 (wr64 ((wr64 (i0 * i0)) * i0))), .v (.slice (some ⟨B0, 0, none⟩) 4 (nB0 / 1)), .v (.pointer (some ⟨B0, 3, none⟩)), .v (.int .i64 m0_3), .v (.int .i64 (wr64 ((wr64 ((wr64 (i0 * i0)) * i0)) * m0_3))), .v (.int .i64 (wr64 ((wr64 ((wr64 ((wr64 ((wr64 ((wr64 ((wr64 (n1 - i0)) * (wr64 (n1 - i0)))) * (wr64 (n1 - i0)))) * m0_0)) + (wr64 ((wr64 ((wr64 ((wr64 (3 * i0)) * (wr64 (n1 - i0)))) * (wr64 (n1 - i0)))) * m0_1)))) + (wr64 ((wr64 ((wr64 ((wr64 (3 * i0)) * i0)) * (wr64 (n1 - i0)))) * m0_2)))) + (wr64 ((wr64 ((wr64 (i0 * i0)) * i0)) * m0_3))))), .v (.int .i64 n1), .v (.int .i64 n1), .v (.int .i64 (wr64 (n1 * n1))), .v (.int .i64 n1), .v (.int .i64 (wr64 ((wr64 (n1 * n1)) * n1))), .v (.int .i64 t432), .v (.int .i64 t432)] (by kernel_rfl) ?_ ?_
  · refine DI.sq 7 (by kernel_rfl) rfl ?_
    refine .cons (.ld1 rfl rfl rfl (.at 0 rfl rfl)) ?_
    refine DI.sq 9 (by kernel_rfl) rfl ?_
    refine .cons (.ld1 rfl rfl rfl (.at 0 rfl rfl)) ?_
    refine DI.sq 10 (by kernel_rfl) rfl ?_
    refine .cons (.ld1 rfl rfl rfl (.at 0 rfl rfl)) ?_
    refine DI.sq 9 (by kernel_rfl) rfl ?_
    refine .cons (.ld1 rfl rfl rfl (.at 0 rfl rfl)) ?_
    refine DI.sq 7 (by kernel_rfl) rfl ?_
    refine .cons (.call (vs := [.int .i64 (wr64 ((wr64 ((wr64 ((wr64 ((wr64 ((wr64 ((wr64 (n1 - i0)) * (wr64 (n1 - i0)))) * (wr64 (n1 - i0)))) * m0_0)) + (wr64 ((wr64 ((wr64 ((wr64 (3 * i0)) * (wr64 (n1 - i0)))) * (wr64 (n1 - i0)))) * m0_1)))) + (wr64 ((wr64 ((wr64 ((wr64 (3 * i0)) * i0)) * (wr64 (n1 - i0)))) * m0_2)))) + (wr64 ((wr64 ((wr64 (i0 * i0)) * i0)) * m0_3)))), .int .i64 (wr64 ((wr64 (n1 * n1)) * n1))]) rfl rfl (by kernel_rfl) (fixed_Round.ok h433)) ?_
    refine DI.sq 1 (by kernel_rfl) rfl ?_
    exact .nil
  refine fk_q 48 [6] (σ' := [(6, .int .i64 t432)]) t_more (by kernel_rfl) ?_
  refine fk_nil fun all => ?_
  refine t_keep [6] (σ' := [(6, .int .i64 t432)]) (by kernel_rfl) ?_
  refine t_end ?_
  show W _ _ _ _ _ _ _
  refine w_ret ?_
  obtain rfl := Option.some.inj e
  exact ⟨[.int .i64 t432], ([⟨B0, [.int .i64 m0_0, .int .i64 m0_1, .int .i64 m0_2, .int .i64 m0_3], nB0⟩] : List Own), S, ⟨rfl, trivial⟩, VS.sel [0] (by kernel_rfl), rfl, rfl, rfl⟩
end Go.Proofs.Ytpimfacaalkmdaa.QFlattenSays
