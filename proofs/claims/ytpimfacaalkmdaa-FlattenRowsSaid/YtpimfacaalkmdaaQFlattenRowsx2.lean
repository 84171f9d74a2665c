/- Functions of the program as Lean functions, each with the proof of its walk. Written by gen.py, a program of these sessions. -/
import Derived.Test.YtpimfacaalkmdaaQFlattenRowsx1
namespace Go.Proofs.Ytpimfacaalkmdaa.QFlattenRows
open Go Go.RowKit Go.Proofs.YtpimfacaalkmdaaE
set_option linter.unusedVariables false
set_option maxRecDepth 100000
set_option maxHeartbeats 8000000
def flatten_Point_v4.f (a0_0 : Int) (a0_1 : Int) (s1_1 : Int) (s1_2 : Int) (s1_3 : Int) (s1_4 : Int) (s1_5 : Int) (s1_6 : Int) (i2 : Int) (n3 : Int) : Option (Int × Int) := (flatten_points_v4.f s1_1 s1_2 s1_3 s1_4 s1_5 s1_6).bind fun (t384, t385, t386, t387, t388, t389, t390) => ((flatten_mix_v5.f i2 n3 a0_0 t385 t387 t389).bind fun t410 => ((flatten_mix_v5.f i2 n3 a0_1 t386 t388 t390).bind fun t412 => (some (t410, t412))))
theorem flatten_Point_v4.ok {S : Seal} {a0_0 : Int} {a0_1 : Int} {s1_1 : Int} {s1_2 : Int} {s1_3 : Int} {s1_4 : Int} {s1_5 : Int} {s1_6 : Int} {i2 : Int} {n3 : Int} {r0_ : Int} {r1_ : Int}(e : flatten_Point_v4.f a0_0 a0_1 s1_1 s1_2 s1_3 s1_4 s1_5 s1_6 i2 n3 = some (r0_, r1_)) :
    Cal Try.prog 31 [.agg #[.int .i64 a0_0, .int .i64 a0_1], .agg #[.int .i64 3, .int .i64 s1_1, .int .i64 s1_2, .int .i64 s1_3, .int .i64 s1_4, .int .i64 s1_5, .int .i64 s1_6], .int .i64 i2, .int .i64 n3] [] S fun v H' S' => v = .agg #[.int .i64 r0_, .int .i64 r1_] ∧ H' = [] ∧ S' = S := by
  unfold flatten_Point_v4.f at e
  refine cal_of (c := c31) (N := 46) Try.func31 rfl rfl (by kernel_rfl) (rs := [.cn 2 8]) (by kernel_rfl) (Nat.le_of_ble_eq_true rfl) ?_
  unfold c31
  refine w_seq ?_
  refine w_reg fun all => ?_
  refine t_a (.box rfl rfl rfl) fun b378 fb378 sb378 => ?_
  refine t_a (.box rfl rfl rfl) fun b379 fb379 sb379 => ?_
  refine t_a (.new rfl rfl) fun b380 fb380 sb380 => ?_
  refine t_keep [2, 3, 4, 5, 8] (σ' := [(2, .int .i64 i2), (3, .int .i64 n3), (4, .pointer (some ⟨b378, 0, none⟩)), (5, .pointer (some ⟨b379, 0, none⟩)), (8, .pointer (some ⟨b380, 0, none⟩))]) (by kernel_rfl) ?_
  refine t_end ?_
  show W _ _ _ _ _ _ _
  refine w_seq ?_
  refine w_kp [2, 3, 4, 5, 8] (σ' := [(2, .int .i64 i2), (3, .int .i64 n3), (4, .pointer (some ⟨b378, 0, none⟩)), (5, .pointer (some ⟨b379, 0, none⟩)), (8, .pointer (some ⟨b380, 0, none⟩))]) (by kernel_rfl) ?_
  refine w_gameQ mixed (by kernel_rfl) fun all G hend hstep hqf => ?_
  have hg_ff : ∀ (g382 : Nat) (g381 : Nat), G [true, true, true, true, true, true, true, true] [(2, .int .i64 i2), (3, .int .i64 n3), (5, .pointer (some ⟨b379, 0, none⟩)), (8, .pointer (some ⟨b380, 0, none⟩)), (9, .slice (some ⟨g381, 0, none⟩) 1 1), (10, .slice (some ⟨g382, 0, none⟩) 1 1)] ([⟨g382, [.int .i64 a0_1], 1⟩, ⟨g381, [.int .i64 a0_0], 1⟩, ⟨b380, [.int .i64 0, .int .i64 0], 2⟩, ⟨b379, [.int .i64 3, .int .i64 s1_1, .int .i64 s1_2, .int .i64 s1_3, .int .i64 s1_4, .int .i64 s1_5, .int .i64 s1_6], 7⟩, ⟨b378, [.int .i64 a0_0, .int .i64 a0_1], 2⟩] : List Own) := by
    intro g382 g381
    refine hend _ _ _ (by kernel_rfl) ?_
    show W _ _ _ _ _ _ _
    refine w_seq ?_
    refine w_seq ?_
    refine w_reg fun all => ?_
    refine t_v (.ldn rfl rfl rfl (.at 3 rfl rfl)) ?_
    obtain ⟨⟨t384, t385, t386, t387, t388, t389, t390⟩, h391, e⟩ := bind_of e
    try dsimp only at e
    refine t_call (vs := [.agg #[.int .i64 3, .int .i64 s1_1, .int .i64 s1_2, .int .i64 s1_3, .int .i64 s1_4, .int .i64 s1_5, .int .i64 s1_6]]) (H1 := ([] : List Own)) (F := ([⟨g382, [.int .i64 a0_1], 1⟩, ⟨g381, [.int .i64 a0_0], 1⟩, ⟨b380, [.int .i64 0, .int .i64 0], 2⟩, ⟨b379, [.int .i64 3, .int .i64 s1_1, .int .i64 s1_2, .int .i64 s1_3, .int .i64 s1_4, .int .i64 s1_5, .int .i64 s1_6], 7⟩, ⟨b378, [.int .i64 a0_0, .int .i64 a0_1], 2⟩] : List Own)) rfl rfl (by kernel_rfl) (sel_perm (is := []) (by kernel_rfl)) (flatten_points_v4.ok h391) ?_
    rintro _ _ S_ ⟨N392, rfl, rfl, hS_⟩
    obtain rfl := hS_.symm
    refine t_qz 2 [2, 3, 8, 9, 10, 20, 21, 22] (σ' := [(2, .int .i64 i2), (3, .int .i64 n3), (8, .pointer (some ⟨b380, 0, none⟩)), (9, .slice (some ⟨g381, 0, none⟩) 1 1), (10, .slice (some ⟨g382, 0, none⟩) 1 1), (20, .slice (some ⟨N392, 1, none⟩) 3 3), (21, .int .i64 3), (22, .int .i64 0)]) (by kernel_rfl) ?_
    refine t_end ?_
    show W _ _ _ _ _ _ _
    refine w_block ?_
    refine w_lun 10 ?_
    refine wl_step ?_
    refine w_seq ?_
    refine w_reg fun all => ?_
    refine t_qz 1 [2, 3, 8, 9, 10, 20, 21, 22, 23] (σ' := [(2, .int .i64 i2), (3, .int .i64 n3), (8, .pointer (some ⟨b380, 0, none⟩)), (9, .slice (some ⟨g381, 0, none⟩) 1 1), (10, .slice (some ⟨g382, 0, none⟩) 1 1), (20, .slice (some ⟨N392, 1, none⟩) 3 3), (21, .int .i64 3), (22, .int .i64 0), (23, .bool true)]) (by kernel_rfl) ?_
    refine t_end ?_
    show W _ _ _ _ _ _ _
    refine w_seq ?_
    refine w_cond rfl (fun _ => ?_) (fun c_ => by cases c_)
    show W _ _ _ _ _ _ _
    refine w_skip ?_
    show W _ _ _ _ _ _ _
    refine w_seq ?_
    refine w_block ?_
    refine w_seq ?_
    refine w_reg fun all => ?_
    refine t_qz 1 [2, 3, 8, 9, 10, 20, 21, 22, 24] (σ' := [(2, .int .i64 i2), (3, .int .i64 n3), (8, .pointer (some ⟨b380, 0, none⟩)), (9, .slice (some ⟨g381, 0, none⟩) 1 1), (10, .slice (some ⟨g382, 0, none⟩) 1 1), (20, .slice (some ⟨N392, 1, none⟩) 3 3), (21, .int .i64 3), (22, .int .i64 0), (24, .pointer (some ⟨N392, 1, none⟩))]) (by kernel_rfl) ?_
    refine t_v (.ldn rfl rfl rfl (.at 0 rfl rfl)) ?_
    refine t_a (.new rfl rfl) fun b393 fb393 sb393 => ?_
    refine t_sti 0 (cs := [.int .i64 t385, .int .i64 t386]) rfl rfl rfl rfl rfl rfl rfl rfl rfl ?_
    refine t_keep [2, 3, 8, 9, 10, 12, 20, 21, 22] (σ' := [(2, .int .i64 i2), (3, .int .i64 n3), (8, .pointer (some ⟨b380, 0, none⟩)), (9, .slice (some ⟨g381, 0, none⟩) 1 1), (10, .slice (some ⟨g382, 0, none⟩) 1 1), (12, .pointer (some ⟨b393, 0, none⟩)), (20, .slice (some ⟨N392, 1, none⟩) 3 3), (21, .int .i64 3), (22, .int .i64 0)]) (by kernel_rfl) ?_
    refine t_end ?_
    show W _ _ _ _ _ _ _
    refine w_kp [2, 3, 8, 9, 10, 12, 20, 21, 22] (σ' := [(2, .int .i64 i2), (3, .int .i64 n3), (8, .pointer (some ⟨b380, 0, none⟩)), (9, .slice (some ⟨g381, 0, none⟩) 1 1), (10, .slice (some ⟨g382, 0, none⟩) 1 1), (12, .pointer (some ⟨b393, 0, none⟩)), (20, .slice (some ⟨N392, 1, none⟩) 3 3), (21, .int .i64 3), (22, .int .i64 0)]) (by kernel_rfl) ?_
    refine w_gameQ mixed (by kernel_rfl) fun all G hend hstep hqf => ?_
    have hg_fff : ∀ (g397 : Nat) (ng397 : Nat) (g396 : Nat) (g395 : Nat) (ng395 : Nat) (g394 : Nat), G [true, true, true, true, true, true, true, true, true, true, true, true] [(2, .int .i64 i2), (3, .int .i64 n3), (8, .pointer (some ⟨b380, 0, none⟩)), (9, .slice (some ⟨g395, 0, none⟩) 2 (ng395 / 1)), (10, .slice (some ⟨g397, 0, none⟩) 2 (ng397 / 1)), (20, .slice (some ⟨N392, 1, none⟩) 3 3), (21, .int .i64 3), (22, .int .i64 0)] ([⟨g397, [.int .i64 a0_1, .int .i64 t386], ng397⟩, ⟨g396, [.int .i64 t386], 1⟩, ⟨g395, [.int .i64 a0_0, .int .i64 t385], ng395⟩, ⟨g394, [.int .i64 t385], 1⟩, ⟨b393, [.int .i64 t385, .int .i64 t386], 2⟩, ⟨N392, [.int .i64 t384, .int .i64 t385, .int .i64 t386, .int .i64 t387, .int .i64 t388, .int .i64 t389, .int .i64 t390], 7⟩, ⟨b380, [.int .i64 0, .int .i64 0], 2⟩, ⟨b379, [.int .i64 3, .int .i64 s1_1, .int .i64 s1_2, .int .i64 s1_3, .int .i64 s1_4, .int .i64 s1_5, .int .i64 s1_6], 7⟩, ⟨b378, [.int .i64 a0_0, .int .i64 a0_1], 2⟩] : List Own) := by
      intro g397 ng397 g396 g395 ng395 g394
      refine hend _ _ _ (by kernel_rfl) ?_
      show W _ _ _ _ _ _ _
      refine w_reg fun all => ?_
      refine t_qz 2 [2, 3, 8, 9, 10, 20, 21, 22] (σ' := [(2, .int .i64 i2), (3, .int .i64 n3), (8, .pointer (some ⟨b380, 0, none⟩)), (9, .slice (some ⟨g395, 0, none⟩) 2 (ng395 / 1)), (10, .slice (some ⟨g397, 0, none⟩) 2 (ng397 / 1)), (20, .slice (some ⟨N392, 1, none⟩) 3 3), (21, .int .i64 3), (22, .int .i64 1)]) (by kernel_rfl) ?_
      refine t_end ?_
      show WL _ _ _ _ _ _ _ _
      refine wl_step ?_
      refine w_seq ?_
      refine w_reg fun all => ?_
      refine t_qz 1 [2, 3, 8, 9, 10, 20, 21, 22, 23] (σ' := [(2, .int .i64 i2), (3, .int .i64 n3), (8, .pointer (some ⟨b380, 0, none⟩)), (9, .slice (some ⟨g395, 0, none⟩) 2 (ng395 / 1)), (10, .slice (some ⟨g397, 0, none⟩) 2 (ng397 / 1)), (20, .slice (some ⟨N392, 1, none⟩) 3 3), (21, .int .i64 3), (22, .int .i64 1), (23, .bool true)]) (by kernel_rfl) ?_
      refine t_end ?_
      show W _ _ _ _ _ _ _
      refine w_seq ?_
      refine w_cond rfl (fun _ => ?_) (fun c_ => by cases c_)
      show W _ _ _ _ _ _ _
      refine w_skip ?_
      show W _ _ _ _ _ _ _
      refine w_seq ?_
      refine w_block ?_
      refine w_seq ?_
      refine w_reg fun all => ?_
      refine t_qz 1 [2, 3, 8, 9, 10, 20, 21, 22, 24] (σ' := [(2, .int .i64 i2), (3, .int .i64 n3), (8, .pointer (some ⟨b380, 0, none⟩)), (9, .slice (some ⟨g395, 0, none⟩) 2 (ng395 / 1)), (10, .slice (some ⟨g397, 0, none⟩) 2 (ng397 / 1)), (20, .slice (some ⟨N392, 1, none⟩) 3 3), (21, .int .i64 3), (22, .int .i64 1), (24, .pointer (some ⟨N392, 3, none⟩))]) (by kernel_rfl) ?_
      refine t_v (.ldn rfl rfl rfl (.at 5 rfl rfl)) ?_
      refine t_a (.new rfl rfl) fun b398 fb398 sb398 => ?_
      refine t_sti 0 (cs := [.int .i64 t387, .int .i64 t388]) rfl rfl rfl rfl rfl rfl rfl rfl rfl ?_
      refine t_keep [2, 3, 8, 9, 10, 12, 20, 21, 22] (σ' := [(2, .int .i64 i2), (3, .int .i64 n3), (8, .pointer (some ⟨b380, 0, none⟩)), (9, .slice (some ⟨g395, 0, none⟩) 2 (ng395 / 1)), (10, .slice (some ⟨g397, 0, none⟩) 2 (ng397 / 1)), (12, .pointer (some ⟨b398, 0, none⟩)), (20, .slice (some ⟨N392, 1, none⟩) 3 3), (21, .int .i64 3), (22, .int .i64 1)]) (by kernel_rfl) ?_
      refine t_end ?_
      show W _ _ _ _ _ _ _
      refine w_kp [2, 3, 8, 9, 10, 12, 20, 21, 22] (σ' := [(2, .int .i64 i2), (3, .int .i64 n3), (8, .pointer (some ⟨b380, 0, none⟩)), (9, .slice (some ⟨g395, 0, none⟩) 2 (ng395 / 1)), (10, .slice (some ⟨g397, 0, none⟩) 2 (ng397 / 1)), (12, .pointer (some ⟨b398, 0, none⟩)), (20, .slice (some ⟨N392, 1, none⟩) 3 3), (21, .int .i64 3), (22, .int .i64 1)]) (by kernel_rfl) ?_
      refine w_gameQ mixed (by kernel_rfl) fun all G hend hstep hqf => ?_
      have hg_fff : ∀ (g402 : Nat) (ng402 : Nat) (g401 : Nat) (g400 : Nat) (ng400 : Nat) (g399 : Nat), G [true, true, true, true, true, true, true, true, true, true, true, true] [(2, .int .i64 i2), (3, .int .i64 n3), (8, .pointer (some ⟨b380, 0, none⟩)), (9, .slice (some ⟨g400, 0, none⟩) 3 (ng400 / 1)), (10, .slice (some ⟨g402, 0, none⟩) 3 (ng402 / 1)), (20, .slice (some ⟨N392, 1, none⟩) 3 3), (21, .int .i64 3), (22, .int .i64 1)] ([⟨g402, [.int .i64 a0_1, .int .i64 t386, .int .i64 t388], ng402⟩, ⟨g401, [.int .i64 t388], 1⟩, ⟨g400, [.int .i64 a0_0, .int .i64 t385, .int .i64 t387], ng400⟩, ⟨g399, [.int .i64 t387], 1⟩, ⟨b398, [.int .i64 t387, .int .i64 t388], 2⟩, ⟨g396, [.int .i64 t386], 1⟩, ⟨g394, [.int .i64 t385], 1⟩, ⟨b393, [.int .i64 t385, .int .i64 t386], 2⟩, ⟨N392, [.int .i64 t384, .int .i64 t385, .int .i64 t386, .int .i64 t387, .int .i64 t388, .int .i64 t389, .int .i64 t390], 7⟩, ⟨b380, [.int .i64 0, .int .i64 0], 2⟩, ⟨b379, [.int .i64 3, .int .i64 s1_1, .int .i64 s1_2, .int .i64 s1_3, .int .i64 s1_4, .int .i64 s1_5, .int .i64 s1_6], 7⟩, ⟨b378, [.int .i64 a0_0, .int .i64 a0_1], 2⟩] : List Own) := by
        intro g402 ng402 g401 g400 ng400 g399
        refine hend _ _ _ (by kernel_rfl) ?_
        show W _ _ _ _ _ _ _
        refine w_reg fun all => ?_
        refine t_qz 2 [2, 3, 8, 9, 10, 20, 21, 22] (σ' := [(2, .int .i64 i2), (3, .int .i64 n3), (8, .pointer (some ⟨b380, 0, none⟩)), (9, .slice (some ⟨g400, 0, none⟩) 3 (ng400 / 1)), (10, .slice (some ⟨g402, 0, none⟩) 3 (ng402 / 1)), (20, .slice (some ⟨N392, 1, none⟩) 3 3), (21, .int .i64 3), (22, .int .i64 2)]) (by kernel_rfl) ?_
        refine t_end ?_
        show WL _ _ _ _ _ _ _ _
        refine wl_step ?_
        refine w_seq ?_
        refine w_reg fun all => ?_
        refine t_qz 1 [2, 3, 8, 9, 10, 20, 21, 22, 23] (σ' := [(2, .int .i64 i2), (3, .int .i64 n3), (8, .pointer (some ⟨b380, 0, none⟩)), (9, .slice (some ⟨g400, 0, none⟩) 3 (ng400 / 1)), (10, .slice (some ⟨g402, 0, none⟩) 3 (ng402 / 1)), (20, .slice (some ⟨N392, 1, none⟩) 3 3), (21, .int .i64 3), (22, .int .i64 2), (23, .bool true)]) (by kernel_rfl) ?_
        refine t_end ?_
        show W _ _ _ _ _ _ _
        refine w_seq ?_
        refine w_cond rfl (fun _ => ?_) (fun c_ => by cases c_)
        show W _ _ _ _ _ _ _
        refine w_skip ?_
        show W _ _ _ _ _ _ _
        refine w_seq ?_
        refine w_block ?_
        refine w_seq ?_
        refine w_reg fun all => ?_
        refine t_qz 1 [2, 3, 8, 9, 10, 20, 21, 22, 24] (σ' := [(2, .int .i64 i2), (3, .int .i64 n3), (8, .pointer (some ⟨b380, 0, none⟩)), (9, .slice (some ⟨g400, 0, none⟩) 3 (ng400 / 1)), (10, .slice (some ⟨g402, 0, none⟩) 3 (ng402 / 1)), (20, .slice (some ⟨N392, 1, none⟩) 3 3), (21, .int .i64 3), (22, .int .i64 2), (24, .pointer (some ⟨N392, 5, none⟩))]) (by kernel_rfl) ?_
        refine t_v (.ldn rfl rfl rfl (.at 8 rfl rfl)) ?_
        refine t_a (.new rfl rfl) fun b403 fb403 sb403 => ?_
        refine t_sti 0 (cs := [.int .i64 t389, .int .i64 t390]) rfl rfl rfl rfl rfl rfl rfl rfl rfl ?_
        refine t_keep [2, 3, 8, 9, 10, 12, 20, 21, 22] (σ' := [(2, .int .i64 i2), (3, .int .i64 n3), (8, .pointer (some ⟨b380, 0, none⟩)), (9, .slice (some ⟨g400, 0, none⟩) 3 (ng400 / 1)), (10, .slice (some ⟨g402, 0, none⟩) 3 (ng402 / 1)), (12, .pointer (some ⟨b403, 0, none⟩)), (20, .slice (some ⟨N392, 1, none⟩) 3 3), (21, .int .i64 3), (22, .int .i64 2)]) (by kernel_rfl) ?_
        refine t_end ?_
        show W _ _ _ _ _ _ _
        refine w_kp [2, 3, 8, 9, 10, 12, 20, 21, 22] (σ' := [(2, .int .i64 i2), (3, .int .i64 n3), (8, .pointer (some ⟨b380, 0, none⟩)), (9, .slice (some ⟨g400, 0, none⟩) 3 (ng400 / 1)), (10, .slice (some ⟨g402, 0, none⟩) 3 (ng402 / 1)), (12, .pointer (some ⟨b403, 0, none⟩)), (20, .slice (some ⟨N392, 1, none⟩) 3 3), (21, .int .i64 3), (22, .int .i64 2)]) (by kernel_rfl) ?_
        refine w_gameQ mixed (by kernel_rfl) fun all G hend hstep hqf => ?_
        have hg_fff : ∀ (g407 : Nat) (ng407 : Nat) (g406 : Nat) (g405 : Nat) (ng405 : Nat) (g404 : Nat), G [true, true, true, true, true, true, true, true, true, true, true, true] [(2, .int .i64 i2), (3, .int .i64 n3), (8, .pointer (some ⟨b380, 0, none⟩)), (9, .slice (some ⟨g405, 0, none⟩) 4 (ng405 / 1)), (10, .slice (some ⟨g407, 0, none⟩) 4 (ng407 / 1)), (20, .slice (some ⟨N392, 1, none⟩) 3 3), (21, .int .i64 3), (22, .int .i64 2)] ([⟨g407, [.int .i64 a0_1, .int .i64 t386, .int .i64 t388, .int .i64 t390], ng407⟩, ⟨g406, [.int .i64 t390], 1⟩, ⟨g405, [.int .i64 a0_0, .int .i64 t385, .int .i64 t387, .int .i64 t389], ng405⟩, ⟨g404, [.int .i64 t389], 1⟩, ⟨b403, [.int .i64 t389, .int .i64 t390], 2⟩, ⟨g401, [.int .i64 t388], 1⟩, ⟨g399, [.int .i64 t387], 1⟩, ⟨b398, [.int .i64 t387, .int .i64 t388], 2⟩, ⟨g396, [.int .i64 t386], 1⟩, ⟨g394, [.int .i64 t385], 1⟩, ⟨b393, [.int .i64 t385, .int .i64 t386], 2⟩, ⟨N392, [.int .i64 t384, .int .i64 t385, .int .i64 t386, .int .i64 t387, .int .i64 t388, .int .i64 t389, .int .i64 t390], 7⟩, ⟨b380, [.int .i64 0, .int .i64 0], 2⟩, ⟨b379, [.int .i64 3, .int .i64 s1_1, .int .i64 s1_2, .int .i64 s1_3, .int .i64 s1_4, .int .i64 s1_5, .int .i64 s1_6], 7⟩, ⟨b378, [.int .i64 a0_0, .int .i64 a0_1], 2⟩] : List Own) := by
          intro g407 ng407 g406 g405 ng405 g404
          refine hend _ _ _ (by kernel_rfl) ?_
          show W _ _ _ _ _ _ _
          refine w_reg fun all => ?_
          refine t_qz 2 [2, 3, 8, 9, 10, 20, 21, 22] (σ' := [(2, .int .i64 i2), (3, .int .i64 n3), (8, .pointer (some ⟨b380, 0, none⟩)), (9, .slice (some ⟨g405, 0, none⟩) 4 (ng405 / 1)), (10, .slice (some ⟨g407, 0, none⟩) 4 (ng407 / 1)), (20, .slice (some ⟨N392, 1, none⟩) 3 3), (21, .int .i64 3), (22, .int .i64 3)]) (by kernel_rfl) ?_
          refine t_end ?_
          show WL _ _ _ _ _ _ _ _
          refine wl_step ?_
          refine w_seq ?_
          refine w_reg fun all => ?_
          refine t_qz 1 [2, 3, 8, 9, 10, 20, 21, 22, 23] (σ' := [(2, .int .i64 i2), (3, .int .i64 n3), (8, .pointer (some ⟨b380, 0, none⟩)), (9, .slice (some ⟨g405, 0, none⟩) 4 (ng405 / 1)), (10, .slice (some ⟨g407, 0, none⟩) 4 (ng407 / 1)), (20, .slice (some ⟨N392, 1, none⟩) 3 3), (21, .int .i64 3), (22, .int .i64 3), (23, .bool false)]) (by kernel_rfl) ?_
          refine t_end ?_
          show W _ _ _ _ _ _ _
          refine w_seq ?_
          refine w_cond rfl (fun c_ => by cases c_) (fun _ => ?_)
          show W _ _ _ _ _ _ _
          refine w_exit ?_
          show W _ _ _ _ _ _ _
          refine w_seq ?_
          refine w_reg fun all => ?_
          obtain ⟨t410, h411, e⟩ := bind_of e
          refine t_qz 3 [2, 3, 8, 10, 37, 38, 39] (σ' := [(2, .int .i64 i2), (3, .int .i64 n3), (8, .pointer (some ⟨b380, 0, none⟩)), (10, .slice (some ⟨g407, 0, none⟩) 4 (ng407 / 1)), (37, .int .i64 i2), (38, .int .i64 n3), (39, .slice (some ⟨g405, 0, none⟩) 4 (ng405 / 1))]) (by kernel_rfl) ?_
          refine t_v (.callr (vs := [.int .i64 i2, .int .i64 n3, .slice (some ⟨g405, 0, none⟩) 4 (ng405 / 1)]) (A := ([⟨g405, [.int .i64 a0_0, .int .i64 t385, .int .i64 t387, .int .i64 t389], ng405⟩] : List Own)) (F0 := ([⟨g407, [.int .i64 a0_1, .int .i64 t386, .int .i64 t388, .int .i64 t390], ng407⟩, ⟨g406, [.int .i64 t390], 1⟩, ⟨g404, [.int .i64 t389], 1⟩, ⟨b403, [.int .i64 t389, .int .i64 t390], 2⟩, ⟨g401, [.int .i64 t388], 1⟩, ⟨g399, [.int .i64 t387], 1⟩, ⟨b398, [.int .i64 t387, .int .i64 t388], 2⟩, ⟨g396, [.int .i64 t386], 1⟩, ⟨g394, [.int .i64 t385], 1⟩, ⟨b393, [.int .i64 t385, .int .i64 t386], 2⟩, ⟨N392, [.int .i64 t384, .int .i64 t385, .int .i64 t386, .int .i64 t387, .int .i64 t388, .int .i64 t389, .int .i64 t390], 7⟩, ⟨b380, [.int .i64 0, .int .i64 0], 2⟩, ⟨b379, [.int .i64 3, .int .i64 s1_1, .int .i64 s1_2, .int .i64 s1_3, .int .i64 s1_4, .int .i64 s1_5, .int .i64 s1_6], 7⟩, ⟨b378, [.int .i64 a0_0, .int .i64 a0_1], 2⟩] : List Own)) rfl rfl (by kernel_rfl) (sel_perm (is := [2]) (by kernel_rfl)) (flatten_mix_v5.ok h411)) ?_
          obtain ⟨t412, h413, e⟩ := bind_of e
          refine t_qz 3 [8, 40, 41, 42, 43] (σ' := [(8, .pointer (some ⟨b380, 0, none⟩)), (40, .int .i64 t410), (41, .int .i64 i2), (42, .int .i64 n3), (43, .slice (some ⟨g407, 0, none⟩) 4 (ng407 / 1))]) (by kernel_rfl) ?_
          refine t_v (.callr (vs := [.int .i64 i2, .int .i64 n3, .slice (some ⟨g407, 0, none⟩) 4 (ng407 / 1)]) (A := ([⟨g407, [.int .i64 a0_1, .int .i64 t386, .int .i64 t388, .int .i64 t390], ng407⟩] : List Own)) (F0 := ([⟨g406, [.int .i64 t390], 1⟩, ⟨g405, [.int .i64 a0_0, .int .i64 t385, .int .i64 t387, .int .i64 t389], ng405⟩, ⟨g404, [.int .i64 t389], 1⟩, ⟨b403, [.int .i64 t389, .int .i64 t390], 2⟩, ⟨g401, [.int .i64 t388], 1⟩, ⟨g399, [.int .i64 t387], 1⟩, ⟨b398, [.int .i64 t387, .int .i64 t388], 2⟩, ⟨g396, [.int .i64 t386], 1⟩, ⟨g394, [.int .i64 t385], 1⟩, ⟨b393, [.int .i64 t385, .int .i64 t386], 2⟩, ⟨N392, [.int .i64 t384, .int .i64 t385, .int .i64 t386, .int .i64 t387, .int .i64 t388, .int .i64 t389, .int .i64 t390], 7⟩, ⟨b380, [.int .i64 0, .int .i64 0], 2⟩, ⟨b379, [.int .i64 3, .int .i64 s1_1, .int .i64 s1_2, .int .i64 s1_3, .int .i64 s1_4, .int .i64 s1_5, .int .i64 s1_6], 7⟩, ⟨b378, [.int .i64 a0_0, .int .i64 a0_1], 2⟩] : List Own)) rfl rfl (by kernel_rfl) (sel_perm (is := [0]) (by kernel_rfl)) (flatten_mix_v5.ok h413)) ?_
          refine t_qz 1 [8, 45] (σ' := [(8, .pointer (some ⟨b380, 0, none⟩)), (45, .agg #[.int .i64 t410, .int .i64 t412])]) (by kernel_rfl) ?_
          refine t_sti 12 (cs := [.int .i64 t410, .int .i64 t412]) rfl rfl rfl rfl rfl rfl rfl rfl rfl ?_
          refine t_keep [8] (σ' := [(8, .pointer (some ⟨b380, 0, none⟩))]) (by kernel_rfl) ?_
          refine t_end ?_
          show W _ _ _ _ _ _ _
          refine w_ret ?_
          simp only [Option.some.injEq, Prod.mk.injEq] at e
          obtain ⟨rfl, rfl⟩ := e
          exact ⟨[.agg #[.int .i64 t410, .int .i64 t412]], [], S, ⟨⟨_, _, _, rfl, .at 12 rfl rfl, rfl⟩, trivial⟩, VS.none, rfl, rfl, rfl⟩
        have hg_7ff : ∀ (g407 : Nat) (ng407 : Nat) (g406 : Nat) (g405 : Nat) (ng405 : Nat) (g404 : Nat), G [true, true, true, true, true, true, true, true, true, true, true, false] [(2, .int .i64 i2), (3, .int .i64 n3), (8, .pointer (some ⟨b380, 0, none⟩)), (9, .slice (some ⟨g405, 0, none⟩) 4 (ng405 / 1)), (10, .slice (some ⟨g402, 0, none⟩) 3 (ng402 / 1)), (20, .slice (some ⟨N392, 1, none⟩) 3 3), (21, .int .i64 3), (22, .int .i64 2), (35, .slice (some ⟨g407, 0, none⟩) 4 (ng407 / 1))] ([⟨g407, [.int .i64 a0_1, .int .i64 t386, .int .i64 t388, .int .i64 t390], ng407⟩, ⟨g406, [.int .i64 t390], 1⟩, ⟨g405, [.int .i64 a0_0, .int .i64 t385, .int .i64 t387, .int .i64 t389], ng405⟩, ⟨g404, [.int .i64 t389], 1⟩, ⟨b403, [.int .i64 t389, .int .i64 t390], 2⟩, ⟨g401, [.int .i64 t388], 1⟩, ⟨g399, [.int .i64 t387], 1⟩, ⟨b398, [.int .i64 t387, .int .i64 t388], 2⟩, ⟨g396, [.int .i64 t386], 1⟩, ⟨g394, [.int .i64 t385], 1⟩, ⟨b393, [.int .i64 t385, .int .i64 t386], 2⟩, ⟨N392, [.int .i64 t384, .int .i64 t385, .int .i64 t386, .int .i64 t387, .int .i64 t388, .int .i64 t389, .int .i64 t390], 7⟩, ⟨b380, [.int .i64 0, .int .i64 0], 2⟩, ⟨b379, [.int .i64 3, .int .i64 s1_1, .int .i64 s1_2, .int .i64 s1_3, .int .i64 s1_4, .int .i64 s1_5, .int .i64 s1_6], 7⟩, ⟨b378, [.int .i64 a0_0, .int .i64 a0_1], 2⟩] : List Own) := by
          intro g407 ng407 g406 g405 ng405 g404
          exact hqf 11 [2, 3, 8, 9, 10, 20, 21, 22] _ _ _ [(2, .int .i64 i2), (3, .int .i64 n3), (8, .pointer (some ⟨b380, 0, none⟩)), (9, .slice (some ⟨g405, 0, none⟩) 4 (ng405 / 1)), (10, .slice (some ⟨g407, 0, none⟩) 4 (ng407 / 1)), (20, .slice (some ⟨N392, 1, none⟩) 3 3), (21, .int .i64 3), (22, .int .i64 2)] (by kernel_rfl) (by kernel_rfl) (hg_fff g407 ng407 g406 g405 ng405 g404)
        have hg_3ff : ∀ (g407 : Nat) (ng407 : Nat) (g406 : Nat) (g405 : Nat) (ng405 : Nat) (g404 : Nat), G [true, true, true, true, true, true, true, true, true, true, false, false] [(2, .int .i64 i2), (3, .int .i64 n3), (8, .pointer (some ⟨b380, 0, none⟩)), (9, .slice (some ⟨g400, 0, none⟩) 3 (ng400 / 1)), (10, .slice (some ⟨g402, 0, none⟩) 3 (ng402 / 1)), (20, .slice (some ⟨N392, 1, none⟩) 3 3), (21, .int .i64 3), (22, .int .i64 2), (30, .slice (some ⟨g405, 0, none⟩) 4 (ng405 / 1)), (35, .slice (some ⟨g407, 0, none⟩) 4 (ng407 / 1))] ([⟨g407, [.int .i64 a0_1, .int .i64 t386, .int .i64 t388, .int .i64 t390], ng407⟩, ⟨g406, [.int .i64 t390], 1⟩, ⟨g405, [.int .i64 a0_0, .int .i64 t385, .int .i64 t387, .int .i64 t389], ng405⟩, ⟨g404, [.int .i64 t389], 1⟩, ⟨b403, [.int .i64 t389, .int .i64 t390], 2⟩, ⟨g401, [.int .i64 t388], 1⟩, ⟨g399, [.int .i64 t387], 1⟩, ⟨b398, [.int .i64 t387, .int .i64 t388], 2⟩, ⟨g396, [.int .i64 t386], 1⟩, ⟨g394, [.int .i64 t385], 1⟩, ⟨b393, [.int .i64 t385, .int .i64 t386], 2⟩, ⟨N392, [.int .i64 t384, .int .i64 t385, .int .i64 t386, .int .i64 t387, .int .i64 t388, .int .i64 t389, .int .i64 t390], 7⟩, ⟨b380, [.int .i64 0, .int .i64 0], 2⟩, ⟨b379, [.int .i64 3, .int .i64 s1_1, .int .i64 s1_2, .int .i64 s1_3, .int .i64 s1_4, .int .i64 s1_5, .int .i64 s1_6], 7⟩, ⟨b378, [.int .i64 a0_0, .int .i64 a0_1], 2⟩] : List Own) := by
          intro g407 ng407 g406 g405 ng405 g404
          exact hqf 10 [2, 3, 8, 9, 10, 20, 21, 22, 35] _ _ _ [(2, .int .i64 i2), (3, .int .i64 n3), (8, .pointer (some ⟨b380, 0, none⟩)), (9, .slice (some ⟨g405, 0, none⟩) 4 (ng405 / 1)), (10, .slice (some ⟨g402, 0, none⟩) 3 (ng402 / 1)), (20, .slice (some ⟨N392, 1, none⟩) 3 3), (21, .int .i64 3), (22, .int .i64 2), (35, .slice (some ⟨g407, 0, none⟩) 4 (ng407 / 1))] (by kernel_rfl) (by kernel_rfl) (hg_7ff g407 ng407 g406 g405 ng405 g404)
        have hg_1ff : ∀ (g406 : Nat) (g405 : Nat) (ng405 : Nat) (g404 : Nat), G [true, true, true, true, true, true, true, true, true, false, false, false] [(2, .int .i64 i2), (3, .int .i64 n3), (8, .pointer (some ⟨b380, 0, none⟩)), (9, .slice (some ⟨g400, 0, none⟩) 3 (ng400 / 1)), (10, .slice (some ⟨g402, 0, none⟩) 3 (ng402 / 1)), (20, .slice (some ⟨N392, 1, none⟩) 3 3), (21, .int .i64 3), (22, .int .i64 2), (30, .slice (some ⟨g405, 0, none⟩) 4 (ng405 / 1)), (31, .slice (some ⟨g402, 0, none⟩) 3 (ng402 / 1)), (34, .slice (some ⟨g406, 0, none⟩) 1 1)] ([⟨g406, [.int .i64 t390], 1⟩, ⟨g405, [.int .i64 a0_0, .int .i64 t385, .int .i64 t387, .int .i64 t389], ng405⟩, ⟨g404, [.int .i64 t389], 1⟩, ⟨b403, [.int .i64 t389, .int .i64 t390], 2⟩, ⟨g402, [.int .i64 a0_1, .int .i64 t386, .int .i64 t388], ng402⟩, ⟨g401, [.int .i64 t388], 1⟩, ⟨g399, [.int .i64 t387], 1⟩, ⟨b398, [.int .i64 t387, .int .i64 t388], 2⟩, ⟨g396, [.int .i64 t386], 1⟩, ⟨g394, [.int .i64 t385], 1⟩, ⟨b393, [.int .i64 t385, .int .i64 t386], 2⟩, ⟨N392, [.int .i64 t384, .int .i64 t385, .int .i64 t386, .int .i64 t387, .int .i64 t388, .int .i64 t389, .int .i64 t390], 7⟩, ⟨b380, [.int .i64 0, .int .i64 0], 2⟩, ⟨b379, [.int .i64 3, .int .i64 s1_1, .int .i64 s1_2, .int .i64 s1_3, .int .i64 s1_4, .int .i64 s1_5, .int .i64 s1_6], 7⟩, ⟨b378, [.int .i64 a0_0, .int .i64 a0_1], 2⟩] : List Own) := by
          intro g406 g405 ng405 g404
          refine hstep [9] _ _ _ (by kernel_rfl) (List.cons_ne_nil _ _) ⟨?_, trivial⟩
          · show T _ _ _ _ _ _ _ _
            refine t_app1 (cs := [.int .i64 a0_1, .int .i64 t386, .int .i64 t388]) (M := ng402) (F := ([⟨g406, [.int .i64 t390], 1⟩, ⟨g405, [.int .i64 a0_0, .int .i64 t385, .int .i64 t387, .int .i64 t389], ng405⟩, ⟨g404, [.int .i64 t389], 1⟩, ⟨b403, [.int .i64 t389, .int .i64 t390], 2⟩, ⟨g401, [.int .i64 t388], 1⟩, ⟨g399, [.int .i64 t387], 1⟩, ⟨b398, [.int .i64 t387, .int .i64 t388], 2⟩, ⟨g396, [.int .i64 t386], 1⟩, ⟨g394, [.int .i64 t385], 1⟩, ⟨b393, [.int .i64 t385, .int .i64 t386], 2⟩, ⟨N392, [.int .i64 t384, .int .i64 t385, .int .i64 t386, .int .i64 t387, .int .i64 t388, .int .i64 t389, .int .i64 t390], 7⟩, ⟨b380, [.int .i64 0, .int .i64 0], 2⟩, ⟨b379, [.int .i64 3, .int .i64 s1_1, .int .i64 s1_2, .int .i64 s1_3, .int .i64 s1_4, .int .i64 s1_5, .int .i64 s1_6], 7⟩, ⟨b378, [.int .i64 a0_0, .int .i64 a0_1], 2⟩] : List Own)) (news := [.int .i64 t390]) rfl rfl rfl rfl (sel_perm (is := [4]) (by kernel_rfl)) (.at 0 rfl rfl) (by kernel_rfl) rfl rfl (by decide) (by decide) rfl fun g407 ng407 => ?_
            refine t_keep [2, 3, 8, 9, 10, 20, 21, 22, 30, 35] (σ' := [(2, .int .i64 i2), (3, .int .i64 n3), (8, .pointer (some ⟨b380, 0, none⟩)), (9, .slice (some ⟨g400, 0, none⟩) 3 (ng400 / 1)), (10, .slice (some ⟨g402, 0, none⟩) 3 (ng402 / 1)), (20, .slice (some ⟨N392, 1, none⟩) 3 3), (21, .int .i64 3), (22, .int .i64 2), (30, .slice (some ⟨g405, 0, none⟩) 4 (ng405 / 1)), (35, .slice (some ⟨g407, 0, none⟩) 4 (ng407 / 1))]) (by kernel_rfl) ?_
            refine t_end ?_
            exact ⟨hg_3ff g407 ng407 g406 g405 ng405 g404, rfl⟩
        have hg_ff : ∀ (g405 : Nat) (ng405 : Nat) (g404 : Nat), G [true, true, true, true, true, true, true, true, false, false, false, false] [(2, .int .i64 i2), (3, .int .i64 n3), (8, .pointer (some ⟨b380, 0, none⟩)), (9, .slice (some ⟨g400, 0, none⟩) 3 (ng400 / 1)), (10, .slice (some ⟨g402, 0, none⟩) 3 (ng402 / 1)), (20, .slice (some ⟨N392, 1, none⟩) 3 3), (21, .int .i64 3), (22, .int .i64 2), (30, .slice (some ⟨g405, 0, none⟩) 4 (ng405 / 1)), (31, .slice (some ⟨g402, 0, none⟩) 3 (ng402 / 1)), (33, .int .i64 t390)] ([⟨g405, [.int .i64 a0_0, .int .i64 t385, .int .i64 t387, .int .i64 t389], ng405⟩, ⟨g404, [.int .i64 t389], 1⟩, ⟨b403, [.int .i64 t389, .int .i64 t390], 2⟩, ⟨g402, [.int .i64 a0_1, .int .i64 t386, .int .i64 t388], ng402⟩, ⟨g401, [.int .i64 t388], 1⟩, ⟨g399, [.int .i64 t387], 1⟩, ⟨b398, [.int .i64 t387, .int .i64 t388], 2⟩, ⟨g396, [.int .i64 t386], 1⟩, ⟨g394, [.int .i64 t385], 1⟩, ⟨b393, [.int .i64 t385, .int .i64 t386], 2⟩, ⟨N392, [.int .i64 t384, .int .i64 t385, .int .i64 t386, .int .i64 t387, .int .i64 t388, .int .i64 t389, .int .i64 t390], 7⟩, ⟨b380, [.int .i64 0, .int .i64 0], 2⟩, ⟨b379, [.int .i64 3, .int .i64 s1_1, .int .i64 s1_2, .int .i64 s1_3, .int .i64 s1_4, .int .i64 s1_5, .int .i64 s1_6], 7⟩, ⟨b378, [.int .i64 a0_0, .int .i64 a0_1], 2⟩] : List Own) := by
          intro g405 ng405 g404
          refine hstep [8] _ _ _ (by kernel_rfl) (List.cons_ne_nil _ _) ⟨?_, trivial⟩
          · show T _ _ _ _ _ _ _ _
            refine t_a (.bsl rfl rfl rfl rfl) fun g406 fg406 sg406 => ?_
            refine t_keep [2, 3, 8, 9, 10, 20, 21, 22, 30, 31, 34] (σ' := [(2, .int .i64 i2), (3, .int .i64 n3), (8, .pointer (some ⟨b380, 0, none⟩)), (9, .slice (some ⟨g400, 0, none⟩) 3 (ng400 / 1)), (10, .slice (some ⟨g402, 0, none⟩) 3 (ng402 / 1)), (20, .slice (some ⟨N392, 1, none⟩) 3 3), (21, .int .i64 3), (22, .int .i64 2), (30, .slice (some ⟨g405, 0, none⟩) 4 (ng405 / 1)), (31, .slice (some ⟨g402, 0, none⟩) 3 (ng402 / 1)), (34, .slice (some ⟨g406, 0, none⟩) 1 1)]) (by kernel_rfl) ?_
            refine t_end ?_
            exact ⟨hg_1ff g406 g405 ng405 g404, rfl⟩
        have hg_1ef : ∀ (g406 : Nat) (g404 : Nat), G [true, true, true, true, false, true, true, true, true, false, false, false] [(2, .int .i64 i2), (3, .int .i64 n3), (8, .pointer (some ⟨b380, 0, none⟩)), (9, .slice (some ⟨g400, 0, none⟩) 3 (ng400 / 1)), (10, .slice (some ⟨g402, 0, none⟩) 3 (ng402 / 1)), (20, .slice (some ⟨N392, 1, none⟩) 3 3), (21, .int .i64 3), (22, .int .i64 2), (26, .slice (some ⟨g400, 0, none⟩) 3 (ng400 / 1)), (29, .slice (some ⟨g404, 0, none⟩) 1 1), (31, .slice (some ⟨g402, 0, none⟩) 3 (ng402 / 1)), (34, .slice (some ⟨g406, 0, none⟩) 1 1)] ([⟨g406, [.int .i64 t390], 1⟩, ⟨g404, [.int .i64 t389], 1⟩, ⟨b403, [.int .i64 t389, .int .i64 t390], 2⟩, ⟨g402, [.int .i64 a0_1, .int .i64 t386, .int .i64 t388], ng402⟩, ⟨g401, [.int .i64 t388], 1⟩, ⟨g400, [.int .i64 a0_0, .int .i64 t385, .int .i64 t387], ng400⟩, ⟨g399, [.int .i64 t387], 1⟩, ⟨b398, [.int .i64 t387, .int .i64 t388], 2⟩, ⟨g396, [.int .i64 t386], 1⟩, ⟨g394, [.int .i64 t385], 1⟩, ⟨b393, [.int .i64 t385, .int .i64 t386], 2⟩, ⟨N392, [.int .i64 t384, .int .i64 t385, .int .i64 t386, .int .i64 t387, .int .i64 t388, .int .i64 t389, .int .i64 t390], 7⟩, ⟨b380, [.int .i64 0, .int .i64 0], 2⟩, ⟨b379, [.int .i64 3, .int .i64 s1_1, .int .i64 s1_2, .int .i64 s1_3, .int .i64 s1_4, .int .i64 s1_5, .int .i64 s1_6], 7⟩, ⟨b378, [.int .i64 a0_0, .int .i64 a0_1], 2⟩] : List Own) := by
          intro g406 g404
          refine hstep [4] _ _ _ (by kernel_rfl) (List.cons_ne_nil _ _) ⟨?_, trivial⟩
          · show T _ _ _ _ _ _ _ _
            refine t_app1 (cs := [.int .i64 a0_0, .int .i64 t385, .int .i64 t387]) (M := ng400) (F := ([⟨g406, [.int .i64 t390], 1⟩, ⟨g404, [.int .i64 t389], 1⟩, ⟨b403, [.int .i64 t389, .int .i64 t390], 2⟩, ⟨g402, [.int .i64 a0_1, .int .i64 t386, .int .i64 t388], ng402⟩, ⟨g401, [.int .i64 t388], 1⟩, ⟨g399, [.int .i64 t387], 1⟩, ⟨b398, [.int .i64 t387, .int .i64 t388], 2⟩, ⟨g396, [.int .i64 t386], 1⟩, ⟨g394, [.int .i64 t385], 1⟩, ⟨b393, [.int .i64 t385, .int .i64 t386], 2⟩, ⟨N392, [.int .i64 t384, .int .i64 t385, .int .i64 t386, .int .i64 t387, .int .i64 t388, .int .i64 t389, .int .i64 t390], 7⟩, ⟨b380, [.int .i64 0, .int .i64 0], 2⟩, ⟨b379, [.int .i64 3, .int .i64 s1_1, .int .i64 s1_2, .int .i64 s1_3, .int .i64 s1_4, .int .i64 s1_5, .int .i64 s1_6], 7⟩, ⟨b378, [.int .i64 a0_0, .int .i64 a0_1], 2⟩] : List Own)) (news := [.int .i64 t389]) rfl rfl rfl rfl (sel_perm (is := [5]) (by kernel_rfl)) (.at 1 rfl rfl) (by kernel_rfl) rfl rfl (by decide) (by decide) rfl fun g405 ng405 => ?_
            refine t_keep [2, 3, 8, 9, 10, 20, 21, 22, 30, 31, 34] (σ' := [(2, .int .i64 i2), (3, .int .i64 n3), (8, .pointer (some ⟨b380, 0, none⟩)), (9, .slice (some ⟨g400, 0, none⟩) 3 (ng400 / 1)), (10, .slice (some ⟨g402, 0, none⟩) 3 (ng402 / 1)), (20, .slice (some ⟨N392, 1, none⟩) 3 3), (21, .int .i64 3), (22, .int .i64 2), (30, .slice (some ⟨g405, 0, none⟩) 4 (ng405 / 1)), (31, .slice (some ⟨g402, 0, none⟩) 3 (ng402 / 1)), (34, .slice (some ⟨g406, 0, none⟩) 1 1)]) (by kernel_rfl) ?_
            refine t_vs (H' := ([⟨g406, [.int .i64 t390], 1⟩, ⟨g405, [.int .i64 a0_0, .int .i64 t385, .int .i64 t387, .int .i64 t389], ng405⟩, ⟨g404, [.int .i64 t389], 1⟩, ⟨b403, [.int .i64 t389, .int .i64 t390], 2⟩, ⟨g402, [.int .i64 a0_1, .int .i64 t386, .int .i64 t388], ng402⟩, ⟨g401, [.int .i64 t388], 1⟩, ⟨g399, [.int .i64 t387], 1⟩, ⟨b398, [.int .i64 t387, .int .i64 t388], 2⟩, ⟨g396, [.int .i64 t386], 1⟩, ⟨g394, [.int .i64 t385], 1⟩, ⟨b393, [.int .i64 t385, .int .i64 t386], 2⟩, ⟨N392, [.int .i64 t384, .int .i64 t385, .int .i64 t386, .int .i64 t387, .int .i64 t388, .int .i64 t389, .int .i64 t390], 7⟩, ⟨b380, [.int .i64 0, .int .i64 0], 2⟩, ⟨b379, [.int .i64 3, .int .i64 s1_1, .int .i64 s1_2, .int .i64 s1_3, .int .i64 s1_4, .int .i64 s1_5, .int .i64 s1_6], 7⟩, ⟨b378, [.int .i64 a0_0, .int .i64 a0_1], 2⟩] : List Own)) (S' := S) (VS.sel [1, 0, 0, 0, 0, 0, 0, 0, 0, 0, 0, 0, 0, 0, 0] (by kernel_rfl)) ?_
            refine t_end ?_
            exact ⟨hg_1ff g406 g405 ng405 g404, rfl⟩
        have hg_1e7 : ∀ (g406 : Nat), G [true, true, true, false, false, true, true, true, true, false, false, false] [(2, .int .i64 i2), (3, .int .i64 n3), (8, .pointer (some ⟨b380, 0, none⟩)), (9, .slice (some ⟨g400, 0, none⟩) 3 (ng400 / 1)), (10, .slice (some ⟨g402, 0, none⟩) 3 (ng402 / 1)), (20, .slice (some ⟨N392, 1, none⟩) 3 3), (21, .int .i64 3), (22, .int .i64 2), (26, .slice (some ⟨g400, 0, none⟩) 3 (ng400 / 1)), (28, .int .i64 t389), (31, .slice (some ⟨g402, 0, none⟩) 3 (ng402 / 1)), (34, .slice (some ⟨g406, 0, none⟩) 1 1)] ([⟨g406, [.int .i64 t390], 1⟩, ⟨b403, [.int .i64 t389, .int .i64 t390], 2⟩, ⟨g402, [.int .i64 a0_1, .int .i64 t386, .int .i64 t388], ng402⟩, ⟨g401, [.int .i64 t388], 1⟩, ⟨g400, [.int .i64 a0_0, .int .i64 t385, .int .i64 t387], ng400⟩, ⟨g399, [.int .i64 t387], 1⟩, ⟨b398, [.int .i64 t387, .int .i64 t388], 2⟩, ⟨g396, [.int .i64 t386], 1⟩, ⟨g394, [.int .i64 t385], 1⟩, ⟨b393, [.int .i64 t385, .int .i64 t386], 2⟩, ⟨N392, [.int .i64 t384, .int .i64 t385, .int .i64 t386, .int .i64 t387, .int .i64 t388, .int .i64 t389, .int .i64 t390], 7⟩, ⟨b380, [.int .i64 0, .int .i64 0], 2⟩, ⟨b379, [.int .i64 3, .int .i64 s1_1, .int .i64 s1_2, .int .i64 s1_3, .int .i64 s1_4, .int .i64 s1_5, .int .i64 s1_6], 7⟩, ⟨b378, [.int .i64 a0_0, .int .i64 a0_1], 2⟩] : List Own) := by
          intro g406
          refine hstep [3] _ _ _ (by kernel_rfl) (List.cons_ne_nil _ _) ⟨?_, trivial⟩
          · show T _ _ _ _ _ _ _ _
            refine t_a (.bsl rfl rfl rfl rfl) fun g404 fg404 sg404 => ?_
            refine t_keep [2, 3, 8, 9, 10, 20, 21, 22, 26, 29, 31, 34] (σ' := [(2, .int .i64 i2), (3, .int .i64 n3), (8, .pointer (some ⟨b380, 0, none⟩)), (9, .slice (some ⟨g400, 0, none⟩) 3 (ng400 / 1)), (10, .slice (some ⟨g402, 0, none⟩) 3 (ng402 / 1)), (20, .slice (some ⟨N392, 1, none⟩) 3 3), (21, .int .i64 3), (22, .int .i64 2), (26, .slice (some ⟨g400, 0, none⟩) 3 (ng400 / 1)), (29, .slice (some ⟨g404, 0, none⟩) 1 1), (31, .slice (some ⟨g402, 0, none⟩) 3 (ng402 / 1)), (34, .slice (some ⟨g406, 0, none⟩) 1 1)]) (by kernel_rfl) ?_
            refine t_vs (H' := ([⟨g406, [.int .i64 t390], 1⟩, ⟨g404, [.int .i64 t389], 1⟩, ⟨b403, [.int .i64 t389, .int .i64 t390], 2⟩, ⟨g402, [.int .i64 a0_1, .int .i64 t386, .int .i64 t388], ng402⟩, ⟨g401, [.int .i64 t388], 1⟩, ⟨g400, [.int .i64 a0_0, .int .i64 t385, .int .i64 t387], ng400⟩, ⟨g399, [.int .i64 t387], 1⟩, ⟨b398, [.int .i64 t387, .int .i64 t388], 2⟩, ⟨g396, [.int .i64 t386], 1⟩, ⟨g394, [.int .i64 t385], 1⟩, ⟨b393, [.int .i64 t385, .int .i64 t386], 2⟩, ⟨N392, [.int .i64 t384, .int .i64 t385, .int .i64 t386, .int .i64 t387, .int .i64 t388, .int .i64 t389, .int .i64 t390], 7⟩, ⟨b380, [.int .i64 0, .int .i64 0], 2⟩, ⟨b379, [.int .i64 3, .int .i64 s1_1, .int .i64 s1_2, .int .i64 s1_3, .int .i64 s1_4, .int .i64 s1_5, .int .i64 s1_6], 7⟩, ⟨b378, [.int .i64 a0_0, .int .i64 a0_1], 2⟩] : List Own)) (S' := S) (VS.sel [1, 0, 0, 0, 0, 0, 0, 0, 0, 0, 0, 0, 0, 0, 0] (by kernel_rfl)) ?_
            refine t_end ?_
            exact ⟨hg_1ef g406 g404, rfl⟩
        have hg_ef : ∀ (g404 : Nat), G [true, true, true, true, false, true, true, true, false, false, false, false] [(2, .int .i64 i2), (3, .int .i64 n3), (8, .pointer (some ⟨b380, 0, none⟩)), (9, .slice (some ⟨g400, 0, none⟩) 3 (ng400 / 1)), (10, .slice (some ⟨g402, 0, none⟩) 3 (ng402 / 1)), (20, .slice (some ⟨N392, 1, none⟩) 3 3), (21, .int .i64 3), (22, .int .i64 2), (26, .slice (some ⟨g400, 0, none⟩) 3 (ng400 / 1)), (29, .slice (some ⟨g404, 0, none⟩) 1 1), (31, .slice (some ⟨g402, 0, none⟩) 3 (ng402 / 1)), (33, .int .i64 t390)] ([⟨g404, [.int .i64 t389], 1⟩, ⟨b403, [.int .i64 t389, .int .i64 t390], 2⟩, ⟨g402, [.int .i64 a0_1, .int .i64 t386, .int .i64 t388], ng402⟩, ⟨g401, [.int .i64 t388], 1⟩, ⟨g400, [.int .i64 a0_0, .int .i64 t385, .int .i64 t387], ng400⟩, ⟨g399, [.int .i64 t387], 1⟩, ⟨b398, [.int .i64 t387, .int .i64 t388], 2⟩, ⟨g396, [.int .i64 t386], 1⟩, ⟨g394, [.int .i64 t385], 1⟩, ⟨b393, [.int .i64 t385, .int .i64 t386], 2⟩, ⟨N392, [.int .i64 t384, .int .i64 t385, .int .i64 t386, .int .i64 t387, .int .i64 t388, .int .i64 t389, .int .i64 t390], 7⟩, ⟨b380, [.int .i64 0, .int .i64 0], 2⟩, ⟨b379, [.int .i64 3, .int .i64 s1_1, .int .i64 s1_2, .int .i64 s1_3, .int .i64 s1_4, .int .i64 s1_5, .int .i64 s1_6], 7⟩, ⟨b378, [.int .i64 a0_0, .int .i64 a0_1], 2⟩] : List Own) := by
          intro g404
          refine hstep [4, 8] _ _ _ (by kernel_rfl) (List.cons_ne_nil _ _) ⟨?_, ?_, trivial⟩
          · show T _ _ _ _ _ _ _ _
            refine t_app1 (cs := [.int .i64 a0_0, .int .i64 t385, .int .i64 t387]) (M := ng400) (F := ([⟨g404, [.int .i64 t389], 1⟩, ⟨b403, [.int .i64 t389, .int .i64 t390], 2⟩, ⟨g402, [.int .i64 a0_1, .int .i64 t386, .int .i64 t388], ng402⟩, ⟨g401, [.int .i64 t388], 1⟩, ⟨g399, [.int .i64 t387], 1⟩, ⟨b398, [.int .i64 t387, .int .i64 t388], 2⟩, ⟨g396, [.int .i64 t386], 1⟩, ⟨g394, [.int .i64 t385], 1⟩, ⟨b393, [.int .i64 t385, .int .i64 t386], 2⟩, ⟨N392, [.int .i64 t384, .int .i64 t385, .int .i64 t386, .int .i64 t387, .int .i64 t388, .int .i64 t389, .int .i64 t390], 7⟩, ⟨b380, [.int .i64 0, .int .i64 0], 2⟩, ⟨b379, [.int .i64 3, .int .i64 s1_1, .int .i64 s1_2, .int .i64 s1_3, .int .i64 s1_4, .int .i64 s1_5, .int .i64 s1_6], 7⟩, ⟨b378, [.int .i64 a0_0, .int .i64 a0_1], 2⟩] : List Own)) (news := [.int .i64 t389]) rfl rfl rfl rfl (sel_perm (is := [4]) (by kernel_rfl)) (.at 0 rfl rfl) (by kernel_rfl) rfl rfl (by decide) (by decide) rfl fun g405 ng405 => ?_
            refine t_keep [2, 3, 8, 9, 10, 20, 21, 22, 30, 31, 33] (σ' := [(2, .int .i64 i2), (3, .int .i64 n3), (8, .pointer (some ⟨b380, 0, none⟩)), (9, .slice (some ⟨g400, 0, none⟩) 3 (ng400 / 1)), (10, .slice (some ⟨g402, 0, none⟩) 3 (ng402 / 1)), (20, .slice (some ⟨N392, 1, none⟩) 3 3), (21, .int .i64 3), (22, .int .i64 2), (30, .slice (some ⟨g405, 0, none⟩) 4 (ng405 / 1)), (31, .slice (some ⟨g402, 0, none⟩) 3 (ng402 / 1)), (33, .int .i64 t390)]) (by kernel_rfl) ?_
            refine t_end ?_
            exact ⟨hg_ff g405 ng405 g404, rfl⟩
          · show T _ _ _ _ _ _ _ _
            refine t_a (.bsl rfl rfl rfl rfl) fun g406 fg406 sg406 => ?_
            refine t_keep [2, 3, 8, 9, 10, 20, 21, 22, 26, 29, 31, 34] (σ' := [(2, .int .i64 i2), (3, .int .i64 n3), (8, .pointer (some ⟨b380, 0, none⟩)), (9, .slice (some ⟨g400, 0, none⟩) 3 (ng400 / 1)), (10, .slice (some ⟨g402, 0, none⟩) 3 (ng402 / 1)), (20, .slice (some ⟨N392, 1, none⟩) 3 3), (21, .int .i64 3), (22, .int .i64 2), (26, .slice (some ⟨g400, 0, none⟩) 3 (ng400 / 1)), (29, .slice (some ⟨g404, 0, none⟩) 1 1), (31, .slice (some ⟨g402, 0, none⟩) 3 (ng402 / 1)), (34, .slice (some ⟨g406, 0, none⟩) 1 1)]) (by kernel_rfl) ?_
            refine t_end ?_
            exact ⟨hg_1ef g406 g404, rfl⟩
        have hg_7f : ∀ (g405 : Nat) (ng405 : Nat) (g404 : Nat), G [true, true, true, true, true, true, true, false, false, false, false, false] [(2, .int .i64 i2), (3, .int .i64 n3), (8, .pointer (some ⟨b380, 0, none⟩)), (9, .slice (some ⟨g400, 0, none⟩) 3 (ng400 / 1)), (10, .slice (some ⟨g402, 0, none⟩) 3 (ng402 / 1)), (20, .slice (some ⟨N392, 1, none⟩) 3 3), (21, .int .i64 3), (22, .int .i64 2), (30, .slice (some ⟨g405, 0, none⟩) 4 (ng405 / 1)), (31, .slice (some ⟨g402, 0, none⟩) 3 (ng402 / 1)), (32, .pointer (some ⟨b403, 1, none⟩))] ([⟨g405, [.int .i64 a0_0, .int .i64 t385, .int .i64 t387, .int .i64 t389], ng405⟩, ⟨g404, [.int .i64 t389], 1⟩, ⟨b403, [.int .i64 t389, .int .i64 t390], 2⟩, ⟨g402, [.int .i64 a0_1, .int .i64 t386, .int .i64 t388], ng402⟩, ⟨g401, [.int .i64 t388], 1⟩, ⟨g399, [.int .i64 t387], 1⟩, ⟨b398, [.int .i64 t387, .int .i64 t388], 2⟩, ⟨g396, [.int .i64 t386], 1⟩, ⟨g394, [.int .i64 t385], 1⟩, ⟨b393, [.int .i64 t385, .int .i64 t386], 2⟩, ⟨N392, [.int .i64 t384, .int .i64 t385, .int .i64 t386, .int .i64 t387, .int .i64 t388, .int .i64 t389, .int .i64 t390], 7⟩, ⟨b380, [.int .i64 0, .int .i64 0], 2⟩, ⟨b379, [.int .i64 3, .int .i64 s1_1, .int .i64 s1_2, .int .i64 s1_3, .int .i64 s1_4, .int .i64 s1_5, .int .i64 s1_6], 7⟩, ⟨b378, [.int .i64 a0_0, .int .i64 a0_1], 2⟩] : List Own) := by
          intro g405 ng405 g404
          refine hstep [7] _ _ _ (by kernel_rfl) (List.cons_ne_nil _ _) ⟨?_, trivial⟩
          · show T _ _ _ _ _ _ _ _
            refine t_v (.ld1 rfl rfl rfl (.at 2 rfl rfl)) ?_
            refine t_keep [2, 3, 8, 9, 10, 20, 21, 22, 30, 31, 33] (σ' := [(2, .int .i64 i2), (3, .int .i64 n3), (8, .pointer (some ⟨b380, 0, none⟩)), (9, .slice (some ⟨g400, 0, none⟩) 3 (ng400 / 1)), (10, .slice (some ⟨g402, 0, none⟩) 3 (ng402 / 1)), (20, .slice (some ⟨N392, 1, none⟩) 3 3), (21, .int .i64 3), (22, .int .i64 2), (30, .slice (some ⟨g405, 0, none⟩) 4 (ng405 / 1)), (31, .slice (some ⟨g402, 0, none⟩) 3 (ng402 / 1)), (33, .int .i64 t390)]) (by kernel_rfl) ?_
            refine t_end ?_
            exact ⟨hg_ff g405 ng405 g404, rfl⟩
        have hg_1e3 : ∀ (g406 : Nat), G [true, true, false, false, false, true, true, true, true, false, false, false] [(2, .int .i64 i2), (3, .int .i64 n3), (8, .pointer (some ⟨b380, 0, none⟩)), (9, .slice (some ⟨g400, 0, none⟩) 3 (ng400 / 1)), (10, .slice (some ⟨g402, 0, none⟩) 3 (ng402 / 1)), (20, .slice (some ⟨N392, 1, none⟩) 3 3), (21, .int .i64 3), (22, .int .i64 2), (26, .slice (some ⟨g400, 0, none⟩) 3 (ng400 / 1)), (27, .pointer (some ⟨b403, 0, none⟩)), (31, .slice (some ⟨g402, 0, none⟩) 3 (ng402 / 1)), (34, .slice (some ⟨g406, 0, none⟩) 1 1)] ([⟨g406, [.int .i64 t390], 1⟩, ⟨b403, [.int .i64 t389, .int .i64 t390], 2⟩, ⟨g402, [.int .i64 a0_1, .int .i64 t386, .int .i64 t388], ng402⟩, ⟨g401, [.int .i64 t388], 1⟩, ⟨g400, [.int .i64 a0_0, .int .i64 t385, .int .i64 t387], ng400⟩, ⟨g399, [.int .i64 t387], 1⟩, ⟨b398, [.int .i64 t387, .int .i64 t388], 2⟩, ⟨g396, [.int .i64 t386], 1⟩, ⟨g394, [.int .i64 t385], 1⟩, ⟨b393, [.int .i64 t385, .int .i64 t386], 2⟩, ⟨N392, [.int .i64 t384, .int .i64 t385, .int .i64 t386, .int .i64 t387, .int .i64 t388, .int .i64 t389, .int .i64 t390], 7⟩, ⟨b380, [.int .i64 0, .int .i64 0], 2⟩, ⟨b379, [.int .i64 3, .int .i64 s1_1, .int .i64 s1_2, .int .i64 s1_3, .int .i64 s1_4, .int .i64 s1_5, .int .i64 s1_6], 7⟩, ⟨b378, [.int .i64 a0_0, .int .i64 a0_1], 2⟩] : List Own) := by
          intro g406
          refine hstep [2] _ _ _ (by kernel_rfl) (List.cons_ne_nil _ _) ⟨?_, trivial⟩
          · show T _ _ _ _ _ _ _ _
            refine t_v (.ld1 rfl rfl rfl (.at 1 rfl rfl)) ?_
            refine t_keep [2, 3, 8, 9, 10, 20, 21, 22, 26, 28, 31, 34] (σ' := [(2, .int .i64 i2), (3, .int .i64 n3), (8, .pointer (some ⟨b380, 0, none⟩)), (9, .slice (some ⟨g400, 0, none⟩) 3 (ng400 / 1)), (10, .slice (some ⟨g402, 0, none⟩) 3 (ng402 / 1)), (20, .slice (some ⟨N392, 1, none⟩) 3 3), (21, .int .i64 3), (22, .int .i64 2), (26, .slice (some ⟨g400, 0, none⟩) 3 (ng400 / 1)), (28, .int .i64 t389), (31, .slice (some ⟨g402, 0, none⟩) 3 (ng402 / 1)), (34, .slice (some ⟨g406, 0, none⟩) 1 1)]) (by kernel_rfl) ?_
            refine t_end ?_
            exact ⟨hg_1e7 g406, rfl⟩
        have hg_e7 : G [true, true, true, false, false, true, true, true, false, false, false, false] [(2, .int .i64 i2), (3, .int .i64 n3), (8, .pointer (some ⟨b380, 0, none⟩)), (9, .slice (some ⟨g400, 0, none⟩) 3 (ng400 / 1)), (10, .slice (some ⟨g402, 0, none⟩) 3 (ng402 / 1)), (20, .slice (some ⟨N392, 1, none⟩) 3 3), (21, .int .i64 3), (22, .int .i64 2), (26, .slice (some ⟨g400, 0, none⟩) 3 (ng400 / 1)), (28, .int .i64 t389), (31, .slice (some ⟨g402, 0, none⟩) 3 (ng402 / 1)), (33, .int .i64 t390)] ([⟨b403, [.int .i64 t389, .int .i64 t390], 2⟩, ⟨g402, [.int .i64 a0_1, .int .i64 t386, .int .i64 t388], ng402⟩, ⟨g401, [.int .i64 t388], 1⟩, ⟨g400, [.int .i64 a0_0, .int .i64 t385, .int .i64 t387], ng400⟩, ⟨g399, [.int .i64 t387], 1⟩, ⟨b398, [.int .i64 t387, .int .i64 t388], 2⟩, ⟨g396, [.int .i64 t386], 1⟩, ⟨g394, [.int .i64 t385], 1⟩, ⟨b393, [.int .i64 t385, .int .i64 t386], 2⟩, ⟨N392, [.int .i64 t384, .int .i64 t385, .int .i64 t386, .int .i64 t387, .int .i64 t388, .int .i64 t389, .int .i64 t390], 7⟩, ⟨b380, [.int .i64 0, .int .i64 0], 2⟩, ⟨b379, [.int .i64 3, .int .i64 s1_1, .int .i64 s1_2, .int .i64 s1_3, .int .i64 s1_4, .int .i64 s1_5, .int .i64 s1_6], 7⟩, ⟨b378, [.int .i64 a0_0, .int .i64 a0_1], 2⟩] : List Own) := by
          refine hstep [3, 8] _ _ _ (by kernel_rfl) (List.cons_ne_nil _ _) ⟨?_, ?_, trivial⟩
          · show T _ _ _ _ _ _ _ _
            refine t_a (.bsl rfl rfl rfl rfl) fun g404 fg404 sg404 => ?_
            refine t_keep [2, 3, 8, 9, 10, 20, 21, 22, 26, 29, 31, 33] (σ' := [(2, .int .i64 i2), (3, .int .i64 n3), (8, .pointer (some ⟨b380, 0, none⟩)), (9, .slice (some ⟨g400, 0, none⟩) 3 (ng400 / 1)), (10, .slice (some ⟨g402, 0, none⟩) 3 (ng402 / 1)), (20, .slice (some ⟨N392, 1, none⟩) 3 3), (21, .int .i64 3), (22, .int .i64 2), (26, .slice (some ⟨g400, 0, none⟩) 3 (ng400 / 1)), (29, .slice (some ⟨g404, 0, none⟩) 1 1), (31, .slice (some ⟨g402, 0, none⟩) 3 (ng402 / 1)), (33, .int .i64 t390)]) (by kernel_rfl) ?_
            refine t_end ?_
            exact ⟨hg_ef g404, rfl⟩
          · show T _ _ _ _ _ _ _ _
            refine t_a (.bsl rfl rfl rfl rfl) fun g406 fg406 sg406 => ?_
            refine t_keep [2, 3, 8, 9, 10, 20, 21, 22, 26, 28, 31, 34] (σ' := [(2, .int .i64 i2), (3, .int .i64 n3), (8, .pointer (some ⟨b380, 0, none⟩)), (9, .slice (some ⟨g400, 0, none⟩) 3 (ng400 / 1)), (10, .slice (some ⟨g402, 0, none⟩) 3 (ng402 / 1)), (20, .slice (some ⟨N392, 1, none⟩) 3 3), (21, .int .i64 3), (22, .int .i64 2), (26, .slice (some ⟨g400, 0, none⟩) 3 (ng400 / 1)), (28, .int .i64 t389), (31, .slice (some ⟨g402, 0, none⟩) 3 (ng402 / 1)), (34, .slice (some ⟨g406, 0, none⟩) 1 1)]) (by kernel_rfl) ?_
            refine t_end ?_
            exact ⟨hg_1e7 g406, rfl⟩
        have hg_6f : ∀ (g404 : Nat), G [true, true, true, true, false, true, true, false, false, false, false, false] [(2, .int .i64 i2), (3, .int .i64 n3), (8, .pointer (some ⟨b380, 0, none⟩)), (9, .slice (some ⟨g400, 0, none⟩) 3 (ng400 / 1)), (10, .slice (some ⟨g402, 0, none⟩) 3 (ng402 / 1)), (20, .slice (some ⟨N392, 1, none⟩) 3 3), (21, .int .i64 3), (22, .int .i64 2), (26, .slice (some ⟨g400, 0, none⟩) 3 (ng400 / 1)), (29, .slice (some ⟨g404, 0, none⟩) 1 1), (31, .slice (some ⟨g402, 0, none⟩) 3 (ng402 / 1)), (32, .pointer (some ⟨b403, 1, none⟩))] ([⟨g404, [.int .i64 t389], 1⟩, ⟨b403, [.int .i64 t389, .int .i64 t390], 2⟩, ⟨g402, [.int .i64 a0_1, .int .i64 t386, .int .i64 t388], ng402⟩, ⟨g401, [.int .i64 t388], 1⟩, ⟨g400, [.int .i64 a0_0, .int .i64 t385, .int .i64 t387], ng400⟩, ⟨g399, [.int .i64 t387], 1⟩, ⟨b398, [.int .i64 t387, .int .i64 t388], 2⟩, ⟨g396, [.int .i64 t386], 1⟩, ⟨g394, [.int .i64 t385], 1⟩, ⟨b393, [.int .i64 t385, .int .i64 t386], 2⟩, ⟨N392, [.int .i64 t384, .int .i64 t385, .int .i64 t386, .int .i64 t387, .int .i64 t388, .int .i64 t389, .int .i64 t390], 7⟩, ⟨b380, [.int .i64 0, .int .i64 0], 2⟩, ⟨b379, [.int .i64 3, .int .i64 s1_1, .int .i64 s1_2, .int .i64 s1_3, .int .i64 s1_4, .int .i64 s1_5, .int .i64 s1_6], 7⟩, ⟨b378, [.int .i64 a0_0, .int .i64 a0_1], 2⟩] : List Own) := by
          intro g404
          refine hstep [4, 7] _ _ _ (by kernel_rfl) (List.cons_ne_nil _ _) ⟨?_, ?_, trivial⟩
          · show T _ _ _ _ _ _ _ _
            refine t_app1 (cs := [.int .i64 a0_0, .int .i64 t385, .int .i64 t387]) (M := ng400) (F := ([⟨g404, [.int .i64 t389], 1⟩, ⟨b403, [.int .i64 t389, .int .i64 t390], 2⟩, ⟨g402, [.int .i64 a0_1, .int .i64 t386, .int .i64 t388], ng402⟩, ⟨g401, [.int .i64 t388], 1⟩, ⟨g399, [.int .i64 t387], 1⟩, ⟨b398, [.int .i64 t387, .int .i64 t388], 2⟩, ⟨g396, [.int .i64 t386], 1⟩, ⟨g394, [.int .i64 t385], 1⟩, ⟨b393, [.int .i64 t385, .int .i64 t386], 2⟩, ⟨N392, [.int .i64 t384, .int .i64 t385, .int .i64 t386, .int .i64 t387, .int .i64 t388, .int .i64 t389, .int .i64 t390], 7⟩, ⟨b380, [.int .i64 0, .int .i64 0], 2⟩, ⟨b379, [.int .i64 3, .int .i64 s1_1, .int .i64 s1_2, .int .i64 s1_3, .int .i64 s1_4, .int .i64 s1_5, .int .i64 s1_6], 7⟩, ⟨b378, [.int .i64 a0_0, .int .i64 a0_1], 2⟩] : List Own)) (news := [.int .i64 t389]) rfl rfl rfl rfl (sel_perm (is := [4]) (by kernel_rfl)) (.at 0 rfl rfl) (by kernel_rfl) rfl rfl (by decide) (by decide) rfl fun g405 ng405 => ?_
            refine t_keep [2, 3, 8, 9, 10, 20, 21, 22, 30, 31, 32] (σ' := [(2, .int .i64 i2), (3, .int .i64 n3), (8, .pointer (some ⟨b380, 0, none⟩)), (9, .slice (some ⟨g400, 0, none⟩) 3 (ng400 / 1)), (10, .slice (some ⟨g402, 0, none⟩) 3 (ng402 / 1)), (20, .slice (some ⟨N392, 1, none⟩) 3 3), (21, .int .i64 3), (22, .int .i64 2), (30, .slice (some ⟨g405, 0, none⟩) 4 (ng405 / 1)), (31, .slice (some ⟨g402, 0, none⟩) 3 (ng402 / 1)), (32, .pointer (some ⟨b403, 1, none⟩))]) (by kernel_rfl) ?_
            refine t_end ?_
            exact ⟨hg_7f g405 ng405 g404, rfl⟩
          · show T _ _ _ _ _ _ _ _
            refine t_v (.ld1 rfl rfl rfl (.at 1 rfl rfl)) ?_
            refine t_keep [2, 3, 8, 9, 10, 20, 21, 22, 26, 29, 31, 33] (σ' := [(2, .int .i64 i2), (3, .int .i64 n3), (8, .pointer (some ⟨b380, 0, none⟩)), (9, .slice (some ⟨g400, 0, none⟩) 3 (ng400 / 1)), (10, .slice (some ⟨g402, 0, none⟩) 3 (ng402 / 1)), (20, .slice (some ⟨N392, 1, none⟩) 3 3), (21, .int .i64 3), (22, .int .i64 2), (26, .slice (some ⟨g400, 0, none⟩) 3 (ng400 / 1)), (29, .slice (some ⟨g404, 0, none⟩) 1 1), (31, .slice (some ⟨g402, 0, none⟩) 3 (ng402 / 1)), (33, .int .i64 t390)]) (by kernel_rfl) ?_
            refine t_end ?_
            exact ⟨hg_ef g404, rfl⟩
        have hg_e3 : G [true, true, false, false, false, true, true, true, false, false, false, false] [(2, .int .i64 i2), (3, .int .i64 n3), (8, .pointer (some ⟨b380, 0, none⟩)), (9, .slice (some ⟨g400, 0, none⟩) 3 (ng400 / 1)), (10, .slice (some ⟨g402, 0, none⟩) 3 (ng402 / 1)), (20, .slice (some ⟨N392, 1, none⟩) 3 3), (21, .int .i64 3), (22, .int .i64 2), (26, .slice (some ⟨g400, 0, none⟩) 3 (ng400 / 1)), (27, .pointer (some ⟨b403, 0, none⟩)), (31, .slice (some ⟨g402, 0, none⟩) 3 (ng402 / 1)), (33, .int .i64 t390)] ([⟨b403, [.int .i64 t389, .int .i64 t390], 2⟩, ⟨g402, [.int .i64 a0_1, .int .i64 t386, .int .i64 t388], ng402⟩, ⟨g401, [.int .i64 t388], 1⟩, ⟨g400, [.int .i64 a0_0, .int .i64 t385, .int .i64 t387], ng400⟩, ⟨g399, [.int .i64 t387], 1⟩, ⟨b398, [.int .i64 t387, .int .i64 t388], 2⟩, ⟨g396, [.int .i64 t386], 1⟩, ⟨g394, [.int .i64 t385], 1⟩, ⟨b393, [.int .i64 t385, .int .i64 t386], 2⟩, ⟨N392, [.int .i64 t384, .int .i64 t385, .int .i64 t386, .int .i64 t387, .int .i64 t388, .int .i64 t389, .int .i64 t390], 7⟩, ⟨b380, [.int .i64 0, .int .i64 0], 2⟩, ⟨b379, [.int .i64 3, .int .i64 s1_1, .int .i64 s1_2, .int .i64 s1_3, .int .i64 s1_4, .int .i64 s1_5, .int .i64 s1_6], 7⟩, ⟨b378, [.int .i64 a0_0, .int .i64 a0_1], 2⟩] : List Own) := by
          refine hstep [2, 8] _ _ _ (by kernel_rfl) (List.cons_ne_nil _ _) ⟨?_, ?_, trivial⟩
          · show T _ _ _ _ _ _ _ _
            refine t_v (.ld1 rfl rfl rfl (.at 0 rfl rfl)) ?_
            refine t_keep [2, 3, 8, 9, 10, 20, 21, 22, 26, 28, 31, 33] (σ' := [(2, .int .i64 i2), (3, .int .i64 n3), (8, .pointer (some ⟨b380, 0, none⟩)), (9, .slice (some ⟨g400, 0, none⟩) 3 (ng400 / 1)), (10, .slice (some ⟨g402, 0, none⟩) 3 (ng402 / 1)), (20, .slice (some ⟨N392, 1, none⟩) 3 3), (21, .int .i64 3), (22, .int .i64 2), (26, .slice (some ⟨g400, 0, none⟩) 3 (ng400 / 1)), (28, .int .i64 t389), (31, .slice (some ⟨g402, 0, none⟩) 3 (ng402 / 1)), (33, .int .i64 t390)]) (by kernel_rfl) ?_
            refine t_end ?_
            exact ⟨hg_e7, rfl⟩
          · show T _ _ _ _ _ _ _ _
            refine t_a (.bsl rfl rfl rfl rfl) fun g406 fg406 sg406 => ?_
            refine t_keep [2, 3, 8, 9, 10, 20, 21, 22, 26, 27, 31, 34] (σ' := [(2, .int .i64 i2), (3, .int .i64 n3), (8, .pointer (some ⟨b380, 0, none⟩)), (9, .slice (some ⟨g400, 0, none⟩) 3 (ng400 / 1)), (10, .slice (some ⟨g402, 0, none⟩) 3 (ng402 / 1)), (20, .slice (some ⟨N392, 1, none⟩) 3 3), (21, .int .i64 3), (22, .int .i64 2), (26, .slice (some ⟨g400, 0, none⟩) 3 (ng400 / 1)), (27, .pointer (some ⟨b403, 0, none⟩)), (31, .slice (some ⟨g402, 0, none⟩) 3 (ng402 / 1)), (34, .slice (some ⟨g406, 0, none⟩) 1 1)]) (by kernel_rfl) ?_
            refine t_end ?_
            exact ⟨hg_1e3 g406, rfl⟩
        have hg_67 : G [true, true, true, false, false, true, true, false, false, false, false, false] [(2, .int .i64 i2), (3, .int .i64 n3), (8, .pointer (some ⟨b380, 0, none⟩)), (9, .slice (some ⟨g400, 0, none⟩) 3 (ng400 / 1)), (10, .slice (some ⟨g402, 0, none⟩) 3 (ng402 / 1)), (20, .slice (some ⟨N392, 1, none⟩) 3 3), (21, .int .i64 3), (22, .int .i64 2), (26, .slice (some ⟨g400, 0, none⟩) 3 (ng400 / 1)), (28, .int .i64 t389), (31, .slice (some ⟨g402, 0, none⟩) 3 (ng402 / 1)), (32, .pointer (some ⟨b403, 1, none⟩))] ([⟨b403, [.int .i64 t389, .int .i64 t390], 2⟩, ⟨g402, [.int .i64 a0_1, .int .i64 t386, .int .i64 t388], ng402⟩, ⟨g401, [.int .i64 t388], 1⟩, ⟨g400, [.int .i64 a0_0, .int .i64 t385, .int .i64 t387], ng400⟩, ⟨g399, [.int .i64 t387], 1⟩, ⟨b398, [.int .i64 t387, .int .i64 t388], 2⟩, ⟨g396, [.int .i64 t386], 1⟩, ⟨g394, [.int .i64 t385], 1⟩, ⟨b393, [.int .i64 t385, .int .i64 t386], 2⟩, ⟨N392, [.int .i64 t384, .int .i64 t385, .int .i64 t386, .int .i64 t387, .int .i64 t388, .int .i64 t389, .int .i64 t390], 7⟩, ⟨b380, [.int .i64 0, .int .i64 0], 2⟩, ⟨b379, [.int .i64 3, .int .i64 s1_1, .int .i64 s1_2, .int .i64 s1_3, .int .i64 s1_4, .int .i64 s1_5, .int .i64 s1_6], 7⟩, ⟨b378, [.int .i64 a0_0, .int .i64 a0_1], 2⟩] : List Own) := by
          refine hstep [3, 7] _ _ _ (by kernel_rfl) (List.cons_ne_nil _ _) ⟨?_, ?_, trivial⟩
          · show T _ _ _ _ _ _ _ _
            refine t_a (.bsl rfl rfl rfl rfl) fun g404 fg404 sg404 => ?_
            refine t_keep [2, 3, 8, 9, 10, 20, 21, 22, 26, 29, 31, 32] (σ' := [(2, .int .i64 i2), (3, .int .i64 n3), (8, .pointer (some ⟨b380, 0, none⟩)), (9, .slice (some ⟨g400, 0, none⟩) 3 (ng400 / 1)), (10, .slice (some ⟨g402, 0, none⟩) 3 (ng402 / 1)), (20, .slice (some ⟨N392, 1, none⟩) 3 3), (21, .int .i64 3), (22, .int .i64 2), (26, .slice (some ⟨g400, 0, none⟩) 3 (ng400 / 1)), (29, .slice (some ⟨g404, 0, none⟩) 1 1), (31, .slice (some ⟨g402, 0, none⟩) 3 (ng402 / 1)), (32, .pointer (some ⟨b403, 1, none⟩))]) (by kernel_rfl) ?_
            refine t_end ?_
            exact ⟨hg_6f g404, rfl⟩
          · show T _ _ _ _ _ _ _ _
            refine t_v (.ld1 rfl rfl rfl (.at 0 rfl rfl)) ?_
            refine t_keep [2, 3, 8, 9, 10, 20, 21, 22, 26, 28, 31, 33] (σ' := [(2, .int .i64 i2), (3, .int .i64 n3), (8, .pointer (some ⟨b380, 0, none⟩)), (9, .slice (some ⟨g400, 0, none⟩) 3 (ng400 / 1)), (10, .slice (some ⟨g402, 0, none⟩) 3 (ng402 / 1)), (20, .slice (some ⟨N392, 1, none⟩) 3 3), (21, .int .i64 3), (22, .int .i64 2), (26, .slice (some ⟨g400, 0, none⟩) 3 (ng400 / 1)), (28, .int .i64 t389), (31, .slice (some ⟨g402, 0, none⟩) 3 (ng402 / 1)), (33, .int .i64 t390)]) (by kernel_rfl) ?_
            refine t_end ?_
            exact ⟨hg_e7, rfl⟩
        have hg_63 : G [true, true, false, false, false, true, true, false, false, false, false, false] [(2, .int .i64 i2), (3, .int .i64 n3), (8, .pointer (some ⟨b380, 0, none⟩)), (9, .slice (some ⟨g400, 0, none⟩) 3 (ng400 / 1)), (10, .slice (some ⟨g402, 0, none⟩) 3 (ng402 / 1)), (20, .slice (some ⟨N392, 1, none⟩) 3 3), (21, .int .i64 3), (22, .int .i64 2), (26, .slice (some ⟨g400, 0, none⟩) 3 (ng400 / 1)), (27, .pointer (some ⟨b403, 0, none⟩)), (31, .slice (some ⟨g402, 0, none⟩) 3 (ng402 / 1)), (32, .pointer (some ⟨b403, 1, none⟩))] ([⟨b403, [.int .i64 t389, .int .i64 t390], 2⟩, ⟨g402, [.int .i64 a0_1, .int .i64 t386, .int .i64 t388], ng402⟩, ⟨g401, [.int .i64 t388], 1⟩, ⟨g400, [.int .i64 a0_0, .int .i64 t385, .int .i64 t387], ng400⟩, ⟨g399, [.int .i64 t387], 1⟩, ⟨b398, [.int .i64 t387, .int .i64 t388], 2⟩, ⟨g396, [.int .i64 t386], 1⟩, ⟨g394, [.int .i64 t385], 1⟩, ⟨b393, [.int .i64 t385, .int .i64 t386], 2⟩, ⟨N392, [.int .i64 t384, .int .i64 t385, .int .i64 t386, .int .i64 t387, .int .i64 t388, .int .i64 t389, .int .i64 t390], 7⟩, ⟨b380, [.int .i64 0, .int .i64 0], 2⟩, ⟨b379, [.int .i64 3, .int .i64 s1_1, .int .i64 s1_2, .int .i64 s1_3, .int .i64 s1_4, .int .i64 s1_5, .int .i64 s1_6], 7⟩, ⟨b378, [.int .i64 a0_0, .int .i64 a0_1], 2⟩] : List Own) := by
          refine hstep [2, 7] _ _ _ (by kernel_rfl) (List.cons_ne_nil _ _) ⟨?_, ?_, trivial⟩
          · show T _ _ _ _ _ _ _ _
            refine t_v (.ld1 rfl rfl rfl (.at 0 rfl rfl)) ?_
            refine t_keep [2, 3, 8, 9, 10, 20, 21, 22, 26, 28, 31, 32] (σ' := [(2, .int .i64 i2), (3, .int .i64 n3), (8, .pointer (some ⟨b380, 0, none⟩)), (9, .slice (some ⟨g400, 0, none⟩) 3 (ng400 / 1)), (10, .slice (some ⟨g402, 0, none⟩) 3 (ng402 / 1)), (20, .slice (some ⟨N392, 1, none⟩) 3 3), (21, .int .i64 3), (22, .int .i64 2), (26, .slice (some ⟨g400, 0, none⟩) 3 (ng400 / 1)), (28, .int .i64 t389), (31, .slice (some ⟨g402, 0, none⟩) 3 (ng402 / 1)), (32, .pointer (some ⟨b403, 1, none⟩))]) (by kernel_rfl) ?_
            refine t_end ?_
            exact ⟨hg_67, rfl⟩
          · show T _ _ _ _ _ _ _ _
            refine t_v (.ld1 rfl rfl rfl (.at 0 rfl rfl)) ?_
            refine t_keep [2, 3, 8, 9, 10, 20, 21, 22, 26, 27, 31, 33] (σ' := [(2, .int .i64 i2), (3, .int .i64 n3), (8, .pointer (some ⟨b380, 0, none⟩)), (9, .slice (some ⟨g400, 0, none⟩) 3 (ng400 / 1)), (10, .slice (some ⟨g402, 0, none⟩) 3 (ng402 / 1)), (20, .slice (some ⟨N392, 1, none⟩) 3 3), (21, .int .i64 3), (22, .int .i64 2), (26, .slice (some ⟨g400, 0, none⟩) 3 (ng400 / 1)), (27, .pointer (some ⟨b403, 0, none⟩)), (31, .slice (some ⟨g402, 0, none⟩) 3 (ng402 / 1)), (33, .int .i64 t390)]) (by kernel_rfl) ?_
            refine t_end ?_
            exact ⟨hg_e3, rfl⟩
        have hg_23 : G [true, true, false, false, false, true, false, false, false, false, false, false] [(2, .int .i64 i2), (3, .int .i64 n3), (8, .pointer (some ⟨b380, 0, none⟩)), (9, .slice (some ⟨g400, 0, none⟩) 3 (ng400 / 1)), (10, .slice (some ⟨g402, 0, none⟩) 3 (ng402 / 1)), (12, .pointer (some ⟨b403, 0, none⟩)), (20, .slice (some ⟨N392, 1, none⟩) 3 3), (21, .int .i64 3), (22, .int .i64 2), (26, .slice (some ⟨g400, 0, none⟩) 3 (ng400 / 1)), (27, .pointer (some ⟨b403, 0, none⟩)), (31, .slice (some ⟨g402, 0, none⟩) 3 (ng402 / 1))] ([⟨b403, [.int .i64 t389, .int .i64 t390], 2⟩, ⟨g402, [.int .i64 a0_1, .int .i64 t386, .int .i64 t388], ng402⟩, ⟨g401, [.int .i64 t388], 1⟩, ⟨g400, [.int .i64 a0_0, .int .i64 t385, .int .i64 t387], ng400⟩, ⟨g399, [.int .i64 t387], 1⟩, ⟨b398, [.int .i64 t387, .int .i64 t388], 2⟩, ⟨g396, [.int .i64 t386], 1⟩, ⟨g394, [.int .i64 t385], 1⟩, ⟨b393, [.int .i64 t385, .int .i64 t386], 2⟩, ⟨N392, [.int .i64 t384, .int .i64 t385, .int .i64 t386, .int .i64 t387, .int .i64 t388, .int .i64 t389, .int .i64 t390], 7⟩, ⟨b380, [.int .i64 0, .int .i64 0], 2⟩, ⟨b379, [.int .i64 3, .int .i64 s1_1, .int .i64 s1_2, .int .i64 s1_3, .int .i64 s1_4, .int .i64 s1_5, .int .i64 s1_6], 7⟩, ⟨b378, [.int .i64 a0_0, .int .i64 a0_1], 2⟩] : List Own) := by
          exact hqf 6 [2, 3, 8, 9, 10, 20, 21, 22, 26, 27, 31, 32] _ _ _ [(2, .int .i64 i2), (3, .int .i64 n3), (8, .pointer (some ⟨b380, 0, none⟩)), (9, .slice (some ⟨g400, 0, none⟩) 3 (ng400 / 1)), (10, .slice (some ⟨g402, 0, none⟩) 3 (ng402 / 1)), (20, .slice (some ⟨N392, 1, none⟩) 3 3), (21, .int .i64 3), (22, .int .i64 2), (26, .slice (some ⟨g400, 0, none⟩) 3 (ng400 / 1)), (27, .pointer (some ⟨b403, 0, none⟩)), (31, .slice (some ⟨g402, 0, none⟩) 3 (ng402 / 1)), (32, .pointer (some ⟨b403, 1, none⟩))] (by kernel_rfl) (by kernel_rfl) hg_63
        have hg_3 : G [true, true, false, false, false, false, false, false, false, false, false, false] [(2, .int .i64 i2), (3, .int .i64 n3), (8, .pointer (some ⟨b380, 0, none⟩)), (9, .slice (some ⟨g400, 0, none⟩) 3 (ng400 / 1)), (10, .slice (some ⟨g402, 0, none⟩) 3 (ng402 / 1)), (12, .pointer (some ⟨b403, 0, none⟩)), (20, .slice (some ⟨N392, 1, none⟩) 3 3), (21, .int .i64 3), (22, .int .i64 2), (26, .slice (some ⟨g400, 0, none⟩) 3 (ng400 / 1)), (27, .pointer (some ⟨b403, 0, none⟩))] ([⟨b403, [.int .i64 t389, .int .i64 t390], 2⟩, ⟨g402, [.int .i64 a0_1, .int .i64 t386, .int .i64 t388], ng402⟩, ⟨g401, [.int .i64 t388], 1⟩, ⟨g400, [.int .i64 a0_0, .int .i64 t385, .int .i64 t387], ng400⟩, ⟨g399, [.int .i64 t387], 1⟩, ⟨b398, [.int .i64 t387, .int .i64 t388], 2⟩, ⟨g396, [.int .i64 t386], 1⟩, ⟨g394, [.int .i64 t385], 1⟩, ⟨b393, [.int .i64 t385, .int .i64 t386], 2⟩, ⟨N392, [.int .i64 t384, .int .i64 t385, .int .i64 t386, .int .i64 t387, .int .i64 t388, .int .i64 t389, .int .i64 t390], 7⟩, ⟨b380, [.int .i64 0, .int .i64 0], 2⟩, ⟨b379, [.int .i64 3, .int .i64 s1_1, .int .i64 s1_2, .int .i64 s1_3, .int .i64 s1_4, .int .i64 s1_5, .int .i64 s1_6], 7⟩, ⟨b378, [.int .i64 a0_0, .int .i64 a0_1], 2⟩] : List Own) := by
          exact hqf 5 [2, 3, 8, 9, 10, 12, 20, 21, 22, 26, 27, 31] _ _ _ [(2, .int .i64 i2), (3, .int .i64 n3), (8, .pointer (some ⟨b380, 0, none⟩)), (9, .slice (some ⟨g400, 0, none⟩) 3 (ng400 / 1)), (10, .slice (some ⟨g402, 0, none⟩) 3 (ng402 / 1)), (12, .pointer (some ⟨b403, 0, none⟩)), (20, .slice (some ⟨N392, 1, none⟩) 3 3), (21, .int .i64 3), (22, .int .i64 2), (26, .slice (some ⟨g400, 0, none⟩) 3 (ng400 / 1)), (27, .pointer (some ⟨b403, 0, none⟩)), (31, .slice (some ⟨g402, 0, none⟩) 3 (ng402 / 1))] (by kernel_rfl) (by kernel_rfl) hg_23
        have hg_1 : G [true, false, false, false, false, false, false, false, false, false, false, false] [(2, .int .i64 i2), (3, .int .i64 n3), (8, .pointer (some ⟨b380, 0, none⟩)), (9, .slice (some ⟨g400, 0, none⟩) 3 (ng400 / 1)), (10, .slice (some ⟨g402, 0, none⟩) 3 (ng402 / 1)), (12, .pointer (some ⟨b403, 0, none⟩)), (20, .slice (some ⟨N392, 1, none⟩) 3 3), (21, .int .i64 3), (22, .int .i64 2), (26, .slice (some ⟨g400, 0, none⟩) 3 (ng400 / 1))] ([⟨b403, [.int .i64 t389, .int .i64 t390], 2⟩, ⟨g402, [.int .i64 a0_1, .int .i64 t386, .int .i64 t388], ng402⟩, ⟨g401, [.int .i64 t388], 1⟩, ⟨g400, [.int .i64 a0_0, .int .i64 t385, .int .i64 t387], ng400⟩, ⟨g399, [.int .i64 t387], 1⟩, ⟨b398, [.int .i64 t387, .int .i64 t388], 2⟩, ⟨g396, [.int .i64 t386], 1⟩, ⟨g394, [.int .i64 t385], 1⟩, ⟨b393, [.int .i64 t385, .int .i64 t386], 2⟩, ⟨N392, [.int .i64 t384, .int .i64 t385, .int .i64 t386, .int .i64 t387, .int .i64 t388, .int .i64 t389, .int .i64 t390], 7⟩, ⟨b380, [.int .i64 0, .int .i64 0], 2⟩, ⟨b379, [.int .i64 3, .int .i64 s1_1, .int .i64 s1_2, .int .i64 s1_3, .int .i64 s1_4, .int .i64 s1_5, .int .i64 s1_6], 7⟩, ⟨b378, [.int .i64 a0_0, .int .i64 a0_1], 2⟩] : List Own) := by
          exact hqf 1 [2, 3, 8, 9, 10, 12, 20, 21, 22, 26, 27] _ _ _ [(2, .int .i64 i2), (3, .int .i64 n3), (8, .pointer (some ⟨b380, 0, none⟩)), (9, .slice (some ⟨g400, 0, none⟩) 3 (ng400 / 1)), (10, .slice (some ⟨g402, 0, none⟩) 3 (ng402 / 1)), (12, .pointer (some ⟨b403, 0, none⟩)), (20, .slice (some ⟨N392, 1, none⟩) 3 3), (21, .int .i64 3), (22, .int .i64 2), (26, .slice (some ⟨g400, 0, none⟩) 3 (ng400 / 1)), (27, .pointer (some ⟨b403, 0, none⟩))] (by kernel_rfl) (by kernel_rfl) hg_3
        have hg_0 : G [false, false, false, false, false, false, false, false, false, false, false, false] [(2, .int .i64 i2), (3, .int .i64 n3), (8, .pointer (some ⟨b380, 0, none⟩)), (9, .slice (some ⟨g400, 0, none⟩) 3 (ng400 / 1)), (10, .slice (some ⟨g402, 0, none⟩) 3 (ng402 / 1)), (12, .pointer (some ⟨b403, 0, none⟩)), (20, .slice (some ⟨N392, 1, none⟩) 3 3), (21, .int .i64 3), (22, .int .i64 2)] ([⟨b403, [.int .i64 t389, .int .i64 t390], 2⟩, ⟨g402, [.int .i64 a0_1, .int .i64 t386, .int .i64 t388], ng402⟩, ⟨g401, [.int .i64 t388], 1⟩, ⟨g400, [.int .i64 a0_0, .int .i64 t385, .int .i64 t387], ng400⟩, ⟨g399, [.int .i64 t387], 1⟩, ⟨b398, [.int .i64 t387, .int .i64 t388], 2⟩, ⟨g396, [.int .i64 t386], 1⟩, ⟨g394, [.int .i64 t385], 1⟩, ⟨b393, [.int .i64 t385, .int .i64 t386], 2⟩, ⟨N392, [.int .i64 t384, .int .i64 t385, .int .i64 t386, .int .i64 t387, .int .i64 t388, .int .i64 t389, .int .i64 t390], 7⟩, ⟨b380, [.int .i64 0, .int .i64 0], 2⟩, ⟨b379, [.int .i64 3, .int .i64 s1_1, .int .i64 s1_2, .int .i64 s1_3, .int .i64 s1_4, .int .i64 s1_5, .int .i64 s1_6], 7⟩, ⟨b378, [.int .i64 a0_0, .int .i64 a0_1], 2⟩] : List Own) := by
          exact hqf 0 [2, 3, 8, 9, 10, 12, 20, 21, 22, 26] _ _ _ [(2, .int .i64 i2), (3, .int .i64 n3), (8, .pointer (some ⟨b380, 0, none⟩)), (9, .slice (some ⟨g400, 0, none⟩) 3 (ng400 / 1)), (10, .slice (some ⟨g402, 0, none⟩) 3 (ng402 / 1)), (12, .pointer (some ⟨b403, 0, none⟩)), (20, .slice (some ⟨N392, 1, none⟩) 3 3), (21, .int .i64 3), (22, .int .i64 2), (26, .slice (some ⟨g400, 0, none⟩) 3 (ng400 / 1))] (by kernel_rfl) (by kernel_rfl) hg_1
        exact hg_0
      have hg_7ff : ∀ (g402 : Nat) (ng402 : Nat) (g401 : Nat) (g400 : Nat) (ng400 : Nat) (g399 : Nat), G [true, true, true, true, true, true, true, true, true, true, true, false] [(2, .int .i64 i2), (3, .int .i64 n3), (8, .pointer (some ⟨b380, 0, none⟩)), (9, .slice (some ⟨g400, 0, none⟩) 3 (ng400 / 1)), (10, .slice (some ⟨g397, 0, none⟩) 2 (ng397 / 1)), (20, .slice (some ⟨N392, 1, none⟩) 3 3), (21, .int .i64 3), (22, .int .i64 1), (35, .slice (some ⟨g402, 0, none⟩) 3 (ng402 / 1))] ([⟨g402, [.int .i64 a0_1, .int .i64 t386, .int .i64 t388], ng402⟩, ⟨g401, [.int .i64 t388], 1⟩, ⟨g400, [.int .i64 a0_0, .int .i64 t385, .int .i64 t387], ng400⟩, ⟨g399, [.int .i64 t387], 1⟩, ⟨b398, [.int .i64 t387, .int .i64 t388], 2⟩, ⟨g396, [.int .i64 t386], 1⟩, ⟨g394, [.int .i64 t385], 1⟩, ⟨b393, [.int .i64 t385, .int .i64 t386], 2⟩, ⟨N392, [.int .i64 t384, .int .i64 t385, .int .i64 t386, .int .i64 t387, .int .i64 t388, .int .i64 t389, .int .i64 t390], 7⟩, ⟨b380, [.int .i64 0, .int .i64 0], 2⟩, ⟨b379, [.int .i64 3, .int .i64 s1_1, .int .i64 s1_2, .int .i64 s1_3, .int .i64 s1_4, .int .i64 s1_5, .int .i64 s1_6], 7⟩, ⟨b378, [.int .i64 a0_0, .int .i64 a0_1], 2⟩] : List Own) := by
        intro g402 ng402 g401 g400 ng400 g399
        exact hqf 11 [2, 3, 8, 9, 10, 20, 21, 22] _ _ _ [(2, .int .i64 i2), (3, .int .i64 n3), (8, .pointer (some ⟨b380, 0, none⟩)), (9, .slice (some ⟨g400, 0, none⟩) 3 (ng400 / 1)), (10, .slice (some ⟨g402, 0, none⟩) 3 (ng402 / 1)), (20, .slice (some ⟨N392, 1, none⟩) 3 3), (21, .int .i64 3), (22, .int .i64 1)] (by kernel_rfl) (by kernel_rfl) (hg_fff g402 ng402 g401 g400 ng400 g399)
      have hg_3ff : ∀ (g402 : Nat) (ng402 : Nat) (g401 : Nat) (g400 : Nat) (ng400 : Nat) (g399 : Nat), G [true, true, true, true, true, true, true, true, true, true, false, false] [(2, .int .i64 i2), (3, .int .i64 n3), (8, .pointer (some ⟨b380, 0, none⟩)), (9, .slice (some ⟨g395, 0, none⟩) 2 (ng395 / 1)), (10, .slice (some ⟨g397, 0, none⟩) 2 (ng397 / 1)), (20, .slice (some ⟨N392, 1, none⟩) 3 3), (21, .int .i64 3), (22, .int .i64 1), (30, .slice (some ⟨g400, 0, none⟩) 3 (ng400 / 1)), (35, .slice (some ⟨g402, 0, none⟩) 3 (ng402 / 1))] ([⟨g402, [.int .i64 a0_1, .int .i64 t386, .int .i64 t388], ng402⟩, ⟨g401, [.int .i64 t388], 1⟩, ⟨g400, [.int .i64 a0_0, .int .i64 t385, .int .i64 t387], ng400⟩, ⟨g399, [.int .i64 t387], 1⟩, ⟨b398, [.int .i64 t387, .int .i64 t388], 2⟩, ⟨g396, [.int .i64 t386], 1⟩, ⟨g394, [.int .i64 t385], 1⟩, ⟨b393, [.int .i64 t385, .int .i64 t386], 2⟩, ⟨N392, [.int .i64 t384, .int .i64 t385, .int .i64 t386, .int .i64 t387, .int .i64 t388, .int .i64 t389, .int .i64 t390], 7⟩, ⟨b380, [.int .i64 0, .int .i64 0], 2⟩, ⟨b379, [.int .i64 3, .int .i64 s1_1, .int .i64 s1_2, .int .i64 s1_3, .int .i64 s1_4, .int .i64 s1_5, .int .i64 s1_6], 7⟩, ⟨b378, [.int .i64 a0_0, .int .i64 a0_1], 2⟩] : List Own) := by
        intro g402 ng402 g401 g400 ng400 g399
        exact hqf 10 [2, 3, 8, 9, 10, 20, 21, 22, 35] _ _ _ [(2, .int .i64 i2), (3, .int .i64 n3), (8, .pointer (some ⟨b380, 0, none⟩)), (9, .slice (some ⟨g400, 0, none⟩) 3 (ng400 / 1)), (10, .slice (some ⟨g397, 0, none⟩) 2 (ng397 / 1)), (20, .slice (some ⟨N392, 1, none⟩) 3 3), (21, .int .i64 3), (22, .int .i64 1), (35, .slice (some ⟨g402, 0, none⟩) 3 (ng402 / 1))] (by kernel_rfl) (by kernel_rfl) (hg_7ff g402 ng402 g401 g400 ng400 g399)
      have hg_1ff : ∀ (g401 : Nat) (g400 : Nat) (ng400 : Nat) (g399 : Nat), G [true, true, true, true, true, true, true, true, true, false, false, false] [(2, .int .i64 i2), (3, .int .i64 n3), (8, .pointer (some ⟨b380, 0, none⟩)), (9, .slice (some ⟨g395, 0, none⟩) 2 (ng395 / 1)), (10, .slice (some ⟨g397, 0, none⟩) 2 (ng397 / 1)), (20, .slice (some ⟨N392, 1, none⟩) 3 3), (21, .int .i64 3), (22, .int .i64 1), (30, .slice (some ⟨g400, 0, none⟩) 3 (ng400 / 1)), (31, .slice (some ⟨g397, 0, none⟩) 2 (ng397 / 1)), (34, .slice (some ⟨g401, 0, none⟩) 1 1)] ([⟨g401, [.int .i64 t388], 1⟩, ⟨g400, [.int .i64 a0_0, .int .i64 t385, .int .i64 t387], ng400⟩, ⟨g399, [.int .i64 t387], 1⟩, ⟨b398, [.int .i64 t387, .int .i64 t388], 2⟩, ⟨g397, [.int .i64 a0_1, .int .i64 t386], ng397⟩, ⟨g396, [.int .i64 t386], 1⟩, ⟨g394, [.int .i64 t385], 1⟩, ⟨b393, [.int .i64 t385, .int .i64 t386], 2⟩, ⟨N392, [.int .i64 t384, .int .i64 t385, .int .i64 t386, .int .i64 t387, .int .i64 t388, .int .i64 t389, .int .i64 t390], 7⟩, ⟨b380, [.int .i64 0, .int .i64 0], 2⟩, ⟨b379, [.int .i64 3, .int .i64 s1_1, .int .i64 s1_2, .int .i64 s1_3, .int .i64 s1_4, .int .i64 s1_5, .int .i64 s1_6], 7⟩, ⟨b378, [.int .i64 a0_0, .int .i64 a0_1], 2⟩] : List Own) := by
        intro g401 g400 ng400 g399
        refine hstep [9] _ _ _ (by kernel_rfl) (List.cons_ne_nil _ _) ⟨?_, trivial⟩
        · show T _ _ _ _ _ _ _ _
          refine t_app1 (cs := [.int .i64 a0_1, .int .i64 t386]) (M := ng397) (F := ([⟨g401, [.int .i64 t388], 1⟩, ⟨g400, [.int .i64 a0_0, .int .i64 t385, .int .i64 t387], ng400⟩, ⟨g399, [.int .i64 t387], 1⟩, ⟨b398, [.int .i64 t387, .int .i64 t388], 2⟩, ⟨g396, [.int .i64 t386], 1⟩, ⟨g394, [.int .i64 t385], 1⟩, ⟨b393, [.int .i64 t385, .int .i64 t386], 2⟩, ⟨N392, [.int .i64 t384, .int .i64 t385, .int .i64 t386, .int .i64 t387, .int .i64 t388, .int .i64 t389, .int .i64 t390], 7⟩, ⟨b380, [.int .i64 0, .int .i64 0], 2⟩, ⟨b379, [.int .i64 3, .int .i64 s1_1, .int .i64 s1_2, .int .i64 s1_3, .int .i64 s1_4, .int .i64 s1_5, .int .i64 s1_6], 7⟩, ⟨b378, [.int .i64 a0_0, .int .i64 a0_1], 2⟩] : List Own)) (news := [.int .i64 t388]) rfl rfl rfl rfl (sel_perm (is := [4]) (by kernel_rfl)) (.at 0 rfl rfl) (by kernel_rfl) rfl rfl (by decide) (by decide) rfl fun g402 ng402 => ?_
          refine t_keep [2, 3, 8, 9, 10, 20, 21, 22, 30, 35] (σ' := [(2, .int .i64 i2), (3, .int .i64 n3), (8, .pointer (some ⟨b380, 0, none⟩)), (9, .slice (some ⟨g395, 0, none⟩) 2 (ng395 / 1)), (10, .slice (some ⟨g397, 0, none⟩) 2 (ng397 / 1)), (20, .slice (some ⟨N392, 1, none⟩) 3 3), (21, .int .i64 3), (22, .int .i64 1), (30, .slice (some ⟨g400, 0, none⟩) 3 (ng400 / 1)), (35, .slice (some ⟨g402, 0, none⟩) 3 (ng402 / 1))]) (by kernel_rfl) ?_
          refine t_end ?_
          exact ⟨hg_3ff g402 ng402 g401 g400 ng400 g399, rfl⟩
      have hg_ff : ∀ (g400 : Nat) (ng400 : Nat) (g399 : Nat), G [true, true, true, true, true, true, true, true, false, false, false, false] [(2, .int .i64 i2), (3, .int .i64 n3), (8, .pointer (some ⟨b380, 0, none⟩)), (9, .slice (some ⟨g395, 0, none⟩) 2 (ng395 / 1)), (10, .slice (some ⟨g397, 0, none⟩) 2 (ng397 / 1)), (20, .slice (some ⟨N392, 1, none⟩) 3 3), (21, .int .i64 3), (22, .int .i64 1), (30, .slice (some ⟨g400, 0, none⟩) 3 (ng400 / 1)), (31, .slice (some ⟨g397, 0, none⟩) 2 (ng397 / 1)), (33, .int .i64 t388)] ([⟨g400, [.int .i64 a0_0, .int .i64 t385, .int .i64 t387], ng400⟩, ⟨g399, [.int .i64 t387], 1⟩, ⟨b398, [.int .i64 t387, .int .i64 t388], 2⟩, ⟨g397, [.int .i64 a0_1, .int .i64 t386], ng397⟩, ⟨g396, [.int .i64 t386], 1⟩, ⟨g394, [.int .i64 t385], 1⟩, ⟨b393, [.int .i64 t385, .int .i64 t386], 2⟩, ⟨N392, [.int .i64 t384, .int .i64 t385, .int .i64 t386, .int .i64 t387, .int .i64 t388, .int .i64 t389, .int .i64 t390], 7⟩, ⟨b380, [.int .i64 0, .int .i64 0], 2⟩, ⟨b379, [.int .i64 3, .int .i64 s1_1, .int .i64 s1_2, .int .i64 s1_3, .int .i64 s1_4, .int .i64 s1_5, .int .i64 s1_6], 7⟩, ⟨b378, [.int .i64 a0_0, .int .i64 a0_1], 2⟩] : List Own) := by
        intro g400 ng400 g399
        refine hstep [8] _ _ _ (by kernel_rfl) (List.cons_ne_nil _ _) ⟨?_, trivial⟩
        · show T _ _ _ _ _ _ _ _
          refine t_a (.bsl rfl rfl rfl rfl) fun g401 fg401 sg401 => ?_
          refine t_keep [2, 3, 8, 9, 10, 20, 21, 22, 30, 31, 34] (σ' := [(2, .int .i64 i2), (3, .int .i64 n3), (8, .pointer (some ⟨b380, 0, none⟩)), (9, .slice (some ⟨g395, 0, none⟩) 2 (ng395 / 1)), (10, .slice (some ⟨g397, 0, none⟩) 2 (ng397 / 1)), (20, .slice (some ⟨N392, 1, none⟩) 3 3), (21, .int .i64 3), (22, .int .i64 1), (30, .slice (some ⟨g400, 0, none⟩) 3 (ng400 / 1)), (31, .slice (some ⟨g397, 0, none⟩) 2 (ng397 / 1)), (34, .slice (some ⟨g401, 0, none⟩) 1 1)]) (by kernel_rfl) ?_
          refine t_end ?_
          exact ⟨hg_1ff g401 g400 ng400 g399, rfl⟩
      have hg_1ef : ∀ (g401 : Nat) (g399 : Nat), G [true, true, true, true, false, true, true, true, true, false, false, false] [(2, .int .i64 i2), (3, .int .i64 n3), (8, .pointer (some ⟨b380, 0, none⟩)), (9, .slice (some ⟨g395, 0, none⟩) 2 (ng395 / 1)), (10, .slice (some ⟨g397, 0, none⟩) 2 (ng397 / 1)), (20, .slice (some ⟨N392, 1, none⟩) 3 3), (21, .int .i64 3), (22, .int .i64 1), (26, .slice (some ⟨g395, 0, none⟩) 2 (ng395 / 1)), (29, .slice (some ⟨g399, 0, none⟩) 1 1), (31, .slice (some ⟨g397, 0, none⟩) 2 (ng397 / 1)), (34, .slice (some ⟨g401, 0, none⟩) 1 1)] ([⟨g401, [.int .i64 t388], 1⟩, ⟨g399, [.int .i64 t387], 1⟩, ⟨b398, [.int .i64 t387, .int .i64 t388], 2⟩, ⟨g397, [.int .i64 a0_1, .int .i64 t386], ng397⟩, ⟨g396, [.int .i64 t386], 1⟩, ⟨g395, [.int .i64 a0_0, .int .i64 t385], ng395⟩, ⟨g394, [.int .i64 t385], 1⟩, ⟨b393, [.int .i64 t385, .int .i64 t386], 2⟩, ⟨N392, [.int .i64 t384, .int .i64 t385, .int .i64 t386, .int .i64 t387, .int .i64 t388, .int .i64 t389, .int .i64 t390], 7⟩, ⟨b380, [.int .i64 0, .int .i64 0], 2⟩, ⟨b379, [.int .i64 3, .int .i64 s1_1, .int .i64 s1_2, .int .i64 s1_3, .int .i64 s1_4, .int .i64 s1_5, .int .i64 s1_6], 7⟩, ⟨b378, [.int .i64 a0_0, .int .i64 a0_1], 2⟩] : List Own) := by
        intro g401 g399
        refine hstep [4] _ _ _ (by kernel_rfl) (List.cons_ne_nil _ _) ⟨?_, trivial⟩
        · show T _ _ _ _ _ _ _ _
          refine t_app1 (cs := [.int .i64 a0_0, .int .i64 t385]) (M := ng395) (F := ([⟨g401, [.int .i64 t388], 1⟩, ⟨g399, [.int .i64 t387], 1⟩, ⟨b398, [.int .i64 t387, .int .i64 t388], 2⟩, ⟨g397, [.int .i64 a0_1, .int .i64 t386], ng397⟩, ⟨g396, [.int .i64 t386], 1⟩, ⟨g394, [.int .i64 t385], 1⟩, ⟨b393, [.int .i64 t385, .int .i64 t386], 2⟩, ⟨N392, [.int .i64 t384, .int .i64 t385, .int .i64 t386, .int .i64 t387, .int .i64 t388, .int .i64 t389, .int .i64 t390], 7⟩, ⟨b380, [.int .i64 0, .int .i64 0], 2⟩, ⟨b379, [.int .i64 3, .int .i64 s1_1, .int .i64 s1_2, .int .i64 s1_3, .int .i64 s1_4, .int .i64 s1_5, .int .i64 s1_6], 7⟩, ⟨b378, [.int .i64 a0_0, .int .i64 a0_1], 2⟩] : List Own)) (news := [.int .i64 t387]) rfl rfl rfl rfl (sel_perm (is := [5]) (by kernel_rfl)) (.at 1 rfl rfl) (by kernel_rfl) rfl rfl (by decide) (by decide) rfl fun g400 ng400 => ?_
          refine t_keep [2, 3, 8, 9, 10, 20, 21, 22, 30, 31, 34] (σ' := [(2, .int .i64 i2), (3, .int .i64 n3), (8, .pointer (some ⟨b380, 0, none⟩)), (9, .slice (some ⟨g395, 0, none⟩) 2 (ng395 / 1)), (10, .slice (some ⟨g397, 0, none⟩) 2 (ng397 / 1)), (20, .slice (some ⟨N392, 1, none⟩) 3 3), (21, .int .i64 3), (22, .int .i64 1), (30, .slice (some ⟨g400, 0, none⟩) 3 (ng400 / 1)), (31, .slice (some ⟨g397, 0, none⟩) 2 (ng397 / 1)), (34, .slice (some ⟨g401, 0, none⟩) 1 1)]) (by kernel_rfl) ?_
          refine t_vs (H' := ([⟨g401, [.int .i64 t388], 1⟩, ⟨g400, [.int .i64 a0_0, .int .i64 t385, .int .i64 t387], ng400⟩, ⟨g399, [.int .i64 t387], 1⟩, ⟨b398, [.int .i64 t387, .int .i64 t388], 2⟩, ⟨g397, [.int .i64 a0_1, .int .i64 t386], ng397⟩, ⟨g396, [.int .i64 t386], 1⟩, ⟨g394, [.int .i64 t385], 1⟩, ⟨b393, [.int .i64 t385, .int .i64 t386], 2⟩, ⟨N392, [.int .i64 t384, .int .i64 t385, .int .i64 t386, .int .i64 t387, .int .i64 t388, .int .i64 t389, .int .i64 t390], 7⟩, ⟨b380, [.int .i64 0, .int .i64 0], 2⟩, ⟨b379, [.int .i64 3, .int .i64 s1_1, .int .i64 s1_2, .int .i64 s1_3, .int .i64 s1_4, .int .i64 s1_5, .int .i64 s1_6], 7⟩, ⟨b378, [.int .i64 a0_0, .int .i64 a0_1], 2⟩] : List Own)) (S' := S) (VS.sel [1, 0, 0, 0, 0, 0, 0, 0, 0, 0, 0, 0] (by kernel_rfl)) ?_
          refine t_end ?_
          exact ⟨hg_1ff g401 g400 ng400 g399, rfl⟩
      have hg_1e7 : ∀ (g401 : Nat), G [true, true, true, false, false, true, true, true, true, false, false, false] [(2, .int .i64 i2), (3, .int .i64 n3), (8, .pointer (some ⟨b380, 0, none⟩)), (9, .slice (some ⟨g395, 0, none⟩) 2 (ng395 / 1)), (10, .slice (some ⟨g397, 0, none⟩) 2 (ng397 / 1)), (20, .slice (some ⟨N392, 1, none⟩) 3 3), (21, .int .i64 3), (22, .int .i64 1), (26, .slice (some ⟨g395, 0, none⟩) 2 (ng395 / 1)), (28, .int .i64 t387), (31, .slice (some ⟨g397, 0, none⟩) 2 (ng397 / 1)), (34, .slice (some ⟨g401, 0, none⟩) 1 1)] ([⟨g401, [.int .i64 t388], 1⟩, ⟨b398, [.int .i64 t387, .int .i64 t388], 2⟩, ⟨g397, [.int .i64 a0_1, .int .i64 t386], ng397⟩, ⟨g396, [.int .i64 t386], 1⟩, ⟨g395, [.int .i64 a0_0, .int .i64 t385], ng395⟩, ⟨g394, [.int .i64 t385], 1⟩, ⟨b393, [.int .i64 t385, .int .i64 t386], 2⟩, ⟨N392, [.int .i64 t384, .int .i64 t385, .int .i64 t386, .int .i64 t387, .int .i64 t388, .int .i64 t389, .int .i64 t390], 7⟩, ⟨b380, [.int .i64 0, .int .i64 0], 2⟩, ⟨b379, [.int .i64 3, .int .i64 s1_1, .int .i64 s1_2, .int .i64 s1_3, .int .i64 s1_4, .int .i64 s1_5, .int .i64 s1_6], 7⟩, ⟨b378, [.int .i64 a0_0, .int .i64 a0_1], 2⟩] : List Own) := by
        intro g401
        refine hstep [3] _ _ _ (by kernel_rfl) (List.cons_ne_nil _ _) ⟨?_, trivial⟩
        · show T _ _ _ _ _ _ _ _
          refine t_a (.bsl rfl rfl rfl rfl) fun g399 fg399 sg399 => ?_
          refine t_keep [2, 3, 8, 9, 10, 20, 21, 22, 26, 29, 31, 34] (σ' := [(2, .int .i64 i2), (3, .int .i64 n3), (8, .pointer (some ⟨b380, 0, none⟩)), (9, .slice (some ⟨g395, 0, none⟩) 2 (ng395 / 1)), (10, .slice (some ⟨g397, 0, none⟩) 2 (ng397 / 1)), (20, .slice (some ⟨N392, 1, none⟩) 3 3), (21, .int .i64 3), (22, .int .i64 1), (26, .slice (some ⟨g395, 0, none⟩) 2 (ng395 / 1)), (29, .slice (some ⟨g399, 0, none⟩) 1 1), (31, .slice (some ⟨g397, 0, none⟩) 2 (ng397 / 1)), (34, .slice (some ⟨g401, 0, none⟩) 1 1)]) (by kernel_rfl) ?_
          refine t_vs (H' := ([⟨g401, [.int .i64 t388], 1⟩, ⟨g399, [.int .i64 t387], 1⟩, ⟨b398, [.int .i64 t387, .int .i64 t388], 2⟩, ⟨g397, [.int .i64 a0_1, .int .i64 t386], ng397⟩, ⟨g396, [.int .i64 t386], 1⟩, ⟨g395, [.int .i64 a0_0, .int .i64 t385], ng395⟩, ⟨g394, [.int .i64 t385], 1⟩, ⟨b393, [.int .i64 t385, .int .i64 t386], 2⟩, ⟨N392, [.int .i64 t384, .int .i64 t385, .int .i64 t386, .int .i64 t387, .int .i64 t388, .int .i64 t389, .int .i64 t390], 7⟩, ⟨b380, [.int .i64 0, .int .i64 0], 2⟩, ⟨b379, [.int .i64 3, .int .i64 s1_1, .int .i64 s1_2, .int .i64 s1_3, .int .i64 s1_4, .int .i64 s1_5, .int .i64 s1_6], 7⟩, ⟨b378, [.int .i64 a0_0, .int .i64 a0_1], 2⟩] : List Own)) (S' := S) (VS.sel [1, 0, 0, 0, 0, 0, 0, 0, 0, 0, 0, 0] (by kernel_rfl)) ?_
          refine t_end ?_
          exact ⟨hg_1ef g401 g399, rfl⟩
      have hg_ef : ∀ (g399 : Nat), G [true, true, true, true, false, true, true, true, false, false, false, false] [(2, .int .i64 i2), (3, .int .i64 n3), (8, .pointer (some ⟨b380, 0, none⟩)), (9, .slice (some ⟨g395, 0, none⟩) 2 (ng395 / 1)), (10, .slice (some ⟨g397, 0, none⟩) 2 (ng397 / 1)), (20, .slice (some ⟨N392, 1, none⟩) 3 3), (21, .int .i64 3), (22, .int .i64 1), (26, .slice (some ⟨g395, 0, none⟩) 2 (ng395 / 1)), (29, .slice (some ⟨g399, 0, none⟩) 1 1), (31, .slice (some ⟨g397, 0, none⟩) 2 (ng397 / 1)), (33, .int .i64 t388)] ([⟨g399, [.int .i64 t387], 1⟩, ⟨b398, [.int .i64 t387, .int .i64 t388], 2⟩, ⟨g397, [.int .i64 a0_1, .int .i64 t386], ng397⟩, ⟨g396, [.int .i64 t386], 1⟩, ⟨g395, [.int .i64 a0_0, .int .i64 t385], ng395⟩, ⟨g394, [.int .i64 t385], 1⟩, ⟨b393, [.int .i64 t385, .int .i64 t386], 2⟩, ⟨N392, [.int .i64 t384, .int .i64 t385, .int .i64 t386, .int .i64 t387, .int .i64 t388, .int .i64 t389, .int .i64 t390], 7⟩, ⟨b380, [.int .i64 0, .int .i64 0], 2⟩, ⟨b379, [.int .i64 3, .int .i64 s1_1, .int .i64 s1_2, .int .i64 s1_3, .int .i64 s1_4, .int .i64 s1_5, .int .i64 s1_6], 7⟩, ⟨b378, [.int .i64 a0_0, .int .i64 a0_1], 2⟩] : List Own) := by
        intro g399
        refine hstep [4, 8] _ _ _ (by kernel_rfl) (List.cons_ne_nil _ _) ⟨?_, ?_, trivial⟩
        · show T _ _ _ _ _ _ _ _
          refine t_app1 (cs := [.int .i64 a0_0, .int .i64 t385]) (M := ng395) (F := ([⟨g399, [.int .i64 t387], 1⟩, ⟨b398, [.int .i64 t387, .int .i64 t388], 2⟩, ⟨g397, [.int .i64 a0_1, .int .i64 t386], ng397⟩, ⟨g396, [.int .i64 t386], 1⟩, ⟨g394, [.int .i64 t385], 1⟩, ⟨b393, [.int .i64 t385, .int .i64 t386], 2⟩, ⟨N392, [.int .i64 t384, .int .i64 t385, .int .i64 t386, .int .i64 t387, .int .i64 t388, .int .i64 t389, .int .i64 t390], 7⟩, ⟨b380, [.int .i64 0, .int .i64 0], 2⟩, ⟨b379, [.int .i64 3, .int .i64 s1_1, .int .i64 s1_2, .int .i64 s1_3, .int .i64 s1_4, .int .i64 s1_5, .int .i64 s1_6], 7⟩, ⟨b378, [.int .i64 a0_0, .int .i64 a0_1], 2⟩] : List Own)) (news := [.int .i64 t387]) rfl rfl rfl rfl (sel_perm (is := [4]) (by kernel_rfl)) (.at 0 rfl rfl) (by kernel_rfl) rfl rfl (by decide) (by decide) rfl fun g400 ng400 => ?_
          refine t_keep [2, 3, 8, 9, 10, 20, 21, 22, 30, 31, 33] (σ' := [(2, .int .i64 i2), (3, .int .i64 n3), (8, .pointer (some ⟨b380, 0, none⟩)), (9, .slice (some ⟨g395, 0, none⟩) 2 (ng395 / 1)), (10, .slice (some ⟨g397, 0, none⟩) 2 (ng397 / 1)), (20, .slice (some ⟨N392, 1, none⟩) 3 3), (21, .int .i64 3), (22, .int .i64 1), (30, .slice (some ⟨g400, 0, none⟩) 3 (ng400 / 1)), (31, .slice (some ⟨g397, 0, none⟩) 2 (ng397 / 1)), (33, .int .i64 t388)]) (by kernel_rfl) ?_
          refine t_end ?_
          exact ⟨hg_ff g400 ng400 g399, rfl⟩
        · show T _ _ _ _ _ _ _ _
          refine t_a (.bsl rfl rfl rfl rfl) fun g401 fg401 sg401 => ?_
          refine t_keep [2, 3, 8, 9, 10, 20, 21, 22, 26, 29, 31, 34] (σ' := [(2, .int .i64 i2), (3, .int .i64 n3), (8, .pointer (some ⟨b380, 0, none⟩)), (9, .slice (some ⟨g395, 0, none⟩) 2 (ng395 / 1)), (10, .slice (some ⟨g397, 0, none⟩) 2 (ng397 / 1)), (20, .slice (some ⟨N392, 1, none⟩) 3 3), (21, .int .i64 3), (22, .int .i64 1), (26, .slice (some ⟨g395, 0, none⟩) 2 (ng395 / 1)), (29, .slice (some ⟨g399, 0, none⟩) 1 1), (31, .slice (some ⟨g397, 0, none⟩) 2 (ng397 / 1)), (34, .slice (some ⟨g401, 0, none⟩) 1 1)]) (by kernel_rfl) ?_
          refine t_end ?_
          exact ⟨hg_1ef g401 g399, rfl⟩
      have hg_7f : ∀ (g400 : Nat) (ng400 : Nat) (g399 : Nat), G [true, true, true, true, true, true, true, false, false, false, false, false] [(2, .int .i64 i2), (3, .int .i64 n3), (8, .pointer (some ⟨b380, 0, none⟩)), (9, .slice (some ⟨g395, 0, none⟩) 2 (ng395 / 1)), (10, .slice (some ⟨g397, 0, none⟩) 2 (ng397 / 1)), (20, .slice (some ⟨N392, 1, none⟩) 3 3), (21, .int .i64 3), (22, .int .i64 1), (30, .slice (some ⟨g400, 0, none⟩) 3 (ng400 / 1)), (31, .slice (some ⟨g397, 0, none⟩) 2 (ng397 / 1)), (32, .pointer (some ⟨b398, 1, none⟩))] ([⟨g400, [.int .i64 a0_0, .int .i64 t385, .int .i64 t387], ng400⟩, ⟨g399, [.int .i64 t387], 1⟩, ⟨b398, [.int .i64 t387, .int .i64 t388], 2⟩, ⟨g397, [.int .i64 a0_1, .int .i64 t386], ng397⟩, ⟨g396, [.int .i64 t386], 1⟩, ⟨g394, [.int .i64 t385], 1⟩, ⟨b393, [.int .i64 t385, .int .i64 t386], 2⟩, ⟨N392, [.int .i64 t384, .int .i64 t385, .int .i64 t386, .int .i64 t387, .int .i64 t388, .int .i64 t389, .int .i64 t390], 7⟩, ⟨b380, [.int .i64 0, .int .i64 0], 2⟩, ⟨b379, [.int .i64 3, .int .i64 s1_1, .int .i64 s1_2, .int .i64 s1_3, .int .i64 s1_4, .int .i64 s1_5, .int .i64 s1_6], 7⟩, ⟨b378, [.int .i64 a0_0, .int .i64 a0_1], 2⟩] : List Own) := by
        intro g400 ng400 g399
        refine hstep [7] _ _ _ (by kernel_rfl) (List.cons_ne_nil _ _) ⟨?_, trivial⟩
        · show T _ _ _ _ _ _ _ _
          refine t_v (.ld1 rfl rfl rfl (.at 2 rfl rfl)) ?_
          refine t_keep [2, 3, 8, 9, 10, 20, 21, 22, 30, 31, 33] (σ' := [(2, .int .i64 i2), (3, .int .i64 n3), (8, .pointer (some ⟨b380, 0, none⟩)), (9, .slice (some ⟨g395, 0, none⟩) 2 (ng395 / 1)), (10, .slice (some ⟨g397, 0, none⟩) 2 (ng397 / 1)), (20, .slice (some ⟨N392, 1, none⟩) 3 3), (21, .int .i64 3), (22, .int .i64 1), (30, .slice (some ⟨g400, 0, none⟩) 3 (ng400 / 1)), (31, .slice (some ⟨g397, 0, none⟩) 2 (ng397 / 1)), (33, .int .i64 t388)]) (by kernel_rfl) ?_
          refine t_end ?_
          exact ⟨hg_ff g400 ng400 g399, rfl⟩
      have hg_1e3 : ∀ (g401 : Nat), G [true, true, false, false, false, true, true, true, true, false, false, false] [(2, .int .i64 i2), (3, .int .i64 n3), (8, .pointer (some ⟨b380, 0, none⟩)), (9, .slice (some ⟨g395, 0, none⟩) 2 (ng395 / 1)), (10, .slice (some ⟨g397, 0, none⟩) 2 (ng397 / 1)), (20, .slice (some ⟨N392, 1, none⟩) 3 3), (21, .int .i64 3), (22, .int .i64 1), (26, .slice (some ⟨g395, 0, none⟩) 2 (ng395 / 1)), (27, .pointer (some ⟨b398, 0, none⟩)), (31, .slice (some ⟨g397, 0, none⟩) 2 (ng397 / 1)), (34, .slice (some ⟨g401, 0, none⟩) 1 1)] ([⟨g401, [.int .i64 t388], 1⟩, ⟨b398, [.int .i64 t387, .int .i64 t388], 2⟩, ⟨g397, [.int .i64 a0_1, .int .i64 t386], ng397⟩, ⟨g396, [.int .i64 t386], 1⟩, ⟨g395, [.int .i64 a0_0, .int .i64 t385], ng395⟩, ⟨g394, [.int .i64 t385], 1⟩, ⟨b393, [.int .i64 t385, .int .i64 t386], 2⟩, ⟨N392, [.int .i64 t384, .int .i64 t385, .int .i64 t386, .int .i64 t387, .int .i64 t388, .int .i64 t389, .int .i64 t390], 7⟩, ⟨b380, [.int .i64 0, .int .i64 0], 2⟩, ⟨b379, [.int .i64 3, .int .i64 s1_1, .int .i64 s1_2, .int .i64 s1_3, .int .i64 s1_4, .int .i64 s1_5, .int .i64 s1_6], 7⟩, ⟨b378, [.int .i64 a0_0, .int .i64 a0_1], 2⟩] : List Own) := by
        intro g401
        refine hstep [2] _ _ _ (by kernel_rfl) (List.cons_ne_nil _ _) ⟨?_, trivial⟩
        · show T _ _ _ _ _ _ _ _
          refine t_v (.ld1 rfl rfl rfl (.at 1 rfl rfl)) ?_
          refine t_keep [2, 3, 8, 9, 10, 20, 21, 22, 26, 28, 31, 34] (σ' := [(2, .int .i64 i2), (3, .int .i64 n3), (8, .pointer (some ⟨b380, 0, none⟩)), (9, .slice (some ⟨g395, 0, none⟩) 2 (ng395 / 1)), (10, .slice (some ⟨g397, 0, none⟩) 2 (ng397 / 1)), (20, .slice (some ⟨N392, 1, none⟩) 3 3), (21, .int .i64 3), (22, .int .i64 1), (26, .slice (some ⟨g395, 0, none⟩) 2 (ng395 / 1)), (28, .int .i64 t387), (31, .slice (some ⟨g397, 0, none⟩) 2 (ng397 / 1)), (34, .slice (some ⟨g401, 0, none⟩) 1 1)]) (by kernel_rfl) ?_
          refine t_end ?_
          exact ⟨hg_1e7 g401, rfl⟩
      have hg_e7 : G [true, true, true, false, false, true, true, true, false, false, false, false] [(2, .int .i64 i2), (3, .int .i64 n3), (8, .pointer (some ⟨b380, 0, none⟩)), (9, .slice (some ⟨g395, 0, none⟩) 2 (ng395 / 1)), (10, .slice (some ⟨g397, 0, none⟩) 2 (ng397 / 1)), (20, .slice (some ⟨N392, 1, none⟩) 3 3), (21, .int .i64 3), (22, .int .i64 1), (26, .slice (some ⟨g395, 0, none⟩) 2 (ng395 / 1)), (28, .int .i64 t387), (31, .slice (some ⟨g397, 0, none⟩) 2 (ng397 / 1)), (33, .int .i64 t388)] ([⟨b398, [.int .i64 t387, .int .i64 t388], 2⟩, ⟨g397, [.int .i64 a0_1, .int .i64 t386], ng397⟩, ⟨g396, [.int .i64 t386], 1⟩, ⟨g395, [.int .i64 a0_0, .int .i64 t385], ng395⟩, ⟨g394, [.int .i64 t385], 1⟩, ⟨b393, [.int .i64 t385, .int .i64 t386], 2⟩, ⟨N392, [.int .i64 t384, .int .i64 t385, .int .i64 t386, .int .i64 t387, .int .i64 t388, .int .i64 t389, .int .i64 t390], 7⟩, ⟨b380, [.int .i64 0, .int .i64 0], 2⟩, ⟨b379, [.int .i64 3, .int .i64 s1_1, .int .i64 s1_2, .int .i64 s1_3, .int .i64 s1_4, .int .i64 s1_5, .int .i64 s1_6], 7⟩, ⟨b378, [.int .i64 a0_0, .int .i64 a0_1], 2⟩] : List Own) := by
        refine hstep [3, 8] _ _ _ (by kernel_rfl) (List.cons_ne_nil _ _) ⟨?_, ?_, trivial⟩
        · show T _ _ _ _ _ _ _ _
          refine t_a (.bsl rfl rfl rfl rfl) fun g399 fg399 sg399 => ?_
          refine t_keep [2, 3, 8, 9, 10, 20, 21, 22, 26, 29, 31, 33] (σ' := [(2, .int .i64 i2), (3, .int .i64 n3), (8, .pointer (some ⟨b380, 0, none⟩)), (9, .slice (some ⟨g395, 0, none⟩) 2 (ng395 / 1)), (10, .slice (some ⟨g397, 0, none⟩) 2 (ng397 / 1)), (20, .slice (some ⟨N392, 1, none⟩) 3 3), (21, .int .i64 3), (22, .int .i64 1), (26, .slice (some ⟨g395, 0, none⟩) 2 (ng395 / 1)), (29, .slice (some ⟨g399, 0, none⟩) 1 1), (31, .slice (some ⟨g397, 0, none⟩) 2 (ng397 / 1)), (33, .int .i64 t388)]) (by kernel_rfl) ?_
          refine t_end ?_
          exact ⟨hg_ef g399, rfl⟩
        · show T _ _ _ _ _ _ _ _
          refine t_a (.bsl rfl rfl rfl rfl) fun g401 fg401 sg401 => ?_
          refine t_keep [2, 3, 8, 9, 10, 20, 21, 22, 26, 28, 31, 34] (σ' := [(2, .int .i64 i2), (3, .int .i64 n3), (8, .pointer (some ⟨b380, 0, none⟩)), (9, .slice (some ⟨g395, 0, none⟩) 2 (ng395 / 1)), (10, .slice (some ⟨g397, 0, none⟩) 2 (ng397 / 1)), (20, .slice (some ⟨N392, 1, none⟩) 3 3), (21, .int .i64 3), (22, .int .i64 1), (26, .slice (some ⟨g395, 0, none⟩) 2 (ng395 / 1)), (28, .int .i64 t387), (31, .slice (some ⟨g397, 0, none⟩) 2 (ng397 / 1)), (34, .slice (some ⟨g401, 0, none⟩) 1 1)]) (by kernel_rfl) ?_
          refine t_end ?_
          exact ⟨hg_1e7 g401, rfl⟩
      have hg_6f : ∀ (g399 : Nat), G [true, true, true, true, false, true, true, false, false, false, false, false] [(2, .int .i64 i2), (3, .int .i64 n3), (8, .pointer (some ⟨b380, 0, none⟩)), (9, .slice (some ⟨g395, 0, none⟩) 2 (ng395 / 1)), (10, .slice (some ⟨g397, 0, none⟩) 2 (ng397 / 1)), (20, .slice (some ⟨N392, 1, none⟩) 3 3), (21, .int .i64 3), (22, .int .i64 1), (26, .slice (some ⟨g395, 0, none⟩) 2 (ng395 / 1)), (29, .slice (some ⟨g399, 0, none⟩) 1 1), (31, .slice (some ⟨g397, 0, none⟩) 2 (ng397 / 1)), (32, .pointer (some ⟨b398, 1, none⟩))] ([⟨g399, [.int .i64 t387], 1⟩, ⟨b398, [.int .i64 t387, .int .i64 t388], 2⟩, ⟨g397, [.int .i64 a0_1, .int .i64 t386], ng397⟩, ⟨g396, [.int .i64 t386], 1⟩, ⟨g395, [.int .i64 a0_0, .int .i64 t385], ng395⟩, ⟨g394, [.int .i64 t385], 1⟩, ⟨b393, [.int .i64 t385, .int .i64 t386], 2⟩, ⟨N392, [.int .i64 t384, .int .i64 t385, .int .i64 t386, .int .i64 t387, .int .i64 t388, .int .i64 t389, .int .i64 t390], 7⟩, ⟨b380, [.int .i64 0, .int .i64 0], 2⟩, ⟨b379, [.int .i64 3, .int .i64 s1_1, .int .i64 s1_2, .int .i64 s1_3, .int .i64 s1_4, .int .i64 s1_5, .int .i64 s1_6], 7⟩, ⟨b378, [.int .i64 a0_0, .int .i64 a0_1], 2⟩] : List Own) := by
        intro g399
        refine hstep [4, 7] _ _ _ (by kernel_rfl) (List.cons_ne_nil _ _) ⟨?_, ?_, trivial⟩
        · show T _ _ _ _ _ _ _ _
          refine t_app1 (cs := [.int .i64 a0_0, .int .i64 t385]) (M := ng395) (F := ([⟨g399, [.int .i64 t387], 1⟩, ⟨b398, [.int .i64 t387, .int .i64 t388], 2⟩, ⟨g397, [.int .i64 a0_1, .int .i64 t386], ng397⟩, ⟨g396, [.int .i64 t386], 1⟩, ⟨g394, [.int .i64 t385], 1⟩, ⟨b393, [.int .i64 t385, .int .i64 t386], 2⟩, ⟨N392, [.int .i64 t384, .int .i64 t385, .int .i64 t386, .int .i64 t387, .int .i64 t388, .int .i64 t389, .int .i64 t390], 7⟩, ⟨b380, [.int .i64 0, .int .i64 0], 2⟩, ⟨b379, [.int .i64 3, .int .i64 s1_1, .int .i64 s1_2, .int .i64 s1_3, .int .i64 s1_4, .int .i64 s1_5, .int .i64 s1_6], 7⟩, ⟨b378, [.int .i64 a0_0, .int .i64 a0_1], 2⟩] : List Own)) (news := [.int .i64 t387]) rfl rfl rfl rfl (sel_perm (is := [4]) (by kernel_rfl)) (.at 0 rfl rfl) (by kernel_rfl) rfl rfl (by decide) (by decide) rfl fun g400 ng400 => ?_
          refine t_keep [2, 3, 8, 9, 10, 20, 21, 22, 30, 31, 32] (σ' := [(2, .int .i64 i2), (3, .int .i64 n3), (8, .pointer (some ⟨b380, 0, none⟩)), (9, .slice (some ⟨g395, 0, none⟩) 2 (ng395 / 1)), (10, .slice (some ⟨g397, 0, none⟩) 2 (ng397 / 1)), (20, .slice (some ⟨N392, 1, none⟩) 3 3), (21, .int .i64 3), (22, .int .i64 1), (30, .slice (some ⟨g400, 0, none⟩) 3 (ng400 / 1)), (31, .slice (some ⟨g397, 0, none⟩) 2 (ng397 / 1)), (32, .pointer (some ⟨b398, 1, none⟩))]) (by kernel_rfl) ?_
          refine t_end ?_
          exact ⟨hg_7f g400 ng400 g399, rfl⟩
        · show T _ _ _ _ _ _ _ _
          refine t_v (.ld1 rfl rfl rfl (.at 1 rfl rfl)) ?_
          refine t_keep [2, 3, 8, 9, 10, 20, 21, 22, 26, 29, 31, 33] (σ' := [(2, .int .i64 i2), (3, .int .i64 n3), (8, .pointer (some ⟨b380, 0, none⟩)), (9, .slice (some ⟨g395, 0, none⟩) 2 (ng395 / 1)), (10, .slice (some ⟨g397, 0, none⟩) 2 (ng397 / 1)), (20, .slice (some ⟨N392, 1, none⟩) 3 3), (21, .int .i64 3), (22, .int .i64 1), (26, .slice (some ⟨g395, 0, none⟩) 2 (ng395 / 1)), (29, .slice (some ⟨g399, 0, none⟩) 1 1), (31, .slice (some ⟨g397, 0, none⟩) 2 (ng397 / 1)), (33, .int .i64 t388)]) (by kernel_rfl) ?_
          refine t_end ?_
          exact ⟨hg_ef g399, rfl⟩
      have hg_e3 : G [true, true, false, false, false, true, true, true, false, false, false, false] [(2, .int .i64 i2), (3, .int .i64 n3), (8, .pointer (some ⟨b380, 0, none⟩)), (9, .slice (some ⟨g395, 0, none⟩) 2 (ng395 / 1)), (10, .slice (some ⟨g397, 0, none⟩) 2 (ng397 / 1)), (20, .slice (some ⟨N392, 1, none⟩) 3 3), (21, .int .i64 3), (22, .int .i64 1), (26, .slice (some ⟨g395, 0, none⟩) 2 (ng395 / 1)), (27, .pointer (some ⟨b398, 0, none⟩)), (31, .slice (some ⟨g397, 0, none⟩) 2 (ng397 / 1)), (33, .int .i64 t388)] ([⟨b398, [.int .i64 t387, .int .i64 t388], 2⟩, ⟨g397, [.int .i64 a0_1, .int .i64 t386], ng397⟩, ⟨g396, [.int .i64 t386], 1⟩, ⟨g395, [.int .i64 a0_0, .int .i64 t385], ng395⟩, ⟨g394, [.int .i64 t385], 1⟩, ⟨b393, [.int .i64 t385, .int .i64 t386], 2⟩, ⟨N392, [.int .i64 t384, .int .i64 t385, .int .i64 t386, .int .i64 t387, .int .i64 t388, .int .i64 t389, .int .i64 t390], 7⟩, ⟨b380, [.int .i64 0, .int .i64 0], 2⟩, ⟨b379, [.int .i64 3, .int .i64 s1_1, .int .i64 s1_2, .int .i64 s1_3, .int .i64 s1_4, .int .i64 s1_5, .int .i64 s1_6], 7⟩, ⟨b378, [.int .i64 a0_0, .int .i64 a0_1], 2⟩] : List Own) := by
        refine hstep [2, 8] _ _ _ (by kernel_rfl) (List.cons_ne_nil _ _) ⟨?_, ?_, trivial⟩
        · show T _ _ _ _ _ _ _ _
          refine t_v (.ld1 rfl rfl rfl (.at 0 rfl rfl)) ?_
          refine t_keep [2, 3, 8, 9, 10, 20, 21, 22, 26, 28, 31, 33] (σ' := [(2, .int .i64 i2), (3, .int .i64 n3), (8, .pointer (some ⟨b380, 0, none⟩)), (9, .slice (some ⟨g395, 0, none⟩) 2 (ng395 / 1)), (10, .slice (some ⟨g397, 0, none⟩) 2 (ng397 / 1)), (20, .slice (some ⟨N392, 1, none⟩) 3 3), (21, .int .i64 3), (22, .int .i64 1), (26, .slice (some ⟨g395, 0, none⟩) 2 (ng395 / 1)), (28, .int .i64 t387), (31, .slice (some ⟨g397, 0, none⟩) 2 (ng397 / 1)), (33, .int .i64 t388)]) (by kernel_rfl) ?_
          refine t_end ?_
          exact ⟨hg_e7, rfl⟩
        · show T _ _ _ _ _ _ _ _
          refine t_a (.bsl rfl rfl rfl rfl) fun g401 fg401 sg401 => ?_
          refine t_keep [2, 3, 8, 9, 10, 20, 21, 22, 26, 27, 31, 34] (σ' := [(2, .int .i64 i2), (3, .int .i64 n3), (8, .pointer (some ⟨b380, 0, none⟩)), (9, .slice (some ⟨g395, 0, none⟩) 2 (ng395 / 1)), (10, .slice (some ⟨g397, 0, none⟩) 2 (ng397 / 1)), (20, .slice (some ⟨N392, 1, none⟩) 3 3), (21, .int .i64 3), (22, .int .i64 1), (26, .slice (some ⟨g395, 0, none⟩) 2 (ng395 / 1)), (27, .pointer (some ⟨b398, 0, none⟩)), (31, .slice (some ⟨g397, 0, none⟩) 2 (ng397 / 1)), (34, .slice (some ⟨g401, 0, none⟩) 1 1)]) (by kernel_rfl) ?_
          refine t_end ?_
          exact ⟨hg_1e3 g401, rfl⟩
      have hg_67 : G [true, true, true, false, false, true, true, false, false, false, false, false] [(2, .int .i64 i2), (3, .int .i64 n3), (8, .pointer (some ⟨b380, 0, none⟩)), (9, .slice (some ⟨g395, 0, none⟩) 2 (ng395 / 1)), (10, .slice (some ⟨g397, 0, none⟩) 2 (ng397 / 1)), (20, .slice (some ⟨N392, 1, none⟩) 3 3), (21, .int .i64 3), (22, .int .i64 1), (26, .slice (some ⟨g395, 0, none⟩) 2 (ng395 / 1)), (28, .int .i64 t387), (31, .slice (some ⟨g397, 0, none⟩) 2 (ng397 / 1)), (32, .pointer (some ⟨b398, 1, none⟩))] ([⟨b398, [.int .i64 t387, .int .i64 t388], 2⟩, ⟨g397, [.int .i64 a0_1, .int .i64 t386], ng397⟩, ⟨g396, [.int .i64 t386], 1⟩, ⟨g395, [.int .i64 a0_0, .int .i64 t385], ng395⟩, ⟨g394, [.int .i64 t385], 1⟩, ⟨b393, [.int .i64 t385, .int .i64 t386], 2⟩, ⟨N392, [.int .i64 t384, .int .i64 t385, .int .i64 t386, .int .i64 t387, .int .i64 t388, .int .i64 t389, .int .i64 t390], 7⟩, ⟨b380, [.int .i64 0, .int .i64 0], 2⟩, ⟨b379, [.int .i64 3, .int .i64 s1_1, .int .i64 s1_2, .int .i64 s1_3, .int .i64 s1_4, .int .i64 s1_5, .int .i64 s1_6], 7⟩, ⟨b378, [.int .i64 a0_0, .int .i64 a0_1], 2⟩] : List Own) := by
        refine hstep [3, 7] _ _ _ (by kernel_rfl) (List.cons_ne_nil _ _) ⟨?_, ?_, trivial⟩
        · show T _ _ _ _ _ _ _ _
          refine t_a (.bsl rfl rfl rfl rfl) fun g399 fg399 sg399 => ?_
          refine t_keep [2, 3, 8, 9, 10, 20, 21, 22, 26, 29, 31, 32] (σ' := [(2, .int .i64 i2), (3, .int .i64 n3), (8, .pointer (some ⟨b380, 0, none⟩)), (9, .slice (some ⟨g395, 0, none⟩) 2 (ng395 / 1)), (10, .slice (some ⟨g397, 0, none⟩) 2 (ng397 / 1)), (20, .slice (some ⟨N392, 1, none⟩) 3 3), (21, .int .i64 3), (22, .int .i64 1), (26, .slice (some ⟨g395, 0, none⟩) 2 (ng395 / 1)), (29, .slice (some ⟨g399, 0, none⟩) 1 1), (31, .slice (some ⟨g397, 0, none⟩) 2 (ng397 / 1)), (32, .pointer (some ⟨b398, 1, none⟩))]) (by kernel_rfl) ?_
          refine t_end ?_
          exact ⟨hg_6f g399, rfl⟩
        · show T _ _ _ _ _ _ _ _
          refine t_v (.ld1 rfl rfl rfl (.at 0 rfl rfl)) ?_
          refine t_keep [2, 3, 8, 9, 10, 20, 21, 22, 26, 28, 31, 33] (σ' := [(2, .int .i64 i2), (3, .int .i64 n3), (8, .pointer (some ⟨b380, 0, none⟩)), (9, .slice (some ⟨g395, 0, none⟩) 2 (ng395 / 1)), (10, .slice (some ⟨g397, 0, none⟩) 2 (ng397 / 1)), (20, .slice (some ⟨N392, 1, none⟩) 3 3), (21, .int .i64 3), (22, .int .i64 1), (26, .slice (some ⟨g395, 0, none⟩) 2 (ng395 / 1)), (28, .int .i64 t387), (31, .slice (some ⟨g397, 0, none⟩) 2 (ng397 / 1)), (33, .int .i64 t388)]) (by kernel_rfl) ?_
          refine t_end ?_
          exact ⟨hg_e7, rfl⟩
      have hg_63 : G [true, true, false, false, false, true, true, false, false, false, false, false] [(2, .int .i64 i2), (3, .int .i64 n3), (8, .pointer (some ⟨b380, 0, none⟩)), (9, .slice (some ⟨g395, 0, none⟩) 2 (ng395 / 1)), (10, .slice (some ⟨g397, 0, none⟩) 2 (ng397 / 1)), (20, .slice (some ⟨N392, 1, none⟩) 3 3), (21, .int .i64 3), (22, .int .i64 1), (26, .slice (some ⟨g395, 0, none⟩) 2 (ng395 / 1)), (27, .pointer (some ⟨b398, 0, none⟩)), (31, .slice (some ⟨g397, 0, none⟩) 2 (ng397 / 1)), (32, .pointer (some ⟨b398, 1, none⟩))] ([⟨b398, [.int .i64 t387, .int .i64 t388], 2⟩, ⟨g397, [.int .i64 a0_1, .int .i64 t386], ng397⟩, ⟨g396, [.int .i64 t386], 1⟩, ⟨g395, [.int .i64 a0_0, .int .i64 t385], ng395⟩, ⟨g394, [.int .i64 t385], 1⟩, ⟨b393, [.int .i64 t385, .int .i64 t386], 2⟩, ⟨N392, [.int .i64 t384, .int .i64 t385, .int .i64 t386, .int .i64 t387, .int .i64 t388, .int .i64 t389, .int .i64 t390], 7⟩, ⟨b380, [.int .i64 0, .int .i64 0], 2⟩, ⟨b379, [.int .i64 3, .int .i64 s1_1, .int .i64 s1_2, .int .i64 s1_3, .int .i64 s1_4, .int .i64 s1_5, .int .i64 s1_6], 7⟩, ⟨b378, [.int .i64 a0_0, .int .i64 a0_1], 2⟩] : List Own) := by
        refine hstep [2, 7] _ _ _ (by kernel_rfl) (List.cons_ne_nil _ _) ⟨?_, ?_, trivial⟩
        · show T _ _ _ _ _ _ _ _
          refine t_v (.ld1 rfl rfl rfl (.at 0 rfl rfl)) ?_
          refine t_keep [2, 3, 8, 9, 10, 20, 21, 22, 26, 28, 31, 32] (σ' := [(2, .int .i64 i2), (3, .int .i64 n3), (8, .pointer (some ⟨b380, 0, none⟩)), (9, .slice (some ⟨g395, 0, none⟩) 2 (ng395 / 1)), (10, .slice (some ⟨g397, 0, none⟩) 2 (ng397 / 1)), (20, .slice (some ⟨N392, 1, none⟩) 3 3), (21, .int .i64 3), (22, .int .i64 1), (26, .slice (some ⟨g395, 0, none⟩) 2 (ng395 / 1)), (28, .int .i64 t387), (31, .slice (some ⟨g397, 0, none⟩) 2 (ng397 / 1)), (32, .pointer (some ⟨b398, 1, none⟩))]) (by kernel_rfl) ?_
          refine t_end ?_
          exact ⟨hg_67, rfl⟩
        · show T _ _ _ _ _ _ _ _
          refine t_v (.ld1 rfl rfl rfl (.at 0 rfl rfl)) ?_
          refine t_keep [2, 3, 8, 9, 10, 20, 21, 22, 26, 27, 31, 33] (σ' := [(2, .int .i64 i2), (3, .int .i64 n3), (8, .pointer (some ⟨b380, 0, none⟩)), (9, .slice (some ⟨g395, 0, none⟩) 2 (ng395 / 1)), (10, .slice (some ⟨g397, 0, none⟩) 2 (ng397 / 1)), (20, .slice (some ⟨N392, 1, none⟩) 3 3), (21, .int .i64 3), (22, .int .i64 1), (26, .slice (some ⟨g395, 0, none⟩) 2 (ng395 / 1)), (27, .pointer (some ⟨b398, 0, none⟩)), (31, .slice (some ⟨g397, 0, none⟩) 2 (ng397 / 1)), (33, .int .i64 t388)]) (by kernel_rfl) ?_
          refine t_end ?_
          exact ⟨hg_e3, rfl⟩
      have hg_23 : G [true, true, false, false, false, true, false, false, false, false, false, false] [(2, .int .i64 i2), (3, .int .i64 n3), (8, .pointer (some ⟨b380, 0, none⟩)), (9, .slice (some ⟨g395, 0, none⟩) 2 (ng395 / 1)), (10, .slice (some ⟨g397, 0, none⟩) 2 (ng397 / 1)), (12, .pointer (some ⟨b398, 0, none⟩)), (20, .slice (some ⟨N392, 1, none⟩) 3 3), (21, .int .i64 3), (22, .int .i64 1), (26, .slice (some ⟨g395, 0, none⟩) 2 (ng395 / 1)), (27, .pointer (some ⟨b398, 0, none⟩)), (31, .slice (some ⟨g397, 0, none⟩) 2 (ng397 / 1))] ([⟨b398, [.int .i64 t387, .int .i64 t388], 2⟩, ⟨g397, [.int .i64 a0_1, .int .i64 t386], ng397⟩, ⟨g396, [.int .i64 t386], 1⟩, ⟨g395, [.int .i64 a0_0, .int .i64 t385], ng395⟩, ⟨g394, [.int .i64 t385], 1⟩, ⟨b393, [.int .i64 t385, .int .i64 t386], 2⟩, ⟨N392, [.int .i64 t384, .int .i64 t385, .int .i64 t386, .int .i64 t387, .int .i64 t388, .int .i64 t389, .int .i64 t390], 7⟩, ⟨b380, [.int .i64 0, .int .i64 0], 2⟩, ⟨b379, [.int .i64 3, .int .i64 s1_1, .int .i64 s1_2, .int .i64 s1_3, .int .i64 s1_4, .int .i64 s1_5, .int .i64 s1_6], 7⟩, ⟨b378, [.int .i64 a0_0, .int .i64 a0_1], 2⟩] : List Own) := by
        exact hqf 6 [2, 3, 8, 9, 10, 20, 21, 22, 26, 27, 31, 32] _ _ _ [(2, .int .i64 i2), (3, .int .i64 n3), (8, .pointer (some ⟨b380, 0, none⟩)), (9, .slice (some ⟨g395, 0, none⟩) 2 (ng395 / 1)), (10, .slice (some ⟨g397, 0, none⟩) 2 (ng397 / 1)), (20, .slice (some ⟨N392, 1, none⟩) 3 3), (21, .int .i64 3), (22, .int .i64 1), (26, .slice (some ⟨g395, 0, none⟩) 2 (ng395 / 1)), (27, .pointer (some ⟨b398, 0, none⟩)), (31, .slice (some ⟨g397, 0, none⟩) 2 (ng397 / 1)), (32, .pointer (some ⟨b398, 1, none⟩))] (by kernel_rfl) (by kernel_rfl) hg_63
      have hg_3 : G [true, true, false, false, false, false, false, false, false, false, false, false] [(2, .int .i64 i2), (3, .int .i64 n3), (8, .pointer (some ⟨b380, 0, none⟩)), (9, .slice (some ⟨g395, 0, none⟩) 2 (ng395 / 1)), (10, .slice (some ⟨g397, 0, none⟩) 2 (ng397 / 1)), (12, .pointer (some ⟨b398, 0, none⟩)), (20, .slice (some ⟨N392, 1, none⟩) 3 3), (21, .int .i64 3), (22, .int .i64 1), (26, .slice (some ⟨g395, 0, none⟩) 2 (ng395 / 1)), (27, .pointer (some ⟨b398, 0, none⟩))] ([⟨b398, [.int .i64 t387, .int .i64 t388], 2⟩, ⟨g397, [.int .i64 a0_1, .int .i64 t386], ng397⟩, ⟨g396, [.int .i64 t386], 1⟩, ⟨g395, [.int .i64 a0_0, .int .i64 t385], ng395⟩, ⟨g394, [.int .i64 t385], 1⟩, ⟨b393, [.int .i64 t385, .int .i64 t386], 2⟩, ⟨N392, [.int .i64 t384, .int .i64 t385, .int .i64 t386, .int .i64 t387, .int .i64 t388, .int .i64 t389, .int .i64 t390], 7⟩, ⟨b380, [.int .i64 0, .int .i64 0], 2⟩, ⟨b379, [.int .i64 3, .int .i64 s1_1, .int .i64 s1_2, .int .i64 s1_3, .int .i64 s1_4, .int .i64 s1_5, .int .i64 s1_6], 7⟩, ⟨b378, [.int .i64 a0_0, .int .i64 a0_1], 2⟩] : List Own) := by
        exact hqf 5 [2, 3, 8, 9, 10, 12, 20, 21, 22, 26, 27, 31] _ _ _ [(2, .int .i64 i2), (3, .int .i64 n3), (8, .pointer (some ⟨b380, 0, none⟩)), (9, .slice (some ⟨g395, 0, none⟩) 2 (ng395 / 1)), (10, .slice (some ⟨g397, 0, none⟩) 2 (ng397 / 1)), (12, .pointer (some ⟨b398, 0, none⟩)), (20, .slice (some ⟨N392, 1, none⟩) 3 3), (21, .int .i64 3), (22, .int .i64 1), (26, .slice (some ⟨g395, 0, none⟩) 2 (ng395 / 1)), (27, .pointer (some ⟨b398, 0, none⟩)), (31, .slice (some ⟨g397, 0, none⟩) 2 (ng397 / 1))] (by kernel_rfl) (by kernel_rfl) hg_23
      have hg_1 : G [true, false, false, false, false, false, false, false, false, false, false, false] [(2, .int .i64 i2), (3, .int .i64 n3), (8, .pointer (some ⟨b380, 0, none⟩)), (9, .slice (some ⟨g395, 0, none⟩) 2 (ng395 / 1)), (10, .slice (some ⟨g397, 0, none⟩) 2 (ng397 / 1)), (12, .pointer (some ⟨b398, 0, none⟩)), (20, .slice (some ⟨N392, 1, none⟩) 3 3), (21, .int .i64 3), (22, .int .i64 1), (26, .slice (some ⟨g395, 0, none⟩) 2 (ng395 / 1))] ([⟨b398, [.int .i64 t387, .int .i64 t388], 2⟩, ⟨g397, [.int .i64 a0_1, .int .i64 t386], ng397⟩, ⟨g396, [.int .i64 t386], 1⟩, ⟨g395, [.int .i64 a0_0, .int .i64 t385], ng395⟩, ⟨g394, [.int .i64 t385], 1⟩, ⟨b393, [.int .i64 t385, .int .i64 t386], 2⟩, ⟨N392, [.int .i64 t384, .int .i64 t385, .int .i64 t386, .int .i64 t387, .int .i64 t388, .int .i64 t389, .int .i64 t390], 7⟩, ⟨b380, [.int .i64 0, .int .i64 0], 2⟩, ⟨b379, [.int .i64 3, .int .i64 s1_1, .int .i64 s1_2, .int .i64 s1_3, .int .i64 s1_4, .int .i64 s1_5, .int .i64 s1_6], 7⟩, ⟨b378, [.int .i64 a0_0, .int .i64 a0_1], 2⟩] : List Own) := by
        exact hqf 1 [2, 3, 8, 9, 10, 12, 20, 21, 22, 26, 27] _ _ _ [(2, .int .i64 i2), (3, .int .i64 n3), (8, .pointer (some ⟨b380, 0, none⟩)), (9, .slice (some ⟨g395, 0, none⟩) 2 (ng395 / 1)), (10, .slice (some ⟨g397, 0, none⟩) 2 (ng397 / 1)), (12, .pointer (some ⟨b398, 0, none⟩)), (20, .slice (some ⟨N392, 1, none⟩) 3 3), (21, .int .i64 3), (22, .int .i64 1), (26, .slice (some ⟨g395, 0, none⟩) 2 (ng395 / 1)), (27, .pointer (some ⟨b398, 0, none⟩))] (by kernel_rfl) (by kernel_rfl) hg_3
      have hg_0 : G [false, false, false, false, false, false, false, false, false, false, false, false] [(2, .int .i64 i2), (3, .int .i64 n3), (8, .pointer (some ⟨b380, 0, none⟩)), (9, .slice (some ⟨g395, 0, none⟩) 2 (ng395 / 1)), (10, .slice (some ⟨g397, 0, none⟩) 2 (ng397 / 1)), (12, .pointer (some ⟨b398, 0, none⟩)), (20, .slice (some ⟨N392, 1, none⟩) 3 3), (21, .int .i64 3), (22, .int .i64 1)] ([⟨b398, [.int .i64 t387, .int .i64 t388], 2⟩, ⟨g397, [.int .i64 a0_1, .int .i64 t386], ng397⟩, ⟨g396, [.int .i64 t386], 1⟩, ⟨g395, [.int .i64 a0_0, .int .i64 t385], ng395⟩, ⟨g394, [.int .i64 t385], 1⟩, ⟨b393, [.int .i64 t385, .int .i64 t386], 2⟩, ⟨N392, [.int .i64 t384, .int .i64 t385, .int .i64 t386, .int .i64 t387, .int .i64 t388, .int .i64 t389, .int .i64 t390], 7⟩, ⟨b380, [.int .i64 0, .int .i64 0], 2⟩, ⟨b379, [.int .i64 3, .int .i64 s1_1, .int .i64 s1_2, .int .i64 s1_3, .int .i64 s1_4, .int .i64 s1_5, .int .i64 s1_6], 7⟩, ⟨b378, [.int .i64 a0_0, .int .i64 a0_1], 2⟩] : List Own) := by
        exact hqf 0 [2, 3, 8, 9, 10, 12, 20, 21, 22, 26] _ _ _ [(2, .int .i64 i2), (3, .int .i64 n3), (8, .pointer (some ⟨b380, 0, none⟩)), (9, .slice (some ⟨g395, 0, none⟩) 2 (ng395 / 1)), (10, .slice (some ⟨g397, 0, none⟩) 2 (ng397 / 1)), (12, .pointer (some ⟨b398, 0, none⟩)), (20, .slice (some ⟨N392, 1, none⟩) 3 3), (21, .int .i64 3), (22, .int .i64 1), (26, .slice (some ⟨g395, 0, none⟩) 2 (ng395 / 1))] (by kernel_rfl) (by kernel_rfl) hg_1
      exact hg_0
    have hg_7ff : ∀ (g397 : Nat) (ng397 : Nat) (g396 : Nat) (g395 : Nat) (ng395 : Nat) (g394 : Nat), G [true, true, true, true, true, true, true, true, true, true, true, false] [(2, .int .i64 i2), (3, .int .i64 n3), (8, .pointer (some ⟨b380, 0, none⟩)), (9, .slice (some ⟨g395, 0, none⟩) 2 (ng395 / 1)), (10, .slice (some ⟨g382, 0, none⟩) 1 1), (20, .slice (some ⟨N392, 1, none⟩) 3 3), (21, .int .i64 3), (22, .int .i64 0), (35, .slice (some ⟨g397, 0, none⟩) 2 (ng397 / 1))] ([⟨g397, [.int .i64 a0_1, .int .i64 t386], ng397⟩, ⟨g396, [.int .i64 t386], 1⟩, ⟨g395, [.int .i64 a0_0, .int .i64 t385], ng395⟩, ⟨g394, [.int .i64 t385], 1⟩, ⟨b393, [.int .i64 t385, .int .i64 t386], 2⟩, ⟨N392, [.int .i64 t384, .int .i64 t385, .int .i64 t386, .int .i64 t387, .int .i64 t388, .int .i64 t389, .int .i64 t390], 7⟩, ⟨b380, [.int .i64 0, .int .i64 0], 2⟩, ⟨b379, [.int .i64 3, .int .i64 s1_1, .int .i64 s1_2, .int .i64 s1_3, .int .i64 s1_4, .int .i64 s1_5, .int .i64 s1_6], 7⟩, ⟨b378, [.int .i64 a0_0, .int .i64 a0_1], 2⟩] : List Own) := by
      intro g397 ng397 g396 g395 ng395 g394
      exact hqf 11 [2, 3, 8, 9, 10, 20, 21, 22] _ _ _ [(2, .int .i64 i2), (3, .int .i64 n3), (8, .pointer (some ⟨b380, 0, none⟩)), (9, .slice (some ⟨g395, 0, none⟩) 2 (ng395 / 1)), (10, .slice (some ⟨g397, 0, none⟩) 2 (ng397 / 1)), (20, .slice (some ⟨N392, 1, none⟩) 3 3), (21, .int .i64 3), (22, .int .i64 0)] (by kernel_rfl) (by kernel_rfl) (hg_fff g397 ng397 g396 g395 ng395 g394)
    have hg_3ff : ∀ (g397 : Nat) (ng397 : Nat) (g396 : Nat) (g395 : Nat) (ng395 : Nat) (g394 : Nat), G [true, true, true, true, true, true, true, true, true, true, false, false] [(2, .int .i64 i2), (3, .int .i64 n3), (8, .pointer (some ⟨b380, 0, none⟩)), (9, .slice (some ⟨g381, 0, none⟩) 1 1), (10, .slice (some ⟨g382, 0, none⟩) 1 1), (20, .slice (some ⟨N392, 1, none⟩) 3 3), (21, .int .i64 3), (22, .int .i64 0), (30, .slice (some ⟨g395, 0, none⟩) 2 (ng395 / 1)), (35, .slice (some ⟨g397, 0, none⟩) 2 (ng397 / 1))] ([⟨g397, [.int .i64 a0_1, .int .i64 t386], ng397⟩, ⟨g396, [.int .i64 t386], 1⟩, ⟨g395, [.int .i64 a0_0, .int .i64 t385], ng395⟩, ⟨g394, [.int .i64 t385], 1⟩, ⟨b393, [.int .i64 t385, .int .i64 t386], 2⟩, ⟨N392, [.int .i64 t384, .int .i64 t385, .int .i64 t386, .int .i64 t387, .int .i64 t388, .int .i64 t389, .int .i64 t390], 7⟩, ⟨b380, [.int .i64 0, .int .i64 0], 2⟩, ⟨b379, [.int .i64 3, .int .i64 s1_1, .int .i64 s1_2, .int .i64 s1_3, .int .i64 s1_4, .int .i64 s1_5, .int .i64 s1_6], 7⟩, ⟨b378, [.int .i64 a0_0, .int .i64 a0_1], 2⟩] : List Own) := by
      intro g397 ng397 g396 g395 ng395 g394
      exact hqf 10 [2, 3, 8, 9, 10, 20, 21, 22, 35] _ _ _ [(2, .int .i64 i2), (3, .int .i64 n3), (8, .pointer (some ⟨b380, 0, none⟩)), (9, .slice (some ⟨g395, 0, none⟩) 2 (ng395 / 1)), (10, .slice (some ⟨g382, 0, none⟩) 1 1), (20, .slice (some ⟨N392, 1, none⟩) 3 3), (21, .int .i64 3), (22, .int .i64 0), (35, .slice (some ⟨g397, 0, none⟩) 2 (ng397 / 1))] (by kernel_rfl) (by kernel_rfl) (hg_7ff g397 ng397 g396 g395 ng395 g394)
    have hg_1ff : ∀ (g396 : Nat) (g395 : Nat) (ng395 : Nat) (g394 : Nat), G [true, true, true, true, true, true, true, true, true, false, false, false] [(2, .int .i64 i2), (3, .int .i64 n3), (8, .pointer (some ⟨b380, 0, none⟩)), (9, .slice (some ⟨g381, 0, none⟩) 1 1), (10, .slice (some ⟨g382, 0, none⟩) 1 1), (20, .slice (some ⟨N392, 1, none⟩) 3 3), (21, .int .i64 3), (22, .int .i64 0), (30, .slice (some ⟨g395, 0, none⟩) 2 (ng395 / 1)), (31, .slice (some ⟨g382, 0, none⟩) 1 1), (34, .slice (some ⟨g396, 0, none⟩) 1 1)] ([⟨g396, [.int .i64 t386], 1⟩, ⟨g395, [.int .i64 a0_0, .int .i64 t385], ng395⟩, ⟨g394, [.int .i64 t385], 1⟩, ⟨b393, [.int .i64 t385, .int .i64 t386], 2⟩, ⟨N392, [.int .i64 t384, .int .i64 t385, .int .i64 t386, .int .i64 t387, .int .i64 t388, .int .i64 t389, .int .i64 t390], 7⟩, ⟨g382, [.int .i64 a0_1], 1⟩, ⟨b380, [.int .i64 0, .int .i64 0], 2⟩, ⟨b379, [.int .i64 3, .int .i64 s1_1, .int .i64 s1_2, .int .i64 s1_3, .int .i64 s1_4, .int .i64 s1_5, .int .i64 s1_6], 7⟩, ⟨b378, [.int .i64 a0_0, .int .i64 a0_1], 2⟩] : List Own) := by
      intro g396 g395 ng395 g394
      refine hstep [9] _ _ _ (by kernel_rfl) (List.cons_ne_nil _ _) ⟨?_, trivial⟩
      · show T _ _ _ _ _ _ _ _
        refine t_app1 (cs := [.int .i64 a0_1]) (M := 1) (F := ([⟨g396, [.int .i64 t386], 1⟩, ⟨g395, [.int .i64 a0_0, .int .i64 t385], ng395⟩, ⟨g394, [.int .i64 t385], 1⟩, ⟨b393, [.int .i64 t385, .int .i64 t386], 2⟩, ⟨N392, [.int .i64 t384, .int .i64 t385, .int .i64 t386, .int .i64 t387, .int .i64 t388, .int .i64 t389, .int .i64 t390], 7⟩, ⟨b380, [.int .i64 0, .int .i64 0], 2⟩, ⟨b379, [.int .i64 3, .int .i64 s1_1, .int .i64 s1_2, .int .i64 s1_3, .int .i64 s1_4, .int .i64 s1_5, .int .i64 s1_6], 7⟩, ⟨b378, [.int .i64 a0_0, .int .i64 a0_1], 2⟩] : List Own)) (news := [.int .i64 t386]) rfl rfl rfl rfl (sel_perm (is := [5]) (by kernel_rfl)) (.at 0 rfl rfl) (by kernel_rfl) rfl rfl (by decide) (by decide) rfl fun g397 ng397 => ?_
        refine t_keep [2, 3, 8, 9, 10, 20, 21, 22, 30, 35] (σ' := [(2, .int .i64 i2), (3, .int .i64 n3), (8, .pointer (some ⟨b380, 0, none⟩)), (9, .slice (some ⟨g381, 0, none⟩) 1 1), (10, .slice (some ⟨g382, 0, none⟩) 1 1), (20, .slice (some ⟨N392, 1, none⟩) 3 3), (21, .int .i64 3), (22, .int .i64 0), (30, .slice (some ⟨g395, 0, none⟩) 2 (ng395 / 1)), (35, .slice (some ⟨g397, 0, none⟩) 2 (ng397 / 1))]) (by kernel_rfl) ?_
        refine t_end ?_
        exact ⟨hg_3ff g397 ng397 g396 g395 ng395 g394, rfl⟩
    have hg_ff : ∀ (g395 : Nat) (ng395 : Nat) (g394 : Nat), G [true, true, true, true, true, true, true, true, false, false, false, false] [(2, .int .i64 i2), (3, .int .i64 n3), (8, .pointer (some ⟨b380, 0, none⟩)), (9, .slice (some ⟨g381, 0, none⟩) 1 1), (10, .slice (some ⟨g382, 0, none⟩) 1 1), (20, .slice (some ⟨N392, 1, none⟩) 3 3), (21, .int .i64 3), (22, .int .i64 0), (30, .slice (some ⟨g395, 0, none⟩) 2 (ng395 / 1)), (31, .slice (some ⟨g382, 0, none⟩) 1 1), (33, .int .i64 t386)] ([⟨g395, [.int .i64 a0_0, .int .i64 t385], ng395⟩, ⟨g394, [.int .i64 t385], 1⟩, ⟨b393, [.int .i64 t385, .int .i64 t386], 2⟩, ⟨N392, [.int .i64 t384, .int .i64 t385, .int .i64 t386, .int .i64 t387, .int .i64 t388, .int .i64 t389, .int .i64 t390], 7⟩, ⟨g382, [.int .i64 a0_1], 1⟩, ⟨b380, [.int .i64 0, .int .i64 0], 2⟩, ⟨b379, [.int .i64 3, .int .i64 s1_1, .int .i64 s1_2, .int .i64 s1_3, .int .i64 s1_4, .int .i64 s1_5, .int .i64 s1_6], 7⟩, ⟨b378, [.int .i64 a0_0, .int .i64 a0_1], 2⟩] : List Own) := by
      intro g395 ng395 g394
      refine hstep [8] _ _ _ (by kernel_rfl) (List.cons_ne_nil _ _) ⟨?_, trivial⟩
      · show T _ _ _ _ _ _ _ _
        refine t_a (.bsl rfl rfl rfl rfl) fun g396 fg396 sg396 => ?_
        refine t_keep [2, 3, 8, 9, 10, 20, 21, 22, 30, 31, 34] (σ' := [(2, .int .i64 i2), (3, .int .i64 n3), (8, .pointer (some ⟨b380, 0, none⟩)), (9, .slice (some ⟨g381, 0, none⟩) 1 1), (10, .slice (some ⟨g382, 0, none⟩) 1 1), (20, .slice (some ⟨N392, 1, none⟩) 3 3), (21, .int .i64 3), (22, .int .i64 0), (30, .slice (some ⟨g395, 0, none⟩) 2 (ng395 / 1)), (31, .slice (some ⟨g382, 0, none⟩) 1 1), (34, .slice (some ⟨g396, 0, none⟩) 1 1)]) (by kernel_rfl) ?_
        refine t_end ?_
        exact ⟨hg_1ff g396 g395 ng395 g394, rfl⟩
    have hg_1ef : ∀ (g396 : Nat) (g394 : Nat), G [true, true, true, true, false, true, true, true, true, false, false, false] [(2, .int .i64 i2), (3, .int .i64 n3), (8, .pointer (some ⟨b380, 0, none⟩)), (9, .slice (some ⟨g381, 0, none⟩) 1 1), (10, .slice (some ⟨g382, 0, none⟩) 1 1), (20, .slice (some ⟨N392, 1, none⟩) 3 3), (21, .int .i64 3), (22, .int .i64 0), (26, .slice (some ⟨g381, 0, none⟩) 1 1), (29, .slice (some ⟨g394, 0, none⟩) 1 1), (31, .slice (some ⟨g382, 0, none⟩) 1 1), (34, .slice (some ⟨g396, 0, none⟩) 1 1)] ([⟨g396, [.int .i64 t386], 1⟩, ⟨g394, [.int .i64 t385], 1⟩, ⟨b393, [.int .i64 t385, .int .i64 t386], 2⟩, ⟨N392, [.int .i64 t384, .int .i64 t385, .int .i64 t386, .int .i64 t387, .int .i64 t388, .int .i64 t389, .int .i64 t390], 7⟩, ⟨g382, [.int .i64 a0_1], 1⟩, ⟨g381, [.int .i64 a0_0], 1⟩, ⟨b380, [.int .i64 0, .int .i64 0], 2⟩, ⟨b379, [.int .i64 3, .int .i64 s1_1, .int .i64 s1_2, .int .i64 s1_3, .int .i64 s1_4, .int .i64 s1_5, .int .i64 s1_6], 7⟩, ⟨b378, [.int .i64 a0_0, .int .i64 a0_1], 2⟩] : List Own) := by
      intro g396 g394
      refine hstep [4] _ _ _ (by kernel_rfl) (List.cons_ne_nil _ _) ⟨?_, trivial⟩
      · show T _ _ _ _ _ _ _ _
        refine t_app1 (cs := [.int .i64 a0_0]) (M := 1) (F := ([⟨g396, [.int .i64 t386], 1⟩, ⟨g394, [.int .i64 t385], 1⟩, ⟨b393, [.int .i64 t385, .int .i64 t386], 2⟩, ⟨N392, [.int .i64 t384, .int .i64 t385, .int .i64 t386, .int .i64 t387, .int .i64 t388, .int .i64 t389, .int .i64 t390], 7⟩, ⟨g382, [.int .i64 a0_1], 1⟩, ⟨b380, [.int .i64 0, .int .i64 0], 2⟩, ⟨b379, [.int .i64 3, .int .i64 s1_1, .int .i64 s1_2, .int .i64 s1_3, .int .i64 s1_4, .int .i64 s1_5, .int .i64 s1_6], 7⟩, ⟨b378, [.int .i64 a0_0, .int .i64 a0_1], 2⟩] : List Own)) (news := [.int .i64 t385]) rfl rfl rfl rfl (sel_perm (is := [5]) (by kernel_rfl)) (.at 1 rfl rfl) (by kernel_rfl) rfl rfl (by decide) (by decide) rfl fun g395 ng395 => ?_
        refine t_keep [2, 3, 8, 9, 10, 20, 21, 22, 30, 31, 34] (σ' := [(2, .int .i64 i2), (3, .int .i64 n3), (8, .pointer (some ⟨b380, 0, none⟩)), (9, .slice (some ⟨g381, 0, none⟩) 1 1), (10, .slice (some ⟨g382, 0, none⟩) 1 1), (20, .slice (some ⟨N392, 1, none⟩) 3 3), (21, .int .i64 3), (22, .int .i64 0), (30, .slice (some ⟨g395, 0, none⟩) 2 (ng395 / 1)), (31, .slice (some ⟨g382, 0, none⟩) 1 1), (34, .slice (some ⟨g396, 0, none⟩) 1 1)]) (by kernel_rfl) ?_
        refine t_vs (H' := ([⟨g396, [.int .i64 t386], 1⟩, ⟨g395, [.int .i64 a0_0, .int .i64 t385], ng395⟩, ⟨g394, [.int .i64 t385], 1⟩, ⟨b393, [.int .i64 t385, .int .i64 t386], 2⟩, ⟨N392, [.int .i64 t384, .int .i64 t385, .int .i64 t386, .int .i64 t387, .int .i64 t388, .int .i64 t389, .int .i64 t390], 7⟩, ⟨g382, [.int .i64 a0_1], 1⟩, ⟨b380, [.int .i64 0, .int .i64 0], 2⟩, ⟨b379, [.int .i64 3, .int .i64 s1_1, .int .i64 s1_2, .int .i64 s1_3, .int .i64 s1_4, .int .i64 s1_5, .int .i64 s1_6], 7⟩, ⟨b378, [.int .i64 a0_0, .int .i64 a0_1], 2⟩] : List Own)) (S' := S) (VS.sel [1, 0, 0, 0, 0, 0, 0, 0, 0] (by kernel_rfl)) ?_
        refine t_end ?_
        exact ⟨hg_1ff g396 g395 ng395 g394, rfl⟩
    have hg_1e7 : ∀ (g396 : Nat), G [true, true, true, false, false, true, true, true, true, false, false, false] [(2, .int .i64 i2), (3, .int .i64 n3), (8, .pointer (some ⟨b380, 0, none⟩)), (9, .slice (some ⟨g381, 0, none⟩) 1 1), (10, .slice (some ⟨g382, 0, none⟩) 1 1), (20, .slice (some ⟨N392, 1, none⟩) 3 3), (21, .int .i64 3), (22, .int .i64 0), (26, .slice (some ⟨g381, 0, none⟩) 1 1), (28, .int .i64 t385), (31, .slice (some ⟨g382, 0, none⟩) 1 1), (34, .slice (some ⟨g396, 0, none⟩) 1 1)] ([⟨g396, [.int .i64 t386], 1⟩, ⟨b393, [.int .i64 t385, .int .i64 t386], 2⟩, ⟨N392, [.int .i64 t384, .int .i64 t385, .int .i64 t386, .int .i64 t387, .int .i64 t388, .int .i64 t389, .int .i64 t390], 7⟩, ⟨g382, [.int .i64 a0_1], 1⟩, ⟨g381, [.int .i64 a0_0], 1⟩, ⟨b380, [.int .i64 0, .int .i64 0], 2⟩, ⟨b379, [.int .i64 3, .int .i64 s1_1, .int .i64 s1_2, .int .i64 s1_3, .int .i64 s1_4, .int .i64 s1_5, .int .i64 s1_6], 7⟩, ⟨b378, [.int .i64 a0_0, .int .i64 a0_1], 2⟩] : List Own) := by
      intro g396
      refine hstep [3] _ _ _ (by kernel_rfl) (List.cons_ne_nil _ _) ⟨?_, trivial⟩
      · show T _ _ _ _ _ _ _ _
        refine t_a (.bsl rfl rfl rfl rfl) fun g394 fg394 sg394 => ?_
        refine t_keep [2, 3, 8, 9, 10, 20, 21, 22, 26, 29, 31, 34] (σ' := [(2, .int .i64 i2), (3, .int .i64 n3), (8, .pointer (some ⟨b380, 0, none⟩)), (9, .slice (some ⟨g381, 0, none⟩) 1 1), (10, .slice (some ⟨g382, 0, none⟩) 1 1), (20, .slice (some ⟨N392, 1, none⟩) 3 3), (21, .int .i64 3), (22, .int .i64 0), (26, .slice (some ⟨g381, 0, none⟩) 1 1), (29, .slice (some ⟨g394, 0, none⟩) 1 1), (31, .slice (some ⟨g382, 0, none⟩) 1 1), (34, .slice (some ⟨g396, 0, none⟩) 1 1)]) (by kernel_rfl) ?_
        refine t_vs (H' := ([⟨g396, [.int .i64 t386], 1⟩, ⟨g394, [.int .i64 t385], 1⟩, ⟨b393, [.int .i64 t385, .int .i64 t386], 2⟩, ⟨N392, [.int .i64 t384, .int .i64 t385, .int .i64 t386, .int .i64 t387, .int .i64 t388, .int .i64 t389, .int .i64 t390], 7⟩, ⟨g382, [.int .i64 a0_1], 1⟩, ⟨g381, [.int .i64 a0_0], 1⟩, ⟨b380, [.int .i64 0, .int .i64 0], 2⟩, ⟨b379, [.int .i64 3, .int .i64 s1_1, .int .i64 s1_2, .int .i64 s1_3, .int .i64 s1_4, .int .i64 s1_5, .int .i64 s1_6], 7⟩, ⟨b378, [.int .i64 a0_0, .int .i64 a0_1], 2⟩] : List Own)) (S' := S) (VS.sel [1, 0, 0, 0, 0, 0, 0, 0, 0] (by kernel_rfl)) ?_
        refine t_end ?_
        exact ⟨hg_1ef g396 g394, rfl⟩
    have hg_ef : ∀ (g394 : Nat), G [true, true, true, true, false, true, true, true, false, false, false, false] [(2, .int .i64 i2), (3, .int .i64 n3), (8, .pointer (some ⟨b380, 0, none⟩)), (9, .slice (some ⟨g381, 0, none⟩) 1 1), (10, .slice (some ⟨g382, 0, none⟩) 1 1), (20, .slice (some ⟨N392, 1, none⟩) 3 3), (21, .int .i64 3), (22, .int .i64 0), (26, .slice (some ⟨g381, 0, none⟩) 1 1), (29, .slice (some ⟨g394, 0, none⟩) 1 1), (31, .slice (some ⟨g382, 0, none⟩) 1 1), (33, .int .i64 t386)] ([⟨g394, [.int .i64 t385], 1⟩, ⟨b393, [.int .i64 t385, .int .i64 t386], 2⟩, ⟨N392, [.int .i64 t384, .int .i64 t385, .int .i64 t386, .int .i64 t387, .int .i64 t388, .int .i64 t389, .int .i64 t390], 7⟩, ⟨g382, [.int .i64 a0_1], 1⟩, ⟨g381, [.int .i64 a0_0], 1⟩, ⟨b380, [.int .i64 0, .int .i64 0], 2⟩, ⟨b379, [.int .i64 3, .int .i64 s1_1, .int .i64 s1_2, .int .i64 s1_3, .int .i64 s1_4, .int .i64 s1_5, .int .i64 s1_6], 7⟩, ⟨b378, [.int .i64 a0_0, .int .i64 a0_1], 2⟩] : List Own) := by
      intro g394
      refine hstep [4, 8] _ _ _ (by kernel_rfl) (List.cons_ne_nil _ _) ⟨?_, ?_, trivial⟩
      · show T _ _ _ _ _ _ _ _
        refine t_app1 (cs := [.int .i64 a0_0]) (M := 1) (F := ([⟨g394, [.int .i64 t385], 1⟩, ⟨b393, [.int .i64 t385, .int .i64 t386], 2⟩, ⟨N392, [.int .i64 t384, .int .i64 t385, .int .i64 t386, .int .i64 t387, .int .i64 t388, .int .i64 t389, .int .i64 t390], 7⟩, ⟨g382, [.int .i64 a0_1], 1⟩, ⟨b380, [.int .i64 0, .int .i64 0], 2⟩, ⟨b379, [.int .i64 3, .int .i64 s1_1, .int .i64 s1_2, .int .i64 s1_3, .int .i64 s1_4, .int .i64 s1_5, .int .i64 s1_6], 7⟩, ⟨b378, [.int .i64 a0_0, .int .i64 a0_1], 2⟩] : List Own)) (news := [.int .i64 t385]) rfl rfl rfl rfl (sel_perm (is := [4]) (by kernel_rfl)) (.at 0 rfl rfl) (by kernel_rfl) rfl rfl (by decide) (by decide) rfl fun g395 ng395 => ?_
        refine t_keep [2, 3, 8, 9, 10, 20, 21, 22, 30, 31, 33] (σ' := [(2, .int .i64 i2), (3, .int .i64 n3), (8, .pointer (some ⟨b380, 0, none⟩)), (9, .slice (some ⟨g381, 0, none⟩) 1 1), (10, .slice (some ⟨g382, 0, none⟩) 1 1), (20, .slice (some ⟨N392, 1, none⟩) 3 3), (21, .int .i64 3), (22, .int .i64 0), (30, .slice (some ⟨g395, 0, none⟩) 2 (ng395 / 1)), (31, .slice (some ⟨g382, 0, none⟩) 1 1), (33, .int .i64 t386)]) (by kernel_rfl) ?_
        refine t_end ?_
        exact ⟨hg_ff g395 ng395 g394, rfl⟩
      · show T _ _ _ _ _ _ _ _
        refine t_a (.bsl rfl rfl rfl rfl) fun g396 fg396 sg396 => ?_
        refine t_keep [2, 3, 8, 9, 10, 20, 21, 22, 26, 29, 31, 34] (σ' := [(2, .int .i64 i2), (3, .int .i64 n3), (8, .pointer (some ⟨b380, 0, none⟩)), (9, .slice (some ⟨g381, 0, none⟩) 1 1), (10, .slice (some ⟨g382, 0, none⟩) 1 1), (20, .slice (some ⟨N392, 1, none⟩) 3 3), (21, .int .i64 3), (22, .int .i64 0), (26, .slice (some ⟨g381, 0, none⟩) 1 1), (29, .slice (some ⟨g394, 0, none⟩) 1 1), (31, .slice (some ⟨g382, 0, none⟩) 1 1), (34, .slice (some ⟨g396, 0, none⟩) 1 1)]) (by kernel_rfl) ?_
        refine t_end ?_
        exact ⟨hg_1ef g396 g394, rfl⟩
    have hg_7f : ∀ (g395 : Nat) (ng395 : Nat) (g394 : Nat), G [true, true, true, true, true, true, true, false, false, false, false, false] [(2, .int .i64 i2), (3, .int .i64 n3), (8, .pointer (some ⟨b380, 0, none⟩)), (9, .slice (some ⟨g381, 0, none⟩) 1 1), (10, .slice (some ⟨g382, 0, none⟩) 1 1), (20, .slice (some ⟨N392, 1, none⟩) 3 3), (21, .int .i64 3), (22, .int .i64 0), (30, .slice (some ⟨g395, 0, none⟩) 2 (ng395 / 1)), (31, .slice (some ⟨g382, 0, none⟩) 1 1), (32, .pointer (some ⟨b393, 1, none⟩))] ([⟨g395, [.int .i64 a0_0, .int .i64 t385], ng395⟩, ⟨g394, [.int .i64 t385], 1⟩, ⟨b393, [.int .i64 t385, .int .i64 t386], 2⟩, ⟨N392, [.int .i64 t384, .int .i64 t385, .int .i64 t386, .int .i64 t387, .int .i64 t388, .int .i64 t389, .int .i64 t390], 7⟩, ⟨g382, [.int .i64 a0_1], 1⟩, ⟨b380, [.int .i64 0, .int .i64 0], 2⟩, ⟨b379, [.int .i64 3, .int .i64 s1_1, .int .i64 s1_2, .int .i64 s1_3, .int .i64 s1_4, .int .i64 s1_5, .int .i64 s1_6], 7⟩, ⟨b378, [.int .i64 a0_0, .int .i64 a0_1], 2⟩] : List Own) := by
      intro g395 ng395 g394
      refine hstep [7] _ _ _ (by kernel_rfl) (List.cons_ne_nil _ _) ⟨?_, trivial⟩
      · show T _ _ _ _ _ _ _ _
        refine t_v (.ld1 rfl rfl rfl (.at 2 rfl rfl)) ?_
        refine t_keep [2, 3, 8, 9, 10, 20, 21, 22, 30, 31, 33] (σ' := [(2, .int .i64 i2), (3, .int .i64 n3), (8, .pointer (some ⟨b380, 0, none⟩)), (9, .slice (some ⟨g381, 0, none⟩) 1 1), (10, .slice (some ⟨g382, 0, none⟩) 1 1), (20, .slice (some ⟨N392, 1, none⟩) 3 3), (21, .int .i64 3), (22, .int .i64 0), (30, .slice (some ⟨g395, 0, none⟩) 2 (ng395 / 1)), (31, .slice (some ⟨g382, 0, none⟩) 1 1), (33, .int .i64 t386)]) (by kernel_rfl) ?_
        refine t_end ?_
        exact ⟨hg_ff g395 ng395 g394, rfl⟩
    have hg_1e3 : ∀ (g396 : Nat), G [true, true, false, false, false, true, true, true, true, false, false, false] [(2, .int .i64 i2), (3, .int .i64 n3), (8, .pointer (some ⟨b380, 0, none⟩)), (9, .slice (some ⟨g381, 0, none⟩) 1 1), (10, .slice (some ⟨g382, 0, none⟩) 1 1), (20, .slice (some ⟨N392, 1, none⟩) 3 3), (21, .int .i64 3), (22, .int .i64 0), (26, .slice (some ⟨g381, 0, none⟩) 1 1), (27, .pointer (some ⟨b393, 0, none⟩)), (31, .slice (some ⟨g382, 0, none⟩) 1 1), (34, .slice (some ⟨g396, 0, none⟩) 1 1)] ([⟨g396, [.int .i64 t386], 1⟩, ⟨b393, [.int .i64 t385, .int .i64 t386], 2⟩, ⟨N392, [.int .i64 t384, .int .i64 t385, .int .i64 t386, .int .i64 t387, .int .i64 t388, .int .i64 t389, .int .i64 t390], 7⟩, ⟨g382, [.int .i64 a0_1], 1⟩, ⟨g381, [.int .i64 a0_0], 1⟩, ⟨b380, [.int .i64 0, .int .i64 0], 2⟩, ⟨b379, [.int .i64 3, .int .i64 s1_1, .int .i64 s1_2, .int .i64 s1_3, .int .i64 s1_4, .int .i64 s1_5, .int .i64 s1_6], 7⟩, ⟨b378, [.int .i64 a0_0, .int .i64 a0_1], 2⟩] : List Own) := by
      intro g396
      refine hstep [2] _ _ _ (by kernel_rfl) (List.cons_ne_nil _ _) ⟨?_, trivial⟩
      · show T _ _ _ _ _ _ _ _
        refine t_v (.ld1 rfl rfl rfl (.at 1 rfl rfl)) ?_
        refine t_keep [2, 3, 8, 9, 10, 20, 21, 22, 26, 28, 31, 34] (σ' := [(2, .int .i64 i2), (3, .int .i64 n3), (8, .pointer (some ⟨b380, 0, none⟩)), (9, .slice (some ⟨g381, 0, none⟩) 1 1), (10, .slice (some ⟨g382, 0, none⟩) 1 1), (20, .slice (some ⟨N392, 1, none⟩) 3 3), (21, .int .i64 3), (22, .int .i64 0), (26, .slice (some ⟨g381, 0, none⟩) 1 1), (28, .int .i64 t385), (31, .slice (some ⟨g382, 0, none⟩) 1 1), (34, .slice (some ⟨g396, 0, none⟩) 1 1)]) (by kernel_rfl) ?_
        refine t_end ?_
        exact ⟨hg_1e7 g396, rfl⟩
    have hg_e7 : G [true, true, true, false, false, true, true, true, false, false, false, false] [(2, .int .i64 i2), (3, .int .i64 n3), (8, .pointer (some ⟨b380, 0, none⟩)), (9, .slice (some ⟨g381, 0, none⟩) 1 1), (10, .slice (some ⟨g382, 0, none⟩) 1 1), (20, .slice (some ⟨N392, 1, none⟩) 3 3), (21, .int .i64 3), (22, .int .i64 0), (26, .slice (some ⟨g381, 0, none⟩) 1 1), (28, .int .i64 t385), (31, .slice (some ⟨g382, 0, none⟩) 1 1), (33, .int .i64 t386)] ([⟨b393, [.int .i64 t385, .int .i64 t386], 2⟩, ⟨N392, [.int .i64 t384, .int .i64 t385, .int .i64 t386, .int .i64 t387, .int .i64 t388, .int .i64 t389, .int .i64 t390], 7⟩, ⟨g382, [.int .i64 a0_1], 1⟩, ⟨g381, [.int .i64 a0_0], 1⟩, ⟨b380, [.int .i64 0, .int .i64 0], 2⟩, ⟨b379, [.int .i64 3, .int .i64 s1_1, .int .i64 s1_2, .int .i64 s1_3, .int .i64 s1_4, .int .i64 s1_5, .int .i64 s1_6], 7⟩, ⟨b378, [.int .i64 a0_0, .int .i64 a0_1], 2⟩] : List Own) := by
      refine hstep [3, 8] _ _ _ (by kernel_rfl) (List.cons_ne_nil _ _) ⟨?_, ?_, trivial⟩
      · show T _ _ _ _ _ _ _ _
        refine t_a (.bsl rfl rfl rfl rfl) fun g394 fg394 sg394 => ?_
        refine t_keep [2, 3, 8, 9, 10, 20, 21, 22, 26, 29, 31, 33] (σ' := [(2, .int .i64 i2), (3, .int .i64 n3), (8, .pointer (some ⟨b380, 0, none⟩)), (9, .slice (some ⟨g381, 0, none⟩) 1 1), (10, .slice (some ⟨g382, 0, none⟩) 1 1), (20, .slice (some ⟨N392, 1, none⟩) 3 3), (21, .int .i64 3), (22, .int .i64 0), (26, .slice (some ⟨g381, 0, none⟩) 1 1), (29, .slice (some ⟨g394, 0, none⟩) 1 1), (31, .slice (some ⟨g382, 0, none⟩) 1 1), (33, .int .i64 t386)]) (by kernel_rfl) ?_
        refine t_end ?_
        exact ⟨hg_ef g394, rfl⟩
      · show T _ _ _ _ _ _ _ _
        refine t_a (.bsl rfl rfl rfl rfl) fun g396 fg396 sg396 => ?_
        refine t_keep [2, 3, 8, 9, 10, 20, 21, 22, 26, 28, 31, 34] (σ' := [(2, .int .i64 i2), (3, .int .i64 n3), (8, .pointer (some ⟨b380, 0, none⟩)), (9, .slice (some ⟨g381, 0, none⟩) 1 1), (10, .slice (some ⟨g382, 0, none⟩) 1 1), (20, .slice (some ⟨N392, 1, none⟩) 3 3), (21, .int .i64 3), (22, .int .i64 0), (26, .slice (some ⟨g381, 0, none⟩) 1 1), (28, .int .i64 t385), (31, .slice (some ⟨g382, 0, none⟩) 1 1), (34, .slice (some ⟨g396, 0, none⟩) 1 1)]) (by kernel_rfl) ?_
        refine t_end ?_
        exact ⟨hg_1e7 g396, rfl⟩
    have hg_6f : ∀ (g394 : Nat), G [true, true, true, true, false, true, true, false, false, false, false, false] [(2, .int .i64 i2), (3, .int .i64 n3), (8, .pointer (some ⟨b380, 0, none⟩)), (9, .slice (some ⟨g381, 0, none⟩) 1 1), (10, .slice (some ⟨g382, 0, none⟩) 1 1), (20, .slice (some ⟨N392, 1, none⟩) 3 3), (21, .int .i64 3), (22, .int .i64 0), (26, .slice (some ⟨g381, 0, none⟩) 1 1), (29, .slice (some ⟨g394, 0, none⟩) 1 1), (31, .slice (some ⟨g382, 0, none⟩) 1 1), (32, .pointer (some ⟨b393, 1, none⟩))] ([⟨g394, [.int .i64 t385], 1⟩, ⟨b393, [.int .i64 t385, .int .i64 t386], 2⟩, ⟨N392, [.int .i64 t384, .int .i64 t385, .int .i64 t386, .int .i64 t387, .int .i64 t388, .int .i64 t389, .int .i64 t390], 7⟩, ⟨g382, [.int .i64 a0_1], 1⟩, ⟨g381, [.int .i64 a0_0], 1⟩, ⟨b380, [.int .i64 0, .int .i64 0], 2⟩, ⟨b379, [.int .i64 3, .int .i64 s1_1, .int .i64 s1_2, .int .i64 s1_3, .int .i64 s1_4, .int .i64 s1_5, .int .i64 s1_6], 7⟩, ⟨b378, [.int .i64 a0_0, .int .i64 a0_1], 2⟩] : List Own) := by
      intro g394
      refine hstep [4, 7] _ _ _ (by kernel_rfl) (List.cons_ne_nil _ _) ⟨?_, ?_, trivial⟩
      · show T _ _ _ _ _ _ _ _
        refine t_app1 (cs := [.int .i64 a0_0]) (M := 1) (F := ([⟨g394, [.int .i64 t385], 1⟩, ⟨b393, [.int .i64 t385, .int .i64 t386], 2⟩, ⟨N392, [.int .i64 t384, .int .i64 t385, .int .i64 t386, .int .i64 t387, .int .i64 t388, .int .i64 t389, .int .i64 t390], 7⟩, ⟨g382, [.int .i64 a0_1], 1⟩, ⟨b380, [.int .i64 0, .int .i64 0], 2⟩, ⟨b379, [.int .i64 3, .int .i64 s1_1, .int .i64 s1_2, .int .i64 s1_3, .int .i64 s1_4, .int .i64 s1_5, .int .i64 s1_6], 7⟩, ⟨b378, [.int .i64 a0_0, .int .i64 a0_1], 2⟩] : List Own)) (news := [.int .i64 t385]) rfl rfl rfl rfl (sel_perm (is := [4]) (by kernel_rfl)) (.at 0 rfl rfl) (by kernel_rfl) rfl rfl (by decide) (by decide) rfl fun g395 ng395 => ?_
        refine t_keep [2, 3, 8, 9, 10, 20, 21, 22, 30, 31, 32] (σ' := [(2, .int .i64 i2), (3, .int .i64 n3), (8, .pointer (some ⟨b380, 0, none⟩)), (9, .slice (some ⟨g381, 0, none⟩) 1 1), (10, .slice (some ⟨g382, 0, none⟩) 1 1), (20, .slice (some ⟨N392, 1, none⟩) 3 3), (21, .int .i64 3), (22, .int .i64 0), (30, .slice (some ⟨g395, 0, none⟩) 2 (ng395 / 1)), (31, .slice (some ⟨g382, 0, none⟩) 1 1), (32, .pointer (some ⟨b393, 1, none⟩))]) (by kernel_rfl) ?_
        refine t_end ?_
        exact ⟨hg_7f g395 ng395 g394, rfl⟩
      · show T _ _ _ _ _ _ _ _
        refine t_v (.ld1 rfl rfl rfl (.at 1 rfl rfl)) ?_
        refine t_keep [2, 3, 8, 9, 10, 20, 21, 22, 26, 29, 31, 33] (σ' := [(2, .int .i64 i2), (3, .int .i64 n3), (8, .pointer (some ⟨b380, 0, none⟩)), (9, .slice (some ⟨g381, 0, none⟩) 1 1), (10, .slice (some ⟨g382, 0, none⟩) 1 1), (20, .slice (some ⟨N392, 1, none⟩) 3 3), (21, .int .i64 3), (22, .int .i64 0), (26, .slice (some ⟨g381, 0, none⟩) 1 1), (29, .slice (some ⟨g394, 0, none⟩) 1 1), (31, .slice (some ⟨g382, 0, none⟩) 1 1), (33, .int .i64 t386)]) (by kernel_rfl) ?_
        refine t_end ?_
        exact ⟨hg_ef g394, rfl⟩
    have hg_e3 : G [true, true, false, false, false, true, true, true, false, false, false, false] [(2, .int .i64 i2), (3, .int .i64 n3), (8, .pointer (some ⟨b380, 0, none⟩)), (9, .slice (some ⟨g381, 0, none⟩) 1 1), (10, .slice (some ⟨g382, 0, none⟩) 1 1), (20, .slice (some ⟨N392, 1, none⟩) 3 3), (21, .int .i64 3), (22, .int .i64 0), (26, .slice (some ⟨g381, 0, none⟩) 1 1), (27, .pointer (some ⟨b393, 0, none⟩)), (31, .slice (some ⟨g382, 0, none⟩) 1 1), (33, .int .i64 t386)] ([⟨b393, [.int .i64 t385, .int .i64 t386], 2⟩, ⟨N392, [.int .i64 t384, .int .i64 t385, .int .i64 t386, .int .i64 t387, .int .i64 t388, .int .i64 t389, .int .i64 t390], 7⟩, ⟨g382, [.int .i64 a0_1], 1⟩, ⟨g381, [.int .i64 a0_0], 1⟩, ⟨b380, [.int .i64 0, .int .i64 0], 2⟩, ⟨b379, [.int .i64 3, .int .i64 s1_1, .int .i64 s1_2, .int .i64 s1_3, .int .i64 s1_4, .int .i64 s1_5, .int .i64 s1_6], 7⟩, ⟨b378, [.int .i64 a0_0, .int .i64 a0_1], 2⟩] : List Own) := by
      refine hstep [2, 8] _ _ _ (by kernel_rfl) (List.cons_ne_nil _ _) ⟨?_, ?_, trivial⟩
      · show T _ _ _ _ _ _ _ _
        refine t_v (.ld1 rfl rfl rfl (.at 0 rfl rfl)) ?_
        refine t_keep [2, 3, 8, 9, 10, 20, 21, 22, 26, 28, 31, 33] (σ' := [(2, .int .i64 i2), (3, .int .i64 n3), (8, .pointer (some ⟨b380, 0, none⟩)), (9, .slice (some ⟨g381, 0, none⟩) 1 1), (10, .slice (some ⟨g382, 0, none⟩) 1 1), (20, .slice (some ⟨N392, 1, none⟩) 3 3), (21, .int .i64 3), (22, .int .i64 0), (26, .slice (some ⟨g381, 0, none⟩) 1 1), (28, .int .i64 t385), (31, .slice (some ⟨g382, 0, none⟩) 1 1), (33, .int .i64 t386)]) (by kernel_rfl) ?_
        refine t_end ?_
        exact ⟨hg_e7, rfl⟩
      · show T _ _ _ _ _ _ _ _
        refine t_a (.bsl rfl rfl rfl rfl) fun g396 fg396 sg396 => ?_
        refine t_keep [2, 3, 8, 9, 10, 20, 21, 22, 26, 27, 31, 34] (σ' := [(2, .int .i64 i2), (3, .int .i64 n3), (8, .pointer (some ⟨b380, 0, none⟩)), (9, .slice (some ⟨g381, 0, none⟩) 1 1), (10, .slice (some ⟨g382, 0, none⟩) 1 1), (20, .slice (some ⟨N392, 1, none⟩) 3 3), (21, .int .i64 3), (22, .int .i64 0), (26, .slice (some ⟨g381, 0, none⟩) 1 1), (27, .pointer (some ⟨b393, 0, none⟩)), (31, .slice (some ⟨g382, 0, none⟩) 1 1), (34, .slice (some ⟨g396, 0, none⟩) 1 1)]) (by kernel_rfl) ?_
        refine t_end ?_
        exact ⟨hg_1e3 g396, rfl⟩
    have hg_67 : G [true, true, true, false, false, true, true, false, false, false, false, false] [(2, .int .i64 i2), (3, .int .i64 n3), (8, .pointer (some ⟨b380, 0, none⟩)), (9, .slice (some ⟨g381, 0, none⟩) 1 1), (10, .slice (some ⟨g382, 0, none⟩) 1 1), (20, .slice (some ⟨N392, 1, none⟩) 3 3), (21, .int .i64 3), (22, .int .i64 0), (26, .slice (some ⟨g381, 0, none⟩) 1 1), (28, .int .i64 t385), (31, .slice (some ⟨g382, 0, none⟩) 1 1), (32, .pointer (some ⟨b393, 1, none⟩))] ([⟨b393, [.int .i64 t385, .int .i64 t386], 2⟩, ⟨N392, [.int .i64 t384, .int .i64 t385, .int .i64 t386, .int .i64 t387, .int .i64 t388, .int .i64 t389, .int .i64 t390], 7⟩, ⟨g382, [.int .i64 a0_1], 1⟩, ⟨g381, [.int .i64 a0_0], 1⟩, ⟨b380, [.int .i64 0, .int .i64 0], 2⟩, ⟨b379, [.int .i64 3, .int .i64 s1_1, .int .i64 s1_2, .int .i64 s1_3, .int .i64 s1_4, .int .i64 s1_5, .int .i64 s1_6], 7⟩, ⟨b378, [.int .i64 a0_0, .int .i64 a0_1], 2⟩] : List Own) := by
      refine hstep [3, 7] _ _ _ (by kernel_rfl) (List.cons_ne_nil _ _) ⟨?_, ?_, trivial⟩
      · show T _ _ _ _ _ _ _ _
        refine t_a (.bsl rfl rfl rfl rfl) fun g394 fg394 sg394 => ?_
        refine t_keep [2, 3, 8, 9, 10, 20, 21, 22, 26, 29, 31, 32] (σ' := [(2, .int .i64 i2), (3, .int .i64 n3), (8, .pointer (some ⟨b380, 0, none⟩)), (9, .slice (some ⟨g381, 0, none⟩) 1 1), (10, .slice (some ⟨g382, 0, none⟩) 1 1), (20, .slice (some ⟨N392, 1, none⟩) 3 3), (21, .int .i64 3), (22, .int .i64 0), (26, .slice (some ⟨g381, 0, none⟩) 1 1), (29, .slice (some ⟨g394, 0, none⟩) 1 1), (31, .slice (some ⟨g382, 0, none⟩) 1 1), (32, .pointer (some ⟨b393, 1, none⟩))]) (by kernel_rfl) ?_
        refine t_end ?_
        exact ⟨hg_6f g394, rfl⟩
      · show T _ _ _ _ _ _ _ _
        refine t_v (.ld1 rfl rfl rfl (.at 0 rfl rfl)) ?_
        refine t_keep [2, 3, 8, 9, 10, 20, 21, 22, 26, 28, 31, 33] (σ' := [(2, .int .i64 i2), (3, .int .i64 n3), (8, .pointer (some ⟨b380, 0, none⟩)), (9, .slice (some ⟨g381, 0, none⟩) 1 1), (10, .slice (some ⟨g382, 0, none⟩) 1 1), (20, .slice (some ⟨N392, 1, none⟩) 3 3), (21, .int .i64 3), (22, .int .i64 0), (26, .slice (some ⟨g381, 0, none⟩) 1 1), (28, .int .i64 t385), (31, .slice (some ⟨g382, 0, none⟩) 1 1), (33, .int .i64 t386)]) (by kernel_rfl) ?_
        refine t_end ?_
        exact ⟨hg_e7, rfl⟩
    have hg_63 : G [true, true, false, false, false, true, true, false, false, false, false, false] [(2, .int .i64 i2), (3, .int .i64 n3), (8, .pointer (some ⟨b380, 0, none⟩)), (9, .slice (some ⟨g381, 0, none⟩) 1 1), (10, .slice (some ⟨g382, 0, none⟩) 1 1), (20, .slice (some ⟨N392, 1, none⟩) 3 3), (21, .int .i64 3), (22, .int .i64 0), (26, .slice (some ⟨g381, 0, none⟩) 1 1), (27, .pointer (some ⟨b393, 0, none⟩)), (31, .slice (some ⟨g382, 0, none⟩) 1 1), (32, .pointer (some ⟨b393, 1, none⟩))] ([⟨b393, [.int .i64 t385, .int .i64 t386], 2⟩, ⟨N392, [.int .i64 t384, .int .i64 t385, .int .i64 t386, .int .i64 t387, .int .i64 t388, .int .i64 t389, .int .i64 t390], 7⟩, ⟨g382, [.int .i64 a0_1], 1⟩, ⟨g381, [.int .i64 a0_0], 1⟩, ⟨b380, [.int .i64 0, .int .i64 0], 2⟩, ⟨b379, [.int .i64 3, .int .i64 s1_1, .int .i64 s1_2, .int .i64 s1_3, .int .i64 s1_4, .int .i64 s1_5, .int .i64 s1_6], 7⟩, ⟨b378, [.int .i64 a0_0, .int .i64 a0_1], 2⟩] : List Own) := by
      refine hstep [2, 7] _ _ _ (by kernel_rfl) (List.cons_ne_nil _ _) ⟨?_, ?_, trivial⟩
      · show T _ _ _ _ _ _ _ _
        refine t_v (.ld1 rfl rfl rfl (.at 0 rfl rfl)) ?_
        refine t_keep [2, 3, 8, 9, 10, 20, 21, 22, 26, 28, 31, 32] (σ' := [(2, .int .i64 i2), (3, .int .i64 n3), (8, .pointer (some ⟨b380, 0, none⟩)), (9, .slice (some ⟨g381, 0, none⟩) 1 1), (10, .slice (some ⟨g382, 0, none⟩) 1 1), (20, .slice (some ⟨N392, 1, none⟩) 3 3), (21, .int .i64 3), (22, .int .i64 0), (26, .slice (some ⟨g381, 0, none⟩) 1 1), (28, .int .i64 t385), (31, .slice (some ⟨g382, 0, none⟩) 1 1), (32, .pointer (some ⟨b393, 1, none⟩))]) (by kernel_rfl) ?_
        refine t_end ?_
        exact ⟨hg_67, rfl⟩
      · show T _ _ _ _ _ _ _ _
        refine t_v (.ld1 rfl rfl rfl (.at 0 rfl rfl)) ?_
        refine t_keep [2, 3, 8, 9, 10, 20, 21, 22, 26, 27, 31, 33] (σ' := [(2, .int .i64 i2), (3, .int .i64 n3), (8, .pointer (some ⟨b380, 0, none⟩)), (9, .slice (some ⟨g381, 0, none⟩) 1 1), (10, .slice (some ⟨g382, 0, none⟩) 1 1), (20, .slice (some ⟨N392, 1, none⟩) 3 3), (21, .int .i64 3), (22, .int .i64 0), (26, .slice (some ⟨g381, 0, none⟩) 1 1), (27, .pointer (some ⟨b393, 0, none⟩)), (31, .slice (some ⟨g382, 0, none⟩) 1 1), (33, .int .i64 t386)]) (by kernel_rfl) ?_
        refine t_end ?_
        exact ⟨hg_e3, rfl⟩
    have hg_23 : G [true, true, false, false, false, true, false, false, false, false, false, false] [(2, .int .i64 i2), (3, .int .i64 n3), (8, .pointer (some ⟨b380, 0, none⟩)), (9, .slice (some ⟨g381, 0, none⟩) 1 1), (10, .slice (some ⟨g382, 0, none⟩) 1 1), (12, .pointer (some ⟨b393, 0, none⟩)), (20, .slice (some ⟨N392, 1, none⟩) 3 3), (21, .int .i64 3), (22, .int .i64 0), (26, .slice (some ⟨g381, 0, none⟩) 1 1), (27, .pointer (some ⟨b393, 0, none⟩)), (31, .slice (some ⟨g382, 0, none⟩) 1 1)] ([⟨b393, [.int .i64 t385, .int .i64 t386], 2⟩, ⟨N392, [.int .i64 t384, .int .i64 t385, .int .i64 t386, .int .i64 t387, .int .i64 t388, .int .i64 t389, .int .i64 t390], 7⟩, ⟨g382, [.int .i64 a0_1], 1⟩, ⟨g381, [.int .i64 a0_0], 1⟩, ⟨b380, [.int .i64 0, .int .i64 0], 2⟩, ⟨b379, [.int .i64 3, .int .i64 s1_1, .int .i64 s1_2, .int .i64 s1_3, .int .i64 s1_4, .int .i64 s1_5, .int .i64 s1_6], 7⟩, ⟨b378, [.int .i64 a0_0, .int .i64 a0_1], 2⟩] : List Own) := by
      exact hqf 6 [2, 3, 8, 9, 10, 20, 21, 22, 26, 27, 31, 32] _ _ _ [(2, .int .i64 i2), (3, .int .i64 n3), (8, .pointer (some ⟨b380, 0, none⟩)), (9, .slice (some ⟨g381, 0, none⟩) 1 1), (10, .slice (some ⟨g382, 0, none⟩) 1 1), (20, .slice (some ⟨N392, 1, none⟩) 3 3), (21, .int .i64 3), (22, .int .i64 0), (26, .slice (some ⟨g381, 0, none⟩) 1 1), (27, .pointer (some ⟨b393, 0, none⟩)), (31, .slice (some ⟨g382, 0, none⟩) 1 1), (32, .pointer (some ⟨b393, 1, none⟩))] (by kernel_rfl) (by kernel_rfl) hg_63
    have hg_3 : G [true, true, false, false, false, false, false, false, false, false, false, false] [(2, .int .i64 i2), (3, .int .i64 n3), (8, .pointer (some ⟨b380, 0, none⟩)), (9, .slice (some ⟨g381, 0, none⟩) 1 1), (10, .slice (some ⟨g382, 0, none⟩) 1 1), (12, .pointer (some ⟨b393, 0, none⟩)), (20, .slice (some ⟨N392, 1, none⟩) 3 3), (21, .int .i64 3), (22, .int .i64 0), (26, .slice (some ⟨g381, 0, none⟩) 1 1), (27, .pointer (some ⟨b393, 0, none⟩))] ([⟨b393, [.int .i64 t385, .int .i64 t386], 2⟩, ⟨N392, [.int .i64 t384, .int .i64 t385, .int .i64 t386, .int .i64 t387, .int .i64 t388, .int .i64 t389, .int .i64 t390], 7⟩, ⟨g382, [.int .i64 a0_1], 1⟩, ⟨g381, [.int .i64 a0_0], 1⟩, ⟨b380, [.int .i64 0, .int .i64 0], 2⟩, ⟨b379, [.int .i64 3, .int .i64 s1_1, .int .i64 s1_2, .int .i64 s1_3, .int .i64 s1_4, .int .i64 s1_5, .int .i64 s1_6], 7⟩, ⟨b378, [.int .i64 a0_0, .int .i64 a0_1], 2⟩] : List Own) := by
      exact hqf 5 [2, 3, 8, 9, 10, 12, 20, 21, 22, 26, 27, 31] _ _ _ [(2, .int .i64 i2), (3, .int .i64 n3), (8, .pointer (some ⟨b380, 0, none⟩)), (9, .slice (some ⟨g381, 0, none⟩) 1 1), (10, .slice (some ⟨g382, 0, none⟩) 1 1), (12, .pointer (some ⟨b393, 0, none⟩)), (20, .slice (some ⟨N392, 1, none⟩) 3 3), (21, .int .i64 3), (22, .int .i64 0), (26, .slice (some ⟨g381, 0, none⟩) 1 1), (27, .pointer (some ⟨b393, 0, none⟩)), (31, .slice (some ⟨g382, 0, none⟩) 1 1)] (by kernel_rfl) (by kernel_rfl) hg_23
    have hg_1 : G [true, false, false, false, false, false, false, false, false, false, false, false] [(2, .int .i64 i2), (3, .int .i64 n3), (8, .pointer (some ⟨b380, 0, none⟩)), (9, .slice (some ⟨g381, 0, none⟩) 1 1), (10, .slice (some ⟨g382, 0, none⟩) 1 1), (12, .pointer (some ⟨b393, 0, none⟩)), (20, .slice (some ⟨N392, 1, none⟩) 3 3), (21, .int .i64 3), (22, .int .i64 0), (26, .slice (some ⟨g381, 0, none⟩) 1 1)] ([⟨b393, [.int .i64 t385, .int .i64 t386], 2⟩, ⟨N392, [.int .i64 t384, .int .i64 t385, .int .i64 t386, .int .i64 t387, .int .i64 t388, .int .i64 t389, .int .i64 t390], 7⟩, ⟨g382, [.int .i64 a0_1], 1⟩, ⟨g381, [.int .i64 a0_0], 1⟩, ⟨b380, [.int .i64 0, .int .i64 0], 2⟩, ⟨b379, [.int .i64 3, .int .i64 s1_1, .int .i64 s1_2, .int .i64 s1_3, .int .i64 s1_4, .int .i64 s1_5, .int .i64 s1_6], 7⟩, ⟨b378, [.int .i64 a0_0, .int .i64 a0_1], 2⟩] : List Own) := by
      exact hqf 1 [2, 3, 8, 9, 10, 12, 20, 21, 22, 26, 27] _ _ _ [(2, .int .i64 i2), (3, .int .i64 n3), (8, .pointer (some ⟨b380, 0, none⟩)), (9, .slice (some ⟨g381, 0, none⟩) 1 1), (10, .slice (some ⟨g382, 0, none⟩) 1 1), (12, .pointer (some ⟨b393, 0, none⟩)), (20, .slice (some ⟨N392, 1, none⟩) 3 3), (21, .int .i64 3), (22, .int .i64 0), (26, .slice (some ⟨g381, 0, none⟩) 1 1), (27, .pointer (some ⟨b393, 0, none⟩))] (by kernel_rfl) (by kernel_rfl) hg_3
    have hg_0 : G [false, false, false, false, false, false, false, false, false, false, false, false] [(2, .int .i64 i2), (3, .int .i64 n3), (8, .pointer (some ⟨b380, 0, none⟩)), (9, .slice (some ⟨g381, 0, none⟩) 1 1), (10, .slice (some ⟨g382, 0, none⟩) 1 1), (12, .pointer (some ⟨b393, 0, none⟩)), (20, .slice (some ⟨N392, 1, none⟩) 3 3), (21, .int .i64 3), (22, .int .i64 0)] ([⟨b393, [.int .i64 t385, .int .i64 t386], 2⟩, ⟨N392, [.int .i64 t384, .int .i64 t385, .int .i64 t386, .int .i64 t387, .int .i64 t388, .int .i64 t389, .int .i64 t390], 7⟩, ⟨g382, [.int .i64 a0_1], 1⟩, ⟨g381, [.int .i64 a0_0], 1⟩, ⟨b380, [.int .i64 0, .int .i64 0], 2⟩, ⟨b379, [.int .i64 3, .int .i64 s1_1, .int .i64 s1_2, .int .i64 s1_3, .int .i64 s1_4, .int .i64 s1_5, .int .i64 s1_6], 7⟩, ⟨b378, [.int .i64 a0_0, .int .i64 a0_1], 2⟩] : List Own) := by
      exact hqf 0 [2, 3, 8, 9, 10, 12, 20, 21, 22, 26] _ _ _ [(2, .int .i64 i2), (3, .int .i64 n3), (8, .pointer (some ⟨b380, 0, none⟩)), (9, .slice (some ⟨g381, 0, none⟩) 1 1), (10, .slice (some ⟨g382, 0, none⟩) 1 1), (12, .pointer (some ⟨b393, 0, none⟩)), (20, .slice (some ⟨N392, 1, none⟩) 3 3), (21, .int .i64 3), (22, .int .i64 0), (26, .slice (some ⟨g381, 0, none⟩) 1 1)] (by kernel_rfl) (by kernel_rfl) hg_1
    exact hg_0
  have hg_7f : ∀ (g382 : Nat) (g381 : Nat), G [true, true, true, true, true, true, true, false] [(2, .int .i64 i2), (3, .int .i64 n3), (5, .pointer (some ⟨b379, 0, none⟩)), (8, .pointer (some ⟨b380, 0, none⟩)), (9, .slice (some ⟨g381, 0, none⟩) 1 1), (18, .slice (some ⟨g382, 0, none⟩) 1 1)] ([⟨g382, [.int .i64 a0_1], 1⟩, ⟨g381, [.int .i64 a0_0], 1⟩, ⟨b380, [.int .i64 0, .int .i64 0], 2⟩, ⟨b379, [.int .i64 3, .int .i64 s1_1, .int .i64 s1_2, .int .i64 s1_3, .int .i64 s1_4, .int .i64 s1_5, .int .i64 s1_6], 7⟩, ⟨b378, [.int .i64 a0_0, .int .i64 a0_1], 2⟩] : List Own) := by
    intro g382 g381
    exact hqf 7 [2, 3, 5, 8, 9, 10] _ _ _ [(2, .int .i64 i2), (3, .int .i64 n3), (5, .pointer (some ⟨b379, 0, none⟩)), (8, .pointer (some ⟨b380, 0, none⟩)), (9, .slice (some ⟨g381, 0, none⟩) 1 1), (10, .slice (some ⟨g382, 0, none⟩) 1 1)] (by kernel_rfl) (by kernel_rfl) (hg_ff g382 g381)
  have hg_3f : ∀ (g382 : Nat) (g381 : Nat), G [true, true, true, true, true, true, false, false] [(2, .int .i64 i2), (3, .int .i64 n3), (5, .pointer (some ⟨b379, 0, none⟩)), (8, .pointer (some ⟨b380, 0, none⟩)), (15, .slice (some ⟨g381, 0, none⟩) 1 1), (18, .slice (some ⟨g382, 0, none⟩) 1 1)] ([⟨g382, [.int .i64 a0_1], 1⟩, ⟨g381, [.int .i64 a0_0], 1⟩, ⟨b380, [.int .i64 0, .int .i64 0], 2⟩, ⟨b379, [.int .i64 3, .int .i64 s1_1, .int .i64 s1_2, .int .i64 s1_3, .int .i64 s1_4, .int .i64 s1_5, .int .i64 s1_6], 7⟩, ⟨b378, [.int .i64 a0_0, .int .i64 a0_1], 2⟩] : List Own) := by
    intro g382 g381
    exact hqf 6 [2, 3, 5, 8, 9, 18] _ _ _ [(2, .int .i64 i2), (3, .int .i64 n3), (5, .pointer (some ⟨b379, 0, none⟩)), (8, .pointer (some ⟨b380, 0, none⟩)), (9, .slice (some ⟨g381, 0, none⟩) 1 1), (18, .slice (some ⟨g382, 0, none⟩) 1 1)] (by kernel_rfl) (by kernel_rfl) (hg_7f g382 g381)
  have hg_5f : ∀ (g381 : Nat), G [true, true, true, true, true, false, true, false] [(2, .int .i64 i2), (3, .int .i64 n3), (5, .pointer (some ⟨b379, 0, none⟩)), (8, .pointer (some ⟨b380, 0, none⟩)), (9, .slice (some ⟨g381, 0, none⟩) 1 1), (17, .int .i64 a0_1)] ([⟨g381, [.int .i64 a0_0], 1⟩, ⟨b380, [.int .i64 0, .int .i64 0], 2⟩, ⟨b379, [.int .i64 3, .int .i64 s1_1, .int .i64 s1_2, .int .i64 s1_3, .int .i64 s1_4, .int .i64 s1_5, .int .i64 s1_6], 7⟩, ⟨b378, [.int .i64 a0_0, .int .i64 a0_1], 2⟩] : List Own) := by
    intro g381
    refine hstep [5] _ _ _ (by kernel_rfl) (List.cons_ne_nil _ _) ⟨?_, trivial⟩
    · show T _ _ _ _ _ _ _ _
      refine t_a (.bsl rfl rfl rfl rfl) fun g382 fg382 sg382 => ?_
      refine t_keep [2, 3, 5, 8, 9, 18] (σ' := [(2, .int .i64 i2), (3, .int .i64 n3), (5, .pointer (some ⟨b379, 0, none⟩)), (8, .pointer (some ⟨b380, 0, none⟩)), (9, .slice (some ⟨g381, 0, none⟩) 1 1), (18, .slice (some ⟨g382, 0, none⟩) 1 1)]) (by kernel_rfl) ?_
      refine t_end ?_
      exact ⟨hg_7f g382 g381, rfl⟩
  have hg_3b : ∀ (g382 : Nat), G [true, true, false, true, true, true, false, false] [(2, .int .i64 i2), (3, .int .i64 n3), (5, .pointer (some ⟨b379, 0, none⟩)), (8, .pointer (some ⟨b380, 0, none⟩)), (14, .int .i64 a0_0), (18, .slice (some ⟨g382, 0, none⟩) 1 1)] ([⟨g382, [.int .i64 a0_1], 1⟩, ⟨b380, [.int .i64 0, .int .i64 0], 2⟩, ⟨b379, [.int .i64 3, .int .i64 s1_1, .int .i64 s1_2, .int .i64 s1_3, .int .i64 s1_4, .int .i64 s1_5, .int .i64 s1_6], 7⟩, ⟨b378, [.int .i64 a0_0, .int .i64 a0_1], 2⟩] : List Own) := by
    intro g382
    refine hstep [2] _ _ _ (by kernel_rfl) (List.cons_ne_nil _ _) ⟨?_, trivial⟩
    · show T _ _ _ _ _ _ _ _
      refine t_a (.bsl rfl rfl rfl rfl) fun g381 fg381 sg381 => ?_
      refine t_keep [2, 3, 5, 8, 15, 18] (σ' := [(2, .int .i64 i2), (3, .int .i64 n3), (5, .pointer (some ⟨b379, 0, none⟩)), (8, .pointer (some ⟨b380, 0, none⟩)), (15, .slice (some ⟨g381, 0, none⟩) 1 1), (18, .slice (some ⟨g382, 0, none⟩) 1 1)]) (by kernel_rfl) ?_
      refine t_vs (H' := ([⟨g382, [.int .i64 a0_1], 1⟩, ⟨g381, [.int .i64 a0_0], 1⟩, ⟨b380, [.int .i64 0, .int .i64 0], 2⟩, ⟨b379, [.int .i64 3, .int .i64 s1_1, .int .i64 s1_2, .int .i64 s1_3, .int .i64 s1_4, .int .i64 s1_5, .int .i64 s1_6], 7⟩, ⟨b378, [.int .i64 a0_0, .int .i64 a0_1], 2⟩] : List Own)) (S' := S) (VS.sel [1, 0, 0, 0, 0] (by kernel_rfl)) ?_
      refine t_end ?_
      exact ⟨hg_3f g382 g381, rfl⟩
  have hg_1f : ∀ (g381 : Nat), G [true, true, true, true, true, false, false, false] [(2, .int .i64 i2), (3, .int .i64 n3), (5, .pointer (some ⟨b379, 0, none⟩)), (8, .pointer (some ⟨b380, 0, none⟩)), (15, .slice (some ⟨g381, 0, none⟩) 1 1), (17, .int .i64 a0_1)] ([⟨g381, [.int .i64 a0_0], 1⟩, ⟨b380, [.int .i64 0, .int .i64 0], 2⟩, ⟨b379, [.int .i64 3, .int .i64 s1_1, .int .i64 s1_2, .int .i64 s1_3, .int .i64 s1_4, .int .i64 s1_5, .int .i64 s1_6], 7⟩, ⟨b378, [.int .i64 a0_0, .int .i64 a0_1], 2⟩] : List Own) := by
    intro g381
    exact hqf 6 [2, 3, 5, 8, 9, 17] _ _ _ [(2, .int .i64 i2), (3, .int .i64 n3), (5, .pointer (some ⟨b379, 0, none⟩)), (8, .pointer (some ⟨b380, 0, none⟩)), (9, .slice (some ⟨g381, 0, none⟩) 1 1), (17, .int .i64 a0_1)] (by kernel_rfl) (by kernel_rfl) (hg_5f g381)
  have hg_4f : ∀ (g381 : Nat), G [true, true, true, true, false, false, true, false] [(2, .int .i64 i2), (3, .int .i64 n3), (5, .pointer (some ⟨b379, 0, none⟩)), (8, .pointer (some ⟨b380, 0, none⟩)), (9, .slice (some ⟨g381, 0, none⟩) 1 1), (16, .pointer (some ⟨b378, 1, none⟩))] ([⟨g381, [.int .i64 a0_0], 1⟩, ⟨b380, [.int .i64 0, .int .i64 0], 2⟩, ⟨b379, [.int .i64 3, .int .i64 s1_1, .int .i64 s1_2, .int .i64 s1_3, .int .i64 s1_4, .int .i64 s1_5, .int .i64 s1_6], 7⟩, ⟨b378, [.int .i64 a0_0, .int .i64 a0_1], 2⟩] : List Own) := by
    intro g381
    refine hstep [4] _ _ _ (by kernel_rfl) (List.cons_ne_nil _ _) ⟨?_, trivial⟩
    · show T _ _ _ _ _ _ _ _
      refine t_v (.ld1 rfl rfl rfl (.at 3 rfl rfl)) ?_
      refine t_keep [2, 3, 5, 8, 9, 17] (σ' := [(2, .int .i64 i2), (3, .int .i64 n3), (5, .pointer (some ⟨b379, 0, none⟩)), (8, .pointer (some ⟨b380, 0, none⟩)), (9, .slice (some ⟨g381, 0, none⟩) 1 1), (17, .int .i64 a0_1)]) (by kernel_rfl) ?_
      refine t_end ?_
      exact ⟨hg_5f g381, rfl⟩
  have hg_f : ∀ (g381 : Nat), G [true, true, true, true, false, false, false, false] [(2, .int .i64 i2), (3, .int .i64 n3), (5, .pointer (some ⟨b379, 0, none⟩)), (8, .pointer (some ⟨b380, 0, none⟩)), (15, .slice (some ⟨g381, 0, none⟩) 1 1), (16, .pointer (some ⟨b378, 1, none⟩))] ([⟨g381, [.int .i64 a0_0], 1⟩, ⟨b380, [.int .i64 0, .int .i64 0], 2⟩, ⟨b379, [.int .i64 3, .int .i64 s1_1, .int .i64 s1_2, .int .i64 s1_3, .int .i64 s1_4, .int .i64 s1_5, .int .i64 s1_6], 7⟩, ⟨b378, [.int .i64 a0_0, .int .i64 a0_1], 2⟩] : List Own) := by
    intro g381
    exact hqf 6 [2, 3, 5, 8, 9, 16] _ _ _ [(2, .int .i64 i2), (3, .int .i64 n3), (5, .pointer (some ⟨b379, 0, none⟩)), (8, .pointer (some ⟨b380, 0, none⟩)), (9, .slice (some ⟨g381, 0, none⟩) 1 1), (16, .pointer (some ⟨b378, 1, none⟩))] (by kernel_rfl) (by kernel_rfl) (hg_4f g381)
  have hg_1b : G [true, true, false, true, true, false, false, false] [(2, .int .i64 i2), (3, .int .i64 n3), (5, .pointer (some ⟨b379, 0, none⟩)), (8, .pointer (some ⟨b380, 0, none⟩)), (14, .int .i64 a0_0), (17, .int .i64 a0_1)] ([⟨b380, [.int .i64 0, .int .i64 0], 2⟩, ⟨b379, [.int .i64 3, .int .i64 s1_1, .int .i64 s1_2, .int .i64 s1_3, .int .i64 s1_4, .int .i64 s1_5, .int .i64 s1_6], 7⟩, ⟨b378, [.int .i64 a0_0, .int .i64 a0_1], 2⟩] : List Own) := by
    refine hstep [2, 5] _ _ _ (by kernel_rfl) (List.cons_ne_nil _ _) ⟨?_, ?_, trivial⟩
    · show T _ _ _ _ _ _ _ _
      refine t_a (.bsl rfl rfl rfl rfl) fun g381 fg381 sg381 => ?_
      refine t_keep [2, 3, 5, 8, 15, 17] (σ' := [(2, .int .i64 i2), (3, .int .i64 n3), (5, .pointer (some ⟨b379, 0, none⟩)), (8, .pointer (some ⟨b380, 0, none⟩)), (15, .slice (some ⟨g381, 0, none⟩) 1 1), (17, .int .i64 a0_1)]) (by kernel_rfl) ?_
      refine t_end ?_
      exact ⟨hg_1f g381, rfl⟩
    · show T _ _ _ _ _ _ _ _
      refine t_a (.bsl rfl rfl rfl rfl) fun g382 fg382 sg382 => ?_
      refine t_keep [2, 3, 5, 8, 14, 18] (σ' := [(2, .int .i64 i2), (3, .int .i64 n3), (5, .pointer (some ⟨b379, 0, none⟩)), (8, .pointer (some ⟨b380, 0, none⟩)), (14, .int .i64 a0_0), (18, .slice (some ⟨g382, 0, none⟩) 1 1)]) (by kernel_rfl) ?_
      refine t_end ?_
      exact ⟨hg_3b g382, rfl⟩
  have hg_39 : ∀ (g382 : Nat), G [true, false, false, true, true, true, false, false] [(2, .int .i64 i2), (3, .int .i64 n3), (5, .pointer (some ⟨b379, 0, none⟩)), (8, .pointer (some ⟨b380, 0, none⟩)), (13, .pointer (some ⟨b378, 0, none⟩)), (18, .slice (some ⟨g382, 0, none⟩) 1 1)] ([⟨g382, [.int .i64 a0_1], 1⟩, ⟨b380, [.int .i64 0, .int .i64 0], 2⟩, ⟨b379, [.int .i64 3, .int .i64 s1_1, .int .i64 s1_2, .int .i64 s1_3, .int .i64 s1_4, .int .i64 s1_5, .int .i64 s1_6], 7⟩, ⟨b378, [.int .i64 a0_0, .int .i64 a0_1], 2⟩] : List Own) := by
    intro g382
    refine hstep [1] _ _ _ (by kernel_rfl) (List.cons_ne_nil _ _) ⟨?_, trivial⟩
    · show T _ _ _ _ _ _ _ _
      refine t_v (.ld1 rfl rfl rfl (.at 3 rfl rfl)) ?_
      refine t_keep [2, 3, 5, 8, 14, 18] (σ' := [(2, .int .i64 i2), (3, .int .i64 n3), (5, .pointer (some ⟨b379, 0, none⟩)), (8, .pointer (some ⟨b380, 0, none⟩)), (14, .int .i64 a0_0), (18, .slice (some ⟨g382, 0, none⟩) 1 1)]) (by kernel_rfl) ?_
      refine t_end ?_
      exact ⟨hg_3b g382, rfl⟩
  have hg_b : G [true, true, false, true, false, false, false, false] [(2, .int .i64 i2), (3, .int .i64 n3), (5, .pointer (some ⟨b379, 0, none⟩)), (8, .pointer (some ⟨b380, 0, none⟩)), (14, .int .i64 a0_0), (16, .pointer (some ⟨b378, 1, none⟩))] ([⟨b380, [.int .i64 0, .int .i64 0], 2⟩, ⟨b379, [.int .i64 3, .int .i64 s1_1, .int .i64 s1_2, .int .i64 s1_3, .int .i64 s1_4, .int .i64 s1_5, .int .i64 s1_6], 7⟩, ⟨b378, [.int .i64 a0_0, .int .i64 a0_1], 2⟩] : List Own) := by
    refine hstep [2, 4] _ _ _ (by kernel_rfl) (List.cons_ne_nil _ _) ⟨?_, ?_, trivial⟩
    · show T _ _ _ _ _ _ _ _
      refine t_a (.bsl rfl rfl rfl rfl) fun g381 fg381 sg381 => ?_
      refine t_keep [2, 3, 5, 8, 15, 16] (σ' := [(2, .int .i64 i2), (3, .int .i64 n3), (5, .pointer (some ⟨b379, 0, none⟩)), (8, .pointer (some ⟨b380, 0, none⟩)), (15, .slice (some ⟨g381, 0, none⟩) 1 1), (16, .pointer (some ⟨b378, 1, none⟩))]) (by kernel_rfl) ?_
      refine t_end ?_
      exact ⟨hg_f g381, rfl⟩
    · show T _ _ _ _ _ _ _ _
      refine t_v (.ld1 rfl rfl rfl (.at 2 rfl rfl)) ?_
      refine t_keep [2, 3, 5, 8, 14, 17] (σ' := [(2, .int .i64 i2), (3, .int .i64 n3), (5, .pointer (some ⟨b379, 0, none⟩)), (8, .pointer (some ⟨b380, 0, none⟩)), (14, .int .i64 a0_0), (17, .int .i64 a0_1)]) (by kernel_rfl) ?_
      refine t_end ?_
      exact ⟨hg_1b, rfl⟩
  have hg_19 : G [true, false, false, true, true, false, false, false] [(2, .int .i64 i2), (3, .int .i64 n3), (5, .pointer (some ⟨b379, 0, none⟩)), (8, .pointer (some ⟨b380, 0, none⟩)), (13, .pointer (some ⟨b378, 0, none⟩)), (17, .int .i64 a0_1)] ([⟨b380, [.int .i64 0, .int .i64 0], 2⟩, ⟨b379, [.int .i64 3, .int .i64 s1_1, .int .i64 s1_2, .int .i64 s1_3, .int .i64 s1_4, .int .i64 s1_5, .int .i64 s1_6], 7⟩, ⟨b378, [.int .i64 a0_0, .int .i64 a0_1], 2⟩] : List Own) := by
    refine hstep [1, 5] _ _ _ (by kernel_rfl) (List.cons_ne_nil _ _) ⟨?_, ?_, trivial⟩
    · show T _ _ _ _ _ _ _ _
      refine t_v (.ld1 rfl rfl rfl (.at 2 rfl rfl)) ?_
      refine t_keep [2, 3, 5, 8, 14, 17] (σ' := [(2, .int .i64 i2), (3, .int .i64 n3), (5, .pointer (some ⟨b379, 0, none⟩)), (8, .pointer (some ⟨b380, 0, none⟩)), (14, .int .i64 a0_0), (17, .int .i64 a0_1)]) (by kernel_rfl) ?_
      refine t_end ?_
      exact ⟨hg_1b, rfl⟩
    · show T _ _ _ _ _ _ _ _
      refine t_a (.bsl rfl rfl rfl rfl) fun g382 fg382 sg382 => ?_
      refine t_keep [2, 3, 5, 8, 13, 18] (σ' := [(2, .int .i64 i2), (3, .int .i64 n3), (5, .pointer (some ⟨b379, 0, none⟩)), (8, .pointer (some ⟨b380, 0, none⟩)), (13, .pointer (some ⟨b378, 0, none⟩)), (18, .slice (some ⟨g382, 0, none⟩) 1 1)]) (by kernel_rfl) ?_
      refine t_end ?_
      exact ⟨hg_39 g382, rfl⟩
  have hg_9 : G [true, false, false, true, false, false, false, false] [(2, .int .i64 i2), (3, .int .i64 n3), (5, .pointer (some ⟨b379, 0, none⟩)), (8, .pointer (some ⟨b380, 0, none⟩)), (13, .pointer (some ⟨b378, 0, none⟩)), (16, .pointer (some ⟨b378, 1, none⟩))] ([⟨b380, [.int .i64 0, .int .i64 0], 2⟩, ⟨b379, [.int .i64 3, .int .i64 s1_1, .int .i64 s1_2, .int .i64 s1_3, .int .i64 s1_4, .int .i64 s1_5, .int .i64 s1_6], 7⟩, ⟨b378, [.int .i64 a0_0, .int .i64 a0_1], 2⟩] : List Own) := by
    refine hstep [1, 4] _ _ _ (by kernel_rfl) (List.cons_ne_nil _ _) ⟨?_, ?_, trivial⟩
    · show T _ _ _ _ _ _ _ _
      refine t_v (.ld1 rfl rfl rfl (.at 2 rfl rfl)) ?_
      refine t_keep [2, 3, 5, 8, 14, 16] (σ' := [(2, .int .i64 i2), (3, .int .i64 n3), (5, .pointer (some ⟨b379, 0, none⟩)), (8, .pointer (some ⟨b380, 0, none⟩)), (14, .int .i64 a0_0), (16, .pointer (some ⟨b378, 1, none⟩))]) (by kernel_rfl) ?_
      refine t_end ?_
      exact ⟨hg_b, rfl⟩
    · show T _ _ _ _ _ _ _ _
      refine t_v (.ld1 rfl rfl rfl (.at 2 rfl rfl)) ?_
      refine t_keep [2, 3, 5, 8, 13, 17] (σ' := [(2, .int .i64 i2), (3, .int .i64 n3), (5, .pointer (some ⟨b379, 0, none⟩)), (8, .pointer (some ⟨b380, 0, none⟩)), (13, .pointer (some ⟨b378, 0, none⟩)), (17, .int .i64 a0_1)]) (by kernel_rfl) ?_
      refine t_end ?_
      exact ⟨hg_19, rfl⟩
  have hg_1 : G [true, false, false, false, false, false, false, false] [(2, .int .i64 i2), (3, .int .i64 n3), (4, .pointer (some ⟨b378, 0, none⟩)), (5, .pointer (some ⟨b379, 0, none⟩)), (8, .pointer (some ⟨b380, 0, none⟩)), (13, .pointer (some ⟨b378, 0, none⟩))] ([⟨b380, [.int .i64 0, .int .i64 0], 2⟩, ⟨b379, [.int .i64 3, .int .i64 s1_1, .int .i64 s1_2, .int .i64 s1_3, .int .i64 s1_4, .int .i64 s1_5, .int .i64 s1_6], 7⟩, ⟨b378, [.int .i64 a0_0, .int .i64 a0_1], 2⟩] : List Own) := by
    exact hqf 3 [2, 3, 5, 8, 13, 16] _ _ _ [(2, .int .i64 i2), (3, .int .i64 n3), (5, .pointer (some ⟨b379, 0, none⟩)), (8, .pointer (some ⟨b380, 0, none⟩)), (13, .pointer (some ⟨b378, 0, none⟩)), (16, .pointer (some ⟨b378, 1, none⟩))] (by kernel_rfl) (by kernel_rfl) hg_9
  have hg_0 : G [false, false, false, false, false, false, false, false] [(2, .int .i64 i2), (3, .int .i64 n3), (4, .pointer (some ⟨b378, 0, none⟩)), (5, .pointer (some ⟨b379, 0, none⟩)), (8, .pointer (some ⟨b380, 0, none⟩))] ([⟨b380, [.int .i64 0, .int .i64 0], 2⟩, ⟨b379, [.int .i64 3, .int .i64 s1_1, .int .i64 s1_2, .int .i64 s1_3, .int .i64 s1_4, .int .i64 s1_5, .int .i64 s1_6], 7⟩, ⟨b378, [.int .i64 a0_0, .int .i64 a0_1], 2⟩] : List Own) := by
    exact hqf 0 [2, 3, 4, 5, 8, 13] _ _ _ [(2, .int .i64 i2), (3, .int .i64 n3), (4, .pointer (some ⟨b378, 0, none⟩)), (5, .pointer (some ⟨b379, 0, none⟩)), (8, .pointer (some ⟨b380, 0, none⟩)), (13, .pointer (some ⟨b378, 0, none⟩))] (by kernel_rfl) (by kernel_rfl) hg_1
  exact hg_0

def flatten_Path_v2.l1 : Nat → Int → Int → Int → Int → Int → Int → Int → Int → Int → Int → Int → List (Int × Int × Int × Int) → Int → Int → Option (Int × Int × List (Int × Int × Int × Int))
  | 0, _, _, _, _, _, _, _, _, _, _, _, _, _, _ => none
  | k + 1, x288, x289, x294, x295, x296, x297, x298, x299, x300, t311, x314, y316, x317, x318 => if x314 ≤ t311 then (if x294 = 1 then ((flatten_Point_v2.f x288 x289 x295 x296 x297 x298 x299 x300 x314 t311).bind fun (t321, t322) => ((flatten_Path_1_v2.f t321 t322 x317 x318 y316).bind fun (t324, t325, t326) => (flatten_Path_v2.l1 k x288 x289 x294 x295 x296 x297 x298 x299 x300 t311 (wr64 (x314 + 1)) t324 t325 t326))) else (if x294 = 2 then ((flatten_Point_v3.f x288 x289 x295 x296 x297 x298 x299 x300 x314 t311).bind fun (t331, t332) => ((flatten_Path_1_v2.f t331 t332 x317 x318 y316).bind fun (t334, t335, t336) => (flatten_Path_v2.l1 k x288 x289 x294 x295 x296 x297 x298 x299 x300 t311 (wr64 (x314 + 1)) t334 t335 t336))) else (if x294 = 3 then ((flatten_Point_v4.f x288 x289 x295 x296 x297 x298 x299 x300 x314 t311).bind fun (t341, t342) => ((flatten_Path_1_v2.f t341 t342 x317 x318 y316).bind fun (t344, t345, t346) => (flatten_Path_v2.l1 k x288 x289 x294 x295 x296 x297 x298 x299 x300 t311 (wr64 (x314 + 1)) t344 t345 t346))) else (none)))) else (some (x317, x318, y316))
def flatten_Path_v2.l0 : Nat → List (Int × Int × Int × Int × Int × Int × Int) → Int → List (Int × Int × Int × Int) → Int → Int → Option (Int × Int × List (Int × Int × Int × Int))
  | 0, _, _, _, _, _ => none
  | k + 1, p0_2, x285, y287, x288, x289 => if x285 < (p0_2.length : Int) then (((lgt p0_2 x285).bind fun (x294, x295, x296, x297, x298, x299, x300) => ((flatten_Count.f k x288 x289 x294 x295 x296 x297 x298 x299 x300).bind fun t311 => (flatten_Path_v2.l1 k x288 x289 x294 x295 x296 x297 x298 x299 x300 t311 1 y287 x288 x289)) : Option (Int × Int × List (Int × Int × Int × Int))).bind fun (x351, x352, y354) => (flatten_Path_v2.l0 k p0_2 (wr64 (x285 + 1)) y354 x351 x352)) else (some (x288, x289, y287))
def flatten_Path_v2.f (k : Nat) (p0_0 : Int) (p0_1 : Int) (p0_2 : List (Int × Int × Int × Int × Int × Int × Int)) (p0_3 : Bool) (shut1 : Bool) : Option (List (Int × Int × Int × Int)) := (flatten_Path_v2.l0 k p0_2 0 ([] : List (Int × Int × Int × Int)) p0_0 p0_1 : Option (Int × Int × List (Int × Int × Int × Int))).bind fun (x357, x358, y360) => (if shut1 = true then ((flatten_Path_1_v2.f p0_0 p0_1 x357 x358 y360).bind fun (t362, t363, t364) => (some t362)) else (if p0_3 = true then ((flatten_Path_1_v2.f p0_0 p0_1 x357 x358 y360).bind fun (t368, t369, t370) => (some t368)) else (some y360)))
theorem flatten_Path_v2.ok {S : Seal} {k : Nat} {p0_0 : Int} {p0_1 : Int} {p0_2 : List (Int × Int × Int × Int × Int × Int × Int)} {p0_3 : Bool} {shut1 : Bool} {r0_ : List (Int × Int × Int × Int)}{a_p0_2 : Option Addr} {c_p0_2 : Nat} (h_p0_2 : SlE S E_i647 p0_2 a_p0_2) (e : flatten_Path_v2.f k p0_0 p0_1 p0_2 p0_3 shut1 = some r0_) :
    Cal Try.prog 28 [.agg #[.int .i64 p0_0, .int .i64 p0_1, .slice a_p0_2 p0_2.length c_p0_2, .bool p0_3], .bool shut1] [] S fun v H' S' => ∃ (N0_ : Option Nat) (nN0_ : Nat) , v = .slice (ad N0_) r0_.length (nN0_ / 4) ∧ H' = ([⟨N0_, encL E_i644 r0_, nN0_⟩] : List Own) ∧ S' = S := by
  unfold flatten_Path_v2.f at e
  refine cal_of (c := c28) (N := 50) Try.func28 rfl rfl (by kernel_rfl) (rs := [.t 4]) (by kernel_rfl) (Nat.le_of_ble_eq_true rfl) ?_
  unfold c28
  refine w_seq ?_
  refine w_reg fun all => ?_
  refine t_a (.box rfl rfl rfl) fun b279 fb279 sb279 => ?_
  refine t_qz 1 [1, 2] (σ' := [(1, .bool shut1), (2, .pointer (some ⟨b279, 0, none⟩))]) (by kernel_rfl) ?_
  refine t_end ?_
  show W _ _ _ _ _ _ _
  refine w_seq ?_
  refine w_reg fun all => ?_
  refine t_a (.new rfl rfl) fun b280 fb280 sb280 => ?_
  refine t_keep [1, 2, 5] (σ' := [(1, .bool shut1), (2, .pointer (some ⟨b279, 0, none⟩)), (5, .pointer (some ⟨b280, 0, none⟩))]) (by kernel_rfl) ?_
  refine t_end ?_
  show W _ _ _ _ _ _ _
  refine w_seq ?_
  refine w_reg fun all => ?_
  refine t_qz 1 [1, 2, 5, 13] (σ' := [(1, .bool shut1), (2, .pointer (some ⟨b279, 0, none⟩)), (5, .pointer (some ⟨b280, 0, none⟩)), (13, .pointer (some ⟨b279, 0, none⟩))]) (by kernel_rfl) ?_
  refine t_v (.ldn rfl rfl rfl (.at 1 rfl rfl)) ?_
  refine t_a (.new rfl rfl) fun b281 fb281 sb281 => ?_
  refine t_sti 0 (cs := [.int .i64 p0_0, .int .i64 p0_1]) rfl rfl rfl rfl rfl rfl rfl rfl rfl ?_
  refine t_keep [1, 2, 5, 6] (σ' := [(1, .bool shut1), (2, .pointer (some ⟨b279, 0, none⟩)), (5, .pointer (some ⟨b280, 0, none⟩)), (6, .pointer (some ⟨b281, 0, none⟩))]) (by kernel_rfl) ?_
  refine t_end ?_
  show W _ _ _ _ _ _ _
  refine w_seq ?_
  refine w_reg fun all => ?_
  refine t_qz 2 [1, 2, 5, 6, 7] (σ' := [(1, .bool shut1), (2, .pointer (some ⟨b279, 0, none⟩)), (5, .pointer (some ⟨b280, 0, none⟩)), (6, .pointer (some ⟨b281, 0, none⟩)), (7, .func (.func 67) #[] #[.pointer (some ⟨b281, 0, none⟩), .pointer (some ⟨b280, 0, none⟩)])]) (by kernel_rfl) ?_
  refine t_end ?_
  show W _ _ _ _ _ _ _
  obtain ⟨⟨x357, x358, y360⟩, e283, e⟩ := bind_of e
  try dsimp only at e
  refine w_cut [1, 2, 5, 7] (fun σ_ H_ S_ => ∃ (a359 : Option Nat) (na359 : Nat), [(1, .bool shut1), (2, .pointer (some ⟨b279, 0, none⟩)), (5, .pointer (some ⟨b280, 0, none⟩)), (7, .func (.func 67) #[] #[.pointer (some ⟨b281, 0, none⟩), .pointer (some ⟨b280, 0, none⟩)])] = σ_ ∧ ([⟨b281, [.int .i64 x357, .int .i64 x358], 2⟩, ⟨b280, [.slice (ad a359) y360.length (na359 / 4)], 1⟩, ⟨b279, [.int .i64 p0_0, .int .i64 p0_1, .slice a_p0_2 p0_2.length c_p0_2, .bool p0_3], 4⟩, ⟨a359, encL E_i644 y360, na359⟩] : List Own) = H_ ∧ S = S_) ?_ ?_
  · show W _ _ _ _ _ _ _
    refine w_seq ?_
    refine w_reg fun all => ?_
    refine t_qz 1 [1, 2, 5, 6, 7, 16] (σ' := [(1, .bool shut1), (2, .pointer (some ⟨b279, 0, none⟩)), (5, .pointer (some ⟨b280, 0, none⟩)), (6, .pointer (some ⟨b281, 0, none⟩)), (7, .func (.func 67) #[] #[.pointer (some ⟨b281, 0, none⟩), .pointer (some ⟨b280, 0, none⟩)]), (16, .pointer (some ⟨b279, 2, none⟩))]) (by kernel_rfl) ?_
    refine t_v (.ld1 rfl rfl rfl (.at 2 rfl rfl)) ?_
    refine t_qz 2 [1, 2, 5, 6, 7, 17, 18, 19] (σ' := [(1, .bool shut1), (2, .pointer (some ⟨b279, 0, none⟩)), (5, .pointer (some ⟨b280, 0, none⟩)), (6, .pointer (some ⟨b281, 0, none⟩)), (7, .func (.func 67) #[] #[.pointer (some ⟨b281, 0, none⟩), .pointer (some ⟨b280, 0, none⟩)]), (17, .slice a_p0_2 p0_2.length c_p0_2), (18, .int .i64 (p0_2.length : Int)), (19, .int .i64 0)]) (by kernel_rfl) ?_
    refine t_end ?_
    show W _ _ _ _ _ _ _
    refine w_block ?_
    refine w_vs VS.vac ?_
    refine w_kp [1, 2, 5, 6, 7, 17, 18, 19] (σ' := [(1, .bool shut1), (2, .pointer (some ⟨b279, 0, none⟩)), (5, .pointer (some ⟨b280, 0, none⟩)), (6, .pointer (some ⟨b281, 0, none⟩)), (7, .func (.func 67) #[] #[.pointer (some ⟨b281, 0, none⟩), .pointer (some ⟨b280, 0, none⟩)]), (17, .slice a_p0_2 p0_2.length c_p0_2), (18, .int .i64 (p0_2.length : Int)), (19, .int .i64 0)]) (by kernel_rfl) ?_
    refine w_loop (fun n_ σ_ H_ S_ => ∃ (x285 : Int) (y287 : List (Int × Int × Int × Int)) (x288 : Int) (x289 : Int), ∃ (a286 : Option Nat) (na286 : Nat), [(1, .bool shut1), (2, .pointer (some ⟨b279, 0, none⟩)), (5, .pointer (some ⟨b280, 0, none⟩)), (6, .pointer (some ⟨b281, 0, none⟩)), (7, .func (.func 67) #[] #[.pointer (some ⟨b281, 0, none⟩), .pointer (some ⟨b280, 0, none⟩)]), (17, .slice a_p0_2 p0_2.length c_p0_2), (18, .int .i64 (p0_2.length : Int)), (19, .int .i64 x285)] = σ_ ∧ ([⟨a286, encL E_i644 y287, na286⟩, ⟨b281, [.int .i64 x288, .int .i64 x289], 2⟩, ⟨b280, [.slice (ad a286) y287.length (na286 / 4)], 1⟩, ⟨b279, [.int .i64 p0_0, .int .i64 p0_1, .slice a_p0_2 p0_2.length c_p0_2, .bool p0_3], 4⟩] : List Own) = H_ ∧ S = S_ ∧ flatten_Path_v2.l0 n_ p0_2 x285 y287 x288 x289 = some (x357, x358, y360)) _ ⟨0, ([] : List (Int × Int × Int × Int)), p0_0, p0_1, none, 0, rfl, rfl, rfl, e283⟩ ?_
    rintro n356 σ_ H_ S_ ⟨x285, y287, x288, x289, a286, na286, rfl, rfl, rfl, e283⟩
    cases n356 with
    | zero => rw [flatten_Path_v2.l0.eq_1] at e283; cases e283
    | succ k_ =>
      rw [flatten_Path_v2.l0.eq_2] at e283
      refine w_seq ?_
      refine w_reg fun all => ?_
      by_cases c290 : x285 < (p0_2.length : Int)
      · rw [if_pos c290] at e283
        have c290b : (decide (x285 < (p0_2.length : Int))) = true := decide_eq_true c290
        refine t_v (dv_quiet rfl (congrArg (fun t => some (Value.bool t)) c290b)) ?_
        refine t_keep [1, 2, 5, 6, 7, 17, 18, 19, 20] (σ' := [(1, .bool shut1), (2, .pointer (some ⟨b279, 0, none⟩)), (5, .pointer (some ⟨b280, 0, none⟩)), (6, .pointer (some ⟨b281, 0, none⟩)), (7, .func (.func 67) #[] #[.pointer (some ⟨b281, 0, none⟩), .pointer (some ⟨b280, 0, none⟩)]), (17, .slice a_p0_2 p0_2.length c_p0_2), (18, .int .i64 (p0_2.length : Int)), (19, .int .i64 x285), (20, .bool true)]) (by kernel_rfl) ?_
        refine t_end ?_
        show W _ _ _ _ _ _ _
        refine w_seq ?_
        refine w_cond rfl (fun _ => ?_) (fun c_ => by cases c_)
        show W _ _ _ _ _ _ _
        refine w_skip ?_
        show W _ _ _ _ _ _ _
        obtain ⟨⟨x351, x352, y354⟩, e292, e283⟩ := bind_of e283
        try dsimp only at e283
        refine w_cut [1, 2, 5, 6, 7, 17, 18, 19] (fun σ_ H_ S_ => ∃ (a353 : Option Nat) (na353 : Nat), [(1, .bool shut1), (2, .pointer (some ⟨b279, 0, none⟩)), (5, .pointer (some ⟨b280, 0, none⟩)), (6, .pointer (some ⟨b281, 0, none⟩)), (7, .func (.func 67) #[] #[.pointer (some ⟨b281, 0, none⟩), .pointer (some ⟨b280, 0, none⟩)]), (17, .slice a_p0_2 p0_2.length c_p0_2), (18, .int .i64 (p0_2.length : Int)), (19, .int .i64 x285)] = σ_ ∧ ([⟨b281, [.int .i64 x351, .int .i64 x352], 2⟩, ⟨b280, [.slice (ad a353) y354.length (na353 / 4)], 1⟩, ⟨b279, [.int .i64 p0_0, .int .i64 p0_1, .slice a_p0_2 p0_2.length c_p0_2, .bool p0_3], 4⟩, ⟨a353, encL E_i644 y354, na353⟩] : List Own) = H_ ∧ S = S_) ?_ ?_
        · show W _ _ _ _ _ _ _
          refine w_block ?_
          refine w_seq ?_
          refine w_reg fun all => ?_
          obtain ⟨⟨x294, x295, x296, x297, x298, x299, x300⟩, hx301, e292⟩ := bind_of e292
          try dsimp only at e292
          obtain ⟨lb302, lo303, ll304, la305, lS306, lv307, lz308, lu309⟩ := sle_get (E := E_i647) h_p0_2 hx301
          refine t_v (.quiet rfl (ixs_sle rfl rfl la305 lz308 lu309)) ?_
          refine t_v (.ldn (vs := [.int .i64 x294, .int .i64 x295, .int .i64 x296, .int .i64 x297, .int .i64 x298, .int .i64 x299, .int .i64 x300]) rfl rfl rfl (.sealed lS306 (subl_sub lv307 (by kernel_rfl)))) ?_
          refine t_a (.new rfl rfl) fun b310 fb310 sb310 => ?_
          refine t_sti 0 (cs := [.int .i64 x294, .int .i64 x295, .int .i64 x296, .int .i64 x297, .int .i64 x298, .int .i64 x299, .int .i64 x300]) rfl rfl rfl rfl rfl rfl rfl rfl rfl ?_
          refine t_keep [1, 2, 5, 6, 7, 9, 17, 18, 19] (σ' := [(1, .bool shut1), (2, .pointer (some ⟨b279, 0, none⟩)), (5, .pointer (some ⟨b280, 0, none⟩)), (6, .pointer (some ⟨b281, 0, none⟩)), (7, .func (.func 67) #[] #[.pointer (some ⟨b281, 0, none⟩), .pointer (some ⟨b280, 0, none⟩)]), (9, .pointer (some ⟨b310, 0, none⟩)), (17, .slice a_p0_2 p0_2.length c_p0_2), (18, .int .i64 (p0_2.length : Int)), (19, .int .i64 x285)]) (by kernel_rfl) ?_
          refine t_end ?_
          show W _ _ _ _ _ _ _
          refine w_seq ?_
          obtain ⟨t311, h312, e292⟩ := bind_of e292
          refine w_drwE mixed 5 [.v (.agg #[.int .i64 x288, .int .i64 x289]), .v (.agg #[.int .i64 x288, .int .i64 x289]), .v (.agg #[.int .i64 x294, .int .i64 x295, .int .i64 x296, .int .i64 x297, .int .i64 x298, .int .i64 x299, .int .i64 x300]), .v (.int .i64 t311), .a [.int .i64 0, .int .i64 0] ptrTo] (by kernel_rfl) ?_ ?_
          · refine .cons (.ldn rfl rfl rfl (.at 2 rfl rfl)) ?_
            refine .cons (.ldn rfl rfl rfl (.at 2 rfl rfl)) ?_
            refine .cons (.ldn rfl rfl rfl (.at 0 rfl rfl)) ?_
            refine .cons (.call (vs := [.agg #[.int .i64 x288, .int .i64 x289], .agg #[.int .i64 x294, .int .i64 x295, .int .i64 x296, .int .i64 x297, .int .i64 x298, .int .i64 x299, .int .i64 x300]]) rfl rfl (by kernel_rfl) (flatten_Count.ok h312)) ?_
            refine .cons (.new rfl rfl) ?_
            exact .nil
          refine fk_q 4 [1, 2, 5, 6, 7, 9, 17, 18, 19, 23, 26] (σ' := [(1, .bool shut1), (2, .pointer (some ⟨b279, 0, none⟩)), (5, .pointer (some ⟨b280, 0, none⟩)), (6, .pointer (some ⟨b281, 0, none⟩)), (7, .func (.func 67) #[] #[.pointer (some ⟨b281, 0, none⟩), .pointer (some ⟨b280, 0, none⟩)]), (9, .pointer (some ⟨b310, 0, none⟩)), (17, .slice a_p0_2 p0_2.length c_p0_2), (18, .int .i64 (p0_2.length : Int)), (19, .int .i64 x285), (23, .agg #[.int .i64 x288, .int .i64 x289]), (26, .int .i64 t311)]) t_more (by kernel_rfl) ?_
          refine fk_a fun b313 fb313 sb313 => ?_
          refine fk_nil fun all => ?_
          refine t_sti 0 (cs := [.int .i64 x288, .int .i64 x289]) rfl rfl rfl rfl rfl rfl rfl rfl rfl ?_
          refine t_qz 1 [1, 2, 5, 6, 7, 9, 10, 11, 17, 18, 19] (σ' := [(1, .bool shut1), (2, .pointer (some ⟨b279, 0, none⟩)), (5, .pointer (some ⟨b280, 0, none⟩)), (6, .pointer (some ⟨b281, 0, none⟩)), (7, .func (.func 67) #[] #[.pointer (some ⟨b281, 0, none⟩), .pointer (some ⟨b280, 0, none⟩)]), (9, .pointer (some ⟨b310, 0, none⟩)), (10, .pointer (some ⟨b313, 0, none⟩)), (11, .int .i64 t311), (17, .slice a_p0_2 p0_2.length c_p0_2), (18, .int .i64 (p0_2.length : Int)), (19, .int .i64 x285)]) (by kernel_rfl) ?_
          refine t_end ?_
          show W _ _ _ _ _ _ _
          refine w_seq ?_
          refine w_reg fun all => ?_
          refine t_qz 1 [1, 2, 5, 6, 7, 9, 10, 11, 12, 17, 18, 19] (σ' := [(1, .bool shut1), (2, .pointer (some ⟨b279, 0, none⟩)), (5, .pointer (some ⟨b280, 0, none⟩)), (6, .pointer (some ⟨b281, 0, none⟩)), (7, .func (.func 67) #[] #[.pointer (some ⟨b281, 0, none⟩), .pointer (some ⟨b280, 0, none⟩)]), (9, .pointer (some ⟨b310, 0, none⟩)), (10, .pointer (some ⟨b313, 0, none⟩)), (11, .int .i64 t311), (12, .int .i64 1), (17, .slice a_p0_2 p0_2.length c_p0_2), (18, .int .i64 (p0_2.length : Int)), (19, .int .i64 x285)]) (by kernel_rfl) ?_
          refine t_end ?_
          show W _ _ _ _ _ _ _
          refine w_block ?_
          refine w_kp [1, 2, 5, 6, 7, 9, 10, 11, 12, 17, 18, 19] (σ' := [(1, .bool shut1), (2, .pointer (some ⟨b279, 0, none⟩)), (5, .pointer (some ⟨b280, 0, none⟩)), (6, .pointer (some ⟨b281, 0, none⟩)), (7, .func (.func 67) #[] #[.pointer (some ⟨b281, 0, none⟩), .pointer (some ⟨b280, 0, none⟩)]), (9, .pointer (some ⟨b310, 0, none⟩)), (10, .pointer (some ⟨b313, 0, none⟩)), (11, .int .i64 t311), (12, .int .i64 1), (17, .slice a_p0_2 p0_2.length c_p0_2), (18, .int .i64 (p0_2.length : Int)), (19, .int .i64 x285)]) (by kernel_rfl) ?_
          refine w_loop (fun n_ σ_ H_ S_ => ∃ (x314 : Int) (y316 : List (Int × Int × Int × Int)) (x317 : Int) (x318 : Int), ∃ (a315 : Option Nat) (na315 : Nat), [(1, .bool shut1), (2, .pointer (some ⟨b279, 0, none⟩)), (5, .pointer (some ⟨b280, 0, none⟩)), (6, .pointer (some ⟨b281, 0, none⟩)), (7, .func (.func 67) #[] #[.pointer (some ⟨b281, 0, none⟩), .pointer (some ⟨b280, 0, none⟩)]), (9, .pointer (some ⟨b310, 0, none⟩)), (10, .pointer (some ⟨b313, 0, none⟩)), (11, .int .i64 t311), (12, .int .i64 x314), (17, .slice a_p0_2 p0_2.length c_p0_2), (18, .int .i64 (p0_2.length : Int)), (19, .int .i64 x285)] = σ_ ∧ ([⟨b313, [.int .i64 x288, .int .i64 x289], 2⟩, ⟨b310, [.int .i64 x294, .int .i64 x295, .int .i64 x296, .int .i64 x297, .int .i64 x298, .int .i64 x299, .int .i64 x300], 7⟩, ⟨a315, encL E_i644 y316, na315⟩, ⟨b281, [.int .i64 x317, .int .i64 x318], 2⟩, ⟨b280, [.slice (ad a315) y316.length (na315 / 4)], 1⟩, ⟨b279, [.int .i64 p0_0, .int .i64 p0_1, .slice a_p0_2 p0_2.length c_p0_2, .bool p0_3], 4⟩] : List Own) = H_ ∧ S = S_ ∧ flatten_Path_v2.l1 n_ x288 x289 x294 x295 x296 x297 x298 x299 x300 t311 x314 y316 x317 x318 = some (x351, x352, y354)) _ ⟨1, y287, x288, x289, a286, na286, rfl, rfl, rfl, e292⟩ ?_
          rintro n350 σ_ H_ S_ ⟨x314, y316, x317, x318, a315, na315, rfl, rfl, rfl, e292⟩
          cases n350 with
          | zero => rw [flatten_Path_v2.l1.eq_1] at e292; cases e292
          | succ k_ =>
            rw [flatten_Path_v2.l1.eq_2] at e292
            refine w_seq ?_
            refine w_seq ?_
            refine w_reg fun all => ?_
            by_cases c319 : x314 ≤ t311
            · rw [if_pos c319] at e292
              have c319b : (decide (x314 ≤ t311)) = true := decide_eq_true c319
              refine t_qz 2 [1, 2, 5, 6, 7, 9, 10, 11, 12, 17, 18, 19, 27, 28] (σ' := [(1, .bool shut1), (2, .pointer (some ⟨b279, 0, none⟩)), (5, .pointer (some ⟨b280, 0, none⟩)), (6, .pointer (some ⟨b281, 0, none⟩)), (7, .func (.func 67) #[] #[.pointer (some ⟨b281, 0, none⟩), .pointer (some ⟨b280, 0, none⟩)]), (9, .pointer (some ⟨b310, 0, none⟩)), (10, .pointer (some ⟨b313, 0, none⟩)), (11, .int .i64 t311), (12, .int .i64 x314), (17, .slice a_p0_2 p0_2.length c_p0_2), (18, .int .i64 (p0_2.length : Int)), (19, .int .i64 x285), (27, .int .i64 x314), (28, .int .i64 t311)]) (by kernel_rfl) ?_
              refine t_v (dv_quiet rfl (congrArg (fun t => some (Value.bool t)) c319b)) ?_
              refine t_keep [1, 2, 5, 6, 7, 9, 10, 11, 12, 17, 18, 19, 29] (σ' := [(1, .bool shut1), (2, .pointer (some ⟨b279, 0, none⟩)), (5, .pointer (some ⟨b280, 0, none⟩)), (6, .pointer (some ⟨b281, 0, none⟩)), (7, .func (.func 67) #[] #[.pointer (some ⟨b281, 0, none⟩), .pointer (some ⟨b280, 0, none⟩)]), (9, .pointer (some ⟨b310, 0, none⟩)), (10, .pointer (some ⟨b313, 0, none⟩)), (11, .int .i64 t311), (12, .int .i64 x314), (17, .slice a_p0_2 p0_2.length c_p0_2), (18, .int .i64 (p0_2.length : Int)), (19, .int .i64 x285), (29, .bool true)]) (by kernel_rfl) ?_
              refine t_end ?_
              show W _ _ _ _ _ _ _
              refine w_cond rfl (fun _ => ?_) (fun c_ => by cases c_)
              show W _ _ _ _ _ _ _
              refine w_skip ?_
              show W _ _ _ _ _ _ _
              refine w_seq ?_
              refine w_block ?_
              refine w_reg fun all => ?_
              refine t_qz 1 [1, 2, 5, 6, 7, 9, 10, 11, 12, 17, 18, 19, 32] (σ' := [(1, .bool shut1), (2, .pointer (some ⟨b279, 0, none⟩)), (5, .pointer (some ⟨b280, 0, none⟩)), (6, .pointer (some ⟨b281, 0, none⟩)), (7, .func (.func 67) #[] #[.pointer (some ⟨b281, 0, none⟩), .pointer (some ⟨b280, 0, none⟩)]), (9, .pointer (some ⟨b310, 0, none⟩)), (10, .pointer (some ⟨b313, 0, none⟩)), (11, .int .i64 t311), (12, .int .i64 x314), (17, .slice a_p0_2 p0_2.length c_p0_2), (18, .int .i64 (p0_2.length : Int)), (19, .int .i64 x285), (32, .func (.func 67) #[] #[.pointer (some ⟨b281, 0, none⟩), .pointer (some ⟨b280, 0, none⟩)])]) (by kernel_rfl) ?_
              refine t_v (.ldn rfl rfl rfl (.at 0 rfl rfl)) ?_
              refine t_v (.ldn rfl rfl rfl (.at 1 rfl rfl)) ?_
              by_cases c320 : x294 = 1
              · rw [if_pos c320] at e292
                have c320b : (x294 == 1) = true := beq_iff_eq.mpr c320
                obtain ⟨⟨t321, t322⟩, h323, e292⟩ := bind_of e292
                try dsimp only at e292
                refine t_qz 2 [1, 2, 5, 6, 7, 9, 10, 11, 12, 17, 18, 19, 32, 33, 34, 35, 36] (σ' := [(1, .bool shut1), (2, .pointer (some ⟨b279, 0, none⟩)), (5, .pointer (some ⟨b280, 0, none⟩)), (6, .pointer (some ⟨b281, 0, none⟩)), (7, .func (.func 67) #[] #[.pointer (some ⟨b281, 0, none⟩), .pointer (some ⟨b280, 0, none⟩)]), (9, .pointer (some ⟨b310, 0, none⟩)), (10, .pointer (some ⟨b313, 0, none⟩)), (11, .int .i64 t311), (12, .int .i64 x314), (17, .slice a_p0_2 p0_2.length c_p0_2), (18, .int .i64 (p0_2.length : Int)), (19, .int .i64 x285), (32, .func (.func 67) #[] #[.pointer (some ⟨b281, 0, none⟩), .pointer (some ⟨b280, 0, none⟩)]), (33, .agg #[.int .i64 x288, .int .i64 x289]), (34, .agg #[.int .i64 x294, .int .i64 x295, .int .i64 x296, .int .i64 x297, .int .i64 x298, .int .i64 x299, .int .i64 x300]), (35, .int .i64 x314), (36, .int .i64 t311)]) (by kernel_rfl) ?_
                refine t_v (.call (vs := [.agg #[.int .i64 x288, .int .i64 x289], .agg #[.int .i64 1, .int .i64 x295, .int .i64 x296, .int .i64 x297, .int .i64 x298, .int .i64 x299, .int .i64 x300], .int .i64 x314, .int .i64 t311]) rfl rfl (Eq.trans (b := (some [.agg #[.int .i64 x288, .int .i64 x289], .agg #[.int .i64 x294, .int .i64 x295, .int .i64 x296, .int .i64 x297, .int .i64 x298, .int .i64 x299, .int .i64 x300], .int .i64 x314, .int .i64 t311] : Option (List Value))) (by kernel_rfl) (congrArg (fun q_ => (some [.agg #[.int .i64 x288, .int .i64 x289], .agg #[.int .i64 q_, .int .i64 x295, .int .i64 x296, .int .i64 x297, .int .i64 x298, .int .i64 x299, .int .i64 x300], .int .i64 x314, .int .i64 t311] : Option (List Value))) c320)) (flatten_Point_v2.ok h323)) ?_
                obtain ⟨⟨t324, t325, t326⟩, h327, e292⟩ := bind_of e292
                try dsimp only at e292
                refine t_clo (caps := #[.pointer (some ⟨b281, 0, none⟩), .pointer (some ⟨b280, 0, none⟩)]) (vs := [.agg #[.int .i64 t321, .int .i64 t322]]) (H1 := ([⟨b281, [.int .i64 x317, .int .i64 x318], 2⟩, ⟨b280, [.slice (ad a315) y316.length (na315 / 4)], 1⟩, ⟨a315, encL E_i644 y316, na315⟩] : List Own)) (F := ([⟨b313, [.int .i64 x288, .int .i64 x289], 2⟩, ⟨b310, [.int .i64 x294, .int .i64 x295, .int .i64 x296, .int .i64 x297, .int .i64 x298, .int .i64 x299, .int .i64 x300], 7⟩, ⟨b279, [.int .i64 p0_0, .int .i64 p0_1, .slice a_p0_2 p0_2.length c_p0_2, .bool p0_3], 4⟩] : List Own)) rfl rfl rfl (by kernel_rfl) (by kernel_rfl) (sel_perm (is := [3, 3, 2]) (by kernel_rfl)) (flatten_Path_1_v2.ok h327) ?_
                rintro _ _ S_ ⟨N328, nN328, rfl, rfl, hS_⟩
                obtain rfl := hS_.symm
                refine t_keep [1, 2, 5, 6, 7, 9, 10, 11, 12, 17, 18, 19] (σ' := [(1, .bool shut1), (2, .pointer (some ⟨b279, 0, none⟩)), (5, .pointer (some ⟨b280, 0, none⟩)), (6, .pointer (some ⟨b281, 0, none⟩)), (7, .func (.func 67) #[] #[.pointer (some ⟨b281, 0, none⟩), .pointer (some ⟨b280, 0, none⟩)]), (9, .pointer (some ⟨b310, 0, none⟩)), (10, .pointer (some ⟨b313, 0, none⟩)), (11, .int .i64 t311), (12, .int .i64 x314), (17, .slice a_p0_2 p0_2.length c_p0_2), (18, .int .i64 (p0_2.length : Int)), (19, .int .i64 x285)]) (by kernel_rfl) ?_
                refine t_end ?_
                show W _ _ _ _ _ _ _
                refine w_reg fun all => ?_
                refine t_qz 3 [1, 2, 5, 6, 7, 9, 10, 11, 12, 17, 18, 19] (σ' := [(1, .bool shut1), (2, .pointer (some ⟨b279, 0, none⟩)), (5, .pointer (some ⟨b280, 0, none⟩)), (6, .pointer (some ⟨b281, 0, none⟩)), (7, .func (.func 67) #[] #[.pointer (some ⟨b281, 0, none⟩), .pointer (some ⟨b280, 0, none⟩)]), (9, .pointer (some ⟨b310, 0, none⟩)), (10, .pointer (some ⟨b313, 0, none⟩)), (11, .int .i64 t311), (12, .int .i64 (wr64 (x314 + 1))), (17, .slice a_p0_2 p0_2.length c_p0_2), (18, .int .i64 (p0_2.length : Int)), (19, .int .i64 x285)]) (by kernel_rfl) ?_
                refine t_end ?_
                exact ⟨k_, Nat.lt_succ_self _, [(1, .bool shut1), (2, .pointer (some ⟨b279, 0, none⟩)), (5, .pointer (some ⟨b280, 0, none⟩)), (6, .pointer (some ⟨b281, 0, none⟩)), (7, .func (.func 67) #[] #[.pointer (some ⟨b281, 0, none⟩), .pointer (some ⟨b280, 0, none⟩)]), (9, .pointer (some ⟨b310, 0, none⟩)), (10, .pointer (some ⟨b313, 0, none⟩)), (11, .int .i64 t311), (12, .int .i64 (wr64 (x314 + 1))), (17, .slice a_p0_2 p0_2.length c_p0_2), (18, .int .i64 (p0_2.length : Int)), (19, .int .i64 x285)], ([⟨b313, [.int .i64 x288, .int .i64 x289], 2⟩, ⟨b310, [.int .i64 x294, .int .i64 x295, .int .i64 x296, .int .i64 x297, .int .i64 x298, .int .i64 x299, .int .i64 x300], 7⟩, ⟨N328, encL E_i644 t324, nN328⟩, ⟨b281, [.int .i64 t325, .int .i64 t326], 2⟩, ⟨b280, [.slice (ad N328) t324.length (nN328 / 4)], 1⟩, ⟨b279, [.int .i64 p0_0, .int .i64 p0_1, .slice a_p0_2 p0_2.length c_p0_2, .bool p0_3], 4⟩] : List Own), S, keep_sub [1, 2, 5, 6, 7, 9, 10, 11, 12, 17, 18, 19] (by kernel_rfl), VS.sel [3, 3, 0, 0, 0, 0] (by kernel_rfl), wr64 (x314 + 1), t324, t325, t326, N328, nN328, rfl, rfl, rfl, e292⟩
              · rw [if_neg c320] at e292
                have c320b : (x294 == 1) = false := beq_eq_false_iff_ne.mpr c320
                by_cases c330 : x294 = 2
                · rw [if_pos c330] at e292
                  have c330b : (x294 == 2) = true := beq_iff_eq.mpr c330
                  obtain ⟨⟨t331, t332⟩, h333, e292⟩ := bind_of e292
                  try dsimp only at e292
                  refine t_qz 2 [1, 2, 5, 6, 7, 9, 10, 11, 12, 17, 18, 19, 32, 33, 34, 35, 36] (σ' := [(1, .bool shut1), (2, .pointer (some ⟨b279, 0, none⟩)), (5, .pointer (some ⟨b280, 0, none⟩)), (6, .pointer (some ⟨b281, 0, none⟩)), (7, .func (.func 67) #[] #[.pointer (some ⟨b281, 0, none⟩), .pointer (some ⟨b280, 0, none⟩)]), (9, .pointer (some ⟨b310, 0, none⟩)), (10, .pointer (some ⟨b313, 0, none⟩)), (11, .int .i64 t311), (12, .int .i64 x314), (17, .slice a_p0_2 p0_2.length c_p0_2), (18, .int .i64 (p0_2.length : Int)), (19, .int .i64 x285), (32, .func (.func 67) #[] #[.pointer (some ⟨b281, 0, none⟩), .pointer (some ⟨b280, 0, none⟩)]), (33, .agg #[.int .i64 x288, .int .i64 x289]), (34, .agg #[.int .i64 x294, .int .i64 x295, .int .i64 x296, .int .i64 x297, .int .i64 x298, .int .i64 x299, .int .i64 x300]), (35, .int .i64 x314), (36, .int .i64 t311)]) (by kernel_rfl) ?_
                  refine t_v (.call (vs := [.agg #[.int .i64 x288, .int .i64 x289], .agg #[.int .i64 2, .int .i64 x295, .int .i64 x296, .int .i64 x297, .int .i64 x298, .int .i64 x299, .int .i64 x300], .int .i64 x314, .int .i64 t311]) rfl rfl (Eq.trans (b := (some [.agg #[.int .i64 x288, .int .i64 x289], .agg #[.int .i64 x294, .int .i64 x295, .int .i64 x296, .int .i64 x297, .int .i64 x298, .int .i64 x299, .int .i64 x300], .int .i64 x314, .int .i64 t311] : Option (List Value))) (by kernel_rfl) (congrArg (fun q_ => (some [.agg #[.int .i64 x288, .int .i64 x289], .agg #[.int .i64 q_, .int .i64 x295, .int .i64 x296, .int .i64 x297, .int .i64 x298, .int .i64 x299, .int .i64 x300], .int .i64 x314, .int .i64 t311] : Option (List Value))) c330)) (flatten_Point_v3.ok h333)) ?_
                  obtain ⟨⟨t334, t335, t336⟩, h337, e292⟩ := bind_of e292
                  try dsimp only at e292
                  refine t_clo (caps := #[.pointer (some ⟨b281, 0, none⟩), .pointer (some ⟨b280, 0, none⟩)]) (vs := [.agg #[.int .i64 t331, .int .i64 t332]]) (H1 := ([⟨b281, [.int .i64 x317, .int .i64 x318], 2⟩, ⟨b280, [.slice (ad a315) y316.length (na315 / 4)], 1⟩, ⟨a315, encL E_i644 y316, na315⟩] : List Own)) (F := ([⟨b313, [.int .i64 x288, .int .i64 x289], 2⟩, ⟨b310, [.int .i64 x294, .int .i64 x295, .int .i64 x296, .int .i64 x297, .int .i64 x298, .int .i64 x299, .int .i64 x300], 7⟩, ⟨b279, [.int .i64 p0_0, .int .i64 p0_1, .slice a_p0_2 p0_2.length c_p0_2, .bool p0_3], 4⟩] : List Own)) rfl rfl rfl (by kernel_rfl) (by kernel_rfl) (sel_perm (is := [3, 3, 2]) (by kernel_rfl)) (flatten_Path_1_v2.ok h337) ?_
                  rintro _ _ S_ ⟨N338, nN338, rfl, rfl, hS_⟩
                  obtain rfl := hS_.symm
                  refine t_keep [1, 2, 5, 6, 7, 9, 10, 11, 12, 17, 18, 19] (σ' := [(1, .bool shut1), (2, .pointer (some ⟨b279, 0, none⟩)), (5, .pointer (some ⟨b280, 0, none⟩)), (6, .pointer (some ⟨b281, 0, none⟩)), (7, .func (.func 67) #[] #[.pointer (some ⟨b281, 0, none⟩), .pointer (some ⟨b280, 0, none⟩)]), (9, .pointer (some ⟨b310, 0, none⟩)), (10, .pointer (some ⟨b313, 0, none⟩)), (11, .int .i64 t311), (12, .int .i64 x314), (17, .slice a_p0_2 p0_2.length c_p0_2), (18, .int .i64 (p0_2.length : Int)), (19, .int .i64 x285)]) (by kernel_rfl) ?_
                  refine t_end ?_
                  show W _ _ _ _ _ _ _
                  refine w_reg fun all => ?_
                  refine t_qz 3 [1, 2, 5, 6, 7, 9, 10, 11, 12, 17, 18, 19] (σ' := [(1, .bool shut1), (2, .pointer (some ⟨b279, 0, none⟩)), (5, .pointer (some ⟨b280, 0, none⟩)), (6, .pointer (some ⟨b281, 0, none⟩)), (7, .func (.func 67) #[] #[.pointer (some ⟨b281, 0, none⟩), .pointer (some ⟨b280, 0, none⟩)]), (9, .pointer (some ⟨b310, 0, none⟩)), (10, .pointer (some ⟨b313, 0, none⟩)), (11, .int .i64 t311), (12, .int .i64 (wr64 (x314 + 1))), (17, .slice a_p0_2 p0_2.length c_p0_2), (18, .int .i64 (p0_2.length : Int)), (19, .int .i64 x285)]) (by kernel_rfl) ?_
                  refine t_end ?_
                  exact ⟨k_, Nat.lt_succ_self _, [(1, .bool shut1), (2, .pointer (some ⟨b279, 0, none⟩)), (5, .pointer (some ⟨b280, 0, none⟩)), (6, .pointer (some ⟨b281, 0, none⟩)), (7, .func (.func 67) #[] #[.pointer (some ⟨b281, 0, none⟩), .pointer (some ⟨b280, 0, none⟩)]), (9, .pointer (some ⟨b310, 0, none⟩)), (10, .pointer (some ⟨b313, 0, none⟩)), (11, .int .i64 t311), (12, .int .i64 (wr64 (x314 + 1))), (17, .slice a_p0_2 p0_2.length c_p0_2), (18, .int .i64 (p0_2.length : Int)), (19, .int .i64 x285)], ([⟨b313, [.int .i64 x288, .int .i64 x289], 2⟩, ⟨b310, [.int .i64 x294, .int .i64 x295, .int .i64 x296, .int .i64 x297, .int .i64 x298, .int .i64 x299, .int .i64 x300], 7⟩, ⟨N338, encL E_i644 t334, nN338⟩, ⟨b281, [.int .i64 t335, .int .i64 t336], 2⟩, ⟨b280, [.slice (ad N338) t334.length (nN338 / 4)], 1⟩, ⟨b279, [.int .i64 p0_0, .int .i64 p0_1, .slice a_p0_2 p0_2.length c_p0_2, .bool p0_3], 4⟩] : List Own), S, keep_sub [1, 2, 5, 6, 7, 9, 10, 11, 12, 17, 18, 19] (by kernel_rfl), VS.sel [3, 3, 0, 0, 0, 0] (by kernel_rfl), wr64 (x314 + 1), t334, t335, t336, N338, nN338, rfl, rfl, rfl, e292⟩
                · rw [if_neg c330] at e292
                  have c330b : (x294 == 2) = false := beq_eq_false_iff_ne.mpr c330
                  by_cases c340 : x294 = 3
                  · rw [if_pos c340] at e292
                    have c340b : (x294 == 3) = true := beq_iff_eq.mpr c340
                    obtain ⟨⟨t341, t342⟩, h343, e292⟩ := bind_of e292
                    try dsimp only at e292
                    refine t_qz 2 [1, 2, 5, 6, 7, 9, 10, 11, 12, 17, 18, 19, 32, 33, 34, 35, 36] (σ' := [(1, .bool shut1), (2, .pointer (some ⟨b279, 0, none⟩)), (5, .pointer (some ⟨b280, 0, none⟩)), (6, .pointer (some ⟨b281, 0, none⟩)), (7, .func (.func 67) #[] #[.pointer (some ⟨b281, 0, none⟩), .pointer (some ⟨b280, 0, none⟩)]), (9, .pointer (some ⟨b310, 0, none⟩)), (10, .pointer (some ⟨b313, 0, none⟩)), (11, .int .i64 t311), (12, .int .i64 x314), (17, .slice a_p0_2 p0_2.length c_p0_2), (18, .int .i64 (p0_2.length : Int)), (19, .int .i64 x285), (32, .func (.func 67) #[] #[.pointer (some ⟨b281, 0, none⟩), .pointer (some ⟨b280, 0, none⟩)]), (33, .agg #[.int .i64 x288, .int .i64 x289]), (34, .agg #[.int .i64 x294, .int .i64 x295, .int .i64 x296, .int .i64 x297, .int .i64 x298, .int .i64 x299, .int .i64 x300]), (35, .int .i64 x314), (36, .int .i64 t311)]) (by kernel_rfl) ?_
                    refine t_v (.call (vs := [.agg #[.int .i64 x288, .int .i64 x289], .agg #[.int .i64 3, .int .i64 x295, .int .i64 x296, .int .i64 x297, .int .i64 x298, .int .i64 x299, .int .i64 x300], .int .i64 x314, .int .i64 t311]) rfl rfl (Eq.trans (b := (some [.agg #[.int .i64 x288, .int .i64 x289], .agg #[.int .i64 x294, .int .i64 x295, .int .i64 x296, .int .i64 x297, .int .i64 x298, .int .i64 x299, .int .i64 x300], .int .i64 x314, .int .i64 t311] : Option (List Value))) (by kernel_rfl) (congrArg (fun q_ => (some [.agg #[.int .i64 x288, .int .i64 x289], .agg #[.int .i64 q_, .int .i64 x295, .int .i64 x296, .int .i64 x297, .int .i64 x298, .int .i64 x299, .int .i64 x300], .int .i64 x314, .int .i64 t311] : Option (List Value))) c340)) (flatten_Point_v4.ok h343)) ?_
                    obtain ⟨⟨t344, t345, t346⟩, h347, e292⟩ := bind_of e292
                    try dsimp only at e292
                    refine t_clo (caps := #[.pointer (some ⟨b281, 0, none⟩), .pointer (some ⟨b280, 0, none⟩)]) (vs := [.agg #[.int .i64 t341, .int .i64 t342]]) (H1 := ([⟨b281, [.int .i64 x317, .int .i64 x318], 2⟩, ⟨b280, [.slice (ad a315) y316.length (na315 / 4)], 1⟩, ⟨a315, encL E_i644 y316, na315⟩] : List Own)) (F := ([⟨b313, [.int .i64 x288, .int .i64 x289], 2⟩, ⟨b310, [.int .i64 x294, .int .i64 x295, .int .i64 x296, .int .i64 x297, .int .i64 x298, .int .i64 x299, .int .i64 x300], 7⟩, ⟨b279, [.int .i64 p0_0, .int .i64 p0_1, .slice a_p0_2 p0_2.length c_p0_2, .bool p0_3], 4⟩] : List Own)) rfl rfl rfl (by kernel_rfl) (by kernel_rfl) (sel_perm (is := [3, 3, 2]) (by kernel_rfl)) (flatten_Path_1_v2.ok h347) ?_
                    rintro _ _ S_ ⟨N348, nN348, rfl, rfl, hS_⟩
                    obtain rfl := hS_.symm
                    refine t_keep [1, 2, 5, 6, 7, 9, 10, 11, 12, 17, 18, 19] (σ' := [(1, .bool shut1), (2, .pointer (some ⟨b279, 0, none⟩)), (5, .pointer (some ⟨b280, 0, none⟩)), (6, .pointer (some ⟨b281, 0, none⟩)), (7, .func (.func 67) #[] #[.pointer (some ⟨b281, 0, none⟩), .pointer (some ⟨b280, 0, none⟩)]), (9, .pointer (some ⟨b310, 0, none⟩)), (10, .pointer (some ⟨b313, 0, none⟩)), (11, .int .i64 t311), (12, .int .i64 x314), (17, .slice a_p0_2 p0_2.length c_p0_2), (18, .int .i64 (p0_2.length : Int)), (19, .int .i64 x285)]) (by kernel_rfl) ?_
                    refine t_end ?_
                    show W _ _ _ _ _ _ _
                    refine w_reg fun all => ?_
                    refine t_qz 3 [1, 2, 5, 6, 7, 9, 10, 11, 12, 17, 18, 19] (σ' := [(1, .bool shut1), (2, .pointer (some ⟨b279, 0, none⟩)), (5, .pointer (some ⟨b280, 0, none⟩)), (6, .pointer (some ⟨b281, 0, none⟩)), (7, .func (.func 67) #[] #[.pointer (some ⟨b281, 0, none⟩), .pointer (some ⟨b280, 0, none⟩)]), (9, .pointer (some ⟨b310, 0, none⟩)), (10, .pointer (some ⟨b313, 0, none⟩)), (11, .int .i64 t311), (12, .int .i64 (wr64 (x314 + 1))), (17, .slice a_p0_2 p0_2.length c_p0_2), (18, .int .i64 (p0_2.length : Int)), (19, .int .i64 x285)]) (by kernel_rfl) ?_
                    refine t_end ?_
                    exact ⟨k_, Nat.lt_succ_self _, [(1, .bool shut1), (2, .pointer (some ⟨b279, 0, none⟩)), (5, .pointer (some ⟨b280, 0, none⟩)), (6, .pointer (some ⟨b281, 0, none⟩)), (7, .func (.func 67) #[] #[.pointer (some ⟨b281, 0, none⟩), .pointer (some ⟨b280, 0, none⟩)]), (9, .pointer (some ⟨b310, 0, none⟩)), (10, .pointer (some ⟨b313, 0, none⟩)), (11, .int .i64 t311), (12, .int .i64 (wr64 (x314 + 1))), (17, .slice a_p0_2 p0_2.length c_p0_2), (18, .int .i64 (p0_2.length : Int)), (19, .int .i64 x285)], ([⟨b313, [.int .i64 x288, .int .i64 x289], 2⟩, ⟨b310, [.int .i64 x294, .int .i64 x295, .int .i64 x296, .int .i64 x297, .int .i64 x298, .int .i64 x299, .int .i64 x300], 7⟩, ⟨N348, encL E_i644 t344, nN348⟩, ⟨b281, [.int .i64 t345, .int .i64 t346], 2⟩, ⟨b280, [.slice (ad N348) t344.length (nN348 / 4)], 1⟩, ⟨b279, [.int .i64 p0_0, .int .i64 p0_1, .slice a_p0_2 p0_2.length c_p0_2, .bool p0_3], 4⟩] : List Own), S, keep_sub [1, 2, 5, 6, 7, 9, 10, 11, 12, 17, 18, 19] (by kernel_rfl), VS.sel [3, 3, 0, 0, 0, 0] (by kernel_rfl), wr64 (x314 + 1), t344, t345, t346, N348, nN348, rfl, rfl, rfl, e292⟩
                  · rw [if_neg c340] at e292
                    have c340b : (x294 == 3) = false := beq_eq_false_iff_ne.mpr c340
                    cases e292
            · rw [if_neg c319] at e292
              have c319b : (decide (x314 ≤ t311)) = false := decide_eq_false c319
              refine t_qz 2 [1, 2, 5, 6, 7, 9, 10, 11, 12, 17, 18, 19, 27, 28] (σ' := [(1, .bool shut1), (2, .pointer (some ⟨b279, 0, none⟩)), (5, .pointer (some ⟨b280, 0, none⟩)), (6, .pointer (some ⟨b281, 0, none⟩)), (7, .func (.func 67) #[] #[.pointer (some ⟨b281, 0, none⟩), .pointer (some ⟨b280, 0, none⟩)]), (9, .pointer (some ⟨b310, 0, none⟩)), (10, .pointer (some ⟨b313, 0, none⟩)), (11, .int .i64 t311), (12, .int .i64 x314), (17, .slice a_p0_2 p0_2.length c_p0_2), (18, .int .i64 (p0_2.length : Int)), (19, .int .i64 x285), (27, .int .i64 x314), (28, .int .i64 t311)]) (by kernel_rfl) ?_
              refine t_v (dv_quiet rfl (congrArg (fun t => some (Value.bool t)) c319b)) ?_
              refine t_keep [1, 2, 5, 6, 7, 9, 10, 11, 12, 17, 18, 19, 29] (σ' := [(1, .bool shut1), (2, .pointer (some ⟨b279, 0, none⟩)), (5, .pointer (some ⟨b280, 0, none⟩)), (6, .pointer (some ⟨b281, 0, none⟩)), (7, .func (.func 67) #[] #[.pointer (some ⟨b281, 0, none⟩), .pointer (some ⟨b280, 0, none⟩)]), (9, .pointer (some ⟨b310, 0, none⟩)), (10, .pointer (some ⟨b313, 0, none⟩)), (11, .int .i64 t311), (12, .int .i64 x314), (17, .slice a_p0_2 p0_2.length c_p0_2), (18, .int .i64 (p0_2.length : Int)), (19, .int .i64 x285), (29, .bool false)]) (by kernel_rfl) ?_
              refine t_end ?_
              show W _ _ _ _ _ _ _
              refine w_cond rfl (fun c_ => by cases c_) (fun _ => ?_)
              show W _ _ _ _ _ _ _
              refine w_exit ?_
              simp only [Option.some.injEq, Prod.mk.injEq] at e292
              obtain ⟨rfl, rfl, rfl⟩ := e292
              exact ⟨([⟨b281, [.int .i64 x317, .int .i64 x318], 2⟩, ⟨b280, [.slice (ad a315) y316.length (na315 / 4)], 1⟩, ⟨b279, [.int .i64 p0_0, .int .i64 p0_1, .slice a_p0_2 p0_2.length c_p0_2, .bool p0_3], 4⟩, ⟨a315, encL E_i644 y316, na315⟩] : List Own), S, VS.sel [3, 3, 3, 2] (by kernel_rfl), a315, na315, by kernel_rfl, rfl, rfl⟩
        · rintro σ_ H_ S_ ⟨a353, na353, rfl, rfl, rfl⟩
          refine w_reg fun all => ?_
          refine t_qz 2 [1, 2, 5, 6, 7, 17, 18, 19] (σ' := [(1, .bool shut1), (2, .pointer (some ⟨b279, 0, none⟩)), (5, .pointer (some ⟨b280, 0, none⟩)), (6, .pointer (some ⟨b281, 0, none⟩)), (7, .func (.func 67) #[] #[.pointer (some ⟨b281, 0, none⟩), .pointer (some ⟨b280, 0, none⟩)]), (17, .slice a_p0_2 p0_2.length c_p0_2), (18, .int .i64 (p0_2.length : Int)), (19, .int .i64 (wr64 (x285 + 1)))]) (by kernel_rfl) ?_
          refine t_end ?_
          exact ⟨k_, Nat.lt_succ_self _, [(1, .bool shut1), (2, .pointer (some ⟨b279, 0, none⟩)), (5, .pointer (some ⟨b280, 0, none⟩)), (6, .pointer (some ⟨b281, 0, none⟩)), (7, .func (.func 67) #[] #[.pointer (some ⟨b281, 0, none⟩), .pointer (some ⟨b280, 0, none⟩)]), (17, .slice a_p0_2 p0_2.length c_p0_2), (18, .int .i64 (p0_2.length : Int)), (19, .int .i64 (wr64 (x285 + 1)))], ([⟨a353, encL E_i644 y354, na353⟩, ⟨b281, [.int .i64 x351, .int .i64 x352], 2⟩, ⟨b280, [.slice (ad a353) y354.length (na353 / 4)], 1⟩, ⟨b279, [.int .i64 p0_0, .int .i64 p0_1, .slice a_p0_2 p0_2.length c_p0_2, .bool p0_3], 4⟩] : List Own), S, keep_sub [1, 2, 5, 6, 7, 17, 18, 19] (by kernel_rfl), VS.sel [3, 0, 0, 0] (by kernel_rfl), wr64 (x285 + 1), y354, x351, x352, a353, na353, rfl, rfl, rfl, e283⟩
      · rw [if_neg c290] at e283
        have c290b : (decide (x285 < (p0_2.length : Int))) = false := decide_eq_false c290
        refine t_v (dv_quiet rfl (congrArg (fun t => some (Value.bool t)) c290b)) ?_
        refine t_keep [1, 2, 5, 6, 7, 17, 18, 19, 20] (σ' := [(1, .bool shut1), (2, .pointer (some ⟨b279, 0, none⟩)), (5, .pointer (some ⟨b280, 0, none⟩)), (6, .pointer (some ⟨b281, 0, none⟩)), (7, .func (.func 67) #[] #[.pointer (some ⟨b281, 0, none⟩), .pointer (some ⟨b280, 0, none⟩)]), (17, .slice a_p0_2 p0_2.length c_p0_2), (18, .int .i64 (p0_2.length : Int)), (19, .int .i64 x285), (20, .bool false)]) (by kernel_rfl) ?_
        refine t_end ?_
        show W _ _ _ _ _ _ _
        refine w_seq ?_
        refine w_cond rfl (fun c_ => by cases c_) (fun _ => ?_)
        show W _ _ _ _ _ _ _
        refine w_exit ?_
        simp only [Option.some.injEq, Prod.mk.injEq] at e283
        obtain ⟨rfl, rfl, rfl⟩ := e283
        exact ⟨([⟨b281, [.int .i64 x288, .int .i64 x289], 2⟩, ⟨b280, [.slice (ad a286) y287.length (na286 / 4)], 1⟩, ⟨b279, [.int .i64 p0_0, .int .i64 p0_1, .slice a_p0_2 p0_2.length c_p0_2, .bool p0_3], 4⟩, ⟨a286, encL E_i644 y287, na286⟩] : List Own), S, VS.sel [1, 1, 1, 0] (by kernel_rfl), a286, na286, by kernel_rfl, rfl, rfl⟩
  · rintro σ_ H_ S_ ⟨a359, na359, rfl, rfl, rfl⟩
    refine w_seq ?_
    refine w_seq ?_
    refine w_reg fun all => ?_
    by_cases c361 : shut1 = true
    · rw [if_pos c361] at e
      have c361b : shut1 = true := c361
      refine t_v (dv_quiet rfl (congrArg (fun t => some (Value.bool t)) c361b)) ?_
      refine t_qz 4 [2, 5, 7, 44] (σ' := [(2, .pointer (some ⟨b279, 0, none⟩)), (5, .pointer (some ⟨b280, 0, none⟩)), (7, .func (.func 67) #[] #[.pointer (some ⟨b281, 0, none⟩), .pointer (some ⟨b280, 0, none⟩)]), (44, .bool true)]) (by kernel_rfl) ?_
      refine t_end ?_
      show W _ _ _ _ _ _ _
      refine w_cond rfl (fun _ => ?_) (fun c_ => by cases c_)
      show W _ _ _ _ _ _ _
      refine w_reg fun all => ?_
      refine t_qz 2 [5, 45, 46] (σ' := [(5, .pointer (some ⟨b280, 0, none⟩)), (45, .func (.func 67) #[] #[.pointer (some ⟨b281, 0, none⟩), .pointer (some ⟨b280, 0, none⟩)]), (46, .pointer (some ⟨b279, 0, none⟩))]) (by kernel_rfl) ?_
      refine t_v (.ldn rfl rfl rfl (.at 2 rfl rfl)) ?_
      obtain ⟨⟨t362, t363, t364⟩, h365, e⟩ := bind_of e
      try dsimp only at e
      refine t_clo (caps := #[.pointer (some ⟨b281, 0, none⟩), .pointer (some ⟨b280, 0, none⟩)]) (vs := [.agg #[.int .i64 p0_0, .int .i64 p0_1]]) (H1 := ([⟨b281, [.int .i64 x357, .int .i64 x358], 2⟩, ⟨b280, [.slice (ad a359) y360.length (na359 / 4)], 1⟩, ⟨a359, encL E_i644 y360, na359⟩] : List Own)) (F := ([⟨b279, [.int .i64 p0_0, .int .i64 p0_1, .slice a_p0_2 p0_2.length c_p0_2, .bool p0_3], 4⟩] : List Own)) rfl rfl rfl (by kernel_rfl) (by kernel_rfl) (sel_perm (is := [0, 0, 1]) (by kernel_rfl)) (flatten_Path_1_v2.ok h365) ?_
      rintro _ _ S_ ⟨N366, nN366, rfl, rfl, hS_⟩
      obtain rfl := hS_.symm
      refine t_keep [5] (σ' := [(5, .pointer (some ⟨b280, 0, none⟩))]) (by kernel_rfl) ?_
      refine t_end ?_
      show W _ _ _ _ _ _ _
      refine w_seq ?_
      refine w_reg fun all => ?_
      refine t_v (.ld1 rfl rfl rfl (.at 2 rfl rfl)) ?_
      refine t_qz 1 [4] (σ' := [(4, .slice (ad N366) t362.length (nN366 / 4))]) (by kernel_rfl) ?_
      refine t_end ?_
      show W _ _ _ _ _ _ _
      refine w_ret ?_
      obtain rfl := Option.some.inj e
      exact ⟨[.slice (ad N366) t362.length (nN366 / 4)], ([⟨N366, encL E_i644 t362, nN366⟩] : List Own), S, ⟨rfl, trivial⟩, VS.sel [0] (by kernel_rfl), N366, nN366, rfl, rfl, rfl⟩
    · rw [if_neg c361] at e
      have c361b : shut1 = false := Bool.eq_false_iff.mpr c361
      refine t_v (dv_quiet rfl (congrArg (fun t => some (Value.bool t)) c361b)) ?_
      by_cases c367 : p0_3 = true
      · rw [if_pos c367] at e
        have c367b : p0_3 = true := c367
        refine t_qz 2 [2, 5, 7, 41, 42] (σ' := [(2, .pointer (some ⟨b279, 0, none⟩)), (5, .pointer (some ⟨b280, 0, none⟩)), (7, .func (.func 67) #[] #[.pointer (some ⟨b281, 0, none⟩), .pointer (some ⟨b280, 0, none⟩)]), (41, .bool false), (42, .pointer (some ⟨b279, 3, none⟩))]) (by kernel_rfl) ?_
        refine t_v (dv_eq (congrArg (fun t => Value.bool t) c367b) (.ld1 rfl rfl rfl (.at 2 rfl rfl))) ?_
        refine t_qz 1 [2, 5, 7, 44] (σ' := [(2, .pointer (some ⟨b279, 0, none⟩)), (5, .pointer (some ⟨b280, 0, none⟩)), (7, .func (.func 67) #[] #[.pointer (some ⟨b281, 0, none⟩), .pointer (some ⟨b280, 0, none⟩)]), (44, .bool true)]) (by kernel_rfl) ?_
        refine t_end ?_
        show W _ _ _ _ _ _ _
        refine w_cond rfl (fun _ => ?_) (fun c_ => by cases c_)
        show W _ _ _ _ _ _ _
        refine w_reg fun all => ?_
        refine t_qz 2 [5, 45, 46] (σ' := [(5, .pointer (some ⟨b280, 0, none⟩)), (45, .func (.func 67) #[] #[.pointer (some ⟨b281, 0, none⟩), .pointer (some ⟨b280, 0, none⟩)]), (46, .pointer (some ⟨b279, 0, none⟩))]) (by kernel_rfl) ?_
        refine t_v (.ldn rfl rfl rfl (.at 2 rfl rfl)) ?_
        obtain ⟨⟨t368, t369, t370⟩, h371, e⟩ := bind_of e
        try dsimp only at e
        refine t_clo (caps := #[.pointer (some ⟨b281, 0, none⟩), .pointer (some ⟨b280, 0, none⟩)]) (vs := [.agg #[.int .i64 p0_0, .int .i64 p0_1]]) (H1 := ([⟨b281, [.int .i64 x357, .int .i64 x358], 2⟩, ⟨b280, [.slice (ad a359) y360.length (na359 / 4)], 1⟩, ⟨a359, encL E_i644 y360, na359⟩] : List Own)) (F := ([⟨b279, [.int .i64 p0_0, .int .i64 p0_1, .slice a_p0_2 p0_2.length c_p0_2, .bool p0_3], 4⟩] : List Own)) rfl rfl rfl (by kernel_rfl) (by kernel_rfl) (sel_perm (is := [0, 0, 1]) (by kernel_rfl)) (flatten_Path_1_v2.ok h371) ?_
        rintro _ _ S_ ⟨N372, nN372, rfl, rfl, hS_⟩
        obtain rfl := hS_.symm
        refine t_keep [5] (σ' := [(5, .pointer (some ⟨b280, 0, none⟩))]) (by kernel_rfl) ?_
        refine t_end ?_
        show W _ _ _ _ _ _ _
        refine w_seq ?_
        refine w_reg fun all => ?_
        refine t_v (.ld1 rfl rfl rfl (.at 2 rfl rfl)) ?_
        refine t_qz 1 [4] (σ' := [(4, .slice (ad N372) t368.length (nN372 / 4))]) (by kernel_rfl) ?_
        refine t_end ?_
        show W _ _ _ _ _ _ _
        refine w_ret ?_
        obtain rfl := Option.some.inj e
        exact ⟨[.slice (ad N372) t368.length (nN372 / 4)], ([⟨N372, encL E_i644 t368, nN372⟩] : List Own), S, ⟨rfl, trivial⟩, VS.sel [0] (by kernel_rfl), N372, nN372, rfl, rfl, rfl⟩
      · rw [if_neg c367] at e
        have c367b : p0_3 = false := Bool.eq_false_iff.mpr c367
        refine t_qz 2 [2, 5, 7, 41, 42] (σ' := [(2, .pointer (some ⟨b279, 0, none⟩)), (5, .pointer (some ⟨b280, 0, none⟩)), (7, .func (.func 67) #[] #[.pointer (some ⟨b281, 0, none⟩), .pointer (some ⟨b280, 0, none⟩)]), (41, .bool false), (42, .pointer (some ⟨b279, 3, none⟩))]) (by kernel_rfl) ?_
        refine t_v (dv_eq (congrArg (fun t => Value.bool t) c367b) (.ld1 rfl rfl rfl (.at 2 rfl rfl))) ?_
        refine t_qz 1 [2, 5, 7, 44] (σ' := [(2, .pointer (some ⟨b279, 0, none⟩)), (5, .pointer (some ⟨b280, 0, none⟩)), (7, .func (.func 67) #[] #[.pointer (some ⟨b281, 0, none⟩), .pointer (some ⟨b280, 0, none⟩)]), (44, .bool false)]) (by kernel_rfl) ?_
        refine t_end ?_
        show W _ _ _ _ _ _ _
        refine w_cond rfl (fun c_ => by cases c_) (fun _ => ?_)
        show W _ _ _ _ _ _ _
        refine w_skip ?_
        show W _ _ _ _ _ _ _
        refine w_seq ?_
        refine w_reg fun all => ?_
        refine t_v (.ld1 rfl rfl rfl (.at 1 rfl rfl)) ?_
        refine t_qz 1 [4] (σ' := [(4, .slice (ad a359) y360.length (na359 / 4))]) (by kernel_rfl) ?_
        refine t_end ?_
        show W _ _ _ _ _ _ _
        refine w_ret ?_
        obtain rfl := Option.some.inj e
        exact ⟨[.slice (ad a359) y360.length (na359 / 4)], ([⟨a359, encL E_i644 y360, na359⟩] : List Own), S, ⟨rfl, trivial⟩, VS.sel [3] (by kernel_rfl), a359, na359, rfl, rfl, rfl⟩

/-- glyphicref.SamePoint -/
def c25 : C :=
  (.seq (.reg [⟨(some 2), .box (.tmp 0), none⟩,
     ⟨(some 3), .box (.tmp 1), none⟩,
     ⟨(some 4), .mv (.const (.bool false)), none⟩])
  (.seq (.reg [⟨(some 5), .pad 0 (.tmp 2), none⟩,
     ⟨(some 6), .ld none (.tmp 5), none⟩,
     ⟨(some 7), .pad 0 (.tmp 3), none⟩,
     ⟨(some 8), .ld none (.tmp 7), none⟩,
     ⟨(some 9), .bin .eql (.tmp 6) (.tmp 8), none⟩,
     ⟨(some 10), .mv (.tmp 9), none⟩,
     ⟨(some 11), .pad 1 (.tmp 2), (some (10, true))⟩,
     ⟨(some 12), .ld none (.tmp 11), (some (10, true))⟩,
     ⟨(some 13), .pad 1 (.tmp 3), (some (10, true))⟩,
     ⟨(some 14), .ld none (.tmp 13), (some (10, true))⟩,
     ⟨(some 15), .bin .eql (.tmp 12) (.tmp 14), (some (10, true))⟩,
     ⟨(some 16), .pk (.tmp 10) (.tmp 15) (.const (.bool false)), none⟩,
     ⟨(some 4), .mv (.tmp 16), none⟩])
  .ret))
def glyphicref_SamePoint.f (a0_X : Int) (a0_Y : Int) (b1_X : Int) (b1_Y : Int) : Option (Bool) := if a0_X = b1_X then (some (a0_Y == b1_Y)) else (some false)
theorem glyphicref_SamePoint.ok {S : Seal} {a0_X : Int} {a0_Y : Int} {b1_X : Int} {b1_Y : Int} {r0_ : Bool}(e : glyphicref_SamePoint.f a0_X a0_Y b1_X b1_Y = some r0_) :
    Cal Try.prog 25 [.agg #[.int .i64 a0_X, .int .i64 a0_Y], .agg #[.int .i64 b1_X, .int .i64 b1_Y]] [] S fun v H' S' => v = .bool r0_ ∧ H' = [] ∧ S' = S := by
  unfold glyphicref_SamePoint.f at e
  refine cal_of (c := c25) (N := 17) Try.func25 rfl rfl (by kernel_rfl) (rs := [.t 4]) (by kernel_rfl) (Nat.le_of_ble_eq_true rfl) ?_
  unfold c25
  refine w_seq ?_
  refine w_reg fun all => ?_
  refine t_a (.box rfl rfl rfl) fun b406 fb406 sb406 => ?_
  refine t_a (.box rfl rfl rfl) fun b407 fb407 sb407 => ?_
  refine t_qz 1 [2, 3] (σ' := [(2, .pointer (some ⟨b406, 0, none⟩)), (3, .pointer (some ⟨b407, 0, none⟩))]) (by kernel_rfl) ?_
  refine t_end ?_
  show W _ _ _ _ _ _ _
  refine w_seq ?_
  refine w_reg fun all => ?_
  refine t_qz 1 [2, 3, 5] (σ' := [(2, .pointer (some ⟨b406, 0, none⟩)), (3, .pointer (some ⟨b407, 0, none⟩)), (5, .pointer (some ⟨b406, 0, none⟩))]) (by kernel_rfl) ?_
  refine t_v (.ld1 rfl rfl rfl (.at 1 rfl rfl)) ?_
  refine t_qz 1 [2, 3, 6, 7] (σ' := [(2, .pointer (some ⟨b406, 0, none⟩)), (3, .pointer (some ⟨b407, 0, none⟩)), (6, .int .i64 a0_X), (7, .pointer (some ⟨b407, 0, none⟩))]) (by kernel_rfl) ?_
  refine t_v (.ld1 rfl rfl rfl (.at 0 rfl rfl)) ?_
  by_cases c408 : a0_X = b1_X
  · rw [if_pos c408] at e
    have c408b : (a0_X == b1_X) = true := beq_iff_eq.mpr c408
    refine t_v (dv_quiet rfl (congrArg (fun t => some (Value.bool t)) c408b)) ?_
    refine t_qz 2 [3, 10, 11] (σ' := [(3, .pointer (some ⟨b407, 0, none⟩)), (10, .bool true), (11, .pointer (some ⟨b406, 1, none⟩))]) (by kernel_rfl) ?_
    refine t_v (.ld1 rfl rfl rfl (.at 1 rfl rfl)) ?_
    refine t_qz 1 [10, 12, 13] (σ' := [(10, .bool true), (12, .int .i64 a0_Y), (13, .pointer (some ⟨b407, 1, none⟩))]) (by kernel_rfl) ?_
    refine t_v (.ld1 rfl rfl rfl (.at 0 rfl rfl)) ?_
    refine t_qz 3 [4] (σ' := [(4, .bool (a0_Y == b1_Y))]) (by kernel_rfl) ?_
    refine t_end ?_
    show W _ _ _ _ _ _ _
    refine w_ret ?_
    obtain rfl := Option.some.inj e
    exact ⟨[.bool (a0_Y == b1_Y)], [], S, ⟨rfl, trivial⟩, VS.none, rfl, rfl, rfl⟩
  · rw [if_neg c408] at e
    have c408b : (a0_X == b1_X) = false := beq_eq_false_iff_ne.mpr c408
    refine t_v (dv_quiet rfl (congrArg (fun t => some (Value.bool t)) c408b)) ?_
    refine t_qz 8 [4] (σ' := [(4, .bool false)]) (by kernel_rfl) ?_
    refine t_end ?_
    show W _ _ _ _ _ _ _
    refine w_ret ?_
    obtain rfl := Option.some.inj e
    exact ⟨[.bool false], [], S, ⟨rfl, trivial⟩, VS.none, rfl, rfl, rfl⟩
end Go.Proofs.Ytpimfacaalkmdaa.QFlattenRows
