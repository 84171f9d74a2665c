/- Functions of the program as Lean functions, each with the proof of its walk. Written by gen.py, a program of these sessions. -/
import Derived.Test.YtpimfacaalkmdaaQFlattenSaysx1
namespace Go.Proofs.Ytpimfacaalkmdaa.QFlattenSays
open Go Go.RowKit Go.Proofs.YtpimfacaalkmdaaE
set_option linter.unusedVariables false
set_option maxRecDepth 100000
set_option maxHeartbeats 8000000
def flatten_Point_v4.f (a0_0 : Int) (a0_1 : Int) (s1_1 : Int) (s1_2 : Int) (s1_3 : Int) (s1_4 : Int) (s1_5 : Int) (s1_6 : Int) (i2 : Int) (n3 : Int) : Option (Int × Int) := (flatten_points_v4.f s1_1 s1_2 s1_3 s1_4 s1_5 s1_6).bind fun (t408, t409, t410, t411, t412, t413, t414) => ((flatten_mix_v5.f i2 n3 a0_0 t409 t411 t413).bind fun t434 => ((flatten_mix_v5.f i2 n3 a0_1 t410 t412 t414).bind fun t436 => (some (t434, t436))))
theorem flatten_Point_v4.ok {S : Seal} {a0_0 : Int} {a0_1 : Int} {s1_1 : Int} {s1_2 : Int} {s1_3 : Int} {s1_4 : Int} {s1_5 : Int} {s1_6 : Int} {i2 : Int} {n3 : Int} {r0_ : Int} {r1_ : Int}(e : flatten_Point_v4.f a0_0 a0_1 s1_1 s1_2 s1_3 s1_4 s1_5 s1_6 i2 n3 = some (r0_, r1_)) :
    Cal Try.prog 31 [.agg #[.int .i64 a0_0, .int .i64 a0_1], .agg #[.int .i64 3, .int .i64 s1_1, .int .i64 s1_2, .int .i64 s1_3, .int .i64 s1_4, .int .i64 s1_5, .int .i64 s1_6], .int .i64 i2, .int .i64 n3] [] S fun v H' S' => v = .agg #[.int .i64 r0_, .int .i64 r1_] ∧ H' = [] ∧ S' = S := by
  unfold flatten_Point_v4.f at e
  refine cal_of (c := c31) (N := 46) Try.func31 rfl rfl (by kernel_rfl) (rs := [.cn 2 8]) (by kernel_rfl) (Nat.le_of_ble_eq_true rfl) ?_
  unfold c31
  refine w_seq ?_
  refine w_reg fun all => ?_
  refine t_a (.box rfl rfl rfl) fun b402 fb402 sb402 => ?_
  refine t_a (.box rfl rfl rfl) fun b403 fb403 sb403 => ?_
  refine t_a (.new rfl rfl) fun b404 fb404 sb404 => ?_
  refine t_keep [2, 3, 4, 5, 8] (σ' := [(2, .int .i64 i2), (3, .int .i64 n3), (4, .pointer (some ⟨b402, 0, none⟩)), (5, .pointer (some ⟨b403, 0, none⟩)), (8, .pointer (some ⟨b404, 0, none⟩))]) (by kernel_rfl) ?_
  refine t_end ?_
  show W _ _ _ _ _ _ _
  refine w_seq ?_
  refine w_kp [2, 3, 4, 5, 8] (σ' := [(2, .int .i64 i2), (3, .int .i64 n3), (4, .pointer (some ⟨b402, 0, none⟩)), (5, .pointer (some ⟨b403, 0, none⟩)), (8, .pointer (some ⟨b404, 0, none⟩))]) (by kernel_rfl) ?_
  refine w_gameQ mixed (by kernel_rfl) fun all G hend hstep hqf => ?_
  have hg_ff : ∀ (g406 : Nat) (g405 : Nat), G [true, true, true, true, true, true, true, true] [(2, .int .i64 i2), (3, .int .i64 n3), (5, .pointer (some ⟨b403, 0, none⟩)), (8, .pointer (some ⟨b404, 0, none⟩)), (9, .slice (some ⟨g405, 0, none⟩) 1 1), (10, .slice (some ⟨g406, 0, none⟩) 1 1)] ([⟨g406, [.int .i64 a0_1], 1⟩, ⟨g405, [.int .i64 a0_0], 1⟩, ⟨b404, [.int .i64 0, .int .i64 0], 2⟩, ⟨b403, [.int .i64 3, .int .i64 s1_1, .int .i64 s1_2, .int .i64 s1_3, .int .i64 s1_4, .int .i64 s1_5, .int .i64 s1_6], 7⟩, ⟨b402, [.int .i64 a0_0, .int .i64 a0_1], 2⟩] : List Own) := by
    intro g406 g405
    refine hend _ _ _ (by kernel_rfl) ?_
    show W _ _ _ _ _ _ _
    refine w_seq ?_
    refine w_seq ?_
    refine w_reg fun all => ?_
    refine t_v (.ldn rfl rfl rfl (.at 3 rfl rfl)) ?_
    obtain ⟨⟨t408, t409, t410, t411, t412, t413, t414⟩, h415, e⟩ := bind_of e
    try dsimp only at e
    refine t_call (vs := [.agg #[.int .i64 3, .int .i64 s1_1, .int .i64 s1_2, .int .i64 s1_3, .int .i64 s1_4, .int .i64 s1_5, .int .i64 s1_6]]) (H1 := ([] : List Own)) (F := ([⟨g406, [.int .i64 a0_1], 1⟩, ⟨g405, [.int .i64 a0_0], 1⟩, ⟨b404, [.int .i64 0, .int .i64 0], 2⟩, ⟨b403, [.int .i64 3, .int .i64 s1_1, .int .i64 s1_2, .int .i64 s1_3, .int .i64 s1_4, .int .i64 s1_5, .int .i64 s1_6], 7⟩, ⟨b402, [.int .i64 a0_0, .int .i64 a0_1], 2⟩] : List Own)) rfl rfl (by kernel_rfl) (sel_perm (is := []) (by kernel_rfl)) (flatten_points_v4.ok h415) ?_
    rintro _ _ S_ ⟨N416, rfl, rfl, hS_⟩
    obtain rfl := hS_.symm
    refine t_qz 2 [2, 3, 8, 9, 10, 20, 21, 22] (σ' := [(2, .int .i64 i2), (3, .int .i64 n3), (8, .pointer (some ⟨b404, 0, none⟩)), (9, .slice (some ⟨g405, 0, none⟩) 1 1), (10, .slice (some ⟨g406, 0, none⟩) 1 1), (20, .slice (some ⟨N416, 1, none⟩) 3 3), (21, .int .i64 3), (22, .int .i64 0)]) (by kernel_rfl) ?_
    refine t_end ?_
    show W _ _ _ _ _ _ _
    refine w_block ?_
    refine w_lun 10 ?_
    refine wl_step ?_
    refine w_seq ?_
    refine w_reg fun all => ?_
    refine t_qz 1 [2, 3, 8, 9, 10, 20, 21, 22, 23] (σ' := [(2, .int .i64 i2), (3, .int .i64 n3), (8, .pointer (some ⟨b404, 0, none⟩)), (9, .slice (some ⟨g405, 0, none⟩) 1 1), (10, .slice (some ⟨g406, 0, none⟩) 1 1), (20, .slice (some ⟨N416, 1, none⟩) 3 3), (21, .int .i64 3), (22, .int .i64 0), (23, .bool true)]) (by kernel_rfl) ?_
    refine t_end ?_
    show W _ _ _ _ _ _ _
    refine w_seq ?_
    refine w_cond rfl (fun _ => ?_) (fun c_ => by cases c_)
    show W _ _ _ _ _ _ _
    refine w_skip ?_
    show W _ _ _ _ _ _ _
    refine w_seq ?_
    refine w_block ?_
    refine w_seq ?_
    refine w_reg fun all => ?_
    refine t_qz 1 [2, 3, 8, 9, 10, 20, 21, 22, 24] (σ' := [(2, .int .i64 i2), (3, .int .i64 n3), (8, .pointer (some ⟨b404, 0, none⟩)), (9, .slice (some ⟨g405, 0, none⟩) 1 1), (10, .slice (some ⟨g406, 0, none⟩) 1 1), (20, .slice (some ⟨N416, 1, none⟩) 3 3), (21, .int .i64 3), (22, .int .i64 0), (24, .pointer (some ⟨N416, 1, none⟩))]) (by kernel_rfl) ?_
    refine t_v (.ldn rfl rfl rfl (.at 0 rfl rfl)) ?_
    refine t_a (.new rfl rfl) fun b417 fb417 sb417 => ?_
    refine t_sti 0 (cs := [.int .i64 t409, .int .i64 t410]) rfl rfl rfl rfl rfl rfl rfl rfl rfl ?_
    refine t_keep [2, 3, 8, 9, 10, 12, 20, 21, 22] (σ' := [(2, .int .i64 i2), (3, .int .i64 n3), (8, .pointer (some ⟨b404, 0, none⟩)), (9, .slice (some ⟨g405, 0, none⟩) 1 1), (10, .slice (some ⟨g406, 0, none⟩) 1 1), (12, .pointer (some ⟨b417, 0, none⟩)), (20, .slice (some ⟨N416, 1, none⟩) 3 3), (21, .int .i64 3), (22, .int .i64 0)]) (by kernel_rfl) ?_
    refine t_end ?_
    show W _ _ _ _ _ _ _
    refine w_kp [2, 3, 8, 9, 10, 12, 20, 21, 22] (σ' := [(2, .int .i64 i2), (3, .int .i64 n3), (8, .pointer (some ⟨b404, 0, none⟩)), (9, .slice (some ⟨g405, 0, none⟩) 1 1), (10, .slice (some ⟨g406, 0, none⟩) 1 1), (12, .pointer (some ⟨b417, 0, none⟩)), (20, .slice (some ⟨N416, 1, none⟩) 3 3), (21, .int .i64 3), (22, .int .i64 0)]) (by kernel_rfl) ?_
    refine w_gameQ mixed (by kernel_rfl) fun all G hend hstep hqf => ?_
    have hg_fff : ∀ (g421 : Nat) (ng421 : Nat) (g420 : Nat) (g419 : Nat) (ng419 : Nat) (g418 : Nat), G [true, true, true, true, true, true, true, true, true, true, true, true] [(2, .int .i64 i2), (3, .int .i64 n3), (8, .pointer (some ⟨b404, 0, none⟩)), (9, .slice (some ⟨g419, 0, none⟩) 2 (ng419 / 1)), (10, .slice (some ⟨g421, 0, none⟩) 2 (ng421 / 1)), (20, .slice (some ⟨N416, 1, none⟩) 3 3), (21, .int .i64 3), (22, .int .i64 0)] ([⟨g421, [.int .i64 a0_1, .int .i64 t410], ng421⟩, ⟨g420, [.int .i64 t410], 1⟩, ⟨g419, [.int .i64 a0_0, .int .i64 t409], ng419⟩, ⟨g418, [.int .i64 t409], 1⟩, ⟨b417, [.int .i64 t409, .int .i64 t410], 2⟩, ⟨N416, [.int .i64 t408, .int .i64 t409, .int .i64 t410, .int .i64 t411, .int .i64 t412, .int .i64 t413, .int .i64 t414], 7⟩, ⟨b404, [.int .i64 0, .int .i64 0], 2⟩, ⟨b403, [.int .i64 3, .int .i64 s1_1, .int .i64 s1_2, .int .i64 s1_3, .int .i64 s1_4, .int .i64 s1_5, .int .i64 s1_6], 7⟩, ⟨b402, [.int .i64 a0_0, .int .i64 a0_1], 2⟩] : List Own) := by
      intro g421 ng421 g420 g419 ng419 g418
      refine hend _ _ _ (by kernel_rfl) ?_
      show W _ _ _ _ _ _ _
      refine w_reg fun all => ?_
      refine t_qz 2 [2, 3, 8, 9, 10, 20, 21, 22] (σ' := [(2, .int .i64 i2), (3, .int .i64 n3), (8, .pointer (some ⟨b404, 0, none⟩)), (9, .slice (some ⟨g419, 0, none⟩) 2 (ng419 / 1)), (10, .slice (some ⟨g421, 0, none⟩) 2 (ng421 / 1)), (20, .slice (some ⟨N416, 1, none⟩) 3 3), (21, .int .i64 3), (22, .int .i64 1)]) (by kernel_rfl) ?_
      refine t_end ?_
      show WL _ _ _ _ _ _ _ _
      refine wl_step ?_
      refine w_seq ?_
      refine w_reg fun all => ?_
      refine t_qz 1 [2, 3, 8, 9, 10, 20, 21, 22, 23] (σ' := [(2, .int .i64 i2), (3, .int .i64 n3), (8, .pointer (some ⟨b404, 0, none⟩)), (9, .slice (some ⟨g419, 0, none⟩) 2 (ng419 / 1)), (10, .slice (some ⟨g421, 0, none⟩) 2 (ng421 / 1)), (20, .slice (some ⟨N416, 1, none⟩) 3 3), (21, .int .i64 3), (22, .int .i64 1), (23, .bool true)]) (by kernel_rfl) ?_
      refine t_end ?_
      show W _ _ _ _ _ _ _
      refine w_seq ?_
      refine w_cond rfl (fun _ => ?_) (fun c_ => by cases c_)
      show W _ _ _ _ _ _ _
      refine w_skip ?_
      show W _ _ _ _ _ _ _
      refine w_seq ?_
      refine w_block ?_
      refine w_seq ?_
      refine w_reg fun all => ?_
      refine t_qz 1 [2, 3, 8, 9, 10, 20, 21, 22, 24] (σ' := [(2, .int .i64 i2), (3, .int .i64 n3), (8, .pointer (some ⟨b404, 0, none⟩)), (9, .slice (some ⟨g419, 0, none⟩) 2 (ng419 / 1)), (10, .slice (some ⟨g421, 0, none⟩) 2 (ng421 / 1)), (20, .slice (some ⟨N416, 1, none⟩) 3 3), (21, .int .i64 3), (22, .int .i64 1), (24, .pointer (some ⟨N416, 3, none⟩))]) (by kernel_rfl) ?_
      refine t_v (.ldn rfl rfl rfl (.at 5 rfl rfl)) ?_
      refine t_a (.new rfl rfl) fun b422 fb422 sb422 => ?_
      refine t_sti 0 (cs := [.int .i64 t411, .int .i64 t412]) rfl rfl rfl rfl rfl rfl rfl rfl rfl ?_
      refine t_keep [2, 3, 8, 9, 10, 12, 20, 21, 22] (σ' := [(2, .int .i64 i2), (3, .int .i64 n3), (8, .pointer (some ⟨b404, 0, none⟩)), (9, .slice (some ⟨g419, 0, none⟩) 2 (ng419 / 1)), (10, .slice (some ⟨g421, 0, none⟩) 2 (ng421 / 1)), (12, .pointer (some ⟨b422, 0, none⟩)), (20, .slice (some ⟨N416, 1, none⟩) 3 3), (21, .int .i64 3), (22, .int .i64 1)]) (by kernel_rfl) ?_
      refine t_end ?_
      show W _ _ _ _ _ _ _
      refine w_kp [2, 3, 8, 9, 10, 12, 20, 21, 22] (σ' := [(2, .int .i64 i2), (3, .int .i64 n3), (8, .pointer (some ⟨b404, 0, none⟩)), (9, .slice (some ⟨g419, 0, none⟩) 2 (ng419 / 1)), (10, .slice (some ⟨g421, 0, none⟩) 2 (ng421 / 1)), (12, .pointer (some ⟨b422, 0, none⟩)), (20, .slice (some ⟨N416, 1, none⟩) 3 3), (21, .int .i64 3), (22, .int .i64 1)]) (by kernel_rfl) ?_
      refine w_gameQ mixed (by kernel_rfl) fun all G hend hstep hqf => ?_
      have hg_fff : ∀ (g426 : Nat) (ng426 : Nat) (g425 : Nat) (g424 : Nat) (ng424 : Nat) (g423 : Nat), G [true, true, true, true, true, true, true, true, true, true, true, true] [(2, .int .i64 i2), (3, .int .i64 n3), (8, .pointer (some ⟨b404, 0, none⟩)), (9, .slice (some ⟨g424, 0, none⟩) 3 (ng424 / 1)), (10, .slice (some ⟨g426, 0, none⟩) 3 (ng426 / 1)), (20, .slice (some ⟨N416, 1, none⟩) 3 3), (21, .int .i64 3), (22, .int .i64 1)] ([⟨g426, [.int .i64 a0_1, .int .i64 t410, .int .i64 t412], ng426⟩, ⟨g425, [.int .i64 t412], 1⟩, ⟨g424, [.int .i64 a0_0, .int .i64 t409, .int .i64 t411], ng424⟩, ⟨g423, [.int .i64 t411], 1⟩, ⟨b422, [.int .i64 t411, .int .i64 t412], 2⟩, ⟨g420, [.int .i64 t410], 1⟩, ⟨g418, [.int .i64 t409], 1⟩, ⟨b417, [.int .i64 t409, .int .i64 t410], 2⟩, ⟨N416, [.int .i64 t408, .int .i64 t409, .int .i64 t410, .int .i64 t411, .int .i64 t412, .int .i64 t413, .int .i64 t414], 7⟩, ⟨b404, [.int .i64 0, .int .i64 0], 2⟩, ⟨b403, [.int .i64 3, .int .i64 s1_1, .int .i64 s1_2, .int .i64 s1_3, .int .i64 s1_4, .int .i64 s1_5, .int .i64 s1_6], 7⟩, ⟨b402, [.int .i64 a0_0, .int .i64 a0_1], 2⟩] : List Own) := by
        intro g426 ng426 g425 g424 ng424 g423
        refine hend _ _ _ (by kernel_rfl) ?_
        show W _ _ _ _ _ _ _
        refine w_reg fun all => ?_
        refine t_qz 2 [2, 3, 8, 9, 10, 20, 21, 22] (σ' := [(2, .int .i64 i2), (3, .int .i64 n3), (8, .pointer (some ⟨b404, 0, none⟩)), (9, .slice (some ⟨g424, 0, none⟩) 3 (ng424 / 1)), (10, .slice (some ⟨g426, 0, none⟩) 3 (ng426 / 1)), (20, .slice (some ⟨N416, 1, none⟩) 3 3), (21, .int .i64 3), (22, .int .i64 2)]) (by kernel_rfl) ?_
        refine t_end ?_
        show WL _ _ _ _ _ _ _ _
        refine wl_step ?_
        refine w_seq ?_
        refine w_reg fun all => ?_
        refine t_qz 1 [2, 3, 8, 9, 10, 20, 21, 22, 23] (σ' := [(2, .int .i64 i2), (3, .int .i64 n3), (8, .pointer (some ⟨b404, 0, none⟩)), (9, .slice (some ⟨g424, 0, none⟩) 3 (ng424 / 1)), (10, .slice (some ⟨g426, 0, none⟩) 3 (ng426 / 1)), (20, .slice (some ⟨N416, 1, none⟩) 3 3), (21, .int .i64 3), (22, .int .i64 2), (23, .bool true)]) (by kernel_rfl) ?_
        refine t_end ?_
        show W _ _ _ _ _ _ _
        refine w_seq ?_
        refine w_cond rfl (fun _ => ?_) (fun c_ => by cases c_)
        show W _ _ _ _ _ _ _
        refine w_skip ?_
        show W _ _ _ _ _ _ _
        refine w_seq ?_
        refine w_block ?_
        refine w_seq ?_
        refine w_reg fun all => ?_
        refine t_qz 1 [2, 3, 8, 9, 10, 20, 21, 22, 24] (σ' := [(2, .int .i64 i2), (3, .int .i64 n3), (8, .pointer (some ⟨b404, 0, none⟩)), (9, .slice (some ⟨g424, 0, none⟩) 3 (ng424 / 1)), (10, .slice (some ⟨g426, 0, none⟩) 3 (ng426 / 1)), (20, .slice (some ⟨N416, 1, none⟩) 3 3), (21, .int .i64 3), (22, .int .i64 2), (24, .pointer (some ⟨N416, 5, none⟩))]) (by kernel_rfl) ?_
        refine t_v (.ldn rfl rfl rfl (.at 8 rfl rfl)) ?_
        refine t_a (.new rfl rfl) fun b427 fb427 sb427 => ?_
        refine t_sti 0 (cs := [.int .i64 t413, .int .i64 t414]) rfl rfl rfl rfl rfl rfl rfl rfl rfl ?_
        refine t_keep [2, 3, 8, 9, 10, 12, 20, 21, 22] (σ' := [(2, .int .i64 i2), (3, .int .i64 n3), (8, .pointer (some ⟨b404, 0, none⟩)), (9, .slice (some ⟨g424, 0, none⟩) 3 (ng424 / 1)), (10, .slice (some ⟨g426, 0, none⟩) 3 (ng426 / 1)), (12, .pointer (some ⟨b427, 0, none⟩)), (20, .slice (some ⟨N416, 1, none⟩) 3 3), (21, .int .i64 3), (22, .int .i64 2)]) (by kernel_rfl) ?_
        refine t_end ?_
        show W _ _ _ _ _ _ _
        refine w_kp [2, 3, 8, 9, 10, 12, 20, 21, 22] (σ' := [(2, .int .i64 i2), (3, .int .i64 n3), (8, .pointer (some ⟨b404, 0, none⟩)), (9, .slice (some ⟨g424, 0, none⟩) 3 (ng424 / 1)), (10, .slice (some ⟨g426, 0, none⟩) 3 (ng426 / 1)), (12, .pointer (some ⟨b427, 0, none⟩)), (20, .slice (some ⟨N416, 1, none⟩) 3 3), (21, .int .i64 3), (22, .int .i64 2)]) (by kernel_rfl) ?_
        refine w_gameQ mixed (by kernel_rfl) fun all G hend hstep hqf => ?_
        have hg_fff : ∀ (g431 : Nat) (ng431 : Nat) (g430 : Nat) (g429 : Nat) (ng429 : Nat) (g428 : Nat), G [true, true, true, true, true, true, true, true, true, true, true, true] [(2, .int .i64 i2), (3, .int .i64 n3), (8, .pointer (some ⟨b404, 0, none⟩)), (9, .slice (some ⟨g429, 0, none⟩) 4 (ng429 / 1)), (10, .slice (some ⟨g431, 0, none⟩) 4 (ng431 / 1)), (20, .slice (some ⟨N416, 1, none⟩) 3 3), (21, .int .i64 3), (22, .int .i64 2)] ([⟨g431, [.int .i64 a0_1, .int .i64 t410, .int .i64 t412, .int .i64 t414], ng431⟩, ⟨g430, [.int .i64 t414], 1⟩, ⟨g429, [.int .i64 a0_0, .int .i64 t409, .int .i64 t411, .int .i64 t413], ng429⟩, ⟨g428, [.int .i64 t413], 1⟩, ⟨b427, [.int .i64 t413, .int .i64 t414], 2⟩, ⟨g425, [.int .i64 t412], 1⟩, ⟨g423, [.int .i64 t411], 1⟩, ⟨b422, [.int .i64 t411, .int .i64 t412], 2⟩, ⟨g420, [.int .i64 t410], 1⟩, ⟨g418, [.int .i64 t409], 1⟩, ⟨b417, [.int .i64 t409, .int .i64 t410], 2⟩, ⟨N416, [.int .i64 t408, .int .i64 t409, .int .i64 t410, .int .i64 t411, .int .i64 t412, .int .i64 t413, .int .i64 t414], 7⟩, ⟨b404, [.int .i64 0, .int .i64 0], 2⟩, ⟨b403, [.int .i64 3, .int .i64 s1_1, .int .i64 s1_2, .int .i64 s1_3, .int .i64 s1_4, .int .i64 s1_5, .int .i64 s1_6], 7⟩, ⟨b402, [.int .i64 a0_0, .int .i64 a0_1], 2⟩] : List Own) := by
          intro g431 ng431 g430 g429 ng429 g428
          refine hend _ _ _ (by kernel_rfl) ?_
          show W _ _ _ _ _ _ _
          refine w_reg fun all => ?_
          refine t_qz 2 [2, 3, 8, 9, 10, 20, 21, 22] (σ' := [(2, .int .i64 i2), (3, .int .i64 n3), (8, .pointer (some ⟨b404, 0, none⟩)), (9, .slice (some ⟨g429, 0, none⟩) 4 (ng429 / 1)), (10, .slice (some ⟨g431, 0, none⟩) 4 (ng431 / 1)), (20, .slice (some ⟨N416, 1, none⟩) 3 3), (21, .int .i64 3), (22, .int .i64 3)]) (by kernel_rfl) ?_
          refine t_end ?_
          show WL _ _ _ _ _ _ _ _
          refine wl_step ?_
          refine w_seq ?_
          refine w_reg fun all => ?_
          refine t_qz 1 [2, 3, 8, 9, 10, 20, 21, 22, 23] (σ' := [(2, .int .i64 i2), (3, .int .i64 n3), (8, .pointer (some ⟨b404, 0, none⟩)), (9, .slice (some ⟨g429, 0, none⟩) 4 (ng429 / 1)), (10, .slice (some ⟨g431, 0, none⟩) 4 (ng431 / 1)), (20, .slice (some ⟨N416, 1, none⟩) 3 3), (21, .int .i64 3), (22, .int .i64 3), (23, .bool false)]) (by kernel_rfl) ?_
          refine t_end ?_
          show W _ _ _ _ _ _ _
          refine w_seq ?_
          refine w_cond rfl (fun c_ => by cases c_) (fun _ => ?_)
          show W _ _ _ _ _ _ _
          refine w_exit ?_
          show W _ _ _ _ _ _ _
          refine w_seq ?_
          refine w_reg fun all => ?_
          obtain ⟨t434, h435, e⟩ := bind_of e
          refine t_qz 3 [2, 3, 8, 10, 37, 38, 39] (σ' := [(2, .int .i64 i2), (3, .int .i64 n3), (8, .pointer (some ⟨b404, 0, none⟩)), (10, .slice (some ⟨g431, 0, none⟩) 4 (ng431 / 1)), (37, .int .i64 i2), (38, .int .i64 n3), (39, .slice (some ⟨g429, 0, none⟩) 4 (ng429 / 1))]) (by kernel_rfl) ?_
          refine t_v (.callr (vs := [.int .i64 i2, .int .i64 n3, .slice (some ⟨g429, 0, none⟩) 4 (ng429 / 1)]) (A := ([⟨g429, [.int .i64 a0_0, .int .i64 t409, .int .i64 t411, .int .i64 t413], ng429⟩] : List Own)) (F0 := ([⟨g431, [.int .i64 a0_1, .int .i64 t410, .int .i64 t412, .int .i64 t414], ng431⟩, ⟨g430, [.int .i64 t414], 1⟩, ⟨g428, [.int .i64 t413], 1⟩, ⟨b427, [.int .i64 t413, .int .i64 t414], 2⟩, ⟨g425, [.int .i64 t412], 1⟩, ⟨g423, [.int .i64 t411], 1⟩, ⟨b422, [.int .i64 t411, .int .i64 t412], 2⟩, ⟨g420, [.int .i64 t410], 1⟩, ⟨g418, [.int .i64 t409], 1⟩, ⟨b417, [.int .i64 t409, .int .i64 t410], 2⟩, ⟨N416, [.int .i64 t408, .int .i64 t409, .int .i64 t410, .int .i64 t411, .int .i64 t412, .int .i64 t413, .int .i64 t414], 7⟩, ⟨b404, [.int .i64 0, .int .i64 0], 2⟩, ⟨b403, [.int .i64 3, .int .i64 s1_1, .int .i64 s1_2, .int .i64 s1_3, .int .i64 s1_4, .int .i64 s1_5, .int .i64 s1_6], 7⟩, ⟨b402, [.int .i64 a0_0, .int .i64 a0_1], 2⟩] : List Own)) rfl rfl (by kernel_rfl) (sel_perm (is := [2]) (by kernel_rfl)) (flatten_mix_v5.ok h435)) ?_
          obtain ⟨t436, h437, e⟩ := bind_of e
          refine t_qz 3 [8, 40, 41, 42, 43] (σ' := [(8, .pointer (some ⟨b404, 0, none⟩)), (40, .int .i64 t434), (41, .int .i64 i2), (42, .int .i64 n3), (43, .slice (some ⟨g431, 0, none⟩) 4 (ng431 / 1))]) (by kernel_rfl) ?_
          refine t_v (.callr (vs := [.int .i64 i2, .int .i64 n3, .slice (some ⟨g431, 0, none⟩) 4 (ng431 / 1)]) (A := ([⟨g431, [.int .i64 a0_1, .int .i64 t410, .int .i64 t412, .int .i64 t414], ng431⟩] : List Own)) (F0 := ([⟨g430, [.int .i64 t414], 1⟩, ⟨g429, [.int .i64 a0_0, .int .i64 t409, .int .i64 t411, .int .i64 t413], ng429⟩, ⟨g428, [.int .i64 t413], 1⟩, ⟨b427, [.int .i64 t413, .int .i64 t414], 2⟩, ⟨g425, [.int .i64 t412], 1⟩, ⟨g423, [.int .i64 t411], 1⟩, ⟨b422, [.int .i64 t411, .int .i64 t412], 2⟩, ⟨g420, [.int .i64 t410], 1⟩, ⟨g418, [.int .i64 t409], 1⟩, ⟨b417, [.int .i64 t409, .int .i64 t410], 2⟩, ⟨N416, [.int .i64 t408, .int .i64 t409, .int .i64 t410, .int .i64 t411, .int .i64 t412, .int .i64 t413, .int .i64 t414], 7⟩, ⟨b404, [.int .i64 0, .int .i64 0], 2⟩, ⟨b403, [.int .i64 3, .int .i64 s1_1, .int .i64 s1_2, .int .i64 s1_3, .int .i64 s1_4, .int .i64 s1_5, .int .i64 s1_6], 7⟩, ⟨b402, [.int .i64 a0_0, .int .i64 a0_1], 2⟩] : List Own)) rfl rfl (by kernel_rfl) (sel_perm (is := [0]) (by kernel_rfl)) (flatten_mix_v5.ok h437)) ?_
          refine t_qz 1 [8, 45] (σ' := [(8, .pointer (some ⟨b404, 0, none⟩)), (45, .agg #[.int .i64 t434, .int .i64 t436])]) (by kernel_rfl) ?_
          refine t_sti 12 (cs := [.int .i64 t434, .int .i64 t436]) rfl rfl rfl rfl rfl rfl rfl rfl rfl ?_
          refine t_keep [8] (σ' := [(8, .pointer (some ⟨b404, 0, none⟩))]) (by kernel_rfl) ?_
          refine t_end ?_
          show W _ _ _ _ _ _ _
          refine w_ret ?_
          simp only [Option.some.injEq, Prod.mk.injEq] at e
          obtain ⟨rfl, rfl⟩ := e
          exact ⟨[.agg #[.int .i64 t434, .int .i64 t436]], [], S, ⟨⟨_, _, _, rfl, .at 12 rfl rfl, rfl⟩, trivial⟩, VS.none, rfl, rfl, rfl⟩
        have hg_7ff : ∀ (g431 : Nat) (ng431 : Nat) (g430 : Nat) (g429 : Nat) (ng429 : Nat) (g428 : Nat), G [true, true, true, true, true, true, true, true, true, true, true, false] [(2, .int .i64 i2), (3, .int .i64 n3), (8, .pointer (some ⟨b404, 0, none⟩)), (9, .slice (some ⟨g429, 0, none⟩) 4 (ng429 / 1)), (10, .slice (some ⟨g426, 0, none⟩) 3 (ng426 / 1)), (20, .slice (some ⟨N416, 1, none⟩) 3 3), (21, .int .i64 3), (22, .int .i64 2), (35, .slice (some ⟨g431, 0, none⟩) 4 (ng431 / 1))] ([⟨g431, [.int .i64 a0_1, .int .i64 t410, .int .i64 t412, .int .i64 t414], ng431⟩, ⟨g430, [.int .i64 t414], 1⟩, ⟨g429, [.int .i64 a0_0, .int .i64 t409, .int .i64 t411, .int .i64 t413], ng429⟩, ⟨g428, [.int .i64 t413], 1⟩, ⟨b427, [.int .i64 t413, .int .i64 t414], 2⟩, ⟨g425, [.int .i64 t412], 1⟩, ⟨g423, [.int .i64 t411], 1⟩, ⟨b422, [.int .i64 t411, .int .i64 t412], 2⟩, ⟨g420, [.int .i64 t410], 1⟩, ⟨g418, [.int .i64 t409], 1⟩, ⟨b417, [.int .i64 t409, .int .i64 t410], 2⟩, ⟨N416, [.int .i64 t408, .int .i64 t409, .int .i64 t410, .int .i64 t411, .int .i64 t412, .int .i64 t413, .int .i64 t414], 7⟩, ⟨b404, [.int .i64 0, .int .i64 0], 2⟩, ⟨b403, [.int .i64 3, .int .i64 s1_1, .int .i64 s1_2, .int .i64 s1_3, .int .i64 s1_4, .int .i64 s1_5, .int .i64 s1_6], 7⟩, ⟨b402, [.int .i64 a0_0, .int .i64 a0_1], 2⟩] : List Own) := by
          intro g431 ng431 g430 g429 ng429 g428
          exact hqf 11 [2, 3, 8, 9, 10, 20, 21, 22] _ _ _ [(2, .int .i64 i2), (3, .int .i64 n3), (8, .pointer (some ⟨b404, 0, none⟩)), (9, .slice (some ⟨g429, 0, none⟩) 4 (ng429 / 1)), (10, .slice (some ⟨g431, 0, none⟩) 4 (ng431 / 1)), (20, .slice (some ⟨N416, 1, none⟩) 3 3), (21, .int .i64 3), (22, .int .i64 2)] (by kernel_rfl) (by kernel_rfl) (hg_fff g431 ng431 g430 g429 ng429 g428)
        have hg_3ff : ∀ (g431 : Nat) (ng431 : Nat) (g430 : Nat) (g429 : Nat) (ng429 : Nat) (g428 : Nat), G [true, true, true, true, true, true, true, true, true, true, false, false] [(2, .int .i64 i2), (3, .int .i64 n3), (8, .pointer (some ⟨b404, 0, none⟩)), (9, .slice (some ⟨g424, 0, none⟩) 3 (ng424 / 1)), (10, .slice (some ⟨g426, 0, none⟩) 3 (ng426 / 1)), (20, .slice (some ⟨N416, 1, none⟩) 3 3), (21, .int .i64 3), (22, .int .i64 2), (30, .slice (some ⟨g429, 0, none⟩) 4 (ng429 / 1)), (35, .slice (some ⟨g431, 0, none⟩) 4 (ng431 / 1))] ([⟨g431, [.int .i64 a0_1, .int .i64 t410, .int .i64 t412, .int .i64 t414], ng431⟩, ⟨g430, [.int .i64 t414], 1⟩, ⟨g429, [.int .i64 a0_0, .int .i64 t409, .int .i64 t411, .int .i64 t413], ng429⟩, ⟨g428, [.int .i64 t413], 1⟩, ⟨b427, [.int .i64 t413, .int .i64 t414], 2⟩, ⟨g425, [.int .i64 t412], 1⟩, ⟨g423, [.int .i64 t411], 1⟩, ⟨b422, [.int .i64 t411, .int .i64 t412], 2⟩, ⟨g420, [.int .i64 t410], 1⟩, ⟨g418, [.int .i64 t409], 1⟩, ⟨b417, [.int .i64 t409, .int .i64 t410], 2⟩, ⟨N416, [.int .i64 t408, .int .i64 t409, .int .i64 t410, .int .i64 t411, .int .i64 t412, .int .i64 t413, .int .i64 t414], 7⟩, ⟨b404, [.int .i64 0, .int .i64 0], 2⟩, ⟨b403, [.int .i64 3, .int .i64 s1_1, .int .i64 s1_2, .int .i64 s1_3, .int .i64 s1_4, .int .i64 s1_5, .int .i64 s1_6], 7⟩, ⟨b402, [.int .i64 a0_0, .int .i64 a0_1], 2⟩] : List Own) := by
          intro g431 ng431 g430 g429 ng429 g428
          exact hqf 10 [2, 3, 8, 9, 10, 20, 21, 22, 35] _ _ _ [(2, .int .i64 i2), (3, .int .i64 n3), (8, .pointer (some ⟨b404, 0, none⟩)), (9, .slice (some ⟨g429, 0, none⟩) 4 (ng429 / 1)), (10, .slice (some ⟨g426, 0, none⟩) 3 (ng426 / 1)), (20, .slice (some ⟨N416, 1, none⟩) 3 3), (21, .int .i64 3), (22, .int .i64 2), (35, .slice (some ⟨g431, 0, none⟩) 4 (ng431 / 1))] (by kernel_rfl) (by kernel_rfl) (hg_7ff g431 ng431 g430 g429 ng429 g428)
        have hg_1ff : ∀ (g430 : Nat) (g429 : Nat) (ng429 : Nat) (g428 : Nat), G [true, true, true, true, true, true, true, true, true, false, false, false] [(2, .int .i64 i2), (3, .int .i64 n3), (8, .pointer (some ⟨b404, 0, none⟩)), (9, .slice (some ⟨g424, 0, none⟩) 3 (ng424 / 1)), (10, .slice (some ⟨g426, 0, none⟩) 3 (ng426 / 1)), (20, .slice (some ⟨N416, 1, none⟩) 3 3), (21, .int .i64 3), (22, .int .i64 2), (30, .slice (some ⟨g429, 0, none⟩) 4 (ng429 / 1)), (31, .slice (some ⟨g426, 0, none⟩) 3 (ng426 / 1)), (34, .slice (some ⟨g430, 0, none⟩) 1 1)] ([⟨g430, [.int .i64 t414], 1⟩, ⟨g429, [.int .i64 a0_0, .int .i64 t409, .int .i64 t411, .int .i64 t413], ng429⟩, ⟨g428, [.int .i64 t413], 1⟩, ⟨b427, [.int .i64 t413, .int .i64 t414], 2⟩, ⟨g426, [.int .i64 a0_1, .int .i64 t410, .int .i64 t412], ng426⟩, ⟨g425, [.int .i64 t412], 1⟩, ⟨g423, [.int .i64 t411], 1⟩, ⟨b422, [.int .i64 t411, .int .i64 t412], 2⟩, ⟨g420, [.int .i64 t410], 1⟩, ⟨g418, [.int .i64 t409], 1⟩, ⟨b417, [.int .i64 t409, .int .i64 t410], 2⟩, ⟨N416, [.int .i64 t408, .int .i64 t409, .int .i64 t410, .int .i64 t411, .int .i64 t412, .int .i64 t413, .int .i64 t414], 7⟩, ⟨b404, [.int .i64 0, .int .i64 0], 2⟩, ⟨b403, [.int .i64 3, .int .i64 s1_1, .int .i64 s1_2, .int .i64 s1_3, .int .i64 s1_4, .int .i64 s1_5, .int .i64 s1_6], 7⟩, ⟨b402, [.int .i64 a0_0, .int .i64 a0_1], 2⟩] : List Own) := by
          intro g430 g429 ng429 g428
          refine hstep [9] _ _ _ (by kernel_rfl) (List.cons_ne_nil _ _) ⟨?_, trivial⟩
          · show T _ _ _ _ _ _ _ _
            refine t_app1 (cs := [.int .i64 a0_1, .int .i64 t410, .int .i64 t412]) (M := ng426) (F := ([⟨g430, [.int .i64 t414], 1⟩, ⟨g429, [.int .i64 a0_0, .int .i64 t409, .int .i64 t411, .int .i64 t413], ng429⟩, ⟨g428, [.int .i64 t413], 1⟩, ⟨b427, [.int .i64 t413, .int .i64 t414], 2⟩, ⟨g425, [.int .i64 t412], 1⟩, ⟨g423, [.int .i64 t411], 1⟩, ⟨b422, [.int .i64 t411, .int .i64 t412], 2⟩, ⟨g420, [.int .i64 t410], 1⟩, ⟨g418, [.int .i64 t409], 1⟩, ⟨b417, [.int .i64 t409, .int .i64 t410], 2⟩, ⟨N416, [.int .i64 t408, .int .i64 t409, .int .i64 t410, .int .i64 t411, .int .i64 t412, .int .i64 t413, .int .i64 t414], 7⟩, ⟨b404, [.int .i64 0, .int .i64 0], 2⟩, ⟨b403, [.int .i64 3, .int .i64 s1_1, .int .i64 s1_2, .int .i64 s1_3, .int .i64 s1_4, .int .i64 s1_5, .int .i64 s1_6], 7⟩, ⟨b402, [.int .i64 a0_0, .int .i64 a0_1], 2⟩] : List Own)) (news := [.int .i64 t414]) rfl rfl rfl rfl (sel_perm (is := [4]) (by kernel_rfl)) (.at 0 rfl rfl) (by kernel_rfl) rfl rfl (by decide) (by decide) rfl fun g431 ng431 => ?_
            refine t_keep [2, 3, 8, 9, 10, 20, 21, 22, 30, 35] (σ' := [(2, .int .i64 i2), (3, .int .i64 n3), (8, .pointer (some ⟨b404, 0, none⟩)), (9, .slice (some ⟨g424, 0, none⟩) 3 (ng424 / 1)), (10, .slice (some ⟨g426, 0, none⟩) 3 (ng426 / 1)), (20, .slice (some ⟨N416, 1, none⟩) 3 3), (21, .int .i64 3), (22, .int .i64 2), (30, .slice (some ⟨g429, 0, none⟩) 4 (ng429 / 1)), (35, .slice (some ⟨g431, 0, none⟩) 4 (ng431 / 1))]) (by kernel_rfl) ?_
            refine t_end ?_
            exact ⟨hg_3ff g431 ng431 g430 g429 ng429 g428, rfl⟩
        have hg_ff : ∀ (g429 : Nat) (ng429 : Nat) (g428 : Nat), G [true, true, true, true, true, true, true, true, false, false, false, false] [(2, .int .i64 i2), (3, .int .i64 n3), (8, .pointer (some ⟨b404, 0, none⟩)), (9, .slice (some ⟨g424, 0, none⟩) 3 (ng424 / 1)), (10, .slice (some ⟨g426, 0, none⟩) 3 (ng426 / 1)), (20, .slice (some ⟨N416, 1, none⟩) 3 3), (21, .int .i64 3), (22, .int .i64 2), (30, .slice (some ⟨g429, 0, none⟩) 4 (ng429 / 1)), (31, .slice (some ⟨g426, 0, none⟩) 3 (ng426 / 1)), (33, .int .i64 t414)] ([⟨g429, [.int .i64 a0_0, .int .i64 t409, .int .i64 t411, .int .i64 t413], ng429⟩, ⟨g428, [.int .i64 t413], 1⟩, ⟨b427, [.int .i64 t413, .int .i64 t414], 2⟩, ⟨g426, [.int .i64 a0_1, .int .i64 t410, .int .i64 t412], ng426⟩, ⟨g425, [.int .i64 t412], 1⟩, ⟨g423, [.int .i64 t411], 1⟩, ⟨b422, [.int .i64 t411, .int .i64 t412], 2⟩, ⟨g420, [.int .i64 t410], 1⟩, ⟨g418, [.int .i64 t409], 1⟩, ⟨b417, [.int .i64 t409, .int .i64 t410], 2⟩, ⟨N416, [.int .i64 t408, .int .i64 t409, .int .i64 t410, .int .i64 t411, .int .i64 t412, .int .i64 t413, .int .i64 t414], 7⟩, ⟨b404, [.int .i64 0, .int .i64 0], 2⟩, ⟨b403, [.int .i64 3, .int .i64 s1_1, .int .i64 s1_2, .int .i64 s1_3, .int .i64 s1_4, .int .i64 s1_5, .int .i64 s1_6], 7⟩, ⟨b402, [.int .i64 a0_0, .int .i64 a0_1], 2⟩] : List Own) := by
          intro g429 ng429 g428
          refine hstep [8] _ _ _ (by kernel_rfl) (List.cons_ne_nil _ _) ⟨?_, trivial⟩
          · show T _ _ _ _ _ _ _ _
            refine t_a (.bsl rfl rfl rfl rfl) fun g430 fg430 sg430 => ?_
            refine t_keep [2, 3, 8, 9, 10, 20, 21, 22, 30, 31, 34] (σ' := [(2, .int .i64 i2), (3, .int .i64 n3), (8, .pointer (some ⟨b404, 0, none⟩)), (9, .slice (some ⟨g424, 0, none⟩) 3 (ng424 / 1)), (10, .slice (some ⟨g426, 0, none⟩) 3 (ng426 / 1)), (20, .slice (some ⟨N416, 1, none⟩) 3 3), (21, .int .i64 3), (22, .int .i64 2), (30, .slice (some ⟨g429, 0, none⟩) 4 (ng429 / 1)), (31, .slice (some ⟨g426, 0, none⟩) 3 (ng426 / 1)), (34, .slice (some ⟨g430, 0, none⟩) 1 1)]) (by kernel_rfl) ?_
            refine t_end ?_
            exact ⟨hg_1ff g430 g429 ng429 g428, rfl⟩
        have hg_1ef : ∀ (g430 : Nat) (g428 : Nat), G [true, true, true, true, false, true, true, true, true, false, false, false] [(2, .int .i64 i2), (3, .int .i64 n3), (8, .pointer (some ⟨b404, 0, none⟩)), (9, .slice (some ⟨g424, 0, none⟩) 3 (ng424 / 1)), (10, .slice (some ⟨g426, 0, none⟩) 3 (ng426 / 1)), (20, .slice (some ⟨N416, 1, none⟩) 3 3), (21, .int .i64 3), (22, .int .i64 2), (26, .slice (some ⟨g424, 0, none⟩) 3 (ng424 / 1)), (29, .slice (some ⟨g428, 0, none⟩) 1 1), (31, .slice (some ⟨g426, 0, none⟩) 3 (ng426 / 1)), (34, .slice (some ⟨g430, 0, none⟩) 1 1)] ([⟨g430, [.int .i64 t414], 1⟩, ⟨g428, [.int .i64 t413], 1⟩, ⟨b427, [.int .i64 t413, .int .i64 t414], 2⟩, ⟨g426, [.int .i64 a0_1, .int .i64 t410, .int .i64 t412], ng426⟩, ⟨g425, [.int .i64 t412], 1⟩, ⟨g424, [.int .i64 a0_0, .int .i64 t409, .int .i64 t411], ng424⟩, ⟨g423, [.int .i64 t411], 1⟩, ⟨b422, [.int .i64 t411, .int .i64 t412], 2⟩, ⟨g420, [.int .i64 t410], 1⟩, ⟨g418, [.int .i64 t409], 1⟩, ⟨b417, [.int .i64 t409, .int .i64 t410], 2⟩, ⟨N416, [.int .i64 t408, .int .i64 t409, .int .i64 t410, .int .i64 t411, .int .i64 t412, .int .i64 t413, .int .i64 t414], 7⟩, ⟨b404, [.int .i64 0, .int .i64 0], 2⟩, ⟨b403, [.int .i64 3, .int .i64 s1_1, .int .i64 s1_2, .int .i64 s1_3, .int .i64 s1_4, .int .i64 s1_5, .int .i64 s1_6], 7⟩, ⟨b402, [.int .i64 a0_0, .int .i64 a0_1], 2⟩] : List Own) := by
          intro g430 g428
          refine hstep [4] _ _ _ (by kernel_rfl) (List.cons_ne_nil _ _) ⟨?_, trivial⟩
          · show T _ _ _ _ _ _ _ _
            refine t_app1 (cs := [.int .i64 a0_0, .int .i64 t409, .int .i64 t411]) (M := ng424) (F := ([⟨g430, [.int .i64 t414], 1⟩, ⟨g428, [.int .i64 t413], 1⟩, ⟨b427, [.int .i64 t413, .int .i64 t414], 2⟩, ⟨g426, [.int .i64 a0_1, .int .i64 t410, .int .i64 t412], ng426⟩, ⟨g425, [.int .i64 t412], 1⟩, ⟨g423, [.int .i64 t411], 1⟩, ⟨b422, [.int .i64 t411, .int .i64 t412], 2⟩, ⟨g420, [.int .i64 t410], 1⟩, ⟨g418, [.int .i64 t409], 1⟩, ⟨b417, [.int .i64 t409, .int .i64 t410], 2⟩, ⟨N416, [.int .i64 t408, .int .i64 t409, .int .i64 t410, .int .i64 t411, .int .i64 t412, .int .i64 t413, .int .i64 t414], 7⟩, ⟨b404, [.int .i64 0, .int .i64 0], 2⟩, ⟨b403, [.int .i64 3, .int .i64 s1_1, .int .i64 s1_2, .int .i64 s1_3, .int .i64 s1_4, .int .i64 s1_5, .int .i64 s1_6], 7⟩, ⟨b402, [.int .i64 a0_0, .int .i64 a0_1], 2⟩] : List Own)) (news := [.int .i64 t413]) rfl rfl rfl rfl (sel_perm (is := [5]) (by kernel_rfl)) (.at 1 rfl rfl) (by kernel_rfl) rfl rfl (by decide) (by decide) rfl fun g429 ng429 => ?_
            refine t_keep [2, 3, 8, 9, 10, 20, 21, 22, 30, 31, 34] (σ' := [(2, .int .i64 i2), (3, .int .i64 n3), (8, .pointer (some ⟨b404, 0, none⟩)), (9, .slice (some ⟨g424, 0, none⟩) 3 (ng424 / 1)), (10, .slice (some ⟨g426, 0, none⟩) 3 (ng426 / 1)), (20, .slice (some ⟨N416, 1, none⟩) 3 3), (21, .int .i64 3), (22, .int .i64 2), (30, .slice (some ⟨g429, 0, none⟩) 4 (ng429 / 1)), (31, .slice (some ⟨g426, 0, none⟩) 3 (ng426 / 1)), (34, .slice (some ⟨g430, 0, none⟩) 1 1)]) (by kernel_rfl) ?_
            refine t_vs (H' := ([⟨g430, [.int .i64 t414], 1⟩, ⟨g429, [.int .i64 a0_0, .int .i64 t409, .int .i64 t411, .int .i64 t413], ng429⟩, ⟨g428, [.int .i64 t413], 1⟩, ⟨b427, [.int .i64 t413, .int .i64 t414], 2⟩, ⟨g426, [.int .i64 a0_1, .int .i64 t410, .int .i64 t412], ng426⟩, ⟨g425, [.int .i64 t412], 1⟩, ⟨g423, [.int .i64 t411], 1⟩, ⟨b422, [.int .i64 t411, .int .i64 t412], 2⟩, ⟨g420, [.int .i64 t410], 1⟩, ⟨g418, [.int .i64 t409], 1⟩, ⟨b417, [.int .i64 t409, .int .i64 t410], 2⟩, ⟨N416, [.int .i64 t408, .int .i64 t409, .int .i64 t410, .int .i64 t411, .int .i64 t412, .int .i64 t413, .int .i64 t414], 7⟩, ⟨b404, [.int .i64 0, .int .i64 0], 2⟩, ⟨b403, [.int .i64 3, .int .i64 s1_1, .int .i64 s1_2, .int .i64 s1_3, .int .i64 s1_4, .int .i64 s1_5, .int .i64 s1_6], 7⟩, ⟨b402, [.int .i64 a0_0, .int .i64 a0_1], 2⟩] : List Own)) (S' := S) (VS.sel [1, 0, 0, 0, 0, 0, 0, 0, 0, 0, 0, 0, 0, 0, 0] (by kernel_rfl)) ?_
            refine t_end ?_
            exact ⟨hg_1ff g430 g429 ng429 g428, rfl⟩
        have hg_1e7 : ∀ (g430 : Nat), G [true, true, true, false, false, true, true, true, true, false, false, false] [(2, .int .i64 i2), (3, .int .i64 n3), (8, .pointer (some ⟨b404, 0, none⟩)), (9, .slice (some ⟨g424, 0, none⟩) 3 (ng424 / 1)), (10, .slice (some ⟨g426, 0, none⟩) 3 (ng426 / 1)), (20, .slice (some ⟨N416, 1, none⟩) 3 3), (21, .int .i64 3), (22, .int .i64 2), (26, .slice (some ⟨g424, 0, none⟩) 3 (ng424 / 1)), (28, .int .i64 t413), (31, .slice (some ⟨g426, 0, none⟩) 3 (ng426 / 1)), (34, .slice (some ⟨g430, 0, none⟩) 1 1)] ([⟨g430, [.int .i64 t414], 1⟩, ⟨b427, [.int .i64 t413, .int .i64 t414], 2⟩, ⟨g426, [.int .i64 a0_1, .int .i64 t410, .int .i64 t412], ng426⟩, ⟨g425, [.int .i64 t412], 1⟩, ⟨g424, [.int .i64 a0_0, .int .i64 t409, .int .i64 t411], ng424⟩, ⟨g423, [.int .i64 t411], 1⟩, ⟨b422, [.int .i64 t411, .int .i64 t412], 2⟩, ⟨g420, [.int .i64 t410], 1⟩, ⟨g418, [.int .i64 t409], 1⟩, ⟨b417, [.int .i64 t409, .int .i64 t410], 2⟩, ⟨N416, [.int .i64 t408, .int .i64 t409, .int .i64 t410, .int .i64 t411, .int .i64 t412, .int .i64 t413, .int .i64 t414], 7⟩, ⟨b404, [.int .i64 0, .int .i64 0], 2⟩, ⟨b403, [.int .i64 3, .int .i64 s1_1, .int .i64 s1_2, .int .i64 s1_3, .int .i64 s1_4, .int .i64 s1_5, .int .i64 s1_6], 7⟩, ⟨b402, [.int .i64 a0_0, .int .i64 a0_1], 2⟩] : List Own) := by
          intro g430
          refine hstep [3] _ _ _ (by kernel_rfl) (List.cons_ne_nil _ _) ⟨?_, trivial⟩
          · show T _ _ _ _ _ _ _ _
            refine t_a (.bsl rfl rfl rfl rfl) fun g428 fg428 sg428 => ?_
            refine t_keep [2, 3, 8, 9, 10, 20, 21, 22, 26, 29, 31, 34] (σ' := [(2, .int .i64 i2), (3, .int .i64 n3), (8, .pointer (some ⟨b404, 0, none⟩)), (9, .slice (some ⟨g424, 0, none⟩) 3 (ng424 / 1)), (10, .slice (some ⟨g426, 0, none⟩) 3 (ng426 / 1)), (20, .slice (some ⟨N416, 1, none⟩) 3 3), (21, .int .i64 3), (22, .int .i64 2), (26, .slice (some ⟨g424, 0, none⟩) 3 (ng424 / 1)), (29, .slice (some ⟨g428, 0, none⟩) 1 1), (31, .slice (some ⟨g426, 0, none⟩) 3 (ng426 / 1)), (34, .slice (some ⟨g430, 0, none⟩) 1 1)]) (by kernel_rfl) ?_
            refine t_vs (H' := ([⟨g430, [.int .i64 t414], 1⟩, ⟨g428, [.int .i64 t413], 1⟩, ⟨b427, [.int .i64 t413, .int .i64 t414], 2⟩, ⟨g426, [.int .i64 a0_1, .int .i64 t410, .int .i64 t412], ng426⟩, ⟨g425, [.int .i64 t412], 1⟩, ⟨g424, [.int .i64 a0_0, .int .i64 t409, .int .i64 t411], ng424⟩, ⟨g423, [.int .i64 t411], 1⟩, ⟨b422, [.int .i64 t411, .int .i64 t412], 2⟩, ⟨g420, [.int .i64 t410], 1⟩, ⟨g418, [.int .i64 t409], 1⟩, ⟨b417, [.int .i64 t409, .int .i64 t410], 2⟩, ⟨N416, [.int .i64 t408, .int .i64 t409, .int .i64 t410, .int .i64 t411, .int .i64 t412, .int .i64 t413, .int .i64 t414], 7⟩, ⟨b404, [.int .i64 0, .int .i64 0], 2⟩, ⟨b403, [.int .i64 3, .int .i64 s1_1, .int .i64 s1_2, .int .i64 s1_3, .int .i64 s1_4, .int .i64 s1_5, .int .i64 s1_6], 7⟩, ⟨b402, [.int .i64 a0_0, .int .i64 a0_1], 2⟩] : List Own)) (S' := S) (VS.sel [1, 0, 0, 0, 0, 0, 0, 0, 0, 0, 0, 0, 0, 0, 0] (by kernel_rfl)) ?_
            refine t_end ?_
            exact ⟨hg_1ef g430 g428, rfl⟩
        have hg_ef : ∀ (g428 : Nat), G [true, true, true, true, false, true, true, true, false, false, false, false] [(2, .int .i64 i2), (3, .int .i64 n3), (8, .pointer (some ⟨b404, 0, none⟩)), (9, .slice (some ⟨g424, 0, none⟩) 3 (ng424 / 1)), (10, .slice (some ⟨g426, 0, none⟩) 3 (ng426 / 1)), (20, .slice (some ⟨N416, 1, none⟩) 3 3), (21, .int .i64 3), (22, .int .i64 2), (26, .slice (some ⟨g424, 0, none⟩) 3 (ng424 / 1)), (29, .slice (some ⟨g428, 0, none⟩) 1 1), (31, .slice (some ⟨g426, 0, none⟩) 3 (ng426 / 1)), (33, .int .i64 t414)] ([⟨g428, [.int .i64 t413], 1⟩, ⟨b427, [.int .i64 t413, .int .i64 t414], 2⟩, ⟨g426, [.int .i64 a0_1, .int .i64 t410, .int .i64 t412], ng426⟩, ⟨g425, [.int .i64 t412], 1⟩, ⟨g424, [.int .i64 a0_0, .int .i64 t409, .int .i64 t411], ng424⟩, ⟨g423, [.int .i64 t411], 1⟩, ⟨b422, [.int .i64 t411, .int .i64 t412], 2⟩, ⟨g420, [.int .i64 t410], 1⟩, ⟨g418, [.int .i64 t409], 1⟩, ⟨b417, [.int .i64 t409, .int .i64 t410], 2⟩, ⟨N416, [.int .i64 t408, .int .i64 t409, .int .i64 t410, .int .i64 t411, .int .i64 t412, .int .i64 t413, .int .i64 t414], 7⟩, ⟨b404, [.int .i64 0, .int .i64 0], 2⟩, ⟨b403, [.int .i64 3, .int .i64 s1_1, .int .i64 s1_2, .int .i64 s1_3, .int .i64 s1_4, .int .i64 s1_5, .int .i64 s1_6], 7⟩, ⟨b402, [.int .i64 a0_0, .int .i64 a0_1], 2⟩] : List Own) := by
          intro g428
          refine hstep [4, 8] _ _ _ (by kernel_rfl) (List.cons_ne_nil _ _) ⟨?_, ?_, trivial⟩
          · show T _ _ _ _ _ _ _ _
            refine t_app1 (cs := [.int .i64 a0_0, .int .i64 t409, .int .i64 t411]) (M := ng424) (F := ([⟨g428, [.int .i64 t413], 1⟩, ⟨b427, [.int .i64 t413, .int .i64 t414], 2⟩, ⟨g426, [.int .i64 a0_1, .int .i64 t410, .int .i64 t412], ng426⟩, ⟨g425, [.int .i64 t412], 1⟩, ⟨g423, [.int .i64 t411], 1⟩, ⟨b422, [.int .i64 t411, .int .i64 t412], 2⟩, ⟨g420, [.int .i64 t410], 1⟩, ⟨g418, [.int .i64 t409], 1⟩, ⟨b417, [.int .i64 t409, .int .i64 t410], 2⟩, ⟨N416, [.int .i64 t408, .int .i64 t409, .int .i64 t410, .int .i64 t411, .int .i64 t412, .int .i64 t413, .int .i64 t414], 7⟩, ⟨b404, [.int .i64 0, .int .i64 0], 2⟩, ⟨b403, [.int .i64 3, .int .i64 s1_1, .int .i64 s1_2, .int .i64 s1_3, .int .i64 s1_4, .int .i64 s1_5, .int .i64 s1_6], 7⟩, ⟨b402, [.int .i64 a0_0, .int .i64 a0_1], 2⟩] : List Own)) (news := [.int .i64 t413]) rfl rfl rfl rfl (sel_perm (is := [4]) (by kernel_rfl)) (.at 0 rfl rfl) (by kernel_rfl) rfl rfl (by decide) (by decide) rfl fun g429 ng429 => ?_
            refine t_keep [2, 3, 8, 9, 10, 20, 21, 22, 30, 31, 33] (σ' := [(2, .int .i64 i2), (3, .int .i64 n3), (8, .pointer (some ⟨b404, 0, none⟩)), (9, .slice (some ⟨g424, 0, none⟩) 3 (ng424 / 1)), (10, .slice (some ⟨g426, 0, none⟩) 3 (ng426 / 1)), (20, .slice (some ⟨N416, 1, none⟩) 3 3), (21, .int .i64 3), (22, .int .i64 2), (30, .slice (some ⟨g429, 0, none⟩) 4 (ng429 / 1)), (31, .slice (some ⟨g426, 0, none⟩) 3 (ng426 / 1)), (33, .int .i64 t414)]) (by kernel_rfl) ?_
            refine t_end ?_
            exact ⟨hg_ff g429 ng429 g428, rfl⟩
          · show T _ _ _ _ _ _ _ _
            refine t_a (.bsl rfl rfl rfl rfl) fun g430 fg430 sg430 => ?_
            refine t_keep [2, 3, 8, 9, 10, 20, 21, 22, 26, 29, 31, 34] (σ' := [(2, .int .i64 i2), (3, .int .i64 n3), (8, .pointer (some ⟨b404, 0, none⟩)), (9, .slice (some ⟨g424, 0, none⟩) 3 (ng424 / 1)), (10, .slice (some ⟨g426, 0, none⟩) 3 (ng426 / 1)), (20, .slice (some ⟨N416, 1, none⟩) 3 3), (21, .int .i64 3), (22, .int .i64 2), (26, .slice (some ⟨g424, 0, none⟩) 3 (ng424 / 1)), (29, .slice (some ⟨g428, 0, none⟩) 1 1), (31, .slice (some ⟨g426, 0, none⟩) 3 (ng426 / 1)), (34, .slice (some ⟨g430, 0, none⟩) 1 1)]) (by kernel_rfl) ?_
            refine t_end ?_
            exact ⟨hg_1ef g430 g428, rfl⟩
        have hg_7f : ∀ (g429 : Nat) (ng429 : Nat) (g428 : Nat), G [true, true, true, true, true, true, true, false, false, false, false, false] [(2, .int .i64 i2), (3, .int .i64 n3), (8, .pointer (some ⟨b404, 0, none⟩)), (9, .slice (some ⟨g424, 0, none⟩) 3 (ng424 / 1)), (10, .slice (some ⟨g426, 0, none⟩) 3 (ng426 / 1)), (20, .slice (some ⟨N416, 1, none⟩) 3 3), (21, .int .i64 3), (22, .int .i64 2), (30, .slice (some ⟨g429, 0, none⟩) 4 (ng429 / 1)), (31, .slice (some ⟨g426, 0, none⟩) 3 (ng426 / 1)), (32, .pointer (some ⟨b427, 1, none⟩))] ([⟨g429, [.int .i64 a0_0, .int .i64 t409, .int .i64 t411, .int .i64 t413], ng429⟩, ⟨g428, [.int .i64 t413], 1⟩, ⟨b427, [.int .i64 t413, .int .i64 t414], 2⟩, ⟨g426, [.int .i64 a0_1, .int .i64 t410, .int .i64 t412], ng426⟩, ⟨g425, [.int .i64 t412], 1⟩, ⟨g423, [.int .i64 t411], 1⟩, ⟨b422, [.int .i64 t411, .int .i64 t412], 2⟩, ⟨g420, [.int .i64 t410], 1⟩, ⟨g418, [.int .i64 t409], 1⟩, ⟨b417, [.int .i64 t409, .int .i64 t410], 2⟩, ⟨N416, [.int .i64 t408, .int .i64 t409, .int .i64 t410, .int .i64 t411, .int .i64 t412, .int .i64 t413, .int .i64 t414], 7⟩, ⟨b404, [.int .i64 0, .int .i64 0], 2⟩, ⟨b403, [.int .i64 3, .int .i64 s1_1, .int .i64 s1_2, .int .i64 s1_3, .int .i64 s1_4, .int .i64 s1_5, .int .i64 s1_6], 7⟩, ⟨b402, [.int .i64 a0_0, .int .i64 a0_1], 2⟩] : List Own) := by
          intro g429 ng429 g428
          refine hstep [7] _ _ _ (by kernel_rfl) (List.cons_ne_nil _ _) ⟨?_, trivial⟩
          · show T _ _ _ _ _ _ _ _
            refine t_v (.ld1 rfl rfl rfl (.at 2 rfl rfl)) ?_
            refine t_keep [2, 3, 8, 9, 10, 20, 21, 22, 30, 31, 33] (σ' := [(2, .int .i64 i2), (3, .int .i64 n3), (8, .pointer (some ⟨b404, 0, none⟩)), (9, .slice (some ⟨g424, 0, none⟩) 3 (ng424 / 1)), (10, .slice (some ⟨g426, 0, none⟩) 3 (ng426 / 1)), (20, .slice (some ⟨N416, 1, none⟩) 3 3), (21, .int .i64 3), (22, .int .i64 2), (30, .slice (some ⟨g429, 0, none⟩) 4 (ng429 / 1)), (31, .slice (some ⟨g426, 0, none⟩) 3 (ng426 / 1)), (33, .int .i64 t414)]) (by kernel_rfl) ?_
            refine t_end ?_
            exact ⟨hg_ff g429 ng429 g428, rfl⟩
        have hg_1e3 : ∀ (g430 : Nat), G [true, true, false, false, false, true, true, true, true, false, false, false] [(2, .int .i64 i2), (3, .int .i64 n3), (8, .pointer (some ⟨b404, 0, none⟩)), (9, .slice (some ⟨g424, 0, none⟩) 3 (ng424 / 1)), (10, .slice (some ⟨g426, 0, none⟩) 3 (ng426 / 1)), (20, .slice (some ⟨N416, 1, none⟩) 3 3), (21, .int .i64 3), (22, .int .i64 2), (26, .slice (some ⟨g424, 0, none⟩) 3 (ng424 / 1)), (27, .pointer (some ⟨b427, 0, none⟩)), (31, .slice (some ⟨g426, 0, none⟩) 3 (ng426 / 1)), (34, .slice (some ⟨g430, 0, none⟩) 1 1)] ([⟨g430, [.int .i64 t414], 1⟩, ⟨b427, [.int .i64 t413, .int .i64 t414], 2⟩, ⟨g426, [.int .i64 a0_1, .int .i64 t410, .int .i64 t412], ng426⟩, ⟨g425, [.int .i64 t412], 1⟩, ⟨g424, [.int .i64 a0_0, .int .i64 t409, .int .i64 t411], ng424⟩, ⟨g423, [.int .i64 t411], 1⟩, ⟨b422, [.int .i64 t411, .int .i64 t412], 2⟩, ⟨g420, [.int .i64 t410], 1⟩, ⟨g418, [.int .i64 t409], 1⟩, ⟨b417, [.int .i64 t409, .int .i64 t410], 2⟩, ⟨N416, [.int .i64 t408, .int .i64 t409, .int .i64 t410, .int .i64 t411, .int .i64 t412, .int .i64 t413, .int .i64 t414], 7⟩, ⟨b404, [.int .i64 0, .int .i64 0], 2⟩, ⟨b403, [.int .i64 3, .int .i64 s1_1, .int .i64 s1_2, .int .i64 s1_3, .int .i64 s1_4, .int .i64 s1_5, .int .i64 s1_6], 7⟩, ⟨b402, [.int .i64 a0_0, .int .i64 a0_1], 2⟩] : List Own) := by
          intro g430
          refine hstep [2] _ _ _ (by kernel_rfl) (List.cons_ne_nil _ _) ⟨?_, trivial⟩
          · show T _ _ _ _ _ _ _ _
            refine t_v (.ld1 rfl rfl rfl (.at 1 rfl rfl)) ?_
            refine t_keep [2, 3, 8, 9, 10, 20, 21, 22, 26, 28, 31, 34] (σ' := [(2, .int .i64 i2), (3, .int .i64 n3), (8, .pointer (some ⟨b404, 0, none⟩)), (9, .slice (some ⟨g424, 0, none⟩) 3 (ng424 / 1)), (10, .slice (some ⟨g426, 0, none⟩) 3 (ng426 / 1)), (20, .slice (some ⟨N416, 1, none⟩) 3 3), (21, .int .i64 3), (22, .int .i64 2), (26, .slice (some ⟨g424, 0, none⟩) 3 (ng424 / 1)), (28, .int .i64 t413), (31, .slice (some ⟨g426, 0, none⟩) 3 (ng426 / 1)), (34, .slice (some ⟨g430, 0, none⟩) 1 1)]) (by kernel_rfl) ?_
            refine t_end ?_
            exact ⟨hg_1e7 g430, rfl⟩
        have hg_e7 : G [true, true, true, false, false, true, true, true, false, false, false, false] [(2, .int .i64 i2), (3, .int .i64 n3), (8, .pointer (some ⟨b404, 0, none⟩)), (9, .slice (some ⟨g424, 0, none⟩) 3 (ng424 / 1)), (10, .slice (some ⟨g426, 0, none⟩) 3 (ng426 / 1)), (20, .slice (some ⟨N416, 1, none⟩) 3 3), (21, .int .i64 3), (22, .int .i64 2), (26, .slice (some ⟨g424, 0, none⟩) 3 (ng424 / 1)), (28, .int .i64 t413), (31, .slice (some ⟨g426, 0, none⟩) 3 (ng426 / 1)), (33, .int .i64 t414)] ([⟨b427, [.int .i64 t413, .int .i64 t414], 2⟩, ⟨g426, [.int .i64 a0_1, .int .i64 t410, .int .i64 t412], ng426⟩, ⟨g425, [.int .i64 t412], 1⟩, ⟨g424, [.int .i64 a0_0, .int .i64 t409, .int .i64 t411], ng424⟩, ⟨g423, [.int .i64 t411], 1⟩, ⟨b422, [.int .i64 t411, .int .i64 t412], 2⟩, ⟨g420, [.int .i64 t410], 1⟩, ⟨g418, [.int .i64 t409], 1⟩, ⟨b417, [.int .i64 t409, .int .i64 t410], 2⟩, ⟨N416, [.int .i64 t408, .int .i64 t409, .int .i64 t410, .int .i64 t411, .int .i64 t412, .int .i64 t413, .int .i64 t414], 7⟩, ⟨b404, [.int .i64 0, .int .i64 0], 2⟩, ⟨b403, [.int .i64 3, .int .i64 s1_1, .int .i64 s1_2, .int .i64 s1_3, .int .i64 s1_4, .int .i64 s1_5, .int .i64 s1_6], 7⟩, ⟨b402, [.int .i64 a0_0, .int .i64 a0_1], 2⟩] : List Own) := by
          refine hstep [3, 8] _ _ _ (by kernel_rfl) (List.cons_ne_nil _ _) ⟨?_, ?_, trivial⟩
          · show T _ _ _ _ _ _ _ _
            refine t_a (.bsl rfl rfl rfl rfl) fun g428 fg428 sg428 => ?_
            refine t_keep [2, 3, 8, 9, 10, 20, 21, 22, 26, 29, 31, 33] (σ' := [(2, .int .i64 i2), (3, .int .i64 n3), (8, .pointer (some ⟨b404, 0, none⟩)), (9, .slice (some ⟨g424, 0, none⟩) 3 (ng424 / 1)), (10, .slice (some ⟨g426, 0, none⟩) 3 (ng426 / 1)), (20, .slice (some ⟨N416, 1, none⟩) 3 3), (21, .int .i64 3), (22, .int .i64 2), (26, .slice (some ⟨g424, 0, none⟩) 3 (ng424 / 1)), (29, .slice (some ⟨g428, 0, none⟩) 1 1), (31, .slice (some ⟨g426, 0, none⟩) 3 (ng426 / 1)), (33, .int .i64 t414)]) (by kernel_rfl) ?_
            refine t_end ?_
            exact ⟨hg_ef g428, rfl⟩
          · show T _ _ _ _ _ _ _ _
            refine t_a (.bsl rfl rfl rfl rfl) fun g430 fg430 sg430 => ?_
            refine t_keep [2, 3, 8, 9, 10, 20, 21, 22, 26, 28, 31, 34] (σ' := [(2, .int .i64 i2), (3, .int .i64 n3), (8, .pointer (some ⟨b404, 0, none⟩)), (9, .slice (some ⟨g424, 0, none⟩) 3 (ng424 / 1)), (10, .slice (some ⟨g426, 0, none⟩) 3 (ng426 / 1)), (20, .slice (some ⟨N416, 1, none⟩) 3 3), (21, .int .i64 3), (22, .int .i64 2), (26, .slice (some ⟨g424, 0, none⟩) 3 (ng424 / 1)), (28, .int .i64 t413), (31, .slice (some ⟨g426, 0, none⟩) 3 (ng426 / 1)), (34, .slice (some ⟨g430, 0, none⟩) 1 1)]) (by kernel_rfl) ?_
            refine t_end ?_
            exact ⟨hg_1e7 g430, rfl⟩
        have hg_6f : ∀ (g428 : Nat), G [true, true, true, true, false, true, true, false, false, false, false, false] [(2, .int .i64 i2), (3, .int .i64 n3), (8, .pointer (some ⟨b404, 0, none⟩)), (9, .slice (some ⟨g424, 0, none⟩) 3 (ng424 / 1)), (10, .slice (some ⟨g426, 0, none⟩) 3 (ng426 / 1)), (20, .slice (some ⟨N416, 1, none⟩) 3 3), (21, .int .i64 3), (22, .int .i64 2), (26, .slice (some ⟨g424, 0, none⟩) 3 (ng424 / 1)), (29, .slice (some ⟨g428, 0, none⟩) 1 1), (31, .slice (some ⟨g426, 0, none⟩) 3 (ng426 / 1)), (32, .pointer (some ⟨b427, 1, none⟩))] ([⟨g428, [.int .i64 t413], 1⟩, ⟨b427, [.int .i64 t413, .int .i64 t414], 2⟩, ⟨g426, [.int .i64 a0_1, .int .i64 t410, .int .i64 t412], ng426⟩, ⟨g425, [.int .i64 t412], 1⟩, ⟨g424, [.int .i64 a0_0, .int .i64 t409, .int .i64 t411], ng424⟩, ⟨g423, [.int .i64 t411], 1⟩, ⟨b422, [.int .i64 t411, .int .i64 t412], 2⟩, ⟨g420, [.int .i64 t410], 1⟩, ⟨g418, [.int .i64 t409], 1⟩, ⟨b417, [.int .i64 t409, .int .i64 t410], 2⟩, ⟨N416, [.int .i64 t408, .int .i64 t409, .int .i64 t410, .int .i64 t411, .int .i64 t412, .int .i64 t413, .int .i64 t414], 7⟩, ⟨b404, [.int .i64 0, .int .i64 0], 2⟩, ⟨b403, [.int .i64 3, .int .i64 s1_1, .int .i64 s1_2, .int .i64 s1_3, .int .i64 s1_4, .int .i64 s1_5, .int .i64 s1_6], 7⟩, ⟨b402, [.int .i64 a0_0, .int .i64 a0_1], 2⟩] : List Own) := by
          intro g428
          refine hstep [4, 7] _ _ _ (by kernel_rfl) (List.cons_ne_nil _ _) ⟨?_, ?_, trivial⟩
          · show T _ _ _ _ _ _ _ _
            refine t_app1 (cs := [.int .i64 a0_0, .int .i64 t409, .int .i64 t411]) (M := ng424) (F := ([⟨g428, [.int .i64 t413], 1⟩, ⟨b427, [.int .i64 t413, .int .i64 t414], 2⟩, ⟨g426, [.int .i64 a0_1, .int .i64 t410, .int .i64 t412], ng426⟩, ⟨g425, [.int .i64 t412], 1⟩, ⟨g423, [.int .i64 t411], 1⟩, ⟨b422, [.int .i64 t411, .int .i64 t412], 2⟩, ⟨g420, [.int .i64 t410], 1⟩, ⟨g418, [.int .i64 t409], 1⟩, ⟨b417, [.int .i64 t409, .int .i64 t410], 2⟩, ⟨N416, [.int .i64 t408, .int .i64 t409, .int .i64 t410, .int .i64 t411, .int .i64 t412, .int .i64 t413, .int .i64 t414], 7⟩, ⟨b404, [.int .i64 0, .int .i64 0], 2⟩, ⟨b403, [.int .i64 3, .int .i64 s1_1, .int .i64 s1_2, .int .i64 s1_3, .int .i64 s1_4, .int .i64 s1_5, .int .i64 s1_6], 7⟩, ⟨b402, [.int .i64 a0_0, .int .i64 a0_1], 2⟩] : List Own)) (news := [.int .i64 t413]) rfl rfl rfl rfl (sel_perm (is := [4]) (by kernel_rfl)) (.at 0 rfl rfl) (by kernel_rfl) rfl rfl (by decide) (by decide) rfl fun g429 ng429 => ?_
            refine t_keep [2, 3, 8, 9, 10, 20, 21, 22, 30, 31, 32] (σ' := [(2, .int .i64 i2), (3, .int .i64 n3), (8, .pointer (some ⟨b404, 0, none⟩)), (9, .slice (some ⟨g424, 0, none⟩) 3 (ng424 / 1)), (10, .slice (some ⟨g426, 0, none⟩) 3 (ng426 / 1)), (20, .slice (some ⟨N416, 1, none⟩) 3 3), (21, .int .i64 3), (22, .int .i64 2), (30, .slice (some ⟨g429, 0, none⟩) 4 (ng429 / 1)), (31, .slice (some ⟨g426, 0, none⟩) 3 (ng426 / 1)), (32, .pointer (some ⟨b427, 1, none⟩))]) (by kernel_rfl) ?_
            refine t_end ?_
            exact ⟨hg_7f g429 ng429 g428, rfl⟩
          · show T _ _ _ _ _ _ _ _
            refine t_v (.ld1 rfl rfl rfl (.at 1 rfl rfl)) ?_
            refine t_keep [2, 3, 8, 9, 10, 20, 21, 22, 26, 29, 31, 33] (σ' := [(2, .int .i64 i2), (3, .int .i64 n3), (8, .pointer (some ⟨b404, 0, none⟩)), (9, .slice (some ⟨g424, 0, none⟩) 3 (ng424 / 1)), (10, .slice (some ⟨g426, 0, none⟩) 3 (ng426 / 1)), (20, .slice (some ⟨N416, 1, none⟩) 3 3), (21, .int .i64 3), (22, .int .i64 2), (26, .slice (some ⟨g424, 0, none⟩) 3 (ng424 / 1)), (29, .slice (some ⟨g428, 0, none⟩) 1 1), (31, .slice (some ⟨g426, 0, none⟩) 3 (ng426 / 1)), (33, .int .i64 t414)]) (by kernel_rfl) ?_
            refine t_end ?_
            exact ⟨hg_ef g428, rfl⟩
        have hg_e3 : G [true, true, false, false, false, true, true, true, false, false, false, false] [(2, .int .i64 i2), (3, .int .i64 n3), (8, .pointer (some ⟨b404, 0, none⟩)), (9, .slice (some ⟨g424, 0, none⟩) 3 (ng424 / 1)), (10, .slice (some ⟨g426, 0, none⟩) 3 (ng426 / 1)), (20, .slice (some ⟨N416, 1, none⟩) 3 3), (21, .int .i64 3), (22, .int .i64 2), (26, .slice (some ⟨g424, 0, none⟩) 3 (ng424 / 1)), (27, .pointer (some ⟨b427, 0, none⟩)), (31, .slice (some ⟨g426, 0, none⟩) 3 (ng426 / 1)), (33, .int .i64 t414)] ([⟨b427, [.int .i64 t413, .int .i64 t414], 2⟩, ⟨g426, [.int .i64 a0_1, .int .i64 t410, .int .i64 t412], ng426⟩, ⟨g425, [.int .i64 t412], 1⟩, ⟨g424, [.int .i64 a0_0, .int .i64 t409, .int .i64 t411], ng424⟩, ⟨g423, [.int .i64 t411], 1⟩, ⟨b422, [.int .i64 t411, .int .i64 t412], 2⟩, ⟨g420, [.int .i64 t410], 1⟩, ⟨g418, [.int .i64 t409], 1⟩, ⟨b417, [.int .i64 t409, .int .i64 t410], 2⟩, ⟨N416, [.int .i64 t408, .int .i64 t409, .int .i64 t410, .int .i64 t411, .int .i64 t412, .int .i64 t413, .int .i64 t414], 7⟩, ⟨b404, [.int .i64 0, .int .i64 0], 2⟩, ⟨b403, [.int .i64 3, .int .i64 s1_1, .int .i64 s1_2, .int .i64 s1_3, .int .i64 s1_4, .int .i64 s1_5, .int .i64 s1_6], 7⟩, ⟨b402, [.int .i64 a0_0, .int .i64 a0_1], 2⟩] : List Own) := by
          refine hstep [2, 8] _ _ _ (by kernel_rfl) (List.cons_ne_nil _ _) ⟨?_, ?_, trivial⟩
          · show T _ _ _ _ _ _ _ _
            refine t_v (.ld1 rfl rfl rfl (.at 0 rfl rfl)) ?_
            refine t_keep [2, 3, 8, 9, 10, 20, 21, 22, 26, 28, 31, 33] (σ' := [(2, .int .i64 i2), (3, .int .i64 n3), (8, .pointer (some ⟨b404, 0, none⟩)), (9, .slice (some ⟨g424, 0, none⟩) 3 (ng424 / 1)), (10, .slice (some ⟨g426, 0, none⟩) 3 (ng426 / 1)), (20, .slice (some ⟨N416, 1, none⟩) 3 3), (21, .int .i64 3), (22, .int .i64 2), (26, .slice (some ⟨g424, 0, none⟩) 3 (ng424 / 1)), (28, .int .i64 t413), (31, .slice (some ⟨g426, 0, none⟩) 3 (ng426 / 1)), (33, .int .i64 t414)]) (by kernel_rfl) ?_
            refine t_end ?_
            exact ⟨hg_e7, rfl⟩
          · show T _ _ _ _ _ _ _ _
            refine t_a (.bsl rfl rfl rfl rfl) fun g430 fg430 sg430 => ?_
            refine t_keep [2, 3, 8, 9, 10, 20, 21, 22, 26, 27, 31, 34] (σ' := [(2, .int .i64 i2), (3, .int .i64 n3), (8, .pointer (some ⟨b404, 0, none⟩)), (9, .slice (some ⟨g424, 0, none⟩) 3 (ng424 / 1)), (10, .slice (some ⟨g426, 0, none⟩) 3 (ng426 / 1)), (20, .slice (some ⟨N416, 1, none⟩) 3 3), (21, .int .i64 3), (22, .int .i64 2), (26, .slice (some ⟨g424, 0, none⟩) 3 (ng424 / 1)), (27, .pointer (some ⟨b427, 0, none⟩)), (31, .slice (some ⟨g426, 0, none⟩) 3 (ng426 / 1)), (34, .slice (some ⟨g430, 0, none⟩) 1 1)]) (by kernel_rfl) ?_
            refine t_end ?_
            exact ⟨hg_1e3 g430, rfl⟩
        have hg_67 : G [true, true, true, false, false, true, true, false, false, false, false, false] [(2, .int .i64 i2), (3, .int .i64 n3), (8, .pointer (some ⟨b404, 0, none⟩)), (9, .slice (some ⟨g424, 0, none⟩) 3 (ng424 / 1)), (10, .slice (some ⟨g426, 0, none⟩) 3 (ng426 / 1)), (20, .slice (some ⟨N416, 1, none⟩) 3 3), (21, .int .i64 3), (22, .int .i64 2), (26, .slice (some ⟨g424, 0, none⟩) 3 (ng424 / 1)), (28, .int .i64 t413), (31, .slice (some ⟨g426, 0, none⟩) 3 (ng426 / 1)), (32, .pointer (some ⟨b427, 1, none⟩))] ([⟨b427, [.int .i64 t413, .int .i64 t414], 2⟩, ⟨g426, [.int .i64 a0_1, .int .i64 t410, .int .i64 t412], ng426⟩, ⟨g425, [.int .i64 t412], 1⟩, ⟨g424, [.int .i64 a0_0, .int .i64 t409, .int .i64 t411], ng424⟩, ⟨g423, [.int .i64 t411], 1⟩, ⟨b422, [.int .i64 t411, .int .i64 t412], 2⟩, ⟨g420, [.int .i64 t410], 1⟩, ⟨g418, [.int .i64 t409], 1⟩, ⟨b417, [.int .i64 t409, .int .i64 t410], 2⟩, ⟨N416, [.int .i64 t408, .int .i64 t409, .int .i64 t410, .int .i64 t411, .int .i64 t412, .int .i64 t413, .int .i64 t414], 7⟩, ⟨b404, [.int .i64 0, .int .i64 0], 2⟩, ⟨b403, [.int .i64 3, .int .i64 s1_1, .int .i64 s1_2, .int .i64 s1_3, .int .i64 s1_4, .int .i64 s1_5, .int .i64 s1_6], 7⟩, ⟨b402, [.int .i64 a0_0, .int .i64 a0_1], 2⟩] : List Own) := by
          refine hstep [3, 7] _ _ _ (by kernel_rfl) (List.cons_ne_nil _ _) ⟨?_, ?_, trivial⟩
          · show T _ _ _ _ _ _ _ _
            refine t_a (.bsl rfl rfl rfl rfl) fun g428 fg428 sg428 => ?_
            refine t_keep [2, 3, 8, 9, 10, 20, 21, 22, 26, 29, 31, 32] (σ' := [(2, .int .i64 i2), (3, .int .i64 n3), (8, .pointer (some ⟨b404, 0, none⟩)), (9, .slice (some ⟨g424, 0, none⟩) 3 (ng424 / 1)), (10, .slice (some ⟨g426, 0, none⟩) 3 (ng426 / 1)), (20, .slice (some ⟨N416, 1, none⟩) 3 3), (21, .int .i64 3), (22, .int .i64 2), (26, .slice (some ⟨g424, 0, none⟩) 3 (ng424 / 1)), (29, .slice (some ⟨g428, 0, none⟩) 1 1), (31, .slice (some ⟨g426, 0, none⟩) 3 (ng426 / 1)), (32, .pointer (some ⟨b427, 1, none⟩))]) (by kernel_rfl) ?_
            refine t_end ?_
            exact ⟨hg_6f g428, rfl⟩
          · show T _ _ _ _ _ _ _ _
            refine t_v (.ld1 rfl rfl rfl (.at 0 rfl rfl)) ?_
            refine t_keep [2, 3, 8, 9, 10, 20, 21, 22, 26, 28, 31, 33] (σ' := [(2, .int .i64 i2), (3, .int .i64 n3), (8, .pointer (some ⟨b404, 0, none⟩)), (9, .slice (some ⟨g424, 0, none⟩) 3 (ng424 / 1)), (10, .slice (some ⟨g426, 0, none⟩) 3 (ng426 / 1)), (20, .slice (some ⟨N416, 1, none⟩) 3 3), (21, .int .i64 3), (22, .int .i64 2), (26, .slice (some ⟨g424, 0, none⟩) 3 (ng424 / 1)), (28, .int .i64 t413), (31, .slice (some ⟨g426, 0, none⟩) 3 (ng426 / 1)), (33, .int .i64 t414)]) (by kernel_rfl) ?_
            refine t_end ?_
            exact ⟨hg_e7, rfl⟩
        have hg_63 : G [true, true, false, false, false, true, true, false, false, false, false, false] [(2, .int .i64 i2), (3, .int .i64 n3), (8, .pointer (some ⟨b404, 0, none⟩)), (9, .slice (some ⟨g424, 0, none⟩) 3 (ng424 / 1)), (10, .slice (some ⟨g426, 0, none⟩) 3 (ng426 / 1)), (20, .slice (some ⟨N416, 1, none⟩) 3 3), (21, .int .i64 3), (22, .int .i64 2), (26, .slice (some ⟨g424, 0, none⟩) 3 (ng424 / 1)), (27, .pointer (some ⟨b427, 0, none⟩)), (31, .slice (some ⟨g426, 0, none⟩) 3 (ng426 / 1)), (32, .pointer (some ⟨b427, 1, none⟩))] ([⟨b427, [.int .i64 t413, .int .i64 t414], 2⟩, ⟨g426, [.int .i64 a0_1, .int .i64 t410, .int .i64 t412], ng426⟩, ⟨g425, [.int .i64 t412], 1⟩, ⟨g424, [.int .i64 a0_0, .int .i64 t409, .int .i64 t411], ng424⟩, ⟨g423, [.int .i64 t411], 1⟩, ⟨b422, [.int .i64 t411, .int .i64 t412], 2⟩, ⟨g420, [.int .i64 t410], 1⟩, ⟨g418, [.int .i64 t409], 1⟩, ⟨b417, [.int .i64 t409, .int .i64 t410], 2⟩, ⟨N416, [.int .i64 t408, .int .i64 t409, .int .i64 t410, .int .i64 t411, .int .i64 t412, .int .i64 t413, .int .i64 t414], 7⟩, ⟨b404, [.int .i64 0, .int .i64 0], 2⟩, ⟨b403, [.int .i64 3, .int .i64 s1_1, .int .i64 s1_2, .int .i64 s1_3, .int .i64 s1_4, .int .i64 s1_5, .int .i64 s1_6], 7⟩, ⟨b402, [.int .i64 a0_0, .int .i64 a0_1], 2⟩] : List Own) := by
          refine hstep [2, 7] _ _ _ (by kernel_rfl) (List.cons_ne_nil _ _) ⟨?_, ?_, trivial⟩
          · show T _ _ _ _ _ _ _ _
            refine t_v (.ld1 rfl rfl rfl (.at 0 rfl rfl)) ?_
            refine t_keep [2, 3, 8, 9, 10, 20, 21, 22, 26, 28, 31, 32] (σ' := [(2, .int .i64 i2), (3, .int .i64 n3), (8, .pointer (some ⟨b404, 0, none⟩)), (9, .slice (some ⟨g424, 0, none⟩) 3 (ng424 / 1)), (10, .slice (some ⟨g426, 0, none⟩) 3 (ng426 / 1)), (20, .slice (some ⟨N416, 1, none⟩) 3 3), (21, .int .i64 3), (22, .int .i64 2), (26, .slice (some ⟨g424, 0, none⟩) 3 (ng424 / 1)), (28, .int .i64 t413), (31, .slice (some ⟨g426, 0, none⟩) 3 (ng426 / 1)), (32, .pointer (some ⟨b427, 1, none⟩))]) (by kernel_rfl) ?_
            refine t_end ?_
            exact ⟨hg_67, rfl⟩
          · show T _ _ _ _ _ _ _ _
            refine t_v (.ld1 rfl rfl rfl (.at 0 rfl rfl)) ?_
            refine t_keep [2, 3, 8, 9, 10, 20, 21, 22, 26, 27, 31, 33] (σ' := [(2, .int .i64 i2), (3, .int .i64 n3), (8, .pointer (some ⟨b404, 0, none⟩)), (9, .slice (some ⟨g424, 0, none⟩) 3 (ng424 / 1)), (10, .slice (some ⟨g426, 0, none⟩) 3 (ng426 / 1)), (20, .slice (some ⟨N416, 1, none⟩) 3 3), (21, .int .i64 3), (22, .int .i64 2), (26, .slice (some ⟨g424, 0, none⟩) 3 (ng424 / 1)), (27, .pointer (some ⟨b427, 0, none⟩)), (31, .slice (some ⟨g426, 0, none⟩) 3 (ng426 / 1)), (33, .int .i64 t414)]) (by kernel_rfl) ?_
            refine t_end ?_
            exact ⟨hg_e3, rfl⟩
        have hg_23 : G [true, true, false, false, false, true, false, false, false, false, false, false] [(2, .int .i64 i2), (3, .int .i64 n3), (8, .pointer (some ⟨b404, 0, none⟩)), (9, .slice (some ⟨g424, 0, none⟩) 3 (ng424 / 1)), (10, .slice (some ⟨g426, 0, none⟩) 3 (ng426 / 1)), (12, .pointer (some ⟨b427, 0, none⟩)), (20, .slice (some ⟨N416, 1, none⟩) 3 3), (21, .int .i64 3), (22, .int .i64 2), (26, .slice (some ⟨g424, 0, none⟩) 3 (ng424 / 1)), (27, .pointer (some ⟨b427, 0, none⟩)), (31, .slice (some ⟨g426, 0, none⟩) 3 (ng426 / 1))] ([⟨b427, [.int .i64 t413, .int .i64 t414], 2⟩, ⟨g426, [.int .i64 a0_1, .int .i64 t410, .int .i64 t412], ng426⟩, ⟨g425, [.int .i64 t412], 1⟩, ⟨g424, [.int .i64 a0_0, .int .i64 t409, .int .i64 t411], ng424⟩, ⟨g423, [.int .i64 t411], 1⟩, ⟨b422, [.int .i64 t411, .int .i64 t412], 2⟩, ⟨g420, [.int .i64 t410], 1⟩, ⟨g418, [.int .i64 t409], 1⟩, ⟨b417, [.int .i64 t409, .int .i64 t410], 2⟩, ⟨N416, [.int .i64 t408, .int .i64 t409, .int .i64 t410, .int .i64 t411, .int .i64 t412, .int .i64 t413, .int .i64 t414], 7⟩, ⟨b404, [.int .i64 0, .int .i64 0], 2⟩, ⟨b403, [.int .i64 3, .int .i64 s1_1, .int .i64 s1_2, .int .i64 s1_3, .int .i64 s1_4, .int .i64 s1_5, .int .i64 s1_6], 7⟩, ⟨b402, [.int .i64 a0_0, .int .i64 a0_1], 2⟩] : List Own) := by
          exact hqf 6 [2, 3, 8, 9, 10, 20, 21, 22, 26, 27, 31, 32] _ _ _ [(2, .int .i64 i2), (3, .int .i64 n3), (8, .pointer (some ⟨b404, 0, none⟩)), (9, .slice (some ⟨g424, 0, none⟩) 3 (ng424 / 1)), (10, .slice (some ⟨g426, 0, none⟩) 3 (ng426 / 1)), (20, .slice (some ⟨N416, 1, none⟩) 3 3), (21, .int .i64 3), (22, .int .i64 2), (26, .slice (some ⟨g424, 0, none⟩) 3 (ng424 / 1)), (27, .pointer (some ⟨b427, 0, none⟩)), (31, .slice (some ⟨g426, 0, none⟩) 3 (ng426 / 1)), (32, .pointer (some ⟨b427, 1, none⟩))] (by kernel_rfl) (by kernel_rfl) hg_63
        have hg_3 : G [true, true, false, false, false, false, false, false, false, false, false, false] [(2, .int .i64 i2), (3, .int .i64 n3), (8, .pointer (some ⟨b404, 0, none⟩)), (9, .slice (some ⟨g424, 0, none⟩) 3 (ng424 / 1)), (10, .slice (some ⟨g426, 0, none⟩) 3 (ng426 / 1)), (12, .pointer (some ⟨b427, 0, none⟩)), (20, .slice (some ⟨N416, 1, none⟩) 3 3), (21, .int .i64 3), (22, .int .i64 2), (26, .slice (some ⟨g424, 0, none⟩) 3 (ng424 / 1)), (27, .pointer (some ⟨b427, 0, none⟩))] ([⟨b427, [.int .i64 t413, .int .i64 t414], 2⟩, ⟨g426, [.int .i64 a0_1, .int .i64 t410, .int .i64 t412], ng426⟩, ⟨g425, [.int .i64 t412], 1⟩, ⟨g424, [.int .i64 a0_0, .int .i64 t409, .int .i64 t411], ng424⟩, ⟨g423, [.int .i64 t411], 1⟩, ⟨b422, [.int .i64 t411, .int .i64 t412], 2⟩, ⟨g420, [.int .i64 t410], 1⟩, ⟨g418, [.int .i64 t409], 1⟩, ⟨b417, [.int .i64 t409, .int .i64 t410], 2⟩, ⟨N416, [.int .i64 t408, .int .i64 t409, .int .i64 t410, .int .i64 t411, .int .i64 t412, .int .i64 t413, .int .i64 t414], 7⟩, ⟨b404, [.int .i64 0, .int .i64 0], 2⟩, ⟨b403, [.int .i64 3, .int .i64 s1_1, .int .i64 s1_2, .int .i64 s1_3, .int .i64 s1_4, .int .i64 s1_5, .int .i64 s1_6], 7⟩, ⟨b402, [.int .i64 a0_0, .int .i64 a0_1], 2⟩] : List Own) := by
          exact hqf 5 [2, 3, 8, 9, 10, 12, 20, 21, 22, 26, 27, 31] _ _ _ [(2, .int .i64 i2), (3, .int .i64 n3), (8, .pointer (some ⟨b404, 0, none⟩)), (9, .slice (some ⟨g424, 0, none⟩) 3 (ng424 / 1)), (10, .slice (some ⟨g426, 0, none⟩) 3 (ng426 / 1)), (12, .pointer (some ⟨b427, 0, none⟩)), (20, .slice (some ⟨N416, 1, none⟩) 3 3), (21, .int .i64 3), (22, .int .i64 2), (26, .slice (some ⟨g424, 0, none⟩) 3 (ng424 / 1)), (27, .pointer (some ⟨b427, 0, none⟩)), (31, .slice (some ⟨g426, 0, none⟩) 3 (ng426 / 1))] (by kernel_rfl) (by kernel_rfl) hg_23
        have hg_1 : G [true, false, false, false, false, false, false, false, false, false, false, false] [(2, .int .i64 i2), (3, .int .i64 n3), (8, .pointer (some ⟨b404, 0, none⟩)), (9, .slice (some ⟨g424, 0, none⟩) 3 (ng424 / 1)), (10, .slice (some ⟨g426, 0, none⟩) 3 (ng426 / 1)), (12, .pointer (some ⟨b427, 0, none⟩)), (20, .slice (some ⟨N416, 1, none⟩) 3 3), (21, .int .i64 3), (22, .int .i64 2), (26, .slice (some ⟨g424, 0, none⟩) 3 (ng424 / 1))] ([⟨b427, [.int .i64 t413, .int .i64 t414], 2⟩, ⟨g426, [.int .i64 a0_1, .int .i64 t410, .int .i64 t412], ng426⟩, ⟨g425, [.int .i64 t412], 1⟩, ⟨g424, [.int .i64 a0_0, .int .i64 t409, .int .i64 t411], ng424⟩, ⟨g423, [.int .i64 t411], 1⟩, ⟨b422, [.int .i64 t411, .int .i64 t412], 2⟩, ⟨g420, [.int .i64 t410], 1⟩, ⟨g418, [.int .i64 t409], 1⟩, ⟨b417, [.int .i64 t409, .int .i64 t410], 2⟩, ⟨N416, [.int .i64 t408, .int .i64 t409, .int .i64 t410, .int .i64 t411, .int .i64 t412, .int .i64 t413, .int .i64 t414], 7⟩, ⟨b404, [.int .i64 0, .int .i64 0], 2⟩, ⟨b403, [.int .i64 3, .int .i64 s1_1, .int .i64 s1_2, .int .i64 s1_3, .int .i64 s1_4, .int .i64 s1_5, .int .i64 s1_6], 7⟩, ⟨b402, [.int .i64 a0_0, .int .i64 a0_1], 2⟩] : List Own) := by
          exact hqf 1 [2, 3, 8, 9, 10, 12, 20, 21, 22, 26, 27] _ _ _ [(2, .int .i64 i2), (3, .int .i64 n3), (8, .pointer (some ⟨b404, 0, none⟩)), (9, .slice (some ⟨g424, 0, none⟩) 3 (ng424 / 1)), (10, .slice (some ⟨g426, 0, none⟩) 3 (ng426 / 1)), (12, .pointer (some ⟨b427, 0, none⟩)), (20, .slice (some ⟨N416, 1, none⟩) 3 3), (21, .int .i64 3), (22, .int .i64 2), (26, .slice (some ⟨g424, 0, none⟩) 3 (ng424 / 1)), (27, .pointer (some ⟨b427, 0, none⟩))] (by kernel_rfl) (by kernel_rfl) hg_3
        have hg_0 : G [false, false, false, false, false, false, false, false, false, false, false, false] [(2, .int .i64 i2), (3, .int .i64 n3), (8, .pointer (some ⟨b404, 0, none⟩)), (9, .slice (some ⟨g424, 0, none⟩) 3 (ng424 / 1)), (10, .slice (some ⟨g426, 0, none⟩) 3 (ng426 / 1)), (12, .pointer (some ⟨b427, 0, none⟩)), (20, .slice (some ⟨N416, 1, none⟩) 3 3), (21, .int .i64 3), (22, .int .i64 2)] ([⟨b427, [.int .i64 t413, .int .i64 t414], 2⟩, ⟨g426, [.int .i64 a0_1, .int .i64 t410, .int .i64 t412], ng426⟩, ⟨g425, [.int .i64 t412], 1⟩, ⟨g424, [.int .i64 a0_0, .int .i64 t409, .int .i64 t411], ng424⟩, ⟨g423, [.int .i64 t411], 1⟩, ⟨b422, [.int .i64 t411, .int .i64 t412], 2⟩, ⟨g420, [.int .i64 t410], 1⟩, ⟨g418, [.int .i64 t409], 1⟩, ⟨b417, [.int .i64 t409, .int .i64 t410], 2⟩, ⟨N416, [.int .i64 t408, .int .i64 t409, .int .i64 t410, .int .i64 t411, .int .i64 t412, .int .i64 t413, .int .i64 t414], 7⟩, ⟨b404, [.int .i64 0, .int .i64 0], 2⟩, ⟨b403, [.int .i64 3, .int .i64 s1_1, .int .i64 s1_2, .int .i64 s1_3, .int .i64 s1_4, .int .i64 s1_5, .int .i64 s1_6], 7⟩, ⟨b402, [.int .i64 a0_0, .int .i64 a0_1], 2⟩] : List Own) := by
          exact hqf 0 [2, 3, 8, 9, 10, 12, 20, 21, 22, 26] _ _ _ [(2, .int .i64 i2), (3, .int .i64 n3), (8, .pointer (some ⟨b404, 0, none⟩)), (9, .slice (some ⟨g424, 0, none⟩) 3 (ng424 / 1)), (10, .slice (some ⟨g426, 0, none⟩) 3 (ng426 / 1)), (12, .pointer (some ⟨b427, 0, none⟩)), (20, .slice (some ⟨N416, 1, none⟩) 3 3), (21, .int .i64 3), (22, .int .i64 2), (26, .slice (some ⟨g424, 0, none⟩) 3 (ng424 / 1))] (by kernel_rfl) (by kernel_rfl) hg_1
        exact hg_0
      have hg_7ff : ∀ (g426 : Nat) (ng426 : Nat) (g425 : Nat) (g424 : Nat) (ng424 : Nat) (g423 : Nat), G [true, true, true, true, true, true, true, true, true, true, true, false] [(2, .int .i64 i2), (3, .int .i64 n3), (8, .pointer (some ⟨b404, 0, none⟩)), (9, .slice (some ⟨g424, 0, none⟩) 3 (ng424 / 1)), (10, .slice (some ⟨g421, 0, none⟩) 2 (ng421 / 1)), (20, .slice (some ⟨N416, 1, none⟩) 3 3), (21, .int .i64 3), (22, .int .i64 1), (35, .slice (some ⟨g426, 0, none⟩) 3 (ng426 / 1))] ([⟨g426, [.int .i64 a0_1, .int .i64 t410, .int .i64 t412], ng426⟩, ⟨g425, [.int .i64 t412], 1⟩, ⟨g424, [.int .i64 a0_0, .int .i64 t409, .int .i64 t411], ng424⟩, ⟨g423, [.int .i64 t411], 1⟩, ⟨b422, [.int .i64 t411, .int .i64 t412], 2⟩, ⟨g420, [.int .i64 t410], 1⟩, ⟨g418, [.int .i64 t409], 1⟩, ⟨b417, [.int .i64 t409, .int .i64 t410], 2⟩, ⟨N416, [.int .i64 t408, .int .i64 t409, .int .i64 t410, .int .i64 t411, .int .i64 t412, .int .i64 t413, .int .i64 t414], 7⟩, ⟨b404, [.int .i64 0, .int .i64 0], 2⟩, ⟨b403, [.int .i64 3, .int .i64 s1_1, .int .i64 s1_2, .int .i64 s1_3, .int .i64 s1_4, .int .i64 s1_5, .int .i64 s1_6], 7⟩, ⟨b402, [.int .i64 a0_0, .int .i64 a0_1], 2⟩] : List Own) := by
        intro g426 ng426 g425 g424 ng424 g423
        exact hqf 11 [2, 3, 8, 9, 10, 20, 21, 22] _ _ _ [(2, .int .i64 i2), (3, .int .i64 n3), (8, .pointer (some ⟨b404, 0, none⟩)), (9, .slice (some ⟨g424, 0, none⟩) 3 (ng424 / 1)), (10, .slice (some ⟨g426, 0, none⟩) 3 (ng426 / 1)), (20, .slice (some ⟨N416, 1, none⟩) 3 3), (21, .int .i64 3), (22, .int .i64 1)] (by kernel_rfl) (by kernel_rfl) (hg_fff g426 ng426 g425 g424 ng424 g423)
      have hg_3ff : ∀ (g426 : Nat) (ng426 : Nat) (g425 : Nat) (g424 : Nat) (ng424 : Nat) (g423 : Nat), G [true, true, true, true, true, true, true, true, true, true, false, false] [(2, .int .i64 i2), (3, .int .i64 n3), (8, .pointer (some ⟨b404, 0, none⟩)), (9, .slice (some ⟨g419, 0, none⟩) 2 (ng419 / 1)), (10, .slice (some ⟨g421, 0, none⟩) 2 (ng421 / 1)), (20, .slice (some ⟨N416, 1, none⟩) 3 3), (21, .int .i64 3), (22, .int .i64 1), (30, .slice (some ⟨g424, 0, none⟩) 3 (ng424 / 1)), (35, .slice (some ⟨g426, 0, none⟩) 3 (ng426 / 1))] ([⟨g426, [.int .i64 a0_1, .int .i64 t410, .int .i64 t412], ng426⟩, ⟨g425, [.int .i64 t412], 1⟩, ⟨g424, [.int .i64 a0_0, .int .i64 t409, .int .i64 t411], ng424⟩, ⟨g423, [.int .i64 t411], 1⟩, ⟨b422, [.int .i64 t411, .int .i64 t412], 2⟩, ⟨g420, [.int .i64 t410], 1⟩, ⟨g418, [.int .i64 t409], 1⟩, ⟨b417, [.int .i64 t409, .int .i64 t410], 2⟩, ⟨N416, [.int .i64 t408, .int .i64 t409, .int .i64 t410, .int .i64 t411, .int .i64 t412, .int .i64 t413, .int .i64 t414], 7⟩, ⟨b404, [.int .i64 0, .int .i64 0], 2⟩, ⟨b403, [.int .i64 3, .int .i64 s1_1, .int .i64 s1_2, .int .i64 s1_3, .int .i64 s1_4, .int .i64 s1_5, .int .i64 s1_6], 7⟩, ⟨b402, [.int .i64 a0_0, .int .i64 a0_1], 2⟩] : List Own) := by
        intro g426 ng426 g425 g424 ng424 g423
        exact hqf 10 [2, 3, 8, 9, 10, 20, 21, 22, 35] _ _ _ [(2, .int .i64 i2), (3, .int .i64 n3), (8, .pointer (some ⟨b404, 0, none⟩)), (9, .slice (some ⟨g424, 0, none⟩) 3 (ng424 / 1)), (10, .slice (some ⟨g421, 0, none⟩) 2 (ng421 / 1)), (20, .slice (some ⟨N416, 1, none⟩) 3 3), (21, .int .i64 3), (22, .int .i64 1), (35, .slice (some ⟨g426, 0, none⟩) 3 (ng426 / 1))] (by kernel_rfl) (by kernel_rfl) (hg_7ff g426 ng426 g425 g424 ng424 g423)
      have hg_1ff : ∀ (g425 : Nat) (g424 : Nat) (ng424 : Nat) (g423 : Nat), G [true, true, true, true, true, true, true, true, true, false, false, false] [(2, .int .i64 i2), (3, .int .i64 n3), (8, .pointer (some ⟨b404, 0, none⟩)), (9, .slice (some ⟨g419, 0, none⟩) 2 (ng419 / 1)), (10, .slice (some ⟨g421, 0, none⟩) 2 (ng421 / 1)), (20, .slice (some ⟨N416, 1, none⟩) 3 3), (21, .int .i64 3), (22, .int .i64 1), (30, .slice (some ⟨g424, 0, none⟩) 3 (ng424 / 1)), (31, .slice (some ⟨g421, 0, none⟩) 2 (ng421 / 1)), (34, .slice (some ⟨g425, 0, none⟩) 1 1)] ([⟨g425, [.int .i64 t412], 1⟩, ⟨g424, [.int .i64 a0_0, .int .i64 t409, .int .i64 t411], ng424⟩, ⟨g423, [.int .i64 t411], 1⟩, ⟨b422, [.int .i64 t411, .int .i64 t412], 2⟩, ⟨g421, [.int .i64 a0_1, .int .i64 t410], ng421⟩, ⟨g420, [.int .i64 t410], 1⟩, ⟨g418, [.int .i64 t409], 1⟩, ⟨b417, [.int .i64 t409, .int .i64 t410], 2⟩, ⟨N416, [.int .i64 t408, .int .i64 t409, .int .i64 t410, .int .i64 t411, .int .i64 t412, .int .i64 t413, .int .i64 t414], 7⟩, ⟨b404, [.int .i64 0, .int .i64 0], 2⟩, ⟨b403, [.int .i64 3, .int .i64 s1_1, .int .i64 s1_2, .int .i64 s1_3, .int .i64 s1_4, .int .i64 s1_5, .int .i64 s1_6], 7⟩, ⟨b402, [.int .i64 a0_0, .int .i64 a0_1], 2⟩] : List Own) := by
        intro g425 g424 ng424 g423
        refine hstep [9] _ _ _ (by kernel_rfl) (List.cons_ne_nil _ _) ⟨?_, trivial⟩
        · show T _ _ _ _ _ _ _ _
          refine t_app1 (cs := [.int .i64 a0_1, .int .i64 t410]) (M := ng421) (F := ([⟨g425, [.int .i64 t412], 1⟩, ⟨g424, [.int .i64 a0_0, .int .i64 t409, .int .i64 t411], ng424⟩, ⟨g423, [.int .i64 t411], 1⟩, ⟨b422, [.int .i64 t411, .int .i64 t412], 2⟩, ⟨g420, [.int .i64 t410], 1⟩, ⟨g418, [.int .i64 t409], 1⟩, ⟨b417, [.int .i64 t409, .int .i64 t410], 2⟩, ⟨N416, [.int .i64 t408, .int .i64 t409, .int .i64 t410, .int .i64 t411, .int .i64 t412, .int .i64 t413, .int .i64 t414], 7⟩, ⟨b404, [.int .i64 0, .int .i64 0], 2⟩, ⟨b403, [.int .i64 3, .int .i64 s1_1, .int .i64 s1_2, .int .i64 s1_3, .int .i64 s1_4, .int .i64 s1_5, .int .i64 s1_6], 7⟩, ⟨b402, [.int .i64 a0_0, .int .i64 a0_1], 2⟩] : List Own)) (news := [.int .i64 t412]) rfl rfl rfl rfl (sel_perm (is := [4]) (by kernel_rfl)) (.at 0 rfl rfl) (by kernel_rfl) rfl rfl (by decide) (by decide) rfl fun g426 ng426 => ?_
          refine t_keep [2, 3, 8, 9, 10, 20, 21, 22, 30, 35] (σ' := [(2, .int .i64 i2), (3, .int .i64 n3), (8, .pointer (some ⟨b404, 0, none⟩)), (9, .slice (some ⟨g419, 0, none⟩) 2 (ng419 / 1)), (10, .slice (some ⟨g421, 0, none⟩) 2 (ng421 / 1)), (20, .slice (some ⟨N416, 1, none⟩) 3 3), (21, .int .i64 3), (22, .int .i64 1), (30, .slice (some ⟨g424, 0, none⟩) 3 (ng424 / 1)), (35, .slice (some ⟨g426, 0, none⟩) 3 (ng426 / 1))]) (by kernel_rfl) ?_
          refine t_end ?_
          exact ⟨hg_3ff g426 ng426 g425 g424 ng424 g423, rfl⟩
      have hg_ff : ∀ (g424 : Nat) (ng424 : Nat) (g423 : Nat), G [true, true, true, true, true, true, true, true, false, false, false, false] [(2, .int .i64 i2), (3, .int .i64 n3), (8, .pointer (some ⟨b404, 0, none⟩)), (9, .slice (some ⟨g419, 0, none⟩) 2 (ng419 / 1)), (10, .slice (some ⟨g421, 0, none⟩) 2 (ng421 / 1)), (20, .slice (some ⟨N416, 1, none⟩) 3 3), (21, .int .i64 3), (22, .int .i64 1), (30, .slice (some ⟨g424, 0, none⟩) 3 (ng424 / 1)), (31, .slice (some ⟨g421, 0, none⟩) 2 (ng421 / 1)), (33, .int .i64 t412)] ([⟨g424, [.int .i64 a0_0, .int .i64 t409, .int .i64 t411], ng424⟩, ⟨g423, [.int .i64 t411], 1⟩, ⟨b422, [.int .i64 t411, .int .i64 t412], 2⟩, ⟨g421, [.int .i64 a0_1, .int .i64 t410], ng421⟩, ⟨g420, [.int .i64 t410], 1⟩, ⟨g418, [.int .i64 t409], 1⟩, ⟨b417, [.int .i64 t409, .int .i64 t410], 2⟩, ⟨N416, [.int .i64 t408, .int .i64 t409, .int .i64 t410, .int .i64 t411, .int .i64 t412, .int .i64 t413, .int .i64 t414], 7⟩, ⟨b404, [.int .i64 0, .int .i64 0], 2⟩, ⟨b403, [.int .i64 3, .int .i64 s1_1, .int .i64 s1_2, .int .i64 s1_3, .int .i64 s1_4, .int .i64 s1_5, .int .i64 s1_6], 7⟩, ⟨b402, [.int .i64 a0_0, .int .i64 a0_1], 2⟩] : List Own) := by
        intro g424 ng424 g423
        refine hstep [8] _ _ _ (by kernel_rfl) (List.cons_ne_nil _ _) ⟨?_, trivial⟩
        · show T _ _ _ _ _ _ _ _
          refine t_a (.bsl rfl rfl rfl rfl) fun g425 fg425 sg425 => ?_
          refine t_keep [2, 3, 8, 9, 10, 20, 21, 22, 30, 31, 34] (σ' := [(2, .int .i64 i2), (3, .int .i64 n3), (8, .pointer (some ⟨b404, 0, none⟩)), (9, .slice (some ⟨g419, 0, none⟩) 2 (ng419 / 1)), (10, .slice (some ⟨g421, 0, none⟩) 2 (ng421 / 1)), (20, .slice (some ⟨N416, 1, none⟩) 3 3), (21, .int .i64 3), (22, .int .i64 1), (30, .slice (some ⟨g424, 0, none⟩) 3 (ng424 / 1)), (31, .slice (some ⟨g421, 0, none⟩) 2 (ng421 / 1)), (34, .slice (some ⟨g425, 0, none⟩) 1 1)]) (by kernel_rfl) ?_
          refine t_end ?_
          exact ⟨hg_1ff g425 g424 ng424 g423, rfl⟩
      have hg_1ef : ∀ (g425 : Nat) (g423 : Nat), G [true, true, true, true, false, true, true, true, true, false, false, false] [(2, .int .i64 i2), (3, .int .i64 n3), (8, .pointer (some ⟨b404, 0, none⟩)), (9, .slice (some ⟨g419, 0, none⟩) 2 (ng419 / 1)), (10, .slice (some ⟨g421, 0, none⟩) 2 (ng421 / 1)), (20, .slice (some ⟨N416, 1, none⟩) 3 3), (21, .int .i64 3), (22, .int .i64 1), (26, .slice (some ⟨g419, 0, none⟩) 2 (ng419 / 1)), (29, .slice (some ⟨g423, 0, none⟩) 1 1), (31, .slice (some ⟨g421, 0, none⟩) 2 (ng421 / 1)), (34, .slice (some ⟨g425, 0, none⟩) 1 1)] ([⟨g425, [.int .i64 t412], 1⟩, ⟨g423, [.int .i64 t411], 1⟩, ⟨b422, [.int .i64 t411, .int .i64 t412], 2⟩, ⟨g421, [.int .i64 a0_1, .int .i64 t410], ng421⟩, ⟨g420, [.int .i64 t410], 1⟩, ⟨g419, [.int .i64 a0_0, .int .i64 t409], ng419⟩, ⟨g418, [.int .i64 t409], 1⟩, ⟨b417, [.int .i64 t409, .int .i64 t410], 2⟩, ⟨N416, [.int .i64 t408, .int .i64 t409, .int .i64 t410, .int .i64 t411, .int .i64 t412, .int .i64 t413, .int .i64 t414], 7⟩, ⟨b404, [.int .i64 0, .int .i64 0], 2⟩, ⟨b403, [.int .i64 3, .int .i64 s1_1, .int .i64 s1_2, .int .i64 s1_3, .int .i64 s1_4, .int .i64 s1_5, .int .i64 s1_6], 7⟩, ⟨b402, [.int .i64 a0_0, .int .i64 a0_1], 2⟩] : List Own) := by
        intro g425 g423
        refine hstep [4] _ _ _ (by kernel_rfl) (List.cons_ne_nil _ _) ⟨?_, trivial⟩
        · show T _ _ _ _ _ _ _ _
          refine t_app1 (cs := [.int .i64 a0_0, .int .i64 t409]) (M := ng419) (F := ([⟨g425, [.int .i64 t412], 1⟩, ⟨g423, [.int .i64 t411], 1⟩, ⟨b422, [.int .i64 t411, .int .i64 t412], 2⟩, ⟨g421, [.int .i64 a0_1, .int .i64 t410], ng421⟩, ⟨g420, [.int .i64 t410], 1⟩, ⟨g418, [.int .i64 t409], 1⟩, ⟨b417, [.int .i64 t409, .int .i64 t410], 2⟩, ⟨N416, [.int .i64 t408, .int .i64 t409, .int .i64 t410, .int .i64 t411, .int .i64 t412, .int .i64 t413, .int .i64 t414], 7⟩, ⟨b404, [.int .i64 0, .int .i64 0], 2⟩, ⟨b403, [.int .i64 3, .int .i64 s1_1, .int .i64 s1_2, .int .i64 s1_3, .int .i64 s1_4, .int .i64 s1_5, .int .i64 s1_6], 7⟩, ⟨b402, [.int .i64 a0_0, .int .i64 a0_1], 2⟩] : List Own)) (news := [.int .i64 t411]) rfl rfl rfl rfl (sel_perm (is := [5]) (by kernel_rfl)) (.at 1 rfl rfl) (by kernel_rfl) rfl rfl (by decide) (by decide) rfl fun g424 ng424 => ?_
          refine t_keep [2, 3, 8, 9, 10, 20, 21, 22, 30, 31, 34] (σ' := [(2, .int .i64 i2), (3, .int .i64 n3), (8, .pointer (some ⟨b404, 0, none⟩)), (9, .slice (some ⟨g419, 0, none⟩) 2 (ng419 / 1)), (10, .slice (some ⟨g421, 0, none⟩) 2 (ng421 / 1)), (20, .slice (some ⟨N416, 1, none⟩) 3 3), (21, .int .i64 3), (22, .int .i64 1), (30, .slice (some ⟨g424, 0, none⟩) 3 (ng424 / 1)), (31, .slice (some ⟨g421, 0, none⟩) 2 (ng421 / 1)), (34, .slice (some ⟨g425, 0, none⟩) 1 1)]) (by kernel_rfl) ?_
          refine t_vs (H' := ([⟨g425, [.int .i64 t412], 1⟩, ⟨g424, [.int .i64 a0_0, .int .i64 t409, .int .i64 t411], ng424⟩, ⟨g423, [.int .i64 t411], 1⟩, ⟨b422, [.int .i64 t411, .int .i64 t412], 2⟩, ⟨g421, [.int .i64 a0_1, .int .i64 t410], ng421⟩, ⟨g420, [.int .i64 t410], 1⟩, ⟨g418, [.int .i64 t409], 1⟩, ⟨b417, [.int .i64 t409, .int .i64 t410], 2⟩, ⟨N416, [.int .i64 t408, .int .i64 t409, .int .i64 t410, .int .i64 t411, .int .i64 t412, .int .i64 t413, .int .i64 t414], 7⟩, ⟨b404, [.int .i64 0, .int .i64 0], 2⟩, ⟨b403, [.int .i64 3, .int .i64 s1_1, .int .i64 s1_2, .int .i64 s1_3, .int .i64 s1_4, .int .i64 s1_5, .int .i64 s1_6], 7⟩, ⟨b402, [.int .i64 a0_0, .int .i64 a0_1], 2⟩] : List Own)) (S' := S) (VS.sel [1, 0, 0, 0, 0, 0, 0, 0, 0, 0, 0, 0] (by kernel_rfl)) ?_
          refine t_end ?_
          exact ⟨hg_1ff g425 g424 ng424 g423, rfl⟩
      have hg_1e7 : ∀ (g425 : Nat), G [true, true, true, false, false, true, true, true, true, false, false, false] [(2, .int .i64 i2), (3, .int .i64 n3), (8, .pointer (some ⟨b404, 0, none⟩)), (9, .slice (some ⟨g419, 0, none⟩) 2 (ng419 / 1)), (10, .slice (some ⟨g421, 0, none⟩) 2 (ng421 / 1)), (20, .slice (some ⟨N416, 1, none⟩) 3 3), (21, .int .i64 3), (22, .int .i64 1), (26, .slice (some ⟨g419, 0, none⟩) 2 (ng419 / 1)), (28, .int .i64 t411), (31, .slice (some ⟨g421, 0, none⟩) 2 (ng421 / 1)), (34, .slice (some ⟨g425, 0, none⟩) 1 1)] ([⟨g425, [.int .i64 t412], 1⟩, ⟨b422, [.int .i64 t411, .int .i64 t412], 2⟩, ⟨g421, [.int .i64 a0_1, .int .i64 t410], ng421⟩, ⟨g420, [.int .i64 t410], 1⟩, ⟨g419, [.int .i64 a0_0, .int .i64 t409], ng419⟩, ⟨g418, [.int .i64 t409], 1⟩, ⟨b417, [.int .i64 t409, .int .i64 t410], 2⟩, ⟨N416, [.int .i64 t408, .int .i64 t409, .int .i64 t410, .int .i64 t411, .int .i64 t412, .int .i64 t413, .int .i64 t414], 7⟩, ⟨b404, [.int .i64 0, .int .i64 0], 2⟩, ⟨b403, [.int .i64 3, .int .i64 s1_1, .int .i64 s1_2, .int .i64 s1_3, .int .i64 s1_4, .int .i64 s1_5, .int .i64 s1_6], 7⟩, ⟨b402, [.int .i64 a0_0, .int .i64 a0_1], 2⟩] : List Own) := by
        intro g425
        refine hstep [3] _ _ _ (by kernel_rfl) (List.cons_ne_nil _ _) ⟨?_, trivial⟩
        · show T _ _ _ _ _ _ _ _
          refine t_a (.bsl rfl rfl rfl rfl) fun g423 fg423 sg423 => ?_
          refine t_keep [2, 3, 8, 9, 10, 20, 21, 22, 26, 29, 31, 34] (σ' := [(2, .int .i64 i2), (3, .int .i64 n3), (8, .pointer (some ⟨b404, 0, none⟩)), (9, .slice (some ⟨g419, 0, none⟩) 2 (ng419 / 1)), (10, .slice (some ⟨g421, 0, none⟩) 2 (ng421 / 1)), (20, .slice (some ⟨N416, 1, none⟩) 3 3), (21, .int .i64 3), (22, .int .i64 1), (26, .slice (some ⟨g419, 0, none⟩) 2 (ng419 / 1)), (29, .slice (some ⟨g423, 0, none⟩) 1 1), (31, .slice (some ⟨g421, 0, none⟩) 2 (ng421 / 1)), (34, .slice (some ⟨g425, 0, none⟩) 1 1)]) (by kernel_rfl) ?_
          refine t_vs (H' := ([⟨g425, [.int .i64 t412], 1⟩, ⟨g423, [.int .i64 t411], 1⟩, ⟨b422, [.int .i64 t411, .int .i64 t412], 2⟩, ⟨g421, [.int .i64 a0_1, .int .i64 t410], ng421⟩, ⟨g420, [.int .i64 t410], 1⟩, ⟨g419, [.int .i64 a0_0, .int .i64 t409], ng419⟩, ⟨g418, [.int .i64 t409], 1⟩, ⟨b417, [.int .i64 t409, .int .i64 t410], 2⟩, ⟨N416, [.int .i64 t408, .int .i64 t409, .int .i64 t410, .int .i64 t411, .int .i64 t412, .int .i64 t413, .int .i64 t414], 7⟩, ⟨b404, [.int .i64 0, .int .i64 0], 2⟩, ⟨b403, [.int .i64 3, .int .i64 s1_1, .int .i64 s1_2, .int .i64 s1_3, .int .i64 s1_4, .int .i64 s1_5, .int .i64 s1_6], 7⟩, ⟨b402, [.int .i64 a0_0, .int .i64 a0_1], 2⟩] : List Own)) (S' := S) (VS.sel [1, 0, 0, 0, 0, 0, 0, 0, 0, 0, 0, 0] (by kernel_rfl)) ?_
          refine t_end ?_
          exact ⟨hg_1ef g425 g423, rfl⟩
      have hg_ef : ∀ (g423 : Nat), G [true, true, true, true, false, true, true, true, false, false, false, false] [(2, .int .i64 i2), (3, .int .i64 n3), (8, .pointer (some ⟨b404, 0, none⟩)), (9, .slice (some ⟨g419, 0, none⟩) 2 (ng419 / 1)), (10, .slice (some ⟨g421, 0, none⟩) 2 (ng421 / 1)), (20, .slice (some ⟨N416, 1, none⟩) 3 3), (21, .int .i64 3), (22, .int .i64 1), (26, .slice (some ⟨g419, 0, none⟩) 2 (ng419 / 1)), (29, .slice (some ⟨g423, 0, none⟩) 1 1), (31, .slice (some ⟨g421, 0, none⟩) 2 (ng421 / 1)), (33, .int .i64 t412)] ([⟨g423, [.int .i64 t411], 1⟩, ⟨b422, [.int .i64 t411, .int .i64 t412], 2⟩, ⟨g421, [.int .i64 a0_1, .int .i64 t410], ng421⟩, ⟨g420, [.int .i64 t410], 1⟩, ⟨g419, [.int .i64 a0_0, .int .i64 t409], ng419⟩, ⟨g418, [.int .i64 t409], 1⟩, ⟨b417, [.int .i64 t409, .int .i64 t410], 2⟩, ⟨N416, [.int .i64 t408, .int .i64 t409, .int .i64 t410, .int .i64 t411, .int .i64 t412, .int .i64 t413, .int .i64 t414], 7⟩, ⟨b404, [.int .i64 0, .int .i64 0], 2⟩, ⟨b403, [.int .i64 3, .int .i64 s1_1, .int .i64 s1_2, .int .i64 s1_3, .int .i64 s1_4, .int .i64 s1_5, .int .i64 s1_6], 7⟩, ⟨b402, [.int .i64 a0_0, .int .i64 a0_1], 2⟩] : List Own) := by
        intro g423
        refine hstep [4, 8] _ _ _ (by kernel_rfl) (List.cons_ne_nil _ _) ⟨?_, ?_, trivial⟩
        · show T _ _ _ _ _ _ _ _
          refine t_app1 (cs := [.int .i64 a0_0, .int .i64 t409]) (M := ng419) (F := ([⟨g423, [.int .i64 t411], 1⟩, ⟨b422, [.int .i64 t411, .int .i64 t412], 2⟩, ⟨g421, [.int .i64 a0_1, .int .i64 t410], ng421⟩, ⟨g420, [.int .i64 t410], 1⟩, ⟨g418, [.int .i64 t409], 1⟩, ⟨b417, [.int .i64 t409, .int .i64 t410], 2⟩, ⟨N416, [.int .i64 t408, .int .i64 t409, .int .i64 t410, .int .i64 t411, .int .i64 t412, .int .i64 t413, .int .i64 t414], 7⟩, ⟨b404, [.int .i64 0, .int .i64 0], 2⟩, ⟨b403, [.int .i64 3, .int .i64 s1_1, .int .i64 s1_2, .int .i64 s1_3, .int .i64 s1_4, .int .i64 s1_5, .int .i64 s1_6], 7⟩, ⟨b402, [.int .i64 a0_0, .int .i64 a0_1], 2⟩] : List Own)) (news := [.int .i64 t411]) rfl rfl rfl rfl (sel_perm (is := [4]) (by kernel_rfl)) (.at 0 rfl rfl) (by kernel_rfl) rfl rfl (by decide) (by decide) rfl fun g424 ng424 => ?_
          refine t_keep [2, 3, 8, 9, 10, 20, 21, 22, 30, 31, 33] (σ' := [(2, .int .i64 i2), (3, .int .i64 n3), (8, .pointer (some ⟨b404, 0, none⟩)), (9, .slice (some ⟨g419, 0, none⟩) 2 (ng419 / 1)), (10, .slice (some ⟨g421, 0, none⟩) 2 (ng421 / 1)), (20, .slice (some ⟨N416, 1, none⟩) 3 3), (21, .int .i64 3), (22, .int .i64 1), (30, .slice (some ⟨g424, 0, none⟩) 3 (ng424 / 1)), (31, .slice (some ⟨g421, 0, none⟩) 2 (ng421 / 1)), (33, .int .i64 t412)]) (by kernel_rfl) ?_
          refine t_end ?_
          exact ⟨hg_ff g424 ng424 g423, rfl⟩
        · show T _ _ _ _ _ _ _ _
          refine t_a (.bsl rfl rfl rfl rfl) fun g425 fg425 sg425 => ?_
          refine t_keep [2, 3, 8, 9, 10, 20, 21, 22, 26, 29, 31, 34] (σ' := [(2, .int .i64 i2), (3, .int .i64 n3), (8, .pointer (some ⟨b404, 0, none⟩)), (9, .slice (some ⟨g419, 0, none⟩) 2 (ng419 / 1)), (10, .slice (some ⟨g421, 0, none⟩) 2 (ng421 / 1)), (20, .slice (some ⟨N416, 1, none⟩) 3 3), (21, .int .i64 3), (22, .int .i64 1), (26, .slice (some ⟨g419, 0, none⟩) 2 (ng419 / 1)), (29, .slice (some ⟨g423, 0, none⟩) 1 1), (31, .slice (some ⟨g421, 0, none⟩) 2 (ng421 / 1)), (34, .slice (some ⟨g425, 0, none⟩) 1 1)]) (by kernel_rfl) ?_
          refine t_end ?_
          exact ⟨hg_1ef g425 g423, rfl⟩
      have hg_7f : ∀ (g424 : Nat) (ng424 : Nat) (g423 : Nat), G [true, true, true, true, true, true, true, false, false, false, false, false] [(2, .int .i64 i2), (3, .int .i64 n3), (8, .pointer (some ⟨b404, 0, none⟩)), (9, .slice (some ⟨g419, 0, none⟩) 2 (ng419 / 1)), (10, .slice (some ⟨g421, 0, none⟩) 2 (ng421 / 1)), (20, .slice (some ⟨N416, 1, none⟩) 3 3), (21, .int .i64 3), (22, .int .i64 1), (30, .slice (some ⟨g424, 0, none⟩) 3 (ng424 / 1)), (31, .slice (some ⟨g421, 0, none⟩) 2 (ng421 / 1)), (32, .pointer (some ⟨b422, 1, none⟩))] ([⟨g424, [.int .i64 a0_0, .int .i64 t409, .int .i64 t411], ng424⟩, ⟨g423, [.int .i64 t411], 1⟩, ⟨b422, [.int .i64 t411, .int .i64 t412], 2⟩, ⟨g421, [.int .i64 a0_1, .int .i64 t410], ng421⟩, ⟨g420, [.int .i64 t410], 1⟩, ⟨g418, [.int .i64 t409], 1⟩, ⟨b417, [.int .i64 t409, .int .i64 t410], 2⟩, ⟨N416, [.int .i64 t408, .int .i64 t409, .int .i64 t410, .int .i64 t411, .int .i64 t412, .int .i64 t413, .int .i64 t414], 7⟩, ⟨b404, [.int .i64 0, .int .i64 0], 2⟩, ⟨b403, [.int .i64 3, .int .i64 s1_1, .int .i64 s1_2, .int .i64 s1_3, .int .i64 s1_4, .int .i64 s1_5, .int .i64 s1_6], 7⟩, ⟨b402, [.int .i64 a0_0, .int .i64 a0_1], 2⟩] : List Own) := by
        intro g424 ng424 g423
        refine hstep [7] _ _ _ (by kernel_rfl) (List.cons_ne_nil _ _) ⟨?_, trivial⟩
        · show T _ _ _ _ _ _ _ _
          refine t_v (.ld1 rfl rfl rfl (.at 2 rfl rfl)) ?_
          refine t_keep [2, 3, 8, 9, 10, 20, 21, 22, 30, 31, 33] (σ' := [(2, .int .i64 i2), (3, .int .i64 n3), (8, .pointer (some ⟨b404, 0, none⟩)), (9, .slice (some ⟨g419, 0, none⟩) 2 (ng419 / 1)), (10, .slice (some ⟨g421, 0, none⟩) 2 (ng421 / 1)), (20, .slice (some ⟨N416, 1, none⟩) 3 3), (21, .int .i64 3), (22, .int .i64 1), (30, .slice (some ⟨g424, 0, none⟩) 3 (ng424 / 1)), (31, .slice (some ⟨g421, 0, none⟩) 2 (ng421 / 1)), (33, .int .i64 t412)]) (by kernel_rfl) ?_
          refine t_end ?_
          exact ⟨hg_ff g424 ng424 g423, rfl⟩
      have hg_1e3 : ∀ (g425 : Nat), G [true, true, false, false, false, true, true, true, true, false, false, false] [(2, .int .i64 i2), (3, .int .i64 n3), (8, .pointer (some ⟨b404, 0, none⟩)), (9, .slice (some ⟨g419, 0, none⟩) 2 (ng419 / 1)), (10, .slice (some ⟨g421, 0, none⟩) 2 (ng421 / 1)), (20, .slice (some ⟨N416, 1, none⟩) 3 3), (21, .int .i64 3), (22, .int .i64 1), (26, .slice (some ⟨g419, 0, none⟩) 2 (ng419 / 1)), (27, .pointer (some ⟨b422, 0, none⟩)), (31, .slice (some ⟨g421, 0, none⟩) 2 (ng421 / 1)), (34, .slice (some ⟨g425, 0, none⟩) 1 1)] ([⟨g425, [.int .i64 t412], 1⟩, ⟨b422, [.int .i64 t411, .int .i64 t412], 2⟩, ⟨g421, [.int .i64 a0_1, .int .i64 t410], ng421⟩, ⟨g420, [.int .i64 t410], 1⟩, ⟨g419, [.int .i64 a0_0, .int .i64 t409], ng419⟩, ⟨g418, [.int .i64 t409], 1⟩, ⟨b417, [.int .i64 t409, .int .i64 t410], 2⟩, ⟨N416, [.int .i64 t408, .int .i64 t409, .int .i64 t410, .int .i64 t411, .int .i64 t412, .int .i64 t413, .int .i64 t414], 7⟩, ⟨b404, [.int .i64 0, .int .i64 0], 2⟩, ⟨b403, [.int .i64 3, .int .i64 s1_1, .int .i64 s1_2, .int .i64 s1_3, .int .i64 s1_4, .int .i64 s1_5, .int .i64 s1_6], 7⟩, ⟨b402, [.int .i64 a0_0, .int .i64 a0_1], 2⟩] : List Own) := by
        intro g425
        refine hstep [2] _ _ _ (by kernel_rfl) (List.cons_ne_nil _ _) ⟨?_, trivial⟩
        · show T _ _ _ _ _ _ _ _
          refine t_v (.ld1 rfl rfl rfl (.at 1 rfl rfl)) ?_
          refine t_keep [2, 3, 8, 9, 10, 20, 21, 22, 26, 28, 31, 34] (σ' := [(2, .int .i64 i2), (3, .int .i64 n3), (8, .pointer (some ⟨b404, 0, none⟩)), (9, .slice (some ⟨g419, 0, none⟩) 2 (ng419 / 1)), (10, .slice (some ⟨g421, 0, none⟩) 2 (ng421 / 1)), (20, .slice (some ⟨N416, 1, none⟩) 3 3), (21, .int .i64 3), (22, .int .i64 1), (26, .slice (some ⟨g419, 0, none⟩) 2 (ng419 / 1)), (28, .int .i64 t411), (31, .slice (some ⟨g421, 0, none⟩) 2 (ng421 / 1)), (34, .slice (some ⟨g425, 0, none⟩) 1 1)]) (by kernel_rfl) ?_
          refine t_end ?_
          exact ⟨hg_1e7 g425, rfl⟩
      have hg_e7 : G [true, true, true, false, false, true, true, true, false, false, false, false] [(2, .int .i64 i2), (3, .int .i64 n3), (8, .pointer (some ⟨b404, 0, none⟩)), (9, .slice (some ⟨g419, 0, none⟩) 2 (ng419 / 1)), (10, .slice (some ⟨g421, 0, none⟩) 2 (ng421 / 1)), (20, .slice (some ⟨N416, 1, none⟩) 3 3), (21, .int .i64 3), (22, .int .i64 1), (26, .slice (some ⟨g419, 0, none⟩) 2 (ng419 / 1)), (28, .int .i64 t411), (31, .slice (some ⟨g421, 0, none⟩) 2 (ng421 / 1)), (33, .int .i64 t412)] ([⟨b422, [.int .i64 t411, .int .i64 t412], 2⟩, ⟨g421, [.int .i64 a0_1, .int .i64 t410], ng421⟩, ⟨g420, [.int .i64 t410], 1⟩, ⟨g419, [.int .i64 a0_0, .int .i64 t409], ng419⟩, ⟨g418, [.int .i64 t409], 1⟩, ⟨b417, [.int .i64 t409, .int .i64 t410], 2⟩, ⟨N416, [.int .i64 t408, .int .i64 t409, .int .i64 t410, .int .i64 t411, .int .i64 t412, .int .i64 t413, .int .i64 t414], 7⟩, ⟨b404, [.int .i64 0, .int .i64 0], 2⟩, ⟨b403, [.int .i64 3, .int .i64 s1_1, .int .i64 s1_2, .int .i64 s1_3, .int .i64 s1_4, .int .i64 s1_5, .int .i64 s1_6], 7⟩, ⟨b402, [.int .i64 a0_0, .int .i64 a0_1], 2⟩] : List Own) := by
        refine hstep [3, 8] _ _ _ (by kernel_rfl) (List.cons_ne_nil _ _) ⟨?_, ?_, trivial⟩
        · show T _ _ _ _ _ _ _ _
          refine t_a (.bsl rfl rfl rfl rfl) fun g423 fg423 sg423 => ?_
          refine t_keep [2, 3, 8, 9, 10, 20, 21, 22, 26, 29, 31, 33] (σ' := [(2, .int .i64 i2), (3, .int .i64 n3), (8, .pointer (some ⟨b404, 0, none⟩)), (9, .slice (some ⟨g419, 0, none⟩) 2 (ng419 / 1)), (10, .slice (some ⟨g421, 0, none⟩) 2 (ng421 / 1)), (20, .slice (some ⟨N416, 1, none⟩) 3 3), (21, .int .i64 3), (22, .int .i64 1), (26, .slice (some ⟨g419, 0, none⟩) 2 (ng419 / 1)), (29, .slice (some ⟨g423, 0, none⟩) 1 1), (31, .slice (some ⟨g421, 0, none⟩) 2 (ng421 / 1)), (33, .int .i64 t412)]) (by kernel_rfl) ?_
          refine t_end ?_
          exact ⟨hg_ef g423, rfl⟩
        · show T _ _ _ _ _ _ _ _
          refine t_a (.bsl rfl rfl rfl rfl) fun g425 fg425 sg425 => ?_
          refine t_keep [2, 3, 8, 9, 10, 20, 21, 22, 26, 28, 31, 34] (σ' := [(2, .int .i64 i2), (3, .int .i64 n3), (8, .pointer (some ⟨b404, 0, none⟩)), (9, .slice (some ⟨g419, 0, none⟩) 2 (ng419 / 1)), (10, .slice (some ⟨g421, 0, none⟩) 2 (ng421 / 1)), (20, .slice (some ⟨N416, 1, none⟩) 3 3), (21, .int .i64 3), (22, .int .i64 1), (26, .slice (some ⟨g419, 0, none⟩) 2 (ng419 / 1)), (28, .int .i64 t411), (31, .slice (some ⟨g421, 0, none⟩) 2 (ng421 / 1)), (34, .slice (some ⟨g425, 0, none⟩) 1 1)]) (by kernel_rfl) ?_
          refine t_end ?_
          exact ⟨hg_1e7 g425, rfl⟩
      have hg_6f : ∀ (g423 : Nat), G [true, true, true, true, false, true, true, false, false, false, false, false] [(2, .int .i64 i2), (3, .int .i64 n3), (8, .pointer (some ⟨b404, 0, none⟩)), (9, .slice (some ⟨g419, 0, none⟩) 2 (ng419 / 1)), (10, .slice (some ⟨g421, 0, none⟩) 2 (ng421 / 1)), (20, .slice (some ⟨N416, 1, none⟩) 3 3), (21, .int .i64 3), (22, .int .i64 1), (26, .slice (some ⟨g419, 0, none⟩) 2 (ng419 / 1)), (29, .slice (some ⟨g423, 0, none⟩) 1 1), (31, .slice (some ⟨g421, 0, none⟩) 2 (ng421 / 1)), (32, .pointer (some ⟨b422, 1, none⟩))] ([⟨g423, [.int .i64 t411], 1⟩, ⟨b422, [.int .i64 t411, .int .i64 t412], 2⟩, ⟨g421, [.int .i64 a0_1, .int .i64 t410], ng421⟩, ⟨g420, [.int .i64 t410], 1⟩, ⟨g419, [.int .i64 a0_0, .int .i64 t409], ng419⟩, ⟨g418, [.int .i64 t409], 1⟩, ⟨b417, [.int .i64 t409, .int .i64 t410], 2⟩, ⟨N416, [.int .i64 t408, .int .i64 t409, .int .i64 t410, .int .i64 t411, .int .i64 t412, .int .i64 t413, .int .i64 t414], 7⟩, ⟨b404, [.int .i64 0, .int .i64 0], 2⟩, ⟨b403, [.int .i64 3, .int .i64 s1_1, .int .i64 s1_2, .int .i64 s1_3, .int .i64 s1_4, .int .i64 s1_5, .int .i64 s1_6], 7⟩, ⟨b402, [.int .i64 a0_0, .int .i64 a0_1], 2⟩] : List Own) := by
        intro g423
        refine hstep [4, 7] _ _ _ (by kernel_rfl) (List.cons_ne_nil _ _) ⟨?_, ?_, trivial⟩
        · show T _ _ _ _ _ _ _ _
          refine t_app1 (cs := [.int .i64 a0_0, .int .i64 t409]) (M := ng419) (F := ([⟨g423, [.int .i64 t411], 1⟩, ⟨b422, [.int .i64 t411, .int .i64 t412], 2⟩, ⟨g421, [.int .i64 a0_1, .int .i64 t410], ng421⟩, ⟨g420, [.int .i64 t410], 1⟩, ⟨g418, [.int .i64 t409], 1⟩, ⟨b417, [.int .i64 t409, .int .i64 t410], 2⟩, ⟨N416, [.int .i64 t408, .int .i64 t409, .int .i64 t410, .int .i64 t411, .int .i64 t412, .int .i64 t413, .int .i64 t414], 7⟩, ⟨b404, [.int .i64 0, .int .i64 0], 2⟩, ⟨b403, [.int .i64 3, .int .i64 s1_1, .int .i64 s1_2, .int .i64 s1_3, .int .i64 s1_4, .int .i64 s1_5, .int .i64 s1_6], 7⟩, ⟨b402, [.int .i64 a0_0, .int .i64 a0_1], 2⟩] : List Own)) (news := [.int .i64 t411]) rfl rfl rfl rfl (sel_perm (is := [4]) (by kernel_rfl)) (.at 0 rfl rfl) (by kernel_rfl) rfl rfl (by decide) (by decide) rfl fun g424 ng424 => ?_
          refine t_keep [2, 3, 8, 9, 10, 20, 21, 22, 30, 31, 32] (σ' := [(2, .int .i64 i2), (3, .int .i64 n3), (8, .pointer (some ⟨b404, 0, none⟩)), (9, .slice (some ⟨g419, 0, none⟩) 2 (ng419 / 1)), (10, .slice (some ⟨g421, 0, none⟩) 2 (ng421 / 1)), (20, .slice (some ⟨N416, 1, none⟩) 3 3), (21, .int .i64 3), (22, .int .i64 1), (30, .slice (some ⟨g424, 0, none⟩) 3 (ng424 / 1)), (31, .slice (some ⟨g421, 0, none⟩) 2 (ng421 / 1)), (32, .pointer (some ⟨b422, 1, none⟩))]) (by kernel_rfl) ?_
          refine t_end ?_
          exact ⟨hg_7f g424 ng424 g423, rfl⟩
        · show T _ _ _ _ _ _ _ _
          refine t_v (.ld1 rfl rfl rfl (.at 1 rfl rfl)) ?_
          refine t_keep [2, 3, 8, 9, 10, 20, 21, 22, 26, 29, 31, 33] (σ' := [(2, .int .i64 i2), (3, .int .i64 n3), (8, .pointer (some ⟨b404, 0, none⟩)), (9, .slice (some ⟨g419, 0, none⟩) 2 (ng419 / 1)), (10, .slice (some ⟨g421, 0, none⟩) 2 (ng421 / 1)), (20, .slice (some ⟨N416, 1, none⟩) 3 3), (21, .int .i64 3), (22, .int .i64 1), (26, .slice (some ⟨g419, 0, none⟩) 2 (ng419 / 1)), (29, .slice (some ⟨g423, 0, none⟩) 1 1), (31, .slice (some ⟨g421, 0, none⟩) 2 (ng421 / 1)), (33, .int .i64 t412)]) (by kernel_rfl) ?_
          refine t_end ?_
          exact ⟨hg_ef g423, rfl⟩
      have hg_e3 : G [true, true, false, false, false, true, true, true, false, false, false, false] [(2, .int .i64 i2), (3, .int .i64 n3), (8, .pointer (some ⟨b404, 0, none⟩)), (9, .slice (some ⟨g419, 0, none⟩) 2 (ng419 / 1)), (10, .slice (some ⟨g421, 0, none⟩) 2 (ng421 / 1)), (20, .slice (some ⟨N416, 1, none⟩) 3 3), (21, .int .i64 3), (22, .int .i64 1), (26, .slice (some ⟨g419, 0, none⟩) 2 (ng419 / 1)), (27, .pointer (some ⟨b422, 0, none⟩)), (31, .slice (some ⟨g421, 0, none⟩) 2 (ng421 / 1)), (33, .int .i64 t412)] ([⟨b422, [.int .i64 t411, .int .i64 t412], 2⟩, ⟨g421, [.int .i64 a0_1, .int .i64 t410], ng421⟩, ⟨g420, [.int .i64 t410], 1⟩, ⟨g419, [.int .i64 a0_0, .int .i64 t409], ng419⟩, ⟨g418, [.int .i64 t409], 1⟩, ⟨b417, [.int .i64 t409, .int .i64 t410], 2⟩, ⟨N416, [.int .i64 t408, .int .i64 t409, .int .i64 t410, .int .i64 t411, .int .i64 t412, .int .i64 t413, .int .i64 t414], 7⟩, ⟨b404, [.int .i64 0, .int .i64 0], 2⟩, ⟨b403, [.int .i64 3, .int .i64 s1_1, .int .i64 s1_2, .int .i64 s1_3, .int .i64 s1_4, .int .i64 s1_5, .int .i64 s1_6], 7⟩, ⟨b402, [.int .i64 a0_0, .int .i64 a0_1], 2⟩] : List Own) := by
        refine hstep [2, 8] _ _ _ (by kernel_rfl) (List.cons_ne_nil _ _) ⟨?_, ?_, trivial⟩
        · show T _ _ _ _ _ _ _ _
          refine t_v (.ld1 rfl rfl rfl (.at 0 rfl rfl)) ?_
          refine t_keep [2, 3, 8, 9, 10, 20, 21, 22, 26, 28, 31, 33] (σ' := [(2, .int .i64 i2), (3, .int .i64 n3), (8, .pointer (some ⟨b404, 0, none⟩)), (9, .slice (some ⟨g419, 0, none⟩) 2 (ng419 / 1)), (10, .slice (some ⟨g421, 0, none⟩) 2 (ng421 / 1)), (20, .slice (some ⟨N416, 1, none⟩) 3 3), (21, .int .i64 3), (22, .int .i64 1), (26, .slice (some ⟨g419, 0, none⟩) 2 (ng419 / 1)), (28, .int .i64 t411), (31, .slice (some ⟨g421, 0, none⟩) 2 (ng421 / 1)), (33, .int .i64 t412)]) (by kernel_rfl) ?_
          refine t_end ?_
          exact ⟨hg_e7, rfl⟩
        · show T _ _ _ _ _ _ _ _
          refine t_a (.bsl rfl rfl rfl rfl) fun g425 fg425 sg425 => ?_
          refine t_keep [2, 3, 8, 9, 10, 20, 21, 22, 26, 27, 31, 34] (σ' := [(2, .int .i64 i2), (3, .int .i64 n3), (8, .pointer (some ⟨b404, 0, none⟩)), (9, .slice (some ⟨g419, 0, none⟩) 2 (ng419 / 1)), (10, .slice (some ⟨g421, 0, none⟩) 2 (ng421 / 1)), (20, .slice (some ⟨N416, 1, none⟩) 3 3), (21, .int .i64 3), (22, .int .i64 1), (26, .slice (some ⟨g419, 0, none⟩) 2 (ng419 / 1)), (27, .pointer (some ⟨b422, 0, none⟩)), (31, .slice (some ⟨g421, 0, none⟩) 2 (ng421 / 1)), (34, .slice (some ⟨g425, 0, none⟩) 1 1)]) (by kernel_rfl) ?_
          refine t_end ?_
          exact ⟨hg_1e3 g425, rfl⟩
      have hg_67 : G [true, true, true, false, false, true, true, false, false, false, false, false] [(2, .int .i64 i2), (3, .int .i64 n3), (8, .pointer (some ⟨b404, 0, none⟩)), (9, .slice (some ⟨g419, 0, none⟩) 2 (ng419 / 1)), (10, .slice (some ⟨g421, 0, none⟩) 2 (ng421 / 1)), (20, .slice (some ⟨N416, 1, none⟩) 3 3), (21, .int .i64 3), (22, .int .i64 1), (26, .slice (some ⟨g419, 0, none⟩) 2 (ng419 / 1)), (28, .int .i64 t411), (31, .slice (some ⟨g421, 0, none⟩) 2 (ng421 / 1)), (32, .pointer (some ⟨b422, 1, none⟩))] ([⟨b422, [.int .i64 t411, .int .i64 t412], 2⟩, ⟨g421, [.int .i64 a0_1, .int .i64 t410], ng421⟩, ⟨g420, [.int .i64 t410], 1⟩, ⟨g419, [.int .i64 a0_0, .int .i64 t409], ng419⟩, ⟨g418, [.int .i64 t409], 1⟩, ⟨b417, [.int .i64 t409, .int .i64 t410], 2⟩, ⟨N416, [.int .i64 t408, .int .i64 t409, .int .i64 t410, .int .i64 t411, .int .i64 t412, .int .i64 t413, .int .i64 t414], 7⟩, ⟨b404, [.int .i64 0, .int .i64 0], 2⟩, ⟨b403, [.int .i64 3, .int .i64 s1_1, .int .i64 s1_2, .int .i64 s1_3, .int .i64 s1_4, .int .i64 s1_5, .int .i64 s1_6], 7⟩, ⟨b402, [.int .i64 a0_0, .int .i64 a0_1], 2⟩] : List Own) := by
        refine hstep [3, 7] _ _ _ (by kernel_rfl) (List.cons_ne_nil _ _) ⟨?_, ?_, trivial⟩
        · show T _ _ _ _ _ _ _ _
          refine t_a (.bsl rfl rfl rfl rfl) fun g423 fg423 sg423 => ?_
          refine t_keep [2, 3, 8, 9, 10, 20, 21, 22, 26, 29, 31, 32] (σ' := [(2, .int .i64 i2), (3, .int .i64 n3), (8, .pointer (some ⟨b404, 0, none⟩)), (9, .slice (some ⟨g419, 0, none⟩) 2 (ng419 / 1)), (10, .slice (some ⟨g421, 0, none⟩) 2 (ng421 / 1)), (20, .slice (some ⟨N416, 1, none⟩) 3 3), (21, .int .i64 3), (22, .int .i64 1), (26, .slice (some ⟨g419, 0, none⟩) 2 (ng419 / 1)), (29, .slice (some ⟨g423, 0, none⟩) 1 1), (31, .slice (some ⟨g421, 0, none⟩) 2 (ng421 / 1)), (32, .pointer (some ⟨b422, 1, none⟩))]) (by kernel_rfl) ?_
          refine t_end ?_
          exact ⟨hg_6f g423, rfl⟩
        · show T _ _ _ _ _ _ _ _
          refine t_v (.ld1 rfl rfl rfl (.at 0 rfl rfl)) ?_
          refine t_keep [2, 3, 8, 9, 10, 20, 21, 22, 26, 28, 31, 33] (σ' := [(2, .int .i64 i2), (3, .int .i64 n3), (8, .pointer (some ⟨b404, 0, none⟩)), (9, .slice (some ⟨g419, 0, none⟩) 2 (ng419 / 1)), (10, .slice (some ⟨g421, 0, none⟩) 2 (ng421 / 1)), (20, .slice (some ⟨N416, 1, none⟩) 3 3), (21, .int .i64 3), (22, .int .i64 1), (26, .slice (some ⟨g419, 0, none⟩) 2 (ng419 / 1)), (28, .int .i64 t411), (31, .slice (some ⟨g421, 0, none⟩) 2 (ng421 / 1)), (33, .int .i64 t412)]) (by kernel_rfl) ?_
          refine t_end ?_
          exact ⟨hg_e7, rfl⟩
      have hg_63 : G [true, true, false, false, false, true, true, false, false, false, false, false] [(2, .int .i64 i2), (3, .int .i64 n3), (8, .pointer (some ⟨b404, 0, none⟩)), (9, .slice (some ⟨g419, 0, none⟩) 2 (ng419 / 1)), (10, .slice (some ⟨g421, 0, none⟩) 2 (ng421 / 1)), (20, .slice (some ⟨N416, 1, none⟩) 3 3), (21, .int .i64 3), (22, .int .i64 1), (26, .slice (some ⟨g419, 0, none⟩) 2 (ng419 / 1)), (27, .pointer (some ⟨b422, 0, none⟩)), (31, .slice (some ⟨g421, 0, none⟩) 2 (ng421 / 1)), (32, .pointer (some ⟨b422, 1, none⟩))] ([⟨b422, [.int .i64 t411, .int .i64 t412], 2⟩, ⟨g421, [.int .i64 a0_1, .int .i64 t410], ng421⟩, ⟨g420, [.int .i64 t410], 1⟩, ⟨g419, [.int .i64 a0_0, .int .i64 t409], ng419⟩, ⟨g418, [.int .i64 t409], 1⟩, ⟨b417, [.int .i64 t409, .int .i64 t410], 2⟩, ⟨N416, [.int .i64 t408, .int .i64 t409, .int .i64 t410, .int .i64 t411, .int .i64 t412, .int .i64 t413, .int .i64 t414], 7⟩, ⟨b404, [.int .i64 0, .int .i64 0], 2⟩, ⟨b403, [.int .i64 3, .int .i64 s1_1, .int .i64 s1_2, .int .i64 s1_3, .int .i64 s1_4, .int .i64 s1_5, .int .i64 s1_6], 7⟩, ⟨b402, [.int .i64 a0_0, .int .i64 a0_1], 2⟩] : List Own) := by
        refine hstep [2, 7] _ _ _ (by kernel_rfl) (List.cons_ne_nil _ _) ⟨?_, ?_, trivial⟩
        · show T _ _ _ _ _ _ _ _
          refine t_v (.ld1 rfl rfl rfl (.at 0 rfl rfl)) ?_
          refine t_keep [2, 3, 8, 9, 10, 20, 21, 22, 26, 28, 31, 32] (σ' := [(2, .int .i64 i2), (3, .int .i64 n3), (8, .pointer (some ⟨b404, 0, none⟩)), (9, .slice (some ⟨g419, 0, none⟩) 2 (ng419 / 1)), (10, .slice (some ⟨g421, 0, none⟩) 2 (ng421 / 1)), (20, .slice (some ⟨N416, 1, none⟩) 3 3), (21, .int .i64 3), (22, .int .i64 1), (26, .slice (some ⟨g419, 0, none⟩) 2 (ng419 / 1)), (28, .int .i64 t411), (31, .slice (some ⟨g421, 0, none⟩) 2 (ng421 / 1)), (32, .pointer (some ⟨b422, 1, none⟩))]) (by kernel_rfl) ?_
          refine t_end ?_
          exact ⟨hg_67, rfl⟩
        · show T _ _ _ _ _ _ _ _
          refine t_v (.ld1 rfl rfl rfl (.at 0 rfl rfl)) ?_
          refine t_keep [2, 3, 8, 9, 10, 20, 21, 22, 26, 27, 31, 33] (σ' := [(2, .int .i64 i2), (3, .int .i64 n3), (8, .pointer (some ⟨b404, 0, none⟩)), (9, .slice (some ⟨g419, 0, none⟩) 2 (ng419 / 1)), (10, .slice (some ⟨g421, 0, none⟩) 2 (ng421 / 1)), (20, .slice (some ⟨N416, 1, none⟩) 3 3), (21, .int .i64 3), (22, .int .i64 1), (26, .slice (some ⟨g419, 0, none⟩) 2 (ng419 / 1)), (27, .pointer (some ⟨b422, 0, none⟩)), (31, .slice (some ⟨g421, 0, none⟩) 2 (ng421 / 1)), (33, .int .i64 t412)]) (by kernel_rfl) ?_
          refine t_end ?_
          exact ⟨hg_e3, rfl⟩
      have hg_23 : G [true, true, false, false, false, true, false, false, false, false, false, false] [(2, .int .i64 i2), (3, .int .i64 n3), (8, .pointer (some ⟨b404, 0, none⟩)), (9, .slice (some ⟨g419, 0, none⟩) 2 (ng419 / 1)), (10, .slice (some ⟨g421, 0, none⟩) 2 (ng421 / 1)), (12, .pointer (some ⟨b422, 0, none⟩)), (20, .slice (some ⟨N416, 1, none⟩) 3 3), (21, .int .i64 3), (22, .int .i64 1), (26, .slice (some ⟨g419, 0, none⟩) 2 (ng419 / 1)), (27, .pointer (some ⟨b422, 0, none⟩)), (31, .slice (some ⟨g421, 0, none⟩) 2 (ng421 / 1))] ([⟨b422, [.int .i64 t411, .int .i64 t412], 2⟩, ⟨g421, [.int .i64 a0_1, .int .i64 t410], ng421⟩, ⟨g420, [.int .i64 t410], 1⟩, ⟨g419, [.int .i64 a0_0, .int .i64 t409], ng419⟩, ⟨g418, [.int .i64 t409], 1⟩, ⟨b417, [.int .i64 t409, .int .i64 t410], 2⟩, ⟨N416, [.int .i64 t408, .int .i64 t409, .int .i64 t410, .int .i64 t411, .int .i64 t412, .int .i64 t413, .int .i64 t414], 7⟩, ⟨b404, [.int .i64 0, .int .i64 0], 2⟩, ⟨b403, [.int .i64 3, .int .i64 s1_1, .int .i64 s1_2, .int .i64 s1_3, .int .i64 s1_4, .int .i64 s1_5, .int .i64 s1_6], 7⟩, ⟨b402, [.int .i64 a0_0, .int .i64 a0_1], 2⟩] : List Own) := by
        exact hqf 6 [2, 3, 8, 9, 10, 20, 21, 22, 26, 27, 31, 32] _ _ _ [(2, .int .i64 i2), (3, .int .i64 n3), (8, .pointer (some ⟨b404, 0, none⟩)), (9, .slice (some ⟨g419, 0, none⟩) 2 (ng419 / 1)), (10, .slice (some ⟨g421, 0, none⟩) 2 (ng421 / 1)), (20, .slice (some ⟨N416, 1, none⟩) 3 3), (21, .int .i64 3), (22, .int .i64 1), (26, .slice (some ⟨g419, 0, none⟩) 2 (ng419 / 1)), (27, .pointer (some ⟨b422, 0, none⟩)), (31, .slice (some ⟨g421, 0, none⟩) 2 (ng421 / 1)), (32, .pointer (some ⟨b422, 1, none⟩))] (by kernel_rfl) (by kernel_rfl) hg_63
      have hg_3 : G [true, true, false, false, false, false, false, false, false, false, false, false] [(2, .int .i64 i2), (3, .int .i64 n3), (8, .pointer (some ⟨b404, 0, none⟩)), (9, .slice (some ⟨g419, 0, none⟩) 2 (ng419 / 1)), (10, .slice (some ⟨g421, 0, none⟩) 2 (ng421 / 1)), (12, .pointer (some ⟨b422, 0, none⟩)), (20, .slice (some ⟨N416, 1, none⟩) 3 3), (21, .int .i64 3), (22, .int .i64 1), (26, .slice (some ⟨g419, 0, none⟩) 2 (ng419 / 1)), (27, .pointer (some ⟨b422, 0, none⟩))] ([⟨b422, [.int .i64 t411, .int .i64 t412], 2⟩, ⟨g421, [.int .i64 a0_1, .int .i64 t410], ng421⟩, ⟨g420, [.int .i64 t410], 1⟩, ⟨g419, [.int .i64 a0_0, .int .i64 t409], ng419⟩, ⟨g418, [.int .i64 t409], 1⟩, ⟨b417, [.int .i64 t409, .int .i64 t410], 2⟩, ⟨N416, [.int .i64 t408, .int .i64 t409, .int .i64 t410, .int .i64 t411, .int .i64 t412, .int .i64 t413, .int .i64 t414], 7⟩, ⟨b404, [.int .i64 0, .int .i64 0], 2⟩, ⟨b403, [.int .i64 3, .int .i64 s1_1, .int .i64 s1_2, .int .i64 s1_3, .int .i64 s1_4, .int .i64 s1_5, .int .i64 s1_6], 7⟩, ⟨b402, [.int .i64 a0_0, .int .i64 a0_1], 2⟩] : List Own) := by
        exact hqf 5 [2, 3, 8, 9, 10, 12, 20, 21, 22, 26, 27, 31] _ _ _ [(2, .int .i64 i2), (3, .int .i64 n3), (8, .pointer (some ⟨b404, 0, none⟩)), (9, .slice (some ⟨g419, 0, none⟩) 2 (ng419 / 1)), (10, .slice (some ⟨g421, 0, none⟩) 2 (ng421 / 1)), (12, .pointer (some ⟨b422, 0, none⟩)), (20, .slice (some ⟨N416, 1, none⟩) 3 3), (21, .int .i64 3), (22, .int .i64 1), (26, .slice (some ⟨g419, 0, none⟩) 2 (ng419 / 1)), (27, .pointer (some ⟨b422, 0, none⟩)), (31, .slice (some ⟨g421, 0, none⟩) 2 (ng421 / 1))] (by kernel_rfl) (by kernel_rfl) hg_23
      have hg_1 : G [true, false, false, false, false, false, false, false, false, false, false, false] [(2, .int .i64 i2), (3, .int .i64 n3), (8, .pointer (some ⟨b404, 0, none⟩)), (9, .slice (some ⟨g419, 0, none⟩) 2 (ng419 / 1)), (10, .slice (some ⟨g421, 0, none⟩) 2 (ng421 / 1)), (12, .pointer (some ⟨b422, 0, none⟩)), (20, .slice (some ⟨N416, 1, none⟩) 3 3), (21, .int .i64 3), (22, .int .i64 1), (26, .slice (some ⟨g419, 0, none⟩) 2 (ng419 / 1))] ([⟨b422, [.int .i64 t411, .int .i64 t412], 2⟩, ⟨g421, [.int .i64 a0_1, .int .i64 t410], ng421⟩, ⟨g420, [.int .i64 t410], 1⟩, ⟨g419, [.int .i64 a0_0, .int .i64 t409], ng419⟩, ⟨g418, [.int .i64 t409], 1⟩, ⟨b417, [.int .i64 t409, .int .i64 t410], 2⟩, ⟨N416, [.int .i64 t408, .int .i64 t409, .int .i64 t410, .int .i64 t411, .int .i64 t412, .int .i64 t413, .int .i64 t414], 7⟩, ⟨b404, [.int .i64 0, .int .i64 0], 2⟩, ⟨b403, [.int .i64 3, .int .i64 s1_1, .int .i64 s1_2, .int .i64 s1_3, .int .i64 s1_4, .int .i64 s1_5, .int .i64 s1_6], 7⟩, ⟨b402, [.int .i64 a0_0, .int .i64 a0_1], 2⟩] : List Own) := by
        exact hqf 1 [2, 3, 8, 9, 10, 12, 20, 21, 22, 26, 27] _ _ _ [(2, .int .i64 i2), (3, .int .i64 n3), (8, .pointer (some ⟨b404, 0, none⟩)), (9, .slice (some ⟨g419, 0, none⟩) 2 (ng419 / 1)), (10, .slice (some ⟨g421, 0, none⟩) 2 (ng421 / 1)), (12, .pointer (some ⟨b422, 0, none⟩)), (20, .slice (some ⟨N416, 1, none⟩) 3 3), (21, .int .i64 3), (22, .int .i64 1), (26, .slice (some ⟨g419, 0, none⟩) 2 (ng419 / 1)), (27, .pointer (some ⟨b422, 0, none⟩))] (by kernel_rfl) (by kernel_rfl) hg_3
      have hg_0 : G [false, false, false, false, false, false, false, false, false, false, false, false] [(2, .int .i64 i2), (3, .int .i64 n3), (8, .pointer (some ⟨b404, 0, none⟩)), (9, .slice (some ⟨g419, 0, none⟩) 2 (ng419 / 1)), (10, .slice (some ⟨g421, 0, none⟩) 2 (ng421 / 1)), (12, .pointer (some ⟨b422, 0, none⟩)), (20, .slice (some ⟨N416, 1, none⟩) 3 3), (21, .int .i64 3), (22, .int .i64 1)] ([⟨b422, [.int .i64 t411, .int .i64 t412], 2⟩, ⟨g421, [.int .i64 a0_1, .int .i64 t410], ng421⟩, ⟨g420, [.int .i64 t410], 1⟩, ⟨g419, [.int .i64 a0_0, .int .i64 t409], ng419⟩, ⟨g418, [.int .i64 t409], 1⟩, ⟨b417, [.int .i64 t409, .int .i64 t410], 2⟩, ⟨N416, [.int .i64 t408, .int .i64 t409, .int .i64 t410, .int .i64 t411, .int .i64 t412, .int .i64 t413, .int .i64 t414], 7⟩, ⟨b404, [.int .i64 0, .int .i64 0], 2⟩, ⟨b403, [.int .i64 3, .int .i64 s1_1, .int .i64 s1_2, .int .i64 s1_3, .int .i64 s1_4, .int .i64 s1_5, .int .i64 s1_6], 7⟩, ⟨b402, [.int .i64 a0_0, .int .i64 a0_1], 2⟩] : List Own) := by
        exact hqf 0 [2, 3, 8, 9, 10, 12, 20, 21, 22, 26] _ _ _ [(2, .int .i64 i2), (3, .int .i64 n3), (8, .pointer (some ⟨b404, 0, none⟩)), (9, .slice (some ⟨g419, 0, none⟩) 2 (ng419 / 1)), (10, .slice (some ⟨g421, 0, none⟩) 2 (ng421 / 1)), (12, .pointer (some ⟨b422, 0, none⟩)), (20, .slice (some ⟨N416, 1, none⟩) 3 3), (21, .int .i64 3), (22, .int .i64 1), (26, .slice (some ⟨g419, 0, none⟩) 2 (ng419 / 1))] (by kernel_rfl) (by kernel_rfl) hg_1
      exact hg_0
    have hg_7ff : ∀ (g421 : Nat) (ng421 : Nat) (g420 : Nat) (g419 : Nat) (ng419 : Nat) (g418 : Nat), G [true, true, true, true, true, true, true, true, true, true, true, false] [(2, .int .i64 i2), (3, .int .i64 n3), (8, .pointer (some ⟨b404, 0, none⟩)), (9, .slice (some ⟨g419, 0, none⟩) 2 (ng419 / 1)), (10, .slice (some ⟨g406, 0, none⟩) 1 1), (20, .slice (some ⟨N416, 1, none⟩) 3 3), (21, .int .i64 3), (22, .int .i64 0), (35, .slice (some ⟨g421, 0, none⟩) 2 (ng421 / 1))] ([⟨g421, [.int .i64 a0_1, .int .i64 t410], ng421⟩, ⟨g420, [.int .i64 t410], 1⟩, ⟨g419, [.int .i64 a0_0, .int .i64 t409], ng419⟩, ⟨g418, [.int .i64 t409], 1⟩, ⟨b417, [.int .i64 t409, .int .i64 t410], 2⟩, ⟨N416, [.int .i64 t408, .int .i64 t409, .int .i64 t410, .int .i64 t411, .int .i64 t412, .int .i64 t413, .int .i64 t414], 7⟩, ⟨b404, [.int .i64 0, .int .i64 0], 2⟩, ⟨b403, [.int .i64 3, .int .i64 s1_1, .int .i64 s1_2, .int .i64 s1_3, .int .i64 s1_4, .int .i64 s1_5, .int .i64 s1_6], 7⟩, ⟨b402, [.int .i64 a0_0, .int .i64 a0_1], 2⟩] : List Own) := by
      intro g421 ng421 g420 g419 ng419 g418
      exact hqf 11 [2, 3, 8, 9, 10, 20, 21, 22] _ _ _ [(2, .int .i64 i2), (3, .int .i64 n3), (8, .pointer (some ⟨b404, 0, none⟩)), (9, .slice (some ⟨g419, 0, none⟩) 2 (ng419 / 1)), (10, .slice (some ⟨g421, 0, none⟩) 2 (ng421 / 1)), (20, .slice (some ⟨N416, 1, none⟩) 3 3), (21, .int .i64 3), (22, .int .i64 0)] (by kernel_rfl) (by kernel_rfl) (hg_fff g421 ng421 g420 g419 ng419 g418)
    have hg_3ff : ∀ (g421 : Nat) (ng421 : Nat) (g420 : Nat) (g419 : Nat) (ng419 : Nat) (g418 : Nat), G [true, true, true, true, true, true, true, true, true, true, false, false] [(2, .int .i64 i2), (3, .int .i64 n3), (8, .pointer (some ⟨b404, 0, none⟩)), (9, .slice (some ⟨g405, 0, none⟩) 1 1), (10, .slice (some ⟨g406, 0, none⟩) 1 1), (20, .slice (some ⟨N416, 1, none⟩) 3 3), (21, .int .i64 3), (22, .int .i64 0), (30, .slice (some ⟨g419, 0, none⟩) 2 (ng419 / 1)), (35, .slice (some ⟨g421, 0, none⟩) 2 (ng421 / 1))] ([⟨g421, [.int .i64 a0_1, .int .i64 t410], ng421⟩, ⟨g420, [.int .i64 t410], 1⟩, ⟨g419, [.int .i64 a0_0, .int .i64 t409], ng419⟩, ⟨g418, [.int .i64 t409], 1⟩, ⟨b417, [.int .i64 t409, .int .i64 t410], 2⟩, ⟨N416, [.int .i64 t408, .int .i64 t409, .int .i64 t410, .int .i64 t411, .int .i64 t412, .int .i64 t413, .int .i64 t414], 7⟩, ⟨b404, [.int .i64 0, .int .i64 0], 2⟩, ⟨b403, [.int .i64 3, .int .i64 s1_1, .int .i64 s1_2, .int .i64 s1_3, .int .i64 s1_4, .int .i64 s1_5, .int .i64 s1_6], 7⟩, ⟨b402, [.int .i64 a0_0, .int .i64 a0_1], 2⟩] : List Own) := by
      intro g421 ng421 g420 g419 ng419 g418
      exact hqf 10 [2, 3, 8, 9, 10, 20, 21, 22, 35] _ _ _ [(2, .int .i64 i2), (3, .int .i64 n3), (8, .pointer (some ⟨b404, 0, none⟩)), (9, .slice (some ⟨g419, 0, none⟩) 2 (ng419 / 1)), (10, .slice (some ⟨g406, 0, none⟩) 1 1), (20, .slice (some ⟨N416, 1, none⟩) 3 3), (21, .int .i64 3), (22, .int .i64 0), (35, .slice (some ⟨g421, 0, none⟩) 2 (ng421 / 1))] (by kernel_rfl) (by kernel_rfl) (hg_7ff g421 ng421 g420 g419 ng419 g418)
    have hg_1ff : ∀ (g420 : Nat) (g419 : Nat) (ng419 : Nat) (g418 : Nat), G [true, true, true, true, true, true, true, true, true, false, false, false] [(2, .int .i64 i2), (3, .int .i64 n3), (8, .pointer (some ⟨b404, 0, none⟩)), (9, .slice (some ⟨g405, 0, none⟩) 1 1), (10, .slice (some ⟨g406, 0, none⟩) 1 1), (20, .slice (some ⟨N416, 1, none⟩) 3 3), (21, .int .i64 3), (22, .int .i64 0), (30, .slice (some ⟨g419, 0, none⟩) 2 (ng419 / 1)), (31, .slice (some ⟨g406, 0, none⟩) 1 1), (34, .slice (some ⟨g420, 0, none⟩) 1 1)] ([⟨g420, [.int .i64 t410], 1⟩, ⟨g419, [.int .i64 a0_0, .int .i64 t409], ng419⟩, ⟨g418, [.int .i64 t409], 1⟩, ⟨b417, [.int .i64 t409, .int .i64 t410], 2⟩, ⟨N416, [.int .i64 t408, .int .i64 t409, .int .i64 t410, .int .i64 t411, .int .i64 t412, .int .i64 t413, .int .i64 t414], 7⟩, ⟨g406, [.int .i64 a0_1], 1⟩, ⟨b404, [.int .i64 0, .int .i64 0], 2⟩, ⟨b403, [.int .i64 3, .int .i64 s1_1, .int .i64 s1_2, .int .i64 s1_3, .int .i64 s1_4, .int .i64 s1_5, .int .i64 s1_6], 7⟩, ⟨b402, [.int .i64 a0_0, .int .i64 a0_1], 2⟩] : List Own) := by
      intro g420 g419 ng419 g418
      refine hstep [9] _ _ _ (by kernel_rfl) (List.cons_ne_nil _ _) ⟨?_, trivial⟩
      · show T _ _ _ _ _ _ _ _
        refine t_app1 (cs := [.int .i64 a0_1]) (M := 1) (F := ([⟨g420, [.int .i64 t410], 1⟩, ⟨g419, [.int .i64 a0_0, .int .i64 t409], ng419⟩, ⟨g418, [.int .i64 t409], 1⟩, ⟨b417, [.int .i64 t409, .int .i64 t410], 2⟩, ⟨N416, [.int .i64 t408, .int .i64 t409, .int .i64 t410, .int .i64 t411, .int .i64 t412, .int .i64 t413, .int .i64 t414], 7⟩, ⟨b404, [.int .i64 0, .int .i64 0], 2⟩, ⟨b403, [.int .i64 3, .int .i64 s1_1, .int .i64 s1_2, .int .i64 s1_3, .int .i64 s1_4, .int .i64 s1_5, .int .i64 s1_6], 7⟩, ⟨b402, [.int .i64 a0_0, .int .i64 a0_1], 2⟩] : List Own)) (news := [.int .i64 t410]) rfl rfl rfl rfl (sel_perm (is := [5]) (by kernel_rfl)) (.at 0 rfl rfl) (by kernel_rfl) rfl rfl (by decide) (by decide) rfl fun g421 ng421 => ?_
        refine t_keep [2, 3, 8, 9, 10, 20, 21, 22, 30, 35] (σ' := [(2, .int .i64 i2), (3, .int .i64 n3), (8, .pointer (some ⟨b404, 0, none⟩)), (9, .slice (some ⟨g405, 0, none⟩) 1 1), (10, .slice (some ⟨g406, 0, none⟩) 1 1), (20, .slice (some ⟨N416, 1, none⟩) 3 3), (21, .int .i64 3), (22, .int .i64 0), (30, .slice (some ⟨g419, 0, none⟩) 2 (ng419 / 1)), (35, .slice (some ⟨g421, 0, none⟩) 2 (ng421 / 1))]) (by kernel_rfl) ?_
        refine t_end ?_
        exact ⟨hg_3ff g421 ng421 g420 g419 ng419 g418, rfl⟩
    have hg_ff : ∀ (g419 : Nat) (ng419 : Nat) (g418 : Nat), G [true, true, true, true, true, true, true, true, false, false, false, false] [(2, .int .i64 i2), (3, .int .i64 n3), (8, .pointer (some ⟨b404, 0, none⟩)), (9, .slice (some ⟨g405, 0, none⟩) 1 1), (10, .slice (some ⟨g406, 0, none⟩) 1 1), (20, .slice (some ⟨N416, 1, none⟩) 3 3), (21, .int .i64 3), (22, .int .i64 0), (30, .slice (some ⟨g419, 0, none⟩) 2 (ng419 / 1)), (31, .slice (some ⟨g406, 0, none⟩) 1 1), (33, .int .i64 t410)] ([⟨g419, [.int .i64 a0_0, .int .i64 t409], ng419⟩, ⟨g418, [.int .i64 t409], 1⟩, ⟨b417, [.int .i64 t409, .int .i64 t410], 2⟩, ⟨N416, [.int .i64 t408, .int .i64 t409, .int .i64 t410, .int .i64 t411, .int .i64 t412, .int .i64 t413, .int .i64 t414], 7⟩, ⟨g406, [.int .i64 a0_1], 1⟩, ⟨b404, [.int .i64 0, .int .i64 0], 2⟩, ⟨b403, [.int .i64 3, .int .i64 s1_1, .int .i64 s1_2, .int .i64 s1_3, .int .i64 s1_4, .int .i64 s1_5, .int .i64 s1_6], 7⟩, ⟨b402, [.int .i64 a0_0, .int .i64 a0_1], 2⟩] : List Own) := by
      intro g419 ng419 g418
      refine hstep [8] _ _ _ (by kernel_rfl) (List.cons_ne_nil _ _) ⟨?_, trivial⟩
      · show T _ _ _ _ _ _ _ _
        refine t_a (.bsl rfl rfl rfl rfl) fun g420 fg420 sg420 => ?_
        refine t_keep [2, 3, 8, 9, 10, 20, 21, 22, 30, 31, 34] (σ' := [(2, .int .i64 i2), (3, .int .i64 n3), (8, .pointer (some ⟨b404, 0, none⟩)), (9, .slice (some ⟨g405, 0, none⟩) 1 1), (10, .slice (some ⟨g406, 0, none⟩) 1 1), (20, .slice (some ⟨N416, 1, none⟩) 3 3), (21, .int .i64 3), (22, .int .i64 0), (30, .slice (some ⟨g419, 0, none⟩) 2 (ng419 / 1)), (31, .slice (some ⟨g406, 0, none⟩) 1 1), (34, .slice (some ⟨g420, 0, none⟩) 1 1)]) (by kernel_rfl) ?_
        refine t_end ?_
        exact ⟨hg_1ff g420 g419 ng419 g418, rfl⟩
    have hg_1ef : ∀ (g420 : Nat) (g418 : Nat), G [true, true, true, true, false, true, true, true, true, false, false, false] [(2, .int .i64 i2), (3, .int .i64 n3), (8, .pointer (some ⟨b404, 0, none⟩)), (9, .slice (some ⟨g405, 0, none⟩) 1 1), (10, .slice (some ⟨g406, 0, none⟩) 1 1), (20, .slice (some ⟨N416, 1, none⟩) 3 3), (21, .int .i64 3), (22, .int .i64 0), (26, .slice (some ⟨g405, 0, none⟩) 1 1), (29, .slice (some ⟨g418, 0, none⟩) 1 1), (31, .slice (some ⟨g406, 0, none⟩) 1 1), (34, .slice (some ⟨g420, 0, none⟩) 1 1)] ([⟨g420, [.int .i64 t410], 1⟩, ⟨g418, [.int .i64 t409], 1⟩, ⟨b417, [.int .i64 t409, .int .i64 t410], 2⟩, ⟨N416, [.int .i64 t408, .int .i64 t409, .int .i64 t410, .int .i64 t411, .int .i64 t412, .int .i64 t413, .int .i64 t414], 7⟩, ⟨g406, [.int .i64 a0_1], 1⟩, ⟨g405, [.int .i64 a0_0], 1⟩, ⟨b404, [.int .i64 0, .int .i64 0], 2⟩, ⟨b403, [.int .i64 3, .int .i64 s1_1, .int .i64 s1_2, .int .i64 s1_3, .int .i64 s1_4, .int .i64 s1_5, .int .i64 s1_6], 7⟩, ⟨b402, [.int .i64 a0_0, .int .i64 a0_1], 2⟩] : List Own) := by
      intro g420 g418
      refine hstep [4] _ _ _ (by kernel_rfl) (List.cons_ne_nil _ _) ⟨?_, trivial⟩
      · show T _ _ _ _ _ _ _ _
        refine t_app1 (cs := [.int .i64 a0_0]) (M := 1) (F := ([⟨g420, [.int .i64 t410], 1⟩, ⟨g418, [.int .i64 t409], 1⟩, ⟨b417, [.int .i64 t409, .int .i64 t410], 2⟩, ⟨N416, [.int .i64 t408, .int .i64 t409, .int .i64 t410, .int .i64 t411, .int .i64 t412, .int .i64 t413, .int .i64 t414], 7⟩, ⟨g406, [.int .i64 a0_1], 1⟩, ⟨b404, [.int .i64 0, .int .i64 0], 2⟩, ⟨b403, [.int .i64 3, .int .i64 s1_1, .int .i64 s1_2, .int .i64 s1_3, .int .i64 s1_4, .int .i64 s1_5, .int .i64 s1_6], 7⟩, ⟨b402, [.int .i64 a0_0, .int .i64 a0_1], 2⟩] : List Own)) (news := [.int .i64 t409]) rfl rfl rfl rfl (sel_perm (is := [5]) (by kernel_rfl)) (.at 1 rfl rfl) (by kernel_rfl) rfl rfl (by decide) (by decide) rfl fun g419 ng419 => ?_
        refine t_keep [2, 3, 8, 9, 10, 20, 21, 22, 30, 31, 34] (σ' := [(2, .int .i64 i2), (3, .int .i64 n3), (8, .pointer (some ⟨b404, 0, none⟩)), (9, .slice (some ⟨g405, 0, none⟩) 1 1), (10, .slice (some ⟨g406, 0, none⟩) 1 1), (20, .slice (some ⟨N416, 1, none⟩) 3 3), (21, .int .i64 3), (22, .int .i64 0), (30, .slice (some ⟨g419, 0, none⟩) 2 (ng419 / 1)), (31, .slice (some ⟨g406, 0, none⟩) 1 1), (34, .slice (some ⟨g420, 0, none⟩) 1 1)]) (by kernel_rfl) ?_
        refine t_vs (H' := ([⟨g420, [.int .i64 t410], 1⟩, ⟨g419, [.int .i64 a0_0, .int .i64 t409], ng419⟩, ⟨g418, [.int .i64 t409], 1⟩, ⟨b417, [.int .i64 t409, .int .i64 t410], 2⟩, ⟨N416, [.int .i64 t408, .int .i64 t409, .int .i64 t410, .int .i64 t411, .int .i64 t412, .int .i64 t413, .int .i64 t414], 7⟩, ⟨g406, [.int .i64 a0_1], 1⟩, ⟨b404, [.int .i64 0, .int .i64 0], 2⟩, ⟨b403, [.int .i64 3, .int .i64 s1_1, .int .i64 s1_2, .int .i64 s1_3, .int .i64 s1_4, .int .i64 s1_5, .int .i64 s1_6], 7⟩, ⟨b402, [.int .i64 a0_0, .int .i64 a0_1], 2⟩] : List Own)) (S' := S) (VS.sel [1, 0, 0, 0, 0, 0, 0, 0, 0] (by kernel_rfl)) ?_
        refine t_end ?_
        exact ⟨hg_1ff g420 g419 ng419 g418, rfl⟩
    have hg_1e7 : ∀ (g420 : Nat), G [true, true, true, false, false, true, true, true, true, false, false, false] [(2, .int .i64 i2), (3, .int .i64 n3), (8, .pointer (some ⟨b404, 0, none⟩)), (9, .slice (some ⟨g405, 0, none⟩) 1 1), (10, .slice (some ⟨g406, 0, none⟩) 1 1), (20, .slice (some ⟨N416, 1, none⟩) 3 3), (21, .int .i64 3), (22, .int .i64 0), (26, .slice (some ⟨g405, 0, none⟩) 1 1), (28, .int .i64 t409), (31, .slice (some ⟨g406, 0, none⟩) 1 1), (34, .slice (some ⟨g420, 0, none⟩) 1 1)] ([⟨g420, [.int .i64 t410], 1⟩, ⟨b417, [.int .i64 t409, .int .i64 t410], 2⟩, ⟨N416, [.int .i64 t408, .int .i64 t409, .int .i64 t410, .int .i64 t411, .int .i64 t412, .int .i64 t413, .int .i64 t414], 7⟩, ⟨g406, [.int .i64 a0_1], 1⟩, ⟨g405, [.int .i64 a0_0], 1⟩, ⟨b404, [.int .i64 0, .int .i64 0], 2⟩, ⟨b403, [.int .i64 3, .int .i64 s1_1, .int .i64 s1_2, .int .i64 s1_3, .int .i64 s1_4, .int .i64 s1_5, .int .i64 s1_6], 7⟩, ⟨b402, [.int .i64 a0_0, .int .i64 a0_1], 2⟩] : List Own) := by
      intro g420
      refine hstep [3] _ _ _ (by kernel_rfl) (List.cons_ne_nil _ _) ⟨?_, trivial⟩
      · show T _ _ _ _ _ _ _ _
        refine t_a (.bsl rfl rfl rfl rfl) fun g418 fg418 sg418 => ?_
        refine t_keep [2, 3, 8, 9, 10, 20, 21, 22, 26, 29, 31, 34] (σ' := [(2, .int .i64 i2), (3, .int .i64 n3), (8, .pointer (some ⟨b404, 0, none⟩)), (9, .slice (some ⟨g405, 0, none⟩) 1 1), (10, .slice (some ⟨g406, 0, none⟩) 1 1), (20, .slice (some ⟨N416, 1, none⟩) 3 3), (21, .int .i64 3), (22, .int .i64 0), (26, .slice (some ⟨g405, 0, none⟩) 1 1), (29, .slice (some ⟨g418, 0, none⟩) 1 1), (31, .slice (some ⟨g406, 0, none⟩) 1 1), (34, .slice (some ⟨g420, 0, none⟩) 1 1)]) (by kernel_rfl) ?_
        refine t_vs (H' := ([⟨g420, [.int .i64 t410], 1⟩, ⟨g418, [.int .i64 t409], 1⟩, ⟨b417, [.int .i64 t409, .int .i64 t410], 2⟩, ⟨N416, [.int .i64 t408, .int .i64 t409, .int .i64 t410, .int .i64 t411, .int .i64 t412, .int .i64 t413, .int .i64 t414], 7⟩, ⟨g406, [.int .i64 a0_1], 1⟩, ⟨g405, [.int .i64 a0_0], 1⟩, ⟨b404, [.int .i64 0, .int .i64 0], 2⟩, ⟨b403, [.int .i64 3, .int .i64 s1_1, .int .i64 s1_2, .int .i64 s1_3, .int .i64 s1_4, .int .i64 s1_5, .int .i64 s1_6], 7⟩, ⟨b402, [.int .i64 a0_0, .int .i64 a0_1], 2⟩] : List Own)) (S' := S) (VS.sel [1, 0, 0, 0, 0, 0, 0, 0, 0] (by kernel_rfl)) ?_
        refine t_end ?_
        exact ⟨hg_1ef g420 g418, rfl⟩
    have hg_ef : ∀ (g418 : Nat), G [true, true, true, true, false, true, true, true, false, false, false, false] [(2, .int .i64 i2), (3, .int .i64 n3), (8, .pointer (some ⟨b404, 0, none⟩)), (9, .slice (some ⟨g405, 0, none⟩) 1 1), (10, .slice (some ⟨g406, 0, none⟩) 1 1), (20, .slice (some ⟨N416, 1, none⟩) 3 3), (21, .int .i64 3), (22, .int .i64 0), (26, .slice (some ⟨g405, 0, none⟩) 1 1), (29, .slice (some ⟨g418, 0, none⟩) 1 1), (31, .slice (some ⟨g406, 0, none⟩) 1 1), (33, .int .i64 t410)] ([⟨g418, [.int .i64 t409], 1⟩, ⟨b417, [.int .i64 t409, .int .i64 t410], 2⟩, ⟨N416, [.int .i64 t408, .int .i64 t409, .int .i64 t410, .int .i64 t411, .int .i64 t412, .int .i64 t413, .int .i64 t414], 7⟩, ⟨g406, [.int .i64 a0_1], 1⟩, ⟨g405, [.int .i64 a0_0], 1⟩, ⟨b404, [.int .i64 0, .int .i64 0], 2⟩, ⟨b403, [.int .i64 3, .int .i64 s1_1, .int .i64 s1_2, .int .i64 s1_3, .int .i64 s1_4, .int .i64 s1_5, .int .i64 s1_6], 7⟩, ⟨b402, [.int .i64 a0_0, .int .i64 a0_1], 2⟩] : List Own) := by
      intro g418
      refine hstep [4, 8] _ _ _ (by kernel_rfl) (List.cons_ne_nil _ _) ⟨?_, ?_, trivial⟩
      · show T _ _ _ _ _ _ _ _
        refine t_app1 (cs := [.int .i64 a0_0]) (M := 1) (F := ([⟨g418, [.int .i64 t409], 1⟩, ⟨b417, [.int .i64 t409, .int .i64 t410], 2⟩, ⟨N416, [.int .i64 t408, .int .i64 t409, .int .i64 t410, .int .i64 t411, .int .i64 t412, .int .i64 t413, .int .i64 t414], 7⟩, ⟨g406, [.int .i64 a0_1], 1⟩, ⟨b404, [.int .i64 0, .int .i64 0], 2⟩, ⟨b403, [.int .i64 3, .int .i64 s1_1, .int .i64 s1_2, .int .i64 s1_3, .int .i64 s1_4, .int .i64 s1_5, .int .i64 s1_6], 7⟩, ⟨b402, [.int .i64 a0_0, .int .i64 a0_1], 2⟩] : List Own)) (news := [.int .i64 t409]) rfl rfl rfl rfl (sel_perm (is := [4]) (by kernel_rfl)) (.at 0 rfl rfl) (by kernel_rfl) rfl rfl (by decide) (by decide) rfl fun g419 ng419 => ?_
        refine t_keep [2, 3, 8, 9, 10, 20, 21, 22, 30, 31, 33] (σ' := [(2, .int .i64 i2), (3, .int .i64 n3), (8, .pointer (some ⟨b404, 0, none⟩)), (9, .slice (some ⟨g405, 0, none⟩) 1 1), (10, .slice (some ⟨g406, 0, none⟩) 1 1), (20, .slice (some ⟨N416, 1, none⟩) 3 3), (21, .int .i64 3), (22, .int .i64 0), (30, .slice (some ⟨g419, 0, none⟩) 2 (ng419 / 1)), (31, .slice (some ⟨g406, 0, none⟩) 1 1), (33, .int .i64 t410)]) (by kernel_rfl) ?_
        refine t_end ?_
        exact ⟨hg_ff g419 ng419 g418, rfl⟩
      · show T _ _ _ _ _ _ _ _
        refine t_a (.bsl rfl rfl rfl rfl) fun g420 fg420 sg420 => ?_
        refine t_keep [2, 3, 8, 9, 10, 20, 21, 22, 26, 29, 31, 34] (σ' := [(2, .int .i64 i2), (3, .int .i64 n3), (8, .pointer (some ⟨b404, 0, none⟩)), (9, .slice (some ⟨g405, 0, none⟩) 1 1), (10, .slice (some ⟨g406, 0, none⟩) 1 1), (20, .slice (some ⟨N416, 1, none⟩) 3 3), (21, .int .i64 3), (22, .int .i64 0), (26, .slice (some ⟨g405, 0, none⟩) 1 1), (29, .slice (some ⟨g418, 0, none⟩) 1 1), (31, .slice (some ⟨g406, 0, none⟩) 1 1), (34, .slice (some ⟨g420, 0, none⟩) 1 1)]) (by kernel_rfl) ?_
        refine t_end ?_
        exact ⟨hg_1ef g420 g418, rfl⟩
    have hg_7f : ∀ (g419 : Nat) (ng419 : Nat) (g418 : Nat), G [true, true, true, true, true, true, true, false, false, false, false, false] [(2, .int .i64 i2), (3, .int .i64 n3), (8, .pointer (some ⟨b404, 0, none⟩)), (9, .slice (some ⟨g405, 0, none⟩) 1 1), (10, .slice (some ⟨g406, 0, none⟩) 1 1), (20, .slice (some ⟨N416, 1, none⟩) 3 3), (21, .int .i64 3), (22, .int .i64 0), (30, .slice (some ⟨g419, 0, none⟩) 2 (ng419 / 1)), (31, .slice (some ⟨g406, 0, none⟩) 1 1), (32, .pointer (some ⟨b417, 1, none⟩))] ([⟨g419, [.int .i64 a0_0, .int .i64 t409], ng419⟩, ⟨g418, [.int .i64 t409], 1⟩, ⟨b417, [.int .i64 t409, .int .i64 t410], 2⟩, ⟨N416, [.int .i64 t408, .int .i64 t409, .int .i64 t410, .int .i64 t411, .int .i64 t412, .int .i64 t413, .int .i64 t414], 7⟩, ⟨g406, [.int .i64 a0_1], 1⟩, ⟨b404, [.int .i64 0, .int .i64 0], 2⟩, ⟨b403, [.int .i64 3, .int .i64 s1_1, .int .i64 s1_2, .int .i64 s1_3, .int .i64 s1_4, .int .i64 s1_5, .int .i64 s1_6], 7⟩, ⟨b402, [.int .i64 a0_0, .int .i64 a0_1], 2⟩] : List Own) := by
      intro g419 ng419 g418
      refine hstep [7] _ _ _ (by kernel_rfl) (List.cons_ne_nil _ _) ⟨?_, trivial⟩
      · show T _ _ _ _ _ _ _ _
        refine t_v (.ld1 rfl rfl rfl (.at 2 rfl rfl)) ?_
        refine t_keep [2, 3, 8, 9, 10, 20, 21, 22, 30, 31, 33] (σ' := [(2, .int .i64 i2), (3, .int .i64 n3), (8, .pointer (some ⟨b404, 0, none⟩)), (9, .slice (some ⟨g405, 0, none⟩) 1 1), (10, .slice (some ⟨g406, 0, none⟩) 1 1), (20, .slice (some ⟨N416, 1, none⟩) 3 3), (21, .int .i64 3), (22, .int .i64 0), (30, .slice (some ⟨g419, 0, none⟩) 2 (ng419 / 1)), (31, .slice (some ⟨g406, 0, none⟩) 1 1), (33, .int .i64 t410)]) (by kernel_rfl) ?_
        refine t_end ?_
        exact ⟨hg_ff g419 ng419 g418, rfl⟩
    have hg_1e3 : ∀ (g420 : Nat), G [true, true, false, false, false, true, true, true, true, false, false, false] [(2, .int .i64 i2), (3, .int .i64 n3), (8, .pointer (some ⟨b404, 0, none⟩)), (9, .slice (some ⟨g405, 0, none⟩) 1 1), (10, .slice (some ⟨g406, 0, none⟩) 1 1), (20, .slice (some ⟨N416, 1, none⟩) 3 3), (21, .int .i64 3), (22, .int .i64 0), (26, .slice (some ⟨g405, 0, none⟩) 1 1), (27, .pointer (some ⟨b417, 0, none⟩)), (31, .slice (some ⟨g406, 0, none⟩) 1 1), (34, .slice (some ⟨g420, 0, none⟩) 1 1)] ([⟨g420, [.int .i64 t410], 1⟩, ⟨b417, [.int .i64 t409, .int .i64 t410], 2⟩, ⟨N416, [.int .i64 t408, .int .i64 t409, .int .i64 t410, .int .i64 t411, .int .i64 t412, .int .i64 t413, .int .i64 t414], 7⟩, ⟨g406, [.int .i64 a0_1], 1⟩, ⟨g405, [.int .i64 a0_0], 1⟩, ⟨b404, [.int .i64 0, .int .i64 0], 2⟩, ⟨b403, [.int .i64 3, .int .i64 s1_1, .int .i64 s1_2, .int .i64 s1_3, .int .i64 s1_4, .int .i64 s1_5, .int .i64 s1_6], 7⟩, ⟨b402, [.int .i64 a0_0, .int .i64 a0_1], 2⟩] : List Own) := by
      intro g420
      refine hstep [2] _ _ _ (by kernel_rfl) (List.cons_ne_nil _ _) ⟨?_, trivial⟩
      · show T _ _ _ _ _ _ _ _
        refine t_v (.ld1 rfl rfl rfl (.at 1 rfl rfl)) ?_
        refine t_keep [2, 3, 8, 9, 10, 20, 21, 22, 26, 28, 31, 34] (σ' := [(2, .int .i64 i2), (3, .int .i64 n3), (8, .pointer (some ⟨b404, 0, none⟩)), (9, .slice (some ⟨g405, 0, none⟩) 1 1), (10, .slice (some ⟨g406, 0, none⟩) 1 1), (20, .slice (some ⟨N416, 1, none⟩) 3 3), (21, .int .i64 3), (22, .int .i64 0), (26, .slice (some ⟨g405, 0, none⟩) 1 1), (28, .int .i64 t409), (31, .slice (some ⟨g406, 0, none⟩) 1 1), (34, .slice (some ⟨g420, 0, none⟩) 1 1)]) (by kernel_rfl) ?_
        refine t_end ?_
        exact ⟨hg_1e7 g420, rfl⟩
    have hg_e7 : G [true, true, true, false, false, true, true, true, false, false, false, false] [(2, .int .i64 i2), (3, .int .i64 n3), (8, .pointer (some ⟨b404, 0, none⟩)), (9, .slice (some ⟨g405, 0, none⟩) 1 1), (10, .slice (some ⟨g406, 0, none⟩) 1 1), (20, .slice (some ⟨N416, 1, none⟩) 3 3), (21, .int .i64 3), (22, .int .i64 0), (26, .slice (some ⟨g405, 0, none⟩) 1 1), (28, .int .i64 t409), (31, .slice (some ⟨g406, 0, none⟩) 1 1), (33, .int .i64 t410)] ([⟨b417, [.int .i64 t409, .int .i64 t410], 2⟩, ⟨N416, [.int .i64 t408, .int .i64 t409, .int .i64 t410, .int .i64 t411, .int .i64 t412, .int .i64 t413, .int .i64 t414], 7⟩, ⟨g406, [.int .i64 a0_1], 1⟩, ⟨g405, [.int .i64 a0_0], 1⟩, ⟨b404, [.int .i64 0, .int .i64 0], 2⟩, ⟨b403, [.int .i64 3, .int .i64 s1_1, .int .i64 s1_2, .int .i64 s1_3, .int .i64 s1_4, .int .i64 s1_5, .int .i64 s1_6], 7⟩, ⟨b402, [.int .i64 a0_0, .int .i64 a0_1], 2⟩] : List Own) := by
      refine hstep [3, 8] _ _ _ (by kernel_rfl) (List.cons_ne_nil _ _) ⟨?_, ?_, trivial⟩
      · show T _ _ _ _ _ _ _ _
        refine t_a (.bsl rfl rfl rfl rfl) fun g418 fg418 sg418 => ?_
        refine t_keep [2, 3, 8, 9, 10, 20, 21, 22, 26, 29, 31, 33] (σ' := [(2, .int .i64 i2), (3, .int .i64 n3), (8, .pointer (some ⟨b404, 0, none⟩)), (9, .slice (some ⟨g405, 0, none⟩) 1 1), (10, .slice (some ⟨g406, 0, none⟩) 1 1), (20, .slice (some ⟨N416, 1, none⟩) 3 3), (21, .int .i64 3), (22, .int .i64 0), (26, .slice (some ⟨g405, 0, none⟩) 1 1), (29, .slice (some ⟨g418, 0, none⟩) 1 1), (31, .slice (some ⟨g406, 0, none⟩) 1 1), (33, .int .i64 t410)]) (by kernel_rfl) ?_
        refine t_end ?_
        exact ⟨hg_ef g418, rfl⟩
      · show T _ _ _ _ _ _ _ _
        refine t_a (.bsl rfl rfl rfl rfl) fun g420 fg420 sg420 => ?_
        refine t_keep [2, 3, 8, 9, 10, 20, 21, 22, 26, 28, 31, 34] (σ' := [(2, .int .i64 i2), (3, .int .i64 n3), (8, .pointer (some ⟨b404, 0, none⟩)), (9, .slice (some ⟨g405, 0, none⟩) 1 1), (10, .slice (some ⟨g406, 0, none⟩) 1 1), (20, .slice (some ⟨N416, 1, none⟩) 3 3), (21, .int .i64 3), (22, .int .i64 0), (26, .slice (some ⟨g405, 0, none⟩) 1 1), (28, .int .i64 t409), (31, .slice (some ⟨g406, 0, none⟩) 1 1), (34, .slice (some ⟨g420, 0, none⟩) 1 1)]) (by kernel_rfl) ?_
        refine t_end ?_
        exact ⟨hg_1e7 g420, rfl⟩
    have hg_6f : ∀ (g418 : Nat), G [true, true, true, true, false, true, true, false, false, false, false, false] [(2, .int .i64 i2), (3, .int .i64 n3), (8, .pointer (some ⟨b404, 0, none⟩)), (9, .slice (some ⟨g405, 0, none⟩) 1 1), (10, .slice (some ⟨g406, 0, none⟩) 1 1), (20, .slice (some ⟨N416, 1, none⟩) 3 3), (21, .int .i64 3), (22, .int .i64 0), (26, .slice (some ⟨g405, 0, none⟩) 1 1), (29, .slice (some ⟨g418, 0, none⟩) 1 1), (31, .slice (some ⟨g406, 0, none⟩) 1 1), (32, .pointer (some ⟨b417, 1, none⟩))] ([⟨g418, [.int .i64 t409], 1⟩, ⟨b417, [.int .i64 t409, .int .i64 t410], 2⟩, ⟨N416, [.int .i64 t408, .int .i64 t409, .int .i64 t410, .int .i64 t411, .int .i64 t412, .int .i64 t413, .int .i64 t414], 7⟩, ⟨g406, [.int .i64 a0_1], 1⟩, ⟨g405, [.int .i64 a0_0], 1⟩, ⟨b404, [.int .i64 0, .int .i64 0], 2⟩, ⟨b403, [.int .i64 3, .int .i64 s1_1, .int .i64 s1_2, .int .i64 s1_3, .int .i64 s1_4, .int .i64 s1_5, .int .i64 s1_6], 7⟩, ⟨b402, [.int .i64 a0_0, .int .i64 a0_1], 2⟩] : List Own) := by
      intro g418
      refine hstep [4, 7] _ _ _ (by kernel_rfl) (List.cons_ne_nil _ _) ⟨?_, ?_, trivial⟩
      · show T _ _ _ _ _ _ _ _
        refine t_app1 (cs := [.int .i64 a0_0]) (M := 1) (F := ([⟨g418, [.int .i64 t409], 1⟩, ⟨b417, [.int .i64 t409, .int .i64 t410], 2⟩, ⟨N416, [.int .i64 t408, .int .i64 t409, .int .i64 t410, .int .i64 t411, .int .i64 t412, .int .i64 t413, .int .i64 t414], 7⟩, ⟨g406, [.int .i64 a0_1], 1⟩, ⟨b404, [.int .i64 0, .int .i64 0], 2⟩, ⟨b403, [.int .i64 3, .int .i64 s1_1, .int .i64 s1_2, .int .i64 s1_3, .int .i64 s1_4, .int .i64 s1_5, .int .i64 s1_6], 7⟩, ⟨b402, [.int .i64 a0_0, .int .i64 a0_1], 2⟩] : List Own)) (news := [.int .i64 t409]) rfl rfl rfl rfl (sel_perm (is := [4]) (by kernel_rfl)) (.at 0 rfl rfl) (by kernel_rfl) rfl rfl (by decide) (by decide) rfl fun g419 ng419 => ?_
        refine t_keep [2, 3, 8, 9, 10, 20, 21, 22, 30, 31, 32] (σ' := [(2, .int .i64 i2), (3, .int .i64 n3), (8, .pointer (some ⟨b404, 0, none⟩)), (9, .slice (some ⟨g405, 0, none⟩) 1 1), (10, .slice (some ⟨g406, 0, none⟩) 1 1), (20, .slice (some ⟨N416, 1, none⟩) 3 3), (21, .int .i64 3), (22, .int .i64 0), (30, .slice (some ⟨g419, 0, none⟩) 2 (ng419 / 1)), (31, .slice (some ⟨g406, 0, none⟩) 1 1), (32, .pointer (some ⟨b417, 1, none⟩))]) (by kernel_rfl) ?_
        refine t_end ?_
        exact ⟨hg_7f g419 ng419 g418, rfl⟩
      · show T _ _ _ _ _ _ _ _
        refine t_v (.ld1 rfl rfl rfl (.at 1 rfl rfl)) ?_
        refine t_keep [2, 3, 8, 9, 10, 20, 21, 22, 26, 29, 31, 33] (σ' := [(2, .int .i64 i2), (3, .int .i64 n3), (8, .pointer (some ⟨b404, 0, none⟩)), (9, .slice (some ⟨g405, 0, none⟩) 1 1), (10, .slice (some ⟨g406, 0, none⟩) 1 1), (20, .slice (some ⟨N416, 1, none⟩) 3 3), (21, .int .i64 3), (22, .int .i64 0), (26, .slice (some ⟨g405, 0, none⟩) 1 1), (29, .slice (some ⟨g418, 0, none⟩) 1 1), (31, .slice (some ⟨g406, 0, none⟩) 1 1), (33, .int .i64 t410)]) (by kernel_rfl) ?_
        refine t_end ?_
        exact ⟨hg_ef g418, rfl⟩
    have hg_e3 : G [true, true, false, false, false, true, true, true, false, false, false, false] [(2, .int .i64 i2), (3, .int .i64 n3), (8, .pointer (some ⟨b404, 0, none⟩)), (9, .slice (some ⟨g405, 0, none⟩) 1 1), (10, .slice (some ⟨g406, 0, none⟩) 1 1), (20, .slice (some ⟨N416, 1, none⟩) 3 3), (21, .int .i64 3), (22, .int .i64 0), (26, .slice (some ⟨g405, 0, none⟩) 1 1), (27, .pointer (some ⟨b417, 0, none⟩)), (31, .slice (some ⟨g406, 0, none⟩) 1 1), (33, .int .i64 t410)] ([⟨b417, [.int .i64 t409, .int .i64 t410], 2⟩, ⟨N416, [.int .i64 t408, .int .i64 t409, .int .i64 t410, .int .i64 t411, .int .i64 t412, .int .i64 t413, .int .i64 t414], 7⟩, ⟨g406, [.int .i64 a0_1], 1⟩, ⟨g405, [.int .i64 a0_0], 1⟩, ⟨b404, [.int .i64 0, .int .i64 0], 2⟩, ⟨b403, [.int .i64 3, .int .i64 s1_1, .int .i64 s1_2, .int .i64 s1_3, .int .i64 s1_4, .int .i64 s1_5, .int .i64 s1_6], 7⟩, ⟨b402, [.int .i64 a0_0, .int .i64 a0_1], 2⟩] : List Own) := by
      refine hstep [2, 8] _ _ _ (by kernel_rfl) (List.cons_ne_nil _ _) ⟨?_, ?_, trivial⟩
      · show T _ _ _ _ _ _ _ _
        refine t_v (.ld1 rfl rfl rfl (.at 0 rfl rfl)) ?_
        refine t_keep [2, 3, 8, 9, 10, 20, 21, 22, 26, 28, 31, 33] (σ' := [(2, .int .i64 i2), (3, .int .i64 n3), (8, .pointer (some ⟨b404, 0, none⟩)), (9, .slice (some ⟨g405, 0, none⟩) 1 1), (10, .slice (some ⟨g406, 0, none⟩) 1 1), (20, .slice (some ⟨N416, 1, none⟩) 3 3), (21, .int .i64 3), (22, .int .i64 0), (26, .slice (some ⟨g405, 0, none⟩) 1 1), (28, .int .i64 t409), (31, .slice (some ⟨g406, 0, none⟩) 1 1), (33, .int .i64 t410)]) (by kernel_rfl) ?_
        refine t_end ?_
        exact ⟨hg_e7, rfl⟩
      · show T _ _ _ _ _ _ _ _
        refine t_a (.bsl rfl rfl rfl rfl) fun g420 fg420 sg420 => ?_
        refine t_keep [2, 3, 8, 9, 10, 20, 21, 22, 26, 27, 31, 34] (σ' := [(2, .int .i64 i2), (3, .int .i64 n3), (8, .pointer (some ⟨b404, 0, none⟩)), (9, .slice (some ⟨g405, 0, none⟩) 1 1), (10, .slice (some ⟨g406, 0, none⟩) 1 1), (20, .slice (some ⟨N416, 1, none⟩) 3 3), (21, .int .i64 3), (22, .int .i64 0), (26, .slice (some ⟨g405, 0, none⟩) 1 1), (27, .pointer (some ⟨b417, 0, none⟩)), (31, .slice (some ⟨g406, 0, none⟩) 1 1), (34, .slice (some ⟨g420, 0, none⟩) 1 1)]) (by kernel_rfl) ?_
        refine t_end ?_
        exact ⟨hg_1e3 g420, rfl⟩
    have hg_67 : G [true, true, true, false, false, true, true, false, false, false, false, false] [(2, .int .i64 i2), (3, .int .i64 n3), (8, .pointer (some ⟨b404, 0, none⟩)), (9, .slice (some ⟨g405, 0, none⟩) 1 1), (10, .slice (some ⟨g406, 0, none⟩) 1 1), (20, .slice (some ⟨N416, 1, none⟩) 3 3), (21, .int .i64 3), (22, .int .i64 0), (26, .slice (some ⟨g405, 0, none⟩) 1 1), (28, .int .i64 t409), (31, .slice (some ⟨g406, 0, none⟩) 1 1), (32, .pointer (some ⟨b417, 1, none⟩))] ([⟨b417, [.int .i64 t409, .int .i64 t410], 2⟩, ⟨N416, [.int .i64 t408, .int .i64 t409, .int .i64 t410, .int .i64 t411, .int .i64 t412, .int .i64 t413, .int .i64 t414], 7⟩, ⟨g406, [.int .i64 a0_1], 1⟩, ⟨g405, [.int .i64 a0_0], 1⟩, ⟨b404, [.int .i64 0, .int .i64 0], 2⟩, ⟨b403, [.int .i64 3, .int .i64 s1_1, .int .i64 s1_2, .int .i64 s1_3, .int .i64 s1_4, .int .i64 s1_5, .int .i64 s1_6], 7⟩, ⟨b402, [.int .i64 a0_0, .int .i64 a0_1], 2⟩] : List Own) := by
      refine hstep [3, 7] _ _ _ (by kernel_rfl) (List.cons_ne_nil _ _) ⟨?_, ?_, trivial⟩
      · show T _ _ _ _ _ _ _ _
        refine t_a (.bsl rfl rfl rfl rfl) fun g418 fg418 sg418 => ?_
        refine t_keep [2, 3, 8, 9, 10, 20, 21, 22, 26, 29, 31, 32] (σ' := [(2, .int .i64 i2), (3, .int .i64 n3), (8, .pointer (some ⟨b404, 0, none⟩)), (9, .slice (some ⟨g405, 0, none⟩) 1 1), (10, .slice (some ⟨g406, 0, none⟩) 1 1), (20, .slice (some ⟨N416, 1, none⟩) 3 3), (21, .int .i64 3), (22, .int .i64 0), (26, .slice (some ⟨g405, 0, none⟩) 1 1), (29, .slice (some ⟨g418, 0, none⟩) 1 1), (31, .slice (some ⟨g406, 0, none⟩) 1 1), (32, .pointer (some ⟨b417, 1, none⟩))]) (by kernel_rfl) ?_
        refine t_end ?_
        exact ⟨hg_6f g418, rfl⟩
      · show T _ _ _ _ _ _ _ _
        refine t_v (.ld1 rfl rfl rfl (.at 0 rfl rfl)) ?_
        refine t_keep [2, 3, 8, 9, 10, 20, 21, 22, 26, 28, 31, 33] (σ' := [(2, .int .i64 i2), (3, .int .i64 n3), (8, .pointer (some ⟨b404, 0, none⟩)), (9, .slice (some ⟨g405, 0, none⟩) 1 1), (10, .slice (some ⟨g406, 0, none⟩) 1 1), (20, .slice (some ⟨N416, 1, none⟩) 3 3), (21, .int .i64 3), (22, .int .i64 0), (26, .slice (some ⟨g405, 0, none⟩) 1 1), (28, .int .i64 t409), (31, .slice (some ⟨g406, 0, none⟩) 1 1), (33, .int .i64 t410)]) (by kernel_rfl) ?_
        refine t_end ?_
        exact ⟨hg_e7, rfl⟩
    have hg_63 : G [true, true, false, false, false, true, true, false, false, false, false, false] [(2, .int .i64 i2), (3, .int .i64 n3), (8, .pointer (some ⟨b404, 0, none⟩)), (9, .slice (some ⟨g405, 0, none⟩) 1 1), (10, .slice (some ⟨g406, 0, none⟩) 1 1), (20, .slice (some ⟨N416, 1, none⟩) 3 3), (21, .int .i64 3), (22, .int .i64 0), (26, .slice (some ⟨g405, 0, none⟩) 1 1), (27, .pointer (some ⟨b417, 0, none⟩)), (31, .slice (some ⟨g406, 0, none⟩) 1 1), (32, .pointer (some ⟨b417, 1, none⟩))] ([⟨b417, [.int .i64 t409, .int .i64 t410], 2⟩, ⟨N416, [.int .i64 t408, .int .i64 t409, .int .i64 t410, .int .i64 t411, .int .i64 t412, .int .i64 t413, .int .i64 t414], 7⟩, ⟨g406, [.int .i64 a0_1], 1⟩, ⟨g405, [.int .i64 a0_0], 1⟩, ⟨b404, [.int .i64 0, .int .i64 0], 2⟩, ⟨b403, [.int .i64 3, .int .i64 s1_1, .int .i64 s1_2, .int .i64 s1_3, .int .i64 s1_4, .int .i64 s1_5, .int .i64 s1_6], 7⟩, ⟨b402, [.int .i64 a0_0, .int .i64 a0_1], 2⟩] : List Own) := by
      refine hstep [2, 7] _ _ _ (by kernel_rfl) (List.cons_ne_nil _ _) ⟨?_, ?_, trivial⟩
      · show T _ _ _ _ _ _ _ _
        refine t_v (.ld1 rfl rfl rfl (.at 0 rfl rfl)) ?_
        refine t_keep [2, 3, 8, 9, 10, 20, 21, 22, 26, 28, 31, 32] (σ' := [(2, .int .i64 i2), (3, .int .i64 n3), (8, .pointer (some ⟨b404, 0, none⟩)), (9, .slice (some ⟨g405, 0, none⟩) 1 1), (10, .slice (some ⟨g406, 0, none⟩) 1 1), (20, .slice (some ⟨N416, 1, none⟩) 3 3), (21, .int .i64 3), (22, .int .i64 0), (26, .slice (some ⟨g405, 0, none⟩) 1 1), (28, .int .i64 t409), (31, .slice (some ⟨g406, 0, none⟩) 1 1), (32, .pointer (some ⟨b417, 1, none⟩))]) (by kernel_rfl) ?_
        refine t_end ?_
        exact ⟨hg_67, rfl⟩
      · show T _ _ _ _ _ _ _ _
        refine t_v (.ld1 rfl rfl rfl (.at 0 rfl rfl)) ?_
        refine t_keep [2, 3, 8, 9, 10, 20, 21, 22, 26, 27, 31, 33] (σ' := [(2, .int .i64 i2), (3, .int .i64 n3), (8, .pointer (some ⟨b404, 0, none⟩)), (9, .slice (some ⟨g405, 0, none⟩) 1 1), (10, .slice (some ⟨g406, 0, none⟩) 1 1), (20, .slice (some ⟨N416, 1, none⟩) 3 3), (21, .int .i64 3), (22, .int .i64 0), (26, .slice (some ⟨g405, 0, none⟩) 1 1), (27, .pointer (some ⟨b417, 0, none⟩)), (31, .slice (some ⟨g406, 0, none⟩) 1 1), (33, .int .i64 t410)]) (by kernel_rfl) ?_
        refine t_end ?_
        exact ⟨hg_e3, rfl⟩
    have hg_23 : G [true, true, false, false, false, true, false, false, false, false, false, false] [(2, .int .i64 i2), (3, .int .i64 n3), (8, .pointer (some ⟨b404, 0, none⟩)), (9, .slice (some ⟨g405, 0, none⟩) 1 1), (10, .slice (some ⟨g406, 0, none⟩) 1 1), (12, .pointer (some ⟨b417, 0, none⟩)), (20, .slice (some ⟨N416, 1, none⟩) 3 3), (21, .int .i64 3), (22, .int .i64 0), (26, .slice (some ⟨g405, 0, none⟩) 1 1), (27, .pointer (some ⟨b417, 0, none⟩)), (31, .slice (some ⟨g406, 0, none⟩) 1 1)] ([⟨b417, [.int .i64 t409, .int .i64 t410], 2⟩, ⟨N416, [.int .i64 t408, .int .i64 t409, .int .i64 t410, .int .i64 t411, .int .i64 t412, .int .i64 t413, .int .i64 t414], 7⟩, ⟨g406, [.int .i64 a0_1], 1⟩, ⟨g405, [.int .i64 a0_0], 1⟩, ⟨b404, [.int .i64 0, .int .i64 0], 2⟩, ⟨b403, [.int .i64 3, .int .i64 s1_1, .int .i64 s1_2, .int .i64 s1_3, .int .i64 s1_4, .int .i64 s1_5, .int .i64 s1_6], 7⟩, ⟨b402, [.int .i64 a0_0, .int .i64 a0_1], 2⟩] : List Own) := by
      exact hqf 6 [2, 3, 8, 9, 10, 20, 21, 22, 26, 27, 31, 32] _ _ _ [(2, .int .i64 i2), (3, .int .i64 n3), (8, .pointer (some ⟨b404, 0, none⟩)), (9, .slice (some ⟨g405, 0, none⟩) 1 1), (10, .slice (some ⟨g406, 0, none⟩) 1 1), (20, .slice (some ⟨N416, 1, none⟩) 3 3), (21, .int .i64 3), (22, .int .i64 0), (26, .slice (some ⟨g405, 0, none⟩) 1 1), (27, .pointer (some ⟨b417, 0, none⟩)), (31, .slice (some ⟨g406, 0, none⟩) 1 1), (32, .pointer (some ⟨b417, 1, none⟩))] (by kernel_rfl) (by kernel_rfl) hg_63
    have hg_3 : G [true, true, false, false, false, false, false, false, false, false, false, false] [(2, .int .i64 i2), (3, .int .i64 n3), (8, .pointer (some ⟨b404, 0, none⟩)), (9, .slice (some ⟨g405, 0, none⟩) 1 1), (10, .slice (some ⟨g406, 0, none⟩) 1 1), (12, .pointer (some ⟨b417, 0, none⟩)), (20, .slice (some ⟨N416, 1, none⟩) 3 3), (21, .int .i64 3), (22, .int .i64 0), (26, .slice (some ⟨g405, 0, none⟩) 1 1), (27, .pointer (some ⟨b417, 0, none⟩))] ([⟨b417, [.int .i64 t409, .int .i64 t410], 2⟩, ⟨N416, [.int .i64 t408, .int .i64 t409, .int .i64 t410, .int .i64 t411, .int .i64 t412, .int .i64 t413, .int .i64 t414], 7⟩, ⟨g406, [.int .i64 a0_1], 1⟩, ⟨g405, [.int .i64 a0_0], 1⟩, ⟨b404, [.int .i64 0, .int .i64 0], 2⟩, ⟨b403, [.int .i64 3, .int .i64 s1_1, .int .i64 s1_2, .int .i64 s1_3, .int .i64 s1_4, .int .i64 s1_5, .int .i64 s1_6], 7⟩, ⟨b402, [.int .i64 a0_0, .int .i64 a0_1], 2⟩] : List Own) := by
      exact hqf 5 [2, 3, 8, 9, 10, 12, 20, 21, 22, 26, 27, 31] _ _ _ [(2, .int .i64 i2), (3, .int .i64 n3), (8, .pointer (some ⟨b404, 0, none⟩)), (9, .slice (some ⟨g405, 0, none⟩) 1 1), (10, .slice (some ⟨g406, 0, none⟩) 1 1), (12, .pointer (some ⟨b417, 0, none⟩)), (20, .slice (some ⟨N416, 1, none⟩) 3 3), (21, .int .i64 3), (22, .int .i64 0), (26, .slice (some ⟨g405, 0, none⟩) 1 1), (27, .pointer (some ⟨b417, 0, none⟩)), (31, .slice (some ⟨g406, 0, none⟩) 1 1)] (by kernel_rfl) (by kernel_rfl) hg_23
    have hg_1 : G [true, false, false, false, false, false, false, false, false, false, false, false] [(2, .int .i64 i2), (3, .int .i64 n3), (8, .pointer (some ⟨b404, 0, none⟩)), (9, .slice (some ⟨g405, 0, none⟩) 1 1), (10, .slice (some ⟨g406, 0, none⟩) 1 1), (12, .pointer (some ⟨b417, 0, none⟩)), (20, .slice (some ⟨N416, 1, none⟩) 3 3), (21, .int .i64 3), (22, .int .i64 0), (26, .slice (some ⟨g405, 0, none⟩) 1 1)] ([⟨b417, [.int .i64 t409, .int .i64 t410], 2⟩, ⟨N416, [.int .i64 t408, .int .i64 t409, .int .i64 t410, .int .i64 t411, .int .i64 t412, .int .i64 t413, .int .i64 t414], 7⟩, ⟨g406, [.int .i64 a0_1], 1⟩, ⟨g405, [.int .i64 a0_0], 1⟩, ⟨b404, [.int .i64 0, .int .i64 0], 2⟩, ⟨b403, [.int .i64 3, .int .i64 s1_1, .int .i64 s1_2, .int .i64 s1_3, .int .i64 s1_4, .int .i64 s1_5, .int .i64 s1_6], 7⟩, ⟨b402, [.int .i64 a0_0, .int .i64 a0_1], 2⟩] : List Own) := by
      exact hqf 1 [2, 3, 8, 9, 10, 12, 20, 21, 22, 26, 27] _ _ _ [(2, .int .i64 i2), (3, .int .i64 n3), (8, .pointer (some ⟨b404, 0, none⟩)), (9, .slice (some ⟨g405, 0, none⟩) 1 1), (10, .slice (some ⟨g406, 0, none⟩) 1 1), (12, .pointer (some ⟨b417, 0, none⟩)), (20, .slice (some ⟨N416, 1, none⟩) 3 3), (21, .int .i64 3), (22, .int .i64 0), (26, .slice (some ⟨g405, 0, none⟩) 1 1), (27, .pointer (some ⟨b417, 0, none⟩))] (by kernel_rfl) (by kernel_rfl) hg_3
    have hg_0 : G [false, false, false, false, false, false, false, false, false, false, false, false] [(2, .int .i64 i2), (3, .int .i64 n3), (8, .pointer (some ⟨b404, 0, none⟩)), (9, .slice (some ⟨g405, 0, none⟩) 1 1), (10, .slice (some ⟨g406, 0, none⟩) 1 1), (12, .pointer (some ⟨b417, 0, none⟩)), (20, .slice (some ⟨N416, 1, none⟩) 3 3), (21, .int .i64 3), (22, .int .i64 0)] ([⟨b417, [.int .i64 t409, .int .i64 t410], 2⟩, ⟨N416, [.int .i64 t408, .int .i64 t409, .int .i64 t410, .int .i64 t411, .int .i64 t412, .int .i64 t413, .int .i64 t414], 7⟩, ⟨g406, [.int .i64 a0_1], 1⟩, ⟨g405, [.int .i64 a0_0], 1⟩, ⟨b404, [.int .i64 0, .int .i64 0], 2⟩, ⟨b403, [.int .i64 3, .int .i64 s1_1, .int .i64 s1_2, .int .i64 s1_3, .int .i64 s1_4, .int .i64 s1_5, .int .i64 s1_6], 7⟩, ⟨b402, [.int .i64 a0_0, .int .i64 a0_1], 2⟩] : List Own) := by
      exact hqf 0 [2, 3, 8, 9, 10, 12, 20, 21, 22, 26] _ _ _ [(2, .int .i64 i2), (3, .int .i64 n3), (8, .pointer (some ⟨b404, 0, none⟩)), (9, .slice (some ⟨g405, 0, none⟩) 1 1), (10, .slice (some ⟨g406, 0, none⟩) 1 1), (12, .pointer (some ⟨b417, 0, none⟩)), (20, .slice (some ⟨N416, 1, none⟩) 3 3), (21, .int .i64 3), (22, .int .i64 0), (26, .slice (some ⟨g405, 0, none⟩) 1 1)] (by kernel_rfl) (by kernel_rfl) hg_1
    exact hg_0
  have hg_7f : ∀ (g406 : Nat) (g405 : Nat), G [true, true, true, true, true, true, true, false] [(2, .int .i64 i2), (3, .int .i64 n3), (5, .pointer (some ⟨b403, 0, none⟩)), (8, .pointer (some ⟨b404, 0, none⟩)), (9, .slice (some ⟨g405, 0, none⟩) 1 1), (18, .slice (some ⟨g406, 0, none⟩) 1 1)] ([⟨g406, [.int .i64 a0_1], 1⟩, ⟨g405, [.int .i64 a0_0], 1⟩, ⟨b404, [.int .i64 0, .int .i64 0], 2⟩, ⟨b403, [.int .i64 3, .int .i64 s1_1, .int .i64 s1_2, .int .i64 s1_3, .int .i64 s1_4, .int .i64 s1_5, .int .i64 s1_6], 7⟩, ⟨b402, [.int .i64 a0_0, .int .i64 a0_1], 2⟩] : List Own) := by
    intro g406 g405
    exact hqf 7 [2, 3, 5, 8, 9, 10] _ _ _ [(2, .int .i64 i2), (3, .int .i64 n3), (5, .pointer (some ⟨b403, 0, none⟩)), (8, .pointer (some ⟨b404, 0, none⟩)), (9, .slice (some ⟨g405, 0, none⟩) 1 1), (10, .slice (some ⟨g406, 0, none⟩) 1 1)] (by kernel_rfl) (by kernel_rfl) (hg_ff g406 g405)
  have hg_3f : ∀ (g406 : Nat) (g405 : Nat), G [true, true, true, true, true, true, false, false] [(2, .int .i64 i2), (3, .int .i64 n3), (5, .pointer (some ⟨b403, 0, none⟩)), (8, .pointer (some ⟨b404, 0, none⟩)), (15, .slice (some ⟨g405, 0, none⟩) 1 1), (18, .slice (some ⟨g406, 0, none⟩) 1 1)] ([⟨g406, [.int .i64 a0_1], 1⟩, ⟨g405, [.int .i64 a0_0], 1⟩, ⟨b404, [.int .i64 0, .int .i64 0], 2⟩, ⟨b403, [.int .i64 3, .int .i64 s1_1, .int .i64 s1_2, .int .i64 s1_3, .int .i64 s1_4, .int .i64 s1_5, .int .i64 s1_6], 7⟩, ⟨b402, [.int .i64 a0_0, .int .i64 a0_1], 2⟩] : List Own) := by
    intro g406 g405
    exact hqf 6 [2, 3, 5, 8, 9, 18] _ _ _ [(2, .int .i64 i2), (3, .int .i64 n3), (5, .pointer (some ⟨b403, 0, none⟩)), (8, .pointer (some ⟨b404, 0, none⟩)), (9, .slice (some ⟨g405, 0, none⟩) 1 1), (18, .slice (some ⟨g406, 0, none⟩) 1 1)] (by kernel_rfl) (by kernel_rfl) (hg_7f g406 g405)
  have hg_5f : ∀ (g405 : Nat), G [true, true, true, true, true, false, true, false] [(2, .int .i64 i2), (3, .int .i64 n3), (5, .pointer (some ⟨b403, 0, none⟩)), (8, .pointer (some ⟨b404, 0, none⟩)), (9, .slice (some ⟨g405, 0, none⟩) 1 1), (17, .int .i64 a0_1)] ([⟨g405, [.int .i64 a0_0], 1⟩, ⟨b404, [.int .i64 0, .int .i64 0], 2⟩, ⟨b403, [.int .i64 3, .int .i64 s1_1, .int .i64 s1_2, .int .i64 s1_3, .int .i64 s1_4, .int .i64 s1_5, .int .i64 s1_6], 7⟩, ⟨b402, [.int .i64 a0_0, .int .i64 a0_1], 2⟩] : List Own) := by
    intro g405
    refine hstep [5] _ _ _ (by kernel_rfl) (List.cons_ne_nil _ _) ⟨?_, trivial⟩
    · show T _ _ _ _ _ _ _ _
      refine t_a (.bsl rfl rfl rfl rfl) fun g406 fg406 sg406 => ?_
      refine t_keep [2, 3, 5, 8, 9, 18] (σ' := [(2, .int .i64 i2), (3, .int .i64 n3), (5, .pointer (some ⟨b403, 0, none⟩)), (8, .pointer (some ⟨b404, 0, none⟩)), (9, .slice (some ⟨g405, 0, none⟩) 1 1), (18, .slice (some ⟨g406, 0, none⟩) 1 1)]) (by kernel_rfl) ?_
      refine t_end ?_
      exact ⟨hg_7f g406 g405, rfl⟩
  have hg_3b : ∀ (g406 : Nat), G [true, true, false, true, true, true, false, false] [(2, .int .i64 i2), (3, .int .i64 n3), (5, .pointer (some ⟨b403, 0, none⟩)), (8, .pointer (some ⟨b404, 0, none⟩)), (14, .int .i64 a0_0), (18, .slice (some ⟨g406, 0, none⟩) 1 1)] ([⟨g406, [.int .i64 a0_1], 1⟩, ⟨b404, [.int .i64 0, .int .i64 0], 2⟩, ⟨b403, [.int .i64 3, .int .i64 s1_1, .int .i64 s1_2, .int .i64 s1_3, .int .i64 s1_4, .int .i64 s1_5, .int .i64 s1_6], 7⟩, ⟨b402, [.int .i64 a0_0, .int .i64 a0_1], 2⟩] : List Own) := by
    intro g406
    refine hstep [2] _ _ _ (by kernel_rfl) (List.cons_ne_nil _ _) ⟨?_, trivial⟩
    · show T _ _ _ _ _ _ _ _
      refine t_a (.bsl rfl rfl rfl rfl) fun g405 fg405 sg405 => ?_
      refine t_keep [2, 3, 5, 8, 15, 18] (σ' := [(2, .int .i64 i2), (3, .int .i64 n3), (5, .pointer (some ⟨b403, 0, none⟩)), (8, .pointer (some ⟨b404, 0, none⟩)), (15, .slice (some ⟨g405, 0, none⟩) 1 1), (18, .slice (some ⟨g406, 0, none⟩) 1 1)]) (by kernel_rfl) ?_
      refine t_vs (H' := ([⟨g406, [.int .i64 a0_1], 1⟩, ⟨g405, [.int .i64 a0_0], 1⟩, ⟨b404, [.int .i64 0, .int .i64 0], 2⟩, ⟨b403, [.int .i64 3, .int .i64 s1_1, .int .i64 s1_2, .int .i64 s1_3, .int .i64 s1_4, .int .i64 s1_5, .int .i64 s1_6], 7⟩, ⟨b402, [.int .i64 a0_0, .int .i64 a0_1], 2⟩] : List Own)) (S' := S) (VS.sel [1, 0, 0, 0, 0] (by kernel_rfl)) ?_
      refine t_end ?_
      exact ⟨hg_3f g406 g405, rfl⟩
  have hg_1f : ∀ (g405 : Nat), G [true, true, true, true, true, false, false, false] [(2, .int .i64 i2), (3, .int .i64 n3), (5, .pointer (some ⟨b403, 0, none⟩)), (8, .pointer (some ⟨b404, 0, none⟩)), (15, .slice (some ⟨g405, 0, none⟩) 1 1), (17, .int .i64 a0_1)] ([⟨g405, [.int .i64 a0_0], 1⟩, ⟨b404, [.int .i64 0, .int .i64 0], 2⟩, ⟨b403, [.int .i64 3, .int .i64 s1_1, .int .i64 s1_2, .int .i64 s1_3, .int .i64 s1_4, .int .i64 s1_5, .int .i64 s1_6], 7⟩, ⟨b402, [.int .i64 a0_0, .int .i64 a0_1], 2⟩] : List Own) := by
    intro g405
    exact hqf 6 [2, 3, 5, 8, 9, 17] _ _ _ [(2, .int .i64 i2), (3, .int .i64 n3), (5, .pointer (some ⟨b403, 0, none⟩)), (8, .pointer (some ⟨b404, 0, none⟩)), (9, .slice (some ⟨g405, 0, none⟩) 1 1), (17, .int .i64 a0_1)] (by kernel_rfl) (by kernel_rfl) (hg_5f g405)
  have hg_4f : ∀ (g405 : Nat), G [true, true, true, true, false, false, true, false] [(2, .int .i64 i2), (3, .int .i64 n3), (5, .pointer (some ⟨b403, 0, none⟩)), (8, .pointer (some ⟨b404, 0, none⟩)), (9, .slice (some ⟨g405, 0, none⟩) 1 1), (16, .pointer (some ⟨b402, 1, none⟩))] ([⟨g405, [.int .i64 a0_0], 1⟩, ⟨b404, [.int .i64 0, .int .i64 0], 2⟩, ⟨b403, [.int .i64 3, .int .i64 s1_1, .int .i64 s1_2, .int .i64 s1_3, .int .i64 s1_4, .int .i64 s1_5, .int .i64 s1_6], 7⟩, ⟨b402, [.int .i64 a0_0, .int .i64 a0_1], 2⟩] : List Own) := by
    intro g405
    refine hstep [4] _ _ _ (by kernel_rfl) (List.cons_ne_nil _ _) ⟨?_, trivial⟩
    · show T _ _ _ _ _ _ _ _
      refine t_v (.ld1 rfl rfl rfl (.at 3 rfl rfl)) ?_
      refine t_keep [2, 3, 5, 8, 9, 17] (σ' := [(2, .int .i64 i2), (3, .int .i64 n3), (5, .pointer (some ⟨b403, 0, none⟩)), (8, .pointer (some ⟨b404, 0, none⟩)), (9, .slice (some ⟨g405, 0, none⟩) 1 1), (17, .int .i64 a0_1)]) (by kernel_rfl) ?_
      refine t_end ?_
      exact ⟨hg_5f g405, rfl⟩
  have hg_f : ∀ (g405 : Nat), G [true, true, true, true, false, false, false, false] [(2, .int .i64 i2), (3, .int .i64 n3), (5, .pointer (some ⟨b403, 0, none⟩)), (8, .pointer (some ⟨b404, 0, none⟩)), (15, .slice (some ⟨g405, 0, none⟩) 1 1), (16, .pointer (some ⟨b402, 1, none⟩))] ([⟨g405, [.int .i64 a0_0], 1⟩, ⟨b404, [.int .i64 0, .int .i64 0], 2⟩, ⟨b403, [.int .i64 3, .int .i64 s1_1, .int .i64 s1_2, .int .i64 s1_3, .int .i64 s1_4, .int .i64 s1_5, .int .i64 s1_6], 7⟩, ⟨b402, [.int .i64 a0_0, .int .i64 a0_1], 2⟩] : List Own) := by
    intro g405
    exact hqf 6 [2, 3, 5, 8, 9, 16] _ _ _ [(2, .int .i64 i2), (3, .int .i64 n3), (5, .pointer (some ⟨b403, 0, none⟩)), (8, .pointer (some ⟨b404, 0, none⟩)), (9, .slice (some ⟨g405, 0, none⟩) 1 1), (16, .pointer (some ⟨b402, 1, none⟩))] (by kernel_rfl) (by kernel_rfl) (hg_4f g405)
  have hg_1b : G [true, true, false, true, true, false, false, false] [(2, .int .i64 i2), (3, .int .i64 n3), (5, .pointer (some ⟨b403, 0, none⟩)), (8, .pointer (some ⟨b404, 0, none⟩)), (14, .int .i64 a0_0), (17, .int .i64 a0_1)] ([⟨b404, [.int .i64 0, .int .i64 0], 2⟩, ⟨b403, [.int .i64 3, .int .i64 s1_1, .int .i64 s1_2, .int .i64 s1_3, .int .i64 s1_4, .int .i64 s1_5, .int .i64 s1_6], 7⟩, ⟨b402, [.int .i64 a0_0, .int .i64 a0_1], 2⟩] : List Own) := by
    refine hstep [2, 5] _ _ _ (by kernel_rfl) (List.cons_ne_nil _ _) ⟨?_, ?_, trivial⟩
    · show T _ _ _ _ _ _ _ _
      refine t_a (.bsl rfl rfl rfl rfl) fun g405 fg405 sg405 => ?_
      refine t_keep [2, 3, 5, 8, 15, 17] (σ' := [(2, .int .i64 i2), (3, .int .i64 n3), (5, .pointer (some ⟨b403, 0, none⟩)), (8, .pointer (some ⟨b404, 0, none⟩)), (15, .slice (some ⟨g405, 0, none⟩) 1 1), (17, .int .i64 a0_1)]) (by kernel_rfl) ?_
      refine t_end ?_
      exact ⟨hg_1f g405, rfl⟩
    · show T _ _ _ _ _ _ _ _
      refine t_a (.bsl rfl rfl rfl rfl) fun g406 fg406 sg406 => ?_
      refine t_keep [2, 3, 5, 8, 14, 18] (σ' := [(2, .int .i64 i2), (3, .int .i64 n3), (5, .pointer (some ⟨b403, 0, none⟩)), (8, .pointer (some ⟨b404, 0, none⟩)), (14, .int .i64 a0_0), (18, .slice (some ⟨g406, 0, none⟩) 1 1)]) (by kernel_rfl) ?_
      refine t_end ?_
      exact ⟨hg_3b g406, rfl⟩
  have hg_39 : ∀ (g406 : Nat), G [true, false, false, true, true, true, false, false] [(2, .int .i64 i2), (3, .int .i64 n3), (5, .pointer (some ⟨b403, 0, none⟩)), (8, .pointer (some ⟨b404, 0, none⟩)), (13, .pointer (some ⟨b402, 0, none⟩)), (18, .slice (some ⟨g406, 0, none⟩) 1 1)] ([⟨g406, [.int .i64 a0_1], 1⟩, ⟨b404, [.int .i64 0, .int .i64 0], 2⟩, ⟨b403, [.int .i64 3, .int .i64 s1_1, .int .i64 s1_2, .int .i64 s1_3, .int .i64 s1_4, .int .i64 s1_5, .int .i64 s1_6], 7⟩, ⟨b402, [.int .i64 a0_0, .int .i64 a0_1], 2⟩] : List Own) := by
    intro g406
    refine hstep [1] _ _ _ (by kernel_rfl) (List.cons_ne_nil _ _) ⟨?_, trivial⟩
    · show T _ _ _ _ _ _ _ _
      refine t_v (.ld1 rfl rfl rfl (.at 3 rfl rfl)) ?_
      refine t_keep [2, 3, 5, 8, 14, 18] (σ' := [(2, .int .i64 i2), (3, .int .i64 n3), (5, .pointer (some ⟨b403, 0, none⟩)), (8, .pointer (some ⟨b404, 0, none⟩)), (14, .int .i64 a0_0), (18, .slice (some ⟨g406, 0, none⟩) 1 1)]) (by kernel_rfl) ?_
      refine t_end ?_
      exact ⟨hg_3b g406, rfl⟩
  have hg_b : G [true, true, false, true, false, false, false, false] [(2, .int .i64 i2), (3, .int .i64 n3), (5, .pointer (some ⟨b403, 0, none⟩)), (8, .pointer (some ⟨b404, 0, none⟩)), (14, .int .i64 a0_0), (16, .pointer (some ⟨b402, 1, none⟩))] ([⟨b404, [.int .i64 0, .int .i64 0], 2⟩, ⟨b403, [.int .i64 3, .int .i64 s1_1, .int .i64 s1_2, .int .i64 s1_3, .int .i64 s1_4, .int .i64 s1_5, .int .i64 s1_6], 7⟩, ⟨b402, [.int .i64 a0_0, .int .i64 a0_1], 2⟩] : List Own) := by
    refine hstep [2, 4] _ _ _ (by kernel_rfl) (List.cons_ne_nil _ _) ⟨?_, ?_, trivial⟩
    · show T _ _ _ _ _ _ _ _
      refine t_a (.bsl rfl rfl rfl rfl) fun g405 fg405 sg405 => ?_
      refine t_keep [2, 3, 5, 8, 15, 16] (σ' := [(2, .int .i64 i2), (3, .int .i64 n3), (5, .pointer (some ⟨b403, 0, none⟩)), (8, .pointer (some ⟨b404, 0, none⟩)), (15, .slice (some ⟨g405, 0, none⟩) 1 1), (16, .pointer (some ⟨b402, 1, none⟩))]) (by kernel_rfl) ?_
      refine t_end ?_
      exact ⟨hg_f g405, rfl⟩
    · show T _ _ _ _ _ _ _ _
      refine t_v (.ld1 rfl rfl rfl (.at 2 rfl rfl)) ?_
      refine t_keep [2, 3, 5, 8, 14, 17] (σ' := [(2, .int .i64 i2), (3, .int .i64 n3), (5, .pointer (some ⟨b403, 0, none⟩)), (8, .pointer (some ⟨b404, 0, none⟩)), (14, .int .i64 a0_0), (17, .int .i64 a0_1)]) (by kernel_rfl) ?_
      refine t_end ?_
      exact ⟨hg_1b, rfl⟩
  have hg_19 : G [true, false, false, true, true, false, false, false] [(2, .int .i64 i2), (3, .int .i64 n3), (5, .pointer (some ⟨b403, 0, none⟩)), (8, .pointer (some ⟨b404, 0, none⟩)), (13, .pointer (some ⟨b402, 0, none⟩)), (17, .int .i64 a0_1)] ([⟨b404, [.int .i64 0, .int .i64 0], 2⟩, ⟨b403, [.int .i64 3, .int .i64 s1_1, .int .i64 s1_2, .int .i64 s1_3, .int .i64 s1_4, .int .i64 s1_5, .int .i64 s1_6], 7⟩, ⟨b402, [.int .i64 a0_0, .int .i64 a0_1], 2⟩] : List Own) := by
    refine hstep [1, 5] _ _ _ (by kernel_rfl) (List.cons_ne_nil _ _) ⟨?_, ?_, trivial⟩
    · show T _ _ _ _ _ _ _ _
      refine t_v (.ld1 rfl rfl rfl (.at 2 rfl rfl)) ?_
      refine t_keep [2, 3, 5, 8, 14, 17] (σ' := [(2, .int .i64 i2), (3, .int .i64 n3), (5, .pointer (some ⟨b403, 0, none⟩)), (8, .pointer (some ⟨b404, 0, none⟩)), (14, .int .i64 a0_0), (17, .int .i64 a0_1)]) (by kernel_rfl) ?_
      refine t_end ?_
      exact ⟨hg_1b, rfl⟩
    · show T _ _ _ _ _ _ _ _
      refine t_a (.bsl rfl rfl rfl rfl) fun g406 fg406 sg406 => ?_
      refine t_keep [2, 3, 5, 8, 13, 18] (σ' := [(2, .int .i64 i2), (3, .int .i64 n3), (5, .pointer (some ⟨b403, 0, none⟩)), (8, .pointer (some ⟨b404, 0, none⟩)), (13, .pointer (some ⟨b402, 0, none⟩)), (18, .slice (some ⟨g406, 0, none⟩) 1 1)]) (by kernel_rfl) ?_
      refine t_end ?_
      exact ⟨hg_39 g406, rfl⟩
  have hg_9 : G [true, false, false, true, false, false, false, false] [(2, .int .i64 i2), (3, .int .i64 n3), (5, .pointer (some ⟨b403, 0, none⟩)), (8, .pointer (some ⟨b404, 0, none⟩)), (13, .pointer (some ⟨b402, 0, none⟩)), (16, .pointer (some ⟨b402, 1, none⟩))] ([⟨b404, [.int .i64 0, .int .i64 0], 2⟩, ⟨b403, [.int .i64 3, .int .i64 s1_1, .int .i64 s1_2, .int .i64 s1_3, .int .i64 s1_4, .int .i64 s1_5, .int .i64 s1_6], 7⟩, ⟨b402, [.int .i64 a0_0, .int .i64 a0_1], 2⟩] : List Own) := by
    refine hstep [1, 4] _ _ _ (by kernel_rfl) (List.cons_ne_nil _ _) ⟨?_, ?_, trivial⟩
    · show T _ _ _ _ _ _ _ _
      refine t_v (.ld1 rfl rfl rfl (.at 2 rfl rfl)) ?_
      refine t_keep [2, 3, 5, 8, 14, 16] (σ' := [(2, .int .i64 i2), (3, .int .i64 n3), (5, .pointer (some ⟨b403, 0, none⟩)), (8, .pointer (some ⟨b404, 0, none⟩)), (14, .int .i64 a0_0), (16, .pointer (some ⟨b402, 1, none⟩))]) (by kernel_rfl) ?_
      refine t_end ?_
      exact ⟨hg_b, rfl⟩
    · show T _ _ _ _ _ _ _ _
      refine t_v (.ld1 rfl rfl rfl (.at 2 rfl rfl)) ?_
      refine t_keep [2, 3, 5, 8, 13, 17] (σ' := [(2, .int .i64 i2), (3, .int .i64 n3), (5, .pointer (some ⟨b403, 0, none⟩)), (8, .pointer (some ⟨b404, 0, none⟩)), (13, .pointer (some ⟨b402, 0, none⟩)), (17, .int .i64 a0_1)]) (by kernel_rfl) ?_
      refine t_end ?_
      exact ⟨hg_19, rfl⟩
  have hg_1 : G [true, false, false, false, false, false, false, false] [(2, .int .i64 i2), (3, .int .i64 n3), (4, .pointer (some ⟨b402, 0, none⟩)), (5, .pointer (some ⟨b403, 0, none⟩)), (8, .pointer (some ⟨b404, 0, none⟩)), (13, .pointer (some ⟨b402, 0, none⟩))] ([⟨b404, [.int .i64 0, .int .i64 0], 2⟩, ⟨b403, [.int .i64 3, .int .i64 s1_1, .int .i64 s1_2, .int .i64 s1_3, .int .i64 s1_4, .int .i64 s1_5, .int .i64 s1_6], 7⟩, ⟨b402, [.int .i64 a0_0, .int .i64 a0_1], 2⟩] : List Own) := by
    exact hqf 3 [2, 3, 5, 8, 13, 16] _ _ _ [(2, .int .i64 i2), (3, .int .i64 n3), (5, .pointer (some ⟨b403, 0, none⟩)), (8, .pointer (some ⟨b404, 0, none⟩)), (13, .pointer (some ⟨b402, 0, none⟩)), (16, .pointer (some ⟨b402, 1, none⟩))] (by kernel_rfl) (by kernel_rfl) hg_9
  have hg_0 : G [false, false, false, false, false, false, false, false] [(2, .int .i64 i2), (3, .int .i64 n3), (4, .pointer (some ⟨b402, 0, none⟩)), (5, .pointer (some ⟨b403, 0, none⟩)), (8, .pointer (some ⟨b404, 0, none⟩))] ([⟨b404, [.int .i64 0, .int .i64 0], 2⟩, ⟨b403, [.int .i64 3, .int .i64 s1_1, .int .i64 s1_2, .int .i64 s1_3, .int .i64 s1_4, .int .i64 s1_5, .int .i64 s1_6], 7⟩, ⟨b402, [.int .i64 a0_0, .int .i64 a0_1], 2⟩] : List Own) := by
    exact hqf 0 [2, 3, 4, 5, 8, 13] _ _ _ [(2, .int .i64 i2), (3, .int .i64 n3), (4, .pointer (some ⟨b402, 0, none⟩)), (5, .pointer (some ⟨b403, 0, none⟩)), (8, .pointer (some ⟨b404, 0, none⟩)), (13, .pointer (some ⟨b402, 0, none⟩))] (by kernel_rfl) (by kernel_rfl) hg_1
  exact hg_0

def flatten_Path_1_v2.f (to0_0 : Int) (to0_1 : Int) (m0_0 : Int) (m0_1 : Int) (m2_L : List (Int × Int × Int × Int)) : Option (List (Int × Int × Int × Int) × Int × Int) := if ((m0_0 == to0_0) && (m0_1 == to0_1)) = true then (some (m2_L, to0_0, to0_1)) else ((lapp m2_L ([(m0_0, m0_1, to0_0, to0_1)] : List (Int × Int × Int × Int))).bind fun y397 => (some (y397, to0_0, to0_1)))
theorem flatten_Path_1_v2.ok {S : Seal} {B0 : Nat} {B1 : Nat} {B2 : Option Nat} {nB2 : Nat} {to0_0 : Int} {to0_1 : Int} {m0_0 : Int} {m0_1 : Int} {m2_L : List (Int × Int × Int × Int)} {r0_ : List (Int × Int × Int × Int)} {r1_ : Int} {r2_ : Int}(e : flatten_Path_1_v2.f to0_0 to0_1 m0_0 m0_1 m2_L = some (r0_, r1_, r2_)) :
    Cal Try.prog 67 [.agg #[.int .i64 to0_0, .int .i64 to0_1], .pointer (some ⟨B0, 0, none⟩), .pointer (some ⟨B1, 0, none⟩)] ([⟨B0, [.int .i64 m0_0, .int .i64 m0_1], 2⟩, ⟨B1, [.slice (ad B2) m2_L.length (nB2 / 4)], 1⟩, ⟨B2, encL E_i644 m2_L, nB2⟩] : List Own) S fun v H' S' => ∃ (N0_ : Option Nat) (nN0_ : Nat) , v = .tuple #[] ∧ H' = ([⟨N0_, encL E_i644 r0_, nN0_⟩, ⟨B0, [.int .i64 r1_, .int .i64 r2_], 2⟩, ⟨B1, [.slice (ad N0_) r0_.length (nN0_ / 4)], 1⟩] : List Own) ∧ S' = S := by
  unfold flatten_Path_1_v2.f at e
  refine cal_of (c := c67) (N := 14) Try.func67 rfl rfl (by kernel_rfl) (rs := []) (by kernel_rfl) (Nat.le_of_ble_eq_true rfl) ?_
  unfold c67
  refine w_seq ?_
  refine w_reg fun all => ?_
  refine t_a (.box rfl rfl rfl) fun b394 fb394 sb394 => ?_
  refine t_keep [1, 2, 3] (σ' := [(1, .pointer (some ⟨B0, 0, none⟩)), (2, .pointer (some ⟨B1, 0, none⟩)), (3, .pointer (some ⟨b394, 0, none⟩))]) (by kernel_rfl) ?_
  refine t_end ?_
  show W _ _ _ _ _ _ _
  refine w_seq ?_
  refine w_seq ?_
  refine w_reg fun all => ?_
  refine t_v (.ldn rfl rfl rfl (.at 1 rfl rfl)) ?_
  refine t_v (.ldn rfl rfl rfl (.at 0 rfl rfl)) ?_
  by_cases c395 : ((m0_0 == to0_0) && (m0_1 == to0_1)) = true
  · rw [if_pos c395] at e
    have c395b : ((m0_0 == to0_0) && (m0_1 == to0_1)) = true := c395
    refine t_v (.eqt (a := .agg #[.int .i64 m0_0, .int .i64 m0_1]) (b := .agg #[.int .i64 to0_0, .int .i64 to0_1]) (r := (m0_0 == to0_0) && (m0_1 == to0_1)) rfl rfl rfl rfl (by kernel_rfl) (bnk c395b rfl)) ?_
    refine t_keep [1, 2, 3, 6] (σ' := [(1, .pointer (some ⟨B0, 0, none⟩)), (2, .pointer (some ⟨B1, 0, none⟩)), (3, .pointer (some ⟨b394, 0, none⟩)), (6, .bool false)]) (by kernel_rfl) ?_
    refine t_end ?_
    show W _ _ _ _ _ _ _
    refine w_cond rfl (fun c_ => by cases c_) (fun _ => ?_)
    show W _ _ _ _ _ _ _
    refine w_skip ?_
    show W _ _ _ _ _ _ _
    refine w_reg fun all => ?_
    refine t_v (.ldn rfl rfl rfl (.at 0 rfl rfl)) ?_
    refine t_sti 1 (cs := [.int .i64 to0_0, .int .i64 to0_1]) rfl rfl rfl rfl rfl rfl rfl rfl rfl ?_
    refine t_keep [] (σ' := []) (by kernel_rfl) ?_
    refine t_end ?_
    simp only [Option.some.injEq, Prod.mk.injEq] at e
    obtain ⟨rfl, rfl, rfl⟩ := e
    exact ⟨[], ([⟨B2, encL E_i644 m2_L, nB2⟩, ⟨B0, [.int .i64 to0_0, .int .i64 to0_1], 2⟩, ⟨B1, [.slice (ad B2) m2_L.length (nB2 / 4)], 1⟩] : List Own), S, trivial, VS.sel [3, 1, 1] (by kernel_rfl), B2, nB2, rfl, rfl, rfl⟩
  · rw [if_neg c395] at e
    have c395b : ((m0_0 == to0_0) && (m0_1 == to0_1)) = false := Bool.eq_false_iff.mpr c395
    refine t_v (.eqt (a := .agg #[.int .i64 m0_0, .int .i64 m0_1]) (b := .agg #[.int .i64 to0_0, .int .i64 to0_1]) (r := (m0_0 == to0_0) && (m0_1 == to0_1)) rfl rfl rfl rfl (by kernel_rfl) (bnk c395b rfl)) ?_
    refine t_keep [1, 2, 3, 6] (σ' := [(1, .pointer (some ⟨B0, 0, none⟩)), (2, .pointer (some ⟨B1, 0, none⟩)), (3, .pointer (some ⟨b394, 0, none⟩)), (6, .bool true)]) (by kernel_rfl) ?_
    refine t_end ?_
    show W _ _ _ _ _ _ _
    refine w_cond rfl (fun _ => ?_) (fun c_ => by cases c_)
    show W _ _ _ _ _ _ _
    refine w_reg fun all => ?_
    refine t_v (.ld1 rfl rfl rfl (.at 2 rfl rfl)) ?_
    refine t_v (.ldn rfl rfl rfl (.at 1 rfl rfl)) ?_
    refine t_v (.ldn rfl rfl rfl (.at 0 rfl rfl)) ?_
    refine t_qz 1 [1, 2, 3, 7, 10] (σ' := [(1, .pointer (some ⟨B0, 0, none⟩)), (2, .pointer (some ⟨B1, 0, none⟩)), (3, .pointer (some ⟨b394, 0, none⟩)), (7, .slice (ad B2) m2_L.length (nB2 / 4)), (10, .agg #[.int .i64 m0_0, .int .i64 m0_1, .int .i64 to0_0, .int .i64 to0_1])]) (by kernel_rfl) ?_
    refine t_a (.bsl rfl rfl rfl rfl) fun b396 fb396 sb396 => ?_
    obtain ⟨y397, hl398, e⟩ := bind_of e
    refine t_appX (E := E_i644) (L := m2_L) (X := ([(m0_0, m0_1, to0_0, to0_1)] : List (Int × Int × Int × Int))) (F := ([⟨b396, [.int .i64 m0_0, .int .i64 m0_1, .int .i64 to0_0, .int .i64 to0_1], 4⟩, ⟨b394, [.int .i64 to0_0, .int .i64 to0_1], 2⟩, ⟨B0, [.int .i64 m0_0, .int .i64 m0_1], 2⟩, ⟨B1, [.slice (ad B2) m2_L.length (nB2 / 4)], 1⟩] : List Own)) rfl rfl rfl rfl (sel_perm (is := [4]) (by kernel_rfl)) rfl (Or.inr ⟨_, _, rfl, .at 0 rfl (by kernel_rfl)⟩) rfl (by decide) (by decide) rfl hl398 fun a399 na399 => ?_
    refine t_sti 4 (cs := [.slice (ad a399) y397.length (na399 / 4)]) rfl rfl rfl rfl rfl rfl rfl rfl rfl ?_
    refine t_keep [1, 3] (σ' := [(1, .pointer (some ⟨B0, 0, none⟩)), (3, .pointer (some ⟨b394, 0, none⟩))]) (by kernel_rfl) ?_
    refine t_end ?_
    show W _ _ _ _ _ _ _
    refine w_reg fun all => ?_
    refine t_v (.ldn rfl rfl rfl (.at 2 rfl rfl)) ?_
    refine t_sti 3 (cs := [.int .i64 to0_0, .int .i64 to0_1]) rfl rfl rfl rfl rfl rfl rfl rfl rfl ?_
    refine t_keep [] (σ' := []) (by kernel_rfl) ?_
    refine t_end ?_
    simp only [Option.some.injEq, Prod.mk.injEq] at e
    obtain ⟨rfl, rfl, rfl⟩ := e
    exact ⟨[], ([⟨a399, encL E_i644 y397, na399⟩, ⟨B0, [.int .i64 to0_0, .int .i64 to0_1], 2⟩, ⟨B1, [.slice (ad a399) y397.length (na399 / 4)], 1⟩] : List Own), S, trivial, VS.sel [0, 2, 2] (by kernel_rfl), a399, na399, rfl, rfl, rfl⟩

def flatten_Path_v2.l1 : Nat → Int → Int → Int → Int → Int → Int → Int → Int → Int → Int → Int → List (Int × Int × Int × Int) → Int → Int → Option (Int × Int × List (Int × Int × Int × Int))
  | 0, _, _, _, _, _, _, _, _, _, _, _, _, _, _ => none
  | k + 1, x358, x359, x364, x365, x366, x367, x368, x369, x370, t381, x384, y386, x387, x388 => if x384 ≤ t381 then (if x364 = 1 then ((flatten_Point_v2.f x358 x359 x365 x366 x367 x368 x369 x370 x384 t381).bind fun (t391, t392) => ((flatten_Path_1_v2.f t391 t392 x387 x388 y386).bind fun (t394, t395, t396) => (flatten_Path_v2.l1 k x358 x359 x364 x365 x366 x367 x368 x369 x370 t381 (wr64 (x384 + 1)) t394 t395 t396))) else (if x364 = 2 then ((flatten_Point_v3.f x358 x359 x365 x366 x367 x368 x369 x370 x384 t381).bind fun (t401, t402) => ((flatten_Path_1_v2.f t401 t402 x387 x388 y386).bind fun (t404, t405, t406) => (flatten_Path_v2.l1 k x358 x359 x364 x365 x366 x367 x368 x369 x370 t381 (wr64 (x384 + 1)) t404 t405 t406))) else (if x364 = 3 then ((flatten_Point_v4.f x358 x359 x365 x366 x367 x368 x369 x370 x384 t381).bind fun (t411, t412) => ((flatten_Path_1_v2.f t411 t412 x387 x388 y386).bind fun (t414, t415, t416) => (flatten_Path_v2.l1 k x358 x359 x364 x365 x366 x367 x368 x369 x370 t381 (wr64 (x384 + 1)) t414 t415 t416))) else (none)))) else (some (x387, x388, y386))
def flatten_Path_v2.l0 : Nat → List (Int × Int × Int × Int × Int × Int × Int) → Int → List (Int × Int × Int × Int) → Int → Int → Option (Int × Int × List (Int × Int × Int × Int))
  | 0, _, _, _, _, _ => none
  | k + 1, p0_2, x355, y357, x358, x359 => if x355 < (p0_2.length : Int) then (((lgt p0_2 x355).bind fun (x364, x365, x366, x367, x368, x369, x370) => ((flatten_Count.f k x358 x359 x364 x365 x366 x367 x368 x369 x370).bind fun t381 => (flatten_Path_v2.l1 k x358 x359 x364 x365 x366 x367 x368 x369 x370 t381 1 y357 x358 x359)) : Option (Int × Int × List (Int × Int × Int × Int))).bind fun (x421, x422, y424) => (flatten_Path_v2.l0 k p0_2 (wr64 (x355 + 1)) y424 x421 x422)) else (some (x358, x359, y357))
def flatten_Path_v2.f (k : Nat) (p0_0 : Int) (p0_1 : Int) (p0_2 : List (Int × Int × Int × Int × Int × Int × Int)) (p0_3 : Bool) (shut1 : Bool) : Option (List (Int × Int × Int × Int)) := (flatten_Path_v2.l0 k p0_2 0 ([] : List (Int × Int × Int × Int)) p0_0 p0_1 : Option (Int × Int × List (Int × Int × Int × Int))).bind fun (x427, x428, y430) => (if shut1 = true then ((flatten_Path_1_v2.f p0_0 p0_1 x427 x428 y430).bind fun (t432, t433, t434) => (some t432)) else (if p0_3 = true then ((flatten_Path_1_v2.f p0_0 p0_1 x427 x428 y430).bind fun (t438, t439, t440) => (some t438)) else (some y430)))
theorem flatten_Path_v2.ok {S : Seal} {k : Nat} {p0_0 : Int} {p0_1 : Int} {p0_2 : List (Int × Int × Int × Int × Int × Int × Int)} {p0_3 : Bool} {shut1 : Bool} {r0_ : List (Int × Int × Int × Int)}{a_p0_2 : Option Addr} {c_p0_2 : Nat} (h_p0_2 : SlE S E_i647 p0_2 a_p0_2) (e : flatten_Path_v2.f k p0_0 p0_1 p0_2 p0_3 shut1 = some r0_) :
    Cal Try.prog 28 [.agg #[.int .i64 p0_0, .int .i64 p0_1, .slice a_p0_2 p0_2.length c_p0_2, .bool p0_3], .bool shut1] [] S fun v H' S' => ∃ (N0_ : Option Nat) (nN0_ : Nat) , v = .slice (ad N0_) r0_.length (nN0_ / 4) ∧ H' = ([⟨N0_, encL E_i644 r0_, nN0_⟩] : List Own) ∧ S' = S := by
  unfold flatten_Path_v2.f at e
  refine cal_of (c := c28) (N := 50) Try.func28 rfl rfl (by kernel_rfl) (rs := [.t 4]) (by kernel_rfl) (Nat.le_of_ble_eq_true rfl) ?_
  unfold c28
  refine w_seq ?_
  refine w_reg fun all => ?_
  refine t_a (.box rfl rfl rfl) fun b349 fb349 sb349 => ?_
  refine t_qz 1 [1, 2] (σ' := [(1, .bool shut1), (2, .pointer (some ⟨b349, 0, none⟩))]) (by kernel_rfl) ?_
  refine t_end ?_
  show W _ _ _ _ _ _ _
  refine w_seq ?_
  refine w_reg fun all => ?_
  refine t_a (.new rfl rfl) fun b350 fb350 sb350 => ?_
  refine t_keep [1, 2, 5] (σ' := [(1, .bool shut1), (2, .pointer (some ⟨b349, 0, none⟩)), (5, .pointer (some ⟨b350, 0, none⟩))]) (by kernel_rfl) ?_
  refine t_end ?_
  show W _ _ _ _ _ _ _
  refine w_seq ?_
  refine w_reg fun all => ?_
  refine t_qz 1 [1, 2, 5, 13] (σ' := [(1, .bool shut1), (2, .pointer (some ⟨b349, 0, none⟩)), (5, .pointer (some ⟨b350, 0, none⟩)), (13, .pointer (some ⟨b349, 0, none⟩))]) (by kernel_rfl) ?_
  refine t_v (.ldn rfl rfl rfl (.at 1 rfl rfl)) ?_
  refine t_a (.new rfl rfl) fun b351 fb351 sb351 => ?_
  refine t_sti 0 (cs := [.int .i64 p0_0, .int .i64 p0_1]) rfl rfl rfl rfl rfl rfl rfl rfl rfl ?_
  refine t_keep [1, 2, 5, 6] (σ' := [(1, .bool shut1), (2, .pointer (some ⟨b349, 0, none⟩)), (5, .pointer (some ⟨b350, 0, none⟩)), (6, .pointer (some ⟨b351, 0, none⟩))]) (by kernel_rfl) ?_
  refine t_end ?_
  show W _ _ _ _ _ _ _
  refine w_seq ?_
  refine w_reg fun all => ?_
  refine t_qz 2 [1, 2, 5, 6, 7] (σ' := [(1, .bool shut1), (2, .pointer (some ⟨b349, 0, none⟩)), (5, .pointer (some ⟨b350, 0, none⟩)), (6, .pointer (some ⟨b351, 0, none⟩)), (7, .func (.func 67) #[] #[.pointer (some ⟨b351, 0, none⟩), .pointer (some ⟨b350, 0, none⟩)])]) (by kernel_rfl) ?_
  refine t_end ?_
  show W _ _ _ _ _ _ _
  obtain ⟨⟨x427, x428, y430⟩, e353, e⟩ := bind_of e
  try dsimp only at e
  refine w_cut [1, 2, 5, 7] (fun σ_ H_ S_ => ∃ (a429 : Option Nat) (na429 : Nat), [(1, .bool shut1), (2, .pointer (some ⟨b349, 0, none⟩)), (5, .pointer (some ⟨b350, 0, none⟩)), (7, .func (.func 67) #[] #[.pointer (some ⟨b351, 0, none⟩), .pointer (some ⟨b350, 0, none⟩)])] = σ_ ∧ ([⟨b351, [.int .i64 x427, .int .i64 x428], 2⟩, ⟨b350, [.slice (ad a429) y430.length (na429 / 4)], 1⟩, ⟨b349, [.int .i64 p0_0, .int .i64 p0_1, .slice a_p0_2 p0_2.length c_p0_2, .bool p0_3], 4⟩, ⟨a429, encL E_i644 y430, na429⟩] : List Own) = H_ ∧ S = S_) ?_ ?_
  · show W _ _ _ _ _ _ _
    refine w_seq ?_
    refine w_reg fun all => ?_
    refine t_qz 1 [1, 2, 5, 6, 7, 16] (σ' := [(1, .bool shut1), (2, .pointer (some ⟨b349, 0, none⟩)), (5, .pointer (some ⟨b350, 0, none⟩)), (6, .pointer (some ⟨b351, 0, none⟩)), (7, .func (.func 67) #[] #[.pointer (some ⟨b351, 0, none⟩), .pointer (some ⟨b350, 0, none⟩)]), (16, .pointer (some ⟨b349, 2, none⟩))]) (by kernel_rfl) ?_
    refine t_v (.ld1 rfl rfl rfl (.at 2 rfl rfl)) ?_
    refine t_qz 2 [1, 2, 5, 6, 7, 17, 18, 19] (σ' := [(1, .bool shut1), (2, .pointer (some ⟨b349, 0, none⟩)), (5, .pointer (some ⟨b350, 0, none⟩)), (6, .pointer (some ⟨b351, 0, none⟩)), (7, .func (.func 67) #[] #[.pointer (some ⟨b351, 0, none⟩), .pointer (some ⟨b350, 0, none⟩)]), (17, .slice a_p0_2 p0_2.length c_p0_2), (18, .int .i64 (p0_2.length : Int)), (19, .int .i64 0)]) (by kernel_rfl) ?_
    refine t_end ?_
    show W _ _ _ _ _ _ _
    refine w_block ?_
    refine w_vs VS.vac ?_
    refine w_kp [1, 2, 5, 6, 7, 17, 18, 19] (σ' := [(1, .bool shut1), (2, .pointer (some ⟨b349, 0, none⟩)), (5, .pointer (some ⟨b350, 0, none⟩)), (6, .pointer (some ⟨b351, 0, none⟩)), (7, .func (.func 67) #[] #[.pointer (some ⟨b351, 0, none⟩), .pointer (some ⟨b350, 0, none⟩)]), (17, .slice a_p0_2 p0_2.length c_p0_2), (18, .int .i64 (p0_2.length : Int)), (19, .int .i64 0)]) (by kernel_rfl) ?_
    refine w_loop (fun n_ σ_ H_ S_ => ∃ (x355 : Int) (y357 : List (Int × Int × Int × Int)) (x358 : Int) (x359 : Int), ∃ (a356 : Option Nat) (na356 : Nat), [(1, .bool shut1), (2, .pointer (some ⟨b349, 0, none⟩)), (5, .pointer (some ⟨b350, 0, none⟩)), (6, .pointer (some ⟨b351, 0, none⟩)), (7, .func (.func 67) #[] #[.pointer (some ⟨b351, 0, none⟩), .pointer (some ⟨b350, 0, none⟩)]), (17, .slice a_p0_2 p0_2.length c_p0_2), (18, .int .i64 (p0_2.length : Int)), (19, .int .i64 x355)] = σ_ ∧ ([⟨a356, encL E_i644 y357, na356⟩, ⟨b351, [.int .i64 x358, .int .i64 x359], 2⟩, ⟨b350, [.slice (ad a356) y357.length (na356 / 4)], 1⟩, ⟨b349, [.int .i64 p0_0, .int .i64 p0_1, .slice a_p0_2 p0_2.length c_p0_2, .bool p0_3], 4⟩] : List Own) = H_ ∧ S = S_ ∧ flatten_Path_v2.l0 n_ p0_2 x355 y357 x358 x359 = some (x427, x428, y430)) _ ⟨0, ([] : List (Int × Int × Int × Int)), p0_0, p0_1, none, 0, rfl, rfl, rfl, e353⟩ ?_
    rintro n426 σ_ H_ S_ ⟨x355, y357, x358, x359, a356, na356, rfl, rfl, rfl, e353⟩
    cases n426 with
    | zero => rw [flatten_Path_v2.l0.eq_1] at e353; cases e353
    | succ k_ =>
      rw [flatten_Path_v2.l0.eq_2] at e353
      refine w_seq ?_
      refine w_reg fun all => ?_
      by_cases c360 : x355 < (p0_2.length : Int)
      · rw [if_pos c360] at e353
        have c360b : (decide (x355 < (p0_2.length : Int))) = true := decide_eq_true c360
        refine t_v (dv_quiet rfl (congrArg (fun t => some (Value.bool t)) c360b)) ?_
        refine t_keep [1, 2, 5, 6, 7, 17, 18, 19, 20] (σ' := [(1, .bool shut1), (2, .pointer (some ⟨b349, 0, none⟩)), (5, .pointer (some ⟨b350, 0, none⟩)), (6, .pointer (some ⟨b351, 0, none⟩)), (7, .func (.func 67) #[] #[.pointer (some ⟨b351, 0, none⟩), .pointer (some ⟨b350, 0, none⟩)]), (17, .slice a_p0_2 p0_2.length c_p0_2), (18, .int .i64 (p0_2.length : Int)), (19, .int .i64 x355), (20, .bool true)]) (by kernel_rfl) ?_
        refine t_end ?_
        show W _ _ _ _ _ _ _
        refine w_seq ?_
        refine w_cond rfl (fun _ => ?_) (fun c_ => by cases c_)
        show W _ _ _ _ _ _ _
        refine w_skip ?_
        show W _ _ _ _ _ _ _
        obtain ⟨⟨x421, x422, y424⟩, e362, e353⟩ := bind_of e353
        try dsimp only at e353
        refine w_cut [1, 2, 5, 6, 7, 17, 18, 19] (fun σ_ H_ S_ => ∃ (a423 : Option Nat) (na423 : Nat), [(1, .bool shut1), (2, .pointer (some ⟨b349, 0, none⟩)), (5, .pointer (some ⟨b350, 0, none⟩)), (6, .pointer (some ⟨b351, 0, none⟩)), (7, .func (.func 67) #[] #[.pointer (some ⟨b351, 0, none⟩), .pointer (some ⟨b350, 0, none⟩)]), (17, .slice a_p0_2 p0_2.length c_p0_2), (18, .int .i64 (p0_2.length : Int)), (19, .int .i64 x355)] = σ_ ∧ ([⟨b351, [.int .i64 x421, .int .i64 x422], 2⟩, ⟨b350, [.slice (ad a423) y424.length (na423 / 4)], 1⟩, ⟨b349, [.int .i64 p0_0, .int .i64 p0_1, .slice a_p0_2 p0_2.length c_p0_2, .bool p0_3], 4⟩, ⟨a423, encL E_i644 y424, na423⟩] : List Own) = H_ ∧ S = S_) ?_ ?_
        · show W _ _ _ _ _ _ _
          refine w_block ?_
          refine w_seq ?_
          refine w_reg fun all => ?_
          obtain ⟨⟨x364, x365, x366, x367, x368, x369, x370⟩, hx371, e362⟩ := bind_of e362
          try dsimp only at e362
          obtain ⟨lb372, lo373, ll374, la375, lS376, lv377, lz378, lu379⟩ := sle_get (E := E_i647) h_p0_2 hx371
          refine t_v (.quiet rfl (ixs_sle rfl rfl la375 lz378 lu379)) ?_
          refine t_v (.ldn (vs := [.int .i64 x364, .int .i64 x365, .int .i64 x366, .int .i64 x367, .int .i64 x368, .int .i64 x369, .int .i64 x370]) rfl rfl rfl (.sealed lS376 (subl_sub lv377 (by kernel_rfl)))) ?_
          refine t_a (.new rfl rfl) fun b380 fb380 sb380 => ?_
          refine t_sti 0 (cs := [.int .i64 x364, .int .i64 x365, .int .i64 x366, .int .i64 x367, .int .i64 x368, .int .i64 x369, .int .i64 x370]) rfl rfl rfl rfl rfl rfl rfl rfl rfl ?_
          refine t_keep [1, 2, 5, 6, 7, 9, 17, 18, 19] (σ' := [(1, .bool shut1), (2, .pointer (some ⟨b349, 0, none⟩)), (5, .pointer (some ⟨b350, 0, none⟩)), (6, .pointer (some ⟨b351, 0, none⟩)), (7, .func (.func 67) #[] #[.pointer (some ⟨b351, 0, none⟩), .pointer (some ⟨b350, 0, none⟩)]), (9, .pointer (some ⟨b380, 0, none⟩)), (17, .slice a_p0_2 p0_2.length c_p0_2), (18, .int .i64 (p0_2.length : Int)), (19, .int .i64 x355)]) (by kernel_rfl) ?_
          refine t_end ?_
          show W _ _ _ _ _ _ _
          refine w_seq ?_
          obtain ⟨t381, h382, e362⟩ := bind_of e362
          refine w_drwE mixed 5 [.v (.agg #[.int .i64 x358, .int .i64 x359]), .v (.agg #[.int .i64 x358, .int .i64 x359]), .v (.agg #[.int .i64 x364, .int .i64 x365, .int .i64 x366, .int .i64 x367, .int .i64 x368, .int .i64 x369, .int .i64 x370]), .v (.int .i64 t381), .a [.int .i64 0, .int .i64 0] ptrTo] (by kernel_rfl) ?_ ?_
          · refine .cons (.ldn rfl rfl rfl (.at 2 rfl rfl)) ?_
            refine .cons (.ldn rfl rfl rfl (.at 2 rfl rfl)) ?_
            refine .cons (.ldn rfl rfl rfl (.at 0 rfl rfl)) ?_
            refine .cons (.call (vs := [.agg #[.int .i64 x358, .int .i64 x359], .agg #[.int .i64 x364, .int .i64 x365, .int .i64 x366, .int .i64 x367, .int .i64 x368, .int .i64 x369, .int .i64 x370]]) rfl rfl (by kernel_rfl) (flatten_Count.ok h382)) ?_
            refine .cons (.new rfl rfl) ?_
            exact .nil
          refine fk_q 4 [1, 2, 5, 6, 7, 9, 17, 18, 19, 23, 26] (σ' := [(1, .bool shut1), (2, .pointer (some ⟨b349, 0, none⟩)), (5, .pointer (some ⟨b350, 0, none⟩)), (6, .pointer (some ⟨b351, 0, none⟩)), (7, .func (.func 67) #[] #[.pointer (some ⟨b351, 0, none⟩), .pointer (some ⟨b350, 0, none⟩)]), (9, .pointer (some ⟨b380, 0, none⟩)), (17, .slice a_p0_2 p0_2.length c_p0_2), (18, .int .i64 (p0_2.length : Int)), (19, .int .i64 x355), (23, .agg #[.int .i64 x358, .int .i64 x359]), (26, .int .i64 t381)]) t_more (by kernel_rfl) ?_
          refine fk_a fun b383 fb383 sb383 => ?_
          refine fk_nil fun all => ?_
          refine t_sti 0 (cs := [.int .i64 x358, .int .i64 x359]) rfl rfl rfl rfl rfl rfl rfl rfl rfl ?_
          refine t_qz 1 [1, 2, 5, 6, 7, 9, 10, 11, 17, 18, 19] (σ' := [(1, .bool shut1), (2, .pointer (some ⟨b349, 0, none⟩)), (5, .pointer (some ⟨b350, 0, none⟩)), (6, .pointer (some ⟨b351, 0, none⟩)), (7, .func (.func 67) #[] #[.pointer (some ⟨b351, 0, none⟩), .pointer (some ⟨b350, 0, none⟩)]), (9, .pointer (some ⟨b380, 0, none⟩)), (10, .pointer (some ⟨b383, 0, none⟩)), (11, .int .i64 t381), (17, .slice a_p0_2 p0_2.length c_p0_2), (18, .int .i64 (p0_2.length : Int)), (19, .int .i64 x355)]) (by kernel_rfl) ?_
          refine t_end ?_
          show W _ _ _ _ _ _ _
          refine w_seq ?_
          refine w_reg fun all => ?_
          refine t_qz 1 [1, 2, 5, 6, 7, 9, 10, 11, 12, 17, 18, 19] (σ' := [(1, .bool shut1), (2, .pointer (some ⟨b349, 0, none⟩)), (5, .pointer (some ⟨b350, 0, none⟩)), (6, .pointer (some ⟨b351, 0, none⟩)), (7, .func (.func 67) #[] #[.pointer (some ⟨b351, 0, none⟩), .pointer (some ⟨b350, 0, none⟩)]), (9, .pointer (some ⟨b380, 0, none⟩)), (10, .pointer (some ⟨b383, 0, none⟩)), (11, .int .i64 t381), (12, .int .i64 1), (17, .slice a_p0_2 p0_2.length c_p0_2), (18, .int .i64 (p0_2.length : Int)), (19, .int .i64 x355)]) (by kernel_rfl) ?_
          refine t_end ?_
          show W _ _ _ _ _ _ _
          refine w_block ?_
          refine w_kp [1, 2, 5, 6, 7, 9, 10, 11, 12, 17, 18, 19] (σ' := [(1, .bool shut1), (2, .pointer (some ⟨b349, 0, none⟩)), (5, .pointer (some ⟨b350, 0, none⟩)), (6, .pointer (some ⟨b351, 0, none⟩)), (7, .func (.func 67) #[] #[.pointer (some ⟨b351, 0, none⟩), .pointer (some ⟨b350, 0, none⟩)]), (9, .pointer (some ⟨b380, 0, none⟩)), (10, .pointer (some ⟨b383, 0, none⟩)), (11, .int .i64 t381), (12, .int .i64 1), (17, .slice a_p0_2 p0_2.length c_p0_2), (18, .int .i64 (p0_2.length : Int)), (19, .int .i64 x355)]) (by kernel_rfl) ?_
          refine w_loop (fun n_ σ_ H_ S_ => ∃ (x384 : Int) (y386 : List (Int × Int × Int × Int)) (x387 : Int) (x388 : Int), ∃ (a385 : Option Nat) (na385 : Nat), [(1, .bool shut1), (2, .pointer (some ⟨b349, 0, none⟩)), (5, .pointer (some ⟨b350, 0, none⟩)), (6, .pointer (some ⟨b351, 0, none⟩)), (7, .func (.func 67) #[] #[.pointer (some ⟨b351, 0, none⟩), .pointer (some ⟨b350, 0, none⟩)]), (9, .pointer (some ⟨b380, 0, none⟩)), (10, .pointer (some ⟨b383, 0, none⟩)), (11, .int .i64 t381), (12, .int .i64 x384), (17, .slice a_p0_2 p0_2.length c_p0_2), (18, .int .i64 (p0_2.length : Int)), (19, .int .i64 x355)] = σ_ ∧ ([⟨b383, [.int .i64 x358, .int .i64 x359], 2⟩, ⟨b380, [.int .i64 x364, .int .i64 x365, .int .i64 x366, .int .i64 x367, .int .i64 x368, .int .i64 x369, .int .i64 x370], 7⟩, ⟨a385, encL E_i644 y386, na385⟩, ⟨b351, [.int .i64 x387, .int .i64 x388], 2⟩, ⟨b350, [.slice (ad a385) y386.length (na385 / 4)], 1⟩, ⟨b349, [.int .i64 p0_0, .int .i64 p0_1, .slice a_p0_2 p0_2.length c_p0_2, .bool p0_3], 4⟩] : List Own) = H_ ∧ S = S_ ∧ flatten_Path_v2.l1 n_ x358 x359 x364 x365 x366 x367 x368 x369 x370 t381 x384 y386 x387 x388 = some (x421, x422, y424)) _ ⟨1, y357, x358, x359, a356, na356, rfl, rfl, rfl, e362⟩ ?_
          rintro n420 σ_ H_ S_ ⟨x384, y386, x387, x388, a385, na385, rfl, rfl, rfl, e362⟩
          cases n420 with
          | zero => rw [flatten_Path_v2.l1.eq_1] at e362; cases e362
          | succ k_ =>
            rw [flatten_Path_v2.l1.eq_2] at e362
            refine w_seq ?_
            refine w_seq ?_
            refine w_reg fun all => ?_
            by_cases c389 : x384 ≤ t381
            · rw [if_pos c389] at e362
              have c389b : (decide (x384 ≤ t381)) = true := decide_eq_true c389
              refine t_qz 2 [1, 2, 5, 6, 7, 9, 10, 11, 12, 17, 18, 19, 27, 28] (σ' := [(1, .bool shut1), (2, .pointer (some ⟨b349, 0, none⟩)), (5, .pointer (some ⟨b350, 0, none⟩)), (6, .pointer (some ⟨b351, 0, none⟩)), (7, .func (.func 67) #[] #[.pointer (some ⟨b351, 0, none⟩), .pointer (some ⟨b350, 0, none⟩)]), (9, .pointer (some ⟨b380, 0, none⟩)), (10, .pointer (some ⟨b383, 0, none⟩)), (11, .int .i64 t381), (12, .int .i64 x384), (17, .slice a_p0_2 p0_2.length c_p0_2), (18, .int .i64 (p0_2.length : Int)), (19, .int .i64 x355), (27, .int .i64 x384), (28, .int .i64 t381)]) (by kernel_rfl) ?_
              refine t_v (dv_quiet rfl (congrArg (fun t => some (Value.bool t)) c389b)) ?_
              refine t_keep [1, 2, 5, 6, 7, 9, 10, 11, 12, 17, 18, 19, 29] (σ' := [(1, .bool shut1), (2, .pointer (some ⟨b349, 0, none⟩)), (5, .pointer (some ⟨b350, 0, none⟩)), (6, .pointer (some ⟨b351, 0, none⟩)), (7, .func (.func 67) #[] #[.pointer (some ⟨b351, 0, none⟩), .pointer (some ⟨b350, 0, none⟩)]), (9, .pointer (some ⟨b380, 0, none⟩)), (10, .pointer (some ⟨b383, 0, none⟩)), (11, .int .i64 t381), (12, .int .i64 x384), (17, .slice a_p0_2 p0_2.length c_p0_2), (18, .int .i64 (p0_2.length : Int)), (19, .int .i64 x355), (29, .bool true)]) (by kernel_rfl) ?_
              refine t_end ?_
              show W _ _ _ _ _ _ _
              refine w_cond rfl (fun _ => ?_) (fun c_ => by cases c_)
              show W _ _ _ _ _ _ _
              refine w_skip ?_
              show W _ _ _ _ _ _ _
              refine w_seq ?_
              refine w_block ?_
              refine w_reg fun all => ?_
              refine t_qz 1 [1, 2, 5, 6, 7, 9, 10, 11, 12, 17, 18, 19, 32] (σ' := [(1, .bool shut1), (2, .pointer (some ⟨b349, 0, none⟩)), (5, .pointer (some ⟨b350, 0, none⟩)), (6, .pointer (some ⟨b351, 0, none⟩)), (7, .func (.func 67) #[] #[.pointer (some ⟨b351, 0, none⟩), .pointer (some ⟨b350, 0, none⟩)]), (9, .pointer (some ⟨b380, 0, none⟩)), (10, .pointer (some ⟨b383, 0, none⟩)), (11, .int .i64 t381), (12, .int .i64 x384), (17, .slice a_p0_2 p0_2.length c_p0_2), (18, .int .i64 (p0_2.length : Int)), (19, .int .i64 x355), (32, .func (.func 67) #[] #[.pointer (some ⟨b351, 0, none⟩), .pointer (some ⟨b350, 0, none⟩)])]) (by kernel_rfl) ?_
              refine t_v (.ldn rfl rfl rfl (.at 0 rfl rfl)) ?_
              refine t_v (.ldn rfl rfl rfl (.at 1 rfl rfl)) ?_
              by_cases c390 : x364 = 1
              · rw [if_pos c390] at e362
                have c390b : (x364 == 1) = true := beq_iff_eq.mpr c390
                obtain ⟨⟨t391, t392⟩, h393, e362⟩ := bind_of e362
                try dsimp only at e362
                refine t_qz 2 [1, 2, 5, 6, 7, 9, 10, 11, 12, 17, 18, 19, 32, 33, 34, 35, 36] (σ' := [(1, .bool shut1), (2, .pointer (some ⟨b349, 0, none⟩)), (5, .pointer (some ⟨b350, 0, none⟩)), (6, .pointer (some ⟨b351, 0, none⟩)), (7, .func (.func 67) #[] #[.pointer (some ⟨b351, 0, none⟩), .pointer (some ⟨b350, 0, none⟩)]), (9, .pointer (some ⟨b380, 0, none⟩)), (10, .pointer (some ⟨b383, 0, none⟩)), (11, .int .i64 t381), (12, .int .i64 x384), (17, .slice a_p0_2 p0_2.length c_p0_2), (18, .int .i64 (p0_2.length : Int)), (19, .int .i64 x355), (32, .func (.func 67) #[] #[.pointer (some ⟨b351, 0, none⟩), .pointer (some ⟨b350, 0, none⟩)]), (33, .agg #[.int .i64 x358, .int .i64 x359]), (34, .agg #[.int .i64 x364, .int .i64 x365, .int .i64 x366, .int .i64 x367, .int .i64 x368, .int .i64 x369, .int .i64 x370]), (35, .int .i64 x384), (36, .int .i64 t381)]) (by kernel_rfl) ?_
                refine t_v (.call (vs := [.agg #[.int .i64 x358, .int .i64 x359], .agg #[.int .i64 1, .int .i64 x365, .int .i64 x366, .int .i64 x367, .int .i64 x368, .int .i64 x369, .int .i64 x370], .int .i64 x384, .int .i64 t381]) rfl rfl (Eq.trans (b := (some [.agg #[.int .i64 x358, .int .i64 x359], .agg #[.int .i64 x364, .int .i64 x365, .int .i64 x366, .int .i64 x367, .int .i64 x368, .int .i64 x369, .int .i64 x370], .int .i64 x384, .int .i64 t381] : Option (List Value))) (by kernel_rfl) (congrArg (fun q_ => (some [.agg #[.int .i64 x358, .int .i64 x359], .agg #[.int .i64 q_, .int .i64 x365, .int .i64 x366, .int .i64 x367, .int .i64 x368, .int .i64 x369, .int .i64 x370], .int .i64 x384, .int .i64 t381] : Option (List Value))) c390)) (flatten_Point_v2.ok h393)) ?_
                obtain ⟨⟨t394, t395, t396⟩, h397, e362⟩ := bind_of e362
                try dsimp only at e362
                refine t_clo (caps := #[.pointer (some ⟨b351, 0, none⟩), .pointer (some ⟨b350, 0, none⟩)]) (vs := [.agg #[.int .i64 t391, .int .i64 t392]]) (H1 := ([⟨b351, [.int .i64 x387, .int .i64 x388], 2⟩, ⟨b350, [.slice (ad a385) y386.length (na385 / 4)], 1⟩, ⟨a385, encL E_i644 y386, na385⟩] : List Own)) (F := ([⟨b383, [.int .i64 x358, .int .i64 x359], 2⟩, ⟨b380, [.int .i64 x364, .int .i64 x365, .int .i64 x366, .int .i64 x367, .int .i64 x368, .int .i64 x369, .int .i64 x370], 7⟩, ⟨b349, [.int .i64 p0_0, .int .i64 p0_1, .slice a_p0_2 p0_2.length c_p0_2, .bool p0_3], 4⟩] : List Own)) rfl rfl rfl (by kernel_rfl) (by kernel_rfl) (sel_perm (is := [3, 3, 2]) (by kernel_rfl)) (flatten_Path_1_v2.ok h397) ?_
                rintro _ _ S_ ⟨N398, nN398, rfl, rfl, hS_⟩
                obtain rfl := hS_.symm
                refine t_keep [1, 2, 5, 6, 7, 9, 10, 11, 12, 17, 18, 19] (σ' := [(1, .bool shut1), (2, .pointer (some ⟨b349, 0, none⟩)), (5, .pointer (some ⟨b350, 0, none⟩)), (6, .pointer (some ⟨b351, 0, none⟩)), (7, .func (.func 67) #[] #[.pointer (some ⟨b351, 0, none⟩), .pointer (some ⟨b350, 0, none⟩)]), (9, .pointer (some ⟨b380, 0, none⟩)), (10, .pointer (some ⟨b383, 0, none⟩)), (11, .int .i64 t381), (12, .int .i64 x384), (17, .slice a_p0_2 p0_2.length c_p0_2), (18, .int .i64 (p0_2.length : Int)), (19, .int .i64 x355)]) (by kernel_rfl) ?_
                refine t_end ?_
                show W _ _ _ _ _ _ _
                refine w_reg fun all => ?_
                refine t_qz 3 [1, 2, 5, 6, 7, 9, 10, 11, 12, 17, 18, 19] (σ' := [(1, .bool shut1), (2, .pointer (some ⟨b349, 0, none⟩)), (5, .pointer (some ⟨b350, 0, none⟩)), (6, .pointer (some ⟨b351, 0, none⟩)), (7, .func (.func 67) #[] #[.pointer (some ⟨b351, 0, none⟩), .pointer (some ⟨b350, 0, none⟩)]), (9, .pointer (some ⟨b380, 0, none⟩)), (10, .pointer (some ⟨b383, 0, none⟩)), (11, .int .i64 t381), (12, .int .i64 (wr64 (x384 + 1))), (17, .slice a_p0_2 p0_2.length c_p0_2), (18, .int .i64 (p0_2.length : Int)), (19, .int .i64 x355)]) (by kernel_rfl) ?_
                refine t_end ?_
                exact ⟨k_, Nat.lt_succ_self _, [(1, .bool shut1), (2, .pointer (some ⟨b349, 0, none⟩)), (5, .pointer (some ⟨b350, 0, none⟩)), (6, .pointer (some ⟨b351, 0, none⟩)), (7, .func (.func 67) #[] #[.pointer (some ⟨b351, 0, none⟩), .pointer (some ⟨b350, 0, none⟩)]), (9, .pointer (some ⟨b380, 0, none⟩)), (10, .pointer (some ⟨b383, 0, none⟩)), (11, .int .i64 t381), (12, .int .i64 (wr64 (x384 + 1))), (17, .slice a_p0_2 p0_2.length c_p0_2), (18, .int .i64 (p0_2.length : Int)), (19, .int .i64 x355)], ([⟨b383, [.int .i64 x358, .int .i64 x359], 2⟩, ⟨b380, [.int .i64 x364, .int .i64 x365, .int .i64 x366, .int .i64 x367, .int .i64 x368, .int .i64 x369, .int .i64 x370], 7⟩, ⟨N398, encL E_i644 t394, nN398⟩, ⟨b351, [.int .i64 t395, .int .i64 t396], 2⟩, ⟨b350, [.slice (ad N398) t394.length (nN398 / 4)], 1⟩, ⟨b349, [.int .i64 p0_0, .int .i64 p0_1, .slice a_p0_2 p0_2.length c_p0_2, .bool p0_3], 4⟩] : List Own), S, keep_sub [1, 2, 5, 6, 7, 9, 10, 11, 12, 17, 18, 19] (by kernel_rfl), VS.sel [3, 3, 0, 0, 0, 0] (by kernel_rfl), wr64 (x384 + 1), t394, t395, t396, N398, nN398, rfl, rfl, rfl, e362⟩
              · rw [if_neg c390] at e362
                have c390b : (x364 == 1) = false := beq_eq_false_iff_ne.mpr c390
                by_cases c400 : x364 = 2
                · rw [if_pos c400] at e362
                  have c400b : (x364 == 2) = true := beq_iff_eq.mpr c400
                  obtain ⟨⟨t401, t402⟩, h403, e362⟩ := bind_of e362
                  try dsimp only at e362
                  refine t_qz 2 [1, 2, 5, 6, 7, 9, 10, 11, 12, 17, 18, 19, 32, 33, 34, 35, 36] (σ' := [(1, .bool shut1), (2, .pointer (some ⟨b349, 0, none⟩)), (5, .pointer (some ⟨b350, 0, none⟩)), (6, .pointer (some ⟨b351, 0, none⟩)), (7, .func (.func 67) #[] #[.pointer (some ⟨b351, 0, none⟩), .pointer (some ⟨b350, 0, none⟩)]), (9, .pointer (some ⟨b380, 0, none⟩)), (10, .pointer (some ⟨b383, 0, none⟩)), (11, .int .i64 t381), (12, .int .i64 x384), (17, .slice a_p0_2 p0_2.length c_p0_2), (18, .int .i64 (p0_2.length : Int)), (19, .int .i64 x355), (32, .func (.func 67) #[] #[.pointer (some ⟨b351, 0, none⟩), .pointer (some ⟨b350, 0, none⟩)]), (33, .agg #[.int .i64 x358, .int .i64 x359]), (34, .agg #[.int .i64 x364, .int .i64 x365, .int .i64 x366, .int .i64 x367, .int .i64 x368, .int .i64 x369, .int .i64 x370]), (35, .int .i64 x384), (36, .int .i64 t381)]) (by kernel_rfl) ?_
                  refine t_v (.call (vs := [.agg #[.int .i64 x358, .int .i64 x359], .agg #[.int .i64 2, .int .i64 x365, .int .i64 x366, .int .i64 x367, .int .i64 x368, .int .i64 x369, .int .i64 x370], .int .i64 x384, .int .i64 t381]) rfl rfl (Eq.trans (b := (some [.agg #[.int .i64 x358, .int .i64 x359], .agg #[.int .i64 x364, .int .i64 x365, .int .i64 x366, .int .i64 x367, .int .i64 x368, .int .i64 x369, .int .i64 x370], .int .i64 x384, .int .i64 t381] : Option (List Value))) (by kernel_rfl) (congrArg (fun q_ => (some [.agg #[.int .i64 x358, .int .i64 x359], .agg #[.int .i64 q_, .int .i64 x365, .int .i64 x366, .int .i64 x367, .int .i64 x368, .int .i64 x369, .int .i64 x370], .int .i64 x384, .int .i64 t381] : Option (List Value))) c400)) (flatten_Point_v3.ok h403)) ?_
                  obtain ⟨⟨t404, t405, t406⟩, h407, e362⟩ := bind_of e362
                  try dsimp only at e362
                  refine t_clo (caps := #[.pointer (some ⟨b351, 0, none⟩), .pointer (some ⟨b350, 0, none⟩)]) (vs := [.agg #[.int .i64 t401, .int .i64 t402]]) (H1 := ([⟨b351, [.int .i64 x387, .int .i64 x388], 2⟩, ⟨b350, [.slice (ad a385) y386.length (na385 / 4)], 1⟩, ⟨a385, encL E_i644 y386, na385⟩] : List Own)) (F := ([⟨b383, [.int .i64 x358, .int .i64 x359], 2⟩, ⟨b380, [.int .i64 x364, .int .i64 x365, .int .i64 x366, .int .i64 x367, .int .i64 x368, .int .i64 x369, .int .i64 x370], 7⟩, ⟨b349, [.int .i64 p0_0, .int .i64 p0_1, .slice a_p0_2 p0_2.length c_p0_2, .bool p0_3], 4⟩] : List Own)) rfl rfl rfl (by kernel_rfl) (by kernel_rfl) (sel_perm (is := [3, 3, 2]) (by kernel_rfl)) (flatten_Path_1_v2.ok h407) ?_
                  rintro _ _ S_ ⟨N408, nN408, rfl, rfl, hS_⟩
                  obtain rfl := hS_.symm
                  refine t_keep [1, 2, 5, 6, 7, 9, 10, 11, 12, 17, 18, 19] (σ' := [(1, .bool shut1), (2, .pointer (some ⟨b349, 0, none⟩)), (5, .pointer (some ⟨b350, 0, none⟩)), (6, .pointer (some ⟨b351, 0, none⟩)), (7, .func (.func 67) #[] #[.pointer (some ⟨b351, 0, none⟩), .pointer (some ⟨b350, 0, none⟩)]), (9, .pointer (some ⟨b380, 0, none⟩)), (10, .pointer (some ⟨b383, 0, none⟩)), (11, .int .i64 t381), (12, .int .i64 x384), (17, .slice a_p0_2 p0_2.length c_p0_2), (18, .int .i64 (p0_2.length : Int)), (19, .int .i64 x355)]) (by kernel_rfl) ?_
                  refine t_end ?_
                  show W _ _ _ _ _ _ _
                  refine w_reg fun all => ?_
                  refine t_qz 3 [1, 2, 5, 6, 7, 9, 10, 11, 12, 17, 18, 19] (σ' := [(1, .bool shut1), (2, .pointer (some ⟨b349, 0, none⟩)), (5, .pointer (some ⟨b350, 0, none⟩)), (6, .pointer (some ⟨b351, 0, none⟩)), (7, .func (.func 67) #[] #[.pointer (some ⟨b351, 0, none⟩), .pointer (some ⟨b350, 0, none⟩)]), (9, .pointer (some ⟨b380, 0, none⟩)), (10, .pointer (some ⟨b383, 0, none⟩)), (11, .int .i64 t381), (12, .int .i64 (wr64 (x384 + 1))), (17, .slice a_p0_2 p0_2.length c_p0_2), (18, .int .i64 (p0_2.length : Int)), (19, .int .i64 x355)]) (by kernel_rfl) ?_
                  refine t_end ?_
                  exact ⟨k_, Nat.lt_succ_self _, [(1, .bool shut1), (2, .pointer (some ⟨b349, 0, none⟩)), (5, .pointer (some ⟨b350, 0, none⟩)), (6, .pointer (some ⟨b351, 0, none⟩)), (7, .func (.func 67) #[] #[.pointer (some ⟨b351, 0, none⟩), .pointer (some ⟨b350, 0, none⟩)]), (9, .pointer (some ⟨b380, 0, none⟩)), (10, .pointer (some ⟨b383, 0, none⟩)), (11, .int .i64 t381), (12, .int .i64 (wr64 (x384 + 1))), (17, .slice a_p0_2 p0_2.length c_p0_2), (18, .int .i64 (p0_2.length : Int)), (19, .int .i64 x355)], ([⟨b383, [.int .i64 x358, .int .i64 x359], 2⟩, ⟨b380, [.int .i64 x364, .int .i64 x365, .int .i64 x366, .int .i64 x367, .int .i64 x368, .int .i64 x369, .int .i64 x370], 7⟩, ⟨N408, encL E_i644 t404, nN408⟩, ⟨b351, [.int .i64 t405, .int .i64 t406], 2⟩, ⟨b350, [.slice (ad N408) t404.length (nN408 / 4)], 1⟩, ⟨b349, [.int .i64 p0_0, .int .i64 p0_1, .slice a_p0_2 p0_2.length c_p0_2, .bool p0_3], 4⟩] : List Own), S, keep_sub [1, 2, 5, 6, 7, 9, 10, 11, 12, 17, 18, 19] (by kernel_rfl), VS.sel [3, 3, 0, 0, 0, 0] (by kernel_rfl), wr64 (x384 + 1), t404, t405, t406, N408, nN408, rfl, rfl, rfl, e362⟩
                · rw [if_neg c400] at e362
                  have c400b : (x364 == 2) = false := beq_eq_false_iff_ne.mpr c400
                  by_cases c410 : x364 = 3
                  · rw [if_pos c410] at e362
                    have c410b : (x364 == 3) = true := beq_iff_eq.mpr c410
                    obtain ⟨⟨t411, t412⟩, h413, e362⟩ := bind_of e362
                    try dsimp only at e362
                    refine t_qz 2 [1, 2, 5, 6, 7, 9, 10, 11, 12, 17, 18, 19, 32, 33, 34, 35, 36] (σ' := [(1, .bool shut1), (2, .pointer (some ⟨b349, 0, none⟩)), (5, .pointer (some ⟨b350, 0, none⟩)), (6, .pointer (some ⟨b351, 0, none⟩)), (7, .func (.func 67) #[] #[.pointer (some ⟨b351, 0, none⟩), .pointer (some ⟨b350, 0, none⟩)]), (9, .pointer (some ⟨b380, 0, none⟩)), (10, .pointer (some ⟨b383, 0, none⟩)), (11, .int .i64 t381), (12, .int .i64 x384), (17, .slice a_p0_2 p0_2.length c_p0_2), (18, .int .i64 (p0_2.length : Int)), (19, .int .i64 x355), (32, .func (.func 67) #[] #[.pointer (some ⟨b351, 0, none⟩), .pointer (some ⟨b350, 0, none⟩)]), (33, .agg #[.int .i64 x358, .int .i64 x359]), (34, .agg #[.int .i64 x364, .int .i64 x365, .int .i64 x366, .int .i64 x367, .int .i64 x368, .int .i64 x369, .int .i64 x370]), (35, .int .i64 x384), (36, .int .i64 t381)]) (by kernel_rfl) ?_
                    refine t_v (.call (vs := [.agg #[.int .i64 x358, .int .i64 x359], .agg #[.int .i64 3, .int .i64 x365, .int .i64 x366, .int .i64 x367, .int .i64 x368, .int .i64 x369, .int .i64 x370], .int .i64 x384, .int .i64 t381]) rfl rfl (Eq.trans (b := (some [.agg #[.int .i64 x358, .int .i64 x359], .agg #[.int .i64 x364, .int .i64 x365, .int .i64 x366, .int .i64 x367, .int .i64 x368, .int .i64 x369, .int .i64 x370], .int .i64 x384, .int .i64 t381] : Option (List Value))) (by kernel_rfl) (congrArg (fun q_ => (some [.agg #[.int .i64 x358, .int .i64 x359], .agg #[.int .i64 q_, .int .i64 x365, .int .i64 x366, .int .i64 x367, .int .i64 x368, .int .i64 x369, .int .i64 x370], .int .i64 x384, .int .i64 t381] : Option (List Value))) c410)) (flatten_Point_v4.ok h413)) ?_
                    obtain ⟨⟨t414, t415, t416⟩, h417, e362⟩ := bind_of e362
                    try dsimp only at e362
                    refine t_clo (caps := #[.pointer (some ⟨b351, 0, none⟩), .pointer (some ⟨b350, 0, none⟩)]) (vs := [.agg #[.int .i64 t411, .int .i64 t412]]) (H1 := ([⟨b351, [.int .i64 x387, .int .i64 x388], 2⟩, ⟨b350, [.slice (ad a385) y386.length (na385 / 4)], 1⟩, ⟨a385, encL E_i644 y386, na385⟩] : List Own)) (F := ([⟨b383, [.int .i64 x358, .int .i64 x359], 2⟩, ⟨b380, [.int .i64 x364, .int .i64 x365, .int .i64 x366, .int .i64 x367, .int .i64 x368, .int .i64 x369, .int .i64 x370], 7⟩, ⟨b349, [.int .i64 p0_0, .int .i64 p0_1, .slice a_p0_2 p0_2.length c_p0_2, .bool p0_3], 4⟩] : List Own)) rfl rfl rfl (by kernel_rfl) (by kernel_rfl) (sel_perm (is := [3, 3, 2]) (by kernel_rfl)) (flatten_Path_1_v2.ok h417) ?_
                    rintro _ _ S_ ⟨N418, nN418, rfl, rfl, hS_⟩
                    obtain rfl := hS_.symm
                    refine t_keep [1, 2, 5, 6, 7, 9, 10, 11, 12, 17, 18, 19] (σ' := [(1, .bool shut1), (2, .pointer (some ⟨b349, 0, none⟩)), (5, .pointer (some ⟨b350, 0, none⟩)), (6, .pointer (some ⟨b351, 0, none⟩)), (7, .func (.func 67) #[] #[.pointer (some ⟨b351, 0, none⟩), .pointer (some ⟨b350, 0, none⟩)]), (9, .pointer (some ⟨b380, 0, none⟩)), (10, .pointer (some ⟨b383, 0, none⟩)), (11, .int .i64 t381), (12, .int .i64 x384), (17, .slice a_p0_2 p0_2.length c_p0_2), (18, .int .i64 (p0_2.length : Int)), (19, .int .i64 x355)]) (by kernel_rfl) ?_
                    refine t_end ?_
                    show W _ _ _ _ _ _ _
                    refine w_reg fun all => ?_
                    refine t_qz 3 [1, 2, 5, 6, 7, 9, 10, 11, 12, 17, 18, 19] (σ' := [(1, .bool shut1), (2, .pointer (some ⟨b349, 0, none⟩)), (5, .pointer (some ⟨b350, 0, none⟩)), (6, .pointer (some ⟨b351, 0, none⟩)), (7, .func (.func 67) #[] #[.pointer (some ⟨b351, 0, none⟩), .pointer (some ⟨b350, 0, none⟩)]), (9, .pointer (some ⟨b380, 0, none⟩)), (10, .pointer (some ⟨b383, 0, none⟩)), (11, .int .i64 t381), (12, .int .i64 (wr64 (x384 + 1))), (17, .slice a_p0_2 p0_2.length c_p0_2), (18, .int .i64 (p0_2.length : Int)), (19, .int .i64 x355)]) (by kernel_rfl) ?_
                    refine t_end ?_
                    exact ⟨k_, Nat.lt_succ_self _, [(1, .bool shut1), (2, .pointer (some ⟨b349, 0, none⟩)), (5, .pointer (some ⟨b350, 0, none⟩)), (6, .pointer (some ⟨b351, 0, none⟩)), (7, .func (.func 67) #[] #[.pointer (some ⟨b351, 0, none⟩), .pointer (some ⟨b350, 0, none⟩)]), (9, .pointer (some ⟨b380, 0, none⟩)), (10, .pointer (some ⟨b383, 0, none⟩)), (11, .int .i64 t381), (12, .int .i64 (wr64 (x384 + 1))), (17, .slice a_p0_2 p0_2.length c_p0_2), (18, .int .i64 (p0_2.length : Int)), (19, .int .i64 x355)], ([⟨b383, [.int .i64 x358, .int .i64 x359], 2⟩, ⟨b380, [.int .i64 x364, .int .i64 x365, .int .i64 x366, .int .i64 x367, .int .i64 x368, .int .i64 x369, .int .i64 x370], 7⟩, ⟨N418, encL E_i644 t414, nN418⟩, ⟨b351, [.int .i64 t415, .int .i64 t416], 2⟩, ⟨b350, [.slice (ad N418) t414.length (nN418 / 4)], 1⟩, ⟨b349, [.int .i64 p0_0, .int .i64 p0_1, .slice a_p0_2 p0_2.length c_p0_2, .bool p0_3], 4⟩] : List Own), S, keep_sub [1, 2, 5, 6, 7, 9, 10, 11, 12, 17, 18, 19] (by kernel_rfl), VS.sel [3, 3, 0, 0, 0, 0] (by kernel_rfl), wr64 (x384 + 1), t414, t415, t416, N418, nN418, rfl, rfl, rfl, e362⟩
                  · rw [if_neg c410] at e362
                    have c410b : (x364 == 3) = false := beq_eq_false_iff_ne.mpr c410
                    cases e362
            · rw [if_neg c389] at e362
              have c389b : (decide (x384 ≤ t381)) = false := decide_eq_false c389
              refine t_qz 2 [1, 2, 5, 6, 7, 9, 10, 11, 12, 17, 18, 19, 27, 28] (σ' := [(1, .bool shut1), (2, .pointer (some ⟨b349, 0, none⟩)), (5, .pointer (some ⟨b350, 0, none⟩)), (6, .pointer (some ⟨b351, 0, none⟩)), (7, .func (.func 67) #[] #[.pointer (some ⟨b351, 0, none⟩), .pointer (some ⟨b350, 0, none⟩)]), (9, .pointer (some ⟨b380, 0, none⟩)), (10, .pointer (some ⟨b383, 0, none⟩)), (11, .int .i64 t381), (12, .int .i64 x384), (17, .slice a_p0_2 p0_2.length c_p0_2), (18, .int .i64 (p0_2.length : Int)), (19, .int .i64 x355), (27, .int .i64 x384), (28, .int .i64 t381)]) (by kernel_rfl) ?_
              refine t_v (dv_quiet rfl (congrArg (fun t => some (Value.bool t)) c389b)) ?_
              refine t_keep [1, 2, 5, 6, 7, 9, 10, 11, 12, 17, 18, 19, 29] (σ' := [(1, .bool shut1), (2, .pointer (some ⟨b349, 0, none⟩)), (5, .pointer (some ⟨b350, 0, none⟩)), (6, .pointer (some ⟨b351, 0, none⟩)), (7, .func (.func 67) #[] #[.pointer (some ⟨b351, 0, none⟩), .pointer (some ⟨b350, 0, none⟩)]), (9, .pointer (some ⟨b380, 0, none⟩)), (10, .pointer (some ⟨b383, 0, none⟩)), (11, .int .i64 t381), (12, .int .i64 x384), (17, .slice a_p0_2 p0_2.length c_p0_2), (18, .int .i64 (p0_2.length : Int)), (19, .int .i64 x355), (29, .bool false)]) (by kernel_rfl) ?_
              refine t_end ?_
              show W _ _ _ _ _ _ _
              refine w_cond rfl (fun c_ => by cases c_) (fun _ => ?_)
              show W _ _ _ _ _ _ _
              refine w_exit ?_
              simp only [Option.some.injEq, Prod.mk.injEq] at e362
              obtain ⟨rfl, rfl, rfl⟩ := e362
              exact ⟨([⟨b351, [.int .i64 x387, .int .i64 x388], 2⟩, ⟨b350, [.slice (ad a385) y386.length (na385 / 4)], 1⟩, ⟨b349, [.int .i64 p0_0, .int .i64 p0_1, .slice a_p0_2 p0_2.length c_p0_2, .bool p0_3], 4⟩, ⟨a385, encL E_i644 y386, na385⟩] : List Own), S, VS.sel [3, 3, 3, 2] (by kernel_rfl), a385, na385, by kernel_rfl, rfl, rfl⟩
        · rintro σ_ H_ S_ ⟨a423, na423, rfl, rfl, rfl⟩
          refine w_reg fun all => ?_
          refine t_qz 2 [1, 2, 5, 6, 7, 17, 18, 19] (σ' := [(1, .bool shut1), (2, .pointer (some ⟨b349, 0, none⟩)), (5, .pointer (some ⟨b350, 0, none⟩)), (6, .pointer (some ⟨b351, 0, none⟩)), (7, .func (.func 67) #[] #[.pointer (some ⟨b351, 0, none⟩), .pointer (some ⟨b350, 0, none⟩)]), (17, .slice a_p0_2 p0_2.length c_p0_2), (18, .int .i64 (p0_2.length : Int)), (19, .int .i64 (wr64 (x355 + 1)))]) (by kernel_rfl) ?_
          refine t_end ?_
          exact ⟨k_, Nat.lt_succ_self _, [(1, .bool shut1), (2, .pointer (some ⟨b349, 0, none⟩)), (5, .pointer (some ⟨b350, 0, none⟩)), (6, .pointer (some ⟨b351, 0, none⟩)), (7, .func (.func 67) #[] #[.pointer (some ⟨b351, 0, none⟩), .pointer (some ⟨b350, 0, none⟩)]), (17, .slice a_p0_2 p0_2.length c_p0_2), (18, .int .i64 (p0_2.length : Int)), (19, .int .i64 (wr64 (x355 + 1)))], ([⟨a423, encL E_i644 y424, na423⟩, ⟨b351, [.int .i64 x421, .int .i64 x422], 2⟩, ⟨b350, [.slice (ad a423) y424.length (na423 / 4)], 1⟩, ⟨b349, [.int .i64 p0_0, .int .i64 p0_1, .slice a_p0_2 p0_2.length c_p0_2, .bool p0_3], 4⟩] : List Own), S, keep_sub [1, 2, 5, 6, 7, 17, 18, 19] (by kernel_rfl), VS.sel [3, 0, 0, 0] (by kernel_rfl), wr64 (x355 + 1), y424, x421, x422, a423, na423, rfl, rfl, rfl, e353⟩
      · rw [if_neg c360] at e353
        have c360b : (decide (x355 < (p0_2.length : Int))) = false := decide_eq_false c360
        refine t_v (dv_quiet rfl (congrArg (fun t => some (Value.bool t)) c360b)) ?_
        refine t_keep [1, 2, 5, 6, 7, 17, 18, 19, 20] (σ' := [(1, .bool shut1), (2, .pointer (some ⟨b349, 0, none⟩)), (5, .pointer (some ⟨b350, 0, none⟩)), (6, .pointer (some ⟨b351, 0, none⟩)), (7, .func (.func 67) #[] #[.pointer (some ⟨b351, 0, none⟩), .pointer (some ⟨b350, 0, none⟩)]), (17, .slice a_p0_2 p0_2.length c_p0_2), (18, .int .i64 (p0_2.length : Int)), (19, .int .i64 x355), (20, .bool false)]) (by kernel_rfl) ?_
        refine t_end ?_
        show W _ _ _ _ _ _ _
        refine w_seq ?_
        refine w_cond rfl (fun c_ => by cases c_) (fun _ => ?_)
        show W _ _ _ _ _ _ _
        refine w_exit ?_
        simp only [Option.some.injEq, Prod.mk.injEq] at e353
        obtain ⟨rfl, rfl, rfl⟩ := e353
        exact ⟨([⟨b351, [.int .i64 x358, .int .i64 x359], 2⟩, ⟨b350, [.slice (ad a356) y357.length (na356 / 4)], 1⟩, ⟨b349, [.int .i64 p0_0, .int .i64 p0_1, .slice a_p0_2 p0_2.length c_p0_2, .bool p0_3], 4⟩, ⟨a356, encL E_i644 y357, na356⟩] : List Own), S, VS.sel [1, 1, 1, 0] (by kernel_rfl), a356, na356, by kernel_rfl, rfl, rfl⟩
  · rintro σ_ H_ S_ ⟨a429, na429, rfl, rfl, rfl⟩
    refine w_seq ?_
    refine w_seq ?_
    refine w_reg fun all => ?_
    by_cases c431 : shut1 = true
    · rw [if_pos c431] at e
      have c431b : shut1 = true := c431
      refine t_v (dv_quiet rfl (congrArg (fun t => some (Value.bool t)) c431b)) ?_
      refine t_qz 4 [2, 5, 7, 44] (σ' := [(2, .pointer (some ⟨b349, 0, none⟩)), (5, .pointer (some ⟨b350, 0, none⟩)), (7, .func (.func 67) #[] #[.pointer (some ⟨b351, 0, none⟩), .pointer (some ⟨b350, 0, none⟩)]), (44, .bool true)]) (by kernel_rfl) ?_
      refine t_end ?_
      show W _ _ _ _ _ _ _
      refine w_cond rfl (fun _ => ?_) (fun c_ => by cases c_)
      show W _ _ _ _ _ _ _
      refine w_reg fun all => ?_
      refine t_qz 2 [5, 45, 46] (σ' := [(5, .pointer (some ⟨b350, 0, none⟩)), (45, .func (.func 67) #[] #[.pointer (some ⟨b351, 0, none⟩), .pointer (some ⟨b350, 0, none⟩)]), (46, .pointer (some ⟨b349, 0, none⟩))]) (by kernel_rfl) ?_
      refine t_v (.ldn rfl rfl rfl (.at 2 rfl rfl)) ?_
      obtain ⟨⟨t432, t433, t434⟩, h435, e⟩ := bind_of e
      try dsimp only at e
      refine t_clo (caps := #[.pointer (some ⟨b351, 0, none⟩), .pointer (some ⟨b350, 0, none⟩)]) (vs := [.agg #[.int .i64 p0_0, .int .i64 p0_1]]) (H1 := ([⟨b351, [.int .i64 x427, .int .i64 x428], 2⟩, ⟨b350, [.slice (ad a429) y430.length (na429 / 4)], 1⟩, ⟨a429, encL E_i644 y430, na429⟩] : List Own)) (F := ([⟨b349, [.int .i64 p0_0, .int .i64 p0_1, .slice a_p0_2 p0_2.length c_p0_2, .bool p0_3], 4⟩] : List Own)) rfl rfl rfl (by kernel_rfl) (by kernel_rfl) (sel_perm (is := [0, 0, 1]) (by kernel_rfl)) (flatten_Path_1_v2.ok h435) ?_
      rintro _ _ S_ ⟨N436, nN436, rfl, rfl, hS_⟩
      obtain rfl := hS_.symm
      refine t_keep [5] (σ' := [(5, .pointer (some ⟨b350, 0, none⟩))]) (by kernel_rfl) ?_
      refine t_end ?_
      show W _ _ _ _ _ _ _
      refine w_seq ?_
      refine w_reg fun all => ?_
      refine t_v (.ld1 rfl rfl rfl (.at 2 rfl rfl)) ?_
      refine t_qz 1 [4] (σ' := [(4, .slice (ad N436) t432.length (nN436 / 4))]) (by kernel_rfl) ?_
      refine t_end ?_
      show W _ _ _ _ _ _ _
      refine w_ret ?_
      obtain rfl := Option.some.inj e
      exact ⟨[.slice (ad N436) t432.length (nN436 / 4)], ([⟨N436, encL E_i644 t432, nN436⟩] : List Own), S, ⟨rfl, trivial⟩, VS.sel [0] (by kernel_rfl), N436, nN436, rfl, rfl, rfl⟩
    · rw [if_neg c431] at e
      have c431b : shut1 = false := Bool.eq_false_iff.mpr c431
      refine t_v (dv_quiet rfl (congrArg (fun t => some (Value.bool t)) c431b)) ?_
      by_cases c437 : p0_3 = true
      · rw [if_pos c437] at e
        have c437b : p0_3 = true := c437
        refine t_qz 2 [2, 5, 7, 41, 42] (σ' := [(2, .pointer (some ⟨b349, 0, none⟩)), (5, .pointer (some ⟨b350, 0, none⟩)), (7, .func (.func 67) #[] #[.pointer (some ⟨b351, 0, none⟩), .pointer (some ⟨b350, 0, none⟩)]), (41, .bool false), (42, .pointer (some ⟨b349, 3, none⟩))]) (by kernel_rfl) ?_
        refine t_v (dv_eq (congrArg (fun t => Value.bool t) c437b) (.ld1 rfl rfl rfl (.at 2 rfl rfl))) ?_
        refine t_qz 1 [2, 5, 7, 44] (σ' := [(2, .pointer (some ⟨b349, 0, none⟩)), (5, .pointer (some ⟨b350, 0, none⟩)), (7, .func (.func 67) #[] #[.pointer (some ⟨b351, 0, none⟩), .pointer (some ⟨b350, 0, none⟩)]), (44, .bool true)]) (by kernel_rfl) ?_
        refine t_end ?_
        show W _ _ _ _ _ _ _
        refine w_cond rfl (fun _ => ?_) (fun c_ => by cases c_)
        show W _ _ _ _ _ _ _
        refine w_reg fun all => ?_
        refine t_qz 2 [5, 45, 46] (σ' := [(5, .pointer (some ⟨b350, 0, none⟩)), (45, .func (.func 67) #[] #[.pointer (some ⟨b351, 0, none⟩), .pointer (some ⟨b350, 0, none⟩)]), (46, .pointer (some ⟨b349, 0, none⟩))]) (by kernel_rfl) ?_
        refine t_v (.ldn rfl rfl rfl (.at 2 rfl rfl)) ?_
        obtain ⟨⟨t438, t439, t440⟩, h441, e⟩ := bind_of e
        try dsimp only at e
        refine t_clo (caps := #[.pointer (some ⟨b351, 0, none⟩), .pointer (some ⟨b350, 0, none⟩)]) (vs := [.agg #[.int .i64 p0_0, .int .i64 p0_1]]) (H1 := ([⟨b351, [.int .i64 x427, .int .i64 x428], 2⟩, ⟨b350, [.slice (ad a429) y430.length (na429 / 4)], 1⟩, ⟨a429, encL E_i644 y430, na429⟩] : List Own)) (F := ([⟨b349, [.int .i64 p0_0, .int .i64 p0_1, .slice a_p0_2 p0_2.length c_p0_2, .bool p0_3], 4⟩] : List Own)) rfl rfl rfl (by kernel_rfl) (by kernel_rfl) (sel_perm (is := [0, 0, 1]) (by kernel_rfl)) (flatten_Path_1_v2.ok h441) ?_
        rintro _ _ S_ ⟨N442, nN442, rfl, rfl, hS_⟩
        obtain rfl := hS_.symm
        refine t_keep [5] (σ' := [(5, .pointer (some ⟨b350, 0, none⟩))]) (by kernel_rfl) ?_
        refine t_end ?_
        show W _ _ _ _ _ _ _
        refine w_seq ?_
        refine w_reg fun all => ?_
        refine t_v (.ld1 rfl rfl rfl (.at 2 rfl rfl)) ?_
        refine t_qz 1 [4] (σ' := [(4, .slice (ad N442) t438.length (nN442 / 4))]) (by kernel_rfl) ?_
        refine t_end ?_
        show W _ _ _ _ _ _ _
        refine w_ret ?_
        obtain rfl := Option.some.inj e
        exact ⟨[.slice (ad N442) t438.length (nN442 / 4)], ([⟨N442, encL E_i644 t438, nN442⟩] : List Own), S, ⟨rfl, trivial⟩, VS.sel [0] (by kernel_rfl), N442, nN442, rfl, rfl, rfl⟩
      · rw [if_neg c437] at e
        have c437b : p0_3 = false := Bool.eq_false_iff.mpr c437
        refine t_qz 2 [2, 5, 7, 41, 42] (σ' := [(2, .pointer (some ⟨b349, 0, none⟩)), (5, .pointer (some ⟨b350, 0, none⟩)), (7, .func (.func 67) #[] #[.pointer (some ⟨b351, 0, none⟩), .pointer (some ⟨b350, 0, none⟩)]), (41, .bool false), (42, .pointer (some ⟨b349, 3, none⟩))]) (by kernel_rfl) ?_
        refine t_v (dv_eq (congrArg (fun t => Value.bool t) c437b) (.ld1 rfl rfl rfl (.at 2 rfl rfl))) ?_
        refine t_qz 1 [2, 5, 7, 44] (σ' := [(2, .pointer (some ⟨b349, 0, none⟩)), (5, .pointer (some ⟨b350, 0, none⟩)), (7, .func (.func 67) #[] #[.pointer (some ⟨b351, 0, none⟩), .pointer (some ⟨b350, 0, none⟩)]), (44, .bool false)]) (by kernel_rfl) ?_
        refine t_end ?_
        show W _ _ _ _ _ _ _
        refine w_cond rfl (fun c_ => by cases c_) (fun _ => ?_)
        show W _ _ _ _ _ _ _
        refine w_skip ?_
        show W _ _ _ _ _ _ _
        refine w_seq ?_
        refine w_reg fun all => ?_
        refine t_v (.ld1 rfl rfl rfl (.at 1 rfl rfl)) ?_
        refine t_qz 1 [4] (σ' := [(4, .slice (ad a429) y430.length (na429 / 4))]) (by kernel_rfl) ?_
        refine t_end ?_
        show W _ _ _ _ _ _ _
        refine w_ret ?_
        obtain rfl := Option.some.inj e
        exact ⟨[.slice (ad a429) y430.length (na429 / 4)], ([⟨a429, encL E_i644 y430, na429⟩] : List Own), S, ⟨rfl, trivial⟩, VS.sel [3] (by kernel_rfl), a429, na429, rfl, rfl, rfl⟩

/-- glyphicref20.edge -/
def c74 : C :=
  (.seq (.reg [⟨(some 4), .box (.tmp 1), none⟩,
     ⟨(some 5), .box (.tmp 2), none⟩,
     ⟨(some 6), .mv (.const (.slice none 0 0)), none⟩])
  (.seq (.seq (.reg [⟨(some 7), .ld (some 2) (.tmp 4), none⟩,
      ⟨(some 8), .ld (some 2) (.tmp 5), none⟩,
      ⟨(some 9), .call 25 [(.tmp 7), (.tmp 8)], none⟩])
   (.cond (.tmp 9)
    (.seq (.reg [⟨(some 10), .mv (.tmp 0), none⟩,
        ⟨(some 6), .mv (.tmp 10), none⟩])
     .ret)
    .skip))
  (.seq (.reg [⟨(some 11), .mv (.tmp 0), none⟩,
     ⟨(some 12), .ld (some 2) (.tmp 4), none⟩,
     ⟨(some 13), .ld (some 2) (.tmp 5), none⟩,
     ⟨(some 14), .bld [(.int .i64 0), (.int .i64 0), (.int .i64 0), (.int .i64 0)] [(0, 2, (.tmp 12)), (2, 2, (.tmp 13))], none⟩,
     ⟨(some 15), .bsl [(.int .i64 0), (.int .i64 0), (.int .i64 0), (.int .i64 0)] 1 [(0, 4, (.tmp 14))], none⟩,
     ⟨(some 16), .app 36 4 32 [(.int .i64 0), (.int .i64 0), (.int .i64 0), (.int .i64 0)] (.tmp 11) (.tmp 15), none⟩,
     ⟨(some 6), .mv (.tmp 16), none⟩])
  .ret)))
def glyphicref20_edge_v1.f (a1_0 : Int) (a1_1 : Int) (b2_0 : Int) (b2_1 : Int) (m0_L : List (Int × Int × Int × Int)) : Option (List (Int × Int × Int × Int)) := (glyphicref_SamePoint.f a1_0 a1_1 b2_0 b2_1).bind fun t499 => (if t499 = true then (some m0_L) else ((lapp m0_L ([(a1_0, a1_1, b2_0, b2_1)] : List (Int × Int × Int × Int))).bind fun y502 => (some y502)))
theorem glyphicref20_edge_v1.ok {S : Seal} {B0 : Option Nat} {nB0 : Nat} {a1_0 : Int} {a1_1 : Int} {b2_0 : Int} {b2_1 : Int} {m0_L : List (Int × Int × Int × Int)} {r0_ : List (Int × Int × Int × Int)}(e : glyphicref20_edge_v1.f a1_0 a1_1 b2_0 b2_1 m0_L = some r0_) :
    Cal Try.prog 74 [.slice (ad B0) m0_L.length (nB0 / 4), .agg #[.int .i64 a1_0, .int .i64 a1_1], .agg #[.int .i64 b2_0, .int .i64 b2_1]] ([⟨B0, encL E_i644 m0_L, nB0⟩] : List Own) S fun v H' S' => ∃ (N0_ : Option Nat) (nN0_ : Nat) , v = .slice (ad N0_) r0_.length (nN0_ / 4) ∧ H' = ([⟨N0_, encL E_i644 r0_, nN0_⟩] : List Own) ∧ S' = S := by
  unfold glyphicref20_edge_v1.f at e
  refine cal_of (c := c74) (N := 17) Try.func74 rfl rfl (by kernel_rfl) (rs := [.t 6]) (by kernel_rfl) (Nat.le_of_ble_eq_true rfl) ?_
  unfold c74
  refine w_seq ?_
  refine w_reg fun all => ?_
  refine t_a (.box rfl rfl rfl) fun b497 fb497 sb497 => ?_
  refine t_a (.box rfl rfl rfl) fun b498 fb498 sb498 => ?_
  refine t_qz 1 [0, 4, 5] (σ' := [(0, .slice (ad B0) m0_L.length (nB0 / 4)), (4, .pointer (some ⟨b497, 0, none⟩)), (5, .pointer (some ⟨b498, 0, none⟩))]) (by kernel_rfl) ?_
  refine t_end ?_
  show W _ _ _ _ _ _ _
  refine w_seq ?_
  refine w_seq ?_
  refine w_reg fun all => ?_
  refine t_v (.ldn rfl rfl rfl (.at 1 rfl rfl)) ?_
  refine t_v (.ldn rfl rfl rfl (.at 0 rfl rfl)) ?_
  obtain ⟨t499, h500, e⟩ := bind_of e
  cases t499 with
  | true =>
    rw [if_pos rfl] at e
    refine t_v (.call (vs := [.agg #[.int .i64 a1_0, .int .i64 a1_1], .agg #[.int .i64 b2_0, .int .i64 b2_1]]) rfl rfl (by kernel_rfl) (glyphicref_SamePoint.ok h500)) ?_
    refine t_keep [0, 4, 5, 9] (σ' := [(0, .slice (ad B0) m0_L.length (nB0 / 4)), (4, .pointer (some ⟨b497, 0, none⟩)), (5, .pointer (some ⟨b498, 0, none⟩)), (9, .bool true)]) (by kernel_rfl) ?_
    refine t_end ?_
    show W _ _ _ _ _ _ _
    refine w_cond rfl (fun _ => ?_) (fun c_ => by cases c_)
    show W _ _ _ _ _ _ _
    refine w_seq ?_
    refine w_reg fun all => ?_
    refine t_qz 2 [6] (σ' := [(6, .slice (ad B0) m0_L.length (nB0 / 4))]) (by kernel_rfl) ?_
    refine t_end ?_
    show W _ _ _ _ _ _ _
    refine w_ret ?_
    obtain rfl := Option.some.inj e
    exact ⟨[.slice (ad B0) m0_L.length (nB0 / 4)], ([⟨B0, encL E_i644 m0_L, nB0⟩] : List Own), S, ⟨rfl, trivial⟩, VS.sel [2] (by kernel_rfl), B0, nB0, rfl, rfl, rfl⟩
  | false =>
    rw [if_neg (by decide)] at e
    refine t_v (.call (vs := [.agg #[.int .i64 a1_0, .int .i64 a1_1], .agg #[.int .i64 b2_0, .int .i64 b2_1]]) rfl rfl (by kernel_rfl) (glyphicref_SamePoint.ok h500)) ?_
    refine t_keep [0, 4, 5, 9] (σ' := [(0, .slice (ad B0) m0_L.length (nB0 / 4)), (4, .pointer (some ⟨b497, 0, none⟩)), (5, .pointer (some ⟨b498, 0, none⟩)), (9, .bool false)]) (by kernel_rfl) ?_
    refine t_end ?_
    show W _ _ _ _ _ _ _
    refine w_cond rfl (fun c_ => by cases c_) (fun _ => ?_)
    show W _ _ _ _ _ _ _
    refine w_skip ?_
    show W _ _ _ _ _ _ _
    refine w_seq ?_
    refine w_reg fun all => ?_
    refine t_qz 1 [4, 5, 11] (σ' := [(4, .pointer (some ⟨b497, 0, none⟩)), (5, .pointer (some ⟨b498, 0, none⟩)), (11, .slice (ad B0) m0_L.length (nB0 / 4))]) (by kernel_rfl) ?_
    refine t_v (.ldn rfl rfl rfl (.at 1 rfl rfl)) ?_
    refine t_v (.ldn rfl rfl rfl (.at 0 rfl rfl)) ?_
    refine t_qz 1 [11, 14] (σ' := [(11, .slice (ad B0) m0_L.length (nB0 / 4)), (14, .agg #[.int .i64 a1_0, .int .i64 a1_1, .int .i64 b2_0, .int .i64 b2_1])]) (by kernel_rfl) ?_
    refine t_a (.bsl rfl rfl rfl rfl) fun b501 fb501 sb501 => ?_
    obtain ⟨y502, hl503, e⟩ := bind_of e
    refine t_appX (E := E_i644) (L := m0_L) (X := ([(a1_0, a1_1, b2_0, b2_1)] : List (Int × Int × Int × Int))) (F := ([⟨b501, [.int .i64 a1_0, .int .i64 a1_1, .int .i64 b2_0, .int .i64 b2_1], 4⟩, ⟨b498, [.int .i64 b2_0, .int .i64 b2_1], 2⟩, ⟨b497, [.int .i64 a1_0, .int .i64 a1_1], 2⟩] : List Own)) rfl rfl rfl rfl (sel_perm (is := [3]) (by kernel_rfl)) rfl (Or.inr ⟨_, _, rfl, .at 0 rfl (by kernel_rfl)⟩) rfl (by decide) (by decide) rfl hl503 fun a504 na504 => ?_
    refine t_qz 1 [6] (σ' := [(6, .slice (ad a504) y502.length (na504 / 4))]) (by kernel_rfl) ?_
    refine t_end ?_
    show W _ _ _ _ _ _ _
    refine w_ret ?_
    obtain rfl := Option.some.inj e
    exact ⟨[.slice (ad a504) y502.length (na504 / 4)], ([⟨a504, encL E_i644 y502, na504⟩] : List Own), S, ⟨rfl, trivial⟩, VS.sel [0] (by kernel_rfl), a504, na504, rfl, rfl, rfl⟩

/-- glyphicref20.end -/
def c75 : C :=
  (.seq (.reg [⟨(some 2), .box (.tmp 0), none⟩,
     ⟨(some 3), .box (.tmp 1), none⟩,
     ⟨(some 4), .new [(.int .i64 0), (.int .i64 0)], none⟩])
  (.seq (.seq (.reg [⟨(some 5), .pad 0 (.tmp 3), none⟩,
      ⟨(some 6), .ld none (.tmp 5), none⟩,
      ⟨(some 7), .bin .lss (.tmp 6) (.const (.int .i64 1)), none⟩,
      ⟨(some 8), .mv (.tmp 7), none⟩,
      ⟨(some 9), .pad 0 (.tmp 3), (some (8, false))⟩,
      ⟨(some 10), .ld none (.tmp 9), (some (8, false))⟩,
      ⟨(some 11), .bin .gtr (.tmp 10) (.const (.int .i64 3)), (some (8, false))⟩,
      ⟨(some 12), .pk (.tmp 8) (.const (.bool true)) (.tmp 11), none⟩])
   (.cond (.tmp 12)
    (.seq (.reg [⟨(some 13), .ld (some 2) (.tmp 2), none⟩,
        ⟨none, .st 2 (.tmp 4) (.tmp 13), none⟩])
     .ret)
    .skip))
  (.seq (.reg [⟨(some 14), .pad 0 (.tmp 3), none⟩,
     ⟨(some 15), .ld none (.tmp 14), none⟩,
     ⟨(some 16), .bin .sub (.tmp 15) (.const (.int .i64 1)), none⟩,
     ⟨(some 17), .pad 1 (.tmp 3), none⟩,
     ⟨(some 18), .ixa 2 3 (.tmp 17) (.tmp 16), none⟩,
     ⟨(some 19), .ld (some 2) (.tmp 18), none⟩,
     ⟨none, .st 2 (.tmp 4) (.tmp 19), none⟩])
  .ret)))
def glyphicref20_end.f (a0_X : Int) (a0_Y : Int) (s1_Kind : Int) (s1_P_0_X : Int) (s1_P_0_Y : Int) (s1_P_1_X : Int) (s1_P_1_Y : Int) (s1_P_2_X : Int) (s1_P_2_Y : Int) : Option (Int × Int) := if s1_Kind < 1 then (some (a0_X, a0_Y)) else (if s1_Kind > 3 then (some (a0_X, a0_Y)) else (if (wr64 (s1_Kind - 1)) = 0 then (some (s1_P_0_X, s1_P_0_Y)) else (if (wr64 (s1_Kind - 1)) = 1 then (some (s1_P_1_X, s1_P_1_Y)) else (if (wr64 (s1_Kind - 1)) = 2 then (some (s1_P_2_X, s1_P_2_Y)) else (none)))))
theorem glyphicref20_end.ok {S : Seal} {a0_X : Int} {a0_Y : Int} {s1_Kind : Int} {s1_P_0_X : Int} {s1_P_0_Y : Int} {s1_P_1_X : Int} {s1_P_1_Y : Int} {s1_P_2_X : Int} {s1_P_2_Y : Int} {r0_ : Int} {r1_ : Int}(e : glyphicref20_end.f a0_X a0_Y s1_Kind s1_P_0_X s1_P_0_Y s1_P_1_X s1_P_1_Y s1_P_2_X s1_P_2_Y = some (r0_, r1_)) :
    Cal Try.prog 75 [.agg #[.int .i64 a0_X, .int .i64 a0_Y], .agg #[.int .i64 s1_Kind, .int .i64 s1_P_0_X, .int .i64 s1_P_0_Y, .int .i64 s1_P_1_X, .int .i64 s1_P_1_Y, .int .i64 s1_P_2_X, .int .i64 s1_P_2_Y]] [] S fun v H' S' => v = .agg #[.int .i64 r0_, .int .i64 r1_] ∧ H' = [] ∧ S' = S := by
  unfold glyphicref20_end.f at e
  refine cal_of (c := c75) (N := 20) Try.func75 rfl rfl (by kernel_rfl) (rs := [.cn 2 4]) (by kernel_rfl) (Nat.le_of_ble_eq_true rfl) ?_
  unfold c75
  refine w_seq ?_
  refine w_reg fun all => ?_
  refine t_a (.box rfl rfl rfl) fun b500 fb500 sb500 => ?_
  refine t_a (.box rfl rfl rfl) fun b501 fb501 sb501 => ?_
  refine t_a (.new rfl rfl) fun b502 fb502 sb502 => ?_
  refine t_keep [2, 3, 4] (σ' := [(2, .pointer (some ⟨b500, 0, none⟩)), (3, .pointer (some ⟨b501, 0, none⟩)), (4, .pointer (some ⟨b502, 0, none⟩))]) (by kernel_rfl) ?_
  refine t_end ?_
  show W _ _ _ _ _ _ _
  refine w_seq ?_
  refine w_seq ?_
  refine w_reg fun all => ?_
  refine t_qz 1 [2, 3, 4, 5] (σ' := [(2, .pointer (some ⟨b500, 0, none⟩)), (3, .pointer (some ⟨b501, 0, none⟩)), (4, .pointer (some ⟨b502, 0, none⟩)), (5, .pointer (some ⟨b501, 0, none⟩))]) (by kernel_rfl) ?_
  refine t_v (.ld1 rfl rfl rfl (.at 1 rfl rfl)) ?_
  by_cases c503 : s1_Kind < 1
  · rw [if_pos c503] at e
    have c503b : (decide (s1_Kind < 1)) = true := decide_eq_true c503
    refine t_v (dv_quiet rfl (congrArg (fun t => some (Value.bool t)) c503b)) ?_
    refine t_qz 5 [2, 3, 4, 12] (σ' := [(2, .pointer (some ⟨b500, 0, none⟩)), (3, .pointer (some ⟨b501, 0, none⟩)), (4, .pointer (some ⟨b502, 0, none⟩)), (12, .bool true)]) (by kernel_rfl) ?_
    refine t_end ?_
    show W _ _ _ _ _ _ _
    refine w_cond rfl (fun _ => ?_) (fun c_ => by cases c_)
    show W _ _ _ _ _ _ _
    refine w_seq ?_
    refine w_reg fun all => ?_
    refine t_v (.ldn rfl rfl rfl (.at 2 rfl rfl)) ?_
    refine t_sti 0 (cs := [.int .i64 a0_X, .int .i64 a0_Y]) rfl rfl rfl rfl rfl rfl rfl rfl rfl ?_
    refine t_keep [4] (σ' := [(4, .pointer (some ⟨b502, 0, none⟩))]) (by kernel_rfl) ?_
    refine t_end ?_
    show W _ _ _ _ _ _ _
    refine w_ret ?_
    simp only [Option.some.injEq, Prod.mk.injEq] at e
    obtain ⟨rfl, rfl⟩ := e
    exact ⟨[.agg #[.int .i64 a0_X, .int .i64 a0_Y]], [], S, ⟨⟨_, _, _, rfl, .at 0 rfl rfl, rfl⟩, trivial⟩, VS.none, rfl, rfl, rfl⟩
  · rw [if_neg c503] at e
    have c503b : (decide (s1_Kind < 1)) = false := decide_eq_false c503
    refine t_v (dv_quiet rfl (congrArg (fun t => some (Value.bool t)) c503b)) ?_
    refine t_qz 2 [2, 3, 4, 8, 9] (σ' := [(2, .pointer (some ⟨b500, 0, none⟩)), (3, .pointer (some ⟨b501, 0, none⟩)), (4, .pointer (some ⟨b502, 0, none⟩)), (8, .bool false), (9, .pointer (some ⟨b501, 0, none⟩))]) (by kernel_rfl) ?_
    refine t_v (.ld1 rfl rfl rfl (.at 1 rfl rfl)) ?_
    by_cases c504 : s1_Kind > 3
    · rw [if_pos c504] at e
      have c504b : (decide (s1_Kind > 3)) = true := decide_eq_true c504
      refine t_v (dv_quiet rfl (congrArg (fun t => some (Value.bool t)) c504b)) ?_
      refine t_qz 1 [2, 3, 4, 12] (σ' := [(2, .pointer (some ⟨b500, 0, none⟩)), (3, .pointer (some ⟨b501, 0, none⟩)), (4, .pointer (some ⟨b502, 0, none⟩)), (12, .bool true)]) (by kernel_rfl) ?_
      refine t_end ?_
      show W _ _ _ _ _ _ _
      refine w_cond rfl (fun _ => ?_) (fun c_ => by cases c_)
      show W _ _ _ _ _ _ _
      refine w_seq ?_
      refine w_reg fun all => ?_
      refine t_v (.ldn rfl rfl rfl (.at 2 rfl rfl)) ?_
      refine t_sti 0 (cs := [.int .i64 a0_X, .int .i64 a0_Y]) rfl rfl rfl rfl rfl rfl rfl rfl rfl ?_
      refine t_keep [4] (σ' := [(4, .pointer (some ⟨b502, 0, none⟩))]) (by kernel_rfl) ?_
      refine t_end ?_
      show W _ _ _ _ _ _ _
      refine w_ret ?_
      simp only [Option.some.injEq, Prod.mk.injEq] at e
      obtain ⟨rfl, rfl⟩ := e
      exact ⟨[.agg #[.int .i64 a0_X, .int .i64 a0_Y]], [], S, ⟨⟨_, _, _, rfl, .at 0 rfl rfl, rfl⟩, trivial⟩, VS.none, rfl, rfl, rfl⟩
    · rw [if_neg c504] at e
      have c504b : (decide (s1_Kind > 3)) = false := decide_eq_false c504
      refine t_v (dv_quiet rfl (congrArg (fun t => some (Value.bool t)) c504b)) ?_
      refine t_qz 1 [2, 3, 4, 12] (σ' := [(2, .pointer (some ⟨b500, 0, none⟩)), (3, .pointer (some ⟨b501, 0, none⟩)), (4, .pointer (some ⟨b502, 0, none⟩)), (12, .bool false)]) (by kernel_rfl) ?_
      refine t_end ?_
      show W _ _ _ _ _ _ _
      refine w_cond rfl (fun c_ => by cases c_) (fun _ => ?_)
      show W _ _ _ _ _ _ _
      refine w_skip ?_
      show W _ _ _ _ _ _ _
      refine w_seq ?_
      refine w_reg fun all => ?_
      refine t_qz 1 [3, 4, 14] (σ' := [(3, .pointer (some ⟨b501, 0, none⟩)), (4, .pointer (some ⟨b502, 0, none⟩)), (14, .pointer (some ⟨b501, 0, none⟩))]) (by kernel_rfl) ?_
      refine t_v (.ld1 rfl rfl rfl (.at 1 rfl rfl)) ?_
      by_cases c505 : (wr64 (s1_Kind - 1)) = 0
      · rw [if_pos c505] at e
        have c505b : ((wr64 (s1_Kind - 1)) == 0) = true := beq_iff_eq.mpr c505
        refine t_qz 2 [4, 16, 17] (σ' := [(4, .pointer (some ⟨b502, 0, none⟩)), (16, .int .i64 (wr64 (s1_Kind - 1))), (17, .pointer (some ⟨b501, 1, none⟩))]) (by kernel_rfl) ?_
        refine t_v (.quiet rfl (ixa_at (j := 0) (u := .pointer (some ⟨b501, 1, none⟩)) rfl c505b (by kernel_rfl))) ?_
        refine t_v (.ldn rfl rfl rfl (.at 1 rfl rfl)) ?_
        refine t_sti 0 (cs := [.int .i64 s1_P_0_X, .int .i64 s1_P_0_Y]) rfl rfl rfl rfl rfl rfl rfl rfl rfl ?_
        refine t_keep [4] (σ' := [(4, .pointer (some ⟨b502, 0, none⟩))]) (by kernel_rfl) ?_
        refine t_end ?_
        show W _ _ _ _ _ _ _
        refine w_ret ?_
        simp only [Option.some.injEq, Prod.mk.injEq] at e
        obtain ⟨rfl, rfl⟩ := e
        exact ⟨[.agg #[.int .i64 s1_P_0_X, .int .i64 s1_P_0_Y]], [], S, ⟨⟨_, _, _, rfl, .at 0 rfl rfl, rfl⟩, trivial⟩, VS.none, rfl, rfl, rfl⟩
      · rw [if_neg c505] at e
        have c505b : ((wr64 (s1_Kind - 1)) == 0) = false := beq_eq_false_iff_ne.mpr c505
        by_cases c506 : (wr64 (s1_Kind - 1)) = 1
        · rw [if_pos c506] at e
          have c506b : ((wr64 (s1_Kind - 1)) == 1) = true := beq_iff_eq.mpr c506
          refine t_qz 2 [4, 16, 17] (σ' := [(4, .pointer (some ⟨b502, 0, none⟩)), (16, .int .i64 (wr64 (s1_Kind - 1))), (17, .pointer (some ⟨b501, 1, none⟩))]) (by kernel_rfl) ?_
          refine t_v (.quiet rfl (ixa_at (j := 1) (u := .pointer (some ⟨b501, 3, none⟩)) rfl c506b (by kernel_rfl))) ?_
          refine t_v (.ldn rfl rfl rfl (.at 1 rfl rfl)) ?_
          refine t_sti 0 (cs := [.int .i64 s1_P_1_X, .int .i64 s1_P_1_Y]) rfl rfl rfl rfl rfl rfl rfl rfl rfl ?_
          refine t_keep [4] (σ' := [(4, .pointer (some ⟨b502, 0, none⟩))]) (by kernel_rfl) ?_
          refine t_end ?_
          show W _ _ _ _ _ _ _
          refine w_ret ?_
          simp only [Option.some.injEq, Prod.mk.injEq] at e
          obtain ⟨rfl, rfl⟩ := e
          exact ⟨[.agg #[.int .i64 s1_P_1_X, .int .i64 s1_P_1_Y]], [], S, ⟨⟨_, _, _, rfl, .at 0 rfl rfl, rfl⟩, trivial⟩, VS.none, rfl, rfl, rfl⟩
        · rw [if_neg c506] at e
          have c506b : ((wr64 (s1_Kind - 1)) == 1) = false := beq_eq_false_iff_ne.mpr c506
          by_cases c507 : (wr64 (s1_Kind - 1)) = 2
          · rw [if_pos c507] at e
            have c507b : ((wr64 (s1_Kind - 1)) == 2) = true := beq_iff_eq.mpr c507
            refine t_qz 2 [4, 16, 17] (σ' := [(4, .pointer (some ⟨b502, 0, none⟩)), (16, .int .i64 (wr64 (s1_Kind - 1))), (17, .pointer (some ⟨b501, 1, none⟩))]) (by kernel_rfl) ?_
            refine t_v (.quiet rfl (ixa_at (j := 2) (u := .pointer (some ⟨b501, 5, none⟩)) rfl c507b (by kernel_rfl))) ?_
            refine t_v (.ldn rfl rfl rfl (.at 1 rfl rfl)) ?_
            refine t_sti 0 (cs := [.int .i64 s1_P_2_X, .int .i64 s1_P_2_Y]) rfl rfl rfl rfl rfl rfl rfl rfl rfl ?_
            refine t_keep [4] (σ' := [(4, .pointer (some ⟨b502, 0, none⟩))]) (by kernel_rfl) ?_
            refine t_end ?_
            show W _ _ _ _ _ _ _
            refine w_ret ?_
            simp only [Option.some.injEq, Prod.mk.injEq] at e
            obtain ⟨rfl, rfl⟩ := e
            exact ⟨[.agg #[.int .i64 s1_P_2_X, .int .i64 s1_P_2_Y]], [], S, ⟨⟨_, _, _, rfl, .at 0 rfl rfl, rfl⟩, trivial⟩, VS.none, rfl, rfl, rfl⟩
          · rw [if_neg c507] at e
            have c507b : ((wr64 (s1_Kind - 1)) == 2) = false := beq_eq_false_iff_ne.mpr c507
            cases e

/-- glyphicref20.Path -/
def c34 : C :=
  (.seq (.reg [⟨(some 2), .box (.tmp 0), none⟩,
     ⟨(some 4), .mv (.const (.slice none 0 0)), none⟩])
  (.seq (.reg [⟨(some 5), .mv (.const (.slice none 0 0)), none⟩])
  (.seq (.reg [⟨(some 13), .pad 0 (.tmp 2), none⟩,
     ⟨(some 14), .ld (some 2) (.tmp 13), none⟩,
     ⟨(some 6), .new [(.int .i64 0), (.int .i64 0)], none⟩,
     ⟨none, .st 2 (.tmp 6) (.tmp 14), none⟩])
  (.seq (.seq (.reg [⟨(some 7), .mv (.const (.int .i64 0)), none⟩])
   (.block 0 (.loop (.seq (.seq (.reg [⟨(some 15), .mv (.tmp 7), none⟩,
         ⟨(some 16), .pad 2 (.tmp 2), none⟩,
         ⟨(some 17), .ld none (.tmp 16), none⟩,
         ⟨(some 18), .lns (.tmp 17), none⟩,
         ⟨(some 19), .bin .lss (.tmp 15) (.tmp 18), none⟩])
      (.cond (.tmp 19)
       .skip
       (.exit 0)))
     (.seq (.block 1 (.seq (.reg [⟨(some 22), .pad 2 (.tmp 2), none⟩,
          ⟨(some 23), .ld none (.tmp 22), none⟩,
          ⟨(some 24), .mv (.tmp 7), none⟩,
          ⟨(some 25), .ixs 7 (.tmp 23) (.tmp 24), none⟩,
          ⟨(some 26), .ld (some 7) (.tmp 25), none⟩,
          ⟨(some 8), .new [(.int .i64 0), (.int .i64 0), (.int .i64 0), (.int .i64 0), (.int .i64 0), (.int .i64 0), (.int .i64 0)], none⟩,
          ⟨none, .st 7 (.tmp 8) (.tmp 26), none⟩])
       (.seq (.reg [⟨(some 27), .ld (some 2) (.tmp 6), none⟩,
          ⟨(some 28), .ld (some 7) (.tmp 8), none⟩,
          ⟨(some 29), .call 30 [(.tmp 27), (.tmp 28)], none⟩,
          ⟨(some 9), .mv (.tmp 29), none⟩])
       (.seq (.reg [⟨(some 30), .ld (some 2) (.tmp 6), none⟩,
          ⟨(some 10), .new [(.int .i64 0), (.int .i64 0)], none⟩,
          ⟨none, .st 2 (.tmp 10) (.tmp 30), none⟩])
       (.seq (.seq (.reg [⟨(some 11), .mv (.const (.int .i64 1)), none⟩])
        (.block 2 (.loop (.seq (.seq (.reg [⟨(some 31), .mv (.tmp 11), none⟩,
              ⟨(some 32), .mv (.tmp 9), none⟩,
              ⟨(some 33), .bin .leq (.tmp 31) (.tmp 32), none⟩])
           (.cond (.tmp 33)
            .skip
            (.exit 2)))
          (.seq (.block 3 (.seq (.reg [⟨(some 36), .ld (some 2) (.tmp 6), none⟩,
               ⟨(some 37), .ld (some 7) (.tmp 8), none⟩,
               ⟨(some 38), .mv (.tmp 11), none⟩,
               ⟨(some 39), .mv (.tmp 9), none⟩,
               ⟨(some 40), .call 32 [(.tmp 36), (.tmp 37), (.tmp 38), (.tmp 39)], none⟩,
               ⟨(some 12), .new [(.int .i64 0), (.int .i64 0)], none⟩,
               ⟨none, .st 2 (.tmp 12) (.tmp 40), none⟩])
            (.seq (.reg [⟨(some 41), .mv (.tmp 5), none⟩,
               ⟨(some 42), .ld (some 2) (.tmp 10), none⟩,
               ⟨(some 43), .ld (some 2) (.tmp 12), none⟩,
               ⟨(some 44), .call 74 [(.tmp 41), (.tmp 42), (.tmp 43)], none⟩,
               ⟨(some 5), .mv (.tmp 44), none⟩])
            (.reg [⟨(some 45), .ld (some 2) (.tmp 12), none⟩,
              ⟨none, .st 2 (.tmp 10) (.tmp 45), none⟩]))))
          (.reg [⟨(some 34), .mv (.tmp 11), none⟩,
            ⟨(some 35), .bin .add (.tmp 34) (.const (.int .i64 1)), none⟩,
            ⟨(some 11), .mv (.tmp 35), none⟩]))))))
       (.reg [⟨(some 46), .ld (some 2) (.tmp 6), none⟩,
         ⟨(some 47), .ld (some 7) (.tmp 8), none⟩,
         ⟨(some 48), .call 75 [(.tmp 46), (.tmp 47)], none⟩,
         ⟨none, .st 2 (.tmp 6) (.tmp 48), none⟩]))))))
     (.reg [⟨(some 20), .mv (.tmp 7), none⟩,
       ⟨(some 21), .bin .add (.tmp 20) (.const (.int .i64 1)), none⟩,
       ⟨(some 7), .mv (.tmp 21), none⟩]))))))
  (.seq (.seq (.reg [⟨(some 49), .mv (.tmp 1), none⟩,
      ⟨(some 50), .mv (.tmp 49), none⟩,
      ⟨(some 51), .pad 3 (.tmp 2), (some (50, false))⟩,
      ⟨(some 52), .ld none (.tmp 51), (some (50, false))⟩,
      ⟨(some 53), .pk (.tmp 50) (.const (.bool true)) (.tmp 52), none⟩])
   (.cond (.tmp 53)
    (.reg [⟨(some 54), .mv (.tmp 5), none⟩,
       ⟨(some 55), .ld (some 2) (.tmp 6), none⟩,
       ⟨(some 56), .pad 0 (.tmp 2), none⟩,
       ⟨(some 57), .ld (some 2) (.tmp 56), none⟩,
       ⟨(some 58), .call 74 [(.tmp 54), (.tmp 55), (.tmp 57)], none⟩,
       ⟨(some 5), .mv (.tmp 58), none⟩])
    .skip))
  (.seq (.reg [⟨(some 59), .mv (.tmp 5), none⟩,
     ⟨(some 4), .mv (.tmp 59), none⟩])
  .ret))))))
def glyphicref20_Path_v1.l1 : Nat → Int → Int → Int → Int → Int → Int → Int → Int → Int → Int → Int → Int → Int → List (Int × Int × Int × Int) → Option (List (Int × Int × Int × Int) × Int × Int)
  | 0, _, _, _, _, _, _, _, _, _, _, _, _, _, _ => none
  | k + 1, x454, x455, x460, x461, x462, x463, x464, x465, x466, t477, x483, x484, x485, y487 => if x483 ≤ t477 then ((glyphicref20_Point.f x454 x455 x460 x461 x462 x463 x464 x465 x466 x483 t477).bind fun (t489, t490) => ((glyphicref20_edge_v1.f x484 x485 t489 t490 y487).bind fun t493 => (glyphicref20_Path_v1.l1 k x454 x455 x460 x461 x462 x463 x464 x465 x466 t477 (wr64 (x483 + 1)) t489 t490 t493))) else (some (y487, x484, x485))
def glyphicref20_Path_v1.l0 : Nat → List (Int × Int × Int × Int × Int × Int × Int) → Int → List (Int × Int × Int × Int) → Int → Int → Option (List (Int × Int × Int × Int) × Int × Int)
  | 0, _, _, _, _, _ => none
  | k + 1, p0_2, x451, y453, x454, x455 => if x451 < (p0_2.length : Int) then (((lgt p0_2 x451).bind fun (x460, x461, x462, x463, x464, x465, x466) => ((glyphicref20_Count.f k x454 x455 x460 x461 x462 x463 x464 x465 x466).bind fun t477 => ((glyphicref20_Path_v1.l1 k x454 x455 x460 x461 x462 x463 x464 x465 x466 t477 1 x454 x455 y453 : Option (List (Int × Int × Int × Int) × Int × Int)).bind fun (y499, x500, x501) => ((glyphicref20_end.f x454 x455 x460 x461 x462 x463 x464 x465 x466).bind fun (t502, t503) => (some (y499, t502, t503))))) : Option (List (Int × Int × Int × Int) × Int × Int)).bind fun (y506, x507, x508) => (glyphicref20_Path_v1.l0 k p0_2 (wr64 (x451 + 1)) y506 x507 x508)) else (some (y453, x454, x455))
def glyphicref20_Path_v1.f (k : Nat) (p0_0 : Int) (p0_1 : Int) (p0_2 : List (Int × Int × Int × Int × Int × Int × Int)) (p0_3 : Bool) (shut1 : Bool) : Option (List (Int × Int × Int × Int)) := (glyphicref20_Path_v1.l0 k p0_2 0 ([] : List (Int × Int × Int × Int)) p0_0 p0_1 : Option (List (Int × Int × Int × Int) × Int × Int)).bind fun (y512, x513, x514) => (if shut1 = true then ((glyphicref20_edge_v1.f x513 x514 p0_0 p0_1 y512).bind fun t516 => (some t516)) else (if p0_3 = true then ((glyphicref20_edge_v1.f x513 x514 p0_0 p0_1 y512).bind fun t520 => (some t520)) else (some y512)))
theorem glyphicref20_Path_v1.ok {S : Seal} {k : Nat} {p0_0 : Int} {p0_1 : Int} {p0_2 : List (Int × Int × Int × Int × Int × Int × Int)} {p0_3 : Bool} {shut1 : Bool} {r0_ : List (Int × Int × Int × Int)}{a_p0_2 : Option Addr} {c_p0_2 : Nat} (h_p0_2 : SlE S E_i647 p0_2 a_p0_2) (e : glyphicref20_Path_v1.f k p0_0 p0_1 p0_2 p0_3 shut1 = some r0_) :
    Cal Try.prog 34 [.agg #[.int .i64 p0_0, .int .i64 p0_1, .slice a_p0_2 p0_2.length c_p0_2, .bool p0_3], .bool shut1] [] S fun v H' S' => ∃ (N0_ : Option Nat) (nN0_ : Nat) , v = .slice (ad N0_) r0_.length (nN0_ / 4) ∧ H' = ([⟨N0_, encL E_i644 r0_, nN0_⟩] : List Own) ∧ S' = S := by
  unfold glyphicref20_Path_v1.f at e
  refine cal_of (c := c34) (N := 60) Try.func34 rfl rfl (by kernel_rfl) (rs := [.t 4]) (by kernel_rfl) (Nat.le_of_ble_eq_true rfl) ?_
  unfold c34
  refine w_seq ?_
  refine w_reg fun all => ?_
  refine t_a (.box rfl rfl rfl) fun b446 fb446 sb446 => ?_
  refine t_qz 1 [1, 2] (σ' := [(1, .bool shut1), (2, .pointer (some ⟨b446, 0, none⟩))]) (by kernel_rfl) ?_
  refine t_end ?_
  show W _ _ _ _ _ _ _
  refine w_seq ?_
  refine w_reg fun all => ?_
  refine t_qz 1 [1, 2, 5] (σ' := [(1, .bool shut1), (2, .pointer (some ⟨b446, 0, none⟩)), (5, .slice none 0 0)]) (by kernel_rfl) ?_
  refine t_end ?_
  show W _ _ _ _ _ _ _
  refine w_seq ?_
  refine w_reg fun all => ?_
  refine t_qz 1 [1, 2, 5, 13] (σ' := [(1, .bool shut1), (2, .pointer (some ⟨b446, 0, none⟩)), (5, .slice none 0 0), (13, .pointer (some ⟨b446, 0, none⟩))]) (by kernel_rfl) ?_
  refine t_v (.ldn rfl rfl rfl (.at 0 rfl rfl)) ?_
  refine t_a (.new rfl rfl) fun b447 fb447 sb447 => ?_
  refine t_sti 0 (cs := [.int .i64 p0_0, .int .i64 p0_1]) rfl rfl rfl rfl rfl rfl rfl rfl rfl ?_
  refine t_keep [1, 2, 5, 6] (σ' := [(1, .bool shut1), (2, .pointer (some ⟨b446, 0, none⟩)), (5, .slice none 0 0), (6, .pointer (some ⟨b447, 0, none⟩))]) (by kernel_rfl) ?_
  refine t_end ?_
  show W _ _ _ _ _ _ _
  obtain ⟨⟨y512, x513, x514⟩, e449, e⟩ := bind_of e
  try dsimp only at e
  refine w_cut [1, 2, 5, 6] (fun σ_ H_ S_ => ∃ (a511 : Option Nat) (na511 : Nat), [(1, .bool shut1), (2, .pointer (some ⟨b446, 0, none⟩)), (5, .slice (ad a511) y512.length (na511 / 4)), (6, .pointer (some ⟨b447, 0, none⟩))] = σ_ ∧ ([⟨b447, [.int .i64 x513, .int .i64 x514], 2⟩, ⟨b446, [.int .i64 p0_0, .int .i64 p0_1, .slice a_p0_2 p0_2.length c_p0_2, .bool p0_3], 4⟩, ⟨a511, encL E_i644 y512, na511⟩] : List Own) = H_ ∧ S = S_) ?_ ?_
  · show W _ _ _ _ _ _ _
    refine w_seq ?_
    refine w_reg fun all => ?_
    refine t_qz 1 [1, 2, 5, 6, 7] (σ' := [(1, .bool shut1), (2, .pointer (some ⟨b446, 0, none⟩)), (5, .slice none 0 0), (6, .pointer (some ⟨b447, 0, none⟩)), (7, .int .i64 0)]) (by kernel_rfl) ?_
    refine t_end ?_
    show W _ _ _ _ _ _ _
    refine w_block ?_
    refine w_vs VS.vac ?_
    refine w_kp [1, 2, 5, 6, 7] (σ' := [(1, .bool shut1), (2, .pointer (some ⟨b446, 0, none⟩)), (5, .slice (ad none) ([] : List (Int × Int × Int × Int)).length (0 / 4)), (6, .pointer (some ⟨b447, 0, none⟩)), (7, .int .i64 0)]) (by kernel_rfl) ?_
    refine w_loop (fun n_ σ_ H_ S_ => ∃ (x451 : Int) (y453 : List (Int × Int × Int × Int)) (x454 : Int) (x455 : Int), ∃ (a452 : Option Nat) (na452 : Nat), [(1, .bool shut1), (2, .pointer (some ⟨b446, 0, none⟩)), (5, .slice (ad a452) y453.length (na452 / 4)), (6, .pointer (some ⟨b447, 0, none⟩)), (7, .int .i64 x451)] = σ_ ∧ ([⟨a452, encL E_i644 y453, na452⟩, ⟨b447, [.int .i64 x454, .int .i64 x455], 2⟩, ⟨b446, [.int .i64 p0_0, .int .i64 p0_1, .slice a_p0_2 p0_2.length c_p0_2, .bool p0_3], 4⟩] : List Own) = H_ ∧ S = S_ ∧ glyphicref20_Path_v1.l0 n_ p0_2 x451 y453 x454 x455 = some (y512, x513, x514)) _ ⟨0, ([] : List (Int × Int × Int × Int)), p0_0, p0_1, none, 0, rfl, rfl, rfl, e449⟩ ?_
    rintro n510 σ_ H_ S_ ⟨x451, y453, x454, x455, a452, na452, rfl, rfl, rfl, e449⟩
    cases n510 with
    | zero => rw [glyphicref20_Path_v1.l0.eq_1] at e449; cases e449
    | succ k_ =>
      rw [glyphicref20_Path_v1.l0.eq_2] at e449
      refine w_seq ?_
      refine w_seq ?_
      refine w_reg fun all => ?_
      refine t_qz 2 [1, 2, 5, 6, 7, 15, 16] (σ' := [(1, .bool shut1), (2, .pointer (some ⟨b446, 0, none⟩)), (5, .slice (ad a452) y453.length (na452 / 4)), (6, .pointer (some ⟨b447, 0, none⟩)), (7, .int .i64 x451), (15, .int .i64 x451), (16, .pointer (some ⟨b446, 2, none⟩))]) (by kernel_rfl) ?_
      refine t_v (.ld1 rfl rfl rfl (.at 2 rfl rfl)) ?_
      by_cases c456 : x451 < (p0_2.length : Int)
      · rw [if_pos c456] at e449
        have c456b : (decide (x451 < (p0_2.length : Int))) = true := decide_eq_true c456
        refine t_qz 1 [1, 2, 5, 6, 7, 15, 18] (σ' := [(1, .bool shut1), (2, .pointer (some ⟨b446, 0, none⟩)), (5, .slice (ad a452) y453.length (na452 / 4)), (6, .pointer (some ⟨b447, 0, none⟩)), (7, .int .i64 x451), (15, .int .i64 x451), (18, .int .i64 (p0_2.length : Int))]) (by kernel_rfl) ?_
        refine t_v (dv_quiet rfl (congrArg (fun t => some (Value.bool t)) c456b)) ?_
        refine t_keep [1, 2, 5, 6, 7, 19] (σ' := [(1, .bool shut1), (2, .pointer (some ⟨b446, 0, none⟩)), (5, .slice (ad a452) y453.length (na452 / 4)), (6, .pointer (some ⟨b447, 0, none⟩)), (7, .int .i64 x451), (19, .bool true)]) (by kernel_rfl) ?_
        refine t_end ?_
        show W _ _ _ _ _ _ _
        refine w_cond rfl (fun _ => ?_) (fun c_ => by cases c_)
        show W _ _ _ _ _ _ _
        refine w_skip ?_
        show W _ _ _ _ _ _ _
        obtain ⟨⟨y506, x507, x508⟩, e458, e449⟩ := bind_of e449
        try dsimp only at e449
        refine w_cut [1, 2, 5, 6, 7] (fun σ_ H_ S_ => ∃ (a505 : Option Nat) (na505 : Nat), [(1, .bool shut1), (2, .pointer (some ⟨b446, 0, none⟩)), (5, .slice (ad a505) y506.length (na505 / 4)), (6, .pointer (some ⟨b447, 0, none⟩)), (7, .int .i64 x451)] = σ_ ∧ ([⟨b447, [.int .i64 x507, .int .i64 x508], 2⟩, ⟨b446, [.int .i64 p0_0, .int .i64 p0_1, .slice a_p0_2 p0_2.length c_p0_2, .bool p0_3], 4⟩, ⟨a505, encL E_i644 y506, na505⟩] : List Own) = H_ ∧ S = S_) ?_ ?_
        · show W _ _ _ _ _ _ _
          refine w_block ?_
          refine w_seq ?_
          refine w_reg fun all => ?_
          refine t_qz 1 [1, 2, 5, 6, 7, 22] (σ' := [(1, .bool shut1), (2, .pointer (some ⟨b446, 0, none⟩)), (5, .slice (ad a452) y453.length (na452 / 4)), (6, .pointer (some ⟨b447, 0, none⟩)), (7, .int .i64 x451), (22, .pointer (some ⟨b446, 2, none⟩))]) (by kernel_rfl) ?_
          refine t_v (.ld1 rfl rfl rfl (.at 2 rfl rfl)) ?_
          obtain ⟨⟨x460, x461, x462, x463, x464, x465, x466⟩, hx467, e458⟩ := bind_of e458
          try dsimp only at e458
          obtain ⟨lb468, lo469, ll470, la471, lS472, lv473, lz474, lu475⟩ := sle_get (E := E_i647) h_p0_2 hx467
          refine t_qz 1 [1, 2, 5, 6, 7, 23, 24] (σ' := [(1, .bool shut1), (2, .pointer (some ⟨b446, 0, none⟩)), (5, .slice (ad a452) y453.length (na452 / 4)), (6, .pointer (some ⟨b447, 0, none⟩)), (7, .int .i64 x451), (23, .slice a_p0_2 p0_2.length c_p0_2), (24, .int .i64 x451)]) (by kernel_rfl) ?_
          refine t_v (.quiet rfl (ixs_sle rfl rfl la471 lz474 lu475)) ?_
          refine t_v (.ldn (vs := [.int .i64 x460, .int .i64 x461, .int .i64 x462, .int .i64 x463, .int .i64 x464, .int .i64 x465, .int .i64 x466]) rfl rfl rfl (.sealed lS472 (subl_sub lv473 (by kernel_rfl)))) ?_
          refine t_a (.new rfl rfl) fun b476 fb476 sb476 => ?_
          refine t_sti 0 (cs := [.int .i64 x460, .int .i64 x461, .int .i64 x462, .int .i64 x463, .int .i64 x464, .int .i64 x465, .int .i64 x466]) rfl rfl rfl rfl rfl rfl rfl rfl rfl ?_
          refine t_keep [1, 2, 5, 6, 7, 8] (σ' := [(1, .bool shut1), (2, .pointer (some ⟨b446, 0, none⟩)), (5, .slice (ad a452) y453.length (na452 / 4)), (6, .pointer (some ⟨b447, 0, none⟩)), (7, .int .i64 x451), (8, .pointer (some ⟨b476, 0, none⟩))]) (by kernel_rfl) ?_
          refine t_end ?_
          show W _ _ _ _ _ _ _
          refine w_seq ?_
          refine w_reg fun all => ?_
          refine t_v (.ldn rfl rfl rfl (.at 2 rfl rfl)) ?_
          refine t_v (.ldn rfl rfl rfl (.at 0 rfl rfl)) ?_
          obtain ⟨t477, h478, e458⟩ := bind_of e458
          refine t_v (.call (vs := [.agg #[.int .i64 x454, .int .i64 x455], .agg #[.int .i64 x460, .int .i64 x461, .int .i64 x462, .int .i64 x463, .int .i64 x464, .int .i64 x465, .int .i64 x466]]) rfl rfl (by kernel_rfl) (glyphicref20_Count.ok h478)) ?_
          refine t_qz 1 [1, 2, 5, 6, 7, 8, 9] (σ' := [(1, .bool shut1), (2, .pointer (some ⟨b446, 0, none⟩)), (5, .slice (ad a452) y453.length (na452 / 4)), (6, .pointer (some ⟨b447, 0, none⟩)), (7, .int .i64 x451), (8, .pointer (some ⟨b476, 0, none⟩)), (9, .int .i64 t477)]) (by kernel_rfl) ?_
          refine t_end ?_
          show W _ _ _ _ _ _ _
          refine w_seq ?_
          refine w_reg fun all => ?_
          refine t_v (.ldn rfl rfl rfl (.at 2 rfl rfl)) ?_
          refine t_a (.new rfl rfl) fun b479 fb479 sb479 => ?_
          refine t_sti 0 (cs := [.int .i64 x454, .int .i64 x455]) rfl rfl rfl rfl rfl rfl rfl rfl rfl ?_
          refine t_keep [1, 2, 5, 6, 7, 8, 9, 10] (σ' := [(1, .bool shut1), (2, .pointer (some ⟨b446, 0, none⟩)), (5, .slice (ad a452) y453.length (na452 / 4)), (6, .pointer (some ⟨b447, 0, none⟩)), (7, .int .i64 x451), (8, .pointer (some ⟨b476, 0, none⟩)), (9, .int .i64 t477), (10, .pointer (some ⟨b479, 0, none⟩))]) (by kernel_rfl) ?_
          refine t_end ?_
          show W _ _ _ _ _ _ _
          obtain ⟨⟨y499, x500, x501⟩, e481, e458⟩ := bind_of e458
          try dsimp only at e458
          refine w_cut [1, 2, 5, 6, 7, 8] (fun σ_ H_ S_ => ∃ (a498 : Option Nat) (na498 : Nat), [(1, .bool shut1), (2, .pointer (some ⟨b446, 0, none⟩)), (5, .slice (ad a498) y499.length (na498 / 4)), (6, .pointer (some ⟨b447, 0, none⟩)), (7, .int .i64 x451), (8, .pointer (some ⟨b476, 0, none⟩))] = σ_ ∧ ([⟨b479, [.int .i64 x500, .int .i64 x501], 2⟩, ⟨b476, [.int .i64 x460, .int .i64 x461, .int .i64 x462, .int .i64 x463, .int .i64 x464, .int .i64 x465, .int .i64 x466], 7⟩, ⟨b447, [.int .i64 x454, .int .i64 x455], 2⟩, ⟨b446, [.int .i64 p0_0, .int .i64 p0_1, .slice a_p0_2 p0_2.length c_p0_2, .bool p0_3], 4⟩, ⟨a498, encL E_i644 y499, na498⟩] : List Own) = H_ ∧ S = S_) ?_ ?_
          · show W _ _ _ _ _ _ _
            refine w_seq ?_
            refine w_reg fun all => ?_
            refine t_qz 1 [1, 2, 5, 6, 7, 8, 9, 10, 11] (σ' := [(1, .bool shut1), (2, .pointer (some ⟨b446, 0, none⟩)), (5, .slice (ad a452) y453.length (na452 / 4)), (6, .pointer (some ⟨b447, 0, none⟩)), (7, .int .i64 x451), (8, .pointer (some ⟨b476, 0, none⟩)), (9, .int .i64 t477), (10, .pointer (some ⟨b479, 0, none⟩)), (11, .int .i64 1)]) (by kernel_rfl) ?_
            refine t_end ?_
            show W _ _ _ _ _ _ _
            refine w_block ?_
            refine w_kp [1, 2, 5, 6, 7, 8, 9, 10, 11] (σ' := [(1, .bool shut1), (2, .pointer (some ⟨b446, 0, none⟩)), (5, .slice (ad a452) y453.length (na452 / 4)), (6, .pointer (some ⟨b447, 0, none⟩)), (7, .int .i64 x451), (8, .pointer (some ⟨b476, 0, none⟩)), (9, .int .i64 t477), (10, .pointer (some ⟨b479, 0, none⟩)), (11, .int .i64 1)]) (by kernel_rfl) ?_
            refine w_loop (fun n_ σ_ H_ S_ => ∃ (x483 : Int) (x484 : Int) (x485 : Int) (y487 : List (Int × Int × Int × Int)), ∃ (a486 : Option Nat) (na486 : Nat), [(1, .bool shut1), (2, .pointer (some ⟨b446, 0, none⟩)), (5, .slice (ad a486) y487.length (na486 / 4)), (6, .pointer (some ⟨b447, 0, none⟩)), (7, .int .i64 x451), (8, .pointer (some ⟨b476, 0, none⟩)), (9, .int .i64 t477), (10, .pointer (some ⟨b479, 0, none⟩)), (11, .int .i64 x483)] = σ_ ∧ ([⟨b479, [.int .i64 x484, .int .i64 x485], 2⟩, ⟨b476, [.int .i64 x460, .int .i64 x461, .int .i64 x462, .int .i64 x463, .int .i64 x464, .int .i64 x465, .int .i64 x466], 7⟩, ⟨a486, encL E_i644 y487, na486⟩, ⟨b447, [.int .i64 x454, .int .i64 x455], 2⟩, ⟨b446, [.int .i64 p0_0, .int .i64 p0_1, .slice a_p0_2 p0_2.length c_p0_2, .bool p0_3], 4⟩] : List Own) = H_ ∧ S = S_ ∧ glyphicref20_Path_v1.l1 n_ x454 x455 x460 x461 x462 x463 x464 x465 x466 t477 x483 x484 x485 y487 = some (y499, x500, x501)) _ ⟨1, x454, x455, y453, a452, na452, rfl, rfl, rfl, e481⟩ ?_
            rintro n497 σ_ H_ S_ ⟨x483, x484, x485, y487, a486, na486, rfl, rfl, rfl, e481⟩
            cases n497 with
            | zero => rw [glyphicref20_Path_v1.l1.eq_1] at e481; cases e481
            | succ k_ =>
              rw [glyphicref20_Path_v1.l1.eq_2] at e481
              refine w_seq ?_
              refine w_seq ?_
              refine w_reg fun all => ?_
              by_cases c488 : x483 ≤ t477
              · rw [if_pos c488] at e481
                have c488b : (decide (x483 ≤ t477)) = true := decide_eq_true c488
                refine t_qz 2 [1, 2, 5, 6, 7, 8, 9, 10, 11, 31, 32] (σ' := [(1, .bool shut1), (2, .pointer (some ⟨b446, 0, none⟩)), (5, .slice (ad a486) y487.length (na486 / 4)), (6, .pointer (some ⟨b447, 0, none⟩)), (7, .int .i64 x451), (8, .pointer (some ⟨b476, 0, none⟩)), (9, .int .i64 t477), (10, .pointer (some ⟨b479, 0, none⟩)), (11, .int .i64 x483), (31, .int .i64 x483), (32, .int .i64 t477)]) (by kernel_rfl) ?_
                refine t_v (dv_quiet rfl (congrArg (fun t => some (Value.bool t)) c488b)) ?_
                refine t_keep [1, 2, 5, 6, 7, 8, 9, 10, 11, 33] (σ' := [(1, .bool shut1), (2, .pointer (some ⟨b446, 0, none⟩)), (5, .slice (ad a486) y487.length (na486 / 4)), (6, .pointer (some ⟨b447, 0, none⟩)), (7, .int .i64 x451), (8, .pointer (some ⟨b476, 0, none⟩)), (9, .int .i64 t477), (10, .pointer (some ⟨b479, 0, none⟩)), (11, .int .i64 x483), (33, .bool true)]) (by kernel_rfl) ?_
                refine t_end ?_
                show W _ _ _ _ _ _ _
                refine w_cond rfl (fun _ => ?_) (fun c_ => by cases c_)
                show W _ _ _ _ _ _ _
                refine w_skip ?_
                show W _ _ _ _ _ _ _
                refine w_seq ?_
                refine w_block ?_
                refine w_seq ?_
                refine w_reg fun all => ?_
                refine t_v (.ldn rfl rfl rfl (.at 3 rfl rfl)) ?_
                refine t_v (.ldn rfl rfl rfl (.at 1 rfl rfl)) ?_
                obtain ⟨⟨t489, t490⟩, h491, e481⟩ := bind_of e481
                try dsimp only at e481
                refine t_qz 2 [1, 2, 5, 6, 7, 8, 9, 10, 11, 36, 37, 38, 39] (σ' := [(1, .bool shut1), (2, .pointer (some ⟨b446, 0, none⟩)), (5, .slice (ad a486) y487.length (na486 / 4)), (6, .pointer (some ⟨b447, 0, none⟩)), (7, .int .i64 x451), (8, .pointer (some ⟨b476, 0, none⟩)), (9, .int .i64 t477), (10, .pointer (some ⟨b479, 0, none⟩)), (11, .int .i64 x483), (36, .agg #[.int .i64 x454, .int .i64 x455]), (37, .agg #[.int .i64 x460, .int .i64 x461, .int .i64 x462, .int .i64 x463, .int .i64 x464, .int .i64 x465, .int .i64 x466]), (38, .int .i64 x483), (39, .int .i64 t477)]) (by kernel_rfl) ?_
                refine t_v (.call (vs := [.agg #[.int .i64 x454, .int .i64 x455], .agg #[.int .i64 x460, .int .i64 x461, .int .i64 x462, .int .i64 x463, .int .i64 x464, .int .i64 x465, .int .i64 x466], .int .i64 x483, .int .i64 t477]) rfl rfl (by kernel_rfl) (glyphicref20_Point.ok h491)) ?_
                refine t_a (.new rfl rfl) fun b492 fb492 sb492 => ?_
                refine t_sti 0 (cs := [.int .i64 t489, .int .i64 t490]) rfl rfl rfl rfl rfl rfl rfl rfl rfl ?_
                refine t_keep [1, 2, 5, 6, 7, 8, 9, 10, 11, 12] (σ' := [(1, .bool shut1), (2, .pointer (some ⟨b446, 0, none⟩)), (5, .slice (ad a486) y487.length (na486 / 4)), (6, .pointer (some ⟨b447, 0, none⟩)), (7, .int .i64 x451), (8, .pointer (some ⟨b476, 0, none⟩)), (9, .int .i64 t477), (10, .pointer (some ⟨b479, 0, none⟩)), (11, .int .i64 x483), (12, .pointer (some ⟨b492, 0, none⟩))]) (by kernel_rfl) ?_
                refine t_end ?_
                show W _ _ _ _ _ _ _
                refine w_seq ?_
                refine w_reg fun all => ?_
                refine t_qz 1 [1, 2, 6, 7, 8, 9, 10, 11, 12, 41] (σ' := [(1, .bool shut1), (2, .pointer (some ⟨b446, 0, none⟩)), (6, .pointer (some ⟨b447, 0, none⟩)), (7, .int .i64 x451), (8, .pointer (some ⟨b476, 0, none⟩)), (9, .int .i64 t477), (10, .pointer (some ⟨b479, 0, none⟩)), (11, .int .i64 x483), (12, .pointer (some ⟨b492, 0, none⟩)), (41, .slice (ad a486) y487.length (na486 / 4))]) (by kernel_rfl) ?_
                refine t_v (.ldn rfl rfl rfl (.at 1 rfl rfl)) ?_
                refine t_v (.ldn rfl rfl rfl (.at 0 rfl rfl)) ?_
                obtain ⟨t493, h494, e481⟩ := bind_of e481
                refine t_call (vs := [.slice (ad a486) y487.length (na486 / 4), .agg #[.int .i64 x484, .int .i64 x485], .agg #[.int .i64 t489, .int .i64 t490]]) (H1 := ([⟨a486, encL E_i644 y487, na486⟩] : List Own)) (F := ([⟨b492, [.int .i64 t489, .int .i64 t490], 2⟩, ⟨b479, [.int .i64 x484, .int .i64 x485], 2⟩, ⟨b476, [.int .i64 x460, .int .i64 x461, .int .i64 x462, .int .i64 x463, .int .i64 x464, .int .i64 x465, .int .i64 x466], 7⟩, ⟨b447, [.int .i64 x454, .int .i64 x455], 2⟩, ⟨b446, [.int .i64 p0_0, .int .i64 p0_1, .slice a_p0_2 p0_2.length c_p0_2, .bool p0_3], 4⟩] : List Own)) rfl rfl (by kernel_rfl) (sel_perm (is := [3]) (by kernel_rfl)) (glyphicref20_edge_v1.ok h494) ?_
                rintro _ _ S_ ⟨N495, nN495, rfl, rfl, hS_⟩
                obtain rfl := hS_.symm
                refine t_qz 1 [1, 2, 5, 6, 7, 8, 9, 10, 11, 12] (σ' := [(1, .bool shut1), (2, .pointer (some ⟨b446, 0, none⟩)), (5, .slice (ad N495) t493.length (nN495 / 4)), (6, .pointer (some ⟨b447, 0, none⟩)), (7, .int .i64 x451), (8, .pointer (some ⟨b476, 0, none⟩)), (9, .int .i64 t477), (10, .pointer (some ⟨b479, 0, none⟩)), (11, .int .i64 x483), (12, .pointer (some ⟨b492, 0, none⟩))]) (by kernel_rfl) ?_
                refine t_end ?_
                show W _ _ _ _ _ _ _
                refine w_reg fun all => ?_
                refine t_v (.ldn rfl rfl rfl (.at 1 rfl rfl)) ?_
                refine t_sti 2 (cs := [.int .i64 t489, .int .i64 t490]) rfl rfl rfl rfl rfl rfl rfl rfl rfl ?_
                refine t_keep [1, 2, 5, 6, 7, 8, 9, 10, 11] (σ' := [(1, .bool shut1), (2, .pointer (some ⟨b446, 0, none⟩)), (5, .slice (ad N495) t493.length (nN495 / 4)), (6, .pointer (some ⟨b447, 0, none⟩)), (7, .int .i64 x451), (8, .pointer (some ⟨b476, 0, none⟩)), (9, .int .i64 t477), (10, .pointer (some ⟨b479, 0, none⟩)), (11, .int .i64 x483)]) (by kernel_rfl) ?_
                refine t_end ?_
                show W _ _ _ _ _ _ _
                refine w_reg fun all => ?_
                refine t_qz 3 [1, 2, 5, 6, 7, 8, 9, 10, 11] (σ' := [(1, .bool shut1), (2, .pointer (some ⟨b446, 0, none⟩)), (5, .slice (ad N495) t493.length (nN495 / 4)), (6, .pointer (some ⟨b447, 0, none⟩)), (7, .int .i64 x451), (8, .pointer (some ⟨b476, 0, none⟩)), (9, .int .i64 t477), (10, .pointer (some ⟨b479, 0, none⟩)), (11, .int .i64 (wr64 (x483 + 1)))]) (by kernel_rfl) ?_
                refine t_end ?_
                exact ⟨k_, Nat.lt_succ_self _, [(1, .bool shut1), (2, .pointer (some ⟨b446, 0, none⟩)), (5, .slice (ad N495) t493.length (nN495 / 4)), (6, .pointer (some ⟨b447, 0, none⟩)), (7, .int .i64 x451), (8, .pointer (some ⟨b476, 0, none⟩)), (9, .int .i64 t477), (10, .pointer (some ⟨b479, 0, none⟩)), (11, .int .i64 (wr64 (x483 + 1)))], ([⟨b479, [.int .i64 t489, .int .i64 t490], 2⟩, ⟨b476, [.int .i64 x460, .int .i64 x461, .int .i64 x462, .int .i64 x463, .int .i64 x464, .int .i64 x465, .int .i64 x466], 7⟩, ⟨N495, encL E_i644 t493, nN495⟩, ⟨b447, [.int .i64 x454, .int .i64 x455], 2⟩, ⟨b446, [.int .i64 p0_0, .int .i64 p0_1, .slice a_p0_2 p0_2.length c_p0_2, .bool p0_3], 4⟩] : List Own), S, keep_sub [1, 2, 5, 6, 7, 8, 9, 10, 11] (by kernel_rfl), VS.sel [2, 2, 0, 1, 1] (by kernel_rfl), wr64 (x483 + 1), t489, t490, t493, N495, nN495, rfl, rfl, rfl, e481⟩
              · rw [if_neg c488] at e481
                have c488b : (decide (x483 ≤ t477)) = false := decide_eq_false c488
                refine t_qz 2 [1, 2, 5, 6, 7, 8, 9, 10, 11, 31, 32] (σ' := [(1, .bool shut1), (2, .pointer (some ⟨b446, 0, none⟩)), (5, .slice (ad a486) y487.length (na486 / 4)), (6, .pointer (some ⟨b447, 0, none⟩)), (7, .int .i64 x451), (8, .pointer (some ⟨b476, 0, none⟩)), (9, .int .i64 t477), (10, .pointer (some ⟨b479, 0, none⟩)), (11, .int .i64 x483), (31, .int .i64 x483), (32, .int .i64 t477)]) (by kernel_rfl) ?_
                refine t_v (dv_quiet rfl (congrArg (fun t => some (Value.bool t)) c488b)) ?_
                refine t_keep [1, 2, 5, 6, 7, 8, 9, 10, 11, 33] (σ' := [(1, .bool shut1), (2, .pointer (some ⟨b446, 0, none⟩)), (5, .slice (ad a486) y487.length (na486 / 4)), (6, .pointer (some ⟨b447, 0, none⟩)), (7, .int .i64 x451), (8, .pointer (some ⟨b476, 0, none⟩)), (9, .int .i64 t477), (10, .pointer (some ⟨b479, 0, none⟩)), (11, .int .i64 x483), (33, .bool false)]) (by kernel_rfl) ?_
                refine t_end ?_
                show W _ _ _ _ _ _ _
                refine w_cond rfl (fun c_ => by cases c_) (fun _ => ?_)
                show W _ _ _ _ _ _ _
                refine w_exit ?_
                simp only [Option.some.injEq, Prod.mk.injEq] at e481
                obtain ⟨rfl, rfl, rfl⟩ := e481
                exact ⟨([⟨b479, [.int .i64 x484, .int .i64 x485], 2⟩, ⟨b476, [.int .i64 x460, .int .i64 x461, .int .i64 x462, .int .i64 x463, .int .i64 x464, .int .i64 x465, .int .i64 x466], 7⟩, ⟨b447, [.int .i64 x454, .int .i64 x455], 2⟩, ⟨b446, [.int .i64 p0_0, .int .i64 p0_1, .slice a_p0_2 p0_2.length c_p0_2, .bool p0_3], 4⟩, ⟨a486, encL E_i644 y487, na486⟩] : List Own), S, VS.sel [0, 0, 1, 1, 0] (by kernel_rfl), a486, na486, by kernel_rfl, rfl, rfl⟩
          · rintro σ_ H_ S_ ⟨a498, na498, rfl, rfl, rfl⟩
            refine w_reg fun all => ?_
            refine t_v (.ldn rfl rfl rfl (.at 2 rfl rfl)) ?_
            refine t_v (.ldn rfl rfl rfl (.at 1 rfl rfl)) ?_
            obtain ⟨⟨t502, t503⟩, h504, e458⟩ := bind_of e458
            try dsimp only at e458
            refine t_v (.call (vs := [.agg #[.int .i64 x454, .int .i64 x455], .agg #[.int .i64 x460, .int .i64 x461, .int .i64 x462, .int .i64 x463, .int .i64 x464, .int .i64 x465, .int .i64 x466]]) rfl rfl (by kernel_rfl) (glyphicref20_end.ok h504)) ?_
            refine t_sti 2 (cs := [.int .i64 t502, .int .i64 t503]) rfl rfl rfl rfl rfl rfl rfl rfl rfl ?_
            refine t_keep [1, 2, 5, 6, 7] (σ' := [(1, .bool shut1), (2, .pointer (some ⟨b446, 0, none⟩)), (5, .slice (ad a498) y499.length (na498 / 4)), (6, .pointer (some ⟨b447, 0, none⟩)), (7, .int .i64 x451)]) (by kernel_rfl) ?_
            refine t_end ?_
            simp only [Option.some.injEq, Prod.mk.injEq] at e458
            obtain ⟨rfl, rfl, rfl⟩ := e458
            exact ⟨([⟨b447, [.int .i64 t502, .int .i64 t503], 2⟩, ⟨b446, [.int .i64 p0_0, .int .i64 p0_1, .slice a_p0_2 p0_2.length c_p0_2, .bool p0_3], 4⟩, ⟨a498, encL E_i644 y499, na498⟩] : List Own), S, VS.sel [2, 2, 2] (by kernel_rfl), a498, na498, by kernel_rfl, rfl, rfl⟩
        · rintro σ_ H_ S_ ⟨a505, na505, rfl, rfl, rfl⟩
          refine w_reg fun all => ?_
          refine t_qz 3 [1, 2, 5, 6, 7] (σ' := [(1, .bool shut1), (2, .pointer (some ⟨b446, 0, none⟩)), (5, .slice (ad a505) y506.length (na505 / 4)), (6, .pointer (some ⟨b447, 0, none⟩)), (7, .int .i64 (wr64 (x451 + 1)))]) (by kernel_rfl) ?_
          refine t_end ?_
          exact ⟨k_, Nat.lt_succ_self _, [(1, .bool shut1), (2, .pointer (some ⟨b446, 0, none⟩)), (5, .slice (ad a505) y506.length (na505 / 4)), (6, .pointer (some ⟨b447, 0, none⟩)), (7, .int .i64 (wr64 (x451 + 1)))], ([⟨a505, encL E_i644 y506, na505⟩, ⟨b447, [.int .i64 x507, .int .i64 x508], 2⟩, ⟨b446, [.int .i64 p0_0, .int .i64 p0_1, .slice a_p0_2 p0_2.length c_p0_2, .bool p0_3], 4⟩] : List Own), S, keep_sub [1, 2, 5, 6, 7] (by kernel_rfl), VS.sel [2, 0, 0] (by kernel_rfl), wr64 (x451 + 1), y506, x507, x508, a505, na505, rfl, rfl, rfl, e449⟩
      · rw [if_neg c456] at e449
        have c456b : (decide (x451 < (p0_2.length : Int))) = false := decide_eq_false c456
        refine t_qz 1 [1, 2, 5, 6, 7, 15, 18] (σ' := [(1, .bool shut1), (2, .pointer (some ⟨b446, 0, none⟩)), (5, .slice (ad a452) y453.length (na452 / 4)), (6, .pointer (some ⟨b447, 0, none⟩)), (7, .int .i64 x451), (15, .int .i64 x451), (18, .int .i64 (p0_2.length : Int))]) (by kernel_rfl) ?_
        refine t_v (dv_quiet rfl (congrArg (fun t => some (Value.bool t)) c456b)) ?_
        refine t_keep [1, 2, 5, 6, 7, 19] (σ' := [(1, .bool shut1), (2, .pointer (some ⟨b446, 0, none⟩)), (5, .slice (ad a452) y453.length (na452 / 4)), (6, .pointer (some ⟨b447, 0, none⟩)), (7, .int .i64 x451), (19, .bool false)]) (by kernel_rfl) ?_
        refine t_end ?_
        show W _ _ _ _ _ _ _
        refine w_cond rfl (fun c_ => by cases c_) (fun _ => ?_)
        show W _ _ _ _ _ _ _
        refine w_exit ?_
        simp only [Option.some.injEq, Prod.mk.injEq] at e449
        obtain ⟨rfl, rfl, rfl⟩ := e449
        exact ⟨([⟨b447, [.int .i64 x454, .int .i64 x455], 2⟩, ⟨b446, [.int .i64 p0_0, .int .i64 p0_1, .slice a_p0_2 p0_2.length c_p0_2, .bool p0_3], 4⟩, ⟨a452, encL E_i644 y453, na452⟩] : List Own), S, VS.sel [1, 1, 0] (by kernel_rfl), a452, na452, by kernel_rfl, rfl, rfl⟩
  · rintro σ_ H_ S_ ⟨a511, na511, rfl, rfl, rfl⟩
    refine w_seq ?_
    refine w_seq ?_
    refine w_reg fun all => ?_
    by_cases c515 : shut1 = true
    · rw [if_pos c515] at e
      have c515b : shut1 = true := c515
      refine t_v (dv_quiet rfl (congrArg (fun t => some (Value.bool t)) c515b)) ?_
      refine t_qz 4 [2, 5, 6, 53] (σ' := [(2, .pointer (some ⟨b446, 0, none⟩)), (5, .slice (ad a511) y512.length (na511 / 4)), (6, .pointer (some ⟨b447, 0, none⟩)), (53, .bool true)]) (by kernel_rfl) ?_
      refine t_end ?_
      show W _ _ _ _ _ _ _
      refine w_cond rfl (fun _ => ?_) (fun c_ => by cases c_)
      show W _ _ _ _ _ _ _
      refine w_reg fun all => ?_
      refine t_qz 1 [2, 6, 54] (σ' := [(2, .pointer (some ⟨b446, 0, none⟩)), (6, .pointer (some ⟨b447, 0, none⟩)), (54, .slice (ad a511) y512.length (na511 / 4))]) (by kernel_rfl) ?_
      refine t_v (.ldn rfl rfl rfl (.at 0 rfl rfl)) ?_
      refine t_qz 1 [54, 55, 56] (σ' := [(54, .slice (ad a511) y512.length (na511 / 4)), (55, .agg #[.int .i64 x513, .int .i64 x514]), (56, .pointer (some ⟨b446, 0, none⟩))]) (by kernel_rfl) ?_
      refine t_v (.ldn rfl rfl rfl (.at 1 rfl rfl)) ?_
      obtain ⟨t516, h517, e⟩ := bind_of e
      refine t_call (vs := [.slice (ad a511) y512.length (na511 / 4), .agg #[.int .i64 x513, .int .i64 x514], .agg #[.int .i64 p0_0, .int .i64 p0_1]]) (H1 := ([⟨a511, encL E_i644 y512, na511⟩] : List Own)) (F := ([⟨b447, [.int .i64 x513, .int .i64 x514], 2⟩, ⟨b446, [.int .i64 p0_0, .int .i64 p0_1, .slice a_p0_2 p0_2.length c_p0_2, .bool p0_3], 4⟩] : List Own)) rfl rfl (by kernel_rfl) (sel_perm (is := [2]) (by kernel_rfl)) (glyphicref20_edge_v1.ok h517) ?_
      rintro _ _ S_ ⟨N518, nN518, rfl, rfl, hS_⟩
      obtain rfl := hS_.symm
      refine t_qz 1 [5] (σ' := [(5, .slice (ad N518) t516.length (nN518 / 4))]) (by kernel_rfl) ?_
      refine t_end ?_
      show W _ _ _ _ _ _ _
      refine w_seq ?_
      refine w_reg fun all => ?_
      refine t_qz 2 [4] (σ' := [(4, .slice (ad N518) t516.length (nN518 / 4))]) (by kernel_rfl) ?_
      refine t_end ?_
      show W _ _ _ _ _ _ _
      refine w_ret ?_
      obtain rfl := Option.some.inj e
      exact ⟨[.slice (ad N518) t516.length (nN518 / 4)], ([⟨N518, encL E_i644 t516, nN518⟩] : List Own), S, ⟨rfl, trivial⟩, VS.sel [0] (by kernel_rfl), N518, nN518, rfl, rfl, rfl⟩
    · rw [if_neg c515] at e
      have c515b : shut1 = false := Bool.eq_false_iff.mpr c515
      refine t_v (dv_quiet rfl (congrArg (fun t => some (Value.bool t)) c515b)) ?_
      by_cases c519 : p0_3 = true
      · rw [if_pos c519] at e
        have c519b : p0_3 = true := c519
        refine t_qz 2 [2, 5, 6, 50, 51] (σ' := [(2, .pointer (some ⟨b446, 0, none⟩)), (5, .slice (ad a511) y512.length (na511 / 4)), (6, .pointer (some ⟨b447, 0, none⟩)), (50, .bool false), (51, .pointer (some ⟨b446, 3, none⟩))]) (by kernel_rfl) ?_
        refine t_v (dv_eq (congrArg (fun t => Value.bool t) c519b) (.ld1 rfl rfl rfl (.at 1 rfl rfl))) ?_
        refine t_qz 1 [2, 5, 6, 53] (σ' := [(2, .pointer (some ⟨b446, 0, none⟩)), (5, .slice (ad a511) y512.length (na511 / 4)), (6, .pointer (some ⟨b447, 0, none⟩)), (53, .bool true)]) (by kernel_rfl) ?_
        refine t_end ?_
        show W _ _ _ _ _ _ _
        refine w_cond rfl (fun _ => ?_) (fun c_ => by cases c_)
        show W _ _ _ _ _ _ _
        refine w_reg fun all => ?_
        refine t_qz 1 [2, 6, 54] (σ' := [(2, .pointer (some ⟨b446, 0, none⟩)), (6, .pointer (some ⟨b447, 0, none⟩)), (54, .slice (ad a511) y512.length (na511 / 4))]) (by kernel_rfl) ?_
        refine t_v (.ldn rfl rfl rfl (.at 0 rfl rfl)) ?_
        refine t_qz 1 [54, 55, 56] (σ' := [(54, .slice (ad a511) y512.length (na511 / 4)), (55, .agg #[.int .i64 x513, .int .i64 x514]), (56, .pointer (some ⟨b446, 0, none⟩))]) (by kernel_rfl) ?_
        refine t_v (.ldn rfl rfl rfl (.at 1 rfl rfl)) ?_
        obtain ⟨t520, h521, e⟩ := bind_of e
        refine t_call (vs := [.slice (ad a511) y512.length (na511 / 4), .agg #[.int .i64 x513, .int .i64 x514], .agg #[.int .i64 p0_0, .int .i64 p0_1]]) (H1 := ([⟨a511, encL E_i644 y512, na511⟩] : List Own)) (F := ([⟨b447, [.int .i64 x513, .int .i64 x514], 2⟩, ⟨b446, [.int .i64 p0_0, .int .i64 p0_1, .slice a_p0_2 p0_2.length c_p0_2, .bool p0_3], 4⟩] : List Own)) rfl rfl (by kernel_rfl) (sel_perm (is := [2]) (by kernel_rfl)) (glyphicref20_edge_v1.ok h521) ?_
        rintro _ _ S_ ⟨N522, nN522, rfl, rfl, hS_⟩
        obtain rfl := hS_.symm
        refine t_qz 1 [5] (σ' := [(5, .slice (ad N522) t520.length (nN522 / 4))]) (by kernel_rfl) ?_
        refine t_end ?_
        show W _ _ _ _ _ _ _
        refine w_seq ?_
        refine w_reg fun all => ?_
        refine t_qz 2 [4] (σ' := [(4, .slice (ad N522) t520.length (nN522 / 4))]) (by kernel_rfl) ?_
        refine t_end ?_
        show W _ _ _ _ _ _ _
        refine w_ret ?_
        obtain rfl := Option.some.inj e
        exact ⟨[.slice (ad N522) t520.length (nN522 / 4)], ([⟨N522, encL E_i644 t520, nN522⟩] : List Own), S, ⟨rfl, trivial⟩, VS.sel [0] (by kernel_rfl), N522, nN522, rfl, rfl, rfl⟩
      · rw [if_neg c519] at e
        have c519b : p0_3 = false := Bool.eq_false_iff.mpr c519
        refine t_qz 2 [2, 5, 6, 50, 51] (σ' := [(2, .pointer (some ⟨b446, 0, none⟩)), (5, .slice (ad a511) y512.length (na511 / 4)), (6, .pointer (some ⟨b447, 0, none⟩)), (50, .bool false), (51, .pointer (some ⟨b446, 3, none⟩))]) (by kernel_rfl) ?_
        refine t_v (dv_eq (congrArg (fun t => Value.bool t) c519b) (.ld1 rfl rfl rfl (.at 1 rfl rfl))) ?_
        refine t_qz 1 [2, 5, 6, 53] (σ' := [(2, .pointer (some ⟨b446, 0, none⟩)), (5, .slice (ad a511) y512.length (na511 / 4)), (6, .pointer (some ⟨b447, 0, none⟩)), (53, .bool false)]) (by kernel_rfl) ?_
        refine t_end ?_
        show W _ _ _ _ _ _ _
        refine w_cond rfl (fun c_ => by cases c_) (fun _ => ?_)
        show W _ _ _ _ _ _ _
        refine w_skip ?_
        show W _ _ _ _ _ _ _
        refine w_seq ?_
        refine w_reg fun all => ?_
        refine t_qz 2 [4] (σ' := [(4, .slice (ad a511) y512.length (na511 / 4))]) (by kernel_rfl) ?_
        refine t_end ?_
        show W _ _ _ _ _ _ _
        refine w_ret ?_
        obtain rfl := Option.some.inj e
        exact ⟨[.slice (ad a511) y512.length (na511 / 4)], ([⟨a511, encL E_i644 y512, na511⟩] : List Own), S, ⟨rfl, trivial⟩, VS.sel [2] (by kernel_rfl), a511, na511, rfl, rfl, rfl⟩

/-- glyphicref.SameEdge -/
def c73 : C :=
  (.seq (.reg [⟨(some 2), .box (.tmp 0), none⟩,
     ⟨(some 3), .box (.tmp 1), none⟩,
     ⟨(some 4), .mv (.const (.bool false)), none⟩])
  (.seq (.reg [⟨(some 5), .pad 0 (.tmp 2), none⟩,
     ⟨(some 6), .ld (some 2) (.tmp 5), none⟩,
     ⟨(some 7), .pad 0 (.tmp 3), none⟩,
     ⟨(some 8), .ld (some 2) (.tmp 7), none⟩,
     ⟨(some 9), .call 25 [(.tmp 6), (.tmp 8)], none⟩,
     ⟨(some 10), .mv (.tmp 9), none⟩,
     ⟨(some 11), .pad 2 (.tmp 2), (some (10, true))⟩,
     ⟨(some 12), .ld (some 2) (.tmp 11), (some (10, true))⟩,
     ⟨(some 13), .pad 2 (.tmp 3), (some (10, true))⟩,
     ⟨(some 14), .ld (some 2) (.tmp 13), (some (10, true))⟩,
     ⟨(some 15), .call 25 [(.tmp 12), (.tmp 14)], (some (10, true))⟩,
     ⟨(some 16), .pk (.tmp 10) (.tmp 15) (.const (.bool false)), none⟩,
     ⟨(some 4), .mv (.tmp 16), none⟩])
  .ret))
def glyphicref_SameEdge.f (a0_A_X : Int) (a0_A_Y : Int) (a0_B_X : Int) (a0_B_Y : Int) (b1_A_X : Int) (b1_A_Y : Int) (b1_B_X : Int) (b1_B_Y : Int) : Option (Bool) := (glyphicref_SamePoint.f a0_A_X a0_A_Y b1_A_X b1_A_Y).bind fun t560 => (if t560 = true then ((glyphicref_SamePoint.f a0_B_X a0_B_Y b1_B_X b1_B_Y).bind fun t562 => (some t562)) else (some false))
theorem glyphicref_SameEdge.ok {S : Seal} {a0_A_X : Int} {a0_A_Y : Int} {a0_B_X : Int} {a0_B_Y : Int} {b1_A_X : Int} {b1_A_Y : Int} {b1_B_X : Int} {b1_B_Y : Int} {r0_ : Bool}(e : glyphicref_SameEdge.f a0_A_X a0_A_Y a0_B_X a0_B_Y b1_A_X b1_A_Y b1_B_X b1_B_Y = some r0_) :
    Cal Try.prog 73 [.agg #[.int .i64 a0_A_X, .int .i64 a0_A_Y, .int .i64 a0_B_X, .int .i64 a0_B_Y], .agg #[.int .i64 b1_A_X, .int .i64 b1_A_Y, .int .i64 b1_B_X, .int .i64 b1_B_Y]] [] S fun v H' S' => v = .bool r0_ ∧ H' = [] ∧ S' = S := by
  unfold glyphicref_SameEdge.f at e
  refine cal_of (c := c73) (N := 17) Try.func73 rfl rfl (by kernel_rfl) (rs := [.t 4]) (by kernel_rfl) (Nat.le_of_ble_eq_true rfl) ?_
  unfold c73
  refine w_seq ?_
  refine w_reg fun all => ?_
  refine t_a (.box rfl rfl rfl) fun b558 fb558 sb558 => ?_
  refine t_a (.box rfl rfl rfl) fun b559 fb559 sb559 => ?_
  refine t_qz 1 [2, 3] (σ' := [(2, .pointer (some ⟨b558, 0, none⟩)), (3, .pointer (some ⟨b559, 0, none⟩))]) (by kernel_rfl) ?_
  refine t_end ?_
  show W _ _ _ _ _ _ _
  refine w_seq ?_
  refine w_reg fun all => ?_
  refine t_qz 1 [2, 3, 5] (σ' := [(2, .pointer (some ⟨b558, 0, none⟩)), (3, .pointer (some ⟨b559, 0, none⟩)), (5, .pointer (some ⟨b558, 0, none⟩))]) (by kernel_rfl) ?_
  refine t_v (.ldn rfl rfl rfl (.at 1 rfl rfl)) ?_
  refine t_qz 1 [2, 3, 6, 7] (σ' := [(2, .pointer (some ⟨b558, 0, none⟩)), (3, .pointer (some ⟨b559, 0, none⟩)), (6, .agg #[.int .i64 a0_A_X, .int .i64 a0_A_Y]), (7, .pointer (some ⟨b559, 0, none⟩))]) (by kernel_rfl) ?_
  refine t_v (.ldn rfl rfl rfl (.at 0 rfl rfl)) ?_
  obtain ⟨t560, h561, e⟩ := bind_of e
  cases t560 with
  | true =>
    rw [if_pos rfl] at e
    refine t_v (.call (vs := [.agg #[.int .i64 a0_A_X, .int .i64 a0_A_Y], .agg #[.int .i64 b1_A_X, .int .i64 b1_A_Y]]) rfl rfl (by kernel_rfl) (glyphicref_SamePoint.ok h561)) ?_
    refine t_qz 2 [3, 10, 11] (σ' := [(3, .pointer (some ⟨b559, 0, none⟩)), (10, .bool true), (11, .pointer (some ⟨b558, 2, none⟩))]) (by kernel_rfl) ?_
    refine t_v (.ldn rfl rfl rfl (.at 1 rfl rfl)) ?_
    refine t_qz 1 [10, 12, 13] (σ' := [(10, .bool true), (12, .agg #[.int .i64 a0_B_X, .int .i64 a0_B_Y]), (13, .pointer (some ⟨b559, 2, none⟩))]) (by kernel_rfl) ?_
    refine t_v (.ldn rfl rfl rfl (.at 0 rfl rfl)) ?_
    obtain ⟨t562, h563, e⟩ := bind_of e
    refine t_v (.call (vs := [.agg #[.int .i64 a0_B_X, .int .i64 a0_B_Y], .agg #[.int .i64 b1_B_X, .int .i64 b1_B_Y]]) rfl rfl (by kernel_rfl) (glyphicref_SamePoint.ok h563)) ?_
    refine t_qz 2 [4] (σ' := [(4, .bool t562)]) (by kernel_rfl) ?_
    refine t_end ?_
    show W _ _ _ _ _ _ _
    refine w_ret ?_
    obtain rfl := Option.some.inj e
    exact ⟨[.bool t562], [], S, ⟨rfl, trivial⟩, VS.none, rfl, rfl, rfl⟩
  | false =>
    rw [if_neg (by decide)] at e
    refine t_v (.call (vs := [.agg #[.int .i64 a0_A_X, .int .i64 a0_A_Y], .agg #[.int .i64 b1_A_X, .int .i64 b1_A_Y]]) rfl rfl (by kernel_rfl) (glyphicref_SamePoint.ok h561)) ?_
    refine t_qz 8 [4] (σ' := [(4, .bool false)]) (by kernel_rfl) ?_
    refine t_end ?_
    show W _ _ _ _ _ _ _
    refine w_ret ?_
    obtain rfl := Option.some.inj e
    exact ⟨[.bool false], [], S, ⟨rfl, trivial⟩, VS.none, rfl, rfl, rfl⟩
end Go.Proofs.Ytpimfacaalkmdaa.QFlattenSays
