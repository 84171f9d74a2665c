/- Functions of the program as Lean functions, each with the proof of its walk. Written by gen.py, a program of these sessions. -/
import Derived.Test.YtpimfacaalkmdaaQFlattenNearx0
namespace Go.Proofs.Ytpimfacaalkmdaa.QFlattenNear
open Go Go.RowKit Go.Proofs.YtpimfacaalkmdaaE Go.Proofs.YtpimfacaalkmdaaX
set_option linter.unusedVariables false
set_option maxRecDepth 100000
set_option maxHeartbeats 8000000
def flatten_Point_v3.f (a0_0 : Int) (a0_1 : Int) (s1_1 : Int) (s1_2 : Int) (s1_3 : Int) (s1_4 : Int) (s1_5 : Int) (s1_6 : Int) (i2 : Int) (n3 : Int) : Option (Int × Int) := (flatten_points_v3.f s1_1 s1_2 s1_3 s1_4 s1_5 s1_6).bind fun (t186, t187, t188, t189, t190, t191, t192) => ((flatten_mix_v4.f i2 n3 a0_0 t187 t189).bind fun t207 => ((flatten_mix_v4.f i2 n3 a0_1 t188 t190).bind fun t209 => (some (t207, t209))))
theorem flatten_Point_v3.ok {S : Seal} {a0_0 : Int} {a0_1 : Int} {s1_1 : Int} {s1_2 : Int} {s1_3 : Int} {s1_4 : Int} {s1_5 : Int} {s1_6 : Int} {i2 : Int} {n3 : Int} {r0_ : Int} {r1_ : Int}(e : flatten_Point_v3.f a0_0 a0_1 s1_1 s1_2 s1_3 s1_4 s1_5 s1_6 i2 n3 = some (r0_, r1_)) :
    Cal Try.prog 31 [.agg #[.int .i64 a0_0, .int .i64 a0_1], .agg #[.int .i64 2, .int .i64 s1_1, .int .i64 s1_2, .int .i64 s1_3, .int .i64 s1_4, .int .i64 s1_5, .int .i64 s1_6], .int .i64 i2, .int .i64 n3] [] S fun v H' S' => v = .agg #[.int .i64 r0_, .int .i64 r1_] ∧ H' = [] ∧ S' = S := by
  unfold flatten_Point_v3.f at e
  refine cal_of (c := c31) (N := 46) Try.func31 rfl rfl (by kernel_rfl) (rs := [.cn 2 8]) (by kernel_rfl) (Nat.le_of_ble_eq_true rfl) ?_
  unfold c31
  refine w_seq ?_
  refine w_reg fun all => ?_
  refine t_a (.box rfl rfl rfl) fun b180 fb180 sb180 => ?_
  refine t_a (.box rfl rfl rfl) fun b181 fb181 sb181 => ?_
  refine t_a (.new rfl rfl) fun b182 fb182 sb182 => ?_
  refine t_keep [2, 3, 4, 5, 8] (σ' := [(2, .int .i64 i2), (3, .int .i64 n3), (4, .pointer (some ⟨b180, 0, none⟩)), (5, .pointer (some ⟨b181, 0, none⟩)), (8, .pointer (some ⟨b182, 0, none⟩))]) (by kernel_rfl) ?_
  refine t_end ?_
  show W _ _ _ _ _ _ _
  refine w_seq ?_
  refine w_kp [2, 3, 4, 5, 8] (σ' := [(2, .int .i64 i2), (3, .int .i64 n3), (4, .pointer (some ⟨b180, 0, none⟩)), (5, .pointer (some ⟨b181, 0, none⟩)), (8, .pointer (some ⟨b182, 0, none⟩))]) (by kernel_rfl) ?_
  refine w_gameQ mixed (by kernel_rfl) fun all G hend hstep hqf => ?_
  have hg_ff : ∀ (g184 : Nat) (g183 : Nat), G [true, true, true, true, true, true, true, true] [(2, .int .i64 i2), (3, .int .i64 n3), (5, .pointer (some ⟨b181, 0, none⟩)), (8, .pointer (some ⟨b182, 0, none⟩)), (9, .slice (some ⟨g183, 0, none⟩) 1 1), (10, .slice (some ⟨g184, 0, none⟩) 1 1)] ([⟨g184, [.int .i64 a0_1], 1⟩, ⟨g183, [.int .i64 a0_0], 1⟩, ⟨b182, [.int .i64 0, .int .i64 0], 2⟩, ⟨b181, [.int .i64 2, .int .i64 s1_1, .int .i64 s1_2, .int .i64 s1_3, .int .i64 s1_4, .int .i64 s1_5, .int .i64 s1_6], 7⟩, ⟨b180, [.int .i64 a0_0, .int .i64 a0_1], 2⟩] : List Own) := by
    intro g184 g183
    refine hend _ _ _ (by kernel_rfl) ?_
    show W _ _ _ _ _ _ _
    refine w_seq ?_
    refine w_seq ?_
    refine w_reg fun all => ?_
    refine t_v (.ldn rfl rfl rfl (.at 3 rfl rfl)) ?_
    obtain ⟨⟨t186, t187, t188, t189, t190, t191, t192⟩, h193, e⟩ := bind_of e
    try dsimp only at e
    refine t_call (vs := [.agg #[.int .i64 2, .int .i64 s1_1, .int .i64 s1_2, .int .i64 s1_3, .int .i64 s1_4, .int .i64 s1_5, .int .i64 s1_6]]) (H1 := ([] : List Own)) (F := ([⟨g184, [.int .i64 a0_1], 1⟩, ⟨g183, [.int .i64 a0_0], 1⟩, ⟨b182, [.int .i64 0, .int .i64 0], 2⟩, ⟨b181, [.int .i64 2, .int .i64 s1_1, .int .i64 s1_2, .int .i64 s1_3, .int .i64 s1_4, .int .i64 s1_5, .int .i64 s1_6], 7⟩, ⟨b180, [.int .i64 a0_0, .int .i64 a0_1], 2⟩] : List Own)) rfl rfl (by kernel_rfl) (sel_perm (is := []) (by kernel_rfl)) (flatten_points_v3.ok h193) ?_
    rintro _ _ S_ ⟨N194, rfl, rfl, hS_⟩
    obtain rfl := hS_.symm
    refine t_qz 2 [2, 3, 8, 9, 10, 20, 21, 22] (σ' := [(2, .int .i64 i2), (3, .int .i64 n3), (8, .pointer (some ⟨b182, 0, none⟩)), (9, .slice (some ⟨g183, 0, none⟩) 1 1), (10, .slice (some ⟨g184, 0, none⟩) 1 1), (20, .slice (some ⟨N194, 1, none⟩) 2 3), (21, .int .i64 2), (22, .int .i64 0)]) (by kernel_rfl) ?_
    refine t_end ?_
    show W _ _ _ _ _ _ _
    refine w_block ?_
    refine w_lun 10 ?_
    refine wl_step ?_
    refine w_seq ?_
    refine w_reg fun all => ?_
    refine t_qz 1 [2, 3, 8, 9, 10, 20, 21, 22, 23] (σ' := [(2, .int .i64 i2), (3, .int .i64 n3), (8, .pointer (some ⟨b182, 0, none⟩)), (9, .slice (some ⟨g183, 0, none⟩) 1 1), (10, .slice (some ⟨g184, 0, none⟩) 1 1), (20, .slice (some ⟨N194, 1, none⟩) 2 3), (21, .int .i64 2), (22, .int .i64 0), (23, .bool true)]) (by kernel_rfl) ?_
    refine t_end ?_
    show W _ _ _ _ _ _ _
    refine w_seq ?_
    refine w_cond rfl (fun _ => ?_) (fun c_ => by cases c_)
    show W _ _ _ _ _ _ _
    refine w_skip ?_
    show W _ _ _ _ _ _ _
    refine w_seq ?_
    refine w_block ?_
    refine w_seq ?_
    refine w_reg fun all => ?_
    refine t_qz 1 [2, 3, 8, 9, 10, 20, 21, 22, 24] (σ' := [(2, .int .i64 i2), (3, .int .i64 n3), (8, .pointer (some ⟨b182, 0, none⟩)), (9, .slice (some ⟨g183, 0, none⟩) 1 1), (10, .slice (some ⟨g184, 0, none⟩) 1 1), (20, .slice (some ⟨N194, 1, none⟩) 2 3), (21, .int .i64 2), (22, .int .i64 0), (24, .pointer (some ⟨N194, 1, none⟩))]) (by kernel_rfl) ?_
    refine t_v (.ldn rfl rfl rfl (.at 0 rfl rfl)) ?_
    refine t_a (.new rfl rfl) fun b195 fb195 sb195 => ?_
    refine t_sti 0 (cs := [.int .i64 t187, .int .i64 t188]) rfl rfl rfl rfl rfl rfl rfl rfl rfl ?_
    refine t_keep [2, 3, 8, 9, 10, 12, 20, 21, 22] (σ' := [(2, .int .i64 i2), (3, .int .i64 n3), (8, .pointer (some ⟨b182, 0, none⟩)), (9, .slice (some ⟨g183, 0, none⟩) 1 1), (10, .slice (some ⟨g184, 0, none⟩) 1 1), (12, .pointer (some ⟨b195, 0, none⟩)), (20, .slice (some ⟨N194, 1, none⟩) 2 3), (21, .int .i64 2), (22, .int .i64 0)]) (by kernel_rfl) ?_
    refine t_end ?_
    show W _ _ _ _ _ _ _
    refine w_kp [2, 3, 8, 9, 10, 12, 20, 21, 22] (σ' := [(2, .int .i64 i2), (3, .int .i64 n3), (8, .pointer (some ⟨b182, 0, none⟩)), (9, .slice (some ⟨g183, 0, none⟩) 1 1), (10, .slice (some ⟨g184, 0, none⟩) 1 1), (12, .pointer (some ⟨b195, 0, none⟩)), (20, .slice (some ⟨N194, 1, none⟩) 2 3), (21, .int .i64 2), (22, .int .i64 0)]) (by kernel_rfl) ?_
    refine w_gameQ mixed (by kernel_rfl) fun all G hend hstep hqf => ?_
    have hg_fff : ∀ (g199 : Nat) (ng199 : Nat) (g198 : Nat) (g197 : Nat) (ng197 : Nat) (g196 : Nat), G [true, true, true, true, true, true, true, true, true, true, true, true] [(2, .int .i64 i2), (3, .int .i64 n3), (8, .pointer (some ⟨b182, 0, none⟩)), (9, .slice (some ⟨g197, 0, none⟩) 2 (ng197 / 1)), (10, .slice (some ⟨g199, 0, none⟩) 2 (ng199 / 1)), (20, .slice (some ⟨N194, 1, none⟩) 2 3), (21, .int .i64 2), (22, .int .i64 0)] ([⟨g199, [.int .i64 a0_1, .int .i64 t188], ng199⟩, ⟨g198, [.int .i64 t188], 1⟩, ⟨g197, [.int .i64 a0_0, .int .i64 t187], ng197⟩, ⟨g196, [.int .i64 t187], 1⟩, ⟨b195, [.int .i64 t187, .int .i64 t188], 2⟩, ⟨N194, [.int .i64 t186, .int .i64 t187, .int .i64 t188, .int .i64 t189, .int .i64 t190, .int .i64 t191, .int .i64 t192], 7⟩, ⟨b182, [.int .i64 0, .int .i64 0], 2⟩, ⟨b181, [.int .i64 2, .int .i64 s1_1, .int .i64 s1_2, .int .i64 s1_3, .int .i64 s1_4, .int .i64 s1_5, .int .i64 s1_6], 7⟩, ⟨b180, [.int .i64 a0_0, .int .i64 a0_1], 2⟩] : List Own) := by
      intro g199 ng199 g198 g197 ng197 g196
      refine hend _ _ _ (by kernel_rfl) ?_
      show W _ _ _ _ _ _ _
      refine w_reg fun all => ?_
      refine t_qz 2 [2, 3, 8, 9, 10, 20, 21, 22] (σ' := [(2, .int .i64 i2), (3, .int .i64 n3), (8, .pointer (some ⟨b182, 0, none⟩)), (9, .slice (some ⟨g197, 0, none⟩) 2 (ng197 / 1)), (10, .slice (some ⟨g199, 0, none⟩) 2 (ng199 / 1)), (20, .slice (some ⟨N194, 1, none⟩) 2 3), (21, .int .i64 2), (22, .int .i64 1)]) (by kernel_rfl) ?_
      refine t_end ?_
      show WL _ _ _ _ _ _ _ _
      refine wl_step ?_
      refine w_seq ?_
      refine w_reg fun all => ?_
      refine t_qz 1 [2, 3, 8, 9, 10, 20, 21, 22, 23] (σ' := [(2, .int .i64 i2), (3, .int .i64 n3), (8, .pointer (some ⟨b182, 0, none⟩)), (9, .slice (some ⟨g197, 0, none⟩) 2 (ng197 / 1)), (10, .slice (some ⟨g199, 0, none⟩) 2 (ng199 / 1)), (20, .slice (some ⟨N194, 1, none⟩) 2 3), (21, .int .i64 2), (22, .int .i64 1), (23, .bool true)]) (by kernel_rfl) ?_
      refine t_end ?_
      show W _ _ _ _ _ _ _
      refine w_seq ?_
      refine w_cond rfl (fun _ => ?_) (fun c_ => by cases c_)
      show W _ _ _ _ _ _ _
      refine w_skip ?_
      show W _ _ _ _ _ _ _
      refine w_seq ?_
      refine w_block ?_
      refine w_seq ?_
      refine w_reg fun all => ?_
      refine t_qz 1 [2, 3, 8, 9, 10, 20, 21, 22, 24] (σ' := [(2, .int .i64 i2), (3, .int .i64 n3), (8, .pointer (some ⟨b182, 0, none⟩)), (9, .slice (some ⟨g197, 0, none⟩) 2 (ng197 / 1)), (10, .slice (some ⟨g199, 0, none⟩) 2 (ng199 / 1)), (20, .slice (some ⟨N194, 1, none⟩) 2 3), (21, .int .i64 2), (22, .int .i64 1), (24, .pointer (some ⟨N194, 3, none⟩))]) (by kernel_rfl) ?_
      refine t_v (.ldn rfl rfl rfl (.at 5 rfl rfl)) ?_
      refine t_a (.new rfl rfl) fun b200 fb200 sb200 => ?_
      refine t_sti 0 (cs := [.int .i64 t189, .int .i64 t190]) rfl rfl rfl rfl rfl rfl rfl rfl rfl ?_
      refine t_keep [2, 3, 8, 9, 10, 12, 20, 21, 22] (σ' := [(2, .int .i64 i2), (3, .int .i64 n3), (8, .pointer (some ⟨b182, 0, none⟩)), (9, .slice (some ⟨g197, 0, none⟩) 2 (ng197 / 1)), (10, .slice (some ⟨g199, 0, none⟩) 2 (ng199 / 1)), (12, .pointer (some ⟨b200, 0, none⟩)), (20, .slice (some ⟨N194, 1, none⟩) 2 3), (21, .int .i64 2), (22, .int .i64 1)]) (by kernel_rfl) ?_
      refine t_end ?_
      show W _ _ _ _ _ _ _
      refine w_kp [2, 3, 8, 9, 10, 12, 20, 21, 22] (σ' := [(2, .int .i64 i2), (3, .int .i64 n3), (8, .pointer (some ⟨b182, 0, none⟩)), (9, .slice (some ⟨g197, 0, none⟩) 2 (ng197 / 1)), (10, .slice (some ⟨g199, 0, none⟩) 2 (ng199 / 1)), (12, .pointer (some ⟨b200, 0, none⟩)), (20, .slice (some ⟨N194, 1, none⟩) 2 3), (21, .int .i64 2), (22, .int .i64 1)]) (by kernel_rfl) ?_
      refine w_gameQ mixed (by kernel_rfl) fun all G hend hstep hqf => ?_
      have hg_fff : ∀ (g204 : Nat) (ng204 : Nat) (g203 : Nat) (g202 : Nat) (ng202 : Nat) (g201 : Nat), G [true, true, true, true, true, true, true, true, true, true, true, true] [(2, .int .i64 i2), (3, .int .i64 n3), (8, .pointer (some ⟨b182, 0, none⟩)), (9, .slice (some ⟨g202, 0, none⟩) 3 (ng202 / 1)), (10, .slice (some ⟨g204, 0, none⟩) 3 (ng204 / 1)), (20, .slice (some ⟨N194, 1, none⟩) 2 3), (21, .int .i64 2), (22, .int .i64 1)] ([⟨g204, [.int .i64 a0_1, .int .i64 t188, .int .i64 t190], ng204⟩, ⟨g203, [.int .i64 t190], 1⟩, ⟨g202, [.int .i64 a0_0, .int .i64 t187, .int .i64 t189], ng202⟩, ⟨g201, [.int .i64 t189], 1⟩, ⟨b200, [.int .i64 t189, .int .i64 t190], 2⟩, ⟨g198, [.int .i64 t188], 1⟩, ⟨g196, [.int .i64 t187], 1⟩, ⟨b195, [.int .i64 t187, .int .i64 t188], 2⟩, ⟨N194, [.int .i64 t186, .int .i64 t187, .int .i64 t188, .int .i64 t189, .int .i64 t190, .int .i64 t191, .int .i64 t192], 7⟩, ⟨b182, [.int .i64 0, .int .i64 0], 2⟩, ⟨b181, [.int .i64 2, .int .i64 s1_1, .int .i64 s1_2, .int .i64 s1_3, .int .i64 s1_4, .int .i64 s1_5, .int .i64 s1_6], 7⟩, ⟨b180, [.int .i64 a0_0, .int .i64 a0_1], 2⟩] : List Own) := by
        intro g204 ng204 g203 g202 ng202 g201
        refine hend _ _ _ (by kernel_rfl) ?_
        show W _ _ _ _ _ _ _
        refine w_reg fun all => ?_
        refine t_qz 2 [2, 3, 8, 9, 10, 20, 21, 22] (σ' := [(2, .int .i64 i2), (3, .int .i64 n3), (8, .pointer (some ⟨b182, 0, none⟩)), (9, .slice (some ⟨g202, 0, none⟩) 3 (ng202 / 1)), (10, .slice (some ⟨g204, 0, none⟩) 3 (ng204 / 1)), (20, .slice (some ⟨N194, 1, none⟩) 2 3), (21, .int .i64 2), (22, .int .i64 2)]) (by kernel_rfl) ?_
        refine t_end ?_
        show WL _ _ _ _ _ _ _ _
        refine wl_step ?_
        refine w_seq ?_
        refine w_reg fun all => ?_
        refine t_qz 1 [2, 3, 8, 9, 10, 20, 21, 22, 23] (σ' := [(2, .int .i64 i2), (3, .int .i64 n3), (8, .pointer (some ⟨b182, 0, none⟩)), (9, .slice (some ⟨g202, 0, none⟩) 3 (ng202 / 1)), (10, .slice (some ⟨g204, 0, none⟩) 3 (ng204 / 1)), (20, .slice (some ⟨N194, 1, none⟩) 2 3), (21, .int .i64 2), (22, .int .i64 2), (23, .bool false)]) (by kernel_rfl) ?_
        refine t_end ?_
        show W _ _ _ _ _ _ _
        refine w_seq ?_
        refine w_cond rfl (fun c_ => by cases c_) (fun _ => ?_)
        show W _ _ _ _ _ _ _
        refine w_exit ?_
        show W _ _ _ _ _ _ _
        refine w_seq ?_
        refine w_reg fun all => ?_
        obtain ⟨t207, h208, e⟩ := bind_of e
        refine t_qz 3 [2, 3, 8, 10, 37, 38, 39] (σ' := [(2, .int .i64 i2), (3, .int .i64 n3), (8, .pointer (some ⟨b182, 0, none⟩)), (10, .slice (some ⟨g204, 0, none⟩) 3 (ng204 / 1)), (37, .int .i64 i2), (38, .int .i64 n3), (39, .slice (some ⟨g202, 0, none⟩) 3 (ng202 / 1))]) (by kernel_rfl) ?_
        refine t_v (.callr (vs := [.int .i64 i2, .int .i64 n3, .slice (some ⟨g202, 0, none⟩) 3 (ng202 / 1)]) (A := ([⟨g202, [.int .i64 a0_0, .int .i64 t187, .int .i64 t189], ng202⟩] : List Own)) (F0 := ([⟨g204, [.int .i64 a0_1, .int .i64 t188, .int .i64 t190], ng204⟩, ⟨g203, [.int .i64 t190], 1⟩, ⟨g201, [.int .i64 t189], 1⟩, ⟨b200, [.int .i64 t189, .int .i64 t190], 2⟩, ⟨g198, [.int .i64 t188], 1⟩, ⟨g196, [.int .i64 t187], 1⟩, ⟨b195, [.int .i64 t187, .int .i64 t188], 2⟩, ⟨N194, [.int .i64 t186, .int .i64 t187, .int .i64 t188, .int .i64 t189, .int .i64 t190, .int .i64 t191, .int .i64 t192], 7⟩, ⟨b182, [.int .i64 0, .int .i64 0], 2⟩, ⟨b181, [.int .i64 2, .int .i64 s1_1, .int .i64 s1_2, .int .i64 s1_3, .int .i64 s1_4, .int .i64 s1_5, .int .i64 s1_6], 7⟩, ⟨b180, [.int .i64 a0_0, .int .i64 a0_1], 2⟩] : List Own)) rfl rfl (by kernel_rfl) (sel_perm (is := [2]) (by kernel_rfl)) (flatten_mix_v4.ok h208)) ?_
        obtain ⟨t209, h210, e⟩ := bind_of e
        refine t_qz 3 [8, 40, 41, 42, 43] (σ' := [(8, .pointer (some ⟨b182, 0, none⟩)), (40, .int .i64 t207), (41, .int .i64 i2), (42, .int .i64 n3), (43, .slice (some ⟨g204, 0, none⟩) 3 (ng204 / 1))]) (by kernel_rfl) ?_
        refine t_v (.callr (vs := [.int .i64 i2, .int .i64 n3, .slice (some ⟨g204, 0, none⟩) 3 (ng204 / 1)]) (A := ([⟨g204, [.int .i64 a0_1, .int .i64 t188, .int .i64 t190], ng204⟩] : List Own)) (F0 := ([⟨g203, [.int .i64 t190], 1⟩, ⟨g202, [.int .i64 a0_0, .int .i64 t187, .int .i64 t189], ng202⟩, ⟨g201, [.int .i64 t189], 1⟩, ⟨b200, [.int .i64 t189, .int .i64 t190], 2⟩, ⟨g198, [.int .i64 t188], 1⟩, ⟨g196, [.int .i64 t187], 1⟩, ⟨b195, [.int .i64 t187, .int .i64 t188], 2⟩, ⟨N194, [.int .i64 t186, .int .i64 t187, .int .i64 t188, .int .i64 t189, .int .i64 t190, .int .i64 t191, .int .i64 t192], 7⟩, ⟨b182, [.int .i64 0, .int .i64 0], 2⟩, ⟨b181, [.int .i64 2, .int .i64 s1_1, .int .i64 s1_2, .int .i64 s1_3, .int .i64 s1_4, .int .i64 s1_5, .int .i64 s1_6], 7⟩, ⟨b180, [.int .i64 a0_0, .int .i64 a0_1], 2⟩] : List Own)) rfl rfl (by kernel_rfl) (sel_perm (is := [0]) (by kernel_rfl)) (flatten_mix_v4.ok h210)) ?_
        refine t_qz 1 [8, 45] (σ' := [(8, .pointer (some ⟨b182, 0, none⟩)), (45, .agg #[.int .i64 t207, .int .i64 t209])]) (by kernel_rfl) ?_
        refine t_sti 9 (cs := [.int .i64 t207, .int .i64 t209]) rfl rfl rfl rfl rfl rfl rfl rfl rfl ?_
        refine t_keep [8] (σ' := [(8, .pointer (some ⟨b182, 0, none⟩))]) (by kernel_rfl) ?_
        refine t_end ?_
        show W _ _ _ _ _ _ _
        refine w_ret ?_
        simp only [Option.some.injEq, Prod.mk.injEq] at e
        obtain ⟨rfl, rfl⟩ := e
        exact ⟨[.agg #[.int .i64 t207, .int .i64 t209]], [], S, ⟨⟨_, _, _, rfl, .at 9 rfl rfl, rfl⟩, trivial⟩, VS.none, rfl, rfl, rfl⟩
      have hg_7ff : ∀ (g204 : Nat) (ng204 : Nat) (g203 : Nat) (g202 : Nat) (ng202 : Nat) (g201 : Nat), G [true, true, true, true, true, true, true, true, true, true, true, false] [(2, .int .i64 i2), (3, .int .i64 n3), (8, .pointer (some ⟨b182, 0, none⟩)), (9, .slice (some ⟨g202, 0, none⟩) 3 (ng202 / 1)), (10, .slice (some ⟨g199, 0, none⟩) 2 (ng199 / 1)), (20, .slice (some ⟨N194, 1, none⟩) 2 3), (21, .int .i64 2), (22, .int .i64 1), (35, .slice (some ⟨g204, 0, none⟩) 3 (ng204 / 1))] ([⟨g204, [.int .i64 a0_1, .int .i64 t188, .int .i64 t190], ng204⟩, ⟨g203, [.int .i64 t190], 1⟩, ⟨g202, [.int .i64 a0_0, .int .i64 t187, .int .i64 t189], ng202⟩, ⟨g201, [.int .i64 t189], 1⟩, ⟨b200, [.int .i64 t189, .int .i64 t190], 2⟩, ⟨g198, [.int .i64 t188], 1⟩, ⟨g196, [.int .i64 t187], 1⟩, ⟨b195, [.int .i64 t187, .int .i64 t188], 2⟩, ⟨N194, [.int .i64 t186, .int .i64 t187, .int .i64 t188, .int .i64 t189, .int .i64 t190, .int .i64 t191, .int .i64 t192], 7⟩, ⟨b182, [.int .i64 0, .int .i64 0], 2⟩, ⟨b181, [.int .i64 2, .int .i64 s1_1, .int .i64 s1_2, .int .i64 s1_3, .int .i64 s1_4, .int .i64 s1_5, .int .i64 s1_6], 7⟩, ⟨b180, [.int .i64 a0_0, .int .i64 a0_1], 2⟩] : List Own) := by
        intro g204 ng204 g203 g202 ng202 g201
        exact hqf 11 [2, 3, 8, 9, 10, 20, 21, 22] _ _ _ [(2, .int .i64 i2), (3, .int .i64 n3), (8, .pointer (some ⟨b182, 0, none⟩)), (9, .slice (some ⟨g202, 0, none⟩) 3 (ng202 / 1)), (10, .slice (some ⟨g204, 0, none⟩) 3 (ng204 / 1)), (20, .slice (some ⟨N194, 1, none⟩) 2 3), (21, .int .i64 2), (22, .int .i64 1)] (by kernel_rfl) (by kernel_rfl) (hg_fff g204 ng204 g203 g202 ng202 g201)
      have hg_3ff : ∀ (g204 : Nat) (ng204 : Nat) (g203 : Nat) (g202 : Nat) (ng202 : Nat) (g201 : Nat), G [true, true, true, true, true, true, true, true, true, true, false, false] [(2, .int .i64 i2), (3, .int .i64 n3), (8, .pointer (some ⟨b182, 0, none⟩)), (9, .slice (some ⟨g197, 0, none⟩) 2 (ng197 / 1)), (10, .slice (some ⟨g199, 0, none⟩) 2 (ng199 / 1)), (20, .slice (some ⟨N194, 1, none⟩) 2 3), (21, .int .i64 2), (22, .int .i64 1), (30, .slice (some ⟨g202, 0, none⟩) 3 (ng202 / 1)), (35, .slice (some ⟨g204, 0, none⟩) 3 (ng204 / 1))] ([⟨g204, [.int .i64 a0_1, .int .i64 t188, .int .i64 t190], ng204⟩, ⟨g203, [.int .i64 t190], 1⟩, ⟨g202, [.int .i64 a0_0, .int .i64 t187, .int .i64 t189], ng202⟩, ⟨g201, [.int .i64 t189], 1⟩, ⟨b200, [.int .i64 t189, .int .i64 t190], 2⟩, ⟨g198, [.int .i64 t188], 1⟩, ⟨g196, [.int .i64 t187], 1⟩, ⟨b195, [.int .i64 t187, .int .i64 t188], 2⟩, ⟨N194, [.int .i64 t186, .int .i64 t187, .int .i64 t188, .int .i64 t189, .int .i64 t190, .int .i64 t191, .int .i64 t192], 7⟩, ⟨b182, [.int .i64 0, .int .i64 0], 2⟩, ⟨b181, [.int .i64 2, .int .i64 s1_1, .int .i64 s1_2, .int .i64 s1_3, .int .i64 s1_4, .int .i64 s1_5, .int .i64 s1_6], 7⟩, ⟨b180, [.int .i64 a0_0, .int .i64 a0_1], 2⟩] : List Own) := by
        intro g204 ng204 g203 g202 ng202 g201
        exact hqf 10 [2, 3, 8, 9, 10, 20, 21, 22, 35] _ _ _ [(2, .int .i64 i2), (3, .int .i64 n3), (8, .pointer (some ⟨b182, 0, none⟩)), (9, .slice (some ⟨g202, 0, none⟩) 3 (ng202 / 1)), (10, .slice (some ⟨g199, 0, none⟩) 2 (ng199 / 1)), (20, .slice (some ⟨N194, 1, none⟩) 2 3), (21, .int .i64 2), (22, .int .i64 1), (35, .slice (some ⟨g204, 0, none⟩) 3 (ng204 / 1))] (by kernel_rfl) (by kernel_rfl) (hg_7ff g204 ng204 g203 g202 ng202 g201)
      have hg_1ff : ∀ (g203 : Nat) (g202 : Nat) (ng202 : Nat) (g201 : Nat), G [true, true, true, true, true, true, true, true, true, false, false, false] [(2, .int .i64 i2), (3, .int .i64 n3), (8, .pointer (some ⟨b182, 0, none⟩)), (9, .slice (some ⟨g197, 0, none⟩) 2 (ng197 / 1)), (10, .slice (some ⟨g199, 0, none⟩) 2 (ng199 / 1)), (20, .slice (some ⟨N194, 1, none⟩) 2 3), (21, .int .i64 2), (22, .int .i64 1), (30, .slice (some ⟨g202, 0, none⟩) 3 (ng202 / 1)), (31, .slice (some ⟨g199, 0, none⟩) 2 (ng199 / 1)), (34, .slice (some ⟨g203, 0, none⟩) 1 1)] ([⟨g203, [.int .i64 t190], 1⟩, ⟨g202, [.int .i64 a0_0, .int .i64 t187, .int .i64 t189], ng202⟩, ⟨g201, [.int .i64 t189], 1⟩, ⟨b200, [.int .i64 t189, .int .i64 t190], 2⟩, ⟨g199, [.int .i64 a0_1, .int .i64 t188], ng199⟩, ⟨g198, [.int .i64 t188], 1⟩, ⟨g196, [.int .i64 t187], 1⟩, ⟨b195, [.int .i64 t187, .int .i64 t188], 2⟩, ⟨N194, [.int .i64 t186, .int .i64 t187, .int .i64 t188, .int .i64 t189, .int .i64 t190, .int .i64 t191, .int .i64 t192], 7⟩, ⟨b182, [.int .i64 0, .int .i64 0], 2⟩, ⟨b181, [.int .i64 2, .int .i64 s1_1, .int .i64 s1_2, .int .i64 s1_3, .int .i64 s1_4, .int .i64 s1_5, .int .i64 s1_6], 7⟩, ⟨b180, [.int .i64 a0_0, .int .i64 a0_1], 2⟩] : List Own) := by
        intro g203 g202 ng202 g201
        refine hstep [9] _ _ _ (by kernel_rfl) (List.cons_ne_nil _ _) ⟨?_, trivial⟩
        · show T _ _ _ _ _ _ _ _
          refine t_app1 (cs := [.int .i64 a0_1, .int .i64 t188]) (M := ng199) (F := ([⟨g203, [.int .i64 t190], 1⟩, ⟨g202, [.int .i64 a0_0, .int .i64 t187, .int .i64 t189], ng202⟩, ⟨g201, [.int .i64 t189], 1⟩, ⟨b200, [.int .i64 t189, .int .i64 t190], 2⟩, ⟨g198, [.int .i64 t188], 1⟩, ⟨g196, [.int .i64 t187], 1⟩, ⟨b195, [.int .i64 t187, .int .i64 t188], 2⟩, ⟨N194, [.int .i64 t186, .int .i64 t187, .int .i64 t188, .int .i64 t189, .int .i64 t190, .int .i64 t191, .int .i64 t192], 7⟩, ⟨b182, [.int .i64 0, .int .i64 0], 2⟩, ⟨b181, [.int .i64 2, .int .i64 s1_1, .int .i64 s1_2, .int .i64 s1_3, .int .i64 s1_4, .int .i64 s1_5, .int .i64 s1_6], 7⟩, ⟨b180, [.int .i64 a0_0, .int .i64 a0_1], 2⟩] : List Own)) (news := [.int .i64 t190]) rfl rfl rfl rfl (sel_perm (is := [4]) (by kernel_rfl)) (.at 0 rfl rfl) (by kernel_rfl) rfl rfl (by decide) (by decide) rfl fun g204 ng204 => ?_
          refine t_keep [2, 3, 8, 9, 10, 20, 21, 22, 30, 35] (σ' := [(2, .int .i64 i2), (3, .int .i64 n3), (8, .pointer (some ⟨b182, 0, none⟩)), (9, .slice (some ⟨g197, 0, none⟩) 2 (ng197 / 1)), (10, .slice (some ⟨g199, 0, none⟩) 2 (ng199 / 1)), (20, .slice (some ⟨N194, 1, none⟩) 2 3), (21, .int .i64 2), (22, .int .i64 1), (30, .slice (some ⟨g202, 0, none⟩) 3 (ng202 / 1)), (35, .slice (some ⟨g204, 0, none⟩) 3 (ng204 / 1))]) (by kernel_rfl) ?_
          refine t_end ?_
          exact ⟨hg_3ff g204 ng204 g203 g202 ng202 g201, rfl⟩
      have hg_ff : ∀ (g202 : Nat) (ng202 : Nat) (g201 : Nat), G [true, true, true, true, true, true, true, true, false, false, false, false] [(2, .int .i64 i2), (3, .int .i64 n3), (8, .pointer (some ⟨b182, 0, none⟩)), (9, .slice (some ⟨g197, 0, none⟩) 2 (ng197 / 1)), (10, .slice (some ⟨g199, 0, none⟩) 2 (ng199 / 1)), (20, .slice (some ⟨N194, 1, none⟩) 2 3), (21, .int .i64 2), (22, .int .i64 1), (30, .slice (some ⟨g202, 0, none⟩) 3 (ng202 / 1)), (31, .slice (some ⟨g199, 0, none⟩) 2 (ng199 / 1)), (33, .int .i64 t190)] ([⟨g202, [.int .i64 a0_0, .int .i64 t187, .int .i64 t189], ng202⟩, ⟨g201, [.int .i64 t189], 1⟩, ⟨b200, [.int .i64 t189, .int .i64 t190], 2⟩, ⟨g199, [.int .i64 a0_1, .int .i64 t188], ng199⟩, ⟨g198, [.int .i64 t188], 1⟩, ⟨g196, [.int .i64 t187], 1⟩, ⟨b195, [.int .i64 t187, .int .i64 t188], 2⟩, ⟨N194, [.int .i64 t186, .int .i64 t187, .int .i64 t188, .int .i64 t189, .int .i64 t190, .int .i64 t191, .int .i64 t192], 7⟩, ⟨b182, [.int .i64 0, .int .i64 0], 2⟩, ⟨b181, [.int .i64 2, .int .i64 s1_1, .int .i64 s1_2, .int .i64 s1_3, .int .i64 s1_4, .int .i64 s1_5, .int .i64 s1_6], 7⟩, ⟨b180, [.int .i64 a0_0, .int .i64 a0_1], 2⟩] : List Own) := by
        intro g202 ng202 g201
        refine hstep [8] _ _ _ (by kernel_rfl) (List.cons_ne_nil _ _) ⟨?_, trivial⟩
        · show T _ _ _ _ _ _ _ _
          refine t_a (.bsl rfl rfl rfl rfl) fun g203 fg203 sg203 => ?_
          refine t_keep [2, 3, 8, 9, 10, 20, 21, 22, 30, 31, 34] (σ' := [(2, .int .i64 i2), (3, .int .i64 n3), (8, .pointer (some ⟨b182, 0, none⟩)), (9, .slice (some ⟨g197, 0, none⟩) 2 (ng197 / 1)), (10, .slice (some ⟨g199, 0, none⟩) 2 (ng199 / 1)), (20, .slice (some ⟨N194, 1, none⟩) 2 3), (21, .int .i64 2), (22, .int .i64 1), (30, .slice (some ⟨g202, 0, none⟩) 3 (ng202 / 1)), (31, .slice (some ⟨g199, 0, none⟩) 2 (ng199 / 1)), (34, .slice (some ⟨g203, 0, none⟩) 1 1)]) (by kernel_rfl) ?_
          refine t_end ?_
          exact ⟨hg_1ff g203 g202 ng202 g201, rfl⟩
      have hg_1ef : ∀ (g203 : Nat) (g201 : Nat), G [true, true, true, true, false, true, true, true, true, false, false, false] [(2, .int .i64 i2), (3, .int .i64 n3), (8, .pointer (some ⟨b182, 0, none⟩)), (9, .slice (some ⟨g197, 0, none⟩) 2 (ng197 / 1)), (10, .slice (some ⟨g199, 0, none⟩) 2 (ng199 / 1)), (20, .slice (some ⟨N194, 1, none⟩) 2 3), (21, .int .i64 2), (22, .int .i64 1), (26, .slice (some ⟨g197, 0, none⟩) 2 (ng197 / 1)), (29, .slice (some ⟨g201, 0, none⟩) 1 1), (31, .slice (some ⟨g199, 0, none⟩) 2 (ng199 / 1)), (34, .slice (some ⟨g203, 0, none⟩) 1 1)] ([⟨g203, [.int .i64 t190], 1⟩, ⟨g201, [.int .i64 t189], 1⟩, ⟨b200, [.int .i64 t189, .int .i64 t190], 2⟩, ⟨g199, [.int .i64 a0_1, .int .i64 t188], ng199⟩, ⟨g198, [.int .i64 t188], 1⟩, ⟨g197, [.int .i64 a0_0, .int .i64 t187], ng197⟩, ⟨g196, [.int .i64 t187], 1⟩, ⟨b195, [.int .i64 t187, .int .i64 t188], 2⟩, ⟨N194, [.int .i64 t186, .int .i64 t187, .int .i64 t188, .int .i64 t189, .int .i64 t190, .int .i64 t191, .int .i64 t192], 7⟩, ⟨b182, [.int .i64 0, .int .i64 0], 2⟩, ⟨b181, [.int .i64 2, .int .i64 s1_1, .int .i64 s1_2, .int .i64 s1_3, .int .i64 s1_4, .int .i64 s1_5, .int .i64 s1_6], 7⟩, ⟨b180, [.int .i64 a0_0, .int .i64 a0_1], 2⟩] : List Own) := by
        intro g203 g201
        refine hstep [4] _ _ _ (by kernel_rfl) (List.cons_ne_nil _ _) ⟨?_, trivial⟩
        · show T _ _ _ _ _ _ _ _
          refine t_app1 (cs := [.int .i64 a0_0, .int .i64 t187]) (M := ng197) (F := ([⟨g203, [.int .i64 t190], 1⟩, ⟨g201, [.int .i64 t189], 1⟩, ⟨b200, [.int .i64 t189, .int .i64 t190], 2⟩, ⟨g199, [.int .i64 a0_1, .int .i64 t188], ng199⟩, ⟨g198, [.int .i64 t188], 1⟩, ⟨g196, [.int .i64 t187], 1⟩, ⟨b195, [.int .i64 t187, .int .i64 t188], 2⟩, ⟨N194, [.int .i64 t186, .int .i64 t187, .int .i64 t188, .int .i64 t189, .int .i64 t190, .int .i64 t191, .int .i64 t192], 7⟩, ⟨b182, [.int .i64 0, .int .i64 0], 2⟩, ⟨b181, [.int .i64 2, .int .i64 s1_1, .int .i64 s1_2, .int .i64 s1_3, .int .i64 s1_4, .int .i64 s1_5, .int .i64 s1_6], 7⟩, ⟨b180, [.int .i64 a0_0, .int .i64 a0_1], 2⟩] : List Own)) (news := [.int .i64 t189]) rfl rfl rfl rfl (sel_perm (is := [5]) (by kernel_rfl)) (.at 1 rfl rfl) (by kernel_rfl) rfl rfl (by decide) (by decide) rfl fun g202 ng202 => ?_
          refine t_keep [2, 3, 8, 9, 10, 20, 21, 22, 30, 31, 34] (σ' := [(2, .int .i64 i2), (3, .int .i64 n3), (8, .pointer (some ⟨b182, 0, none⟩)), (9, .slice (some ⟨g197, 0, none⟩) 2 (ng197 / 1)), (10, .slice (some ⟨g199, 0, none⟩) 2 (ng199 / 1)), (20, .slice (some ⟨N194, 1, none⟩) 2 3), (21, .int .i64 2), (22, .int .i64 1), (30, .slice (some ⟨g202, 0, none⟩) 3 (ng202 / 1)), (31, .slice (some ⟨g199, 0, none⟩) 2 (ng199 / 1)), (34, .slice (some ⟨g203, 0, none⟩) 1 1)]) (by kernel_rfl) ?_
          refine t_vs (H' := ([⟨g203, [.int .i64 t190], 1⟩, ⟨g202, [.int .i64 a0_0, .int .i64 t187, .int .i64 t189], ng202⟩, ⟨g201, [.int .i64 t189], 1⟩, ⟨b200, [.int .i64 t189, .int .i64 t190], 2⟩, ⟨g199, [.int .i64 a0_1, .int .i64 t188], ng199⟩, ⟨g198, [.int .i64 t188], 1⟩, ⟨g196, [.int .i64 t187], 1⟩, ⟨b195, [.int .i64 t187, .int .i64 t188], 2⟩, ⟨N194, [.int .i64 t186, .int .i64 t187, .int .i64 t188, .int .i64 t189, .int .i64 t190, .int .i64 t191, .int .i64 t192], 7⟩, ⟨b182, [.int .i64 0, .int .i64 0], 2⟩, ⟨b181, [.int .i64 2, .int .i64 s1_1, .int .i64 s1_2, .int .i64 s1_3, .int .i64 s1_4, .int .i64 s1_5, .int .i64 s1_6], 7⟩, ⟨b180, [.int .i64 a0_0, .int .i64 a0_1], 2⟩] : List Own)) (S' := S) (VS.sel [1, 0, 0, 0, 0, 0, 0, 0, 0, 0, 0, 0] (by kernel_rfl)) ?_
          refine t_end ?_
          exact ⟨hg_1ff g203 g202 ng202 g201, rfl⟩
      have hg_1e7 : ∀ (g203 : Nat), G [true, true, true, false, false, true, true, true, true, false, false, false] [(2, .int .i64 i2), (3, .int .i64 n3), (8, .pointer (some ⟨b182, 0, none⟩)), (9, .slice (some ⟨g197, 0, none⟩) 2 (ng197 / 1)), (10, .slice (some ⟨g199, 0, none⟩) 2 (ng199 / 1)), (20, .slice (some ⟨N194, 1, none⟩) 2 3), (21, .int .i64 2), (22, .int .i64 1), (26, .slice (some ⟨g197, 0, none⟩) 2 (ng197 / 1)), (28, .int .i64 t189), (31, .slice (some ⟨g199, 0, none⟩) 2 (ng199 / 1)), (34, .slice (some ⟨g203, 0, none⟩) 1 1)] ([⟨g203, [.int .i64 t190], 1⟩, ⟨b200, [.int .i64 t189, .int .i64 t190], 2⟩, ⟨g199, [.int .i64 a0_1, .int .i64 t188], ng199⟩, ⟨g198, [.int .i64 t188], 1⟩, ⟨g197, [.int .i64 a0_0, .int .i64 t187], ng197⟩, ⟨g196, [.int .i64 t187], 1⟩, ⟨b195, [.int .i64 t187, .int .i64 t188], 2⟩, ⟨N194, [.int .i64 t186, .int .i64 t187, .int .i64 t188, .int .i64 t189, .int .i64 t190, .int .i64 t191, .int .i64 t192], 7⟩, ⟨b182, [.int .i64 0, .int .i64 0], 2⟩, ⟨b181, [.int .i64 2, .int .i64 s1_1, .int .i64 s1_2, .int .i64 s1_3, .int .i64 s1_4, .int .i64 s1_5, .int .i64 s1_6], 7⟩, ⟨b180, [.int .i64 a0_0, .int .i64 a0_1], 2⟩] : List Own) := by
        intro g203
        refine hstep [3] _ _ _ (by kernel_rfl) (List.cons_ne_nil _ _) ⟨?_, trivial⟩
        · show T _ _ _ _ _ _ _ _
          refine t_a (.bsl rfl rfl rfl rfl) fun g201 fg201 sg201 => ?_
          refine t_keep [2, 3, 8, 9, 10, 20, 21, 22, 26, 29, 31, 34] (σ' := [(2, .int .i64 i2), (3, .int .i64 n3), (8, .pointer (some ⟨b182, 0, none⟩)), (9, .slice (some ⟨g197, 0, none⟩) 2 (ng197 / 1)), (10, .slice (some ⟨g199, 0, none⟩) 2 (ng199 / 1)), (20, .slice (some ⟨N194, 1, none⟩) 2 3), (21, .int .i64 2), (22, .int .i64 1), (26, .slice (some ⟨g197, 0, none⟩) 2 (ng197 / 1)), (29, .slice (some ⟨g201, 0, none⟩) 1 1), (31, .slice (some ⟨g199, 0, none⟩) 2 (ng199 / 1)), (34, .slice (some ⟨g203, 0, none⟩) 1 1)]) (by kernel_rfl) ?_
          refine t_vs (H' := ([⟨g203, [.int .i64 t190], 1⟩, ⟨g201, [.int .i64 t189], 1⟩, ⟨b200, [.int .i64 t189, .int .i64 t190], 2⟩, ⟨g199, [.int .i64 a0_1, .int .i64 t188], ng199⟩, ⟨g198, [.int .i64 t188], 1⟩, ⟨g197, [.int .i64 a0_0, .int .i64 t187], ng197⟩, ⟨g196, [.int .i64 t187], 1⟩, ⟨b195, [.int .i64 t187, .int .i64 t188], 2⟩, ⟨N194, [.int .i64 t186, .int .i64 t187, .int .i64 t188, .int .i64 t189, .int .i64 t190, .int .i64 t191, .int .i64 t192], 7⟩, ⟨b182, [.int .i64 0, .int .i64 0], 2⟩, ⟨b181, [.int .i64 2, .int .i64 s1_1, .int .i64 s1_2, .int .i64 s1_3, .int .i64 s1_4, .int .i64 s1_5, .int .i64 s1_6], 7⟩, ⟨b180, [.int .i64 a0_0, .int .i64 a0_1], 2⟩] : List Own)) (S' := S) (VS.sel [1, 0, 0, 0, 0, 0, 0, 0, 0, 0, 0, 0] (by kernel_rfl)) ?_
          refine t_end ?_
          exact ⟨hg_1ef g203 g201, rfl⟩
      have hg_ef : ∀ (g201 : Nat), G [true, true, true, true, false, true, true, true, false, false, false, false] [(2, .int .i64 i2), (3, .int .i64 n3), (8, .pointer (some ⟨b182, 0, none⟩)), (9, .slice (some ⟨g197, 0, none⟩) 2 (ng197 / 1)), (10, .slice (some ⟨g199, 0, none⟩) 2 (ng199 / 1)), (20, .slice (some ⟨N194, 1, none⟩) 2 3), (21, .int .i64 2), (22, .int .i64 1), (26, .slice (some ⟨g197, 0, none⟩) 2 (ng197 / 1)), (29, .slice (some ⟨g201, 0, none⟩) 1 1), (31, .slice (some ⟨g199, 0, none⟩) 2 (ng199 / 1)), (33, .int .i64 t190)] ([⟨g201, [.int .i64 t189], 1⟩, ⟨b200, [.int .i64 t189, .int .i64 t190], 2⟩, ⟨g199, [.int .i64 a0_1, .int .i64 t188], ng199⟩, ⟨g198, [.int .i64 t188], 1⟩, ⟨g197, [.int .i64 a0_0, .int .i64 t187], ng197⟩, ⟨g196, [.int .i64 t187], 1⟩, ⟨b195, [.int .i64 t187, .int .i64 t188], 2⟩, ⟨N194, [.int .i64 t186, .int .i64 t187, .int .i64 t188, .int .i64 t189, .int .i64 t190, .int .i64 t191, .int .i64 t192], 7⟩, ⟨b182, [.int .i64 0, .int .i64 0], 2⟩, ⟨b181, [.int .i64 2, .int .i64 s1_1, .int .i64 s1_2, .int .i64 s1_3, .int .i64 s1_4, .int .i64 s1_5, .int .i64 s1_6], 7⟩, ⟨b180, [.int .i64 a0_0, .int .i64 a0_1], 2⟩] : List Own) := by
        intro g201
        refine hstep [4, 8] _ _ _ (by kernel_rfl) (List.cons_ne_nil _ _) ⟨?_, ?_, trivial⟩
        · show T _ _ _ _ _ _ _ _
          refine t_app1 (cs := [.int .i64 a0_0, .int .i64 t187]) (M := ng197) (F := ([⟨g201, [.int .i64 t189], 1⟩, ⟨b200, [.int .i64 t189, .int .i64 t190], 2⟩, ⟨g199, [.int .i64 a0_1, .int .i64 t188], ng199⟩, ⟨g198, [.int .i64 t188], 1⟩, ⟨g196, [.int .i64 t187], 1⟩, ⟨b195, [.int .i64 t187, .int .i64 t188], 2⟩, ⟨N194, [.int .i64 t186, .int .i64 t187, .int .i64 t188, .int .i64 t189, .int .i64 t190, .int .i64 t191, .int .i64 t192], 7⟩, ⟨b182, [.int .i64 0, .int .i64 0], 2⟩, ⟨b181, [.int .i64 2, .int .i64 s1_1, .int .i64 s1_2, .int .i64 s1_3, .int .i64 s1_4, .int .i64 s1_5, .int .i64 s1_6], 7⟩, ⟨b180, [.int .i64 a0_0, .int .i64 a0_1], 2⟩] : List Own)) (news := [.int .i64 t189]) rfl rfl rfl rfl (sel_perm (is := [4]) (by kernel_rfl)) (.at 0 rfl rfl) (by kernel_rfl) rfl rfl (by decide) (by decide) rfl fun g202 ng202 => ?_
          refine t_keep [2, 3, 8, 9, 10, 20, 21, 22, 30, 31, 33] (σ' := [(2, .int .i64 i2), (3, .int .i64 n3), (8, .pointer (some ⟨b182, 0, none⟩)), (9, .slice (some ⟨g197, 0, none⟩) 2 (ng197 / 1)), (10, .slice (some ⟨g199, 0, none⟩) 2 (ng199 / 1)), (20, .slice (some ⟨N194, 1, none⟩) 2 3), (21, .int .i64 2), (22, .int .i64 1), (30, .slice (some ⟨g202, 0, none⟩) 3 (ng202 / 1)), (31, .slice (some ⟨g199, 0, none⟩) 2 (ng199 / 1)), (33, .int .i64 t190)]) (by kernel_rfl) ?_
          refine t_end ?_
          exact ⟨hg_ff g202 ng202 g201, rfl⟩
        · show T _ _ _ _ _ _ _ _
          refine t_a (.bsl rfl rfl rfl rfl) fun g203 fg203 sg203 => ?_
          refine t_keep [2, 3, 8, 9, 10, 20, 21, 22, 26, 29, 31, 34] (σ' := [(2, .int .i64 i2), (3, .int .i64 n3), (8, .pointer (some ⟨b182, 0, none⟩)), (9, .slice (some ⟨g197, 0, none⟩) 2 (ng197 / 1)), (10, .slice (some ⟨g199, 0, none⟩) 2 (ng199 / 1)), (20, .slice (some ⟨N194, 1, none⟩) 2 3), (21, .int .i64 2), (22, .int .i64 1), (26, .slice (some ⟨g197, 0, none⟩) 2 (ng197 / 1)), (29, .slice (some ⟨g201, 0, none⟩) 1 1), (31, .slice (some ⟨g199, 0, none⟩) 2 (ng199 / 1)), (34, .slice (some ⟨g203, 0, none⟩) 1 1)]) (by kernel_rfl) ?_
          refine t_end ?_
          exact ⟨hg_1ef g203 g201, rfl⟩
      have hg_7f : ∀ (g202 : Nat) (ng202 : Nat) (g201 : Nat), G [true, true, true, true, true, true, true, false, false, false, false, false] [(2, .int .i64 i2), (3, .int .i64 n3), (8, .pointer (some ⟨b182, 0, none⟩)), (9, .slice (some ⟨g197, 0, none⟩) 2 (ng197 / 1)), (10, .slice (some ⟨g199, 0, none⟩) 2 (ng199 / 1)), (20, .slice (some ⟨N194, 1, none⟩) 2 3), (21, .int .i64 2), (22, .int .i64 1), (30, .slice (some ⟨g202, 0, none⟩) 3 (ng202 / 1)), (31, .slice (some ⟨g199, 0, none⟩) 2 (ng199 / 1)), (32, .pointer (some ⟨b200, 1, none⟩))] ([⟨g202, [.int .i64 a0_0, .int .i64 t187, .int .i64 t189], ng202⟩, ⟨g201, [.int .i64 t189], 1⟩, ⟨b200, [.int .i64 t189, .int .i64 t190], 2⟩, ⟨g199, [.int .i64 a0_1, .int .i64 t188], ng199⟩, ⟨g198, [.int .i64 t188], 1⟩, ⟨g196, [.int .i64 t187], 1⟩, ⟨b195, [.int .i64 t187, .int .i64 t188], 2⟩, ⟨N194, [.int .i64 t186, .int .i64 t187, .int .i64 t188, .int .i64 t189, .int .i64 t190, .int .i64 t191, .int .i64 t192], 7⟩, ⟨b182, [.int .i64 0, .int .i64 0], 2⟩, ⟨b181, [.int .i64 2, .int .i64 s1_1, .int .i64 s1_2, .int .i64 s1_3, .int .i64 s1_4, .int .i64 s1_5, .int .i64 s1_6], 7⟩, ⟨b180, [.int .i64 a0_0, .int .i64 a0_1], 2⟩] : List Own) := by
        intro g202 ng202 g201
        refine hstep [7] _ _ _ (by kernel_rfl) (List.cons_ne_nil _ _) ⟨?_, trivial⟩
        · show T _ _ _ _ _ _ _ _
          refine t_v (.ld1 rfl rfl rfl (.at 2 rfl rfl)) ?_
          refine t_keep [2, 3, 8, 9, 10, 20, 21, 22, 30, 31, 33] (σ' := [(2, .int .i64 i2), (3, .int .i64 n3), (8, .pointer (some ⟨b182, 0, none⟩)), (9, .slice (some ⟨g197, 0, none⟩) 2 (ng197 / 1)), (10, .slice (some ⟨g199, 0, none⟩) 2 (ng199 / 1)), (20, .slice (some ⟨N194, 1, none⟩) 2 3), (21, .int .i64 2), (22, .int .i64 1), (30, .slice (some ⟨g202, 0, none⟩) 3 (ng202 / 1)), (31, .slice (some ⟨g199, 0, none⟩) 2 (ng199 / 1)), (33, .int .i64 t190)]) (by kernel_rfl) ?_
          refine t_end ?_
          exact ⟨hg_ff g202 ng202 g201, rfl⟩
      have hg_1e3 : ∀ (g203 : Nat), G [true, true, false, false, false, true, true, true, true, false, false, false] [(2, .int .i64 i2), (3, .int .i64 n3), (8, .pointer (some ⟨b182, 0, none⟩)), (9, .slice (some ⟨g197, 0, none⟩) 2 (ng197 / 1)), (10, .slice (some ⟨g199, 0, none⟩) 2 (ng199 / 1)), (20, .slice (some ⟨N194, 1, none⟩) 2 3), (21, .int .i64 2), (22, .int .i64 1), (26, .slice (some ⟨g197, 0, none⟩) 2 (ng197 / 1)), (27, .pointer (some ⟨b200, 0, none⟩)), (31, .slice (some ⟨g199, 0, none⟩) 2 (ng199 / 1)), (34, .slice (some ⟨g203, 0, none⟩) 1 1)] ([⟨g203, [.int .i64 t190], 1⟩, ⟨b200, [.int .i64 t189, .int .i64 t190], 2⟩, ⟨g199, [.int .i64 a0_1, .int .i64 t188], ng199⟩, ⟨g198, [.int .i64 t188], 1⟩, ⟨g197, [.int .i64 a0_0, .int .i64 t187], ng197⟩, ⟨g196, [.int .i64 t187], 1⟩, ⟨b195, [.int .i64 t187, .int .i64 t188], 2⟩, ⟨N194, [.int .i64 t186, .int .i64 t187, .int .i64 t188, .int .i64 t189, .int .i64 t190, .int .i64 t191, .int .i64 t192], 7⟩, ⟨b182, [.int .i64 0, .int .i64 0], 2⟩, ⟨b181, [.int .i64 2, .int .i64 s1_1, .int .i64 s1_2, .int .i64 s1_3, .int .i64 s1_4, .int .i64 s1_5, .int .i64 s1_6], 7⟩, ⟨b180, [.int .i64 a0_0, .int .i64 a0_1], 2⟩] : List Own) := by
        intro g203
        refine hstep [2] _ _ _ (by kernel_rfl) (List.cons_ne_nil _ _) ⟨?_, trivial⟩
        · show T _ _ _ _ _ _ _ _
          refine t_v (.ld1 rfl rfl rfl (.at 1 rfl rfl)) ?_
          refine t_keep [2, 3, 8, 9, 10, 20, 21, 22, 26, 28, 31, 34] (σ' := [(2, .int .i64 i2), (3, .int .i64 n3), (8, .pointer (some ⟨b182, 0, none⟩)), (9, .slice (some ⟨g197, 0, none⟩) 2 (ng197 / 1)), (10, .slice (some ⟨g199, 0, none⟩) 2 (ng199 / 1)), (20, .slice (some ⟨N194, 1, none⟩) 2 3), (21, .int .i64 2), (22, .int .i64 1), (26, .slice (some ⟨g197, 0, none⟩) 2 (ng197 / 1)), (28, .int .i64 t189), (31, .slice (some ⟨g199, 0, none⟩) 2 (ng199 / 1)), (34, .slice (some ⟨g203, 0, none⟩) 1 1)]) (by kernel_rfl) ?_
          refine t_end ?_
          exact ⟨hg_1e7 g203, rfl⟩
      have hg_e7 : G [true, true, true, false, false, true, true, true, false, false, false, false] [(2, .int .i64 i2), (3, .int .i64 n3), (8, .pointer (some ⟨b182, 0, none⟩)), (9, .slice (some ⟨g197, 0, none⟩) 2 (ng197 / 1)), (10, .slice (some ⟨g199, 0, none⟩) 2 (ng199 / 1)), (20, .slice (some ⟨N194, 1, none⟩) 2 3), (21, .int .i64 2), (22, .int .i64 1), (26, .slice (some ⟨g197, 0, none⟩) 2 (ng197 / 1)), (28, .int .i64 t189), (31, .slice (some ⟨g199, 0, none⟩) 2 (ng199 / 1)), (33, .int .i64 t190)] ([⟨b200, [.int .i64 t189, .int .i64 t190], 2⟩, ⟨g199, [.int .i64 a0_1, .int .i64 t188], ng199⟩, ⟨g198, [.int .i64 t188], 1⟩, ⟨g197, [.int .i64 a0_0, .int .i64 t187], ng197⟩, ⟨g196, [.int .i64 t187], 1⟩, ⟨b195, [.int .i64 t187, .int .i64 t188], 2⟩, ⟨N194, [.int .i64 t186, .int .i64 t187, .int .i64 t188, .int .i64 t189, .int .i64 t190, .int .i64 t191, .int .i64 t192], 7⟩, ⟨b182, [.int .i64 0, .int .i64 0], 2⟩, ⟨b181, [.int .i64 2, .int .i64 s1_1, .int .i64 s1_2, .int .i64 s1_3, .int .i64 s1_4, .int .i64 s1_5, .int .i64 s1_6], 7⟩, ⟨b180, [.int .i64 a0_0, .int .i64 a0_1], 2⟩] : List Own) := by
        refine hstep [3, 8] _ _ _ (by kernel_rfl) (List.cons_ne_nil _ _) ⟨?_, ?_, trivial⟩
        · show T _ _ _ _ _ _ _ _
          refine t_a (.bsl rfl rfl rfl rfl) fun g201 fg201 sg201 => ?_
          refine t_keep [2, 3, 8, 9, 10, 20, 21, 22, 26, 29, 31, 33] (σ' := [(2, .int .i64 i2), (3, .int .i64 n3), (8, .pointer (some ⟨b182, 0, none⟩)), (9, .slice (some ⟨g197, 0, none⟩) 2 (ng197 / 1)), (10, .slice (some ⟨g199, 0, none⟩) 2 (ng199 / 1)), (20, .slice (some ⟨N194, 1, none⟩) 2 3), (21, .int .i64 2), (22, .int .i64 1), (26, .slice (some ⟨g197, 0, none⟩) 2 (ng197 / 1)), (29, .slice (some ⟨g201, 0, none⟩) 1 1), (31, .slice (some ⟨g199, 0, none⟩) 2 (ng199 / 1)), (33, .int .i64 t190)]) (by kernel_rfl) ?_
          refine t_end ?_
          exact ⟨hg_ef g201, rfl⟩
        · show T _ _ _ _ _ _ _ _
          refine t_a (.bsl rfl rfl rfl rfl) fun g203 fg203 sg203 => ?_
          refine t_keep [2, 3, 8, 9, 10, 20, 21, 22, 26, 28, 31, 34] (σ' := [(2, .int .i64 i2), (3, .int .i64 n3), (8, .pointer (some ⟨b182, 0, none⟩)), (9, .slice (some ⟨g197, 0, none⟩) 2 (ng197 / 1)), (10, .slice (some ⟨g199, 0, none⟩) 2 (ng199 / 1)), (20, .slice (some ⟨N194, 1, none⟩) 2 3), (21, .int .i64 2), (22, .int .i64 1), (26, .slice (some ⟨g197, 0, none⟩) 2 (ng197 / 1)), (28, .int .i64 t189), (31, .slice (some ⟨g199, 0, none⟩) 2 (ng199 / 1)), (34, .slice (some ⟨g203, 0, none⟩) 1 1)]) (by kernel_rfl) ?_
          refine t_end ?_
          exact ⟨hg_1e7 g203, rfl⟩
      have hg_6f : ∀ (g201 : Nat), G [true, true, true, true, false, true, true, false, false, false, false, false] [(2, .int .i64 i2), (3, .int .i64 n3), (8, .pointer (some ⟨b182, 0, none⟩)), (9, .slice (some ⟨g197, 0, none⟩) 2 (ng197 / 1)), (10, .slice (some ⟨g199, 0, none⟩) 2 (ng199 / 1)), (20, .slice (some ⟨N194, 1, none⟩) 2 3), (21, .int .i64 2), (22, .int .i64 1), (26, .slice (some ⟨g197, 0, none⟩) 2 (ng197 / 1)), (29, .slice (some ⟨g201, 0, none⟩) 1 1), (31, .slice (some ⟨g199, 0, none⟩) 2 (ng199 / 1)), (32, .pointer (some ⟨b200, 1, none⟩))] ([⟨g201, [.int .i64 t189], 1⟩, ⟨b200, [.int .i64 t189, .int .i64 t190], 2⟩, ⟨g199, [.int .i64 a0_1, .int .i64 t188], ng199⟩, ⟨g198, [.int .i64 t188], 1⟩, ⟨g197, [.int .i64 a0_0, .int .i64 t187], ng197⟩, ⟨g196, [.int .i64 t187], 1⟩, ⟨b195, [.int .i64 t187, .int .i64 t188], 2⟩, ⟨N194, [.int .i64 t186, .int .i64 t187, .int .i64 t188, .int .i64 t189, .int .i64 t190, .int .i64 t191, .int .i64 t192], 7⟩, ⟨b182, [.int .i64 0, .int .i64 0], 2⟩, ⟨b181, [.int .i64 2, .int .i64 s1_1, .int .i64 s1_2, .int .i64 s1_3, .int .i64 s1_4, .int .i64 s1_5, .int .i64 s1_6], 7⟩, ⟨b180, [.int .i64 a0_0, .int .i64 a0_1], 2⟩] : List Own) := by
        intro g201
        refine hstep [4, 7] _ _ _ (by kernel_rfl) (List.cons_ne_nil _ _) ⟨?_, ?_, trivial⟩
        · show T _ _ _ _ _ _ _ _
          refine t_app1 (cs := [.int .i64 a0_0, .int .i64 t187]) (M := ng197) (F := ([⟨g201, [.int .i64 t189], 1⟩, ⟨b200, [.int .i64 t189, .int .i64 t190], 2⟩, ⟨g199, [.int .i64 a0_1, .int .i64 t188], ng199⟩, ⟨g198, [.int .i64 t188], 1⟩, ⟨g196, [.int .i64 t187], 1⟩, ⟨b195, [.int .i64 t187, .int .i64 t188], 2⟩, ⟨N194, [.int .i64 t186, .int .i64 t187, .int .i64 t188, .int .i64 t189, .int .i64 t190, .int .i64 t191, .int .i64 t192], 7⟩, ⟨b182, [.int .i64 0, .int .i64 0], 2⟩, ⟨b181, [.int .i64 2, .int .i64 s1_1, .int .i64 s1_2, .int .i64 s1_3, .int .i64 s1_4, .int .i64 s1_5, .int .i64 s1_6], 7⟩, ⟨b180, [.int .i64 a0_0, .int .i64 a0_1], 2⟩] : List Own)) (news := [.int .i64 t189]) rfl rfl rfl rfl (sel_perm (is := [4]) (by kernel_rfl)) (.at 0 rfl rfl) (by kernel_rfl) rfl rfl (by decide) (by decide) rfl fun g202 ng202 => ?_
          refine t_keep [2, 3, 8, 9, 10, 20, 21, 22, 30, 31, 32] (σ' := [(2, .int .i64 i2), (3, .int .i64 n3), (8, .pointer (some ⟨b182, 0, none⟩)), (9, .slice (some ⟨g197, 0, none⟩) 2 (ng197 / 1)), (10, .slice (some ⟨g199, 0, none⟩) 2 (ng199 / 1)), (20, .slice (some ⟨N194, 1, none⟩) 2 3), (21, .int .i64 2), (22, .int .i64 1), (30, .slice (some ⟨g202, 0, none⟩) 3 (ng202 / 1)), (31, .slice (some ⟨g199, 0, none⟩) 2 (ng199 / 1)), (32, .pointer (some ⟨b200, 1, none⟩))]) (by kernel_rfl) ?_
          refine t_end ?_
          exact ⟨hg_7f g202 ng202 g201, rfl⟩
        · show T _ _ _ _ _ _ _ _
          refine t_v (.ld1 rfl rfl rfl (.at 1 rfl rfl)) ?_
          refine t_keep [2, 3, 8, 9, 10, 20, 21, 22, 26, 29, 31, 33] (σ' := [(2, .int .i64 i2), (3, .int .i64 n3), (8, .pointer (some ⟨b182, 0, none⟩)), (9, .slice (some ⟨g197, 0, none⟩) 2 (ng197 / 1)), (10, .slice (some ⟨g199, 0, none⟩) 2 (ng199 / 1)), (20, .slice (some ⟨N194, 1, none⟩) 2 3), (21, .int .i64 2), (22, .int .i64 1), (26, .slice (some ⟨g197, 0, none⟩) 2 (ng197 / 1)), (29, .slice (some ⟨g201, 0, none⟩) 1 1), (31, .slice (some ⟨g199, 0, none⟩) 2 (ng199 / 1)), (33, .int .i64 t190)]) (by kernel_rfl) ?_
          refine t_end ?_
          exact ⟨hg_ef g201, rfl⟩
      have hg_e3 : G [true, true, false, false, false, true, true, true, false, false, false, false] [(2, .int .i64 i2), (3, .int .i64 n3), (8, .pointer (some ⟨b182, 0, none⟩)), (9, .slice (some ⟨g197, 0, none⟩) 2 (ng197 / 1)), (10, .slice (some ⟨g199, 0, none⟩) 2 (ng199 / 1)), (20, .slice (some ⟨N194, 1, none⟩) 2 3), (21, .int .i64 2), (22, .int .i64 1), (26, .slice (some ⟨g197, 0, none⟩) 2 (ng197 / 1)), (27, .pointer (some ⟨b200, 0, none⟩)), (31, .slice (some ⟨g199, 0, none⟩) 2 (ng199 / 1)), (33, .int .i64 t190)] ([⟨b200, [.int .i64 t189, .int .i64 t190], 2⟩, ⟨g199, [.int .i64 a0_1, .int .i64 t188], ng199⟩, ⟨g198, [.int .i64 t188], 1⟩, ⟨g197, [.int .i64 a0_0, .int .i64 t187], ng197⟩, ⟨g196, [.int .i64 t187], 1⟩, ⟨b195, [.int .i64 t187, .int .i64 t188], 2⟩, ⟨N194, [.int .i64 t186, .int .i64 t187, .int .i64 t188, .int .i64 t189, .int .i64 t190, .int .i64 t191, .int .i64 t192], 7⟩, ⟨b182, [.int .i64 0, .int .i64 0], 2⟩, ⟨b181, [.int .i64 2, .int .i64 s1_1, .int .i64 s1_2, .int .i64 s1_3, .int .i64 s1_4, .int .i64 s1_5, .int .i64 s1_6], 7⟩, ⟨b180, [.int .i64 a0_0, .int .i64 a0_1], 2⟩] : List Own) := by
        refine hstep [2, 8] _ _ _ (by kernel_rfl) (List.cons_ne_nil _ _) ⟨?_, ?_, trivial⟩
        · show T _ _ _ _ _ _ _ _
          refine t_v (.ld1 rfl rfl rfl (.at 0 rfl rfl)) ?_
          refine t_keep [2, 3, 8, 9, 10, 20, 21, 22, 26, 28, 31, 33] (σ' := [(2, .int .i64 i2), (3, .int .i64 n3), (8, .pointer (some ⟨b182, 0, none⟩)), (9, .slice (some ⟨g197, 0, none⟩) 2 (ng197 / 1)), (10, .slice (some ⟨g199, 0, none⟩) 2 (ng199 / 1)), (20, .slice (some ⟨N194, 1, none⟩) 2 3), (21, .int .i64 2), (22, .int .i64 1), (26, .slice (some ⟨g197, 0, none⟩) 2 (ng197 / 1)), (28, .int .i64 t189), (31, .slice (some ⟨g199, 0, none⟩) 2 (ng199 / 1)), (33, .int .i64 t190)]) (by kernel_rfl) ?_
          refine t_end ?_
          exact ⟨hg_e7, rfl⟩
        · show T _ _ _ _ _ _ _ _
          refine t_a (.bsl rfl rfl rfl rfl) fun g203 fg203 sg203 => ?_
          refine t_keep [2, 3, 8, 9, 10, 20, 21, 22, 26, 27, 31, 34] (σ' := [(2, .int .i64 i2), (3, .int .i64 n3), (8, .pointer (some ⟨b182, 0, none⟩)), (9, .slice (some ⟨g197, 0, none⟩) 2 (ng197 / 1)), (10, .slice (some ⟨g199, 0, none⟩) 2 (ng199 / 1)), (20, .slice (some ⟨N194, 1, none⟩) 2 3), (21, .int .i64 2), (22, .int .i64 1), (26, .slice (some ⟨g197, 0, none⟩) 2 (ng197 / 1)), (27, .pointer (some ⟨b200, 0, none⟩)), (31, .slice (some ⟨g199, 0, none⟩) 2 (ng199 / 1)), (34, .slice (some ⟨g203, 0, none⟩) 1 1)]) (by kernel_rfl) ?_
          refine t_end ?_
          exact ⟨hg_1e3 g203, rfl⟩
      have hg_67 : G [true, true, true, false, false, true, true, false, false, false, false, false] [(2, .int .i64 i2), (3, .int .i64 n3), (8, .pointer (some ⟨b182, 0, none⟩)), (9, .slice (some ⟨g197, 0, none⟩) 2 (ng197 / 1)), (10, .slice (some ⟨g199, 0, none⟩) 2 (ng199 / 1)), (20, .slice (some ⟨N194, 1, none⟩) 2 3), (21, .int .i64 2), (22, .int .i64 1), (26, .slice (some ⟨g197, 0, none⟩) 2 (ng197 / 1)), (28, .int .i64 t189), (31, .slice (some ⟨g199, 0, none⟩) 2 (ng199 / 1)), (32, .pointer (some ⟨b200, 1, none⟩))] ([⟨b200, [.int .i64 t189, .int .i64 t190], 2⟩, ⟨g199, [.int .i64 a0_1, .int .i64 t188], ng199⟩, ⟨g198, [.int .i64 t188], 1⟩, ⟨g197, [.int .i64 a0_0, .int .i64 t187], ng197⟩, ⟨g196, [.int .i64 t187], 1⟩, ⟨b195, [.int .i64 t187, .int .i64 t188], 2⟩, ⟨N194, [.int .i64 t186, .int .i64 t187, .int .i64 t188, .int .i64 t189, .int .i64 t190, .int .i64 t191, .int .i64 t192], 7⟩, ⟨b182, [.int .i64 0, .int .i64 0], 2⟩, ⟨b181, [.int .i64 2, .int .i64 s1_1, .int .i64 s1_2, .int .i64 s1_3, .int .i64 s1_4, .int .i64 s1_5, .int .i64 s1_6], 7⟩, ⟨b180, [.int .i64 a0_0, .int .i64 a0_1], 2⟩] : List Own) := by
        refine hstep [3, 7] _ _ _ (by kernel_rfl) (List.cons_ne_nil _ _) ⟨?_, ?_, trivial⟩
        · show T _ _ _ _ _ _ _ _
          refine t_a (.bsl rfl rfl rfl rfl) fun g201 fg201 sg201 => ?_
          refine t_keep [2, 3, 8, 9, 10, 20, 21, 22, 26, 29, 31, 32] (σ' := [(2, .int .i64 i2), (3, .int .i64 n3), (8, .pointer (some ⟨b182, 0, none⟩)), (9, .slice (some ⟨g197, 0, none⟩) 2 (ng197 / 1)), (10, .slice (some ⟨g199, 0, none⟩) 2 (ng199 / 1)), (20, .slice (some ⟨N194, 1, none⟩) 2 3), (21, .int .i64 2), (22, .int .i64 1), (26, .slice (some ⟨g197, 0, none⟩) 2 (ng197 / 1)), (29, .slice (some ⟨g201, 0, none⟩) 1 1), (31, .slice (some ⟨g199, 0, none⟩) 2 (ng199 / 1)), (32, .pointer (some ⟨b200, 1, none⟩))]) (by kernel_rfl) ?_
          refine t_end ?_
          exact ⟨hg_6f g201, rfl⟩
        · show T _ _ _ _ _ _ _ _
          refine t_v (.ld1 rfl rfl rfl (.at 0 rfl rfl)) ?_
          refine t_keep [2, 3, 8, 9, 10, 20, 21, 22, 26, 28, 31, 33] (σ' := [(2, .int .i64 i2), (3, .int .i64 n3), (8, .pointer (some ⟨b182, 0, none⟩)), (9, .slice (some ⟨g197, 0, none⟩) 2 (ng197 / 1)), (10, .slice (some ⟨g199, 0, none⟩) 2 (ng199 / 1)), (20, .slice (some ⟨N194, 1, none⟩) 2 3), (21, .int .i64 2), (22, .int .i64 1), (26, .slice (some ⟨g197, 0, none⟩) 2 (ng197 / 1)), (28, .int .i64 t189), (31, .slice (some ⟨g199, 0, none⟩) 2 (ng199 / 1)), (33, .int .i64 t190)]) (by kernel_rfl) ?_
          refine t_end ?_
          exact ⟨hg_e7, rfl⟩
      have hg_63 : G [true, true, false, false, false, true, true, false, false, false, false, false] [(2, .int .i64 i2), (3, .int .i64 n3), (8, .pointer (some ⟨b182, 0, none⟩)), (9, .slice (some ⟨g197, 0, none⟩) 2 (ng197 / 1)), (10, .slice (some ⟨g199, 0, none⟩) 2 (ng199 / 1)), (20, .slice (some ⟨N194, 1, none⟩) 2 3), (21, .int .i64 2), (22, .int .i64 1), (26, .slice (some ⟨g197, 0, none⟩) 2 (ng197 / 1)), (27, .pointer (some ⟨b200, 0, none⟩)), (31, .slice (some ⟨g199, 0, none⟩) 2 (ng199 / 1)), (32, .pointer (some ⟨b200, 1, none⟩))] ([⟨b200, [.int .i64 t189, .int .i64 t190], 2⟩, ⟨g199, [.int .i64 a0_1, .int .i64 t188], ng199⟩, ⟨g198, [.int .i64 t188], 1⟩, ⟨g197, [.int .i64 a0_0, .int .i64 t187], ng197⟩, ⟨g196, [.int .i64 t187], 1⟩, ⟨b195, [.int .i64 t187, .int .i64 t188], 2⟩, ⟨N194, [.int .i64 t186, .int .i64 t187, .int .i64 t188, .int .i64 t189, .int .i64 t190, .int .i64 t191, .int .i64 t192], 7⟩, ⟨b182, [.int .i64 0, .int .i64 0], 2⟩, ⟨b181, [.int .i64 2, .int .i64 s1_1, .int .i64 s1_2, .int .i64 s1_3, .int .i64 s1_4, .int .i64 s1_5, .int .i64 s1_6], 7⟩, ⟨b180, [.int .i64 a0_0, .int .i64 a0_1], 2⟩] : List Own) := by
        refine hstep [2, 7] _ _ _ (by kernel_rfl) (List.cons_ne_nil _ _) ⟨?_, ?_, trivial⟩
        · show T _ _ _ _ _ _ _ _
          refine t_v (.ld1 rfl rfl rfl (.at 0 rfl rfl)) ?_
          refine t_keep [2, 3, 8, 9, 10, 20, 21, 22, 26, 28, 31, 32] (σ' := [(2, .int .i64 i2), (3, .int .i64 n3), (8, .pointer (some ⟨b182, 0, none⟩)), (9, .slice (some ⟨g197, 0, none⟩) 2 (ng197 / 1)), (10, .slice (some ⟨g199, 0, none⟩) 2 (ng199 / 1)), (20, .slice (some ⟨N194, 1, none⟩) 2 3), (21, .int .i64 2), (22, .int .i64 1), (26, .slice (some ⟨g197, 0, none⟩) 2 (ng197 / 1)), (28, .int .i64 t189), (31, .slice (some ⟨g199, 0, none⟩) 2 (ng199 / 1)), (32, .pointer (some ⟨b200, 1, none⟩))]) (by kernel_rfl) ?_
          refine t_end ?_
          exact ⟨hg_67, rfl⟩
        · show T _ _ _ _ _ _ _ _
          refine t_v (.ld1 rfl rfl rfl (.at 0 rfl rfl)) ?_
          refine t_keep [2, 3, 8, 9, 10, 20, 21, 22, 26, 27, 31, 33] (σ' := [(2, .int .i64 i2), (3, .int .i64 n3), (8, .pointer (some ⟨b182, 0, none⟩)), (9, .slice (some ⟨g197, 0, none⟩) 2 (ng197 / 1)), (10, .slice (some ⟨g199, 0, none⟩) 2 (ng199 / 1)), (20, .slice (some ⟨N194, 1, none⟩) 2 3), (21, .int .i64 2), (22, .int .i64 1), (26, .slice (some ⟨g197, 0, none⟩) 2 (ng197 / 1)), (27, .pointer (some ⟨b200, 0, none⟩)), (31, .slice (some ⟨g199, 0, none⟩) 2 (ng199 / 1)), (33, .int .i64 t190)]) (by kernel_rfl) ?_
          refine t_end ?_
          exact ⟨hg_e3, rfl⟩
      have hg_23 : G [true, true, false, false, false, true, false, false, false, false, false, false] [(2, .int .i64 i2), (3, .int .i64 n3), (8, .pointer (some ⟨b182, 0, none⟩)), (9, .slice (some ⟨g197, 0, none⟩) 2 (ng197 / 1)), (10, .slice (some ⟨g199, 0, none⟩) 2 (ng199 / 1)), (12, .pointer (some ⟨b200, 0, none⟩)), (20, .slice (some ⟨N194, 1, none⟩) 2 3), (21, .int .i64 2), (22, .int .i64 1), (26, .slice (some ⟨g197, 0, none⟩) 2 (ng197 / 1)), (27, .pointer (some ⟨b200, 0, none⟩)), (31, .slice (some ⟨g199, 0, none⟩) 2 (ng199 / 1))] ([⟨b200, [.int .i64 t189, .int .i64 t190], 2⟩, ⟨g199, [.int .i64 a0_1, .int .i64 t188], ng199⟩, ⟨g198, [.int .i64 t188], 1⟩, ⟨g197, [.int .i64 a0_0, .int .i64 t187], ng197⟩, ⟨g196, [.int .i64 t187], 1⟩, ⟨b195, [.int .i64 t187, .int .i64 t188], 2⟩, ⟨N194, [.int .i64 t186, .int .i64 t187, .int .i64 t188, .int .i64 t189, .int .i64 t190, .int .i64 t191, .int .i64 t192], 7⟩, ⟨b182, [.int .i64 0, .int .i64 0], 2⟩, ⟨b181, [.int .i64 2, .int .i64 s1_1, .int .i64 s1_2, .int .i64 s1_3, .int .i64 s1_4, .int .i64 s1_5, .int .i64 s1_6], 7⟩, ⟨b180, [.int .i64 a0_0, .int .i64 a0_1], 2⟩] : List Own) := by
        exact hqf 6 [2, 3, 8, 9, 10, 20, 21, 22, 26, 27, 31, 32] _ _ _ [(2, .int .i64 i2), (3, .int .i64 n3), (8, .pointer (some ⟨b182, 0, none⟩)), (9, .slice (some ⟨g197, 0, none⟩) 2 (ng197 / 1)), (10, .slice (some ⟨g199, 0, none⟩) 2 (ng199 / 1)), (20, .slice (some ⟨N194, 1, none⟩) 2 3), (21, .int .i64 2), (22, .int .i64 1), (26, .slice (some ⟨g197, 0, none⟩) 2 (ng197 / 1)), (27, .pointer (some ⟨b200, 0, none⟩)), (31, .slice (some ⟨g199, 0, none⟩) 2 (ng199 / 1)), (32, .pointer (some ⟨b200, 1, none⟩))] (by kernel_rfl) (by kernel_rfl) hg_63
      have hg_3 : G [true, true, false, false, false, false, false, false, false, false, false, false] [(2, .int .i64 i2), (3, .int .i64 n3), (8, .pointer (some ⟨b182, 0, none⟩)), (9, .slice (some ⟨g197, 0, none⟩) 2 (ng197 / 1)), (10, .slice (some ⟨g199, 0, none⟩) 2 (ng199 / 1)), (12, .pointer (some ⟨b200, 0, none⟩)), (20, .slice (some ⟨N194, 1, none⟩) 2 3), (21, .int .i64 2), (22, .int .i64 1), (26, .slice (some ⟨g197, 0, none⟩) 2 (ng197 / 1)), (27, .pointer (some ⟨b200, 0, none⟩))] ([⟨b200, [.int .i64 t189, .int .i64 t190], 2⟩, ⟨g199, [.int .i64 a0_1, .int .i64 t188], ng199⟩, ⟨g198, [.int .i64 t188], 1⟩, ⟨g197, [.int .i64 a0_0, .int .i64 t187], ng197⟩, ⟨g196, [.int .i64 t187], 1⟩, ⟨b195, [.int .i64 t187, .int .i64 t188], 2⟩, ⟨N194, [.int .i64 t186, .int .i64 t187, .int .i64 t188, .int .i64 t189, .int .i64 t190, .int .i64 t191, .int .i64 t192], 7⟩, ⟨b182, [.int .i64 0, .int .i64 0], 2⟩, ⟨b181, [.int .i64 2, .int .i64 s1_1, .int .i64 s1_2, .int .i64 s1_3, .int .i64 s1_4, .int .i64 s1_5, .int .i64 s1_6], 7⟩, ⟨b180, [.int .i64 a0_0, .int .i64 a0_1], 2⟩] : List Own) := by
        exact hqf 5 [2, 3, 8, 9, 10, 12, 20, 21, 22, 26, 27, 31] _ _ _ [(2, .int .i64 i2), (3, .int .i64 n3), (8, .pointer (some ⟨b182, 0, none⟩)), (9, .slice (some ⟨g197, 0, none⟩) 2 (ng197 / 1)), (10, .slice (some ⟨g199, 0, none⟩) 2 (ng199 / 1)), (12, .pointer (some ⟨b200, 0, none⟩)), (20, .slice (some ⟨N194, 1, none⟩) 2 3), (21, .int .i64 2), (22, .int .i64 1), (26, .slice (some ⟨g197, 0, none⟩) 2 (ng197 / 1)), (27, .pointer (some ⟨b200, 0, none⟩)), (31, .slice (some ⟨g199, 0, none⟩) 2 (ng199 / 1))] (by kernel_rfl) (by kernel_rfl) hg_23
      have hg_1 : G [true, false, false, false, false, false, false, false, false, false, false, false] [(2, .int .i64 i2), (3, .int .i64 n3), (8, .pointer (some ⟨b182, 0, none⟩)), (9, .slice (some ⟨g197, 0, none⟩) 2 (ng197 / 1)), (10, .slice (some ⟨g199, 0, none⟩) 2 (ng199 / 1)), (12, .pointer (some ⟨b200, 0, none⟩)), (20, .slice (some ⟨N194, 1, none⟩) 2 3), (21, .int .i64 2), (22, .int .i64 1), (26, .slice (some ⟨g197, 0, none⟩) 2 (ng197 / 1))] ([⟨b200, [.int .i64 t189, .int .i64 t190], 2⟩, ⟨g199, [.int .i64 a0_1, .int .i64 t188], ng199⟩, ⟨g198, [.int .i64 t188], 1⟩, ⟨g197, [.int .i64 a0_0, .int .i64 t187], ng197⟩, ⟨g196, [.int .i64 t187], 1⟩, ⟨b195, [.int .i64 t187, .int .i64 t188], 2⟩, ⟨N194, [.int .i64 t186, .int .i64 t187, .int .i64 t188, .int .i64 t189, .int .i64 t190, .int .i64 t191, .int .i64 t192], 7⟩, ⟨b182, [.int .i64 0, .int .i64 0], 2⟩, ⟨b181, [.int .i64 2, .int .i64 s1_1, .int .i64 s1_2, .int .i64 s1_3, .int .i64 s1_4, .int .i64 s1_5, .int .i64 s1_6], 7⟩, ⟨b180, [.int .i64 a0_0, .int .i64 a0_1], 2⟩] : List Own) := by
        exact hqf 1 [2, 3, 8, 9, 10, 12, 20, 21, 22, 26, 27] _ _ _ [(2, .int .i64 i2), (3, .int .i64 n3), (8, .pointer (some ⟨b182, 0, none⟩)), (9, .slice (some ⟨g197, 0, none⟩) 2 (ng197 / 1)), (10, .slice (some ⟨g199, 0, none⟩) 2 (ng199 / 1)), (12, .pointer (some ⟨b200, 0, none⟩)), (20, .slice (some ⟨N194, 1, none⟩) 2 3), (21, .int .i64 2), (22, .int .i64 1), (26, .slice (some ⟨g197, 0, none⟩) 2 (ng197 / 1)), (27, .pointer (some ⟨b200, 0, none⟩))] (by kernel_rfl) (by kernel_rfl) hg_3
      have hg_0 : G [false, false, false, false, false, false, false, false, false, false, false, false] [(2, .int .i64 i2), (3, .int .i64 n3), (8, .pointer (some ⟨b182, 0, none⟩)), (9, .slice (some ⟨g197, 0, none⟩) 2 (ng197 / 1)), (10, .slice (some ⟨g199, 0, none⟩) 2 (ng199 / 1)), (12, .pointer (some ⟨b200, 0, none⟩)), (20, .slice (some ⟨N194, 1, none⟩) 2 3), (21, .int .i64 2), (22, .int .i64 1)] ([⟨b200, [.int .i64 t189, .int .i64 t190], 2⟩, ⟨g199, [.int .i64 a0_1, .int .i64 t188], ng199⟩, ⟨g198, [.int .i64 t188], 1⟩, ⟨g197, [.int .i64 a0_0, .int .i64 t187], ng197⟩, ⟨g196, [.int .i64 t187], 1⟩, ⟨b195, [.int .i64 t187, .int .i64 t188], 2⟩, ⟨N194, [.int .i64 t186, .int .i64 t187, .int .i64 t188, .int .i64 t189, .int .i64 t190, .int .i64 t191, .int .i64 t192], 7⟩, ⟨b182, [.int .i64 0, .int .i64 0], 2⟩, ⟨b181, [.int .i64 2, .int .i64 s1_1, .int .i64 s1_2, .int .i64 s1_3, .int .i64 s1_4, .int .i64 s1_5, .int .i64 s1_6], 7⟩, ⟨b180, [.int .i64 a0_0, .int .i64 a0_1], 2⟩] : List Own) := by
        exact hqf 0 [2, 3, 8, 9, 10, 12, 20, 21, 22, 26] _ _ _ [(2, .int .i64 i2), (3, .int .i64 n3), (8, .pointer (some ⟨b182, 0, none⟩)), (9, .slice (some ⟨g197, 0, none⟩) 2 (ng197 / 1)), (10, .slice (some ⟨g199, 0, none⟩) 2 (ng199 / 1)), (12, .pointer (some ⟨b200, 0, none⟩)), (20, .slice (some ⟨N194, 1, none⟩) 2 3), (21, .int .i64 2), (22, .int .i64 1), (26, .slice (some ⟨g197, 0, none⟩) 2 (ng197 / 1))] (by kernel_rfl) (by kernel_rfl) hg_1
      exact hg_0
    have hg_7ff : ∀ (g199 : Nat) (ng199 : Nat) (g198 : Nat) (g197 : Nat) (ng197 : Nat) (g196 : Nat), G [true, true, true, true, true, true, true, true, true, true, true, false] [(2, .int .i64 i2), (3, .int .i64 n3), (8, .pointer (some ⟨b182, 0, none⟩)), (9, .slice (some ⟨g197, 0, none⟩) 2 (ng197 / 1)), (10, .slice (some ⟨g184, 0, none⟩) 1 1), (20, .slice (some ⟨N194, 1, none⟩) 2 3), (21, .int .i64 2), (22, .int .i64 0), (35, .slice (some ⟨g199, 0, none⟩) 2 (ng199 / 1))] ([⟨g199, [.int .i64 a0_1, .int .i64 t188], ng199⟩, ⟨g198, [.int .i64 t188], 1⟩, ⟨g197, [.int .i64 a0_0, .int .i64 t187], ng197⟩, ⟨g196, [.int .i64 t187], 1⟩, ⟨b195, [.int .i64 t187, .int .i64 t188], 2⟩, ⟨N194, [.int .i64 t186, .int .i64 t187, .int .i64 t188, .int .i64 t189, .int .i64 t190, .int .i64 t191, .int .i64 t192], 7⟩, ⟨b182, [.int .i64 0, .int .i64 0], 2⟩, ⟨b181, [.int .i64 2, .int .i64 s1_1, .int .i64 s1_2, .int .i64 s1_3, .int .i64 s1_4, .int .i64 s1_5, .int .i64 s1_6], 7⟩, ⟨b180, [.int .i64 a0_0, .int .i64 a0_1], 2⟩] : List Own) := by
      intro g199 ng199 g198 g197 ng197 g196
      exact hqf 11 [2, 3, 8, 9, 10, 20, 21, 22] _ _ _ [(2, .int .i64 i2), (3, .int .i64 n3), (8, .pointer (some ⟨b182, 0, none⟩)), (9, .slice (some ⟨g197, 0, none⟩) 2 (ng197 / 1)), (10, .slice (some ⟨g199, 0, none⟩) 2 (ng199 / 1)), (20, .slice (some ⟨N194, 1, none⟩) 2 3), (21, .int .i64 2), (22, .int .i64 0)] (by kernel_rfl) (by kernel_rfl) (hg_fff g199 ng199 g198 g197 ng197 g196)
    have hg_3ff : ∀ (g199 : Nat) (ng199 : Nat) (g198 : Nat) (g197 : Nat) (ng197 : Nat) (g196 : Nat), G [true, true, true, true, true, true, true, true, true, true, false, false] [(2, .int .i64 i2), (3, .int .i64 n3), (8, .pointer (some ⟨b182, 0, none⟩)), (9, .slice (some ⟨g183, 0, none⟩) 1 1), (10, .slice (some ⟨g184, 0, none⟩) 1 1), (20, .slice (some ⟨N194, 1, none⟩) 2 3), (21, .int .i64 2), (22, .int .i64 0), (30, .slice (some ⟨g197, 0, none⟩) 2 (ng197 / 1)), (35, .slice (some ⟨g199, 0, none⟩) 2 (ng199 / 1))] ([⟨g199, [.int .i64 a0_1, .int .i64 t188], ng199⟩, ⟨g198, [.int .i64 t188], 1⟩, ⟨g197, [.int .i64 a0_0, .int .i64 t187], ng197⟩, ⟨g196, [.int .i64 t187], 1⟩, ⟨b195, [.int .i64 t187, .int .i64 t188], 2⟩, ⟨N194, [.int .i64 t186, .int .i64 t187, .int .i64 t188, .int .i64 t189, .int .i64 t190, .int .i64 t191, .int .i64 t192], 7⟩, ⟨b182, [.int .i64 0, .int .i64 0], 2⟩, ⟨b181, [.int .i64 2, .int .i64 s1_1, .int .i64 s1_2, .int .i64 s1_3, .int .i64 s1_4, .int .i64 s1_5, .int .i64 s1_6], 7⟩, ⟨b180, [.int .i64 a0_0, .int .i64 a0_1], 2⟩] : List Own) := by
      intro g199 ng199 g198 g197 ng197 g196
      exact hqf 10 [2, 3, 8, 9, 10, 20, 21, 22, 35] _ _ _ [(2, .int .i64 i2), (3, .int .i64 n3), (8, .pointer (some ⟨b182, 0, none⟩)), (9, .slice (some ⟨g197, 0, none⟩) 2 (ng197 / 1)), (10, .slice (some ⟨g184, 0, none⟩) 1 1), (20, .slice (some ⟨N194, 1, none⟩) 2 3), (21, .int .i64 2), (22, .int .i64 0), (35, .slice (some ⟨g199, 0, none⟩) 2 (ng199 / 1))] (by kernel_rfl) (by kernel_rfl) (hg_7ff g199 ng199 g198 g197 ng197 g196)
    have hg_1ff : ∀ (g198 : Nat) (g197 : Nat) (ng197 : Nat) (g196 : Nat), G [true, true, true, true, true, true, true, true, true, false, false, false] [(2, .int .i64 i2), (3, .int .i64 n3), (8, .pointer (some ⟨b182, 0, none⟩)), (9, .slice (some ⟨g183, 0, none⟩) 1 1), (10, .slice (some ⟨g184, 0, none⟩) 1 1), (20, .slice (some ⟨N194, 1, none⟩) 2 3), (21, .int .i64 2), (22, .int .i64 0), (30, .slice (some ⟨g197, 0, none⟩) 2 (ng197 / 1)), (31, .slice (some ⟨g184, 0, none⟩) 1 1), (34, .slice (some ⟨g198, 0, none⟩) 1 1)] ([⟨g198, [.int .i64 t188], 1⟩, ⟨g197, [.int .i64 a0_0, .int .i64 t187], ng197⟩, ⟨g196, [.int .i64 t187], 1⟩, ⟨b195, [.int .i64 t187, .int .i64 t188], 2⟩, ⟨N194, [.int .i64 t186, .int .i64 t187, .int .i64 t188, .int .i64 t189, .int .i64 t190, .int .i64 t191, .int .i64 t192], 7⟩, ⟨g184, [.int .i64 a0_1], 1⟩, ⟨b182, [.int .i64 0, .int .i64 0], 2⟩, ⟨b181, [.int .i64 2, .int .i64 s1_1, .int .i64 s1_2, .int .i64 s1_3, .int .i64 s1_4, .int .i64 s1_5, .int .i64 s1_6], 7⟩, ⟨b180, [.int .i64 a0_0, .int .i64 a0_1], 2⟩] : List Own) := by
      intro g198 g197 ng197 g196
      refine hstep [9] _ _ _ (by kernel_rfl) (List.cons_ne_nil _ _) ⟨?_, trivial⟩
      · show T _ _ _ _ _ _ _ _
        refine t_app1 (cs := [.int .i64 a0_1]) (M := 1) (F := ([⟨g198, [.int .i64 t188], 1⟩, ⟨g197, [.int .i64 a0_0, .int .i64 t187], ng197⟩, ⟨g196, [.int .i64 t187], 1⟩, ⟨b195, [.int .i64 t187, .int .i64 t188], 2⟩, ⟨N194, [.int .i64 t186, .int .i64 t187, .int .i64 t188, .int .i64 t189, .int .i64 t190, .int .i64 t191, .int .i64 t192], 7⟩, ⟨b182, [.int .i64 0, .int .i64 0], 2⟩, ⟨b181, [.int .i64 2, .int .i64 s1_1, .int .i64 s1_2, .int .i64 s1_3, .int .i64 s1_4, .int .i64 s1_5, .int .i64 s1_6], 7⟩, ⟨b180, [.int .i64 a0_0, .int .i64 a0_1], 2⟩] : List Own)) (news := [.int .i64 t188]) rfl rfl rfl rfl (sel_perm (is := [5]) (by kernel_rfl)) (.at 0 rfl rfl) (by kernel_rfl) rfl rfl (by decide) (by decide) rfl fun g199 ng199 => ?_
        refine t_keep [2, 3, 8, 9, 10, 20, 21, 22, 30, 35] (σ' := [(2, .int .i64 i2), (3, .int .i64 n3), (8, .pointer (some ⟨b182, 0, none⟩)), (9, .slice (some ⟨g183, 0, none⟩) 1 1), (10, .slice (some ⟨g184, 0, none⟩) 1 1), (20, .slice (some ⟨N194, 1, none⟩) 2 3), (21, .int .i64 2), (22, .int .i64 0), (30, .slice (some ⟨g197, 0, none⟩) 2 (ng197 / 1)), (35, .slice (some ⟨g199, 0, none⟩) 2 (ng199 / 1))]) (by kernel_rfl) ?_
        refine t_end ?_
        exact ⟨hg_3ff g199 ng199 g198 g197 ng197 g196, rfl⟩
    have hg_ff : ∀ (g197 : Nat) (ng197 : Nat) (g196 : Nat), G [true, true, true, true, true, true, true, true, false, false, false, false] [(2, .int .i64 i2), (3, .int .i64 n3), (8, .pointer (some ⟨b182, 0, none⟩)), (9, .slice (some ⟨g183, 0, none⟩) 1 1), (10, .slice (some ⟨g184, 0, none⟩) 1 1), (20, .slice (some ⟨N194, 1, none⟩) 2 3), (21, .int .i64 2), (22, .int .i64 0), (30, .slice (some ⟨g197, 0, none⟩) 2 (ng197 / 1)), (31, .slice (some ⟨g184, 0, none⟩) 1 1), (33, .int .i64 t188)] ([⟨g197, [.int .i64 a0_0, .int .i64 t187], ng197⟩, ⟨g196, [.int .i64 t187], 1⟩, ⟨b195, [.int .i64 t187, .int .i64 t188], 2⟩, ⟨N194, [.int .i64 t186, .int .i64 t187, .int .i64 t188, .int .i64 t189, .int .i64 t190, .int .i64 t191, .int .i64 t192], 7⟩, ⟨g184, [.int .i64 a0_1], 1⟩, ⟨b182, [.int .i64 0, .int .i64 0], 2⟩, ⟨b181, [.int .i64 2, .int .i64 s1_1, .int .i64 s1_2, .int .i64 s1_3, .int .i64 s1_4, .int .i64 s1_5, .int .i64 s1_6], 7⟩, ⟨b180, [.int .i64 a0_0, .int .i64 a0_1], 2⟩] : List Own) := by
      intro g197 ng197 g196
      refine hstep [8] _ _ _ (by kernel_rfl) (List.cons_ne_nil _ _) ⟨?_, trivial⟩
      · show T _ _ _ _ _ _ _ _
        refine t_a (.bsl rfl rfl rfl rfl) fun g198 fg198 sg198 => ?_
        refine t_keep [2, 3, 8, 9, 10, 20, 21, 22, 30, 31, 34] (σ' := [(2, .int .i64 i2), (3, .int .i64 n3), (8, .pointer (some ⟨b182, 0, none⟩)), (9, .slice (some ⟨g183, 0, none⟩) 1 1), (10, .slice (some ⟨g184, 0, none⟩) 1 1), (20, .slice (some ⟨N194, 1, none⟩) 2 3), (21, .int .i64 2), (22, .int .i64 0), (30, .slice (some ⟨g197, 0, none⟩) 2 (ng197 / 1)), (31, .slice (some ⟨g184, 0, none⟩) 1 1), (34, .slice (some ⟨g198, 0, none⟩) 1 1)]) (by kernel_rfl) ?_
        refine t_end ?_
        exact ⟨hg_1ff g198 g197 ng197 g196, rfl⟩
    have hg_1ef : ∀ (g198 : Nat) (g196 : Nat), G [true, true, true, true, false, true, true, true, true, false, false, false] [(2, .int .i64 i2), (3, .int .i64 n3), (8, .pointer (some ⟨b182, 0, none⟩)), (9, .slice (some ⟨g183, 0, none⟩) 1 1), (10, .slice (some ⟨g184, 0, none⟩) 1 1), (20, .slice (some ⟨N194, 1, none⟩) 2 3), (21, .int .i64 2), (22, .int .i64 0), (26, .slice (some ⟨g183, 0, none⟩) 1 1), (29, .slice (some ⟨g196, 0, none⟩) 1 1), (31, .slice (some ⟨g184, 0, none⟩) 1 1), (34, .slice (some ⟨g198, 0, none⟩) 1 1)] ([⟨g198, [.int .i64 t188], 1⟩, ⟨g196, [.int .i64 t187], 1⟩, ⟨b195, [.int .i64 t187, .int .i64 t188], 2⟩, ⟨N194, [.int .i64 t186, .int .i64 t187, .int .i64 t188, .int .i64 t189, .int .i64 t190, .int .i64 t191, .int .i64 t192], 7⟩, ⟨g184, [.int .i64 a0_1], 1⟩, ⟨g183, [.int .i64 a0_0], 1⟩, ⟨b182, [.int .i64 0, .int .i64 0], 2⟩, ⟨b181, [.int .i64 2, .int .i64 s1_1, .int .i64 s1_2, .int .i64 s1_3, .int .i64 s1_4, .int .i64 s1_5, .int .i64 s1_6], 7⟩, ⟨b180, [.int .i64 a0_0, .int .i64 a0_1], 2⟩] : List Own) := by
      intro g198 g196
      refine hstep [4] _ _ _ (by kernel_rfl) (List.cons_ne_nil _ _) ⟨?_, trivial⟩
      · show T _ _ _ _ _ _ _ _
        refine t_app1 (cs := [.int .i64 a0_0]) (M := 1) (F := ([⟨g198, [.int .i64 t188], 1⟩, ⟨g196, [.int .i64 t187], 1⟩, ⟨b195, [.int .i64 t187, .int .i64 t188], 2⟩, ⟨N194, [.int .i64 t186, .int .i64 t187, .int .i64 t188, .int .i64 t189, .int .i64 t190, .int .i64 t191, .int .i64 t192], 7⟩, ⟨g184, [.int .i64 a0_1], 1⟩, ⟨b182, [.int .i64 0, .int .i64 0], 2⟩, ⟨b181, [.int .i64 2, .int .i64 s1_1, .int .i64 s1_2, .int .i64 s1_3, .int .i64 s1_4, .int .i64 s1_5, .int .i64 s1_6], 7⟩, ⟨b180, [.int .i64 a0_0, .int .i64 a0_1], 2⟩] : List Own)) (news := [.int .i64 t187]) rfl rfl rfl rfl (sel_perm (is := [5]) (by kernel_rfl)) (.at 1 rfl rfl) (by kernel_rfl) rfl rfl (by decide) (by decide) rfl fun g197 ng197 => ?_
        refine t_keep [2, 3, 8, 9, 10, 20, 21, 22, 30, 31, 34] (σ' := [(2, .int .i64 i2), (3, .int .i64 n3), (8, .pointer (some ⟨b182, 0, none⟩)), (9, .slice (some ⟨g183, 0, none⟩) 1 1), (10, .slice (some ⟨g184, 0, none⟩) 1 1), (20, .slice (some ⟨N194, 1, none⟩) 2 3), (21, .int .i64 2), (22, .int .i64 0), (30, .slice (some ⟨g197, 0, none⟩) 2 (ng197 / 1)), (31, .slice (some ⟨g184, 0, none⟩) 1 1), (34, .slice (some ⟨g198, 0, none⟩) 1 1)]) (by kernel_rfl) ?_
        refine t_vs (H' := ([⟨g198, [.int .i64 t188], 1⟩, ⟨g197, [.int .i64 a0_0, .int .i64 t187], ng197⟩, ⟨g196, [.int .i64 t187], 1⟩, ⟨b195, [.int .i64 t187, .int .i64 t188], 2⟩, ⟨N194, [.int .i64 t186, .int .i64 t187, .int .i64 t188, .int .i64 t189, .int .i64 t190, .int .i64 t191, .int .i64 t192], 7⟩, ⟨g184, [.int .i64 a0_1], 1⟩, ⟨b182, [.int .i64 0, .int .i64 0], 2⟩, ⟨b181, [.int .i64 2, .int .i64 s1_1, .int .i64 s1_2, .int .i64 s1_3, .int .i64 s1_4, .int .i64 s1_5, .int .i64 s1_6], 7⟩, ⟨b180, [.int .i64 a0_0, .int .i64 a0_1], 2⟩] : List Own)) (S' := S) (VS.sel [1, 0, 0, 0, 0, 0, 0, 0, 0] (by kernel_rfl)) ?_
        refine t_end ?_
        exact ⟨hg_1ff g198 g197 ng197 g196, rfl⟩
    have hg_1e7 : ∀ (g198 : Nat), G [true, true, true, false, false, true, true, true, true, false, false, false] [(2, .int .i64 i2), (3, .int .i64 n3), (8, .pointer (some ⟨b182, 0, none⟩)), (9, .slice (some ⟨g183, 0, none⟩) 1 1), (10, .slice (some ⟨g184, 0, none⟩) 1 1), (20, .slice (some ⟨N194, 1, none⟩) 2 3), (21, .int .i64 2), (22, .int .i64 0), (26, .slice (some ⟨g183, 0, none⟩) 1 1), (28, .int .i64 t187), (31, .slice (some ⟨g184, 0, none⟩) 1 1), (34, .slice (some ⟨g198, 0, none⟩) 1 1)] ([⟨g198, [.int .i64 t188], 1⟩, ⟨b195, [.int .i64 t187, .int .i64 t188], 2⟩, ⟨N194, [.int .i64 t186, .int .i64 t187, .int .i64 t188, .int .i64 t189, .int .i64 t190, .int .i64 t191, .int .i64 t192], 7⟩, ⟨g184, [.int .i64 a0_1], 1⟩, ⟨g183, [.int .i64 a0_0], 1⟩, ⟨b182, [.int .i64 0, .int .i64 0], 2⟩, ⟨b181, [.int .i64 2, .int .i64 s1_1, .int .i64 s1_2, .int .i64 s1_3, .int .i64 s1_4, .int .i64 s1_5, .int .i64 s1_6], 7⟩, ⟨b180, [.int .i64 a0_0, .int .i64 a0_1], 2⟩] : List Own) := by
      intro g198
      refine hstep [3] _ _ _ (by kernel_rfl) (List.cons_ne_nil _ _) ⟨?_, trivial⟩
      · show T _ _ _ _ _ _ _ _
        refine t_a (.bsl rfl rfl rfl rfl) fun g196 fg196 sg196 => ?_
        refine t_keep [2, 3, 8, 9, 10, 20, 21, 22, 26, 29, 31, 34] (σ' := [(2, .int .i64 i2), (3, .int .i64 n3), (8, .pointer (some ⟨b182, 0, none⟩)), (9, .slice (some ⟨g183, 0, none⟩) 1 1), (10, .slice (some ⟨g184, 0, none⟩) 1 1), (20, .slice (some ⟨N194, 1, none⟩) 2 3), (21, .int .i64 2), (22, .int .i64 0), (26, .slice (some ⟨g183, 0, none⟩) 1 1), (29, .slice (some ⟨g196, 0, none⟩) 1 1), (31, .slice (some ⟨g184, 0, none⟩) 1 1), (34, .slice (some ⟨g198, 0, none⟩) 1 1)]) (by kernel_rfl) ?_
        refine t_vs (H' := ([⟨g198, [.int .i64 t188], 1⟩, ⟨g196, [.int .i64 t187], 1⟩, ⟨b195, [.int .i64 t187, .int .i64 t188], 2⟩, ⟨N194, [.int .i64 t186, .int .i64 t187, .int .i64 t188, .int .i64 t189, .int .i64 t190, .int .i64 t191, .int .i64 t192], 7⟩, ⟨g184, [.int .i64 a0_1], 1⟩, ⟨g183, [.int .i64 a0_0], 1⟩, ⟨b182, [.int .i64 0, .int .i64 0], 2⟩, ⟨b181, [.int .i64 2, .int .i64 s1_1, .int .i64 s1_2, .int .i64 s1_3, .int .i64 s1_4, .int .i64 s1_5, .int .i64 s1_6], 7⟩, ⟨b180, [.int .i64 a0_0, .int .i64 a0_1], 2⟩] : List Own)) (S' := S) (VS.sel [1, 0, 0, 0, 0, 0, 0, 0, 0] (by kernel_rfl)) ?_
        refine t_end ?_
        exact ⟨hg_1ef g198 g196, rfl⟩
    have hg_ef : ∀ (g196 : Nat), G [true, true, true, true, false, true, true, true, false, false, false, false] [(2, .int .i64 i2), (3, .int .i64 n3), (8, .pointer (some ⟨b182, 0, none⟩)), (9, .slice (some ⟨g183, 0, none⟩) 1 1), (10, .slice (some ⟨g184, 0, none⟩) 1 1), (20, .slice (some ⟨N194, 1, none⟩) 2 3), (21, .int .i64 2), (22, .int .i64 0), (26, .slice (some ⟨g183, 0, none⟩) 1 1), (29, .slice (some ⟨g196, 0, none⟩) 1 1), (31, .slice (some ⟨g184, 0, none⟩) 1 1), (33, .int .i64 t188)] ([⟨g196, [.int .i64 t187], 1⟩, ⟨b195, [.int .i64 t187, .int .i64 t188], 2⟩, ⟨N194, [.int .i64 t186, .int .i64 t187, .int .i64 t188, .int .i64 t189, .int .i64 t190, .int .i64 t191, .int .i64 t192], 7⟩, ⟨g184, [.int .i64 a0_1], 1⟩, ⟨g183, [.int .i64 a0_0], 1⟩, ⟨b182, [.int .i64 0, .int .i64 0], 2⟩, ⟨b181, [.int .i64 2, .int .i64 s1_1, .int .i64 s1_2, .int .i64 s1_3, .int .i64 s1_4, .int .i64 s1_5, .int .i64 s1_6], 7⟩, ⟨b180, [.int .i64 a0_0, .int .i64 a0_1], 2⟩] : List Own) := by
      intro g196
      refine hstep [4, 8] _ _ _ (by kernel_rfl) (List.cons_ne_nil _ _) ⟨?_, ?_, trivial⟩
      · show T _ _ _ _ _ _ _ _
        refine t_app1 (cs := [.int .i64 a0_0]) (M := 1) (F := ([⟨g196, [.int .i64 t187], 1⟩, ⟨b195, [.int .i64 t187, .int .i64 t188], 2⟩, ⟨N194, [.int .i64 t186, .int .i64 t187, .int .i64 t188, .int .i64 t189, .int .i64 t190, .int .i64 t191, .int .i64 t192], 7⟩, ⟨g184, [.int .i64 a0_1], 1⟩, ⟨b182, [.int .i64 0, .int .i64 0], 2⟩, ⟨b181, [.int .i64 2, .int .i64 s1_1, .int .i64 s1_2, .int .i64 s1_3, .int .i64 s1_4, .int .i64 s1_5, .int .i64 s1_6], 7⟩, ⟨b180, [.int .i64 a0_0, .int .i64 a0_1], 2⟩] : List Own)) (news := [.int .i64 t187]) rfl rfl rfl rfl (sel_perm (is := [4]) (by kernel_rfl)) (.at 0 rfl rfl) (by kernel_rfl) rfl rfl (by decide) (by decide) rfl fun g197 ng197 => ?_
        refine t_keep [2, 3, 8, 9, 10, 20, 21, 22, 30, 31, 33] (σ' := [(2, .int .i64 i2), (3, .int .i64 n3), (8, .pointer (some ⟨b182, 0, none⟩)), (9, .slice (some ⟨g183, 0, none⟩) 1 1), (10, .slice (some ⟨g184, 0, none⟩) 1 1), (20, .slice (some ⟨N194, 1, none⟩) 2 3), (21, .int .i64 2), (22, .int .i64 0), (30, .slice (some ⟨g197, 0, none⟩) 2 (ng197 / 1)), (31, .slice (some ⟨g184, 0, none⟩) 1 1), (33, .int .i64 t188)]) (by kernel_rfl) ?_
        refine t_end ?_
        exact ⟨hg_ff g197 ng197 g196, rfl⟩
      · show T _ _ _ _ _ _ _ _
        refine t_a (.bsl rfl rfl rfl rfl) fun g198 fg198 sg198 => ?_
        refine t_keep [2, 3, 8, 9, 10, 20, 21, 22, 26, 29, 31, 34] (σ' := [(2, .int .i64 i2), (3, .int .i64 n3), (8, .pointer (some ⟨b182, 0, none⟩)), (9, .slice (some ⟨g183, 0, none⟩) 1 1), (10, .slice (some ⟨g184, 0, none⟩) 1 1), (20, .slice (some ⟨N194, 1, none⟩) 2 3), (21, .int .i64 2), (22, .int .i64 0), (26, .slice (some ⟨g183, 0, none⟩) 1 1), (29, .slice (some ⟨g196, 0, none⟩) 1 1), (31, .slice (some ⟨g184, 0, none⟩) 1 1), (34, .slice (some ⟨g198, 0, none⟩) 1 1)]) (by kernel_rfl) ?_
        refine t_end ?_
        exact ⟨hg_1ef g198 g196, rfl⟩
    have hg_7f : ∀ (g197 : Nat) (ng197 : Nat) (g196 : Nat), G [true, true, true, true, true, true, true, false, false, false, false, false] [(2, .int .i64 i2), (3, .int .i64 n3), (8, .pointer (some ⟨b182, 0, none⟩)), (9, .slice (some ⟨g183, 0, none⟩) 1 1), (10, .slice (some ⟨g184, 0, none⟩) 1 1), (20, .slice (some ⟨N194, 1, none⟩) 2 3), (21, .int .i64 2), (22, .int .i64 0), (30, .slice (some ⟨g197, 0, none⟩) 2 (ng197 / 1)), (31, .slice (some ⟨g184, 0, none⟩) 1 1), (32, .pointer (some ⟨b195, 1, none⟩))] ([⟨g197, [.int .i64 a0_0, .int .i64 t187], ng197⟩, ⟨g196, [.int .i64 t187], 1⟩, ⟨b195, [.int .i64 t187, .int .i64 t188], 2⟩, ⟨N194, [.int .i64 t186, .int .i64 t187, .int .i64 t188, .int .i64 t189, .int .i64 t190, .int .i64 t191, .int .i64 t192], 7⟩, ⟨g184, [.int .i64 a0_1], 1⟩, ⟨b182, [.int .i64 0, .int .i64 0], 2⟩, ⟨b181, [.int .i64 2, .int .i64 s1_1, .int .i64 s1_2, .int .i64 s1_3, .int .i64 s1_4, .int .i64 s1_5, .int .i64 s1_6], 7⟩, ⟨b180, [.int .i64 a0_0, .int .i64 a0_1], 2⟩] : List Own) := by
      intro g197 ng197 g196
      refine hstep [7] _ _ _ (by kernel_rfl) (List.cons_ne_nil _ _) ⟨?_, trivial⟩
      · show T _ _ _ _ _ _ _ _
        refine t_v (.ld1 rfl rfl rfl (.at 2 rfl rfl)) ?_
        refine t_keep [2, 3, 8, 9, 10, 20, 21, 22, 30, 31, 33] (σ' := [(2, .int .i64 i2), (3, .int .i64 n3), (8, .pointer (some ⟨b182, 0, none⟩)), (9, .slice (some ⟨g183, 0, none⟩) 1 1), (10, .slice (some ⟨g184, 0, none⟩) 1 1), (20, .slice (some ⟨N194, 1, none⟩) 2 3), (21, .int .i64 2), (22, .int .i64 0), (30, .slice (some ⟨g197, 0, none⟩) 2 (ng197 / 1)), (31, .slice (some ⟨g184, 0, none⟩) 1 1), (33, .int .i64 t188)]) (by kernel_rfl) ?_
        refine t_end ?_
        exact ⟨hg_ff g197 ng197 g196, rfl⟩
    have hg_1e3 : ∀ (g198 : Nat), G [true, true, false, false, false, true, true, true, true, false, false, false] [(2, .int .i64 i2), (3, .int .i64 n3), (8, .pointer (some ⟨b182, 0, none⟩)), (9, .slice (some ⟨g183, 0, none⟩) 1 1), (10, .slice (some ⟨g184, 0, none⟩) 1 1), (20, .slice (some ⟨N194, 1, none⟩) 2 3), (21, .int .i64 2), (22, .int .i64 0), (26, .slice (some ⟨g183, 0, none⟩) 1 1), (27, .pointer (some ⟨b195, 0, none⟩)), (31, .slice (some ⟨g184, 0, none⟩) 1 1), (34, .slice (some ⟨g198, 0, none⟩) 1 1)] ([⟨g198, [.int .i64 t188], 1⟩, ⟨b195, [.int .i64 t187, .int .i64 t188], 2⟩, ⟨N194, [.int .i64 t186, .int .i64 t187, .int .i64 t188, .int .i64 t189, .int .i64 t190, .int .i64 t191, .int .i64 t192], 7⟩, ⟨g184, [.int .i64 a0_1], 1⟩, ⟨g183, [.int .i64 a0_0], 1⟩, ⟨b182, [.int .i64 0, .int .i64 0], 2⟩, ⟨b181, [.int .i64 2, .int .i64 s1_1, .int .i64 s1_2, .int .i64 s1_3, .int .i64 s1_4, .int .i64 s1_5, .int .i64 s1_6], 7⟩, ⟨b180, [.int .i64 a0_0, .int .i64 a0_1], 2⟩] : List Own) := by
      intro g198
      refine hstep [2] _ _ _ (by kernel_rfl) (List.cons_ne_nil _ _) ⟨?_, trivial⟩
      · show T _ _ _ _ _ _ _ _
        refine t_v (.ld1 rfl rfl rfl (.at 1 rfl rfl)) ?_
        refine t_keep [2, 3, 8, 9, 10, 20, 21, 22, 26, 28, 31, 34] (σ' := [(2, .int .i64 i2), (3, .int .i64 n3), (8, .pointer (some ⟨b182, 0, none⟩)), (9, .slice (some ⟨g183, 0, none⟩) 1 1), (10, .slice (some ⟨g184, 0, none⟩) 1 1), (20, .slice (some ⟨N194, 1, none⟩) 2 3), (21, .int .i64 2), (22, .int .i64 0), (26, .slice (some ⟨g183, 0, none⟩) 1 1), (28, .int .i64 t187), (31, .slice (some ⟨g184, 0, none⟩) 1 1), (34, .slice (some ⟨g198, 0, none⟩) 1 1)]) (by kernel_rfl) ?_
        refine t_end ?_
        exact ⟨hg_1e7 g198, rfl⟩
    have hg_e7 : G [true, true, true, false, false, true, true, true, false, false, false, false] [(2, .int .i64 i2), (3, .int .i64 n3), (8, .pointer (some ⟨b182, 0, none⟩)), (9, .slice (some ⟨g183, 0, none⟩) 1 1), (10, .slice (some ⟨g184, 0, none⟩) 1 1), (20, .slice (some ⟨N194, 1, none⟩) 2 3), (21, .int .i64 2), (22, .int .i64 0), (26, .slice (some ⟨g183, 0, none⟩) 1 1), (28, .int .i64 t187), (31, .slice (some ⟨g184, 0, none⟩) 1 1), (33, .int .i64 t188)] ([⟨b195, [.int .i64 t187, .int .i64 t188], 2⟩, ⟨N194, [.int .i64 t186, .int .i64 t187, .int .i64 t188, .int .i64 t189, .int .i64 t190, .int .i64 t191, .int .i64 t192], 7⟩, ⟨g184, [.int .i64 a0_1], 1⟩, ⟨g183, [.int .i64 a0_0], 1⟩, ⟨b182, [.int .i64 0, .int .i64 0], 2⟩, ⟨b181, [.int .i64 2, .int .i64 s1_1, .int .i64 s1_2, .int .i64 s1_3, .int .i64 s1_4, .int .i64 s1_5, .int .i64 s1_6], 7⟩, ⟨b180, [.int .i64 a0_0, .int .i64 a0_1], 2⟩] : List Own) := by
      refine hstep [3, 8] _ _ _ (by kernel_rfl) (List.cons_ne_nil _ _) ⟨?_, ?_, trivial⟩
      · show T _ _ _ _ _ _ _ _
        refine t_a (.bsl rfl rfl rfl rfl) fun g196 fg196 sg196 => ?_
        refine t_keep [2, 3, 8, 9, 10, 20, 21, 22, 26, 29, 31, 33] (σ' := [(2, .int .i64 i2), (3, .int .i64 n3), (8, .pointer (some ⟨b182, 0, none⟩)), (9, .slice (some ⟨g183, 0, none⟩) 1 1), (10, .slice (some ⟨g184, 0, none⟩) 1 1), (20, .slice (some ⟨N194, 1, none⟩) 2 3), (21, .int .i64 2), (22, .int .i64 0), (26, .slice (some ⟨g183, 0, none⟩) 1 1), (29, .slice (some ⟨g196, 0, none⟩) 1 1), (31, .slice (some ⟨g184, 0, none⟩) 1 1), (33, .int .i64 t188)]) (by kernel_rfl) ?_
        refine t_end ?_
        exact ⟨hg_ef g196, rfl⟩
      · show T _ _ _ _ _ _ _ _
        refine t_a (.bsl rfl rfl rfl rfl) fun g198 fg198 sg198 => ?_
        refine t_keep [2, 3, 8, 9, 10, 20, 21, 22, 26, 28, 31, 34] (σ' := [(2, .int .i64 i2), (3, .int .i64 n3), (8, .pointer (some ⟨b182, 0, none⟩)), (9, .slice (some ⟨g183, 0, none⟩) 1 1), (10, .slice (some ⟨g184, 0, none⟩) 1 1), (20, .slice (some ⟨N194, 1, none⟩) 2 3), (21, .int .i64 2), (22, .int .i64 0), (26, .slice (some ⟨g183, 0, none⟩) 1 1), (28, .int .i64 t187), (31, .slice (some ⟨g184, 0, none⟩) 1 1), (34, .slice (some ⟨g198, 0, none⟩) 1 1)]) (by kernel_rfl) ?_
        refine t_end ?_
        exact ⟨hg_1e7 g198, rfl⟩
    have hg_6f : ∀ (g196 : Nat), G [true, true, true, true, false, true, true, false, false, false, false, false] [(2, .int .i64 i2), (3, .int .i64 n3), (8, .pointer (some ⟨b182, 0, none⟩)), (9, .slice (some ⟨g183, 0, none⟩) 1 1), (10, .slice (some ⟨g184, 0, none⟩) 1 1), (20, .slice (some ⟨N194, 1, none⟩) 2 3), (21, .int .i64 2), (22, .int .i64 0), (26, .slice (some ⟨g183, 0, none⟩) 1 1), (29, .slice (some ⟨g196, 0, none⟩) 1 1), (31, .slice (some ⟨g184, 0, none⟩) 1 1), (32, .pointer (some ⟨b195, 1, none⟩))] ([⟨g196, [.int .i64 t187], 1⟩, ⟨b195, [.int .i64 t187, .int .i64 t188], 2⟩, ⟨N194, [.int .i64 t186, .int .i64 t187, .int .i64 t188, .int .i64 t189, .int .i64 t190, .int .i64 t191, .int .i64 t192], 7⟩, ⟨g184, [.int .i64 a0_1], 1⟩, ⟨g183, [.int .i64 a0_0], 1⟩, ⟨b182, [.int .i64 0, .int .i64 0], 2⟩, ⟨b181, [.int .i64 2, .int .i64 s1_1, .int .i64 s1_2, .int .i64 s1_3, .int .i64 s1_4, .int .i64 s1_5, .int .i64 s1_6], 7⟩, ⟨b180, [.int .i64 a0_0, .int .i64 a0_1], 2⟩] : List Own) := by
      intro g196
      refine hstep [4, 7] _ _ _ (by kernel_rfl) (List.cons_ne_nil _ _) ⟨?_, ?_, trivial⟩
      · show T _ _ _ _ _ _ _ _
        refine t_app1 (cs := [.int .i64 a0_0]) (M := 1) (F := ([⟨g196, [.int .i64 t187], 1⟩, ⟨b195, [.int .i64 t187, .int .i64 t188], 2⟩, ⟨N194, [.int .i64 t186, .int .i64 t187, .int .i64 t188, .int .i64 t189, .int .i64 t190, .int .i64 t191, .int .i64 t192], 7⟩, ⟨g184, [.int .i64 a0_1], 1⟩, ⟨b182, [.int .i64 0, .int .i64 0], 2⟩, ⟨b181, [.int .i64 2, .int .i64 s1_1, .int .i64 s1_2, .int .i64 s1_3, .int .i64 s1_4, .int .i64 s1_5, .int .i64 s1_6], 7⟩, ⟨b180, [.int .i64 a0_0, .int .i64 a0_1], 2⟩] : List Own)) (news := [.int .i64 t187]) rfl rfl rfl rfl (sel_perm (is := [4]) (by kernel_rfl)) (.at 0 rfl rfl) (by kernel_rfl) rfl rfl (by decide) (by decide) rfl fun g197 ng197 => ?_
        refine t_keep [2, 3, 8, 9, 10, 20, 21, 22, 30, 31, 32] (σ' := [(2, .int .i64 i2), (3, .int .i64 n3), (8, .pointer (some ⟨b182, 0, none⟩)), (9, .slice (some ⟨g183, 0, none⟩) 1 1), (10, .slice (some ⟨g184, 0, none⟩) 1 1), (20, .slice (some ⟨N194, 1, none⟩) 2 3), (21, .int .i64 2), (22, .int .i64 0), (30, .slice (some ⟨g197, 0, none⟩) 2 (ng197 / 1)), (31, .slice (some ⟨g184, 0, none⟩) 1 1), (32, .pointer (some ⟨b195, 1, none⟩))]) (by kernel_rfl) ?_
        refine t_end ?_
        exact ⟨hg_7f g197 ng197 g196, rfl⟩
      · show T _ _ _ _ _ _ _ _
        refine t_v (.ld1 rfl rfl rfl (.at 1 rfl rfl)) ?_
        refine t_keep [2, 3, 8, 9, 10, 20, 21, 22, 26, 29, 31, 33] (σ' := [(2, .int .i64 i2), (3, .int .i64 n3), (8, .pointer (some ⟨b182, 0, none⟩)), (9, .slice (some ⟨g183, 0, none⟩) 1 1), (10, .slice (some ⟨g184, 0, none⟩) 1 1), (20, .slice (some ⟨N194, 1, none⟩) 2 3), (21, .int .i64 2), (22, .int .i64 0), (26, .slice (some ⟨g183, 0, none⟩) 1 1), (29, .slice (some ⟨g196, 0, none⟩) 1 1), (31, .slice (some ⟨g184, 0, none⟩) 1 1), (33, .int .i64 t188)]) (by kernel_rfl) ?_
        refine t_end ?_
        exact ⟨hg_ef g196, rfl⟩
    have hg_e3 : G [true, true, false, false, false, true, true, true, false, false, false, false] [(2, .int .i64 i2), (3, .int .i64 n3), (8, .pointer (some ⟨b182, 0, none⟩)), (9, .slice (some ⟨g183, 0, none⟩) 1 1), (10, .slice (some ⟨g184, 0, none⟩) 1 1), (20, .slice (some ⟨N194, 1, none⟩) 2 3), (21, .int .i64 2), (22, .int .i64 0), (26, .slice (some ⟨g183, 0, none⟩) 1 1), (27, .pointer (some ⟨b195, 0, none⟩)), (31, .slice (some ⟨g184, 0, none⟩) 1 1), (33, .int .i64 t188)] ([⟨b195, [.int .i64 t187, .int .i64 t188], 2⟩, ⟨N194, [.int .i64 t186, .int .i64 t187, .int .i64 t188, .int .i64 t189, .int .i64 t190, .int .i64 t191, .int .i64 t192], 7⟩, ⟨g184, [.int .i64 a0_1], 1⟩, ⟨g183, [.int .i64 a0_0], 1⟩, ⟨b182, [.int .i64 0, .int .i64 0], 2⟩, ⟨b181, [.int .i64 2, .int .i64 s1_1, .int .i64 s1_2, .int .i64 s1_3, .int .i64 s1_4, .int .i64 s1_5, .int .i64 s1_6], 7⟩, ⟨b180, [.int .i64 a0_0, .int .i64 a0_1], 2⟩] : List Own) := by
      refine hstep [2, 8] _ _ _ (by kernel_rfl) (List.cons_ne_nil _ _) ⟨?_, ?_, trivial⟩
      · show T _ _ _ _ _ _ _ _
        refine t_v (.ld1 rfl rfl rfl (.at 0 rfl rfl)) ?_
        refine t_keep [2, 3, 8, 9, 10, 20, 21, 22, 26, 28, 31, 33] (σ' := [(2, .int .i64 i2), (3, .int .i64 n3), (8, .pointer (some ⟨b182, 0, none⟩)), (9, .slice (some ⟨g183, 0, none⟩) 1 1), (10, .slice (some ⟨g184, 0, none⟩) 1 1), (20, .slice (some ⟨N194, 1, none⟩) 2 3), (21, .int .i64 2), (22, .int .i64 0), (26, .slice (some ⟨g183, 0, none⟩) 1 1), (28, .int .i64 t187), (31, .slice (some ⟨g184, 0, none⟩) 1 1), (33, .int .i64 t188)]) (by kernel_rfl) ?_
        refine t_end ?_
        exact ⟨hg_e7, rfl⟩
      · show T _ _ _ _ _ _ _ _
        refine t_a (.bsl rfl rfl rfl rfl) fun g198 fg198 sg198 => ?_
        refine t_keep [2, 3, 8, 9, 10, 20, 21, 22, 26, 27, 31, 34] (σ' := [(2, .int .i64 i2), (3, .int .i64 n3), (8, .pointer (some ⟨b182, 0, none⟩)), (9, .slice (some ⟨g183, 0, none⟩) 1 1), (10, .slice (some ⟨g184, 0, none⟩) 1 1), (20, .slice (some ⟨N194, 1, none⟩) 2 3), (21, .int .i64 2), (22, .int .i64 0), (26, .slice (some ⟨g183, 0, none⟩) 1 1), (27, .pointer (some ⟨b195, 0, none⟩)), (31, .slice (some ⟨g184, 0, none⟩) 1 1), (34, .slice (some ⟨g198, 0, none⟩) 1 1)]) (by kernel_rfl) ?_
        refine t_end ?_
        exact ⟨hg_1e3 g198, rfl⟩
    have hg_67 : G [true, true, true, false, false, true, true, false, false, false, false, false] [(2, .int .i64 i2), (3, .int .i64 n3), (8, .pointer (some ⟨b182, 0, none⟩)), (9, .slice (some ⟨g183, 0, none⟩) 1 1), (10, .slice (some ⟨g184, 0, none⟩) 1 1), (20, .slice (some ⟨N194, 1, none⟩) 2 3), (21, .int .i64 2), (22, .int .i64 0), (26, .slice (some ⟨g183, 0, none⟩) 1 1), (28, .int .i64 t187), (31, .slice (some ⟨g184, 0, none⟩) 1 1), (32, .pointer (some ⟨b195, 1, none⟩))] ([⟨b195, [.int .i64 t187, .int .i64 t188], 2⟩, ⟨N194, [.int .i64 t186, .int .i64 t187, .int .i64 t188, .int .i64 t189, .int .i64 t190, .int .i64 t191, .int .i64 t192], 7⟩, ⟨g184, [.int .i64 a0_1], 1⟩, ⟨g183, [.int .i64 a0_0], 1⟩, ⟨b182, [.int .i64 0, .int .i64 0], 2⟩, ⟨b181, [.int .i64 2, .int .i64 s1_1, .int .i64 s1_2, .int .i64 s1_3, .int .i64 s1_4, .int .i64 s1_5, .int .i64 s1_6], 7⟩, ⟨b180, [.int .i64 a0_0, .int .i64 a0_1], 2⟩] : List Own) := by
      refine hstep [3, 7] _ _ _ (by kernel_rfl) (List.cons_ne_nil _ _) ⟨?_, ?_, trivial⟩
      · show T _ _ _ _ _ _ _ _
        refine t_a (.bsl rfl rfl rfl rfl) fun g196 fg196 sg196 => ?_
        refine t_keep [2, 3, 8, 9, 10, 20, 21, 22, 26, 29, 31, 32] (σ' := [(2, .int .i64 i2), (3, .int .i64 n3), (8, .pointer (some ⟨b182, 0, none⟩)), (9, .slice (some ⟨g183, 0, none⟩) 1 1), (10, .slice (some ⟨g184, 0, none⟩) 1 1), (20, .slice (some ⟨N194, 1, none⟩) 2 3), (21, .int .i64 2), (22, .int .i64 0), (26, .slice (some ⟨g183, 0, none⟩) 1 1), (29, .slice (some ⟨g196, 0, none⟩) 1 1), (31, .slice (some ⟨g184, 0, none⟩) 1 1), (32, .pointer (some ⟨b195, 1, none⟩))]) (by kernel_rfl) ?_
        refine t_end ?_
        exact ⟨hg_6f g196, rfl⟩
      · show T _ _ _ _ _ _ _ _
        refine t_v (.ld1 rfl rfl rfl (.at 0 rfl rfl)) ?_
        refine t_keep [2, 3, 8, 9, 10, 20, 21, 22, 26, 28, 31, 33] (σ' := [(2, .int .i64 i2), (3, .int .i64 n3), (8, .pointer (some ⟨b182, 0, none⟩)), (9, .slice (some ⟨g183, 0, none⟩) 1 1), (10, .slice (some ⟨g184, 0, none⟩) 1 1), (20, .slice (some ⟨N194, 1, none⟩) 2 3), (21, .int .i64 2), (22, .int .i64 0), (26, .slice (some ⟨g183, 0, none⟩) 1 1), (28, .int .i64 t187), (31, .slice (some ⟨g184, 0, none⟩) 1 1), (33, .int .i64 t188)]) (by kernel_rfl) ?_
        refine t_end ?_
        exact ⟨hg_e7, rfl⟩
    have hg_63 : G [true, true, false, false, false, true, true, false, false, false, false, false] [(2, .int .i64 i2), (3, .int .i64 n3), (8, .pointer (some ⟨b182, 0, none⟩)), (9, .slice (some ⟨g183, 0, none⟩) 1 1), (10, .slice (some ⟨g184, 0, none⟩) 1 1), (20, .slice (some ⟨N194, 1, none⟩) 2 3), (21, .int .i64 2), (22, .int .i64 0), (26, .slice (some ⟨g183, 0, none⟩) 1 1), (27, .pointer (some ⟨b195, 0, none⟩)), (31, .slice (some ⟨g184, 0, none⟩) 1 1), (32, .pointer (some ⟨b195, 1, none⟩))] ([⟨b195, [.int .i64 t187, .int .i64 t188], 2⟩, ⟨N194, [.int .i64 t186, .int .i64 t187, .int .i64 t188, .int .i64 t189, .int .i64 t190, .int .i64 t191, .int .i64 t192], 7⟩, ⟨g184, [.int .i64 a0_1], 1⟩, ⟨g183, [.int .i64 a0_0], 1⟩, ⟨b182, [.int .i64 0, .int .i64 0], 2⟩, ⟨b181, [.int .i64 2, .int .i64 s1_1, .int .i64 s1_2, .int .i64 s1_3, .int .i64 s1_4, .int .i64 s1_5, .int .i64 s1_6], 7⟩, ⟨b180, [.int .i64 a0_0, .int .i64 a0_1], 2⟩] : List Own) := by
      refine hstep [2, 7] _ _ _ (by kernel_rfl) (List.cons_ne_nil _ _) ⟨?_, ?_, trivial⟩
      · show T _ _ _ _ _ _ _ _
        refine t_v (.ld1 rfl rfl rfl (.at 0 rfl rfl)) ?_
        refine t_keep [2, 3, 8, 9, 10, 20, 21, 22, 26, 28, 31, 32] (σ' := [(2, .int .i64 i2), (3, .int .i64 n3), (8, .pointer (some ⟨b182, 0, none⟩)), (9, .slice (some ⟨g183, 0, none⟩) 1 1), (10, .slice (some ⟨g184, 0, none⟩) 1 1), (20, .slice (some ⟨N194, 1, none⟩) 2 3), (21, .int .i64 2), (22, .int .i64 0), (26, .slice (some ⟨g183, 0, none⟩) 1 1), (28, .int .i64 t187), (31, .slice (some ⟨g184, 0, none⟩) 1 1), (32, .pointer (some ⟨b195, 1, none⟩))]) (by kernel_rfl) ?_
        refine t_end ?_
        exact ⟨hg_67, rfl⟩
      · show T _ _ _ _ _ _ _ _
        refine t_v (.ld1 rfl rfl rfl (.at 0 rfl rfl)) ?_
        refine t_keep [2, 3, 8, 9, 10, 20, 21, 22, 26, 27, 31, 33] (σ' := [(2, .int .i64 i2), (3, .int .i64 n3), (8, .pointer (some ⟨b182, 0, none⟩)), (9, .slice (some ⟨g183, 0, none⟩) 1 1), (10, .slice (some ⟨g184, 0, none⟩) 1 1), (20, .slice (some ⟨N194, 1, none⟩) 2 3), (21, .int .i64 2), (22, .int .i64 0), (26, .slice (some ⟨g183, 0, none⟩) 1 1), (27, .pointer (some ⟨b195, 0, none⟩)), (31, .slice (some ⟨g184, 0, none⟩) 1 1), (33, .int .i64 t188)]) (by kernel_rfl) ?_
        refine t_end ?_
        exact ⟨hg_e3, rfl⟩
    have hg_23 : G [true, true, false, false, false, true, false, false, false, false, false, false] [(2, .int .i64 i2), (3, .int .i64 n3), (8, .pointer (some ⟨b182, 0, none⟩)), (9, .slice (some ⟨g183, 0, none⟩) 1 1), (10, .slice (some ⟨g184, 0, none⟩) 1 1), (12, .pointer (some ⟨b195, 0, none⟩)), (20, .slice (some ⟨N194, 1, none⟩) 2 3), (21, .int .i64 2), (22, .int .i64 0), (26, .slice (some ⟨g183, 0, none⟩) 1 1), (27, .pointer (some ⟨b195, 0, none⟩)), (31, .slice (some ⟨g184, 0, none⟩) 1 1)] ([⟨b195, [.int .i64 t187, .int .i64 t188], 2⟩, ⟨N194, [.int .i64 t186, .int .i64 t187, .int .i64 t188, .int .i64 t189, .int .i64 t190, .int .i64 t191, .int .i64 t192], 7⟩, ⟨g184, [.int .i64 a0_1], 1⟩, ⟨g183, [.int .i64 a0_0], 1⟩, ⟨b182, [.int .i64 0, .int .i64 0], 2⟩, ⟨b181, [.int .i64 2, .int .i64 s1_1, .int .i64 s1_2, .int .i64 s1_3, .int .i64 s1_4, .int .i64 s1_5, .int .i64 s1_6], 7⟩, ⟨b180, [.int .i64 a0_0, .int .i64 a0_1], 2⟩] : List Own) := by
      exact hqf 6 [2, 3, 8, 9, 10, 20, 21, 22, 26, 27, 31, 32] _ _ _ [(2, .int .i64 i2), (3, .int .i64 n3), (8, .pointer (some ⟨b182, 0, none⟩)), (9, .slice (some ⟨g183, 0, none⟩) 1 1), (10, .slice (some ⟨g184, 0, none⟩) 1 1), (20, .slice (some ⟨N194, 1, none⟩) 2 3), (21, .int .i64 2), (22, .int .i64 0), (26, .slice (some ⟨g183, 0, none⟩) 1 1), (27, .pointer (some ⟨b195, 0, none⟩)), (31, .slice (some ⟨g184, 0, none⟩) 1 1), (32, .pointer (some ⟨b195, 1, none⟩))] (by kernel_rfl) (by kernel_rfl) hg_63
    have hg_3 : G [true, true, false, false, false, false, false, false, false, false, false, false] [(2, .int .i64 i2), (3, .int .i64 n3), (8, .pointer (some ⟨b182, 0, none⟩)), (9, .slice (some ⟨g183, 0, none⟩) 1 1), (10, .slice (some ⟨g184, 0, none⟩) 1 1), (12, .pointer (some ⟨b195, 0, none⟩)), (20, .slice (some ⟨N194, 1, none⟩) 2 3), (21, .int .i64 2), (22, .int .i64 0), (26, .slice (some ⟨g183, 0, none⟩) 1 1), (27, .pointer (some ⟨b195, 0, none⟩))] ([⟨b195, [.int .i64 t187, .int .i64 t188], 2⟩, ⟨N194, [.int .i64 t186, .int .i64 t187, .int .i64 t188, .int .i64 t189, .int .i64 t190, .int .i64 t191, .int .i64 t192], 7⟩, ⟨g184, [.int .i64 a0_1], 1⟩, ⟨g183, [.int .i64 a0_0], 1⟩, ⟨b182, [.int .i64 0, .int .i64 0], 2⟩, ⟨b181, [.int .i64 2, .int .i64 s1_1, .int .i64 s1_2, .int .i64 s1_3, .int .i64 s1_4, .int .i64 s1_5, .int .i64 s1_6], 7⟩, ⟨b180, [.int .i64 a0_0, .int .i64 a0_1], 2⟩] : List Own) := by
      exact hqf 5 [2, 3, 8, 9, 10, 12, 20, 21, 22, 26, 27, 31] _ _ _ [(2, .int .i64 i2), (3, .int .i64 n3), (8, .pointer (some ⟨b182, 0, none⟩)), (9, .slice (some ⟨g183, 0, none⟩) 1 1), (10, .slice (some ⟨g184, 0, none⟩) 1 1), (12, .pointer (some ⟨b195, 0, none⟩)), (20, .slice (some ⟨N194, 1, none⟩) 2 3), (21, .int .i64 2), (22, .int .i64 0), (26, .slice (some ⟨g183, 0, none⟩) 1 1), (27, .pointer (some ⟨b195, 0, none⟩)), (31, .slice (some ⟨g184, 0, none⟩) 1 1)] (by kernel_rfl) (by kernel_rfl) hg_23
    have hg_1 : G [true, false, false, false, false, false, false, false, false, false, false, false] [(2, .int .i64 i2), (3, .int .i64 n3), (8, .pointer (some ⟨b182, 0, none⟩)), (9, .slice (some ⟨g183, 0, none⟩) 1 1), (10, .slice (some ⟨g184, 0, none⟩) 1 1), (12, .pointer (some ⟨b195, 0, none⟩)), (20, .slice (some ⟨N194, 1, none⟩) 2 3), (21, .int .i64 2), (22, .int .i64 0), (26, .slice (some ⟨g183, 0, none⟩) 1 1)] ([⟨b195, [.int .i64 t187, .int .i64 t188], 2⟩, ⟨N194, [.int .i64 t186, .int .i64 t187, .int .i64 t188, .int .i64 t189, .int .i64 t190, .int .i64 t191, .int .i64 t192], 7⟩, ⟨g184, [.int .i64 a0_1], 1⟩, ⟨g183, [.int .i64 a0_0], 1⟩, ⟨b182, [.int .i64 0, .int .i64 0], 2⟩, ⟨b181, [.int .i64 2, .int .i64 s1_1, .int .i64 s1_2, .int .i64 s1_3, .int .i64 s1_4, .int .i64 s1_5, .int .i64 s1_6], 7⟩, ⟨b180, [.int .i64 a0_0, .int .i64 a0_1], 2⟩] : List Own) := by
      exact hqf 1 [2, 3, 8, 9, 10, 12, 20, 21, 22, 26, 27] _ _ _ [(2, .int .i64 i2), (3, .int .i64 n3), (8, .pointer (some ⟨b182, 0, none⟩)), (9, .slice (some ⟨g183, 0, none⟩) 1 1), (10, .slice (some ⟨g184, 0, none⟩) 1 1), (12, .pointer (some ⟨b195, 0, none⟩)), (20, .slice (some ⟨N194, 1, none⟩) 2 3), (21, .int .i64 2), (22, .int .i64 0), (26, .slice (some ⟨g183, 0, none⟩) 1 1), (27, .pointer (some ⟨b195, 0, none⟩))] (by kernel_rfl) (by kernel_rfl) hg_3
    have hg_0 : G [false, false, false, false, false, false, false, false, false, false, false, false] [(2, .int .i64 i2), (3, .int .i64 n3), (8, .pointer (some ⟨b182, 0, none⟩)), (9, .slice (some ⟨g183, 0, none⟩) 1 1), (10, .slice (some ⟨g184, 0, none⟩) 1 1), (12, .pointer (some ⟨b195, 0, none⟩)), (20, .slice (some ⟨N194, 1, none⟩) 2 3), (21, .int .i64 2), (22, .int .i64 0)] ([⟨b195, [.int .i64 t187, .int .i64 t188], 2⟩, ⟨N194, [.int .i64 t186, .int .i64 t187, .int .i64 t188, .int .i64 t189, .int .i64 t190, .int .i64 t191, .int .i64 t192], 7⟩, ⟨g184, [.int .i64 a0_1], 1⟩, ⟨g183, [.int .i64 a0_0], 1⟩, ⟨b182, [.int .i64 0, .int .i64 0], 2⟩, ⟨b181, [.int .i64 2, .int .i64 s1_1, .int .i64 s1_2, .int .i64 s1_3, .int .i64 s1_4, .int .i64 s1_5, .int .i64 s1_6], 7⟩, ⟨b180, [.int .i64 a0_0, .int .i64 a0_1], 2⟩] : List Own) := by
      exact hqf 0 [2, 3, 8, 9, 10, 12, 20, 21, 22, 26] _ _ _ [(2, .int .i64 i2), (3, .int .i64 n3), (8, .pointer (some ⟨b182, 0, none⟩)), (9, .slice (some ⟨g183, 0, none⟩) 1 1), (10, .slice (some ⟨g184, 0, none⟩) 1 1), (12, .pointer (some ⟨b195, 0, none⟩)), (20, .slice (some ⟨N194, 1, none⟩) 2 3), (21, .int .i64 2), (22, .int .i64 0), (26, .slice (some ⟨g183, 0, none⟩) 1 1)] (by kernel_rfl) (by kernel_rfl) hg_1
    exact hg_0
  have hg_7f : ∀ (g184 : Nat) (g183 : Nat), G [true, true, true, true, true, true, true, false] [(2, .int .i64 i2), (3, .int .i64 n3), (5, .pointer (some ⟨b181, 0, none⟩)), (8, .pointer (some ⟨b182, 0, none⟩)), (9, .slice (some ⟨g183, 0, none⟩) 1 1), (18, .slice (some ⟨g184, 0, none⟩) 1 1)] ([⟨g184, [.int .i64 a0_1], 1⟩, ⟨g183, [.int .i64 a0_0], 1⟩, ⟨b182, [.int .i64 0, .int .i64 0], 2⟩, ⟨b181, [.int .i64 2, .int .i64 s1_1, .int .i64 s1_2, .int .i64 s1_3, .int .i64 s1_4, .int .i64 s1_5, .int .i64 s1_6], 7⟩, ⟨b180, [.int .i64 a0_0, .int .i64 a0_1], 2⟩] : List Own) := by
    intro g184 g183
    exact hqf 7 [2, 3, 5, 8, 9, 10] _ _ _ [(2, .int .i64 i2), (3, .int .i64 n3), (5, .pointer (some ⟨b181, 0, none⟩)), (8, .pointer (some ⟨b182, 0, none⟩)), (9, .slice (some ⟨g183, 0, none⟩) 1 1), (10, .slice (some ⟨g184, 0, none⟩) 1 1)] (by kernel_rfl) (by kernel_rfl) (hg_ff g184 g183)
  have hg_3f : ∀ (g184 : Nat) (g183 : Nat), G [true, true, true, true, true, true, false, false] [(2, .int .i64 i2), (3, .int .i64 n3), (5, .pointer (some ⟨b181, 0, none⟩)), (8, .pointer (some ⟨b182, 0, none⟩)), (15, .slice (some ⟨g183, 0, none⟩) 1 1), (18, .slice (some ⟨g184, 0, none⟩) 1 1)] ([⟨g184, [.int .i64 a0_1], 1⟩, ⟨g183, [.int .i64 a0_0], 1⟩, ⟨b182, [.int .i64 0, .int .i64 0], 2⟩, ⟨b181, [.int .i64 2, .int .i64 s1_1, .int .i64 s1_2, .int .i64 s1_3, .int .i64 s1_4, .int .i64 s1_5, .int .i64 s1_6], 7⟩, ⟨b180, [.int .i64 a0_0, .int .i64 a0_1], 2⟩] : List Own) := by
    intro g184 g183
    exact hqf 6 [2, 3, 5, 8, 9, 18] _ _ _ [(2, .int .i64 i2), (3, .int .i64 n3), (5, .pointer (some ⟨b181, 0, none⟩)), (8, .pointer (some ⟨b182, 0, none⟩)), (9, .slice (some ⟨g183, 0, none⟩) 1 1), (18, .slice (some ⟨g184, 0, none⟩) 1 1)] (by kernel_rfl) (by kernel_rfl) (hg_7f g184 g183)
  have hg_5f : ∀ (g183 : Nat), G [true, true, true, true, true, false, true, false] [(2, .int .i64 i2), (3, .int .i64 n3), (5, .pointer (some ⟨b181, 0, none⟩)), (8, .pointer (some ⟨b182, 0, none⟩)), (9, .slice (some ⟨g183, 0, none⟩) 1 1), (17, .int .i64 a0_1)] ([⟨g183, [.int .i64 a0_0], 1⟩, ⟨b182, [.int .i64 0, .int .i64 0], 2⟩, ⟨b181, [.int .i64 2, .int .i64 s1_1, .int .i64 s1_2, .int .i64 s1_3, .int .i64 s1_4, .int .i64 s1_5, .int .i64 s1_6], 7⟩, ⟨b180, [.int .i64 a0_0, .int .i64 a0_1], 2⟩] : List Own) := by
    intro g183
    refine hstep [5] _ _ _ (by kernel_rfl) (List.cons_ne_nil _ _) ⟨?_, trivial⟩
    · show T _ _ _ _ _ _ _ _
      refine t_a (.bsl rfl rfl rfl rfl) fun g184 fg184 sg184 => ?_
      refine t_keep [2, 3, 5, 8, 9, 18] (σ' := [(2, .int .i64 i2), (3, .int .i64 n3), (5, .pointer (some ⟨b181, 0, none⟩)), (8, .pointer (some ⟨b182, 0, none⟩)), (9, .slice (some ⟨g183, 0, none⟩) 1 1), (18, .slice (some ⟨g184, 0, none⟩) 1 1)]) (by kernel_rfl) ?_
      refine t_end ?_
      exact ⟨hg_7f g184 g183, rfl⟩
  have hg_3b : ∀ (g184 : Nat), G [true, true, false, true, true, true, false, false] [(2, .int .i64 i2), (3, .int .i64 n3), (5, .pointer (some ⟨b181, 0, none⟩)), (8, .pointer (some ⟨b182, 0, none⟩)), (14, .int .i64 a0_0), (18, .slice (some ⟨g184, 0, none⟩) 1 1)] ([⟨g184, [.int .i64 a0_1], 1⟩, ⟨b182, [.int .i64 0, .int .i64 0], 2⟩, ⟨b181, [.int .i64 2, .int .i64 s1_1, .int .i64 s1_2, .int .i64 s1_3, .int .i64 s1_4, .int .i64 s1_5, .int .i64 s1_6], 7⟩, ⟨b180, [.int .i64 a0_0, .int .i64 a0_1], 2⟩] : List Own) := by
    intro g184
    refine hstep [2] _ _ _ (by kernel_rfl) (List.cons_ne_nil _ _) ⟨?_, trivial⟩
    · show T _ _ _ _ _ _ _ _
      refine t_a (.bsl rfl rfl rfl rfl) fun g183 fg183 sg183 => ?_
      refine t_keep [2, 3, 5, 8, 15, 18] (σ' := [(2, .int .i64 i2), (3, .int .i64 n3), (5, .pointer (some ⟨b181, 0, none⟩)), (8, .pointer (some ⟨b182, 0, none⟩)), (15, .slice (some ⟨g183, 0, none⟩) 1 1), (18, .slice (some ⟨g184, 0, none⟩) 1 1)]) (by kernel_rfl) ?_
      refine t_vs (H' := ([⟨g184, [.int .i64 a0_1], 1⟩, ⟨g183, [.int .i64 a0_0], 1⟩, ⟨b182, [.int .i64 0, .int .i64 0], 2⟩, ⟨b181, [.int .i64 2, .int .i64 s1_1, .int .i64 s1_2, .int .i64 s1_3, .int .i64 s1_4, .int .i64 s1_5, .int .i64 s1_6], 7⟩, ⟨b180, [.int .i64 a0_0, .int .i64 a0_1], 2⟩] : List Own)) (S' := S) (VS.sel [1, 0, 0, 0, 0] (by kernel_rfl)) ?_
      refine t_end ?_
      exact ⟨hg_3f g184 g183, rfl⟩
  have hg_1f : ∀ (g183 : Nat), G [true, true, true, true, true, false, false, false] [(2, .int .i64 i2), (3, .int .i64 n3), (5, .pointer (some ⟨b181, 0, none⟩)), (8, .pointer (some ⟨b182, 0, none⟩)), (15, .slice (some ⟨g183, 0, none⟩) 1 1), (17, .int .i64 a0_1)] ([⟨g183, [.int .i64 a0_0], 1⟩, ⟨b182, [.int .i64 0, .int .i64 0], 2⟩, ⟨b181, [.int .i64 2, .int .i64 s1_1, .int .i64 s1_2, .int .i64 s1_3, .int .i64 s1_4, .int .i64 s1_5, .int .i64 s1_6], 7⟩, ⟨b180, [.int .i64 a0_0, .int .i64 a0_1], 2⟩] : List Own) := by
    intro g183
    exact hqf 6 [2, 3, 5, 8, 9, 17] _ _ _ [(2, .int .i64 i2), (3, .int .i64 n3), (5, .pointer (some ⟨b181, 0, none⟩)), (8, .pointer (some ⟨b182, 0, none⟩)), (9, .slice (some ⟨g183, 0, none⟩) 1 1), (17, .int .i64 a0_1)] (by kernel_rfl) (by kernel_rfl) (hg_5f g183)
  have hg_4f : ∀ (g183 : Nat), G [true, true, true, true, false, false, true, false] [(2, .int .i64 i2), (3, .int .i64 n3), (5, .pointer (some ⟨b181, 0, none⟩)), (8, .pointer (some ⟨b182, 0, none⟩)), (9, .slice (some ⟨g183, 0, none⟩) 1 1), (16, .pointer (some ⟨b180, 1, none⟩))] ([⟨g183, [.int .i64 a0_0], 1⟩, ⟨b182, [.int .i64 0, .int .i64 0], 2⟩, ⟨b181, [.int .i64 2, .int .i64 s1_1, .int .i64 s1_2, .int .i64 s1_3, .int .i64 s1_4, .int .i64 s1_5, .int .i64 s1_6], 7⟩, ⟨b180, [.int .i64 a0_0, .int .i64 a0_1], 2⟩] : List Own) := by
    intro g183
    refine hstep [4] _ _ _ (by kernel_rfl) (List.cons_ne_nil _ _) ⟨?_, trivial⟩
    · show T _ _ _ _ _ _ _ _
      refine t_v (.ld1 rfl rfl rfl (.at 3 rfl rfl)) ?_
      refine t_keep [2, 3, 5, 8, 9, 17] (σ' := [(2, .int .i64 i2), (3, .int .i64 n3), (5, .pointer (some ⟨b181, 0, none⟩)), (8, .pointer (some ⟨b182, 0, none⟩)), (9, .slice (some ⟨g183, 0, none⟩) 1 1), (17, .int .i64 a0_1)]) (by kernel_rfl) ?_
      refine t_end ?_
      exact ⟨hg_5f g183, rfl⟩
  have hg_f : ∀ (g183 : Nat), G [true, true, true, true, false, false, false, false] [(2, .int .i64 i2), (3, .int .i64 n3), (5, .pointer (some ⟨b181, 0, none⟩)), (8, .pointer (some ⟨b182, 0, none⟩)), (15, .slice (some ⟨g183, 0, none⟩) 1 1), (16, .pointer (some ⟨b180, 1, none⟩))] ([⟨g183, [.int .i64 a0_0], 1⟩, ⟨b182, [.int .i64 0, .int .i64 0], 2⟩, ⟨b181, [.int .i64 2, .int .i64 s1_1, .int .i64 s1_2, .int .i64 s1_3, .int .i64 s1_4, .int .i64 s1_5, .int .i64 s1_6], 7⟩, ⟨b180, [.int .i64 a0_0, .int .i64 a0_1], 2⟩] : List Own) := by
    intro g183
    exact hqf 6 [2, 3, 5, 8, 9, 16] _ _ _ [(2, .int .i64 i2), (3, .int .i64 n3), (5, .pointer (some ⟨b181, 0, none⟩)), (8, .pointer (some ⟨b182, 0, none⟩)), (9, .slice (some ⟨g183, 0, none⟩) 1 1), (16, .pointer (some ⟨b180, 1, none⟩))] (by kernel_rfl) (by kernel_rfl) (hg_4f g183)
  have hg_1b : G [true, true, false, true, true, false, false, false] [(2, .int .i64 i2), (3, .int .i64 n3), (5, .pointer (some ⟨b181, 0, none⟩)), (8, .pointer (some ⟨b182, 0, none⟩)), (14, .int .i64 a0_0), (17, .int .i64 a0_1)] ([⟨b182, [.int .i64 0, .int .i64 0], 2⟩, ⟨b181, [.int .i64 2, .int .i64 s1_1, .int .i64 s1_2, .int .i64 s1_3, .int .i64 s1_4, .int .i64 s1_5, .int .i64 s1_6], 7⟩, ⟨b180, [.int .i64 a0_0, .int .i64 a0_1], 2⟩] : List Own) := by
    refine hstep [2, 5] _ _ _ (by kernel_rfl) (List.cons_ne_nil _ _) ⟨?_, ?_, trivial⟩
    · show T _ _ _ _ _ _ _ _
      refine t_a (.bsl rfl rfl rfl rfl) fun g183 fg183 sg183 => ?_
      refine t_keep [2, 3, 5, 8, 15, 17] (σ' := [(2, .int .i64 i2), (3, .int .i64 n3), (5, .pointer (some ⟨b181, 0, none⟩)), (8, .pointer (some ⟨b182, 0, none⟩)), (15, .slice (some ⟨g183, 0, none⟩) 1 1), (17, .int .i64 a0_1)]) (by kernel_rfl) ?_
      refine t_end ?_
      exact ⟨hg_1f g183, rfl⟩
    · show T _ _ _ _ _ _ _ _
      refine t_a (.bsl rfl rfl rfl rfl) fun g184 fg184 sg184 => ?_
      refine t_keep [2, 3, 5, 8, 14, 18] (σ' := [(2, .int .i64 i2), (3, .int .i64 n3), (5, .pointer (some ⟨b181, 0, none⟩)), (8, .pointer (some ⟨b182, 0, none⟩)), (14, .int .i64 a0_0), (18, .slice (some ⟨g184, 0, none⟩) 1 1)]) (by kernel_rfl) ?_
      refine t_end ?_
      exact ⟨hg_3b g184, rfl⟩
  have hg_39 : ∀ (g184 : Nat), G [true, false, false, true, true, true, false, false] [(2, .int .i64 i2), (3, .int .i64 n3), (5, .pointer (some ⟨b181, 0, none⟩)), (8, .pointer (some ⟨b182, 0, none⟩)), (13, .pointer (some ⟨b180, 0, none⟩)), (18, .slice (some ⟨g184, 0, none⟩) 1 1)] ([⟨g184, [.int .i64 a0_1], 1⟩, ⟨b182, [.int .i64 0, .int .i64 0], 2⟩, ⟨b181, [.int .i64 2, .int .i64 s1_1, .int .i64 s1_2, .int .i64 s1_3, .int .i64 s1_4, .int .i64 s1_5, .int .i64 s1_6], 7⟩, ⟨b180, [.int .i64 a0_0, .int .i64 a0_1], 2⟩] : List Own) := by
    intro g184
    refine hstep [1] _ _ _ (by kernel_rfl) (List.cons_ne_nil _ _) ⟨?_, trivial⟩
    · show T _ _ _ _ _ _ _ _
      refine t_v (.ld1 rfl rfl rfl (.at 3 rfl rfl)) ?_
      refine t_keep [2, 3, 5, 8, 14, 18] (σ' := [(2, .int .i64 i2), (3, .int .i64 n3), (5, .pointer (some ⟨b181, 0, none⟩)), (8, .pointer (some ⟨b182, 0, none⟩)), (14, .int .i64 a0_0), (18, .slice (some ⟨g184, 0, none⟩) 1 1)]) (by kernel_rfl) ?_
      refine t_end ?_
      exact ⟨hg_3b g184, rfl⟩
  have hg_b : G [true, true, false, true, false, false, false, false] [(2, .int .i64 i2), (3, .int .i64 n3), (5, .pointer (some ⟨b181, 0, none⟩)), (8, .pointer (some ⟨b182, 0, none⟩)), (14, .int .i64 a0_0), (16, .pointer (some ⟨b180, 1, none⟩))] ([⟨b182, [.int .i64 0, .int .i64 0], 2⟩, ⟨b181, [.int .i64 2, .int .i64 s1_1, .int .i64 s1_2, .int .i64 s1_3, .int .i64 s1_4, .int .i64 s1_5, .int .i64 s1_6], 7⟩, ⟨b180, [.int .i64 a0_0, .int .i64 a0_1], 2⟩] : List Own) := by
    refine hstep [2, 4] _ _ _ (by kernel_rfl) (List.cons_ne_nil _ _) ⟨?_, ?_, trivial⟩
    · show T _ _ _ _ _ _ _ _
      refine t_a (.bsl rfl rfl rfl rfl) fun g183 fg183 sg183 => ?_
      refine t_keep [2, 3, 5, 8, 15, 16] (σ' := [(2, .int .i64 i2), (3, .int .i64 n3), (5, .pointer (some ⟨b181, 0, none⟩)), (8, .pointer (some ⟨b182, 0, none⟩)), (15, .slice (some ⟨g183, 0, none⟩) 1 1), (16, .pointer (some ⟨b180, 1, none⟩))]) (by kernel_rfl) ?_
      refine t_end ?_
      exact ⟨hg_f g183, rfl⟩
    · show T _ _ _ _ _ _ _ _
      refine t_v (.ld1 rfl rfl rfl (.at 2 rfl rfl)) ?_
      refine t_keep [2, 3, 5, 8, 14, 17] (σ' := [(2, .int .i64 i2), (3, .int .i64 n3), (5, .pointer (some ⟨b181, 0, none⟩)), (8, .pointer (some ⟨b182, 0, none⟩)), (14, .int .i64 a0_0), (17, .int .i64 a0_1)]) (by kernel_rfl) ?_
      refine t_end ?_
      exact ⟨hg_1b, rfl⟩
  have hg_19 : G [true, false, false, true, true, false, false, false] [(2, .int .i64 i2), (3, .int .i64 n3), (5, .pointer (some ⟨b181, 0, none⟩)), (8, .pointer (some ⟨b182, 0, none⟩)), (13, .pointer (some ⟨b180, 0, none⟩)), (17, .int .i64 a0_1)] ([⟨b182, [.int .i64 0, .int .i64 0], 2⟩, ⟨b181, [.int .i64 2, .int .i64 s1_1, .int .i64 s1_2, .int .i64 s1_3, .int .i64 s1_4, .int .i64 s1_5, .int .i64 s1_6], 7⟩, ⟨b180, [.int .i64 a0_0, .int .i64 a0_1], 2⟩] : List Own) := by
    refine hstep [1, 5] _ _ _ (by kernel_rfl) (List.cons_ne_nil _ _) ⟨?_, ?_, trivial⟩
    · show T _ _ _ _ _ _ _ _
      refine t_v (.ld1 rfl rfl rfl (.at 2 rfl rfl)) ?_
      refine t_keep [2, 3, 5, 8, 14, 17] (σ' := [(2, .int .i64 i2), (3, .int .i64 n3), (5, .pointer (some ⟨b181, 0, none⟩)), (8, .pointer (some ⟨b182, 0, none⟩)), (14, .int .i64 a0_0), (17, .int .i64 a0_1)]) (by kernel_rfl) ?_
      refine t_end ?_
      exact ⟨hg_1b, rfl⟩
    · show T _ _ _ _ _ _ _ _
      refine t_a (.bsl rfl rfl rfl rfl) fun g184 fg184 sg184 => ?_
      refine t_keep [2, 3, 5, 8, 13, 18] (σ' := [(2, .int .i64 i2), (3, .int .i64 n3), (5, .pointer (some ⟨b181, 0, none⟩)), (8, .pointer (some ⟨b182, 0, none⟩)), (13, .pointer (some ⟨b180, 0, none⟩)), (18, .slice (some ⟨g184, 0, none⟩) 1 1)]) (by kernel_rfl) ?_
      refine t_end ?_
      exact ⟨hg_39 g184, rfl⟩
  have hg_9 : G [true, false, false, true, false, false, false, false] [(2, .int .i64 i2), (3, .int .i64 n3), (5, .pointer (some ⟨b181, 0, none⟩)), (8, .pointer (some ⟨b182, 0, none⟩)), (13, .pointer (some ⟨b180, 0, none⟩)), (16, .pointer (some ⟨b180, 1, none⟩))] ([⟨b182, [.int .i64 0, .int .i64 0], 2⟩, ⟨b181, [.int .i64 2, .int .i64 s1_1, .int .i64 s1_2, .int .i64 s1_3, .int .i64 s1_4, .int .i64 s1_5, .int .i64 s1_6], 7⟩, ⟨b180, [.int .i64 a0_0, .int .i64 a0_1], 2⟩] : List Own) := by
    refine hstep [1, 4] _ _ _ (by kernel_rfl) (List.cons_ne_nil _ _) ⟨?_, ?_, trivial⟩
    · show T _ _ _ _ _ _ _ _
      refine t_v (.ld1 rfl rfl rfl (.at 2 rfl rfl)) ?_
      refine t_keep [2, 3, 5, 8, 14, 16] (σ' := [(2, .int .i64 i2), (3, .int .i64 n3), (5, .pointer (some ⟨b181, 0, none⟩)), (8, .pointer (some ⟨b182, 0, none⟩)), (14, .int .i64 a0_0), (16, .pointer (some ⟨b180, 1, none⟩))]) (by kernel_rfl) ?_
      refine t_end ?_
      exact ⟨hg_b, rfl⟩
    · show T _ _ _ _ _ _ _ _
      refine t_v (.ld1 rfl rfl rfl (.at 2 rfl rfl)) ?_
      refine t_keep [2, 3, 5, 8, 13, 17] (σ' := [(2, .int .i64 i2), (3, .int .i64 n3), (5, .pointer (some ⟨b181, 0, none⟩)), (8, .pointer (some ⟨b182, 0, none⟩)), (13, .pointer (some ⟨b180, 0, none⟩)), (17, .int .i64 a0_1)]) (by kernel_rfl) ?_
      refine t_end ?_
      exact ⟨hg_19, rfl⟩
  have hg_1 : G [true, false, false, false, false, false, false, false] [(2, .int .i64 i2), (3, .int .i64 n3), (4, .pointer (some ⟨b180, 0, none⟩)), (5, .pointer (some ⟨b181, 0, none⟩)), (8, .pointer (some ⟨b182, 0, none⟩)), (13, .pointer (some ⟨b180, 0, none⟩))] ([⟨b182, [.int .i64 0, .int .i64 0], 2⟩, ⟨b181, [.int .i64 2, .int .i64 s1_1, .int .i64 s1_2, .int .i64 s1_3, .int .i64 s1_4, .int .i64 s1_5, .int .i64 s1_6], 7⟩, ⟨b180, [.int .i64 a0_0, .int .i64 a0_1], 2⟩] : List Own) := by
    exact hqf 3 [2, 3, 5, 8, 13, 16] _ _ _ [(2, .int .i64 i2), (3, .int .i64 n3), (5, .pointer (some ⟨b181, 0, none⟩)), (8, .pointer (some ⟨b182, 0, none⟩)), (13, .pointer (some ⟨b180, 0, none⟩)), (16, .pointer (some ⟨b180, 1, none⟩))] (by kernel_rfl) (by kernel_rfl) hg_9
  have hg_0 : G [false, false, false, false, false, false, false, false] [(2, .int .i64 i2), (3, .int .i64 n3), (4, .pointer (some ⟨b180, 0, none⟩)), (5, .pointer (some ⟨b181, 0, none⟩)), (8, .pointer (some ⟨b182, 0, none⟩))] ([⟨b182, [.int .i64 0, .int .i64 0], 2⟩, ⟨b181, [.int .i64 2, .int .i64 s1_1, .int .i64 s1_2, .int .i64 s1_3, .int .i64 s1_4, .int .i64 s1_5, .int .i64 s1_6], 7⟩, ⟨b180, [.int .i64 a0_0, .int .i64 a0_1], 2⟩] : List Own) := by
    exact hqf 0 [2, 3, 4, 5, 8, 13] _ _ _ [(2, .int .i64 i2), (3, .int .i64 n3), (4, .pointer (some ⟨b180, 0, none⟩)), (5, .pointer (some ⟨b181, 0, none⟩)), (8, .pointer (some ⟨b182, 0, none⟩)), (13, .pointer (some ⟨b180, 0, none⟩))] (by kernel_rfl) (by kernel_rfl) hg_1
  exact hg_0

def flatten_points_v4.f (s0_1 : Int) (s0_2 : Int) (s0_3 : Int) (s0_4 : Int) (s0_5 : Int) (s0_6 : Int) : Option (Int × Int × Int × Int × Int × Int × Int) := some (3, s0_1, s0_2, s0_3, s0_4, s0_5, s0_6)
theorem flatten_points_v4.ok {S : Seal} {s0_1 : Int} {s0_2 : Int} {s0_3 : Int} {s0_4 : Int} {s0_5 : Int} {s0_6 : Int} {r0_ : Int} {r1_ : Int} {r2_ : Int} {r3_ : Int} {r4_ : Int} {r5_ : Int} {r6_ : Int}(e : flatten_points_v4.f s0_1 s0_2 s0_3 s0_4 s0_5 s0_6 = some (r0_, r1_, r2_, r3_, r4_, r5_, r6_)) :
    Cal Try.prog 70 [.agg #[.int .i64 3, .int .i64 s0_1, .int .i64 s0_2, .int .i64 s0_3, .int .i64 s0_4, .int .i64 s0_5, .int .i64 s0_6]] [] S fun v H' S' => ∃ (N0_ : Nat) , v = .slice (some ⟨N0_, 1, none⟩) 3 3 ∧ H' = ([⟨N0_, [.int .i64 r0_, .int .i64 r1_, .int .i64 r2_, .int .i64 r3_, .int .i64 r4_, .int .i64 r5_, .int .i64 r6_], 7⟩] : List Own) ∧ S' = S := by
  unfold flatten_points_v4.f at e
  refine cal_of (c := c70) (N := 15) Try.func70 rfl rfl (by kernel_rfl) (rs := [.t 2]) (by kernel_rfl) (Nat.le_of_ble_eq_true rfl) ?_
  unfold c70
  refine w_seq ?_
  refine w_reg fun all => ?_
  refine t_a (.box rfl rfl rfl) fun b226 fb226 sb226 => ?_
  refine t_qz 1 [1] (σ' := [(1, .pointer (some ⟨b226, 0, none⟩))]) (by kernel_rfl) ?_
  refine t_end ?_
  show W _ _ _ _ _ _ _
  refine w_seq ?_
  refine w_seq ?_
  refine w_reg fun all => ?_
  refine t_qz 1 [1, 3] (σ' := [(1, .pointer (some ⟨b226, 0, none⟩)), (3, .pointer (some ⟨b226, 0, none⟩))]) (by kernel_rfl) ?_
  refine t_v (.ld1 rfl rfl rfl (.at 0 rfl rfl)) ?_
  refine t_qz 3 [1, 6, 7] (σ' := [(1, .pointer (some ⟨b226, 0, none⟩)), (6, .bool false), (7, .pointer (some ⟨b226, 0, none⟩))]) (by kernel_rfl) ?_
  refine t_v (.ld1 rfl rfl rfl (.at 0 rfl rfl)) ?_
  refine t_qz 2 [1, 10] (σ' := [(1, .pointer (some ⟨b226, 0, none⟩)), (10, .bool false)]) (by kernel_rfl) ?_
  refine t_end ?_
  show W _ _ _ _ _ _ _
  refine w_cond rfl (fun c_ => by cases c_) (fun _ => ?_)
  show W _ _ _ _ _ _ _
  refine w_skip ?_
  show W _ _ _ _ _ _ _
  refine w_seq ?_
  refine w_reg fun all => ?_
  refine t_qz 2 [11, 12] (σ' := [(11, .pointer (some ⟨b226, 1, none⟩)), (12, .pointer (some ⟨b226, 0, none⟩))]) (by kernel_rfl) ?_
  refine t_v (.ld1 rfl rfl rfl (.at 0 rfl rfl)) ?_
  refine t_qz 2 [2] (σ' := [(2, .slice (some ⟨b226, 1, none⟩) 3 3)]) (by kernel_rfl) ?_
  refine t_end ?_
  show W _ _ _ _ _ _ _
  refine w_ret ?_
  simp only [Option.some.injEq, Prod.mk.injEq] at e
  obtain ⟨rfl, rfl, rfl, rfl, rfl, rfl, rfl⟩ := e
  exact ⟨[.slice (some ⟨b226, 1, none⟩) 3 3], ([⟨b226, [.int .i64 3, .int .i64 s0_1, .int .i64 s0_2, .int .i64 s0_3, .int .i64 s0_4, .int .i64 s0_5, .int .i64 s0_6], 7⟩] : List Own), S, ⟨rfl, trivial⟩, VS.sel [0] (by kernel_rfl), b226, rfl, rfl, rfl⟩

def flatten_mix_v5.f (i0 : Int) (n1 : Int) (m0_0 : Int) (m0_1 : Int) (m0_2 : Int) (m0_3 : Int) : Option (Int) := (fixed_Round.f (wr64 ((wr64 ((wr64 ((wr64 ((wr64 ((wr64 ((wr64 (n1 - i0)) * (wr64 (n1 - i0)))) * (wr64 (n1 - i0)))) * m0_0)) + (wr64 ((wr64 ((wr64 ((wr64 (3 * i0)) * (wr64 (n1 - i0)))) * (wr64 (n1 - i0)))) * m0_1)))) + (wr64 ((wr64 ((wr64 ((wr64 (3 * i0)) * i0)) * (wr64 (n1 - i0)))) * m0_2)))) + (wr64 ((wr64 ((wr64 (i0 * i0)) * i0)) * m0_3)))) (wr64 ((wr64 (n1 * n1)) * n1))).bind fun t251 => (some t251)
theorem flatten_mix_v5.ok {S : Seal} {B0 nB0 : Nat} {i0 : Int} {n1 : Int} {m0_0 : Int} {m0_1 : Int} {m0_2 : Int} {m0_3 : Int} {r0_ : Int}(e : flatten_mix_v5.f i0 n1 m0_0 m0_1 m0_2 m0_3 = some r0_) :
    Cal Try.prog 71 [.int .i64 i0, .int .i64 n1, .slice (some ⟨B0, 0, none⟩) 4 (nB0 / 1)] ([⟨B0, [.int .i64 m0_0, .int .i64 m0_1, .int .i64 m0_2, .int .i64 m0_3], nB0⟩] : List Own) S fun v H' S' => v = .int .i64 r0_ ∧ H' = ([⟨B0, [.int .i64 m0_0, .int .i64 m0_1, .int .i64 m0_2, .int .i64 m0_3], nB0⟩] : List Own) ∧ S' = S := by
  unfold flatten_mix_v5.f at e
  refine cal_of (c := c71) (N := 110) Try.func71 rfl rfl (by kernel_rfl) (rs := [.t 6]) (by kernel_rfl) (Nat.le_of_ble_eq_true rfl) ?_
  unfold c71
  refine w_seq ?_
  refine w_reg fun all => ?_
  refine t_qz 1 [0, 1, 2] (σ' := [(0, .int .i64 i0), (1, .int .i64 n1), (2, .slice (some ⟨B0, 0, none⟩) 4 (nB0 / 1))]) (by kernel_rfl) ?_
  refine t_end ?_
  show W _ _ _ _ _ _ _
  refine w_seq ?_
  refine w_reg fun all => ?_
  refine t_qz 4 [0, 1, 2, 7] (σ' := [(0, .int .i64 i0), (1, .int .i64 n1), (2, .slice (some ⟨B0, 0, none⟩) 4 (nB0 / 1)), (7, .int .i64 (wr64 (n1 - i0)))]) (by kernel_rfl) ?_
  refine t_end ?_
  show W _ _ _ _ _ _ _
  refine w_seq ?_
  refine w_seq ?_
  refine w_reg fun all => ?_
  refine t_qz 2 [0, 1, 2, 7, 12] (σ' := [(0, .int .i64 i0), (1, .int .i64 n1), (2, .slice (some ⟨B0, 0, none⟩) 4 (nB0 / 1)), (7, .int .i64 (wr64 (n1 - i0))), (12, .int .i64 4)]) (by kernel_rfl) ?_
  refine t_end ?_
  show W _ _ _ _ _ _ _
  refine w_block ?_
  refine w_seq ?_
  refine w_reg fun all => ?_
  refine t_qz 2 [0, 1, 2, 7, 12, 13] (σ' := [(0, .int .i64 i0), (1, .int .i64 n1), (2, .slice (some ⟨B0, 0, none⟩) 4 (nB0 / 1)), (7, .int .i64 (wr64 (n1 - i0))), (12, .int .i64 4), (13, .bool false)]) (by kernel_rfl) ?_
  refine t_end ?_
  show W _ _ _ _ _ _ _
  refine w_cond rfl (fun c_ => by cases c_) (fun _ => ?_)
  show W _ _ _ _ _ _ _
  refine w_seq ?_
  refine w_reg fun all => ?_
  refine t_qz 2 [0, 1, 2, 7, 12, 18] (σ' := [(0, .int .i64 i0), (1, .int .i64 n1), (2, .slice (some ⟨B0, 0, none⟩) 4 (nB0 / 1)), (7, .int .i64 (wr64 (n1 - i0))), (12, .int .i64 4), (18, .bool false)]) (by kernel_rfl) ?_
  refine t_end ?_
  show W _ _ _ _ _ _ _
  refine w_cond rfl (fun c_ => by cases c_) (fun _ => ?_)
  show W _ _ _ _ _ _ _
  refine w_seq ?_
  refine w_reg fun all => ?_
  refine t_qz 2 [0, 1, 2, 7, 33] (σ' := [(0, .int .i64 i0), (1, .int .i64 n1), (2, .slice (some ⟨B0, 0, none⟩) 4 (nB0 / 1)), (7, .int .i64 (wr64 (n1 - i0))), (33, .bool false)]) (by kernel_rfl) ?_
  refine t_end ?_
  show W _ _ _ _ _ _ _
  refine w_cond rfl (fun c_ => by cases c_) (fun _ => ?_)
  show W _ _ _ _ _ _ _
  refine w_skip ?_
  show W _ _ _ _ _ _ _
  refine w_seq ?_
  obtain ⟨t251, h252, e⟩ := bind_of e
  refine w_drwE mixed 48 [.v (.int .i64 (wr64 (n1 - i0))), .v (.int .i64 (wr64 (n1 - i0))), .v (.int .i64 (wr64 ((wr64 (n1 - i0)) * (wr64 (n1 - i0))))), .v (.int .i64 (wr64 (n1 - i0))), .v (.int .i64 (wr64 ((wr64 ((wr64 (n1 - i0)) * (wr64 (n1 - i0)))) * (wr64 (n1 - i0))))), .v (.slice (some ⟨B0, 0, none⟩) 4 (nB0 / 1)), .v (.pointer (some ⟨B0, 0, none⟩)), .v (.int .i64 m0_0), .v (.int .i64 (wr64 ((wr64 ((wr64 ((wr64 (n1 - i0)) * (wr64 (n1 - i0)))) * (wr64 (n1 - i0)))) * m0_0))), .v (.int .i64 i0), .v (.int .i64 (wr64 (3 * i0))), .v (.int .i64 (wr64 (n1 - i0))), .v (.int .i64 (wr64 ((wr64 (3 * i0)) * (wr64 (n1 - i0))))), .v (.int .i64 (wr64 (n1 - i0))), .v (.int .i64 (wr64 ((wr64 ((wr64 (3 * i0)) * (wr64 (n1 - i0)))) * (wr64 (n1 - i0))))), .v (.slice (some ⟨B0, 0, none⟩) 4 (nB0 / 1)), .v (.pointer (some ⟨B0, 1, none⟩)), .v (.int .i64 m0_1), .v (.int .i64 (wr64 ((wr64 ((wr64 ((wr64 (3 * i0)) * (wr64 (n1 - i0)))) * (wr64 (n1 - i0)))) * m0_1))), .v (.int .i64 (wr64 ((wr64 ((wr64 ((wr64 ((wr64 (n1 - i0)) * (wr64 (n1 - i0)))) * (wr64 (n1 - i0)))) * m0_0)) + (wr64 ((wr64 ((wr64 ((wr64 (3 * i0)) * (wr64 (n1 - i0)))) * (wr64 (n1 - i0)))) * m0_1))))), .v (.int .i64 i0), .v (.int .i64 (wr64 (3 * i0))), .v (.int .i64 i0), .v (.int .i64 (wr64 ((wr64 (3 * i0)) * i0))), .v (.int .i64 (wr64 (n1 - i0))), .v (.int .i64 (wr64 ((wr64 ((wr64 (3 * i0)) * i0)) * (wr64 (n1 - i0))))), .v (.slice (some ⟨B0, 0, none⟩) 4 (nB0 / 1)), .v (.pointer (some ⟨B0, 2, none⟩)), .v (.int .i64 m0_2), .v (.int .i64 (wr64 ((wr64 ((wr64 ((wr64 (3 * i0)) * i0)) * (wr64 (n1 - i0)))) * m0_2))), .v (.int .i64 (wr64 ((wr64 ((wr64 ((wr64 ((wr64 ((wr64 (n1 - i0)) * (wr64 (n1 - i0)))) * (wr64 (n1 - i0)))) * m0_0)) + (wr64 ((wr64 ((wr64 ((wr64 (3 * i0)) * (wr64 (n1 - i0)))) * (wr64 (n1 - i0)))) * m0_1)))) + (wr64 ((wr64 ((wr64 ((wr64 (3 * i0)) * i0)) * (wr64 (n1 - i0)))) * m0_2))))), .v (.int .i64 i0), .v (.int .i64 i0), .v (.int .i64 (wr64 (i0 * i0))), .v (.int .i64 i0), .v (.int .i64 (wr64 ((wr64 (i0 * i0)) * i0))), .v (.slice (some ⟨B0, 0, none⟩) 4 (nB0 / 1)), .v (.pointer (some ⟨B0, 3, none⟩)), .v (.int .i64 m0_3), .v (.int .i64 (wr64 ((wr64 ((wr64 (i0 * i0)) * i0)) * m0_3))), .v (.int .i64 (wr64 ((wr64 ((wr64 ((wr64 ((wr64 ((wr64 ((wr64 (n1 - i0)) * (wr64 (n1 - i0)))) * (wr64 (n1 - i0)))) * m0_0)) + (wr64 ((wr64 ((wr64 ((wr64 (3 * i0)) * (wr64 (n1 - i0)))) * (wr64 (n1 - i0)))) * m0_1)))) + (wr64 ((wr64 ((wr64 ((wr64 (3 * i0)) * i0)) * (wr64 (n1 - i0)))) * m0_2)))) + (wr64 ((wr64 ((wr64 (i0 * i0)) * i0)) * m0_3))))), .v (.int .i64 n1), .v (.int .i64 n1), .v (.int .i64 (wr64 (n1 * n1))), .v (.int .i64 n1), .v (.int .i64 (wr64 ((wr64 (n1 * n1)) * n1))), .v (.int .i64 t251), .v (.int .i64 t251)] (by kernel_rfl) ?_ ?_
  · refine DI.sq 7 (by kernel_rfl) rfl ?_
    refine .cons (.ld1 rfl rfl rfl (.at 0 rfl rfl)) ?_
    refine DI.sq 9 (by kernel_rfl) rfl ?_
    refine .cons (.ld1 rfl rfl rfl (.at 0 rfl rfl)) ?_
    refine DI.sq 10 (by kernel_rfl) rfl ?_
    refine .cons (.ld1 rfl rfl rfl (.at 0 rfl rfl)) ?_
    refine DI.sq 9 (by kernel_rfl) rfl ?_
    refine .cons (.ld1 rfl rfl rfl (.at 0 rfl rfl)) ?_
    refine DI.sq 7 (by kernel_rfl) rfl ?_
    refine .cons (.call (vs := [.int .i64 (wr64 ((wr64 ((wr64 ((wr64 ((wr64 ((wr64 ((wr64 (n1 - i0)) * (wr64 (n1 - i0)))) * (wr64 (n1 - i0)))) * m0_0)) + (wr64 ((wr64 ((wr64 ((wr64 (3 * i0)) * (wr64 (n1 - i0)))) * (wr64 (n1 - i0)))) * m0_1)))) + (wr64 ((wr64 ((wr64 ((wr64 (3 * i0)) * i0)) * (wr64 (n1 - i0)))) * m0_2)))) + (wr64 ((wr64 ((wr64 (i0 * i0)) * i0)) * m0_3)))), .int .i64 (wr64 ((wr64 (n1 * n1)) * n1))]) rfl rfl (by kernel_rfl) (fixed_Round.ok h252)) ?_
    refine DI.sq 1 (by kernel_rfl) rfl ?_
    exact .nil
  refine fk_q 48 [6] (σ' := [(6, .int .i64 t251)]) t_more (by kernel_rfl) ?_
  refine fk_nil fun all => ?_
  refine t_keep [6] (σ' := [(6, .int .i64 t251)]) (by kernel_rfl) ?_
  refine t_end ?_
  show W _ _ _ _ _ _ _
  refine w_ret ?_
  obtain rfl := Option.some.inj e
  exact ⟨[.int .i64 t251], ([⟨B0, [.int .i64 m0_0, .int .i64 m0_1, .int .i64 m0_2, .int .i64 m0_3], nB0⟩] : List Own), S, ⟨rfl, trivial⟩, VS.sel [0] (by kernel_rfl), rfl, rfl, rfl⟩
end Go.Proofs.Ytpimfacaalkmdaa.QFlattenNear
