/- Functions of the program as Lean functions, each with the proof of its walk. Written by gen.py, a program of these sessions. -/
import Derived.Test.YtpimfacaalkmdaaQFlattenNearx1
namespace Go.Proofs.Ytpimfacaalkmdaa.QFlattenNear
open Go Go.RowKit Go.Proofs.YtpimfacaalkmdaaE Go.Proofs.YtpimfacaalkmdaaX
set_option linter.unusedVariables false
set_option maxRecDepth 100000
set_option maxHeartbeats 8000000
def flatten_Point_v4.f (a0_0 : Int) (a0_1 : Int) (s1_1 : Int) (s1_2 : Int) (s1_3 : Int) (s1_4 : Int) (s1_5 : Int) (s1_6 : Int) (i2 : Int) (n3 : Int) : Option (Int × Int) := (flatten_points_v4.f s1_1 s1_2 s1_3 s1_4 s1_5 s1_6).bind fun (t227, t228, t229, t230, t231, t232, t233) => ((flatten_mix_v5.f i2 n3 a0_0 t228 t230 t232).bind fun t253 => ((flatten_mix_v5.f i2 n3 a0_1 t229 t231 t233).bind fun t255 => (some (t253, t255))))
theorem flatten_Point_v4.ok {S : Seal} {a0_0 : Int} {a0_1 : Int} {s1_1 : Int} {s1_2 : Int} {s1_3 : Int} {s1_4 : Int} {s1_5 : Int} {s1_6 : Int} {i2 : Int} {n3 : Int} {r0_ : Int} {r1_ : Int}(e : flatten_Point_v4.f a0_0 a0_1 s1_1 s1_2 s1_3 s1_4 s1_5 s1_6 i2 n3 = some (r0_, r1_)) :
    Cal Try.prog 31 [.agg #[.int .i64 a0_0, .int .i64 a0_1], .agg #[.int .i64 3, .int .i64 s1_1, .int .i64 s1_2, .int .i64 s1_3, .int .i64 s1_4, .int .i64 s1_5, .int .i64 s1_6], .int .i64 i2, .int .i64 n3] [] S fun v H' S' => v = .agg #[.int .i64 r0_, .int .i64 r1_] ∧ H' = [] ∧ S' = S := by
  unfold flatten_Point_v4.f at e
  refine cal_of (c := c31) (N := 46) Try.func31 rfl rfl (by kernel_rfl) (rs := [.cn 2 8]) (by kernel_rfl) (Nat.le_of_ble_eq_true rfl) ?_
  unfold c31
  refine w_seq ?_
  refine w_reg fun all => ?_
  refine t_a (.box rfl rfl rfl) fun b221 fb221 sb221 => ?_
  refine t_a (.box rfl rfl rfl) fun b222 fb222 sb222 => ?_
  refine t_a (.new rfl rfl) fun b223 fb223 sb223 => ?_
  refine t_keep [2, 3, 4, 5, 8] (σ' := [(2, .int .i64 i2), (3, .int .i64 n3), (4, .pointer (some ⟨b221, 0, none⟩)), (5, .pointer (some ⟨b222, 0, none⟩)), (8, .pointer (some ⟨b223, 0, none⟩))]) (by kernel_rfl) ?_
  refine t_end ?_
  show W _ _ _ _ _ _ _
  refine w_seq ?_
  refine w_kp [2, 3, 4, 5, 8] (σ' := [(2, .int .i64 i2), (3, .int .i64 n3), (4, .pointer (some ⟨b221, 0, none⟩)), (5, .pointer (some ⟨b222, 0, none⟩)), (8, .pointer (some ⟨b223, 0, none⟩))]) (by kernel_rfl) ?_
  refine w_gameQ mixed (by kernel_rfl) fun all G hend hstep hqf => ?_
  have hg_ff : ∀ (g225 : Nat) (g224 : Nat), G [true, true, true, true, true, true, true, true] [(2, .int .i64 i2), (3, .int .i64 n3), (5, .pointer (some ⟨b222, 0, none⟩)), (8, .pointer (some ⟨b223, 0, none⟩)), (9, .slice (some ⟨g224, 0, none⟩) 1 1), (10, .slice (some ⟨g225, 0, none⟩) 1 1)] ([⟨g225, [.int .i64 a0_1], 1⟩, ⟨g224, [.int .i64 a0_0], 1⟩, ⟨b223, [.int .i64 0, .int .i64 0], 2⟩, ⟨b222, [.int .i64 3, .int .i64 s1_1, .int .i64 s1_2, .int .i64 s1_3, .int .i64 s1_4, .int .i64 s1_5, .int .i64 s1_6], 7⟩, ⟨b221, [.int .i64 a0_0, .int .i64 a0_1], 2⟩] : List Own) := by
    intro g225 g224
    refine hend _ _ _ (by kernel_rfl) ?_
    show W _ _ _ _ _ _ _
    refine w_seq ?_
    refine w_seq ?_
    refine w_reg fun all => ?_
    refine t_v (.ldn rfl rfl rfl (.at 3 rfl rfl)) ?_
    obtain ⟨⟨t227, t228, t229, t230, t231, t232, t233⟩, h234, e⟩ := bind_of e
    try dsimp only at e
    refine t_call (vs := [.agg #[.int .i64 3, .int .i64 s1_1, .int .i64 s1_2, .int .i64 s1_3, .int .i64 s1_4, .int .i64 s1_5, .int .i64 s1_6]]) (H1 := ([] : List Own)) (F := ([⟨g225, [.int .i64 a0_1], 1⟩, ⟨g224, [.int .i64 a0_0], 1⟩, ⟨b223, [.int .i64 0, .int .i64 0], 2⟩, ⟨b222, [.int .i64 3, .int .i64 s1_1, .int .i64 s1_2, .int .i64 s1_3, .int .i64 s1_4, .int .i64 s1_5, .int .i64 s1_6], 7⟩, ⟨b221, [.int .i64 a0_0, .int .i64 a0_1], 2⟩] : List Own)) rfl rfl (by kernel_rfl) (sel_perm (is := []) (by kernel_rfl)) (flatten_points_v4.ok h234) ?_
    rintro _ _ S_ ⟨N235, rfl, rfl, hS_⟩
    obtain rfl := hS_.symm
    refine t_qz 2 [2, 3, 8, 9, 10, 20, 21, 22] (σ' := [(2, .int .i64 i2), (3, .int .i64 n3), (8, .pointer (some ⟨b223, 0, none⟩)), (9, .slice (some ⟨g224, 0, none⟩) 1 1), (10, .slice (some ⟨g225, 0, none⟩) 1 1), (20, .slice (some ⟨N235, 1, none⟩) 3 3), (21, .int .i64 3), (22, .int .i64 0)]) (by kernel_rfl) ?_
    refine t_end ?_
    show W _ _ _ _ _ _ _
    refine w_block ?_
    refine w_lun 10 ?_
    refine wl_step ?_
    refine w_seq ?_
    refine w_reg fun all => ?_
    refine t_qz 1 [2, 3, 8, 9, 10, 20, 21, 22, 23] (σ' := [(2, .int .i64 i2), (3, .int .i64 n3), (8, .pointer (some ⟨b223, 0, none⟩)), (9, .slice (some ⟨g224, 0, none⟩) 1 1), (10, .slice (some ⟨g225, 0, none⟩) 1 1), (20, .slice (some ⟨N235, 1, none⟩) 3 3), (21, .int .i64 3), (22, .int .i64 0), (23, .bool true)]) (by kernel_rfl) ?_
    refine t_end ?_
    show W _ _ _ _ _ _ _
    refine w_seq ?_
    refine w_cond rfl (fun _ => ?_) (fun c_ => by cases c_)
    show W _ _ _ _ _ _ _
    refine w_skip ?_
    show W _ _ _ _ _ _ _
    refine w_seq ?_
    refine w_block ?_
    refine w_seq ?_
    refine w_reg fun all => ?_
    refine t_qz 1 [2, 3, 8, 9, 10, 20, 21, 22, 24] (σ' := [(2, .int .i64 i2), (3, .int .i64 n3), (8, .pointer (some ⟨b223, 0, none⟩)), (9, .slice (some ⟨g224, 0, none⟩) 1 1), (10, .slice (some ⟨g225, 0, none⟩) 1 1), (20, .slice (some ⟨N235, 1, none⟩) 3 3), (21, .int .i64 3), (22, .int .i64 0), (24, .pointer (some ⟨N235, 1, none⟩))]) (by kernel_rfl) ?_
    refine t_v (.ldn rfl rfl rfl (.at 0 rfl rfl)) ?_
    refine t_a (.new rfl rfl) fun b236 fb236 sb236 => ?_
    refine t_sti 0 (cs := [.int .i64 t228, .int .i64 t229]) rfl rfl rfl rfl rfl rfl rfl rfl rfl ?_
    refine t_keep [2, 3, 8, 9, 10, 12, 20, 21, 22] (σ' := [(2, .int .i64 i2), (3, .int .i64 n3), (8, .pointer (some ⟨b223, 0, none⟩)), (9, .slice (some ⟨g224, 0, none⟩) 1 1), (10, .slice (some ⟨g225, 0, none⟩) 1 1), (12, .pointer (some ⟨b236, 0, none⟩)), (20, .slice (some ⟨N235, 1, none⟩) 3 3), (21, .int .i64 3), (22, .int .i64 0)]) (by kernel_rfl) ?_
    refine t_end ?_
    show W _ _ _ _ _ _ _
    refine w_kp [2, 3, 8, 9, 10, 12, 20, 21, 22] (σ' := [(2, .int .i64 i2), (3, .int .i64 n3), (8, .pointer (some ⟨b223, 0, none⟩)), (9, .slice (some ⟨g224, 0, none⟩) 1 1), (10, .slice (some ⟨g225, 0, none⟩) 1 1), (12, .pointer (some ⟨b236, 0, none⟩)), (20, .slice (some ⟨N235, 1, none⟩) 3 3), (21, .int .i64 3), (22, .int .i64 0)]) (by kernel_rfl) ?_
    refine w_gameQ mixed (by kernel_rfl) fun all G hend hstep hqf => ?_
    have hg_fff : ∀ (g240 : Nat) (ng240 : Nat) (g239 : Nat) (g238 : Nat) (ng238 : Nat) (g237 : Nat), G [true, true, true, true, true, true, true, true, true, true, true, true] [(2, .int .i64 i2), (3, .int .i64 n3), (8, .pointer (some ⟨b223, 0, none⟩)), (9, .slice (some ⟨g238, 0, none⟩) 2 (ng238 / 1)), (10, .slice (some ⟨g240, 0, none⟩) 2 (ng240 / 1)), (20, .slice (some ⟨N235, 1, none⟩) 3 3), (21, .int .i64 3), (22, .int .i64 0)] ([⟨g240, [.int .i64 a0_1, .int .i64 t229], ng240⟩, ⟨g239, [.int .i64 t229], 1⟩, ⟨g238, [.int .i64 a0_0, .int .i64 t228], ng238⟩, ⟨g237, [.int .i64 t228], 1⟩, ⟨b236, [.int .i64 t228, .int .i64 t229], 2⟩, ⟨N235, [.int .i64 t227, .int .i64 t228, .int .i64 t229, .int .i64 t230, .int .i64 t231, .int .i64 t232, .int .i64 t233], 7⟩, ⟨b223, [.int .i64 0, .int .i64 0], 2⟩, ⟨b222, [.int .i64 3, .int .i64 s1_1, .int .i64 s1_2, .int .i64 s1_3, .int .i64 s1_4, .int .i64 s1_5, .int .i64 s1_6], 7⟩, ⟨b221, [.int .i64 a0_0, .int .i64 a0_1], 2⟩] : List Own) := by
      intro g240 ng240 g239 g238 ng238 g237
      refine hend _ _ _ (by kernel_rfl) ?_
      show W _ _ _ _ _ _ _
      refine w_reg fun all => ?_
      refine t_qz 2 [2, 3, 8, 9, 10, 20, 21, 22] (σ' := [(2, .int .i64 i2), (3, .int .i64 n3), (8, .pointer (some ⟨b223, 0, none⟩)), (9, .slice (some ⟨g238, 0, none⟩) 2 (ng238 / 1)), (10, .slice (some ⟨g240, 0, none⟩) 2 (ng240 / 1)), (20, .slice (some ⟨N235, 1, none⟩) 3 3), (21, .int .i64 3), (22, .int .i64 1)]) (by kernel_rfl) ?_
      refine t_end ?_
      show WL _ _ _ _ _ _ _ _
      refine wl_step ?_
      refine w_seq ?_
      refine w_reg fun all => ?_
      refine t_qz 1 [2, 3, 8, 9, 10, 20, 21, 22, 23] (σ' := [(2, .int .i64 i2), (3, .int .i64 n3), (8, .pointer (some ⟨b223, 0, none⟩)), (9, .slice (some ⟨g238, 0, none⟩) 2 (ng238 / 1)), (10, .slice (some ⟨g240, 0, none⟩) 2 (ng240 / 1)), (20, .slice (some ⟨N235, 1, none⟩) 3 3), (21, .int .i64 3), (22, .int .i64 1), (23, .bool true)]) (by kernel_rfl) ?_
      refine t_end ?_
      show W _ _ _ _ _ _ _
      refine w_seq ?_
      refine w_cond rfl (fun _ => ?_) (fun c_ => by cases c_)
      show W _ _ _ _ _ _ _
      refine w_skip ?_
      show W _ _ _ _ _ _ _
      refine w_seq ?_
      refine w_block ?_
      refine w_seq ?_
      refine w_reg fun all => ?_
      refine t_qz 1 [2, 3, 8, 9, 10, 20, 21, 22, 24] (σ' := [(2, .int .i64 i2), (3, .int .i64 n3), (8, .pointer (some ⟨b223, 0, none⟩)), (9, .slice (some ⟨g238, 0, none⟩) 2 (ng238 / 1)), (10, .slice (some ⟨g240, 0, none⟩) 2 (ng240 / 1)), (20, .slice (some ⟨N235, 1, none⟩) 3 3), (21, .int .i64 3), (22, .int .i64 1), (24, .pointer (some ⟨N235, 3, none⟩))]) (by kernel_rfl) ?_
      refine t_v (.ldn rfl rfl rfl (.at 5 rfl rfl)) ?_
      refine t_a (.new rfl rfl) fun b241 fb241 sb241 => ?_
      refine t_sti 0 (cs := [.int .i64 t230, .int .i64 t231]) rfl rfl rfl rfl rfl rfl rfl rfl rfl ?_
      refine t_keep [2, 3, 8, 9, 10, 12, 20, 21, 22] (σ' := [(2, .int .i64 i2), (3, .int .i64 n3), (8, .pointer (some ⟨b223, 0, none⟩)), (9, .slice (some ⟨g238, 0, none⟩) 2 (ng238 / 1)), (10, .slice (some ⟨g240, 0, none⟩) 2 (ng240 / 1)), (12, .pointer (some ⟨b241, 0, none⟩)), (20, .slice (some ⟨N235, 1, none⟩) 3 3), (21, .int .i64 3), (22, .int .i64 1)]) (by kernel_rfl) ?_
      refine t_end ?_
      show W _ _ _ _ _ _ _
      refine w_kp [2, 3, 8, 9, 10, 12, 20, 21, 22] (σ' := [(2, .int .i64 i2), (3, .int .i64 n3), (8, .pointer (some ⟨b223, 0, none⟩)), (9, .slice (some ⟨g238, 0, none⟩) 2 (ng238 / 1)), (10, .slice (some ⟨g240, 0, none⟩) 2 (ng240 / 1)), (12, .pointer (some ⟨b241, 0, none⟩)), (20, .slice (some ⟨N235, 1, none⟩) 3 3), (21, .int .i64 3), (22, .int .i64 1)]) (by kernel_rfl) ?_
      refine w_gameQ mixed (by kernel_rfl) fun all G hend hstep hqf => ?_
      have hg_fff : ∀ (g245 : Nat) (ng245 : Nat) (g244 : Nat) (g243 : Nat) (ng243 : Nat) (g242 : Nat), G [true, true, true, true, true, true, true, true, true, true, true, true] [(2, .int .i64 i2), (3, .int .i64 n3), (8, .pointer (some ⟨b223, 0, none⟩)), (9, .slice (some ⟨g243, 0, none⟩) 3 (ng243 / 1)), (10, .slice (some ⟨g245, 0, none⟩) 3 (ng245 / 1)), (20, .slice (some ⟨N235, 1, none⟩) 3 3), (21, .int .i64 3), (22, .int .i64 1)] ([⟨g245, [.int .i64 a0_1, .int .i64 t229, .int .i64 t231], ng245⟩, ⟨g244, [.int .i64 t231], 1⟩, ⟨g243, [.int .i64 a0_0, .int .i64 t228, .int .i64 t230], ng243⟩, ⟨g242, [.int .i64 t230], 1⟩, ⟨b241, [.int .i64 t230, .int .i64 t231], 2⟩, ⟨g239, [.int .i64 t229], 1⟩, ⟨g237, [.int .i64 t228], 1⟩, ⟨b236, [.int .i64 t228, .int .i64 t229], 2⟩, ⟨N235, [.int .i64 t227, .int .i64 t228, .int .i64 t229, .int .i64 t230, .int .i64 t231, .int .i64 t232, .int .i64 t233], 7⟩, ⟨b223, [.int .i64 0, .int .i64 0], 2⟩, ⟨b222, [.int .i64 3, .int .i64 s1_1, .int .i64 s1_2, .int .i64 s1_3, .int .i64 s1_4, .int .i64 s1_5, .int .i64 s1_6], 7⟩, ⟨b221, [.int .i64 a0_0, .int .i64 a0_1], 2⟩] : List Own) := by
        intro g245 ng245 g244 g243 ng243 g242
        refine hend _ _ _ (by kernel_rfl) ?_
        show W _ _ _ _ _ _ _
        refine w_reg fun all => ?_
        refine t_qz 2 [2, 3, 8, 9, 10, 20, 21, 22] (σ' := [(2, .int .i64 i2), (3, .int .i64 n3), (8, .pointer (some ⟨b223, 0, none⟩)), (9, .slice (some ⟨g243, 0, none⟩) 3 (ng243 / 1)), (10, .slice (some ⟨g245, 0, none⟩) 3 (ng245 / 1)), (20, .slice (some ⟨N235, 1, none⟩) 3 3), (21, .int .i64 3), (22, .int .i64 2)]) (by kernel_rfl) ?_
        refine t_end ?_
        show WL _ _ _ _ _ _ _ _
        refine wl_step ?_
        refine w_seq ?_
        refine w_reg fun all => ?_
        refine t_qz 1 [2, 3, 8, 9, 10, 20, 21, 22, 23] (σ' := [(2, .int .i64 i2), (3, .int .i64 n3), (8, .pointer (some ⟨b223, 0, none⟩)), (9, .slice (some ⟨g243, 0, none⟩) 3 (ng243 / 1)), (10, .slice (some ⟨g245, 0, none⟩) 3 (ng245 / 1)), (20, .slice (some ⟨N235, 1, none⟩) 3 3), (21, .int .i64 3), (22, .int .i64 2), (23, .bool true)]) (by kernel_rfl) ?_
        refine t_end ?_
        show W _ _ _ _ _ _ _
        refine w_seq ?_
        refine w_cond rfl (fun _ => ?_) (fun c_ => by cases c_)
        show W _ _ _ _ _ _ _
        refine w_skip ?_
        show W _ _ _ _ _ _ _
        refine w_seq ?_
        refine w_block ?_
        refine w_seq ?_
        refine w_reg fun all => ?_
        refine t_qz 1 [2, 3, 8, 9, 10, 20, 21, 22, 24] (σ' := [(2, .int .i64 i2), (3, .int .i64 n3), (8, .pointer (some ⟨b223, 0, none⟩)), (9, .slice (some ⟨g243, 0, none⟩) 3 (ng243 / 1)), (10, .slice (some ⟨g245, 0, none⟩) 3 (ng245 / 1)), (20, .slice (some ⟨N235, 1, none⟩) 3 3), (21, .int .i64 3), (22, .int .i64 2), (24, .pointer (some ⟨N235, 5, none⟩))]) (by kernel_rfl) ?_
        refine t_v (.ldn rfl rfl rfl (.at 8 rfl rfl)) ?_
        refine t_a (.new rfl rfl) fun b246 fb246 sb246 => ?_
        refine t_sti 0 (cs := [.int .i64 t232, .int .i64 t233]) rfl rfl rfl rfl rfl rfl rfl rfl rfl ?_
        refine t_keep [2, 3, 8, 9, 10, 12, 20, 21, 22] (σ' := [(2, .int .i64 i2), (3, .int .i64 n3), (8, .pointer (some ⟨b223, 0, none⟩)), (9, .slice (some ⟨g243, 0, none⟩) 3 (ng243 / 1)), (10, .slice (some ⟨g245, 0, none⟩) 3 (ng245 / 1)), (12, .pointer (some ⟨b246, 0, none⟩)), (20, .slice (some ⟨N235, 1, none⟩) 3 3), (21, .int .i64 3), (22, .int .i64 2)]) (by kernel_rfl) ?_
        refine t_end ?_
        show W _ _ _ _ _ _ _
        refine w_kp [2, 3, 8, 9, 10, 12, 20, 21, 22] (σ' := [(2, .int .i64 i2), (3, .int .i64 n3), (8, .pointer (some ⟨b223, 0, none⟩)), (9, .slice (some ⟨g243, 0, none⟩) 3 (ng243 / 1)), (10, .slice (some ⟨g245, 0, none⟩) 3 (ng245 / 1)), (12, .pointer (some ⟨b246, 0, none⟩)), (20, .slice (some ⟨N235, 1, none⟩) 3 3), (21, .int .i64 3), (22, .int .i64 2)]) (by kernel_rfl) ?_
        refine w_gameQ mixed (by kernel_rfl) fun all G hend hstep hqf => ?_
        have hg_fff : ∀ (g250 : Nat) (ng250 : Nat) (g249 : Nat) (g248 : Nat) (ng248 : Nat) (g247 : Nat), G [true, true, true, true, true, true, true, true, true, true, true, true] [(2, .int .i64 i2), (3, .int .i64 n3), (8, .pointer (some ⟨b223, 0, none⟩)), (9, .slice (some ⟨g248, 0, none⟩) 4 (ng248 / 1)), (10, .slice (some ⟨g250, 0, none⟩) 4 (ng250 / 1)), (20, .slice (some ⟨N235, 1, none⟩) 3 3), (21, .int .i64 3), (22, .int .i64 2)] ([⟨g250, [.int .i64 a0_1, .int .i64 t229, .int .i64 t231, .int .i64 t233], ng250⟩, ⟨g249, [.int .i64 t233], 1⟩, ⟨g248, [.int .i64 a0_0, .int .i64 t228, .int .i64 t230, .int .i64 t232], ng248⟩, ⟨g247, [.int .i64 t232], 1⟩, ⟨b246, [.int .i64 t232, .int .i64 t233], 2⟩, ⟨g244, [.int .i64 t231], 1⟩, ⟨g242, [.int .i64 t230], 1⟩, ⟨b241, [.int .i64 t230, .int .i64 t231], 2⟩, ⟨g239, [.int .i64 t229], 1⟩, ⟨g237, [.int .i64 t228], 1⟩, ⟨b236, [.int .i64 t228, .int .i64 t229], 2⟩, ⟨N235, [.int .i64 t227, .int .i64 t228, .int .i64 t229, .int .i64 t230, .int .i64 t231, .int .i64 t232, .int .i64 t233], 7⟩, ⟨b223, [.int .i64 0, .int .i64 0], 2⟩, ⟨b222, [.int .i64 3, .int .i64 s1_1, .int .i64 s1_2, .int .i64 s1_3, .int .i64 s1_4, .int .i64 s1_5, .int .i64 s1_6], 7⟩, ⟨b221, [.int .i64 a0_0, .int .i64 a0_1], 2⟩] : List Own) := by
          intro g250 ng250 g249 g248 ng248 g247
          refine hend _ _ _ (by kernel_rfl) ?_
          show W _ _ _ _ _ _ _
          refine w_reg fun all => ?_
          refine t_qz 2 [2, 3, 8, 9, 10, 20, 21, 22] (σ' := [(2, .int .i64 i2), (3, .int .i64 n3), (8, .pointer (some ⟨b223, 0, none⟩)), (9, .slice (some ⟨g248, 0, none⟩) 4 (ng248 / 1)), (10, .slice (some ⟨g250, 0, none⟩) 4 (ng250 / 1)), (20, .slice (some ⟨N235, 1, none⟩) 3 3), (21, .int .i64 3), (22, .int .i64 3)]) (by kernel_rfl) ?_
          refine t_end ?_
          show WL _ _ _ _ _ _ _ _
          refine wl_step ?_
          refine w_seq ?_
          refine w_reg fun all => ?_
          refine t_qz 1 [2, 3, 8, 9, 10, 20, 21, 22, 23] (σ' := [(2, .int .i64 i2), (3, .int .i64 n3), (8, .pointer (some ⟨b223, 0, none⟩)), (9, .slice (some ⟨g248, 0, none⟩) 4 (ng248 / 1)), (10, .slice (some ⟨g250, 0, none⟩) 4 (ng250 / 1)), (20, .slice (some ⟨N235, 1, none⟩) 3 3), (21, .int .i64 3), (22, .int .i64 3), (23, .bool false)]) (by kernel_rfl) ?_
          refine t_end ?_
          show W _ _ _ _ _ _ _
          refine w_seq ?_
          refine w_cond rfl (fun c_ => by cases c_) (fun _ => ?_)
          show W _ _ _ _ _ _ _
          refine w_exit ?_
          show W _ _ _ _ _ _ _
          refine w_seq ?_
          refine w_reg fun all => ?_
          obtain ⟨t253, h254, e⟩ := bind_of e
          refine t_qz 3 [2, 3, 8, 10, 37, 38, 39] (σ' := [(2, .int .i64 i2), (3, .int .i64 n3), (8, .pointer (some ⟨b223, 0, none⟩)), (10, .slice (some ⟨g250, 0, none⟩) 4 (ng250 / 1)), (37, .int .i64 i2), (38, .int .i64 n3), (39, .slice (some ⟨g248, 0, none⟩) 4 (ng248 / 1))]) (by kernel_rfl) ?_
          refine t_v (.callr (vs := [.int .i64 i2, .int .i64 n3, .slice (some ⟨g248, 0, none⟩) 4 (ng248 / 1)]) (A := ([⟨g248, [.int .i64 a0_0, .int .i64 t228, .int .i64 t230, .int .i64 t232], ng248⟩] : List Own)) (F0 := ([⟨g250, [.int .i64 a0_1, .int .i64 t229, .int .i64 t231, .int .i64 t233], ng250⟩, ⟨g249, [.int .i64 t233], 1⟩, ⟨g247, [.int .i64 t232], 1⟩, ⟨b246, [.int .i64 t232, .int .i64 t233], 2⟩, ⟨g244, [.int .i64 t231], 1⟩, ⟨g242, [.int .i64 t230], 1⟩, ⟨b241, [.int .i64 t230, .int .i64 t231], 2⟩, ⟨g239, [.int .i64 t229], 1⟩, ⟨g237, [.int .i64 t228], 1⟩, ⟨b236, [.int .i64 t228, .int .i64 t229], 2⟩, ⟨N235, [.int .i64 t227, .int .i64 t228, .int .i64 t229, .int .i64 t230, .int .i64 t231, .int .i64 t232, .int .i64 t233], 7⟩, ⟨b223, [.int .i64 0, .int .i64 0], 2⟩, ⟨b222, [.int .i64 3, .int .i64 s1_1, .int .i64 s1_2, .int .i64 s1_3, .int .i64 s1_4, .int .i64 s1_5, .int .i64 s1_6], 7⟩, ⟨b221, [.int .i64 a0_0, .int .i64 a0_1], 2⟩] : List Own)) rfl rfl (by kernel_rfl) (sel_perm (is := [2]) (by kernel_rfl)) (flatten_mix_v5.ok h254)) ?_
          obtain ⟨t255, h256, e⟩ := bind_of e
          refine t_qz 3 [8, 40, 41, 42, 43] (σ' := [(8, .pointer (some ⟨b223, 0, none⟩)), (40, .int .i64 t253), (41, .int .i64 i2), (42, .int .i64 n3), (43, .slice (some ⟨g250, 0, none⟩) 4 (ng250 / 1))]) (by kernel_rfl) ?_
          refine t_v (.callr (vs := [.int .i64 i2, .int .i64 n3, .slice (some ⟨g250, 0, none⟩) 4 (ng250 / 1)]) (A := ([⟨g250, [.int .i64 a0_1, .int .i64 t229, .int .i64 t231, .int .i64 t233], ng250⟩] : List Own)) (F0 := ([⟨g249, [.int .i64 t233], 1⟩, ⟨g248, [.int .i64 a0_0, .int .i64 t228, .int .i64 t230, .int .i64 t232], ng248⟩, ⟨g247, [.int .i64 t232], 1⟩, ⟨b246, [.int .i64 t232, .int .i64 t233], 2⟩, ⟨g244, [.int .i64 t231], 1⟩, ⟨g242, [.int .i64 t230], 1⟩, ⟨b241, [.int .i64 t230, .int .i64 t231], 2⟩, ⟨g239, [.int .i64 t229], 1⟩, ⟨g237, [.int .i64 t228], 1⟩, ⟨b236, [.int .i64 t228, .int .i64 t229], 2⟩, ⟨N235, [.int .i64 t227, .int .i64 t228, .int .i64 t229, .int .i64 t230, .int .i64 t231, .int .i64 t232, .int .i64 t233], 7⟩, ⟨b223, [.int .i64 0, .int .i64 0], 2⟩, ⟨b222, [.int .i64 3, .int .i64 s1_1, .int .i64 s1_2, .int .i64 s1_3, .int .i64 s1_4, .int .i64 s1_5, .int .i64 s1_6], 7⟩, ⟨b221, [.int .i64 a0_0, .int .i64 a0_1], 2⟩] : List Own)) rfl rfl (by kernel_rfl) (sel_perm (is := [0]) (by kernel_rfl)) (flatten_mix_v5.ok h256)) ?_
          refine t_qz 1 [8, 45] (σ' := [(8, .pointer (some ⟨b223, 0, none⟩)), (45, .agg #[.int .i64 t253, .int .i64 t255])]) (by kernel_rfl) ?_
          refine t_sti 12 (cs := [.int .i64 t253, .int .i64 t255]) rfl rfl rfl rfl rfl rfl rfl rfl rfl ?_
          refine t_keep [8] (σ' := [(8, .pointer (some ⟨b223, 0, none⟩))]) (by kernel_rfl) ?_
          refine t_end ?_
          show W _ _ _ _ _ _ _
          refine w_ret ?_
          simp only [Option.some.injEq, Prod.mk.injEq] at e
          obtain ⟨rfl, rfl⟩ := e
          exact ⟨[.agg #[.int .i64 t253, .int .i64 t255]], [], S, ⟨⟨_, _, _, rfl, .at 12 rfl rfl, rfl⟩, trivial⟩, VS.none, rfl, rfl, rfl⟩
        have hg_7ff : ∀ (g250 : Nat) (ng250 : Nat) (g249 : Nat) (g248 : Nat) (ng248 : Nat) (g247 : Nat), G [true, true, true, true, true, true, true, true, true, true, true, false] [(2, .int .i64 i2), (3, .int .i64 n3), (8, .pointer (some ⟨b223, 0, none⟩)), (9, .slice (some ⟨g248, 0, none⟩) 4 (ng248 / 1)), (10, .slice (some ⟨g245, 0, none⟩) 3 (ng245 / 1)), (20, .slice (some ⟨N235, 1, none⟩) 3 3), (21, .int .i64 3), (22, .int .i64 2), (35, .slice (some ⟨g250, 0, none⟩) 4 (ng250 / 1))] ([⟨g250, [.int .i64 a0_1, .int .i64 t229, .int .i64 t231, .int .i64 t233], ng250⟩, ⟨g249, [.int .i64 t233], 1⟩, ⟨g248, [.int .i64 a0_0, .int .i64 t228, .int .i64 t230, .int .i64 t232], ng248⟩, ⟨g247, [.int .i64 t232], 1⟩, ⟨b246, [.int .i64 t232, .int .i64 t233], 2⟩, ⟨g244, [.int .i64 t231], 1⟩, ⟨g242, [.int .i64 t230], 1⟩, ⟨b241, [.int .i64 t230, .int .i64 t231], 2⟩, ⟨g239, [.int .i64 t229], 1⟩, ⟨g237, [.int .i64 t228], 1⟩, ⟨b236, [.int .i64 t228, .int .i64 t229], 2⟩, ⟨N235, [.int .i64 t227, .int .i64 t228, .int .i64 t229, .int .i64 t230, .int .i64 t231, .int .i64 t232, .int .i64 t233], 7⟩, ⟨b223, [.int .i64 0, .int .i64 0], 2⟩, ⟨b222, [.int .i64 3, .int .i64 s1_1, .int .i64 s1_2, .int .i64 s1_3, .int .i64 s1_4, .int .i64 s1_5, .int .i64 s1_6], 7⟩, ⟨b221, [.int .i64 a0_0, .int .i64 a0_1], 2⟩] : List Own) := by
          intro g250 ng250 g249 g248 ng248 g247
          exact hqf 11 [2, 3, 8, 9, 10, 20, 21, 22] _ _ _ [(2, .int .i64 i2), (3, .int .i64 n3), (8, .pointer (some ⟨b223, 0, none⟩)), (9, .slice (some ⟨g248, 0, none⟩) 4 (ng248 / 1)), (10, .slice (some ⟨g250, 0, none⟩) 4 (ng250 / 1)), (20, .slice (some ⟨N235, 1, none⟩) 3 3), (21, .int .i64 3), (22, .int .i64 2)] (by kernel_rfl) (by kernel_rfl) (hg_fff g250 ng250 g249 g248 ng248 g247)
        have hg_3ff : ∀ (g250 : Nat) (ng250 : Nat) (g249 : Nat) (g248 : Nat) (ng248 : Nat) (g247 : Nat), G [true, true, true, true, true, true, true, true, true, true, false, false] [(2, .int .i64 i2), (3, .int .i64 n3), (8, .pointer (some ⟨b223, 0, none⟩)), (9, .slice (some ⟨g243, 0, none⟩) 3 (ng243 / 1)), (10, .slice (some ⟨g245, 0, none⟩) 3 (ng245 / 1)), (20, .slice (some ⟨N235, 1, none⟩) 3 3), (21, .int .i64 3), (22, .int .i64 2), (30, .slice (some ⟨g248, 0, none⟩) 4 (ng248 / 1)), (35, .slice (some ⟨g250, 0, none⟩) 4 (ng250 / 1))] ([⟨g250, [.int .i64 a0_1, .int .i64 t229, .int .i64 t231, .int .i64 t233], ng250⟩, ⟨g249, [.int .i64 t233], 1⟩, ⟨g248, [.int .i64 a0_0, .int .i64 t228, .int .i64 t230, .int .i64 t232], ng248⟩, ⟨g247, [.int .i64 t232], 1⟩, ⟨b246, [.int .i64 t232, .int .i64 t233], 2⟩, ⟨g244, [.int .i64 t231], 1⟩, ⟨g242, [.int .i64 t230], 1⟩, ⟨b241, [.int .i64 t230, .int .i64 t231], 2⟩, ⟨g239, [.int .i64 t229], 1⟩, ⟨g237, [.int .i64 t228], 1⟩, ⟨b236, [.int .i64 t228, .int .i64 t229], 2⟩, ⟨N235, [.int .i64 t227, .int .i64 t228, .int .i64 t229, .int .i64 t230, .int .i64 t231, .int .i64 t232, .int .i64 t233], 7⟩, ⟨b223, [.int .i64 0, .int .i64 0], 2⟩, ⟨b222, [.int .i64 3, .int .i64 s1_1, .int .i64 s1_2, .int .i64 s1_3, .int .i64 s1_4, .int .i64 s1_5, .int .i64 s1_6], 7⟩, ⟨b221, [.int .i64 a0_0, .int .i64 a0_1], 2⟩] : List Own) := by
          intro g250 ng250 g249 g248 ng248 g247
          exact hqf 10 [2, 3, 8, 9, 10, 20, 21, 22, 35] _ _ _ [(2, .int .i64 i2), (3, .int .i64 n3), (8, .pointer (some ⟨b223, 0, none⟩)), (9, .slice (some ⟨g248, 0, none⟩) 4 (ng248 / 1)), (10, .slice (some ⟨g245, 0, none⟩) 3 (ng245 / 1)), (20, .slice (some ⟨N235, 1, none⟩) 3 3), (21, .int .i64 3), (22, .int .i64 2), (35, .slice (some ⟨g250, 0, none⟩) 4 (ng250 / 1))] (by kernel_rfl) (by kernel_rfl) (hg_7ff g250 ng250 g249 g248 ng248 g247)
        have hg_1ff : ∀ (g249 : Nat) (g248 : Nat) (ng248 : Nat) (g247 : Nat), G [true, true, true, true, true, true, true, true, true, false, false, false] [(2, .int .i64 i2), (3, .int .i64 n3), (8, .pointer (some ⟨b223, 0, none⟩)), (9, .slice (some ⟨g243, 0, none⟩) 3 (ng243 / 1)), (10, .slice (some ⟨g245, 0, none⟩) 3 (ng245 / 1)), (20, .slice (some ⟨N235, 1, none⟩) 3 3), (21, .int .i64 3), (22, .int .i64 2), (30, .slice (some ⟨g248, 0, none⟩) 4 (ng248 / 1)), (31, .slice (some ⟨g245, 0, none⟩) 3 (ng245 / 1)), (34, .slice (some ⟨g249, 0, none⟩) 1 1)] ([⟨g249, [.int .i64 t233], 1⟩, ⟨g248, [.int .i64 a0_0, .int .i64 t228, .int .i64 t230, .int .i64 t232], ng248⟩, ⟨g247, [.int .i64 t232], 1⟩, ⟨b246, [.int .i64 t232, .int .i64 t233], 2⟩, ⟨g245, [.int .i64 a0_1, .int .i64 t229, .int .i64 t231], ng245⟩, ⟨g244, [.int .i64 t231], 1⟩, ⟨g242, [.int .i64 t230], 1⟩, ⟨b241, [.int .i64 t230, .int .i64 t231], 2⟩, ⟨g239, [.int .i64 t229], 1⟩, ⟨g237, [.int .i64 t228], 1⟩, ⟨b236, [.int .i64 t228, .int .i64 t229], 2⟩, ⟨N235, [.int .i64 t227, .int .i64 t228, .int .i64 t229, .int .i64 t230, .int .i64 t231, .int .i64 t232, .int .i64 t233], 7⟩, ⟨b223, [.int .i64 0, .int .i64 0], 2⟩, ⟨b222, [.int .i64 3, .int .i64 s1_1, .int .i64 s1_2, .int .i64 s1_3, .int .i64 s1_4, .int .i64 s1_5, .int .i64 s1_6], 7⟩, ⟨b221, [.int .i64 a0_0, .int .i64 a0_1], 2⟩] : List Own) := by
          intro g249 g248 ng248 g247
          refine hstep [9] _ _ _ (by kernel_rfl) (List.cons_ne_nil _ _) ⟨?_, trivial⟩
          · show T _ _ _ _ _ _ _ _
            refine t_app1 (cs := [.int .i64 a0_1, .int .i64 t229, .int .i64 t231]) (M := ng245) (F := ([⟨g249, [.int .i64 t233], 1⟩, ⟨g248, [.int .i64 a0_0, .int .i64 t228, .int .i64 t230, .int .i64 t232], ng248⟩, ⟨g247, [.int .i64 t232], 1⟩, ⟨b246, [.int .i64 t232, .int .i64 t233], 2⟩, ⟨g244, [.int .i64 t231], 1⟩, ⟨g242, [.int .i64 t230], 1⟩, ⟨b241, [.int .i64 t230, .int .i64 t231], 2⟩, ⟨g239, [.int .i64 t229], 1⟩, ⟨g237, [.int .i64 t228], 1⟩, ⟨b236, [.int .i64 t228, .int .i64 t229], 2⟩, ⟨N235, [.int .i64 t227, .int .i64 t228, .int .i64 t229, .int .i64 t230, .int .i64 t231, .int .i64 t232, .int .i64 t233], 7⟩, ⟨b223, [.int .i64 0, .int .i64 0], 2⟩, ⟨b222, [.int .i64 3, .int .i64 s1_1, .int .i64 s1_2, .int .i64 s1_3, .int .i64 s1_4, .int .i64 s1_5, .int .i64 s1_6], 7⟩, ⟨b221, [.int .i64 a0_0, .int .i64 a0_1], 2⟩] : List Own)) (news := [.int .i64 t233]) rfl rfl rfl rfl (sel_perm (is := [4]) (by kernel_rfl)) (.at 0 rfl rfl) (by kernel_rfl) rfl rfl (by decide) (by decide) rfl fun g250 ng250 => ?_
            refine t_keep [2, 3, 8, 9, 10, 20, 21, 22, 30, 35] (σ' := [(2, .int .i64 i2), (3, .int .i64 n3), (8, .pointer (some ⟨b223, 0, none⟩)), (9, .slice (some ⟨g243, 0, none⟩) 3 (ng243 / 1)), (10, .slice (some ⟨g245, 0, none⟩) 3 (ng245 / 1)), (20, .slice (some ⟨N235, 1, none⟩) 3 3), (21, .int .i64 3), (22, .int .i64 2), (30, .slice (some ⟨g248, 0, none⟩) 4 (ng248 / 1)), (35, .slice (some ⟨g250, 0, none⟩) 4 (ng250 / 1))]) (by kernel_rfl) ?_
            refine t_end ?_
            exact ⟨hg_3ff g250 ng250 g249 g248 ng248 g247, rfl⟩
        have hg_ff : ∀ (g248 : Nat) (ng248 : Nat) (g247 : Nat), G [true, true, true, true, true, true, true, true, false, false, false, false] [(2, .int .i64 i2), (3, .int .i64 n3), (8, .pointer (some ⟨b223, 0, none⟩)), (9, .slice (some ⟨g243, 0, none⟩) 3 (ng243 / 1)), (10, .slice (some ⟨g245, 0, none⟩) 3 (ng245 / 1)), (20, .slice (some ⟨N235, 1, none⟩) 3 3), (21, .int .i64 3), (22, .int .i64 2), (30, .slice (some ⟨g248, 0, none⟩) 4 (ng248 / 1)), (31, .slice (some ⟨g245, 0, none⟩) 3 (ng245 / 1)), (33, .int .i64 t233)] ([⟨g248, [.int .i64 a0_0, .int .i64 t228, .int .i64 t230, .int .i64 t232], ng248⟩, ⟨g247, [.int .i64 t232], 1⟩, ⟨b246, [.int .i64 t232, .int .i64 t233], 2⟩, ⟨g245, [.int .i64 a0_1, .int .i64 t229, .int .i64 t231], ng245⟩, ⟨g244, [.int .i64 t231], 1⟩, ⟨g242, [.int .i64 t230], 1⟩, ⟨b241, [.int .i64 t230, .int .i64 t231], 2⟩, ⟨g239, [.int .i64 t229], 1⟩, ⟨g237, [.int .i64 t228], 1⟩, ⟨b236, [.int .i64 t228, .int .i64 t229], 2⟩, ⟨N235, [.int .i64 t227, .int .i64 t228, .int .i64 t229, .int .i64 t230, .int .i64 t231, .int .i64 t232, .int .i64 t233], 7⟩, ⟨b223, [.int .i64 0, .int .i64 0], 2⟩, ⟨b222, [.int .i64 3, .int .i64 s1_1, .int .i64 s1_2, .int .i64 s1_3, .int .i64 s1_4, .int .i64 s1_5, .int .i64 s1_6], 7⟩, ⟨b221, [.int .i64 a0_0, .int .i64 a0_1], 2⟩] : List Own) := by
          intro g248 ng248 g247
          refine hstep [8] _ _ _ (by kernel_rfl) (List.cons_ne_nil _ _) ⟨?_, trivial⟩
          · show T _ _ _ _ _ _ _ _
            refine t_a (.bsl rfl rfl rfl rfl) fun g249 fg249 sg249 => ?_
            refine t_keep [2, 3, 8, 9, 10, 20, 21, 22, 30, 31, 34] (σ' := [(2, .int .i64 i2), (3, .int .i64 n3), (8, .pointer (some ⟨b223, 0, none⟩)), (9, .slice (some ⟨g243, 0, none⟩) 3 (ng243 / 1)), (10, .slice (some ⟨g245, 0, none⟩) 3 (ng245 / 1)), (20, .slice (some ⟨N235, 1, none⟩) 3 3), (21, .int .i64 3), (22, .int .i64 2), (30, .slice (some ⟨g248, 0, none⟩) 4 (ng248 / 1)), (31, .slice (some ⟨g245, 0, none⟩) 3 (ng245 / 1)), (34, .slice (some ⟨g249, 0, none⟩) 1 1)]) (by kernel_rfl) ?_
            refine t_end ?_
            exact ⟨hg_1ff g249 g248 ng248 g247, rfl⟩
        have hg_1ef : ∀ (g249 : Nat) (g247 : Nat), G [true, true, true, true, false, true, true, true, true, false, false, false] [(2, .int .i64 i2), (3, .int .i64 n3), (8, .pointer (some ⟨b223, 0, none⟩)), (9, .slice (some ⟨g243, 0, none⟩) 3 (ng243 / 1)), (10, .slice (some ⟨g245, 0, none⟩) 3 (ng245 / 1)), (20, .slice (some ⟨N235, 1, none⟩) 3 3), (21, .int .i64 3), (22, .int .i64 2), (26, .slice (some ⟨g243, 0, none⟩) 3 (ng243 / 1)), (29, .slice (some ⟨g247, 0, none⟩) 1 1), (31, .slice (some ⟨g245, 0, none⟩) 3 (ng245 / 1)), (34, .slice (some ⟨g249, 0, none⟩) 1 1)] ([⟨g249, [.int .i64 t233], 1⟩, ⟨g247, [.int .i64 t232], 1⟩, ⟨b246, [.int .i64 t232, .int .i64 t233], 2⟩, ⟨g245, [.int .i64 a0_1, .int .i64 t229, .int .i64 t231], ng245⟩, ⟨g244, [.int .i64 t231], 1⟩, ⟨g243, [.int .i64 a0_0, .int .i64 t228, .int .i64 t230], ng243⟩, ⟨g242, [.int .i64 t230], 1⟩, ⟨b241, [.int .i64 t230, .int .i64 t231], 2⟩, ⟨g239, [.int .i64 t229], 1⟩, ⟨g237, [.int .i64 t228], 1⟩, ⟨b236, [.int .i64 t228, .int .i64 t229], 2⟩, ⟨N235, [.int .i64 t227, .int .i64 t228, .int .i64 t229, .int .i64 t230, .int .i64 t231, .int .i64 t232, .int .i64 t233], 7⟩, ⟨b223, [.int .i64 0, .int .i64 0], 2⟩, ⟨b222, [.int .i64 3, .int .i64 s1_1, .int .i64 s1_2, .int .i64 s1_3, .int .i64 s1_4, .int .i64 s1_5, .int .i64 s1_6], 7⟩, ⟨b221, [.int .i64 a0_0, .int .i64 a0_1], 2⟩] : List Own) := by
          intro g249 g247
          refine hstep [4] _ _ _ (by kernel_rfl) (List.cons_ne_nil _ _) ⟨?_, trivial⟩
          · show T _ _ _ _ _ _ _ _
            refine t_app1 (cs := [.int .i64 a0_0, .int .i64 t228, .int .i64 t230]) (M := ng243) (F := ([⟨g249, [.int .i64 t233], 1⟩, ⟨g247, [.int .i64 t232], 1⟩, ⟨b246, [.int .i64 t232, .int .i64 t233], 2⟩, ⟨g245, [.int .i64 a0_1, .int .i64 t229, .int .i64 t231], ng245⟩, ⟨g244, [.int .i64 t231], 1⟩, ⟨g242, [.int .i64 t230], 1⟩, ⟨b241, [.int .i64 t230, .int .i64 t231], 2⟩, ⟨g239, [.int .i64 t229], 1⟩, ⟨g237, [.int .i64 t228], 1⟩, ⟨b236, [.int .i64 t228, .int .i64 t229], 2⟩, ⟨N235, [.int .i64 t227, .int .i64 t228, .int .i64 t229, .int .i64 t230, .int .i64 t231, .int .i64 t232, .int .i64 t233], 7⟩, ⟨b223, [.int .i64 0, .int .i64 0], 2⟩, ⟨b222, [.int .i64 3, .int .i64 s1_1, .int .i64 s1_2, .int .i64 s1_3, .int .i64 s1_4, .int .i64 s1_5, .int .i64 s1_6], 7⟩, ⟨b221, [.int .i64 a0_0, .int .i64 a0_1], 2⟩] : List Own)) (news := [.int .i64 t232]) rfl rfl rfl rfl (sel_perm (is := [5]) (by kernel_rfl)) (.at 1 rfl rfl) (by kernel_rfl) rfl rfl (by decide) (by decide) rfl fun g248 ng248 => ?_
            refine t_keep [2, 3, 8, 9, 10, 20, 21, 22, 30, 31, 34] (σ' := [(2, .int .i64 i2), (3, .int .i64 n3), (8, .pointer (some ⟨b223, 0, none⟩)), (9, .slice (some ⟨g243, 0, none⟩) 3 (ng243 / 1)), (10, .slice (some ⟨g245, 0, none⟩) 3 (ng245 / 1)), (20, .slice (some ⟨N235, 1, none⟩) 3 3), (21, .int .i64 3), (22, .int .i64 2), (30, .slice (some ⟨g248, 0, none⟩) 4 (ng248 / 1)), (31, .slice (some ⟨g245, 0, none⟩) 3 (ng245 / 1)), (34, .slice (some ⟨g249, 0, none⟩) 1 1)]) (by kernel_rfl) ?_
            refine t_vs (H' := ([⟨g249, [.int .i64 t233], 1⟩, ⟨g248, [.int .i64 a0_0, .int .i64 t228, .int .i64 t230, .int .i64 t232], ng248⟩, ⟨g247, [.int .i64 t232], 1⟩, ⟨b246, [.int .i64 t232, .int .i64 t233], 2⟩, ⟨g245, [.int .i64 a0_1, .int .i64 t229, .int .i64 t231], ng245⟩, ⟨g244, [.int .i64 t231], 1⟩, ⟨g242, [.int .i64 t230], 1⟩, ⟨b241, [.int .i64 t230, .int .i64 t231], 2⟩, ⟨g239, [.int .i64 t229], 1⟩, ⟨g237, [.int .i64 t228], 1⟩, ⟨b236, [.int .i64 t228, .int .i64 t229], 2⟩, ⟨N235, [.int .i64 t227, .int .i64 t228, .int .i64 t229, .int .i64 t230, .int .i64 t231, .int .i64 t232, .int .i64 t233], 7⟩, ⟨b223, [.int .i64 0, .int .i64 0], 2⟩, ⟨b222, [.int .i64 3, .int .i64 s1_1, .int .i64 s1_2, .int .i64 s1_3, .int .i64 s1_4, .int .i64 s1_5, .int .i64 s1_6], 7⟩, ⟨b221, [.int .i64 a0_0, .int .i64 a0_1], 2⟩] : List Own)) (S' := S) (VS.sel [1, 0, 0, 0, 0, 0, 0, 0, 0, 0, 0, 0, 0, 0, 0] (by kernel_rfl)) ?_
            refine t_end ?_
            exact ⟨hg_1ff g249 g248 ng248 g247, rfl⟩
        have hg_1e7 : ∀ (g249 : Nat), G [true, true, true, false, false, true, true, true, true, false, false, false] [(2, .int .i64 i2), (3, .int .i64 n3), (8, .pointer (some ⟨b223, 0, none⟩)), (9, .slice (some ⟨g243, 0, none⟩) 3 (ng243 / 1)), (10, .slice (some ⟨g245, 0, none⟩) 3 (ng245 / 1)), (20, .slice (some ⟨N235, 1, none⟩) 3 3), (21, .int .i64 3), (22, .int .i64 2), (26, .slice (some ⟨g243, 0, none⟩) 3 (ng243 / 1)), (28, .int .i64 t232), (31, .slice (some ⟨g245, 0, none⟩) 3 (ng245 / 1)), (34, .slice (some ⟨g249, 0, none⟩) 1 1)] ([⟨g249, [.int .i64 t233], 1⟩, ⟨b246, [.int .i64 t232, .int .i64 t233], 2⟩, ⟨g245, [.int .i64 a0_1, .int .i64 t229, .int .i64 t231], ng245⟩, ⟨g244, [.int .i64 t231], 1⟩, ⟨g243, [.int .i64 a0_0, .int .i64 t228, .int .i64 t230], ng243⟩, ⟨g242, [.int .i64 t230], 1⟩, ⟨b241, [.int .i64 t230, .int .i64 t231], 2⟩, ⟨g239, [.int .i64 t229], 1⟩, ⟨g237, [.int .i64 t228], 1⟩, ⟨b236, [.int .i64 t228, .int .i64 t229], 2⟩, ⟨N235, [.int .i64 t227, .int .i64 t228, .int .i64 t229, .int .i64 t230, .int .i64 t231, .int .i64 t232, .int .i64 t233], 7⟩, ⟨b223, [.int .i64 0, .int .i64 0], 2⟩, ⟨b222, [.int .i64 3, .int .i64 s1_1, .int .i64 s1_2, .int .i64 s1_3, .int .i64 s1_4, .int .i64 s1_5, .int .i64 s1_6], 7⟩, ⟨b221, [.int .i64 a0_0, .int .i64 a0_1], 2⟩] : List Own) := by
          intro g249
          refine hstep [3] _ _ _ (by kernel_rfl) (List.cons_ne_nil _ _) ⟨?_, trivial⟩
          · show T _ _ _ _ _ _ _ _
            refine t_a (.bsl rfl rfl rfl rfl) fun g247 fg247 sg247 => ?_
            refine t_keep [2, 3, 8, 9, 10, 20, 21, 22, 26, 29, 31, 34] (σ' := [(2, .int .i64 i2), (3, .int .i64 n3), (8, .pointer (some ⟨b223, 0, none⟩)), (9, .slice (some ⟨g243, 0, none⟩) 3 (ng243 / 1)), (10, .slice (some ⟨g245, 0, none⟩) 3 (ng245 / 1)), (20, .slice (some ⟨N235, 1, none⟩) 3 3), (21, .int .i64 3), (22, .int .i64 2), (26, .slice (some ⟨g243, 0, none⟩) 3 (ng243 / 1)), (29, .slice (some ⟨g247, 0, none⟩) 1 1), (31, .slice (some ⟨g245, 0, none⟩) 3 (ng245 / 1)), (34, .slice (some ⟨g249, 0, none⟩) 1 1)]) (by kernel_rfl) ?_
            refine t_vs (H' := ([⟨g249, [.int .i64 t233], 1⟩, ⟨g247, [.int .i64 t232], 1⟩, ⟨b246, [.int .i64 t232, .int .i64 t233], 2⟩, ⟨g245, [.int .i64 a0_1, .int .i64 t229, .int .i64 t231], ng245⟩, ⟨g244, [.int .i64 t231], 1⟩, ⟨g243, [.int .i64 a0_0, .int .i64 t228, .int .i64 t230], ng243⟩, ⟨g242, [.int .i64 t230], 1⟩, ⟨b241, [.int .i64 t230, .int .i64 t231], 2⟩, ⟨g239, [.int .i64 t229], 1⟩, ⟨g237, [.int .i64 t228], 1⟩, ⟨b236, [.int .i64 t228, .int .i64 t229], 2⟩, ⟨N235, [.int .i64 t227, .int .i64 t228, .int .i64 t229, .int .i64 t230, .int .i64 t231, .int .i64 t232, .int .i64 t233], 7⟩, ⟨b223, [.int .i64 0, .int .i64 0], 2⟩, ⟨b222, [.int .i64 3, .int .i64 s1_1, .int .i64 s1_2, .int .i64 s1_3, .int .i64 s1_4, .int .i64 s1_5, .int .i64 s1_6], 7⟩, ⟨b221, [.int .i64 a0_0, .int .i64 a0_1], 2⟩] : List Own)) (S' := S) (VS.sel [1, 0, 0, 0, 0, 0, 0, 0, 0, 0, 0, 0, 0, 0, 0] (by kernel_rfl)) ?_
            refine t_end ?_
            exact ⟨hg_1ef g249 g247, rfl⟩
        have hg_ef : ∀ (g247 : Nat), G [true, true, true, true, false, true, true, true, false, false, false, false] [(2, .int .i64 i2), (3, .int .i64 n3), (8, .pointer (some ⟨b223, 0, none⟩)), (9, .slice (some ⟨g243, 0, none⟩) 3 (ng243 / 1)), (10, .slice (some ⟨g245, 0, none⟩) 3 (ng245 / 1)), (20, .slice (some ⟨N235, 1, none⟩) 3 3), (21, .int .i64 3), (22, .int .i64 2), (26, .slice (some ⟨g243, 0, none⟩) 3 (ng243 / 1)), (29, .slice (some ⟨g247, 0, none⟩) 1 1), (31, .slice (some ⟨g245, 0, none⟩) 3 (ng245 / 1)), (33, .int .i64 t233)] ([⟨g247, [.int .i64 t232], 1⟩, ⟨b246, [.int .i64 t232, .int .i64 t233], 2⟩, ⟨g245, [.int .i64 a0_1, .int .i64 t229, .int .i64 t231], ng245⟩, ⟨g244, [.int .i64 t231], 1⟩, ⟨g243, [.int .i64 a0_0, .int .i64 t228, .int .i64 t230], ng243⟩, ⟨g242, [.int .i64 t230], 1⟩, ⟨b241, [.int .i64 t230, .int .i64 t231], 2⟩, ⟨g239, [.int .i64 t229], 1⟩, ⟨g237, [.int .i64 t228], 1⟩, ⟨b236, [.int .i64 t228, .int .i64 t229], 2⟩, ⟨N235, [.int .i64 t227, .int .i64 t228, .int .i64 t229, .int .i64 t230, .int .i64 t231, .int .i64 t232, .int .i64 t233], 7⟩, ⟨b223, [.int .i64 0, .int .i64 0], 2⟩, ⟨b222, [.int .i64 3, .int .i64 s1_1, .int .i64 s1_2, .int .i64 s1_3, .int .i64 s1_4, .int .i64 s1_5, .int .i64 s1_6], 7⟩, ⟨b221, [.int .i64 a0_0, .int .i64 a0_1], 2⟩] : List Own) := by
          intro g247
          refine hstep [4, 8] _ _ _ (by kernel_rfl) (List.cons_ne_nil _ _) ⟨?_, ?_, trivial⟩
          · show T _ _ _ _ _ _ _ _
            refine t_app1 (cs := [.int .i64 a0_0, .int .i64 t228, .int .i64 t230]) (M := ng243) (F := ([⟨g247, [.int .i64 t232], 1⟩, ⟨b246, [.int .i64 t232, .int .i64 t233], 2⟩, ⟨g245, [.int .i64 a0_1, .int .i64 t229, .int .i64 t231], ng245⟩, ⟨g244, [.int .i64 t231], 1⟩, ⟨g242, [.int .i64 t230], 1⟩, ⟨b241, [.int .i64 t230, .int .i64 t231], 2⟩, ⟨g239, [.int .i64 t229], 1⟩, ⟨g237, [.int .i64 t228], 1⟩, ⟨b236, [.int .i64 t228, .int .i64 t229], 2⟩, ⟨N235, [.int .i64 t227, .int .i64 t228, .int .i64 t229, .int .i64 t230, .int .i64 t231, .int .i64 t232, .int .i64 t233], 7⟩, ⟨b223, [.int .i64 0, .int .i64 0], 2⟩, ⟨b222, [.int .i64 3, .int .i64 s1_1, .int .i64 s1_2, .int .i64 s1_3, .int .i64 s1_4, .int .i64 s1_5, .int .i64 s1_6], 7⟩, ⟨b221, [.int .i64 a0_0, .int .i64 a0_1], 2⟩] : List Own)) (news := [.int .i64 t232]) rfl rfl rfl rfl (sel_perm (is := [4]) (by kernel_rfl)) (.at 0 rfl rfl) (by kernel_rfl) rfl rfl (by decide) (by decide) rfl fun g248 ng248 => ?_
            refine t_keep [2, 3, 8, 9, 10, 20, 21, 22, 30, 31, 33] (σ' := [(2, .int .i64 i2), (3, .int .i64 n3), (8, .pointer (some ⟨b223, 0, none⟩)), (9, .slice (some ⟨g243, 0, none⟩) 3 (ng243 / 1)), (10, .slice (some ⟨g245, 0, none⟩) 3 (ng245 / 1)), (20, .slice (some ⟨N235, 1, none⟩) 3 3), (21, .int .i64 3), (22, .int .i64 2), (30, .slice (some ⟨g248, 0, none⟩) 4 (ng248 / 1)), (31, .slice (some ⟨g245, 0, none⟩) 3 (ng245 / 1)), (33, .int .i64 t233)]) (by kernel_rfl) ?_
            refine t_end ?_
            exact ⟨hg_ff g248 ng248 g247, rfl⟩
          · show T _ _ _ _ _ _ _ _
            refine t_a (.bsl rfl rfl rfl rfl) fun g249 fg249 sg249 => ?_
            refine t_keep [2, 3, 8, 9, 10, 20, 21, 22, 26, 29, 31, 34] (σ' := [(2, .int .i64 i2), (3, .int .i64 n3), (8, .pointer (some ⟨b223, 0, none⟩)), (9, .slice (some ⟨g243, 0, none⟩) 3 (ng243 / 1)), (10, .slice (some ⟨g245, 0, none⟩) 3 (ng245 / 1)), (20, .slice (some ⟨N235, 1, none⟩) 3 3), (21, .int .i64 3), (22, .int .i64 2), (26, .slice (some ⟨g243, 0, none⟩) 3 (ng243 / 1)), (29, .slice (some ⟨g247, 0, none⟩) 1 1), (31, .slice (some ⟨g245, 0, none⟩) 3 (ng245 / 1)), (34, .slice (some ⟨g249, 0, none⟩) 1 1)]) (by kernel_rfl) ?_
            refine t_end ?_
            exact ⟨hg_1ef g249 g247, rfl⟩
        have hg_7f : ∀ (g248 : Nat) (ng248 : Nat) (g247 : Nat), G [true, true, true, true, true, true, true, false, false, false, false, false] [(2, .int .i64 i2), (3, .int .i64 n3), (8, .pointer (some ⟨b223, 0, none⟩)), (9, .slice (some ⟨g243, 0, none⟩) 3 (ng243 / 1)), (10, .slice (some ⟨g245, 0, none⟩) 3 (ng245 / 1)), (20, .slice (some ⟨N235, 1, none⟩) 3 3), (21, .int .i64 3), (22, .int .i64 2), (30, .slice (some ⟨g248, 0, none⟩) 4 (ng248 / 1)), (31, .slice (some ⟨g245, 0, none⟩) 3 (ng245 / 1)), (32, .pointer (some ⟨b246, 1, none⟩))] ([⟨g248, [.int .i64 a0_0, .int .i64 t228, .int .i64 t230, .int .i64 t232], ng248⟩, ⟨g247, [.int .i64 t232], 1⟩, ⟨b246, [.int .i64 t232, .int .i64 t233], 2⟩, ⟨g245, [.int .i64 a0_1, .int .i64 t229, .int .i64 t231], ng245⟩, ⟨g244, [.int .i64 t231], 1⟩, ⟨g242, [.int .i64 t230], 1⟩, ⟨b241, [.int .i64 t230, .int .i64 t231], 2⟩, ⟨g239, [.int .i64 t229], 1⟩, ⟨g237, [.int .i64 t228], 1⟩, ⟨b236, [.int .i64 t228, .int .i64 t229], 2⟩, ⟨N235, [.int .i64 t227, .int .i64 t228, .int .i64 t229, .int .i64 t230, .int .i64 t231, .int .i64 t232, .int .i64 t233], 7⟩, ⟨b223, [.int .i64 0, .int .i64 0], 2⟩, ⟨b222, [.int .i64 3, .int .i64 s1_1, .int .i64 s1_2, .int .i64 s1_3, .int .i64 s1_4, .int .i64 s1_5, .int .i64 s1_6], 7⟩, ⟨b221, [.int .i64 a0_0, .int .i64 a0_1], 2⟩] : List Own) := by
          intro g248 ng248 g247
          refine hstep [7] _ _ _ (by kernel_rfl) (List.cons_ne_nil _ _) ⟨?_, trivial⟩
          · show T _ _ _ _ _ _ _ _
            refine t_v (.ld1 rfl rfl rfl (.at 2 rfl rfl)) ?_
            refine t_keep [2, 3, 8, 9, 10, 20, 21, 22, 30, 31, 33] (σ' := [(2, .int .i64 i2), (3, .int .i64 n3), (8, .pointer (some ⟨b223, 0, none⟩)), (9, .slice (some ⟨g243, 0, none⟩) 3 (ng243 / 1)), (10, .slice (some ⟨g245, 0, none⟩) 3 (ng245 / 1)), (20, .slice (some ⟨N235, 1, none⟩) 3 3), (21, .int .i64 3), (22, .int .i64 2), (30, .slice (some ⟨g248, 0, none⟩) 4 (ng248 / 1)), (31, .slice (some ⟨g245, 0, none⟩) 3 (ng245 / 1)), (33, .int .i64 t233)]) (by kernel_rfl) ?_
            refine t_end ?_
            exact ⟨hg_ff g248 ng248 g247, rfl⟩
        have hg_1e3 : ∀ (g249 : Nat), G [true, true, false, false, false, true, true, true, true, false, false, false] [(2, .int .i64 i2), (3, .int .i64 n3), (8, .pointer (some ⟨b223, 0, none⟩)), (9, .slice (some ⟨g243, 0, none⟩) 3 (ng243 / 1)), (10, .slice (some ⟨g245, 0, none⟩) 3 (ng245 / 1)), (20, .slice (some ⟨N235, 1, none⟩) 3 3), (21, .int .i64 3), (22, .int .i64 2), (26, .slice (some ⟨g243, 0, none⟩) 3 (ng243 / 1)), (27, .pointer (some ⟨b246, 0, none⟩)), (31, .slice (some ⟨g245, 0, none⟩) 3 (ng245 / 1)), (34, .slice (some ⟨g249, 0, none⟩) 1 1)] ([⟨g249, [.int .i64 t233], 1⟩, ⟨b246, [.int .i64 t232, .int .i64 t233], 2⟩, ⟨g245, [.int .i64 a0_1, .int .i64 t229, .int .i64 t231], ng245⟩, ⟨g244, [.int .i64 t231], 1⟩, ⟨g243, [.int .i64 a0_0, .int .i64 t228, .int .i64 t230], ng243⟩, ⟨g242, [.int .i64 t230], 1⟩, ⟨b241, [.int .i64 t230, .int .i64 t231], 2⟩, ⟨g239, [.int .i64 t229], 1⟩, ⟨g237, [.int .i64 t228], 1⟩, ⟨b236, [.int .i64 t228, .int .i64 t229], 2⟩, ⟨N235, [.int .i64 t227, .int .i64 t228, .int .i64 t229, .int .i64 t230, .int .i64 t231, .int .i64 t232, .int .i64 t233], 7⟩, ⟨b223, [.int .i64 0, .int .i64 0], 2⟩, ⟨b222, [.int .i64 3, .int .i64 s1_1, .int .i64 s1_2, .int .i64 s1_3, .int .i64 s1_4, .int .i64 s1_5, .int .i64 s1_6], 7⟩, ⟨b221, [.int .i64 a0_0, .int .i64 a0_1], 2⟩] : List Own) := by
          intro g249
          refine hstep [2] _ _ _ (by kernel_rfl) (List.cons_ne_nil _ _) ⟨?_, trivial⟩
          · show T _ _ _ _ _ _ _ _
            refine t_v (.ld1 rfl rfl rfl (.at 1 rfl rfl)) ?_
            refine t_keep [2, 3, 8, 9, 10, 20, 21, 22, 26, 28, 31, 34] (σ' := [(2, .int .i64 i2), (3, .int .i64 n3), (8, .pointer (some ⟨b223, 0, none⟩)), (9, .slice (some ⟨g243, 0, none⟩) 3 (ng243 / 1)), (10, .slice (some ⟨g245, 0, none⟩) 3 (ng245 / 1)), (20, .slice (some ⟨N235, 1, none⟩) 3 3), (21, .int .i64 3), (22, .int .i64 2), (26, .slice (some ⟨g243, 0, none⟩) 3 (ng243 / 1)), (28, .int .i64 t232), (31, .slice (some ⟨g245, 0, none⟩) 3 (ng245 / 1)), (34, .slice (some ⟨g249, 0, none⟩) 1 1)]) (by kernel_rfl) ?_
            refine t_end ?_
            exact ⟨hg_1e7 g249, rfl⟩
        have hg_e7 : G [true, true, true, false, false, true, true, true, false, false, false, false] [(2, .int .i64 i2), (3, .int .i64 n3), (8, .pointer (some ⟨b223, 0, none⟩)), (9, .slice (some ⟨g243, 0, none⟩) 3 (ng243 / 1)), (10, .slice (some ⟨g245, 0, none⟩) 3 (ng245 / 1)), (20, .slice (some ⟨N235, 1, none⟩) 3 3), (21, .int .i64 3), (22, .int .i64 2), (26, .slice (some ⟨g243, 0, none⟩) 3 (ng243 / 1)), (28, .int .i64 t232), (31, .slice (some ⟨g245, 0, none⟩) 3 (ng245 / 1)), (33, .int .i64 t233)] ([⟨b246, [.int .i64 t232, .int .i64 t233], 2⟩, ⟨g245, [.int .i64 a0_1, .int .i64 t229, .int .i64 t231], ng245⟩, ⟨g244, [.int .i64 t231], 1⟩, ⟨g243, [.int .i64 a0_0, .int .i64 t228, .int .i64 t230], ng243⟩, ⟨g242, [.int .i64 t230], 1⟩, ⟨b241, [.int .i64 t230, .int .i64 t231], 2⟩, ⟨g239, [.int .i64 t229], 1⟩, ⟨g237, [.int .i64 t228], 1⟩, ⟨b236, [.int .i64 t228, .int .i64 t229], 2⟩, ⟨N235, [.int .i64 t227, .int .i64 t228, .int .i64 t229, .int .i64 t230, .int .i64 t231, .int .i64 t232, .int .i64 t233], 7⟩, ⟨b223, [.int .i64 0, .int .i64 0], 2⟩, ⟨b222, [.int .i64 3, .int .i64 s1_1, .int .i64 s1_2, .int .i64 s1_3, .int .i64 s1_4, .int .i64 s1_5, .int .i64 s1_6], 7⟩, ⟨b221, [.int .i64 a0_0, .int .i64 a0_1], 2⟩] : List Own) := by
          refine hstep [3, 8] _ _ _ (by kernel_rfl) (List.cons_ne_nil _ _) ⟨?_, ?_, trivial⟩
          · show T _ _ _ _ _ _ _ _
            refine t_a (.bsl rfl rfl rfl rfl) fun g247 fg247 sg247 => ?_
            refine t_keep [2, 3, 8, 9, 10, 20, 21, 22, 26, 29, 31, 33] (σ' := [(2, .int .i64 i2), (3, .int .i64 n3), (8, .pointer (some ⟨b223, 0, none⟩)), (9, .slice (some ⟨g243, 0, none⟩) 3 (ng243 / 1)), (10, .slice (some ⟨g245, 0, none⟩) 3 (ng245 / 1)), (20, .slice (some ⟨N235, 1, none⟩) 3 3), (21, .int .i64 3), (22, .int .i64 2), (26, .slice (some ⟨g243, 0, none⟩) 3 (ng243 / 1)), (29, .slice (some ⟨g247, 0, none⟩) 1 1), (31, .slice (some ⟨g245, 0, none⟩) 3 (ng245 / 1)), (33, .int .i64 t233)]) (by kernel_rfl) ?_
            refine t_end ?_
            exact ⟨hg_ef g247, rfl⟩
          · show T _ _ _ _ _ _ _ _
            refine t_a (.bsl rfl rfl rfl rfl) fun g249 fg249 sg249 => ?_
            refine t_keep [2, 3, 8, 9, 10, 20, 21, 22, 26, 28, 31, 34] (σ' := [(2, .int .i64 i2), (3, .int .i64 n3), (8, .pointer (some ⟨b223, 0, none⟩)), (9, .slice (some ⟨g243, 0, none⟩) 3 (ng243 / 1)), (10, .slice (some ⟨g245, 0, none⟩) 3 (ng245 / 1)), (20, .slice (some ⟨N235, 1, none⟩) 3 3), (21, .int .i64 3), (22, .int .i64 2), (26, .slice (some ⟨g243, 0, none⟩) 3 (ng243 / 1)), (28, .int .i64 t232), (31, .slice (some ⟨g245, 0, none⟩) 3 (ng245 / 1)), (34, .slice (some ⟨g249, 0, none⟩) 1 1)]) (by kernel_rfl) ?_
            refine t_end ?_
            exact ⟨hg_1e7 g249, rfl⟩
        have hg_6f : ∀ (g247 : Nat), G [true, true, true, true, false, true, true, false, false, false, false, false] [(2, .int .i64 i2), (3, .int .i64 n3), (8, .pointer (some ⟨b223, 0, none⟩)), (9, .slice (some ⟨g243, 0, none⟩) 3 (ng243 / 1)), (10, .slice (some ⟨g245, 0, none⟩) 3 (ng245 / 1)), (20, .slice (some ⟨N235, 1, none⟩) 3 3), (21, .int .i64 3), (22, .int .i64 2), (26, .slice (some ⟨g243, 0, none⟩) 3 (ng243 / 1)), (29, .slice (some ⟨g247, 0, none⟩) 1 1), (31, .slice (some ⟨g245, 0, none⟩) 3 (ng245 / 1)), (32, .pointer (some ⟨b246, 1, none⟩))] ([⟨g247, [.int .i64 t232], 1⟩, ⟨b246, [.int .i64 t232, .int .i64 t233], 2⟩, ⟨g245, [.int .i64 a0_1, .int .i64 t229, .int .i64 t231], ng245⟩, ⟨g244, [.int .i64 t231], 1⟩, ⟨g243, [.int .i64 a0_0, .int .i64 t228, .int .i64 t230], ng243⟩, ⟨g242, [.int .i64 t230], 1⟩, ⟨b241, [.int .i64 t230, .int .i64 t231], 2⟩, ⟨g239, [.int .i64 t229], 1⟩, ⟨g237, [.int .i64 t228], 1⟩, ⟨b236, [.int .i64 t228, .int .i64 t229], 2⟩, ⟨N235, [.int .i64 t227, .int .i64 t228, .int .i64 t229, .int .i64 t230, .int .i64 t231, .int .i64 t232, .int .i64 t233], 7⟩, ⟨b223, [.int .i64 0, .int .i64 0], 2⟩, ⟨b222, [.int .i64 3, .int .i64 s1_1, .int .i64 s1_2, .int .i64 s1_3, .int .i64 s1_4, .int .i64 s1_5, .int .i64 s1_6], 7⟩, ⟨b221, [.int .i64 a0_0, .int .i64 a0_1], 2⟩] : List Own) := by
          intro g247
          refine hstep [4, 7] _ _ _ (by kernel_rfl) (List.cons_ne_nil _ _) ⟨?_, ?_, trivial⟩
          · show T _ _ _ _ _ _ _ _
            refine t_app1 (cs := [.int .i64 a0_0, .int .i64 t228, .int .i64 t230]) (M := ng243) (F := ([⟨g247, [.int .i64 t232], 1⟩, ⟨b246, [.int .i64 t232, .int .i64 t233], 2⟩, ⟨g245, [.int .i64 a0_1, .int .i64 t229, .int .i64 t231], ng245⟩, ⟨g244, [.int .i64 t231], 1⟩, ⟨g242, [.int .i64 t230], 1⟩, ⟨b241, [.int .i64 t230, .int .i64 t231], 2⟩, ⟨g239, [.int .i64 t229], 1⟩, ⟨g237, [.int .i64 t228], 1⟩, ⟨b236, [.int .i64 t228, .int .i64 t229], 2⟩, ⟨N235, [.int .i64 t227, .int .i64 t228, .int .i64 t229, .int .i64 t230, .int .i64 t231, .int .i64 t232, .int .i64 t233], 7⟩, ⟨b223, [.int .i64 0, .int .i64 0], 2⟩, ⟨b222, [.int .i64 3, .int .i64 s1_1, .int .i64 s1_2, .int .i64 s1_3, .int .i64 s1_4, .int .i64 s1_5, .int .i64 s1_6], 7⟩, ⟨b221, [.int .i64 a0_0, .int .i64 a0_1], 2⟩] : List Own)) (news := [.int .i64 t232]) rfl rfl rfl rfl (sel_perm (is := [4]) (by kernel_rfl)) (.at 0 rfl rfl) (by kernel_rfl) rfl rfl (by decide) (by decide) rfl fun g248 ng248 => ?_
            refine t_keep [2, 3, 8, 9, 10, 20, 21, 22, 30, 31, 32] (σ' := [(2, .int .i64 i2), (3, .int .i64 n3), (8, .pointer (some ⟨b223, 0, none⟩)), (9, .slice (some ⟨g243, 0, none⟩) 3 (ng243 / 1)), (10, .slice (some ⟨g245, 0, none⟩) 3 (ng245 / 1)), (20, .slice (some ⟨N235, 1, none⟩) 3 3), (21, .int .i64 3), (22, .int .i64 2), (30, .slice (some ⟨g248, 0, none⟩) 4 (ng248 / 1)), (31, .slice (some ⟨g245, 0, none⟩) 3 (ng245 / 1)), (32, .pointer (some ⟨b246, 1, none⟩))]) (by kernel_rfl) ?_
            refine t_end ?_
            exact ⟨hg_7f g248 ng248 g247, rfl⟩
          · show T _ _ _ _ _ _ _ _
            refine t_v (.ld1 rfl rfl rfl (.at 1 rfl rfl)) ?_
            refine t_keep [2, 3, 8, 9, 10, 20, 21, 22, 26, 29, 31, 33] (σ' := [(2, .int .i64 i2), (3, .int .i64 n3), (8, .pointer (some ⟨b223, 0, none⟩)), (9, .slice (some ⟨g243, 0, none⟩) 3 (ng243 / 1)), (10, .slice (some ⟨g245, 0, none⟩) 3 (ng245 / 1)), (20, .slice (some ⟨N235, 1, none⟩) 3 3), (21, .int .i64 3), (22, .int .i64 2), (26, .slice (some ⟨g243, 0, none⟩) 3 (ng243 / 1)), (29, .slice (some ⟨g247, 0, none⟩) 1 1), (31, .slice (some ⟨g245, 0, none⟩) 3 (ng245 / 1)), (33, .int .i64 t233)]) (by kernel_rfl) ?_
            refine t_end ?_
            exact ⟨hg_ef g247, rfl⟩
        have hg_e3 : G [true, true, false, false, false, true, true, true, false, false, false, false] [(2, .int .i64 i2), (3, .int .i64 n3), (8, .pointer (some ⟨b223, 0, none⟩)), (9, .slice (some ⟨g243, 0, none⟩) 3 (ng243 / 1)), (10, .slice (some ⟨g245, 0, none⟩) 3 (ng245 / 1)), (20, .slice (some ⟨N235, 1, none⟩) 3 3), (21, .int .i64 3), (22, .int .i64 2), (26, .slice (some ⟨g243, 0, none⟩) 3 (ng243 / 1)), (27, .pointer (some ⟨b246, 0, none⟩)), (31, .slice (some ⟨g245, 0, none⟩) 3 (ng245 / 1)), (33, .int .i64 t233)] ([⟨b246, [.int .i64 t232, .int .i64 t233], 2⟩, ⟨g245, [.int .i64 a0_1, .int .i64 t229, .int .i64 t231], ng245⟩, ⟨g244, [.int .i64 t231], 1⟩, ⟨g243, [.int .i64 a0_0, .int .i64 t228, .int .i64 t230], ng243⟩, ⟨g242, [.int .i64 t230], 1⟩, ⟨b241, [.int .i64 t230, .int .i64 t231], 2⟩, ⟨g239, [.int .i64 t229], 1⟩, ⟨g237, [.int .i64 t228], 1⟩, ⟨b236, [.int .i64 t228, .int .i64 t229], 2⟩, ⟨N235, [.int .i64 t227, .int .i64 t228, .int .i64 t229, .int .i64 t230, .int .i64 t231, .int .i64 t232, .int .i64 t233], 7⟩, ⟨b223, [.int .i64 0, .int .i64 0], 2⟩, ⟨b222, [.int .i64 3, .int .i64 s1_1, .int .i64 s1_2, .int .i64 s1_3, .int .i64 s1_4, .int .i64 s1_5, .int .i64 s1_6], 7⟩, ⟨b221, [.int .i64 a0_0, .int .i64 a0_1], 2⟩] : List Own) := by
          refine hstep [2, 8] _ _ _ (by kernel_rfl) (List.cons_ne_nil _ _) ⟨?_, ?_, trivial⟩
          · show T _ _ _ _ _ _ _ _
            refine t_v (.ld1 rfl rfl rfl (.at 0 rfl rfl)) ?_
            refine t_keep [2, 3, 8, 9, 10, 20, 21, 22, 26, 28, 31, 33] (σ' := [(2, .int .i64 i2), (3, .int .i64 n3), (8, .pointer (some ⟨b223, 0, none⟩)), (9, .slice (some ⟨g243, 0, none⟩) 3 (ng243 / 1)), (10, .slice (some ⟨g245, 0, none⟩) 3 (ng245 / 1)), (20, .slice (some ⟨N235, 1, none⟩) 3 3), (21, .int .i64 3), (22, .int .i64 2), (26, .slice (some ⟨g243, 0, none⟩) 3 (ng243 / 1)), (28, .int .i64 t232), (31, .slice (some ⟨g245, 0, none⟩) 3 (ng245 / 1)), (33, .int .i64 t233)]) (by kernel_rfl) ?_
            refine t_end ?_
            exact ⟨hg_e7, rfl⟩
          · show T _ _ _ _ _ _ _ _
            refine t_a (.bsl rfl rfl rfl rfl) fun g249 fg249 sg249 => ?_
            refine t_keep [2, 3, 8, 9, 10, 20, 21, 22, 26, 27, 31, 34] (σ' := [(2, .int .i64 i2), (3, .int .i64 n3), (8, .pointer (some ⟨b223, 0, none⟩)), (9, .slice (some ⟨g243, 0, none⟩) 3 (ng243 / 1)), (10, .slice (some ⟨g245, 0, none⟩) 3 (ng245 / 1)), (20, .slice (some ⟨N235, 1, none⟩) 3 3), (21, .int .i64 3), (22, .int .i64 2), (26, .slice (some ⟨g243, 0, none⟩) 3 (ng243 / 1)), (27, .pointer (some ⟨b246, 0, none⟩)), (31, .slice (some ⟨g245, 0, none⟩) 3 (ng245 / 1)), (34, .slice (some ⟨g249, 0, none⟩) 1 1)]) (by kernel_rfl) ?_
            refine t_end ?_
            exact ⟨hg_1e3 g249, rfl⟩
        have hg_67 : G [true, true, true, false, false, true, true, false, false, false, false, false] [(2, .int .i64 i2), (3, .int .i64 n3), (8, .pointer (some ⟨b223, 0, none⟩)), (9, .slice (some ⟨g243, 0, none⟩) 3 (ng243 / 1)), (10, .slice (some ⟨g245, 0, none⟩) 3 (ng245 / 1)), (20, .slice (some ⟨N235, 1, none⟩) 3 3), (21, .int .i64 3), (22, .int .i64 2), (26, .slice (some ⟨g243, 0, none⟩) 3 (ng243 / 1)), (28, .int .i64 t232), (31, .slice (some ⟨g245, 0, none⟩) 3 (ng245 / 1)), (32, .pointer (some ⟨b246, 1, none⟩))] ([⟨b246, [.int .i64 t232, .int .i64 t233], 2⟩, ⟨g245, [.int .i64 a0_1, .int .i64 t229, .int .i64 t231], ng245⟩, ⟨g244, [.int .i64 t231], 1⟩, ⟨g243, [.int .i64 a0_0, .int .i64 t228, .int .i64 t230], ng243⟩, ⟨g242, [.int .i64 t230], 1⟩, ⟨b241, [.int .i64 t230, .int .i64 t231], 2⟩, ⟨g239, [.int .i64 t229], 1⟩, ⟨g237, [.int .i64 t228], 1⟩, ⟨b236, [.int .i64 t228, .int .i64 t229], 2⟩, ⟨N235, [.int .i64 t227, .int .i64 t228, .int .i64 t229, .int .i64 t230, .int .i64 t231, .int .i64 t232, .int .i64 t233], 7⟩, ⟨b223, [.int .i64 0, .int .i64 0], 2⟩, ⟨b222, [.int .i64 3, .int .i64 s1_1, .int .i64 s1_2, .int .i64 s1_3, .int .i64 s1_4, .int .i64 s1_5, .int .i64 s1_6], 7⟩, ⟨b221, [.int .i64 a0_0, .int .i64 a0_1], 2⟩] : List Own) := by
          refine hstep [3, 7] _ _ _ (by kernel_rfl) (List.cons_ne_nil _ _) ⟨?_, ?_, trivial⟩
          · show T _ _ _ _ _ _ _ _
            refine t_a (.bsl rfl rfl rfl rfl) fun g247 fg247 sg247 => ?_
            refine t_keep [2, 3, 8, 9, 10, 20, 21, 22, 26, 29, 31, 32] (σ' := [(2, .int .i64 i2), (3, .int .i64 n3), (8, .pointer (some ⟨b223, 0, none⟩)), (9, .slice (some ⟨g243, 0, none⟩) 3 (ng243 / 1)), (10, .slice (some ⟨g245, 0, none⟩) 3 (ng245 / 1)), (20, .slice (some ⟨N235, 1, none⟩) 3 3), (21, .int .i64 3), (22, .int .i64 2), (26, .slice (some ⟨g243, 0, none⟩) 3 (ng243 / 1)), (29, .slice (some ⟨g247, 0, none⟩) 1 1), (31, .slice (some ⟨g245, 0, none⟩) 3 (ng245 / 1)), (32, .pointer (some ⟨b246, 1, none⟩))]) (by kernel_rfl) ?_
            refine t_end ?_
            exact ⟨hg_6f g247, rfl⟩
          · show T _ _ _ _ _ _ _ _
            refine t_v (.ld1 rfl rfl rfl (.at 0 rfl rfl)) ?_
            refine t_keep [2, 3, 8, 9, 10, 20, 21, 22, 26, 28, 31, 33] (σ' := [(2, .int .i64 i2), (3, .int .i64 n3), (8, .pointer (some ⟨b223, 0, none⟩)), (9, .slice (some ⟨g243, 0, none⟩) 3 (ng243 / 1)), (10, .slice (some ⟨g245, 0, none⟩) 3 (ng245 / 1)), (20, .slice (some ⟨N235, 1, none⟩) 3 3), (21, .int .i64 3), (22, .int .i64 2), (26, .slice (some ⟨g243, 0, none⟩) 3 (ng243 / 1)), (28, .int .i64 t232), (31, .slice (some ⟨g245, 0, none⟩) 3 (ng245 / 1)), (33, .int .i64 t233)]) (by kernel_rfl) ?_
            refine t_end ?_
            exact ⟨hg_e7, rfl⟩
        have hg_63 : G [true, true, false, false, false, true, true, false, false, false, false, false] [(2, .int .i64 i2), (3, .int .i64 n3), (8, .pointer (some ⟨b223, 0, none⟩)), (9, .slice (some ⟨g243, 0, none⟩) 3 (ng243 / 1)), (10, .slice (some ⟨g245, 0, none⟩) 3 (ng245 / 1)), (20, .slice (some ⟨N235, 1, none⟩) 3 3), (21, .int .i64 3), (22, .int .i64 2), (26, .slice (some ⟨g243, 0, none⟩) 3 (ng243 / 1)), (27, .pointer (some ⟨b246, 0, none⟩)), (31, .slice (some ⟨g245, 0, none⟩) 3 (ng245 / 1)), (32, .pointer (some ⟨b246, 1, none⟩))] ([⟨b246, [.int .i64 t232, .int .i64 t233], 2⟩, ⟨g245, [.int .i64 a0_1, .int .i64 t229, .int .i64 t231], ng245⟩, ⟨g244, [.int .i64 t231], 1⟩, ⟨g243, [.int .i64 a0_0, .int .i64 t228, .int .i64 t230], ng243⟩, ⟨g242, [.int .i64 t230], 1⟩, ⟨b241, [.int .i64 t230, .int .i64 t231], 2⟩, ⟨g239, [.int .i64 t229], 1⟩, ⟨g237, [.int .i64 t228], 1⟩, ⟨b236, [.int .i64 t228, .int .i64 t229], 2⟩, ⟨N235, [.int .i64 t227, .int .i64 t228, .int .i64 t229, .int .i64 t230, .int .i64 t231, .int .i64 t232, .int .i64 t233], 7⟩, ⟨b223, [.int .i64 0, .int .i64 0], 2⟩, ⟨b222, [.int .i64 3, .int .i64 s1_1, .int .i64 s1_2, .int .i64 s1_3, .int .i64 s1_4, .int .i64 s1_5, .int .i64 s1_6], 7⟩, ⟨b221, [.int .i64 a0_0, .int .i64 a0_1], 2⟩] : List Own) := by
          refine hstep [2, 7] _ _ _ (by kernel_rfl) (List.cons_ne_nil _ _) ⟨?_, ?_, trivial⟩
          · show T _ _ _ _ _ _ _ _
            refine t_v (.ld1 rfl rfl rfl (.at 0 rfl rfl)) ?_
            refine t_keep [2, 3, 8, 9, 10, 20, 21, 22, 26, 28, 31, 32] (σ' := [(2, .int .i64 i2), (3, .int .i64 n3), (8, .pointer (some ⟨b223, 0, none⟩)), (9, .slice (some ⟨g243, 0, none⟩) 3 (ng243 / 1)), (10, .slice (some ⟨g245, 0, none⟩) 3 (ng245 / 1)), (20, .slice (some ⟨N235, 1, none⟩) 3 3), (21, .int .i64 3), (22, .int .i64 2), (26, .slice (some ⟨g243, 0, none⟩) 3 (ng243 / 1)), (28, .int .i64 t232), (31, .slice (some ⟨g245, 0, none⟩) 3 (ng245 / 1)), (32, .pointer (some ⟨b246, 1, none⟩))]) (by kernel_rfl) ?_
            refine t_end ?_
            exact ⟨hg_67, rfl⟩
          · show T _ _ _ _ _ _ _ _
            refine t_v (.ld1 rfl rfl rfl (.at 0 rfl rfl)) ?_
            refine t_keep [2, 3, 8, 9, 10, 20, 21, 22, 26, 27, 31, 33] (σ' := [(2, .int .i64 i2), (3, .int .i64 n3), (8, .pointer (some ⟨b223, 0, none⟩)), (9, .slice (some ⟨g243, 0, none⟩) 3 (ng243 / 1)), (10, .slice (some ⟨g245, 0, none⟩) 3 (ng245 / 1)), (20, .slice (some ⟨N235, 1, none⟩) 3 3), (21, .int .i64 3), (22, .int .i64 2), (26, .slice (some ⟨g243, 0, none⟩) 3 (ng243 / 1)), (27, .pointer (some ⟨b246, 0, none⟩)), (31, .slice (some ⟨g245, 0, none⟩) 3 (ng245 / 1)), (33, .int .i64 t233)]) (by kernel_rfl) ?_
            refine t_end ?_
            exact ⟨hg_e3, rfl⟩
        have hg_23 : G [true, true, false, false, false, true, false, false, false, false, false, false] [(2, .int .i64 i2), (3, .int .i64 n3), (8, .pointer (some ⟨b223, 0, none⟩)), (9, .slice (some ⟨g243, 0, none⟩) 3 (ng243 / 1)), (10, .slice (some ⟨g245, 0, none⟩) 3 (ng245 / 1)), (12, .pointer (some ⟨b246, 0, none⟩)), (20, .slice (some ⟨N235, 1, none⟩) 3 3), (21, .int .i64 3), (22, .int .i64 2), (26, .slice (some ⟨g243, 0, none⟩) 3 (ng243 / 1)), (27, .pointer (some ⟨b246, 0, none⟩)), (31, .slice (some ⟨g245, 0, none⟩) 3 (ng245 / 1))] ([⟨b246, [.int .i64 t232, .int .i64 t233], 2⟩, ⟨g245, [.int .i64 a0_1, .int .i64 t229, .int .i64 t231], ng245⟩, ⟨g244, [.int .i64 t231], 1⟩, ⟨g243, [.int .i64 a0_0, .int .i64 t228, .int .i64 t230], ng243⟩, ⟨g242, [.int .i64 t230], 1⟩, ⟨b241, [.int .i64 t230, .int .i64 t231], 2⟩, ⟨g239, [.int .i64 t229], 1⟩, ⟨g237, [.int .i64 t228], 1⟩, ⟨b236, [.int .i64 t228, .int .i64 t229], 2⟩, ⟨N235, [.int .i64 t227, .int .i64 t228, .int .i64 t229, .int .i64 t230, .int .i64 t231, .int .i64 t232, .int .i64 t233], 7⟩, ⟨b223, [.int .i64 0, .int .i64 0], 2⟩, ⟨b222, [.int .i64 3, .int .i64 s1_1, .int .i64 s1_2, .int .i64 s1_3, .int .i64 s1_4, .int .i64 s1_5, .int .i64 s1_6], 7⟩, ⟨b221, [.int .i64 a0_0, .int .i64 a0_1], 2⟩] : List Own) := by
          exact hqf 6 [2, 3, 8, 9, 10, 20, 21, 22, 26, 27, 31, 32] _ _ _ [(2, .int .i64 i2), (3, .int .i64 n3), (8, .pointer (some ⟨b223, 0, none⟩)), (9, .slice (some ⟨g243, 0, none⟩) 3 (ng243 / 1)), (10, .slice (some ⟨g245, 0, none⟩) 3 (ng245 / 1)), (20, .slice (some ⟨N235, 1, none⟩) 3 3), (21, .int .i64 3), (22, .int .i64 2), (26, .slice (some ⟨g243, 0, none⟩) 3 (ng243 / 1)), (27, .pointer (some ⟨b246, 0, none⟩)), (31, .slice (some ⟨g245, 0, none⟩) 3 (ng245 / 1)), (32, .pointer (some ⟨b246, 1, none⟩))] (by kernel_rfl) (by kernel_rfl) hg_63
        have hg_3 : G [true, true, false, false, false, false, false, false, false, false, false, false] [(2, .int .i64 i2), (3, .int .i64 n3), (8, .pointer (some ⟨b223, 0, none⟩)), (9, .slice (some ⟨g243, 0, none⟩) 3 (ng243 / 1)), (10, .slice (some ⟨g245, 0, none⟩) 3 (ng245 / 1)), (12, .pointer (some ⟨b246, 0, none⟩)), (20, .slice (some ⟨N235, 1, none⟩) 3 3), (21, .int .i64 3), (22, .int .i64 2), (26, .slice (some ⟨g243, 0, none⟩) 3 (ng243 / 1)), (27, .pointer (some ⟨b246, 0, none⟩))] ([⟨b246, [.int .i64 t232, .int .i64 t233], 2⟩, ⟨g245, [.int .i64 a0_1, .int .i64 t229, .int .i64 t231], ng245⟩, ⟨g244, [.int .i64 t231], 1⟩, ⟨g243, [.int .i64 a0_0, .int .i64 t228, .int .i64 t230], ng243⟩, ⟨g242, [.int .i64 t230], 1⟩, ⟨b241, [.int .i64 t230, .int .i64 t231], 2⟩, ⟨g239, [.int .i64 t229], 1⟩, ⟨g237, [.int .i64 t228], 1⟩, ⟨b236, [.int .i64 t228, .int .i64 t229], 2⟩, ⟨N235, [.int .i64 t227, .int .i64 t228, .int .i64 t229, .int .i64 t230, .int .i64 t231, .int .i64 t232, .int .i64 t233], 7⟩, ⟨b223, [.int .i64 0, .int .i64 0], 2⟩, ⟨b222, [.int .i64 3, .int .i64 s1_1, .int .i64 s1_2, .int .i64 s1_3, .int .i64 s1_4, .int .i64 s1_5, .int .i64 s1_6], 7⟩, ⟨b221, [.int .i64 a0_0, .int .i64 a0_1], 2⟩] : List Own) := by
          exact hqf 5 [2, 3, 8, 9, 10, 12, 20, 21, 22, 26, 27, 31] _ _ _ [(2, .int .i64 i2), (3, .int .i64 n3), (8, .pointer (some ⟨b223, 0, none⟩)), (9, .slice (some ⟨g243, 0, none⟩) 3 (ng243 / 1)), (10, .slice (some ⟨g245, 0, none⟩) 3 (ng245 / 1)), (12, .pointer (some ⟨b246, 0, none⟩)), (20, .slice (some ⟨N235, 1, none⟩) 3 3), (21, .int .i64 3), (22, .int .i64 2), (26, .slice (some ⟨g243, 0, none⟩) 3 (ng243 / 1)), (27, .pointer (some ⟨b246, 0, none⟩)), (31, .slice (some ⟨g245, 0, none⟩) 3 (ng245 / 1))] (by kernel_rfl) (by kernel_rfl) hg_23
        have hg_1 : G [true, false, false, false, false, false, false, false, false, false, false, false] [(2, .int .i64 i2), (3, .int .i64 n3), (8, .pointer (some ⟨b223, 0, none⟩)), (9, .slice (some ⟨g243, 0, none⟩) 3 (ng243 / 1)), (10, .slice (some ⟨g245, 0, none⟩) 3 (ng245 / 1)), (12, .pointer (some ⟨b246, 0, none⟩)), (20, .slice (some ⟨N235, 1, none⟩) 3 3), (21, .int .i64 3), (22, .int .i64 2), (26, .slice (some ⟨g243, 0, none⟩) 3 (ng243 / 1))] ([⟨b246, [.int .i64 t232, .int .i64 t233], 2⟩, ⟨g245, [.int .i64 a0_1, .int .i64 t229, .int .i64 t231], ng245⟩, ⟨g244, [.int .i64 t231], 1⟩, ⟨g243, [.int .i64 a0_0, .int .i64 t228, .int .i64 t230], ng243⟩, ⟨g242, [.int .i64 t230], 1⟩, ⟨b241, [.int .i64 t230, .int .i64 t231], 2⟩, ⟨g239, [.int .i64 t229], 1⟩, ⟨g237, [.int .i64 t228], 1⟩, ⟨b236, [.int .i64 t228, .int .i64 t229], 2⟩, ⟨N235, [.int .i64 t227, .int .i64 t228, .int .i64 t229, .int .i64 t230, .int .i64 t231, .int .i64 t232, .int .i64 t233], 7⟩, ⟨b223, [.int .i64 0, .int .i64 0], 2⟩, ⟨b222, [.int .i64 3, .int .i64 s1_1, .int .i64 s1_2, .int .i64 s1_3, .int .i64 s1_4, .int .i64 s1_5, .int .i64 s1_6], 7⟩, ⟨b221, [.int .i64 a0_0, .int .i64 a0_1], 2⟩] : List Own) := by
          exact hqf 1 [2, 3, 8, 9, 10, 12, 20, 21, 22, 26, 27] _ _ _ [(2, .int .i64 i2), (3, .int .i64 n3), (8, .pointer (some ⟨b223, 0, none⟩)), (9, .slice (some ⟨g243, 0, none⟩) 3 (ng243 / 1)), (10, .slice (some ⟨g245, 0, none⟩) 3 (ng245 / 1)), (12, .pointer (some ⟨b246, 0, none⟩)), (20, .slice (some ⟨N235, 1, none⟩) 3 3), (21, .int .i64 3), (22, .int .i64 2), (26, .slice (some ⟨g243, 0, none⟩) 3 (ng243 / 1)), (27, .pointer (some ⟨b246, 0, none⟩))] (by kernel_rfl) (by kernel_rfl) hg_3
        have hg_0 : G [false, false, false, false, false, false, false, false, false, false, false, false] [(2, .int .i64 i2), (3, .int .i64 n3), (8, .pointer (some ⟨b223, 0, none⟩)), (9, .slice (some ⟨g243, 0, none⟩) 3 (ng243 / 1)), (10, .slice (some ⟨g245, 0, none⟩) 3 (ng245 / 1)), (12, .pointer (some ⟨b246, 0, none⟩)), (20, .slice (some ⟨N235, 1, none⟩) 3 3), (21, .int .i64 3), (22, .int .i64 2)] ([⟨b246, [.int .i64 t232, .int .i64 t233], 2⟩, ⟨g245, [.int .i64 a0_1, .int .i64 t229, .int .i64 t231], ng245⟩, ⟨g244, [.int .i64 t231], 1⟩, ⟨g243, [.int .i64 a0_0, .int .i64 t228, .int .i64 t230], ng243⟩, ⟨g242, [.int .i64 t230], 1⟩, ⟨b241, [.int .i64 t230, .int .i64 t231], 2⟩, ⟨g239, [.int .i64 t229], 1⟩, ⟨g237, [.int .i64 t228], 1⟩, ⟨b236, [.int .i64 t228, .int .i64 t229], 2⟩, ⟨N235, [.int .i64 t227, .int .i64 t228, .int .i64 t229, .int .i64 t230, .int .i64 t231, .int .i64 t232, .int .i64 t233], 7⟩, ⟨b223, [.int .i64 0, .int .i64 0], 2⟩, ⟨b222, [.int .i64 3, .int .i64 s1_1, .int .i64 s1_2, .int .i64 s1_3, .int .i64 s1_4, .int .i64 s1_5, .int .i64 s1_6], 7⟩, ⟨b221, [.int .i64 a0_0, .int .i64 a0_1], 2⟩] : List Own) := by
          exact hqf 0 [2, 3, 8, 9, 10, 12, 20, 21, 22, 26] _ _ _ [(2, .int .i64 i2), (3, .int .i64 n3), (8, .pointer (some ⟨b223, 0, none⟩)), (9, .slice (some ⟨g243, 0, none⟩) 3 (ng243 / 1)), (10, .slice (some ⟨g245, 0, none⟩) 3 (ng245 / 1)), (12, .pointer (some ⟨b246, 0, none⟩)), (20, .slice (some ⟨N235, 1, none⟩) 3 3), (21, .int .i64 3), (22, .int .i64 2), (26, .slice (some ⟨g243, 0, none⟩) 3 (ng243 / 1))] (by kernel_rfl) (by kernel_rfl) hg_1
        exact hg_0
      have hg_7ff : ∀ (g245 : Nat) (ng245 : Nat) (g244 : Nat) (g243 : Nat) (ng243 : Nat) (g242 : Nat), G [true, true, true, true, true, true, true, true, true, true, true, false] [(2, .int .i64 i2), (3, .int .i64 n3), (8, .pointer (some ⟨b223, 0, none⟩)), (9, .slice (some ⟨g243, 0, none⟩) 3 (ng243 / 1)), (10, .slice (some ⟨g240, 0, none⟩) 2 (ng240 / 1)), (20, .slice (some ⟨N235, 1, none⟩) 3 3), (21, .int .i64 3), (22, .int .i64 1), (35, .slice (some ⟨g245, 0, none⟩) 3 (ng245 / 1))] ([⟨g245, [.int .i64 a0_1, .int .i64 t229, .int .i64 t231], ng245⟩, ⟨g244, [.int .i64 t231], 1⟩, ⟨g243, [.int .i64 a0_0, .int .i64 t228, .int .i64 t230], ng243⟩, ⟨g242, [.int .i64 t230], 1⟩, ⟨b241, [.int .i64 t230, .int .i64 t231], 2⟩, ⟨g239, [.int .i64 t229], 1⟩, ⟨g237, [.int .i64 t228], 1⟩, ⟨b236, [.int .i64 t228, .int .i64 t229], 2⟩, ⟨N235, [.int .i64 t227, .int .i64 t228, .int .i64 t229, .int .i64 t230, .int .i64 t231, .int .i64 t232, .int .i64 t233], 7⟩, ⟨b223, [.int .i64 0, .int .i64 0], 2⟩, ⟨b222, [.int .i64 3, .int .i64 s1_1, .int .i64 s1_2, .int .i64 s1_3, .int .i64 s1_4, .int .i64 s1_5, .int .i64 s1_6], 7⟩, ⟨b221, [.int .i64 a0_0, .int .i64 a0_1], 2⟩] : List Own) := by
        intro g245 ng245 g244 g243 ng243 g242
        exact hqf 11 [2, 3, 8, 9, 10, 20, 21, 22] _ _ _ [(2, .int .i64 i2), (3, .int .i64 n3), (8, .pointer (some ⟨b223, 0, none⟩)), (9, .slice (some ⟨g243, 0, none⟩) 3 (ng243 / 1)), (10, .slice (some ⟨g245, 0, none⟩) 3 (ng245 / 1)), (20, .slice (some ⟨N235, 1, none⟩) 3 3), (21, .int .i64 3), (22, .int .i64 1)] (by kernel_rfl) (by kernel_rfl) (hg_fff g245 ng245 g244 g243 ng243 g242)
      have hg_3ff : ∀ (g245 : Nat) (ng245 : Nat) (g244 : Nat) (g243 : Nat) (ng243 : Nat) (g242 : Nat), G [true, true, true, true, true, true, true, true, true, true, false, false] [(2, .int .i64 i2), (3, .int .i64 n3), (8, .pointer (some ⟨b223, 0, none⟩)), (9, .slice (some ⟨g238, 0, none⟩) 2 (ng238 / 1)), (10, .slice (some ⟨g240, 0, none⟩) 2 (ng240 / 1)), (20, .slice (some ⟨N235, 1, none⟩) 3 3), (21, .int .i64 3), (22, .int .i64 1), (30, .slice (some ⟨g243, 0, none⟩) 3 (ng243 / 1)), (35, .slice (some ⟨g245, 0, none⟩) 3 (ng245 / 1))] ([⟨g245, [.int .i64 a0_1, .int .i64 t229, .int .i64 t231], ng245⟩, ⟨g244, [.int .i64 t231], 1⟩, ⟨g243, [.int .i64 a0_0, .int .i64 t228, .int .i64 t230], ng243⟩, ⟨g242, [.int .i64 t230], 1⟩, ⟨b241, [.int .i64 t230, .int .i64 t231], 2⟩, ⟨g239, [.int .i64 t229], 1⟩, ⟨g237, [.int .i64 t228], 1⟩, ⟨b236, [.int .i64 t228, .int .i64 t229], 2⟩, ⟨N235, [.int .i64 t227, .int .i64 t228, .int .i64 t229, .int .i64 t230, .int .i64 t231, .int .i64 t232, .int .i64 t233], 7⟩, ⟨b223, [.int .i64 0, .int .i64 0], 2⟩, ⟨b222, [.int .i64 3, .int .i64 s1_1, .int .i64 s1_2, .int .i64 s1_3, .int .i64 s1_4, .int .i64 s1_5, .int .i64 s1_6], 7⟩, ⟨b221, [.int .i64 a0_0, .int .i64 a0_1], 2⟩] : List Own) := by
        intro g245 ng245 g244 g243 ng243 g242
        exact hqf 10 [2, 3, 8, 9, 10, 20, 21, 22, 35] _ _ _ [(2, .int .i64 i2), (3, .int .i64 n3), (8, .pointer (some ⟨b223, 0, none⟩)), (9, .slice (some ⟨g243, 0, none⟩) 3 (ng243 / 1)), (10, .slice (some ⟨g240, 0, none⟩) 2 (ng240 / 1)), (20, .slice (some ⟨N235, 1, none⟩) 3 3), (21, .int .i64 3), (22, .int .i64 1), (35, .slice (some ⟨g245, 0, none⟩) 3 (ng245 / 1))] (by kernel_rfl) (by kernel_rfl) (hg_7ff g245 ng245 g244 g243 ng243 g242)
      have hg_1ff : ∀ (g244 : Nat) (g243 : Nat) (ng243 : Nat) (g242 : Nat), G [true, true, true, true, true, true, true, true, true, false, false, false] [(2, .int .i64 i2), (3, .int .i64 n3), (8, .pointer (some ⟨b223, 0, none⟩)), (9, .slice (some ⟨g238, 0, none⟩) 2 (ng238 / 1)), (10, .slice (some ⟨g240, 0, none⟩) 2 (ng240 / 1)), (20, .slice (some ⟨N235, 1, none⟩) 3 3), (21, .int .i64 3), (22, .int .i64 1), (30, .slice (some ⟨g243, 0, none⟩) 3 (ng243 / 1)), (31, .slice (some ⟨g240, 0, none⟩) 2 (ng240 / 1)), (34, .slice (some ⟨g244, 0, none⟩) 1 1)] ([⟨g244, [.int .i64 t231], 1⟩, ⟨g243, [.int .i64 a0_0, .int .i64 t228, .int .i64 t230], ng243⟩, ⟨g242, [.int .i64 t230], 1⟩, ⟨b241, [.int .i64 t230, .int .i64 t231], 2⟩, ⟨g240, [.int .i64 a0_1, .int .i64 t229], ng240⟩, ⟨g239, [.int .i64 t229], 1⟩, ⟨g237, [.int .i64 t228], 1⟩, ⟨b236, [.int .i64 t228, .int .i64 t229], 2⟩, ⟨N235, [.int .i64 t227, .int .i64 t228, .int .i64 t229, .int .i64 t230, .int .i64 t231, .int .i64 t232, .int .i64 t233], 7⟩, ⟨b223, [.int .i64 0, .int .i64 0], 2⟩, ⟨b222, [.int .i64 3, .int .i64 s1_1, .int .i64 s1_2, .int .i64 s1_3, .int .i64 s1_4, .int .i64 s1_5, .int .i64 s1_6], 7⟩, ⟨b221, [.int .i64 a0_0, .int .i64 a0_1], 2⟩] : List Own) := by
        intro g244 g243 ng243 g242
        refine hstep [9] _ _ _ (by kernel_rfl) (List.cons_ne_nil _ _) ⟨?_, trivial⟩
        · show T _ _ _ _ _ _ _ _
          refine t_app1 (cs := [.int .i64 a0_1, .int .i64 t229]) (M := ng240) (F := ([⟨g244, [.int .i64 t231], 1⟩, ⟨g243, [.int .i64 a0_0, .int .i64 t228, .int .i64 t230], ng243⟩, ⟨g242, [.int .i64 t230], 1⟩, ⟨b241, [.int .i64 t230, .int .i64 t231], 2⟩, ⟨g239, [.int .i64 t229], 1⟩, ⟨g237, [.int .i64 t228], 1⟩, ⟨b236, [.int .i64 t228, .int .i64 t229], 2⟩, ⟨N235, [.int .i64 t227, .int .i64 t228, .int .i64 t229, .int .i64 t230, .int .i64 t231, .int .i64 t232, .int .i64 t233], 7⟩, ⟨b223, [.int .i64 0, .int .i64 0], 2⟩, ⟨b222, [.int .i64 3, .int .i64 s1_1, .int .i64 s1_2, .int .i64 s1_3, .int .i64 s1_4, .int .i64 s1_5, .int .i64 s1_6], 7⟩, ⟨b221, [.int .i64 a0_0, .int .i64 a0_1], 2⟩] : List Own)) (news := [.int .i64 t231]) rfl rfl rfl rfl (sel_perm (is := [4]) (by kernel_rfl)) (.at 0 rfl rfl) (by kernel_rfl) rfl rfl (by decide) (by decide) rfl fun g245 ng245 => ?_
          refine t_keep [2, 3, 8, 9, 10, 20, 21, 22, 30, 35] (σ' := [(2, .int .i64 i2), (3, .int .i64 n3), (8, .pointer (some ⟨b223, 0, none⟩)), (9, .slice (some ⟨g238, 0, none⟩) 2 (ng238 / 1)), (10, .slice (some ⟨g240, 0, none⟩) 2 (ng240 / 1)), (20, .slice (some ⟨N235, 1, none⟩) 3 3), (21, .int .i64 3), (22, .int .i64 1), (30, .slice (some ⟨g243, 0, none⟩) 3 (ng243 / 1)), (35, .slice (some ⟨g245, 0, none⟩) 3 (ng245 / 1))]) (by kernel_rfl) ?_
          refine t_end ?_
          exact ⟨hg_3ff g245 ng245 g244 g243 ng243 g242, rfl⟩
      have hg_ff : ∀ (g243 : Nat) (ng243 : Nat) (g242 : Nat), G [true, true, true, true, true, true, true, true, false, false, false, false] [(2, .int .i64 i2), (3, .int .i64 n3), (8, .pointer (some ⟨b223, 0, none⟩)), (9, .slice (some ⟨g238, 0, none⟩) 2 (ng238 / 1)), (10, .slice (some ⟨g240, 0, none⟩) 2 (ng240 / 1)), (20, .slice (some ⟨N235, 1, none⟩) 3 3), (21, .int .i64 3), (22, .int .i64 1), (30, .slice (some ⟨g243, 0, none⟩) 3 (ng243 / 1)), (31, .slice (some ⟨g240, 0, none⟩) 2 (ng240 / 1)), (33, .int .i64 t231)] ([⟨g243, [.int .i64 a0_0, .int .i64 t228, .int .i64 t230], ng243⟩, ⟨g242, [.int .i64 t230], 1⟩, ⟨b241, [.int .i64 t230, .int .i64 t231], 2⟩, ⟨g240, [.int .i64 a0_1, .int .i64 t229], ng240⟩, ⟨g239, [.int .i64 t229], 1⟩, ⟨g237, [.int .i64 t228], 1⟩, ⟨b236, [.int .i64 t228, .int .i64 t229], 2⟩, ⟨N235, [.int .i64 t227, .int .i64 t228, .int .i64 t229, .int .i64 t230, .int .i64 t231, .int .i64 t232, .int .i64 t233], 7⟩, ⟨b223, [.int .i64 0, .int .i64 0], 2⟩, ⟨b222, [.int .i64 3, .int .i64 s1_1, .int .i64 s1_2, .int .i64 s1_3, .int .i64 s1_4, .int .i64 s1_5, .int .i64 s1_6], 7⟩, ⟨b221, [.int .i64 a0_0, .int .i64 a0_1], 2⟩] : List Own) := by
        intro g243 ng243 g242
        refine hstep [8] _ _ _ (by kernel_rfl) (List.cons_ne_nil _ _) ⟨?_, trivial⟩
        · show T _ _ _ _ _ _ _ _
          refine t_a (.bsl rfl rfl rfl rfl) fun g244 fg244 sg244 => ?_
          refine t_keep [2, 3, 8, 9, 10, 20, 21, 22, 30, 31, 34] (σ' := [(2, .int .i64 i2), (3, .int .i64 n3), (8, .pointer (some ⟨b223, 0, none⟩)), (9, .slice (some ⟨g238, 0, none⟩) 2 (ng238 / 1)), (10, .slice (some ⟨g240, 0, none⟩) 2 (ng240 / 1)), (20, .slice (some ⟨N235, 1, none⟩) 3 3), (21, .int .i64 3), (22, .int .i64 1), (30, .slice (some ⟨g243, 0, none⟩) 3 (ng243 / 1)), (31, .slice (some ⟨g240, 0, none⟩) 2 (ng240 / 1)), (34, .slice (some ⟨g244, 0, none⟩) 1 1)]) (by kernel_rfl) ?_
          refine t_end ?_
          exact ⟨hg_1ff g244 g243 ng243 g242, rfl⟩
      have hg_1ef : ∀ (g244 : Nat) (g242 : Nat), G [true, true, true, true, false, true, true, true, true, false, false, false] [(2, .int .i64 i2), (3, .int .i64 n3), (8, .pointer (some ⟨b223, 0, none⟩)), (9, .slice (some ⟨g238, 0, none⟩) 2 (ng238 / 1)), (10, .slice (some ⟨g240, 0, none⟩) 2 (ng240 / 1)), (20, .slice (some ⟨N235, 1, none⟩) 3 3), (21, .int .i64 3), (22, .int .i64 1), (26, .slice (some ⟨g238, 0, none⟩) 2 (ng238 / 1)), (29, .slice (some ⟨g242, 0, none⟩) 1 1), (31, .slice (some ⟨g240, 0, none⟩) 2 (ng240 / 1)), (34, .slice (some ⟨g244, 0, none⟩) 1 1)] ([⟨g244, [.int .i64 t231], 1⟩, ⟨g242, [.int .i64 t230], 1⟩, ⟨b241, [.int .i64 t230, .int .i64 t231], 2⟩, ⟨g240, [.int .i64 a0_1, .int .i64 t229], ng240⟩, ⟨g239, [.int .i64 t229], 1⟩, ⟨g238, [.int .i64 a0_0, .int .i64 t228], ng238⟩, ⟨g237, [.int .i64 t228], 1⟩, ⟨b236, [.int .i64 t228, .int .i64 t229], 2⟩, ⟨N235, [.int .i64 t227, .int .i64 t228, .int .i64 t229, .int .i64 t230, .int .i64 t231, .int .i64 t232, .int .i64 t233], 7⟩, ⟨b223, [.int .i64 0, .int .i64 0], 2⟩, ⟨b222, [.int .i64 3, .int .i64 s1_1, .int .i64 s1_2, .int .i64 s1_3, .int .i64 s1_4, .int .i64 s1_5, .int .i64 s1_6], 7⟩, ⟨b221, [.int .i64 a0_0, .int .i64 a0_1], 2⟩] : List Own) := by
        intro g244 g242
        refine hstep [4] _ _ _ (by kernel_rfl) (List.cons_ne_nil _ _) ⟨?_, trivial⟩
        · show T _ _ _ _ _ _ _ _
          refine t_app1 (cs := [.int .i64 a0_0, .int .i64 t228]) (M := ng238) (F := ([⟨g244, [.int .i64 t231], 1⟩, ⟨g242, [.int .i64 t230], 1⟩, ⟨b241, [.int .i64 t230, .int .i64 t231], 2⟩, ⟨g240, [.int .i64 a0_1, .int .i64 t229], ng240⟩, ⟨g239, [.int .i64 t229], 1⟩, ⟨g237, [.int .i64 t228], 1⟩, ⟨b236, [.int .i64 t228, .int .i64 t229], 2⟩, ⟨N235, [.int .i64 t227, .int .i64 t228, .int .i64 t229, .int .i64 t230, .int .i64 t231, .int .i64 t232, .int .i64 t233], 7⟩, ⟨b223, [.int .i64 0, .int .i64 0], 2⟩, ⟨b222, [.int .i64 3, .int .i64 s1_1, .int .i64 s1_2, .int .i64 s1_3, .int .i64 s1_4, .int .i64 s1_5, .int .i64 s1_6], 7⟩, ⟨b221, [.int .i64 a0_0, .int .i64 a0_1], 2⟩] : List Own)) (news := [.int .i64 t230]) rfl rfl rfl rfl (sel_perm (is := [5]) (by kernel_rfl)) (.at 1 rfl rfl) (by kernel_rfl) rfl rfl (by decide) (by decide) rfl fun g243 ng243 => ?_
          refine t_keep [2, 3, 8, 9, 10, 20, 21, 22, 30, 31, 34] (σ' := [(2, .int .i64 i2), (3, .int .i64 n3), (8, .pointer (some ⟨b223, 0, none⟩)), (9, .slice (some ⟨g238, 0, none⟩) 2 (ng238 / 1)), (10, .slice (some ⟨g240, 0, none⟩) 2 (ng240 / 1)), (20, .slice (some ⟨N235, 1, none⟩) 3 3), (21, .int .i64 3), (22, .int .i64 1), (30, .slice (some ⟨g243, 0, none⟩) 3 (ng243 / 1)), (31, .slice (some ⟨g240, 0, none⟩) 2 (ng240 / 1)), (34, .slice (some ⟨g244, 0, none⟩) 1 1)]) (by kernel_rfl) ?_
          refine t_vs (H' := ([⟨g244, [.int .i64 t231], 1⟩, ⟨g243, [.int .i64 a0_0, .int .i64 t228, .int .i64 t230], ng243⟩, ⟨g242, [.int .i64 t230], 1⟩, ⟨b241, [.int .i64 t230, .int .i64 t231], 2⟩, ⟨g240, [.int .i64 a0_1, .int .i64 t229], ng240⟩, ⟨g239, [.int .i64 t229], 1⟩, ⟨g237, [.int .i64 t228], 1⟩, ⟨b236, [.int .i64 t228, .int .i64 t229], 2⟩, ⟨N235, [.int .i64 t227, .int .i64 t228, .int .i64 t229, .int .i64 t230, .int .i64 t231, .int .i64 t232, .int .i64 t233], 7⟩, ⟨b223, [.int .i64 0, .int .i64 0], 2⟩, ⟨b222, [.int .i64 3, .int .i64 s1_1, .int .i64 s1_2, .int .i64 s1_3, .int .i64 s1_4, .int .i64 s1_5, .int .i64 s1_6], 7⟩, ⟨b221, [.int .i64 a0_0, .int .i64 a0_1], 2⟩] : List Own)) (S' := S) (VS.sel [1, 0, 0, 0, 0, 0, 0, 0, 0, 0, 0, 0] (by kernel_rfl)) ?_
          refine t_end ?_
          exact ⟨hg_1ff g244 g243 ng243 g242, rfl⟩
      have hg_1e7 : ∀ (g244 : Nat), G [true, true, true, false, false, true, true, true, true, false, false, false] [(2, .int .i64 i2), (3, .int .i64 n3), (8, .pointer (some ⟨b223, 0, none⟩)), (9, .slice (some ⟨g238, 0, none⟩) 2 (ng238 / 1)), (10, .slice (some ⟨g240, 0, none⟩) 2 (ng240 / 1)), (20, .slice (some ⟨N235, 1, none⟩) 3 3), (21, .int .i64 3), (22, .int .i64 1), (26, .slice (some ⟨g238, 0, none⟩) 2 (ng238 / 1)), (28, .int .i64 t230), (31, .slice (some ⟨g240, 0, none⟩) 2 (ng240 / 1)), (34, .slice (some ⟨g244, 0, none⟩) 1 1)] ([⟨g244, [.int .i64 t231], 1⟩, ⟨b241, [.int .i64 t230, .int .i64 t231], 2⟩, ⟨g240, [.int .i64 a0_1, .int .i64 t229], ng240⟩, ⟨g239, [.int .i64 t229], 1⟩, ⟨g238, [.int .i64 a0_0, .int .i64 t228], ng238⟩, ⟨g237, [.int .i64 t228], 1⟩, ⟨b236, [.int .i64 t228, .int .i64 t229], 2⟩, ⟨N235, [.int .i64 t227, .int .i64 t228, .int .i64 t229, .int .i64 t230, .int .i64 t231, .int .i64 t232, .int .i64 t233], 7⟩, ⟨b223, [.int .i64 0, .int .i64 0], 2⟩, ⟨b222, [.int .i64 3, .int .i64 s1_1, .int .i64 s1_2, .int .i64 s1_3, .int .i64 s1_4, .int .i64 s1_5, .int .i64 s1_6], 7⟩, ⟨b221, [.int .i64 a0_0, .int .i64 a0_1], 2⟩] : List Own) := by
        intro g244
        refine hstep [3] _ _ _ (by kernel_rfl) (List.cons_ne_nil _ _) ⟨?_, trivial⟩
        · show T _ _ _ _ _ _ _ _
          refine t_a (.bsl rfl rfl rfl rfl) fun g242 fg242 sg242 => ?_
          refine t_keep [2, 3, 8, 9, 10, 20, 21, 22, 26, 29, 31, 34] (σ' := [(2, .int .i64 i2), (3, .int .i64 n3), (8, .pointer (some ⟨b223, 0, none⟩)), (9, .slice (some ⟨g238, 0, none⟩) 2 (ng238 / 1)), (10, .slice (some ⟨g240, 0, none⟩) 2 (ng240 / 1)), (20, .slice (some ⟨N235, 1, none⟩) 3 3), (21, .int .i64 3), (22, .int .i64 1), (26, .slice (some ⟨g238, 0, none⟩) 2 (ng238 / 1)), (29, .slice (some ⟨g242, 0, none⟩) 1 1), (31, .slice (some ⟨g240, 0, none⟩) 2 (ng240 / 1)), (34, .slice (some ⟨g244, 0, none⟩) 1 1)]) (by kernel_rfl) ?_
          refine t_vs (H' := ([⟨g244, [.int .i64 t231], 1⟩, ⟨g242, [.int .i64 t230], 1⟩, ⟨b241, [.int .i64 t230, .int .i64 t231], 2⟩, ⟨g240, [.int .i64 a0_1, .int .i64 t229], ng240⟩, ⟨g239, [.int .i64 t229], 1⟩, ⟨g238, [.int .i64 a0_0, .int .i64 t228], ng238⟩, ⟨g237, [.int .i64 t228], 1⟩, ⟨b236, [.int .i64 t228, .int .i64 t229], 2⟩, ⟨N235, [.int .i64 t227, .int .i64 t228, .int .i64 t229, .int .i64 t230, .int .i64 t231, .int .i64 t232, .int .i64 t233], 7⟩, ⟨b223, [.int .i64 0, .int .i64 0], 2⟩, ⟨b222, [.int .i64 3, .int .i64 s1_1, .int .i64 s1_2, .int .i64 s1_3, .int .i64 s1_4, .int .i64 s1_5, .int .i64 s1_6], 7⟩, ⟨b221, [.int .i64 a0_0, .int .i64 a0_1], 2⟩] : List Own)) (S' := S) (VS.sel [1, 0, 0, 0, 0, 0, 0, 0, 0, 0, 0, 0] (by kernel_rfl)) ?_
          refine t_end ?_
          exact ⟨hg_1ef g244 g242, rfl⟩
      have hg_ef : ∀ (g242 : Nat), G [true, true, true, true, false, true, true, true, false, false, false, false] [(2, .int .i64 i2), (3, .int .i64 n3), (8, .pointer (some ⟨b223, 0, none⟩)), (9, .slice (some ⟨g238, 0, none⟩) 2 (ng238 / 1)), (10, .slice (some ⟨g240, 0, none⟩) 2 (ng240 / 1)), (20, .slice (some ⟨N235, 1, none⟩) 3 3), (21, .int .i64 3), (22, .int .i64 1), (26, .slice (some ⟨g238, 0, none⟩) 2 (ng238 / 1)), (29, .slice (some ⟨g242, 0, none⟩) 1 1), (31, .slice (some ⟨g240, 0, none⟩) 2 (ng240 / 1)), (33, .int .i64 t231)] ([⟨g242, [.int .i64 t230], 1⟩, ⟨b241, [.int .i64 t230, .int .i64 t231], 2⟩, ⟨g240, [.int .i64 a0_1, .int .i64 t229], ng240⟩, ⟨g239, [.int .i64 t229], 1⟩, ⟨g238, [.int .i64 a0_0, .int .i64 t228], ng238⟩, ⟨g237, [.int .i64 t228], 1⟩, ⟨b236, [.int .i64 t228, .int .i64 t229], 2⟩, ⟨N235, [.int .i64 t227, .int .i64 t228, .int .i64 t229, .int .i64 t230, .int .i64 t231, .int .i64 t232, .int .i64 t233], 7⟩, ⟨b223, [.int .i64 0, .int .i64 0], 2⟩, ⟨b222, [.int .i64 3, .int .i64 s1_1, .int .i64 s1_2, .int .i64 s1_3, .int .i64 s1_4, .int .i64 s1_5, .int .i64 s1_6], 7⟩, ⟨b221, [.int .i64 a0_0, .int .i64 a0_1], 2⟩] : List Own) := by
        intro g242
        refine hstep [4, 8] _ _ _ (by kernel_rfl) (List.cons_ne_nil _ _) ⟨?_, ?_, trivial⟩
        · show T _ _ _ _ _ _ _ _
          refine t_app1 (cs := [.int .i64 a0_0, .int .i64 t228]) (M := ng238) (F := ([⟨g242, [.int .i64 t230], 1⟩, ⟨b241, [.int .i64 t230, .int .i64 t231], 2⟩, ⟨g240, [.int .i64 a0_1, .int .i64 t229], ng240⟩, ⟨g239, [.int .i64 t229], 1⟩, ⟨g237, [.int .i64 t228], 1⟩, ⟨b236, [.int .i64 t228, .int .i64 t229], 2⟩, ⟨N235, [.int .i64 t227, .int .i64 t228, .int .i64 t229, .int .i64 t230, .int .i64 t231, .int .i64 t232, .int .i64 t233], 7⟩, ⟨b223, [.int .i64 0, .int .i64 0], 2⟩, ⟨b222, [.int .i64 3, .int .i64 s1_1, .int .i64 s1_2, .int .i64 s1_3, .int .i64 s1_4, .int .i64 s1_5, .int .i64 s1_6], 7⟩, ⟨b221, [.int .i64 a0_0, .int .i64 a0_1], 2⟩] : List Own)) (news := [.int .i64 t230]) rfl rfl rfl rfl (sel_perm (is := [4]) (by kernel_rfl)) (.at 0 rfl rfl) (by kernel_rfl) rfl rfl (by decide) (by decide) rfl fun g243 ng243 => ?_
          refine t_keep [2, 3, 8, 9, 10, 20, 21, 22, 30, 31, 33] (σ' := [(2, .int .i64 i2), (3, .int .i64 n3), (8, .pointer (some ⟨b223, 0, none⟩)), (9, .slice (some ⟨g238, 0, none⟩) 2 (ng238 / 1)), (10, .slice (some ⟨g240, 0, none⟩) 2 (ng240 / 1)), (20, .slice (some ⟨N235, 1, none⟩) 3 3), (21, .int .i64 3), (22, .int .i64 1), (30, .slice (some ⟨g243, 0, none⟩) 3 (ng243 / 1)), (31, .slice (some ⟨g240, 0, none⟩) 2 (ng240 / 1)), (33, .int .i64 t231)]) (by kernel_rfl) ?_
          refine t_end ?_
          exact ⟨hg_ff g243 ng243 g242, rfl⟩
        · show T _ _ _ _ _ _ _ _
          refine t_a (.bsl rfl rfl rfl rfl) fun g244 fg244 sg244 => ?_
          refine t_keep [2, 3, 8, 9, 10, 20, 21, 22, 26, 29, 31, 34] (σ' := [(2, .int .i64 i2), (3, .int .i64 n3), (8, .pointer (some ⟨b223, 0, none⟩)), (9, .slice (some ⟨g238, 0, none⟩) 2 (ng238 / 1)), (10, .slice (some ⟨g240, 0, none⟩) 2 (ng240 / 1)), (20, .slice (some ⟨N235, 1, none⟩) 3 3), (21, .int .i64 3), (22, .int .i64 1), (26, .slice (some ⟨g238, 0, none⟩) 2 (ng238 / 1)), (29, .slice (some ⟨g242, 0, none⟩) 1 1), (31, .slice (some ⟨g240, 0, none⟩) 2 (ng240 / 1)), (34, .slice (some ⟨g244, 0, none⟩) 1 1)]) (by kernel_rfl) ?_
          refine t_end ?_
          exact ⟨hg_1ef g244 g242, rfl⟩
      have hg_7f : ∀ (g243 : Nat) (ng243 : Nat) (g242 : Nat), G [true, true, true, true, true, true, true, false, false, false, false, false] [(2, .int .i64 i2), (3, .int .i64 n3), (8, .pointer (some ⟨b223, 0, none⟩)), (9, .slice (some ⟨g238, 0, none⟩) 2 (ng238 / 1)), (10, .slice (some ⟨g240, 0, none⟩) 2 (ng240 / 1)), (20, .slice (some ⟨N235, 1, none⟩) 3 3), (21, .int .i64 3), (22, .int .i64 1), (30, .slice (some ⟨g243, 0, none⟩) 3 (ng243 / 1)), (31, .slice (some ⟨g240, 0, none⟩) 2 (ng240 / 1)), (32, .pointer (some ⟨b241, 1, none⟩))] ([⟨g243, [.int .i64 a0_0, .int .i64 t228, .int .i64 t230], ng243⟩, ⟨g242, [.int .i64 t230], 1⟩, ⟨b241, [.int .i64 t230, .int .i64 t231], 2⟩, ⟨g240, [.int .i64 a0_1, .int .i64 t229], ng240⟩, ⟨g239, [.int .i64 t229], 1⟩, ⟨g237, [.int .i64 t228], 1⟩, ⟨b236, [.int .i64 t228, .int .i64 t229], 2⟩, ⟨N235, [.int .i64 t227, .int .i64 t228, .int .i64 t229, .int .i64 t230, .int .i64 t231, .int .i64 t232, .int .i64 t233], 7⟩, ⟨b223, [.int .i64 0, .int .i64 0], 2⟩, ⟨b222, [.int .i64 3, .int .i64 s1_1, .int .i64 s1_2, .int .i64 s1_3, .int .i64 s1_4, .int .i64 s1_5, .int .i64 s1_6], 7⟩, ⟨b221, [.int .i64 a0_0, .int .i64 a0_1], 2⟩] : List Own) := by
        intro g243 ng243 g242
        refine hstep [7] _ _ _ (by kernel_rfl) (List.cons_ne_nil _ _) ⟨?_, trivial⟩
        · show T _ _ _ _ _ _ _ _
          refine t_v (.ld1 rfl rfl rfl (.at 2 rfl rfl)) ?_
          refine t_keep [2, 3, 8, 9, 10, 20, 21, 22, 30, 31, 33] (σ' := [(2, .int .i64 i2), (3, .int .i64 n3), (8, .pointer (some ⟨b223, 0, none⟩)), (9, .slice (some ⟨g238, 0, none⟩) 2 (ng238 / 1)), (10, .slice (some ⟨g240, 0, none⟩) 2 (ng240 / 1)), (20, .slice (some ⟨N235, 1, none⟩) 3 3), (21, .int .i64 3), (22, .int .i64 1), (30, .slice (some ⟨g243, 0, none⟩) 3 (ng243 / 1)), (31, .slice (some ⟨g240, 0, none⟩) 2 (ng240 / 1)), (33, .int .i64 t231)]) (by kernel_rfl) ?_
          refine t_end ?_
          exact ⟨hg_ff g243 ng243 g242, rfl⟩
      have hg_1e3 : ∀ (g244 : Nat), G [true, true, false, false, false, true, true, true, true, false, false, false] [(2, .int .i64 i2), (3, .int .i64 n3), (8, .pointer (some ⟨b223, 0, none⟩)), (9, .slice (some ⟨g238, 0, none⟩) 2 (ng238 / 1)), (10, .slice (some ⟨g240, 0, none⟩) 2 (ng240 / 1)), (20, .slice (some ⟨N235, 1, none⟩) 3 3), (21, .int .i64 3), (22, .int .i64 1), (26, .slice (some ⟨g238, 0, none⟩) 2 (ng238 / 1)), (27, .pointer (some ⟨b241, 0, none⟩)), (31, .slice (some ⟨g240, 0, none⟩) 2 (ng240 / 1)), (34, .slice (some ⟨g244, 0, none⟩) 1 1)] ([⟨g244, [.int .i64 t231], 1⟩, ⟨b241, [.int .i64 t230, .int .i64 t231], 2⟩, ⟨g240, [.int .i64 a0_1, .int .i64 t229], ng240⟩, ⟨g239, [.int .i64 t229], 1⟩, ⟨g238, [.int .i64 a0_0, .int .i64 t228], ng238⟩, ⟨g237, [.int .i64 t228], 1⟩, ⟨b236, [.int .i64 t228, .int .i64 t229], 2⟩, ⟨N235, [.int .i64 t227, .int .i64 t228, .int .i64 t229, .int .i64 t230, .int .i64 t231, .int .i64 t232, .int .i64 t233], 7⟩, ⟨b223, [.int .i64 0, .int .i64 0], 2⟩, ⟨b222, [.int .i64 3, .int .i64 s1_1, .int .i64 s1_2, .int .i64 s1_3, .int .i64 s1_4, .int .i64 s1_5, .int .i64 s1_6], 7⟩, ⟨b221, [.int .i64 a0_0, .int .i64 a0_1], 2⟩] : List Own) := by
        intro g244
        refine hstep [2] _ _ _ (by kernel_rfl) (List.cons_ne_nil _ _) ⟨?_, trivial⟩
        · show T _ _ _ _ _ _ _ _
          refine t_v (.ld1 rfl rfl rfl (.at 1 rfl rfl)) ?_
          refine t_keep [2, 3, 8, 9, 10, 20, 21, 22, 26, 28, 31, 34] (σ' := [(2, .int .i64 i2), (3, .int .i64 n3), (8, .pointer (some ⟨b223, 0, none⟩)), (9, .slice (some ⟨g238, 0, none⟩) 2 (ng238 / 1)), (10, .slice (some ⟨g240, 0, none⟩) 2 (ng240 / 1)), (20, .slice (some ⟨N235, 1, none⟩) 3 3), (21, .int .i64 3), (22, .int .i64 1), (26, .slice (some ⟨g238, 0, none⟩) 2 (ng238 / 1)), (28, .int .i64 t230), (31, .slice (some ⟨g240, 0, none⟩) 2 (ng240 / 1)), (34, .slice (some ⟨g244, 0, none⟩) 1 1)]) (by kernel_rfl) ?_
          refine t_end ?_
          exact ⟨hg_1e7 g244, rfl⟩
      have hg_e7 : G [true, true, true, false, false, true, true, true, false, false, false, false] [(2, .int .i64 i2), (3, .int .i64 n3), (8, .pointer (some ⟨b223, 0, none⟩)), (9, .slice (some ⟨g238, 0, none⟩) 2 (ng238 / 1)), (10, .slice (some ⟨g240, 0, none⟩) 2 (ng240 / 1)), (20, .slice (some ⟨N235, 1, none⟩) 3 3), (21, .int .i64 3), (22, .int .i64 1), (26, .slice (some ⟨g238, 0, none⟩) 2 (ng238 / 1)), (28, .int .i64 t230), (31, .slice (some ⟨g240, 0, none⟩) 2 (ng240 / 1)), (33, .int .i64 t231)] ([⟨b241, [.int .i64 t230, .int .i64 t231], 2⟩, ⟨g240, [.int .i64 a0_1, .int .i64 t229], ng240⟩, ⟨g239, [.int .i64 t229], 1⟩, ⟨g238, [.int .i64 a0_0, .int .i64 t228], ng238⟩, ⟨g237, [.int .i64 t228], 1⟩, ⟨b236, [.int .i64 t228, .int .i64 t229], 2⟩, ⟨N235, [.int .i64 t227, .int .i64 t228, .int .i64 t229, .int .i64 t230, .int .i64 t231, .int .i64 t232, .int .i64 t233], 7⟩, ⟨b223, [.int .i64 0, .int .i64 0], 2⟩, ⟨b222, [.int .i64 3, .int .i64 s1_1, .int .i64 s1_2, .int .i64 s1_3, .int .i64 s1_4, .int .i64 s1_5, .int .i64 s1_6], 7⟩, ⟨b221, [.int .i64 a0_0, .int .i64 a0_1], 2⟩] : List Own) := by
        refine hstep [3, 8] _ _ _ (by kernel_rfl) (List.cons_ne_nil _ _) ⟨?_, ?_, trivial⟩
        · show T _ _ _ _ _ _ _ _
          refine t_a (.bsl rfl rfl rfl rfl) fun g242 fg242 sg242 => ?_
          refine t_keep [2, 3, 8, 9, 10, 20, 21, 22, 26, 29, 31, 33] (σ' := [(2, .int .i64 i2), (3, .int .i64 n3), (8, .pointer (some ⟨b223, 0, none⟩)), (9, .slice (some ⟨g238, 0, none⟩) 2 (ng238 / 1)), (10, .slice (some ⟨g240, 0, none⟩) 2 (ng240 / 1)), (20, .slice (some ⟨N235, 1, none⟩) 3 3), (21, .int .i64 3), (22, .int .i64 1), (26, .slice (some ⟨g238, 0, none⟩) 2 (ng238 / 1)), (29, .slice (some ⟨g242, 0, none⟩) 1 1), (31, .slice (some ⟨g240, 0, none⟩) 2 (ng240 / 1)), (33, .int .i64 t231)]) (by kernel_rfl) ?_
          refine t_end ?_
          exact ⟨hg_ef g242, rfl⟩
        · show T _ _ _ _ _ _ _ _
          refine t_a (.bsl rfl rfl rfl rfl) fun g244 fg244 sg244 => ?_
          refine t_keep [2, 3, 8, 9, 10, 20, 21, 22, 26, 28, 31, 34] (σ' := [(2, .int .i64 i2), (3, .int .i64 n3), (8, .pointer (some ⟨b223, 0, none⟩)), (9, .slice (some ⟨g238, 0, none⟩) 2 (ng238 / 1)), (10, .slice (some ⟨g240, 0, none⟩) 2 (ng240 / 1)), (20, .slice (some ⟨N235, 1, none⟩) 3 3), (21, .int .i64 3), (22, .int .i64 1), (26, .slice (some ⟨g238, 0, none⟩) 2 (ng238 / 1)), (28, .int .i64 t230), (31, .slice (some ⟨g240, 0, none⟩) 2 (ng240 / 1)), (34, .slice (some ⟨g244, 0, none⟩) 1 1)]) (by kernel_rfl) ?_
          refine t_end ?_
          exact ⟨hg_1e7 g244, rfl⟩
      have hg_6f : ∀ (g242 : Nat), G [true, true, true, true, false, true, true, false, false, false, false, false] [(2, .int .i64 i2), (3, .int .i64 n3), (8, .pointer (some ⟨b223, 0, none⟩)), (9, .slice (some ⟨g238, 0, none⟩) 2 (ng238 / 1)), (10, .slice (some ⟨g240, 0, none⟩) 2 (ng240 / 1)), (20, .slice (some ⟨N235, 1, none⟩) 3 3), (21, .int .i64 3), (22, .int .i64 1), (26, .slice (some ⟨g238, 0, none⟩) 2 (ng238 / 1)), (29, .slice (some ⟨g242, 0, none⟩) 1 1), (31, .slice (some ⟨g240, 0, none⟩) 2 (ng240 / 1)), (32, .pointer (some ⟨b241, 1, none⟩))] ([⟨g242, [.int .i64 t230], 1⟩, ⟨b241, [.int .i64 t230, .int .i64 t231], 2⟩, ⟨g240, [.int .i64 a0_1, .int .i64 t229], ng240⟩, ⟨g239, [.int .i64 t229], 1⟩, ⟨g238, [.int .i64 a0_0, .int .i64 t228], ng238⟩, ⟨g237, [.int .i64 t228], 1⟩, ⟨b236, [.int .i64 t228, .int .i64 t229], 2⟩, ⟨N235, [.int .i64 t227, .int .i64 t228, .int .i64 t229, .int .i64 t230, .int .i64 t231, .int .i64 t232, .int .i64 t233], 7⟩, ⟨b223, [.int .i64 0, .int .i64 0], 2⟩, ⟨b222, [.int .i64 3, .int .i64 s1_1, .int .i64 s1_2, .int .i64 s1_3, .int .i64 s1_4, .int .i64 s1_5, .int .i64 s1_6], 7⟩, ⟨b221, [.int .i64 a0_0, .int .i64 a0_1], 2⟩] : List Own) := by
        intro g242
        refine hstep [4, 7] _ _ _ (by kernel_rfl) (List.cons_ne_nil _ _) ⟨?_, ?_, trivial⟩
        · show T _ _ _ _ _ _ _ _
          refine t_app1 (cs := [.int .i64 a0_0, .int .i64 t228]) (M := ng238) (F := ([⟨g242, [.int .i64 t230], 1⟩, ⟨b241, [.int .i64 t230, .int .i64 t231], 2⟩, ⟨g240, [.int .i64 a0_1, .int .i64 t229], ng240⟩, ⟨g239, [.int .i64 t229], 1⟩, ⟨g237, [.int .i64 t228], 1⟩, ⟨b236, [.int .i64 t228, .int .i64 t229], 2⟩, ⟨N235, [.int .i64 t227, .int .i64 t228, .int .i64 t229, .int .i64 t230, .int .i64 t231, .int .i64 t232, .int .i64 t233], 7⟩, ⟨b223, [.int .i64 0, .int .i64 0], 2⟩, ⟨b222, [.int .i64 3, .int .i64 s1_1, .int .i64 s1_2, .int .i64 s1_3, .int .i64 s1_4, .int .i64 s1_5, .int .i64 s1_6], 7⟩, ⟨b221, [.int .i64 a0_0, .int .i64 a0_1], 2⟩] : List Own)) (news := [.int .i64 t230]) rfl rfl rfl rfl (sel_perm (is := [4]) (by kernel_rfl)) (.at 0 rfl rfl) (by kernel_rfl) rfl rfl (by decide) (by decide) rfl fun g243 ng243 => ?_
          refine t_keep [2, 3, 8, 9, 10, 20, 21, 22, 30, 31, 32] (σ' := [(2, .int .i64 i2), (3, .int .i64 n3), (8, .pointer (some ⟨b223, 0, none⟩)), (9, .slice (some ⟨g238, 0, none⟩) 2 (ng238 / 1)), (10, .slice (some ⟨g240, 0, none⟩) 2 (ng240 / 1)), (20, .slice (some ⟨N235, 1, none⟩) 3 3), (21, .int .i64 3), (22, .int .i64 1), (30, .slice (some ⟨g243, 0, none⟩) 3 (ng243 / 1)), (31, .slice (some ⟨g240, 0, none⟩) 2 (ng240 / 1)), (32, .pointer (some ⟨b241, 1, none⟩))]) (by kernel_rfl) ?_
          refine t_end ?_
          exact ⟨hg_7f g243 ng243 g242, rfl⟩
        · show T _ _ _ _ _ _ _ _
          refine t_v (.ld1 rfl rfl rfl (.at 1 rfl rfl)) ?_
          refine t_keep [2, 3, 8, 9, 10, 20, 21, 22, 26, 29, 31, 33] (σ' := [(2, .int .i64 i2), (3, .int .i64 n3), (8, .pointer (some ⟨b223, 0, none⟩)), (9, .slice (some ⟨g238, 0, none⟩) 2 (ng238 / 1)), (10, .slice (some ⟨g240, 0, none⟩) 2 (ng240 / 1)), (20, .slice (some ⟨N235, 1, none⟩) 3 3), (21, .int .i64 3), (22, .int .i64 1), (26, .slice (some ⟨g238, 0, none⟩) 2 (ng238 / 1)), (29, .slice (some ⟨g242, 0, none⟩) 1 1), (31, .slice (some ⟨g240, 0, none⟩) 2 (ng240 / 1)), (33, .int .i64 t231)]) (by kernel_rfl) ?_
          refine t_end ?_
          exact ⟨hg_ef g242, rfl⟩
      have hg_e3 : G [true, true, false, false, false, true, true, true, false, false, false, false] [(2, .int .i64 i2), (3, .int .i64 n3), (8, .pointer (some ⟨b223, 0, none⟩)), (9, .slice (some ⟨g238, 0, none⟩) 2 (ng238 / 1)), (10, .slice (some ⟨g240, 0, none⟩) 2 (ng240 / 1)), (20, .slice (some ⟨N235, 1, none⟩) 3 3), (21, .int .i64 3), (22, .int .i64 1), (26, .slice (some ⟨g238, 0, none⟩) 2 (ng238 / 1)), (27, .pointer (some ⟨b241, 0, none⟩)), (31, .slice (some ⟨g240, 0, none⟩) 2 (ng240 / 1)), (33, .int .i64 t231)] ([⟨b241, [.int .i64 t230, .int .i64 t231], 2⟩, ⟨g240, [.int .i64 a0_1, .int .i64 t229], ng240⟩, ⟨g239, [.int .i64 t229], 1⟩, ⟨g238, [.int .i64 a0_0, .int .i64 t228], ng238⟩, ⟨g237, [.int .i64 t228], 1⟩, ⟨b236, [.int .i64 t228, .int .i64 t229], 2⟩, ⟨N235, [.int .i64 t227, .int .i64 t228, .int .i64 t229, .int .i64 t230, .int .i64 t231, .int .i64 t232, .int .i64 t233], 7⟩, ⟨b223, [.int .i64 0, .int .i64 0], 2⟩, ⟨b222, [.int .i64 3, .int .i64 s1_1, .int .i64 s1_2, .int .i64 s1_3, .int .i64 s1_4, .int .i64 s1_5, .int .i64 s1_6], 7⟩, ⟨b221, [.int .i64 a0_0, .int .i64 a0_1], 2⟩] : List Own) := by
        refine hstep [2, 8] _ _ _ (by kernel_rfl) (List.cons_ne_nil _ _) ⟨?_, ?_, trivial⟩
        · show T _ _ _ _ _ _ _ _
          refine t_v (.ld1 rfl rfl rfl (.at 0 rfl rfl)) ?_
          refine t_keep [2, 3, 8, 9, 10, 20, 21, 22, 26, 28, 31, 33] (σ' := [(2, .int .i64 i2), (3, .int .i64 n3), (8, .pointer (some ⟨b223, 0, none⟩)), (9, .slice (some ⟨g238, 0, none⟩) 2 (ng238 / 1)), (10, .slice (some ⟨g240, 0, none⟩) 2 (ng240 / 1)), (20, .slice (some ⟨N235, 1, none⟩) 3 3), (21, .int .i64 3), (22, .int .i64 1), (26, .slice (some ⟨g238, 0, none⟩) 2 (ng238 / 1)), (28, .int .i64 t230), (31, .slice (some ⟨g240, 0, none⟩) 2 (ng240 / 1)), (33, .int .i64 t231)]) (by kernel_rfl) ?_
          refine t_end ?_
          exact ⟨hg_e7, rfl⟩
        · show T _ _ _ _ _ _ _ _
          refine t_a (.bsl rfl rfl rfl rfl) fun g244 fg244 sg244 => ?_
          refine t_keep [2, 3, 8, 9, 10, 20, 21, 22, 26, 27, 31, 34] (σ' := [(2, .int .i64 i2), (3, .int .i64 n3), (8, .pointer (some ⟨b223, 0, none⟩)), (9, .slice (some ⟨g238, 0, none⟩) 2 (ng238 / 1)), (10, .slice (some ⟨g240, 0, none⟩) 2 (ng240 / 1)), (20, .slice (some ⟨N235, 1, none⟩) 3 3), (21, .int .i64 3), (22, .int .i64 1), (26, .slice (some ⟨g238, 0, none⟩) 2 (ng238 / 1)), (27, .pointer (some ⟨b241, 0, none⟩)), (31, .slice (some ⟨g240, 0, none⟩) 2 (ng240 / 1)), (34, .slice (some ⟨g244, 0, none⟩) 1 1)]) (by kernel_rfl) ?_
          refine t_end ?_
          exact ⟨hg_1e3 g244, rfl⟩
      have hg_67 : G [true, true, true, false, false, true, true, false, false, false, false, false] [(2, .int .i64 i2), (3, .int .i64 n3), (8, .pointer (some ⟨b223, 0, none⟩)), (9, .slice (some ⟨g238, 0, none⟩) 2 (ng238 / 1)), (10, .slice (some ⟨g240, 0, none⟩) 2 (ng240 / 1)), (20, .slice (some ⟨N235, 1, none⟩) 3 3), (21, .int .i64 3), (22, .int .i64 1), (26, .slice (some ⟨g238, 0, none⟩) 2 (ng238 / 1)), (28, .int .i64 t230), (31, .slice (some ⟨g240, 0, none⟩) 2 (ng240 / 1)), (32, .pointer (some ⟨b241, 1, none⟩))] ([⟨b241, [.int .i64 t230, .int .i64 t231], 2⟩, ⟨g240, [.int .i64 a0_1, .int .i64 t229], ng240⟩, ⟨g239, [.int .i64 t229], 1⟩, ⟨g238, [.int .i64 a0_0, .int .i64 t228], ng238⟩, ⟨g237, [.int .i64 t228], 1⟩, ⟨b236, [.int .i64 t228, .int .i64 t229], 2⟩, ⟨N235, [.int .i64 t227, .int .i64 t228, .int .i64 t229, .int .i64 t230, .int .i64 t231, .int .i64 t232, .int .i64 t233], 7⟩, ⟨b223, [.int .i64 0, .int .i64 0], 2⟩, ⟨b222, [.int .i64 3, .int .i64 s1_1, .int .i64 s1_2, .int .i64 s1_3, .int .i64 s1_4, .int .i64 s1_5, .int .i64 s1_6], 7⟩, ⟨b221, [.int .i64 a0_0, .int .i64 a0_1], 2⟩] : List Own) := by
        refine hstep [3, 7] _ _ _ (by kernel_rfl) (List.cons_ne_nil _ _) ⟨?_, ?_, trivial⟩
        · show T _ _ _ _ _ _ _ _
          refine t_a (.bsl rfl rfl rfl rfl) fun g242 fg242 sg242 => ?_
          refine t_keep [2, 3, 8, 9, 10, 20, 21, 22, 26, 29, 31, 32] (σ' := [(2, .int .i64 i2), (3, .int .i64 n3), (8, .pointer (some ⟨b223, 0, none⟩)), (9, .slice (some ⟨g238, 0, none⟩) 2 (ng238 / 1)), (10, .slice (some ⟨g240, 0, none⟩) 2 (ng240 / 1)), (20, .slice (some ⟨N235, 1, none⟩) 3 3), (21, .int .i64 3), (22, .int .i64 1), (26, .slice (some ⟨g238, 0, none⟩) 2 (ng238 / 1)), (29, .slice (some ⟨g242, 0, none⟩) 1 1), (31, .slice (some ⟨g240, 0, none⟩) 2 (ng240 / 1)), (32, .pointer (some ⟨b241, 1, none⟩))]) (by kernel_rfl) ?_
          refine t_end ?_
          exact ⟨hg_6f g242, rfl⟩
        · show T _ _ _ _ _ _ _ _
          refine t_v (.ld1 rfl rfl rfl (.at 0 rfl rfl)) ?_
          refine t_keep [2, 3, 8, 9, 10, 20, 21, 22, 26, 28, 31, 33] (σ' := [(2, .int .i64 i2), (3, .int .i64 n3), (8, .pointer (some ⟨b223, 0, none⟩)), (9, .slice (some ⟨g238, 0, none⟩) 2 (ng238 / 1)), (10, .slice (some ⟨g240, 0, none⟩) 2 (ng240 / 1)), (20, .slice (some ⟨N235, 1, none⟩) 3 3), (21, .int .i64 3), (22, .int .i64 1), (26, .slice (some ⟨g238, 0, none⟩) 2 (ng238 / 1)), (28, .int .i64 t230), (31, .slice (some ⟨g240, 0, none⟩) 2 (ng240 / 1)), (33, .int .i64 t231)]) (by kernel_rfl) ?_
          refine t_end ?_
          exact ⟨hg_e7, rfl⟩
      have hg_63 : G [true, true, false, false, false, true, true, false, false, false, false, false] [(2, .int .i64 i2), (3, .int .i64 n3), (8, .pointer (some ⟨b223, 0, none⟩)), (9, .slice (some ⟨g238, 0, none⟩) 2 (ng238 / 1)), (10, .slice (some ⟨g240, 0, none⟩) 2 (ng240 / 1)), (20, .slice (some ⟨N235, 1, none⟩) 3 3), (21, .int .i64 3), (22, .int .i64 1), (26, .slice (some ⟨g238, 0, none⟩) 2 (ng238 / 1)), (27, .pointer (some ⟨b241, 0, none⟩)), (31, .slice (some ⟨g240, 0, none⟩) 2 (ng240 / 1)), (32, .pointer (some ⟨b241, 1, none⟩))] ([⟨b241, [.int .i64 t230, .int .i64 t231], 2⟩, ⟨g240, [.int .i64 a0_1, .int .i64 t229], ng240⟩, ⟨g239, [.int .i64 t229], 1⟩, ⟨g238, [.int .i64 a0_0, .int .i64 t228], ng238⟩, ⟨g237, [.int .i64 t228], 1⟩, ⟨b236, [.int .i64 t228, .int .i64 t229], 2⟩, ⟨N235, [.int .i64 t227, .int .i64 t228, .int .i64 t229, .int .i64 t230, .int .i64 t231, .int .i64 t232, .int .i64 t233], 7⟩, ⟨b223, [.int .i64 0, .int .i64 0], 2⟩, ⟨b222, [.int .i64 3, .int .i64 s1_1, .int .i64 s1_2, .int .i64 s1_3, .int .i64 s1_4, .int .i64 s1_5, .int .i64 s1_6], 7⟩, ⟨b221, [.int .i64 a0_0, .int .i64 a0_1], 2⟩] : List Own) := by
        refine hstep [2, 7] _ _ _ (by kernel_rfl) (List.cons_ne_nil _ _) ⟨?_, ?_, trivial⟩
        · show T _ _ _ _ _ _ _ _
          refine t_v (.ld1 rfl rfl rfl (.at 0 rfl rfl)) ?_
          refine t_keep [2, 3, 8, 9, 10, 20, 21, 22, 26, 28, 31, 32] (σ' := [(2, .int .i64 i2), (3, .int .i64 n3), (8, .pointer (some ⟨b223, 0, none⟩)), (9, .slice (some ⟨g238, 0, none⟩) 2 (ng238 / 1)), (10, .slice (some ⟨g240, 0, none⟩) 2 (ng240 / 1)), (20, .slice (some ⟨N235, 1, none⟩) 3 3), (21, .int .i64 3), (22, .int .i64 1), (26, .slice (some ⟨g238, 0, none⟩) 2 (ng238 / 1)), (28, .int .i64 t230), (31, .slice (some ⟨g240, 0, none⟩) 2 (ng240 / 1)), (32, .pointer (some ⟨b241, 1, none⟩))]) (by kernel_rfl) ?_
          refine t_end ?_
          exact ⟨hg_67, rfl⟩
        · show T _ _ _ _ _ _ _ _
          refine t_v (.ld1 rfl rfl rfl (.at 0 rfl rfl)) ?_
          refine t_keep [2, 3, 8, 9, 10, 20, 21, 22, 26, 27, 31, 33] (σ' := [(2, .int .i64 i2), (3, .int .i64 n3), (8, .pointer (some ⟨b223, 0, none⟩)), (9, .slice (some ⟨g238, 0, none⟩) 2 (ng238 / 1)), (10, .slice (some ⟨g240, 0, none⟩) 2 (ng240 / 1)), (20, .slice (some ⟨N235, 1, none⟩) 3 3), (21, .int .i64 3), (22, .int .i64 1), (26, .slice (some ⟨g238, 0, none⟩) 2 (ng238 / 1)), (27, .pointer (some ⟨b241, 0, none⟩)), (31, .slice (some ⟨g240, 0, none⟩) 2 (ng240 / 1)), (33, .int .i64 t231)]) (by kernel_rfl) ?_
          refine t_end ?_
          exact ⟨hg_e3, rfl⟩
      have hg_23 : G [true, true, false, false, false, true, false, false, false, false, false, false] [(2, .int .i64 i2), (3, .int .i64 n3), (8, .pointer (some ⟨b223, 0, none⟩)), (9, .slice (some ⟨g238, 0, none⟩) 2 (ng238 / 1)), (10, .slice (some ⟨g240, 0, none⟩) 2 (ng240 / 1)), (12, .pointer (some ⟨b241, 0, none⟩)), (20, .slice (some ⟨N235, 1, none⟩) 3 3), (21, .int .i64 3), (22, .int .i64 1), (26, .slice (some ⟨g238, 0, none⟩) 2 (ng238 / 1)), (27, .pointer (some ⟨b241, 0, none⟩)), (31, .slice (some ⟨g240, 0, none⟩) 2 (ng240 / 1))] ([⟨b241, [.int .i64 t230, .int .i64 t231], 2⟩, ⟨g240, [.int .i64 a0_1, .int .i64 t229], ng240⟩, ⟨g239, [.int .i64 t229], 1⟩, ⟨g238, [.int .i64 a0_0, .int .i64 t228], ng238⟩, ⟨g237, [.int .i64 t228], 1⟩, ⟨b236, [.int .i64 t228, .int .i64 t229], 2⟩, ⟨N235, [.int .i64 t227, .int .i64 t228, .int .i64 t229, .int .i64 t230, .int .i64 t231, .int .i64 t232, .int .i64 t233], 7⟩, ⟨b223, [.int .i64 0, .int .i64 0], 2⟩, ⟨b222, [.int .i64 3, .int .i64 s1_1, .int .i64 s1_2, .int .i64 s1_3, .int .i64 s1_4, .int .i64 s1_5, .int .i64 s1_6], 7⟩, ⟨b221, [.int .i64 a0_0, .int .i64 a0_1], 2⟩] : List Own) := by
        exact hqf 6 [2, 3, 8, 9, 10, 20, 21, 22, 26, 27, 31, 32] _ _ _ [(2, .int .i64 i2), (3, .int .i64 n3), (8, .pointer (some ⟨b223, 0, none⟩)), (9, .slice (some ⟨g238, 0, none⟩) 2 (ng238 / 1)), (10, .slice (some ⟨g240, 0, none⟩) 2 (ng240 / 1)), (20, .slice (some ⟨N235, 1, none⟩) 3 3), (21, .int .i64 3), (22, .int .i64 1), (26, .slice (some ⟨g238, 0, none⟩) 2 (ng238 / 1)), (27, .pointer (some ⟨b241, 0, none⟩)), (31, .slice (some ⟨g240, 0, none⟩) 2 (ng240 / 1)), (32, .pointer (some ⟨b241, 1, none⟩))] (by kernel_rfl) (by kernel_rfl) hg_63
      have hg_3 : G [true, true, false, false, false, false, false, false, false, false, false, false] [(2, .int .i64 i2), (3, .int .i64 n3), (8, .pointer (some ⟨b223, 0, none⟩)), (9, .slice (some ⟨g238, 0, none⟩) 2 (ng238 / 1)), (10, .slice (some ⟨g240, 0, none⟩) 2 (ng240 / 1)), (12, .pointer (some ⟨b241, 0, none⟩)), (20, .slice (some ⟨N235, 1, none⟩) 3 3), (21, .int .i64 3), (22, .int .i64 1), (26, .slice (some ⟨g238, 0, none⟩) 2 (ng238 / 1)), (27, .pointer (some ⟨b241, 0, none⟩))] ([⟨b241, [.int .i64 t230, .int .i64 t231], 2⟩, ⟨g240, [.int .i64 a0_1, .int .i64 t229], ng240⟩, ⟨g239, [.int .i64 t229], 1⟩, ⟨g238, [.int .i64 a0_0, .int .i64 t228], ng238⟩, ⟨g237, [.int .i64 t228], 1⟩, ⟨b236, [.int .i64 t228, .int .i64 t229], 2⟩, ⟨N235, [.int .i64 t227, .int .i64 t228, .int .i64 t229, .int .i64 t230, .int .i64 t231, .int .i64 t232, .int .i64 t233], 7⟩, ⟨b223, [.int .i64 0, .int .i64 0], 2⟩, ⟨b222, [.int .i64 3, .int .i64 s1_1, .int .i64 s1_2, .int .i64 s1_3, .int .i64 s1_4, .int .i64 s1_5, .int .i64 s1_6], 7⟩, ⟨b221, [.int .i64 a0_0, .int .i64 a0_1], 2⟩] : List Own) := by
        exact hqf 5 [2, 3, 8, 9, 10, 12, 20, 21, 22, 26, 27, 31] _ _ _ [(2, .int .i64 i2), (3, .int .i64 n3), (8, .pointer (some ⟨b223, 0, none⟩)), (9, .slice (some ⟨g238, 0, none⟩) 2 (ng238 / 1)), (10, .slice (some ⟨g240, 0, none⟩) 2 (ng240 / 1)), (12, .pointer (some ⟨b241, 0, none⟩)), (20, .slice (some ⟨N235, 1, none⟩) 3 3), (21, .int .i64 3), (22, .int .i64 1), (26, .slice (some ⟨g238, 0, none⟩) 2 (ng238 / 1)), (27, .pointer (some ⟨b241, 0, none⟩)), (31, .slice (some ⟨g240, 0, none⟩) 2 (ng240 / 1))] (by kernel_rfl) (by kernel_rfl) hg_23
      have hg_1 : G [true, false, false, false, false, false, false, false, false, false, false, false] [(2, .int .i64 i2), (3, .int .i64 n3), (8, .pointer (some ⟨b223, 0, none⟩)), (9, .slice (some ⟨g238, 0, none⟩) 2 (ng238 / 1)), (10, .slice (some ⟨g240, 0, none⟩) 2 (ng240 / 1)), (12, .pointer (some ⟨b241, 0, none⟩)), (20, .slice (some ⟨N235, 1, none⟩) 3 3), (21, .int .i64 3), (22, .int .i64 1), (26, .slice (some ⟨g238, 0, none⟩) 2 (ng238 / 1))] ([⟨b241, [.int .i64 t230, .int .i64 t231], 2⟩, ⟨g240, [.int .i64 a0_1, .int .i64 t229], ng240⟩, ⟨g239, [.int .i64 t229], 1⟩, ⟨g238, [.int .i64 a0_0, .int .i64 t228], ng238⟩, ⟨g237, [.int .i64 t228], 1⟩, ⟨b236, [.int .i64 t228, .int .i64 t229], 2⟩, ⟨N235, [.int .i64 t227, .int .i64 t228, .int .i64 t229, .int .i64 t230, .int .i64 t231, .int .i64 t232, .int .i64 t233], 7⟩, ⟨b223, [.int .i64 0, .int .i64 0], 2⟩, ⟨b222, [.int .i64 3, .int .i64 s1_1, .int .i64 s1_2, .int .i64 s1_3, .int .i64 s1_4, .int .i64 s1_5, .int .i64 s1_6], 7⟩, ⟨b221, [.int .i64 a0_0, .int .i64 a0_1], 2⟩] : List Own) := by
        exact hqf 1 [2, 3, 8, 9, 10, 12, 20, 21, 22, 26, 27] _ _ _ [(2, .int .i64 i2), (3, .int .i64 n3), (8, .pointer (some ⟨b223, 0, none⟩)), (9, .slice (some ⟨g238, 0, none⟩) 2 (ng238 / 1)), (10, .slice (some ⟨g240, 0, none⟩) 2 (ng240 / 1)), (12, .pointer (some ⟨b241, 0, none⟩)), (20, .slice (some ⟨N235, 1, none⟩) 3 3), (21, .int .i64 3), (22, .int .i64 1), (26, .slice (some ⟨g238, 0, none⟩) 2 (ng238 / 1)), (27, .pointer (some ⟨b241, 0, none⟩))] (by kernel_rfl) (by kernel_rfl) hg_3
      have hg_0 : G [false, false, false, false, false, false, false, false, false, false, false, false] [(2, .int .i64 i2), (3, .int .i64 n3), (8, .pointer (some ⟨b223, 0, none⟩)), (9, .slice (some ⟨g238, 0, none⟩) 2 (ng238 / 1)), (10, .slice (some ⟨g240, 0, none⟩) 2 (ng240 / 1)), (12, .pointer (some ⟨b241, 0, none⟩)), (20, .slice (some ⟨N235, 1, none⟩) 3 3), (21, .int .i64 3), (22, .int .i64 1)] ([⟨b241, [.int .i64 t230, .int .i64 t231], 2⟩, ⟨g240, [.int .i64 a0_1, .int .i64 t229], ng240⟩, ⟨g239, [.int .i64 t229], 1⟩, ⟨g238, [.int .i64 a0_0, .int .i64 t228], ng238⟩, ⟨g237, [.int .i64 t228], 1⟩, ⟨b236, [.int .i64 t228, .int .i64 t229], 2⟩, ⟨N235, [.int .i64 t227, .int .i64 t228, .int .i64 t229, .int .i64 t230, .int .i64 t231, .int .i64 t232, .int .i64 t233], 7⟩, ⟨b223, [.int .i64 0, .int .i64 0], 2⟩, ⟨b222, [.int .i64 3, .int .i64 s1_1, .int .i64 s1_2, .int .i64 s1_3, .int .i64 s1_4, .int .i64 s1_5, .int .i64 s1_6], 7⟩, ⟨b221, [.int .i64 a0_0, .int .i64 a0_1], 2⟩] : List Own) := by
        exact hqf 0 [2, 3, 8, 9, 10, 12, 20, 21, 22, 26] _ _ _ [(2, .int .i64 i2), (3, .int .i64 n3), (8, .pointer (some ⟨b223, 0, none⟩)), (9, .slice (some ⟨g238, 0, none⟩) 2 (ng238 / 1)), (10, .slice (some ⟨g240, 0, none⟩) 2 (ng240 / 1)), (12, .pointer (some ⟨b241, 0, none⟩)), (20, .slice (some ⟨N235, 1, none⟩) 3 3), (21, .int .i64 3), (22, .int .i64 1), (26, .slice (some ⟨g238, 0, none⟩) 2 (ng238 / 1))] (by kernel_rfl) (by kernel_rfl) hg_1
      exact hg_0
    have hg_7ff : ∀ (g240 : Nat) (ng240 : Nat) (g239 : Nat) (g238 : Nat) (ng238 : Nat) (g237 : Nat), G [true, true, true, true, true, true, true, true, true, true, true, false] [(2, .int .i64 i2), (3, .int .i64 n3), (8, .pointer (some ⟨b223, 0, none⟩)), (9, .slice (some ⟨g238, 0, none⟩) 2 (ng238 / 1)), (10, .slice (some ⟨g225, 0, none⟩) 1 1), (20, .slice (some ⟨N235, 1, none⟩) 3 3), (21, .int .i64 3), (22, .int .i64 0), (35, .slice (some ⟨g240, 0, none⟩) 2 (ng240 / 1))] ([⟨g240, [.int .i64 a0_1, .int .i64 t229], ng240⟩, ⟨g239, [.int .i64 t229], 1⟩, ⟨g238, [.int .i64 a0_0, .int .i64 t228], ng238⟩, ⟨g237, [.int .i64 t228], 1⟩, ⟨b236, [.int .i64 t228, .int .i64 t229], 2⟩, ⟨N235, [.int .i64 t227, .int .i64 t228, .int .i64 t229, .int .i64 t230, .int .i64 t231, .int .i64 t232, .int .i64 t233], 7⟩, ⟨b223, [.int .i64 0, .int .i64 0], 2⟩, ⟨b222, [.int .i64 3, .int .i64 s1_1, .int .i64 s1_2, .int .i64 s1_3, .int .i64 s1_4, .int .i64 s1_5, .int .i64 s1_6], 7⟩, ⟨b221, [.int .i64 a0_0, .int .i64 a0_1], 2⟩] : List Own) := by
      intro g240 ng240 g239 g238 ng238 g237
      exact hqf 11 [2, 3, 8, 9, 10, 20, 21, 22] _ _ _ [(2, .int .i64 i2), (3, .int .i64 n3), (8, .pointer (some ⟨b223, 0, none⟩)), (9, .slice (some ⟨g238, 0, none⟩) 2 (ng238 / 1)), (10, .slice (some ⟨g240, 0, none⟩) 2 (ng240 / 1)), (20, .slice (some ⟨N235, 1, none⟩) 3 3), (21, .int .i64 3), (22, .int .i64 0)] (by kernel_rfl) (by kernel_rfl) (hg_fff g240 ng240 g239 g238 ng238 g237)
    have hg_3ff : ∀ (g240 : Nat) (ng240 : Nat) (g239 : Nat) (g238 : Nat) (ng238 : Nat) (g237 : Nat), G [true, true, true, true, true, true, true, true, true, true, false, false] [(2, .int .i64 i2), (3, .int .i64 n3), (8, .pointer (some ⟨b223, 0, none⟩)), (9, .slice (some ⟨g224, 0, none⟩) 1 1), (10, .slice (some ⟨g225, 0, none⟩) 1 1), (20, .slice (some ⟨N235, 1, none⟩) 3 3), (21, .int .i64 3), (22, .int .i64 0), (30, .slice (some ⟨g238, 0, none⟩) 2 (ng238 / 1)), (35, .slice (some ⟨g240, 0, none⟩) 2 (ng240 / 1))] ([⟨g240, [.int .i64 a0_1, .int .i64 t229], ng240⟩, ⟨g239, [.int .i64 t229], 1⟩, ⟨g238, [.int .i64 a0_0, .int .i64 t228], ng238⟩, ⟨g237, [.int .i64 t228], 1⟩, ⟨b236, [.int .i64 t228, .int .i64 t229], 2⟩, ⟨N235, [.int .i64 t227, .int .i64 t228, .int .i64 t229, .int .i64 t230, .int .i64 t231, .int .i64 t232, .int .i64 t233], 7⟩, ⟨b223, [.int .i64 0, .int .i64 0], 2⟩, ⟨b222, [.int .i64 3, .int .i64 s1_1, .int .i64 s1_2, .int .i64 s1_3, .int .i64 s1_4, .int .i64 s1_5, .int .i64 s1_6], 7⟩, ⟨b221, [.int .i64 a0_0, .int .i64 a0_1], 2⟩] : List Own) := by
      intro g240 ng240 g239 g238 ng238 g237
      exact hqf 10 [2, 3, 8, 9, 10, 20, 21, 22, 35] _ _ _ [(2, .int .i64 i2), (3, .int .i64 n3), (8, .pointer (some ⟨b223, 0, none⟩)), (9, .slice (some ⟨g238, 0, none⟩) 2 (ng238 / 1)), (10, .slice (some ⟨g225, 0, none⟩) 1 1), (20, .slice (some ⟨N235, 1, none⟩) 3 3), (21, .int .i64 3), (22, .int .i64 0), (35, .slice (some ⟨g240, 0, none⟩) 2 (ng240 / 1))] (by kernel_rfl) (by kernel_rfl) (hg_7ff g240 ng240 g239 g238 ng238 g237)
    have hg_1ff : ∀ (g239 : Nat) (g238 : Nat) (ng238 : Nat) (g237 : Nat), G [true, true, true, true, true, true, true, true, true, false, false, false] [(2, .int .i64 i2), (3, .int .i64 n3), (8, .pointer (some ⟨b223, 0, none⟩)), (9, .slice (some ⟨g224, 0, none⟩) 1 1), (10, .slice (some ⟨g225, 0, none⟩) 1 1), (20, .slice (some ⟨N235, 1, none⟩) 3 3), (21, .int .i64 3), (22, .int .i64 0), (30, .slice (some ⟨g238, 0, none⟩) 2 (ng238 / 1)), (31, .slice (some ⟨g225, 0, none⟩) 1 1), (34, .slice (some ⟨g239, 0, none⟩) 1 1)] ([⟨g239, [.int .i64 t229], 1⟩, ⟨g238, [.int .i64 a0_0, .int .i64 t228], ng238⟩, ⟨g237, [.int .i64 t228], 1⟩, ⟨b236, [.int .i64 t228, .int .i64 t229], 2⟩, ⟨N235, [.int .i64 t227, .int .i64 t228, .int .i64 t229, .int .i64 t230, .int .i64 t231, .int .i64 t232, .int .i64 t233], 7⟩, ⟨g225, [.int .i64 a0_1], 1⟩, ⟨b223, [.int .i64 0, .int .i64 0], 2⟩, ⟨b222, [.int .i64 3, .int .i64 s1_1, .int .i64 s1_2, .int .i64 s1_3, .int .i64 s1_4, .int .i64 s1_5, .int .i64 s1_6], 7⟩, ⟨b221, [.int .i64 a0_0, .int .i64 a0_1], 2⟩] : List Own) := by
      intro g239 g238 ng238 g237
      refine hstep [9] _ _ _ (by kernel_rfl) (List.cons_ne_nil _ _) ⟨?_, trivial⟩
      · show T _ _ _ _ _ _ _ _
        refine t_app1 (cs := [.int .i64 a0_1]) (M := 1) (F := ([⟨g239, [.int .i64 t229], 1⟩, ⟨g238, [.int .i64 a0_0, .int .i64 t228], ng238⟩, ⟨g237, [.int .i64 t228], 1⟩, ⟨b236, [.int .i64 t228, .int .i64 t229], 2⟩, ⟨N235, [.int .i64 t227, .int .i64 t228, .int .i64 t229, .int .i64 t230, .int .i64 t231, .int .i64 t232, .int .i64 t233], 7⟩, ⟨b223, [.int .i64 0, .int .i64 0], 2⟩, ⟨b222, [.int .i64 3, .int .i64 s1_1, .int .i64 s1_2, .int .i64 s1_3, .int .i64 s1_4, .int .i64 s1_5, .int .i64 s1_6], 7⟩, ⟨b221, [.int .i64 a0_0, .int .i64 a0_1], 2⟩] : List Own)) (news := [.int .i64 t229]) rfl rfl rfl rfl (sel_perm (is := [5]) (by kernel_rfl)) (.at 0 rfl rfl) (by kernel_rfl) rfl rfl (by decide) (by decide) rfl fun g240 ng240 => ?_
        refine t_keep [2, 3, 8, 9, 10, 20, 21, 22, 30, 35] (σ' := [(2, .int .i64 i2), (3, .int .i64 n3), (8, .pointer (some ⟨b223, 0, none⟩)), (9, .slice (some ⟨g224, 0, none⟩) 1 1), (10, .slice (some ⟨g225, 0, none⟩) 1 1), (20, .slice (some ⟨N235, 1, none⟩) 3 3), (21, .int .i64 3), (22, .int .i64 0), (30, .slice (some ⟨g238, 0, none⟩) 2 (ng238 / 1)), (35, .slice (some ⟨g240, 0, none⟩) 2 (ng240 / 1))]) (by kernel_rfl) ?_
        refine t_end ?_
        exact ⟨hg_3ff g240 ng240 g239 g238 ng238 g237, rfl⟩
    have hg_ff : ∀ (g238 : Nat) (ng238 : Nat) (g237 : Nat), G [true, true, true, true, true, true, true, true, false, false, false, false] [(2, .int .i64 i2), (3, .int .i64 n3), (8, .pointer (some ⟨b223, 0, none⟩)), (9, .slice (some ⟨g224, 0, none⟩) 1 1), (10, .slice (some ⟨g225, 0, none⟩) 1 1), (20, .slice (some ⟨N235, 1, none⟩) 3 3), (21, .int .i64 3), (22, .int .i64 0), (30, .slice (some ⟨g238, 0, none⟩) 2 (ng238 / 1)), (31, .slice (some ⟨g225, 0, none⟩) 1 1), (33, .int .i64 t229)] ([⟨g238, [.int .i64 a0_0, .int .i64 t228], ng238⟩, ⟨g237, [.int .i64 t228], 1⟩, ⟨b236, [.int .i64 t228, .int .i64 t229], 2⟩, ⟨N235, [.int .i64 t227, .int .i64 t228, .int .i64 t229, .int .i64 t230, .int .i64 t231, .int .i64 t232, .int .i64 t233], 7⟩, ⟨g225, [.int .i64 a0_1], 1⟩, ⟨b223, [.int .i64 0, .int .i64 0], 2⟩, ⟨b222, [.int .i64 3, .int .i64 s1_1, .int .i64 s1_2, .int .i64 s1_3, .int .i64 s1_4, .int .i64 s1_5, .int .i64 s1_6], 7⟩, ⟨b221, [.int .i64 a0_0, .int .i64 a0_1], 2⟩] : List Own) := by
      intro g238 ng238 g237
      refine hstep [8] _ _ _ (by kernel_rfl) (List.cons_ne_nil _ _) ⟨?_, trivial⟩
      · show T _ _ _ _ _ _ _ _
        refine t_a (.bsl rfl rfl rfl rfl) fun g239 fg239 sg239 => ?_
        refine t_keep [2, 3, 8, 9, 10, 20, 21, 22, 30, 31, 34] (σ' := [(2, .int .i64 i2), (3, .int .i64 n3), (8, .pointer (some ⟨b223, 0, none⟩)), (9, .slice (some ⟨g224, 0, none⟩) 1 1), (10, .slice (some ⟨g225, 0, none⟩) 1 1), (20, .slice (some ⟨N235, 1, none⟩) 3 3), (21, .int .i64 3), (22, .int .i64 0), (30, .slice (some ⟨g238, 0, none⟩) 2 (ng238 / 1)), (31, .slice (some ⟨g225, 0, none⟩) 1 1), (34, .slice (some ⟨g239, 0, none⟩) 1 1)]) (by kernel_rfl) ?_
        refine t_end ?_
        exact ⟨hg_1ff g239 g238 ng238 g237, rfl⟩
    have hg_1ef : ∀ (g239 : Nat) (g237 : Nat), G [true, true, true, true, false, true, true, true, true, false, false, false] [(2, .int .i64 i2), (3, .int .i64 n3), (8, .pointer (some ⟨b223, 0, none⟩)), (9, .slice (some ⟨g224, 0, none⟩) 1 1), (10, .slice (some ⟨g225, 0, none⟩) 1 1), (20, .slice (some ⟨N235, 1, none⟩) 3 3), (21, .int .i64 3), (22, .int .i64 0), (26, .slice (some ⟨g224, 0, none⟩) 1 1), (29, .slice (some ⟨g237, 0, none⟩) 1 1), (31, .slice (some ⟨g225, 0, none⟩) 1 1), (34, .slice (some ⟨g239, 0, none⟩) 1 1)] ([⟨g239, [.int .i64 t229], 1⟩, ⟨g237, [.int .i64 t228], 1⟩, ⟨b236, [.int .i64 t228, .int .i64 t229], 2⟩, ⟨N235, [.int .i64 t227, .int .i64 t228, .int .i64 t229, .int .i64 t230, .int .i64 t231, .int .i64 t232, .int .i64 t233], 7⟩, ⟨g225, [.int .i64 a0_1], 1⟩, ⟨g224, [.int .i64 a0_0], 1⟩, ⟨b223, [.int .i64 0, .int .i64 0], 2⟩, ⟨b222, [.int .i64 3, .int .i64 s1_1, .int .i64 s1_2, .int .i64 s1_3, .int .i64 s1_4, .int .i64 s1_5, .int .i64 s1_6], 7⟩, ⟨b221, [.int .i64 a0_0, .int .i64 a0_1], 2⟩] : List Own) := by
      intro g239 g237
      refine hstep [4] _ _ _ (by kernel_rfl) (List.cons_ne_nil _ _) ⟨?_, trivial⟩
      · show T _ _ _ _ _ _ _ _
        refine t_app1 (cs := [.int .i64 a0_0]) (M := 1) (F := ([⟨g239, [.int .i64 t229], 1⟩, ⟨g237, [.int .i64 t228], 1⟩, ⟨b236, [.int .i64 t228, .int .i64 t229], 2⟩, ⟨N235, [.int .i64 t227, .int .i64 t228, .int .i64 t229, .int .i64 t230, .int .i64 t231, .int .i64 t232, .int .i64 t233], 7⟩, ⟨g225, [.int .i64 a0_1], 1⟩, ⟨b223, [.int .i64 0, .int .i64 0], 2⟩, ⟨b222, [.int .i64 3, .int .i64 s1_1, .int .i64 s1_2, .int .i64 s1_3, .int .i64 s1_4, .int .i64 s1_5, .int .i64 s1_6], 7⟩, ⟨b221, [.int .i64 a0_0, .int .i64 a0_1], 2⟩] : List Own)) (news := [.int .i64 t228]) rfl rfl rfl rfl (sel_perm (is := [5]) (by kernel_rfl)) (.at 1 rfl rfl) (by kernel_rfl) rfl rfl (by decide) (by decide) rfl fun g238 ng238 => ?_
        refine t_keep [2, 3, 8, 9, 10, 20, 21, 22, 30, 31, 34] (σ' := [(2, .int .i64 i2), (3, .int .i64 n3), (8, .pointer (some ⟨b223, 0, none⟩)), (9, .slice (some ⟨g224, 0, none⟩) 1 1), (10, .slice (some ⟨g225, 0, none⟩) 1 1), (20, .slice (some ⟨N235, 1, none⟩) 3 3), (21, .int .i64 3), (22, .int .i64 0), (30, .slice (some ⟨g238, 0, none⟩) 2 (ng238 / 1)), (31, .slice (some ⟨g225, 0, none⟩) 1 1), (34, .slice (some ⟨g239, 0, none⟩) 1 1)]) (by kernel_rfl) ?_
        refine t_vs (H' := ([⟨g239, [.int .i64 t229], 1⟩, ⟨g238, [.int .i64 a0_0, .int .i64 t228], ng238⟩, ⟨g237, [.int .i64 t228], 1⟩, ⟨b236, [.int .i64 t228, .int .i64 t229], 2⟩, ⟨N235, [.int .i64 t227, .int .i64 t228, .int .i64 t229, .int .i64 t230, .int .i64 t231, .int .i64 t232, .int .i64 t233], 7⟩, ⟨g225, [.int .i64 a0_1], 1⟩, ⟨b223, [.int .i64 0, .int .i64 0], 2⟩, ⟨b222, [.int .i64 3, .int .i64 s1_1, .int .i64 s1_2, .int .i64 s1_3, .int .i64 s1_4, .int .i64 s1_5, .int .i64 s1_6], 7⟩, ⟨b221, [.int .i64 a0_0, .int .i64 a0_1], 2⟩] : List Own)) (S' := S) (VS.sel [1, 0, 0, 0, 0, 0, 0, 0, 0] (by kernel_rfl)) ?_
        refine t_end ?_
        exact ⟨hg_1ff g239 g238 ng238 g237, rfl⟩
    have hg_1e7 : ∀ (g239 : Nat), G [true, true, true, false, false, true, true, true, true, false, false, false] [(2, .int .i64 i2), (3, .int .i64 n3), (8, .pointer (some ⟨b223, 0, none⟩)), (9, .slice (some ⟨g224, 0, none⟩) 1 1), (10, .slice (some ⟨g225, 0, none⟩) 1 1), (20, .slice (some ⟨N235, 1, none⟩) 3 3), (21, .int .i64 3), (22, .int .i64 0), (26, .slice (some ⟨g224, 0, none⟩) 1 1), (28, .int .i64 t228), (31, .slice (some ⟨g225, 0, none⟩) 1 1), (34, .slice (some ⟨g239, 0, none⟩) 1 1)] ([⟨g239, [.int .i64 t229], 1⟩, ⟨b236, [.int .i64 t228, .int .i64 t229], 2⟩, ⟨N235, [.int .i64 t227, .int .i64 t228, .int .i64 t229, .int .i64 t230, .int .i64 t231, .int .i64 t232, .int .i64 t233], 7⟩, ⟨g225, [.int .i64 a0_1], 1⟩, ⟨g224, [.int .i64 a0_0], 1⟩, ⟨b223, [.int .i64 0, .int .i64 0], 2⟩, ⟨b222, [.int .i64 3, .int .i64 s1_1, .int .i64 s1_2, .int .i64 s1_3, .int .i64 s1_4, .int .i64 s1_5, .int .i64 s1_6], 7⟩, ⟨b221, [.int .i64 a0_0, .int .i64 a0_1], 2⟩] : List Own) := by
      intro g239
      refine hstep [3] _ _ _ (by kernel_rfl) (List.cons_ne_nil _ _) ⟨?_, trivial⟩
      · show T _ _ _ _ _ _ _ _
        refine t_a (.bsl rfl rfl rfl rfl) fun g237 fg237 sg237 => ?_
        refine t_keep [2, 3, 8, 9, 10, 20, 21, 22, 26, 29, 31, 34] (σ' := [(2, .int .i64 i2), (3, .int .i64 n3), (8, .pointer (some ⟨b223, 0, none⟩)), (9, .slice (some ⟨g224, 0, none⟩) 1 1), (10, .slice (some ⟨g225, 0, none⟩) 1 1), (20, .slice (some ⟨N235, 1, none⟩) 3 3), (21, .int .i64 3), (22, .int .i64 0), (26, .slice (some ⟨g224, 0, none⟩) 1 1), (29, .slice (some ⟨g237, 0, none⟩) 1 1), (31, .slice (some ⟨g225, 0, none⟩) 1 1), (34, .slice (some ⟨g239, 0, none⟩) 1 1)]) (by kernel_rfl) ?_
        refine t_vs (H' := ([⟨g239, [.int .i64 t229], 1⟩, ⟨g237, [.int .i64 t228], 1⟩, ⟨b236, [.int .i64 t228, .int .i64 t229], 2⟩, ⟨N235, [.int .i64 t227, .int .i64 t228, .int .i64 t229, .int .i64 t230, .int .i64 t231, .int .i64 t232, .int .i64 t233], 7⟩, ⟨g225, [.int .i64 a0_1], 1⟩, ⟨g224, [.int .i64 a0_0], 1⟩, ⟨b223, [.int .i64 0, .int .i64 0], 2⟩, ⟨b222, [.int .i64 3, .int .i64 s1_1, .int .i64 s1_2, .int .i64 s1_3, .int .i64 s1_4, .int .i64 s1_5, .int .i64 s1_6], 7⟩, ⟨b221, [.int .i64 a0_0, .int .i64 a0_1], 2⟩] : List Own)) (S' := S) (VS.sel [1, 0, 0, 0, 0, 0, 0, 0, 0] (by kernel_rfl)) ?_
        refine t_end ?_
        exact ⟨hg_1ef g239 g237, rfl⟩
    have hg_ef : ∀ (g237 : Nat), G [true, true, true, true, false, true, true, true, false, false, false, false] [(2, .int .i64 i2), (3, .int .i64 n3), (8, .pointer (some ⟨b223, 0, none⟩)), (9, .slice (some ⟨g224, 0, none⟩) 1 1), (10, .slice (some ⟨g225, 0, none⟩) 1 1), (20, .slice (some ⟨N235, 1, none⟩) 3 3), (21, .int .i64 3), (22, .int .i64 0), (26, .slice (some ⟨g224, 0, none⟩) 1 1), (29, .slice (some ⟨g237, 0, none⟩) 1 1), (31, .slice (some ⟨g225, 0, none⟩) 1 1), (33, .int .i64 t229)] ([⟨g237, [.int .i64 t228], 1⟩, ⟨b236, [.int .i64 t228, .int .i64 t229], 2⟩, ⟨N235, [.int .i64 t227, .int .i64 t228, .int .i64 t229, .int .i64 t230, .int .i64 t231, .int .i64 t232, .int .i64 t233], 7⟩, ⟨g225, [.int .i64 a0_1], 1⟩, ⟨g224, [.int .i64 a0_0], 1⟩, ⟨b223, [.int .i64 0, .int .i64 0], 2⟩, ⟨b222, [.int .i64 3, .int .i64 s1_1, .int .i64 s1_2, .int .i64 s1_3, .int .i64 s1_4, .int .i64 s1_5, .int .i64 s1_6], 7⟩, ⟨b221, [.int .i64 a0_0, .int .i64 a0_1], 2⟩] : List Own) := by
      intro g237
      refine hstep [4, 8] _ _ _ (by kernel_rfl) (List.cons_ne_nil _ _) ⟨?_, ?_, trivial⟩
      · show T _ _ _ _ _ _ _ _
        refine t_app1 (cs := [.int .i64 a0_0]) (M := 1) (F := ([⟨g237, [.int .i64 t228], 1⟩, ⟨b236, [.int .i64 t228, .int .i64 t229], 2⟩, ⟨N235, [.int .i64 t227, .int .i64 t228, .int .i64 t229, .int .i64 t230, .int .i64 t231, .int .i64 t232, .int .i64 t233], 7⟩, ⟨g225, [.int .i64 a0_1], 1⟩, ⟨b223, [.int .i64 0, .int .i64 0], 2⟩, ⟨b222, [.int .i64 3, .int .i64 s1_1, .int .i64 s1_2, .int .i64 s1_3, .int .i64 s1_4, .int .i64 s1_5, .int .i64 s1_6], 7⟩, ⟨b221, [.int .i64 a0_0, .int .i64 a0_1], 2⟩] : List Own)) (news := [.int .i64 t228]) rfl rfl rfl rfl (sel_perm (is := [4]) (by kernel_rfl)) (.at 0 rfl rfl) (by kernel_rfl) rfl rfl (by decide) (by decide) rfl fun g238 ng238 => ?_
        refine t_keep [2, 3, 8, 9, 10, 20, 21, 22, 30, 31, 33] (σ' := [(2, .int .i64 i2), (3, .int .i64 n3), (8, .pointer (some ⟨b223, 0, none⟩)), (9, .slice (some ⟨g224, 0, none⟩) 1 1), (10, .slice (some ⟨g225, 0, none⟩) 1 1), (20, .slice (some ⟨N235, 1, none⟩) 3 3), (21, .int .i64 3), (22, .int .i64 0), (30, .slice (some ⟨g238, 0, none⟩) 2 (ng238 / 1)), (31, .slice (some ⟨g225, 0, none⟩) 1 1), (33, .int .i64 t229)]) (by kernel_rfl) ?_
        refine t_end ?_
        exact ⟨hg_ff g238 ng238 g237, rfl⟩
      · show T _ _ _ _ _ _ _ _
        refine t_a (.bsl rfl rfl rfl rfl) fun g239 fg239 sg239 => ?_
        refine t_keep [2, 3, 8, 9, 10, 20, 21, 22, 26, 29, 31, 34] (σ' := [(2, .int .i64 i2), (3, .int .i64 n3), (8, .pointer (some ⟨b223, 0, none⟩)), (9, .slice (some ⟨g224, 0, none⟩) 1 1), (10, .slice (some ⟨g225, 0, none⟩) 1 1), (20, .slice (some ⟨N235, 1, none⟩) 3 3), (21, .int .i64 3), (22, .int .i64 0), (26, .slice (some ⟨g224, 0, none⟩) 1 1), (29, .slice (some ⟨g237, 0, none⟩) 1 1), (31, .slice (some ⟨g225, 0, none⟩) 1 1), (34, .slice (some ⟨g239, 0, none⟩) 1 1)]) (by kernel_rfl) ?_
        refine t_end ?_
        exact ⟨hg_1ef g239 g237, rfl⟩
    have hg_7f : ∀ (g238 : Nat) (ng238 : Nat) (g237 : Nat), G [true, true, true, true, true, true, true, false, false, false, false, false] [(2, .int .i64 i2), (3, .int .i64 n3), (8, .pointer (some ⟨b223, 0, none⟩)), (9, .slice (some ⟨g224, 0, none⟩) 1 1), (10, .slice (some ⟨g225, 0, none⟩) 1 1), (20, .slice (some ⟨N235, 1, none⟩) 3 3), (21, .int .i64 3), (22, .int .i64 0), (30, .slice (some ⟨g238, 0, none⟩) 2 (ng238 / 1)), (31, .slice (some ⟨g225, 0, none⟩) 1 1), (32, .pointer (some ⟨b236, 1, none⟩))] ([⟨g238, [.int .i64 a0_0, .int .i64 t228], ng238⟩, ⟨g237, [.int .i64 t228], 1⟩, ⟨b236, [.int .i64 t228, .int .i64 t229], 2⟩, ⟨N235, [.int .i64 t227, .int .i64 t228, .int .i64 t229, .int .i64 t230, .int .i64 t231, .int .i64 t232, .int .i64 t233], 7⟩, ⟨g225, [.int .i64 a0_1], 1⟩, ⟨b223, [.int .i64 0, .int .i64 0], 2⟩, ⟨b222, [.int .i64 3, .int .i64 s1_1, .int .i64 s1_2, .int .i64 s1_3, .int .i64 s1_4, .int .i64 s1_5, .int .i64 s1_6], 7⟩, ⟨b221, [.int .i64 a0_0, .int .i64 a0_1], 2⟩] : List Own) := by
      intro g238 ng238 g237
      refine hstep [7] _ _ _ (by kernel_rfl) (List.cons_ne_nil _ _) ⟨?_, trivial⟩
      · show T _ _ _ _ _ _ _ _
        refine t_v (.ld1 rfl rfl rfl (.at 2 rfl rfl)) ?_
        refine t_keep [2, 3, 8, 9, 10, 20, 21, 22, 30, 31, 33] (σ' := [(2, .int .i64 i2), (3, .int .i64 n3), (8, .pointer (some ⟨b223, 0, none⟩)), (9, .slice (some ⟨g224, 0, none⟩) 1 1), (10, .slice (some ⟨g225, 0, none⟩) 1 1), (20, .slice (some ⟨N235, 1, none⟩) 3 3), (21, .int .i64 3), (22, .int .i64 0), (30, .slice (some ⟨g238, 0, none⟩) 2 (ng238 / 1)), (31, .slice (some ⟨g225, 0, none⟩) 1 1), (33, .int .i64 t229)]) (by kernel_rfl) ?_
        refine t_end ?_
        exact ⟨hg_ff g238 ng238 g237, rfl⟩
    have hg_1e3 : ∀ (g239 : Nat), G [true, true, false, false, false, true, true, true, true, false, false, false] [(2, .int .i64 i2), (3, .int .i64 n3), (8, .pointer (some ⟨b223, 0, none⟩)), (9, .slice (some ⟨g224, 0, none⟩) 1 1), (10, .slice (some ⟨g225, 0, none⟩) 1 1), (20, .slice (some ⟨N235, 1, none⟩) 3 3), (21, .int .i64 3), (22, .int .i64 0), (26, .slice (some ⟨g224, 0, none⟩) 1 1), (27, .pointer (some ⟨b236, 0, none⟩)), (31, .slice (some ⟨g225, 0, none⟩) 1 1), (34, .slice (some ⟨g239, 0, none⟩) 1 1)] ([⟨g239, [.int .i64 t229], 1⟩, ⟨b236, [.int .i64 t228, .int .i64 t229], 2⟩, ⟨N235, [.int .i64 t227, .int .i64 t228, .int .i64 t229, .int .i64 t230, .int .i64 t231, .int .i64 t232, .int .i64 t233], 7⟩, ⟨g225, [.int .i64 a0_1], 1⟩, ⟨g224, [.int .i64 a0_0], 1⟩, ⟨b223, [.int .i64 0, .int .i64 0], 2⟩, ⟨b222, [.int .i64 3, .int .i64 s1_1, .int .i64 s1_2, .int .i64 s1_3, .int .i64 s1_4, .int .i64 s1_5, .int .i64 s1_6], 7⟩, ⟨b221, [.int .i64 a0_0, .int .i64 a0_1], 2⟩] : List Own) := by
      intro g239
      refine hstep [2] _ _ _ (by kernel_rfl) (List.cons_ne_nil _ _) ⟨?_, trivial⟩
      · show T _ _ _ _ _ _ _ _
        refine t_v (.ld1 rfl rfl rfl (.at 1 rfl rfl)) ?_
        refine t_keep [2, 3, 8, 9, 10, 20, 21, 22, 26, 28, 31, 34] (σ' := [(2, .int .i64 i2), (3, .int .i64 n3), (8, .pointer (some ⟨b223, 0, none⟩)), (9, .slice (some ⟨g224, 0, none⟩) 1 1), (10, .slice (some ⟨g225, 0, none⟩) 1 1), (20, .slice (some ⟨N235, 1, none⟩) 3 3), (21, .int .i64 3), (22, .int .i64 0), (26, .slice (some ⟨g224, 0, none⟩) 1 1), (28, .int .i64 t228), (31, .slice (some ⟨g225, 0, none⟩) 1 1), (34, .slice (some ⟨g239, 0, none⟩) 1 1)]) (by kernel_rfl) ?_
        refine t_end ?_
        exact ⟨hg_1e7 g239, rfl⟩
    have hg_e7 : G [true, true, true, false, false, true, true, true, false, false, false, false] [(2, .int .i64 i2), (3, .int .i64 n3), (8, .pointer (some ⟨b223, 0, none⟩)), (9, .slice (some ⟨g224, 0, none⟩) 1 1), (10, .slice (some ⟨g225, 0, none⟩) 1 1), (20, .slice (some ⟨N235, 1, none⟩) 3 3), (21, .int .i64 3), (22, .int .i64 0), (26, .slice (some ⟨g224, 0, none⟩) 1 1), (28, .int .i64 t228), (31, .slice (some ⟨g225, 0, none⟩) 1 1), (33, .int .i64 t229)] ([⟨b236, [.int .i64 t228, .int .i64 t229], 2⟩, ⟨N235, [.int .i64 t227, .int .i64 t228, .int .i64 t229, .int .i64 t230, .int .i64 t231, .int .i64 t232, .int .i64 t233], 7⟩, ⟨g225, [.int .i64 a0_1], 1⟩, ⟨g224, [.int .i64 a0_0], 1⟩, ⟨b223, [.int .i64 0, .int .i64 0], 2⟩, ⟨b222, [.int .i64 3, .int .i64 s1_1, .int .i64 s1_2, .int .i64 s1_3, .int .i64 s1_4, .int .i64 s1_5, .int .i64 s1_6], 7⟩, ⟨b221, [.int .i64 a0_0, .int .i64 a0_1], 2⟩] : List Own) := by
      refine hstep [3, 8] _ _ _ (by kernel_rfl) (List.cons_ne_nil _ _) ⟨?_, ?_, trivial⟩
      · show T _ _ _ _ _ _ _ _
        refine t_a (.bsl rfl rfl rfl rfl) fun g237 fg237 sg237 => ?_
        refine t_keep [2, 3, 8, 9, 10, 20, 21, 22, 26, 29, 31, 33] (σ' := [(2, .int .i64 i2), (3, .int .i64 n3), (8, .pointer (some ⟨b223, 0, none⟩)), (9, .slice (some ⟨g224, 0, none⟩) 1 1), (10, .slice (some ⟨g225, 0, none⟩) 1 1), (20, .slice (some ⟨N235, 1, none⟩) 3 3), (21, .int .i64 3), (22, .int .i64 0), (26, .slice (some ⟨g224, 0, none⟩) 1 1), (29, .slice (some ⟨g237, 0, none⟩) 1 1), (31, .slice (some ⟨g225, 0, none⟩) 1 1), (33, .int .i64 t229)]) (by kernel_rfl) ?_
        refine t_end ?_
        exact ⟨hg_ef g237, rfl⟩
      · show T _ _ _ _ _ _ _ _
        refine t_a (.bsl rfl rfl rfl rfl) fun g239 fg239 sg239 => ?_
        refine t_keep [2, 3, 8, 9, 10, 20, 21, 22, 26, 28, 31, 34] (σ' := [(2, .int .i64 i2), (3, .int .i64 n3), (8, .pointer (some ⟨b223, 0, none⟩)), (9, .slice (some ⟨g224, 0, none⟩) 1 1), (10, .slice (some ⟨g225, 0, none⟩) 1 1), (20, .slice (some ⟨N235, 1, none⟩) 3 3), (21, .int .i64 3), (22, .int .i64 0), (26, .slice (some ⟨g224, 0, none⟩) 1 1), (28, .int .i64 t228), (31, .slice (some ⟨g225, 0, none⟩) 1 1), (34, .slice (some ⟨g239, 0, none⟩) 1 1)]) (by kernel_rfl) ?_
        refine t_end ?_
        exact ⟨hg_1e7 g239, rfl⟩
    have hg_6f : ∀ (g237 : Nat), G [true, true, true, true, false, true, true, false, false, false, false, false] [(2, .int .i64 i2), (3, .int .i64 n3), (8, .pointer (some ⟨b223, 0, none⟩)), (9, .slice (some ⟨g224, 0, none⟩) 1 1), (10, .slice (some ⟨g225, 0, none⟩) 1 1), (20, .slice (some ⟨N235, 1, none⟩) 3 3), (21, .int .i64 3), (22, .int .i64 0), (26, .slice (some ⟨g224, 0, none⟩) 1 1), (29, .slice (some ⟨g237, 0, none⟩) 1 1), (31, .slice (some ⟨g225, 0, none⟩) 1 1), (32, .pointer (some ⟨b236, 1, none⟩))] ([⟨g237, [.int .i64 t228], 1⟩, ⟨b236, [.int .i64 t228, .int .i64 t229], 2⟩, ⟨N235, [.int .i64 t227, .int .i64 t228, .int .i64 t229, .int .i64 t230, .int .i64 t231, .int .i64 t232, .int .i64 t233], 7⟩, ⟨g225, [.int .i64 a0_1], 1⟩, ⟨g224, [.int .i64 a0_0], 1⟩, ⟨b223, [.int .i64 0, .int .i64 0], 2⟩, ⟨b222, [.int .i64 3, .int .i64 s1_1, .int .i64 s1_2, .int .i64 s1_3, .int .i64 s1_4, .int .i64 s1_5, .int .i64 s1_6], 7⟩, ⟨b221, [.int .i64 a0_0, .int .i64 a0_1], 2⟩] : List Own) := by
      intro g237
      refine hstep [4, 7] _ _ _ (by kernel_rfl) (List.cons_ne_nil _ _) ⟨?_, ?_, trivial⟩
      · show T _ _ _ _ _ _ _ _
        refine t_app1 (cs := [.int .i64 a0_0]) (M := 1) (F := ([⟨g237, [.int .i64 t228], 1⟩, ⟨b236, [.int .i64 t228, .int .i64 t229], 2⟩, ⟨N235, [.int .i64 t227, .int .i64 t228, .int .i64 t229, .int .i64 t230, .int .i64 t231, .int .i64 t232, .int .i64 t233], 7⟩, ⟨g225, [.int .i64 a0_1], 1⟩, ⟨b223, [.int .i64 0, .int .i64 0], 2⟩, ⟨b222, [.int .i64 3, .int .i64 s1_1, .int .i64 s1_2, .int .i64 s1_3, .int .i64 s1_4, .int .i64 s1_5, .int .i64 s1_6], 7⟩, ⟨b221, [.int .i64 a0_0, .int .i64 a0_1], 2⟩] : List Own)) (news := [.int .i64 t228]) rfl rfl rfl rfl (sel_perm (is := [4]) (by kernel_rfl)) (.at 0 rfl rfl) (by kernel_rfl) rfl rfl (by decide) (by decide) rfl fun g238 ng238 => ?_
        refine t_keep [2, 3, 8, 9, 10, 20, 21, 22, 30, 31, 32] (σ' := [(2, .int .i64 i2), (3, .int .i64 n3), (8, .pointer (some ⟨b223, 0, none⟩)), (9, .slice (some ⟨g224, 0, none⟩) 1 1), (10, .slice (some ⟨g225, 0, none⟩) 1 1), (20, .slice (some ⟨N235, 1, none⟩) 3 3), (21, .int .i64 3), (22, .int .i64 0), (30, .slice (some ⟨g238, 0, none⟩) 2 (ng238 / 1)), (31, .slice (some ⟨g225, 0, none⟩) 1 1), (32, .pointer (some ⟨b236, 1, none⟩))]) (by kernel_rfl) ?_
        refine t_end ?_
        exact ⟨hg_7f g238 ng238 g237, rfl⟩
      · show T _ _ _ _ _ _ _ _
        refine t_v (.ld1 rfl rfl rfl (.at 1 rfl rfl)) ?_
        refine t_keep [2, 3, 8, 9, 10, 20, 21, 22, 26, 29, 31, 33] (σ' := [(2, .int .i64 i2), (3, .int .i64 n3), (8, .pointer (some ⟨b223, 0, none⟩)), (9, .slice (some ⟨g224, 0, none⟩) 1 1), (10, .slice (some ⟨g225, 0, none⟩) 1 1), (20, .slice (some ⟨N235, 1, none⟩) 3 3), (21, .int .i64 3), (22, .int .i64 0), (26, .slice (some ⟨g224, 0, none⟩) 1 1), (29, .slice (some ⟨g237, 0, none⟩) 1 1), (31, .slice (some ⟨g225, 0, none⟩) 1 1), (33, .int .i64 t229)]) (by kernel_rfl) ?_
        refine t_end ?_
        exact ⟨hg_ef g237, rfl⟩
    have hg_e3 : G [true, true, false, false, false, true, true, true, false, false, false, false] [(2, .int .i64 i2), (3, .int .i64 n3), (8, .pointer (some ⟨b223, 0, none⟩)), (9, .slice (some ⟨g224, 0, none⟩) 1 1), (10, .slice (some ⟨g225, 0, none⟩) 1 1), (20, .slice (some ⟨N235, 1, none⟩) 3 3), (21, .int .i64 3), (22, .int .i64 0), (26, .slice (some ⟨g224, 0, none⟩) 1 1), (27, .pointer (some ⟨b236, 0, none⟩)), (31, .slice (some ⟨g225, 0, none⟩) 1 1), (33, .int .i64 t229)] ([⟨b236, [.int .i64 t228, .int .i64 t229], 2⟩, ⟨N235, [.int .i64 t227, .int .i64 t228, .int .i64 t229, .int .i64 t230, .int .i64 t231, .int .i64 t232, .int .i64 t233], 7⟩, ⟨g225, [.int .i64 a0_1], 1⟩, ⟨g224, [.int .i64 a0_0], 1⟩, ⟨b223, [.int .i64 0, .int .i64 0], 2⟩, ⟨b222, [.int .i64 3, .int .i64 s1_1, .int .i64 s1_2, .int .i64 s1_3, .int .i64 s1_4, .int .i64 s1_5, .int .i64 s1_6], 7⟩, ⟨b221, [.int .i64 a0_0, .int .i64 a0_1], 2⟩] : List Own) := by
      refine hstep [2, 8] _ _ _ (by kernel_rfl) (List.cons_ne_nil _ _) ⟨?_, ?_, trivial⟩
      · show T _ _ _ _ _ _ _ _
        refine t_v (.ld1 rfl rfl rfl (.at 0 rfl rfl)) ?_
        refine t_keep [2, 3, 8, 9, 10, 20, 21, 22, 26, 28, 31, 33] (σ' := [(2, .int .i64 i2), (3, .int .i64 n3), (8, .pointer (some ⟨b223, 0, none⟩)), (9, .slice (some ⟨g224, 0, none⟩) 1 1), (10, .slice (some ⟨g225, 0, none⟩) 1 1), (20, .slice (some ⟨N235, 1, none⟩) 3 3), (21, .int .i64 3), (22, .int .i64 0), (26, .slice (some ⟨g224, 0, none⟩) 1 1), (28, .int .i64 t228), (31, .slice (some ⟨g225, 0, none⟩) 1 1), (33, .int .i64 t229)]) (by kernel_rfl) ?_
        refine t_end ?_
        exact ⟨hg_e7, rfl⟩
      · show T _ _ _ _ _ _ _ _
        refine t_a (.bsl rfl rfl rfl rfl) fun g239 fg239 sg239 => ?_
        refine t_keep [2, 3, 8, 9, 10, 20, 21, 22, 26, 27, 31, 34] (σ' := [(2, .int .i64 i2), (3, .int .i64 n3), (8, .pointer (some ⟨b223, 0, none⟩)), (9, .slice (some ⟨g224, 0, none⟩) 1 1), (10, .slice (some ⟨g225, 0, none⟩) 1 1), (20, .slice (some ⟨N235, 1, none⟩) 3 3), (21, .int .i64 3), (22, .int .i64 0), (26, .slice (some ⟨g224, 0, none⟩) 1 1), (27, .pointer (some ⟨b236, 0, none⟩)), (31, .slice (some ⟨g225, 0, none⟩) 1 1), (34, .slice (some ⟨g239, 0, none⟩) 1 1)]) (by kernel_rfl) ?_
        refine t_end ?_
        exact ⟨hg_1e3 g239, rfl⟩
    have hg_67 : G [true, true, true, false, false, true, true, false, false, false, false, false] [(2, .int .i64 i2), (3, .int .i64 n3), (8, .pointer (some ⟨b223, 0, none⟩)), (9, .slice (some ⟨g224, 0, none⟩) 1 1), (10, .slice (some ⟨g225, 0, none⟩) 1 1), (20, .slice (some ⟨N235, 1, none⟩) 3 3), (21, .int .i64 3), (22, .int .i64 0), (26, .slice (some ⟨g224, 0, none⟩) 1 1), (28, .int .i64 t228), (31, .slice (some ⟨g225, 0, none⟩) 1 1), (32, .pointer (some ⟨b236, 1, none⟩))] ([⟨b236, [.int .i64 t228, .int .i64 t229], 2⟩, ⟨N235, [.int .i64 t227, .int .i64 t228, .int .i64 t229, .int .i64 t230, .int .i64 t231, .int .i64 t232, .int .i64 t233], 7⟩, ⟨g225, [.int .i64 a0_1], 1⟩, ⟨g224, [.int .i64 a0_0], 1⟩, ⟨b223, [.int .i64 0, .int .i64 0], 2⟩, ⟨b222, [.int .i64 3, .int .i64 s1_1, .int .i64 s1_2, .int .i64 s1_3, .int .i64 s1_4, .int .i64 s1_5, .int .i64 s1_6], 7⟩, ⟨b221, [.int .i64 a0_0, .int .i64 a0_1], 2⟩] : List Own) := by
      refine hstep [3, 7] _ _ _ (by kernel_rfl) (List.cons_ne_nil _ _) ⟨?_, ?_, trivial⟩
      · show T _ _ _ _ _ _ _ _
        refine t_a (.bsl rfl rfl rfl rfl) fun g237 fg237 sg237 => ?_
        refine t_keep [2, 3, 8, 9, 10, 20, 21, 22, 26, 29, 31, 32] (σ' := [(2, .int .i64 i2), (3, .int .i64 n3), (8, .pointer (some ⟨b223, 0, none⟩)), (9, .slice (some ⟨g224, 0, none⟩) 1 1), (10, .slice (some ⟨g225, 0, none⟩) 1 1), (20, .slice (some ⟨N235, 1, none⟩) 3 3), (21, .int .i64 3), (22, .int .i64 0), (26, .slice (some ⟨g224, 0, none⟩) 1 1), (29, .slice (some ⟨g237, 0, none⟩) 1 1), (31, .slice (some ⟨g225, 0, none⟩) 1 1), (32, .pointer (some ⟨b236, 1, none⟩))]) (by kernel_rfl) ?_
        refine t_end ?_
        exact ⟨hg_6f g237, rfl⟩
      · show T _ _ _ _ _ _ _ _
        refine t_v (.ld1 rfl rfl rfl (.at 0 rfl rfl)) ?_
        refine t_keep [2, 3, 8, 9, 10, 20, 21, 22, 26, 28, 31, 33] (σ' := [(2, .int .i64 i2), (3, .int .i64 n3), (8, .pointer (some ⟨b223, 0, none⟩)), (9, .slice (some ⟨g224, 0, none⟩) 1 1), (10, .slice (some ⟨g225, 0, none⟩) 1 1), (20, .slice (some ⟨N235, 1, none⟩) 3 3), (21, .int .i64 3), (22, .int .i64 0), (26, .slice (some ⟨g224, 0, none⟩) 1 1), (28, .int .i64 t228), (31, .slice (some ⟨g225, 0, none⟩) 1 1), (33, .int .i64 t229)]) (by kernel_rfl) ?_
        refine t_end ?_
        exact ⟨hg_e7, rfl⟩
    have hg_63 : G [true, true, false, false, false, true, true, false, false, false, false, false] [(2, .int .i64 i2), (3, .int .i64 n3), (8, .pointer (some ⟨b223, 0, none⟩)), (9, .slice (some ⟨g224, 0, none⟩) 1 1), (10, .slice (some ⟨g225, 0, none⟩) 1 1), (20, .slice (some ⟨N235, 1, none⟩) 3 3), (21, .int .i64 3), (22, .int .i64 0), (26, .slice (some ⟨g224, 0, none⟩) 1 1), (27, .pointer (some ⟨b236, 0, none⟩)), (31, .slice (some ⟨g225, 0, none⟩) 1 1), (32, .pointer (some ⟨b236, 1, none⟩))] ([⟨b236, [.int .i64 t228, .int .i64 t229], 2⟩, ⟨N235, [.int .i64 t227, .int .i64 t228, .int .i64 t229, .int .i64 t230, .int .i64 t231, .int .i64 t232, .int .i64 t233], 7⟩, ⟨g225, [.int .i64 a0_1], 1⟩, ⟨g224, [.int .i64 a0_0], 1⟩, ⟨b223, [.int .i64 0, .int .i64 0], 2⟩, ⟨b222, [.int .i64 3, .int .i64 s1_1, .int .i64 s1_2, .int .i64 s1_3, .int .i64 s1_4, .int .i64 s1_5, .int .i64 s1_6], 7⟩, ⟨b221, [.int .i64 a0_0, .int .i64 a0_1], 2⟩] : List Own) := by
      refine hstep [2, 7] _ _ _ (by kernel_rfl) (List.cons_ne_nil _ _) ⟨?_, ?_, trivial⟩
      · show T _ _ _ _ _ _ _ _
        refine t_v (.ld1 rfl rfl rfl (.at 0 rfl rfl)) ?_
        refine t_keep [2, 3, 8, 9, 10, 20, 21, 22, 26, 28, 31, 32] (σ' := [(2, .int .i64 i2), (3, .int .i64 n3), (8, .pointer (some ⟨b223, 0, none⟩)), (9, .slice (some ⟨g224, 0, none⟩) 1 1), (10, .slice (some ⟨g225, 0, none⟩) 1 1), (20, .slice (some ⟨N235, 1, none⟩) 3 3), (21, .int .i64 3), (22, .int .i64 0), (26, .slice (some ⟨g224, 0, none⟩) 1 1), (28, .int .i64 t228), (31, .slice (some ⟨g225, 0, none⟩) 1 1), (32, .pointer (some ⟨b236, 1, none⟩))]) (by kernel_rfl) ?_
        refine t_end ?_
        exact ⟨hg_67, rfl⟩
      · show T _ _ _ _ _ _ _ _
        refine t_v (.ld1 rfl rfl rfl (.at 0 rfl rfl)) ?_
        refine t_keep [2, 3, 8, 9, 10, 20, 21, 22, 26, 27, 31, 33] (σ' := [(2, .int .i64 i2), (3, .int .i64 n3), (8, .pointer (some ⟨b223, 0, none⟩)), (9, .slice (some ⟨g224, 0, none⟩) 1 1), (10, .slice (some ⟨g225, 0, none⟩) 1 1), (20, .slice (some ⟨N235, 1, none⟩) 3 3), (21, .int .i64 3), (22, .int .i64 0), (26, .slice (some ⟨g224, 0, none⟩) 1 1), (27, .pointer (some ⟨b236, 0, none⟩)), (31, .slice (some ⟨g225, 0, none⟩) 1 1), (33, .int .i64 t229)]) (by kernel_rfl) ?_
        refine t_end ?_
        exact ⟨hg_e3, rfl⟩
    have hg_23 : G [true, true, false, false, false, true, false, false, false, false, false, false] [(2, .int .i64 i2), (3, .int .i64 n3), (8, .pointer (some ⟨b223, 0, none⟩)), (9, .slice (some ⟨g224, 0, none⟩) 1 1), (10, .slice (some ⟨g225, 0, none⟩) 1 1), (12, .pointer (some ⟨b236, 0, none⟩)), (20, .slice (some ⟨N235, 1, none⟩) 3 3), (21, .int .i64 3), (22, .int .i64 0), (26, .slice (some ⟨g224, 0, none⟩) 1 1), (27, .pointer (some ⟨b236, 0, none⟩)), (31, .slice (some ⟨g225, 0, none⟩) 1 1)] ([⟨b236, [.int .i64 t228, .int .i64 t229], 2⟩, ⟨N235, [.int .i64 t227, .int .i64 t228, .int .i64 t229, .int .i64 t230, .int .i64 t231, .int .i64 t232, .int .i64 t233], 7⟩, ⟨g225, [.int .i64 a0_1], 1⟩, ⟨g224, [.int .i64 a0_0], 1⟩, ⟨b223, [.int .i64 0, .int .i64 0], 2⟩, ⟨b222, [.int .i64 3, .int .i64 s1_1, .int .i64 s1_2, .int .i64 s1_3, .int .i64 s1_4, .int .i64 s1_5, .int .i64 s1_6], 7⟩, ⟨b221, [.int .i64 a0_0, .int .i64 a0_1], 2⟩] : List Own) := by
      exact hqf 6 [2, 3, 8, 9, 10, 20, 21, 22, 26, 27, 31, 32] _ _ _ [(2, .int .i64 i2), (3, .int .i64 n3), (8, .pointer (some ⟨b223, 0, none⟩)), (9, .slice (some ⟨g224, 0, none⟩) 1 1), (10, .slice (some ⟨g225, 0, none⟩) 1 1), (20, .slice (some ⟨N235, 1, none⟩) 3 3), (21, .int .i64 3), (22, .int .i64 0), (26, .slice (some ⟨g224, 0, none⟩) 1 1), (27, .pointer (some ⟨b236, 0, none⟩)), (31, .slice (some ⟨g225, 0, none⟩) 1 1), (32, .pointer (some ⟨b236, 1, none⟩))] (by kernel_rfl) (by kernel_rfl) hg_63
    have hg_3 : G [true, true, false, false, false, false, false, false, false, false, false, false] [(2, .int .i64 i2), (3, .int .i64 n3), (8, .pointer (some ⟨b223, 0, none⟩)), (9, .slice (some ⟨g224, 0, none⟩) 1 1), (10, .slice (some ⟨g225, 0, none⟩) 1 1), (12, .pointer (some ⟨b236, 0, none⟩)), (20, .slice (some ⟨N235, 1, none⟩) 3 3), (21, .int .i64 3), (22, .int .i64 0), (26, .slice (some ⟨g224, 0, none⟩) 1 1), (27, .pointer (some ⟨b236, 0, none⟩))] ([⟨b236, [.int .i64 t228, .int .i64 t229], 2⟩, ⟨N235, [.int .i64 t227, .int .i64 t228, .int .i64 t229, .int .i64 t230, .int .i64 t231, .int .i64 t232, .int .i64 t233], 7⟩, ⟨g225, [.int .i64 a0_1], 1⟩, ⟨g224, [.int .i64 a0_0], 1⟩, ⟨b223, [.int .i64 0, .int .i64 0], 2⟩, ⟨b222, [.int .i64 3, .int .i64 s1_1, .int .i64 s1_2, .int .i64 s1_3, .int .i64 s1_4, .int .i64 s1_5, .int .i64 s1_6], 7⟩, ⟨b221, [.int .i64 a0_0, .int .i64 a0_1], 2⟩] : List Own) := by
      exact hqf 5 [2, 3, 8, 9, 10, 12, 20, 21, 22, 26, 27, 31] _ _ _ [(2, .int .i64 i2), (3, .int .i64 n3), (8, .pointer (some ⟨b223, 0, none⟩)), (9, .slice (some ⟨g224, 0, none⟩) 1 1), (10, .slice (some ⟨g225, 0, none⟩) 1 1), (12, .pointer (some ⟨b236, 0, none⟩)), (20, .slice (some ⟨N235, 1, none⟩) 3 3), (21, .int .i64 3), (22, .int .i64 0), (26, .slice (some ⟨g224, 0, none⟩) 1 1), (27, .pointer (some ⟨b236, 0, none⟩)), (31, .slice (some ⟨g225, 0, none⟩) 1 1)] (by kernel_rfl) (by kernel_rfl) hg_23
    have hg_1 : G [true, false, false, false, false, false, false, false, false, false, false, false] [(2, .int .i64 i2), (3, .int .i64 n3), (8, .pointer (some ⟨b223, 0, none⟩)), (9, .slice (some ⟨g224, 0, none⟩) 1 1), (10, .slice (some ⟨g225, 0, none⟩) 1 1), (12, .pointer (some ⟨b236, 0, none⟩)), (20, .slice (some ⟨N235, 1, none⟩) 3 3), (21, .int .i64 3), (22, .int .i64 0), (26, .slice (some ⟨g224, 0, none⟩) 1 1)] ([⟨b236, [.int .i64 t228, .int .i64 t229], 2⟩, ⟨N235, [.int .i64 t227, .int .i64 t228, .int .i64 t229, .int .i64 t230, .int .i64 t231, .int .i64 t232, .int .i64 t233], 7⟩, ⟨g225, [.int .i64 a0_1], 1⟩, ⟨g224, [.int .i64 a0_0], 1⟩, ⟨b223, [.int .i64 0, .int .i64 0], 2⟩, ⟨b222, [.int .i64 3, .int .i64 s1_1, .int .i64 s1_2, .int .i64 s1_3, .int .i64 s1_4, .int .i64 s1_5, .int .i64 s1_6], 7⟩, ⟨b221, [.int .i64 a0_0, .int .i64 a0_1], 2⟩] : List Own) := by
      exact hqf 1 [2, 3, 8, 9, 10, 12, 20, 21, 22, 26, 27] _ _ _ [(2, .int .i64 i2), (3, .int .i64 n3), (8, .pointer (some ⟨b223, 0, none⟩)), (9, .slice (some ⟨g224, 0, none⟩) 1 1), (10, .slice (some ⟨g225, 0, none⟩) 1 1), (12, .pointer (some ⟨b236, 0, none⟩)), (20, .slice (some ⟨N235, 1, none⟩) 3 3), (21, .int .i64 3), (22, .int .i64 0), (26, .slice (some ⟨g224, 0, none⟩) 1 1), (27, .pointer (some ⟨b236, 0, none⟩))] (by kernel_rfl) (by kernel_rfl) hg_3
    have hg_0 : G [false, false, false, false, false, false, false, false, false, false, false, false] [(2, .int .i64 i2), (3, .int .i64 n3), (8, .pointer (some ⟨b223, 0, none⟩)), (9, .slice (some ⟨g224, 0, none⟩) 1 1), (10, .slice (some ⟨g225, 0, none⟩) 1 1), (12, .pointer (some ⟨b236, 0, none⟩)), (20, .slice (some ⟨N235, 1, none⟩) 3 3), (21, .int .i64 3), (22, .int .i64 0)] ([⟨b236, [.int .i64 t228, .int .i64 t229], 2⟩, ⟨N235, [.int .i64 t227, .int .i64 t228, .int .i64 t229, .int .i64 t230, .int .i64 t231, .int .i64 t232, .int .i64 t233], 7⟩, ⟨g225, [.int .i64 a0_1], 1⟩, ⟨g224, [.int .i64 a0_0], 1⟩, ⟨b223, [.int .i64 0, .int .i64 0], 2⟩, ⟨b222, [.int .i64 3, .int .i64 s1_1, .int .i64 s1_2, .int .i64 s1_3, .int .i64 s1_4, .int .i64 s1_5, .int .i64 s1_6], 7⟩, ⟨b221, [.int .i64 a0_0, .int .i64 a0_1], 2⟩] : List Own) := by
      exact hqf 0 [2, 3, 8, 9, 10, 12, 20, 21, 22, 26] _ _ _ [(2, .int .i64 i2), (3, .int .i64 n3), (8, .pointer (some ⟨b223, 0, none⟩)), (9, .slice (some ⟨g224, 0, none⟩) 1 1), (10, .slice (some ⟨g225, 0, none⟩) 1 1), (12, .pointer (some ⟨b236, 0, none⟩)), (20, .slice (some ⟨N235, 1, none⟩) 3 3), (21, .int .i64 3), (22, .int .i64 0), (26, .slice (some ⟨g224, 0, none⟩) 1 1)] (by kernel_rfl) (by kernel_rfl) hg_1
    exact hg_0
  have hg_7f : ∀ (g225 : Nat) (g224 : Nat), G [true, true, true, true, true, true, true, false] [(2, .int .i64 i2), (3, .int .i64 n3), (5, .pointer (some ⟨b222, 0, none⟩)), (8, .pointer (some ⟨b223, 0, none⟩)), (9, .slice (some ⟨g224, 0, none⟩) 1 1), (18, .slice (some ⟨g225, 0, none⟩) 1 1)] ([⟨g225, [.int .i64 a0_1], 1⟩, ⟨g224, [.int .i64 a0_0], 1⟩, ⟨b223, [.int .i64 0, .int .i64 0], 2⟩, ⟨b222, [.int .i64 3, .int .i64 s1_1, .int .i64 s1_2, .int .i64 s1_3, .int .i64 s1_4, .int .i64 s1_5, .int .i64 s1_6], 7⟩, ⟨b221, [.int .i64 a0_0, .int .i64 a0_1], 2⟩] : List Own) := by
    intro g225 g224
    exact hqf 7 [2, 3, 5, 8, 9, 10] _ _ _ [(2, .int .i64 i2), (3, .int .i64 n3), (5, .pointer (some ⟨b222, 0, none⟩)), (8, .pointer (some ⟨b223, 0, none⟩)), (9, .slice (some ⟨g224, 0, none⟩) 1 1), (10, .slice (some ⟨g225, 0, none⟩) 1 1)] (by kernel_rfl) (by kernel_rfl) (hg_ff g225 g224)
  have hg_3f : ∀ (g225 : Nat) (g224 : Nat), G [true, true, true, true, true, true, false, false] [(2, .int .i64 i2), (3, .int .i64 n3), (5, .pointer (some ⟨b222, 0, none⟩)), (8, .pointer (some ⟨b223, 0, none⟩)), (15, .slice (some ⟨g224, 0, none⟩) 1 1), (18, .slice (some ⟨g225, 0, none⟩) 1 1)] ([⟨g225, [.int .i64 a0_1], 1⟩, ⟨g224, [.int .i64 a0_0], 1⟩, ⟨b223, [.int .i64 0, .int .i64 0], 2⟩, ⟨b222, [.int .i64 3, .int .i64 s1_1, .int .i64 s1_2, .int .i64 s1_3, .int .i64 s1_4, .int .i64 s1_5, .int .i64 s1_6], 7⟩, ⟨b221, [.int .i64 a0_0, .int .i64 a0_1], 2⟩] : List Own) := by
    intro g225 g224
    exact hqf 6 [2, 3, 5, 8, 9, 18] _ _ _ [(2, .int .i64 i2), (3, .int .i64 n3), (5, .pointer (some ⟨b222, 0, none⟩)), (8, .pointer (some ⟨b223, 0, none⟩)), (9, .slice (some ⟨g224, 0, none⟩) 1 1), (18, .slice (some ⟨g225, 0, none⟩) 1 1)] (by kernel_rfl) (by kernel_rfl) (hg_7f g225 g224)
  have hg_5f : ∀ (g224 : Nat), G [true, true, true, true, true, false, true, false] [(2, .int .i64 i2), (3, .int .i64 n3), (5, .pointer (some ⟨b222, 0, none⟩)), (8, .pointer (some ⟨b223, 0, none⟩)), (9, .slice (some ⟨g224, 0, none⟩) 1 1), (17, .int .i64 a0_1)] ([⟨g224, [.int .i64 a0_0], 1⟩, ⟨b223, [.int .i64 0, .int .i64 0], 2⟩, ⟨b222, [.int .i64 3, .int .i64 s1_1, .int .i64 s1_2, .int .i64 s1_3, .int .i64 s1_4, .int .i64 s1_5, .int .i64 s1_6], 7⟩, ⟨b221, [.int .i64 a0_0, .int .i64 a0_1], 2⟩] : List Own) := by
    intro g224
    refine hstep [5] _ _ _ (by kernel_rfl) (List.cons_ne_nil _ _) ⟨?_, trivial⟩
    · show T _ _ _ _ _ _ _ _
      refine t_a (.bsl rfl rfl rfl rfl) fun g225 fg225 sg225 => ?_
      refine t_keep [2, 3, 5, 8, 9, 18] (σ' := [(2, .int .i64 i2), (3, .int .i64 n3), (5, .pointer (some ⟨b222, 0, none⟩)), (8, .pointer (some ⟨b223, 0, none⟩)), (9, .slice (some ⟨g224, 0, none⟩) 1 1), (18, .slice (some ⟨g225, 0, none⟩) 1 1)]) (by kernel_rfl) ?_
      refine t_end ?_
      exact ⟨hg_7f g225 g224, rfl⟩
  have hg_3b : ∀ (g225 : Nat), G [true, true, false, true, true, true, false, false] [(2, .int .i64 i2), (3, .int .i64 n3), (5, .pointer (some ⟨b222, 0, none⟩)), (8, .pointer (some ⟨b223, 0, none⟩)), (14, .int .i64 a0_0), (18, .slice (some ⟨g225, 0, none⟩) 1 1)] ([⟨g225, [.int .i64 a0_1], 1⟩, ⟨b223, [.int .i64 0, .int .i64 0], 2⟩, ⟨b222, [.int .i64 3, .int .i64 s1_1, .int .i64 s1_2, .int .i64 s1_3, .int .i64 s1_4, .int .i64 s1_5, .int .i64 s1_6], 7⟩, ⟨b221, [.int .i64 a0_0, .int .i64 a0_1], 2⟩] : List Own) := by
    intro g225
    refine hstep [2] _ _ _ (by kernel_rfl) (List.cons_ne_nil _ _) ⟨?_, trivial⟩
    · show T _ _ _ _ _ _ _ _
      refine t_a (.bsl rfl rfl rfl rfl) fun g224 fg224 sg224 => ?_
      refine t_keep [2, 3, 5, 8, 15, 18] (σ' := [(2, .int .i64 i2), (3, .int .i64 n3), (5, .pointer (some ⟨b222, 0, none⟩)), (8, .pointer (some ⟨b223, 0, none⟩)), (15, .slice (some ⟨g224, 0, none⟩) 1 1), (18, .slice (some ⟨g225, 0, none⟩) 1 1)]) (by kernel_rfl) ?_
      refine t_vs (H' := ([⟨g225, [.int .i64 a0_1], 1⟩, ⟨g224, [.int .i64 a0_0], 1⟩, ⟨b223, [.int .i64 0, .int .i64 0], 2⟩, ⟨b222, [.int .i64 3, .int .i64 s1_1, .int .i64 s1_2, .int .i64 s1_3, .int .i64 s1_4, .int .i64 s1_5, .int .i64 s1_6], 7⟩, ⟨b221, [.int .i64 a0_0, .int .i64 a0_1], 2⟩] : List Own)) (S' := S) (VS.sel [1, 0, 0, 0, 0] (by kernel_rfl)) ?_
      refine t_end ?_
      exact ⟨hg_3f g225 g224, rfl⟩
  have hg_1f : ∀ (g224 : Nat), G [true, true, true, true, true, false, false, false] [(2, .int .i64 i2), (3, .int .i64 n3), (5, .pointer (some ⟨b222, 0, none⟩)), (8, .pointer (some ⟨b223, 0, none⟩)), (15, .slice (some ⟨g224, 0, none⟩) 1 1), (17, .int .i64 a0_1)] ([⟨g224, [.int .i64 a0_0], 1⟩, ⟨b223, [.int .i64 0, .int .i64 0], 2⟩, ⟨b222, [.int .i64 3, .int .i64 s1_1, .int .i64 s1_2, .int .i64 s1_3, .int .i64 s1_4, .int .i64 s1_5, .int .i64 s1_6], 7⟩, ⟨b221, [.int .i64 a0_0, .int .i64 a0_1], 2⟩] : List Own) := by
    intro g224
    exact hqf 6 [2, 3, 5, 8, 9, 17] _ _ _ [(2, .int .i64 i2), (3, .int .i64 n3), (5, .pointer (some ⟨b222, 0, none⟩)), (8, .pointer (some ⟨b223, 0, none⟩)), (9, .slice (some ⟨g224, 0, none⟩) 1 1), (17, .int .i64 a0_1)] (by kernel_rfl) (by kernel_rfl) (hg_5f g224)
  have hg_4f : ∀ (g224 : Nat), G [true, true, true, true, false, false, true, false] [(2, .int .i64 i2), (3, .int .i64 n3), (5, .pointer (some ⟨b222, 0, none⟩)), (8, .pointer (some ⟨b223, 0, none⟩)), (9, .slice (some ⟨g224, 0, none⟩) 1 1), (16, .pointer (some ⟨b221, 1, none⟩))] ([⟨g224, [.int .i64 a0_0], 1⟩, ⟨b223, [.int .i64 0, .int .i64 0], 2⟩, ⟨b222, [.int .i64 3, .int .i64 s1_1, .int .i64 s1_2, .int .i64 s1_3, .int .i64 s1_4, .int .i64 s1_5, .int .i64 s1_6], 7⟩, ⟨b221, [.int .i64 a0_0, .int .i64 a0_1], 2⟩] : List Own) := by
    intro g224
    refine hstep [4] _ _ _ (by kernel_rfl) (List.cons_ne_nil _ _) ⟨?_, trivial⟩
    · show T _ _ _ _ _ _ _ _
      refine t_v (.ld1 rfl rfl rfl (.at 3 rfl rfl)) ?_
      refine t_keep [2, 3, 5, 8, 9, 17] (σ' := [(2, .int .i64 i2), (3, .int .i64 n3), (5, .pointer (some ⟨b222, 0, none⟩)), (8, .pointer (some ⟨b223, 0, none⟩)), (9, .slice (some ⟨g224, 0, none⟩) 1 1), (17, .int .i64 a0_1)]) (by kernel_rfl) ?_
      refine t_end ?_
      exact ⟨hg_5f g224, rfl⟩
  have hg_f : ∀ (g224 : Nat), G [true, true, true, true, false, false, false, false] [(2, .int .i64 i2), (3, .int .i64 n3), (5, .pointer (some ⟨b222, 0, none⟩)), (8, .pointer (some ⟨b223, 0, none⟩)), (15, .slice (some ⟨g224, 0, none⟩) 1 1), (16, .pointer (some ⟨b221, 1, none⟩))] ([⟨g224, [.int .i64 a0_0], 1⟩, ⟨b223, [.int .i64 0, .int .i64 0], 2⟩, ⟨b222, [.int .i64 3, .int .i64 s1_1, .int .i64 s1_2, .int .i64 s1_3, .int .i64 s1_4, .int .i64 s1_5, .int .i64 s1_6], 7⟩, ⟨b221, [.int .i64 a0_0, .int .i64 a0_1], 2⟩] : List Own) := by
    intro g224
    exact hqf 6 [2, 3, 5, 8, 9, 16] _ _ _ [(2, .int .i64 i2), (3, .int .i64 n3), (5, .pointer (some ⟨b222, 0, none⟩)), (8, .pointer (some ⟨b223, 0, none⟩)), (9, .slice (some ⟨g224, 0, none⟩) 1 1), (16, .pointer (some ⟨b221, 1, none⟩))] (by kernel_rfl) (by kernel_rfl) (hg_4f g224)
  have hg_1b : G [true, true, false, true, true, false, false, false] [(2, .int .i64 i2), (3, .int .i64 n3), (5, .pointer (some ⟨b222, 0, none⟩)), (8, .pointer (some ⟨b223, 0, none⟩)), (14, .int .i64 a0_0), (17, .int .i64 a0_1)] ([⟨b223, [.int .i64 0, .int .i64 0], 2⟩, ⟨b222, [.int .i64 3, .int .i64 s1_1, .int .i64 s1_2, .int .i64 s1_3, .int .i64 s1_4, .int .i64 s1_5, .int .i64 s1_6], 7⟩, ⟨b221, [.int .i64 a0_0, .int .i64 a0_1], 2⟩] : List Own) := by
    refine hstep [2, 5] _ _ _ (by kernel_rfl) (List.cons_ne_nil _ _) ⟨?_, ?_, trivial⟩
    · show T _ _ _ _ _ _ _ _
      refine t_a (.bsl rfl rfl rfl rfl) fun g224 fg224 sg224 => ?_
      refine t_keep [2, 3, 5, 8, 15, 17] (σ' := [(2, .int .i64 i2), (3, .int .i64 n3), (5, .pointer (some ⟨b222, 0, none⟩)), (8, .pointer (some ⟨b223, 0, none⟩)), (15, .slice (some ⟨g224, 0, none⟩) 1 1), (17, .int .i64 a0_1)]) (by kernel_rfl) ?_
      refine t_end ?_
      exact ⟨hg_1f g224, rfl⟩
    · show T _ _ _ _ _ _ _ _
      refine t_a (.bsl rfl rfl rfl rfl) fun g225 fg225 sg225 => ?_
      refine t_keep [2, 3, 5, 8, 14, 18] (σ' := [(2, .int .i64 i2), (3, .int .i64 n3), (5, .pointer (some ⟨b222, 0, none⟩)), (8, .pointer (some ⟨b223, 0, none⟩)), (14, .int .i64 a0_0), (18, .slice (some ⟨g225, 0, none⟩) 1 1)]) (by kernel_rfl) ?_
      refine t_end ?_
      exact ⟨hg_3b g225, rfl⟩
  have hg_39 : ∀ (g225 : Nat), G [true, false, false, true, true, true, false, false] [(2, .int .i64 i2), (3, .int .i64 n3), (5, .pointer (some ⟨b222, 0, none⟩)), (8, .pointer (some ⟨b223, 0, none⟩)), (13, .pointer (some ⟨b221, 0, none⟩)), (18, .slice (some ⟨g225, 0, none⟩) 1 1)] ([⟨g225, [.int .i64 a0_1], 1⟩, ⟨b223, [.int .i64 0, .int .i64 0], 2⟩, ⟨b222, [.int .i64 3, .int .i64 s1_1, .int .i64 s1_2, .int .i64 s1_3, .int .i64 s1_4, .int .i64 s1_5, .int .i64 s1_6], 7⟩, ⟨b221, [.int .i64 a0_0, .int .i64 a0_1], 2⟩] : List Own) := by
    intro g225
    refine hstep [1] _ _ _ (by kernel_rfl) (List.cons_ne_nil _ _) ⟨?_, trivial⟩
    · show T _ _ _ _ _ _ _ _
      refine t_v (.ld1 rfl rfl rfl (.at 3 rfl rfl)) ?_
      refine t_keep [2, 3, 5, 8, 14, 18] (σ' := [(2, .int .i64 i2), (3, .int .i64 n3), (5, .pointer (some ⟨b222, 0, none⟩)), (8, .pointer (some ⟨b223, 0, none⟩)), (14, .int .i64 a0_0), (18, .slice (some ⟨g225, 0, none⟩) 1 1)]) (by kernel_rfl) ?_
      refine t_end ?_
      exact ⟨hg_3b g225, rfl⟩
  have hg_b : G [true, true, false, true, false, false, false, false] [(2, .int .i64 i2), (3, .int .i64 n3), (5, .pointer (some ⟨b222, 0, none⟩)), (8, .pointer (some ⟨b223, 0, none⟩)), (14, .int .i64 a0_0), (16, .pointer (some ⟨b221, 1, none⟩))] ([⟨b223, [.int .i64 0, .int .i64 0], 2⟩, ⟨b222, [.int .i64 3, .int .i64 s1_1, .int .i64 s1_2, .int .i64 s1_3, .int .i64 s1_4, .int .i64 s1_5, .int .i64 s1_6], 7⟩, ⟨b221, [.int .i64 a0_0, .int .i64 a0_1], 2⟩] : List Own) := by
    refine hstep [2, 4] _ _ _ (by kernel_rfl) (List.cons_ne_nil _ _) ⟨?_, ?_, trivial⟩
    · show T _ _ _ _ _ _ _ _
      refine t_a (.bsl rfl rfl rfl rfl) fun g224 fg224 sg224 => ?_
      refine t_keep [2, 3, 5, 8, 15, 16] (σ' := [(2, .int .i64 i2), (3, .int .i64 n3), (5, .pointer (some ⟨b222, 0, none⟩)), (8, .pointer (some ⟨b223, 0, none⟩)), (15, .slice (some ⟨g224, 0, none⟩) 1 1), (16, .pointer (some ⟨b221, 1, none⟩))]) (by kernel_rfl) ?_
      refine t_end ?_
      exact ⟨hg_f g224, rfl⟩
    · show T _ _ _ _ _ _ _ _
      refine t_v (.ld1 rfl rfl rfl (.at 2 rfl rfl)) ?_
      refine t_keep [2, 3, 5, 8, 14, 17] (σ' := [(2, .int .i64 i2), (3, .int .i64 n3), (5, .pointer (some ⟨b222, 0, none⟩)), (8, .pointer (some ⟨b223, 0, none⟩)), (14, .int .i64 a0_0), (17, .int .i64 a0_1)]) (by kernel_rfl) ?_
      refine t_end ?_
      exact ⟨hg_1b, rfl⟩
  have hg_19 : G [true, false, false, true, true, false, false, false] [(2, .int .i64 i2), (3, .int .i64 n3), (5, .pointer (some ⟨b222, 0, none⟩)), (8, .pointer (some ⟨b223, 0, none⟩)), (13, .pointer (some ⟨b221, 0, none⟩)), (17, .int .i64 a0_1)] ([⟨b223, [.int .i64 0, .int .i64 0], 2⟩, ⟨b222, [.int .i64 3, .int .i64 s1_1, .int .i64 s1_2, .int .i64 s1_3, .int .i64 s1_4, .int .i64 s1_5, .int .i64 s1_6], 7⟩, ⟨b221, [.int .i64 a0_0, .int .i64 a0_1], 2⟩] : List Own) := by
    refine hstep [1, 5] _ _ _ (by kernel_rfl) (List.cons_ne_nil _ _) ⟨?_, ?_, trivial⟩
    · show T _ _ _ _ _ _ _ _
      refine t_v (.ld1 rfl rfl rfl (.at 2 rfl rfl)) ?_
      refine t_keep [2, 3, 5, 8, 14, 17] (σ' := [(2, .int .i64 i2), (3, .int .i64 n3), (5, .pointer (some ⟨b222, 0, none⟩)), (8, .pointer (some ⟨b223, 0, none⟩)), (14, .int .i64 a0_0), (17, .int .i64 a0_1)]) (by kernel_rfl) ?_
      refine t_end ?_
      exact ⟨hg_1b, rfl⟩
    · show T _ _ _ _ _ _ _ _
      refine t_a (.bsl rfl rfl rfl rfl) fun g225 fg225 sg225 => ?_
      refine t_keep [2, 3, 5, 8, 13, 18] (σ' := [(2, .int .i64 i2), (3, .int .i64 n3), (5, .pointer (some ⟨b222, 0, none⟩)), (8, .pointer (some ⟨b223, 0, none⟩)), (13, .pointer (some ⟨b221, 0, none⟩)), (18, .slice (some ⟨g225, 0, none⟩) 1 1)]) (by kernel_rfl) ?_
      refine t_end ?_
      exact ⟨hg_39 g225, rfl⟩
  have hg_9 : G [true, false, false, true, false, false, false, false] [(2, .int .i64 i2), (3, .int .i64 n3), (5, .pointer (some ⟨b222, 0, none⟩)), (8, .pointer (some ⟨b223, 0, none⟩)), (13, .pointer (some ⟨b221, 0, none⟩)), (16, .pointer (some ⟨b221, 1, none⟩))] ([⟨b223, [.int .i64 0, .int .i64 0], 2⟩, ⟨b222, [.int .i64 3, .int .i64 s1_1, .int .i64 s1_2, .int .i64 s1_3, .int .i64 s1_4, .int .i64 s1_5, .int .i64 s1_6], 7⟩, ⟨b221, [.int .i64 a0_0, .int .i64 a0_1], 2⟩] : List Own) := by
    refine hstep [1, 4] _ _ _ (by kernel_rfl) (List.cons_ne_nil _ _) ⟨?_, ?_, trivial⟩
    · show T _ _ _ _ _ _ _ _
      refine t_v (.ld1 rfl rfl rfl (.at 2 rfl rfl)) ?_
      refine t_keep [2, 3, 5, 8, 14, 16] (σ' := [(2, .int .i64 i2), (3, .int .i64 n3), (5, .pointer (some ⟨b222, 0, none⟩)), (8, .pointer (some ⟨b223, 0, none⟩)), (14, .int .i64 a0_0), (16, .pointer (some ⟨b221, 1, none⟩))]) (by kernel_rfl) ?_
      refine t_end ?_
      exact ⟨hg_b, rfl⟩
    · show T _ _ _ _ _ _ _ _
      refine t_v (.ld1 rfl rfl rfl (.at 2 rfl rfl)) ?_
      refine t_keep [2, 3, 5, 8, 13, 17] (σ' := [(2, .int .i64 i2), (3, .int .i64 n3), (5, .pointer (some ⟨b222, 0, none⟩)), (8, .pointer (some ⟨b223, 0, none⟩)), (13, .pointer (some ⟨b221, 0, none⟩)), (17, .int .i64 a0_1)]) (by kernel_rfl) ?_
      refine t_end ?_
      exact ⟨hg_19, rfl⟩
  have hg_1 : G [true, false, false, false, false, false, false, false] [(2, .int .i64 i2), (3, .int .i64 n3), (4, .pointer (some ⟨b221, 0, none⟩)), (5, .pointer (some ⟨b222, 0, none⟩)), (8, .pointer (some ⟨b223, 0, none⟩)), (13, .pointer (some ⟨b221, 0, none⟩))] ([⟨b223, [.int .i64 0, .int .i64 0], 2⟩, ⟨b222, [.int .i64 3, .int .i64 s1_1, .int .i64 s1_2, .int .i64 s1_3, .int .i64 s1_4, .int .i64 s1_5, .int .i64 s1_6], 7⟩, ⟨b221, [.int .i64 a0_0, .int .i64 a0_1], 2⟩] : List Own) := by
    exact hqf 3 [2, 3, 5, 8, 13, 16] _ _ _ [(2, .int .i64 i2), (3, .int .i64 n3), (5, .pointer (some ⟨b222, 0, none⟩)), (8, .pointer (some ⟨b223, 0, none⟩)), (13, .pointer (some ⟨b221, 0, none⟩)), (16, .pointer (some ⟨b221, 1, none⟩))] (by kernel_rfl) (by kernel_rfl) hg_9
  have hg_0 : G [false, false, false, false, false, false, false, false] [(2, .int .i64 i2), (3, .int .i64 n3), (4, .pointer (some ⟨b221, 0, none⟩)), (5, .pointer (some ⟨b222, 0, none⟩)), (8, .pointer (some ⟨b223, 0, none⟩))] ([⟨b223, [.int .i64 0, .int .i64 0], 2⟩, ⟨b222, [.int .i64 3, .int .i64 s1_1, .int .i64 s1_2, .int .i64 s1_3, .int .i64 s1_4, .int .i64 s1_5, .int .i64 s1_6], 7⟩, ⟨b221, [.int .i64 a0_0, .int .i64 a0_1], 2⟩] : List Own) := by
    exact hqf 0 [2, 3, 4, 5, 8, 13] _ _ _ [(2, .int .i64 i2), (3, .int .i64 n3), (4, .pointer (some ⟨b221, 0, none⟩)), (5, .pointer (some ⟨b222, 0, none⟩)), (8, .pointer (some ⟨b223, 0, none⟩)), (13, .pointer (some ⟨b221, 0, none⟩))] (by kernel_rfl) (by kernel_rfl) hg_1
  exact hg_0

def flatten_Path_v2.l1 : Nat → Int → Int → Int → Int → Int → Int → Int → Int → Int → Int → Int → List (Int × Int × Int × Int) → Int → Int → Option (Int × Int × List (Int × Int × Int × Int))
  | 0, _, _, _, _, _, _, _, _, _, _, _, _, _, _ => none
  | k + 1, m0_0, m0_1, m0_2, m0_3, m0_4, m0_5, m0_6, x146, x147, t154, x157, y159, x160, x161 => if x157 ≤ t154 then (if m0_0 = 1 then ((flatten_Point_v2.f x146 x147 m0_1 m0_2 m0_3 m0_4 m0_5 m0_6 x157 t154).bind fun (t164, t165) => ((flatten_Path_1_v2.f t164 t165 x160 x161 y159).bind fun (t167, t168, t169) => (flatten_Path_v2.l1 k m0_0 m0_1 m0_2 m0_3 m0_4 m0_5 m0_6 x146 x147 t154 (wr64 (x157 + 1)) t167 t168 t169))) else (if m0_0 = 2 then ((flatten_Point_v3.f x146 x147 m0_1 m0_2 m0_3 m0_4 m0_5 m0_6 x157 t154).bind fun (t174, t175) => ((flatten_Path_1_v2.f t174 t175 x160 x161 y159).bind fun (t177, t178, t179) => (flatten_Path_v2.l1 k m0_0 m0_1 m0_2 m0_3 m0_4 m0_5 m0_6 x146 x147 t154 (wr64 (x157 + 1)) t177 t178 t179))) else (if m0_0 = 3 then ((flatten_Point_v4.f x146 x147 m0_1 m0_2 m0_3 m0_4 m0_5 m0_6 x157 t154).bind fun (t184, t185) => ((flatten_Path_1_v2.f t184 t185 x160 x161 y159).bind fun (t187, t188, t189) => (flatten_Path_v2.l1 k m0_0 m0_1 m0_2 m0_3 m0_4 m0_5 m0_6 x146 x147 t154 (wr64 (x157 + 1)) t187 t188 t189))) else (none)))) else (some (x160, x161, y159))
def flatten_Path_v2.l0 : Nat → Int → Int → Int → Int → Int → Int → Int → Int → List (Int × Int × Int × Int) → Int → Int → Option (Int × Int × List (Int × Int × Int × Int))
  | 0, _, _, _, _, _, _, _, _, _, _, _ => none
  | k + 1, m0_0, m0_1, m0_2, m0_3, m0_4, m0_5, m0_6, x143, y145, x146, x147 => if x143 < 1 then ((if x143 = 0 then ((flatten_Count.f k x146 x147 m0_0 m0_1 m0_2 m0_3 m0_4 m0_5 m0_6).bind fun t154 => (flatten_Path_v2.l1 k m0_0 m0_1 m0_2 m0_3 m0_4 m0_5 m0_6 x146 x147 t154 1 y145 x146 x147)) else (none) : Option (Int × Int × List (Int × Int × Int × Int))).bind fun (x194, x195, y197) => (flatten_Path_v2.l0 k m0_0 m0_1 m0_2 m0_3 m0_4 m0_5 m0_6 (wr64 (x143 + 1)) y197 x194 x195)) else (some (x146, x147, y145))
def flatten_Path_v2.f (k : Nat) (p0_0 : Int) (p0_1 : Int) (p0_3 : Bool) (shut1 : Bool) (m0_0 : Int) (m0_1 : Int) (m0_2 : Int) (m0_3 : Int) (m0_4 : Int) (m0_5 : Int) (m0_6 : Int) : Option (List (Int × Int × Int × Int)) := (flatten_Path_v2.l0 k m0_0 m0_1 m0_2 m0_3 m0_4 m0_5 m0_6 0 ([] : List (Int × Int × Int × Int)) p0_0 p0_1 : Option (Int × Int × List (Int × Int × Int × Int))).bind fun (x200, x201, y203) => (if shut1 = true then ((flatten_Path_1_v2.f p0_0 p0_1 x200 x201 y203).bind fun (t205, t206, t207) => (some t205)) else (if p0_3 = true then ((flatten_Path_1_v2.f p0_0 p0_1 x200 x201 y203).bind fun (t211, t212, t213) => (some t211)) else (some y203)))
theorem flatten_Path_v2.ok {S : Seal} {B0 : Nat} {k : Nat} {p0_0 : Int} {p0_1 : Int} {p0_3 : Bool} {shut1 : Bool} {m0_0 : Int} {m0_1 : Int} {m0_2 : Int} {m0_3 : Int} {m0_4 : Int} {m0_5 : Int} {m0_6 : Int} {r0_ : List (Int × Int × Int × Int)}(e : flatten_Path_v2.f k p0_0 p0_1 p0_3 shut1 m0_0 m0_1 m0_2 m0_3 m0_4 m0_5 m0_6 = some r0_) :
    Cal Try.prog 28 [.agg #[.int .i64 p0_0, .int .i64 p0_1, .slice (some ⟨B0, 0, none⟩) 1 1, .bool p0_3], .bool shut1] ([⟨B0, [.int .i64 m0_0, .int .i64 m0_1, .int .i64 m0_2, .int .i64 m0_3, .int .i64 m0_4, .int .i64 m0_5, .int .i64 m0_6], 7⟩] : List Own) S fun v H' S' => ∃ (N0_ : Option Nat) (nN0_ : Nat) , v = .slice (ad N0_) r0_.length (nN0_ / 4) ∧ H' = ([⟨N0_, encL E_i644 r0_, nN0_⟩, ⟨B0, [.int .i64 m0_0, .int .i64 m0_1, .int .i64 m0_2, .int .i64 m0_3, .int .i64 m0_4, .int .i64 m0_5, .int .i64 m0_6], 7⟩] : List Own) ∧ S' = S := by
  unfold flatten_Path_v2.f at e
  refine cal_of (c := c28) (N := 50) Try.func28 rfl rfl (by kernel_rfl) (rs := [.t 4]) (by kernel_rfl) (Nat.le_of_ble_eq_true rfl) ?_
  unfold c28
  refine w_seq ?_
  refine w_reg fun all => ?_
  refine t_a (.box rfl rfl rfl) fun b137 fb137 sb137 => ?_
  refine t_qz 1 [1, 2] (σ' := [(1, .bool shut1), (2, .pointer (some ⟨b137, 0, none⟩))]) (by kernel_rfl) ?_
  refine t_end ?_
  show W _ _ _ _ _ _ _
  refine w_seq ?_
  refine w_reg fun all => ?_
  refine t_a (.new rfl rfl) fun b138 fb138 sb138 => ?_
  refine t_keep [1, 2, 5] (σ' := [(1, .bool shut1), (2, .pointer (some ⟨b137, 0, none⟩)), (5, .pointer (some ⟨b138, 0, none⟩))]) (by kernel_rfl) ?_
  refine t_end ?_
  show W _ _ _ _ _ _ _
  refine w_seq ?_
  refine w_reg fun all => ?_
  refine t_qz 1 [1, 2, 5, 13] (σ' := [(1, .bool shut1), (2, .pointer (some ⟨b137, 0, none⟩)), (5, .pointer (some ⟨b138, 0, none⟩)), (13, .pointer (some ⟨b137, 0, none⟩))]) (by kernel_rfl) ?_
  refine t_v (.ldn rfl rfl rfl (.at 1 rfl rfl)) ?_
  refine t_a (.new rfl rfl) fun b139 fb139 sb139 => ?_
  refine t_sti 0 (cs := [.int .i64 p0_0, .int .i64 p0_1]) rfl rfl rfl rfl rfl rfl rfl rfl rfl ?_
  refine t_keep [1, 2, 5, 6] (σ' := [(1, .bool shut1), (2, .pointer (some ⟨b137, 0, none⟩)), (5, .pointer (some ⟨b138, 0, none⟩)), (6, .pointer (some ⟨b139, 0, none⟩))]) (by kernel_rfl) ?_
  refine t_end ?_
  show W _ _ _ _ _ _ _
  refine w_seq ?_
  refine w_reg fun all => ?_
  refine t_qz 2 [1, 2, 5, 6, 7] (σ' := [(1, .bool shut1), (2, .pointer (some ⟨b137, 0, none⟩)), (5, .pointer (some ⟨b138, 0, none⟩)), (6, .pointer (some ⟨b139, 0, none⟩)), (7, .func (.func 67) #[] #[.pointer (some ⟨b139, 0, none⟩), .pointer (some ⟨b138, 0, none⟩)])]) (by kernel_rfl) ?_
  refine t_end ?_
  show W _ _ _ _ _ _ _
  obtain ⟨⟨x200, x201, y203⟩, e141, e⟩ := bind_of e
  try dsimp only at e
  refine w_cut [1, 2, 5, 7] (fun σ_ H_ S_ => ∃ (a202 : Option Nat) (na202 : Nat), [(1, .bool shut1), (2, .pointer (some ⟨b137, 0, none⟩)), (5, .pointer (some ⟨b138, 0, none⟩)), (7, .func (.func 67) #[] #[.pointer (some ⟨b139, 0, none⟩), .pointer (some ⟨b138, 0, none⟩)])] = σ_ ∧ ([⟨b139, [.int .i64 x200, .int .i64 x201], 2⟩, ⟨b138, [.slice (ad a202) y203.length (na202 / 4)], 1⟩, ⟨b137, [.int .i64 p0_0, .int .i64 p0_1, .slice (some ⟨B0, 0, none⟩) 1 1, .bool p0_3], 4⟩, ⟨B0, [.int .i64 m0_0, .int .i64 m0_1, .int .i64 m0_2, .int .i64 m0_3, .int .i64 m0_4, .int .i64 m0_5, .int .i64 m0_6], 7⟩, ⟨a202, encL E_i644 y203, na202⟩] : List Own) = H_ ∧ S = S_) ?_ ?_
  · show W _ _ _ _ _ _ _
    refine w_seq ?_
    refine w_reg fun all => ?_
    refine t_qz 1 [1, 2, 5, 6, 7, 16] (σ' := [(1, .bool shut1), (2, .pointer (some ⟨b137, 0, none⟩)), (5, .pointer (some ⟨b138, 0, none⟩)), (6, .pointer (some ⟨b139, 0, none⟩)), (7, .func (.func 67) #[] #[.pointer (some ⟨b139, 0, none⟩), .pointer (some ⟨b138, 0, none⟩)]), (16, .pointer (some ⟨b137, 2, none⟩))]) (by kernel_rfl) ?_
    refine t_v (.ld1 rfl rfl rfl (.at 2 rfl rfl)) ?_
    refine t_qz 2 [1, 2, 5, 6, 7, 17, 18, 19] (σ' := [(1, .bool shut1), (2, .pointer (some ⟨b137, 0, none⟩)), (5, .pointer (some ⟨b138, 0, none⟩)), (6, .pointer (some ⟨b139, 0, none⟩)), (7, .func (.func 67) #[] #[.pointer (some ⟨b139, 0, none⟩), .pointer (some ⟨b138, 0, none⟩)]), (17, .slice (some ⟨B0, 0, none⟩) 1 1), (18, .int .i64 1), (19, .int .i64 0)]) (by kernel_rfl) ?_
    refine t_end ?_
    show W _ _ _ _ _ _ _
    refine w_block ?_
    refine w_vs VS.vac ?_
    refine w_kp [1, 2, 5, 6, 7, 17, 18, 19] (σ' := [(1, .bool shut1), (2, .pointer (some ⟨b137, 0, none⟩)), (5, .pointer (some ⟨b138, 0, none⟩)), (6, .pointer (some ⟨b139, 0, none⟩)), (7, .func (.func 67) #[] #[.pointer (some ⟨b139, 0, none⟩), .pointer (some ⟨b138, 0, none⟩)]), (17, .slice (some ⟨B0, 0, none⟩) 1 1), (18, .int .i64 1), (19, .int .i64 0)]) (by kernel_rfl) ?_
    refine w_loop (fun n_ σ_ H_ S_ => ∃ (x143 : Int) (y145 : List (Int × Int × Int × Int)) (x146 : Int) (x147 : Int), ∃ (a144 : Option Nat) (na144 : Nat), [(1, .bool shut1), (2, .pointer (some ⟨b137, 0, none⟩)), (5, .pointer (some ⟨b138, 0, none⟩)), (6, .pointer (some ⟨b139, 0, none⟩)), (7, .func (.func 67) #[] #[.pointer (some ⟨b139, 0, none⟩), .pointer (some ⟨b138, 0, none⟩)]), (17, .slice (some ⟨B0, 0, none⟩) 1 1), (18, .int .i64 1), (19, .int .i64 x143)] = σ_ ∧ ([⟨a144, encL E_i644 y145, na144⟩, ⟨b139, [.int .i64 x146, .int .i64 x147], 2⟩, ⟨b138, [.slice (ad a144) y145.length (na144 / 4)], 1⟩, ⟨b137, [.int .i64 p0_0, .int .i64 p0_1, .slice (some ⟨B0, 0, none⟩) 1 1, .bool p0_3], 4⟩, ⟨B0, [.int .i64 m0_0, .int .i64 m0_1, .int .i64 m0_2, .int .i64 m0_3, .int .i64 m0_4, .int .i64 m0_5, .int .i64 m0_6], 7⟩] : List Own) = H_ ∧ S = S_ ∧ flatten_Path_v2.l0 n_ m0_0 m0_1 m0_2 m0_3 m0_4 m0_5 m0_6 x143 y145 x146 x147 = some (x200, x201, y203)) _ ⟨0, ([] : List (Int × Int × Int × Int)), p0_0, p0_1, none, 0, rfl, rfl, rfl, e141⟩ ?_
    rintro n199 σ_ H_ S_ ⟨x143, y145, x146, x147, a144, na144, rfl, rfl, rfl, e141⟩
    cases n199 with
    | zero => rw [flatten_Path_v2.l0.eq_1] at e141; cases e141
    | succ k_ =>
      rw [flatten_Path_v2.l0.eq_2] at e141
      refine w_seq ?_
      refine w_reg fun all => ?_
      by_cases c148 : x143 < 1
      · rw [if_pos c148] at e141
        have c148b : (decide (x143 < 1)) = true := decide_eq_true c148
        refine t_v (dv_quiet rfl (congrArg (fun t => some (Value.bool t)) c148b)) ?_
        refine t_keep [1, 2, 5, 6, 7, 17, 18, 19, 20] (σ' := [(1, .bool shut1), (2, .pointer (some ⟨b137, 0, none⟩)), (5, .pointer (some ⟨b138, 0, none⟩)), (6, .pointer (some ⟨b139, 0, none⟩)), (7, .func (.func 67) #[] #[.pointer (some ⟨b139, 0, none⟩), .pointer (some ⟨b138, 0, none⟩)]), (17, .slice (some ⟨B0, 0, none⟩) 1 1), (18, .int .i64 1), (19, .int .i64 x143), (20, .bool true)]) (by kernel_rfl) ?_
        refine t_end ?_
        show W _ _ _ _ _ _ _
        refine w_seq ?_
        refine w_cond rfl (fun _ => ?_) (fun c_ => by cases c_)
        show W _ _ _ _ _ _ _
        refine w_skip ?_
        show W _ _ _ _ _ _ _
        obtain ⟨⟨x194, x195, y197⟩, e150, e141⟩ := bind_of e141
        try dsimp only at e141
        refine w_cut [1, 2, 5, 6, 7, 17, 18, 19] (fun σ_ H_ S_ => ∃ (a196 : Option Nat) (na196 : Nat), [(1, .bool shut1), (2, .pointer (some ⟨b137, 0, none⟩)), (5, .pointer (some ⟨b138, 0, none⟩)), (6, .pointer (some ⟨b139, 0, none⟩)), (7, .func (.func 67) #[] #[.pointer (some ⟨b139, 0, none⟩), .pointer (some ⟨b138, 0, none⟩)]), (17, .slice (some ⟨B0, 0, none⟩) 1 1), (18, .int .i64 1), (19, .int .i64 x143)] = σ_ ∧ ([⟨b139, [.int .i64 x194, .int .i64 x195], 2⟩, ⟨b138, [.slice (ad a196) y197.length (na196 / 4)], 1⟩, ⟨b137, [.int .i64 p0_0, .int .i64 p0_1, .slice (some ⟨B0, 0, none⟩) 1 1, .bool p0_3], 4⟩, ⟨B0, [.int .i64 m0_0, .int .i64 m0_1, .int .i64 m0_2, .int .i64 m0_3, .int .i64 m0_4, .int .i64 m0_5, .int .i64 m0_6], 7⟩, ⟨a196, encL E_i644 y197, na196⟩] : List Own) = H_ ∧ S = S_) ?_ ?_
        · show W _ _ _ _ _ _ _
          refine w_block ?_
          refine w_seq ?_
          refine w_reg fun all => ?_
          by_cases c152 : x143 = 0
          · rw [if_pos c152] at e150
            have c152b : (x143 == 0) = true := beq_iff_eq.mpr c152
            refine t_v (.quiet rfl (ixs_at (j := 0) (u := .pointer (some ⟨B0, 0, none⟩)) rfl c152b (by kernel_rfl))) ?_
            refine t_v (.ldn rfl rfl rfl (.at 4 rfl rfl)) ?_
            refine t_a (.new rfl rfl) fun b153 fb153 sb153 => ?_
            refine t_sti 0 (cs := [.int .i64 m0_0, .int .i64 m0_1, .int .i64 m0_2, .int .i64 m0_3, .int .i64 m0_4, .int .i64 m0_5, .int .i64 m0_6]) rfl rfl rfl rfl rfl rfl rfl rfl rfl ?_
            refine t_keep [1, 2, 5, 6, 7, 9, 17, 18, 19] (σ' := [(1, .bool shut1), (2, .pointer (some ⟨b137, 0, none⟩)), (5, .pointer (some ⟨b138, 0, none⟩)), (6, .pointer (some ⟨b139, 0, none⟩)), (7, .func (.func 67) #[] #[.pointer (some ⟨b139, 0, none⟩), .pointer (some ⟨b138, 0, none⟩)]), (9, .pointer (some ⟨b153, 0, none⟩)), (17, .slice (some ⟨B0, 0, none⟩) 1 1), (18, .int .i64 1), (19, .int .i64 x143)]) (by kernel_rfl) ?_
            refine t_end ?_
            show W _ _ _ _ _ _ _
            refine w_seq ?_
            obtain ⟨t154, h155, e150⟩ := bind_of e150
            refine w_drwE mixed 5 [.v (.agg #[.int .i64 x146, .int .i64 x147]), .v (.agg #[.int .i64 x146, .int .i64 x147]), .v (.agg #[.int .i64 m0_0, .int .i64 m0_1, .int .i64 m0_2, .int .i64 m0_3, .int .i64 m0_4, .int .i64 m0_5, .int .i64 m0_6]), .v (.int .i64 t154), .a [.int .i64 0, .int .i64 0] ptrTo] (by kernel_rfl) ?_ ?_
            · refine .cons (.ldn rfl rfl rfl (.at 2 rfl rfl)) ?_
              refine .cons (.ldn rfl rfl rfl (.at 2 rfl rfl)) ?_
              refine .cons (.ldn rfl rfl rfl (.at 0 rfl rfl)) ?_
              refine .cons (.call (vs := [.agg #[.int .i64 x146, .int .i64 x147], .agg #[.int .i64 m0_0, .int .i64 m0_1, .int .i64 m0_2, .int .i64 m0_3, .int .i64 m0_4, .int .i64 m0_5, .int .i64 m0_6]]) rfl rfl (by kernel_rfl) (flatten_Count.ok h155)) ?_
              refine .cons (.new rfl rfl) ?_
              exact .nil
            refine fk_q 4 [1, 2, 5, 6, 7, 9, 17, 18, 19, 23, 26] (σ' := [(1, .bool shut1), (2, .pointer (some ⟨b137, 0, none⟩)), (5, .pointer (some ⟨b138, 0, none⟩)), (6, .pointer (some ⟨b139, 0, none⟩)), (7, .func (.func 67) #[] #[.pointer (some ⟨b139, 0, none⟩), .pointer (some ⟨b138, 0, none⟩)]), (9, .pointer (some ⟨b153, 0, none⟩)), (17, .slice (some ⟨B0, 0, none⟩) 1 1), (18, .int .i64 1), (19, .int .i64 x143), (23, .agg #[.int .i64 x146, .int .i64 x147]), (26, .int .i64 t154)]) t_more (by kernel_rfl) ?_
            refine fk_a fun b156 fb156 sb156 => ?_
            refine fk_nil fun all => ?_
            refine t_sti 0 (cs := [.int .i64 x146, .int .i64 x147]) rfl rfl rfl rfl rfl rfl rfl rfl rfl ?_
            refine t_qz 1 [1, 2, 5, 6, 7, 9, 10, 11, 17, 18, 19] (σ' := [(1, .bool shut1), (2, .pointer (some ⟨b137, 0, none⟩)), (5, .pointer (some ⟨b138, 0, none⟩)), (6, .pointer (some ⟨b139, 0, none⟩)), (7, .func (.func 67) #[] #[.pointer (some ⟨b139, 0, none⟩), .pointer (some ⟨b138, 0, none⟩)]), (9, .pointer (some ⟨b153, 0, none⟩)), (10, .pointer (some ⟨b156, 0, none⟩)), (11, .int .i64 t154), (17, .slice (some ⟨B0, 0, none⟩) 1 1), (18, .int .i64 1), (19, .int .i64 x143)]) (by kernel_rfl) ?_
            refine t_end ?_
            show W _ _ _ _ _ _ _
            refine w_seq ?_
            refine w_reg fun all => ?_
            refine t_qz 1 [1, 2, 5, 6, 7, 9, 10, 11, 12, 17, 18, 19] (σ' := [(1, .bool shut1), (2, .pointer (some ⟨b137, 0, none⟩)), (5, .pointer (some ⟨b138, 0, none⟩)), (6, .pointer (some ⟨b139, 0, none⟩)), (7, .func (.func 67) #[] #[.pointer (some ⟨b139, 0, none⟩), .pointer (some ⟨b138, 0, none⟩)]), (9, .pointer (some ⟨b153, 0, none⟩)), (10, .pointer (some ⟨b156, 0, none⟩)), (11, .int .i64 t154), (12, .int .i64 1), (17, .slice (some ⟨B0, 0, none⟩) 1 1), (18, .int .i64 1), (19, .int .i64 x143)]) (by kernel_rfl) ?_
            refine t_end ?_
            show W _ _ _ _ _ _ _
            refine w_block ?_
            refine w_kp [1, 2, 5, 6, 7, 9, 10, 11, 12, 17, 18, 19] (σ' := [(1, .bool shut1), (2, .pointer (some ⟨b137, 0, none⟩)), (5, .pointer (some ⟨b138, 0, none⟩)), (6, .pointer (some ⟨b139, 0, none⟩)), (7, .func (.func 67) #[] #[.pointer (some ⟨b139, 0, none⟩), .pointer (some ⟨b138, 0, none⟩)]), (9, .pointer (some ⟨b153, 0, none⟩)), (10, .pointer (some ⟨b156, 0, none⟩)), (11, .int .i64 t154), (12, .int .i64 1), (17, .slice (some ⟨B0, 0, none⟩) 1 1), (18, .int .i64 1), (19, .int .i64 x143)]) (by kernel_rfl) ?_
            refine w_loop (fun n_ σ_ H_ S_ => ∃ (x157 : Int) (y159 : List (Int × Int × Int × Int)) (x160 : Int) (x161 : Int), ∃ (a158 : Option Nat) (na158 : Nat), [(1, .bool shut1), (2, .pointer (some ⟨b137, 0, none⟩)), (5, .pointer (some ⟨b138, 0, none⟩)), (6, .pointer (some ⟨b139, 0, none⟩)), (7, .func (.func 67) #[] #[.pointer (some ⟨b139, 0, none⟩), .pointer (some ⟨b138, 0, none⟩)]), (9, .pointer (some ⟨b153, 0, none⟩)), (10, .pointer (some ⟨b156, 0, none⟩)), (11, .int .i64 t154), (12, .int .i64 x157), (17, .slice (some ⟨B0, 0, none⟩) 1 1), (18, .int .i64 1), (19, .int .i64 x143)] = σ_ ∧ ([⟨b156, [.int .i64 x146, .int .i64 x147], 2⟩, ⟨b153, [.int .i64 m0_0, .int .i64 m0_1, .int .i64 m0_2, .int .i64 m0_3, .int .i64 m0_4, .int .i64 m0_5, .int .i64 m0_6], 7⟩, ⟨a158, encL E_i644 y159, na158⟩, ⟨b139, [.int .i64 x160, .int .i64 x161], 2⟩, ⟨b138, [.slice (ad a158) y159.length (na158 / 4)], 1⟩, ⟨b137, [.int .i64 p0_0, .int .i64 p0_1, .slice (some ⟨B0, 0, none⟩) 1 1, .bool p0_3], 4⟩, ⟨B0, [.int .i64 m0_0, .int .i64 m0_1, .int .i64 m0_2, .int .i64 m0_3, .int .i64 m0_4, .int .i64 m0_5, .int .i64 m0_6], 7⟩] : List Own) = H_ ∧ S = S_ ∧ flatten_Path_v2.l1 n_ m0_0 m0_1 m0_2 m0_3 m0_4 m0_5 m0_6 x146 x147 t154 x157 y159 x160 x161 = some (x194, x195, y197)) _ ⟨1, y145, x146, x147, a144, na144, rfl, rfl, rfl, e150⟩ ?_
            rintro n193 σ_ H_ S_ ⟨x157, y159, x160, x161, a158, na158, rfl, rfl, rfl, e150⟩
            cases n193 with
            | zero => rw [flatten_Path_v2.l1.eq_1] at e150; cases e150
            | succ k_ =>
              rw [flatten_Path_v2.l1.eq_2] at e150
              refine w_seq ?_
              refine w_seq ?_
              refine w_reg fun all => ?_
              by_cases c162 : x157 ≤ t154
              · rw [if_pos c162] at e150
                have c162b : (decide (x157 ≤ t154)) = true := decide_eq_true c162
                refine t_qz 2 [1, 2, 5, 6, 7, 9, 10, 11, 12, 17, 18, 19, 27, 28] (σ' := [(1, .bool shut1), (2, .pointer (some ⟨b137, 0, none⟩)), (5, .pointer (some ⟨b138, 0, none⟩)), (6, .pointer (some ⟨b139, 0, none⟩)), (7, .func (.func 67) #[] #[.pointer (some ⟨b139, 0, none⟩), .pointer (some ⟨b138, 0, none⟩)]), (9, .pointer (some ⟨b153, 0, none⟩)), (10, .pointer (some ⟨b156, 0, none⟩)), (11, .int .i64 t154), (12, .int .i64 x157), (17, .slice (some ⟨B0, 0, none⟩) 1 1), (18, .int .i64 1), (19, .int .i64 x143), (27, .int .i64 x157), (28, .int .i64 t154)]) (by kernel_rfl) ?_
                refine t_v (dv_quiet rfl (congrArg (fun t => some (Value.bool t)) c162b)) ?_
                refine t_keep [1, 2, 5, 6, 7, 9, 10, 11, 12, 17, 18, 19, 29] (σ' := [(1, .bool shut1), (2, .pointer (some ⟨b137, 0, none⟩)), (5, .pointer (some ⟨b138, 0, none⟩)), (6, .pointer (some ⟨b139, 0, none⟩)), (7, .func (.func 67) #[] #[.pointer (some ⟨b139, 0, none⟩), .pointer (some ⟨b138, 0, none⟩)]), (9, .pointer (some ⟨b153, 0, none⟩)), (10, .pointer (some ⟨b156, 0, none⟩)), (11, .int .i64 t154), (12, .int .i64 x157), (17, .slice (some ⟨B0, 0, none⟩) 1 1), (18, .int .i64 1), (19, .int .i64 x143), (29, .bool true)]) (by kernel_rfl) ?_
                refine t_end ?_
                show W _ _ _ _ _ _ _
                refine w_cond rfl (fun _ => ?_) (fun c_ => by cases c_)
                show W _ _ _ _ _ _ _
                refine w_skip ?_
                show W _ _ _ _ _ _ _
                refine w_seq ?_
                refine w_block ?_
                refine w_reg fun all => ?_
                refine t_qz 1 [1, 2, 5, 6, 7, 9, 10, 11, 12, 17, 18, 19, 32] (σ' := [(1, .bool shut1), (2, .pointer (some ⟨b137, 0, none⟩)), (5, .pointer (some ⟨b138, 0, none⟩)), (6, .pointer (some ⟨b139, 0, none⟩)), (7, .func (.func 67) #[] #[.pointer (some ⟨b139, 0, none⟩), .pointer (some ⟨b138, 0, none⟩)]), (9, .pointer (some ⟨b153, 0, none⟩)), (10, .pointer (some ⟨b156, 0, none⟩)), (11, .int .i64 t154), (12, .int .i64 x157), (17, .slice (some ⟨B0, 0, none⟩) 1 1), (18, .int .i64 1), (19, .int .i64 x143), (32, .func (.func 67) #[] #[.pointer (some ⟨b139, 0, none⟩), .pointer (some ⟨b138, 0, none⟩)])]) (by kernel_rfl) ?_
                refine t_v (.ldn rfl rfl rfl (.at 0 rfl rfl)) ?_
                refine t_v (.ldn rfl rfl rfl (.at 1 rfl rfl)) ?_
                by_cases c163 : m0_0 = 1
                · rw [if_pos c163] at e150
                  have c163b : (m0_0 == 1) = true := beq_iff_eq.mpr c163
                  obtain ⟨⟨t164, t165⟩, h166, e150⟩ := bind_of e150
                  try dsimp only at e150
                  refine t_qz 2 [1, 2, 5, 6, 7, 9, 10, 11, 12, 17, 18, 19, 32, 33, 34, 35, 36] (σ' := [(1, .bool shut1), (2, .pointer (some ⟨b137, 0, none⟩)), (5, .pointer (some ⟨b138, 0, none⟩)), (6, .pointer (some ⟨b139, 0, none⟩)), (7, .func (.func 67) #[] #[.pointer (some ⟨b139, 0, none⟩), .pointer (some ⟨b138, 0, none⟩)]), (9, .pointer (some ⟨b153, 0, none⟩)), (10, .pointer (some ⟨b156, 0, none⟩)), (11, .int .i64 t154), (12, .int .i64 x157), (17, .slice (some ⟨B0, 0, none⟩) 1 1), (18, .int .i64 1), (19, .int .i64 x143), (32, .func (.func 67) #[] #[.pointer (some ⟨b139, 0, none⟩), .pointer (some ⟨b138, 0, none⟩)]), (33, .agg #[.int .i64 x146, .int .i64 x147]), (34, .agg #[.int .i64 m0_0, .int .i64 m0_1, .int .i64 m0_2, .int .i64 m0_3, .int .i64 m0_4, .int .i64 m0_5, .int .i64 m0_6]), (35, .int .i64 x157), (36, .int .i64 t154)]) (by kernel_rfl) ?_
                  refine t_v (.call (vs := [.agg #[.int .i64 x146, .int .i64 x147], .agg #[.int .i64 1, .int .i64 m0_1, .int .i64 m0_2, .int .i64 m0_3, .int .i64 m0_4, .int .i64 m0_5, .int .i64 m0_6], .int .i64 x157, .int .i64 t154]) rfl rfl (Eq.trans (b := (some [.agg #[.int .i64 x146, .int .i64 x147], .agg #[.int .i64 m0_0, .int .i64 m0_1, .int .i64 m0_2, .int .i64 m0_3, .int .i64 m0_4, .int .i64 m0_5, .int .i64 m0_6], .int .i64 x157, .int .i64 t154] : Option (List Value))) (by kernel_rfl) (congrArg (fun q_ => (some [.agg #[.int .i64 x146, .int .i64 x147], .agg #[.int .i64 q_, .int .i64 m0_1, .int .i64 m0_2, .int .i64 m0_3, .int .i64 m0_4, .int .i64 m0_5, .int .i64 m0_6], .int .i64 x157, .int .i64 t154] : Option (List Value))) c163)) (flatten_Point_v2.ok h166)) ?_
                  obtain ⟨⟨t167, t168, t169⟩, h170, e150⟩ := bind_of e150
                  try dsimp only at e150
                  refine t_clo (caps := #[.pointer (some ⟨b139, 0, none⟩), .pointer (some ⟨b138, 0, none⟩)]) (vs := [.agg #[.int .i64 t164, .int .i64 t165]]) (H1 := ([⟨b139, [.int .i64 x160, .int .i64 x161], 2⟩, ⟨b138, [.slice (ad a158) y159.length (na158 / 4)], 1⟩, ⟨a158, encL E_i644 y159, na158⟩] : List Own)) (F := ([⟨b156, [.int .i64 x146, .int .i64 x147], 2⟩, ⟨b153, [.int .i64 m0_0, .int .i64 m0_1, .int .i64 m0_2, .int .i64 m0_3, .int .i64 m0_4, .int .i64 m0_5, .int .i64 m0_6], 7⟩, ⟨b137, [.int .i64 p0_0, .int .i64 p0_1, .slice (some ⟨B0, 0, none⟩) 1 1, .bool p0_3], 4⟩, ⟨B0, [.int .i64 m0_0, .int .i64 m0_1, .int .i64 m0_2, .int .i64 m0_3, .int .i64 m0_4, .int .i64 m0_5, .int .i64 m0_6], 7⟩] : List Own)) rfl rfl rfl (by kernel_rfl) (by kernel_rfl) (sel_perm (is := [3, 3, 2]) (by kernel_rfl)) (flatten_Path_1_v2.ok h170) ?_
                  rintro _ _ S_ ⟨N171, nN171, rfl, rfl, hS_⟩
                  obtain rfl := hS_.symm
                  refine t_keep [1, 2, 5, 6, 7, 9, 10, 11, 12, 17, 18, 19] (σ' := [(1, .bool shut1), (2, .pointer (some ⟨b137, 0, none⟩)), (5, .pointer (some ⟨b138, 0, none⟩)), (6, .pointer (some ⟨b139, 0, none⟩)), (7, .func (.func 67) #[] #[.pointer (some ⟨b139, 0, none⟩), .pointer (some ⟨b138, 0, none⟩)]), (9, .pointer (some ⟨b153, 0, none⟩)), (10, .pointer (some ⟨b156, 0, none⟩)), (11, .int .i64 t154), (12, .int .i64 x157), (17, .slice (some ⟨B0, 0, none⟩) 1 1), (18, .int .i64 1), (19, .int .i64 x143)]) (by kernel_rfl) ?_
                  refine t_end ?_
                  show W _ _ _ _ _ _ _
                  refine w_reg fun all => ?_
                  refine t_qz 3 [1, 2, 5, 6, 7, 9, 10, 11, 12, 17, 18, 19] (σ' := [(1, .bool shut1), (2, .pointer (some ⟨b137, 0, none⟩)), (5, .pointer (some ⟨b138, 0, none⟩)), (6, .pointer (some ⟨b139, 0, none⟩)), (7, .func (.func 67) #[] #[.pointer (some ⟨b139, 0, none⟩), .pointer (some ⟨b138, 0, none⟩)]), (9, .pointer (some ⟨b153, 0, none⟩)), (10, .pointer (some ⟨b156, 0, none⟩)), (11, .int .i64 t154), (12, .int .i64 (wr64 (x157 + 1))), (17, .slice (some ⟨B0, 0, none⟩) 1 1), (18, .int .i64 1), (19, .int .i64 x143)]) (by kernel_rfl) ?_
                  refine t_end ?_
                  exact ⟨k_, Nat.lt_succ_self _, [(1, .bool shut1), (2, .pointer (some ⟨b137, 0, none⟩)), (5, .pointer (some ⟨b138, 0, none⟩)), (6, .pointer (some ⟨b139, 0, none⟩)), (7, .func (.func 67) #[] #[.pointer (some ⟨b139, 0, none⟩), .pointer (some ⟨b138, 0, none⟩)]), (9, .pointer (some ⟨b153, 0, none⟩)), (10, .pointer (some ⟨b156, 0, none⟩)), (11, .int .i64 t154), (12, .int .i64 (wr64 (x157 + 1))), (17, .slice (some ⟨B0, 0, none⟩) 1 1), (18, .int .i64 1), (19, .int .i64 x143)], ([⟨b156, [.int .i64 x146, .int .i64 x147], 2⟩, ⟨b153, [.int .i64 m0_0, .int .i64 m0_1, .int .i64 m0_2, .int .i64 m0_3, .int .i64 m0_4, .int .i64 m0_5, .int .i64 m0_6], 7⟩, ⟨N171, encL E_i644 t167, nN171⟩, ⟨b139, [.int .i64 t168, .int .i64 t169], 2⟩, ⟨b138, [.slice (ad N171) t167.length (nN171 / 4)], 1⟩, ⟨b137, [.int .i64 p0_0, .int .i64 p0_1, .slice (some ⟨B0, 0, none⟩) 1 1, .bool p0_3], 4⟩, ⟨B0, [.int .i64 m0_0, .int .i64 m0_1, .int .i64 m0_2, .int .i64 m0_3, .int .i64 m0_4, .int .i64 m0_5, .int .i64 m0_6], 7⟩] : List Own), S, keep_sub [1, 2, 5, 6, 7, 9, 10, 11, 12, 17, 18, 19] (by kernel_rfl), VS.sel [3, 3, 0, 0, 0, 0, 0] (by kernel_rfl), wr64 (x157 + 1), t167, t168, t169, N171, nN171, rfl, rfl, rfl, e150⟩
                · rw [if_neg c163] at e150
                  have c163b : (m0_0 == 1) = false := beq_eq_false_iff_ne.mpr c163
                  by_cases c173 : m0_0 = 2
                  · rw [if_pos c173] at e150
                    have c173b : (m0_0 == 2) = true := beq_iff_eq.mpr c173
                    obtain ⟨⟨t174, t175⟩, h176, e150⟩ := bind_of e150
                    try dsimp only at e150
                    refine t_qz 2 [1, 2, 5, 6, 7, 9, 10, 11, 12, 17, 18, 19, 32, 33, 34, 35, 36] (σ' := [(1, .bool shut1), (2, .pointer (some ⟨b137, 0, none⟩)), (5, .pointer (some ⟨b138, 0, none⟩)), (6, .pointer (some ⟨b139, 0, none⟩)), (7, .func (.func 67) #[] #[.pointer (some ⟨b139, 0, none⟩), .pointer (some ⟨b138, 0, none⟩)]), (9, .pointer (some ⟨b153, 0, none⟩)), (10, .pointer (some ⟨b156, 0, none⟩)), (11, .int .i64 t154), (12, .int .i64 x157), (17, .slice (some ⟨B0, 0, none⟩) 1 1), (18, .int .i64 1), (19, .int .i64 x143), (32, .func (.func 67) #[] #[.pointer (some ⟨b139, 0, none⟩), .pointer (some ⟨b138, 0, none⟩)]), (33, .agg #[.int .i64 x146, .int .i64 x147]), (34, .agg #[.int .i64 m0_0, .int .i64 m0_1, .int .i64 m0_2, .int .i64 m0_3, .int .i64 m0_4, .int .i64 m0_5, .int .i64 m0_6]), (35, .int .i64 x157), (36, .int .i64 t154)]) (by kernel_rfl) ?_
                    refine t_v (.call (vs := [.agg #[.int .i64 x146, .int .i64 x147], .agg #[.int .i64 2, .int .i64 m0_1, .int .i64 m0_2, .int .i64 m0_3, .int .i64 m0_4, .int .i64 m0_5, .int .i64 m0_6], .int .i64 x157, .int .i64 t154]) rfl rfl (Eq.trans (b := (some [.agg #[.int .i64 x146, .int .i64 x147], .agg #[.int .i64 m0_0, .int .i64 m0_1, .int .i64 m0_2, .int .i64 m0_3, .int .i64 m0_4, .int .i64 m0_5, .int .i64 m0_6], .int .i64 x157, .int .i64 t154] : Option (List Value))) (by kernel_rfl) (congrArg (fun q_ => (some [.agg #[.int .i64 x146, .int .i64 x147], .agg #[.int .i64 q_, .int .i64 m0_1, .int .i64 m0_2, .int .i64 m0_3, .int .i64 m0_4, .int .i64 m0_5, .int .i64 m0_6], .int .i64 x157, .int .i64 t154] : Option (List Value))) c173)) (flatten_Point_v3.ok h176)) ?_
                    obtain ⟨⟨t177, t178, t179⟩, h180, e150⟩ := bind_of e150
                    try dsimp only at e150
                    refine t_clo (caps := #[.pointer (some ⟨b139, 0, none⟩), .pointer (some ⟨b138, 0, none⟩)]) (vs := [.agg #[.int .i64 t174, .int .i64 t175]]) (H1 := ([⟨b139, [.int .i64 x160, .int .i64 x161], 2⟩, ⟨b138, [.slice (ad a158) y159.length (na158 / 4)], 1⟩, ⟨a158, encL E_i644 y159, na158⟩] : List Own)) (F := ([⟨b156, [.int .i64 x146, .int .i64 x147], 2⟩, ⟨b153, [.int .i64 m0_0, .int .i64 m0_1, .int .i64 m0_2, .int .i64 m0_3, .int .i64 m0_4, .int .i64 m0_5, .int .i64 m0_6], 7⟩, ⟨b137, [.int .i64 p0_0, .int .i64 p0_1, .slice (some ⟨B0, 0, none⟩) 1 1, .bool p0_3], 4⟩, ⟨B0, [.int .i64 m0_0, .int .i64 m0_1, .int .i64 m0_2, .int .i64 m0_3, .int .i64 m0_4, .int .i64 m0_5, .int .i64 m0_6], 7⟩] : List Own)) rfl rfl rfl (by kernel_rfl) (by kernel_rfl) (sel_perm (is := [3, 3, 2]) (by kernel_rfl)) (flatten_Path_1_v2.ok h180) ?_
                    rintro _ _ S_ ⟨N181, nN181, rfl, rfl, hS_⟩
                    obtain rfl := hS_.symm
                    refine t_keep [1, 2, 5, 6, 7, 9, 10, 11, 12, 17, 18, 19] (σ' := [(1, .bool shut1), (2, .pointer (some ⟨b137, 0, none⟩)), (5, .pointer (some ⟨b138, 0, none⟩)), (6, .pointer (some ⟨b139, 0, none⟩)), (7, .func (.func 67) #[] #[.pointer (some ⟨b139, 0, none⟩), .pointer (some ⟨b138, 0, none⟩)]), (9, .pointer (some ⟨b153, 0, none⟩)), (10, .pointer (some ⟨b156, 0, none⟩)), (11, .int .i64 t154), (12, .int .i64 x157), (17, .slice (some ⟨B0, 0, none⟩) 1 1), (18, .int .i64 1), (19, .int .i64 x143)]) (by kernel_rfl) ?_
                    refine t_end ?_
                    show W _ _ _ _ _ _ _
                    refine w_reg fun all => ?_
                    refine t_qz 3 [1, 2, 5, 6, 7, 9, 10, 11, 12, 17, 18, 19] (σ' := [(1, .bool shut1), (2, .pointer (some ⟨b137, 0, none⟩)), (5, .pointer (some ⟨b138, 0, none⟩)), (6, .pointer (some ⟨b139, 0, none⟩)), (7, .func (.func 67) #[] #[.pointer (some ⟨b139, 0, none⟩), .pointer (some ⟨b138, 0, none⟩)]), (9, .pointer (some ⟨b153, 0, none⟩)), (10, .pointer (some ⟨b156, 0, none⟩)), (11, .int .i64 t154), (12, .int .i64 (wr64 (x157 + 1))), (17, .slice (some ⟨B0, 0, none⟩) 1 1), (18, .int .i64 1), (19, .int .i64 x143)]) (by kernel_rfl) ?_
                    refine t_end ?_
                    exact ⟨k_, Nat.lt_succ_self _, [(1, .bool shut1), (2, .pointer (some ⟨b137, 0, none⟩)), (5, .pointer (some ⟨b138, 0, none⟩)), (6, .pointer (some ⟨b139, 0, none⟩)), (7, .func (.func 67) #[] #[.pointer (some ⟨b139, 0, none⟩), .pointer (some ⟨b138, 0, none⟩)]), (9, .pointer (some ⟨b153, 0, none⟩)), (10, .pointer (some ⟨b156, 0, none⟩)), (11, .int .i64 t154), (12, .int .i64 (wr64 (x157 + 1))), (17, .slice (some ⟨B0, 0, none⟩) 1 1), (18, .int .i64 1), (19, .int .i64 x143)], ([⟨b156, [.int .i64 x146, .int .i64 x147], 2⟩, ⟨b153, [.int .i64 m0_0, .int .i64 m0_1, .int .i64 m0_2, .int .i64 m0_3, .int .i64 m0_4, .int .i64 m0_5, .int .i64 m0_6], 7⟩, ⟨N181, encL E_i644 t177, nN181⟩, ⟨b139, [.int .i64 t178, .int .i64 t179], 2⟩, ⟨b138, [.slice (ad N181) t177.length (nN181 / 4)], 1⟩, ⟨b137, [.int .i64 p0_0, .int .i64 p0_1, .slice (some ⟨B0, 0, none⟩) 1 1, .bool p0_3], 4⟩, ⟨B0, [.int .i64 m0_0, .int .i64 m0_1, .int .i64 m0_2, .int .i64 m0_3, .int .i64 m0_4, .int .i64 m0_5, .int .i64 m0_6], 7⟩] : List Own), S, keep_sub [1, 2, 5, 6, 7, 9, 10, 11, 12, 17, 18, 19] (by kernel_rfl), VS.sel [3, 3, 0, 0, 0, 0, 0] (by kernel_rfl), wr64 (x157 + 1), t177, t178, t179, N181, nN181, rfl, rfl, rfl, e150⟩
                  · rw [if_neg c173] at e150
                    have c173b : (m0_0 == 2) = false := beq_eq_false_iff_ne.mpr c173
                    by_cases c183 : m0_0 = 3
                    · rw [if_pos c183] at e150
                      have c183b : (m0_0 == 3) = true := beq_iff_eq.mpr c183
                      obtain ⟨⟨t184, t185⟩, h186, e150⟩ := bind_of e150
                      try dsimp only at e150
                      refine t_qz 2 [1, 2, 5, 6, 7, 9, 10, 11, 12, 17, 18, 19, 32, 33, 34, 35, 36] (σ' := [(1, .bool shut1), (2, .pointer (some ⟨b137, 0, none⟩)), (5, .pointer (some ⟨b138, 0, none⟩)), (6, .pointer (some ⟨b139, 0, none⟩)), (7, .func (.func 67) #[] #[.pointer (some ⟨b139, 0, none⟩), .pointer (some ⟨b138, 0, none⟩)]), (9, .pointer (some ⟨b153, 0, none⟩)), (10, .pointer (some ⟨b156, 0, none⟩)), (11, .int .i64 t154), (12, .int .i64 x157), (17, .slice (some ⟨B0, 0, none⟩) 1 1), (18, .int .i64 1), (19, .int .i64 x143), (32, .func (.func 67) #[] #[.pointer (some ⟨b139, 0, none⟩), .pointer (some ⟨b138, 0, none⟩)]), (33, .agg #[.int .i64 x146, .int .i64 x147]), (34, .agg #[.int .i64 m0_0, .int .i64 m0_1, .int .i64 m0_2, .int .i64 m0_3, .int .i64 m0_4, .int .i64 m0_5, .int .i64 m0_6]), (35, .int .i64 x157), (36, .int .i64 t154)]) (by kernel_rfl) ?_
                      refine t_v (.call (vs := [.agg #[.int .i64 x146, .int .i64 x147], .agg #[.int .i64 3, .int .i64 m0_1, .int .i64 m0_2, .int .i64 m0_3, .int .i64 m0_4, .int .i64 m0_5, .int .i64 m0_6], .int .i64 x157, .int .i64 t154]) rfl rfl (Eq.trans (b := (some [.agg #[.int .i64 x146, .int .i64 x147], .agg #[.int .i64 m0_0, .int .i64 m0_1, .int .i64 m0_2, .int .i64 m0_3, .int .i64 m0_4, .int .i64 m0_5, .int .i64 m0_6], .int .i64 x157, .int .i64 t154] : Option (List Value))) (by kernel_rfl) (congrArg (fun q_ => (some [.agg #[.int .i64 x146, .int .i64 x147], .agg #[.int .i64 q_, .int .i64 m0_1, .int .i64 m0_2, .int .i64 m0_3, .int .i64 m0_4, .int .i64 m0_5, .int .i64 m0_6], .int .i64 x157, .int .i64 t154] : Option (List Value))) c183)) (flatten_Point_v4.ok h186)) ?_
                      obtain ⟨⟨t187, t188, t189⟩, h190, e150⟩ := bind_of e150
                      try dsimp only at e150
                      refine t_clo (caps := #[.pointer (some ⟨b139, 0, none⟩), .pointer (some ⟨b138, 0, none⟩)]) (vs := [.agg #[.int .i64 t184, .int .i64 t185]]) (H1 := ([⟨b139, [.int .i64 x160, .int .i64 x161], 2⟩, ⟨b138, [.slice (ad a158) y159.length (na158 / 4)], 1⟩, ⟨a158, encL E_i644 y159, na158⟩] : List Own)) (F := ([⟨b156, [.int .i64 x146, .int .i64 x147], 2⟩, ⟨b153, [.int .i64 m0_0, .int .i64 m0_1, .int .i64 m0_2, .int .i64 m0_3, .int .i64 m0_4, .int .i64 m0_5, .int .i64 m0_6], 7⟩, ⟨b137, [.int .i64 p0_0, .int .i64 p0_1, .slice (some ⟨B0, 0, none⟩) 1 1, .bool p0_3], 4⟩, ⟨B0, [.int .i64 m0_0, .int .i64 m0_1, .int .i64 m0_2, .int .i64 m0_3, .int .i64 m0_4, .int .i64 m0_5, .int .i64 m0_6], 7⟩] : List Own)) rfl rfl rfl (by kernel_rfl) (by kernel_rfl) (sel_perm (is := [3, 3, 2]) (by kernel_rfl)) (flatten_Path_1_v2.ok h190) ?_
                      rintro _ _ S_ ⟨N191, nN191, rfl, rfl, hS_⟩
                      obtain rfl := hS_.symm
                      refine t_keep [1, 2, 5, 6, 7, 9, 10, 11, 12, 17, 18, 19] (σ' := [(1, .bool shut1), (2, .pointer (some ⟨b137, 0, none⟩)), (5, .pointer (some ⟨b138, 0, none⟩)), (6, .pointer (some ⟨b139, 0, none⟩)), (7, .func (.func 67) #[] #[.pointer (some ⟨b139, 0, none⟩), .pointer (some ⟨b138, 0, none⟩)]), (9, .pointer (some ⟨b153, 0, none⟩)), (10, .pointer (some ⟨b156, 0, none⟩)), (11, .int .i64 t154), (12, .int .i64 x157), (17, .slice (some ⟨B0, 0, none⟩) 1 1), (18, .int .i64 1), (19, .int .i64 x143)]) (by kernel_rfl) ?_
                      refine t_end ?_
                      show W _ _ _ _ _ _ _
                      refine w_reg fun all => ?_
                      refine t_qz 3 [1, 2, 5, 6, 7, 9, 10, 11, 12, 17, 18, 19] (σ' := [(1, .bool shut1), (2, .pointer (some ⟨b137, 0, none⟩)), (5, .pointer (some ⟨b138, 0, none⟩)), (6, .pointer (some ⟨b139, 0, none⟩)), (7, .func (.func 67) #[] #[.pointer (some ⟨b139, 0, none⟩), .pointer (some ⟨b138, 0, none⟩)]), (9, .pointer (some ⟨b153, 0, none⟩)), (10, .pointer (some ⟨b156, 0, none⟩)), (11, .int .i64 t154), (12, .int .i64 (wr64 (x157 + 1))), (17, .slice (some ⟨B0, 0, none⟩) 1 1), (18, .int .i64 1), (19, .int .i64 x143)]) (by kernel_rfl) ?_
                      refine t_end ?_
                      exact ⟨k_, Nat.lt_succ_self _, [(1, .bool shut1), (2, .pointer (some ⟨b137, 0, none⟩)), (5, .pointer (some ⟨b138, 0, none⟩)), (6, .pointer (some ⟨b139, 0, none⟩)), (7, .func (.func 67) #[] #[.pointer (some ⟨b139, 0, none⟩), .pointer (some ⟨b138, 0, none⟩)]), (9, .pointer (some ⟨b153, 0, none⟩)), (10, .pointer (some ⟨b156, 0, none⟩)), (11, .int .i64 t154), (12, .int .i64 (wr64 (x157 + 1))), (17, .slice (some ⟨B0, 0, none⟩) 1 1), (18, .int .i64 1), (19, .int .i64 x143)], ([⟨b156, [.int .i64 x146, .int .i64 x147], 2⟩, ⟨b153, [.int .i64 m0_0, .int .i64 m0_1, .int .i64 m0_2, .int .i64 m0_3, .int .i64 m0_4, .int .i64 m0_5, .int .i64 m0_6], 7⟩, ⟨N191, encL E_i644 t187, nN191⟩, ⟨b139, [.int .i64 t188, .int .i64 t189], 2⟩, ⟨b138, [.slice (ad N191) t187.length (nN191 / 4)], 1⟩, ⟨b137, [.int .i64 p0_0, .int .i64 p0_1, .slice (some ⟨B0, 0, none⟩) 1 1, .bool p0_3], 4⟩, ⟨B0, [.int .i64 m0_0, .int .i64 m0_1, .int .i64 m0_2, .int .i64 m0_3, .int .i64 m0_4, .int .i64 m0_5, .int .i64 m0_6], 7⟩] : List Own), S, keep_sub [1, 2, 5, 6, 7, 9, 10, 11, 12, 17, 18, 19] (by kernel_rfl), VS.sel [3, 3, 0, 0, 0, 0, 0] (by kernel_rfl), wr64 (x157 + 1), t187, t188, t189, N191, nN191, rfl, rfl, rfl, e150⟩
                    · rw [if_neg c183] at e150
                      have c183b : (m0_0 == 3) = false := beq_eq_false_iff_ne.mpr c183
                      cases e150
              · rw [if_neg c162] at e150
                have c162b : (decide (x157 ≤ t154)) = false := decide_eq_false c162
                refine t_qz 2 [1, 2, 5, 6, 7, 9, 10, 11, 12, 17, 18, 19, 27, 28] (σ' := [(1, .bool shut1), (2, .pointer (some ⟨b137, 0, none⟩)), (5, .pointer (some ⟨b138, 0, none⟩)), (6, .pointer (some ⟨b139, 0, none⟩)), (7, .func (.func 67) #[] #[.pointer (some ⟨b139, 0, none⟩), .pointer (some ⟨b138, 0, none⟩)]), (9, .pointer (some ⟨b153, 0, none⟩)), (10, .pointer (some ⟨b156, 0, none⟩)), (11, .int .i64 t154), (12, .int .i64 x157), (17, .slice (some ⟨B0, 0, none⟩) 1 1), (18, .int .i64 1), (19, .int .i64 x143), (27, .int .i64 x157), (28, .int .i64 t154)]) (by kernel_rfl) ?_
                refine t_v (dv_quiet rfl (congrArg (fun t => some (Value.bool t)) c162b)) ?_
                refine t_keep [1, 2, 5, 6, 7, 9, 10, 11, 12, 17, 18, 19, 29] (σ' := [(1, .bool shut1), (2, .pointer (some ⟨b137, 0, none⟩)), (5, .pointer (some ⟨b138, 0, none⟩)), (6, .pointer (some ⟨b139, 0, none⟩)), (7, .func (.func 67) #[] #[.pointer (some ⟨b139, 0, none⟩), .pointer (some ⟨b138, 0, none⟩)]), (9, .pointer (some ⟨b153, 0, none⟩)), (10, .pointer (some ⟨b156, 0, none⟩)), (11, .int .i64 t154), (12, .int .i64 x157), (17, .slice (some ⟨B0, 0, none⟩) 1 1), (18, .int .i64 1), (19, .int .i64 x143), (29, .bool false)]) (by kernel_rfl) ?_
                refine t_end ?_
                show W _ _ _ _ _ _ _
                refine w_cond rfl (fun c_ => by cases c_) (fun _ => ?_)
                show W _ _ _ _ _ _ _
                refine w_exit ?_
                simp only [Option.some.injEq, Prod.mk.injEq] at e150
                obtain ⟨rfl, rfl, rfl⟩ := e150
                exact ⟨([⟨b139, [.int .i64 x160, .int .i64 x161], 2⟩, ⟨b138, [.slice (ad a158) y159.length (na158 / 4)], 1⟩, ⟨b137, [.int .i64 p0_0, .int .i64 p0_1, .slice (some ⟨B0, 0, none⟩) 1 1, .bool p0_3], 4⟩, ⟨B0, [.int .i64 m0_0, .int .i64 m0_1, .int .i64 m0_2, .int .i64 m0_3, .int .i64 m0_4, .int .i64 m0_5, .int .i64 m0_6], 7⟩, ⟨a158, encL E_i644 y159, na158⟩] : List Own), S, VS.sel [3, 3, 3, 3, 2] (by kernel_rfl), a158, na158, by kernel_rfl, rfl, rfl⟩
          · rw [if_neg c152] at e150
            have c152b : (x143 == 0) = false := beq_eq_false_iff_ne.mpr c152
            cases e150
        · rintro σ_ H_ S_ ⟨a196, na196, rfl, rfl, rfl⟩
          refine w_reg fun all => ?_
          refine t_qz 2 [1, 2, 5, 6, 7, 17, 18, 19] (σ' := [(1, .bool shut1), (2, .pointer (some ⟨b137, 0, none⟩)), (5, .pointer (some ⟨b138, 0, none⟩)), (6, .pointer (some ⟨b139, 0, none⟩)), (7, .func (.func 67) #[] #[.pointer (some ⟨b139, 0, none⟩), .pointer (some ⟨b138, 0, none⟩)]), (17, .slice (some ⟨B0, 0, none⟩) 1 1), (18, .int .i64 1), (19, .int .i64 (wr64 (x143 + 1)))]) (by kernel_rfl) ?_
          refine t_end ?_
          exact ⟨k_, Nat.lt_succ_self _, [(1, .bool shut1), (2, .pointer (some ⟨b137, 0, none⟩)), (5, .pointer (some ⟨b138, 0, none⟩)), (6, .pointer (some ⟨b139, 0, none⟩)), (7, .func (.func 67) #[] #[.pointer (some ⟨b139, 0, none⟩), .pointer (some ⟨b138, 0, none⟩)]), (17, .slice (some ⟨B0, 0, none⟩) 1 1), (18, .int .i64 1), (19, .int .i64 (wr64 (x143 + 1)))], ([⟨a196, encL E_i644 y197, na196⟩, ⟨b139, [.int .i64 x194, .int .i64 x195], 2⟩, ⟨b138, [.slice (ad a196) y197.length (na196 / 4)], 1⟩, ⟨b137, [.int .i64 p0_0, .int .i64 p0_1, .slice (some ⟨B0, 0, none⟩) 1 1, .bool p0_3], 4⟩, ⟨B0, [.int .i64 m0_0, .int .i64 m0_1, .int .i64 m0_2, .int .i64 m0_3, .int .i64 m0_4, .int .i64 m0_5, .int .i64 m0_6], 7⟩] : List Own), S, keep_sub [1, 2, 5, 6, 7, 17, 18, 19] (by kernel_rfl), VS.sel [4, 0, 0, 0, 0] (by kernel_rfl), wr64 (x143 + 1), y197, x194, x195, a196, na196, rfl, rfl, rfl, e141⟩
      · rw [if_neg c148] at e141
        have c148b : (decide (x143 < 1)) = false := decide_eq_false c148
        refine t_v (dv_quiet rfl (congrArg (fun t => some (Value.bool t)) c148b)) ?_
        refine t_keep [1, 2, 5, 6, 7, 17, 18, 19, 20] (σ' := [(1, .bool shut1), (2, .pointer (some ⟨b137, 0, none⟩)), (5, .pointer (some ⟨b138, 0, none⟩)), (6, .pointer (some ⟨b139, 0, none⟩)), (7, .func (.func 67) #[] #[.pointer (some ⟨b139, 0, none⟩), .pointer (some ⟨b138, 0, none⟩)]), (17, .slice (some ⟨B0, 0, none⟩) 1 1), (18, .int .i64 1), (19, .int .i64 x143), (20, .bool false)]) (by kernel_rfl) ?_
        refine t_end ?_
        show W _ _ _ _ _ _ _
        refine w_seq ?_
        refine w_cond rfl (fun c_ => by cases c_) (fun _ => ?_)
        show W _ _ _ _ _ _ _
        refine w_exit ?_
        simp only [Option.some.injEq, Prod.mk.injEq] at e141
        obtain ⟨rfl, rfl, rfl⟩ := e141
        exact ⟨([⟨b139, [.int .i64 x146, .int .i64 x147], 2⟩, ⟨b138, [.slice (ad a144) y145.length (na144 / 4)], 1⟩, ⟨b137, [.int .i64 p0_0, .int .i64 p0_1, .slice (some ⟨B0, 0, none⟩) 1 1, .bool p0_3], 4⟩, ⟨B0, [.int .i64 m0_0, .int .i64 m0_1, .int .i64 m0_2, .int .i64 m0_3, .int .i64 m0_4, .int .i64 m0_5, .int .i64 m0_6], 7⟩, ⟨a144, encL E_i644 y145, na144⟩] : List Own), S, VS.sel [1, 1, 1, 1, 0] (by kernel_rfl), a144, na144, by kernel_rfl, rfl, rfl⟩
  · rintro σ_ H_ S_ ⟨a202, na202, rfl, rfl, rfl⟩
    refine w_seq ?_
    refine w_seq ?_
    refine w_reg fun all => ?_
    by_cases c204 : shut1 = true
    · rw [if_pos c204] at e
      have c204b : shut1 = true := c204
      refine t_v (dv_quiet rfl (congrArg (fun t => some (Value.bool t)) c204b)) ?_
      refine t_qz 4 [2, 5, 7, 44] (σ' := [(2, .pointer (some ⟨b137, 0, none⟩)), (5, .pointer (some ⟨b138, 0, none⟩)), (7, .func (.func 67) #[] #[.pointer (some ⟨b139, 0, none⟩), .pointer (some ⟨b138, 0, none⟩)]), (44, .bool true)]) (by kernel_rfl) ?_
      refine t_end ?_
      show W _ _ _ _ _ _ _
      refine w_cond rfl (fun _ => ?_) (fun c_ => by cases c_)
      show W _ _ _ _ _ _ _
      refine w_reg fun all => ?_
      refine t_qz 2 [5, 45, 46] (σ' := [(5, .pointer (some ⟨b138, 0, none⟩)), (45, .func (.func 67) #[] #[.pointer (some ⟨b139, 0, none⟩), .pointer (some ⟨b138, 0, none⟩)]), (46, .pointer (some ⟨b137, 0, none⟩))]) (by kernel_rfl) ?_
      refine t_v (.ldn rfl rfl rfl (.at 2 rfl rfl)) ?_
      obtain ⟨⟨t205, t206, t207⟩, h208, e⟩ := bind_of e
      try dsimp only at e
      refine t_clo (caps := #[.pointer (some ⟨b139, 0, none⟩), .pointer (some ⟨b138, 0, none⟩)]) (vs := [.agg #[.int .i64 p0_0, .int .i64 p0_1]]) (H1 := ([⟨b139, [.int .i64 x200, .int .i64 x201], 2⟩, ⟨b138, [.slice (ad a202) y203.length (na202 / 4)], 1⟩, ⟨a202, encL E_i644 y203, na202⟩] : List Own)) (F := ([⟨b137, [.int .i64 p0_0, .int .i64 p0_1, .slice (some ⟨B0, 0, none⟩) 1 1, .bool p0_3], 4⟩, ⟨B0, [.int .i64 m0_0, .int .i64 m0_1, .int .i64 m0_2, .int .i64 m0_3, .int .i64 m0_4, .int .i64 m0_5, .int .i64 m0_6], 7⟩] : List Own)) rfl rfl rfl (by kernel_rfl) (by kernel_rfl) (sel_perm (is := [0, 0, 2]) (by kernel_rfl)) (flatten_Path_1_v2.ok h208) ?_
      rintro _ _ S_ ⟨N209, nN209, rfl, rfl, hS_⟩
      obtain rfl := hS_.symm
      refine t_keep [5] (σ' := [(5, .pointer (some ⟨b138, 0, none⟩))]) (by kernel_rfl) ?_
      refine t_end ?_
      show W _ _ _ _ _ _ _
      refine w_seq ?_
      refine w_reg fun all => ?_
      refine t_v (.ld1 rfl rfl rfl (.at 2 rfl rfl)) ?_
      refine t_qz 1 [4] (σ' := [(4, .slice (ad N209) t205.length (nN209 / 4))]) (by kernel_rfl) ?_
      refine t_end ?_
      show W _ _ _ _ _ _ _
      refine w_ret ?_
      obtain rfl := Option.some.inj e
      exact ⟨[.slice (ad N209) t205.length (nN209 / 4)], ([⟨N209, encL E_i644 t205, nN209⟩, ⟨B0, [.int .i64 m0_0, .int .i64 m0_1, .int .i64 m0_2, .int .i64 m0_3, .int .i64 m0_4, .int .i64 m0_5, .int .i64 m0_6], 7⟩] : List Own), S, ⟨rfl, trivial⟩, VS.sel [0, 3] (by kernel_rfl), N209, nN209, rfl, rfl, rfl⟩
    · rw [if_neg c204] at e
      have c204b : shut1 = false := Bool.eq_false_iff.mpr c204
      refine t_v (dv_quiet rfl (congrArg (fun t => some (Value.bool t)) c204b)) ?_
      by_cases c210 : p0_3 = true
      · rw [if_pos c210] at e
        have c210b : p0_3 = true := c210
        refine t_qz 2 [2, 5, 7, 41, 42] (σ' := [(2, .pointer (some ⟨b137, 0, none⟩)), (5, .pointer (some ⟨b138, 0, none⟩)), (7, .func (.func 67) #[] #[.pointer (some ⟨b139, 0, none⟩), .pointer (some ⟨b138, 0, none⟩)]), (41, .bool false), (42, .pointer (some ⟨b137, 3, none⟩))]) (by kernel_rfl) ?_
        refine t_v (dv_eq (congrArg (fun t => Value.bool t) c210b) (.ld1 rfl rfl rfl (.at 2 rfl rfl))) ?_
        refine t_qz 1 [2, 5, 7, 44] (σ' := [(2, .pointer (some ⟨b137, 0, none⟩)), (5, .pointer (some ⟨b138, 0, none⟩)), (7, .func (.func 67) #[] #[.pointer (some ⟨b139, 0, none⟩), .pointer (some ⟨b138, 0, none⟩)]), (44, .bool true)]) (by kernel_rfl) ?_
        refine t_end ?_
        show W _ _ _ _ _ _ _
        refine w_cond rfl (fun _ => ?_) (fun c_ => by cases c_)
        show W _ _ _ _ _ _ _
        refine w_reg fun all => ?_
        refine t_qz 2 [5, 45, 46] (σ' := [(5, .pointer (some ⟨b138, 0, none⟩)), (45, .func (.func 67) #[] #[.pointer (some ⟨b139, 0, none⟩), .pointer (some ⟨b138, 0, none⟩)]), (46, .pointer (some ⟨b137, 0, none⟩))]) (by kernel_rfl) ?_
        refine t_v (.ldn rfl rfl rfl (.at 2 rfl rfl)) ?_
        obtain ⟨⟨t211, t212, t213⟩, h214, e⟩ := bind_of e
        try dsimp only at e
        refine t_clo (caps := #[.pointer (some ⟨b139, 0, none⟩), .pointer (some ⟨b138, 0, none⟩)]) (vs := [.agg #[.int .i64 p0_0, .int .i64 p0_1]]) (H1 := ([⟨b139, [.int .i64 x200, .int .i64 x201], 2⟩, ⟨b138, [.slice (ad a202) y203.length (na202 / 4)], 1⟩, ⟨a202, encL E_i644 y203, na202⟩] : List Own)) (F := ([⟨b137, [.int .i64 p0_0, .int .i64 p0_1, .slice (some ⟨B0, 0, none⟩) 1 1, .bool p0_3], 4⟩, ⟨B0, [.int .i64 m0_0, .int .i64 m0_1, .int .i64 m0_2, .int .i64 m0_3, .int .i64 m0_4, .int .i64 m0_5, .int .i64 m0_6], 7⟩] : List Own)) rfl rfl rfl (by kernel_rfl) (by kernel_rfl) (sel_perm (is := [0, 0, 2]) (by kernel_rfl)) (flatten_Path_1_v2.ok h214) ?_
        rintro _ _ S_ ⟨N215, nN215, rfl, rfl, hS_⟩
        obtain rfl := hS_.symm
        refine t_keep [5] (σ' := [(5, .pointer (some ⟨b138, 0, none⟩))]) (by kernel_rfl) ?_
        refine t_end ?_
        show W _ _ _ _ _ _ _
        refine w_seq ?_
        refine w_reg fun all => ?_
        refine t_v (.ld1 rfl rfl rfl (.at 2 rfl rfl)) ?_
        refine t_qz 1 [4] (σ' := [(4, .slice (ad N215) t211.length (nN215 / 4))]) (by kernel_rfl) ?_
        refine t_end ?_
        show W _ _ _ _ _ _ _
        refine w_ret ?_
        obtain rfl := Option.some.inj e
        exact ⟨[.slice (ad N215) t211.length (nN215 / 4)], ([⟨N215, encL E_i644 t211, nN215⟩, ⟨B0, [.int .i64 m0_0, .int .i64 m0_1, .int .i64 m0_2, .int .i64 m0_3, .int .i64 m0_4, .int .i64 m0_5, .int .i64 m0_6], 7⟩] : List Own), S, ⟨rfl, trivial⟩, VS.sel [0, 3] (by kernel_rfl), N215, nN215, rfl, rfl, rfl⟩
      · rw [if_neg c210] at e
        have c210b : p0_3 = false := Bool.eq_false_iff.mpr c210
        refine t_qz 2 [2, 5, 7, 41, 42] (σ' := [(2, .pointer (some ⟨b137, 0, none⟩)), (5, .pointer (some ⟨b138, 0, none⟩)), (7, .func (.func 67) #[] #[.pointer (some ⟨b139, 0, none⟩), .pointer (some ⟨b138, 0, none⟩)]), (41, .bool false), (42, .pointer (some ⟨b137, 3, none⟩))]) (by kernel_rfl) ?_
        refine t_v (dv_eq (congrArg (fun t => Value.bool t) c210b) (.ld1 rfl rfl rfl (.at 2 rfl rfl))) ?_
        refine t_qz 1 [2, 5, 7, 44] (σ' := [(2, .pointer (some ⟨b137, 0, none⟩)), (5, .pointer (some ⟨b138, 0, none⟩)), (7, .func (.func 67) #[] #[.pointer (some ⟨b139, 0, none⟩), .pointer (some ⟨b138, 0, none⟩)]), (44, .bool false)]) (by kernel_rfl) ?_
        refine t_end ?_
        show W _ _ _ _ _ _ _
        refine w_cond rfl (fun c_ => by cases c_) (fun _ => ?_)
        show W _ _ _ _ _ _ _
        refine w_skip ?_
        show W _ _ _ _ _ _ _
        refine w_seq ?_
        refine w_reg fun all => ?_
        refine t_v (.ld1 rfl rfl rfl (.at 1 rfl rfl)) ?_
        refine t_qz 1 [4] (σ' := [(4, .slice (ad a202) y203.length (na202 / 4))]) (by kernel_rfl) ?_
        refine t_end ?_
        show W _ _ _ _ _ _ _
        refine w_ret ?_
        obtain rfl := Option.some.inj e
        exact ⟨[.slice (ad a202) y203.length (na202 / 4)], ([⟨a202, encL E_i644 y203, na202⟩, ⟨B0, [.int .i64 m0_0, .int .i64 m0_1, .int .i64 m0_2, .int .i64 m0_3, .int .i64 m0_4, .int .i64 m0_5, .int .i64 m0_6], 7⟩] : List Own), S, ⟨rfl, trivial⟩, VS.sel [4, 3] (by kernel_rfl), a202, na202, rfl, rfl, rfl⟩

/-- glyphicref1.Down -/
def c109 : C :=
  (.seq (.reg [⟨(some 4), .mv (.const (.int .i64 0)), none⟩])
  (.seq (.seq (.reg [⟨(some 6), .mv (.tmp 1), none⟩,
      ⟨(some 7), .bin .lss (.tmp 6) (.const (.int .i64 1)), none⟩])
   (.cond (.tmp 7)
    (.seq (.reg [⟨(some 4), .mv (.const (.int .i64 0)), none⟩])
     .ret)
    .skip))
  (.seq (.reg [⟨(some 8), .mv (.tmp 0), none⟩,
     ⟨(some 9), .mv (.tmp 1), none⟩,
     ⟨(some 10), .bin .quo (.tmp 8) (.tmp 9), none⟩,
     ⟨(some 5), .mv (.tmp 10), none⟩])
  (.seq (.seq (.reg [⟨(some 11), .mv (.tmp 0), none⟩,
      ⟨(some 12), .mv (.tmp 1), none⟩,
      ⟨(some 13), .bin .rem (.tmp 11) (.tmp 12), none⟩,
      ⟨(some 14), .bin .lss (.tmp 13) (.const (.int .i64 0)), none⟩])
   (.cond (.tmp 14)
    (.reg [⟨(some 15), .mv (.tmp 5), none⟩,
       ⟨(some 16), .bin .sub (.tmp 15) (.const (.int .i64 1)), none⟩,
       ⟨(some 5), .mv (.tmp 16), none⟩])
    .skip))
  (.seq (.reg [⟨(some 17), .mv (.tmp 5), none⟩,
     ⟨(some 4), .mv (.tmp 17), none⟩])
  .ret)))))
def glyphicref1_Down.f (a0 : Int) (b1 : Int) : Option (Int) := if b1 < 1 then (some 0) else (if b1 = 0 then none else (if (Int.tmod a0 b1) < 0 then (some (wr64 ((wr64 (Int.tdiv a0 b1)) - 1))) else (some (wr64 (Int.tdiv a0 b1)))))
theorem glyphicref1_Down.ok {S : Seal} {a0 : Int} {b1 : Int} {r0_ : Int}(e : glyphicref1_Down.f a0 b1 = some r0_) :
    Cal Try.prog 109 [.int .i64 a0, .int .i64 b1] [] S fun v H' S' => v = .int .i64 r0_ ∧ H' = [] ∧ S' = S := by
  unfold glyphicref1_Down.f at e
  refine cal_of (c := c109) (N := 18) Try.func109 rfl rfl (by kernel_rfl) (rs := [.t 4]) (by kernel_rfl) (Nat.le_of_ble_eq_true rfl) ?_
  unfold c109
  refine w_seq ?_
  refine w_reg fun all => ?_
  refine t_qz 1 [0, 1] (σ' := [(0, .int .i64 a0), (1, .int .i64 b1)]) (by kernel_rfl) ?_
  refine t_end ?_
  show W _ _ _ _ _ _ _
  refine w_seq ?_
  refine w_seq ?_
  refine w_reg fun all => ?_
  by_cases c229 : b1 < 1
  · rw [if_pos c229] at e
    have c229b : (decide (b1 < 1)) = true := decide_eq_true c229
    refine t_qz 1 [0, 1, 6] (σ' := [(0, .int .i64 a0), (1, .int .i64 b1), (6, .int .i64 b1)]) (by kernel_rfl) ?_
    refine t_v (dv_quiet rfl (congrArg (fun t => some (Value.bool t)) c229b)) ?_
    refine t_keep [0, 1, 7] (σ' := [(0, .int .i64 a0), (1, .int .i64 b1), (7, .bool true)]) (by kernel_rfl) ?_
    refine t_end ?_
    show W _ _ _ _ _ _ _
    refine w_cond rfl (fun _ => ?_) (fun c_ => by cases c_)
    show W _ _ _ _ _ _ _
    refine w_seq ?_
    refine w_reg fun all => ?_
    refine t_qz 1 [4] (σ' := [(4, .int .i64 0)]) (by kernel_rfl) ?_
    refine t_end ?_
    show W _ _ _ _ _ _ _
    refine w_ret ?_
    obtain rfl := Option.some.inj e
    exact ⟨[.int .i64 0], [], S, ⟨rfl, trivial⟩, VS.none, rfl, rfl, rfl⟩
  · rw [if_neg c229] at e
    have c229b : (decide (b1 < 1)) = false := decide_eq_false c229
    refine t_qz 1 [0, 1, 6] (σ' := [(0, .int .i64 a0), (1, .int .i64 b1), (6, .int .i64 b1)]) (by kernel_rfl) ?_
    refine t_v (dv_quiet rfl (congrArg (fun t => some (Value.bool t)) c229b)) ?_
    refine t_keep [0, 1, 7] (σ' := [(0, .int .i64 a0), (1, .int .i64 b1), (7, .bool false)]) (by kernel_rfl) ?_
    refine t_end ?_
    show W _ _ _ _ _ _ _
    refine w_cond rfl (fun c_ => by cases c_) (fun _ => ?_)
    show W _ _ _ _ _ _ _
    refine w_skip ?_
    show W _ _ _ _ _ _ _
    refine w_seq ?_
    refine w_reg fun all => ?_
    have c230 : ¬ b1 = 0 := by
      intro h_; rw [if_pos h_] at e; cases e
    rw [if_neg c230] at e
    refine t_qz 2 [0, 1, 8, 9] (σ' := [(0, .int .i64 a0), (1, .int .i64 b1), (8, .int .i64 a0), (9, .int .i64 b1)]) (by kernel_rfl) ?_
    refine t_v (.quiet rfl (qv_quo rfl rfl c230)) ?_
    refine t_qz 1 [0, 1, 5] (σ' := [(0, .int .i64 a0), (1, .int .i64 b1), (5, .int .i64 (wr64 (Int.tdiv a0 b1)))]) (by kernel_rfl) ?_
    refine t_end ?_
    show W _ _ _ _ _ _ _
    refine w_seq ?_
    refine w_seq ?_
    refine w_reg fun all => ?_
    refine t_qz 2 [5, 11, 12] (σ' := [(5, .int .i64 (wr64 (Int.tdiv a0 b1))), (11, .int .i64 a0), (12, .int .i64 b1)]) (by kernel_rfl) ?_
    refine t_v (.quiet rfl (qv_rem rfl rfl c230)) ?_
    by_cases c231 : (Int.tmod a0 b1) < 0
    · rw [if_pos c231] at e
      have c231b : (decide ((Int.tmod a0 b1) < 0)) = true := decide_eq_true c231
      refine t_v (dv_quiet rfl (congrArg (fun t => some (Value.bool t)) c231b)) ?_
      refine t_keep [5, 14] (σ' := [(5, .int .i64 (wr64 (Int.tdiv a0 b1))), (14, .bool true)]) (by kernel_rfl) ?_
      refine t_end ?_
      show W _ _ _ _ _ _ _
      refine w_cond rfl (fun _ => ?_) (fun c_ => by cases c_)
      show W _ _ _ _ _ _ _
      refine w_reg fun all => ?_
      refine t_qz 3 [5] (σ' := [(5, .int .i64 (wr64 ((wr64 (Int.tdiv a0 b1)) - 1)))]) (by kernel_rfl) ?_
      refine t_end ?_
      show W _ _ _ _ _ _ _
      refine w_seq ?_
      refine w_reg fun all => ?_
      refine t_qz 2 [4] (σ' := [(4, .int .i64 (wr64 ((wr64 (Int.tdiv a0 b1)) - 1)))]) (by kernel_rfl) ?_
      refine t_end ?_
      show W _ _ _ _ _ _ _
      refine w_ret ?_
      obtain rfl := Option.some.inj e
      exact ⟨[.int .i64 (wr64 ((wr64 (Int.tdiv a0 b1)) - 1))], [], S, ⟨rfl, trivial⟩, VS.none, rfl, rfl, rfl⟩
    · rw [if_neg c231] at e
      have c231b : (decide ((Int.tmod a0 b1) < 0)) = false := decide_eq_false c231
      refine t_v (dv_quiet rfl (congrArg (fun t => some (Value.bool t)) c231b)) ?_
      refine t_keep [5, 14] (σ' := [(5, .int .i64 (wr64 (Int.tdiv a0 b1))), (14, .bool false)]) (by kernel_rfl) ?_
      refine t_end ?_
      show W _ _ _ _ _ _ _
      refine w_cond rfl (fun c_ => by cases c_) (fun _ => ?_)
      show W _ _ _ _ _ _ _
      refine w_skip ?_
      show W _ _ _ _ _ _ _
      refine w_seq ?_
      refine w_reg fun all => ?_
      refine t_qz 2 [4] (σ' := [(4, .int .i64 (wr64 (Int.tdiv a0 b1)))]) (by kernel_rfl) ?_
      refine t_end ?_
      show W _ _ _ _ _ _ _
      refine w_ret ?_
      obtain rfl := Option.some.inj e
      exact ⟨[.int .i64 (wr64 (Int.tdiv a0 b1))], [], S, ⟨rfl, trivial⟩, VS.none, rfl, rfl, rfl⟩

/-- glyphicref1.Round -/
def c76 : C :=
  (.seq (.reg [⟨(some 4), .mv (.const (.int .i64 0)), none⟩])
  (.seq (.seq (.reg [⟨(some 7), .mv (.tmp 1), none⟩,
      ⟨(some 8), .bin .lss (.tmp 7) (.const (.int .i64 1)), none⟩])
   (.cond (.tmp 8)
    (.seq (.reg [⟨(some 4), .mv (.const (.int .i64 0)), none⟩])
     .ret)
    .skip))
  (.seq (.reg [⟨(some 9), .mv (.tmp 0), none⟩,
     ⟨(some 10), .mv (.tmp 1), none⟩,
     ⟨(some 11), .call 109 [(.tmp 9), (.tmp 10)], none⟩,
     ⟨(some 5), .mv (.tmp 11), none⟩])
  (.seq (.reg [⟨(some 12), .mv (.tmp 0), none⟩,
     ⟨(some 13), .mv (.tmp 5), none⟩,
     ⟨(some 14), .mv (.tmp 1), none⟩,
     ⟨(some 15), .bin .mul (.tmp 13) (.tmp 14), none⟩,
     ⟨(some 16), .bin .sub (.tmp 12) (.tmp 15), none⟩,
     ⟨(some 6), .mv (.tmp 16), none⟩])
  (.seq (.seq (.reg [⟨(some 17), .mv (.tmp 6), none⟩,
      ⟨(some 18), .mv (.tmp 1), none⟩,
      ⟨(some 19), .mv (.tmp 6), none⟩,
      ⟨(some 20), .bin .sub (.tmp 18) (.tmp 19), none⟩,
      ⟨(some 21), .bin .geq (.tmp 17) (.tmp 20), none⟩])
   (.cond (.tmp 21)
    (.reg [⟨(some 22), .mv (.tmp 5), none⟩,
       ⟨(some 23), .bin .add (.tmp 22) (.const (.int .i64 1)), none⟩,
       ⟨(some 5), .mv (.tmp 23), none⟩])
    .skip))
  (.seq (.reg [⟨(some 24), .mv (.tmp 5), none⟩,
     ⟨(some 4), .mv (.tmp 24), none⟩])
  .ret))))))
def glyphicref1_Round.f (a0 : Int) (b1 : Int) : Option (Int) := if b1 < 1 then (some 0) else ((glyphicref1_Down.f a0 b1).bind fun t232 => (if (wr64 (a0 - (wr64 (t232 * b1)))) ≥ (wr64 (b1 - (wr64 (a0 - (wr64 (t232 * b1)))))) then (some (wr64 (t232 + 1))) else (some t232)))
theorem glyphicref1_Round.ok {S : Seal} {a0 : Int} {b1 : Int} {r0_ : Int}(e : glyphicref1_Round.f a0 b1 = some r0_) :
    Cal Try.prog 76 [.int .i64 a0, .int .i64 b1] [] S fun v H' S' => v = .int .i64 r0_ ∧ H' = [] ∧ S' = S := by
  unfold glyphicref1_Round.f at e
  refine cal_of (c := c76) (N := 25) Try.func76 rfl rfl (by kernel_rfl) (rs := [.t 4]) (by kernel_rfl) (Nat.le_of_ble_eq_true rfl) ?_
  unfold c76
  refine w_seq ?_
  refine w_reg fun all => ?_
  refine t_qz 1 [0, 1] (σ' := [(0, .int .i64 a0), (1, .int .i64 b1)]) (by kernel_rfl) ?_
  refine t_end ?_
  show W _ _ _ _ _ _ _
  refine w_seq ?_
  refine w_seq ?_
  refine w_reg fun all => ?_
  by_cases c228 : b1 < 1
  · rw [if_pos c228] at e
    have c228b : (decide (b1 < 1)) = true := decide_eq_true c228
    refine t_qz 1 [0, 1, 7] (σ' := [(0, .int .i64 a0), (1, .int .i64 b1), (7, .int .i64 b1)]) (by kernel_rfl) ?_
    refine t_v (dv_quiet rfl (congrArg (fun t => some (Value.bool t)) c228b)) ?_
    refine t_keep [0, 1, 8] (σ' := [(0, .int .i64 a0), (1, .int .i64 b1), (8, .bool true)]) (by kernel_rfl) ?_
    refine t_end ?_
    show W _ _ _ _ _ _ _
    refine w_cond rfl (fun _ => ?_) (fun c_ => by cases c_)
    show W _ _ _ _ _ _ _
    refine w_seq ?_
    refine w_reg fun all => ?_
    refine t_qz 1 [4] (σ' := [(4, .int .i64 0)]) (by kernel_rfl) ?_
    refine t_end ?_
    show W _ _ _ _ _ _ _
    refine w_ret ?_
    obtain rfl := Option.some.inj e
    exact ⟨[.int .i64 0], [], S, ⟨rfl, trivial⟩, VS.none, rfl, rfl, rfl⟩
  · rw [if_neg c228] at e
    have c228b : (decide (b1 < 1)) = false := decide_eq_false c228
    refine t_qz 1 [0, 1, 7] (σ' := [(0, .int .i64 a0), (1, .int .i64 b1), (7, .int .i64 b1)]) (by kernel_rfl) ?_
    refine t_v (dv_quiet rfl (congrArg (fun t => some (Value.bool t)) c228b)) ?_
    refine t_keep [0, 1, 8] (σ' := [(0, .int .i64 a0), (1, .int .i64 b1), (8, .bool false)]) (by kernel_rfl) ?_
    refine t_end ?_
    show W _ _ _ _ _ _ _
    refine w_cond rfl (fun c_ => by cases c_) (fun _ => ?_)
    show W _ _ _ _ _ _ _
    refine w_skip ?_
    show W _ _ _ _ _ _ _
    refine w_seq ?_
    refine w_reg fun all => ?_
    obtain ⟨t232, h233, e⟩ := bind_of e
    refine t_qz 2 [0, 1, 9, 10] (σ' := [(0, .int .i64 a0), (1, .int .i64 b1), (9, .int .i64 a0), (10, .int .i64 b1)]) (by kernel_rfl) ?_
    refine t_v (.call (vs := [.int .i64 a0, .int .i64 b1]) rfl rfl (by kernel_rfl) (glyphicref1_Down.ok h233)) ?_
    refine t_qz 1 [0, 1, 5] (σ' := [(0, .int .i64 a0), (1, .int .i64 b1), (5, .int .i64 t232)]) (by kernel_rfl) ?_
    refine t_end ?_
    show W _ _ _ _ _ _ _
    refine w_seq ?_
    refine w_reg fun all => ?_
    refine t_qz 6 [1, 5, 6] (σ' := [(1, .int .i64 b1), (5, .int .i64 t232), (6, .int .i64 (wr64 (a0 - (wr64 (t232 * b1)))))]) (by kernel_rfl) ?_
    refine t_end ?_
    show W _ _ _ _ _ _ _
    refine w_seq ?_
    refine w_seq ?_
    refine w_reg fun all => ?_
    by_cases c234 : (wr64 (a0 - (wr64 (t232 * b1)))) ≥ (wr64 (b1 - (wr64 (a0 - (wr64 (t232 * b1))))))
    · rw [if_pos c234] at e
      have c234b : (decide ((wr64 (a0 - (wr64 (t232 * b1)))) ≥ (wr64 (b1 - (wr64 (a0 - (wr64 (t232 * b1)))))))) = true := decide_eq_true c234
      refine t_qz 4 [5, 17, 20] (σ' := [(5, .int .i64 t232), (17, .int .i64 (wr64 (a0 - (wr64 (t232 * b1))))), (20, .int .i64 (wr64 (b1 - (wr64 (a0 - (wr64 (t232 * b1)))))))]) (by kernel_rfl) ?_
      refine t_v (dv_quiet rfl (congrArg (fun t => some (Value.bool t)) c234b)) ?_
      refine t_keep [5, 21] (σ' := [(5, .int .i64 t232), (21, .bool true)]) (by kernel_rfl) ?_
      refine t_end ?_
      show W _ _ _ _ _ _ _
      refine w_cond rfl (fun _ => ?_) (fun c_ => by cases c_)
      show W _ _ _ _ _ _ _
      refine w_reg fun all => ?_
      refine t_qz 3 [5] (σ' := [(5, .int .i64 (wr64 (t232 + 1)))]) (by kernel_rfl) ?_
      refine t_end ?_
      show W _ _ _ _ _ _ _
      refine w_seq ?_
      refine w_reg fun all => ?_
      refine t_qz 2 [4] (σ' := [(4, .int .i64 (wr64 (t232 + 1)))]) (by kernel_rfl) ?_
      refine t_end ?_
      show W _ _ _ _ _ _ _
      refine w_ret ?_
      obtain rfl := Option.some.inj e
      exact ⟨[.int .i64 (wr64 (t232 + 1))], [], S, ⟨rfl, trivial⟩, VS.none, rfl, rfl, rfl⟩
    · rw [if_neg c234] at e
      have c234b : (decide ((wr64 (a0 - (wr64 (t232 * b1)))) ≥ (wr64 (b1 - (wr64 (a0 - (wr64 (t232 * b1)))))))) = false := decide_eq_false c234
      refine t_qz 4 [5, 17, 20] (σ' := [(5, .int .i64 t232), (17, .int .i64 (wr64 (a0 - (wr64 (t232 * b1))))), (20, .int .i64 (wr64 (b1 - (wr64 (a0 - (wr64 (t232 * b1)))))))]) (by kernel_rfl) ?_
      refine t_v (dv_quiet rfl (congrArg (fun t => some (Value.bool t)) c234b)) ?_
      refine t_keep [5, 21] (σ' := [(5, .int .i64 t232), (21, .bool false)]) (by kernel_rfl) ?_
      refine t_end ?_
      show W _ _ _ _ _ _ _
      refine w_cond rfl (fun c_ => by cases c_) (fun _ => ?_)
      show W _ _ _ _ _ _ _
      refine w_skip ?_
      show W _ _ _ _ _ _ _
      refine w_seq ?_
      refine w_reg fun all => ?_
      refine t_qz 2 [4] (σ' := [(4, .int .i64 t232)]) (by kernel_rfl) ?_
      refine t_end ?_
      show W _ _ _ _ _ _ _
      refine w_ret ?_
      obtain rfl := Option.some.inj e
      exact ⟨[.int .i64 t232], [], S, ⟨rfl, trivial⟩, VS.none, rfl, rfl, rfl⟩

/-- glyphiclaw21.curve -/
def c38 : C :=
  (.seq (.reg [⟨(some 4), .box (.tmp 0), none⟩,
     ⟨(some 5), .box (.tmp 1), none⟩,
     ⟨(some 8), .new [(.int .i64 0), (.int .i64 0)], none⟩])
  (.seq (.reg [⟨(some 19), .ld (some 2) (.tmp 4), none⟩,
     ⟨(some 20), .pad 1 (.tmp 5), none⟩,
     ⟨(some 21), .ixa 2 3 (.tmp 20) (.const (.int .i64 0)), none⟩,
     ⟨(some 22), .ld (some 2) (.tmp 21), none⟩,
     ⟨(some 23), .pad 1 (.tmp 5), none⟩,
     ⟨(some 24), .ixa 2 3 (.tmp 23) (.const (.int .i64 1)), none⟩,
     ⟨(some 25), .ld (some 2) (.tmp 24), none⟩,
     ⟨(some 26), .pad 1 (.tmp 5), none⟩,
     ⟨(some 27), .ixa 2 3 (.tmp 26) (.const (.int .i64 2)), none⟩,
     ⟨(some 28), .ld (some 2) (.tmp 27), none⟩,
     ⟨(some 29), .bsl [(.int .i64 0), (.int .i64 0), (.int .i64 0), (.int .i64 0), (.int .i64 0), (.int .i64 0), (.int .i64 0), (.int .i64 0)] 4 [(0, 2, (.tmp 19)), (2, 2, (.tmp 22)), (4, 2, (.tmp 25)), (6, 2, (.tmp 28))], none⟩,
     ⟨(some 30), .pad 0 (.tmp 5), none⟩,
     ⟨(some 31), .ld none (.tmp 30), none⟩,
     ⟨(some 32), .bin .add (.tmp 31) (.const (.int .i64 1)), none⟩,
     ⟨(some 33), .sls 2 (.tmp 29) none (some (.tmp 32)), none⟩,
     ⟨(some 9), .mv (.tmp 33), none⟩])
  (.seq (.reg [⟨(some 34), .mv (.tmp 3), none⟩,
     ⟨(some 35), .mv (.tmp 2), none⟩,
     ⟨(some 36), .bin .sub (.tmp 34) (.tmp 35), none⟩,
     ⟨(some 10), .mv (.tmp 36), none⟩])
  (.seq (.reg [⟨(some 11), .mv (.const (.int .i64 1)), none⟩])
  (.seq (.reg [⟨(some 12), .mv (.const (.int .i64 0)), none⟩,
     ⟨(some 13), .mv (.const (.int .i64 0)), none⟩])
  (.seq (.reg [⟨(some 37), .bsl [(.int .i64 0), (.int .i64 0)] 2 [(0, 1, (.const (.int .i64 1))), (1, 1, (.const (.int .i64 1)))], none⟩,
     ⟨(some 38), .bsl [(.int .i64 0), (.int .i64 0), (.int .i64 0)] 3 [(0, 1, (.const (.int .i64 1))), (1, 1, (.const (.int .i64 2))), (2, 1, (.const (.int .i64 1)))], none⟩,
     ⟨(some 39), .bsl [(.int .i64 0), (.int .i64 0), (.int .i64 0), (.int .i64 0)] 4 [(0, 1, (.const (.int .i64 1))), (1, 1, (.const (.int .i64 3))), (2, 1, (.const (.int .i64 3))), (3, 1, (.const (.int .i64 1)))], none⟩,
     ⟨(some 40), .bsl [(.slice none 0 0), (.slice none 0 0), (.slice none 0 0)] 3 [(0, 1, (.tmp 37)), (1, 1, (.tmp 38)), (2, 1, (.tmp 39))], none⟩,
     ⟨(some 41), .pad 0 (.tmp 5), none⟩,
     ⟨(some 42), .ld none (.tmp 41), none⟩,
     ⟨(some 43), .bin .sub (.tmp 42) (.const (.int .i64 1)), none⟩,
     ⟨(some 44), .ixs 1 (.tmp 40) (.tmp 43), none⟩,
     ⟨(some 45), .ld none (.tmp 44), none⟩,
     ⟨(some 14), .mv (.tmp 45), none⟩])
  (.seq (.seq (.reg [⟨(some 15), .mv (.const (.int .i64 0)), none⟩])
   (.block 0 (.loop (.seq (.seq (.reg [⟨(some 46), .mv (.tmp 15), none⟩,
         ⟨(some 47), .pad 0 (.tmp 5), none⟩,
         ⟨(some 48), .ld none (.tmp 47), none⟩,
         ⟨(some 49), .bin .leq (.tmp 46) (.tmp 48), none⟩])
      (.cond (.tmp 49)
       .skip
       (.exit 0)))
     (.seq (.block 1 (.seq (.reg [⟨(some 52), .mv (.tmp 14), none⟩,
          ⟨(some 53), .mv (.tmp 15), none⟩,
          ⟨(some 54), .ixs 1 (.tmp 52) (.tmp 53), none⟩,
          ⟨(some 55), .ld none (.tmp 54), none⟩,
          ⟨(some 16), .mv (.tmp 55), none⟩])
       (.seq (.seq (.reg [⟨(some 17), .mv (.const (.int .i64 0)), none⟩])
        (.block 2 (.loop (.seq (.seq (.reg [⟨(some 56), .mv (.tmp 17), none⟩,
              ⟨(some 57), .pad 0 (.tmp 5), none⟩,
              ⟨(some 58), .ld none (.tmp 57), none⟩,
              ⟨(some 59), .bin .lss (.tmp 56) (.tmp 58), none⟩])
           (.cond (.tmp 59)
            .skip
            (.exit 2)))
          (.seq (.block 3 (.seq (.reg [⟨(some 62), .mv (.tmp 17), none⟩,
               ⟨(some 63), .mv (.tmp 15), none⟩,
               ⟨(some 64), .bin .lss (.tmp 62) (.tmp 63), none⟩])
            (.cond (.tmp 64)
             (.reg [⟨(some 65), .mv (.tmp 16), none⟩,
                ⟨(some 66), .mv (.tmp 2), none⟩,
                ⟨(some 67), .bin .mul (.tmp 65) (.tmp 66), none⟩,
                ⟨(some 16), .mv (.tmp 67), none⟩])
             (.reg [⟨(some 68), .mv (.tmp 16), none⟩,
                ⟨(some 69), .mv (.tmp 10), none⟩,
                ⟨(some 70), .bin .mul (.tmp 68) (.tmp 69), none⟩,
                ⟨(some 16), .mv (.tmp 70), none⟩]))))
          (.reg [⟨(some 60), .mv (.tmp 17), none⟩,
            ⟨(some 61), .bin .add (.tmp 60) (.const (.int .i64 1)), none⟩,
            ⟨(some 17), .mv (.tmp 61), none⟩]))))))
       (.seq (.reg [⟨(some 71), .mv (.tmp 12), none⟩,
          ⟨(some 72), .mv (.tmp 16), none⟩,
          ⟨(some 73), .mv (.tmp 9), none⟩,
          ⟨(some 74), .mv (.tmp 15), none⟩,
          ⟨(some 75), .ixs 2 (.tmp 73) (.tmp 74), none⟩,
          ⟨(some 76), .pad 0 (.tmp 75), none⟩,
          ⟨(some 77), .ld none (.tmp 76), none⟩,
          ⟨(some 78), .bin .mul (.tmp 72) (.tmp 77), none⟩,
          ⟨(some 79), .bin .add (.tmp 71) (.tmp 78), none⟩,
          ⟨(some 12), .mv (.tmp 79), none⟩])
       (.reg [⟨(some 80), .mv (.tmp 13), none⟩,
         ⟨(some 81), .mv (.tmp 16), none⟩,
         ⟨(some 82), .mv (.tmp 9), none⟩,
         ⟨(some 83), .mv (.tmp 15), none⟩,
         ⟨(some 84), .ixs 2 (.tmp 82) (.tmp 83), none⟩,
         ⟨(some 85), .pad 1 (.tmp 84), none⟩,
         ⟨(some 86), .ld none (.tmp 85), none⟩,
         ⟨(some 87), .bin .mul (.tmp 81) (.tmp 86), none⟩,
         ⟨(some 88), .bin .add (.tmp 80) (.tmp 87), none⟩,
         ⟨(some 13), .mv (.tmp 88), none⟩])))))
     (.reg [⟨(some 50), .mv (.tmp 15), none⟩,
       ⟨(some 51), .bin .add (.tmp 50) (.const (.int .i64 1)), none⟩,
       ⟨(some 15), .mv (.tmp 51), none⟩]))))))
  (.seq (.seq (.reg [⟨(some 18), .mv (.const (.int .i64 0)), none⟩])
   (.block 4 (.loop (.seq (.seq (.reg [⟨(some 89), .mv (.tmp 18), none⟩,
         ⟨(some 90), .pad 0 (.tmp 5), none⟩,
         ⟨(some 91), .ld none (.tmp 90), none⟩,
         ⟨(some 92), .bin .lss (.tmp 89) (.tmp 91), none⟩])
      (.cond (.tmp 92)
       .skip
       (.exit 4)))
     (.seq (.block 5 (.reg [⟨(some 95), .mv (.tmp 11), none⟩,
         ⟨(some 96), .mv (.tmp 3), none⟩,
         ⟨(some 97), .bin .mul (.tmp 95) (.tmp 96), none⟩,
         ⟨(some 11), .mv (.tmp 97), none⟩]))
     (.reg [⟨(some 93), .mv (.tmp 18), none⟩,
       ⟨(some 94), .bin .add (.tmp 93) (.const (.int .i64 1)), none⟩,
       ⟨(some 18), .mv (.tmp 94), none⟩]))))))
  (.seq (.reg [⟨(some 98), .mv (.tmp 12), none⟩,
     ⟨(some 99), .mv (.tmp 11), none⟩,
     ⟨(some 100), .call 76 [(.tmp 98), (.tmp 99)], none⟩,
     ⟨(some 101), .mv (.tmp 13), none⟩,
     ⟨(some 102), .mv (.tmp 11), none⟩,
     ⟨(some 103), .call 76 [(.tmp 101), (.tmp 102)], none⟩,
     ⟨(some 104), .bld [(.int .i64 0), (.int .i64 0)] [(0, 1, (.tmp 100)), (1, 1, (.tmp 103))], none⟩,
     ⟨none, .st 2 (.tmp 8) (.tmp 104), none⟩])
  .ret)))))))))
def glyphiclaw21_curve_v1.f (a0_0 : Int) (a0_1 : Int) (s1_1 : Int) (s1_2 : Int) (s1_3 : Int) (s1_4 : Int) (s1_5 : Int) (s1_6 : Int) (i2 : Int) : Option (Int × Int) := (glyphicref1_Round.f (wr64 ((wr64 (0 + (wr64 ((wr64 (1 * (wr64 (512 - i2)))) * a0_0)))) + (wr64 ((wr64 (1 * i2)) * s1_1)))) 512).bind fun t235 => ((glyphicref1_Round.f (wr64 ((wr64 (0 + (wr64 ((wr64 (1 * (wr64 (512 - i2)))) * a0_1)))) + (wr64 ((wr64 (1 * i2)) * s1_2)))) 512).bind fun t237 => (some (t235, t237)))
theorem glyphiclaw21_curve_v1.ok {S : Seal} {a0_0 : Int} {a0_1 : Int} {s1_1 : Int} {s1_2 : Int} {s1_3 : Int} {s1_4 : Int} {s1_5 : Int} {s1_6 : Int} {i2 : Int} {r0_ : Int} {r1_ : Int}(e : glyphiclaw21_curve_v1.f a0_0 a0_1 s1_1 s1_2 s1_3 s1_4 s1_5 s1_6 i2 = some (r0_, r1_)) :
    Cal Try.prog 38 [.agg #[.int .i64 a0_0, .int .i64 a0_1], .agg #[.int .i64 1, .int .i64 s1_1, .int .i64 s1_2, .int .i64 s1_3, .int .i64 s1_4, .int .i64 s1_5, .int .i64 s1_6], .int .i64 i2, .int .i64 512] [] S fun v H' S' => v = .agg #[.int .i64 r0_, .int .i64 r1_] ∧ H' = [] ∧ S' = S := by
  unfold glyphiclaw21_curve_v1.f at e
  refine cal_of (c := c38) (N := 105) Try.func38 rfl rfl (by kernel_rfl) (rs := [.cn 2 8]) (by kernel_rfl) (Nat.le_of_ble_eq_true rfl) ?_
  unfold c38
  refine w_seq ?_
  refine w_reg fun all => ?_
  refine t_a (.box rfl rfl rfl) fun b220 fb220 sb220 => ?_
  refine t_a (.box rfl rfl rfl) fun b221 fb221 sb221 => ?_
  refine t_a (.new rfl rfl) fun b222 fb222 sb222 => ?_
  refine t_keep [2, 3, 4, 5, 8] (σ' := [(2, .int .i64 i2), (3, .int .i64 512), (4, .pointer (some ⟨b220, 0, none⟩)), (5, .pointer (some ⟨b221, 0, none⟩)), (8, .pointer (some ⟨b222, 0, none⟩))]) (by kernel_rfl) ?_
  refine t_end ?_
  show W _ _ _ _ _ _ _
  refine w_seq ?_
  refine w_reg fun all => ?_
  refine t_v (.ldn rfl rfl rfl (.at 2 rfl rfl)) ?_
  refine t_qz 2 [2, 3, 5, 8, 19, 21] (σ' := [(2, .int .i64 i2), (3, .int .i64 512), (5, .pointer (some ⟨b221, 0, none⟩)), (8, .pointer (some ⟨b222, 0, none⟩)), (19, .agg #[.int .i64 a0_0, .int .i64 a0_1]), (21, .pointer (some ⟨b221, 1, none⟩))]) (by kernel_rfl) ?_
  refine t_v (.ldn rfl rfl rfl (.at 1 rfl rfl)) ?_
  refine t_qz 2 [2, 3, 5, 8, 19, 22, 24] (σ' := [(2, .int .i64 i2), (3, .int .i64 512), (5, .pointer (some ⟨b221, 0, none⟩)), (8, .pointer (some ⟨b222, 0, none⟩)), (19, .agg #[.int .i64 a0_0, .int .i64 a0_1]), (22, .agg #[.int .i64 s1_1, .int .i64 s1_2]), (24, .pointer (some ⟨b221, 3, none⟩))]) (by kernel_rfl) ?_
  refine t_v (.ldn rfl rfl rfl (.at 1 rfl rfl)) ?_
  refine t_qz 2 [2, 3, 5, 8, 19, 22, 25, 27] (σ' := [(2, .int .i64 i2), (3, .int .i64 512), (5, .pointer (some ⟨b221, 0, none⟩)), (8, .pointer (some ⟨b222, 0, none⟩)), (19, .agg #[.int .i64 a0_0, .int .i64 a0_1]), (22, .agg #[.int .i64 s1_1, .int .i64 s1_2]), (25, .agg #[.int .i64 s1_3, .int .i64 s1_4]), (27, .pointer (some ⟨b221, 5, none⟩))]) (by kernel_rfl) ?_
  refine t_v (.ldn rfl rfl rfl (.at 1 rfl rfl)) ?_
  refine t_a (.bsl rfl rfl rfl rfl) fun b223 fb223 sb223 => ?_
  refine t_qz 1 [2, 3, 5, 8, 29, 30] (σ' := [(2, .int .i64 i2), (3, .int .i64 512), (5, .pointer (some ⟨b221, 0, none⟩)), (8, .pointer (some ⟨b222, 0, none⟩)), (29, .slice (some ⟨b223, 0, none⟩) 4 4), (30, .pointer (some ⟨b221, 0, none⟩))]) (by kernel_rfl) ?_
  refine t_v (.ld1 rfl rfl rfl (.at 2 rfl rfl)) ?_
  refine t_qz 3 [2, 3, 5, 8, 9] (σ' := [(2, .int .i64 i2), (3, .int .i64 512), (5, .pointer (some ⟨b221, 0, none⟩)), (8, .pointer (some ⟨b222, 0, none⟩)), (9, .slice (some ⟨b223, 0, none⟩) 2 4)]) (by kernel_rfl) ?_
  refine t_end ?_
  show W _ _ _ _ _ _ _
  refine w_seq ?_
  refine w_reg fun all => ?_
  refine t_qz 4 [2, 3, 5, 8, 9, 10] (σ' := [(2, .int .i64 i2), (3, .int .i64 512), (5, .pointer (some ⟨b221, 0, none⟩)), (8, .pointer (some ⟨b222, 0, none⟩)), (9, .slice (some ⟨b223, 0, none⟩) 2 4), (10, .int .i64 (wr64 (512 - i2)))]) (by kernel_rfl) ?_
  refine t_end ?_
  show W _ _ _ _ _ _ _
  refine w_seq ?_
  refine w_reg fun all => ?_
  refine t_qz 1 [2, 3, 5, 8, 9, 10, 11] (σ' := [(2, .int .i64 i2), (3, .int .i64 512), (5, .pointer (some ⟨b221, 0, none⟩)), (8, .pointer (some ⟨b222, 0, none⟩)), (9, .slice (some ⟨b223, 0, none⟩) 2 4), (10, .int .i64 (wr64 (512 - i2))), (11, .int .i64 1)]) (by kernel_rfl) ?_
  refine t_end ?_
  show W _ _ _ _ _ _ _
  refine w_seq ?_
  refine w_reg fun all => ?_
  refine t_qz 2 [2, 3, 5, 8, 9, 10, 11, 12, 13] (σ' := [(2, .int .i64 i2), (3, .int .i64 512), (5, .pointer (some ⟨b221, 0, none⟩)), (8, .pointer (some ⟨b222, 0, none⟩)), (9, .slice (some ⟨b223, 0, none⟩) 2 4), (10, .int .i64 (wr64 (512 - i2))), (11, .int .i64 1), (12, .int .i64 0), (13, .int .i64 0)]) (by kernel_rfl) ?_
  refine t_end ?_
  show W _ _ _ _ _ _ _
  refine w_seq ?_
  refine w_reg fun all => ?_
  refine t_a (.bsl rfl rfl rfl rfl) fun b224 fb224 sb224 => ?_
  refine t_a (.bsl rfl rfl rfl rfl) fun b225 fb225 sb225 => ?_
  refine t_a (.bsl rfl rfl rfl rfl) fun b226 fb226 sb226 => ?_
  refine t_a (.bsl rfl rfl rfl rfl) fun b227 fb227 sb227 => ?_
  refine t_qz 1 [2, 3, 5, 8, 9, 10, 11, 12, 13, 40, 41] (σ' := [(2, .int .i64 i2), (3, .int .i64 512), (5, .pointer (some ⟨b221, 0, none⟩)), (8, .pointer (some ⟨b222, 0, none⟩)), (9, .slice (some ⟨b223, 0, none⟩) 2 4), (10, .int .i64 (wr64 (512 - i2))), (11, .int .i64 1), (12, .int .i64 0), (13, .int .i64 0), (40, .slice (some ⟨b227, 0, none⟩) 3 3), (41, .pointer (some ⟨b221, 0, none⟩))]) (by kernel_rfl) ?_
  refine t_v (.ld1 rfl rfl rfl (.at 6 rfl rfl)) ?_
  refine t_qz 2 [2, 3, 5, 8, 9, 10, 11, 12, 13, 44] (σ' := [(2, .int .i64 i2), (3, .int .i64 512), (5, .pointer (some ⟨b221, 0, none⟩)), (8, .pointer (some ⟨b222, 0, none⟩)), (9, .slice (some ⟨b223, 0, none⟩) 2 4), (10, .int .i64 (wr64 (512 - i2))), (11, .int .i64 1), (12, .int .i64 0), (13, .int .i64 0), (44, .pointer (some ⟨b227, 0, none⟩))]) (by kernel_rfl) ?_
  refine t_v (.ld1 rfl rfl rfl (.at 0 rfl rfl)) ?_
  refine t_qz 1 [2, 3, 5, 8, 9, 10, 11, 12, 13, 14] (σ' := [(2, .int .i64 i2), (3, .int .i64 512), (5, .pointer (some ⟨b221, 0, none⟩)), (8, .pointer (some ⟨b222, 0, none⟩)), (9, .slice (some ⟨b223, 0, none⟩) 2 4), (10, .int .i64 (wr64 (512 - i2))), (11, .int .i64 1), (12, .int .i64 0), (13, .int .i64 0), (14, .slice (some ⟨b224, 0, none⟩) 2 2)]) (by kernel_rfl) ?_
  refine t_end ?_
  show W _ _ _ _ _ _ _
  refine w_seq ?_
  refine w_seq ?_
  refine w_reg fun all => ?_
  refine t_qz 1 [2, 3, 5, 8, 9, 10, 11, 12, 13, 14, 15] (σ' := [(2, .int .i64 i2), (3, .int .i64 512), (5, .pointer (some ⟨b221, 0, none⟩)), (8, .pointer (some ⟨b222, 0, none⟩)), (9, .slice (some ⟨b223, 0, none⟩) 2 4), (10, .int .i64 (wr64 (512 - i2))), (11, .int .i64 1), (12, .int .i64 0), (13, .int .i64 0), (14, .slice (some ⟨b224, 0, none⟩) 2 2), (15, .int .i64 0)]) (by kernel_rfl) ?_
  refine t_end ?_
  show W _ _ _ _ _ _ _
  refine w_block ?_
  refine w_lun 10 ?_
  refine wl_step ?_
  refine w_seq ?_
  refine w_seq ?_
  refine w_reg fun all => ?_
  refine t_qz 2 [2, 3, 5, 8, 9, 10, 11, 12, 13, 14, 15, 46, 47] (σ' := [(2, .int .i64 i2), (3, .int .i64 512), (5, .pointer (some ⟨b221, 0, none⟩)), (8, .pointer (some ⟨b222, 0, none⟩)), (9, .slice (some ⟨b223, 0, none⟩) 2 4), (10, .int .i64 (wr64 (512 - i2))), (11, .int .i64 1), (12, .int .i64 0), (13, .int .i64 0), (14, .slice (some ⟨b224, 0, none⟩) 2 2), (15, .int .i64 0), (46, .int .i64 0), (47, .pointer (some ⟨b221, 0, none⟩))]) (by kernel_rfl) ?_
  refine t_v (.ld1 rfl rfl rfl (.at 6 rfl rfl)) ?_
  refine t_qz 1 [2, 3, 5, 8, 9, 10, 11, 12, 13, 14, 15, 49] (σ' := [(2, .int .i64 i2), (3, .int .i64 512), (5, .pointer (some ⟨b221, 0, none⟩)), (8, .pointer (some ⟨b222, 0, none⟩)), (9, .slice (some ⟨b223, 0, none⟩) 2 4), (10, .int .i64 (wr64 (512 - i2))), (11, .int .i64 1), (12, .int .i64 0), (13, .int .i64 0), (14, .slice (some ⟨b224, 0, none⟩) 2 2), (15, .int .i64 0), (49, .bool true)]) (by kernel_rfl) ?_
  refine t_end ?_
  show W _ _ _ _ _ _ _
  refine w_cond rfl (fun _ => ?_) (fun c_ => by cases c_)
  show W _ _ _ _ _ _ _
  refine w_skip ?_
  show W _ _ _ _ _ _ _
  refine w_seq ?_
  refine w_block ?_
  refine w_seq ?_
  refine w_reg fun all => ?_
  refine t_qz 3 [2, 3, 5, 8, 9, 10, 11, 12, 13, 14, 15, 54] (σ' := [(2, .int .i64 i2), (3, .int .i64 512), (5, .pointer (some ⟨b221, 0, none⟩)), (8, .pointer (some ⟨b222, 0, none⟩)), (9, .slice (some ⟨b223, 0, none⟩) 2 4), (10, .int .i64 (wr64 (512 - i2))), (11, .int .i64 1), (12, .int .i64 0), (13, .int .i64 0), (14, .slice (some ⟨b224, 0, none⟩) 2 2), (15, .int .i64 0), (54, .pointer (some ⟨b224, 0, none⟩))]) (by kernel_rfl) ?_
  refine t_v (.ld1 rfl rfl rfl (.at 3 rfl rfl)) ?_
  refine t_qz 1 [2, 3, 5, 8, 9, 10, 11, 12, 13, 14, 15, 16] (σ' := [(2, .int .i64 i2), (3, .int .i64 512), (5, .pointer (some ⟨b221, 0, none⟩)), (8, .pointer (some ⟨b222, 0, none⟩)), (9, .slice (some ⟨b223, 0, none⟩) 2 4), (10, .int .i64 (wr64 (512 - i2))), (11, .int .i64 1), (12, .int .i64 0), (13, .int .i64 0), (14, .slice (some ⟨b224, 0, none⟩) 2 2), (15, .int .i64 0), (16, .int .i64 1)]) (by kernel_rfl) ?_
  refine t_end ?_
  show W _ _ _ _ _ _ _
  refine w_seq ?_
  refine w_seq ?_
  refine w_reg fun all => ?_
  refine t_qz 1 [2, 3, 5, 8, 9, 10, 11, 12, 13, 14, 15, 16, 17] (σ' := [(2, .int .i64 i2), (3, .int .i64 512), (5, .pointer (some ⟨b221, 0, none⟩)), (8, .pointer (some ⟨b222, 0, none⟩)), (9, .slice (some ⟨b223, 0, none⟩) 2 4), (10, .int .i64 (wr64 (512 - i2))), (11, .int .i64 1), (12, .int .i64 0), (13, .int .i64 0), (14, .slice (some ⟨b224, 0, none⟩) 2 2), (15, .int .i64 0), (16, .int .i64 1), (17, .int .i64 0)]) (by kernel_rfl) ?_
  refine t_end ?_
  show W _ _ _ _ _ _ _
  refine w_block ?_
  refine w_lun 10 ?_
  refine wl_step ?_
  refine w_seq ?_
  refine w_seq ?_
  refine w_reg fun all => ?_
  refine t_qz 2 [2, 3, 5, 8, 9, 10, 11, 12, 13, 14, 15, 16, 17, 56, 57] (σ' := [(2, .int .i64 i2), (3, .int .i64 512), (5, .pointer (some ⟨b221, 0, none⟩)), (8, .pointer (some ⟨b222, 0, none⟩)), (9, .slice (some ⟨b223, 0, none⟩) 2 4), (10, .int .i64 (wr64 (512 - i2))), (11, .int .i64 1), (12, .int .i64 0), (13, .int .i64 0), (14, .slice (some ⟨b224, 0, none⟩) 2 2), (15, .int .i64 0), (16, .int .i64 1), (17, .int .i64 0), (56, .int .i64 0), (57, .pointer (some ⟨b221, 0, none⟩))]) (by kernel_rfl) ?_
  refine t_v (.ld1 rfl rfl rfl (.at 6 rfl rfl)) ?_
  refine t_qz 1 [2, 3, 5, 8, 9, 10, 11, 12, 13, 14, 15, 16, 17, 59] (σ' := [(2, .int .i64 i2), (3, .int .i64 512), (5, .pointer (some ⟨b221, 0, none⟩)), (8, .pointer (some ⟨b222, 0, none⟩)), (9, .slice (some ⟨b223, 0, none⟩) 2 4), (10, .int .i64 (wr64 (512 - i2))), (11, .int .i64 1), (12, .int .i64 0), (13, .int .i64 0), (14, .slice (some ⟨b224, 0, none⟩) 2 2), (15, .int .i64 0), (16, .int .i64 1), (17, .int .i64 0), (59, .bool true)]) (by kernel_rfl) ?_
  refine t_end ?_
  show W _ _ _ _ _ _ _
  refine w_cond rfl (fun _ => ?_) (fun c_ => by cases c_)
  show W _ _ _ _ _ _ _
  refine w_skip ?_
  show W _ _ _ _ _ _ _
  refine w_seq ?_
  refine w_block ?_
  refine w_seq ?_
  refine w_reg fun all => ?_
  refine t_qz 3 [2, 3, 5, 8, 9, 10, 11, 12, 13, 14, 15, 16, 17, 64] (σ' := [(2, .int .i64 i2), (3, .int .i64 512), (5, .pointer (some ⟨b221, 0, none⟩)), (8, .pointer (some ⟨b222, 0, none⟩)), (9, .slice (some ⟨b223, 0, none⟩) 2 4), (10, .int .i64 (wr64 (512 - i2))), (11, .int .i64 1), (12, .int .i64 0), (13, .int .i64 0), (14, .slice (some ⟨b224, 0, none⟩) 2 2), (15, .int .i64 0), (16, .int .i64 1), (17, .int .i64 0), (64, .bool false)]) (by kernel_rfl) ?_
  refine t_end ?_
  show W _ _ _ _ _ _ _
  refine w_cond rfl (fun c_ => by cases c_) (fun _ => ?_)
  show W _ _ _ _ _ _ _
  refine w_reg fun all => ?_
  refine t_qz 4 [2, 3, 5, 8, 9, 10, 11, 12, 13, 14, 15, 16, 17] (σ' := [(2, .int .i64 i2), (3, .int .i64 512), (5, .pointer (some ⟨b221, 0, none⟩)), (8, .pointer (some ⟨b222, 0, none⟩)), (9, .slice (some ⟨b223, 0, none⟩) 2 4), (10, .int .i64 (wr64 (512 - i2))), (11, .int .i64 1), (12, .int .i64 0), (13, .int .i64 0), (14, .slice (some ⟨b224, 0, none⟩) 2 2), (15, .int .i64 0), (16, .int .i64 (wr64 (1 * (wr64 (512 - i2))))), (17, .int .i64 0)]) (by kernel_rfl) ?_
  refine t_end ?_
  show W _ _ _ _ _ _ _
  refine w_reg fun all => ?_
  refine t_qz 3 [2, 3, 5, 8, 9, 10, 11, 12, 13, 14, 15, 16, 17] (σ' := [(2, .int .i64 i2), (3, .int .i64 512), (5, .pointer (some ⟨b221, 0, none⟩)), (8, .pointer (some ⟨b222, 0, none⟩)), (9, .slice (some ⟨b223, 0, none⟩) 2 4), (10, .int .i64 (wr64 (512 - i2))), (11, .int .i64 1), (12, .int .i64 0), (13, .int .i64 0), (14, .slice (some ⟨b224, 0, none⟩) 2 2), (15, .int .i64 0), (16, .int .i64 (wr64 (1 * (wr64 (512 - i2))))), (17, .int .i64 1)]) (by kernel_rfl) ?_
  refine t_end ?_
  show WL _ _ _ _ _ _ _ _
  refine wl_step ?_
  refine w_seq ?_
  refine w_seq ?_
  refine w_reg fun all => ?_
  refine t_qz 2 [2, 3, 5, 8, 9, 10, 11, 12, 13, 14, 15, 16, 17, 56, 57] (σ' := [(2, .int .i64 i2), (3, .int .i64 512), (5, .pointer (some ⟨b221, 0, none⟩)), (8, .pointer (some ⟨b222, 0, none⟩)), (9, .slice (some ⟨b223, 0, none⟩) 2 4), (10, .int .i64 (wr64 (512 - i2))), (11, .int .i64 1), (12, .int .i64 0), (13, .int .i64 0), (14, .slice (some ⟨b224, 0, none⟩) 2 2), (15, .int .i64 0), (16, .int .i64 (wr64 (1 * (wr64 (512 - i2))))), (17, .int .i64 1), (56, .int .i64 1), (57, .pointer (some ⟨b221, 0, none⟩))]) (by kernel_rfl) ?_
  refine t_v (.ld1 rfl rfl rfl (.at 6 rfl rfl)) ?_
  refine t_qz 1 [2, 3, 5, 8, 9, 10, 11, 12, 13, 14, 15, 16, 17, 59] (σ' := [(2, .int .i64 i2), (3, .int .i64 512), (5, .pointer (some ⟨b221, 0, none⟩)), (8, .pointer (some ⟨b222, 0, none⟩)), (9, .slice (some ⟨b223, 0, none⟩) 2 4), (10, .int .i64 (wr64 (512 - i2))), (11, .int .i64 1), (12, .int .i64 0), (13, .int .i64 0), (14, .slice (some ⟨b224, 0, none⟩) 2 2), (15, .int .i64 0), (16, .int .i64 (wr64 (1 * (wr64 (512 - i2))))), (17, .int .i64 1), (59, .bool false)]) (by kernel_rfl) ?_
  refine t_end ?_
  show W _ _ _ _ _ _ _
  refine w_cond rfl (fun c_ => by cases c_) (fun _ => ?_)
  show W _ _ _ _ _ _ _
  refine w_exit ?_
  show W _ _ _ _ _ _ _
  refine w_seq ?_
  refine w_reg fun all => ?_
  refine t_qz 6 [2, 3, 5, 8, 9, 10, 11, 13, 14, 15, 16, 71, 72, 76] (σ' := [(2, .int .i64 i2), (3, .int .i64 512), (5, .pointer (some ⟨b221, 0, none⟩)), (8, .pointer (some ⟨b222, 0, none⟩)), (9, .slice (some ⟨b223, 0, none⟩) 2 4), (10, .int .i64 (wr64 (512 - i2))), (11, .int .i64 1), (13, .int .i64 0), (14, .slice (some ⟨b224, 0, none⟩) 2 2), (15, .int .i64 0), (16, .int .i64 (wr64 (1 * (wr64 (512 - i2))))), (71, .int .i64 0), (72, .int .i64 (wr64 (1 * (wr64 (512 - i2))))), (76, .pointer (some ⟨b223, 0, none⟩))]) (by kernel_rfl) ?_
  refine t_v (.ld1 rfl rfl rfl (.at 4 rfl rfl)) ?_
  refine t_qz 3 [2, 3, 5, 8, 9, 10, 11, 12, 13, 14, 15, 16] (σ' := [(2, .int .i64 i2), (3, .int .i64 512), (5, .pointer (some ⟨b221, 0, none⟩)), (8, .pointer (some ⟨b222, 0, none⟩)), (9, .slice (some ⟨b223, 0, none⟩) 2 4), (10, .int .i64 (wr64 (512 - i2))), (11, .int .i64 1), (12, .int .i64 (wr64 (0 + (wr64 ((wr64 (1 * (wr64 (512 - i2)))) * a0_0))))), (13, .int .i64 0), (14, .slice (some ⟨b224, 0, none⟩) 2 2), (15, .int .i64 0), (16, .int .i64 (wr64 (1 * (wr64 (512 - i2)))))]) (by kernel_rfl) ?_
  refine t_end ?_
  show W _ _ _ _ _ _ _
  refine w_reg fun all => ?_
  refine t_qz 6 [2, 3, 5, 8, 9, 10, 11, 12, 14, 15, 80, 81, 85] (σ' := [(2, .int .i64 i2), (3, .int .i64 512), (5, .pointer (some ⟨b221, 0, none⟩)), (8, .pointer (some ⟨b222, 0, none⟩)), (9, .slice (some ⟨b223, 0, none⟩) 2 4), (10, .int .i64 (wr64 (512 - i2))), (11, .int .i64 1), (12, .int .i64 (wr64 (0 + (wr64 ((wr64 (1 * (wr64 (512 - i2)))) * a0_0))))), (14, .slice (some ⟨b224, 0, none⟩) 2 2), (15, .int .i64 0), (80, .int .i64 0), (81, .int .i64 (wr64 (1 * (wr64 (512 - i2))))), (85, .pointer (some ⟨b223, 1, none⟩))]) (by kernel_rfl) ?_
  refine t_v (.ld1 rfl rfl rfl (.at 4 rfl rfl)) ?_
  refine t_qz 3 [2, 3, 5, 8, 9, 10, 11, 12, 13, 14, 15] (σ' := [(2, .int .i64 i2), (3, .int .i64 512), (5, .pointer (some ⟨b221, 0, none⟩)), (8, .pointer (some ⟨b222, 0, none⟩)), (9, .slice (some ⟨b223, 0, none⟩) 2 4), (10, .int .i64 (wr64 (512 - i2))), (11, .int .i64 1), (12, .int .i64 (wr64 (0 + (wr64 ((wr64 (1 * (wr64 (512 - i2)))) * a0_0))))), (13, .int .i64 (wr64 (0 + (wr64 ((wr64 (1 * (wr64 (512 - i2)))) * a0_1))))), (14, .slice (some ⟨b224, 0, none⟩) 2 2), (15, .int .i64 0)]) (by kernel_rfl) ?_
  refine t_end ?_
  show W _ _ _ _ _ _ _
  refine w_reg fun all => ?_
  refine t_qz 3 [2, 3, 5, 8, 9, 10, 11, 12, 13, 14, 15] (σ' := [(2, .int .i64 i2), (3, .int .i64 512), (5, .pointer (some ⟨b221, 0, none⟩)), (8, .pointer (some ⟨b222, 0, none⟩)), (9, .slice (some ⟨b223, 0, none⟩) 2 4), (10, .int .i64 (wr64 (512 - i2))), (11, .int .i64 1), (12, .int .i64 (wr64 (0 + (wr64 ((wr64 (1 * (wr64 (512 - i2)))) * a0_0))))), (13, .int .i64 (wr64 (0 + (wr64 ((wr64 (1 * (wr64 (512 - i2)))) * a0_1))))), (14, .slice (some ⟨b224, 0, none⟩) 2 2), (15, .int .i64 1)]) (by kernel_rfl) ?_
  refine t_end ?_
  show WL _ _ _ _ _ _ _ _
  refine wl_step ?_
  refine w_seq ?_
  refine w_seq ?_
  refine w_reg fun all => ?_
  refine t_qz 2 [2, 3, 5, 8, 9, 10, 11, 12, 13, 14, 15, 46, 47] (σ' := [(2, .int .i64 i2), (3, .int .i64 512), (5, .pointer (some ⟨b221, 0, none⟩)), (8, .pointer (some ⟨b222, 0, none⟩)), (9, .slice (some ⟨b223, 0, none⟩) 2 4), (10, .int .i64 (wr64 (512 - i2))), (11, .int .i64 1), (12, .int .i64 (wr64 (0 + (wr64 ((wr64 (1 * (wr64 (512 - i2)))) * a0_0))))), (13, .int .i64 (wr64 (0 + (wr64 ((wr64 (1 * (wr64 (512 - i2)))) * a0_1))))), (14, .slice (some ⟨b224, 0, none⟩) 2 2), (15, .int .i64 1), (46, .int .i64 1), (47, .pointer (some ⟨b221, 0, none⟩))]) (by kernel_rfl) ?_
  refine t_v (.ld1 rfl rfl rfl (.at 6 rfl rfl)) ?_
  refine t_qz 1 [2, 3, 5, 8, 9, 10, 11, 12, 13, 14, 15, 49] (σ' := [(2, .int .i64 i2), (3, .int .i64 512), (5, .pointer (some ⟨b221, 0, none⟩)), (8, .pointer (some ⟨b222, 0, none⟩)), (9, .slice (some ⟨b223, 0, none⟩) 2 4), (10, .int .i64 (wr64 (512 - i2))), (11, .int .i64 1), (12, .int .i64 (wr64 (0 + (wr64 ((wr64 (1 * (wr64 (512 - i2)))) * a0_0))))), (13, .int .i64 (wr64 (0 + (wr64 ((wr64 (1 * (wr64 (512 - i2)))) * a0_1))))), (14, .slice (some ⟨b224, 0, none⟩) 2 2), (15, .int .i64 1), (49, .bool true)]) (by kernel_rfl) ?_
  refine t_end ?_
  show W _ _ _ _ _ _ _
  refine w_cond rfl (fun _ => ?_) (fun c_ => by cases c_)
  show W _ _ _ _ _ _ _
  refine w_skip ?_
  show W _ _ _ _ _ _ _
  refine w_seq ?_
  refine w_block ?_
  refine w_seq ?_
  refine w_reg fun all => ?_
  refine t_qz 3 [2, 3, 5, 8, 9, 10, 11, 12, 13, 14, 15, 54] (σ' := [(2, .int .i64 i2), (3, .int .i64 512), (5, .pointer (some ⟨b221, 0, none⟩)), (8, .pointer (some ⟨b222, 0, none⟩)), (9, .slice (some ⟨b223, 0, none⟩) 2 4), (10, .int .i64 (wr64 (512 - i2))), (11, .int .i64 1), (12, .int .i64 (wr64 (0 + (wr64 ((wr64 (1 * (wr64 (512 - i2)))) * a0_0))))), (13, .int .i64 (wr64 (0 + (wr64 ((wr64 (1 * (wr64 (512 - i2)))) * a0_1))))), (14, .slice (some ⟨b224, 0, none⟩) 2 2), (15, .int .i64 1), (54, .pointer (some ⟨b224, 1, none⟩))]) (by kernel_rfl) ?_
  refine t_v (.ld1 rfl rfl rfl (.at 3 rfl rfl)) ?_
  refine t_qz 1 [2, 3, 5, 8, 9, 10, 11, 12, 13, 14, 15, 16] (σ' := [(2, .int .i64 i2), (3, .int .i64 512), (5, .pointer (some ⟨b221, 0, none⟩)), (8, .pointer (some ⟨b222, 0, none⟩)), (9, .slice (some ⟨b223, 0, none⟩) 2 4), (10, .int .i64 (wr64 (512 - i2))), (11, .int .i64 1), (12, .int .i64 (wr64 (0 + (wr64 ((wr64 (1 * (wr64 (512 - i2)))) * a0_0))))), (13, .int .i64 (wr64 (0 + (wr64 ((wr64 (1 * (wr64 (512 - i2)))) * a0_1))))), (14, .slice (some ⟨b224, 0, none⟩) 2 2), (15, .int .i64 1), (16, .int .i64 1)]) (by kernel_rfl) ?_
  refine t_end ?_
  show W _ _ _ _ _ _ _
  refine w_seq ?_
  refine w_seq ?_
  refine w_reg fun all => ?_
  refine t_qz 1 [2, 3, 5, 8, 9, 10, 11, 12, 13, 14, 15, 16, 17] (σ' := [(2, .int .i64 i2), (3, .int .i64 512), (5, .pointer (some ⟨b221, 0, none⟩)), (8, .pointer (some ⟨b222, 0, none⟩)), (9, .slice (some ⟨b223, 0, none⟩) 2 4), (10, .int .i64 (wr64 (512 - i2))), (11, .int .i64 1), (12, .int .i64 (wr64 (0 + (wr64 ((wr64 (1 * (wr64 (512 - i2)))) * a0_0))))), (13, .int .i64 (wr64 (0 + (wr64 ((wr64 (1 * (wr64 (512 - i2)))) * a0_1))))), (14, .slice (some ⟨b224, 0, none⟩) 2 2), (15, .int .i64 1), (16, .int .i64 1), (17, .int .i64 0)]) (by kernel_rfl) ?_
  refine t_end ?_
  show W _ _ _ _ _ _ _
  refine w_block ?_
  refine w_lun 10 ?_
  refine wl_step ?_
  refine w_seq ?_
  refine w_seq ?_
  refine w_reg fun all => ?_
  refine t_qz 2 [2, 3, 5, 8, 9, 10, 11, 12, 13, 14, 15, 16, 17, 56, 57] (σ' := [(2, .int .i64 i2), (3, .int .i64 512), (5, .pointer (some ⟨b221, 0, none⟩)), (8, .pointer (some ⟨b222, 0, none⟩)), (9, .slice (some ⟨b223, 0, none⟩) 2 4), (10, .int .i64 (wr64 (512 - i2))), (11, .int .i64 1), (12, .int .i64 (wr64 (0 + (wr64 ((wr64 (1 * (wr64 (512 - i2)))) * a0_0))))), (13, .int .i64 (wr64 (0 + (wr64 ((wr64 (1 * (wr64 (512 - i2)))) * a0_1))))), (14, .slice (some ⟨b224, 0, none⟩) 2 2), (15, .int .i64 1), (16, .int .i64 1), (17, .int .i64 0), (56, .int .i64 0), (57, .pointer (some ⟨b221, 0, none⟩))]) (by kernel_rfl) ?_
  refine t_v (.ld1 rfl rfl rfl (.at 6 rfl rfl)) ?_
  refine t_qz 1 [2, 3, 5, 8, 9, 10, 11, 12, 13, 14, 15, 16, 17, 59] (σ' := [(2, .int .i64 i2), (3, .int .i64 512), (5, .pointer (some ⟨b221, 0, none⟩)), (8, .pointer (some ⟨b222, 0, none⟩)), (9, .slice (some ⟨b223, 0, none⟩) 2 4), (10, .int .i64 (wr64 (512 - i2))), (11, .int .i64 1), (12, .int .i64 (wr64 (0 + (wr64 ((wr64 (1 * (wr64 (512 - i2)))) * a0_0))))), (13, .int .i64 (wr64 (0 + (wr64 ((wr64 (1 * (wr64 (512 - i2)))) * a0_1))))), (14, .slice (some ⟨b224, 0, none⟩) 2 2), (15, .int .i64 1), (16, .int .i64 1), (17, .int .i64 0), (59, .bool true)]) (by kernel_rfl) ?_
  refine t_end ?_
  show W _ _ _ _ _ _ _
  refine w_cond rfl (fun _ => ?_) (fun c_ => by cases c_)
  show W _ _ _ _ _ _ _
  refine w_skip ?_
  show W _ _ _ _ _ _ _
  refine w_seq ?_
  refine w_block ?_
  refine w_seq ?_
  refine w_reg fun all => ?_
  refine t_qz 3 [2, 3, 5, 8, 9, 10, 11, 12, 13, 14, 15, 16, 17, 64] (σ' := [(2, .int .i64 i2), (3, .int .i64 512), (5, .pointer (some ⟨b221, 0, none⟩)), (8, .pointer (some ⟨b222, 0, none⟩)), (9, .slice (some ⟨b223, 0, none⟩) 2 4), (10, .int .i64 (wr64 (512 - i2))), (11, .int .i64 1), (12, .int .i64 (wr64 (0 + (wr64 ((wr64 (1 * (wr64 (512 - i2)))) * a0_0))))), (13, .int .i64 (wr64 (0 + (wr64 ((wr64 (1 * (wr64 (512 - i2)))) * a0_1))))), (14, .slice (some ⟨b224, 0, none⟩) 2 2), (15, .int .i64 1), (16, .int .i64 1), (17, .int .i64 0), (64, .bool true)]) (by kernel_rfl) ?_
  refine t_end ?_
  show W _ _ _ _ _ _ _
  refine w_cond rfl (fun _ => ?_) (fun c_ => by cases c_)
  show W _ _ _ _ _ _ _
  refine w_reg fun all => ?_
  refine t_qz 4 [2, 3, 5, 8, 9, 10, 11, 12, 13, 14, 15, 16, 17] (σ' := [(2, .int .i64 i2), (3, .int .i64 512), (5, .pointer (some ⟨b221, 0, none⟩)), (8, .pointer (some ⟨b222, 0, none⟩)), (9, .slice (some ⟨b223, 0, none⟩) 2 4), (10, .int .i64 (wr64 (512 - i2))), (11, .int .i64 1), (12, .int .i64 (wr64 (0 + (wr64 ((wr64 (1 * (wr64 (512 - i2)))) * a0_0))))), (13, .int .i64 (wr64 (0 + (wr64 ((wr64 (1 * (wr64 (512 - i2)))) * a0_1))))), (14, .slice (some ⟨b224, 0, none⟩) 2 2), (15, .int .i64 1), (16, .int .i64 (wr64 (1 * i2))), (17, .int .i64 0)]) (by kernel_rfl) ?_
  refine t_end ?_
  show W _ _ _ _ _ _ _
  refine w_reg fun all => ?_
  refine t_qz 3 [2, 3, 5, 8, 9, 10, 11, 12, 13, 14, 15, 16, 17] (σ' := [(2, .int .i64 i2), (3, .int .i64 512), (5, .pointer (some ⟨b221, 0, none⟩)), (8, .pointer (some ⟨b222, 0, none⟩)), (9, .slice (some ⟨b223, 0, none⟩) 2 4), (10, .int .i64 (wr64 (512 - i2))), (11, .int .i64 1), (12, .int .i64 (wr64 (0 + (wr64 ((wr64 (1 * (wr64 (512 - i2)))) * a0_0))))), (13, .int .i64 (wr64 (0 + (wr64 ((wr64 (1 * (wr64 (512 - i2)))) * a0_1))))), (14, .slice (some ⟨b224, 0, none⟩) 2 2), (15, .int .i64 1), (16, .int .i64 (wr64 (1 * i2))), (17, .int .i64 1)]) (by kernel_rfl) ?_
  refine t_end ?_
  show WL _ _ _ _ _ _ _ _
  refine wl_step ?_
  refine w_seq ?_
  refine w_seq ?_
  refine w_reg fun all => ?_
  refine t_qz 2 [2, 3, 5, 8, 9, 10, 11, 12, 13, 14, 15, 16, 17, 56, 57] (σ' := [(2, .int .i64 i2), (3, .int .i64 512), (5, .pointer (some ⟨b221, 0, none⟩)), (8, .pointer (some ⟨b222, 0, none⟩)), (9, .slice (some ⟨b223, 0, none⟩) 2 4), (10, .int .i64 (wr64 (512 - i2))), (11, .int .i64 1), (12, .int .i64 (wr64 (0 + (wr64 ((wr64 (1 * (wr64 (512 - i2)))) * a0_0))))), (13, .int .i64 (wr64 (0 + (wr64 ((wr64 (1 * (wr64 (512 - i2)))) * a0_1))))), (14, .slice (some ⟨b224, 0, none⟩) 2 2), (15, .int .i64 1), (16, .int .i64 (wr64 (1 * i2))), (17, .int .i64 1), (56, .int .i64 1), (57, .pointer (some ⟨b221, 0, none⟩))]) (by kernel_rfl) ?_
  refine t_v (.ld1 rfl rfl rfl (.at 6 rfl rfl)) ?_
  refine t_qz 1 [2, 3, 5, 8, 9, 10, 11, 12, 13, 14, 15, 16, 17, 59] (σ' := [(2, .int .i64 i2), (3, .int .i64 512), (5, .pointer (some ⟨b221, 0, none⟩)), (8, .pointer (some ⟨b222, 0, none⟩)), (9, .slice (some ⟨b223, 0, none⟩) 2 4), (10, .int .i64 (wr64 (512 - i2))), (11, .int .i64 1), (12, .int .i64 (wr64 (0 + (wr64 ((wr64 (1 * (wr64 (512 - i2)))) * a0_0))))), (13, .int .i64 (wr64 (0 + (wr64 ((wr64 (1 * (wr64 (512 - i2)))) * a0_1))))), (14, .slice (some ⟨b224, 0, none⟩) 2 2), (15, .int .i64 1), (16, .int .i64 (wr64 (1 * i2))), (17, .int .i64 1), (59, .bool false)]) (by kernel_rfl) ?_
  refine t_end ?_
  show W _ _ _ _ _ _ _
  refine w_cond rfl (fun c_ => by cases c_) (fun _ => ?_)
  show W _ _ _ _ _ _ _
  refine w_exit ?_
  show W _ _ _ _ _ _ _
  refine w_seq ?_
  refine w_reg fun all => ?_
  refine t_qz 6 [2, 3, 5, 8, 9, 10, 11, 13, 14, 15, 16, 71, 72, 76] (σ' := [(2, .int .i64 i2), (3, .int .i64 512), (5, .pointer (some ⟨b221, 0, none⟩)), (8, .pointer (some ⟨b222, 0, none⟩)), (9, .slice (some ⟨b223, 0, none⟩) 2 4), (10, .int .i64 (wr64 (512 - i2))), (11, .int .i64 1), (13, .int .i64 (wr64 (0 + (wr64 ((wr64 (1 * (wr64 (512 - i2)))) * a0_1))))), (14, .slice (some ⟨b224, 0, none⟩) 2 2), (15, .int .i64 1), (16, .int .i64 (wr64 (1 * i2))), (71, .int .i64 (wr64 (0 + (wr64 ((wr64 (1 * (wr64 (512 - i2)))) * a0_0))))), (72, .int .i64 (wr64 (1 * i2))), (76, .pointer (some ⟨b223, 2, none⟩))]) (by kernel_rfl) ?_
  refine t_v (.ld1 rfl rfl rfl (.at 4 rfl rfl)) ?_
  refine t_qz 3 [2, 3, 5, 8, 9, 10, 11, 12, 13, 14, 15, 16] (σ' := [(2, .int .i64 i2), (3, .int .i64 512), (5, .pointer (some ⟨b221, 0, none⟩)), (8, .pointer (some ⟨b222, 0, none⟩)), (9, .slice (some ⟨b223, 0, none⟩) 2 4), (10, .int .i64 (wr64 (512 - i2))), (11, .int .i64 1), (12, .int .i64 (wr64 ((wr64 (0 + (wr64 ((wr64 (1 * (wr64 (512 - i2)))) * a0_0)))) + (wr64 ((wr64 (1 * i2)) * s1_1))))), (13, .int .i64 (wr64 (0 + (wr64 ((wr64 (1 * (wr64 (512 - i2)))) * a0_1))))), (14, .slice (some ⟨b224, 0, none⟩) 2 2), (15, .int .i64 1), (16, .int .i64 (wr64 (1 * i2)))]) (by kernel_rfl) ?_
  refine t_end ?_
  show W _ _ _ _ _ _ _
  refine w_reg fun all => ?_
  refine t_qz 6 [2, 3, 5, 8, 9, 10, 11, 12, 14, 15, 80, 81, 85] (σ' := [(2, .int .i64 i2), (3, .int .i64 512), (5, .pointer (some ⟨b221, 0, none⟩)), (8, .pointer (some ⟨b222, 0, none⟩)), (9, .slice (some ⟨b223, 0, none⟩) 2 4), (10, .int .i64 (wr64 (512 - i2))), (11, .int .i64 1), (12, .int .i64 (wr64 ((wr64 (0 + (wr64 ((wr64 (1 * (wr64 (512 - i2)))) * a0_0)))) + (wr64 ((wr64 (1 * i2)) * s1_1))))), (14, .slice (some ⟨b224, 0, none⟩) 2 2), (15, .int .i64 1), (80, .int .i64 (wr64 (0 + (wr64 ((wr64 (1 * (wr64 (512 - i2)))) * a0_1))))), (81, .int .i64 (wr64 (1 * i2))), (85, .pointer (some ⟨b223, 3, none⟩))]) (by kernel_rfl) ?_
  refine t_v (.ld1 rfl rfl rfl (.at 4 rfl rfl)) ?_
  refine t_qz 3 [2, 3, 5, 8, 9, 10, 11, 12, 13, 14, 15] (σ' := [(2, .int .i64 i2), (3, .int .i64 512), (5, .pointer (some ⟨b221, 0, none⟩)), (8, .pointer (some ⟨b222, 0, none⟩)), (9, .slice (some ⟨b223, 0, none⟩) 2 4), (10, .int .i64 (wr64 (512 - i2))), (11, .int .i64 1), (12, .int .i64 (wr64 ((wr64 (0 + (wr64 ((wr64 (1 * (wr64 (512 - i2)))) * a0_0)))) + (wr64 ((wr64 (1 * i2)) * s1_1))))), (13, .int .i64 (wr64 ((wr64 (0 + (wr64 ((wr64 (1 * (wr64 (512 - i2)))) * a0_1)))) + (wr64 ((wr64 (1 * i2)) * s1_2))))), (14, .slice (some ⟨b224, 0, none⟩) 2 2), (15, .int .i64 1)]) (by kernel_rfl) ?_
  refine t_end ?_
  show W _ _ _ _ _ _ _
  refine w_reg fun all => ?_
  refine t_qz 3 [2, 3, 5, 8, 9, 10, 11, 12, 13, 14, 15] (σ' := [(2, .int .i64 i2), (3, .int .i64 512), (5, .pointer (some ⟨b221, 0, none⟩)), (8, .pointer (some ⟨b222, 0, none⟩)), (9, .slice (some ⟨b223, 0, none⟩) 2 4), (10, .int .i64 (wr64 (512 - i2))), (11, .int .i64 1), (12, .int .i64 (wr64 ((wr64 (0 + (wr64 ((wr64 (1 * (wr64 (512 - i2)))) * a0_0)))) + (wr64 ((wr64 (1 * i2)) * s1_1))))), (13, .int .i64 (wr64 ((wr64 (0 + (wr64 ((wr64 (1 * (wr64 (512 - i2)))) * a0_1)))) + (wr64 ((wr64 (1 * i2)) * s1_2))))), (14, .slice (some ⟨b224, 0, none⟩) 2 2), (15, .int .i64 2)]) (by kernel_rfl) ?_
  refine t_end ?_
  show WL _ _ _ _ _ _ _ _
  refine wl_step ?_
  refine w_seq ?_
  refine w_seq ?_
  refine w_reg fun all => ?_
  refine t_qz 2 [2, 3, 5, 8, 9, 10, 11, 12, 13, 14, 15, 46, 47] (σ' := [(2, .int .i64 i2), (3, .int .i64 512), (5, .pointer (some ⟨b221, 0, none⟩)), (8, .pointer (some ⟨b222, 0, none⟩)), (9, .slice (some ⟨b223, 0, none⟩) 2 4), (10, .int .i64 (wr64 (512 - i2))), (11, .int .i64 1), (12, .int .i64 (wr64 ((wr64 (0 + (wr64 ((wr64 (1 * (wr64 (512 - i2)))) * a0_0)))) + (wr64 ((wr64 (1 * i2)) * s1_1))))), (13, .int .i64 (wr64 ((wr64 (0 + (wr64 ((wr64 (1 * (wr64 (512 - i2)))) * a0_1)))) + (wr64 ((wr64 (1 * i2)) * s1_2))))), (14, .slice (some ⟨b224, 0, none⟩) 2 2), (15, .int .i64 2), (46, .int .i64 2), (47, .pointer (some ⟨b221, 0, none⟩))]) (by kernel_rfl) ?_
  refine t_v (.ld1 rfl rfl rfl (.at 6 rfl rfl)) ?_
  refine t_qz 1 [2, 3, 5, 8, 9, 10, 11, 12, 13, 14, 15, 49] (σ' := [(2, .int .i64 i2), (3, .int .i64 512), (5, .pointer (some ⟨b221, 0, none⟩)), (8, .pointer (some ⟨b222, 0, none⟩)), (9, .slice (some ⟨b223, 0, none⟩) 2 4), (10, .int .i64 (wr64 (512 - i2))), (11, .int .i64 1), (12, .int .i64 (wr64 ((wr64 (0 + (wr64 ((wr64 (1 * (wr64 (512 - i2)))) * a0_0)))) + (wr64 ((wr64 (1 * i2)) * s1_1))))), (13, .int .i64 (wr64 ((wr64 (0 + (wr64 ((wr64 (1 * (wr64 (512 - i2)))) * a0_1)))) + (wr64 ((wr64 (1 * i2)) * s1_2))))), (14, .slice (some ⟨b224, 0, none⟩) 2 2), (15, .int .i64 2), (49, .bool false)]) (by kernel_rfl) ?_
  refine t_end ?_
  show W _ _ _ _ _ _ _
  refine w_cond rfl (fun c_ => by cases c_) (fun _ => ?_)
  show W _ _ _ _ _ _ _
  refine w_exit ?_
  show W _ _ _ _ _ _ _
  refine w_seq ?_
  refine w_seq ?_
  refine w_reg fun all => ?_
  refine t_qz 1 [3, 5, 8, 11, 12, 13, 18] (σ' := [(3, .int .i64 512), (5, .pointer (some ⟨b221, 0, none⟩)), (8, .pointer (some ⟨b222, 0, none⟩)), (11, .int .i64 1), (12, .int .i64 (wr64 ((wr64 (0 + (wr64 ((wr64 (1 * (wr64 (512 - i2)))) * a0_0)))) + (wr64 ((wr64 (1 * i2)) * s1_1))))), (13, .int .i64 (wr64 ((wr64 (0 + (wr64 ((wr64 (1 * (wr64 (512 - i2)))) * a0_1)))) + (wr64 ((wr64 (1 * i2)) * s1_2))))), (18, .int .i64 0)]) (by kernel_rfl) ?_
  refine t_end ?_
  show W _ _ _ _ _ _ _
  refine w_block ?_
  refine w_lun 10 ?_
  refine wl_step ?_
  refine w_seq ?_
  refine w_seq ?_
  refine w_reg fun all => ?_
  refine t_qz 2 [3, 5, 8, 11, 12, 13, 18, 89, 90] (σ' := [(3, .int .i64 512), (5, .pointer (some ⟨b221, 0, none⟩)), (8, .pointer (some ⟨b222, 0, none⟩)), (11, .int .i64 1), (12, .int .i64 (wr64 ((wr64 (0 + (wr64 ((wr64 (1 * (wr64 (512 - i2)))) * a0_0)))) + (wr64 ((wr64 (1 * i2)) * s1_1))))), (13, .int .i64 (wr64 ((wr64 (0 + (wr64 ((wr64 (1 * (wr64 (512 - i2)))) * a0_1)))) + (wr64 ((wr64 (1 * i2)) * s1_2))))), (18, .int .i64 0), (89, .int .i64 0), (90, .pointer (some ⟨b221, 0, none⟩))]) (by kernel_rfl) ?_
  refine t_v (.ld1 rfl rfl rfl (.at 6 rfl rfl)) ?_
  refine t_qz 1 [3, 5, 8, 11, 12, 13, 18, 92] (σ' := [(3, .int .i64 512), (5, .pointer (some ⟨b221, 0, none⟩)), (8, .pointer (some ⟨b222, 0, none⟩)), (11, .int .i64 1), (12, .int .i64 (wr64 ((wr64 (0 + (wr64 ((wr64 (1 * (wr64 (512 - i2)))) * a0_0)))) + (wr64 ((wr64 (1 * i2)) * s1_1))))), (13, .int .i64 (wr64 ((wr64 (0 + (wr64 ((wr64 (1 * (wr64 (512 - i2)))) * a0_1)))) + (wr64 ((wr64 (1 * i2)) * s1_2))))), (18, .int .i64 0), (92, .bool true)]) (by kernel_rfl) ?_
  refine t_end ?_
  show W _ _ _ _ _ _ _
  refine w_cond rfl (fun _ => ?_) (fun c_ => by cases c_)
  show W _ _ _ _ _ _ _
  refine w_skip ?_
  show W _ _ _ _ _ _ _
  refine w_seq ?_
  refine w_block ?_
  refine w_reg fun all => ?_
  refine t_qz 4 [3, 5, 8, 11, 12, 13, 18] (σ' := [(3, .int .i64 512), (5, .pointer (some ⟨b221, 0, none⟩)), (8, .pointer (some ⟨b222, 0, none⟩)), (11, .int .i64 512), (12, .int .i64 (wr64 ((wr64 (0 + (wr64 ((wr64 (1 * (wr64 (512 - i2)))) * a0_0)))) + (wr64 ((wr64 (1 * i2)) * s1_1))))), (13, .int .i64 (wr64 ((wr64 (0 + (wr64 ((wr64 (1 * (wr64 (512 - i2)))) * a0_1)))) + (wr64 ((wr64 (1 * i2)) * s1_2))))), (18, .int .i64 0)]) (by kernel_rfl) ?_
  refine t_end ?_
  show W _ _ _ _ _ _ _
  refine w_reg fun all => ?_
  refine t_qz 3 [3, 5, 8, 11, 12, 13, 18] (σ' := [(3, .int .i64 512), (5, .pointer (some ⟨b221, 0, none⟩)), (8, .pointer (some ⟨b222, 0, none⟩)), (11, .int .i64 512), (12, .int .i64 (wr64 ((wr64 (0 + (wr64 ((wr64 (1 * (wr64 (512 - i2)))) * a0_0)))) + (wr64 ((wr64 (1 * i2)) * s1_1))))), (13, .int .i64 (wr64 ((wr64 (0 + (wr64 ((wr64 (1 * (wr64 (512 - i2)))) * a0_1)))) + (wr64 ((wr64 (1 * i2)) * s1_2))))), (18, .int .i64 1)]) (by kernel_rfl) ?_
  refine t_end ?_
  show WL _ _ _ _ _ _ _ _
  refine wl_step ?_
  refine w_seq ?_
  refine w_seq ?_
  refine w_reg fun all => ?_
  refine t_qz 2 [3, 5, 8, 11, 12, 13, 18, 89, 90] (σ' := [(3, .int .i64 512), (5, .pointer (some ⟨b221, 0, none⟩)), (8, .pointer (some ⟨b222, 0, none⟩)), (11, .int .i64 512), (12, .int .i64 (wr64 ((wr64 (0 + (wr64 ((wr64 (1 * (wr64 (512 - i2)))) * a0_0)))) + (wr64 ((wr64 (1 * i2)) * s1_1))))), (13, .int .i64 (wr64 ((wr64 (0 + (wr64 ((wr64 (1 * (wr64 (512 - i2)))) * a0_1)))) + (wr64 ((wr64 (1 * i2)) * s1_2))))), (18, .int .i64 1), (89, .int .i64 1), (90, .pointer (some ⟨b221, 0, none⟩))]) (by kernel_rfl) ?_
  refine t_v (.ld1 rfl rfl rfl (.at 6 rfl rfl)) ?_
  refine t_qz 1 [3, 5, 8, 11, 12, 13, 18, 92] (σ' := [(3, .int .i64 512), (5, .pointer (some ⟨b221, 0, none⟩)), (8, .pointer (some ⟨b222, 0, none⟩)), (11, .int .i64 512), (12, .int .i64 (wr64 ((wr64 (0 + (wr64 ((wr64 (1 * (wr64 (512 - i2)))) * a0_0)))) + (wr64 ((wr64 (1 * i2)) * s1_1))))), (13, .int .i64 (wr64 ((wr64 (0 + (wr64 ((wr64 (1 * (wr64 (512 - i2)))) * a0_1)))) + (wr64 ((wr64 (1 * i2)) * s1_2))))), (18, .int .i64 1), (92, .bool false)]) (by kernel_rfl) ?_
  refine t_end ?_
  show W _ _ _ _ _ _ _
  refine w_cond rfl (fun c_ => by cases c_) (fun _ => ?_)
  show W _ _ _ _ _ _ _
  refine w_exit ?_
  show W _ _ _ _ _ _ _
  refine w_seq ?_
  refine w_reg fun all => ?_
  obtain ⟨t235, h236, e⟩ := bind_of e
  refine t_qz 2 [8, 11, 13, 98, 99] (σ' := [(8, .pointer (some ⟨b222, 0, none⟩)), (11, .int .i64 512), (13, .int .i64 (wr64 ((wr64 (0 + (wr64 ((wr64 (1 * (wr64 (512 - i2)))) * a0_1)))) + (wr64 ((wr64 (1 * i2)) * s1_2))))), (98, .int .i64 (wr64 ((wr64 (0 + (wr64 ((wr64 (1 * (wr64 (512 - i2)))) * a0_0)))) + (wr64 ((wr64 (1 * i2)) * s1_1))))), (99, .int .i64 512)]) (by kernel_rfl) ?_
  refine t_v (.call (vs := [.int .i64 (wr64 ((wr64 (0 + (wr64 ((wr64 (1 * (wr64 (512 - i2)))) * a0_0)))) + (wr64 ((wr64 (1 * i2)) * s1_1)))), .int .i64 512]) rfl rfl (by kernel_rfl) (glyphicref1_Round.ok h236)) ?_
  obtain ⟨t237, h238, e⟩ := bind_of e
  refine t_qz 2 [8, 100, 101, 102] (σ' := [(8, .pointer (some ⟨b222, 0, none⟩)), (100, .int .i64 t235), (101, .int .i64 (wr64 ((wr64 (0 + (wr64 ((wr64 (1 * (wr64 (512 - i2)))) * a0_1)))) + (wr64 ((wr64 (1 * i2)) * s1_2))))), (102, .int .i64 512)]) (by kernel_rfl) ?_
  refine t_v (.call (vs := [.int .i64 (wr64 ((wr64 (0 + (wr64 ((wr64 (1 * (wr64 (512 - i2)))) * a0_1)))) + (wr64 ((wr64 (1 * i2)) * s1_2)))), .int .i64 512]) rfl rfl (by kernel_rfl) (glyphicref1_Round.ok h238)) ?_
  refine t_qz 1 [8, 104] (σ' := [(8, .pointer (some ⟨b222, 0, none⟩)), (104, .agg #[.int .i64 t235, .int .i64 t237])]) (by kernel_rfl) ?_
  refine t_sti 5 (cs := [.int .i64 t235, .int .i64 t237]) rfl rfl rfl rfl rfl rfl rfl rfl rfl ?_
  refine t_keep [8] (σ' := [(8, .pointer (some ⟨b222, 0, none⟩))]) (by kernel_rfl) ?_
  refine t_end ?_
  show W _ _ _ _ _ _ _
  refine w_ret ?_
  simp only [Option.some.injEq, Prod.mk.injEq] at e
  obtain ⟨rfl, rfl⟩ := e
  exact ⟨[.agg #[.int .i64 t235, .int .i64 t237]], [], S, ⟨⟨_, _, _, rfl, .at 5 rfl rfl, rfl⟩, trivial⟩, VS.none, rfl, rfl, rfl⟩

/-- glyphicref1.Dot -/
def c77 : C :=
  (.seq (.reg [⟨(some 3), .box (.tmp 0), none⟩,
     ⟨(some 4), .box (.tmp 1), none⟩,
     ⟨(some 5), .box (.tmp 2), none⟩,
     ⟨(some 6), .mv (.const (.int .i64 0)), none⟩])
  (.seq (.reg [⟨(some 7), .pad 0 (.tmp 4), none⟩,
     ⟨(some 8), .ld none (.tmp 7), none⟩,
     ⟨(some 9), .pad 0 (.tmp 3), none⟩,
     ⟨(some 10), .ld none (.tmp 9), none⟩,
     ⟨(some 11), .bin .sub (.tmp 8) (.tmp 10), none⟩,
     ⟨(some 12), .pad 0 (.tmp 5), none⟩,
     ⟨(some 13), .ld none (.tmp 12), none⟩,
     ⟨(some 14), .pad 0 (.tmp 3), none⟩,
     ⟨(some 15), .ld none (.tmp 14), none⟩,
     ⟨(some 16), .bin .sub (.tmp 13) (.tmp 15), none⟩,
     ⟨(some 17), .bin .mul (.tmp 11) (.tmp 16), none⟩,
     ⟨(some 18), .pad 1 (.tmp 4), none⟩,
     ⟨(some 19), .ld none (.tmp 18), none⟩,
     ⟨(some 20), .pad 1 (.tmp 3), none⟩,
     ⟨(some 21), .ld none (.tmp 20), none⟩,
     ⟨(some 22), .bin .sub (.tmp 19) (.tmp 21), none⟩,
     ⟨(some 23), .pad 1 (.tmp 5), none⟩,
     ⟨(some 24), .ld none (.tmp 23), none⟩,
     ⟨(some 25), .pad 1 (.tmp 3), none⟩,
     ⟨(some 26), .ld none (.tmp 25), none⟩,
     ⟨(some 27), .bin .sub (.tmp 24) (.tmp 26), none⟩,
     ⟨(some 28), .bin .mul (.tmp 22) (.tmp 27), none⟩,
     ⟨(some 29), .bin .add (.tmp 17) (.tmp 28), none⟩,
     ⟨(some 6), .mv (.tmp 29), none⟩])
  .ret))
def glyphicref1_Dot.f (a0_X : Int) (a0_Y : Int) (b1_X : Int) (b1_Y : Int) (p2_X : Int) (p2_Y : Int) : Option (Int) := some (wr64 ((wr64 ((wr64 (b1_X - a0_X)) * (wr64 (p2_X - a0_X)))) + (wr64 ((wr64 (b1_Y - a0_Y)) * (wr64 (p2_Y - a0_Y))))))
theorem glyphicref1_Dot.ok {S : Seal} {a0_X : Int} {a0_Y : Int} {b1_X : Int} {b1_Y : Int} {p2_X : Int} {p2_Y : Int} {r0_ : Int}(e : glyphicref1_Dot.f a0_X a0_Y b1_X b1_Y p2_X p2_Y = some r0_) :
    Cal Try.prog 77 [.agg #[.int .i64 a0_X, .int .i64 a0_Y], .agg #[.int .i64 b1_X, .int .i64 b1_Y], .agg #[.int .i64 p2_X, .int .i64 p2_Y]] [] S fun v H' S' => v = .int .i64 r0_ ∧ H' = [] ∧ S' = S := by
  unfold glyphicref1_Dot.f at e
  refine cal_of (c := c77) (N := 30) Try.func77 rfl rfl (by kernel_rfl) (rs := [.t 6]) (by kernel_rfl) (Nat.le_of_ble_eq_true rfl) ?_
  unfold c77
  refine w_seq ?_
  refine w_reg fun all => ?_
  refine t_a (.box rfl rfl rfl) fun b262 fb262 sb262 => ?_
  refine t_a (.box rfl rfl rfl) fun b263 fb263 sb263 => ?_
  refine t_a (.box rfl rfl rfl) fun b264 fb264 sb264 => ?_
  refine t_qz 1 [3, 4, 5] (σ' := [(3, .pointer (some ⟨b262, 0, none⟩)), (4, .pointer (some ⟨b263, 0, none⟩)), (5, .pointer (some ⟨b264, 0, none⟩))]) (by kernel_rfl) ?_
  refine t_end ?_
  show W _ _ _ _ _ _ _
  refine w_seq ?_
  refine w_reg fun all => ?_
  refine t_qz 1 [3, 4, 5, 7] (σ' := [(3, .pointer (some ⟨b262, 0, none⟩)), (4, .pointer (some ⟨b263, 0, none⟩)), (5, .pointer (some ⟨b264, 0, none⟩)), (7, .pointer (some ⟨b263, 0, none⟩))]) (by kernel_rfl) ?_
  refine t_v (.ld1 rfl rfl rfl (.at 1 rfl rfl)) ?_
  refine t_qz 1 [3, 4, 5, 8, 9] (σ' := [(3, .pointer (some ⟨b262, 0, none⟩)), (4, .pointer (some ⟨b263, 0, none⟩)), (5, .pointer (some ⟨b264, 0, none⟩)), (8, .int .i64 b1_X), (9, .pointer (some ⟨b262, 0, none⟩))]) (by kernel_rfl) ?_
  refine t_v (.ld1 rfl rfl rfl (.at 2 rfl rfl)) ?_
  refine t_qz 2 [3, 4, 5, 11, 12] (σ' := [(3, .pointer (some ⟨b262, 0, none⟩)), (4, .pointer (some ⟨b263, 0, none⟩)), (5, .pointer (some ⟨b264, 0, none⟩)), (11, .int .i64 (wr64 (b1_X - a0_X))), (12, .pointer (some ⟨b264, 0, none⟩))]) (by kernel_rfl) ?_
  refine t_v (.ld1 rfl rfl rfl (.at 0 rfl rfl)) ?_
  refine t_qz 1 [3, 4, 5, 11, 13, 14] (σ' := [(3, .pointer (some ⟨b262, 0, none⟩)), (4, .pointer (some ⟨b263, 0, none⟩)), (5, .pointer (some ⟨b264, 0, none⟩)), (11, .int .i64 (wr64 (b1_X - a0_X))), (13, .int .i64 p2_X), (14, .pointer (some ⟨b262, 0, none⟩))]) (by kernel_rfl) ?_
  refine t_v (.ld1 rfl rfl rfl (.at 2 rfl rfl)) ?_
  refine t_qz 3 [3, 5, 17, 18] (σ' := [(3, .pointer (some ⟨b262, 0, none⟩)), (5, .pointer (some ⟨b264, 0, none⟩)), (17, .int .i64 (wr64 ((wr64 (b1_X - a0_X)) * (wr64 (p2_X - a0_X))))), (18, .pointer (some ⟨b263, 1, none⟩))]) (by kernel_rfl) ?_
  refine t_v (.ld1 rfl rfl rfl (.at 1 rfl rfl)) ?_
  refine t_qz 1 [3, 5, 17, 19, 20] (σ' := [(3, .pointer (some ⟨b262, 0, none⟩)), (5, .pointer (some ⟨b264, 0, none⟩)), (17, .int .i64 (wr64 ((wr64 (b1_X - a0_X)) * (wr64 (p2_X - a0_X))))), (19, .int .i64 b1_Y), (20, .pointer (some ⟨b262, 1, none⟩))]) (by kernel_rfl) ?_
  refine t_v (.ld1 rfl rfl rfl (.at 2 rfl rfl)) ?_
  refine t_qz 2 [3, 17, 22, 23] (σ' := [(3, .pointer (some ⟨b262, 0, none⟩)), (17, .int .i64 (wr64 ((wr64 (b1_X - a0_X)) * (wr64 (p2_X - a0_X))))), (22, .int .i64 (wr64 (b1_Y - a0_Y))), (23, .pointer (some ⟨b264, 1, none⟩))]) (by kernel_rfl) ?_
  refine t_v (.ld1 rfl rfl rfl (.at 0 rfl rfl)) ?_
  refine t_qz 1 [17, 22, 24, 25] (σ' := [(17, .int .i64 (wr64 ((wr64 (b1_X - a0_X)) * (wr64 (p2_X - a0_X))))), (22, .int .i64 (wr64 (b1_Y - a0_Y))), (24, .int .i64 p2_Y), (25, .pointer (some ⟨b262, 1, none⟩))]) (by kernel_rfl) ?_
  refine t_v (.ld1 rfl rfl rfl (.at 2 rfl rfl)) ?_
  refine t_qz 4 [6] (σ' := [(6, .int .i64 (wr64 ((wr64 ((wr64 (b1_X - a0_X)) * (wr64 (p2_X - a0_X)))) + (wr64 ((wr64 (b1_Y - a0_Y)) * (wr64 (p2_Y - a0_Y)))))))]) (by kernel_rfl) ?_
  refine t_end ?_
  show W _ _ _ _ _ _ _
  refine w_ret ?_
  obtain rfl := Option.some.inj e
  exact ⟨[.int .i64 (wr64 ((wr64 ((wr64 (b1_X - a0_X)) * (wr64 (p2_X - a0_X)))) + (wr64 ((wr64 (b1_Y - a0_Y)) * (wr64 (p2_Y - a0_Y))))))], [], S, ⟨rfl, trivial⟩, VS.none, rfl, rfl, rfl⟩
end Go.Proofs.Ytpimfacaalkmdaa.QFlattenNear
