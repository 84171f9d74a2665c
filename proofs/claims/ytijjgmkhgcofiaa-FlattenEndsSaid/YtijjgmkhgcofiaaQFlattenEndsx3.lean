/- Functions of the program as Lean functions, each with the proof of its walk. Written by gen.py, a program of these sessions. -/
import Derived.Test.YtijjgmkhgcofiaaQFlattenEndsx2
namespace Go.Proofs.Ytijjgmkhgcofiaa.QFlattenEnds
open Go Go.RowKit Go.Proofs.YtijjgmkhgcofiaaE
set_option linter.unusedVariables false
set_option maxRecDepth 100000
set_option maxHeartbeats 8000000
def flatten_Point_v6.f (a0_0 : Int) (a0_1 : Int) (s1_1 : Int) (s1_2 : Int) (s1_3 : Int) (s1_4 : Int) (s1_5 : Int) (s1_6 : Int) (n3 : Int) : Option (Int × Int) := (flatten_points_v3.f s1_1 s1_2 s1_3 s1_4 s1_5 s1_6).bind fun (t213, t214, t215, t216, t217, t218, t219) => ((flatten_mix_v4.f 0 n3 a0_0 t214 t216 t218).bind fun t237 => ((flatten_mix_v4.f 0 n3 a0_1 t215 t217 t219).bind fun t239 => (some (t237, t239))))
theorem flatten_Point_v6.ok {S : Seal} {a0_0 : Int} {a0_1 : Int} {s1_1 : Int} {s1_2 : Int} {s1_3 : Int} {s1_4 : Int} {s1_5 : Int} {s1_6 : Int} {n3 : Int} {r0_ : Int} {r1_ : Int} (e : flatten_Point_v6.f a0_0 a0_1 s1_1 s1_2 s1_3 s1_4 s1_5 s1_6 n3 = some (r0_, r1_)) :
    Cal Try.prog 28 [.agg #[.int .i64 a0_0, .int .i64 a0_1], .agg #[.int .i64 3, .int .i64 s1_1, .int .i64 s1_2, .int .i64 s1_3, .int .i64 s1_4, .int .i64 s1_5, .int .i64 s1_6], .int .i64 0, .int .i64 n3] [] S fun v H' S' => v = .agg #[.int .i64 r0_, .int .i64 r1_] ∧ H' = [] ∧ S' = S := by
  unfold flatten_Point_v6.f at e
  refine cal_of (c := c28) (N := 46) Try.func28 rfl rfl (by kernel_rfl) (rs := [.cn 2 8]) (by kernel_rfl) (Nat.le_of_ble_eq_true rfl) ?_
  unfold c28
  refine w_seq ?_
  refine w_reg fun all => ?_
  refine t_a (.box rfl rfl rfl) fun b208 fb208 sb208 => ?_
  refine t_a (.box rfl rfl rfl) fun b209 fb209 sb209 => ?_
  refine t_a (.new rfl rfl) fun b210 fb210 sb210 => ?_
  refine t_keep [2, 3, 4, 5, 8] (σ' := [(2, .int .i64 0), (3, .int .i64 n3), (4, .pointer (some ⟨b208, 0, none⟩)), (5, .pointer (some ⟨b209, 0, none⟩)), (8, .pointer (some ⟨b210, 0, none⟩))]) (by kernel_rfl) ?_
  refine t_end ?_
  show W _ _ _ _ _ _ _
  refine w_seq ?_
  refine w_kp [2, 3, 4, 5, 8] (σ' := [(2, .int .i64 0), (3, .int .i64 n3), (4, .pointer (some ⟨b208, 0, none⟩)), (5, .pointer (some ⟨b209, 0, none⟩)), (8, .pointer (some ⟨b210, 0, none⟩))]) (by kernel_rfl) ?_
  refine w_gameQ mixed (by kernel_rfl) fun all G hend hstep hqf => ?_
  have hg_ff : ∀ (g212 g211 : Nat), G [true, true, true, true, true, true, true, true] [(2, .int .i64 0), (3, .int .i64 n3), (5, .pointer (some ⟨b209, 0, none⟩)), (8, .pointer (some ⟨b210, 0, none⟩)), (9, .slice (some ⟨g211, 0, none⟩) 1 1), (10, .slice (some ⟨g212, 0, none⟩) 1 1)] ([⟨g212, [.int .i64 a0_1], 1⟩, ⟨g211, [.int .i64 a0_0], 1⟩, ⟨b210, [.int .i64 0, .int .i64 0], 2⟩, ⟨b209, [.int .i64 3, .int .i64 s1_1, .int .i64 s1_2, .int .i64 s1_3, .int .i64 s1_4, .int .i64 s1_5, .int .i64 s1_6], 7⟩, ⟨b208, [.int .i64 a0_0, .int .i64 a0_1], 2⟩] : List Own) := by
    intro g212 g211
    refine hend _ _ _ (by kernel_rfl) ?_
    show W _ _ _ _ _ _ _
    refine w_seq ?_
    refine w_seq ?_
    refine w_reg fun all => ?_
    refine t_v (.ldn rfl rfl rfl (.at 3 rfl rfl)) ?_
    obtain ⟨⟨t213, t214, t215, t216, t217, t218, t219⟩, h220, e⟩ := bind_of e
    try dsimp only at e
    refine t_call (vs := [.agg #[.int .i64 3, .int .i64 s1_1, .int .i64 s1_2, .int .i64 s1_3, .int .i64 s1_4, .int .i64 s1_5, .int .i64 s1_6]]) (H1 := ([] : List Own)) (F := ([⟨g212, [.int .i64 a0_1], 1⟩, ⟨g211, [.int .i64 a0_0], 1⟩, ⟨b210, [.int .i64 0, .int .i64 0], 2⟩, ⟨b209, [.int .i64 3, .int .i64 s1_1, .int .i64 s1_2, .int .i64 s1_3, .int .i64 s1_4, .int .i64 s1_5, .int .i64 s1_6], 7⟩, ⟨b208, [.int .i64 a0_0, .int .i64 a0_1], 2⟩] : List Own)) rfl rfl (by kernel_rfl) (sel_perm (is := []) (by kernel_rfl)) (flatten_points_v3.ok h220) ?_
    rintro _ _ S_ ⟨N221, rfl, rfl, hS_⟩
    obtain rfl := hS_.symm
    refine t_qz 2 [2, 3, 8, 9, 10, 20, 21, 22] (σ' := [(2, .int .i64 0), (3, .int .i64 n3), (8, .pointer (some ⟨b210, 0, none⟩)), (9, .slice (some ⟨g211, 0, none⟩) 1 1), (10, .slice (some ⟨g212, 0, none⟩) 1 1), (20, .slice (some ⟨N221, 1, none⟩) 3 3), (21, .int .i64 3), (22, .int .i64 0)]) (by kernel_rfl) ?_
    refine t_end ?_
    show W _ _ _ _ _ _ _
    refine w_block ?_
    refine w_lun 10 ?_
    refine wl_step ?_
    refine w_seq ?_
    refine w_reg fun all => ?_
    refine t_qz 1 [2, 3, 8, 9, 10, 20, 21, 22, 23] (σ' := [(2, .int .i64 0), (3, .int .i64 n3), (8, .pointer (some ⟨b210, 0, none⟩)), (9, .slice (some ⟨g211, 0, none⟩) 1 1), (10, .slice (some ⟨g212, 0, none⟩) 1 1), (20, .slice (some ⟨N221, 1, none⟩) 3 3), (21, .int .i64 3), (22, .int .i64 0), (23, .bool true)]) (by kernel_rfl) ?_
    refine t_end ?_
    show W _ _ _ _ _ _ _
    refine w_seq ?_
    refine w_cond rfl (fun _ => ?_) (fun c_ => by cases c_)
    show W _ _ _ _ _ _ _
    refine w_skip ?_
    show W _ _ _ _ _ _ _
    refine w_seq ?_
    refine w_block ?_
    refine w_seq ?_
    refine w_reg fun all => ?_
    refine t_qz 1 [2, 3, 8, 9, 10, 20, 21, 22, 24] (σ' := [(2, .int .i64 0), (3, .int .i64 n3), (8, .pointer (some ⟨b210, 0, none⟩)), (9, .slice (some ⟨g211, 0, none⟩) 1 1), (10, .slice (some ⟨g212, 0, none⟩) 1 1), (20, .slice (some ⟨N221, 1, none⟩) 3 3), (21, .int .i64 3), (22, .int .i64 0), (24, .pointer (some ⟨N221, 1, none⟩))]) (by kernel_rfl) ?_
    refine t_v (.ldn rfl rfl rfl (.at 0 rfl rfl)) ?_
    refine t_a (.new rfl rfl) fun b222 fb222 sb222 => ?_
    refine t_sti 0 (cs := [.int .i64 t214, .int .i64 t215]) rfl rfl rfl rfl rfl rfl rfl rfl rfl ?_
    refine t_keep [2, 3, 8, 9, 10, 12, 20, 21, 22] (σ' := [(2, .int .i64 0), (3, .int .i64 n3), (8, .pointer (some ⟨b210, 0, none⟩)), (9, .slice (some ⟨g211, 0, none⟩) 1 1), (10, .slice (some ⟨g212, 0, none⟩) 1 1), (12, .pointer (some ⟨b222, 0, none⟩)), (20, .slice (some ⟨N221, 1, none⟩) 3 3), (21, .int .i64 3), (22, .int .i64 0)]) (by kernel_rfl) ?_
    refine t_end ?_
    show W _ _ _ _ _ _ _
    refine w_kp [2, 3, 8, 9, 10, 12, 20, 21, 22] (σ' := [(2, .int .i64 0), (3, .int .i64 n3), (8, .pointer (some ⟨b210, 0, none⟩)), (9, .slice (some ⟨g211, 0, none⟩) 1 1), (10, .slice (some ⟨g212, 0, none⟩) 1 1), (12, .pointer (some ⟨b222, 0, none⟩)), (20, .slice (some ⟨N221, 1, none⟩) 3 3), (21, .int .i64 3), (22, .int .i64 0)]) (by kernel_rfl) ?_
    refine w_gameQ mixed (by kernel_rfl) fun all G hend hstep hqf => ?_
    have hg_fff : ∀ (g226 ng226 g225 g224 ng224 g223 : Nat), G [true, true, true, true, true, true, true, true, true, true, true, true] [(2, .int .i64 0), (3, .int .i64 n3), (8, .pointer (some ⟨b210, 0, none⟩)), (9, .slice (some ⟨g224, 0, none⟩) 2 (ng224 / 1)), (10, .slice (some ⟨g226, 0, none⟩) 2 (ng226 / 1)), (20, .slice (some ⟨N221, 1, none⟩) 3 3), (21, .int .i64 3), (22, .int .i64 0)] ([⟨g226, [.int .i64 a0_1, .int .i64 t215], ng226⟩, ⟨g225, [.int .i64 t215], 1⟩, ⟨g224, [.int .i64 a0_0, .int .i64 t214], ng224⟩, ⟨g223, [.int .i64 t214], 1⟩, ⟨b222, [.int .i64 t214, .int .i64 t215], 2⟩, ⟨N221, [.int .i64 t213, .int .i64 t214, .int .i64 t215, .int .i64 t216, .int .i64 t217, .int .i64 t218, .int .i64 t219], 7⟩, ⟨b210, [.int .i64 0, .int .i64 0], 2⟩, ⟨b209, [.int .i64 3, .int .i64 s1_1, .int .i64 s1_2, .int .i64 s1_3, .int .i64 s1_4, .int .i64 s1_5, .int .i64 s1_6], 7⟩, ⟨b208, [.int .i64 a0_0, .int .i64 a0_1], 2⟩] : List Own) := by
      intro g226 ng226 g225 g224 ng224 g223
      refine hend _ _ _ (by kernel_rfl) ?_
      show W _ _ _ _ _ _ _
      refine w_reg fun all => ?_
      refine t_qz 2 [2, 3, 8, 9, 10, 20, 21, 22] (σ' := [(2, .int .i64 0), (3, .int .i64 n3), (8, .pointer (some ⟨b210, 0, none⟩)), (9, .slice (some ⟨g224, 0, none⟩) 2 (ng224 / 1)), (10, .slice (some ⟨g226, 0, none⟩) 2 (ng226 / 1)), (20, .slice (some ⟨N221, 1, none⟩) 3 3), (21, .int .i64 3), (22, .int .i64 1)]) (by kernel_rfl) ?_
      refine t_end ?_
      show WL _ _ _ _ _ _ _ _
      refine wl_step ?_
      refine w_seq ?_
      refine w_reg fun all => ?_
      refine t_qz 1 [2, 3, 8, 9, 10, 20, 21, 22, 23] (σ' := [(2, .int .i64 0), (3, .int .i64 n3), (8, .pointer (some ⟨b210, 0, none⟩)), (9, .slice (some ⟨g224, 0, none⟩) 2 (ng224 / 1)), (10, .slice (some ⟨g226, 0, none⟩) 2 (ng226 / 1)), (20, .slice (some ⟨N221, 1, none⟩) 3 3), (21, .int .i64 3), (22, .int .i64 1), (23, .bool true)]) (by kernel_rfl) ?_
      refine t_end ?_
      show W _ _ _ _ _ _ _
      refine w_seq ?_
      refine w_cond rfl (fun _ => ?_) (fun c_ => by cases c_)
      show W _ _ _ _ _ _ _
      refine w_skip ?_
      show W _ _ _ _ _ _ _
      refine w_seq ?_
      refine w_block ?_
      refine w_seq ?_
      refine w_reg fun all => ?_
      refine t_qz 1 [2, 3, 8, 9, 10, 20, 21, 22, 24] (σ' := [(2, .int .i64 0), (3, .int .i64 n3), (8, .pointer (some ⟨b210, 0, none⟩)), (9, .slice (some ⟨g224, 0, none⟩) 2 (ng224 / 1)), (10, .slice (some ⟨g226, 0, none⟩) 2 (ng226 / 1)), (20, .slice (some ⟨N221, 1, none⟩) 3 3), (21, .int .i64 3), (22, .int .i64 1), (24, .pointer (some ⟨N221, 3, none⟩))]) (by kernel_rfl) ?_
      refine t_v (.ldn rfl rfl rfl (.at 5 rfl rfl)) ?_
      refine t_a (.new rfl rfl) fun b227 fb227 sb227 => ?_
      refine t_sti 0 (cs := [.int .i64 t216, .int .i64 t217]) rfl rfl rfl rfl rfl rfl rfl rfl rfl ?_
      refine t_keep [2, 3, 8, 9, 10, 12, 20, 21, 22] (σ' := [(2, .int .i64 0), (3, .int .i64 n3), (8, .pointer (some ⟨b210, 0, none⟩)), (9, .slice (some ⟨g224, 0, none⟩) 2 (ng224 / 1)), (10, .slice (some ⟨g226, 0, none⟩) 2 (ng226 / 1)), (12, .pointer (some ⟨b227, 0, none⟩)), (20, .slice (some ⟨N221, 1, none⟩) 3 3), (21, .int .i64 3), (22, .int .i64 1)]) (by kernel_rfl) ?_
      refine t_end ?_
      show W _ _ _ _ _ _ _
      refine w_kp [2, 3, 8, 9, 10, 12, 20, 21, 22] (σ' := [(2, .int .i64 0), (3, .int .i64 n3), (8, .pointer (some ⟨b210, 0, none⟩)), (9, .slice (some ⟨g224, 0, none⟩) 2 (ng224 / 1)), (10, .slice (some ⟨g226, 0, none⟩) 2 (ng226 / 1)), (12, .pointer (some ⟨b227, 0, none⟩)), (20, .slice (some ⟨N221, 1, none⟩) 3 3), (21, .int .i64 3), (22, .int .i64 1)]) (by kernel_rfl) ?_
      refine w_gameQ mixed (by kernel_rfl) fun all G hend hstep hqf => ?_
      have hg_fff : ∀ (g231 ng231 g230 g229 ng229 g228 : Nat), G [true, true, true, true, true, true, true, true, true, true, true, true] [(2, .int .i64 0), (3, .int .i64 n3), (8, .pointer (some ⟨b210, 0, none⟩)), (9, .slice (some ⟨g229, 0, none⟩) 3 (ng229 / 1)), (10, .slice (some ⟨g231, 0, none⟩) 3 (ng231 / 1)), (20, .slice (some ⟨N221, 1, none⟩) 3 3), (21, .int .i64 3), (22, .int .i64 1)] ([⟨g231, [.int .i64 a0_1, .int .i64 t215, .int .i64 t217], ng231⟩, ⟨g230, [.int .i64 t217], 1⟩, ⟨g229, [.int .i64 a0_0, .int .i64 t214, .int .i64 t216], ng229⟩, ⟨g228, [.int .i64 t216], 1⟩, ⟨b227, [.int .i64 t216, .int .i64 t217], 2⟩, ⟨g225, [.int .i64 t215], 1⟩, ⟨g223, [.int .i64 t214], 1⟩, ⟨b222, [.int .i64 t214, .int .i64 t215], 2⟩, ⟨N221, [.int .i64 t213, .int .i64 t214, .int .i64 t215, .int .i64 t216, .int .i64 t217, .int .i64 t218, .int .i64 t219], 7⟩, ⟨b210, [.int .i64 0, .int .i64 0], 2⟩, ⟨b209, [.int .i64 3, .int .i64 s1_1, .int .i64 s1_2, .int .i64 s1_3, .int .i64 s1_4, .int .i64 s1_5, .int .i64 s1_6], 7⟩, ⟨b208, [.int .i64 a0_0, .int .i64 a0_1], 2⟩] : List Own) := by
        intro g231 ng231 g230 g229 ng229 g228
        refine hend _ _ _ (by kernel_rfl) ?_
        show W _ _ _ _ _ _ _
        refine w_reg fun all => ?_
        refine t_qz 2 [2, 3, 8, 9, 10, 20, 21, 22] (σ' := [(2, .int .i64 0), (3, .int .i64 n3), (8, .pointer (some ⟨b210, 0, none⟩)), (9, .slice (some ⟨g229, 0, none⟩) 3 (ng229 / 1)), (10, .slice (some ⟨g231, 0, none⟩) 3 (ng231 / 1)), (20, .slice (some ⟨N221, 1, none⟩) 3 3), (21, .int .i64 3), (22, .int .i64 2)]) (by kernel_rfl) ?_
        refine t_end ?_
        show WL _ _ _ _ _ _ _ _
        refine wl_step ?_
        refine w_seq ?_
        refine w_reg fun all => ?_
        refine t_qz 1 [2, 3, 8, 9, 10, 20, 21, 22, 23] (σ' := [(2, .int .i64 0), (3, .int .i64 n3), (8, .pointer (some ⟨b210, 0, none⟩)), (9, .slice (some ⟨g229, 0, none⟩) 3 (ng229 / 1)), (10, .slice (some ⟨g231, 0, none⟩) 3 (ng231 / 1)), (20, .slice (some ⟨N221, 1, none⟩) 3 3), (21, .int .i64 3), (22, .int .i64 2), (23, .bool true)]) (by kernel_rfl) ?_
        refine t_end ?_
        show W _ _ _ _ _ _ _
        refine w_seq ?_
        refine w_cond rfl (fun _ => ?_) (fun c_ => by cases c_)
        show W _ _ _ _ _ _ _
        refine w_skip ?_
        show W _ _ _ _ _ _ _
        refine w_seq ?_
        refine w_block ?_
        refine w_seq ?_
        refine w_reg fun all => ?_
        refine t_qz 1 [2, 3, 8, 9, 10, 20, 21, 22, 24] (σ' := [(2, .int .i64 0), (3, .int .i64 n3), (8, .pointer (some ⟨b210, 0, none⟩)), (9, .slice (some ⟨g229, 0, none⟩) 3 (ng229 / 1)), (10, .slice (some ⟨g231, 0, none⟩) 3 (ng231 / 1)), (20, .slice (some ⟨N221, 1, none⟩) 3 3), (21, .int .i64 3), (22, .int .i64 2), (24, .pointer (some ⟨N221, 5, none⟩))]) (by kernel_rfl) ?_
        refine t_v (.ldn rfl rfl rfl (.at 8 rfl rfl)) ?_
        refine t_a (.new rfl rfl) fun b232 fb232 sb232 => ?_
        refine t_sti 0 (cs := [.int .i64 t218, .int .i64 t219]) rfl rfl rfl rfl rfl rfl rfl rfl rfl ?_
        refine t_keep [2, 3, 8, 9, 10, 12, 20, 21, 22] (σ' := [(2, .int .i64 0), (3, .int .i64 n3), (8, .pointer (some ⟨b210, 0, none⟩)), (9, .slice (some ⟨g229, 0, none⟩) 3 (ng229 / 1)), (10, .slice (some ⟨g231, 0, none⟩) 3 (ng231 / 1)), (12, .pointer (some ⟨b232, 0, none⟩)), (20, .slice (some ⟨N221, 1, none⟩) 3 3), (21, .int .i64 3), (22, .int .i64 2)]) (by kernel_rfl) ?_
        refine t_end ?_
        show W _ _ _ _ _ _ _
        refine w_kp [2, 3, 8, 9, 10, 12, 20, 21, 22] (σ' := [(2, .int .i64 0), (3, .int .i64 n3), (8, .pointer (some ⟨b210, 0, none⟩)), (9, .slice (some ⟨g229, 0, none⟩) 3 (ng229 / 1)), (10, .slice (some ⟨g231, 0, none⟩) 3 (ng231 / 1)), (12, .pointer (some ⟨b232, 0, none⟩)), (20, .slice (some ⟨N221, 1, none⟩) 3 3), (21, .int .i64 3), (22, .int .i64 2)]) (by kernel_rfl) ?_
        refine w_gameQ mixed (by kernel_rfl) fun all G hend hstep hqf => ?_
        have hg_fff : ∀ (g236 ng236 g235 g234 ng234 g233 : Nat), G [true, true, true, true, true, true, true, true, true, true, true, true] [(2, .int .i64 0), (3, .int .i64 n3), (8, .pointer (some ⟨b210, 0, none⟩)), (9, .slice (some ⟨g234, 0, none⟩) 4 (ng234 / 1)), (10, .slice (some ⟨g236, 0, none⟩) 4 (ng236 / 1)), (20, .slice (some ⟨N221, 1, none⟩) 3 3), (21, .int .i64 3), (22, .int .i64 2)] ([⟨g236, [.int .i64 a0_1, .int .i64 t215, .int .i64 t217, .int .i64 t219], ng236⟩, ⟨g235, [.int .i64 t219], 1⟩, ⟨g234, [.int .i64 a0_0, .int .i64 t214, .int .i64 t216, .int .i64 t218], ng234⟩, ⟨g233, [.int .i64 t218], 1⟩, ⟨b232, [.int .i64 t218, .int .i64 t219], 2⟩, ⟨g230, [.int .i64 t217], 1⟩, ⟨g228, [.int .i64 t216], 1⟩, ⟨b227, [.int .i64 t216, .int .i64 t217], 2⟩, ⟨g225, [.int .i64 t215], 1⟩, ⟨g223, [.int .i64 t214], 1⟩, ⟨b222, [.int .i64 t214, .int .i64 t215], 2⟩, ⟨N221, [.int .i64 t213, .int .i64 t214, .int .i64 t215, .int .i64 t216, .int .i64 t217, .int .i64 t218, .int .i64 t219], 7⟩, ⟨b210, [.int .i64 0, .int .i64 0], 2⟩, ⟨b209, [.int .i64 3, .int .i64 s1_1, .int .i64 s1_2, .int .i64 s1_3, .int .i64 s1_4, .int .i64 s1_5, .int .i64 s1_6], 7⟩, ⟨b208, [.int .i64 a0_0, .int .i64 a0_1], 2⟩] : List Own) := by
          intro g236 ng236 g235 g234 ng234 g233
          refine hend _ _ _ (by kernel_rfl) ?_
          show W _ _ _ _ _ _ _
          refine w_reg fun all => ?_
          refine t_qz 2 [2, 3, 8, 9, 10, 20, 21, 22] (σ' := [(2, .int .i64 0), (3, .int .i64 n3), (8, .pointer (some ⟨b210, 0, none⟩)), (9, .slice (some ⟨g234, 0, none⟩) 4 (ng234 / 1)), (10, .slice (some ⟨g236, 0, none⟩) 4 (ng236 / 1)), (20, .slice (some ⟨N221, 1, none⟩) 3 3), (21, .int .i64 3), (22, .int .i64 3)]) (by kernel_rfl) ?_
          refine t_end ?_
          show WL _ _ _ _ _ _ _ _
          refine wl_step ?_
          refine w_seq ?_
          refine w_reg fun all => ?_
          refine t_qz 1 [2, 3, 8, 9, 10, 20, 21, 22, 23] (σ' := [(2, .int .i64 0), (3, .int .i64 n3), (8, .pointer (some ⟨b210, 0, none⟩)), (9, .slice (some ⟨g234, 0, none⟩) 4 (ng234 / 1)), (10, .slice (some ⟨g236, 0, none⟩) 4 (ng236 / 1)), (20, .slice (some ⟨N221, 1, none⟩) 3 3), (21, .int .i64 3), (22, .int .i64 3), (23, .bool false)]) (by kernel_rfl) ?_
          refine t_end ?_
          show W _ _ _ _ _ _ _
          refine w_seq ?_
          refine w_cond rfl (fun c_ => by cases c_) (fun _ => ?_)
          show W _ _ _ _ _ _ _
          refine w_exit ?_
          show W _ _ _ _ _ _ _
          refine w_seq ?_
          refine w_reg fun all => ?_
          obtain ⟨t237, h238, e⟩ := bind_of e
          refine t_qz 3 [2, 3, 8, 10, 37, 38, 39] (σ' := [(2, .int .i64 0), (3, .int .i64 n3), (8, .pointer (some ⟨b210, 0, none⟩)), (10, .slice (some ⟨g236, 0, none⟩) 4 (ng236 / 1)), (37, .int .i64 0), (38, .int .i64 n3), (39, .slice (some ⟨g234, 0, none⟩) 4 (ng234 / 1))]) (by kernel_rfl) ?_
          refine t_v (.callr (vs := [.int .i64 0, .int .i64 n3, .slice (some ⟨g234, 0, none⟩) 4 (ng234 / 1)]) (A := ([⟨g234, [.int .i64 a0_0, .int .i64 t214, .int .i64 t216, .int .i64 t218], ng234⟩] : List Own)) (F0 := ([⟨g236, [.int .i64 a0_1, .int .i64 t215, .int .i64 t217, .int .i64 t219], ng236⟩, ⟨g235, [.int .i64 t219], 1⟩, ⟨g233, [.int .i64 t218], 1⟩, ⟨b232, [.int .i64 t218, .int .i64 t219], 2⟩, ⟨g230, [.int .i64 t217], 1⟩, ⟨g228, [.int .i64 t216], 1⟩, ⟨b227, [.int .i64 t216, .int .i64 t217], 2⟩, ⟨g225, [.int .i64 t215], 1⟩, ⟨g223, [.int .i64 t214], 1⟩, ⟨b222, [.int .i64 t214, .int .i64 t215], 2⟩, ⟨N221, [.int .i64 t213, .int .i64 t214, .int .i64 t215, .int .i64 t216, .int .i64 t217, .int .i64 t218, .int .i64 t219], 7⟩, ⟨b210, [.int .i64 0, .int .i64 0], 2⟩, ⟨b209, [.int .i64 3, .int .i64 s1_1, .int .i64 s1_2, .int .i64 s1_3, .int .i64 s1_4, .int .i64 s1_5, .int .i64 s1_6], 7⟩, ⟨b208, [.int .i64 a0_0, .int .i64 a0_1], 2⟩] : List Own)) rfl rfl (by kernel_rfl) (sel_perm (is := [2]) (by kernel_rfl)) (flatten_mix_v4.ok h238)) ?_
          obtain ⟨t239, h240, e⟩ := bind_of e
          refine t_qz 3 [8, 40, 41, 42, 43] (σ' := [(8, .pointer (some ⟨b210, 0, none⟩)), (40, .int .i64 t237), (41, .int .i64 0), (42, .int .i64 n3), (43, .slice (some ⟨g236, 0, none⟩) 4 (ng236 / 1))]) (by kernel_rfl) ?_
          refine t_v (.callr (vs := [.int .i64 0, .int .i64 n3, .slice (some ⟨g236, 0, none⟩) 4 (ng236 / 1)]) (A := ([⟨g236, [.int .i64 a0_1, .int .i64 t215, .int .i64 t217, .int .i64 t219], ng236⟩] : List Own)) (F0 := ([⟨g235, [.int .i64 t219], 1⟩, ⟨g234, [.int .i64 a0_0, .int .i64 t214, .int .i64 t216, .int .i64 t218], ng234⟩, ⟨g233, [.int .i64 t218], 1⟩, ⟨b232, [.int .i64 t218, .int .i64 t219], 2⟩, ⟨g230, [.int .i64 t217], 1⟩, ⟨g228, [.int .i64 t216], 1⟩, ⟨b227, [.int .i64 t216, .int .i64 t217], 2⟩, ⟨g225, [.int .i64 t215], 1⟩, ⟨g223, [.int .i64 t214], 1⟩, ⟨b222, [.int .i64 t214, .int .i64 t215], 2⟩, ⟨N221, [.int .i64 t213, .int .i64 t214, .int .i64 t215, .int .i64 t216, .int .i64 t217, .int .i64 t218, .int .i64 t219], 7⟩, ⟨b210, [.int .i64 0, .int .i64 0], 2⟩, ⟨b209, [.int .i64 3, .int .i64 s1_1, .int .i64 s1_2, .int .i64 s1_3, .int .i64 s1_4, .int .i64 s1_5, .int .i64 s1_6], 7⟩, ⟨b208, [.int .i64 a0_0, .int .i64 a0_1], 2⟩] : List Own)) rfl rfl (by kernel_rfl) (sel_perm (is := [0]) (by kernel_rfl)) (flatten_mix_v4.ok h240)) ?_
          refine t_qz 1 [8, 45] (σ' := [(8, .pointer (some ⟨b210, 0, none⟩)), (45, .agg #[.int .i64 t237, .int .i64 t239])]) (by kernel_rfl) ?_
          refine t_sti 12 (cs := [.int .i64 t237, .int .i64 t239]) rfl rfl rfl rfl rfl rfl rfl rfl rfl ?_
          refine t_keep [8] (σ' := [(8, .pointer (some ⟨b210, 0, none⟩))]) (by kernel_rfl) ?_
          refine t_end ?_
          show W _ _ _ _ _ _ _
          refine w_ret ?_
          simp only [Option.some.injEq, Prod.mk.injEq] at e
          obtain ⟨rfl, rfl⟩ := e
          exact ⟨[.agg #[.int .i64 t237, .int .i64 t239]], [], S, ⟨⟨_, _, _, rfl, .at 12 rfl rfl, rfl⟩, trivial⟩, VS.none, rfl, rfl, rfl⟩
        have hg_7ff : ∀ (g236 ng236 g235 g234 ng234 g233 : Nat), G [true, true, true, true, true, true, true, true, true, true, true, false] [(2, .int .i64 0), (3, .int .i64 n3), (8, .pointer (some ⟨b210, 0, none⟩)), (9, .slice (some ⟨g234, 0, none⟩) 4 (ng234 / 1)), (10, .slice (some ⟨g231, 0, none⟩) 3 (ng231 / 1)), (20, .slice (some ⟨N221, 1, none⟩) 3 3), (21, .int .i64 3), (22, .int .i64 2), (35, .slice (some ⟨g236, 0, none⟩) 4 (ng236 / 1))] ([⟨g236, [.int .i64 a0_1, .int .i64 t215, .int .i64 t217, .int .i64 t219], ng236⟩, ⟨g235, [.int .i64 t219], 1⟩, ⟨g234, [.int .i64 a0_0, .int .i64 t214, .int .i64 t216, .int .i64 t218], ng234⟩, ⟨g233, [.int .i64 t218], 1⟩, ⟨b232, [.int .i64 t218, .int .i64 t219], 2⟩, ⟨g230, [.int .i64 t217], 1⟩, ⟨g228, [.int .i64 t216], 1⟩, ⟨b227, [.int .i64 t216, .int .i64 t217], 2⟩, ⟨g225, [.int .i64 t215], 1⟩, ⟨g223, [.int .i64 t214], 1⟩, ⟨b222, [.int .i64 t214, .int .i64 t215], 2⟩, ⟨N221, [.int .i64 t213, .int .i64 t214, .int .i64 t215, .int .i64 t216, .int .i64 t217, .int .i64 t218, .int .i64 t219], 7⟩, ⟨b210, [.int .i64 0, .int .i64 0], 2⟩, ⟨b209, [.int .i64 3, .int .i64 s1_1, .int .i64 s1_2, .int .i64 s1_3, .int .i64 s1_4, .int .i64 s1_5, .int .i64 s1_6], 7⟩, ⟨b208, [.int .i64 a0_0, .int .i64 a0_1], 2⟩] : List Own) := by
          intro g236 ng236 g235 g234 ng234 g233
          exact hqf 11 [2, 3, 8, 9, 10, 20, 21, 22] _ _ _ [(2, .int .i64 0), (3, .int .i64 n3), (8, .pointer (some ⟨b210, 0, none⟩)), (9, .slice (some ⟨g234, 0, none⟩) 4 (ng234 / 1)), (10, .slice (some ⟨g236, 0, none⟩) 4 (ng236 / 1)), (20, .slice (some ⟨N221, 1, none⟩) 3 3), (21, .int .i64 3), (22, .int .i64 2)] (by kernel_rfl) (by kernel_rfl) (hg_fff g236 ng236 g235 g234 ng234 g233)
        have hg_3ff : ∀ (g236 ng236 g235 g234 ng234 g233 : Nat), G [true, true, true, true, true, true, true, true, true, true, false, false] [(2, .int .i64 0), (3, .int .i64 n3), (8, .pointer (some ⟨b210, 0, none⟩)), (9, .slice (some ⟨g229, 0, none⟩) 3 (ng229 / 1)), (10, .slice (some ⟨g231, 0, none⟩) 3 (ng231 / 1)), (20, .slice (some ⟨N221, 1, none⟩) 3 3), (21, .int .i64 3), (22, .int .i64 2), (30, .slice (some ⟨g234, 0, none⟩) 4 (ng234 / 1)), (35, .slice (some ⟨g236, 0, none⟩) 4 (ng236 / 1))] ([⟨g236, [.int .i64 a0_1, .int .i64 t215, .int .i64 t217, .int .i64 t219], ng236⟩, ⟨g235, [.int .i64 t219], 1⟩, ⟨g234, [.int .i64 a0_0, .int .i64 t214, .int .i64 t216, .int .i64 t218], ng234⟩, ⟨g233, [.int .i64 t218], 1⟩, ⟨b232, [.int .i64 t218, .int .i64 t219], 2⟩, ⟨g230, [.int .i64 t217], 1⟩, ⟨g228, [.int .i64 t216], 1⟩, ⟨b227, [.int .i64 t216, .int .i64 t217], 2⟩, ⟨g225, [.int .i64 t215], 1⟩, ⟨g223, [.int .i64 t214], 1⟩, ⟨b222, [.int .i64 t214, .int .i64 t215], 2⟩, ⟨N221, [.int .i64 t213, .int .i64 t214, .int .i64 t215, .int .i64 t216, .int .i64 t217, .int .i64 t218, .int .i64 t219], 7⟩, ⟨b210, [.int .i64 0, .int .i64 0], 2⟩, ⟨b209, [.int .i64 3, .int .i64 s1_1, .int .i64 s1_2, .int .i64 s1_3, .int .i64 s1_4, .int .i64 s1_5, .int .i64 s1_6], 7⟩, ⟨b208, [.int .i64 a0_0, .int .i64 a0_1], 2⟩] : List Own) := by
          intro g236 ng236 g235 g234 ng234 g233
          exact hqf 10 [2, 3, 8, 9, 10, 20, 21, 22, 35] _ _ _ [(2, .int .i64 0), (3, .int .i64 n3), (8, .pointer (some ⟨b210, 0, none⟩)), (9, .slice (some ⟨g234, 0, none⟩) 4 (ng234 / 1)), (10, .slice (some ⟨g231, 0, none⟩) 3 (ng231 / 1)), (20, .slice (some ⟨N221, 1, none⟩) 3 3), (21, .int .i64 3), (22, .int .i64 2), (35, .slice (some ⟨g236, 0, none⟩) 4 (ng236 / 1))] (by kernel_rfl) (by kernel_rfl) (hg_7ff g236 ng236 g235 g234 ng234 g233)
        have hg_1ff : ∀ (g235 g234 ng234 g233 : Nat), G [true, true, true, true, true, true, true, true, true, false, false, false] [(2, .int .i64 0), (3, .int .i64 n3), (8, .pointer (some ⟨b210, 0, none⟩)), (9, .slice (some ⟨g229, 0, none⟩) 3 (ng229 / 1)), (10, .slice (some ⟨g231, 0, none⟩) 3 (ng231 / 1)), (20, .slice (some ⟨N221, 1, none⟩) 3 3), (21, .int .i64 3), (22, .int .i64 2), (30, .slice (some ⟨g234, 0, none⟩) 4 (ng234 / 1)), (31, .slice (some ⟨g231, 0, none⟩) 3 (ng231 / 1)), (34, .slice (some ⟨g235, 0, none⟩) 1 1)] ([⟨g235, [.int .i64 t219], 1⟩, ⟨g234, [.int .i64 a0_0, .int .i64 t214, .int .i64 t216, .int .i64 t218], ng234⟩, ⟨g233, [.int .i64 t218], 1⟩, ⟨b232, [.int .i64 t218, .int .i64 t219], 2⟩, ⟨g231, [.int .i64 a0_1, .int .i64 t215, .int .i64 t217], ng231⟩, ⟨g230, [.int .i64 t217], 1⟩, ⟨g228, [.int .i64 t216], 1⟩, ⟨b227, [.int .i64 t216, .int .i64 t217], 2⟩, ⟨g225, [.int .i64 t215], 1⟩, ⟨g223, [.int .i64 t214], 1⟩, ⟨b222, [.int .i64 t214, .int .i64 t215], 2⟩, ⟨N221, [.int .i64 t213, .int .i64 t214, .int .i64 t215, .int .i64 t216, .int .i64 t217, .int .i64 t218, .int .i64 t219], 7⟩, ⟨b210, [.int .i64 0, .int .i64 0], 2⟩, ⟨b209, [.int .i64 3, .int .i64 s1_1, .int .i64 s1_2, .int .i64 s1_3, .int .i64 s1_4, .int .i64 s1_5, .int .i64 s1_6], 7⟩, ⟨b208, [.int .i64 a0_0, .int .i64 a0_1], 2⟩] : List Own) := by
          intro g235 g234 ng234 g233
          refine hstep [9] _ _ _ (by kernel_rfl) (List.cons_ne_nil _ _) ⟨?_, trivial⟩
          · show T _ _ _ _ _ _ _ _
            refine t_app1 (cs := [.int .i64 a0_1, .int .i64 t215, .int .i64 t217]) (M := ng231) (F := ([⟨g235, [.int .i64 t219], 1⟩, ⟨g234, [.int .i64 a0_0, .int .i64 t214, .int .i64 t216, .int .i64 t218], ng234⟩, ⟨g233, [.int .i64 t218], 1⟩, ⟨b232, [.int .i64 t218, .int .i64 t219], 2⟩, ⟨g230, [.int .i64 t217], 1⟩, ⟨g228, [.int .i64 t216], 1⟩, ⟨b227, [.int .i64 t216, .int .i64 t217], 2⟩, ⟨g225, [.int .i64 t215], 1⟩, ⟨g223, [.int .i64 t214], 1⟩, ⟨b222, [.int .i64 t214, .int .i64 t215], 2⟩, ⟨N221, [.int .i64 t213, .int .i64 t214, .int .i64 t215, .int .i64 t216, .int .i64 t217, .int .i64 t218, .int .i64 t219], 7⟩, ⟨b210, [.int .i64 0, .int .i64 0], 2⟩, ⟨b209, [.int .i64 3, .int .i64 s1_1, .int .i64 s1_2, .int .i64 s1_3, .int .i64 s1_4, .int .i64 s1_5, .int .i64 s1_6], 7⟩, ⟨b208, [.int .i64 a0_0, .int .i64 a0_1], 2⟩] : List Own)) (news := [.int .i64 t219]) rfl rfl rfl rfl (sel_perm (is := [4]) (by kernel_rfl)) (.at 0 rfl rfl) (by kernel_rfl) rfl rfl (by decide) (by decide) rfl fun g236 ng236 => ?_
            refine t_keep [2, 3, 8, 9, 10, 20, 21, 22, 30, 35] (σ' := [(2, .int .i64 0), (3, .int .i64 n3), (8, .pointer (some ⟨b210, 0, none⟩)), (9, .slice (some ⟨g229, 0, none⟩) 3 (ng229 / 1)), (10, .slice (some ⟨g231, 0, none⟩) 3 (ng231 / 1)), (20, .slice (some ⟨N221, 1, none⟩) 3 3), (21, .int .i64 3), (22, .int .i64 2), (30, .slice (some ⟨g234, 0, none⟩) 4 (ng234 / 1)), (35, .slice (some ⟨g236, 0, none⟩) 4 (ng236 / 1))]) (by kernel_rfl) ?_
            refine t_end ?_
            exact ⟨hg_3ff g236 ng236 g235 g234 ng234 g233, rfl⟩
        have hg_ff : ∀ (g234 ng234 g233 : Nat), G [true, true, true, true, true, true, true, true, false, false, false, false] [(2, .int .i64 0), (3, .int .i64 n3), (8, .pointer (some ⟨b210, 0, none⟩)), (9, .slice (some ⟨g229, 0, none⟩) 3 (ng229 / 1)), (10, .slice (some ⟨g231, 0, none⟩) 3 (ng231 / 1)), (20, .slice (some ⟨N221, 1, none⟩) 3 3), (21, .int .i64 3), (22, .int .i64 2), (30, .slice (some ⟨g234, 0, none⟩) 4 (ng234 / 1)), (31, .slice (some ⟨g231, 0, none⟩) 3 (ng231 / 1)), (33, .int .i64 t219)] ([⟨g234, [.int .i64 a0_0, .int .i64 t214, .int .i64 t216, .int .i64 t218], ng234⟩, ⟨g233, [.int .i64 t218], 1⟩, ⟨b232, [.int .i64 t218, .int .i64 t219], 2⟩, ⟨g231, [.int .i64 a0_1, .int .i64 t215, .int .i64 t217], ng231⟩, ⟨g230, [.int .i64 t217], 1⟩, ⟨g228, [.int .i64 t216], 1⟩, ⟨b227, [.int .i64 t216, .int .i64 t217], 2⟩, ⟨g225, [.int .i64 t215], 1⟩, ⟨g223, [.int .i64 t214], 1⟩, ⟨b222, [.int .i64 t214, .int .i64 t215], 2⟩, ⟨N221, [.int .i64 t213, .int .i64 t214, .int .i64 t215, .int .i64 t216, .int .i64 t217, .int .i64 t218, .int .i64 t219], 7⟩, ⟨b210, [.int .i64 0, .int .i64 0], 2⟩, ⟨b209, [.int .i64 3, .int .i64 s1_1, .int .i64 s1_2, .int .i64 s1_3, .int .i64 s1_4, .int .i64 s1_5, .int .i64 s1_6], 7⟩, ⟨b208, [.int .i64 a0_0, .int .i64 a0_1], 2⟩] : List Own) := by
          intro g234 ng234 g233
          refine hstep [8] _ _ _ (by kernel_rfl) (List.cons_ne_nil _ _) ⟨?_, trivial⟩
          · show T _ _ _ _ _ _ _ _
            refine t_a (.bsl rfl rfl rfl rfl) fun g235 fg235 sg235 => ?_
            refine t_keep [2, 3, 8, 9, 10, 20, 21, 22, 30, 31, 34] (σ' := [(2, .int .i64 0), (3, .int .i64 n3), (8, .pointer (some ⟨b210, 0, none⟩)), (9, .slice (some ⟨g229, 0, none⟩) 3 (ng229 / 1)), (10, .slice (some ⟨g231, 0, none⟩) 3 (ng231 / 1)), (20, .slice (some ⟨N221, 1, none⟩) 3 3), (21, .int .i64 3), (22, .int .i64 2), (30, .slice (some ⟨g234, 0, none⟩) 4 (ng234 / 1)), (31, .slice (some ⟨g231, 0, none⟩) 3 (ng231 / 1)), (34, .slice (some ⟨g235, 0, none⟩) 1 1)]) (by kernel_rfl) ?_
            refine t_end ?_
            exact ⟨hg_1ff g235 g234 ng234 g233, rfl⟩
        have hg_1ef : ∀ (g235 g233 : Nat), G [true, true, true, true, false, true, true, true, true, false, false, false] [(2, .int .i64 0), (3, .int .i64 n3), (8, .pointer (some ⟨b210, 0, none⟩)), (9, .slice (some ⟨g229, 0, none⟩) 3 (ng229 / 1)), (10, .slice (some ⟨g231, 0, none⟩) 3 (ng231 / 1)), (20, .slice (some ⟨N221, 1, none⟩) 3 3), (21, .int .i64 3), (22, .int .i64 2), (26, .slice (some ⟨g229, 0, none⟩) 3 (ng229 / 1)), (29, .slice (some ⟨g233, 0, none⟩) 1 1), (31, .slice (some ⟨g231, 0, none⟩) 3 (ng231 / 1)), (34, .slice (some ⟨g235, 0, none⟩) 1 1)] ([⟨g235, [.int .i64 t219], 1⟩, ⟨g233, [.int .i64 t218], 1⟩, ⟨b232, [.int .i64 t218, .int .i64 t219], 2⟩, ⟨g231, [.int .i64 a0_1, .int .i64 t215, .int .i64 t217], ng231⟩, ⟨g230, [.int .i64 t217], 1⟩, ⟨g229, [.int .i64 a0_0, .int .i64 t214, .int .i64 t216], ng229⟩, ⟨g228, [.int .i64 t216], 1⟩, ⟨b227, [.int .i64 t216, .int .i64 t217], 2⟩, ⟨g225, [.int .i64 t215], 1⟩, ⟨g223, [.int .i64 t214], 1⟩, ⟨b222, [.int .i64 t214, .int .i64 t215], 2⟩, ⟨N221, [.int .i64 t213, .int .i64 t214, .int .i64 t215, .int .i64 t216, .int .i64 t217, .int .i64 t218, .int .i64 t219], 7⟩, ⟨b210, [.int .i64 0, .int .i64 0], 2⟩, ⟨b209, [.int .i64 3, .int .i64 s1_1, .int .i64 s1_2, .int .i64 s1_3, .int .i64 s1_4, .int .i64 s1_5, .int .i64 s1_6], 7⟩, ⟨b208, [.int .i64 a0_0, .int .i64 a0_1], 2⟩] : List Own) := by
          intro g235 g233
          refine hstep [4] _ _ _ (by kernel_rfl) (List.cons_ne_nil _ _) ⟨?_, trivial⟩
          · show T _ _ _ _ _ _ _ _
            refine t_app1 (cs := [.int .i64 a0_0, .int .i64 t214, .int .i64 t216]) (M := ng229) (F := ([⟨g235, [.int .i64 t219], 1⟩, ⟨g233, [.int .i64 t218], 1⟩, ⟨b232, [.int .i64 t218, .int .i64 t219], 2⟩, ⟨g231, [.int .i64 a0_1, .int .i64 t215, .int .i64 t217], ng231⟩, ⟨g230, [.int .i64 t217], 1⟩, ⟨g228, [.int .i64 t216], 1⟩, ⟨b227, [.int .i64 t216, .int .i64 t217], 2⟩, ⟨g225, [.int .i64 t215], 1⟩, ⟨g223, [.int .i64 t214], 1⟩, ⟨b222, [.int .i64 t214, .int .i64 t215], 2⟩, ⟨N221, [.int .i64 t213, .int .i64 t214, .int .i64 t215, .int .i64 t216, .int .i64 t217, .int .i64 t218, .int .i64 t219], 7⟩, ⟨b210, [.int .i64 0, .int .i64 0], 2⟩, ⟨b209, [.int .i64 3, .int .i64 s1_1, .int .i64 s1_2, .int .i64 s1_3, .int .i64 s1_4, .int .i64 s1_5, .int .i64 s1_6], 7⟩, ⟨b208, [.int .i64 a0_0, .int .i64 a0_1], 2⟩] : List Own)) (news := [.int .i64 t218]) rfl rfl rfl rfl (sel_perm (is := [5]) (by kernel_rfl)) (.at 1 rfl rfl) (by kernel_rfl) rfl rfl (by decide) (by decide) rfl fun g234 ng234 => ?_
            refine t_keep [2, 3, 8, 9, 10, 20, 21, 22, 30, 31, 34] (σ' := [(2, .int .i64 0), (3, .int .i64 n3), (8, .pointer (some ⟨b210, 0, none⟩)), (9, .slice (some ⟨g229, 0, none⟩) 3 (ng229 / 1)), (10, .slice (some ⟨g231, 0, none⟩) 3 (ng231 / 1)), (20, .slice (some ⟨N221, 1, none⟩) 3 3), (21, .int .i64 3), (22, .int .i64 2), (30, .slice (some ⟨g234, 0, none⟩) 4 (ng234 / 1)), (31, .slice (some ⟨g231, 0, none⟩) 3 (ng231 / 1)), (34, .slice (some ⟨g235, 0, none⟩) 1 1)]) (by kernel_rfl) ?_
            refine t_vs (H' := ([⟨g235, [.int .i64 t219], 1⟩, ⟨g234, [.int .i64 a0_0, .int .i64 t214, .int .i64 t216, .int .i64 t218], ng234⟩, ⟨g233, [.int .i64 t218], 1⟩, ⟨b232, [.int .i64 t218, .int .i64 t219], 2⟩, ⟨g231, [.int .i64 a0_1, .int .i64 t215, .int .i64 t217], ng231⟩, ⟨g230, [.int .i64 t217], 1⟩, ⟨g228, [.int .i64 t216], 1⟩, ⟨b227, [.int .i64 t216, .int .i64 t217], 2⟩, ⟨g225, [.int .i64 t215], 1⟩, ⟨g223, [.int .i64 t214], 1⟩, ⟨b222, [.int .i64 t214, .int .i64 t215], 2⟩, ⟨N221, [.int .i64 t213, .int .i64 t214, .int .i64 t215, .int .i64 t216, .int .i64 t217, .int .i64 t218, .int .i64 t219], 7⟩, ⟨b210, [.int .i64 0, .int .i64 0], 2⟩, ⟨b209, [.int .i64 3, .int .i64 s1_1, .int .i64 s1_2, .int .i64 s1_3, .int .i64 s1_4, .int .i64 s1_5, .int .i64 s1_6], 7⟩, ⟨b208, [.int .i64 a0_0, .int .i64 a0_1], 2⟩] : List Own)) (S' := S) (VS.sel [1, 0, 0, 0, 0, 0, 0, 0, 0, 0, 0, 0, 0, 0, 0] (by kernel_rfl)) ?_
            refine t_end ?_
            exact ⟨hg_1ff g235 g234 ng234 g233, rfl⟩
        have hg_1e7 : ∀ (g235 : Nat), G [true, true, true, false, false, true, true, true, true, false, false, false] [(2, .int .i64 0), (3, .int .i64 n3), (8, .pointer (some ⟨b210, 0, none⟩)), (9, .slice (some ⟨g229, 0, none⟩) 3 (ng229 / 1)), (10, .slice (some ⟨g231, 0, none⟩) 3 (ng231 / 1)), (20, .slice (some ⟨N221, 1, none⟩) 3 3), (21, .int .i64 3), (22, .int .i64 2), (26, .slice (some ⟨g229, 0, none⟩) 3 (ng229 / 1)), (28, .int .i64 t218), (31, .slice (some ⟨g231, 0, none⟩) 3 (ng231 / 1)), (34, .slice (some ⟨g235, 0, none⟩) 1 1)] ([⟨g235, [.int .i64 t219], 1⟩, ⟨b232, [.int .i64 t218, .int .i64 t219], 2⟩, ⟨g231, [.int .i64 a0_1, .int .i64 t215, .int .i64 t217], ng231⟩, ⟨g230, [.int .i64 t217], 1⟩, ⟨g229, [.int .i64 a0_0, .int .i64 t214, .int .i64 t216], ng229⟩, ⟨g228, [.int .i64 t216], 1⟩, ⟨b227, [.int .i64 t216, .int .i64 t217], 2⟩, ⟨g225, [.int .i64 t215], 1⟩, ⟨g223, [.int .i64 t214], 1⟩, ⟨b222, [.int .i64 t214, .int .i64 t215], 2⟩, ⟨N221, [.int .i64 t213, .int .i64 t214, .int .i64 t215, .int .i64 t216, .int .i64 t217, .int .i64 t218, .int .i64 t219], 7⟩, ⟨b210, [.int .i64 0, .int .i64 0], 2⟩, ⟨b209, [.int .i64 3, .int .i64 s1_1, .int .i64 s1_2, .int .i64 s1_3, .int .i64 s1_4, .int .i64 s1_5, .int .i64 s1_6], 7⟩, ⟨b208, [.int .i64 a0_0, .int .i64 a0_1], 2⟩] : List Own) := by
          intro g235
          refine hstep [3] _ _ _ (by kernel_rfl) (List.cons_ne_nil _ _) ⟨?_, trivial⟩
          · show T _ _ _ _ _ _ _ _
            refine t_a (.bsl rfl rfl rfl rfl) fun g233 fg233 sg233 => ?_
            refine t_keep [2, 3, 8, 9, 10, 20, 21, 22, 26, 29, 31, 34] (σ' := [(2, .int .i64 0), (3, .int .i64 n3), (8, .pointer (some ⟨b210, 0, none⟩)), (9, .slice (some ⟨g229, 0, none⟩) 3 (ng229 / 1)), (10, .slice (some ⟨g231, 0, none⟩) 3 (ng231 / 1)), (20, .slice (some ⟨N221, 1, none⟩) 3 3), (21, .int .i64 3), (22, .int .i64 2), (26, .slice (some ⟨g229, 0, none⟩) 3 (ng229 / 1)), (29, .slice (some ⟨g233, 0, none⟩) 1 1), (31, .slice (some ⟨g231, 0, none⟩) 3 (ng231 / 1)), (34, .slice (some ⟨g235, 0, none⟩) 1 1)]) (by kernel_rfl) ?_
            refine t_vs (H' := ([⟨g235, [.int .i64 t219], 1⟩, ⟨g233, [.int .i64 t218], 1⟩, ⟨b232, [.int .i64 t218, .int .i64 t219], 2⟩, ⟨g231, [.int .i64 a0_1, .int .i64 t215, .int .i64 t217], ng231⟩, ⟨g230, [.int .i64 t217], 1⟩, ⟨g229, [.int .i64 a0_0, .int .i64 t214, .int .i64 t216], ng229⟩, ⟨g228, [.int .i64 t216], 1⟩, ⟨b227, [.int .i64 t216, .int .i64 t217], 2⟩, ⟨g225, [.int .i64 t215], 1⟩, ⟨g223, [.int .i64 t214], 1⟩, ⟨b222, [.int .i64 t214, .int .i64 t215], 2⟩, ⟨N221, [.int .i64 t213, .int .i64 t214, .int .i64 t215, .int .i64 t216, .int .i64 t217, .int .i64 t218, .int .i64 t219], 7⟩, ⟨b210, [.int .i64 0, .int .i64 0], 2⟩, ⟨b209, [.int .i64 3, .int .i64 s1_1, .int .i64 s1_2, .int .i64 s1_3, .int .i64 s1_4, .int .i64 s1_5, .int .i64 s1_6], 7⟩, ⟨b208, [.int .i64 a0_0, .int .i64 a0_1], 2⟩] : List Own)) (S' := S) (VS.sel [1, 0, 0, 0, 0, 0, 0, 0, 0, 0, 0, 0, 0, 0, 0] (by kernel_rfl)) ?_
            refine t_end ?_
            exact ⟨hg_1ef g235 g233, rfl⟩
        have hg_ef : ∀ (g233 : Nat), G [true, true, true, true, false, true, true, true, false, false, false, false] [(2, .int .i64 0), (3, .int .i64 n3), (8, .pointer (some ⟨b210, 0, none⟩)), (9, .slice (some ⟨g229, 0, none⟩) 3 (ng229 / 1)), (10, .slice (some ⟨g231, 0, none⟩) 3 (ng231 / 1)), (20, .slice (some ⟨N221, 1, none⟩) 3 3), (21, .int .i64 3), (22, .int .i64 2), (26, .slice (some ⟨g229, 0, none⟩) 3 (ng229 / 1)), (29, .slice (some ⟨g233, 0, none⟩) 1 1), (31, .slice (some ⟨g231, 0, none⟩) 3 (ng231 / 1)), (33, .int .i64 t219)] ([⟨g233, [.int .i64 t218], 1⟩, ⟨b232, [.int .i64 t218, .int .i64 t219], 2⟩, ⟨g231, [.int .i64 a0_1, .int .i64 t215, .int .i64 t217], ng231⟩, ⟨g230, [.int .i64 t217], 1⟩, ⟨g229, [.int .i64 a0_0, .int .i64 t214, .int .i64 t216], ng229⟩, ⟨g228, [.int .i64 t216], 1⟩, ⟨b227, [.int .i64 t216, .int .i64 t217], 2⟩, ⟨g225, [.int .i64 t215], 1⟩, ⟨g223, [.int .i64 t214], 1⟩, ⟨b222, [.int .i64 t214, .int .i64 t215], 2⟩, ⟨N221, [.int .i64 t213, .int .i64 t214, .int .i64 t215, .int .i64 t216, .int .i64 t217, .int .i64 t218, .int .i64 t219], 7⟩, ⟨b210, [.int .i64 0, .int .i64 0], 2⟩, ⟨b209, [.int .i64 3, .int .i64 s1_1, .int .i64 s1_2, .int .i64 s1_3, .int .i64 s1_4, .int .i64 s1_5, .int .i64 s1_6], 7⟩, ⟨b208, [.int .i64 a0_0, .int .i64 a0_1], 2⟩] : List Own) := by
          intro g233
          refine hstep [4, 8] _ _ _ (by kernel_rfl) (List.cons_ne_nil _ _) ⟨?_, ?_, trivial⟩
          · show T _ _ _ _ _ _ _ _
            refine t_app1 (cs := [.int .i64 a0_0, .int .i64 t214, .int .i64 t216]) (M := ng229) (F := ([⟨g233, [.int .i64 t218], 1⟩, ⟨b232, [.int .i64 t218, .int .i64 t219], 2⟩, ⟨g231, [.int .i64 a0_1, .int .i64 t215, .int .i64 t217], ng231⟩, ⟨g230, [.int .i64 t217], 1⟩, ⟨g228, [.int .i64 t216], 1⟩, ⟨b227, [.int .i64 t216, .int .i64 t217], 2⟩, ⟨g225, [.int .i64 t215], 1⟩, ⟨g223, [.int .i64 t214], 1⟩, ⟨b222, [.int .i64 t214, .int .i64 t215], 2⟩, ⟨N221, [.int .i64 t213, .int .i64 t214, .int .i64 t215, .int .i64 t216, .int .i64 t217, .int .i64 t218, .int .i64 t219], 7⟩, ⟨b210, [.int .i64 0, .int .i64 0], 2⟩, ⟨b209, [.int .i64 3, .int .i64 s1_1, .int .i64 s1_2, .int .i64 s1_3, .int .i64 s1_4, .int .i64 s1_5, .int .i64 s1_6], 7⟩, ⟨b208, [.int .i64 a0_0, .int .i64 a0_1], 2⟩] : List Own)) (news := [.int .i64 t218]) rfl rfl rfl rfl (sel_perm (is := [4]) (by kernel_rfl)) (.at 0 rfl rfl) (by kernel_rfl) rfl rfl (by decide) (by decide) rfl fun g234 ng234 => ?_
            refine t_keep [2, 3, 8, 9, 10, 20, 21, 22, 30, 31, 33] (σ' := [(2, .int .i64 0), (3, .int .i64 n3), (8, .pointer (some ⟨b210, 0, none⟩)), (9, .slice (some ⟨g229, 0, none⟩) 3 (ng229 / 1)), (10, .slice (some ⟨g231, 0, none⟩) 3 (ng231 / 1)), (20, .slice (some ⟨N221, 1, none⟩) 3 3), (21, .int .i64 3), (22, .int .i64 2), (30, .slice (some ⟨g234, 0, none⟩) 4 (ng234 / 1)), (31, .slice (some ⟨g231, 0, none⟩) 3 (ng231 / 1)), (33, .int .i64 t219)]) (by kernel_rfl) ?_
            refine t_end ?_
            exact ⟨hg_ff g234 ng234 g233, rfl⟩
          · show T _ _ _ _ _ _ _ _
            refine t_a (.bsl rfl rfl rfl rfl) fun g235 fg235 sg235 => ?_
            refine t_keep [2, 3, 8, 9, 10, 20, 21, 22, 26, 29, 31, 34] (σ' := [(2, .int .i64 0), (3, .int .i64 n3), (8, .pointer (some ⟨b210, 0, none⟩)), (9, .slice (some ⟨g229, 0, none⟩) 3 (ng229 / 1)), (10, .slice (some ⟨g231, 0, none⟩) 3 (ng231 / 1)), (20, .slice (some ⟨N221, 1, none⟩) 3 3), (21, .int .i64 3), (22, .int .i64 2), (26, .slice (some ⟨g229, 0, none⟩) 3 (ng229 / 1)), (29, .slice (some ⟨g233, 0, none⟩) 1 1), (31, .slice (some ⟨g231, 0, none⟩) 3 (ng231 / 1)), (34, .slice (some ⟨g235, 0, none⟩) 1 1)]) (by kernel_rfl) ?_
            refine t_end ?_
            exact ⟨hg_1ef g235 g233, rfl⟩
        have hg_7f : ∀ (g234 ng234 g233 : Nat), G [true, true, true, true, true, true, true, false, false, false, false, false] [(2, .int .i64 0), (3, .int .i64 n3), (8, .pointer (some ⟨b210, 0, none⟩)), (9, .slice (some ⟨g229, 0, none⟩) 3 (ng229 / 1)), (10, .slice (some ⟨g231, 0, none⟩) 3 (ng231 / 1)), (20, .slice (some ⟨N221, 1, none⟩) 3 3), (21, .int .i64 3), (22, .int .i64 2), (30, .slice (some ⟨g234, 0, none⟩) 4 (ng234 / 1)), (31, .slice (some ⟨g231, 0, none⟩) 3 (ng231 / 1)), (32, .pointer (some ⟨b232, 1, none⟩))] ([⟨g234, [.int .i64 a0_0, .int .i64 t214, .int .i64 t216, .int .i64 t218], ng234⟩, ⟨g233, [.int .i64 t218], 1⟩, ⟨b232, [.int .i64 t218, .int .i64 t219], 2⟩, ⟨g231, [.int .i64 a0_1, .int .i64 t215, .int .i64 t217], ng231⟩, ⟨g230, [.int .i64 t217], 1⟩, ⟨g228, [.int .i64 t216], 1⟩, ⟨b227, [.int .i64 t216, .int .i64 t217], 2⟩, ⟨g225, [.int .i64 t215], 1⟩, ⟨g223, [.int .i64 t214], 1⟩, ⟨b222, [.int .i64 t214, .int .i64 t215], 2⟩, ⟨N221, [.int .i64 t213, .int .i64 t214, .int .i64 t215, .int .i64 t216, .int .i64 t217, .int .i64 t218, .int .i64 t219], 7⟩, ⟨b210, [.int .i64 0, .int .i64 0], 2⟩, ⟨b209, [.int .i64 3, .int .i64 s1_1, .int .i64 s1_2, .int .i64 s1_3, .int .i64 s1_4, .int .i64 s1_5, .int .i64 s1_6], 7⟩, ⟨b208, [.int .i64 a0_0, .int .i64 a0_1], 2⟩] : List Own) := by
          intro g234 ng234 g233
          refine hstep [7] _ _ _ (by kernel_rfl) (List.cons_ne_nil _ _) ⟨?_, trivial⟩
          · show T _ _ _ _ _ _ _ _
            refine t_v (.ld1 rfl rfl rfl (.at 2 rfl rfl)) ?_
            refine t_keep [2, 3, 8, 9, 10, 20, 21, 22, 30, 31, 33] (σ' := [(2, .int .i64 0), (3, .int .i64 n3), (8, .pointer (some ⟨b210, 0, none⟩)), (9, .slice (some ⟨g229, 0, none⟩) 3 (ng229 / 1)), (10, .slice (some ⟨g231, 0, none⟩) 3 (ng231 / 1)), (20, .slice (some ⟨N221, 1, none⟩) 3 3), (21, .int .i64 3), (22, .int .i64 2), (30, .slice (some ⟨g234, 0, none⟩) 4 (ng234 / 1)), (31, .slice (some ⟨g231, 0, none⟩) 3 (ng231 / 1)), (33, .int .i64 t219)]) (by kernel_rfl) ?_
            refine t_end ?_
            exact ⟨hg_ff g234 ng234 g233, rfl⟩
        have hg_1e3 : ∀ (g235 : Nat), G [true, true, false, false, false, true, true, true, true, false, false, false] [(2, .int .i64 0), (3, .int .i64 n3), (8, .pointer (some ⟨b210, 0, none⟩)), (9, .slice (some ⟨g229, 0, none⟩) 3 (ng229 / 1)), (10, .slice (some ⟨g231, 0, none⟩) 3 (ng231 / 1)), (20, .slice (some ⟨N221, 1, none⟩) 3 3), (21, .int .i64 3), (22, .int .i64 2), (26, .slice (some ⟨g229, 0, none⟩) 3 (ng229 / 1)), (27, .pointer (some ⟨b232, 0, none⟩)), (31, .slice (some ⟨g231, 0, none⟩) 3 (ng231 / 1)), (34, .slice (some ⟨g235, 0, none⟩) 1 1)] ([⟨g235, [.int .i64 t219], 1⟩, ⟨b232, [.int .i64 t218, .int .i64 t219], 2⟩, ⟨g231, [.int .i64 a0_1, .int .i64 t215, .int .i64 t217], ng231⟩, ⟨g230, [.int .i64 t217], 1⟩, ⟨g229, [.int .i64 a0_0, .int .i64 t214, .int .i64 t216], ng229⟩, ⟨g228, [.int .i64 t216], 1⟩, ⟨b227, [.int .i64 t216, .int .i64 t217], 2⟩, ⟨g225, [.int .i64 t215], 1⟩, ⟨g223, [.int .i64 t214], 1⟩, ⟨b222, [.int .i64 t214, .int .i64 t215], 2⟩, ⟨N221, [.int .i64 t213, .int .i64 t214, .int .i64 t215, .int .i64 t216, .int .i64 t217, .int .i64 t218, .int .i64 t219], 7⟩, ⟨b210, [.int .i64 0, .int .i64 0], 2⟩, ⟨b209, [.int .i64 3, .int .i64 s1_1, .int .i64 s1_2, .int .i64 s1_3, .int .i64 s1_4, .int .i64 s1_5, .int .i64 s1_6], 7⟩, ⟨b208, [.int .i64 a0_0, .int .i64 a0_1], 2⟩] : List Own) := by
          intro g235
          refine hstep [2] _ _ _ (by kernel_rfl) (List.cons_ne_nil _ _) ⟨?_, trivial⟩
          · show T _ _ _ _ _ _ _ _
            refine t_v (.ld1 rfl rfl rfl (.at 1 rfl rfl)) ?_
            refine t_keep [2, 3, 8, 9, 10, 20, 21, 22, 26, 28, 31, 34] (σ' := [(2, .int .i64 0), (3, .int .i64 n3), (8, .pointer (some ⟨b210, 0, none⟩)), (9, .slice (some ⟨g229, 0, none⟩) 3 (ng229 / 1)), (10, .slice (some ⟨g231, 0, none⟩) 3 (ng231 / 1)), (20, .slice (some ⟨N221, 1, none⟩) 3 3), (21, .int .i64 3), (22, .int .i64 2), (26, .slice (some ⟨g229, 0, none⟩) 3 (ng229 / 1)), (28, .int .i64 t218), (31, .slice (some ⟨g231, 0, none⟩) 3 (ng231 / 1)), (34, .slice (some ⟨g235, 0, none⟩) 1 1)]) (by kernel_rfl) ?_
            refine t_end ?_
            exact ⟨hg_1e7 g235, rfl⟩
        have hg_e7 : G [true, true, true, false, false, true, true, true, false, false, false, false] [(2, .int .i64 0), (3, .int .i64 n3), (8, .pointer (some ⟨b210, 0, none⟩)), (9, .slice (some ⟨g229, 0, none⟩) 3 (ng229 / 1)), (10, .slice (some ⟨g231, 0, none⟩) 3 (ng231 / 1)), (20, .slice (some ⟨N221, 1, none⟩) 3 3), (21, .int .i64 3), (22, .int .i64 2), (26, .slice (some ⟨g229, 0, none⟩) 3 (ng229 / 1)), (28, .int .i64 t218), (31, .slice (some ⟨g231, 0, none⟩) 3 (ng231 / 1)), (33, .int .i64 t219)] ([⟨b232, [.int .i64 t218, .int .i64 t219], 2⟩, ⟨g231, [.int .i64 a0_1, .int .i64 t215, .int .i64 t217], ng231⟩, ⟨g230, [.int .i64 t217], 1⟩, ⟨g229, [.int .i64 a0_0, .int .i64 t214, .int .i64 t216], ng229⟩, ⟨g228, [.int .i64 t216], 1⟩, ⟨b227, [.int .i64 t216, .int .i64 t217], 2⟩, ⟨g225, [.int .i64 t215], 1⟩, ⟨g223, [.int .i64 t214], 1⟩, ⟨b222, [.int .i64 t214, .int .i64 t215], 2⟩, ⟨N221, [.int .i64 t213, .int .i64 t214, .int .i64 t215, .int .i64 t216, .int .i64 t217, .int .i64 t218, .int .i64 t219], 7⟩, ⟨b210, [.int .i64 0, .int .i64 0], 2⟩, ⟨b209, [.int .i64 3, .int .i64 s1_1, .int .i64 s1_2, .int .i64 s1_3, .int .i64 s1_4, .int .i64 s1_5, .int .i64 s1_6], 7⟩, ⟨b208, [.int .i64 a0_0, .int .i64 a0_1], 2⟩] : List Own) := by
          refine hstep [3, 8] _ _ _ (by kernel_rfl) (List.cons_ne_nil _ _) ⟨?_, ?_, trivial⟩
          · show T _ _ _ _ _ _ _ _
            refine t_a (.bsl rfl rfl rfl rfl) fun g233 fg233 sg233 => ?_
            refine t_keep [2, 3, 8, 9, 10, 20, 21, 22, 26, 29, 31, 33] (σ' := [(2, .int .i64 0), (3, .int .i64 n3), (8, .pointer (some ⟨b210, 0, none⟩)), (9, .slice (some ⟨g229, 0, none⟩) 3 (ng229 / 1)), (10, .slice (some ⟨g231, 0, none⟩) 3 (ng231 / 1)), (20, .slice (some ⟨N221, 1, none⟩) 3 3), (21, .int .i64 3), (22, .int .i64 2), (26, .slice (some ⟨g229, 0, none⟩) 3 (ng229 / 1)), (29, .slice (some ⟨g233, 0, none⟩) 1 1), (31, .slice (some ⟨g231, 0, none⟩) 3 (ng231 / 1)), (33, .int .i64 t219)]) (by kernel_rfl) ?_
            refine t_end ?_
            exact ⟨hg_ef g233, rfl⟩
          · show T _ _ _ _ _ _ _ _
            refine t_a (.bsl rfl rfl rfl rfl) fun g235 fg235 sg235 => ?_
            refine t_keep [2, 3, 8, 9, 10, 20, 21, 22, 26, 28, 31, 34] (σ' := [(2, .int .i64 0), (3, .int .i64 n3), (8, .pointer (some ⟨b210, 0, none⟩)), (9, .slice (some ⟨g229, 0, none⟩) 3 (ng229 / 1)), (10, .slice (some ⟨g231, 0, none⟩) 3 (ng231 / 1)), (20, .slice (some ⟨N221, 1, none⟩) 3 3), (21, .int .i64 3), (22, .int .i64 2), (26, .slice (some ⟨g229, 0, none⟩) 3 (ng229 / 1)), (28, .int .i64 t218), (31, .slice (some ⟨g231, 0, none⟩) 3 (ng231 / 1)), (34, .slice (some ⟨g235, 0, none⟩) 1 1)]) (by kernel_rfl) ?_
            refine t_end ?_
            exact ⟨hg_1e7 g235, rfl⟩
        have hg_6f : ∀ (g233 : Nat), G [true, true, true, true, false, true, true, false, false, false, false, false] [(2, .int .i64 0), (3, .int .i64 n3), (8, .pointer (some ⟨b210, 0, none⟩)), (9, .slice (some ⟨g229, 0, none⟩) 3 (ng229 / 1)), (10, .slice (some ⟨g231, 0, none⟩) 3 (ng231 / 1)), (20, .slice (some ⟨N221, 1, none⟩) 3 3), (21, .int .i64 3), (22, .int .i64 2), (26, .slice (some ⟨g229, 0, none⟩) 3 (ng229 / 1)), (29, .slice (some ⟨g233, 0, none⟩) 1 1), (31, .slice (some ⟨g231, 0, none⟩) 3 (ng231 / 1)), (32, .pointer (some ⟨b232, 1, none⟩))] ([⟨g233, [.int .i64 t218], 1⟩, ⟨b232, [.int .i64 t218, .int .i64 t219], 2⟩, ⟨g231, [.int .i64 a0_1, .int .i64 t215, .int .i64 t217], ng231⟩, ⟨g230, [.int .i64 t217], 1⟩, ⟨g229, [.int .i64 a0_0, .int .i64 t214, .int .i64 t216], ng229⟩, ⟨g228, [.int .i64 t216], 1⟩, ⟨b227, [.int .i64 t216, .int .i64 t217], 2⟩, ⟨g225, [.int .i64 t215], 1⟩, ⟨g223, [.int .i64 t214], 1⟩, ⟨b222, [.int .i64 t214, .int .i64 t215], 2⟩, ⟨N221, [.int .i64 t213, .int .i64 t214, .int .i64 t215, .int .i64 t216, .int .i64 t217, .int .i64 t218, .int .i64 t219], 7⟩, ⟨b210, [.int .i64 0, .int .i64 0], 2⟩, ⟨b209, [.int .i64 3, .int .i64 s1_1, .int .i64 s1_2, .int .i64 s1_3, .int .i64 s1_4, .int .i64 s1_5, .int .i64 s1_6], 7⟩, ⟨b208, [.int .i64 a0_0, .int .i64 a0_1], 2⟩] : List Own) := by
          intro g233
          refine hstep [4, 7] _ _ _ (by kernel_rfl) (List.cons_ne_nil _ _) ⟨?_, ?_, trivial⟩
          · show T _ _ _ _ _ _ _ _
            refine t_app1 (cs := [.int .i64 a0_0, .int .i64 t214, .int .i64 t216]) (M := ng229) (F := ([⟨g233, [.int .i64 t218], 1⟩, ⟨b232, [.int .i64 t218, .int .i64 t219], 2⟩, ⟨g231, [.int .i64 a0_1, .int .i64 t215, .int .i64 t217], ng231⟩, ⟨g230, [.int .i64 t217], 1⟩, ⟨g228, [.int .i64 t216], 1⟩, ⟨b227, [.int .i64 t216, .int .i64 t217], 2⟩, ⟨g225, [.int .i64 t215], 1⟩, ⟨g223, [.int .i64 t214], 1⟩, ⟨b222, [.int .i64 t214, .int .i64 t215], 2⟩, ⟨N221, [.int .i64 t213, .int .i64 t214, .int .i64 t215, .int .i64 t216, .int .i64 t217, .int .i64 t218, .int .i64 t219], 7⟩, ⟨b210, [.int .i64 0, .int .i64 0], 2⟩, ⟨b209, [.int .i64 3, .int .i64 s1_1, .int .i64 s1_2, .int .i64 s1_3, .int .i64 s1_4, .int .i64 s1_5, .int .i64 s1_6], 7⟩, ⟨b208, [.int .i64 a0_0, .int .i64 a0_1], 2⟩] : List Own)) (news := [.int .i64 t218]) rfl rfl rfl rfl (sel_perm (is := [4]) (by kernel_rfl)) (.at 0 rfl rfl) (by kernel_rfl) rfl rfl (by decide) (by decide) rfl fun g234 ng234 => ?_
            refine t_keep [2, 3, 8, 9, 10, 20, 21, 22, 30, 31, 32] (σ' := [(2, .int .i64 0), (3, .int .i64 n3), (8, .pointer (some ⟨b210, 0, none⟩)), (9, .slice (some ⟨g229, 0, none⟩) 3 (ng229 / 1)), (10, .slice (some ⟨g231, 0, none⟩) 3 (ng231 / 1)), (20, .slice (some ⟨N221, 1, none⟩) 3 3), (21, .int .i64 3), (22, .int .i64 2), (30, .slice (some ⟨g234, 0, none⟩) 4 (ng234 / 1)), (31, .slice (some ⟨g231, 0, none⟩) 3 (ng231 / 1)), (32, .pointer (some ⟨b232, 1, none⟩))]) (by kernel_rfl) ?_
            refine t_end ?_
            exact ⟨hg_7f g234 ng234 g233, rfl⟩
          · show T _ _ _ _ _ _ _ _
            refine t_v (.ld1 rfl rfl rfl (.at 1 rfl rfl)) ?_
            refine t_keep [2, 3, 8, 9, 10, 20, 21, 22, 26, 29, 31, 33] (σ' := [(2, .int .i64 0), (3, .int .i64 n3), (8, .pointer (some ⟨b210, 0, none⟩)), (9, .slice (some ⟨g229, 0, none⟩) 3 (ng229 / 1)), (10, .slice (some ⟨g231, 0, none⟩) 3 (ng231 / 1)), (20, .slice (some ⟨N221, 1, none⟩) 3 3), (21, .int .i64 3), (22, .int .i64 2), (26, .slice (some ⟨g229, 0, none⟩) 3 (ng229 / 1)), (29, .slice (some ⟨g233, 0, none⟩) 1 1), (31, .slice (some ⟨g231, 0, none⟩) 3 (ng231 / 1)), (33, .int .i64 t219)]) (by kernel_rfl) ?_
            refine t_end ?_
            exact ⟨hg_ef g233, rfl⟩
        have hg_e3 : G [true, true, false, false, false, true, true, true, false, false, false, false] [(2, .int .i64 0), (3, .int .i64 n3), (8, .pointer (some ⟨b210, 0, none⟩)), (9, .slice (some ⟨g229, 0, none⟩) 3 (ng229 / 1)), (10, .slice (some ⟨g231, 0, none⟩) 3 (ng231 / 1)), (20, .slice (some ⟨N221, 1, none⟩) 3 3), (21, .int .i64 3), (22, .int .i64 2), (26, .slice (some ⟨g229, 0, none⟩) 3 (ng229 / 1)), (27, .pointer (some ⟨b232, 0, none⟩)), (31, .slice (some ⟨g231, 0, none⟩) 3 (ng231 / 1)), (33, .int .i64 t219)] ([⟨b232, [.int .i64 t218, .int .i64 t219], 2⟩, ⟨g231, [.int .i64 a0_1, .int .i64 t215, .int .i64 t217], ng231⟩, ⟨g230, [.int .i64 t217], 1⟩, ⟨g229, [.int .i64 a0_0, .int .i64 t214, .int .i64 t216], ng229⟩, ⟨g228, [.int .i64 t216], 1⟩, ⟨b227, [.int .i64 t216, .int .i64 t217], 2⟩, ⟨g225, [.int .i64 t215], 1⟩, ⟨g223, [.int .i64 t214], 1⟩, ⟨b222, [.int .i64 t214, .int .i64 t215], 2⟩, ⟨N221, [.int .i64 t213, .int .i64 t214, .int .i64 t215, .int .i64 t216, .int .i64 t217, .int .i64 t218, .int .i64 t219], 7⟩, ⟨b210, [.int .i64 0, .int .i64 0], 2⟩, ⟨b209, [.int .i64 3, .int .i64 s1_1, .int .i64 s1_2, .int .i64 s1_3, .int .i64 s1_4, .int .i64 s1_5, .int .i64 s1_6], 7⟩, ⟨b208, [.int .i64 a0_0, .int .i64 a0_1], 2⟩] : List Own) := by
          refine hstep [2, 8] _ _ _ (by kernel_rfl) (List.cons_ne_nil _ _) ⟨?_, ?_, trivial⟩
          · show T _ _ _ _ _ _ _ _
            refine t_v (.ld1 rfl rfl rfl (.at 0 rfl rfl)) ?_
            refine t_keep [2, 3, 8, 9, 10, 20, 21, 22, 26, 28, 31, 33] (σ' := [(2, .int .i64 0), (3, .int .i64 n3), (8, .pointer (some ⟨b210, 0, none⟩)), (9, .slice (some ⟨g229, 0, none⟩) 3 (ng229 / 1)), (10, .slice (some ⟨g231, 0, none⟩) 3 (ng231 / 1)), (20, .slice (some ⟨N221, 1, none⟩) 3 3), (21, .int .i64 3), (22, .int .i64 2), (26, .slice (some ⟨g229, 0, none⟩) 3 (ng229 / 1)), (28, .int .i64 t218), (31, .slice (some ⟨g231, 0, none⟩) 3 (ng231 / 1)), (33, .int .i64 t219)]) (by kernel_rfl) ?_
            refine t_end ?_
            exact ⟨hg_e7, rfl⟩
          · show T _ _ _ _ _ _ _ _
            refine t_a (.bsl rfl rfl rfl rfl) fun g235 fg235 sg235 => ?_
            refine t_keep [2, 3, 8, 9, 10, 20, 21, 22, 26, 27, 31, 34] (σ' := [(2, .int .i64 0), (3, .int .i64 n3), (8, .pointer (some ⟨b210, 0, none⟩)), (9, .slice (some ⟨g229, 0, none⟩) 3 (ng229 / 1)), (10, .slice (some ⟨g231, 0, none⟩) 3 (ng231 / 1)), (20, .slice (some ⟨N221, 1, none⟩) 3 3), (21, .int .i64 3), (22, .int .i64 2), (26, .slice (some ⟨g229, 0, none⟩) 3 (ng229 / 1)), (27, .pointer (some ⟨b232, 0, none⟩)), (31, .slice (some ⟨g231, 0, none⟩) 3 (ng231 / 1)), (34, .slice (some ⟨g235, 0, none⟩) 1 1)]) (by kernel_rfl) ?_
            refine t_end ?_
            exact ⟨hg_1e3 g235, rfl⟩
        have hg_67 : G [true, true, true, false, false, true, true, false, false, false, false, false] [(2, .int .i64 0), (3, .int .i64 n3), (8, .pointer (some ⟨b210, 0, none⟩)), (9, .slice (some ⟨g229, 0, none⟩) 3 (ng229 / 1)), (10, .slice (some ⟨g231, 0, none⟩) 3 (ng231 / 1)), (20, .slice (some ⟨N221, 1, none⟩) 3 3), (21, .int .i64 3), (22, .int .i64 2), (26, .slice (some ⟨g229, 0, none⟩) 3 (ng229 / 1)), (28, .int .i64 t218), (31, .slice (some ⟨g231, 0, none⟩) 3 (ng231 / 1)), (32, .pointer (some ⟨b232, 1, none⟩))] ([⟨b232, [.int .i64 t218, .int .i64 t219], 2⟩, ⟨g231, [.int .i64 a0_1, .int .i64 t215, .int .i64 t217], ng231⟩, ⟨g230, [.int .i64 t217], 1⟩, ⟨g229, [.int .i64 a0_0, .int .i64 t214, .int .i64 t216], ng229⟩, ⟨g228, [.int .i64 t216], 1⟩, ⟨b227, [.int .i64 t216, .int .i64 t217], 2⟩, ⟨g225, [.int .i64 t215], 1⟩, ⟨g223, [.int .i64 t214], 1⟩, ⟨b222, [.int .i64 t214, .int .i64 t215], 2⟩, ⟨N221, [.int .i64 t213, .int .i64 t214, .int .i64 t215, .int .i64 t216, .int .i64 t217, .int .i64 t218, .int .i64 t219], 7⟩, ⟨b210, [.int .i64 0, .int .i64 0], 2⟩, ⟨b209, [.int .i64 3, .int .i64 s1_1, .int .i64 s1_2, .int .i64 s1_3, .int .i64 s1_4, .int .i64 s1_5, .int .i64 s1_6], 7⟩, ⟨b208, [.int .i64 a0_0, .int .i64 a0_1], 2⟩] : List Own) := by
          refine hstep [3, 7] _ _ _ (by kernel_rfl) (List.cons_ne_nil _ _) ⟨?_, ?_, trivial⟩
          · show T _ _ _ _ _ _ _ _
            refine t_a (.bsl rfl rfl rfl rfl) fun g233 fg233 sg233 => ?_
            refine t_keep [2, 3, 8, 9, 10, 20, 21, 22, 26, 29, 31, 32] (σ' := [(2, .int .i64 0), (3, .int .i64 n3), (8, .pointer (some ⟨b210, 0, none⟩)), (9, .slice (some ⟨g229, 0, none⟩) 3 (ng229 / 1)), (10, .slice (some ⟨g231, 0, none⟩) 3 (ng231 / 1)), (20, .slice (some ⟨N221, 1, none⟩) 3 3), (21, .int .i64 3), (22, .int .i64 2), (26, .slice (some ⟨g229, 0, none⟩) 3 (ng229 / 1)), (29, .slice (some ⟨g233, 0, none⟩) 1 1), (31, .slice (some ⟨g231, 0, none⟩) 3 (ng231 / 1)), (32, .pointer (some ⟨b232, 1, none⟩))]) (by kernel_rfl) ?_
            refine t_end ?_
            exact ⟨hg_6f g233, rfl⟩
          · show T _ _ _ _ _ _ _ _
            refine t_v (.ld1 rfl rfl rfl (.at 0 rfl rfl)) ?_
            refine t_keep [2, 3, 8, 9, 10, 20, 21, 22, 26, 28, 31, 33] (σ' := [(2, .int .i64 0), (3, .int .i64 n3), (8, .pointer (some ⟨b210, 0, none⟩)), (9, .slice (some ⟨g229, 0, none⟩) 3 (ng229 / 1)), (10, .slice (some ⟨g231, 0, none⟩) 3 (ng231 / 1)), (20, .slice (some ⟨N221, 1, none⟩) 3 3), (21, .int .i64 3), (22, .int .i64 2), (26, .slice (some ⟨g229, 0, none⟩) 3 (ng229 / 1)), (28, .int .i64 t218), (31, .slice (some ⟨g231, 0, none⟩) 3 (ng231 / 1)), (33, .int .i64 t219)]) (by kernel_rfl) ?_
            refine t_end ?_
            exact ⟨hg_e7, rfl⟩
        have hg_63 : G [true, true, false, false, false, true, true, false, false, false, false, false] [(2, .int .i64 0), (3, .int .i64 n3), (8, .pointer (some ⟨b210, 0, none⟩)), (9, .slice (some ⟨g229, 0, none⟩) 3 (ng229 / 1)), (10, .slice (some ⟨g231, 0, none⟩) 3 (ng231 / 1)), (20, .slice (some ⟨N221, 1, none⟩) 3 3), (21, .int .i64 3), (22, .int .i64 2), (26, .slice (some ⟨g229, 0, none⟩) 3 (ng229 / 1)), (27, .pointer (some ⟨b232, 0, none⟩)), (31, .slice (some ⟨g231, 0, none⟩) 3 (ng231 / 1)), (32, .pointer (some ⟨b232, 1, none⟩))] ([⟨b232, [.int .i64 t218, .int .i64 t219], 2⟩, ⟨g231, [.int .i64 a0_1, .int .i64 t215, .int .i64 t217], ng231⟩, ⟨g230, [.int .i64 t217], 1⟩, ⟨g229, [.int .i64 a0_0, .int .i64 t214, .int .i64 t216], ng229⟩, ⟨g228, [.int .i64 t216], 1⟩, ⟨b227, [.int .i64 t216, .int .i64 t217], 2⟩, ⟨g225, [.int .i64 t215], 1⟩, ⟨g223, [.int .i64 t214], 1⟩, ⟨b222, [.int .i64 t214, .int .i64 t215], 2⟩, ⟨N221, [.int .i64 t213, .int .i64 t214, .int .i64 t215, .int .i64 t216, .int .i64 t217, .int .i64 t218, .int .i64 t219], 7⟩, ⟨b210, [.int .i64 0, .int .i64 0], 2⟩, ⟨b209, [.int .i64 3, .int .i64 s1_1, .int .i64 s1_2, .int .i64 s1_3, .int .i64 s1_4, .int .i64 s1_5, .int .i64 s1_6], 7⟩, ⟨b208, [.int .i64 a0_0, .int .i64 a0_1], 2⟩] : List Own) := by
          refine hstep [2, 7] _ _ _ (by kernel_rfl) (List.cons_ne_nil _ _) ⟨?_, ?_, trivial⟩
          · show T _ _ _ _ _ _ _ _
            refine t_v (.ld1 rfl rfl rfl (.at 0 rfl rfl)) ?_
            refine t_keep [2, 3, 8, 9, 10, 20, 21, 22, 26, 28, 31, 32] (σ' := [(2, .int .i64 0), (3, .int .i64 n3), (8, .pointer (some ⟨b210, 0, none⟩)), (9, .slice (some ⟨g229, 0, none⟩) 3 (ng229 / 1)), (10, .slice (some ⟨g231, 0, none⟩) 3 (ng231 / 1)), (20, .slice (some ⟨N221, 1, none⟩) 3 3), (21, .int .i64 3), (22, .int .i64 2), (26, .slice (some ⟨g229, 0, none⟩) 3 (ng229 / 1)), (28, .int .i64 t218), (31, .slice (some ⟨g231, 0, none⟩) 3 (ng231 / 1)), (32, .pointer (some ⟨b232, 1, none⟩))]) (by kernel_rfl) ?_
            refine t_end ?_
            exact ⟨hg_67, rfl⟩
          · show T _ _ _ _ _ _ _ _
            refine t_v (.ld1 rfl rfl rfl (.at 0 rfl rfl)) ?_
            refine t_keep [2, 3, 8, 9, 10, 20, 21, 22, 26, 27, 31, 33] (σ' := [(2, .int .i64 0), (3, .int .i64 n3), (8, .pointer (some ⟨b210, 0, none⟩)), (9, .slice (some ⟨g229, 0, none⟩) 3 (ng229 / 1)), (10, .slice (some ⟨g231, 0, none⟩) 3 (ng231 / 1)), (20, .slice (some ⟨N221, 1, none⟩) 3 3), (21, .int .i64 3), (22, .int .i64 2), (26, .slice (some ⟨g229, 0, none⟩) 3 (ng229 / 1)), (27, .pointer (some ⟨b232, 0, none⟩)), (31, .slice (some ⟨g231, 0, none⟩) 3 (ng231 / 1)), (33, .int .i64 t219)]) (by kernel_rfl) ?_
            refine t_end ?_
            exact ⟨hg_e3, rfl⟩
        have hg_23 : G [true, true, false, false, false, true, false, false, false, false, false, false] [(2, .int .i64 0), (3, .int .i64 n3), (8, .pointer (some ⟨b210, 0, none⟩)), (9, .slice (some ⟨g229, 0, none⟩) 3 (ng229 / 1)), (10, .slice (some ⟨g231, 0, none⟩) 3 (ng231 / 1)), (12, .pointer (some ⟨b232, 0, none⟩)), (20, .slice (some ⟨N221, 1, none⟩) 3 3), (21, .int .i64 3), (22, .int .i64 2), (26, .slice (some ⟨g229, 0, none⟩) 3 (ng229 / 1)), (27, .pointer (some ⟨b232, 0, none⟩)), (31, .slice (some ⟨g231, 0, none⟩) 3 (ng231 / 1))] ([⟨b232, [.int .i64 t218, .int .i64 t219], 2⟩, ⟨g231, [.int .i64 a0_1, .int .i64 t215, .int .i64 t217], ng231⟩, ⟨g230, [.int .i64 t217], 1⟩, ⟨g229, [.int .i64 a0_0, .int .i64 t214, .int .i64 t216], ng229⟩, ⟨g228, [.int .i64 t216], 1⟩, ⟨b227, [.int .i64 t216, .int .i64 t217], 2⟩, ⟨g225, [.int .i64 t215], 1⟩, ⟨g223, [.int .i64 t214], 1⟩, ⟨b222, [.int .i64 t214, .int .i64 t215], 2⟩, ⟨N221, [.int .i64 t213, .int .i64 t214, .int .i64 t215, .int .i64 t216, .int .i64 t217, .int .i64 t218, .int .i64 t219], 7⟩, ⟨b210, [.int .i64 0, .int .i64 0], 2⟩, ⟨b209, [.int .i64 3, .int .i64 s1_1, .int .i64 s1_2, .int .i64 s1_3, .int .i64 s1_4, .int .i64 s1_5, .int .i64 s1_6], 7⟩, ⟨b208, [.int .i64 a0_0, .int .i64 a0_1], 2⟩] : List Own) := by
          exact hqf 6 [2, 3, 8, 9, 10, 20, 21, 22, 26, 27, 31, 32] _ _ _ [(2, .int .i64 0), (3, .int .i64 n3), (8, .pointer (some ⟨b210, 0, none⟩)), (9, .slice (some ⟨g229, 0, none⟩) 3 (ng229 / 1)), (10, .slice (some ⟨g231, 0, none⟩) 3 (ng231 / 1)), (20, .slice (some ⟨N221, 1, none⟩) 3 3), (21, .int .i64 3), (22, .int .i64 2), (26, .slice (some ⟨g229, 0, none⟩) 3 (ng229 / 1)), (27, .pointer (some ⟨b232, 0, none⟩)), (31, .slice (some ⟨g231, 0, none⟩) 3 (ng231 / 1)), (32, .pointer (some ⟨b232, 1, none⟩))] (by kernel_rfl) (by kernel_rfl) hg_63
        have hg_3 : G [true, true, false, false, false, false, false, false, false, false, false, false] [(2, .int .i64 0), (3, .int .i64 n3), (8, .pointer (some ⟨b210, 0, none⟩)), (9, .slice (some ⟨g229, 0, none⟩) 3 (ng229 / 1)), (10, .slice (some ⟨g231, 0, none⟩) 3 (ng231 / 1)), (12, .pointer (some ⟨b232, 0, none⟩)), (20, .slice (some ⟨N221, 1, none⟩) 3 3), (21, .int .i64 3), (22, .int .i64 2), (26, .slice (some ⟨g229, 0, none⟩) 3 (ng229 / 1)), (27, .pointer (some ⟨b232, 0, none⟩))] ([⟨b232, [.int .i64 t218, .int .i64 t219], 2⟩, ⟨g231, [.int .i64 a0_1, .int .i64 t215, .int .i64 t217], ng231⟩, ⟨g230, [.int .i64 t217], 1⟩, ⟨g229, [.int .i64 a0_0, .int .i64 t214, .int .i64 t216], ng229⟩, ⟨g228, [.int .i64 t216], 1⟩, ⟨b227, [.int .i64 t216, .int .i64 t217], 2⟩, ⟨g225, [.int .i64 t215], 1⟩, ⟨g223, [.int .i64 t214], 1⟩, ⟨b222, [.int .i64 t214, .int .i64 t215], 2⟩, ⟨N221, [.int .i64 t213, .int .i64 t214, .int .i64 t215, .int .i64 t216, .int .i64 t217, .int .i64 t218, .int .i64 t219], 7⟩, ⟨b210, [.int .i64 0, .int .i64 0], 2⟩, ⟨b209, [.int .i64 3, .int .i64 s1_1, .int .i64 s1_2, .int .i64 s1_3, .int .i64 s1_4, .int .i64 s1_5, .int .i64 s1_6], 7⟩, ⟨b208, [.int .i64 a0_0, .int .i64 a0_1], 2⟩] : List Own) := by
          exact hqf 5 [2, 3, 8, 9, 10, 12, 20, 21, 22, 26, 27, 31] _ _ _ [(2, .int .i64 0), (3, .int .i64 n3), (8, .pointer (some ⟨b210, 0, none⟩)), (9, .slice (some ⟨g229, 0, none⟩) 3 (ng229 / 1)), (10, .slice (some ⟨g231, 0, none⟩) 3 (ng231 / 1)), (12, .pointer (some ⟨b232, 0, none⟩)), (20, .slice (some ⟨N221, 1, none⟩) 3 3), (21, .int .i64 3), (22, .int .i64 2), (26, .slice (some ⟨g229, 0, none⟩) 3 (ng229 / 1)), (27, .pointer (some ⟨b232, 0, none⟩)), (31, .slice (some ⟨g231, 0, none⟩) 3 (ng231 / 1))] (by kernel_rfl) (by kernel_rfl) hg_23
        have hg_1 : G [true, false, false, false, false, false, false, false, false, false, false, false] [(2, .int .i64 0), (3, .int .i64 n3), (8, .pointer (some ⟨b210, 0, none⟩)), (9, .slice (some ⟨g229, 0, none⟩) 3 (ng229 / 1)), (10, .slice (some ⟨g231, 0, none⟩) 3 (ng231 / 1)), (12, .pointer (some ⟨b232, 0, none⟩)), (20, .slice (some ⟨N221, 1, none⟩) 3 3), (21, .int .i64 3), (22, .int .i64 2), (26, .slice (some ⟨g229, 0, none⟩) 3 (ng229 / 1))] ([⟨b232, [.int .i64 t218, .int .i64 t219], 2⟩, ⟨g231, [.int .i64 a0_1, .int .i64 t215, .int .i64 t217], ng231⟩, ⟨g230, [.int .i64 t217], 1⟩, ⟨g229, [.int .i64 a0_0, .int .i64 t214, .int .i64 t216], ng229⟩, ⟨g228, [.int .i64 t216], 1⟩, ⟨b227, [.int .i64 t216, .int .i64 t217], 2⟩, ⟨g225, [.int .i64 t215], 1⟩, ⟨g223, [.int .i64 t214], 1⟩, ⟨b222, [.int .i64 t214, .int .i64 t215], 2⟩, ⟨N221, [.int .i64 t213, .int .i64 t214, .int .i64 t215, .int .i64 t216, .int .i64 t217, .int .i64 t218, .int .i64 t219], 7⟩, ⟨b210, [.int .i64 0, .int .i64 0], 2⟩, ⟨b209, [.int .i64 3, .int .i64 s1_1, .int .i64 s1_2, .int .i64 s1_3, .int .i64 s1_4, .int .i64 s1_5, .int .i64 s1_6], 7⟩, ⟨b208, [.int .i64 a0_0, .int .i64 a0_1], 2⟩] : List Own) := by
          exact hqf 1 [2, 3, 8, 9, 10, 12, 20, 21, 22, 26, 27] _ _ _ [(2, .int .i64 0), (3, .int .i64 n3), (8, .pointer (some ⟨b210, 0, none⟩)), (9, .slice (some ⟨g229, 0, none⟩) 3 (ng229 / 1)), (10, .slice (some ⟨g231, 0, none⟩) 3 (ng231 / 1)), (12, .pointer (some ⟨b232, 0, none⟩)), (20, .slice (some ⟨N221, 1, none⟩) 3 3), (21, .int .i64 3), (22, .int .i64 2), (26, .slice (some ⟨g229, 0, none⟩) 3 (ng229 / 1)), (27, .pointer (some ⟨b232, 0, none⟩))] (by kernel_rfl) (by kernel_rfl) hg_3
        have hg_0 : G [false, false, false, false, false, false, false, false, false, false, false, false] [(2, .int .i64 0), (3, .int .i64 n3), (8, .pointer (some ⟨b210, 0, none⟩)), (9, .slice (some ⟨g229, 0, none⟩) 3 (ng229 / 1)), (10, .slice (some ⟨g231, 0, none⟩) 3 (ng231 / 1)), (12, .pointer (some ⟨b232, 0, none⟩)), (20, .slice (some ⟨N221, 1, none⟩) 3 3), (21, .int .i64 3), (22, .int .i64 2)] ([⟨b232, [.int .i64 t218, .int .i64 t219], 2⟩, ⟨g231, [.int .i64 a0_1, .int .i64 t215, .int .i64 t217], ng231⟩, ⟨g230, [.int .i64 t217], 1⟩, ⟨g229, [.int .i64 a0_0, .int .i64 t214, .int .i64 t216], ng229⟩, ⟨g228, [.int .i64 t216], 1⟩, ⟨b227, [.int .i64 t216, .int .i64 t217], 2⟩, ⟨g225, [.int .i64 t215], 1⟩, ⟨g223, [.int .i64 t214], 1⟩, ⟨b222, [.int .i64 t214, .int .i64 t215], 2⟩, ⟨N221, [.int .i64 t213, .int .i64 t214, .int .i64 t215, .int .i64 t216, .int .i64 t217, .int .i64 t218, .int .i64 t219], 7⟩, ⟨b210, [.int .i64 0, .int .i64 0], 2⟩, ⟨b209, [.int .i64 3, .int .i64 s1_1, .int .i64 s1_2, .int .i64 s1_3, .int .i64 s1_4, .int .i64 s1_5, .int .i64 s1_6], 7⟩, ⟨b208, [.int .i64 a0_0, .int .i64 a0_1], 2⟩] : List Own) := by
          exact hqf 0 [2, 3, 8, 9, 10, 12, 20, 21, 22, 26] _ _ _ [(2, .int .i64 0), (3, .int .i64 n3), (8, .pointer (some ⟨b210, 0, none⟩)), (9, .slice (some ⟨g229, 0, none⟩) 3 (ng229 / 1)), (10, .slice (some ⟨g231, 0, none⟩) 3 (ng231 / 1)), (12, .pointer (some ⟨b232, 0, none⟩)), (20, .slice (some ⟨N221, 1, none⟩) 3 3), (21, .int .i64 3), (22, .int .i64 2), (26, .slice (some ⟨g229, 0, none⟩) 3 (ng229 / 1))] (by kernel_rfl) (by kernel_rfl) hg_1
        exact hg_0
      have hg_7ff : ∀ (g231 ng231 g230 g229 ng229 g228 : Nat), G [true, true, true, true, true, true, true, true, true, true, true, false] [(2, .int .i64 0), (3, .int .i64 n3), (8, .pointer (some ⟨b210, 0, none⟩)), (9, .slice (some ⟨g229, 0, none⟩) 3 (ng229 / 1)), (10, .slice (some ⟨g226, 0, none⟩) 2 (ng226 / 1)), (20, .slice (some ⟨N221, 1, none⟩) 3 3), (21, .int .i64 3), (22, .int .i64 1), (35, .slice (some ⟨g231, 0, none⟩) 3 (ng231 / 1))] ([⟨g231, [.int .i64 a0_1, .int .i64 t215, .int .i64 t217], ng231⟩, ⟨g230, [.int .i64 t217], 1⟩, ⟨g229, [.int .i64 a0_0, .int .i64 t214, .int .i64 t216], ng229⟩, ⟨g228, [.int .i64 t216], 1⟩, ⟨b227, [.int .i64 t216, .int .i64 t217], 2⟩, ⟨g225, [.int .i64 t215], 1⟩, ⟨g223, [.int .i64 t214], 1⟩, ⟨b222, [.int .i64 t214, .int .i64 t215], 2⟩, ⟨N221, [.int .i64 t213, .int .i64 t214, .int .i64 t215, .int .i64 t216, .int .i64 t217, .int .i64 t218, .int .i64 t219], 7⟩, ⟨b210, [.int .i64 0, .int .i64 0], 2⟩, ⟨b209, [.int .i64 3, .int .i64 s1_1, .int .i64 s1_2, .int .i64 s1_3, .int .i64 s1_4, .int .i64 s1_5, .int .i64 s1_6], 7⟩, ⟨b208, [.int .i64 a0_0, .int .i64 a0_1], 2⟩] : List Own) := by
        intro g231 ng231 g230 g229 ng229 g228
        exact hqf 11 [2, 3, 8, 9, 10, 20, 21, 22] _ _ _ [(2, .int .i64 0), (3, .int .i64 n3), (8, .pointer (some ⟨b210, 0, none⟩)), (9, .slice (some ⟨g229, 0, none⟩) 3 (ng229 / 1)), (10, .slice (some ⟨g231, 0, none⟩) 3 (ng231 / 1)), (20, .slice (some ⟨N221, 1, none⟩) 3 3), (21, .int .i64 3), (22, .int .i64 1)] (by kernel_rfl) (by kernel_rfl) (hg_fff g231 ng231 g230 g229 ng229 g228)
      have hg_3ff : ∀ (g231 ng231 g230 g229 ng229 g228 : Nat), G [true, true, true, true, true, true, true, true, true, true, false, false] [(2, .int .i64 0), (3, .int .i64 n3), (8, .pointer (some ⟨b210, 0, none⟩)), (9, .slice (some ⟨g224, 0, none⟩) 2 (ng224 / 1)), (10, .slice (some ⟨g226, 0, none⟩) 2 (ng226 / 1)), (20, .slice (some ⟨N221, 1, none⟩) 3 3), (21, .int .i64 3), (22, .int .i64 1), (30, .slice (some ⟨g229, 0, none⟩) 3 (ng229 / 1)), (35, .slice (some ⟨g231, 0, none⟩) 3 (ng231 / 1))] ([⟨g231, [.int .i64 a0_1, .int .i64 t215, .int .i64 t217], ng231⟩, ⟨g230, [.int .i64 t217], 1⟩, ⟨g229, [.int .i64 a0_0, .int .i64 t214, .int .i64 t216], ng229⟩, ⟨g228, [.int .i64 t216], 1⟩, ⟨b227, [.int .i64 t216, .int .i64 t217], 2⟩, ⟨g225, [.int .i64 t215], 1⟩, ⟨g223, [.int .i64 t214], 1⟩, ⟨b222, [.int .i64 t214, .int .i64 t215], 2⟩, ⟨N221, [.int .i64 t213, .int .i64 t214, .int .i64 t215, .int .i64 t216, .int .i64 t217, .int .i64 t218, .int .i64 t219], 7⟩, ⟨b210, [.int .i64 0, .int .i64 0], 2⟩, ⟨b209, [.int .i64 3, .int .i64 s1_1, .int .i64 s1_2, .int .i64 s1_3, .int .i64 s1_4, .int .i64 s1_5, .int .i64 s1_6], 7⟩, ⟨b208, [.int .i64 a0_0, .int .i64 a0_1], 2⟩] : List Own) := by
        intro g231 ng231 g230 g229 ng229 g228
        exact hqf 10 [2, 3, 8, 9, 10, 20, 21, 22, 35] _ _ _ [(2, .int .i64 0), (3, .int .i64 n3), (8, .pointer (some ⟨b210, 0, none⟩)), (9, .slice (some ⟨g229, 0, none⟩) 3 (ng229 / 1)), (10, .slice (some ⟨g226, 0, none⟩) 2 (ng226 / 1)), (20, .slice (some ⟨N221, 1, none⟩) 3 3), (21, .int .i64 3), (22, .int .i64 1), (35, .slice (some ⟨g231, 0, none⟩) 3 (ng231 / 1))] (by kernel_rfl) (by kernel_rfl) (hg_7ff g231 ng231 g230 g229 ng229 g228)
      have hg_1ff : ∀ (g230 g229 ng229 g228 : Nat), G [true, true, true, true, true, true, true, true, true, false, false, false] [(2, .int .i64 0), (3, .int .i64 n3), (8, .pointer (some ⟨b210, 0, none⟩)), (9, .slice (some ⟨g224, 0, none⟩) 2 (ng224 / 1)), (10, .slice (some ⟨g226, 0, none⟩) 2 (ng226 / 1)), (20, .slice (some ⟨N221, 1, none⟩) 3 3), (21, .int .i64 3), (22, .int .i64 1), (30, .slice (some ⟨g229, 0, none⟩) 3 (ng229 / 1)), (31, .slice (some ⟨g226, 0, none⟩) 2 (ng226 / 1)), (34, .slice (some ⟨g230, 0, none⟩) 1 1)] ([⟨g230, [.int .i64 t217], 1⟩, ⟨g229, [.int .i64 a0_0, .int .i64 t214, .int .i64 t216], ng229⟩, ⟨g228, [.int .i64 t216], 1⟩, ⟨b227, [.int .i64 t216, .int .i64 t217], 2⟩, ⟨g226, [.int .i64 a0_1, .int .i64 t215], ng226⟩, ⟨g225, [.int .i64 t215], 1⟩, ⟨g223, [.int .i64 t214], 1⟩, ⟨b222, [.int .i64 t214, .int .i64 t215], 2⟩, ⟨N221, [.int .i64 t213, .int .i64 t214, .int .i64 t215, .int .i64 t216, .int .i64 t217, .int .i64 t218, .int .i64 t219], 7⟩, ⟨b210, [.int .i64 0, .int .i64 0], 2⟩, ⟨b209, [.int .i64 3, .int .i64 s1_1, .int .i64 s1_2, .int .i64 s1_3, .int .i64 s1_4, .int .i64 s1_5, .int .i64 s1_6], 7⟩, ⟨b208, [.int .i64 a0_0, .int .i64 a0_1], 2⟩] : List Own) := by
        intro g230 g229 ng229 g228
        refine hstep [9] _ _ _ (by kernel_rfl) (List.cons_ne_nil _ _) ⟨?_, trivial⟩
        · show T _ _ _ _ _ _ _ _
          refine t_app1 (cs := [.int .i64 a0_1, .int .i64 t215]) (M := ng226) (F := ([⟨g230, [.int .i64 t217], 1⟩, ⟨g229, [.int .i64 a0_0, .int .i64 t214, .int .i64 t216], ng229⟩, ⟨g228, [.int .i64 t216], 1⟩, ⟨b227, [.int .i64 t216, .int .i64 t217], 2⟩, ⟨g225, [.int .i64 t215], 1⟩, ⟨g223, [.int .i64 t214], 1⟩, ⟨b222, [.int .i64 t214, .int .i64 t215], 2⟩, ⟨N221, [.int .i64 t213, .int .i64 t214, .int .i64 t215, .int .i64 t216, .int .i64 t217, .int .i64 t218, .int .i64 t219], 7⟩, ⟨b210, [.int .i64 0, .int .i64 0], 2⟩, ⟨b209, [.int .i64 3, .int .i64 s1_1, .int .i64 s1_2, .int .i64 s1_3, .int .i64 s1_4, .int .i64 s1_5, .int .i64 s1_6], 7⟩, ⟨b208, [.int .i64 a0_0, .int .i64 a0_1], 2⟩] : List Own)) (news := [.int .i64 t217]) rfl rfl rfl rfl (sel_perm (is := [4]) (by kernel_rfl)) (.at 0 rfl rfl) (by kernel_rfl) rfl rfl (by decide) (by decide) rfl fun g231 ng231 => ?_
          refine t_keep [2, 3, 8, 9, 10, 20, 21, 22, 30, 35] (σ' := [(2, .int .i64 0), (3, .int .i64 n3), (8, .pointer (some ⟨b210, 0, none⟩)), (9, .slice (some ⟨g224, 0, none⟩) 2 (ng224 / 1)), (10, .slice (some ⟨g226, 0, none⟩) 2 (ng226 / 1)), (20, .slice (some ⟨N221, 1, none⟩) 3 3), (21, .int .i64 3), (22, .int .i64 1), (30, .slice (some ⟨g229, 0, none⟩) 3 (ng229 / 1)), (35, .slice (some ⟨g231, 0, none⟩) 3 (ng231 / 1))]) (by kernel_rfl) ?_
          refine t_end ?_
          exact ⟨hg_3ff g231 ng231 g230 g229 ng229 g228, rfl⟩
      have hg_ff : ∀ (g229 ng229 g228 : Nat), G [true, true, true, true, true, true, true, true, false, false, false, false] [(2, .int .i64 0), (3, .int .i64 n3), (8, .pointer (some ⟨b210, 0, none⟩)), (9, .slice (some ⟨g224, 0, none⟩) 2 (ng224 / 1)), (10, .slice (some ⟨g226, 0, none⟩) 2 (ng226 / 1)), (20, .slice (some ⟨N221, 1, none⟩) 3 3), (21, .int .i64 3), (22, .int .i64 1), (30, .slice (some ⟨g229, 0, none⟩) 3 (ng229 / 1)), (31, .slice (some ⟨g226, 0, none⟩) 2 (ng226 / 1)), (33, .int .i64 t217)] ([⟨g229, [.int .i64 a0_0, .int .i64 t214, .int .i64 t216], ng229⟩, ⟨g228, [.int .i64 t216], 1⟩, ⟨b227, [.int .i64 t216, .int .i64 t217], 2⟩, ⟨g226, [.int .i64 a0_1, .int .i64 t215], ng226⟩, ⟨g225, [.int .i64 t215], 1⟩, ⟨g223, [.int .i64 t214], 1⟩, ⟨b222, [.int .i64 t214, .int .i64 t215], 2⟩, ⟨N221, [.int .i64 t213, .int .i64 t214, .int .i64 t215, .int .i64 t216, .int .i64 t217, .int .i64 t218, .int .i64 t219], 7⟩, ⟨b210, [.int .i64 0, .int .i64 0], 2⟩, ⟨b209, [.int .i64 3, .int .i64 s1_1, .int .i64 s1_2, .int .i64 s1_3, .int .i64 s1_4, .int .i64 s1_5, .int .i64 s1_6], 7⟩, ⟨b208, [.int .i64 a0_0, .int .i64 a0_1], 2⟩] : List Own) := by
        intro g229 ng229 g228
        refine hstep [8] _ _ _ (by kernel_rfl) (List.cons_ne_nil _ _) ⟨?_, trivial⟩
        · show T _ _ _ _ _ _ _ _
          refine t_a (.bsl rfl rfl rfl rfl) fun g230 fg230 sg230 => ?_
          refine t_keep [2, 3, 8, 9, 10, 20, 21, 22, 30, 31, 34] (σ' := [(2, .int .i64 0), (3, .int .i64 n3), (8, .pointer (some ⟨b210, 0, none⟩)), (9, .slice (some ⟨g224, 0, none⟩) 2 (ng224 / 1)), (10, .slice (some ⟨g226, 0, none⟩) 2 (ng226 / 1)), (20, .slice (some ⟨N221, 1, none⟩) 3 3), (21, .int .i64 3), (22, .int .i64 1), (30, .slice (some ⟨g229, 0, none⟩) 3 (ng229 / 1)), (31, .slice (some ⟨g226, 0, none⟩) 2 (ng226 / 1)), (34, .slice (some ⟨g230, 0, none⟩) 1 1)]) (by kernel_rfl) ?_
          refine t_end ?_
          exact ⟨hg_1ff g230 g229 ng229 g228, rfl⟩
      have hg_1ef : ∀ (g230 g228 : Nat), G [true, true, true, true, false, true, true, true, true, false, false, false] [(2, .int .i64 0), (3, .int .i64 n3), (8, .pointer (some ⟨b210, 0, none⟩)), (9, .slice (some ⟨g224, 0, none⟩) 2 (ng224 / 1)), (10, .slice (some ⟨g226, 0, none⟩) 2 (ng226 / 1)), (20, .slice (some ⟨N221, 1, none⟩) 3 3), (21, .int .i64 3), (22, .int .i64 1), (26, .slice (some ⟨g224, 0, none⟩) 2 (ng224 / 1)), (29, .slice (some ⟨g228, 0, none⟩) 1 1), (31, .slice (some ⟨g226, 0, none⟩) 2 (ng226 / 1)), (34, .slice (some ⟨g230, 0, none⟩) 1 1)] ([⟨g230, [.int .i64 t217], 1⟩, ⟨g228, [.int .i64 t216], 1⟩, ⟨b227, [.int .i64 t216, .int .i64 t217], 2⟩, ⟨g226, [.int .i64 a0_1, .int .i64 t215], ng226⟩, ⟨g225, [.int .i64 t215], 1⟩, ⟨g224, [.int .i64 a0_0, .int .i64 t214], ng224⟩, ⟨g223, [.int .i64 t214], 1⟩, ⟨b222, [.int .i64 t214, .int .i64 t215], 2⟩, ⟨N221, [.int .i64 t213, .int .i64 t214, .int .i64 t215, .int .i64 t216, .int .i64 t217, .int .i64 t218, .int .i64 t219], 7⟩, ⟨b210, [.int .i64 0, .int .i64 0], 2⟩, ⟨b209, [.int .i64 3, .int .i64 s1_1, .int .i64 s1_2, .int .i64 s1_3, .int .i64 s1_4, .int .i64 s1_5, .int .i64 s1_6], 7⟩, ⟨b208, [.int .i64 a0_0, .int .i64 a0_1], 2⟩] : List Own) := by
        intro g230 g228
        refine hstep [4] _ _ _ (by kernel_rfl) (List.cons_ne_nil _ _) ⟨?_, trivial⟩
        · show T _ _ _ _ _ _ _ _
          refine t_app1 (cs := [.int .i64 a0_0, .int .i64 t214]) (M := ng224) (F := ([⟨g230, [.int .i64 t217], 1⟩, ⟨g228, [.int .i64 t216], 1⟩, ⟨b227, [.int .i64 t216, .int .i64 t217], 2⟩, ⟨g226, [.int .i64 a0_1, .int .i64 t215], ng226⟩, ⟨g225, [.int .i64 t215], 1⟩, ⟨g223, [.int .i64 t214], 1⟩, ⟨b222, [.int .i64 t214, .int .i64 t215], 2⟩, ⟨N221, [.int .i64 t213, .int .i64 t214, .int .i64 t215, .int .i64 t216, .int .i64 t217, .int .i64 t218, .int .i64 t219], 7⟩, ⟨b210, [.int .i64 0, .int .i64 0], 2⟩, ⟨b209, [.int .i64 3, .int .i64 s1_1, .int .i64 s1_2, .int .i64 s1_3, .int .i64 s1_4, .int .i64 s1_5, .int .i64 s1_6], 7⟩, ⟨b208, [.int .i64 a0_0, .int .i64 a0_1], 2⟩] : List Own)) (news := [.int .i64 t216]) rfl rfl rfl rfl (sel_perm (is := [5]) (by kernel_rfl)) (.at 1 rfl rfl) (by kernel_rfl) rfl rfl (by decide) (by decide) rfl fun g229 ng229 => ?_
          refine t_keep [2, 3, 8, 9, 10, 20, 21, 22, 30, 31, 34] (σ' := [(2, .int .i64 0), (3, .int .i64 n3), (8, .pointer (some ⟨b210, 0, none⟩)), (9, .slice (some ⟨g224, 0, none⟩) 2 (ng224 / 1)), (10, .slice (some ⟨g226, 0, none⟩) 2 (ng226 / 1)), (20, .slice (some ⟨N221, 1, none⟩) 3 3), (21, .int .i64 3), (22, .int .i64 1), (30, .slice (some ⟨g229, 0, none⟩) 3 (ng229 / 1)), (31, .slice (some ⟨g226, 0, none⟩) 2 (ng226 / 1)), (34, .slice (some ⟨g230, 0, none⟩) 1 1)]) (by kernel_rfl) ?_
          refine t_vs (H' := ([⟨g230, [.int .i64 t217], 1⟩, ⟨g229, [.int .i64 a0_0, .int .i64 t214, .int .i64 t216], ng229⟩, ⟨g228, [.int .i64 t216], 1⟩, ⟨b227, [.int .i64 t216, .int .i64 t217], 2⟩, ⟨g226, [.int .i64 a0_1, .int .i64 t215], ng226⟩, ⟨g225, [.int .i64 t215], 1⟩, ⟨g223, [.int .i64 t214], 1⟩, ⟨b222, [.int .i64 t214, .int .i64 t215], 2⟩, ⟨N221, [.int .i64 t213, .int .i64 t214, .int .i64 t215, .int .i64 t216, .int .i64 t217, .int .i64 t218, .int .i64 t219], 7⟩, ⟨b210, [.int .i64 0, .int .i64 0], 2⟩, ⟨b209, [.int .i64 3, .int .i64 s1_1, .int .i64 s1_2, .int .i64 s1_3, .int .i64 s1_4, .int .i64 s1_5, .int .i64 s1_6], 7⟩, ⟨b208, [.int .i64 a0_0, .int .i64 a0_1], 2⟩] : List Own)) (S' := S) (VS.sel [1, 0, 0, 0, 0, 0, 0, 0, 0, 0, 0, 0] (by kernel_rfl)) ?_
          refine t_end ?_
          exact ⟨hg_1ff g230 g229 ng229 g228, rfl⟩
      have hg_1e7 : ∀ (g230 : Nat), G [true, true, true, false, false, true, true, true, true, false, false, false] [(2, .int .i64 0), (3, .int .i64 n3), (8, .pointer (some ⟨b210, 0, none⟩)), (9, .slice (some ⟨g224, 0, none⟩) 2 (ng224 / 1)), (10, .slice (some ⟨g226, 0, none⟩) 2 (ng226 / 1)), (20, .slice (some ⟨N221, 1, none⟩) 3 3), (21, .int .i64 3), (22, .int .i64 1), (26, .slice (some ⟨g224, 0, none⟩) 2 (ng224 / 1)), (28, .int .i64 t216), (31, .slice (some ⟨g226, 0, none⟩) 2 (ng226 / 1)), (34, .slice (some ⟨g230, 0, none⟩) 1 1)] ([⟨g230, [.int .i64 t217], 1⟩, ⟨b227, [.int .i64 t216, .int .i64 t217], 2⟩, ⟨g226, [.int .i64 a0_1, .int .i64 t215], ng226⟩, ⟨g225, [.int .i64 t215], 1⟩, ⟨g224, [.int .i64 a0_0, .int .i64 t214], ng224⟩, ⟨g223, [.int .i64 t214], 1⟩, ⟨b222, [.int .i64 t214, .int .i64 t215], 2⟩, ⟨N221, [.int .i64 t213, .int .i64 t214, .int .i64 t215, .int .i64 t216, .int .i64 t217, .int .i64 t218, .int .i64 t219], 7⟩, ⟨b210, [.int .i64 0, .int .i64 0], 2⟩, ⟨b209, [.int .i64 3, .int .i64 s1_1, .int .i64 s1_2, .int .i64 s1_3, .int .i64 s1_4, .int .i64 s1_5, .int .i64 s1_6], 7⟩, ⟨b208, [.int .i64 a0_0, .int .i64 a0_1], 2⟩] : List Own) := by
        intro g230
        refine hstep [3] _ _ _ (by kernel_rfl) (List.cons_ne_nil _ _) ⟨?_, trivial⟩
        · show T _ _ _ _ _ _ _ _
          refine t_a (.bsl rfl rfl rfl rfl) fun g228 fg228 sg228 => ?_
          refine t_keep [2, 3, 8, 9, 10, 20, 21, 22, 26, 29, 31, 34] (σ' := [(2, .int .i64 0), (3, .int .i64 n3), (8, .pointer (some ⟨b210, 0, none⟩)), (9, .slice (some ⟨g224, 0, none⟩) 2 (ng224 / 1)), (10, .slice (some ⟨g226, 0, none⟩) 2 (ng226 / 1)), (20, .slice (some ⟨N221, 1, none⟩) 3 3), (21, .int .i64 3), (22, .int .i64 1), (26, .slice (some ⟨g224, 0, none⟩) 2 (ng224 / 1)), (29, .slice (some ⟨g228, 0, none⟩) 1 1), (31, .slice (some ⟨g226, 0, none⟩) 2 (ng226 / 1)), (34, .slice (some ⟨g230, 0, none⟩) 1 1)]) (by kernel_rfl) ?_
          refine t_vs (H' := ([⟨g230, [.int .i64 t217], 1⟩, ⟨g228, [.int .i64 t216], 1⟩, ⟨b227, [.int .i64 t216, .int .i64 t217], 2⟩, ⟨g226, [.int .i64 a0_1, .int .i64 t215], ng226⟩, ⟨g225, [.int .i64 t215], 1⟩, ⟨g224, [.int .i64 a0_0, .int .i64 t214], ng224⟩, ⟨g223, [.int .i64 t214], 1⟩, ⟨b222, [.int .i64 t214, .int .i64 t215], 2⟩, ⟨N221, [.int .i64 t213, .int .i64 t214, .int .i64 t215, .int .i64 t216, .int .i64 t217, .int .i64 t218, .int .i64 t219], 7⟩, ⟨b210, [.int .i64 0, .int .i64 0], 2⟩, ⟨b209, [.int .i64 3, .int .i64 s1_1, .int .i64 s1_2, .int .i64 s1_3, .int .i64 s1_4, .int .i64 s1_5, .int .i64 s1_6], 7⟩, ⟨b208, [.int .i64 a0_0, .int .i64 a0_1], 2⟩] : List Own)) (S' := S) (VS.sel [1, 0, 0, 0, 0, 0, 0, 0, 0, 0, 0, 0] (by kernel_rfl)) ?_
          refine t_end ?_
          exact ⟨hg_1ef g230 g228, rfl⟩
      have hg_ef : ∀ (g228 : Nat), G [true, true, true, true, false, true, true, true, false, false, false, false] [(2, .int .i64 0), (3, .int .i64 n3), (8, .pointer (some ⟨b210, 0, none⟩)), (9, .slice (some ⟨g224, 0, none⟩) 2 (ng224 / 1)), (10, .slice (some ⟨g226, 0, none⟩) 2 (ng226 / 1)), (20, .slice (some ⟨N221, 1, none⟩) 3 3), (21, .int .i64 3), (22, .int .i64 1), (26, .slice (some ⟨g224, 0, none⟩) 2 (ng224 / 1)), (29, .slice (some ⟨g228, 0, none⟩) 1 1), (31, .slice (some ⟨g226, 0, none⟩) 2 (ng226 / 1)), (33, .int .i64 t217)] ([⟨g228, [.int .i64 t216], 1⟩, ⟨b227, [.int .i64 t216, .int .i64 t217], 2⟩, ⟨g226, [.int .i64 a0_1, .int .i64 t215], ng226⟩, ⟨g225, [.int .i64 t215], 1⟩, ⟨g224, [.int .i64 a0_0, .int .i64 t214], ng224⟩, ⟨g223, [.int .i64 t214], 1⟩, ⟨b222, [.int .i64 t214, .int .i64 t215], 2⟩, ⟨N221, [.int .i64 t213, .int .i64 t214, .int .i64 t215, .int .i64 t216, .int .i64 t217, .int .i64 t218, .int .i64 t219], 7⟩, ⟨b210, [.int .i64 0, .int .i64 0], 2⟩, ⟨b209, [.int .i64 3, .int .i64 s1_1, .int .i64 s1_2, .int .i64 s1_3, .int .i64 s1_4, .int .i64 s1_5, .int .i64 s1_6], 7⟩, ⟨b208, [.int .i64 a0_0, .int .i64 a0_1], 2⟩] : List Own) := by
        intro g228
        refine hstep [4, 8] _ _ _ (by kernel_rfl) (List.cons_ne_nil _ _) ⟨?_, ?_, trivial⟩
        · show T _ _ _ _ _ _ _ _
          refine t_app1 (cs := [.int .i64 a0_0, .int .i64 t214]) (M := ng224) (F := ([⟨g228, [.int .i64 t216], 1⟩, ⟨b227, [.int .i64 t216, .int .i64 t217], 2⟩, ⟨g226, [.int .i64 a0_1, .int .i64 t215], ng226⟩, ⟨g225, [.int .i64 t215], 1⟩, ⟨g223, [.int .i64 t214], 1⟩, ⟨b222, [.int .i64 t214, .int .i64 t215], 2⟩, ⟨N221, [.int .i64 t213, .int .i64 t214, .int .i64 t215, .int .i64 t216, .int .i64 t217, .int .i64 t218, .int .i64 t219], 7⟩, ⟨b210, [.int .i64 0, .int .i64 0], 2⟩, ⟨b209, [.int .i64 3, .int .i64 s1_1, .int .i64 s1_2, .int .i64 s1_3, .int .i64 s1_4, .int .i64 s1_5, .int .i64 s1_6], 7⟩, ⟨b208, [.int .i64 a0_0, .int .i64 a0_1], 2⟩] : List Own)) (news := [.int .i64 t216]) rfl rfl rfl rfl (sel_perm (is := [4]) (by kernel_rfl)) (.at 0 rfl rfl) (by kernel_rfl) rfl rfl (by decide) (by decide) rfl fun g229 ng229 => ?_
          refine t_keep [2, 3, 8, 9, 10, 20, 21, 22, 30, 31, 33] (σ' := [(2, .int .i64 0), (3, .int .i64 n3), (8, .pointer (some ⟨b210, 0, none⟩)), (9, .slice (some ⟨g224, 0, none⟩) 2 (ng224 / 1)), (10, .slice (some ⟨g226, 0, none⟩) 2 (ng226 / 1)), (20, .slice (some ⟨N221, 1, none⟩) 3 3), (21, .int .i64 3), (22, .int .i64 1), (30, .slice (some ⟨g229, 0, none⟩) 3 (ng229 / 1)), (31, .slice (some ⟨g226, 0, none⟩) 2 (ng226 / 1)), (33, .int .i64 t217)]) (by kernel_rfl) ?_
          refine t_end ?_
          exact ⟨hg_ff g229 ng229 g228, rfl⟩
        · show T _ _ _ _ _ _ _ _
          refine t_a (.bsl rfl rfl rfl rfl) fun g230 fg230 sg230 => ?_
          refine t_keep [2, 3, 8, 9, 10, 20, 21, 22, 26, 29, 31, 34] (σ' := [(2, .int .i64 0), (3, .int .i64 n3), (8, .pointer (some ⟨b210, 0, none⟩)), (9, .slice (some ⟨g224, 0, none⟩) 2 (ng224 / 1)), (10, .slice (some ⟨g226, 0, none⟩) 2 (ng226 / 1)), (20, .slice (some ⟨N221, 1, none⟩) 3 3), (21, .int .i64 3), (22, .int .i64 1), (26, .slice (some ⟨g224, 0, none⟩) 2 (ng224 / 1)), (29, .slice (some ⟨g228, 0, none⟩) 1 1), (31, .slice (some ⟨g226, 0, none⟩) 2 (ng226 / 1)), (34, .slice (some ⟨g230, 0, none⟩) 1 1)]) (by kernel_rfl) ?_
          refine t_end ?_
          exact ⟨hg_1ef g230 g228, rfl⟩
      have hg_7f : ∀ (g229 ng229 g228 : Nat), G [true, true, true, true, true, true, true, false, false, false, false, false] [(2, .int .i64 0), (3, .int .i64 n3), (8, .pointer (some ⟨b210, 0, none⟩)), (9, .slice (some ⟨g224, 0, none⟩) 2 (ng224 / 1)), (10, .slice (some ⟨g226, 0, none⟩) 2 (ng226 / 1)), (20, .slice (some ⟨N221, 1, none⟩) 3 3), (21, .int .i64 3), (22, .int .i64 1), (30, .slice (some ⟨g229, 0, none⟩) 3 (ng229 / 1)), (31, .slice (some ⟨g226, 0, none⟩) 2 (ng226 / 1)), (32, .pointer (some ⟨b227, 1, none⟩))] ([⟨g229, [.int .i64 a0_0, .int .i64 t214, .int .i64 t216], ng229⟩, ⟨g228, [.int .i64 t216], 1⟩, ⟨b227, [.int .i64 t216, .int .i64 t217], 2⟩, ⟨g226, [.int .i64 a0_1, .int .i64 t215], ng226⟩, ⟨g225, [.int .i64 t215], 1⟩, ⟨g223, [.int .i64 t214], 1⟩, ⟨b222, [.int .i64 t214, .int .i64 t215], 2⟩, ⟨N221, [.int .i64 t213, .int .i64 t214, .int .i64 t215, .int .i64 t216, .int .i64 t217, .int .i64 t218, .int .i64 t219], 7⟩, ⟨b210, [.int .i64 0, .int .i64 0], 2⟩, ⟨b209, [.int .i64 3, .int .i64 s1_1, .int .i64 s1_2, .int .i64 s1_3, .int .i64 s1_4, .int .i64 s1_5, .int .i64 s1_6], 7⟩, ⟨b208, [.int .i64 a0_0, .int .i64 a0_1], 2⟩] : List Own) := by
        intro g229 ng229 g228
        refine hstep [7] _ _ _ (by kernel_rfl) (List.cons_ne_nil _ _) ⟨?_, trivial⟩
        · show T _ _ _ _ _ _ _ _
          refine t_v (.ld1 rfl rfl rfl (.at 2 rfl rfl)) ?_
          refine t_keep [2, 3, 8, 9, 10, 20, 21, 22, 30, 31, 33] (σ' := [(2, .int .i64 0), (3, .int .i64 n3), (8, .pointer (some ⟨b210, 0, none⟩)), (9, .slice (some ⟨g224, 0, none⟩) 2 (ng224 / 1)), (10, .slice (some ⟨g226, 0, none⟩) 2 (ng226 / 1)), (20, .slice (some ⟨N221, 1, none⟩) 3 3), (21, .int .i64 3), (22, .int .i64 1), (30, .slice (some ⟨g229, 0, none⟩) 3 (ng229 / 1)), (31, .slice (some ⟨g226, 0, none⟩) 2 (ng226 / 1)), (33, .int .i64 t217)]) (by kernel_rfl) ?_
          refine t_end ?_
          exact ⟨hg_ff g229 ng229 g228, rfl⟩
      have hg_1e3 : ∀ (g230 : Nat), G [true, true, false, false, false, true, true, true, true, false, false, false] [(2, .int .i64 0), (3, .int .i64 n3), (8, .pointer (some ⟨b210, 0, none⟩)), (9, .slice (some ⟨g224, 0, none⟩) 2 (ng224 / 1)), (10, .slice (some ⟨g226, 0, none⟩) 2 (ng226 / 1)), (20, .slice (some ⟨N221, 1, none⟩) 3 3), (21, .int .i64 3), (22, .int .i64 1), (26, .slice (some ⟨g224, 0, none⟩) 2 (ng224 / 1)), (27, .pointer (some ⟨b227, 0, none⟩)), (31, .slice (some ⟨g226, 0, none⟩) 2 (ng226 / 1)), (34, .slice (some ⟨g230, 0, none⟩) 1 1)] ([⟨g230, [.int .i64 t217], 1⟩, ⟨b227, [.int .i64 t216, .int .i64 t217], 2⟩, ⟨g226, [.int .i64 a0_1, .int .i64 t215], ng226⟩, ⟨g225, [.int .i64 t215], 1⟩, ⟨g224, [.int .i64 a0_0, .int .i64 t214], ng224⟩, ⟨g223, [.int .i64 t214], 1⟩, ⟨b222, [.int .i64 t214, .int .i64 t215], 2⟩, ⟨N221, [.int .i64 t213, .int .i64 t214, .int .i64 t215, .int .i64 t216, .int .i64 t217, .int .i64 t218, .int .i64 t219], 7⟩, ⟨b210, [.int .i64 0, .int .i64 0], 2⟩, ⟨b209, [.int .i64 3, .int .i64 s1_1, .int .i64 s1_2, .int .i64 s1_3, .int .i64 s1_4, .int .i64 s1_5, .int .i64 s1_6], 7⟩, ⟨b208, [.int .i64 a0_0, .int .i64 a0_1], 2⟩] : List Own) := by
        intro g230
        refine hstep [2] _ _ _ (by kernel_rfl) (List.cons_ne_nil _ _) ⟨?_, trivial⟩
        · show T _ _ _ _ _ _ _ _
          refine t_v (.ld1 rfl rfl rfl (.at 1 rfl rfl)) ?_
          refine t_keep [2, 3, 8, 9, 10, 20, 21, 22, 26, 28, 31, 34] (σ' := [(2, .int .i64 0), (3, .int .i64 n3), (8, .pointer (some ⟨b210, 0, none⟩)), (9, .slice (some ⟨g224, 0, none⟩) 2 (ng224 / 1)), (10, .slice (some ⟨g226, 0, none⟩) 2 (ng226 / 1)), (20, .slice (some ⟨N221, 1, none⟩) 3 3), (21, .int .i64 3), (22, .int .i64 1), (26, .slice (some ⟨g224, 0, none⟩) 2 (ng224 / 1)), (28, .int .i64 t216), (31, .slice (some ⟨g226, 0, none⟩) 2 (ng226 / 1)), (34, .slice (some ⟨g230, 0, none⟩) 1 1)]) (by kernel_rfl) ?_
          refine t_end ?_
          exact ⟨hg_1e7 g230, rfl⟩
      have hg_e7 : G [true, true, true, false, false, true, true, true, false, false, false, false] [(2, .int .i64 0), (3, .int .i64 n3), (8, .pointer (some ⟨b210, 0, none⟩)), (9, .slice (some ⟨g224, 0, none⟩) 2 (ng224 / 1)), (10, .slice (some ⟨g226, 0, none⟩) 2 (ng226 / 1)), (20, .slice (some ⟨N221, 1, none⟩) 3 3), (21, .int .i64 3), (22, .int .i64 1), (26, .slice (some ⟨g224, 0, none⟩) 2 (ng224 / 1)), (28, .int .i64 t216), (31, .slice (some ⟨g226, 0, none⟩) 2 (ng226 / 1)), (33, .int .i64 t217)] ([⟨b227, [.int .i64 t216, .int .i64 t217], 2⟩, ⟨g226, [.int .i64 a0_1, .int .i64 t215], ng226⟩, ⟨g225, [.int .i64 t215], 1⟩, ⟨g224, [.int .i64 a0_0, .int .i64 t214], ng224⟩, ⟨g223, [.int .i64 t214], 1⟩, ⟨b222, [.int .i64 t214, .int .i64 t215], 2⟩, ⟨N221, [.int .i64 t213, .int .i64 t214, .int .i64 t215, .int .i64 t216, .int .i64 t217, .int .i64 t218, .int .i64 t219], 7⟩, ⟨b210, [.int .i64 0, .int .i64 0], 2⟩, ⟨b209, [.int .i64 3, .int .i64 s1_1, .int .i64 s1_2, .int .i64 s1_3, .int .i64 s1_4, .int .i64 s1_5, .int .i64 s1_6], 7⟩, ⟨b208, [.int .i64 a0_0, .int .i64 a0_1], 2⟩] : List Own) := by
        refine hstep [3, 8] _ _ _ (by kernel_rfl) (List.cons_ne_nil _ _) ⟨?_, ?_, trivial⟩
        · show T _ _ _ _ _ _ _ _
          refine t_a (.bsl rfl rfl rfl rfl) fun g228 fg228 sg228 => ?_
          refine t_keep [2, 3, 8, 9, 10, 20, 21, 22, 26, 29, 31, 33] (σ' := [(2, .int .i64 0), (3, .int .i64 n3), (8, .pointer (some ⟨b210, 0, none⟩)), (9, .slice (some ⟨g224, 0, none⟩) 2 (ng224 / 1)), (10, .slice (some ⟨g226, 0, none⟩) 2 (ng226 / 1)), (20, .slice (some ⟨N221, 1, none⟩) 3 3), (21, .int .i64 3), (22, .int .i64 1), (26, .slice (some ⟨g224, 0, none⟩) 2 (ng224 / 1)), (29, .slice (some ⟨g228, 0, none⟩) 1 1), (31, .slice (some ⟨g226, 0, none⟩) 2 (ng226 / 1)), (33, .int .i64 t217)]) (by kernel_rfl) ?_
          refine t_end ?_
          exact ⟨hg_ef g228, rfl⟩
        · show T _ _ _ _ _ _ _ _
          refine t_a (.bsl rfl rfl rfl rfl) fun g230 fg230 sg230 => ?_
          refine t_keep [2, 3, 8, 9, 10, 20, 21, 22, 26, 28, 31, 34] (σ' := [(2, .int .i64 0), (3, .int .i64 n3), (8, .pointer (some ⟨b210, 0, none⟩)), (9, .slice (some ⟨g224, 0, none⟩) 2 (ng224 / 1)), (10, .slice (some ⟨g226, 0, none⟩) 2 (ng226 / 1)), (20, .slice (some ⟨N221, 1, none⟩) 3 3), (21, .int .i64 3), (22, .int .i64 1), (26, .slice (some ⟨g224, 0, none⟩) 2 (ng224 / 1)), (28, .int .i64 t216), (31, .slice (some ⟨g226, 0, none⟩) 2 (ng226 / 1)), (34, .slice (some ⟨g230, 0, none⟩) 1 1)]) (by kernel_rfl) ?_
          refine t_end ?_
          exact ⟨hg_1e7 g230, rfl⟩
      have hg_6f : ∀ (g228 : Nat), G [true, true, true, true, false, true, true, false, false, false, false, false] [(2, .int .i64 0), (3, .int .i64 n3), (8, .pointer (some ⟨b210, 0, none⟩)), (9, .slice (some ⟨g224, 0, none⟩) 2 (ng224 / 1)), (10, .slice (some ⟨g226, 0, none⟩) 2 (ng226 / 1)), (20, .slice (some ⟨N221, 1, none⟩) 3 3), (21, .int .i64 3), (22, .int .i64 1), (26, .slice (some ⟨g224, 0, none⟩) 2 (ng224 / 1)), (29, .slice (some ⟨g228, 0, none⟩) 1 1), (31, .slice (some ⟨g226, 0, none⟩) 2 (ng226 / 1)), (32, .pointer (some ⟨b227, 1, none⟩))] ([⟨g228, [.int .i64 t216], 1⟩, ⟨b227, [.int .i64 t216, .int .i64 t217], 2⟩, ⟨g226, [.int .i64 a0_1, .int .i64 t215], ng226⟩, ⟨g225, [.int .i64 t215], 1⟩, ⟨g224, [.int .i64 a0_0, .int .i64 t214], ng224⟩, ⟨g223, [.int .i64 t214], 1⟩, ⟨b222, [.int .i64 t214, .int .i64 t215], 2⟩, ⟨N221, [.int .i64 t213, .int .i64 t214, .int .i64 t215, .int .i64 t216, .int .i64 t217, .int .i64 t218, .int .i64 t219], 7⟩, ⟨b210, [.int .i64 0, .int .i64 0], 2⟩, ⟨b209, [.int .i64 3, .int .i64 s1_1, .int .i64 s1_2, .int .i64 s1_3, .int .i64 s1_4, .int .i64 s1_5, .int .i64 s1_6], 7⟩, ⟨b208, [.int .i64 a0_0, .int .i64 a0_1], 2⟩] : List Own) := by
        intro g228
        refine hstep [4, 7] _ _ _ (by kernel_rfl) (List.cons_ne_nil _ _) ⟨?_, ?_, trivial⟩
        · show T _ _ _ _ _ _ _ _
          refine t_app1 (cs := [.int .i64 a0_0, .int .i64 t214]) (M := ng224) (F := ([⟨g228, [.int .i64 t216], 1⟩, ⟨b227, [.int .i64 t216, .int .i64 t217], 2⟩, ⟨g226, [.int .i64 a0_1, .int .i64 t215], ng226⟩, ⟨g225, [.int .i64 t215], 1⟩, ⟨g223, [.int .i64 t214], 1⟩, ⟨b222, [.int .i64 t214, .int .i64 t215], 2⟩, ⟨N221, [.int .i64 t213, .int .i64 t214, .int .i64 t215, .int .i64 t216, .int .i64 t217, .int .i64 t218, .int .i64 t219], 7⟩, ⟨b210, [.int .i64 0, .int .i64 0], 2⟩, ⟨b209, [.int .i64 3, .int .i64 s1_1, .int .i64 s1_2, .int .i64 s1_3, .int .i64 s1_4, .int .i64 s1_5, .int .i64 s1_6], 7⟩, ⟨b208, [.int .i64 a0_0, .int .i64 a0_1], 2⟩] : List Own)) (news := [.int .i64 t216]) rfl rfl rfl rfl (sel_perm (is := [4]) (by kernel_rfl)) (.at 0 rfl rfl) (by kernel_rfl) rfl rfl (by decide) (by decide) rfl fun g229 ng229 => ?_
          refine t_keep [2, 3, 8, 9, 10, 20, 21, 22, 30, 31, 32] (σ' := [(2, .int .i64 0), (3, .int .i64 n3), (8, .pointer (some ⟨b210, 0, none⟩)), (9, .slice (some ⟨g224, 0, none⟩) 2 (ng224 / 1)), (10, .slice (some ⟨g226, 0, none⟩) 2 (ng226 / 1)), (20, .slice (some ⟨N221, 1, none⟩) 3 3), (21, .int .i64 3), (22, .int .i64 1), (30, .slice (some ⟨g229, 0, none⟩) 3 (ng229 / 1)), (31, .slice (some ⟨g226, 0, none⟩) 2 (ng226 / 1)), (32, .pointer (some ⟨b227, 1, none⟩))]) (by kernel_rfl) ?_
          refine t_end ?_
          exact ⟨hg_7f g229 ng229 g228, rfl⟩
        · show T _ _ _ _ _ _ _ _
          refine t_v (.ld1 rfl rfl rfl (.at 1 rfl rfl)) ?_
          refine t_keep [2, 3, 8, 9, 10, 20, 21, 22, 26, 29, 31, 33] (σ' := [(2, .int .i64 0), (3, .int .i64 n3), (8, .pointer (some ⟨b210, 0, none⟩)), (9, .slice (some ⟨g224, 0, none⟩) 2 (ng224 / 1)), (10, .slice (some ⟨g226, 0, none⟩) 2 (ng226 / 1)), (20, .slice (some ⟨N221, 1, none⟩) 3 3), (21, .int .i64 3), (22, .int .i64 1), (26, .slice (some ⟨g224, 0, none⟩) 2 (ng224 / 1)), (29, .slice (some ⟨g228, 0, none⟩) 1 1), (31, .slice (some ⟨g226, 0, none⟩) 2 (ng226 / 1)), (33, .int .i64 t217)]) (by kernel_rfl) ?_
          refine t_end ?_
          exact ⟨hg_ef g228, rfl⟩
      have hg_e3 : G [true, true, false, false, false, true, true, true, false, false, false, false] [(2, .int .i64 0), (3, .int .i64 n3), (8, .pointer (some ⟨b210, 0, none⟩)), (9, .slice (some ⟨g224, 0, none⟩) 2 (ng224 / 1)), (10, .slice (some ⟨g226, 0, none⟩) 2 (ng226 / 1)), (20, .slice (some ⟨N221, 1, none⟩) 3 3), (21, .int .i64 3), (22, .int .i64 1), (26, .slice (some ⟨g224, 0, none⟩) 2 (ng224 / 1)), (27, .pointer (some ⟨b227, 0, none⟩)), (31, .slice (some ⟨g226, 0, none⟩) 2 (ng226 / 1)), (33, .int .i64 t217)] ([⟨b227, [.int .i64 t216, .int .i64 t217], 2⟩, ⟨g226, [.int .i64 a0_1, .int .i64 t215], ng226⟩, ⟨g225, [.int .i64 t215], 1⟩, ⟨g224, [.int .i64 a0_0, .int .i64 t214], ng224⟩, ⟨g223, [.int .i64 t214], 1⟩, ⟨b222, [.int .i64 t214, .int .i64 t215], 2⟩, ⟨N221, [.int .i64 t213, .int .i64 t214, .int .i64 t215, .int .i64 t216, .int .i64 t217, .int .i64 t218, .int .i64 t219], 7⟩, ⟨b210, [.int .i64 0, .int .i64 0], 2⟩, ⟨b209, [.int .i64 3, .int .i64 s1_1, .int .i64 s1_2, .int .i64 s1_3, .int .i64 s1_4, .int .i64 s1_5, .int .i64 s1_6], 7⟩, ⟨b208, [.int .i64 a0_0, .int .i64 a0_1], 2⟩] : List Own) := by
        refine hstep [2, 8] _ _ _ (by kernel_rfl) (List.cons_ne_nil _ _) ⟨?_, ?_, trivial⟩
        · show T _ _ _ _ _ _ _ _
          refine t_v (.ld1 rfl rfl rfl (.at 0 rfl rfl)) ?_
          refine t_keep [2, 3, 8, 9, 10, 20, 21, 22, 26, 28, 31, 33] (σ' := [(2, .int .i64 0), (3, .int .i64 n3), (8, .pointer (some ⟨b210, 0, none⟩)), (9, .slice (some ⟨g224, 0, none⟩) 2 (ng224 / 1)), (10, .slice (some ⟨g226, 0, none⟩) 2 (ng226 / 1)), (20, .slice (some ⟨N221, 1, none⟩) 3 3), (21, .int .i64 3), (22, .int .i64 1), (26, .slice (some ⟨g224, 0, none⟩) 2 (ng224 / 1)), (28, .int .i64 t216), (31, .slice (some ⟨g226, 0, none⟩) 2 (ng226 / 1)), (33, .int .i64 t217)]) (by kernel_rfl) ?_
          refine t_end ?_
          exact ⟨hg_e7, rfl⟩
        · show T _ _ _ _ _ _ _ _
          refine t_a (.bsl rfl rfl rfl rfl) fun g230 fg230 sg230 => ?_
          refine t_keep [2, 3, 8, 9, 10, 20, 21, 22, 26, 27, 31, 34] (σ' := [(2, .int .i64 0), (3, .int .i64 n3), (8, .pointer (some ⟨b210, 0, none⟩)), (9, .slice (some ⟨g224, 0, none⟩) 2 (ng224 / 1)), (10, .slice (some ⟨g226, 0, none⟩) 2 (ng226 / 1)), (20, .slice (some ⟨N221, 1, none⟩) 3 3), (21, .int .i64 3), (22, .int .i64 1), (26, .slice (some ⟨g224, 0, none⟩) 2 (ng224 / 1)), (27, .pointer (some ⟨b227, 0, none⟩)), (31, .slice (some ⟨g226, 0, none⟩) 2 (ng226 / 1)), (34, .slice (some ⟨g230, 0, none⟩) 1 1)]) (by kernel_rfl) ?_
          refine t_end ?_
          exact ⟨hg_1e3 g230, rfl⟩
      have hg_67 : G [true, true, true, false, false, true, true, false, false, false, false, false] [(2, .int .i64 0), (3, .int .i64 n3), (8, .pointer (some ⟨b210, 0, none⟩)), (9, .slice (some ⟨g224, 0, none⟩) 2 (ng224 / 1)), (10, .slice (some ⟨g226, 0, none⟩) 2 (ng226 / 1)), (20, .slice (some ⟨N221, 1, none⟩) 3 3), (21, .int .i64 3), (22, .int .i64 1), (26, .slice (some ⟨g224, 0, none⟩) 2 (ng224 / 1)), (28, .int .i64 t216), (31, .slice (some ⟨g226, 0, none⟩) 2 (ng226 / 1)), (32, .pointer (some ⟨b227, 1, none⟩))] ([⟨b227, [.int .i64 t216, .int .i64 t217], 2⟩, ⟨g226, [.int .i64 a0_1, .int .i64 t215], ng226⟩, ⟨g225, [.int .i64 t215], 1⟩, ⟨g224, [.int .i64 a0_0, .int .i64 t214], ng224⟩, ⟨g223, [.int .i64 t214], 1⟩, ⟨b222, [.int .i64 t214, .int .i64 t215], 2⟩, ⟨N221, [.int .i64 t213, .int .i64 t214, .int .i64 t215, .int .i64 t216, .int .i64 t217, .int .i64 t218, .int .i64 t219], 7⟩, ⟨b210, [.int .i64 0, .int .i64 0], 2⟩, ⟨b209, [.int .i64 3, .int .i64 s1_1, .int .i64 s1_2, .int .i64 s1_3, .int .i64 s1_4, .int .i64 s1_5, .int .i64 s1_6], 7⟩, ⟨b208, [.int .i64 a0_0, .int .i64 a0_1], 2⟩] : List Own) := by
        refine hstep [3, 7] _ _ _ (by kernel_rfl) (List.cons_ne_nil _ _) ⟨?_, ?_, trivial⟩
        · show T _ _ _ _ _ _ _ _
          refine t_a (.bsl rfl rfl rfl rfl) fun g228 fg228 sg228 => ?_
          refine t_keep [2, 3, 8, 9, 10, 20, 21, 22, 26, 29, 31, 32] (σ' := [(2, .int .i64 0), (3, .int .i64 n3), (8, .pointer (some ⟨b210, 0, none⟩)), (9, .slice (some ⟨g224, 0, none⟩) 2 (ng224 / 1)), (10, .slice (some ⟨g226, 0, none⟩) 2 (ng226 / 1)), (20, .slice (some ⟨N221, 1, none⟩) 3 3), (21, .int .i64 3), (22, .int .i64 1), (26, .slice (some ⟨g224, 0, none⟩) 2 (ng224 / 1)), (29, .slice (some ⟨g228, 0, none⟩) 1 1), (31, .slice (some ⟨g226, 0, none⟩) 2 (ng226 / 1)), (32, .pointer (some ⟨b227, 1, none⟩))]) (by kernel_rfl) ?_
          refine t_end ?_
          exact ⟨hg_6f g228, rfl⟩
        · show T _ _ _ _ _ _ _ _
          refine t_v (.ld1 rfl rfl rfl (.at 0 rfl rfl)) ?_
          refine t_keep [2, 3, 8, 9, 10, 20, 21, 22, 26, 28, 31, 33] (σ' := [(2, .int .i64 0), (3, .int .i64 n3), (8, .pointer (some ⟨b210, 0, none⟩)), (9, .slice (some ⟨g224, 0, none⟩) 2 (ng224 / 1)), (10, .slice (some ⟨g226, 0, none⟩) 2 (ng226 / 1)), (20, .slice (some ⟨N221, 1, none⟩) 3 3), (21, .int .i64 3), (22, .int .i64 1), (26, .slice (some ⟨g224, 0, none⟩) 2 (ng224 / 1)), (28, .int .i64 t216), (31, .slice (some ⟨g226, 0, none⟩) 2 (ng226 / 1)), (33, .int .i64 t217)]) (by kernel_rfl) ?_
          refine t_end ?_
          exact ⟨hg_e7, rfl⟩
      have hg_63 : G [true, true, false, false, false, true, true, false, false, false, false, false] [(2, .int .i64 0), (3, .int .i64 n3), (8, .pointer (some ⟨b210, 0, none⟩)), (9, .slice (some ⟨g224, 0, none⟩) 2 (ng224 / 1)), (10, .slice (some ⟨g226, 0, none⟩) 2 (ng226 / 1)), (20, .slice (some ⟨N221, 1, none⟩) 3 3), (21, .int .i64 3), (22, .int .i64 1), (26, .slice (some ⟨g224, 0, none⟩) 2 (ng224 / 1)), (27, .pointer (some ⟨b227, 0, none⟩)), (31, .slice (some ⟨g226, 0, none⟩) 2 (ng226 / 1)), (32, .pointer (some ⟨b227, 1, none⟩))] ([⟨b227, [.int .i64 t216, .int .i64 t217], 2⟩, ⟨g226, [.int .i64 a0_1, .int .i64 t215], ng226⟩, ⟨g225, [.int .i64 t215], 1⟩, ⟨g224, [.int .i64 a0_0, .int .i64 t214], ng224⟩, ⟨g223, [.int .i64 t214], 1⟩, ⟨b222, [.int .i64 t214, .int .i64 t215], 2⟩, ⟨N221, [.int .i64 t213, .int .i64 t214, .int .i64 t215, .int .i64 t216, .int .i64 t217, .int .i64 t218, .int .i64 t219], 7⟩, ⟨b210, [.int .i64 0, .int .i64 0], 2⟩, ⟨b209, [.int .i64 3, .int .i64 s1_1, .int .i64 s1_2, .int .i64 s1_3, .int .i64 s1_4, .int .i64 s1_5, .int .i64 s1_6], 7⟩, ⟨b208, [.int .i64 a0_0, .int .i64 a0_1], 2⟩] : List Own) := by
        refine hstep [2, 7] _ _ _ (by kernel_rfl) (List.cons_ne_nil _ _) ⟨?_, ?_, trivial⟩
        · show T _ _ _ _ _ _ _ _
          refine t_v (.ld1 rfl rfl rfl (.at 0 rfl rfl)) ?_
          refine t_keep [2, 3, 8, 9, 10, 20, 21, 22, 26, 28, 31, 32] (σ' := [(2, .int .i64 0), (3, .int .i64 n3), (8, .pointer (some ⟨b210, 0, none⟩)), (9, .slice (some ⟨g224, 0, none⟩) 2 (ng224 / 1)), (10, .slice (some ⟨g226, 0, none⟩) 2 (ng226 / 1)), (20, .slice (some ⟨N221, 1, none⟩) 3 3), (21, .int .i64 3), (22, .int .i64 1), (26, .slice (some ⟨g224, 0, none⟩) 2 (ng224 / 1)), (28, .int .i64 t216), (31, .slice (some ⟨g226, 0, none⟩) 2 (ng226 / 1)), (32, .pointer (some ⟨b227, 1, none⟩))]) (by kernel_rfl) ?_
          refine t_end ?_
          exact ⟨hg_67, rfl⟩
        · show T _ _ _ _ _ _ _ _
          refine t_v (.ld1 rfl rfl rfl (.at 0 rfl rfl)) ?_
          refine t_keep [2, 3, 8, 9, 10, 20, 21, 22, 26, 27, 31, 33] (σ' := [(2, .int .i64 0), (3, .int .i64 n3), (8, .pointer (some ⟨b210, 0, none⟩)), (9, .slice (some ⟨g224, 0, none⟩) 2 (ng224 / 1)), (10, .slice (some ⟨g226, 0, none⟩) 2 (ng226 / 1)), (20, .slice (some ⟨N221, 1, none⟩) 3 3), (21, .int .i64 3), (22, .int .i64 1), (26, .slice (some ⟨g224, 0, none⟩) 2 (ng224 / 1)), (27, .pointer (some ⟨b227, 0, none⟩)), (31, .slice (some ⟨g226, 0, none⟩) 2 (ng226 / 1)), (33, .int .i64 t217)]) (by kernel_rfl) ?_
          refine t_end ?_
          exact ⟨hg_e3, rfl⟩
      have hg_23 : G [true, true, false, false, false, true, false, false, false, false, false, false] [(2, .int .i64 0), (3, .int .i64 n3), (8, .pointer (some ⟨b210, 0, none⟩)), (9, .slice (some ⟨g224, 0, none⟩) 2 (ng224 / 1)), (10, .slice (some ⟨g226, 0, none⟩) 2 (ng226 / 1)), (12, .pointer (some ⟨b227, 0, none⟩)), (20, .slice (some ⟨N221, 1, none⟩) 3 3), (21, .int .i64 3), (22, .int .i64 1), (26, .slice (some ⟨g224, 0, none⟩) 2 (ng224 / 1)), (27, .pointer (some ⟨b227, 0, none⟩)), (31, .slice (some ⟨g226, 0, none⟩) 2 (ng226 / 1))] ([⟨b227, [.int .i64 t216, .int .i64 t217], 2⟩, ⟨g226, [.int .i64 a0_1, .int .i64 t215], ng226⟩, ⟨g225, [.int .i64 t215], 1⟩, ⟨g224, [.int .i64 a0_0, .int .i64 t214], ng224⟩, ⟨g223, [.int .i64 t214], 1⟩, ⟨b222, [.int .i64 t214, .int .i64 t215], 2⟩, ⟨N221, [.int .i64 t213, .int .i64 t214, .int .i64 t215, .int .i64 t216, .int .i64 t217, .int .i64 t218, .int .i64 t219], 7⟩, ⟨b210, [.int .i64 0, .int .i64 0], 2⟩, ⟨b209, [.int .i64 3, .int .i64 s1_1, .int .i64 s1_2, .int .i64 s1_3, .int .i64 s1_4, .int .i64 s1_5, .int .i64 s1_6], 7⟩, ⟨b208, [.int .i64 a0_0, .int .i64 a0_1], 2⟩] : List Own) := by
        exact hqf 6 [2, 3, 8, 9, 10, 20, 21, 22, 26, 27, 31, 32] _ _ _ [(2, .int .i64 0), (3, .int .i64 n3), (8, .pointer (some ⟨b210, 0, none⟩)), (9, .slice (some ⟨g224, 0, none⟩) 2 (ng224 / 1)), (10, .slice (some ⟨g226, 0, none⟩) 2 (ng226 / 1)), (20, .slice (some ⟨N221, 1, none⟩) 3 3), (21, .int .i64 3), (22, .int .i64 1), (26, .slice (some ⟨g224, 0, none⟩) 2 (ng224 / 1)), (27, .pointer (some ⟨b227, 0, none⟩)), (31, .slice (some ⟨g226, 0, none⟩) 2 (ng226 / 1)), (32, .pointer (some ⟨b227, 1, none⟩))] (by kernel_rfl) (by kernel_rfl) hg_63
      have hg_3 : G [true, true, false, false, false, false, false, false, false, false, false, false] [(2, .int .i64 0), (3, .int .i64 n3), (8, .pointer (some ⟨b210, 0, none⟩)), (9, .slice (some ⟨g224, 0, none⟩) 2 (ng224 / 1)), (10, .slice (some ⟨g226, 0, none⟩) 2 (ng226 / 1)), (12, .pointer (some ⟨b227, 0, none⟩)), (20, .slice (some ⟨N221, 1, none⟩) 3 3), (21, .int .i64 3), (22, .int .i64 1), (26, .slice (some ⟨g224, 0, none⟩) 2 (ng224 / 1)), (27, .pointer (some ⟨b227, 0, none⟩))] ([⟨b227, [.int .i64 t216, .int .i64 t217], 2⟩, ⟨g226, [.int .i64 a0_1, .int .i64 t215], ng226⟩, ⟨g225, [.int .i64 t215], 1⟩, ⟨g224, [.int .i64 a0_0, .int .i64 t214], ng224⟩, ⟨g223, [.int .i64 t214], 1⟩, ⟨b222, [.int .i64 t214, .int .i64 t215], 2⟩, ⟨N221, [.int .i64 t213, .int .i64 t214, .int .i64 t215, .int .i64 t216, .int .i64 t217, .int .i64 t218, .int .i64 t219], 7⟩, ⟨b210, [.int .i64 0, .int .i64 0], 2⟩, ⟨b209, [.int .i64 3, .int .i64 s1_1, .int .i64 s1_2, .int .i64 s1_3, .int .i64 s1_4, .int .i64 s1_5, .int .i64 s1_6], 7⟩, ⟨b208, [.int .i64 a0_0, .int .i64 a0_1], 2⟩] : List Own) := by
        exact hqf 5 [2, 3, 8, 9, 10, 12, 20, 21, 22, 26, 27, 31] _ _ _ [(2, .int .i64 0), (3, .int .i64 n3), (8, .pointer (some ⟨b210, 0, none⟩)), (9, .slice (some ⟨g224, 0, none⟩) 2 (ng224 / 1)), (10, .slice (some ⟨g226, 0, none⟩) 2 (ng226 / 1)), (12, .pointer (some ⟨b227, 0, none⟩)), (20, .slice (some ⟨N221, 1, none⟩) 3 3), (21, .int .i64 3), (22, .int .i64 1), (26, .slice (some ⟨g224, 0, none⟩) 2 (ng224 / 1)), (27, .pointer (some ⟨b227, 0, none⟩)), (31, .slice (some ⟨g226, 0, none⟩) 2 (ng226 / 1))] (by kernel_rfl) (by kernel_rfl) hg_23
      have hg_1 : G [true, false, false, false, false, false, false, false, false, false, false, false] [(2, .int .i64 0), (3, .int .i64 n3), (8, .pointer (some ⟨b210, 0, none⟩)), (9, .slice (some ⟨g224, 0, none⟩) 2 (ng224 / 1)), (10, .slice (some ⟨g226, 0, none⟩) 2 (ng226 / 1)), (12, .pointer (some ⟨b227, 0, none⟩)), (20, .slice (some ⟨N221, 1, none⟩) 3 3), (21, .int .i64 3), (22, .int .i64 1), (26, .slice (some ⟨g224, 0, none⟩) 2 (ng224 / 1))] ([⟨b227, [.int .i64 t216, .int .i64 t217], 2⟩, ⟨g226, [.int .i64 a0_1, .int .i64 t215], ng226⟩, ⟨g225, [.int .i64 t215], 1⟩, ⟨g224, [.int .i64 a0_0, .int .i64 t214], ng224⟩, ⟨g223, [.int .i64 t214], 1⟩, ⟨b222, [.int .i64 t214, .int .i64 t215], 2⟩, ⟨N221, [.int .i64 t213, .int .i64 t214, .int .i64 t215, .int .i64 t216, .int .i64 t217, .int .i64 t218, .int .i64 t219], 7⟩, ⟨b210, [.int .i64 0, .int .i64 0], 2⟩, ⟨b209, [.int .i64 3, .int .i64 s1_1, .int .i64 s1_2, .int .i64 s1_3, .int .i64 s1_4, .int .i64 s1_5, .int .i64 s1_6], 7⟩, ⟨b208, [.int .i64 a0_0, .int .i64 a0_1], 2⟩] : List Own) := by
        exact hqf 1 [2, 3, 8, 9, 10, 12, 20, 21, 22, 26, 27] _ _ _ [(2, .int .i64 0), (3, .int .i64 n3), (8, .pointer (some ⟨b210, 0, none⟩)), (9, .slice (some ⟨g224, 0, none⟩) 2 (ng224 / 1)), (10, .slice (some ⟨g226, 0, none⟩) 2 (ng226 / 1)), (12, .pointer (some ⟨b227, 0, none⟩)), (20, .slice (some ⟨N221, 1, none⟩) 3 3), (21, .int .i64 3), (22, .int .i64 1), (26, .slice (some ⟨g224, 0, none⟩) 2 (ng224 / 1)), (27, .pointer (some ⟨b227, 0, none⟩))] (by kernel_rfl) (by kernel_rfl) hg_3
      have hg_0 : G [false, false, false, false, false, false, false, false, false, false, false, false] [(2, .int .i64 0), (3, .int .i64 n3), (8, .pointer (some ⟨b210, 0, none⟩)), (9, .slice (some ⟨g224, 0, none⟩) 2 (ng224 / 1)), (10, .slice (some ⟨g226, 0, none⟩) 2 (ng226 / 1)), (12, .pointer (some ⟨b227, 0, none⟩)), (20, .slice (some ⟨N221, 1, none⟩) 3 3), (21, .int .i64 3), (22, .int .i64 1)] ([⟨b227, [.int .i64 t216, .int .i64 t217], 2⟩, ⟨g226, [.int .i64 a0_1, .int .i64 t215], ng226⟩, ⟨g225, [.int .i64 t215], 1⟩, ⟨g224, [.int .i64 a0_0, .int .i64 t214], ng224⟩, ⟨g223, [.int .i64 t214], 1⟩, ⟨b222, [.int .i64 t214, .int .i64 t215], 2⟩, ⟨N221, [.int .i64 t213, .int .i64 t214, .int .i64 t215, .int .i64 t216, .int .i64 t217, .int .i64 t218, .int .i64 t219], 7⟩, ⟨b210, [.int .i64 0, .int .i64 0], 2⟩, ⟨b209, [.int .i64 3, .int .i64 s1_1, .int .i64 s1_2, .int .i64 s1_3, .int .i64 s1_4, .int .i64 s1_5, .int .i64 s1_6], 7⟩, ⟨b208, [.int .i64 a0_0, .int .i64 a0_1], 2⟩] : List Own) := by
        exact hqf 0 [2, 3, 8, 9, 10, 12, 20, 21, 22, 26] _ _ _ [(2, .int .i64 0), (3, .int .i64 n3), (8, .pointer (some ⟨b210, 0, none⟩)), (9, .slice (some ⟨g224, 0, none⟩) 2 (ng224 / 1)), (10, .slice (some ⟨g226, 0, none⟩) 2 (ng226 / 1)), (12, .pointer (some ⟨b227, 0, none⟩)), (20, .slice (some ⟨N221, 1, none⟩) 3 3), (21, .int .i64 3), (22, .int .i64 1), (26, .slice (some ⟨g224, 0, none⟩) 2 (ng224 / 1))] (by kernel_rfl) (by kernel_rfl) hg_1
      exact hg_0
    have hg_7ff : ∀ (g226 ng226 g225 g224 ng224 g223 : Nat), G [true, true, true, true, true, true, true, true, true, true, true, false] [(2, .int .i64 0), (3, .int .i64 n3), (8, .pointer (some ⟨b210, 0, none⟩)), (9, .slice (some ⟨g224, 0, none⟩) 2 (ng224 / 1)), (10, .slice (some ⟨g212, 0, none⟩) 1 1), (20, .slice (some ⟨N221, 1, none⟩) 3 3), (21, .int .i64 3), (22, .int .i64 0), (35, .slice (some ⟨g226, 0, none⟩) 2 (ng226 / 1))] ([⟨g226, [.int .i64 a0_1, .int .i64 t215], ng226⟩, ⟨g225, [.int .i64 t215], 1⟩, ⟨g224, [.int .i64 a0_0, .int .i64 t214], ng224⟩, ⟨g223, [.int .i64 t214], 1⟩, ⟨b222, [.int .i64 t214, .int .i64 t215], 2⟩, ⟨N221, [.int .i64 t213, .int .i64 t214, .int .i64 t215, .int .i64 t216, .int .i64 t217, .int .i64 t218, .int .i64 t219], 7⟩, ⟨b210, [.int .i64 0, .int .i64 0], 2⟩, ⟨b209, [.int .i64 3, .int .i64 s1_1, .int .i64 s1_2, .int .i64 s1_3, .int .i64 s1_4, .int .i64 s1_5, .int .i64 s1_6], 7⟩, ⟨b208, [.int .i64 a0_0, .int .i64 a0_1], 2⟩] : List Own) := by
      intro g226 ng226 g225 g224 ng224 g223
      exact hqf 11 [2, 3, 8, 9, 10, 20, 21, 22] _ _ _ [(2, .int .i64 0), (3, .int .i64 n3), (8, .pointer (some ⟨b210, 0, none⟩)), (9, .slice (some ⟨g224, 0, none⟩) 2 (ng224 / 1)), (10, .slice (some ⟨g226, 0, none⟩) 2 (ng226 / 1)), (20, .slice (some ⟨N221, 1, none⟩) 3 3), (21, .int .i64 3), (22, .int .i64 0)] (by kernel_rfl) (by kernel_rfl) (hg_fff g226 ng226 g225 g224 ng224 g223)
    have hg_3ff : ∀ (g226 ng226 g225 g224 ng224 g223 : Nat), G [true, true, true, true, true, true, true, true, true, true, false, false] [(2, .int .i64 0), (3, .int .i64 n3), (8, .pointer (some ⟨b210, 0, none⟩)), (9, .slice (some ⟨g211, 0, none⟩) 1 1), (10, .slice (some ⟨g212, 0, none⟩) 1 1), (20, .slice (some ⟨N221, 1, none⟩) 3 3), (21, .int .i64 3), (22, .int .i64 0), (30, .slice (some ⟨g224, 0, none⟩) 2 (ng224 / 1)), (35, .slice (some ⟨g226, 0, none⟩) 2 (ng226 / 1))] ([⟨g226, [.int .i64 a0_1, .int .i64 t215], ng226⟩, ⟨g225, [.int .i64 t215], 1⟩, ⟨g224, [.int .i64 a0_0, .int .i64 t214], ng224⟩, ⟨g223, [.int .i64 t214], 1⟩, ⟨b222, [.int .i64 t214, .int .i64 t215], 2⟩, ⟨N221, [.int .i64 t213, .int .i64 t214, .int .i64 t215, .int .i64 t216, .int .i64 t217, .int .i64 t218, .int .i64 t219], 7⟩, ⟨b210, [.int .i64 0, .int .i64 0], 2⟩, ⟨b209, [.int .i64 3, .int .i64 s1_1, .int .i64 s1_2, .int .i64 s1_3, .int .i64 s1_4, .int .i64 s1_5, .int .i64 s1_6], 7⟩, ⟨b208, [.int .i64 a0_0, .int .i64 a0_1], 2⟩] : List Own) := by
      intro g226 ng226 g225 g224 ng224 g223
      exact hqf 10 [2, 3, 8, 9, 10, 20, 21, 22, 35] _ _ _ [(2, .int .i64 0), (3, .int .i64 n3), (8, .pointer (some ⟨b210, 0, none⟩)), (9, .slice (some ⟨g224, 0, none⟩) 2 (ng224 / 1)), (10, .slice (some ⟨g212, 0, none⟩) 1 1), (20, .slice (some ⟨N221, 1, none⟩) 3 3), (21, .int .i64 3), (22, .int .i64 0), (35, .slice (some ⟨g226, 0, none⟩) 2 (ng226 / 1))] (by kernel_rfl) (by kernel_rfl) (hg_7ff g226 ng226 g225 g224 ng224 g223)
    have hg_1ff : ∀ (g225 g224 ng224 g223 : Nat), G [true, true, true, true, true, true, true, true, true, false, false, false] [(2, .int .i64 0), (3, .int .i64 n3), (8, .pointer (some ⟨b210, 0, none⟩)), (9, .slice (some ⟨g211, 0, none⟩) 1 1), (10, .slice (some ⟨g212, 0, none⟩) 1 1), (20, .slice (some ⟨N221, 1, none⟩) 3 3), (21, .int .i64 3), (22, .int .i64 0), (30, .slice (some ⟨g224, 0, none⟩) 2 (ng224 / 1)), (31, .slice (some ⟨g212, 0, none⟩) 1 1), (34, .slice (some ⟨g225, 0, none⟩) 1 1)] ([⟨g225, [.int .i64 t215], 1⟩, ⟨g224, [.int .i64 a0_0, .int .i64 t214], ng224⟩, ⟨g223, [.int .i64 t214], 1⟩, ⟨b222, [.int .i64 t214, .int .i64 t215], 2⟩, ⟨N221, [.int .i64 t213, .int .i64 t214, .int .i64 t215, .int .i64 t216, .int .i64 t217, .int .i64 t218, .int .i64 t219], 7⟩, ⟨g212, [.int .i64 a0_1], 1⟩, ⟨b210, [.int .i64 0, .int .i64 0], 2⟩, ⟨b209, [.int .i64 3, .int .i64 s1_1, .int .i64 s1_2, .int .i64 s1_3, .int .i64 s1_4, .int .i64 s1_5, .int .i64 s1_6], 7⟩, ⟨b208, [.int .i64 a0_0, .int .i64 a0_1], 2⟩] : List Own) := by
      intro g225 g224 ng224 g223
      refine hstep [9] _ _ _ (by kernel_rfl) (List.cons_ne_nil _ _) ⟨?_, trivial⟩
      · show T _ _ _ _ _ _ _ _
        refine t_app1 (cs := [.int .i64 a0_1]) (M := 1) (F := ([⟨g225, [.int .i64 t215], 1⟩, ⟨g224, [.int .i64 a0_0, .int .i64 t214], ng224⟩, ⟨g223, [.int .i64 t214], 1⟩, ⟨b222, [.int .i64 t214, .int .i64 t215], 2⟩, ⟨N221, [.int .i64 t213, .int .i64 t214, .int .i64 t215, .int .i64 t216, .int .i64 t217, .int .i64 t218, .int .i64 t219], 7⟩, ⟨b210, [.int .i64 0, .int .i64 0], 2⟩, ⟨b209, [.int .i64 3, .int .i64 s1_1, .int .i64 s1_2, .int .i64 s1_3, .int .i64 s1_4, .int .i64 s1_5, .int .i64 s1_6], 7⟩, ⟨b208, [.int .i64 a0_0, .int .i64 a0_1], 2⟩] : List Own)) (news := [.int .i64 t215]) rfl rfl rfl rfl (sel_perm (is := [5]) (by kernel_rfl)) (.at 0 rfl rfl) (by kernel_rfl) rfl rfl (by decide) (by decide) rfl fun g226 ng226 => ?_
        refine t_keep [2, 3, 8, 9, 10, 20, 21, 22, 30, 35] (σ' := [(2, .int .i64 0), (3, .int .i64 n3), (8, .pointer (some ⟨b210, 0, none⟩)), (9, .slice (some ⟨g211, 0, none⟩) 1 1), (10, .slice (some ⟨g212, 0, none⟩) 1 1), (20, .slice (some ⟨N221, 1, none⟩) 3 3), (21, .int .i64 3), (22, .int .i64 0), (30, .slice (some ⟨g224, 0, none⟩) 2 (ng224 / 1)), (35, .slice (some ⟨g226, 0, none⟩) 2 (ng226 / 1))]) (by kernel_rfl) ?_
        refine t_end ?_
        exact ⟨hg_3ff g226 ng226 g225 g224 ng224 g223, rfl⟩
    have hg_ff : ∀ (g224 ng224 g223 : Nat), G [true, true, true, true, true, true, true, true, false, false, false, false] [(2, .int .i64 0), (3, .int .i64 n3), (8, .pointer (some ⟨b210, 0, none⟩)), (9, .slice (some ⟨g211, 0, none⟩) 1 1), (10, .slice (some ⟨g212, 0, none⟩) 1 1), (20, .slice (some ⟨N221, 1, none⟩) 3 3), (21, .int .i64 3), (22, .int .i64 0), (30, .slice (some ⟨g224, 0, none⟩) 2 (ng224 / 1)), (31, .slice (some ⟨g212, 0, none⟩) 1 1), (33, .int .i64 t215)] ([⟨g224, [.int .i64 a0_0, .int .i64 t214], ng224⟩, ⟨g223, [.int .i64 t214], 1⟩, ⟨b222, [.int .i64 t214, .int .i64 t215], 2⟩, ⟨N221, [.int .i64 t213, .int .i64 t214, .int .i64 t215, .int .i64 t216, .int .i64 t217, .int .i64 t218, .int .i64 t219], 7⟩, ⟨g212, [.int .i64 a0_1], 1⟩, ⟨b210, [.int .i64 0, .int .i64 0], 2⟩, ⟨b209, [.int .i64 3, .int .i64 s1_1, .int .i64 s1_2, .int .i64 s1_3, .int .i64 s1_4, .int .i64 s1_5, .int .i64 s1_6], 7⟩, ⟨b208, [.int .i64 a0_0, .int .i64 a0_1], 2⟩] : List Own) := by
      intro g224 ng224 g223
      refine hstep [8] _ _ _ (by kernel_rfl) (List.cons_ne_nil _ _) ⟨?_, trivial⟩
      · show T _ _ _ _ _ _ _ _
        refine t_a (.bsl rfl rfl rfl rfl) fun g225 fg225 sg225 => ?_
        refine t_keep [2, 3, 8, 9, 10, 20, 21, 22, 30, 31, 34] (σ' := [(2, .int .i64 0), (3, .int .i64 n3), (8, .pointer (some ⟨b210, 0, none⟩)), (9, .slice (some ⟨g211, 0, none⟩) 1 1), (10, .slice (some ⟨g212, 0, none⟩) 1 1), (20, .slice (some ⟨N221, 1, none⟩) 3 3), (21, .int .i64 3), (22, .int .i64 0), (30, .slice (some ⟨g224, 0, none⟩) 2 (ng224 / 1)), (31, .slice (some ⟨g212, 0, none⟩) 1 1), (34, .slice (some ⟨g225, 0, none⟩) 1 1)]) (by kernel_rfl) ?_
        refine t_end ?_
        exact ⟨hg_1ff g225 g224 ng224 g223, rfl⟩
    have hg_1ef : ∀ (g225 g223 : Nat), G [true, true, true, true, false, true, true, true, true, false, false, false] [(2, .int .i64 0), (3, .int .i64 n3), (8, .pointer (some ⟨b210, 0, none⟩)), (9, .slice (some ⟨g211, 0, none⟩) 1 1), (10, .slice (some ⟨g212, 0, none⟩) 1 1), (20, .slice (some ⟨N221, 1, none⟩) 3 3), (21, .int .i64 3), (22, .int .i64 0), (26, .slice (some ⟨g211, 0, none⟩) 1 1), (29, .slice (some ⟨g223, 0, none⟩) 1 1), (31, .slice (some ⟨g212, 0, none⟩) 1 1), (34, .slice (some ⟨g225, 0, none⟩) 1 1)] ([⟨g225, [.int .i64 t215], 1⟩, ⟨g223, [.int .i64 t214], 1⟩, ⟨b222, [.int .i64 t214, .int .i64 t215], 2⟩, ⟨N221, [.int .i64 t213, .int .i64 t214, .int .i64 t215, .int .i64 t216, .int .i64 t217, .int .i64 t218, .int .i64 t219], 7⟩, ⟨g212, [.int .i64 a0_1], 1⟩, ⟨g211, [.int .i64 a0_0], 1⟩, ⟨b210, [.int .i64 0, .int .i64 0], 2⟩, ⟨b209, [.int .i64 3, .int .i64 s1_1, .int .i64 s1_2, .int .i64 s1_3, .int .i64 s1_4, .int .i64 s1_5, .int .i64 s1_6], 7⟩, ⟨b208, [.int .i64 a0_0, .int .i64 a0_1], 2⟩] : List Own) := by
      intro g225 g223
      refine hstep [4] _ _ _ (by kernel_rfl) (List.cons_ne_nil _ _) ⟨?_, trivial⟩
      · show T _ _ _ _ _ _ _ _
        refine t_app1 (cs := [.int .i64 a0_0]) (M := 1) (F := ([⟨g225, [.int .i64 t215], 1⟩, ⟨g223, [.int .i64 t214], 1⟩, ⟨b222, [.int .i64 t214, .int .i64 t215], 2⟩, ⟨N221, [.int .i64 t213, .int .i64 t214, .int .i64 t215, .int .i64 t216, .int .i64 t217, .int .i64 t218, .int .i64 t219], 7⟩, ⟨g212, [.int .i64 a0_1], 1⟩, ⟨b210, [.int .i64 0, .int .i64 0], 2⟩, ⟨b209, [.int .i64 3, .int .i64 s1_1, .int .i64 s1_2, .int .i64 s1_3, .int .i64 s1_4, .int .i64 s1_5, .int .i64 s1_6], 7⟩, ⟨b208, [.int .i64 a0_0, .int .i64 a0_1], 2⟩] : List Own)) (news := [.int .i64 t214]) rfl rfl rfl rfl (sel_perm (is := [5]) (by kernel_rfl)) (.at 1 rfl rfl) (by kernel_rfl) rfl rfl (by decide) (by decide) rfl fun g224 ng224 => ?_
        refine t_keep [2, 3, 8, 9, 10, 20, 21, 22, 30, 31, 34] (σ' := [(2, .int .i64 0), (3, .int .i64 n3), (8, .pointer (some ⟨b210, 0, none⟩)), (9, .slice (some ⟨g211, 0, none⟩) 1 1), (10, .slice (some ⟨g212, 0, none⟩) 1 1), (20, .slice (some ⟨N221, 1, none⟩) 3 3), (21, .int .i64 3), (22, .int .i64 0), (30, .slice (some ⟨g224, 0, none⟩) 2 (ng224 / 1)), (31, .slice (some ⟨g212, 0, none⟩) 1 1), (34, .slice (some ⟨g225, 0, none⟩) 1 1)]) (by kernel_rfl) ?_
        refine t_vs (H' := ([⟨g225, [.int .i64 t215], 1⟩, ⟨g224, [.int .i64 a0_0, .int .i64 t214], ng224⟩, ⟨g223, [.int .i64 t214], 1⟩, ⟨b222, [.int .i64 t214, .int .i64 t215], 2⟩, ⟨N221, [.int .i64 t213, .int .i64 t214, .int .i64 t215, .int .i64 t216, .int .i64 t217, .int .i64 t218, .int .i64 t219], 7⟩, ⟨g212, [.int .i64 a0_1], 1⟩, ⟨b210, [.int .i64 0, .int .i64 0], 2⟩, ⟨b209, [.int .i64 3, .int .i64 s1_1, .int .i64 s1_2, .int .i64 s1_3, .int .i64 s1_4, .int .i64 s1_5, .int .i64 s1_6], 7⟩, ⟨b208, [.int .i64 a0_0, .int .i64 a0_1], 2⟩] : List Own)) (S' := S) (VS.sel [1, 0, 0, 0, 0, 0, 0, 0, 0] (by kernel_rfl)) ?_
        refine t_end ?_
        exact ⟨hg_1ff g225 g224 ng224 g223, rfl⟩
    have hg_1e7 : ∀ (g225 : Nat), G [true, true, true, false, false, true, true, true, true, false, false, false] [(2, .int .i64 0), (3, .int .i64 n3), (8, .pointer (some ⟨b210, 0, none⟩)), (9, .slice (some ⟨g211, 0, none⟩) 1 1), (10, .slice (some ⟨g212, 0, none⟩) 1 1), (20, .slice (some ⟨N221, 1, none⟩) 3 3), (21, .int .i64 3), (22, .int .i64 0), (26, .slice (some ⟨g211, 0, none⟩) 1 1), (28, .int .i64 t214), (31, .slice (some ⟨g212, 0, none⟩) 1 1), (34, .slice (some ⟨g225, 0, none⟩) 1 1)] ([⟨g225, [.int .i64 t215], 1⟩, ⟨b222, [.int .i64 t214, .int .i64 t215], 2⟩, ⟨N221, [.int .i64 t213, .int .i64 t214, .int .i64 t215, .int .i64 t216, .int .i64 t217, .int .i64 t218, .int .i64 t219], 7⟩, ⟨g212, [.int .i64 a0_1], 1⟩, ⟨g211, [.int .i64 a0_0], 1⟩, ⟨b210, [.int .i64 0, .int .i64 0], 2⟩, ⟨b209, [.int .i64 3, .int .i64 s1_1, .int .i64 s1_2, .int .i64 s1_3, .int .i64 s1_4, .int .i64 s1_5, .int .i64 s1_6], 7⟩, ⟨b208, [.int .i64 a0_0, .int .i64 a0_1], 2⟩] : List Own) := by
      intro g225
      refine hstep [3] _ _ _ (by kernel_rfl) (List.cons_ne_nil _ _) ⟨?_, trivial⟩
      · show T _ _ _ _ _ _ _ _
        refine t_a (.bsl rfl rfl rfl rfl) fun g223 fg223 sg223 => ?_
        refine t_keep [2, 3, 8, 9, 10, 20, 21, 22, 26, 29, 31, 34] (σ' := [(2, .int .i64 0), (3, .int .i64 n3), (8, .pointer (some ⟨b210, 0, none⟩)), (9, .slice (some ⟨g211, 0, none⟩) 1 1), (10, .slice (some ⟨g212, 0, none⟩) 1 1), (20, .slice (some ⟨N221, 1, none⟩) 3 3), (21, .int .i64 3), (22, .int .i64 0), (26, .slice (some ⟨g211, 0, none⟩) 1 1), (29, .slice (some ⟨g223, 0, none⟩) 1 1), (31, .slice (some ⟨g212, 0, none⟩) 1 1), (34, .slice (some ⟨g225, 0, none⟩) 1 1)]) (by kernel_rfl) ?_
        refine t_vs (H' := ([⟨g225, [.int .i64 t215], 1⟩, ⟨g223, [.int .i64 t214], 1⟩, ⟨b222, [.int .i64 t214, .int .i64 t215], 2⟩, ⟨N221, [.int .i64 t213, .int .i64 t214, .int .i64 t215, .int .i64 t216, .int .i64 t217, .int .i64 t218, .int .i64 t219], 7⟩, ⟨g212, [.int .i64 a0_1], 1⟩, ⟨g211, [.int .i64 a0_0], 1⟩, ⟨b210, [.int .i64 0, .int .i64 0], 2⟩, ⟨b209, [.int .i64 3, .int .i64 s1_1, .int .i64 s1_2, .int .i64 s1_3, .int .i64 s1_4, .int .i64 s1_5, .int .i64 s1_6], 7⟩, ⟨b208, [.int .i64 a0_0, .int .i64 a0_1], 2⟩] : List Own)) (S' := S) (VS.sel [1, 0, 0, 0, 0, 0, 0, 0, 0] (by kernel_rfl)) ?_
        refine t_end ?_
        exact ⟨hg_1ef g225 g223, rfl⟩
    have hg_ef : ∀ (g223 : Nat), G [true, true, true, true, false, true, true, true, false, false, false, false] [(2, .int .i64 0), (3, .int .i64 n3), (8, .pointer (some ⟨b210, 0, none⟩)), (9, .slice (some ⟨g211, 0, none⟩) 1 1), (10, .slice (some ⟨g212, 0, none⟩) 1 1), (20, .slice (some ⟨N221, 1, none⟩) 3 3), (21, .int .i64 3), (22, .int .i64 0), (26, .slice (some ⟨g211, 0, none⟩) 1 1), (29, .slice (some ⟨g223, 0, none⟩) 1 1), (31, .slice (some ⟨g212, 0, none⟩) 1 1), (33, .int .i64 t215)] ([⟨g223, [.int .i64 t214], 1⟩, ⟨b222, [.int .i64 t214, .int .i64 t215], 2⟩, ⟨N221, [.int .i64 t213, .int .i64 t214, .int .i64 t215, .int .i64 t216, .int .i64 t217, .int .i64 t218, .int .i64 t219], 7⟩, ⟨g212, [.int .i64 a0_1], 1⟩, ⟨g211, [.int .i64 a0_0], 1⟩, ⟨b210, [.int .i64 0, .int .i64 0], 2⟩, ⟨b209, [.int .i64 3, .int .i64 s1_1, .int .i64 s1_2, .int .i64 s1_3, .int .i64 s1_4, .int .i64 s1_5, .int .i64 s1_6], 7⟩, ⟨b208, [.int .i64 a0_0, .int .i64 a0_1], 2⟩] : List Own) := by
      intro g223
      refine hstep [4, 8] _ _ _ (by kernel_rfl) (List.cons_ne_nil _ _) ⟨?_, ?_, trivial⟩
      · show T _ _ _ _ _ _ _ _
        refine t_app1 (cs := [.int .i64 a0_0]) (M := 1) (F := ([⟨g223, [.int .i64 t214], 1⟩, ⟨b222, [.int .i64 t214, .int .i64 t215], 2⟩, ⟨N221, [.int .i64 t213, .int .i64 t214, .int .i64 t215, .int .i64 t216, .int .i64 t217, .int .i64 t218, .int .i64 t219], 7⟩, ⟨g212, [.int .i64 a0_1], 1⟩, ⟨b210, [.int .i64 0, .int .i64 0], 2⟩, ⟨b209, [.int .i64 3, .int .i64 s1_1, .int .i64 s1_2, .int .i64 s1_3, .int .i64 s1_4, .int .i64 s1_5, .int .i64 s1_6], 7⟩, ⟨b208, [.int .i64 a0_0, .int .i64 a0_1], 2⟩] : List Own)) (news := [.int .i64 t214]) rfl rfl rfl rfl (sel_perm (is := [4]) (by kernel_rfl)) (.at 0 rfl rfl) (by kernel_rfl) rfl rfl (by decide) (by decide) rfl fun g224 ng224 => ?_
        refine t_keep [2, 3, 8, 9, 10, 20, 21, 22, 30, 31, 33] (σ' := [(2, .int .i64 0), (3, .int .i64 n3), (8, .pointer (some ⟨b210, 0, none⟩)), (9, .slice (some ⟨g211, 0, none⟩) 1 1), (10, .slice (some ⟨g212, 0, none⟩) 1 1), (20, .slice (some ⟨N221, 1, none⟩) 3 3), (21, .int .i64 3), (22, .int .i64 0), (30, .slice (some ⟨g224, 0, none⟩) 2 (ng224 / 1)), (31, .slice (some ⟨g212, 0, none⟩) 1 1), (33, .int .i64 t215)]) (by kernel_rfl) ?_
        refine t_end ?_
        exact ⟨hg_ff g224 ng224 g223, rfl⟩
      · show T _ _ _ _ _ _ _ _
        refine t_a (.bsl rfl rfl rfl rfl) fun g225 fg225 sg225 => ?_
        refine t_keep [2, 3, 8, 9, 10, 20, 21, 22, 26, 29, 31, 34] (σ' := [(2, .int .i64 0), (3, .int .i64 n3), (8, .pointer (some ⟨b210, 0, none⟩)), (9, .slice (some ⟨g211, 0, none⟩) 1 1), (10, .slice (some ⟨g212, 0, none⟩) 1 1), (20, .slice (some ⟨N221, 1, none⟩) 3 3), (21, .int .i64 3), (22, .int .i64 0), (26, .slice (some ⟨g211, 0, none⟩) 1 1), (29, .slice (some ⟨g223, 0, none⟩) 1 1), (31, .slice (some ⟨g212, 0, none⟩) 1 1), (34, .slice (some ⟨g225, 0, none⟩) 1 1)]) (by kernel_rfl) ?_
        refine t_end ?_
        exact ⟨hg_1ef g225 g223, rfl⟩
    have hg_7f : ∀ (g224 ng224 g223 : Nat), G [true, true, true, true, true, true, true, false, false, false, false, false] [(2, .int .i64 0), (3, .int .i64 n3), (8, .pointer (some ⟨b210, 0, none⟩)), (9, .slice (some ⟨g211, 0, none⟩) 1 1), (10, .slice (some ⟨g212, 0, none⟩) 1 1), (20, .slice (some ⟨N221, 1, none⟩) 3 3), (21, .int .i64 3), (22, .int .i64 0), (30, .slice (some ⟨g224, 0, none⟩) 2 (ng224 / 1)), (31, .slice (some ⟨g212, 0, none⟩) 1 1), (32, .pointer (some ⟨b222, 1, none⟩))] ([⟨g224, [.int .i64 a0_0, .int .i64 t214], ng224⟩, ⟨g223, [.int .i64 t214], 1⟩, ⟨b222, [.int .i64 t214, .int .i64 t215], 2⟩, ⟨N221, [.int .i64 t213, .int .i64 t214, .int .i64 t215, .int .i64 t216, .int .i64 t217, .int .i64 t218, .int .i64 t219], 7⟩, ⟨g212, [.int .i64 a0_1], 1⟩, ⟨b210, [.int .i64 0, .int .i64 0], 2⟩, ⟨b209, [.int .i64 3, .int .i64 s1_1, .int .i64 s1_2, .int .i64 s1_3, .int .i64 s1_4, .int .i64 s1_5, .int .i64 s1_6], 7⟩, ⟨b208, [.int .i64 a0_0, .int .i64 a0_1], 2⟩] : List Own) := by
      intro g224 ng224 g223
      refine hstep [7] _ _ _ (by kernel_rfl) (List.cons_ne_nil _ _) ⟨?_, trivial⟩
      · show T _ _ _ _ _ _ _ _
        refine t_v (.ld1 rfl rfl rfl (.at 2 rfl rfl)) ?_
        refine t_keep [2, 3, 8, 9, 10, 20, 21, 22, 30, 31, 33] (σ' := [(2, .int .i64 0), (3, .int .i64 n3), (8, .pointer (some ⟨b210, 0, none⟩)), (9, .slice (some ⟨g211, 0, none⟩) 1 1), (10, .slice (some ⟨g212, 0, none⟩) 1 1), (20, .slice (some ⟨N221, 1, none⟩) 3 3), (21, .int .i64 3), (22, .int .i64 0), (30, .slice (some ⟨g224, 0, none⟩) 2 (ng224 / 1)), (31, .slice (some ⟨g212, 0, none⟩) 1 1), (33, .int .i64 t215)]) (by kernel_rfl) ?_
        refine t_end ?_
        exact ⟨hg_ff g224 ng224 g223, rfl⟩
    have hg_1e3 : ∀ (g225 : Nat), G [true, true, false, false, false, true, true, true, true, false, false, false] [(2, .int .i64 0), (3, .int .i64 n3), (8, .pointer (some ⟨b210, 0, none⟩)), (9, .slice (some ⟨g211, 0, none⟩) 1 1), (10, .slice (some ⟨g212, 0, none⟩) 1 1), (20, .slice (some ⟨N221, 1, none⟩) 3 3), (21, .int .i64 3), (22, .int .i64 0), (26, .slice (some ⟨g211, 0, none⟩) 1 1), (27, .pointer (some ⟨b222, 0, none⟩)), (31, .slice (some ⟨g212, 0, none⟩) 1 1), (34, .slice (some ⟨g225, 0, none⟩) 1 1)] ([⟨g225, [.int .i64 t215], 1⟩, ⟨b222, [.int .i64 t214, .int .i64 t215], 2⟩, ⟨N221, [.int .i64 t213, .int .i64 t214, .int .i64 t215, .int .i64 t216, .int .i64 t217, .int .i64 t218, .int .i64 t219], 7⟩, ⟨g212, [.int .i64 a0_1], 1⟩, ⟨g211, [.int .i64 a0_0], 1⟩, ⟨b210, [.int .i64 0, .int .i64 0], 2⟩, ⟨b209, [.int .i64 3, .int .i64 s1_1, .int .i64 s1_2, .int .i64 s1_3, .int .i64 s1_4, .int .i64 s1_5, .int .i64 s1_6], 7⟩, ⟨b208, [.int .i64 a0_0, .int .i64 a0_1], 2⟩] : List Own) := by
      intro g225
      refine hstep [2] _ _ _ (by kernel_rfl) (List.cons_ne_nil _ _) ⟨?_, trivial⟩
      · show T _ _ _ _ _ _ _ _
        refine t_v (.ld1 rfl rfl rfl (.at 1 rfl rfl)) ?_
        refine t_keep [2, 3, 8, 9, 10, 20, 21, 22, 26, 28, 31, 34] (σ' := [(2, .int .i64 0), (3, .int .i64 n3), (8, .pointer (some ⟨b210, 0, none⟩)), (9, .slice (some ⟨g211, 0, none⟩) 1 1), (10, .slice (some ⟨g212, 0, none⟩) 1 1), (20, .slice (some ⟨N221, 1, none⟩) 3 3), (21, .int .i64 3), (22, .int .i64 0), (26, .slice (some ⟨g211, 0, none⟩) 1 1), (28, .int .i64 t214), (31, .slice (some ⟨g212, 0, none⟩) 1 1), (34, .slice (some ⟨g225, 0, none⟩) 1 1)]) (by kernel_rfl) ?_
        refine t_end ?_
        exact ⟨hg_1e7 g225, rfl⟩
    have hg_e7 : G [true, true, true, false, false, true, true, true, false, false, false, false] [(2, .int .i64 0), (3, .int .i64 n3), (8, .pointer (some ⟨b210, 0, none⟩)), (9, .slice (some ⟨g211, 0, none⟩) 1 1), (10, .slice (some ⟨g212, 0, none⟩) 1 1), (20, .slice (some ⟨N221, 1, none⟩) 3 3), (21, .int .i64 3), (22, .int .i64 0), (26, .slice (some ⟨g211, 0, none⟩) 1 1), (28, .int .i64 t214), (31, .slice (some ⟨g212, 0, none⟩) 1 1), (33, .int .i64 t215)] ([⟨b222, [.int .i64 t214, .int .i64 t215], 2⟩, ⟨N221, [.int .i64 t213, .int .i64 t214, .int .i64 t215, .int .i64 t216, .int .i64 t217, .int .i64 t218, .int .i64 t219], 7⟩, ⟨g212, [.int .i64 a0_1], 1⟩, ⟨g211, [.int .i64 a0_0], 1⟩, ⟨b210, [.int .i64 0, .int .i64 0], 2⟩, ⟨b209, [.int .i64 3, .int .i64 s1_1, .int .i64 s1_2, .int .i64 s1_3, .int .i64 s1_4, .int .i64 s1_5, .int .i64 s1_6], 7⟩, ⟨b208, [.int .i64 a0_0, .int .i64 a0_1], 2⟩] : List Own) := by
      refine hstep [3, 8] _ _ _ (by kernel_rfl) (List.cons_ne_nil _ _) ⟨?_, ?_, trivial⟩
      · show T _ _ _ _ _ _ _ _
        refine t_a (.bsl rfl rfl rfl rfl) fun g223 fg223 sg223 => ?_
        refine t_keep [2, 3, 8, 9, 10, 20, 21, 22, 26, 29, 31, 33] (σ' := [(2, .int .i64 0), (3, .int .i64 n3), (8, .pointer (some ⟨b210, 0, none⟩)), (9, .slice (some ⟨g211, 0, none⟩) 1 1), (10, .slice (some ⟨g212, 0, none⟩) 1 1), (20, .slice (some ⟨N221, 1, none⟩) 3 3), (21, .int .i64 3), (22, .int .i64 0), (26, .slice (some ⟨g211, 0, none⟩) 1 1), (29, .slice (some ⟨g223, 0, none⟩) 1 1), (31, .slice (some ⟨g212, 0, none⟩) 1 1), (33, .int .i64 t215)]) (by kernel_rfl) ?_
        refine t_end ?_
        exact ⟨hg_ef g223, rfl⟩
      · show T _ _ _ _ _ _ _ _
        refine t_a (.bsl rfl rfl rfl rfl) fun g225 fg225 sg225 => ?_
        refine t_keep [2, 3, 8, 9, 10, 20, 21, 22, 26, 28, 31, 34] (σ' := [(2, .int .i64 0), (3, .int .i64 n3), (8, .pointer (some ⟨b210, 0, none⟩)), (9, .slice (some ⟨g211, 0, none⟩) 1 1), (10, .slice (some ⟨g212, 0, none⟩) 1 1), (20, .slice (some ⟨N221, 1, none⟩) 3 3), (21, .int .i64 3), (22, .int .i64 0), (26, .slice (some ⟨g211, 0, none⟩) 1 1), (28, .int .i64 t214), (31, .slice (some ⟨g212, 0, none⟩) 1 1), (34, .slice (some ⟨g225, 0, none⟩) 1 1)]) (by kernel_rfl) ?_
        refine t_end ?_
        exact ⟨hg_1e7 g225, rfl⟩
    have hg_6f : ∀ (g223 : Nat), G [true, true, true, true, false, true, true, false, false, false, false, false] [(2, .int .i64 0), (3, .int .i64 n3), (8, .pointer (some ⟨b210, 0, none⟩)), (9, .slice (some ⟨g211, 0, none⟩) 1 1), (10, .slice (some ⟨g212, 0, none⟩) 1 1), (20, .slice (some ⟨N221, 1, none⟩) 3 3), (21, .int .i64 3), (22, .int .i64 0), (26, .slice (some ⟨g211, 0, none⟩) 1 1), (29, .slice (some ⟨g223, 0, none⟩) 1 1), (31, .slice (some ⟨g212, 0, none⟩) 1 1), (32, .pointer (some ⟨b222, 1, none⟩))] ([⟨g223, [.int .i64 t214], 1⟩, ⟨b222, [.int .i64 t214, .int .i64 t215], 2⟩, ⟨N221, [.int .i64 t213, .int .i64 t214, .int .i64 t215, .int .i64 t216, .int .i64 t217, .int .i64 t218, .int .i64 t219], 7⟩, ⟨g212, [.int .i64 a0_1], 1⟩, ⟨g211, [.int .i64 a0_0], 1⟩, ⟨b210, [.int .i64 0, .int .i64 0], 2⟩, ⟨b209, [.int .i64 3, .int .i64 s1_1, .int .i64 s1_2, .int .i64 s1_3, .int .i64 s1_4, .int .i64 s1_5, .int .i64 s1_6], 7⟩, ⟨b208, [.int .i64 a0_0, .int .i64 a0_1], 2⟩] : List Own) := by
      intro g223
      refine hstep [4, 7] _ _ _ (by kernel_rfl) (List.cons_ne_nil _ _) ⟨?_, ?_, trivial⟩
      · show T _ _ _ _ _ _ _ _
        refine t_app1 (cs := [.int .i64 a0_0]) (M := 1) (F := ([⟨g223, [.int .i64 t214], 1⟩, ⟨b222, [.int .i64 t214, .int .i64 t215], 2⟩, ⟨N221, [.int .i64 t213, .int .i64 t214, .int .i64 t215, .int .i64 t216, .int .i64 t217, .int .i64 t218, .int .i64 t219], 7⟩, ⟨g212, [.int .i64 a0_1], 1⟩, ⟨b210, [.int .i64 0, .int .i64 0], 2⟩, ⟨b209, [.int .i64 3, .int .i64 s1_1, .int .i64 s1_2, .int .i64 s1_3, .int .i64 s1_4, .int .i64 s1_5, .int .i64 s1_6], 7⟩, ⟨b208, [.int .i64 a0_0, .int .i64 a0_1], 2⟩] : List Own)) (news := [.int .i64 t214]) rfl rfl rfl rfl (sel_perm (is := [4]) (by kernel_rfl)) (.at 0 rfl rfl) (by kernel_rfl) rfl rfl (by decide) (by decide) rfl fun g224 ng224 => ?_
        refine t_keep [2, 3, 8, 9, 10, 20, 21, 22, 30, 31, 32] (σ' := [(2, .int .i64 0), (3, .int .i64 n3), (8, .pointer (some ⟨b210, 0, none⟩)), (9, .slice (some ⟨g211, 0, none⟩) 1 1), (10, .slice (some ⟨g212, 0, none⟩) 1 1), (20, .slice (some ⟨N221, 1, none⟩) 3 3), (21, .int .i64 3), (22, .int .i64 0), (30, .slice (some ⟨g224, 0, none⟩) 2 (ng224 / 1)), (31, .slice (some ⟨g212, 0, none⟩) 1 1), (32, .pointer (some ⟨b222, 1, none⟩))]) (by kernel_rfl) ?_
        refine t_end ?_
        exact ⟨hg_7f g224 ng224 g223, rfl⟩
      · show T _ _ _ _ _ _ _ _
        refine t_v (.ld1 rfl rfl rfl (.at 1 rfl rfl)) ?_
        refine t_keep [2, 3, 8, 9, 10, 20, 21, 22, 26, 29, 31, 33] (σ' := [(2, .int .i64 0), (3, .int .i64 n3), (8, .pointer (some ⟨b210, 0, none⟩)), (9, .slice (some ⟨g211, 0, none⟩) 1 1), (10, .slice (some ⟨g212, 0, none⟩) 1 1), (20, .slice (some ⟨N221, 1, none⟩) 3 3), (21, .int .i64 3), (22, .int .i64 0), (26, .slice (some ⟨g211, 0, none⟩) 1 1), (29, .slice (some ⟨g223, 0, none⟩) 1 1), (31, .slice (some ⟨g212, 0, none⟩) 1 1), (33, .int .i64 t215)]) (by kernel_rfl) ?_
        refine t_end ?_
        exact ⟨hg_ef g223, rfl⟩
    have hg_e3 : G [true, true, false, false, false, true, true, true, false, false, false, false] [(2, .int .i64 0), (3, .int .i64 n3), (8, .pointer (some ⟨b210, 0, none⟩)), (9, .slice (some ⟨g211, 0, none⟩) 1 1), (10, .slice (some ⟨g212, 0, none⟩) 1 1), (20, .slice (some ⟨N221, 1, none⟩) 3 3), (21, .int .i64 3), (22, .int .i64 0), (26, .slice (some ⟨g211, 0, none⟩) 1 1), (27, .pointer (some ⟨b222, 0, none⟩)), (31, .slice (some ⟨g212, 0, none⟩) 1 1), (33, .int .i64 t215)] ([⟨b222, [.int .i64 t214, .int .i64 t215], 2⟩, ⟨N221, [.int .i64 t213, .int .i64 t214, .int .i64 t215, .int .i64 t216, .int .i64 t217, .int .i64 t218, .int .i64 t219], 7⟩, ⟨g212, [.int .i64 a0_1], 1⟩, ⟨g211, [.int .i64 a0_0], 1⟩, ⟨b210, [.int .i64 0, .int .i64 0], 2⟩, ⟨b209, [.int .i64 3, .int .i64 s1_1, .int .i64 s1_2, .int .i64 s1_3, .int .i64 s1_4, .int .i64 s1_5, .int .i64 s1_6], 7⟩, ⟨b208, [.int .i64 a0_0, .int .i64 a0_1], 2⟩] : List Own) := by
      refine hstep [2, 8] _ _ _ (by kernel_rfl) (List.cons_ne_nil _ _) ⟨?_, ?_, trivial⟩
      · show T _ _ _ _ _ _ _ _
        refine t_v (.ld1 rfl rfl rfl (.at 0 rfl rfl)) ?_
        refine t_keep [2, 3, 8, 9, 10, 20, 21, 22, 26, 28, 31, 33] (σ' := [(2, .int .i64 0), (3, .int .i64 n3), (8, .pointer (some ⟨b210, 0, none⟩)), (9, .slice (some ⟨g211, 0, none⟩) 1 1), (10, .slice (some ⟨g212, 0, none⟩) 1 1), (20, .slice (some ⟨N221, 1, none⟩) 3 3), (21, .int .i64 3), (22, .int .i64 0), (26, .slice (some ⟨g211, 0, none⟩) 1 1), (28, .int .i64 t214), (31, .slice (some ⟨g212, 0, none⟩) 1 1), (33, .int .i64 t215)]) (by kernel_rfl) ?_
        refine t_end ?_
        exact ⟨hg_e7, rfl⟩
      · show T _ _ _ _ _ _ _ _
        refine t_a (.bsl rfl rfl rfl rfl) fun g225 fg225 sg225 => ?_
        refine t_keep [2, 3, 8, 9, 10, 20, 21, 22, 26, 27, 31, 34] (σ' := [(2, .int .i64 0), (3, .int .i64 n3), (8, .pointer (some ⟨b210, 0, none⟩)), (9, .slice (some ⟨g211, 0, none⟩) 1 1), (10, .slice (some ⟨g212, 0, none⟩) 1 1), (20, .slice (some ⟨N221, 1, none⟩) 3 3), (21, .int .i64 3), (22, .int .i64 0), (26, .slice (some ⟨g211, 0, none⟩) 1 1), (27, .pointer (some ⟨b222, 0, none⟩)), (31, .slice (some ⟨g212, 0, none⟩) 1 1), (34, .slice (some ⟨g225, 0, none⟩) 1 1)]) (by kernel_rfl) ?_
        refine t_end ?_
        exact ⟨hg_1e3 g225, rfl⟩
    have hg_67 : G [true, true, true, false, false, true, true, false, false, false, false, false] [(2, .int .i64 0), (3, .int .i64 n3), (8, .pointer (some ⟨b210, 0, none⟩)), (9, .slice (some ⟨g211, 0, none⟩) 1 1), (10, .slice (some ⟨g212, 0, none⟩) 1 1), (20, .slice (some ⟨N221, 1, none⟩) 3 3), (21, .int .i64 3), (22, .int .i64 0), (26, .slice (some ⟨g211, 0, none⟩) 1 1), (28, .int .i64 t214), (31, .slice (some ⟨g212, 0, none⟩) 1 1), (32, .pointer (some ⟨b222, 1, none⟩))] ([⟨b222, [.int .i64 t214, .int .i64 t215], 2⟩, ⟨N221, [.int .i64 t213, .int .i64 t214, .int .i64 t215, .int .i64 t216, .int .i64 t217, .int .i64 t218, .int .i64 t219], 7⟩, ⟨g212, [.int .i64 a0_1], 1⟩, ⟨g211, [.int .i64 a0_0], 1⟩, ⟨b210, [.int .i64 0, .int .i64 0], 2⟩, ⟨b209, [.int .i64 3, .int .i64 s1_1, .int .i64 s1_2, .int .i64 s1_3, .int .i64 s1_4, .int .i64 s1_5, .int .i64 s1_6], 7⟩, ⟨b208, [.int .i64 a0_0, .int .i64 a0_1], 2⟩] : List Own) := by
      refine hstep [3, 7] _ _ _ (by kernel_rfl) (List.cons_ne_nil _ _) ⟨?_, ?_, trivial⟩
      · show T _ _ _ _ _ _ _ _
        refine t_a (.bsl rfl rfl rfl rfl) fun g223 fg223 sg223 => ?_
        refine t_keep [2, 3, 8, 9, 10, 20, 21, 22, 26, 29, 31, 32] (σ' := [(2, .int .i64 0), (3, .int .i64 n3), (8, .pointer (some ⟨b210, 0, none⟩)), (9, .slice (some ⟨g211, 0, none⟩) 1 1), (10, .slice (some ⟨g212, 0, none⟩) 1 1), (20, .slice (some ⟨N221, 1, none⟩) 3 3), (21, .int .i64 3), (22, .int .i64 0), (26, .slice (some ⟨g211, 0, none⟩) 1 1), (29, .slice (some ⟨g223, 0, none⟩) 1 1), (31, .slice (some ⟨g212, 0, none⟩) 1 1), (32, .pointer (some ⟨b222, 1, none⟩))]) (by kernel_rfl) ?_
        refine t_end ?_
        exact ⟨hg_6f g223, rfl⟩
      · show T _ _ _ _ _ _ _ _
        refine t_v (.ld1 rfl rfl rfl (.at 0 rfl rfl)) ?_
        refine t_keep [2, 3, 8, 9, 10, 20, 21, 22, 26, 28, 31, 33] (σ' := [(2, .int .i64 0), (3, .int .i64 n3), (8, .pointer (some ⟨b210, 0, none⟩)), (9, .slice (some ⟨g211, 0, none⟩) 1 1), (10, .slice (some ⟨g212, 0, none⟩) 1 1), (20, .slice (some ⟨N221, 1, none⟩) 3 3), (21, .int .i64 3), (22, .int .i64 0), (26, .slice (some ⟨g211, 0, none⟩) 1 1), (28, .int .i64 t214), (31, .slice (some ⟨g212, 0, none⟩) 1 1), (33, .int .i64 t215)]) (by kernel_rfl) ?_
        refine t_end ?_
        exact ⟨hg_e7, rfl⟩
    have hg_63 : G [true, true, false, false, false, true, true, false, false, false, false, false] [(2, .int .i64 0), (3, .int .i64 n3), (8, .pointer (some ⟨b210, 0, none⟩)), (9, .slice (some ⟨g211, 0, none⟩) 1 1), (10, .slice (some ⟨g212, 0, none⟩) 1 1), (20, .slice (some ⟨N221, 1, none⟩) 3 3), (21, .int .i64 3), (22, .int .i64 0), (26, .slice (some ⟨g211, 0, none⟩) 1 1), (27, .pointer (some ⟨b222, 0, none⟩)), (31, .slice (some ⟨g212, 0, none⟩) 1 1), (32, .pointer (some ⟨b222, 1, none⟩))] ([⟨b222, [.int .i64 t214, .int .i64 t215], 2⟩, ⟨N221, [.int .i64 t213, .int .i64 t214, .int .i64 t215, .int .i64 t216, .int .i64 t217, .int .i64 t218, .int .i64 t219], 7⟩, ⟨g212, [.int .i64 a0_1], 1⟩, ⟨g211, [.int .i64 a0_0], 1⟩, ⟨b210, [.int .i64 0, .int .i64 0], 2⟩, ⟨b209, [.int .i64 3, .int .i64 s1_1, .int .i64 s1_2, .int .i64 s1_3, .int .i64 s1_4, .int .i64 s1_5, .int .i64 s1_6], 7⟩, ⟨b208, [.int .i64 a0_0, .int .i64 a0_1], 2⟩] : List Own) := by
      refine hstep [2, 7] _ _ _ (by kernel_rfl) (List.cons_ne_nil _ _) ⟨?_, ?_, trivial⟩
      · show T _ _ _ _ _ _ _ _
        refine t_v (.ld1 rfl rfl rfl (.at 0 rfl rfl)) ?_
        refine t_keep [2, 3, 8, 9, 10, 20, 21, 22, 26, 28, 31, 32] (σ' := [(2, .int .i64 0), (3, .int .i64 n3), (8, .pointer (some ⟨b210, 0, none⟩)), (9, .slice (some ⟨g211, 0, none⟩) 1 1), (10, .slice (some ⟨g212, 0, none⟩) 1 1), (20, .slice (some ⟨N221, 1, none⟩) 3 3), (21, .int .i64 3), (22, .int .i64 0), (26, .slice (some ⟨g211, 0, none⟩) 1 1), (28, .int .i64 t214), (31, .slice (some ⟨g212, 0, none⟩) 1 1), (32, .pointer (some ⟨b222, 1, none⟩))]) (by kernel_rfl) ?_
        refine t_end ?_
        exact ⟨hg_67, rfl⟩
      · show T _ _ _ _ _ _ _ _
        refine t_v (.ld1 rfl rfl rfl (.at 0 rfl rfl)) ?_
        refine t_keep [2, 3, 8, 9, 10, 20, 21, 22, 26, 27, 31, 33] (σ' := [(2, .int .i64 0), (3, .int .i64 n3), (8, .pointer (some ⟨b210, 0, none⟩)), (9, .slice (some ⟨g211, 0, none⟩) 1 1), (10, .slice (some ⟨g212, 0, none⟩) 1 1), (20, .slice (some ⟨N221, 1, none⟩) 3 3), (21, .int .i64 3), (22, .int .i64 0), (26, .slice (some ⟨g211, 0, none⟩) 1 1), (27, .pointer (some ⟨b222, 0, none⟩)), (31, .slice (some ⟨g212, 0, none⟩) 1 1), (33, .int .i64 t215)]) (by kernel_rfl) ?_
        refine t_end ?_
        exact ⟨hg_e3, rfl⟩
    have hg_23 : G [true, true, false, false, false, true, false, false, false, false, false, false] [(2, .int .i64 0), (3, .int .i64 n3), (8, .pointer (some ⟨b210, 0, none⟩)), (9, .slice (some ⟨g211, 0, none⟩) 1 1), (10, .slice (some ⟨g212, 0, none⟩) 1 1), (12, .pointer (some ⟨b222, 0, none⟩)), (20, .slice (some ⟨N221, 1, none⟩) 3 3), (21, .int .i64 3), (22, .int .i64 0), (26, .slice (some ⟨g211, 0, none⟩) 1 1), (27, .pointer (some ⟨b222, 0, none⟩)), (31, .slice (some ⟨g212, 0, none⟩) 1 1)] ([⟨b222, [.int .i64 t214, .int .i64 t215], 2⟩, ⟨N221, [.int .i64 t213, .int .i64 t214, .int .i64 t215, .int .i64 t216, .int .i64 t217, .int .i64 t218, .int .i64 t219], 7⟩, ⟨g212, [.int .i64 a0_1], 1⟩, ⟨g211, [.int .i64 a0_0], 1⟩, ⟨b210, [.int .i64 0, .int .i64 0], 2⟩, ⟨b209, [.int .i64 3, .int .i64 s1_1, .int .i64 s1_2, .int .i64 s1_3, .int .i64 s1_4, .int .i64 s1_5, .int .i64 s1_6], 7⟩, ⟨b208, [.int .i64 a0_0, .int .i64 a0_1], 2⟩] : List Own) := by
      exact hqf 6 [2, 3, 8, 9, 10, 20, 21, 22, 26, 27, 31, 32] _ _ _ [(2, .int .i64 0), (3, .int .i64 n3), (8, .pointer (some ⟨b210, 0, none⟩)), (9, .slice (some ⟨g211, 0, none⟩) 1 1), (10, .slice (some ⟨g212, 0, none⟩) 1 1), (20, .slice (some ⟨N221, 1, none⟩) 3 3), (21, .int .i64 3), (22, .int .i64 0), (26, .slice (some ⟨g211, 0, none⟩) 1 1), (27, .pointer (some ⟨b222, 0, none⟩)), (31, .slice (some ⟨g212, 0, none⟩) 1 1), (32, .pointer (some ⟨b222, 1, none⟩))] (by kernel_rfl) (by kernel_rfl) hg_63
    have hg_3 : G [true, true, false, false, false, false, false, false, false, false, false, false] [(2, .int .i64 0), (3, .int .i64 n3), (8, .pointer (some ⟨b210, 0, none⟩)), (9, .slice (some ⟨g211, 0, none⟩) 1 1), (10, .slice (some ⟨g212, 0, none⟩) 1 1), (12, .pointer (some ⟨b222, 0, none⟩)), (20, .slice (some ⟨N221, 1, none⟩) 3 3), (21, .int .i64 3), (22, .int .i64 0), (26, .slice (some ⟨g211, 0, none⟩) 1 1), (27, .pointer (some ⟨b222, 0, none⟩))] ([⟨b222, [.int .i64 t214, .int .i64 t215], 2⟩, ⟨N221, [.int .i64 t213, .int .i64 t214, .int .i64 t215, .int .i64 t216, .int .i64 t217, .int .i64 t218, .int .i64 t219], 7⟩, ⟨g212, [.int .i64 a0_1], 1⟩, ⟨g211, [.int .i64 a0_0], 1⟩, ⟨b210, [.int .i64 0, .int .i64 0], 2⟩, ⟨b209, [.int .i64 3, .int .i64 s1_1, .int .i64 s1_2, .int .i64 s1_3, .int .i64 s1_4, .int .i64 s1_5, .int .i64 s1_6], 7⟩, ⟨b208, [.int .i64 a0_0, .int .i64 a0_1], 2⟩] : List Own) := by
      exact hqf 5 [2, 3, 8, 9, 10, 12, 20, 21, 22, 26, 27, 31] _ _ _ [(2, .int .i64 0), (3, .int .i64 n3), (8, .pointer (some ⟨b210, 0, none⟩)), (9, .slice (some ⟨g211, 0, none⟩) 1 1), (10, .slice (some ⟨g212, 0, none⟩) 1 1), (12, .pointer (some ⟨b222, 0, none⟩)), (20, .slice (some ⟨N221, 1, none⟩) 3 3), (21, .int .i64 3), (22, .int .i64 0), (26, .slice (some ⟨g211, 0, none⟩) 1 1), (27, .pointer (some ⟨b222, 0, none⟩)), (31, .slice (some ⟨g212, 0, none⟩) 1 1)] (by kernel_rfl) (by kernel_rfl) hg_23
    have hg_1 : G [true, false, false, false, false, false, false, false, false, false, false, false] [(2, .int .i64 0), (3, .int .i64 n3), (8, .pointer (some ⟨b210, 0, none⟩)), (9, .slice (some ⟨g211, 0, none⟩) 1 1), (10, .slice (some ⟨g212, 0, none⟩) 1 1), (12, .pointer (some ⟨b222, 0, none⟩)), (20, .slice (some ⟨N221, 1, none⟩) 3 3), (21, .int .i64 3), (22, .int .i64 0), (26, .slice (some ⟨g211, 0, none⟩) 1 1)] ([⟨b222, [.int .i64 t214, .int .i64 t215], 2⟩, ⟨N221, [.int .i64 t213, .int .i64 t214, .int .i64 t215, .int .i64 t216, .int .i64 t217, .int .i64 t218, .int .i64 t219], 7⟩, ⟨g212, [.int .i64 a0_1], 1⟩, ⟨g211, [.int .i64 a0_0], 1⟩, ⟨b210, [.int .i64 0, .int .i64 0], 2⟩, ⟨b209, [.int .i64 3, .int .i64 s1_1, .int .i64 s1_2, .int .i64 s1_3, .int .i64 s1_4, .int .i64 s1_5, .int .i64 s1_6], 7⟩, ⟨b208, [.int .i64 a0_0, .int .i64 a0_1], 2⟩] : List Own) := by
      exact hqf 1 [2, 3, 8, 9, 10, 12, 20, 21, 22, 26, 27] _ _ _ [(2, .int .i64 0), (3, .int .i64 n3), (8, .pointer (some ⟨b210, 0, none⟩)), (9, .slice (some ⟨g211, 0, none⟩) 1 1), (10, .slice (some ⟨g212, 0, none⟩) 1 1), (12, .pointer (some ⟨b222, 0, none⟩)), (20, .slice (some ⟨N221, 1, none⟩) 3 3), (21, .int .i64 3), (22, .int .i64 0), (26, .slice (some ⟨g211, 0, none⟩) 1 1), (27, .pointer (some ⟨b222, 0, none⟩))] (by kernel_rfl) (by kernel_rfl) hg_3
    have hg_0 : G [false, false, false, false, false, false, false, false, false, false, false, false] [(2, .int .i64 0), (3, .int .i64 n3), (8, .pointer (some ⟨b210, 0, none⟩)), (9, .slice (some ⟨g211, 0, none⟩) 1 1), (10, .slice (some ⟨g212, 0, none⟩) 1 1), (12, .pointer (some ⟨b222, 0, none⟩)), (20, .slice (some ⟨N221, 1, none⟩) 3 3), (21, .int .i64 3), (22, .int .i64 0)] ([⟨b222, [.int .i64 t214, .int .i64 t215], 2⟩, ⟨N221, [.int .i64 t213, .int .i64 t214, .int .i64 t215, .int .i64 t216, .int .i64 t217, .int .i64 t218, .int .i64 t219], 7⟩, ⟨g212, [.int .i64 a0_1], 1⟩, ⟨g211, [.int .i64 a0_0], 1⟩, ⟨b210, [.int .i64 0, .int .i64 0], 2⟩, ⟨b209, [.int .i64 3, .int .i64 s1_1, .int .i64 s1_2, .int .i64 s1_3, .int .i64 s1_4, .int .i64 s1_5, .int .i64 s1_6], 7⟩, ⟨b208, [.int .i64 a0_0, .int .i64 a0_1], 2⟩] : List Own) := by
      exact hqf 0 [2, 3, 8, 9, 10, 12, 20, 21, 22, 26] _ _ _ [(2, .int .i64 0), (3, .int .i64 n3), (8, .pointer (some ⟨b210, 0, none⟩)), (9, .slice (some ⟨g211, 0, none⟩) 1 1), (10, .slice (some ⟨g212, 0, none⟩) 1 1), (12, .pointer (some ⟨b222, 0, none⟩)), (20, .slice (some ⟨N221, 1, none⟩) 3 3), (21, .int .i64 3), (22, .int .i64 0), (26, .slice (some ⟨g211, 0, none⟩) 1 1)] (by kernel_rfl) (by kernel_rfl) hg_1
    exact hg_0
  have hg_7f : ∀ (g212 g211 : Nat), G [true, true, true, true, true, true, true, false] [(2, .int .i64 0), (3, .int .i64 n3), (5, .pointer (some ⟨b209, 0, none⟩)), (8, .pointer (some ⟨b210, 0, none⟩)), (9, .slice (some ⟨g211, 0, none⟩) 1 1), (18, .slice (some ⟨g212, 0, none⟩) 1 1)] ([⟨g212, [.int .i64 a0_1], 1⟩, ⟨g211, [.int .i64 a0_0], 1⟩, ⟨b210, [.int .i64 0, .int .i64 0], 2⟩, ⟨b209, [.int .i64 3, .int .i64 s1_1, .int .i64 s1_2, .int .i64 s1_3, .int .i64 s1_4, .int .i64 s1_5, .int .i64 s1_6], 7⟩, ⟨b208, [.int .i64 a0_0, .int .i64 a0_1], 2⟩] : List Own) := by
    intro g212 g211
    exact hqf 7 [2, 3, 5, 8, 9, 10] _ _ _ [(2, .int .i64 0), (3, .int .i64 n3), (5, .pointer (some ⟨b209, 0, none⟩)), (8, .pointer (some ⟨b210, 0, none⟩)), (9, .slice (some ⟨g211, 0, none⟩) 1 1), (10, .slice (some ⟨g212, 0, none⟩) 1 1)] (by kernel_rfl) (by kernel_rfl) (hg_ff g212 g211)
  have hg_3f : ∀ (g212 g211 : Nat), G [true, true, true, true, true, true, false, false] [(2, .int .i64 0), (3, .int .i64 n3), (5, .pointer (some ⟨b209, 0, none⟩)), (8, .pointer (some ⟨b210, 0, none⟩)), (15, .slice (some ⟨g211, 0, none⟩) 1 1), (18, .slice (some ⟨g212, 0, none⟩) 1 1)] ([⟨g212, [.int .i64 a0_1], 1⟩, ⟨g211, [.int .i64 a0_0], 1⟩, ⟨b210, [.int .i64 0, .int .i64 0], 2⟩, ⟨b209, [.int .i64 3, .int .i64 s1_1, .int .i64 s1_2, .int .i64 s1_3, .int .i64 s1_4, .int .i64 s1_5, .int .i64 s1_6], 7⟩, ⟨b208, [.int .i64 a0_0, .int .i64 a0_1], 2⟩] : List Own) := by
    intro g212 g211
    exact hqf 6 [2, 3, 5, 8, 9, 18] _ _ _ [(2, .int .i64 0), (3, .int .i64 n3), (5, .pointer (some ⟨b209, 0, none⟩)), (8, .pointer (some ⟨b210, 0, none⟩)), (9, .slice (some ⟨g211, 0, none⟩) 1 1), (18, .slice (some ⟨g212, 0, none⟩) 1 1)] (by kernel_rfl) (by kernel_rfl) (hg_7f g212 g211)
  have hg_5f : ∀ (g211 : Nat), G [true, true, true, true, true, false, true, false] [(2, .int .i64 0), (3, .int .i64 n3), (5, .pointer (some ⟨b209, 0, none⟩)), (8, .pointer (some ⟨b210, 0, none⟩)), (9, .slice (some ⟨g211, 0, none⟩) 1 1), (17, .int .i64 a0_1)] ([⟨g211, [.int .i64 a0_0], 1⟩, ⟨b210, [.int .i64 0, .int .i64 0], 2⟩, ⟨b209, [.int .i64 3, .int .i64 s1_1, .int .i64 s1_2, .int .i64 s1_3, .int .i64 s1_4, .int .i64 s1_5, .int .i64 s1_6], 7⟩, ⟨b208, [.int .i64 a0_0, .int .i64 a0_1], 2⟩] : List Own) := by
    intro g211
    refine hstep [5] _ _ _ (by kernel_rfl) (List.cons_ne_nil _ _) ⟨?_, trivial⟩
    · show T _ _ _ _ _ _ _ _
      refine t_a (.bsl rfl rfl rfl rfl) fun g212 fg212 sg212 => ?_
      refine t_keep [2, 3, 5, 8, 9, 18] (σ' := [(2, .int .i64 0), (3, .int .i64 n3), (5, .pointer (some ⟨b209, 0, none⟩)), (8, .pointer (some ⟨b210, 0, none⟩)), (9, .slice (some ⟨g211, 0, none⟩) 1 1), (18, .slice (some ⟨g212, 0, none⟩) 1 1)]) (by kernel_rfl) ?_
      refine t_end ?_
      exact ⟨hg_7f g212 g211, rfl⟩
  have hg_3b : ∀ (g212 : Nat), G [true, true, false, true, true, true, false, false] [(2, .int .i64 0), (3, .int .i64 n3), (5, .pointer (some ⟨b209, 0, none⟩)), (8, .pointer (some ⟨b210, 0, none⟩)), (14, .int .i64 a0_0), (18, .slice (some ⟨g212, 0, none⟩) 1 1)] ([⟨g212, [.int .i64 a0_1], 1⟩, ⟨b210, [.int .i64 0, .int .i64 0], 2⟩, ⟨b209, [.int .i64 3, .int .i64 s1_1, .int .i64 s1_2, .int .i64 s1_3, .int .i64 s1_4, .int .i64 s1_5, .int .i64 s1_6], 7⟩, ⟨b208, [.int .i64 a0_0, .int .i64 a0_1], 2⟩] : List Own) := by
    intro g212
    refine hstep [2] _ _ _ (by kernel_rfl) (List.cons_ne_nil _ _) ⟨?_, trivial⟩
    · show T _ _ _ _ _ _ _ _
      refine t_a (.bsl rfl rfl rfl rfl) fun g211 fg211 sg211 => ?_
      refine t_keep [2, 3, 5, 8, 15, 18] (σ' := [(2, .int .i64 0), (3, .int .i64 n3), (5, .pointer (some ⟨b209, 0, none⟩)), (8, .pointer (some ⟨b210, 0, none⟩)), (15, .slice (some ⟨g211, 0, none⟩) 1 1), (18, .slice (some ⟨g212, 0, none⟩) 1 1)]) (by kernel_rfl) ?_
      refine t_vs (H' := ([⟨g212, [.int .i64 a0_1], 1⟩, ⟨g211, [.int .i64 a0_0], 1⟩, ⟨b210, [.int .i64 0, .int .i64 0], 2⟩, ⟨b209, [.int .i64 3, .int .i64 s1_1, .int .i64 s1_2, .int .i64 s1_3, .int .i64 s1_4, .int .i64 s1_5, .int .i64 s1_6], 7⟩, ⟨b208, [.int .i64 a0_0, .int .i64 a0_1], 2⟩] : List Own)) (S' := S) (VS.sel [1, 0, 0, 0, 0] (by kernel_rfl)) ?_
      refine t_end ?_
      exact ⟨hg_3f g212 g211, rfl⟩
  have hg_1f : ∀ (g211 : Nat), G [true, true, true, true, true, false, false, false] [(2, .int .i64 0), (3, .int .i64 n3), (5, .pointer (some ⟨b209, 0, none⟩)), (8, .pointer (some ⟨b210, 0, none⟩)), (15, .slice (some ⟨g211, 0, none⟩) 1 1), (17, .int .i64 a0_1)] ([⟨g211, [.int .i64 a0_0], 1⟩, ⟨b210, [.int .i64 0, .int .i64 0], 2⟩, ⟨b209, [.int .i64 3, .int .i64 s1_1, .int .i64 s1_2, .int .i64 s1_3, .int .i64 s1_4, .int .i64 s1_5, .int .i64 s1_6], 7⟩, ⟨b208, [.int .i64 a0_0, .int .i64 a0_1], 2⟩] : List Own) := by
    intro g211
    exact hqf 6 [2, 3, 5, 8, 9, 17] _ _ _ [(2, .int .i64 0), (3, .int .i64 n3), (5, .pointer (some ⟨b209, 0, none⟩)), (8, .pointer (some ⟨b210, 0, none⟩)), (9, .slice (some ⟨g211, 0, none⟩) 1 1), (17, .int .i64 a0_1)] (by kernel_rfl) (by kernel_rfl) (hg_5f g211)
  have hg_4f : ∀ (g211 : Nat), G [true, true, true, true, false, false, true, false] [(2, .int .i64 0), (3, .int .i64 n3), (5, .pointer (some ⟨b209, 0, none⟩)), (8, .pointer (some ⟨b210, 0, none⟩)), (9, .slice (some ⟨g211, 0, none⟩) 1 1), (16, .pointer (some ⟨b208, 1, none⟩))] ([⟨g211, [.int .i64 a0_0], 1⟩, ⟨b210, [.int .i64 0, .int .i64 0], 2⟩, ⟨b209, [.int .i64 3, .int .i64 s1_1, .int .i64 s1_2, .int .i64 s1_3, .int .i64 s1_4, .int .i64 s1_5, .int .i64 s1_6], 7⟩, ⟨b208, [.int .i64 a0_0, .int .i64 a0_1], 2⟩] : List Own) := by
    intro g211
    refine hstep [4] _ _ _ (by kernel_rfl) (List.cons_ne_nil _ _) ⟨?_, trivial⟩
    · show T _ _ _ _ _ _ _ _
      refine t_v (.ld1 rfl rfl rfl (.at 3 rfl rfl)) ?_
      refine t_keep [2, 3, 5, 8, 9, 17] (σ' := [(2, .int .i64 0), (3, .int .i64 n3), (5, .pointer (some ⟨b209, 0, none⟩)), (8, .pointer (some ⟨b210, 0, none⟩)), (9, .slice (some ⟨g211, 0, none⟩) 1 1), (17, .int .i64 a0_1)]) (by kernel_rfl) ?_
      refine t_end ?_
      exact ⟨hg_5f g211, rfl⟩
  have hg_f : ∀ (g211 : Nat), G [true, true, true, true, false, false, false, false] [(2, .int .i64 0), (3, .int .i64 n3), (5, .pointer (some ⟨b209, 0, none⟩)), (8, .pointer (some ⟨b210, 0, none⟩)), (15, .slice (some ⟨g211, 0, none⟩) 1 1), (16, .pointer (some ⟨b208, 1, none⟩))] ([⟨g211, [.int .i64 a0_0], 1⟩, ⟨b210, [.int .i64 0, .int .i64 0], 2⟩, ⟨b209, [.int .i64 3, .int .i64 s1_1, .int .i64 s1_2, .int .i64 s1_3, .int .i64 s1_4, .int .i64 s1_5, .int .i64 s1_6], 7⟩, ⟨b208, [.int .i64 a0_0, .int .i64 a0_1], 2⟩] : List Own) := by
    intro g211
    exact hqf 6 [2, 3, 5, 8, 9, 16] _ _ _ [(2, .int .i64 0), (3, .int .i64 n3), (5, .pointer (some ⟨b209, 0, none⟩)), (8, .pointer (some ⟨b210, 0, none⟩)), (9, .slice (some ⟨g211, 0, none⟩) 1 1), (16, .pointer (some ⟨b208, 1, none⟩))] (by kernel_rfl) (by kernel_rfl) (hg_4f g211)
  have hg_1b : G [true, true, false, true, true, false, false, false] [(2, .int .i64 0), (3, .int .i64 n3), (5, .pointer (some ⟨b209, 0, none⟩)), (8, .pointer (some ⟨b210, 0, none⟩)), (14, .int .i64 a0_0), (17, .int .i64 a0_1)] ([⟨b210, [.int .i64 0, .int .i64 0], 2⟩, ⟨b209, [.int .i64 3, .int .i64 s1_1, .int .i64 s1_2, .int .i64 s1_3, .int .i64 s1_4, .int .i64 s1_5, .int .i64 s1_6], 7⟩, ⟨b208, [.int .i64 a0_0, .int .i64 a0_1], 2⟩] : List Own) := by
    refine hstep [2, 5] _ _ _ (by kernel_rfl) (List.cons_ne_nil _ _) ⟨?_, ?_, trivial⟩
    · show T _ _ _ _ _ _ _ _
      refine t_a (.bsl rfl rfl rfl rfl) fun g211 fg211 sg211 => ?_
      refine t_keep [2, 3, 5, 8, 15, 17] (σ' := [(2, .int .i64 0), (3, .int .i64 n3), (5, .pointer (some ⟨b209, 0, none⟩)), (8, .pointer (some ⟨b210, 0, none⟩)), (15, .slice (some ⟨g211, 0, none⟩) 1 1), (17, .int .i64 a0_1)]) (by kernel_rfl) ?_
      refine t_end ?_
      exact ⟨hg_1f g211, rfl⟩
    · show T _ _ _ _ _ _ _ _
      refine t_a (.bsl rfl rfl rfl rfl) fun g212 fg212 sg212 => ?_
      refine t_keep [2, 3, 5, 8, 14, 18] (σ' := [(2, .int .i64 0), (3, .int .i64 n3), (5, .pointer (some ⟨b209, 0, none⟩)), (8, .pointer (some ⟨b210, 0, none⟩)), (14, .int .i64 a0_0), (18, .slice (some ⟨g212, 0, none⟩) 1 1)]) (by kernel_rfl) ?_
      refine t_end ?_
      exact ⟨hg_3b g212, rfl⟩
  have hg_39 : ∀ (g212 : Nat), G [true, false, false, true, true, true, false, false] [(2, .int .i64 0), (3, .int .i64 n3), (5, .pointer (some ⟨b209, 0, none⟩)), (8, .pointer (some ⟨b210, 0, none⟩)), (13, .pointer (some ⟨b208, 0, none⟩)), (18, .slice (some ⟨g212, 0, none⟩) 1 1)] ([⟨g212, [.int .i64 a0_1], 1⟩, ⟨b210, [.int .i64 0, .int .i64 0], 2⟩, ⟨b209, [.int .i64 3, .int .i64 s1_1, .int .i64 s1_2, .int .i64 s1_3, .int .i64 s1_4, .int .i64 s1_5, .int .i64 s1_6], 7⟩, ⟨b208, [.int .i64 a0_0, .int .i64 a0_1], 2⟩] : List Own) := by
    intro g212
    refine hstep [1] _ _ _ (by kernel_rfl) (List.cons_ne_nil _ _) ⟨?_, trivial⟩
    · show T _ _ _ _ _ _ _ _
      refine t_v (.ld1 rfl rfl rfl (.at 3 rfl rfl)) ?_
      refine t_keep [2, 3, 5, 8, 14, 18] (σ' := [(2, .int .i64 0), (3, .int .i64 n3), (5, .pointer (some ⟨b209, 0, none⟩)), (8, .pointer (some ⟨b210, 0, none⟩)), (14, .int .i64 a0_0), (18, .slice (some ⟨g212, 0, none⟩) 1 1)]) (by kernel_rfl) ?_
      refine t_end ?_
      exact ⟨hg_3b g212, rfl⟩
  have hg_b : G [true, true, false, true, false, false, false, false] [(2, .int .i64 0), (3, .int .i64 n3), (5, .pointer (some ⟨b209, 0, none⟩)), (8, .pointer (some ⟨b210, 0, none⟩)), (14, .int .i64 a0_0), (16, .pointer (some ⟨b208, 1, none⟩))] ([⟨b210, [.int .i64 0, .int .i64 0], 2⟩, ⟨b209, [.int .i64 3, .int .i64 s1_1, .int .i64 s1_2, .int .i64 s1_3, .int .i64 s1_4, .int .i64 s1_5, .int .i64 s1_6], 7⟩, ⟨b208, [.int .i64 a0_0, .int .i64 a0_1], 2⟩] : List Own) := by
    refine hstep [2, 4] _ _ _ (by kernel_rfl) (List.cons_ne_nil _ _) ⟨?_, ?_, trivial⟩
    · show T _ _ _ _ _ _ _ _
      refine t_a (.bsl rfl rfl rfl rfl) fun g211 fg211 sg211 => ?_
      refine t_keep [2, 3, 5, 8, 15, 16] (σ' := [(2, .int .i64 0), (3, .int .i64 n3), (5, .pointer (some ⟨b209, 0, none⟩)), (8, .pointer (some ⟨b210, 0, none⟩)), (15, .slice (some ⟨g211, 0, none⟩) 1 1), (16, .pointer (some ⟨b208, 1, none⟩))]) (by kernel_rfl) ?_
      refine t_end ?_
      exact ⟨hg_f g211, rfl⟩
    · show T _ _ _ _ _ _ _ _
      refine t_v (.ld1 rfl rfl rfl (.at 2 rfl rfl)) ?_
      refine t_keep [2, 3, 5, 8, 14, 17] (σ' := [(2, .int .i64 0), (3, .int .i64 n3), (5, .pointer (some ⟨b209, 0, none⟩)), (8, .pointer (some ⟨b210, 0, none⟩)), (14, .int .i64 a0_0), (17, .int .i64 a0_1)]) (by kernel_rfl) ?_
      refine t_end ?_
      exact ⟨hg_1b, rfl⟩
  have hg_19 : G [true, false, false, true, true, false, false, false] [(2, .int .i64 0), (3, .int .i64 n3), (5, .pointer (some ⟨b209, 0, none⟩)), (8, .pointer (some ⟨b210, 0, none⟩)), (13, .pointer (some ⟨b208, 0, none⟩)), (17, .int .i64 a0_1)] ([⟨b210, [.int .i64 0, .int .i64 0], 2⟩, ⟨b209, [.int .i64 3, .int .i64 s1_1, .int .i64 s1_2, .int .i64 s1_3, .int .i64 s1_4, .int .i64 s1_5, .int .i64 s1_6], 7⟩, ⟨b208, [.int .i64 a0_0, .int .i64 a0_1], 2⟩] : List Own) := by
    refine hstep [1, 5] _ _ _ (by kernel_rfl) (List.cons_ne_nil _ _) ⟨?_, ?_, trivial⟩
    · show T _ _ _ _ _ _ _ _
      refine t_v (.ld1 rfl rfl rfl (.at 2 rfl rfl)) ?_
      refine t_keep [2, 3, 5, 8, 14, 17] (σ' := [(2, .int .i64 0), (3, .int .i64 n3), (5, .pointer (some ⟨b209, 0, none⟩)), (8, .pointer (some ⟨b210, 0, none⟩)), (14, .int .i64 a0_0), (17, .int .i64 a0_1)]) (by kernel_rfl) ?_
      refine t_end ?_
      exact ⟨hg_1b, rfl⟩
    · show T _ _ _ _ _ _ _ _
      refine t_a (.bsl rfl rfl rfl rfl) fun g212 fg212 sg212 => ?_
      refine t_keep [2, 3, 5, 8, 13, 18] (σ' := [(2, .int .i64 0), (3, .int .i64 n3), (5, .pointer (some ⟨b209, 0, none⟩)), (8, .pointer (some ⟨b210, 0, none⟩)), (13, .pointer (some ⟨b208, 0, none⟩)), (18, .slice (some ⟨g212, 0, none⟩) 1 1)]) (by kernel_rfl) ?_
      refine t_end ?_
      exact ⟨hg_39 g212, rfl⟩
  have hg_9 : G [true, false, false, true, false, false, false, false] [(2, .int .i64 0), (3, .int .i64 n3), (5, .pointer (some ⟨b209, 0, none⟩)), (8, .pointer (some ⟨b210, 0, none⟩)), (13, .pointer (some ⟨b208, 0, none⟩)), (16, .pointer (some ⟨b208, 1, none⟩))] ([⟨b210, [.int .i64 0, .int .i64 0], 2⟩, ⟨b209, [.int .i64 3, .int .i64 s1_1, .int .i64 s1_2, .int .i64 s1_3, .int .i64 s1_4, .int .i64 s1_5, .int .i64 s1_6], 7⟩, ⟨b208, [.int .i64 a0_0, .int .i64 a0_1], 2⟩] : List Own) := by
    refine hstep [1, 4] _ _ _ (by kernel_rfl) (List.cons_ne_nil _ _) ⟨?_, ?_, trivial⟩
    · show T _ _ _ _ _ _ _ _
      refine t_v (.ld1 rfl rfl rfl (.at 2 rfl rfl)) ?_
      refine t_keep [2, 3, 5, 8, 14, 16] (σ' := [(2, .int .i64 0), (3, .int .i64 n3), (5, .pointer (some ⟨b209, 0, none⟩)), (8, .pointer (some ⟨b210, 0, none⟩)), (14, .int .i64 a0_0), (16, .pointer (some ⟨b208, 1, none⟩))]) (by kernel_rfl) ?_
      refine t_end ?_
      exact ⟨hg_b, rfl⟩
    · show T _ _ _ _ _ _ _ _
      refine t_v (.ld1 rfl rfl rfl (.at 2 rfl rfl)) ?_
      refine t_keep [2, 3, 5, 8, 13, 17] (σ' := [(2, .int .i64 0), (3, .int .i64 n3), (5, .pointer (some ⟨b209, 0, none⟩)), (8, .pointer (some ⟨b210, 0, none⟩)), (13, .pointer (some ⟨b208, 0, none⟩)), (17, .int .i64 a0_1)]) (by kernel_rfl) ?_
      refine t_end ?_
      exact ⟨hg_19, rfl⟩
  have hg_1 : G [true, false, false, false, false, false, false, false] [(2, .int .i64 0), (3, .int .i64 n3), (4, .pointer (some ⟨b208, 0, none⟩)), (5, .pointer (some ⟨b209, 0, none⟩)), (8, .pointer (some ⟨b210, 0, none⟩)), (13, .pointer (some ⟨b208, 0, none⟩))] ([⟨b210, [.int .i64 0, .int .i64 0], 2⟩, ⟨b209, [.int .i64 3, .int .i64 s1_1, .int .i64 s1_2, .int .i64 s1_3, .int .i64 s1_4, .int .i64 s1_5, .int .i64 s1_6], 7⟩, ⟨b208, [.int .i64 a0_0, .int .i64 a0_1], 2⟩] : List Own) := by
    exact hqf 3 [2, 3, 5, 8, 13, 16] _ _ _ [(2, .int .i64 0), (3, .int .i64 n3), (5, .pointer (some ⟨b209, 0, none⟩)), (8, .pointer (some ⟨b210, 0, none⟩)), (13, .pointer (some ⟨b208, 0, none⟩)), (16, .pointer (some ⟨b208, 1, none⟩))] (by kernel_rfl) (by kernel_rfl) hg_9
  have hg_0 : G [false, false, false, false, false, false, false, false] [(2, .int .i64 0), (3, .int .i64 n3), (4, .pointer (some ⟨b208, 0, none⟩)), (5, .pointer (some ⟨b209, 0, none⟩)), (8, .pointer (some ⟨b210, 0, none⟩))] ([⟨b210, [.int .i64 0, .int .i64 0], 2⟩, ⟨b209, [.int .i64 3, .int .i64 s1_1, .int .i64 s1_2, .int .i64 s1_3, .int .i64 s1_4, .int .i64 s1_5, .int .i64 s1_6], 7⟩, ⟨b208, [.int .i64 a0_0, .int .i64 a0_1], 2⟩] : List Own) := by
    exact hqf 0 [2, 3, 4, 5, 8, 13] _ _ _ [(2, .int .i64 0), (3, .int .i64 n3), (4, .pointer (some ⟨b208, 0, none⟩)), (5, .pointer (some ⟨b209, 0, none⟩)), (8, .pointer (some ⟨b210, 0, none⟩)), (13, .pointer (some ⟨b208, 0, none⟩))] (by kernel_rfl) (by kernel_rfl) hg_1
  exact hg_0

/-- glyphicref1.Down -/
def c47 : C :=
  (.seq (.reg [⟨(some 4), .mv (.const (.int .i64 0)), none⟩])
  (.seq (.seq (.reg [⟨(some 6), .mv (.tmp 1), none⟩,
      ⟨(some 7), .bin .lss (.tmp 6) (.const (.int .i64 1)), none⟩])
   (.cond (.tmp 7)
    (.seq (.reg [⟨(some 4), .mv (.const (.int .i64 0)), none⟩])
     .ret)
    .skip))
  (.seq (.reg [⟨(some 8), .mv (.tmp 0), none⟩,
     ⟨(some 9), .mv (.tmp 1), none⟩,
     ⟨(some 10), .bin .quo (.tmp 8) (.tmp 9), none⟩,
     ⟨(some 5), .mv (.tmp 10), none⟩])
  (.seq (.seq (.reg [⟨(some 11), .mv (.tmp 0), none⟩,
      ⟨(some 12), .mv (.tmp 1), none⟩,
      ⟨(some 13), .bin .rem (.tmp 11) (.tmp 12), none⟩,
      ⟨(some 14), .bin .lss (.tmp 13) (.const (.int .i64 0)), none⟩])
   (.cond (.tmp 14)
    (.reg [⟨(some 15), .mv (.tmp 5), none⟩,
       ⟨(some 16), .bin .sub (.tmp 15) (.const (.int .i64 1)), none⟩,
       ⟨(some 5), .mv (.tmp 16), none⟩])
    .skip))
  (.seq (.reg [⟨(some 17), .mv (.tmp 5), none⟩,
     ⟨(some 4), .mv (.tmp 17), none⟩])
  .ret)))))
def glyphicref1_Down.f (a0 : Int) (b1 : Int) : Option (Int) := if b1 < 1 then (some 0) else (if b1 = 0 then none else (if (Int.tmod a0 b1) < 0 then (some (wr64 ((wr64 (Int.tdiv a0 b1)) - 1))) else (some (wr64 (Int.tdiv a0 b1)))))
theorem glyphicref1_Down.ok {S : Seal} {a0 : Int} {b1 : Int} {r0_ : Int} (e : glyphicref1_Down.f a0 b1 = some r0_) :
    Cal Try.prog 47 [.int .i64 a0, .int .i64 b1] [] S fun v H' S' => v = .int .i64 r0_ ∧ H' = [] ∧ S' = S := by
  unfold glyphicref1_Down.f at e
  refine cal_of (c := c47) (N := 18) Try.func47 rfl rfl (by kernel_rfl) (rs := [.t 4]) (by kernel_rfl) (Nat.le_of_ble_eq_true rfl) ?_
  unfold c47
  refine w_seq ?_
  refine w_reg fun all => ?_
  refine t_qz 1 [0, 1] (σ' := [(0, .int .i64 a0), (1, .int .i64 b1)]) (by kernel_rfl) ?_
  refine t_end ?_
  show W _ _ _ _ _ _ _
  refine w_seq ?_
  refine w_seq ?_
  refine w_reg fun all => ?_
  by_cases c252 : b1 < 1
  · rw [if_pos c252] at e
    have c252b : (decide (b1 < 1)) = true := decide_eq_true c252
    refine t_qz 1 [0, 1, 6] (σ' := [(0, .int .i64 a0), (1, .int .i64 b1), (6, .int .i64 b1)]) (by kernel_rfl) ?_
    refine t_v (dv_quiet rfl (congrArg (fun t => some (Value.bool t)) c252b)) ?_
    refine t_keep [0, 1, 7] (σ' := [(0, .int .i64 a0), (1, .int .i64 b1), (7, .bool true)]) (by kernel_rfl) ?_
    refine t_end ?_
    show W _ _ _ _ _ _ _
    refine w_cond rfl (fun _ => ?_) (fun c_ => by cases c_)
    show W _ _ _ _ _ _ _
    refine w_seq ?_
    refine w_reg fun all => ?_
    refine t_qz 1 [4] (σ' := [(4, .int .i64 0)]) (by kernel_rfl) ?_
    refine t_end ?_
    show W _ _ _ _ _ _ _
    refine w_ret ?_
    obtain rfl := Option.some.inj e
    exact ⟨[.int .i64 0], [], S, ⟨rfl, trivial⟩, VS.none, rfl, rfl, rfl⟩
  · rw [if_neg c252] at e
    have c252b : (decide (b1 < 1)) = false := decide_eq_false c252
    refine t_qz 1 [0, 1, 6] (σ' := [(0, .int .i64 a0), (1, .int .i64 b1), (6, .int .i64 b1)]) (by kernel_rfl) ?_
    refine t_v (dv_quiet rfl (congrArg (fun t => some (Value.bool t)) c252b)) ?_
    refine t_keep [0, 1, 7] (σ' := [(0, .int .i64 a0), (1, .int .i64 b1), (7, .bool false)]) (by kernel_rfl) ?_
    refine t_end ?_
    show W _ _ _ _ _ _ _
    refine w_cond rfl (fun c_ => by cases c_) (fun _ => ?_)
    show W _ _ _ _ _ _ _
    refine w_skip ?_
    show W _ _ _ _ _ _ _
    refine w_seq ?_
    refine w_reg fun all => ?_
    have c253 : ¬ b1 = 0 := by
      intro h_; rw [if_pos h_] at e; cases e
    rw [if_neg c253] at e
    refine t_qz 2 [0, 1, 8, 9] (σ' := [(0, .int .i64 a0), (1, .int .i64 b1), (8, .int .i64 a0), (9, .int .i64 b1)]) (by kernel_rfl) ?_
    refine t_v (.quiet rfl (qv_quo rfl rfl c253)) ?_
    refine t_qz 1 [0, 1, 5] (σ' := [(0, .int .i64 a0), (1, .int .i64 b1), (5, .int .i64 (wr64 (Int.tdiv a0 b1)))]) (by kernel_rfl) ?_
    refine t_end ?_
    show W _ _ _ _ _ _ _
    refine w_seq ?_
    refine w_seq ?_
    refine w_reg fun all => ?_
    refine t_qz 2 [5, 11, 12] (σ' := [(5, .int .i64 (wr64 (Int.tdiv a0 b1))), (11, .int .i64 a0), (12, .int .i64 b1)]) (by kernel_rfl) ?_
    refine t_v (.quiet rfl (qv_rem rfl rfl c253)) ?_
    by_cases c254 : (Int.tmod a0 b1) < 0
    · rw [if_pos c254] at e
      have c254b : (decide ((Int.tmod a0 b1) < 0)) = true := decide_eq_true c254
      refine t_v (dv_quiet rfl (congrArg (fun t => some (Value.bool t)) c254b)) ?_
      refine t_keep [5, 14] (σ' := [(5, .int .i64 (wr64 (Int.tdiv a0 b1))), (14, .bool true)]) (by kernel_rfl) ?_
      refine t_end ?_
      show W _ _ _ _ _ _ _
      refine w_cond rfl (fun _ => ?_) (fun c_ => by cases c_)
      show W _ _ _ _ _ _ _
      refine w_reg fun all => ?_
      refine t_qz 3 [5] (σ' := [(5, .int .i64 (wr64 ((wr64 (Int.tdiv a0 b1)) - 1)))]) (by kernel_rfl) ?_
      refine t_end ?_
      show W _ _ _ _ _ _ _
      refine w_seq ?_
      refine w_reg fun all => ?_
      refine t_qz 2 [4] (σ' := [(4, .int .i64 (wr64 ((wr64 (Int.tdiv a0 b1)) - 1)))]) (by kernel_rfl) ?_
      refine t_end ?_
      show W _ _ _ _ _ _ _
      refine w_ret ?_
      obtain rfl := Option.some.inj e
      exact ⟨[.int .i64 (wr64 ((wr64 (Int.tdiv a0 b1)) - 1))], [], S, ⟨rfl, trivial⟩, VS.none, rfl, rfl, rfl⟩
    · rw [if_neg c254] at e
      have c254b : (decide ((Int.tmod a0 b1) < 0)) = false := decide_eq_false c254
      refine t_v (dv_quiet rfl (congrArg (fun t => some (Value.bool t)) c254b)) ?_
      refine t_keep [5, 14] (σ' := [(5, .int .i64 (wr64 (Int.tdiv a0 b1))), (14, .bool false)]) (by kernel_rfl) ?_
      refine t_end ?_
      show W _ _ _ _ _ _ _
      refine w_cond rfl (fun c_ => by cases c_) (fun _ => ?_)
      show W _ _ _ _ _ _ _
      refine w_skip ?_
      show W _ _ _ _ _ _ _
      refine w_seq ?_
      refine w_reg fun all => ?_
      refine t_qz 2 [4] (σ' := [(4, .int .i64 (wr64 (Int.tdiv a0 b1)))]) (by kernel_rfl) ?_
      refine t_end ?_
      show W _ _ _ _ _ _ _
      refine w_ret ?_
      obtain rfl := Option.some.inj e
      exact ⟨[.int .i64 (wr64 (Int.tdiv a0 b1))], [], S, ⟨rfl, trivial⟩, VS.none, rfl, rfl, rfl⟩

/-- glyphicref1.Round -/
def c29 : C :=
  (.seq (.reg [⟨(some 4), .mv (.const (.int .i64 0)), none⟩])
  (.seq (.seq (.reg [⟨(some 7), .mv (.tmp 1), none⟩,
      ⟨(some 8), .bin .lss (.tmp 7) (.const (.int .i64 1)), none⟩])
   (.cond (.tmp 8)
    (.seq (.reg [⟨(some 4), .mv (.const (.int .i64 0)), none⟩])
     .ret)
    .skip))
  (.seq (.reg [⟨(some 9), .mv (.tmp 0), none⟩,
     ⟨(some 10), .mv (.tmp 1), none⟩,
     ⟨(some 11), .call 47 [(.tmp 9), (.tmp 10)], none⟩,
     ⟨(some 5), .mv (.tmp 11), none⟩])
  (.seq (.reg [⟨(some 12), .mv (.tmp 0), none⟩,
     ⟨(some 13), .mv (.tmp 5), none⟩,
     ⟨(some 14), .mv (.tmp 1), none⟩,
     ⟨(some 15), .bin .mul (.tmp 13) (.tmp 14), none⟩,
     ⟨(some 16), .bin .sub (.tmp 12) (.tmp 15), none⟩,
     ⟨(some 6), .mv (.tmp 16), none⟩])
  (.seq (.seq (.reg [⟨(some 17), .mv (.tmp 6), none⟩,
      ⟨(some 18), .mv (.tmp 1), none⟩,
      ⟨(some 19), .mv (.tmp 6), none⟩,
      ⟨(some 20), .bin .sub (.tmp 18) (.tmp 19), none⟩,
      ⟨(some 21), .bin .geq (.tmp 17) (.tmp 20), none⟩])
   (.cond (.tmp 21)
    (.reg [⟨(some 22), .mv (.tmp 5), none⟩,
       ⟨(some 23), .bin .add (.tmp 22) (.const (.int .i64 1)), none⟩,
       ⟨(some 5), .mv (.tmp 23), none⟩])
    .skip))
  (.seq (.reg [⟨(some 24), .mv (.tmp 5), none⟩,
     ⟨(some 4), .mv (.tmp 24), none⟩])
  .ret))))))
def glyphicref1_Round.f (a0 : Int) (b1 : Int) : Option (Int) := if b1 < 1 then (some 0) else ((glyphicref1_Down.f a0 b1).bind fun t255 => (if (wr64 (a0 - (wr64 (t255 * b1)))) ≥ (wr64 (b1 - (wr64 (a0 - (wr64 (t255 * b1)))))) then (some (wr64 (t255 + 1))) else (some t255)))
theorem glyphicref1_Round.ok {S : Seal} {a0 : Int} {b1 : Int} {r0_ : Int} (e : glyphicref1_Round.f a0 b1 = some r0_) :
    Cal Try.prog 29 [.int .i64 a0, .int .i64 b1] [] S fun v H' S' => v = .int .i64 r0_ ∧ H' = [] ∧ S' = S := by
  unfold glyphicref1_Round.f at e
  refine cal_of (c := c29) (N := 25) Try.func29 rfl rfl (by kernel_rfl) (rs := [.t 4]) (by kernel_rfl) (Nat.le_of_ble_eq_true rfl) ?_
  unfold c29
  refine w_seq ?_
  refine w_reg fun all => ?_
  refine t_qz 1 [0, 1] (σ' := [(0, .int .i64 a0), (1, .int .i64 b1)]) (by kernel_rfl) ?_
  refine t_end ?_
  show W _ _ _ _ _ _ _
  refine w_seq ?_
  refine w_seq ?_
  refine w_reg fun all => ?_
  by_cases c251 : b1 < 1
  · rw [if_pos c251] at e
    have c251b : (decide (b1 < 1)) = true := decide_eq_true c251
    refine t_qz 1 [0, 1, 7] (σ' := [(0, .int .i64 a0), (1, .int .i64 b1), (7, .int .i64 b1)]) (by kernel_rfl) ?_
    refine t_v (dv_quiet rfl (congrArg (fun t => some (Value.bool t)) c251b)) ?_
    refine t_keep [0, 1, 8] (σ' := [(0, .int .i64 a0), (1, .int .i64 b1), (8, .bool true)]) (by kernel_rfl) ?_
    refine t_end ?_
    show W _ _ _ _ _ _ _
    refine w_cond rfl (fun _ => ?_) (fun c_ => by cases c_)
    show W _ _ _ _ _ _ _
    refine w_seq ?_
    refine w_reg fun all => ?_
    refine t_qz 1 [4] (σ' := [(4, .int .i64 0)]) (by kernel_rfl) ?_
    refine t_end ?_
    show W _ _ _ _ _ _ _
    refine w_ret ?_
    obtain rfl := Option.some.inj e
    exact ⟨[.int .i64 0], [], S, ⟨rfl, trivial⟩, VS.none, rfl, rfl, rfl⟩
  · rw [if_neg c251] at e
    have c251b : (decide (b1 < 1)) = false := decide_eq_false c251
    refine t_qz 1 [0, 1, 7] (σ' := [(0, .int .i64 a0), (1, .int .i64 b1), (7, .int .i64 b1)]) (by kernel_rfl) ?_
    refine t_v (dv_quiet rfl (congrArg (fun t => some (Value.bool t)) c251b)) ?_
    refine t_keep [0, 1, 8] (σ' := [(0, .int .i64 a0), (1, .int .i64 b1), (8, .bool false)]) (by kernel_rfl) ?_
    refine t_end ?_
    show W _ _ _ _ _ _ _
    refine w_cond rfl (fun c_ => by cases c_) (fun _ => ?_)
    show W _ _ _ _ _ _ _
    refine w_skip ?_
    show W _ _ _ _ _ _ _
    refine w_seq ?_
    refine w_reg fun all => ?_
    obtain ⟨t255, h256, e⟩ := bind_of e
    refine t_qz 2 [0, 1, 9, 10] (σ' := [(0, .int .i64 a0), (1, .int .i64 b1), (9, .int .i64 a0), (10, .int .i64 b1)]) (by kernel_rfl) ?_
    refine t_v (.call (vs := [.int .i64 a0, .int .i64 b1]) rfl rfl (by kernel_rfl) (glyphicref1_Down.ok h256)) ?_
    refine t_qz 1 [0, 1, 5] (σ' := [(0, .int .i64 a0), (1, .int .i64 b1), (5, .int .i64 t255)]) (by kernel_rfl) ?_
    refine t_end ?_
    show W _ _ _ _ _ _ _
    refine w_seq ?_
    refine w_reg fun all => ?_
    refine t_qz 6 [1, 5, 6] (σ' := [(1, .int .i64 b1), (5, .int .i64 t255), (6, .int .i64 (wr64 (a0 - (wr64 (t255 * b1)))))]) (by kernel_rfl) ?_
    refine t_end ?_
    show W _ _ _ _ _ _ _
    refine w_seq ?_
    refine w_seq ?_
    refine w_reg fun all => ?_
    by_cases c257 : (wr64 (a0 - (wr64 (t255 * b1)))) ≥ (wr64 (b1 - (wr64 (a0 - (wr64 (t255 * b1))))))
    · rw [if_pos c257] at e
      have c257b : (decide ((wr64 (a0 - (wr64 (t255 * b1)))) ≥ (wr64 (b1 - (wr64 (a0 - (wr64 (t255 * b1)))))))) = true := decide_eq_true c257
      refine t_qz 4 [5, 17, 20] (σ' := [(5, .int .i64 t255), (17, .int .i64 (wr64 (a0 - (wr64 (t255 * b1))))), (20, .int .i64 (wr64 (b1 - (wr64 (a0 - (wr64 (t255 * b1)))))))]) (by kernel_rfl) ?_
      refine t_v (dv_quiet rfl (congrArg (fun t => some (Value.bool t)) c257b)) ?_
      refine t_keep [5, 21] (σ' := [(5, .int .i64 t255), (21, .bool true)]) (by kernel_rfl) ?_
      refine t_end ?_
      show W _ _ _ _ _ _ _
      refine w_cond rfl (fun _ => ?_) (fun c_ => by cases c_)
      show W _ _ _ _ _ _ _
      refine w_reg fun all => ?_
      refine t_qz 3 [5] (σ' := [(5, .int .i64 (wr64 (t255 + 1)))]) (by kernel_rfl) ?_
      refine t_end ?_
      show W _ _ _ _ _ _ _
      refine w_seq ?_
      refine w_reg fun all => ?_
      refine t_qz 2 [4] (σ' := [(4, .int .i64 (wr64 (t255 + 1)))]) (by kernel_rfl) ?_
      refine t_end ?_
      show W _ _ _ _ _ _ _
      refine w_ret ?_
      obtain rfl := Option.some.inj e
      exact ⟨[.int .i64 (wr64 (t255 + 1))], [], S, ⟨rfl, trivial⟩, VS.none, rfl, rfl, rfl⟩
    · rw [if_neg c257] at e
      have c257b : (decide ((wr64 (a0 - (wr64 (t255 * b1)))) ≥ (wr64 (b1 - (wr64 (a0 - (wr64 (t255 * b1)))))))) = false := decide_eq_false c257
      refine t_qz 4 [5, 17, 20] (σ' := [(5, .int .i64 t255), (17, .int .i64 (wr64 (a0 - (wr64 (t255 * b1))))), (20, .int .i64 (wr64 (b1 - (wr64 (a0 - (wr64 (t255 * b1)))))))]) (by kernel_rfl) ?_
      refine t_v (dv_quiet rfl (congrArg (fun t => some (Value.bool t)) c257b)) ?_
      refine t_keep [5, 21] (σ' := [(5, .int .i64 t255), (21, .bool false)]) (by kernel_rfl) ?_
      refine t_end ?_
      show W _ _ _ _ _ _ _
      refine w_cond rfl (fun c_ => by cases c_) (fun _ => ?_)
      show W _ _ _ _ _ _ _
      refine w_skip ?_
      show W _ _ _ _ _ _ _
      refine w_seq ?_
      refine w_reg fun all => ?_
      refine t_qz 2 [4] (σ' := [(4, .int .i64 t255)]) (by kernel_rfl) ?_
      refine t_end ?_
      show W _ _ _ _ _ _ _
      refine w_ret ?_
      obtain rfl := Option.some.inj e
      exact ⟨[.int .i64 t255], [], S, ⟨rfl, trivial⟩, VS.none, rfl, rfl, rfl⟩

/-- glyphiclaw21.FlattenEnds -/
def c9 : C :=
  (.seq (.reg [⟨(some 5), .box (.tmp 0), none⟩,
     ⟨(some 6), .box (.tmp 1), none⟩,
     ⟨(some 7), .box (.tmp 2), none⟩,
     ⟨(some 8), .box (.tmp 3), none⟩,
     ⟨(some 10), .mv (.const (.bool false)), none⟩])
  (.seq (.reg [⟨(some 19), .call 22 [], none⟩,
     ⟨(some 11), .mv (.tmp 19), none⟩])
  (.seq (.seq (.reg [⟨(some 20), .mv (.tmp 11), none⟩,
      ⟨(some 21), .un .not (.tmp 20), none⟩])
   (.cond (.tmp 21)
    (.seq (.reg [⟨(some 10), .mv (.const (.bool false)), none⟩])
     .ret)
    .skip))
  (.seq (.drw [⟨(some 22), .ld (some 2) (.tmp 5), none⟩,
     ⟨(some 23), .call 25 [(.tmp 22)], none⟩,
     ⟨(some 24), .ld (some 2) (.tmp 6), none⟩,
     ⟨(some 25), .call 25 [(.tmp 24)], none⟩,
     ⟨(some 26), .ld (some 2) (.tmp 7), none⟩,
     ⟨(some 27), .call 25 [(.tmp 26)], none⟩,
     ⟨(some 28), .ld (some 2) (.tmp 8), none⟩,
     ⟨(some 29), .call 25 [(.tmp 28)], none⟩,
     ⟨none, .st 2 (.tmp 5) (.tmp 23), none⟩,
     ⟨none, .st 2 (.tmp 6) (.tmp 25), none⟩,
     ⟨none, .st 2 (.tmp 7) (.tmp 27), none⟩,
     ⟨none, .st 2 (.tmp 8) (.tmp 29), none⟩] [[], [0], [], [2, 1], [], [4, 3], [], [6, 5], [1, 7, 0, 1], [3, 8, 0, 1, 2, 3, 8], [5, 9, 0, 1, 2, 3, 4, 5, 8, 9], [7, 10, 0, 1, 2, 3, 4, 5, 6, 7, 8, 9, 10]])
  (.seq (.reg [⟨(some 30), .mv (.tmp 4), none⟩,
     ⟨(some 31), .bin .rem (.tmp 30) (.const (.int .i64 10)), none⟩,
     ⟨(some 32), .bin .add (.tmp 31) (.const (.int .i64 10)), none⟩,
     ⟨(some 33), .bin .rem (.tmp 32) (.const (.int .i64 10)), none⟩,
     ⟨(some 34), .cnv .u64 (.tmp 33), none⟩,
     ⟨(some 35), .bin .shl (.const (.int .i64 1)) (.tmp 34), none⟩,
     ⟨(some 12), .mv (.tmp 35), none⟩])
  (.seq (.reg [⟨(some 36), .ld (some 2) (.tmp 6), none⟩,
     ⟨(some 37), .ld (some 2) (.tmp 7), none⟩,
     ⟨(some 38), .bld [(.int .i64 0), (.int .i64 0), (.int .i64 0), (.int .i64 0), (.int .i64 0), (.int .i64 0)] [(0, 2, (.tmp 36)), (2, 2, (.tmp 37))], none⟩,
     ⟨(some 39), .bld [(.int .i64 0), (.int .i64 0), (.int .i64 0), (.int .i64 0), (.int .i64 0), (.int .i64 0), (.int .i64 0)] [(0, 1, (.const (.int .i64 2))), (1, 6, (.tmp 38))], none⟩,
     ⟨(some 13), .new [(.int .i64 0), (.int .i64 0), (.int .i64 0), (.int .i64 0), (.int .i64 0), (.int .i64 0), (.int .i64 0)], none⟩,
     ⟨none, .st 7 (.tmp 13) (.tmp 39), none⟩])
  (.seq (.reg [⟨(some 40), .ld (some 2) (.tmp 6), none⟩,
     ⟨(some 41), .ld (some 2) (.tmp 7), none⟩,
     ⟨(some 42), .ld (some 2) (.tmp 8), none⟩,
     ⟨(some 43), .bld [(.int .i64 0), (.int .i64 0), (.int .i64 0), (.int .i64 0), (.int .i64 0), (.int .i64 0)] [(0, 2, (.tmp 40)), (2, 2, (.tmp 41)), (4, 2, (.tmp 42))], none⟩,
     ⟨(some 44), .bld [(.int .i64 0), (.int .i64 0), (.int .i64 0), (.int .i64 0), (.int .i64 0), (.int .i64 0), (.int .i64 0)] [(0, 1, (.const (.int .i64 3))), (1, 6, (.tmp 43))], none⟩,
     ⟨(some 14), .new [(.int .i64 0), (.int .i64 0), (.int .i64 0), (.int .i64 0), (.int .i64 0), (.int .i64 0), (.int .i64 0)], none⟩,
     ⟨none, .st 7 (.tmp 14) (.tmp 44), none⟩])
  (.seq (.reg [⟨(some 45), .ld (some 2) (.tmp 6), none⟩,
     ⟨(some 46), .bld [(.int .i64 0), (.int .i64 0), (.int .i64 0), (.int .i64 0), (.int .i64 0), (.int .i64 0)] [(0, 2, (.tmp 45))], none⟩,
     ⟨(some 47), .bld [(.int .i64 0), (.int .i64 0), (.int .i64 0), (.int .i64 0), (.int .i64 0), (.int .i64 0), (.int .i64 0)] [(0, 1, (.const (.int .i64 1))), (1, 6, (.tmp 46))], none⟩,
     ⟨(some 15), .new [(.int .i64 0), (.int .i64 0), (.int .i64 0), (.int .i64 0), (.int .i64 0), (.int .i64 0), (.int .i64 0)], none⟩,
     ⟨none, .st 7 (.tmp 15) (.tmp 47), none⟩])
  (.seq (.reg [⟨(some 48), .ld (some 2) (.tmp 5), none⟩,
     ⟨(some 49), .ld (some 7) (.tmp 13), none⟩,
     ⟨(some 50), .mv (.tmp 12), none⟩,
     ⟨(some 51), .mv (.tmp 12), none⟩,
     ⟨(some 52), .bin .mul (.const (.int .i64 2)) (.tmp 51), none⟩,
     ⟨(some 53), .call 28 [(.tmp 48), (.tmp 49), (.tmp 50), (.tmp 52)], none⟩,
     ⟨(some 16), .new [(.int .i64 0), (.int .i64 0)], none⟩,
     ⟨none, .st 2 (.tmp 16) (.tmp 53), none⟩])
  (.seq (.reg [⟨(some 54), .ld (some 2) (.tmp 5), none⟩,
     ⟨(some 55), .ld (some 7) (.tmp 14), none⟩,
     ⟨(some 56), .mv (.tmp 12), none⟩,
     ⟨(some 57), .mv (.tmp 12), none⟩,
     ⟨(some 58), .bin .mul (.const (.int .i64 2)) (.tmp 57), none⟩,
     ⟨(some 59), .call 28 [(.tmp 54), (.tmp 55), (.tmp 56), (.tmp 58)], none⟩,
     ⟨(some 17), .new [(.int .i64 0), (.int .i64 0)], none⟩,
     ⟨none, .st 2 (.tmp 17) (.tmp 59), none⟩])
  (.seq (.reg [⟨(some 60), .ld (some 2) (.tmp 5), none⟩,
     ⟨(some 61), .ld (some 7) (.tmp 15), none⟩,
     ⟨(some 62), .mv (.tmp 12), none⟩,
     ⟨(some 63), .mv (.tmp 12), none⟩,
     ⟨(some 64), .bin .mul (.const (.int .i64 2)) (.tmp 63), none⟩,
     ⟨(some 65), .call 28 [(.tmp 60), (.tmp 61), (.tmp 62), (.tmp 64)], none⟩,
     ⟨(some 18), .new [(.int .i64 0), (.int .i64 0)], none⟩,
     ⟨none, .st 2 (.tmp 18) (.tmp 65), none⟩])
  (.seq (.drw [⟨(some 66), .mv (.tmp 11), none⟩,
     ⟨(some 67), .mv (.tmp 66), none⟩,
     ⟨(some 68), .ld (some 2) (.tmp 5), (some (67, true))⟩,
     ⟨(some 69), .ld (some 7) (.tmp 13), (some (67, true))⟩,
     ⟨(some 70), .mv (.tmp 12), (some (67, true))⟩,
     ⟨(some 71), .call 28 [(.tmp 68), (.tmp 69), (.const (.int .i64 0)), (.tmp 70)], (some (67, true))⟩,
     ⟨(some 72), .ld (some 2) (.tmp 5), (some (67, true))⟩,
     ⟨(some 73), .call 21 [(.tmp 71), (.tmp 72)], (some (67, true))⟩,
     ⟨(some 74), .pk (.tmp 67) (.tmp 73) (.const (.bool false)), none⟩,
     ⟨(some 75), .mv (.tmp 74), none⟩,
     ⟨(some 76), .ld (some 2) (.tmp 5), (some (75, true))⟩,
     ⟨(some 77), .ld (some 7) (.tmp 13), (some (75, true))⟩,
     ⟨(some 78), .mv (.tmp 12), (some (75, true))⟩,
     ⟨(some 79), .mv (.tmp 12), (some (75, true))⟩,
     ⟨(some 80), .call 28 [(.tmp 76), (.tmp 77), (.tmp 78), (.tmp 79)], (some (75, true))⟩,
     ⟨(some 81), .ld (some 2) (.tmp 7), (some (75, true))⟩,
     ⟨(some 82), .call 21 [(.tmp 80), (.tmp 81)], (some (75, true))⟩,
     ⟨(some 83), .pk (.tmp 75) (.tmp 82) (.const (.bool false)), none⟩,
     ⟨(some 84), .mv (.tmp 83), none⟩,
     ⟨(some 85), .ld (some 2) (.tmp 5), (some (84, true))⟩,
     ⟨(some 86), .ld (some 7) (.tmp 14), (some (84, true))⟩,
     ⟨(some 87), .mv (.tmp 12), (some (84, true))⟩,
     ⟨(some 88), .call 28 [(.tmp 85), (.tmp 86), (.const (.int .i64 0)), (.tmp 87)], (some (84, true))⟩,
     ⟨(some 89), .ld (some 2) (.tmp 5), (some (84, true))⟩,
     ⟨(some 90), .call 21 [(.tmp 88), (.tmp 89)], (some (84, true))⟩,
     ⟨(some 91), .pk (.tmp 84) (.tmp 90) (.const (.bool false)), none⟩,
     ⟨(some 92), .mv (.tmp 91), none⟩,
     ⟨(some 93), .ld (some 2) (.tmp 5), (some (92, true))⟩,
     ⟨(some 94), .ld (some 7) (.tmp 14), (some (92, true))⟩,
     ⟨(some 95), .mv (.tmp 12), (some (92, true))⟩,
     ⟨(some 96), .mv (.tmp 12), (some (92, true))⟩,
     ⟨(some 97), .call 28 [(.tmp 93), (.tmp 94), (.tmp 95), (.tmp 96)], (some (92, true))⟩,
     ⟨(some 98), .ld (some 2) (.tmp 8), (some (92, true))⟩,
     ⟨(some 99), .call 21 [(.tmp 97), (.tmp 98)], (some (92, true))⟩,
     ⟨(some 100), .pk (.tmp 92) (.tmp 99) (.const (.bool false)), none⟩,
     ⟨(some 101), .mv (.tmp 100), none⟩,
     ⟨(some 102), .pad 0 (.tmp 16), (some (101, true))⟩,
     ⟨(some 103), .ld none (.tmp 102), (some (101, true))⟩,
     ⟨(some 104), .pad 0 (.tmp 5), (some (101, true))⟩,
     ⟨(some 105), .ld none (.tmp 104), (some (101, true))⟩,
     ⟨(some 106), .pad 0 (.tmp 6), (some (101, true))⟩,
     ⟨(some 107), .ld none (.tmp 106), (some (101, true))⟩,
     ⟨(some 108), .bin .mul (.const (.int .i64 2)) (.tmp 107), (some (101, true))⟩,
     ⟨(some 109), .bin .add (.tmp 105) (.tmp 108), (some (101, true))⟩,
     ⟨(some 110), .pad 0 (.tmp 7), (some (101, true))⟩,
     ⟨(some 111), .ld none (.tmp 110), (some (101, true))⟩,
     ⟨(some 112), .bin .add (.tmp 109) (.tmp 111), (some (101, true))⟩,
     ⟨(some 113), .call 29 [(.tmp 112), (.const (.int .i64 4))], (some (101, true))⟩,
     ⟨(some 114), .bin .eql (.tmp 103) (.tmp 113), (some (101, true))⟩,
     ⟨(some 115), .pk (.tmp 101) (.tmp 114) (.const (.bool false)), none⟩,
     ⟨(some 116), .mv (.tmp 115), none⟩,
     ⟨(some 117), .pad 1 (.tmp 16), (some (116, true))⟩,
     ⟨(some 118), .ld none (.tmp 117), (some (116, true))⟩,
     ⟨(some 119), .pad 1 (.tmp 5), (some (116, true))⟩,
     ⟨(some 120), .ld none (.tmp 119), (some (116, true))⟩,
     ⟨(some 121), .pad 1 (.tmp 6), (some (116, true))⟩,
     ⟨(some 122), .ld none (.tmp 121), (some (116, true))⟩,
     ⟨(some 123), .bin .mul (.const (.int .i64 2)) (.tmp 122), (some (116, true))⟩,
     ⟨(some 124), .bin .add (.tmp 120) (.tmp 123), (some (116, true))⟩,
     ⟨(some 125), .pad 1 (.tmp 7), (some (116, true))⟩,
     ⟨(some 126), .ld none (.tmp 125), (some (116, true))⟩,
     ⟨(some 127), .bin .add (.tmp 124) (.tmp 126), (some (116, true))⟩,
     ⟨(some 128), .call 29 [(.tmp 127), (.const (.int .i64 4))], (some (116, true))⟩,
     ⟨(some 129), .bin .eql (.tmp 118) (.tmp 128), (some (116, true))⟩,
     ⟨(some 130), .pk (.tmp 116) (.tmp 129) (.const (.bool false)), none⟩,
     ⟨(some 131), .mv (.tmp 130), none⟩,
     ⟨(some 132), .pad 0 (.tmp 17), (some (131, true))⟩,
     ⟨(some 133), .ld none (.tmp 132), (some (131, true))⟩,
     ⟨(some 134), .pad 0 (.tmp 5), (some (131, true))⟩,
     ⟨(some 135), .ld none (.tmp 134), (some (131, true))⟩,
     ⟨(some 136), .pad 0 (.tmp 6), (some (131, true))⟩,
     ⟨(some 137), .ld none (.tmp 136), (some (131, true))⟩,
     ⟨(some 138), .bin .mul (.const (.int .i64 3)) (.tmp 137), (some (131, true))⟩,
     ⟨(some 139), .bin .add (.tmp 135) (.tmp 138), (some (131, true))⟩,
     ⟨(some 140), .pad 0 (.tmp 7), (some (131, true))⟩,
     ⟨(some 141), .ld none (.tmp 140), (some (131, true))⟩,
     ⟨(some 142), .bin .mul (.const (.int .i64 3)) (.tmp 141), (some (131, true))⟩,
     ⟨(some 143), .bin .add (.tmp 139) (.tmp 142), (some (131, true))⟩,
     ⟨(some 144), .pad 0 (.tmp 8), (some (131, true))⟩,
     ⟨(some 145), .ld none (.tmp 144), (some (131, true))⟩,
     ⟨(some 146), .bin .add (.tmp 143) (.tmp 145), (some (131, true))⟩,
     ⟨(some 147), .call 29 [(.tmp 146), (.const (.int .i64 8))], (some (131, true))⟩,
     ⟨(some 148), .bin .eql (.tmp 133) (.tmp 147), (some (131, true))⟩,
     ⟨(some 149), .pk (.tmp 131) (.tmp 148) (.const (.bool false)), none⟩,
     ⟨(some 150), .mv (.tmp 149), none⟩,
     ⟨(some 151), .pad 1 (.tmp 18), (some (150, true))⟩,
     ⟨(some 152), .ld none (.tmp 151), (some (150, true))⟩,
     ⟨(some 153), .pad 1 (.tmp 5), (some (150, true))⟩,
     ⟨(some 154), .ld none (.tmp 153), (some (150, true))⟩,
     ⟨(some 155), .pad 1 (.tmp 6), (some (150, true))⟩,
     ⟨(some 156), .ld none (.tmp 155), (some (150, true))⟩,
     ⟨(some 157), .bin .add (.tmp 154) (.tmp 156), (some (150, true))⟩,
     ⟨(some 158), .call 29 [(.tmp 157), (.const (.int .i64 2))], (some (150, true))⟩,
     ⟨(some 159), .bin .eql (.tmp 152) (.tmp 158), (some (150, true))⟩,
     ⟨(some 160), .pk (.tmp 150) (.tmp 159) (.const (.bool false)), none⟩,
     ⟨(some 10), .mv (.tmp 160), none⟩] [[], [0], [1], [1], [1], [2, 3, 4, 1, 1], [1], [5, 6, 5, 1], [1, 7], [8, 7], [9], [9], [9], [9], [10, 11, 12, 13, 9, 9], [9], [14, 15, 14, 9], [9, 16], [17, 16], [18], [18], [18], [19, 20, 21, 18, 18], [18], [22, 23, 22, 18], [18, 24], [25, 24], [26], [26], [26], [26], [27, 28, 29, 30, 26, 26], [26], [31, 32, 31, 26], [26, 33], [34, 33], [35], [36, 35], [35], [38, 35], [35], [40, 35], [41, 35], [39, 42, 35], [35], [44, 35], [43, 45, 35], [46, 35, 35], [37, 47, 35], [35, 48], [49, 47], [50], [51, 50], [50], [53, 50], [50], [55, 50], [56, 50], [54, 57, 50], [50], [59, 50], [58, 60, 50], [61, 50, 50], [52, 62, 50], [50, 63], [64, 62], [65], [66, 65], [65], [68, 65], [65], [70, 65], [71, 65], [69, 72, 65], [65], [74, 65], [75, 65], [73, 76, 65], [65], [78, 65], [77, 79, 65], [80, 65, 65], [67, 81, 65], [65, 82], [83, 81], [84], [85, 84], [84], [87, 84], [84], [89, 84], [88, 90, 84], [91, 84, 84], [86, 92, 84], [84, 93], [94, 92, 0, 1, 2, 3, 4, 5, 6, 7, 8, 9, 10, 11, 12, 13, 14, 15, 16, 17, 18, 19, 20, 21, 22, 23, 24, 25, 26, 27, 28, 29, 30, 31, 32, 33, 34, 35, 36, 37, 38, 39, 40, 41, 42, 43, 44, 45, 46, 47, 48, 49, 50, 51, 52, 53, 54, 55, 56, 57, 58, 59, 60, 61, 62, 63, 64, 65, 66, 67, 68, 69, 70, 71, 72, 73, 74, 75, 76, 77, 78, 79, 80, 81, 82, 83, 84, 85, 86, 87, 88, 89, 90, 91, 92, 93, 94]])
  .ret))))))))))))
def glyphiclaw21_FlattenEnds.f (t0_X : Int) (t0_Y : Int) (o1_X : Int) (o1_Y : Int) (A2_X : Int) (A2_Y : Int) (r3_X : Int) (r3_Y : Int) (r4 : Int) : Option (Bool) := (glyphiclaw21_first.f).bind fun t44 => (if t44 = true then ((glyphiclaw21_cut.f t0_X t0_Y).bind fun (t46, t47) => ((glyphiclaw21_cut.f o1_X o1_Y).bind fun (t49, t50) => ((glyphiclaw21_cut.f A2_X A2_Y).bind fun (t52, t53) => ((glyphiclaw21_cut.f r3_X r3_Y).bind fun (t55, t56) => (if (wru64 (Int.tmod (wr64 ((Int.tmod r4 10) + 10)) 10)) < 0 then none else ((flatten_Point_v2.f t46 t47 t49 t50 t52 t53 (wr64 (1 * 2 ^ (min (Int.toNat (wru64 (Int.tmod (wr64 ((Int.tmod r4 10) + 10)) 10))) 64))) (wr64 (2 * (wr64 (1 * 2 ^ (min (Int.toNat (wru64 (Int.tmod (wr64 ((Int.tmod r4 10) + 10)) 10))) 64)))))).bind fun (t93, t94) => ((flatten_Point_v3.f t46 t47 t49 t50 t52 t53 t55 t56 (wr64 (1 * 2 ^ (min (Int.toNat (wru64 (Int.tmod (wr64 ((Int.tmod r4 10) + 10)) 10))) 64))) (wr64 (2 * (wr64 (1 * 2 ^ (min (Int.toNat (wru64 (Int.tmod (wr64 ((Int.tmod r4 10) + 10)) 10))) 64)))))).bind fun (t133, t134) => ((flatten_Point_v4.f t46 t47 t49 t50 (wr64 (1 * 2 ^ (min (Int.toNat (wru64 (Int.tmod (wr64 ((Int.tmod r4 10) + 10)) 10))) 64))) (wr64 (2 * (wr64 (1 * 2 ^ (min (Int.toNat (wru64 (Int.tmod (wr64 ((Int.tmod r4 10) + 10)) 10))) 64)))))).bind fun (t163, t164) => ((flatten_Point_v5.f t46 t47 t49 t50 t52 t53 (wr64 (1 * 2 ^ (min (Int.toNat (wru64 (Int.tmod (wr64 ((Int.tmod r4 10) + 10)) 10))) 64)))).bind fun (t167, t168) => ((glyphicref_SamePoint.f t167 t168 t46 t47).bind fun t170 => (if t170 = true then ((flatten_Point_v2.f t46 t47 t49 t50 t52 t53 (wr64 (1 * 2 ^ (min (Int.toNat (wru64 (Int.tmod (wr64 ((Int.tmod r4 10) + 10)) 10))) 64))) (wr64 (1 * 2 ^ (min (Int.toNat (wru64 (Int.tmod (wr64 ((Int.tmod r4 10) + 10)) 10))) 64)))).bind fun (t172, t173) => ((glyphicref_SamePoint.f t172 t173 t52 t53).bind fun t175 => (if t175 = true then ((flatten_Point_v6.f t46 t47 t49 t50 t52 t53 t55 t56 (wr64 (1 * 2 ^ (min (Int.toNat (wru64 (Int.tmod (wr64 ((Int.tmod r4 10) + 10)) 10))) 64)))).bind fun (t177, t178) => ((glyphicref_SamePoint.f t177 t178 t46 t47).bind fun t180 => (if t180 = true then ((flatten_Point_v3.f t46 t47 t49 t50 t52 t53 t55 t56 (wr64 (1 * 2 ^ (min (Int.toNat (wru64 (Int.tmod (wr64 ((Int.tmod r4 10) + 10)) 10))) 64))) (wr64 (1 * 2 ^ (min (Int.toNat (wru64 (Int.tmod (wr64 ((Int.tmod r4 10) + 10)) 10))) 64)))).bind fun (t182, t183) => ((glyphicref_SamePoint.f t182 t183 t55 t56).bind fun t185 => (if t185 = true then ((glyphicref1_Round.f (wr64 ((wr64 (t46 + (wr64 (2 * t49)))) + t52)) 4).bind fun t187 => (if t93 = t187 then ((glyphicref1_Round.f (wr64 ((wr64 (t47 + (wr64 (2 * t50)))) + t53)) 4).bind fun t190 => (if t94 = t190 then ((glyphicref1_Round.f (wr64 ((wr64 ((wr64 (t46 + (wr64 (3 * t49)))) + (wr64 (3 * t52)))) + t55)) 8).bind fun t193 => (if t133 = t193 then ((glyphicref1_Round.f (wr64 (t47 + t50)) 2).bind fun t196 => (some (t164 == t196))) else (some false))) else (some false))) else (some false))) else (some false)))) else (some false)))) else (some false)))) else (some false)))))))))))) else (some false))
theorem glyphiclaw21_FlattenEnds.ok {S : Seal} {t0_X : Int} {t0_Y : Int} {o1_X : Int} {o1_Y : Int} {A2_X : Int} {A2_Y : Int} {r3_X : Int} {r3_Y : Int} {r4 : Int}  (e : glyphiclaw21_FlattenEnds.f t0_X t0_Y o1_X o1_Y A2_X A2_Y r3_X r3_Y r4 = some true) :
    Cal Try.prog 9 [.agg #[.int .i64 t0_X, .int .i64 t0_Y], .agg #[.int .i64 o1_X, .int .i64 o1_Y], .agg #[.int .i64 A2_X, .int .i64 A2_Y], .agg #[.int .i64 r3_X, .int .i64 r3_Y], .int .i64 r4] [] S fun v H' S' => v = .bool true ∧ H' = [] ∧ S' = S := by
  unfold glyphiclaw21_FlattenEnds.f at e
  refine cal_of (c := c9) (N := 161) Try.func9 rfl rfl (by kernel_rfl) (rs := [.t 10]) (by kernel_rfl) (Nat.le_of_ble_eq_true rfl) ?_
  unfold c9
  refine w_seq ?_
  refine w_reg fun all => ?_
  refine t_a (.box rfl rfl rfl) fun b1 fb1 sb1 => ?_
  refine t_a (.box rfl rfl rfl) fun b2 fb2 sb2 => ?_
  refine t_a (.box rfl rfl rfl) fun b3 fb3 sb3 => ?_
  refine t_a (.box rfl rfl rfl) fun b4 fb4 sb4 => ?_
  refine t_qz 1 [4, 5, 6, 7, 8] (σ' := [(4, .int .i64 r4), (5, .pointer (some ⟨b1, 0, none⟩)), (6, .pointer (some ⟨b2, 0, none⟩)), (7, .pointer (some ⟨b3, 0, none⟩)), (8, .pointer (some ⟨b4, 0, none⟩))]) (by kernel_rfl) ?_
  refine t_end ?_
  show W _ _ _ _ _ _ _
  refine w_seq ?_
  refine w_reg fun all => ?_
  obtain ⟨t44, h45, e⟩ := bind_of e
  cases t44 with
  | true =>
    rw [if_pos rfl] at e
    refine t_v (.call (vs := []) rfl rfl (by kernel_rfl) (glyphiclaw21_first.ok h45)) ?_
    refine t_qz 1 [4, 5, 6, 7, 8, 11] (σ' := [(4, .int .i64 r4), (5, .pointer (some ⟨b1, 0, none⟩)), (6, .pointer (some ⟨b2, 0, none⟩)), (7, .pointer (some ⟨b3, 0, none⟩)), (8, .pointer (some ⟨b4, 0, none⟩)), (11, .bool true)]) (by kernel_rfl) ?_
    refine t_end ?_
    show W _ _ _ _ _ _ _
    refine w_seq ?_
    refine w_seq ?_
    refine w_reg fun all => ?_
    refine t_qz 2 [4, 5, 6, 7, 8, 11, 21] (σ' := [(4, .int .i64 r4), (5, .pointer (some ⟨b1, 0, none⟩)), (6, .pointer (some ⟨b2, 0, none⟩)), (7, .pointer (some ⟨b3, 0, none⟩)), (8, .pointer (some ⟨b4, 0, none⟩)), (11, .bool true), (21, .bool false)]) (by kernel_rfl) ?_
    refine t_end ?_
    show W _ _ _ _ _ _ _
    refine w_cond rfl (fun c_ => by cases c_) (fun _ => ?_)
    show W _ _ _ _ _ _ _
    refine w_skip ?_
    show W _ _ _ _ _ _ _
    refine w_seq ?_
    obtain ⟨⟨t46, t47⟩, h48, e⟩ := bind_of e
    try dsimp only at e
    obtain ⟨⟨t49, t50⟩, h51, e⟩ := bind_of e
    try dsimp only at e
    obtain ⟨⟨t52, t53⟩, h54, e⟩ := bind_of e
    try dsimp only at e
    obtain ⟨⟨t55, t56⟩, h57, e⟩ := bind_of e
    try dsimp only at e
    refine w_drwE mixed 8 [.v (.agg #[.int .i64 t0_X, .int .i64 t0_Y]), .v (.agg #[.int .i64 t46, .int .i64 t47]), .v (.agg #[.int .i64 o1_X, .int .i64 o1_Y]), .v (.agg #[.int .i64 t49, .int .i64 t50]), .v (.agg #[.int .i64 A2_X, .int .i64 A2_Y]), .v (.agg #[.int .i64 t52, .int .i64 t53]), .v (.agg #[.int .i64 r3_X, .int .i64 r3_Y]), .v (.agg #[.int .i64 t55, .int .i64 t56])] (by kernel_rfl) ?_ ?_
    · refine .cons (.ldn rfl rfl rfl (.at 3 rfl rfl)) ?_
      refine .cons (.call (vs := [.agg #[.int .i64 t0_X, .int .i64 t0_Y]]) rfl rfl (by kernel_rfl) (glyphiclaw21_cut.ok h48)) ?_
      refine .cons (.ldn rfl rfl rfl (.at 2 rfl rfl)) ?_
      refine .cons (.call (vs := [.agg #[.int .i64 o1_X, .int .i64 o1_Y]]) rfl rfl (by kernel_rfl) (glyphiclaw21_cut.ok h51)) ?_
      refine .cons (.ldn rfl rfl rfl (.at 1 rfl rfl)) ?_
      refine .cons (.call (vs := [.agg #[.int .i64 A2_X, .int .i64 A2_Y]]) rfl rfl (by kernel_rfl) (glyphiclaw21_cut.ok h54)) ?_
      refine .cons (.ldn rfl rfl rfl (.at 0 rfl rfl)) ?_
      refine .cons (.call (vs := [.agg #[.int .i64 r3_X, .int .i64 r3_Y]]) rfl rfl (by kernel_rfl) (glyphiclaw21_cut.ok h57)) ?_
      exact .nil
    refine fk_q 8 [4, 5, 6, 7, 8, 11, 23, 25, 27, 29] (σ' := [(4, .int .i64 r4), (5, .pointer (some ⟨b1, 0, none⟩)), (6, .pointer (some ⟨b2, 0, none⟩)), (7, .pointer (some ⟨b3, 0, none⟩)), (8, .pointer (some ⟨b4, 0, none⟩)), (11, .bool true), (23, .agg #[.int .i64 t46, .int .i64 t47]), (25, .agg #[.int .i64 t49, .int .i64 t50]), (27, .agg #[.int .i64 t52, .int .i64 t53]), (29, .agg #[.int .i64 t55, .int .i64 t56])]) t_more (by kernel_rfl) ?_
    refine fk_nil fun all => ?_
    refine t_sti 3 (cs := [.int .i64 t46, .int .i64 t47]) rfl rfl rfl rfl rfl rfl rfl rfl rfl ?_
    refine t_sti 2 (cs := [.int .i64 t49, .int .i64 t50]) rfl rfl rfl rfl rfl rfl rfl rfl rfl ?_
    refine t_sti 1 (cs := [.int .i64 t52, .int .i64 t53]) rfl rfl rfl rfl rfl rfl rfl rfl rfl ?_
    refine t_sti 0 (cs := [.int .i64 t55, .int .i64 t56]) rfl rfl rfl rfl rfl rfl rfl rfl rfl ?_
    refine t_keep [4, 5, 6, 7, 8, 11] (σ' := [(4, .int .i64 r4), (5, .pointer (some ⟨b1, 0, none⟩)), (6, .pointer (some ⟨b2, 0, none⟩)), (7, .pointer (some ⟨b3, 0, none⟩)), (8, .pointer (some ⟨b4, 0, none⟩)), (11, .bool true)]) (by kernel_rfl) ?_
    refine t_end ?_
    show W _ _ _ _ _ _ _
    refine w_seq ?_
    refine w_reg fun all => ?_
    have c58 : ¬ (wru64 (Int.tmod (wr64 ((Int.tmod r4 10) + 10)) 10)) < 0 := by
      intro h_; rw [if_pos h_] at e; cases e
    rw [if_neg c58] at e
    refine t_qz 5 [5, 6, 7, 8, 11, 34] (σ' := [(5, .pointer (some ⟨b1, 0, none⟩)), (6, .pointer (some ⟨b2, 0, none⟩)), (7, .pointer (some ⟨b3, 0, none⟩)), (8, .pointer (some ⟨b4, 0, none⟩)), (11, .bool true), (34, .int .u64 (wru64 (Int.tmod (wr64 ((Int.tmod r4 10) + 10)) 10)))]) (by kernel_rfl) ?_
    refine t_v (.quiet rfl (qv_shl rfl rfl c58)) ?_
    refine t_qz 1 [5, 6, 7, 8, 11, 12] (σ' := [(5, .pointer (some ⟨b1, 0, none⟩)), (6, .pointer (some ⟨b2, 0, none⟩)), (7, .pointer (some ⟨b3, 0, none⟩)), (8, .pointer (some ⟨b4, 0, none⟩)), (11, .bool true), (12, .int .i64 (wr64 (1 * 2 ^ (min (Int.toNat (wru64 (Int.tmod (wr64 ((Int.tmod r4 10) + 10)) 10))) 64))))]) (by kernel_rfl) ?_
    refine t_end ?_
    show W _ _ _ _ _ _ _
    refine w_seq ?_
    refine w_reg fun all => ?_
    refine t_v (.ldn rfl rfl rfl (.at 2 rfl rfl)) ?_
    refine t_v (.ldn rfl rfl rfl (.at 1 rfl rfl)) ?_
    refine t_qz 2 [5, 6, 7, 8, 11, 12, 39] (σ' := [(5, .pointer (some ⟨b1, 0, none⟩)), (6, .pointer (some ⟨b2, 0, none⟩)), (7, .pointer (some ⟨b3, 0, none⟩)), (8, .pointer (some ⟨b4, 0, none⟩)), (11, .bool true), (12, .int .i64 (wr64 (1 * 2 ^ (min (Int.toNat (wru64 (Int.tmod (wr64 ((Int.tmod r4 10) + 10)) 10))) 64)))), (39, .agg #[.int .i64 2, .int .i64 t49, .int .i64 t50, .int .i64 t52, .int .i64 t53, .int .i64 0, .int .i64 0])]) (by kernel_rfl) ?_
    refine t_a (.new rfl rfl) fun b59 fb59 sb59 => ?_
    refine t_sti 0 (cs := [.int .i64 2, .int .i64 t49, .int .i64 t50, .int .i64 t52, .int .i64 t53, .int .i64 0, .int .i64 0]) rfl rfl rfl rfl rfl rfl rfl rfl rfl ?_
    refine t_keep [5, 6, 7, 8, 11, 12, 13] (σ' := [(5, .pointer (some ⟨b1, 0, none⟩)), (6, .pointer (some ⟨b2, 0, none⟩)), (7, .pointer (some ⟨b3, 0, none⟩)), (8, .pointer (some ⟨b4, 0, none⟩)), (11, .bool true), (12, .int .i64 (wr64 (1 * 2 ^ (min (Int.toNat (wru64 (Int.tmod (wr64 ((Int.tmod r4 10) + 10)) 10))) 64)))), (13, .pointer (some ⟨b59, 0, none⟩))]) (by kernel_rfl) ?_
    refine t_end ?_
    show W _ _ _ _ _ _ _
    refine w_seq ?_
    refine w_reg fun all => ?_
    refine t_v (.ldn rfl rfl rfl (.at 3 rfl rfl)) ?_
    refine t_v (.ldn rfl rfl rfl (.at 2 rfl rfl)) ?_
    refine t_v (.ldn rfl rfl rfl (.at 1 rfl rfl)) ?_
    refine t_qz 2 [5, 6, 7, 8, 11, 12, 13, 44] (σ' := [(5, .pointer (some ⟨b1, 0, none⟩)), (6, .pointer (some ⟨b2, 0, none⟩)), (7, .pointer (some ⟨b3, 0, none⟩)), (8, .pointer (some ⟨b4, 0, none⟩)), (11, .bool true), (12, .int .i64 (wr64 (1 * 2 ^ (min (Int.toNat (wru64 (Int.tmod (wr64 ((Int.tmod r4 10) + 10)) 10))) 64)))), (13, .pointer (some ⟨b59, 0, none⟩)), (44, .agg #[.int .i64 3, .int .i64 t49, .int .i64 t50, .int .i64 t52, .int .i64 t53, .int .i64 t55, .int .i64 t56])]) (by kernel_rfl) ?_
    refine t_a (.new rfl rfl) fun b60 fb60 sb60 => ?_
    refine t_sti 0 (cs := [.int .i64 3, .int .i64 t49, .int .i64 t50, .int .i64 t52, .int .i64 t53, .int .i64 t55, .int .i64 t56]) rfl rfl rfl rfl rfl rfl rfl rfl rfl ?_
    refine t_keep [5, 6, 7, 8, 11, 12, 13, 14] (σ' := [(5, .pointer (some ⟨b1, 0, none⟩)), (6, .pointer (some ⟨b2, 0, none⟩)), (7, .pointer (some ⟨b3, 0, none⟩)), (8, .pointer (some ⟨b4, 0, none⟩)), (11, .bool true), (12, .int .i64 (wr64 (1 * 2 ^ (min (Int.toNat (wru64 (Int.tmod (wr64 ((Int.tmod r4 10) + 10)) 10))) 64)))), (13, .pointer (some ⟨b59, 0, none⟩)), (14, .pointer (some ⟨b60, 0, none⟩))]) (by kernel_rfl) ?_
    refine t_end ?_
    show W _ _ _ _ _ _ _
    refine w_seq ?_
    refine w_reg fun all => ?_
    refine t_v (.ldn rfl rfl rfl (.at 4 rfl rfl)) ?_
    refine t_qz 2 [5, 6, 7, 8, 11, 12, 13, 14, 47] (σ' := [(5, .pointer (some ⟨b1, 0, none⟩)), (6, .pointer (some ⟨b2, 0, none⟩)), (7, .pointer (some ⟨b3, 0, none⟩)), (8, .pointer (some ⟨b4, 0, none⟩)), (11, .bool true), (12, .int .i64 (wr64 (1 * 2 ^ (min (Int.toNat (wru64 (Int.tmod (wr64 ((Int.tmod r4 10) + 10)) 10))) 64)))), (13, .pointer (some ⟨b59, 0, none⟩)), (14, .pointer (some ⟨b60, 0, none⟩)), (47, .agg #[.int .i64 1, .int .i64 t49, .int .i64 t50, .int .i64 0, .int .i64 0, .int .i64 0, .int .i64 0])]) (by kernel_rfl) ?_
    refine t_a (.new rfl rfl) fun b61 fb61 sb61 => ?_
    refine t_sti 0 (cs := [.int .i64 1, .int .i64 t49, .int .i64 t50, .int .i64 0, .int .i64 0, .int .i64 0, .int .i64 0]) rfl rfl rfl rfl rfl rfl rfl rfl rfl ?_
    refine t_keep [5, 6, 7, 8, 11, 12, 13, 14, 15] (σ' := [(5, .pointer (some ⟨b1, 0, none⟩)), (6, .pointer (some ⟨b2, 0, none⟩)), (7, .pointer (some ⟨b3, 0, none⟩)), (8, .pointer (some ⟨b4, 0, none⟩)), (11, .bool true), (12, .int .i64 (wr64 (1 * 2 ^ (min (Int.toNat (wru64 (Int.tmod (wr64 ((Int.tmod r4 10) + 10)) 10))) 64)))), (13, .pointer (some ⟨b59, 0, none⟩)), (14, .pointer (some ⟨b60, 0, none⟩)), (15, .pointer (some ⟨b61, 0, none⟩))]) (by kernel_rfl) ?_
    refine t_end ?_
    show W _ _ _ _ _ _ _
    refine w_seq ?_
    refine w_reg fun all => ?_
    refine t_v (.ldn rfl rfl rfl (.at 6 rfl rfl)) ?_
    refine t_v (.ldn rfl rfl rfl (.at 2 rfl rfl)) ?_
    obtain ⟨⟨t93, t94⟩, h95, e⟩ := bind_of e
    try dsimp only at e
    refine t_qz 3 [5, 6, 7, 8, 11, 12, 13, 14, 15, 48, 49, 50, 52] (σ' := [(5, .pointer (some ⟨b1, 0, none⟩)), (6, .pointer (some ⟨b2, 0, none⟩)), (7, .pointer (some ⟨b3, 0, none⟩)), (8, .pointer (some ⟨b4, 0, none⟩)), (11, .bool true), (12, .int .i64 (wr64 (1 * 2 ^ (min (Int.toNat (wru64 (Int.tmod (wr64 ((Int.tmod r4 10) + 10)) 10))) 64)))), (13, .pointer (some ⟨b59, 0, none⟩)), (14, .pointer (some ⟨b60, 0, none⟩)), (15, .pointer (some ⟨b61, 0, none⟩)), (48, .agg #[.int .i64 t46, .int .i64 t47]), (49, .agg #[.int .i64 2, .int .i64 t49, .int .i64 t50, .int .i64 t52, .int .i64 t53, .int .i64 0, .int .i64 0]), (50, .int .i64 (wr64 (1 * 2 ^ (min (Int.toNat (wru64 (Int.tmod (wr64 ((Int.tmod r4 10) + 10)) 10))) 64)))), (52, .int .i64 (wr64 (2 * (wr64 (1 * 2 ^ (min (Int.toNat (wru64 (Int.tmod (wr64 ((Int.tmod r4 10) + 10)) 10))) 64))))))]) (by kernel_rfl) ?_
    refine t_v (.call (vs := [.agg #[.int .i64 t46, .int .i64 t47], .agg #[.int .i64 2, .int .i64 t49, .int .i64 t50, .int .i64 t52, .int .i64 t53, .int .i64 0, .int .i64 0], .int .i64 (wr64 (1 * 2 ^ (min (Int.toNat (wru64 (Int.tmod (wr64 ((Int.tmod r4 10) + 10)) 10))) 64))), .int .i64 (wr64 (2 * (wr64 (1 * 2 ^ (min (Int.toNat (wru64 (Int.tmod (wr64 ((Int.tmod r4 10) + 10)) 10))) 64)))))]) rfl rfl (by kernel_rfl) (flatten_Point_v2.ok h95)) ?_
    refine t_a (.new rfl rfl) fun b96 fb96 sb96 => ?_
    refine t_sti 0 (cs := [.int .i64 t93, .int .i64 t94]) rfl rfl rfl rfl rfl rfl rfl rfl rfl ?_
    refine t_keep [5, 6, 7, 8, 11, 12, 13, 14, 15, 16] (σ' := [(5, .pointer (some ⟨b1, 0, none⟩)), (6, .pointer (some ⟨b2, 0, none⟩)), (7, .pointer (some ⟨b3, 0, none⟩)), (8, .pointer (some ⟨b4, 0, none⟩)), (11, .bool true), (12, .int .i64 (wr64 (1 * 2 ^ (min (Int.toNat (wru64 (Int.tmod (wr64 ((Int.tmod r4 10) + 10)) 10))) 64)))), (13, .pointer (some ⟨b59, 0, none⟩)), (14, .pointer (some ⟨b60, 0, none⟩)), (15, .pointer (some ⟨b61, 0, none⟩)), (16, .pointer (some ⟨b96, 0, none⟩))]) (by kernel_rfl) ?_
    refine t_end ?_
    show W _ _ _ _ _ _ _
    refine w_seq ?_
    refine w_reg fun all => ?_
    refine t_v (.ldn rfl rfl rfl (.at 7 rfl rfl)) ?_
    refine t_v (.ldn rfl rfl rfl (.at 2 rfl rfl)) ?_
    obtain ⟨⟨t133, t134⟩, h135, e⟩ := bind_of e
    try dsimp only at e
    refine t_qz 3 [5, 6, 7, 8, 11, 12, 13, 14, 15, 16, 54, 55, 56, 58] (σ' := [(5, .pointer (some ⟨b1, 0, none⟩)), (6, .pointer (some ⟨b2, 0, none⟩)), (7, .pointer (some ⟨b3, 0, none⟩)), (8, .pointer (some ⟨b4, 0, none⟩)), (11, .bool true), (12, .int .i64 (wr64 (1 * 2 ^ (min (Int.toNat (wru64 (Int.tmod (wr64 ((Int.tmod r4 10) + 10)) 10))) 64)))), (13, .pointer (some ⟨b59, 0, none⟩)), (14, .pointer (some ⟨b60, 0, none⟩)), (15, .pointer (some ⟨b61, 0, none⟩)), (16, .pointer (some ⟨b96, 0, none⟩)), (54, .agg #[.int .i64 t46, .int .i64 t47]), (55, .agg #[.int .i64 3, .int .i64 t49, .int .i64 t50, .int .i64 t52, .int .i64 t53, .int .i64 t55, .int .i64 t56]), (56, .int .i64 (wr64 (1 * 2 ^ (min (Int.toNat (wru64 (Int.tmod (wr64 ((Int.tmod r4 10) + 10)) 10))) 64)))), (58, .int .i64 (wr64 (2 * (wr64 (1 * 2 ^ (min (Int.toNat (wru64 (Int.tmod (wr64 ((Int.tmod r4 10) + 10)) 10))) 64))))))]) (by kernel_rfl) ?_
    refine t_v (.call (vs := [.agg #[.int .i64 t46, .int .i64 t47], .agg #[.int .i64 3, .int .i64 t49, .int .i64 t50, .int .i64 t52, .int .i64 t53, .int .i64 t55, .int .i64 t56], .int .i64 (wr64 (1 * 2 ^ (min (Int.toNat (wru64 (Int.tmod (wr64 ((Int.tmod r4 10) + 10)) 10))) 64))), .int .i64 (wr64 (2 * (wr64 (1 * 2 ^ (min (Int.toNat (wru64 (Int.tmod (wr64 ((Int.tmod r4 10) + 10)) 10))) 64)))))]) rfl rfl (by kernel_rfl) (flatten_Point_v3.ok h135)) ?_
    refine t_a (.new rfl rfl) fun b136 fb136 sb136 => ?_
    refine t_sti 0 (cs := [.int .i64 t133, .int .i64 t134]) rfl rfl rfl rfl rfl rfl rfl rfl rfl ?_
    refine t_keep [5, 6, 7, 8, 11, 12, 13, 14, 15, 16, 17] (σ' := [(5, .pointer (some ⟨b1, 0, none⟩)), (6, .pointer (some ⟨b2, 0, none⟩)), (7, .pointer (some ⟨b3, 0, none⟩)), (8, .pointer (some ⟨b4, 0, none⟩)), (11, .bool true), (12, .int .i64 (wr64 (1 * 2 ^ (min (Int.toNat (wru64 (Int.tmod (wr64 ((Int.tmod r4 10) + 10)) 10))) 64)))), (13, .pointer (some ⟨b59, 0, none⟩)), (14, .pointer (some ⟨b60, 0, none⟩)), (15, .pointer (some ⟨b61, 0, none⟩)), (16, .pointer (some ⟨b96, 0, none⟩)), (17, .pointer (some ⟨b136, 0, none⟩))]) (by kernel_rfl) ?_
    refine t_end ?_
    show W _ _ _ _ _ _ _
    refine w_seq ?_
    refine w_reg fun all => ?_
    refine t_v (.ldn rfl rfl rfl (.at 8 rfl rfl)) ?_
    refine t_v (.ldn rfl rfl rfl (.at 2 rfl rfl)) ?_
    obtain ⟨⟨t163, t164⟩, h165, e⟩ := bind_of e
    try dsimp only at e
    refine t_qz 3 [5, 6, 7, 8, 11, 12, 13, 14, 16, 17, 60, 61, 62, 64] (σ' := [(5, .pointer (some ⟨b1, 0, none⟩)), (6, .pointer (some ⟨b2, 0, none⟩)), (7, .pointer (some ⟨b3, 0, none⟩)), (8, .pointer (some ⟨b4, 0, none⟩)), (11, .bool true), (12, .int .i64 (wr64 (1 * 2 ^ (min (Int.toNat (wru64 (Int.tmod (wr64 ((Int.tmod r4 10) + 10)) 10))) 64)))), (13, .pointer (some ⟨b59, 0, none⟩)), (14, .pointer (some ⟨b60, 0, none⟩)), (16, .pointer (some ⟨b96, 0, none⟩)), (17, .pointer (some ⟨b136, 0, none⟩)), (60, .agg #[.int .i64 t46, .int .i64 t47]), (61, .agg #[.int .i64 1, .int .i64 t49, .int .i64 t50, .int .i64 0, .int .i64 0, .int .i64 0, .int .i64 0]), (62, .int .i64 (wr64 (1 * 2 ^ (min (Int.toNat (wru64 (Int.tmod (wr64 ((Int.tmod r4 10) + 10)) 10))) 64)))), (64, .int .i64 (wr64 (2 * (wr64 (1 * 2 ^ (min (Int.toNat (wru64 (Int.tmod (wr64 ((Int.tmod r4 10) + 10)) 10))) 64))))))]) (by kernel_rfl) ?_
    refine t_v (.call (vs := [.agg #[.int .i64 t46, .int .i64 t47], .agg #[.int .i64 1, .int .i64 t49, .int .i64 t50, .int .i64 0, .int .i64 0, .int .i64 0, .int .i64 0], .int .i64 (wr64 (1 * 2 ^ (min (Int.toNat (wru64 (Int.tmod (wr64 ((Int.tmod r4 10) + 10)) 10))) 64))), .int .i64 (wr64 (2 * (wr64 (1 * 2 ^ (min (Int.toNat (wru64 (Int.tmod (wr64 ((Int.tmod r4 10) + 10)) 10))) 64)))))]) rfl rfl (by kernel_rfl) (flatten_Point_v4.ok h165)) ?_
    refine t_a (.new rfl rfl) fun b166 fb166 sb166 => ?_
    refine t_sti 0 (cs := [.int .i64 t163, .int .i64 t164]) rfl rfl rfl rfl rfl rfl rfl rfl rfl ?_
    refine t_keep [5, 6, 7, 8, 11, 12, 13, 14, 16, 17, 18] (σ' := [(5, .pointer (some ⟨b1, 0, none⟩)), (6, .pointer (some ⟨b2, 0, none⟩)), (7, .pointer (some ⟨b3, 0, none⟩)), (8, .pointer (some ⟨b4, 0, none⟩)), (11, .bool true), (12, .int .i64 (wr64 (1 * 2 ^ (min (Int.toNat (wru64 (Int.tmod (wr64 ((Int.tmod r4 10) + 10)) 10))) 64)))), (13, .pointer (some ⟨b59, 0, none⟩)), (14, .pointer (some ⟨b60, 0, none⟩)), (16, .pointer (some ⟨b96, 0, none⟩)), (17, .pointer (some ⟨b136, 0, none⟩)), (18, .pointer (some ⟨b166, 0, none⟩))]) (by kernel_rfl) ?_
    refine t_end ?_
    show W _ _ _ _ _ _ _
    refine w_seq ?_
    obtain ⟨⟨t167, t168⟩, h169, e⟩ := bind_of e
    try dsimp only at e
    obtain ⟨t170, h171, e⟩ := bind_of e
    cases t170 with
    | true =>
      rw [if_pos rfl] at e
      obtain ⟨⟨t172, t173⟩, h174, e⟩ := bind_of e
      try dsimp only at e
      obtain ⟨t175, h176, e⟩ := bind_of e
      cases t175 with
      | true =>
        rw [if_pos rfl] at e
        obtain ⟨⟨t177, t178⟩, h179, e⟩ := bind_of e
        try dsimp only at e
        obtain ⟨t180, h181, e⟩ := bind_of e
        cases t180 with
        | true =>
          rw [if_pos rfl] at e
          obtain ⟨⟨t182, t183⟩, h184, e⟩ := bind_of e
          try dsimp only at e
          obtain ⟨t185, h186, e⟩ := bind_of e
          cases t185 with
          | true =>
            rw [if_pos rfl] at e
            obtain ⟨t187, h188, e⟩ := bind_of e
            by_cases c189 : t93 = t187
            · rw [if_pos c189] at e
              have c189b : (t93 == t187) = true := beq_iff_eq.mpr c189
              obtain ⟨t190, h191, e⟩ := bind_of e
              by_cases c192 : t94 = t190
              · rw [if_pos c192] at e
                have c192b : (t94 == t190) = true := beq_iff_eq.mpr c192
                obtain ⟨t193, h194, e⟩ := bind_of e
                by_cases c195 : t133 = t193
                · rw [if_pos c195] at e
                  have c195b : (t133 == t193) = true := beq_iff_eq.mpr c195
                  obtain ⟨t196, h197, e⟩ := bind_of e
                  refine w_drwE mixed 96 [.v (.bool true), .v (.bool true), .v (.agg #[.int .i64 t46, .int .i64 t47]), .v (.agg #[.int .i64 2, .int .i64 t49, .int .i64 t50, .int .i64 t52, .int .i64 t53, .int .i64 0, .int .i64 0]), .v (.int .i64 (wr64 (1 * 2 ^ (min (Int.toNat (wru64 (Int.tmod (wr64 ((Int.tmod r4 10) + 10)) 10))) 64)))), .v (.agg #[.int .i64 t167, .int .i64 t168]), .v (.agg #[.int .i64 t46, .int .i64 t47]), .v (.bool true), .v (.bool true), .v (.bool true), .v (.agg #[.int .i64 t46, .int .i64 t47]), .v (.agg #[.int .i64 2, .int .i64 t49, .int .i64 t50, .int .i64 t52, .int .i64 t53, .int .i64 0, .int .i64 0]), .v (.int .i64 (wr64 (1 * 2 ^ (min (Int.toNat (wru64 (Int.tmod (wr64 ((Int.tmod r4 10) + 10)) 10))) 64)))), .v (.int .i64 (wr64 (1 * 2 ^ (min (Int.toNat (wru64 (Int.tmod (wr64 ((Int.tmod r4 10) + 10)) 10))) 64)))), .v (.agg #[.int .i64 t172, .int .i64 t173]), .v (.agg #[.int .i64 t52, .int .i64 t53]), .v (.bool true), .v (.bool true), .v (.bool true), .v (.agg #[.int .i64 t46, .int .i64 t47]), .v (.agg #[.int .i64 3, .int .i64 t49, .int .i64 t50, .int .i64 t52, .int .i64 t53, .int .i64 t55, .int .i64 t56]), .v (.int .i64 (wr64 (1 * 2 ^ (min (Int.toNat (wru64 (Int.tmod (wr64 ((Int.tmod r4 10) + 10)) 10))) 64)))), .v (.agg #[.int .i64 t177, .int .i64 t178]), .v (.agg #[.int .i64 t46, .int .i64 t47]), .v (.bool true), .v (.bool true), .v (.bool true), .v (.agg #[.int .i64 t46, .int .i64 t47]), .v (.agg #[.int .i64 3, .int .i64 t49, .int .i64 t50, .int .i64 t52, .int .i64 t53, .int .i64 t55, .int .i64 t56]), .v (.int .i64 (wr64 (1 * 2 ^ (min (Int.toNat (wru64 (Int.tmod (wr64 ((Int.tmod r4 10) + 10)) 10))) 64)))), .v (.int .i64 (wr64 (1 * 2 ^ (min (Int.toNat (wru64 (Int.tmod (wr64 ((Int.tmod r4 10) + 10)) 10))) 64)))), .v (.agg #[.int .i64 t182, .int .i64 t183]), .v (.agg #[.int .i64 t55, .int .i64 t56]), .v (.bool true), .v (.bool true), .v (.bool true), .v (.pointer (some ⟨b96, 0, none⟩)), .v (.int .i64 t93), .v (.pointer (some ⟨b1, 0, none⟩)), .v (.int .i64 t46), .v (.pointer (some ⟨b2, 0, none⟩)), .v (.int .i64 t49), .v (.int .i64 (wr64 (2 * t49))), .v (.int .i64 (wr64 (t46 + (wr64 (2 * t49))))), .v (.pointer (some ⟨b3, 0, none⟩)), .v (.int .i64 t52), .v (.int .i64 (wr64 ((wr64 (t46 + (wr64 (2 * t49)))) + t52))), .v (.int .i64 t187), .v (.bool true), .v (.bool true), .v (.bool true), .v (.pointer (some ⟨b96, 1, none⟩)), .v (.int .i64 t94), .v (.pointer (some ⟨b1, 1, none⟩)), .v (.int .i64 t47), .v (.pointer (some ⟨b2, 1, none⟩)), .v (.int .i64 t50), .v (.int .i64 (wr64 (2 * t50))), .v (.int .i64 (wr64 (t47 + (wr64 (2 * t50))))), .v (.pointer (some ⟨b3, 1, none⟩)), .v (.int .i64 t53), .v (.int .i64 (wr64 ((wr64 (t47 + (wr64 (2 * t50)))) + t53))), .v (.int .i64 t190), .v (.bool true), .v (.bool true), .v (.bool true), .v (.pointer (some ⟨b136, 0, none⟩)), .v (.int .i64 t133), .v (.pointer (some ⟨b1, 0, none⟩)), .v (.int .i64 t46), .v (.pointer (some ⟨b2, 0, none⟩)), .v (.int .i64 t49), .v (.int .i64 (wr64 (3 * t49))), .v (.int .i64 (wr64 (t46 + (wr64 (3 * t49))))), .v (.pointer (some ⟨b3, 0, none⟩)), .v (.int .i64 t52), .v (.int .i64 (wr64 (3 * t52))), .v (.int .i64 (wr64 ((wr64 (t46 + (wr64 (3 * t49)))) + (wr64 (3 * t52))))), .v (.pointer (some ⟨b4, 0, none⟩)), .v (.int .i64 t55), .v (.int .i64 (wr64 ((wr64 ((wr64 (t46 + (wr64 (3 * t49)))) + (wr64 (3 * t52)))) + t55))), .v (.int .i64 t193), .v (.bool true), .v (.bool true), .v (.bool true), .v (.pointer (some ⟨b166, 1, none⟩)), .v (.int .i64 t164), .v (.pointer (some ⟨b1, 1, none⟩)), .v (.int .i64 t47), .v (.pointer (some ⟨b2, 1, none⟩)), .v (.int .i64 t50), .v (.int .i64 (wr64 (t47 + t50))), .v (.int .i64 t196), .v (.bool (t164 == t196)), .v (.bool (t164 == t196)), .v (.bool (t164 == t196))] (by kernel_rfl) ?_ ?_
                  · refine DI.sq 2 (by kernel_rfl) rfl ?_
                    refine .cons (.ldn rfl rfl rfl (.at 9 rfl rfl)) ?_
                    refine .cons (.ldn rfl rfl rfl (.at 5 rfl rfl)) ?_
                    refine DI.sq 1 (by kernel_rfl) rfl ?_
                    refine .cons (.call (vs := [.agg #[.int .i64 t46, .int .i64 t47], .agg #[.int .i64 2, .int .i64 t49, .int .i64 t50, .int .i64 t52, .int .i64 t53, .int .i64 0, .int .i64 0], .int .i64 0, .int .i64 (wr64 (1 * 2 ^ (min (Int.toNat (wru64 (Int.tmod (wr64 ((Int.tmod r4 10) + 10)) 10))) 64)))]) rfl rfl (by kernel_rfl) (flatten_Point_v5.ok h169)) ?_
                    refine .cons (.ldn rfl rfl rfl (.at 9 rfl rfl)) ?_
                    refine .cons (.call (vs := [.agg #[.int .i64 t167, .int .i64 t168], .agg #[.int .i64 t46, .int .i64 t47]]) rfl rfl (by kernel_rfl) (glyphicref_SamePoint.ok h171)) ?_
                    refine DI.sq 2 (by kernel_rfl) rfl ?_
                    refine .cons (.ldn rfl rfl rfl (.at 9 rfl rfl)) ?_
                    refine .cons (.ldn rfl rfl rfl (.at 5 rfl rfl)) ?_
                    refine DI.sq 2 (by kernel_rfl) rfl ?_
                    refine .cons (.call (vs := [.agg #[.int .i64 t46, .int .i64 t47], .agg #[.int .i64 2, .int .i64 t49, .int .i64 t50, .int .i64 t52, .int .i64 t53, .int .i64 0, .int .i64 0], .int .i64 (wr64 (1 * 2 ^ (min (Int.toNat (wru64 (Int.tmod (wr64 ((Int.tmod r4 10) + 10)) 10))) 64))), .int .i64 (wr64 (1 * 2 ^ (min (Int.toNat (wru64 (Int.tmod (wr64 ((Int.tmod r4 10) + 10)) 10))) 64)))]) rfl rfl (by kernel_rfl) (flatten_Point_v2.ok h174)) ?_
                    refine .cons (.ldn rfl rfl rfl (.at 7 rfl rfl)) ?_
                    refine .cons (.call (vs := [.agg #[.int .i64 t172, .int .i64 t173], .agg #[.int .i64 t52, .int .i64 t53]]) rfl rfl (by kernel_rfl) (glyphicref_SamePoint.ok h176)) ?_
                    refine DI.sq 2 (by kernel_rfl) rfl ?_
                    refine .cons (.ldn rfl rfl rfl (.at 9 rfl rfl)) ?_
                    refine .cons (.ldn rfl rfl rfl (.at 4 rfl rfl)) ?_
                    refine DI.sq 1 (by kernel_rfl) rfl ?_
                    refine .cons (.call (vs := [.agg #[.int .i64 t46, .int .i64 t47], .agg #[.int .i64 3, .int .i64 t49, .int .i64 t50, .int .i64 t52, .int .i64 t53, .int .i64 t55, .int .i64 t56], .int .i64 0, .int .i64 (wr64 (1 * 2 ^ (min (Int.toNat (wru64 (Int.tmod (wr64 ((Int.tmod r4 10) + 10)) 10))) 64)))]) rfl rfl (by kernel_rfl) (flatten_Point_v6.ok h179)) ?_
                    refine .cons (.ldn rfl rfl rfl (.at 9 rfl rfl)) ?_
                    refine .cons (.call (vs := [.agg #[.int .i64 t177, .int .i64 t178], .agg #[.int .i64 t46, .int .i64 t47]]) rfl rfl (by kernel_rfl) (glyphicref_SamePoint.ok h181)) ?_
                    refine DI.sq 2 (by kernel_rfl) rfl ?_
                    refine .cons (.ldn rfl rfl rfl (.at 9 rfl rfl)) ?_
                    refine .cons (.ldn rfl rfl rfl (.at 4 rfl rfl)) ?_
                    refine DI.sq 2 (by kernel_rfl) rfl ?_
                    refine .cons (.call (vs := [.agg #[.int .i64 t46, .int .i64 t47], .agg #[.int .i64 3, .int .i64 t49, .int .i64 t50, .int .i64 t52, .int .i64 t53, .int .i64 t55, .int .i64 t56], .int .i64 (wr64 (1 * 2 ^ (min (Int.toNat (wru64 (Int.tmod (wr64 ((Int.tmod r4 10) + 10)) 10))) 64))), .int .i64 (wr64 (1 * 2 ^ (min (Int.toNat (wru64 (Int.tmod (wr64 ((Int.tmod r4 10) + 10)) 10))) 64)))]) rfl rfl (by kernel_rfl) (flatten_Point_v3.ok h184)) ?_
                    refine .cons (.ldn rfl rfl rfl (.at 6 rfl rfl)) ?_
                    refine .cons (.call (vs := [.agg #[.int .i64 t182, .int .i64 t183], .agg #[.int .i64 t55, .int .i64 t56]]) rfl rfl (by kernel_rfl) (glyphicref_SamePoint.ok h186)) ?_
                    refine DI.sq 3 (by kernel_rfl) rfl ?_
                    refine .cons (.ld1 rfl rfl rfl (.at 2 rfl rfl)) ?_
                    refine DI.sq 1 (by kernel_rfl) rfl ?_
                    refine .cons (.ld1 rfl rfl rfl (.at 9 rfl rfl)) ?_
                    refine DI.sq 1 (by kernel_rfl) rfl ?_
                    refine .cons (.ld1 rfl rfl rfl (.at 8 rfl rfl)) ?_
                    refine DI.sq 3 (by kernel_rfl) rfl ?_
                    refine .cons (.ld1 rfl rfl rfl (.at 7 rfl rfl)) ?_
                    refine DI.sq 1 (by kernel_rfl) rfl ?_
                    refine .cons (.call (vs := [.int .i64 (wr64 ((wr64 (t46 + (wr64 (2 * t49)))) + t52)), .int .i64 4]) rfl rfl (by kernel_rfl) (glyphicref1_Round.ok h188)) ?_
                    refine .cons (dv_quiet rfl (congrArg (fun t => some (Value.bool t)) c189b)) ?_
                    refine DI.sq 3 (by kernel_rfl) rfl ?_
                    refine .cons (.ld1 rfl rfl rfl (.at 2 rfl rfl)) ?_
                    refine DI.sq 1 (by kernel_rfl) rfl ?_
                    refine .cons (.ld1 rfl rfl rfl (.at 9 rfl rfl)) ?_
                    refine DI.sq 1 (by kernel_rfl) rfl ?_
                    refine .cons (.ld1 rfl rfl rfl (.at 8 rfl rfl)) ?_
                    refine DI.sq 3 (by kernel_rfl) rfl ?_
                    refine .cons (.ld1 rfl rfl rfl (.at 7 rfl rfl)) ?_
                    refine DI.sq 1 (by kernel_rfl) rfl ?_
                    refine .cons (.call (vs := [.int .i64 (wr64 ((wr64 (t47 + (wr64 (2 * t50)))) + t53)), .int .i64 4]) rfl rfl (by kernel_rfl) (glyphicref1_Round.ok h191)) ?_
                    refine .cons (dv_quiet rfl (congrArg (fun t => some (Value.bool t)) c192b)) ?_
                    refine DI.sq 3 (by kernel_rfl) rfl ?_
                    refine .cons (.ld1 rfl rfl rfl (.at 1 rfl rfl)) ?_
                    refine DI.sq 1 (by kernel_rfl) rfl ?_
                    refine .cons (.ld1 rfl rfl rfl (.at 9 rfl rfl)) ?_
                    refine DI.sq 1 (by kernel_rfl) rfl ?_
                    refine .cons (.ld1 rfl rfl rfl (.at 8 rfl rfl)) ?_
                    refine DI.sq 3 (by kernel_rfl) rfl ?_
                    refine .cons (.ld1 rfl rfl rfl (.at 7 rfl rfl)) ?_
                    refine DI.sq 3 (by kernel_rfl) rfl ?_
                    refine .cons (.ld1 rfl rfl rfl (.at 6 rfl rfl)) ?_
                    refine DI.sq 1 (by kernel_rfl) rfl ?_
                    refine .cons (.call (vs := [.int .i64 (wr64 ((wr64 ((wr64 (t46 + (wr64 (3 * t49)))) + (wr64 (3 * t52)))) + t55)), .int .i64 8]) rfl rfl (by kernel_rfl) (glyphicref1_Round.ok h194)) ?_
                    refine .cons (dv_quiet rfl (congrArg (fun t => some (Value.bool t)) c195b)) ?_
                    refine DI.sq 3 (by kernel_rfl) rfl ?_
                    refine .cons (.ld1 rfl rfl rfl (.at 0 rfl rfl)) ?_
                    refine DI.sq 1 (by kernel_rfl) rfl ?_
                    refine .cons (.ld1 rfl rfl rfl (.at 9 rfl rfl)) ?_
                    refine DI.sq 1 (by kernel_rfl) rfl ?_
                    refine .cons (.ld1 rfl rfl rfl (.at 8 rfl rfl)) ?_
                    refine DI.sq 1 (by kernel_rfl) rfl ?_
                    refine .cons (.call (vs := [.int .i64 (wr64 (t47 + t50)), .int .i64 2]) rfl rfl (by kernel_rfl) (glyphicref1_Round.ok h197)) ?_
                    refine DI.sq 3 (by kernel_rfl) rfl ?_
                    exact .nil
                  refine fk_q 96 [10] (σ' := [(10, .bool (t164 == t196))]) t_more (by kernel_rfl) ?_
                  refine fk_nil fun all => ?_
                  refine t_keep [10] (σ' := [(10, .bool (t164 == t196))]) (by kernel_rfl) ?_
                  refine t_end ?_
                  show W _ _ _ _ _ _ _
                  refine w_ret ?_
                  have hr_ := Option.some.inj e
                  exact ⟨[.bool (t164 == t196)], [], S, ⟨rfl, trivial⟩, VS.none, congrArg Value.bool hr_, rfl, rfl⟩
                · rw [if_neg c195] at e
                  exact absurd (Option.some.inj e) (by decide)
              · rw [if_neg c192] at e
                exact absurd (Option.some.inj e) (by decide)
            · rw [if_neg c189] at e
              exact absurd (Option.some.inj e) (by decide)
          | false =>
            rw [if_neg (by decide)] at e
            exact absurd (Option.some.inj e) (by decide)
        | false =>
          rw [if_neg (by decide)] at e
          exact absurd (Option.some.inj e) (by decide)
      | false =>
        rw [if_neg (by decide)] at e
        exact absurd (Option.some.inj e) (by decide)
    | false =>
      rw [if_neg (by decide)] at e
      exact absurd (Option.some.inj e) (by decide)
  | false =>
    rw [if_neg (by decide)] at e
    exact absurd (Option.some.inj e) (by decide)

def glyphiclaw21_FlattenEnds.Pure : Prop := ∀ (t0_X : Int) (t0_Y : Int) (o1_X : Int) (o1_Y : Int) (A2_X : Int) (A2_Y : Int) (r3_X : Int) (r3_Y : Int) (r4 : Int), (Lit.int .i64 t0_X).wf = true → (Lit.int .i64 t0_Y).wf = true → (Lit.int .i64 o1_X).wf = true → (Lit.int .i64 o1_Y).wf = true → (Lit.int .i64 A2_X).wf = true → (Lit.int .i64 A2_Y).wf = true → (Lit.int .i64 r3_X).wf = true → (Lit.int .i64 r3_Y).wf = true → (Lit.int .i64 r4).wf = true → glyphiclaw21_FlattenEnds.f t0_X t0_Y o1_X o1_Y A2_X A2_Y r3_X r3_Y r4 = some true
theorem glyphiclaw21_FlattenEnds.walk (P : glyphiclaw21_FlattenEnds.Pure) (t0_X : Int) (t0_Y : Int) (o1_X : Int) (o1_Y : Int) (A2_X : Int) (A2_Y : Int) (r3_X : Int) (r3_Y : Int) (r4 : Int) (w : World) (ht0_X : (Lit.int .i64 t0_X).wf = true) (ht0_Y : (Lit.int .i64 t0_Y).wf = true) (ho1_X : (Lit.int .i64 o1_X).wf = true) (ho1_Y : (Lit.int .i64 o1_Y).wf = true) (hA2_X : (Lit.int .i64 A2_X).wf = true) (hA2_Y : (Lit.int .i64 A2_Y).wf = true) (hr3_X : (Lit.int .i64 r3_X).wf = true) (hr3_Y : (Lit.int .i64 r3_Y).wf = true) (hr4 : (Lit.int .i64 r4).wf = true) :
    Calls Try.prog 9 #[.agg #[.int .i64 t0_X, .int .i64 t0_Y], .agg #[.int .i64 o1_X, .int .i64 o1_Y], .agg #[.int .i64 A2_X, .int .i64 A2_Y], .agg #[.int .i64 r3_X, .int .i64 r3_Y], .int .i64 r4] w fun e w' => e = .returned (.bool true) ∧ Below w.heap.size w w' := law_w (hok0 w) (glyphiclaw21_FlattenEnds.ok (P t0_X t0_Y o1_X o1_Y A2_X A2_Y r3_X r3_Y r4 ht0_X ht0_Y ho1_X ho1_Y hA2_X hA2_Y hr3_X hr3_Y hr4))
end Go.Proofs.Ytijjgmkhgcofiaa.QFlattenEnds
