/- Functions of the program as Lean functions, each with the proof of its walk. Written by gen.py, a program of these sessions. -/
import Derived.Test.YtijjgmkhgcofiaaQFlattenEndsx1
namespace Go.Proofs.Ytijjgmkhgcofiaa.QFlattenEnds
open Go Go.RowKit Go.Proofs.YtijjgmkhgcofiaaE
set_option linter.unusedVariables false
set_option maxRecDepth 100000
set_option maxHeartbeats 8000000
def flatten_Point_v5.f (a0_0 : Int) (a0_1 : Int) (s1_1 : Int) (s1_2 : Int) (s1_3 : Int) (s1_4 : Int) (n3 : Int) : Option (Int × Int) := (flatten_points_v2.f s1_1 s1_2 s1_3 s1_4).bind fun (t172, t173, t174, t175, t176, t177, t178) => ((flatten_mix_v3.f 0 n3 a0_0 t173 t175).bind fun t191 => ((flatten_mix_v3.f 0 n3 a0_1 t174 t176).bind fun t193 => (some (t191, t193))))
theorem flatten_Point_v5.ok {S : Seal} {a0_0 : Int} {a0_1 : Int} {s1_1 : Int} {s1_2 : Int} {s1_3 : Int} {s1_4 : Int} {n3 : Int} {r0_ : Int} {r1_ : Int} (e : flatten_Point_v5.f a0_0 a0_1 s1_1 s1_2 s1_3 s1_4 n3 = some (r0_, r1_)) :
    Cal Try.prog 28 [.agg #[.int .i64 a0_0, .int .i64 a0_1], .agg #[.int .i64 2, .int .i64 s1_1, .int .i64 s1_2, .int .i64 s1_3, .int .i64 s1_4, .int .i64 0, .int .i64 0], .int .i64 0, .int .i64 n3] [] S fun v H' S' => v = .agg #[.int .i64 r0_, .int .i64 r1_] ∧ H' = [] ∧ S' = S := by
  unfold flatten_Point_v5.f at e
  refine cal_of (c := c28) (N := 46) Try.func28 rfl rfl (by kernel_rfl) (rs := [.cn 2 8]) (by kernel_rfl) (Nat.le_of_ble_eq_true rfl) ?_
  unfold c28
  refine w_seq ?_
  refine w_reg fun all => ?_
  refine t_a (.box rfl rfl rfl) fun b167 fb167 sb167 => ?_
  refine t_a (.box rfl rfl rfl) fun b168 fb168 sb168 => ?_
  refine t_a (.new rfl rfl) fun b169 fb169 sb169 => ?_
  refine t_keep [2, 3, 4, 5, 8] (σ' := [(2, .int .i64 0), (3, .int .i64 n3), (4, .pointer (some ⟨b167, 0, none⟩)), (5, .pointer (some ⟨b168, 0, none⟩)), (8, .pointer (some ⟨b169, 0, none⟩))]) (by kernel_rfl) ?_
  refine t_end ?_
  show W _ _ _ _ _ _ _
  refine w_seq ?_
  refine w_kp [2, 3, 4, 5, 8] (σ' := [(2, .int .i64 0), (3, .int .i64 n3), (4, .pointer (some ⟨b167, 0, none⟩)), (5, .pointer (some ⟨b168, 0, none⟩)), (8, .pointer (some ⟨b169, 0, none⟩))]) (by kernel_rfl) ?_
  refine w_gameQ mixed (by kernel_rfl) fun all G hend hstep hqf => ?_
  have hg_ff : ∀ (g171 g170 : Nat), G [true, true, true, true, true, true, true, true] [(2, .int .i64 0), (3, .int .i64 n3), (5, .pointer (some ⟨b168, 0, none⟩)), (8, .pointer (some ⟨b169, 0, none⟩)), (9, .slice (some ⟨g170, 0, none⟩) 1 1), (10, .slice (some ⟨g171, 0, none⟩) 1 1)] ([⟨g171, [.int .i64 a0_1], 1⟩, ⟨g170, [.int .i64 a0_0], 1⟩, ⟨b169, [.int .i64 0, .int .i64 0], 2⟩, ⟨b168, [.int .i64 2, .int .i64 s1_1, .int .i64 s1_2, .int .i64 s1_3, .int .i64 s1_4, .int .i64 0, .int .i64 0], 7⟩, ⟨b167, [.int .i64 a0_0, .int .i64 a0_1], 2⟩] : List Own) := by
    intro g171 g170
    refine hend _ _ _ (by kernel_rfl) ?_
    show W _ _ _ _ _ _ _
    refine w_seq ?_
    refine w_seq ?_
    refine w_reg fun all => ?_
    refine t_v (.ldn rfl rfl rfl (.at 3 rfl rfl)) ?_
    obtain ⟨⟨t172, t173, t174, t175, t176, t177, t178⟩, h179, e⟩ := bind_of e
    try dsimp only at e
    refine t_call (vs := [.agg #[.int .i64 2, .int .i64 s1_1, .int .i64 s1_2, .int .i64 s1_3, .int .i64 s1_4, .int .i64 0, .int .i64 0]]) (H1 := ([] : List Own)) (F := ([⟨g171, [.int .i64 a0_1], 1⟩, ⟨g170, [.int .i64 a0_0], 1⟩, ⟨b169, [.int .i64 0, .int .i64 0], 2⟩, ⟨b168, [.int .i64 2, .int .i64 s1_1, .int .i64 s1_2, .int .i64 s1_3, .int .i64 s1_4, .int .i64 0, .int .i64 0], 7⟩, ⟨b167, [.int .i64 a0_0, .int .i64 a0_1], 2⟩] : List Own)) rfl rfl (by kernel_rfl) (sel_perm (is := []) (by kernel_rfl)) (flatten_points_v2.ok h179) ?_
    rintro _ _ S_ ⟨N180, rfl, rfl, hS_⟩
    obtain rfl := hS_.symm
    refine t_qz 2 [2, 3, 8, 9, 10, 20, 21, 22] (σ' := [(2, .int .i64 0), (3, .int .i64 n3), (8, .pointer (some ⟨b169, 0, none⟩)), (9, .slice (some ⟨g170, 0, none⟩) 1 1), (10, .slice (some ⟨g171, 0, none⟩) 1 1), (20, .slice (some ⟨N180, 1, none⟩) 2 3), (21, .int .i64 2), (22, .int .i64 0)]) (by kernel_rfl) ?_
    refine t_end ?_
    show W _ _ _ _ _ _ _
    refine w_block ?_
    refine w_lun 10 ?_
    refine wl_step ?_
    refine w_seq ?_
    refine w_reg fun all => ?_
    refine t_qz 1 [2, 3, 8, 9, 10, 20, 21, 22, 23] (σ' := [(2, .int .i64 0), (3, .int .i64 n3), (8, .pointer (some ⟨b169, 0, none⟩)), (9, .slice (some ⟨g170, 0, none⟩) 1 1), (10, .slice (some ⟨g171, 0, none⟩) 1 1), (20, .slice (some ⟨N180, 1, none⟩) 2 3), (21, .int .i64 2), (22, .int .i64 0), (23, .bool true)]) (by kernel_rfl) ?_
    refine t_end ?_
    show W _ _ _ _ _ _ _
    refine w_seq ?_
    refine w_cond rfl (fun _ => ?_) (fun c_ => by cases c_)
    show W _ _ _ _ _ _ _
    refine w_skip ?_
    show W _ _ _ _ _ _ _
    refine w_seq ?_
    refine w_block ?_
    refine w_seq ?_
    refine w_reg fun all => ?_
    refine t_qz 1 [2, 3, 8, 9, 10, 20, 21, 22, 24] (σ' := [(2, .int .i64 0), (3, .int .i64 n3), (8, .pointer (some ⟨b169, 0, none⟩)), (9, .slice (some ⟨g170, 0, none⟩) 1 1), (10, .slice (some ⟨g171, 0, none⟩) 1 1), (20, .slice (some ⟨N180, 1, none⟩) 2 3), (21, .int .i64 2), (22, .int .i64 0), (24, .pointer (some ⟨N180, 1, none⟩))]) (by kernel_rfl) ?_
    refine t_v (.ldn rfl rfl rfl (.at 0 rfl rfl)) ?_
    refine t_a (.new rfl rfl) fun b181 fb181 sb181 => ?_
    refine t_sti 0 (cs := [.int .i64 t173, .int .i64 t174]) rfl rfl rfl rfl rfl rfl rfl rfl rfl ?_
    refine t_keep [2, 3, 8, 9, 10, 12, 20, 21, 22] (σ' := [(2, .int .i64 0), (3, .int .i64 n3), (8, .pointer (some ⟨b169, 0, none⟩)), (9, .slice (some ⟨g170, 0, none⟩) 1 1), (10, .slice (some ⟨g171, 0, none⟩) 1 1), (12, .pointer (some ⟨b181, 0, none⟩)), (20, .slice (some ⟨N180, 1, none⟩) 2 3), (21, .int .i64 2), (22, .int .i64 0)]) (by kernel_rfl) ?_
    refine t_end ?_
    show W _ _ _ _ _ _ _
    refine w_kp [2, 3, 8, 9, 10, 12, 20, 21, 22] (σ' := [(2, .int .i64 0), (3, .int .i64 n3), (8, .pointer (some ⟨b169, 0, none⟩)), (9, .slice (some ⟨g170, 0, none⟩) 1 1), (10, .slice (some ⟨g171, 0, none⟩) 1 1), (12, .pointer (some ⟨b181, 0, none⟩)), (20, .slice (some ⟨N180, 1, none⟩) 2 3), (21, .int .i64 2), (22, .int .i64 0)]) (by kernel_rfl) ?_
    refine w_gameQ mixed (by kernel_rfl) fun all G hend hstep hqf => ?_
    have hg_fff : ∀ (g185 ng185 g184 g183 ng183 g182 : Nat), G [true, true, true, true, true, true, true, true, true, true, true, true] [(2, .int .i64 0), (3, .int .i64 n3), (8, .pointer (some ⟨b169, 0, none⟩)), (9, .slice (some ⟨g183, 0, none⟩) 2 (ng183 / 1)), (10, .slice (some ⟨g185, 0, none⟩) 2 (ng185 / 1)), (20, .slice (some ⟨N180, 1, none⟩) 2 3), (21, .int .i64 2), (22, .int .i64 0)] ([⟨g185, [.int .i64 a0_1, .int .i64 t174], ng185⟩, ⟨g184, [.int .i64 t174], 1⟩, ⟨g183, [.int .i64 a0_0, .int .i64 t173], ng183⟩, ⟨g182, [.int .i64 t173], 1⟩, ⟨b181, [.int .i64 t173, .int .i64 t174], 2⟩, ⟨N180, [.int .i64 t172, .int .i64 t173, .int .i64 t174, .int .i64 t175, .int .i64 t176, .int .i64 t177, .int .i64 t178], 7⟩, ⟨b169, [.int .i64 0, .int .i64 0], 2⟩, ⟨b168, [.int .i64 2, .int .i64 s1_1, .int .i64 s1_2, .int .i64 s1_3, .int .i64 s1_4, .int .i64 0, .int .i64 0], 7⟩, ⟨b167, [.int .i64 a0_0, .int .i64 a0_1], 2⟩] : List Own) := by
      intro g185 ng185 g184 g183 ng183 g182
      refine hend _ _ _ (by kernel_rfl) ?_
      show W _ _ _ _ _ _ _
      refine w_reg fun all => ?_
      refine t_qz 2 [2, 3, 8, 9, 10, 20, 21, 22] (σ' := [(2, .int .i64 0), (3, .int .i64 n3), (8, .pointer (some ⟨b169, 0, none⟩)), (9, .slice (some ⟨g183, 0, none⟩) 2 (ng183 / 1)), (10, .slice (some ⟨g185, 0, none⟩) 2 (ng185 / 1)), (20, .slice (some ⟨N180, 1, none⟩) 2 3), (21, .int .i64 2), (22, .int .i64 1)]) (by kernel_rfl) ?_
      refine t_end ?_
      show WL _ _ _ _ _ _ _ _
      refine wl_step ?_
      refine w_seq ?_
      refine w_reg fun all => ?_
      refine t_qz 1 [2, 3, 8, 9, 10, 20, 21, 22, 23] (σ' := [(2, .int .i64 0), (3, .int .i64 n3), (8, .pointer (some ⟨b169, 0, none⟩)), (9, .slice (some ⟨g183, 0, none⟩) 2 (ng183 / 1)), (10, .slice (some ⟨g185, 0, none⟩) 2 (ng185 / 1)), (20, .slice (some ⟨N180, 1, none⟩) 2 3), (21, .int .i64 2), (22, .int .i64 1), (23, .bool true)]) (by kernel_rfl) ?_
      refine t_end ?_
      show W _ _ _ _ _ _ _
      refine w_seq ?_
      refine w_cond rfl (fun _ => ?_) (fun c_ => by cases c_)
      show W _ _ _ _ _ _ _
      refine w_skip ?_
      show W _ _ _ _ _ _ _
      refine w_seq ?_
      refine w_block ?_
      refine w_seq ?_
      refine w_reg fun all => ?_
      refine t_qz 1 [2, 3, 8, 9, 10, 20, 21, 22, 24] (σ' := [(2, .int .i64 0), (3, .int .i64 n3), (8, .pointer (some ⟨b169, 0, none⟩)), (9, .slice (some ⟨g183, 0, none⟩) 2 (ng183 / 1)), (10, .slice (some ⟨g185, 0, none⟩) 2 (ng185 / 1)), (20, .slice (some ⟨N180, 1, none⟩) 2 3), (21, .int .i64 2), (22, .int .i64 1), (24, .pointer (some ⟨N180, 3, none⟩))]) (by kernel_rfl) ?_
      refine t_v (.ldn rfl rfl rfl (.at 5 rfl rfl)) ?_
      refine t_a (.new rfl rfl) fun b186 fb186 sb186 => ?_
      refine t_sti 0 (cs := [.int .i64 t175, .int .i64 t176]) rfl rfl rfl rfl rfl rfl rfl rfl rfl ?_
      refine t_keep [2, 3, 8, 9, 10, 12, 20, 21, 22] (σ' := [(2, .int .i64 0), (3, .int .i64 n3), (8, .pointer (some ⟨b169, 0, none⟩)), (9, .slice (some ⟨g183, 0, none⟩) 2 (ng183 / 1)), (10, .slice (some ⟨g185, 0, none⟩) 2 (ng185 / 1)), (12, .pointer (some ⟨b186, 0, none⟩)), (20, .slice (some ⟨N180, 1, none⟩) 2 3), (21, .int .i64 2), (22, .int .i64 1)]) (by kernel_rfl) ?_
      refine t_end ?_
      show W _ _ _ _ _ _ _
      refine w_kp [2, 3, 8, 9, 10, 12, 20, 21, 22] (σ' := [(2, .int .i64 0), (3, .int .i64 n3), (8, .pointer (some ⟨b169, 0, none⟩)), (9, .slice (some ⟨g183, 0, none⟩) 2 (ng183 / 1)), (10, .slice (some ⟨g185, 0, none⟩) 2 (ng185 / 1)), (12, .pointer (some ⟨b186, 0, none⟩)), (20, .slice (some ⟨N180, 1, none⟩) 2 3), (21, .int .i64 2), (22, .int .i64 1)]) (by kernel_rfl) ?_
      refine w_gameQ mixed (by kernel_rfl) fun all G hend hstep hqf => ?_
      have hg_fff : ∀ (g190 ng190 g189 g188 ng188 g187 : Nat), G [true, true, true, true, true, true, true, true, true, true, true, true] [(2, .int .i64 0), (3, .int .i64 n3), (8, .pointer (some ⟨b169, 0, none⟩)), (9, .slice (some ⟨g188, 0, none⟩) 3 (ng188 / 1)), (10, .slice (some ⟨g190, 0, none⟩) 3 (ng190 / 1)), (20, .slice (some ⟨N180, 1, none⟩) 2 3), (21, .int .i64 2), (22, .int .i64 1)] ([⟨g190, [.int .i64 a0_1, .int .i64 t174, .int .i64 t176], ng190⟩, ⟨g189, [.int .i64 t176], 1⟩, ⟨g188, [.int .i64 a0_0, .int .i64 t173, .int .i64 t175], ng188⟩, ⟨g187, [.int .i64 t175], 1⟩, ⟨b186, [.int .i64 t175, .int .i64 t176], 2⟩, ⟨g184, [.int .i64 t174], 1⟩, ⟨g182, [.int .i64 t173], 1⟩, ⟨b181, [.int .i64 t173, .int .i64 t174], 2⟩, ⟨N180, [.int .i64 t172, .int .i64 t173, .int .i64 t174, .int .i64 t175, .int .i64 t176, .int .i64 t177, .int .i64 t178], 7⟩, ⟨b169, [.int .i64 0, .int .i64 0], 2⟩, ⟨b168, [.int .i64 2, .int .i64 s1_1, .int .i64 s1_2, .int .i64 s1_3, .int .i64 s1_4, .int .i64 0, .int .i64 0], 7⟩, ⟨b167, [.int .i64 a0_0, .int .i64 a0_1], 2⟩] : List Own) := by
        intro g190 ng190 g189 g188 ng188 g187
        refine hend _ _ _ (by kernel_rfl) ?_
        show W _ _ _ _ _ _ _
        refine w_reg fun all => ?_
        refine t_qz 2 [2, 3, 8, 9, 10, 20, 21, 22] (σ' := [(2, .int .i64 0), (3, .int .i64 n3), (8, .pointer (some ⟨b169, 0, none⟩)), (9, .slice (some ⟨g188, 0, none⟩) 3 (ng188 / 1)), (10, .slice (some ⟨g190, 0, none⟩) 3 (ng190 / 1)), (20, .slice (some ⟨N180, 1, none⟩) 2 3), (21, .int .i64 2), (22, .int .i64 2)]) (by kernel_rfl) ?_
        refine t_end ?_
        show WL _ _ _ _ _ _ _ _
        refine wl_step ?_
        refine w_seq ?_
        refine w_reg fun all => ?_
        refine t_qz 1 [2, 3, 8, 9, 10, 20, 21, 22, 23] (σ' := [(2, .int .i64 0), (3, .int .i64 n3), (8, .pointer (some ⟨b169, 0, none⟩)), (9, .slice (some ⟨g188, 0, none⟩) 3 (ng188 / 1)), (10, .slice (some ⟨g190, 0, none⟩) 3 (ng190 / 1)), (20, .slice (some ⟨N180, 1, none⟩) 2 3), (21, .int .i64 2), (22, .int .i64 2), (23, .bool false)]) (by kernel_rfl) ?_
        refine t_end ?_
        show W _ _ _ _ _ _ _
        refine w_seq ?_
        refine w_cond rfl (fun c_ => by cases c_) (fun _ => ?_)
        show W _ _ _ _ _ _ _
        refine w_exit ?_
        show W _ _ _ _ _ _ _
        refine w_seq ?_
        refine w_reg fun all => ?_
        obtain ⟨t191, h192, e⟩ := bind_of e
        refine t_qz 3 [2, 3, 8, 10, 37, 38, 39] (σ' := [(2, .int .i64 0), (3, .int .i64 n3), (8, .pointer (some ⟨b169, 0, none⟩)), (10, .slice (some ⟨g190, 0, none⟩) 3 (ng190 / 1)), (37, .int .i64 0), (38, .int .i64 n3), (39, .slice (some ⟨g188, 0, none⟩) 3 (ng188 / 1))]) (by kernel_rfl) ?_
        refine t_v (.callr (vs := [.int .i64 0, .int .i64 n3, .slice (some ⟨g188, 0, none⟩) 3 (ng188 / 1)]) (A := ([⟨g188, [.int .i64 a0_0, .int .i64 t173, .int .i64 t175], ng188⟩] : List Own)) (F0 := ([⟨g190, [.int .i64 a0_1, .int .i64 t174, .int .i64 t176], ng190⟩, ⟨g189, [.int .i64 t176], 1⟩, ⟨g187, [.int .i64 t175], 1⟩, ⟨b186, [.int .i64 t175, .int .i64 t176], 2⟩, ⟨g184, [.int .i64 t174], 1⟩, ⟨g182, [.int .i64 t173], 1⟩, ⟨b181, [.int .i64 t173, .int .i64 t174], 2⟩, ⟨N180, [.int .i64 t172, .int .i64 t173, .int .i64 t174, .int .i64 t175, .int .i64 t176, .int .i64 t177, .int .i64 t178], 7⟩, ⟨b169, [.int .i64 0, .int .i64 0], 2⟩, ⟨b168, [.int .i64 2, .int .i64 s1_1, .int .i64 s1_2, .int .i64 s1_3, .int .i64 s1_4, .int .i64 0, .int .i64 0], 7⟩, ⟨b167, [.int .i64 a0_0, .int .i64 a0_1], 2⟩] : List Own)) rfl rfl (by kernel_rfl) (sel_perm (is := [2]) (by kernel_rfl)) (flatten_mix_v3.ok h192)) ?_
        obtain ⟨t193, h194, e⟩ := bind_of e
        refine t_qz 3 [8, 40, 41, 42, 43] (σ' := [(8, .pointer (some ⟨b169, 0, none⟩)), (40, .int .i64 t191), (41, .int .i64 0), (42, .int .i64 n3), (43, .slice (some ⟨g190, 0, none⟩) 3 (ng190 / 1))]) (by kernel_rfl) ?_
        refine t_v (.callr (vs := [.int .i64 0, .int .i64 n3, .slice (some ⟨g190, 0, none⟩) 3 (ng190 / 1)]) (A := ([⟨g190, [.int .i64 a0_1, .int .i64 t174, .int .i64 t176], ng190⟩] : List Own)) (F0 := ([⟨g189, [.int .i64 t176], 1⟩, ⟨g188, [.int .i64 a0_0, .int .i64 t173, .int .i64 t175], ng188⟩, ⟨g187, [.int .i64 t175], 1⟩, ⟨b186, [.int .i64 t175, .int .i64 t176], 2⟩, ⟨g184, [.int .i64 t174], 1⟩, ⟨g182, [.int .i64 t173], 1⟩, ⟨b181, [.int .i64 t173, .int .i64 t174], 2⟩, ⟨N180, [.int .i64 t172, .int .i64 t173, .int .i64 t174, .int .i64 t175, .int .i64 t176, .int .i64 t177, .int .i64 t178], 7⟩, ⟨b169, [.int .i64 0, .int .i64 0], 2⟩, ⟨b168, [.int .i64 2, .int .i64 s1_1, .int .i64 s1_2, .int .i64 s1_3, .int .i64 s1_4, .int .i64 0, .int .i64 0], 7⟩, ⟨b167, [.int .i64 a0_0, .int .i64 a0_1], 2⟩] : List Own)) rfl rfl (by kernel_rfl) (sel_perm (is := [0]) (by kernel_rfl)) (flatten_mix_v3.ok h194)) ?_
        refine t_qz 1 [8, 45] (σ' := [(8, .pointer (some ⟨b169, 0, none⟩)), (45, .agg #[.int .i64 t191, .int .i64 t193])]) (by kernel_rfl) ?_
        refine t_sti 9 (cs := [.int .i64 t191, .int .i64 t193]) rfl rfl rfl rfl rfl rfl rfl rfl rfl ?_
        refine t_keep [8] (σ' := [(8, .pointer (some ⟨b169, 0, none⟩))]) (by kernel_rfl) ?_
        refine t_end ?_
        show W _ _ _ _ _ _ _
        refine w_ret ?_
        simp only [Option.some.injEq, Prod.mk.injEq] at e
        obtain ⟨rfl, rfl⟩ := e
        exact ⟨[.agg #[.int .i64 t191, .int .i64 t193]], [], S, ⟨⟨_, _, _, rfl, .at 9 rfl rfl, rfl⟩, trivial⟩, VS.none, rfl, rfl, rfl⟩
      have hg_7ff : ∀ (g190 ng190 g189 g188 ng188 g187 : Nat), G [true, true, true, true, true, true, true, true, true, true, true, false] [(2, .int .i64 0), (3, .int .i64 n3), (8, .pointer (some ⟨b169, 0, none⟩)), (9, .slice (some ⟨g188, 0, none⟩) 3 (ng188 / 1)), (10, .slice (some ⟨g185, 0, none⟩) 2 (ng185 / 1)), (20, .slice (some ⟨N180, 1, none⟩) 2 3), (21, .int .i64 2), (22, .int .i64 1), (35, .slice (some ⟨g190, 0, none⟩) 3 (ng190 / 1))] ([⟨g190, [.int .i64 a0_1, .int .i64 t174, .int .i64 t176], ng190⟩, ⟨g189, [.int .i64 t176], 1⟩, ⟨g188, [.int .i64 a0_0, .int .i64 t173, .int .i64 t175], ng188⟩, ⟨g187, [.int .i64 t175], 1⟩, ⟨b186, [.int .i64 t175, .int .i64 t176], 2⟩, ⟨g184, [.int .i64 t174], 1⟩, ⟨g182, [.int .i64 t173], 1⟩, ⟨b181, [.int .i64 t173, .int .i64 t174], 2⟩, ⟨N180, [.int .i64 t172, .int .i64 t173, .int .i64 t174, .int .i64 t175, .int .i64 t176, .int .i64 t177, .int .i64 t178], 7⟩, ⟨b169, [.int .i64 0, .int .i64 0], 2⟩, ⟨b168, [.int .i64 2, .int .i64 s1_1, .int .i64 s1_2, .int .i64 s1_3, .int .i64 s1_4, .int .i64 0, .int .i64 0], 7⟩, ⟨b167, [.int .i64 a0_0, .int .i64 a0_1], 2⟩] : List Own) := by
        intro g190 ng190 g189 g188 ng188 g187
        exact hqf 11 [2, 3, 8, 9, 10, 20, 21, 22] _ _ _ [(2, .int .i64 0), (3, .int .i64 n3), (8, .pointer (some ⟨b169, 0, none⟩)), (9, .slice (some ⟨g188, 0, none⟩) 3 (ng188 / 1)), (10, .slice (some ⟨g190, 0, none⟩) 3 (ng190 / 1)), (20, .slice (some ⟨N180, 1, none⟩) 2 3), (21, .int .i64 2), (22, .int .i64 1)] (by kernel_rfl) (by kernel_rfl) (hg_fff g190 ng190 g189 g188 ng188 g187)
      have hg_3ff : ∀ (g190 ng190 g189 g188 ng188 g187 : Nat), G [true, true, true, true, true, true, true, true, true, true, false, false] [(2, .int .i64 0), (3, .int .i64 n3), (8, .pointer (some ⟨b169, 0, none⟩)), (9, .slice (some ⟨g183, 0, none⟩) 2 (ng183 / 1)), (10, .slice (some ⟨g185, 0, none⟩) 2 (ng185 / 1)), (20, .slice (some ⟨N180, 1, none⟩) 2 3), (21, .int .i64 2), (22, .int .i64 1), (30, .slice (some ⟨g188, 0, none⟩) 3 (ng188 / 1)), (35, .slice (some ⟨g190, 0, none⟩) 3 (ng190 / 1))] ([⟨g190, [.int .i64 a0_1, .int .i64 t174, .int .i64 t176], ng190⟩, ⟨g189, [.int .i64 t176], 1⟩, ⟨g188, [.int .i64 a0_0, .int .i64 t173, .int .i64 t175], ng188⟩, ⟨g187, [.int .i64 t175], 1⟩, ⟨b186, [.int .i64 t175, .int .i64 t176], 2⟩, ⟨g184, [.int .i64 t174], 1⟩, ⟨g182, [.int .i64 t173], 1⟩, ⟨b181, [.int .i64 t173, .int .i64 t174], 2⟩, ⟨N180, [.int .i64 t172, .int .i64 t173, .int .i64 t174, .int .i64 t175, .int .i64 t176, .int .i64 t177, .int .i64 t178], 7⟩, ⟨b169, [.int .i64 0, .int .i64 0], 2⟩, ⟨b168, [.int .i64 2, .int .i64 s1_1, .int .i64 s1_2, .int .i64 s1_3, .int .i64 s1_4, .int .i64 0, .int .i64 0], 7⟩, ⟨b167, [.int .i64 a0_0, .int .i64 a0_1], 2⟩] : List Own) := by
        intro g190 ng190 g189 g188 ng188 g187
        exact hqf 10 [2, 3, 8, 9, 10, 20, 21, 22, 35] _ _ _ [(2, .int .i64 0), (3, .int .i64 n3), (8, .pointer (some ⟨b169, 0, none⟩)), (9, .slice (some ⟨g188, 0, none⟩) 3 (ng188 / 1)), (10, .slice (some ⟨g185, 0, none⟩) 2 (ng185 / 1)), (20, .slice (some ⟨N180, 1, none⟩) 2 3), (21, .int .i64 2), (22, .int .i64 1), (35, .slice (some ⟨g190, 0, none⟩) 3 (ng190 / 1))] (by kernel_rfl) (by kernel_rfl) (hg_7ff g190 ng190 g189 g188 ng188 g187)
      have hg_1ff : ∀ (g189 g188 ng188 g187 : Nat), G [true, true, true, true, true, true, true, true, true, false, false, false] [(2, .int .i64 0), (3, .int .i64 n3), (8, .pointer (some ⟨b169, 0, none⟩)), (9, .slice (some ⟨g183, 0, none⟩) 2 (ng183 / 1)), (10, .slice (some ⟨g185, 0, none⟩) 2 (ng185 / 1)), (20, .slice (some ⟨N180, 1, none⟩) 2 3), (21, .int .i64 2), (22, .int .i64 1), (30, .slice (some ⟨g188, 0, none⟩) 3 (ng188 / 1)), (31, .slice (some ⟨g185, 0, none⟩) 2 (ng185 / 1)), (34, .slice (some ⟨g189, 0, none⟩) 1 1)] ([⟨g189, [.int .i64 t176], 1⟩, ⟨g188, [.int .i64 a0_0, .int .i64 t173, .int .i64 t175], ng188⟩, ⟨g187, [.int .i64 t175], 1⟩, ⟨b186, [.int .i64 t175, .int .i64 t176], 2⟩, ⟨g185, [.int .i64 a0_1, .int .i64 t174], ng185⟩, ⟨g184, [.int .i64 t174], 1⟩, ⟨g182, [.int .i64 t173], 1⟩, ⟨b181, [.int .i64 t173, .int .i64 t174], 2⟩, ⟨N180, [.int .i64 t172, .int .i64 t173, .int .i64 t174, .int .i64 t175, .int .i64 t176, .int .i64 t177, .int .i64 t178], 7⟩, ⟨b169, [.int .i64 0, .int .i64 0], 2⟩, ⟨b168, [.int .i64 2, .int .i64 s1_1, .int .i64 s1_2, .int .i64 s1_3, .int .i64 s1_4, .int .i64 0, .int .i64 0], 7⟩, ⟨b167, [.int .i64 a0_0, .int .i64 a0_1], 2⟩] : List Own) := by
        intro g189 g188 ng188 g187
        refine hstep [9] _ _ _ (by kernel_rfl) (List.cons_ne_nil _ _) ⟨?_, trivial⟩
        · show T _ _ _ _ _ _ _ _
          refine t_app1 (cs := [.int .i64 a0_1, .int .i64 t174]) (M := ng185) (F := ([⟨g189, [.int .i64 t176], 1⟩, ⟨g188, [.int .i64 a0_0, .int .i64 t173, .int .i64 t175], ng188⟩, ⟨g187, [.int .i64 t175], 1⟩, ⟨b186, [.int .i64 t175, .int .i64 t176], 2⟩, ⟨g184, [.int .i64 t174], 1⟩, ⟨g182, [.int .i64 t173], 1⟩, ⟨b181, [.int .i64 t173, .int .i64 t174], 2⟩, ⟨N180, [.int .i64 t172, .int .i64 t173, .int .i64 t174, .int .i64 t175, .int .i64 t176, .int .i64 t177, .int .i64 t178], 7⟩, ⟨b169, [.int .i64 0, .int .i64 0], 2⟩, ⟨b168, [.int .i64 2, .int .i64 s1_1, .int .i64 s1_2, .int .i64 s1_3, .int .i64 s1_4, .int .i64 0, .int .i64 0], 7⟩, ⟨b167, [.int .i64 a0_0, .int .i64 a0_1], 2⟩] : List Own)) (news := [.int .i64 t176]) rfl rfl rfl rfl (sel_perm (is := [4]) (by kernel_rfl)) (.at 0 rfl rfl) (by kernel_rfl) rfl rfl (by decide) (by decide) rfl fun g190 ng190 => ?_
          refine t_keep [2, 3, 8, 9, 10, 20, 21, 22, 30, 35] (σ' := [(2, .int .i64 0), (3, .int .i64 n3), (8, .pointer (some ⟨b169, 0, none⟩)), (9, .slice (some ⟨g183, 0, none⟩) 2 (ng183 / 1)), (10, .slice (some ⟨g185, 0, none⟩) 2 (ng185 / 1)), (20, .slice (some ⟨N180, 1, none⟩) 2 3), (21, .int .i64 2), (22, .int .i64 1), (30, .slice (some ⟨g188, 0, none⟩) 3 (ng188 / 1)), (35, .slice (some ⟨g190, 0, none⟩) 3 (ng190 / 1))]) (by kernel_rfl) ?_
          refine t_end ?_
          exact ⟨hg_3ff g190 ng190 g189 g188 ng188 g187, rfl⟩
      have hg_ff : ∀ (g188 ng188 g187 : Nat), G [true, true, true, true, true, true, true, true, false, false, false, false] [(2, .int .i64 0), (3, .int .i64 n3), (8, .pointer (some ⟨b169, 0, none⟩)), (9, .slice (some ⟨g183, 0, none⟩) 2 (ng183 / 1)), (10, .slice (some ⟨g185, 0, none⟩) 2 (ng185 / 1)), (20, .slice (some ⟨N180, 1, none⟩) 2 3), (21, .int .i64 2), (22, .int .i64 1), (30, .slice (some ⟨g188, 0, none⟩) 3 (ng188 / 1)), (31, .slice (some ⟨g185, 0, none⟩) 2 (ng185 / 1)), (33, .int .i64 t176)] ([⟨g188, [.int .i64 a0_0, .int .i64 t173, .int .i64 t175], ng188⟩, ⟨g187, [.int .i64 t175], 1⟩, ⟨b186, [.int .i64 t175, .int .i64 t176], 2⟩, ⟨g185, [.int .i64 a0_1, .int .i64 t174], ng185⟩, ⟨g184, [.int .i64 t174], 1⟩, ⟨g182, [.int .i64 t173], 1⟩, ⟨b181, [.int .i64 t173, .int .i64 t174], 2⟩, ⟨N180, [.int .i64 t172, .int .i64 t173, .int .i64 t174, .int .i64 t175, .int .i64 t176, .int .i64 t177, .int .i64 t178], 7⟩, ⟨b169, [.int .i64 0, .int .i64 0], 2⟩, ⟨b168, [.int .i64 2, .int .i64 s1_1, .int .i64 s1_2, .int .i64 s1_3, .int .i64 s1_4, .int .i64 0, .int .i64 0], 7⟩, ⟨b167, [.int .i64 a0_0, .int .i64 a0_1], 2⟩] : List Own) := by
        intro g188 ng188 g187
        refine hstep [8] _ _ _ (by kernel_rfl) (List.cons_ne_nil _ _) ⟨?_, trivial⟩
        · show T _ _ _ _ _ _ _ _
          refine t_a (.bsl rfl rfl rfl rfl) fun g189 fg189 sg189 => ?_
          refine t_keep [2, 3, 8, 9, 10, 20, 21, 22, 30, 31, 34] (σ' := [(2, .int .i64 0), (3, .int .i64 n3), (8, .pointer (some ⟨b169, 0, none⟩)), (9, .slice (some ⟨g183, 0, none⟩) 2 (ng183 / 1)), (10, .slice (some ⟨g185, 0, none⟩) 2 (ng185 / 1)), (20, .slice (some ⟨N180, 1, none⟩) 2 3), (21, .int .i64 2), (22, .int .i64 1), (30, .slice (some ⟨g188, 0, none⟩) 3 (ng188 / 1)), (31, .slice (some ⟨g185, 0, none⟩) 2 (ng185 / 1)), (34, .slice (some ⟨g189, 0, none⟩) 1 1)]) (by kernel_rfl) ?_
          refine t_end ?_
          exact ⟨hg_1ff g189 g188 ng188 g187, rfl⟩
      have hg_1ef : ∀ (g189 g187 : Nat), G [true, true, true, true, false, true, true, true, true, false, false, false] [(2, .int .i64 0), (3, .int .i64 n3), (8, .pointer (some ⟨b169, 0, none⟩)), (9, .slice (some ⟨g183, 0, none⟩) 2 (ng183 / 1)), (10, .slice (some ⟨g185, 0, none⟩) 2 (ng185 / 1)), (20, .slice (some ⟨N180, 1, none⟩) 2 3), (21, .int .i64 2), (22, .int .i64 1), (26, .slice (some ⟨g183, 0, none⟩) 2 (ng183 / 1)), (29, .slice (some ⟨g187, 0, none⟩) 1 1), (31, .slice (some ⟨g185, 0, none⟩) 2 (ng185 / 1)), (34, .slice (some ⟨g189, 0, none⟩) 1 1)] ([⟨g189, [.int .i64 t176], 1⟩, ⟨g187, [.int .i64 t175], 1⟩, ⟨b186, [.int .i64 t175, .int .i64 t176], 2⟩, ⟨g185, [.int .i64 a0_1, .int .i64 t174], ng185⟩, ⟨g184, [.int .i64 t174], 1⟩, ⟨g183, [.int .i64 a0_0, .int .i64 t173], ng183⟩, ⟨g182, [.int .i64 t173], 1⟩, ⟨b181, [.int .i64 t173, .int .i64 t174], 2⟩, ⟨N180, [.int .i64 t172, .int .i64 t173, .int .i64 t174, .int .i64 t175, .int .i64 t176, .int .i64 t177, .int .i64 t178], 7⟩, ⟨b169, [.int .i64 0, .int .i64 0], 2⟩, ⟨b168, [.int .i64 2, .int .i64 s1_1, .int .i64 s1_2, .int .i64 s1_3, .int .i64 s1_4, .int .i64 0, .int .i64 0], 7⟩, ⟨b167, [.int .i64 a0_0, .int .i64 a0_1], 2⟩] : List Own) := by
        intro g189 g187
        refine hstep [4] _ _ _ (by kernel_rfl) (List.cons_ne_nil _ _) ⟨?_, trivial⟩
        · show T _ _ _ _ _ _ _ _
          refine t_app1 (cs := [.int .i64 a0_0, .int .i64 t173]) (M := ng183) (F := ([⟨g189, [.int .i64 t176], 1⟩, ⟨g187, [.int .i64 t175], 1⟩, ⟨b186, [.int .i64 t175, .int .i64 t176], 2⟩, ⟨g185, [.int .i64 a0_1, .int .i64 t174], ng185⟩, ⟨g184, [.int .i64 t174], 1⟩, ⟨g182, [.int .i64 t173], 1⟩, ⟨b181, [.int .i64 t173, .int .i64 t174], 2⟩, ⟨N180, [.int .i64 t172, .int .i64 t173, .int .i64 t174, .int .i64 t175, .int .i64 t176, .int .i64 t177, .int .i64 t178], 7⟩, ⟨b169, [.int .i64 0, .int .i64 0], 2⟩, ⟨b168, [.int .i64 2, .int .i64 s1_1, .int .i64 s1_2, .int .i64 s1_3, .int .i64 s1_4, .int .i64 0, .int .i64 0], 7⟩, ⟨b167, [.int .i64 a0_0, .int .i64 a0_1], 2⟩] : List Own)) (news := [.int .i64 t175]) rfl rfl rfl rfl (sel_perm (is := [5]) (by kernel_rfl)) (.at 1 rfl rfl) (by kernel_rfl) rfl rfl (by decide) (by decide) rfl fun g188 ng188 => ?_
          refine t_keep [2, 3, 8, 9, 10, 20, 21, 22, 30, 31, 34] (σ' := [(2, .int .i64 0), (3, .int .i64 n3), (8, .pointer (some ⟨b169, 0, none⟩)), (9, .slice (some ⟨g183, 0, none⟩) 2 (ng183 / 1)), (10, .slice (some ⟨g185, 0, none⟩) 2 (ng185 / 1)), (20, .slice (some ⟨N180, 1, none⟩) 2 3), (21, .int .i64 2), (22, .int .i64 1), (30, .slice (some ⟨g188, 0, none⟩) 3 (ng188 / 1)), (31, .slice (some ⟨g185, 0, none⟩) 2 (ng185 / 1)), (34, .slice (some ⟨g189, 0, none⟩) 1 1)]) (by kernel_rfl) ?_
          refine t_vs (H' := ([⟨g189, [.int .i64 t176], 1⟩, ⟨g188, [.int .i64 a0_0, .int .i64 t173, .int .i64 t175], ng188⟩, ⟨g187, [.int .i64 t175], 1⟩, ⟨b186, [.int .i64 t175, .int .i64 t176], 2⟩, ⟨g185, [.int .i64 a0_1, .int .i64 t174], ng185⟩, ⟨g184, [.int .i64 t174], 1⟩, ⟨g182, [.int .i64 t173], 1⟩, ⟨b181, [.int .i64 t173, .int .i64 t174], 2⟩, ⟨N180, [.int .i64 t172, .int .i64 t173, .int .i64 t174, .int .i64 t175, .int .i64 t176, .int .i64 t177, .int .i64 t178], 7⟩, ⟨b169, [.int .i64 0, .int .i64 0], 2⟩, ⟨b168, [.int .i64 2, .int .i64 s1_1, .int .i64 s1_2, .int .i64 s1_3, .int .i64 s1_4, .int .i64 0, .int .i64 0], 7⟩, ⟨b167, [.int .i64 a0_0, .int .i64 a0_1], 2⟩] : List Own)) (S' := S) (VS.sel [1, 0, 0, 0, 0, 0, 0, 0, 0, 0, 0, 0] (by kernel_rfl)) ?_
          refine t_end ?_
          exact ⟨hg_1ff g189 g188 ng188 g187, rfl⟩
      have hg_1e7 : ∀ (g189 : Nat), G [true, true, true, false, false, true, true, true, true, false, false, false] [(2, .int .i64 0), (3, .int .i64 n3), (8, .pointer (some ⟨b169, 0, none⟩)), (9, .slice (some ⟨g183, 0, none⟩) 2 (ng183 / 1)), (10, .slice (some ⟨g185, 0, none⟩) 2 (ng185 / 1)), (20, .slice (some ⟨N180, 1, none⟩) 2 3), (21, .int .i64 2), (22, .int .i64 1), (26, .slice (some ⟨g183, 0, none⟩) 2 (ng183 / 1)), (28, .int .i64 t175), (31, .slice (some ⟨g185, 0, none⟩) 2 (ng185 / 1)), (34, .slice (some ⟨g189, 0, none⟩) 1 1)] ([⟨g189, [.int .i64 t176], 1⟩, ⟨b186, [.int .i64 t175, .int .i64 t176], 2⟩, ⟨g185, [.int .i64 a0_1, .int .i64 t174], ng185⟩, ⟨g184, [.int .i64 t174], 1⟩, ⟨g183, [.int .i64 a0_0, .int .i64 t173], ng183⟩, ⟨g182, [.int .i64 t173], 1⟩, ⟨b181, [.int .i64 t173, .int .i64 t174], 2⟩, ⟨N180, [.int .i64 t172, .int .i64 t173, .int .i64 t174, .int .i64 t175, .int .i64 t176, .int .i64 t177, .int .i64 t178], 7⟩, ⟨b169, [.int .i64 0, .int .i64 0], 2⟩, ⟨b168, [.int .i64 2, .int .i64 s1_1, .int .i64 s1_2, .int .i64 s1_3, .int .i64 s1_4, .int .i64 0, .int .i64 0], 7⟩, ⟨b167, [.int .i64 a0_0, .int .i64 a0_1], 2⟩] : List Own) := by
        intro g189
        refine hstep [3] _ _ _ (by kernel_rfl) (List.cons_ne_nil _ _) ⟨?_, trivial⟩
        · show T _ _ _ _ _ _ _ _
          refine t_a (.bsl rfl rfl rfl rfl) fun g187 fg187 sg187 => ?_
          refine t_keep [2, 3, 8, 9, 10, 20, 21, 22, 26, 29, 31, 34] (σ' := [(2, .int .i64 0), (3, .int .i64 n3), (8, .pointer (some ⟨b169, 0, none⟩)), (9, .slice (some ⟨g183, 0, none⟩) 2 (ng183 / 1)), (10, .slice (some ⟨g185, 0, none⟩) 2 (ng185 / 1)), (20, .slice (some ⟨N180, 1, none⟩) 2 3), (21, .int .i64 2), (22, .int .i64 1), (26, .slice (some ⟨g183, 0, none⟩) 2 (ng183 / 1)), (29, .slice (some ⟨g187, 0, none⟩) 1 1), (31, .slice (some ⟨g185, 0, none⟩) 2 (ng185 / 1)), (34, .slice (some ⟨g189, 0, none⟩) 1 1)]) (by kernel_rfl) ?_
          refine t_vs (H' := ([⟨g189, [.int .i64 t176], 1⟩, ⟨g187, [.int .i64 t175], 1⟩, ⟨b186, [.int .i64 t175, .int .i64 t176], 2⟩, ⟨g185, [.int .i64 a0_1, .int .i64 t174], ng185⟩, ⟨g184, [.int .i64 t174], 1⟩, ⟨g183, [.int .i64 a0_0, .int .i64 t173], ng183⟩, ⟨g182, [.int .i64 t173], 1⟩, ⟨b181, [.int .i64 t173, .int .i64 t174], 2⟩, ⟨N180, [.int .i64 t172, .int .i64 t173, .int .i64 t174, .int .i64 t175, .int .i64 t176, .int .i64 t177, .int .i64 t178], 7⟩, ⟨b169, [.int .i64 0, .int .i64 0], 2⟩, ⟨b168, [.int .i64 2, .int .i64 s1_1, .int .i64 s1_2, .int .i64 s1_3, .int .i64 s1_4, .int .i64 0, .int .i64 0], 7⟩, ⟨b167, [.int .i64 a0_0, .int .i64 a0_1], 2⟩] : List Own)) (S' := S) (VS.sel [1, 0, 0, 0, 0, 0, 0, 0, 0, 0, 0, 0] (by kernel_rfl)) ?_
          refine t_end ?_
          exact ⟨hg_1ef g189 g187, rfl⟩
      have hg_ef : ∀ (g187 : Nat), G [true, true, true, true, false, true, true, true, false, false, false, false] [(2, .int .i64 0), (3, .int .i64 n3), (8, .pointer (some ⟨b169, 0, none⟩)), (9, .slice (some ⟨g183, 0, none⟩) 2 (ng183 / 1)), (10, .slice (some ⟨g185, 0, none⟩) 2 (ng185 / 1)), (20, .slice (some ⟨N180, 1, none⟩) 2 3), (21, .int .i64 2), (22, .int .i64 1), (26, .slice (some ⟨g183, 0, none⟩) 2 (ng183 / 1)), (29, .slice (some ⟨g187, 0, none⟩) 1 1), (31, .slice (some ⟨g185, 0, none⟩) 2 (ng185 / 1)), (33, .int .i64 t176)] ([⟨g187, [.int .i64 t175], 1⟩, ⟨b186, [.int .i64 t175, .int .i64 t176], 2⟩, ⟨g185, [.int .i64 a0_1, .int .i64 t174], ng185⟩, ⟨g184, [.int .i64 t174], 1⟩, ⟨g183, [.int .i64 a0_0, .int .i64 t173], ng183⟩, ⟨g182, [.int .i64 t173], 1⟩, ⟨b181, [.int .i64 t173, .int .i64 t174], 2⟩, ⟨N180, [.int .i64 t172, .int .i64 t173, .int .i64 t174, .int .i64 t175, .int .i64 t176, .int .i64 t177, .int .i64 t178], 7⟩, ⟨b169, [.int .i64 0, .int .i64 0], 2⟩, ⟨b168, [.int .i64 2, .int .i64 s1_1, .int .i64 s1_2, .int .i64 s1_3, .int .i64 s1_4, .int .i64 0, .int .i64 0], 7⟩, ⟨b167, [.int .i64 a0_0, .int .i64 a0_1], 2⟩] : List Own) := by
        intro g187
        refine hstep [4, 8] _ _ _ (by kernel_rfl) (List.cons_ne_nil _ _) ⟨?_, ?_, trivial⟩
        · show T _ _ _ _ _ _ _ _
          refine t_app1 (cs := [.int .i64 a0_0, .int .i64 t173]) (M := ng183) (F := ([⟨g187, [.int .i64 t175], 1⟩, ⟨b186, [.int .i64 t175, .int .i64 t176], 2⟩, ⟨g185, [.int .i64 a0_1, .int .i64 t174], ng185⟩, ⟨g184, [.int .i64 t174], 1⟩, ⟨g182, [.int .i64 t173], 1⟩, ⟨b181, [.int .i64 t173, .int .i64 t174], 2⟩, ⟨N180, [.int .i64 t172, .int .i64 t173, .int .i64 t174, .int .i64 t175, .int .i64 t176, .int .i64 t177, .int .i64 t178], 7⟩, ⟨b169, [.int .i64 0, .int .i64 0], 2⟩, ⟨b168, [.int .i64 2, .int .i64 s1_1, .int .i64 s1_2, .int .i64 s1_3, .int .i64 s1_4, .int .i64 0, .int .i64 0], 7⟩, ⟨b167, [.int .i64 a0_0, .int .i64 a0_1], 2⟩] : List Own)) (news := [.int .i64 t175]) rfl rfl rfl rfl (sel_perm (is := [4]) (by kernel_rfl)) (.at 0 rfl rfl) (by kernel_rfl) rfl rfl (by decide) (by decide) rfl fun g188 ng188 => ?_
          refine t_keep [2, 3, 8, 9, 10, 20, 21, 22, 30, 31, 33] (σ' := [(2, .int .i64 0), (3, .int .i64 n3), (8, .pointer (some ⟨b169, 0, none⟩)), (9, .slice (some ⟨g183, 0, none⟩) 2 (ng183 / 1)), (10, .slice (some ⟨g185, 0, none⟩) 2 (ng185 / 1)), (20, .slice (some ⟨N180, 1, none⟩) 2 3), (21, .int .i64 2), (22, .int .i64 1), (30, .slice (some ⟨g188, 0, none⟩) 3 (ng188 / 1)), (31, .slice (some ⟨g185, 0, none⟩) 2 (ng185 / 1)), (33, .int .i64 t176)]) (by kernel_rfl) ?_
          refine t_end ?_
          exact ⟨hg_ff g188 ng188 g187, rfl⟩
        · show T _ _ _ _ _ _ _ _
          refine t_a (.bsl rfl rfl rfl rfl) fun g189 fg189 sg189 => ?_
          refine t_keep [2, 3, 8, 9, 10, 20, 21, 22, 26, 29, 31, 34] (σ' := [(2, .int .i64 0), (3, .int .i64 n3), (8, .pointer (some ⟨b169, 0, none⟩)), (9, .slice (some ⟨g183, 0, none⟩) 2 (ng183 / 1)), (10, .slice (some ⟨g185, 0, none⟩) 2 (ng185 / 1)), (20, .slice (some ⟨N180, 1, none⟩) 2 3), (21, .int .i64 2), (22, .int .i64 1), (26, .slice (some ⟨g183, 0, none⟩) 2 (ng183 / 1)), (29, .slice (some ⟨g187, 0, none⟩) 1 1), (31, .slice (some ⟨g185, 0, none⟩) 2 (ng185 / 1)), (34, .slice (some ⟨g189, 0, none⟩) 1 1)]) (by kernel_rfl) ?_
          refine t_end ?_
          exact ⟨hg_1ef g189 g187, rfl⟩
      have hg_7f : ∀ (g188 ng188 g187 : Nat), G [true, true, true, true, true, true, true, false, false, false, false, false] [(2, .int .i64 0), (3, .int .i64 n3), (8, .pointer (some ⟨b169, 0, none⟩)), (9, .slice (some ⟨g183, 0, none⟩) 2 (ng183 / 1)), (10, .slice (some ⟨g185, 0, none⟩) 2 (ng185 / 1)), (20, .slice (some ⟨N180, 1, none⟩) 2 3), (21, .int .i64 2), (22, .int .i64 1), (30, .slice (some ⟨g188, 0, none⟩) 3 (ng188 / 1)), (31, .slice (some ⟨g185, 0, none⟩) 2 (ng185 / 1)), (32, .pointer (some ⟨b186, 1, none⟩))] ([⟨g188, [.int .i64 a0_0, .int .i64 t173, .int .i64 t175], ng188⟩, ⟨g187, [.int .i64 t175], 1⟩, ⟨b186, [.int .i64 t175, .int .i64 t176], 2⟩, ⟨g185, [.int .i64 a0_1, .int .i64 t174], ng185⟩, ⟨g184, [.int .i64 t174], 1⟩, ⟨g182, [.int .i64 t173], 1⟩, ⟨b181, [.int .i64 t173, .int .i64 t174], 2⟩, ⟨N180, [.int .i64 t172, .int .i64 t173, .int .i64 t174, .int .i64 t175, .int .i64 t176, .int .i64 t177, .int .i64 t178], 7⟩, ⟨b169, [.int .i64 0, .int .i64 0], 2⟩, ⟨b168, [.int .i64 2, .int .i64 s1_1, .int .i64 s1_2, .int .i64 s1_3, .int .i64 s1_4, .int .i64 0, .int .i64 0], 7⟩, ⟨b167, [.int .i64 a0_0, .int .i64 a0_1], 2⟩] : List Own) := by
        intro g188 ng188 g187
        refine hstep [7] _ _ _ (by kernel_rfl) (List.cons_ne_nil _ _) ⟨?_, trivial⟩
        · show T _ _ _ _ _ _ _ _
          refine t_v (.ld1 rfl rfl rfl (.at 2 rfl rfl)) ?_
          refine t_keep [2, 3, 8, 9, 10, 20, 21, 22, 30, 31, 33] (σ' := [(2, .int .i64 0), (3, .int .i64 n3), (8, .pointer (some ⟨b169, 0, none⟩)), (9, .slice (some ⟨g183, 0, none⟩) 2 (ng183 / 1)), (10, .slice (some ⟨g185, 0, none⟩) 2 (ng185 / 1)), (20, .slice (some ⟨N180, 1, none⟩) 2 3), (21, .int .i64 2), (22, .int .i64 1), (30, .slice (some ⟨g188, 0, none⟩) 3 (ng188 / 1)), (31, .slice (some ⟨g185, 0, none⟩) 2 (ng185 / 1)), (33, .int .i64 t176)]) (by kernel_rfl) ?_
          refine t_end ?_
          exact ⟨hg_ff g188 ng188 g187, rfl⟩
      have hg_1e3 : ∀ (g189 : Nat), G [true, true, false, false, false, true, true, true, true, false, false, false] [(2, .int .i64 0), (3, .int .i64 n3), (8, .pointer (some ⟨b169, 0, none⟩)), (9, .slice (some ⟨g183, 0, none⟩) 2 (ng183 / 1)), (10, .slice (some ⟨g185, 0, none⟩) 2 (ng185 / 1)), (20, .slice (some ⟨N180, 1, none⟩) 2 3), (21, .int .i64 2), (22, .int .i64 1), (26, .slice (some ⟨g183, 0, none⟩) 2 (ng183 / 1)), (27, .pointer (some ⟨b186, 0, none⟩)), (31, .slice (some ⟨g185, 0, none⟩) 2 (ng185 / 1)), (34, .slice (some ⟨g189, 0, none⟩) 1 1)] ([⟨g189, [.int .i64 t176], 1⟩, ⟨b186, [.int .i64 t175, .int .i64 t176], 2⟩, ⟨g185, [.int .i64 a0_1, .int .i64 t174], ng185⟩, ⟨g184, [.int .i64 t174], 1⟩, ⟨g183, [.int .i64 a0_0, .int .i64 t173], ng183⟩, ⟨g182, [.int .i64 t173], 1⟩, ⟨b181, [.int .i64 t173, .int .i64 t174], 2⟩, ⟨N180, [.int .i64 t172, .int .i64 t173, .int .i64 t174, .int .i64 t175, .int .i64 t176, .int .i64 t177, .int .i64 t178], 7⟩, ⟨b169, [.int .i64 0, .int .i64 0], 2⟩, ⟨b168, [.int .i64 2, .int .i64 s1_1, .int .i64 s1_2, .int .i64 s1_3, .int .i64 s1_4, .int .i64 0, .int .i64 0], 7⟩, ⟨b167, [.int .i64 a0_0, .int .i64 a0_1], 2⟩] : List Own) := by
        intro g189
        refine hstep [2] _ _ _ (by kernel_rfl) (List.cons_ne_nil _ _) ⟨?_, trivial⟩
        · show T _ _ _ _ _ _ _ _
          refine t_v (.ld1 rfl rfl rfl (.at 1 rfl rfl)) ?_
          refine t_keep [2, 3, 8, 9, 10, 20, 21, 22, 26, 28, 31, 34] (σ' := [(2, .int .i64 0), (3, .int .i64 n3), (8, .pointer (some ⟨b169, 0, none⟩)), (9, .slice (some ⟨g183, 0, none⟩) 2 (ng183 / 1)), (10, .slice (some ⟨g185, 0, none⟩) 2 (ng185 / 1)), (20, .slice (some ⟨N180, 1, none⟩) 2 3), (21, .int .i64 2), (22, .int .i64 1), (26, .slice (some ⟨g183, 0, none⟩) 2 (ng183 / 1)), (28, .int .i64 t175), (31, .slice (some ⟨g185, 0, none⟩) 2 (ng185 / 1)), (34, .slice (some ⟨g189, 0, none⟩) 1 1)]) (by kernel_rfl) ?_
          refine t_end ?_
          exact ⟨hg_1e7 g189, rfl⟩
      have hg_e7 : G [true, true, true, false, false, true, true, true, false, false, false, false] [(2, .int .i64 0), (3, .int .i64 n3), (8, .pointer (some ⟨b169, 0, none⟩)), (9, .slice (some ⟨g183, 0, none⟩) 2 (ng183 / 1)), (10, .slice (some ⟨g185, 0, none⟩) 2 (ng185 / 1)), (20, .slice (some ⟨N180, 1, none⟩) 2 3), (21, .int .i64 2), (22, .int .i64 1), (26, .slice (some ⟨g183, 0, none⟩) 2 (ng183 / 1)), (28, .int .i64 t175), (31, .slice (some ⟨g185, 0, none⟩) 2 (ng185 / 1)), (33, .int .i64 t176)] ([⟨b186, [.int .i64 t175, .int .i64 t176], 2⟩, ⟨g185, [.int .i64 a0_1, .int .i64 t174], ng185⟩, ⟨g184, [.int .i64 t174], 1⟩, ⟨g183, [.int .i64 a0_0, .int .i64 t173], ng183⟩, ⟨g182, [.int .i64 t173], 1⟩, ⟨b181, [.int .i64 t173, .int .i64 t174], 2⟩, ⟨N180, [.int .i64 t172, .int .i64 t173, .int .i64 t174, .int .i64 t175, .int .i64 t176, .int .i64 t177, .int .i64 t178], 7⟩, ⟨b169, [.int .i64 0, .int .i64 0], 2⟩, ⟨b168, [.int .i64 2, .int .i64 s1_1, .int .i64 s1_2, .int .i64 s1_3, .int .i64 s1_4, .int .i64 0, .int .i64 0], 7⟩, ⟨b167, [.int .i64 a0_0, .int .i64 a0_1], 2⟩] : List Own) := by
        refine hstep [3, 8] _ _ _ (by kernel_rfl) (List.cons_ne_nil _ _) ⟨?_, ?_, trivial⟩
        · show T _ _ _ _ _ _ _ _
          refine t_a (.bsl rfl rfl rfl rfl) fun g187 fg187 sg187 => ?_
          refine t_keep [2, 3, 8, 9, 10, 20, 21, 22, 26, 29, 31, 33] (σ' := [(2, .int .i64 0), (3, .int .i64 n3), (8, .pointer (some ⟨b169, 0, none⟩)), (9, .slice (some ⟨g183, 0, none⟩) 2 (ng183 / 1)), (10, .slice (some ⟨g185, 0, none⟩) 2 (ng185 / 1)), (20, .slice (some ⟨N180, 1, none⟩) 2 3), (21, .int .i64 2), (22, .int .i64 1), (26, .slice (some ⟨g183, 0, none⟩) 2 (ng183 / 1)), (29, .slice (some ⟨g187, 0, none⟩) 1 1), (31, .slice (some ⟨g185, 0, none⟩) 2 (ng185 / 1)), (33, .int .i64 t176)]) (by kernel_rfl) ?_
          refine t_end ?_
          exact ⟨hg_ef g187, rfl⟩
        · show T _ _ _ _ _ _ _ _
          refine t_a (.bsl rfl rfl rfl rfl) fun g189 fg189 sg189 => ?_
          refine t_keep [2, 3, 8, 9, 10, 20, 21, 22, 26, 28, 31, 34] (σ' := [(2, .int .i64 0), (3, .int .i64 n3), (8, .pointer (some ⟨b169, 0, none⟩)), (9, .slice (some ⟨g183, 0, none⟩) 2 (ng183 / 1)), (10, .slice (some ⟨g185, 0, none⟩) 2 (ng185 / 1)), (20, .slice (some ⟨N180, 1, none⟩) 2 3), (21, .int .i64 2), (22, .int .i64 1), (26, .slice (some ⟨g183, 0, none⟩) 2 (ng183 / 1)), (28, .int .i64 t175), (31, .slice (some ⟨g185, 0, none⟩) 2 (ng185 / 1)), (34, .slice (some ⟨g189, 0, none⟩) 1 1)]) (by kernel_rfl) ?_
          refine t_end ?_
          exact ⟨hg_1e7 g189, rfl⟩
      have hg_6f : ∀ (g187 : Nat), G [true, true, true, true, false, true, true, false, false, false, false, false] [(2, .int .i64 0), (3, .int .i64 n3), (8, .pointer (some ⟨b169, 0, none⟩)), (9, .slice (some ⟨g183, 0, none⟩) 2 (ng183 / 1)), (10, .slice (some ⟨g185, 0, none⟩) 2 (ng185 / 1)), (20, .slice (some ⟨N180, 1, none⟩) 2 3), (21, .int .i64 2), (22, .int .i64 1), (26, .slice (some ⟨g183, 0, none⟩) 2 (ng183 / 1)), (29, .slice (some ⟨g187, 0, none⟩) 1 1), (31, .slice (some ⟨g185, 0, none⟩) 2 (ng185 / 1)), (32, .pointer (some ⟨b186, 1, none⟩))] ([⟨g187, [.int .i64 t175], 1⟩, ⟨b186, [.int .i64 t175, .int .i64 t176], 2⟩, ⟨g185, [.int .i64 a0_1, .int .i64 t174], ng185⟩, ⟨g184, [.int .i64 t174], 1⟩, ⟨g183, [.int .i64 a0_0, .int .i64 t173], ng183⟩, ⟨g182, [.int .i64 t173], 1⟩, ⟨b181, [.int .i64 t173, .int .i64 t174], 2⟩, ⟨N180, [.int .i64 t172, .int .i64 t173, .int .i64 t174, .int .i64 t175, .int .i64 t176, .int .i64 t177, .int .i64 t178], 7⟩, ⟨b169, [.int .i64 0, .int .i64 0], 2⟩, ⟨b168, [.int .i64 2, .int .i64 s1_1, .int .i64 s1_2, .int .i64 s1_3, .int .i64 s1_4, .int .i64 0, .int .i64 0], 7⟩, ⟨b167, [.int .i64 a0_0, .int .i64 a0_1], 2⟩] : List Own) := by
        intro g187
        refine hstep [4, 7] _ _ _ (by kernel_rfl) (List.cons_ne_nil _ _) ⟨?_, ?_, trivial⟩
        · show T _ _ _ _ _ _ _ _
          refine t_app1 (cs := [.int .i64 a0_0, .int .i64 t173]) (M := ng183) (F := ([⟨g187, [.int .i64 t175], 1⟩, ⟨b186, [.int .i64 t175, .int .i64 t176], 2⟩, ⟨g185, [.int .i64 a0_1, .int .i64 t174], ng185⟩, ⟨g184, [.int .i64 t174], 1⟩, ⟨g182, [.int .i64 t173], 1⟩, ⟨b181, [.int .i64 t173, .int .i64 t174], 2⟩, ⟨N180, [.int .i64 t172, .int .i64 t173, .int .i64 t174, .int .i64 t175, .int .i64 t176, .int .i64 t177, .int .i64 t178], 7⟩, ⟨b169, [.int .i64 0, .int .i64 0], 2⟩, ⟨b168, [.int .i64 2, .int .i64 s1_1, .int .i64 s1_2, .int .i64 s1_3, .int .i64 s1_4, .int .i64 0, .int .i64 0], 7⟩, ⟨b167, [.int .i64 a0_0, .int .i64 a0_1], 2⟩] : List Own)) (news := [.int .i64 t175]) rfl rfl rfl rfl (sel_perm (is := [4]) (by kernel_rfl)) (.at 0 rfl rfl) (by kernel_rfl) rfl rfl (by decide) (by decide) rfl fun g188 ng188 => ?_
          refine t_keep [2, 3, 8, 9, 10, 20, 21, 22, 30, 31, 32] (σ' := [(2, .int .i64 0), (3, .int .i64 n3), (8, .pointer (some ⟨b169, 0, none⟩)), (9, .slice (some ⟨g183, 0, none⟩) 2 (ng183 / 1)), (10, .slice (some ⟨g185, 0, none⟩) 2 (ng185 / 1)), (20, .slice (some ⟨N180, 1, none⟩) 2 3), (21, .int .i64 2), (22, .int .i64 1), (30, .slice (some ⟨g188, 0, none⟩) 3 (ng188 / 1)), (31, .slice (some ⟨g185, 0, none⟩) 2 (ng185 / 1)), (32, .pointer (some ⟨b186, 1, none⟩))]) (by kernel_rfl) ?_
          refine t_end ?_
          exact ⟨hg_7f g188 ng188 g187, rfl⟩
        · show T _ _ _ _ _ _ _ _
          refine t_v (.ld1 rfl rfl rfl (.at 1 rfl rfl)) ?_
          refine t_keep [2, 3, 8, 9, 10, 20, 21, 22, 26, 29, 31, 33] (σ' := [(2, .int .i64 0), (3, .int .i64 n3), (8, .pointer (some ⟨b169, 0, none⟩)), (9, .slice (some ⟨g183, 0, none⟩) 2 (ng183 / 1)), (10, .slice (some ⟨g185, 0, none⟩) 2 (ng185 / 1)), (20, .slice (some ⟨N180, 1, none⟩) 2 3), (21, .int .i64 2), (22, .int .i64 1), (26, .slice (some ⟨g183, 0, none⟩) 2 (ng183 / 1)), (29, .slice (some ⟨g187, 0, none⟩) 1 1), (31, .slice (some ⟨g185, 0, none⟩) 2 (ng185 / 1)), (33, .int .i64 t176)]) (by kernel_rfl) ?_
          refine t_end ?_
          exact ⟨hg_ef g187, rfl⟩
      have hg_e3 : G [true, true, false, false, false, true, true, true, false, false, false, false] [(2, .int .i64 0), (3, .int .i64 n3), (8, .pointer (some ⟨b169, 0, none⟩)), (9, .slice (some ⟨g183, 0, none⟩) 2 (ng183 / 1)), (10, .slice (some ⟨g185, 0, none⟩) 2 (ng185 / 1)), (20, .slice (some ⟨N180, 1, none⟩) 2 3), (21, .int .i64 2), (22, .int .i64 1), (26, .slice (some ⟨g183, 0, none⟩) 2 (ng183 / 1)), (27, .pointer (some ⟨b186, 0, none⟩)), (31, .slice (some ⟨g185, 0, none⟩) 2 (ng185 / 1)), (33, .int .i64 t176)] ([⟨b186, [.int .i64 t175, .int .i64 t176], 2⟩, ⟨g185, [.int .i64 a0_1, .int .i64 t174], ng185⟩, ⟨g184, [.int .i64 t174], 1⟩, ⟨g183, [.int .i64 a0_0, .int .i64 t173], ng183⟩, ⟨g182, [.int .i64 t173], 1⟩, ⟨b181, [.int .i64 t173, .int .i64 t174], 2⟩, ⟨N180, [.int .i64 t172, .int .i64 t173, .int .i64 t174, .int .i64 t175, .int .i64 t176, .int .i64 t177, .int .i64 t178], 7⟩, ⟨b169, [.int .i64 0, .int .i64 0], 2⟩, ⟨b168, [.int .i64 2, .int .i64 s1_1, .int .i64 s1_2, .int .i64 s1_3, .int .i64 s1_4, .int .i64 0, .int .i64 0], 7⟩, ⟨b167, [.int .i64 a0_0, .int .i64 a0_1], 2⟩] : List Own) := by
        refine hstep [2, 8] _ _ _ (by kernel_rfl) (List.cons_ne_nil _ _) ⟨?_, ?_, trivial⟩
        · show T _ _ _ _ _ _ _ _
          refine t_v (.ld1 rfl rfl rfl (.at 0 rfl rfl)) ?_
          refine t_keep [2, 3, 8, 9, 10, 20, 21, 22, 26, 28, 31, 33] (σ' := [(2, .int .i64 0), (3, .int .i64 n3), (8, .pointer (some ⟨b169, 0, none⟩)), (9, .slice (some ⟨g183, 0, none⟩) 2 (ng183 / 1)), (10, .slice (some ⟨g185, 0, none⟩) 2 (ng185 / 1)), (20, .slice (some ⟨N180, 1, none⟩) 2 3), (21, .int .i64 2), (22, .int .i64 1), (26, .slice (some ⟨g183, 0, none⟩) 2 (ng183 / 1)), (28, .int .i64 t175), (31, .slice (some ⟨g185, 0, none⟩) 2 (ng185 / 1)), (33, .int .i64 t176)]) (by kernel_rfl) ?_
          refine t_end ?_
          exact ⟨hg_e7, rfl⟩
        · show T _ _ _ _ _ _ _ _
          refine t_a (.bsl rfl rfl rfl rfl) fun g189 fg189 sg189 => ?_
          refine t_keep [2, 3, 8, 9, 10, 20, 21, 22, 26, 27, 31, 34] (σ' := [(2, .int .i64 0), (3, .int .i64 n3), (8, .pointer (some ⟨b169, 0, none⟩)), (9, .slice (some ⟨g183, 0, none⟩) 2 (ng183 / 1)), (10, .slice (some ⟨g185, 0, none⟩) 2 (ng185 / 1)), (20, .slice (some ⟨N180, 1, none⟩) 2 3), (21, .int .i64 2), (22, .int .i64 1), (26, .slice (some ⟨g183, 0, none⟩) 2 (ng183 / 1)), (27, .pointer (some ⟨b186, 0, none⟩)), (31, .slice (some ⟨g185, 0, none⟩) 2 (ng185 / 1)), (34, .slice (some ⟨g189, 0, none⟩) 1 1)]) (by kernel_rfl) ?_
          refine t_end ?_
          exact ⟨hg_1e3 g189, rfl⟩
      have hg_67 : G [true, true, true, false, false, true, true, false, false, false, false, false] [(2, .int .i64 0), (3, .int .i64 n3), (8, .pointer (some ⟨b169, 0, none⟩)), (9, .slice (some ⟨g183, 0, none⟩) 2 (ng183 / 1)), (10, .slice (some ⟨g185, 0, none⟩) 2 (ng185 / 1)), (20, .slice (some ⟨N180, 1, none⟩) 2 3), (21, .int .i64 2), (22, .int .i64 1), (26, .slice (some ⟨g183, 0, none⟩) 2 (ng183 / 1)), (28, .int .i64 t175), (31, .slice (some ⟨g185, 0, none⟩) 2 (ng185 / 1)), (32, .pointer (some ⟨b186, 1, none⟩))] ([⟨b186, [.int .i64 t175, .int .i64 t176], 2⟩, ⟨g185, [.int .i64 a0_1, .int .i64 t174], ng185⟩, ⟨g184, [.int .i64 t174], 1⟩, ⟨g183, [.int .i64 a0_0, .int .i64 t173], ng183⟩, ⟨g182, [.int .i64 t173], 1⟩, ⟨b181, [.int .i64 t173, .int .i64 t174], 2⟩, ⟨N180, [.int .i64 t172, .int .i64 t173, .int .i64 t174, .int .i64 t175, .int .i64 t176, .int .i64 t177, .int .i64 t178], 7⟩, ⟨b169, [.int .i64 0, .int .i64 0], 2⟩, ⟨b168, [.int .i64 2, .int .i64 s1_1, .int .i64 s1_2, .int .i64 s1_3, .int .i64 s1_4, .int .i64 0, .int .i64 0], 7⟩, ⟨b167, [.int .i64 a0_0, .int .i64 a0_1], 2⟩] : List Own) := by
        refine hstep [3, 7] _ _ _ (by kernel_rfl) (List.cons_ne_nil _ _) ⟨?_, ?_, trivial⟩
        · show T _ _ _ _ _ _ _ _
          refine t_a (.bsl rfl rfl rfl rfl) fun g187 fg187 sg187 => ?_
          refine t_keep [2, 3, 8, 9, 10, 20, 21, 22, 26, 29, 31, 32] (σ' := [(2, .int .i64 0), (3, .int .i64 n3), (8, .pointer (some ⟨b169, 0, none⟩)), (9, .slice (some ⟨g183, 0, none⟩) 2 (ng183 / 1)), (10, .slice (some ⟨g185, 0, none⟩) 2 (ng185 / 1)), (20, .slice (some ⟨N180, 1, none⟩) 2 3), (21, .int .i64 2), (22, .int .i64 1), (26, .slice (some ⟨g183, 0, none⟩) 2 (ng183 / 1)), (29, .slice (some ⟨g187, 0, none⟩) 1 1), (31, .slice (some ⟨g185, 0, none⟩) 2 (ng185 / 1)), (32, .pointer (some ⟨b186, 1, none⟩))]) (by kernel_rfl) ?_
          refine t_end ?_
          exact ⟨hg_6f g187, rfl⟩
        · show T _ _ _ _ _ _ _ _
          refine t_v (.ld1 rfl rfl rfl (.at 0 rfl rfl)) ?_
          refine t_keep [2, 3, 8, 9, 10, 20, 21, 22, 26, 28, 31, 33] (σ' := [(2, .int .i64 0), (3, .int .i64 n3), (8, .pointer (some ⟨b169, 0, none⟩)), (9, .slice (some ⟨g183, 0, none⟩) 2 (ng183 / 1)), (10, .slice (some ⟨g185, 0, none⟩) 2 (ng185 / 1)), (20, .slice (some ⟨N180, 1, none⟩) 2 3), (21, .int .i64 2), (22, .int .i64 1), (26, .slice (some ⟨g183, 0, none⟩) 2 (ng183 / 1)), (28, .int .i64 t175), (31, .slice (some ⟨g185, 0, none⟩) 2 (ng185 / 1)), (33, .int .i64 t176)]) (by kernel_rfl) ?_
          refine t_end ?_
          exact ⟨hg_e7, rfl⟩
      have hg_63 : G [true, true, false, false, false, true, true, false, false, false, false, false] [(2, .int .i64 0), (3, .int .i64 n3), (8, .pointer (some ⟨b169, 0, none⟩)), (9, .slice (some ⟨g183, 0, none⟩) 2 (ng183 / 1)), (10, .slice (some ⟨g185, 0, none⟩) 2 (ng185 / 1)), (20, .slice (some ⟨N180, 1, none⟩) 2 3), (21, .int .i64 2), (22, .int .i64 1), (26, .slice (some ⟨g183, 0, none⟩) 2 (ng183 / 1)), (27, .pointer (some ⟨b186, 0, none⟩)), (31, .slice (some ⟨g185, 0, none⟩) 2 (ng185 / 1)), (32, .pointer (some ⟨b186, 1, none⟩))] ([⟨b186, [.int .i64 t175, .int .i64 t176], 2⟩, ⟨g185, [.int .i64 a0_1, .int .i64 t174], ng185⟩, ⟨g184, [.int .i64 t174], 1⟩, ⟨g183, [.int .i64 a0_0, .int .i64 t173], ng183⟩, ⟨g182, [.int .i64 t173], 1⟩, ⟨b181, [.int .i64 t173, .int .i64 t174], 2⟩, ⟨N180, [.int .i64 t172, .int .i64 t173, .int .i64 t174, .int .i64 t175, .int .i64 t176, .int .i64 t177, .int .i64 t178], 7⟩, ⟨b169, [.int .i64 0, .int .i64 0], 2⟩, ⟨b168, [.int .i64 2, .int .i64 s1_1, .int .i64 s1_2, .int .i64 s1_3, .int .i64 s1_4, .int .i64 0, .int .i64 0], 7⟩, ⟨b167, [.int .i64 a0_0, .int .i64 a0_1], 2⟩] : List Own) := by
        refine hstep [2, 7] _ _ _ (by kernel_rfl) (List.cons_ne_nil _ _) ⟨?_, ?_, trivial⟩
        · show T _ _ _ _ _ _ _ _
          refine t_v (.ld1 rfl rfl rfl (.at 0 rfl rfl)) ?_
          refine t_keep [2, 3, 8, 9, 10, 20, 21, 22, 26, 28, 31, 32] (σ' := [(2, .int .i64 0), (3, .int .i64 n3), (8, .pointer (some ⟨b169, 0, none⟩)), (9, .slice (some ⟨g183, 0, none⟩) 2 (ng183 / 1)), (10, .slice (some ⟨g185, 0, none⟩) 2 (ng185 / 1)), (20, .slice (some ⟨N180, 1, none⟩) 2 3), (21, .int .i64 2), (22, .int .i64 1), (26, .slice (some ⟨g183, 0, none⟩) 2 (ng183 / 1)), (28, .int .i64 t175), (31, .slice (some ⟨g185, 0, none⟩) 2 (ng185 / 1)), (32, .pointer (some ⟨b186, 1, none⟩))]) (by kernel_rfl) ?_
          refine t_end ?_
          exact ⟨hg_67, rfl⟩
        · show T _ _ _ _ _ _ _ _
          refine t_v (.ld1 rfl rfl rfl (.at 0 rfl rfl)) ?_
          refine t_keep [2, 3, 8, 9, 10, 20, 21, 22, 26, 27, 31, 33] (σ' := [(2, .int .i64 0), (3, .int .i64 n3), (8, .pointer (some ⟨b169, 0, none⟩)), (9, .slice (some ⟨g183, 0, none⟩) 2 (ng183 / 1)), (10, .slice (some ⟨g185, 0, none⟩) 2 (ng185 / 1)), (20, .slice (some ⟨N180, 1, none⟩) 2 3), (21, .int .i64 2), (22, .int .i64 1), (26, .slice (some ⟨g183, 0, none⟩) 2 (ng183 / 1)), (27, .pointer (some ⟨b186, 0, none⟩)), (31, .slice (some ⟨g185, 0, none⟩) 2 (ng185 / 1)), (33, .int .i64 t176)]) (by kernel_rfl) ?_
          refine t_end ?_
          exact ⟨hg_e3, rfl⟩
      have hg_23 : G [true, true, false, false, false, true, false, false, false, false, false, false] [(2, .int .i64 0), (3, .int .i64 n3), (8, .pointer (some ⟨b169, 0, none⟩)), (9, .slice (some ⟨g183, 0, none⟩) 2 (ng183 / 1)), (10, .slice (some ⟨g185, 0, none⟩) 2 (ng185 / 1)), (12, .pointer (some ⟨b186, 0, none⟩)), (20, .slice (some ⟨N180, 1, none⟩) 2 3), (21, .int .i64 2), (22, .int .i64 1), (26, .slice (some ⟨g183, 0, none⟩) 2 (ng183 / 1)), (27, .pointer (some ⟨b186, 0, none⟩)), (31, .slice (some ⟨g185, 0, none⟩) 2 (ng185 / 1))] ([⟨b186, [.int .i64 t175, .int .i64 t176], 2⟩, ⟨g185, [.int .i64 a0_1, .int .i64 t174], ng185⟩, ⟨g184, [.int .i64 t174], 1⟩, ⟨g183, [.int .i64 a0_0, .int .i64 t173], ng183⟩, ⟨g182, [.int .i64 t173], 1⟩, ⟨b181, [.int .i64 t173, .int .i64 t174], 2⟩, ⟨N180, [.int .i64 t172, .int .i64 t173, .int .i64 t174, .int .i64 t175, .int .i64 t176, .int .i64 t177, .int .i64 t178], 7⟩, ⟨b169, [.int .i64 0, .int .i64 0], 2⟩, ⟨b168, [.int .i64 2, .int .i64 s1_1, .int .i64 s1_2, .int .i64 s1_3, .int .i64 s1_4, .int .i64 0, .int .i64 0], 7⟩, ⟨b167, [.int .i64 a0_0, .int .i64 a0_1], 2⟩] : List Own) := by
        exact hqf 6 [2, 3, 8, 9, 10, 20, 21, 22, 26, 27, 31, 32] _ _ _ [(2, .int .i64 0), (3, .int .i64 n3), (8, .pointer (some ⟨b169, 0, none⟩)), (9, .slice (some ⟨g183, 0, none⟩) 2 (ng183 / 1)), (10, .slice (some ⟨g185, 0, none⟩) 2 (ng185 / 1)), (20, .slice (some ⟨N180, 1, none⟩) 2 3), (21, .int .i64 2), (22, .int .i64 1), (26, .slice (some ⟨g183, 0, none⟩) 2 (ng183 / 1)), (27, .pointer (some ⟨b186, 0, none⟩)), (31, .slice (some ⟨g185, 0, none⟩) 2 (ng185 / 1)), (32, .pointer (some ⟨b186, 1, none⟩))] (by kernel_rfl) (by kernel_rfl) hg_63
      have hg_3 : G [true, true, false, false, false, false, false, false, false, false, false, false] [(2, .int .i64 0), (3, .int .i64 n3), (8, .pointer (some ⟨b169, 0, none⟩)), (9, .slice (some ⟨g183, 0, none⟩) 2 (ng183 / 1)), (10, .slice (some ⟨g185, 0, none⟩) 2 (ng185 / 1)), (12, .pointer (some ⟨b186, 0, none⟩)), (20, .slice (some ⟨N180, 1, none⟩) 2 3), (21, .int .i64 2), (22, .int .i64 1), (26, .slice (some ⟨g183, 0, none⟩) 2 (ng183 / 1)), (27, .pointer (some ⟨b186, 0, none⟩))] ([⟨b186, [.int .i64 t175, .int .i64 t176], 2⟩, ⟨g185, [.int .i64 a0_1, .int .i64 t174], ng185⟩, ⟨g184, [.int .i64 t174], 1⟩, ⟨g183, [.int .i64 a0_0, .int .i64 t173], ng183⟩, ⟨g182, [.int .i64 t173], 1⟩, ⟨b181, [.int .i64 t173, .int .i64 t174], 2⟩, ⟨N180, [.int .i64 t172, .int .i64 t173, .int .i64 t174, .int .i64 t175, .int .i64 t176, .int .i64 t177, .int .i64 t178], 7⟩, ⟨b169, [.int .i64 0, .int .i64 0], 2⟩, ⟨b168, [.int .i64 2, .int .i64 s1_1, .int .i64 s1_2, .int .i64 s1_3, .int .i64 s1_4, .int .i64 0, .int .i64 0], 7⟩, ⟨b167, [.int .i64 a0_0, .int .i64 a0_1], 2⟩] : List Own) := by
        exact hqf 5 [2, 3, 8, 9, 10, 12, 20, 21, 22, 26, 27, 31] _ _ _ [(2, .int .i64 0), (3, .int .i64 n3), (8, .pointer (some ⟨b169, 0, none⟩)), (9, .slice (some ⟨g183, 0, none⟩) 2 (ng183 / 1)), (10, .slice (some ⟨g185, 0, none⟩) 2 (ng185 / 1)), (12, .pointer (some ⟨b186, 0, none⟩)), (20, .slice (some ⟨N180, 1, none⟩) 2 3), (21, .int .i64 2), (22, .int .i64 1), (26, .slice (some ⟨g183, 0, none⟩) 2 (ng183 / 1)), (27, .pointer (some ⟨b186, 0, none⟩)), (31, .slice (some ⟨g185, 0, none⟩) 2 (ng185 / 1))] (by kernel_rfl) (by kernel_rfl) hg_23
      have hg_1 : G [true, false, false, false, false, false, false, false, false, false, false, false] [(2, .int .i64 0), (3, .int .i64 n3), (8, .pointer (some ⟨b169, 0, none⟩)), (9, .slice (some ⟨g183, 0, none⟩) 2 (ng183 / 1)), (10, .slice (some ⟨g185, 0, none⟩) 2 (ng185 / 1)), (12, .pointer (some ⟨b186, 0, none⟩)), (20, .slice (some ⟨N180, 1, none⟩) 2 3), (21, .int .i64 2), (22, .int .i64 1), (26, .slice (some ⟨g183, 0, none⟩) 2 (ng183 / 1))] ([⟨b186, [.int .i64 t175, .int .i64 t176], 2⟩, ⟨g185, [.int .i64 a0_1, .int .i64 t174], ng185⟩, ⟨g184, [.int .i64 t174], 1⟩, ⟨g183, [.int .i64 a0_0, .int .i64 t173], ng183⟩, ⟨g182, [.int .i64 t173], 1⟩, ⟨b181, [.int .i64 t173, .int .i64 t174], 2⟩, ⟨N180, [.int .i64 t172, .int .i64 t173, .int .i64 t174, .int .i64 t175, .int .i64 t176, .int .i64 t177, .int .i64 t178], 7⟩, ⟨b169, [.int .i64 0, .int .i64 0], 2⟩, ⟨b168, [.int .i64 2, .int .i64 s1_1, .int .i64 s1_2, .int .i64 s1_3, .int .i64 s1_4, .int .i64 0, .int .i64 0], 7⟩, ⟨b167, [.int .i64 a0_0, .int .i64 a0_1], 2⟩] : List Own) := by
        exact hqf 1 [2, 3, 8, 9, 10, 12, 20, 21, 22, 26, 27] _ _ _ [(2, .int .i64 0), (3, .int .i64 n3), (8, .pointer (some ⟨b169, 0, none⟩)), (9, .slice (some ⟨g183, 0, none⟩) 2 (ng183 / 1)), (10, .slice (some ⟨g185, 0, none⟩) 2 (ng185 / 1)), (12, .pointer (some ⟨b186, 0, none⟩)), (20, .slice (some ⟨N180, 1, none⟩) 2 3), (21, .int .i64 2), (22, .int .i64 1), (26, .slice (some ⟨g183, 0, none⟩) 2 (ng183 / 1)), (27, .pointer (some ⟨b186, 0, none⟩))] (by kernel_rfl) (by kernel_rfl) hg_3
      have hg_0 : G [false, false, false, false, false, false, false, false, false, false, false, false] [(2, .int .i64 0), (3, .int .i64 n3), (8, .pointer (some ⟨b169, 0, none⟩)), (9, .slice (some ⟨g183, 0, none⟩) 2 (ng183 / 1)), (10, .slice (some ⟨g185, 0, none⟩) 2 (ng185 / 1)), (12, .pointer (some ⟨b186, 0, none⟩)), (20, .slice (some ⟨N180, 1, none⟩) 2 3), (21, .int .i64 2), (22, .int .i64 1)] ([⟨b186, [.int .i64 t175, .int .i64 t176], 2⟩, ⟨g185, [.int .i64 a0_1, .int .i64 t174], ng185⟩, ⟨g184, [.int .i64 t174], 1⟩, ⟨g183, [.int .i64 a0_0, .int .i64 t173], ng183⟩, ⟨g182, [.int .i64 t173], 1⟩, ⟨b181, [.int .i64 t173, .int .i64 t174], 2⟩, ⟨N180, [.int .i64 t172, .int .i64 t173, .int .i64 t174, .int .i64 t175, .int .i64 t176, .int .i64 t177, .int .i64 t178], 7⟩, ⟨b169, [.int .i64 0, .int .i64 0], 2⟩, ⟨b168, [.int .i64 2, .int .i64 s1_1, .int .i64 s1_2, .int .i64 s1_3, .int .i64 s1_4, .int .i64 0, .int .i64 0], 7⟩, ⟨b167, [.int .i64 a0_0, .int .i64 a0_1], 2⟩] : List Own) := by
        exact hqf 0 [2, 3, 8, 9, 10, 12, 20, 21, 22, 26] _ _ _ [(2, .int .i64 0), (3, .int .i64 n3), (8, .pointer (some ⟨b169, 0, none⟩)), (9, .slice (some ⟨g183, 0, none⟩) 2 (ng183 / 1)), (10, .slice (some ⟨g185, 0, none⟩) 2 (ng185 / 1)), (12, .pointer (some ⟨b186, 0, none⟩)), (20, .slice (some ⟨N180, 1, none⟩) 2 3), (21, .int .i64 2), (22, .int .i64 1), (26, .slice (some ⟨g183, 0, none⟩) 2 (ng183 / 1))] (by kernel_rfl) (by kernel_rfl) hg_1
      exact hg_0
    have hg_7ff : ∀ (g185 ng185 g184 g183 ng183 g182 : Nat), G [true, true, true, true, true, true, true, true, true, true, true, false] [(2, .int .i64 0), (3, .int .i64 n3), (8, .pointer (some ⟨b169, 0, none⟩)), (9, .slice (some ⟨g183, 0, none⟩) 2 (ng183 / 1)), (10, .slice (some ⟨g171, 0, none⟩) 1 1), (20, .slice (some ⟨N180, 1, none⟩) 2 3), (21, .int .i64 2), (22, .int .i64 0), (35, .slice (some ⟨g185, 0, none⟩) 2 (ng185 / 1))] ([⟨g185, [.int .i64 a0_1, .int .i64 t174], ng185⟩, ⟨g184, [.int .i64 t174], 1⟩, ⟨g183, [.int .i64 a0_0, .int .i64 t173], ng183⟩, ⟨g182, [.int .i64 t173], 1⟩, ⟨b181, [.int .i64 t173, .int .i64 t174], 2⟩, ⟨N180, [.int .i64 t172, .int .i64 t173, .int .i64 t174, .int .i64 t175, .int .i64 t176, .int .i64 t177, .int .i64 t178], 7⟩, ⟨b169, [.int .i64 0, .int .i64 0], 2⟩, ⟨b168, [.int .i64 2, .int .i64 s1_1, .int .i64 s1_2, .int .i64 s1_3, .int .i64 s1_4, .int .i64 0, .int .i64 0], 7⟩, ⟨b167, [.int .i64 a0_0, .int .i64 a0_1], 2⟩] : List Own) := by
      intro g185 ng185 g184 g183 ng183 g182
      exact hqf 11 [2, 3, 8, 9, 10, 20, 21, 22] _ _ _ [(2, .int .i64 0), (3, .int .i64 n3), (8, .pointer (some ⟨b169, 0, none⟩)), (9, .slice (some ⟨g183, 0, none⟩) 2 (ng183 / 1)), (10, .slice (some ⟨g185, 0, none⟩) 2 (ng185 / 1)), (20, .slice (some ⟨N180, 1, none⟩) 2 3), (21, .int .i64 2), (22, .int .i64 0)] (by kernel_rfl) (by kernel_rfl) (hg_fff g185 ng185 g184 g183 ng183 g182)
    have hg_3ff : ∀ (g185 ng185 g184 g183 ng183 g182 : Nat), G [true, true, true, true, true, true, true, true, true, true, false, false] [(2, .int .i64 0), (3, .int .i64 n3), (8, .pointer (some ⟨b169, 0, none⟩)), (9, .slice (some ⟨g170, 0, none⟩) 1 1), (10, .slice (some ⟨g171, 0, none⟩) 1 1), (20, .slice (some ⟨N180, 1, none⟩) 2 3), (21, .int .i64 2), (22, .int .i64 0), (30, .slice (some ⟨g183, 0, none⟩) 2 (ng183 / 1)), (35, .slice (some ⟨g185, 0, none⟩) 2 (ng185 / 1))] ([⟨g185, [.int .i64 a0_1, .int .i64 t174], ng185⟩, ⟨g184, [.int .i64 t174], 1⟩, ⟨g183, [.int .i64 a0_0, .int .i64 t173], ng183⟩, ⟨g182, [.int .i64 t173], 1⟩, ⟨b181, [.int .i64 t173, .int .i64 t174], 2⟩, ⟨N180, [.int .i64 t172, .int .i64 t173, .int .i64 t174, .int .i64 t175, .int .i64 t176, .int .i64 t177, .int .i64 t178], 7⟩, ⟨b169, [.int .i64 0, .int .i64 0], 2⟩, ⟨b168, [.int .i64 2, .int .i64 s1_1, .int .i64 s1_2, .int .i64 s1_3, .int .i64 s1_4, .int .i64 0, .int .i64 0], 7⟩, ⟨b167, [.int .i64 a0_0, .int .i64 a0_1], 2⟩] : List Own) := by
      intro g185 ng185 g184 g183 ng183 g182
      exact hqf 10 [2, 3, 8, 9, 10, 20, 21, 22, 35] _ _ _ [(2, .int .i64 0), (3, .int .i64 n3), (8, .pointer (some ⟨b169, 0, none⟩)), (9, .slice (some ⟨g183, 0, none⟩) 2 (ng183 / 1)), (10, .slice (some ⟨g171, 0, none⟩) 1 1), (20, .slice (some ⟨N180, 1, none⟩) 2 3), (21, .int .i64 2), (22, .int .i64 0), (35, .slice (some ⟨g185, 0, none⟩) 2 (ng185 / 1))] (by kernel_rfl) (by kernel_rfl) (hg_7ff g185 ng185 g184 g183 ng183 g182)
    have hg_1ff : ∀ (g184 g183 ng183 g182 : Nat), G [true, true, true, true, true, true, true, true, true, false, false, false] [(2, .int .i64 0), (3, .int .i64 n3), (8, .pointer (some ⟨b169, 0, none⟩)), (9, .slice (some ⟨g170, 0, none⟩) 1 1), (10, .slice (some ⟨g171, 0, none⟩) 1 1), (20, .slice (some ⟨N180, 1, none⟩) 2 3), (21, .int .i64 2), (22, .int .i64 0), (30, .slice (some ⟨g183, 0, none⟩) 2 (ng183 / 1)), (31, .slice (some ⟨g171, 0, none⟩) 1 1), (34, .slice (some ⟨g184, 0, none⟩) 1 1)] ([⟨g184, [.int .i64 t174], 1⟩, ⟨g183, [.int .i64 a0_0, .int .i64 t173], ng183⟩, ⟨g182, [.int .i64 t173], 1⟩, ⟨b181, [.int .i64 t173, .int .i64 t174], 2⟩, ⟨N180, [.int .i64 t172, .int .i64 t173, .int .i64 t174, .int .i64 t175, .int .i64 t176, .int .i64 t177, .int .i64 t178], 7⟩, ⟨g171, [.int .i64 a0_1], 1⟩, ⟨b169, [.int .i64 0, .int .i64 0], 2⟩, ⟨b168, [.int .i64 2, .int .i64 s1_1, .int .i64 s1_2, .int .i64 s1_3, .int .i64 s1_4, .int .i64 0, .int .i64 0], 7⟩, ⟨b167, [.int .i64 a0_0, .int .i64 a0_1], 2⟩] : List Own) := by
      intro g184 g183 ng183 g182
      refine hstep [9] _ _ _ (by kernel_rfl) (List.cons_ne_nil _ _) ⟨?_, trivial⟩
      · show T _ _ _ _ _ _ _ _
        refine t_app1 (cs := [.int .i64 a0_1]) (M := 1) (F := ([⟨g184, [.int .i64 t174], 1⟩, ⟨g183, [.int .i64 a0_0, .int .i64 t173], ng183⟩, ⟨g182, [.int .i64 t173], 1⟩, ⟨b181, [.int .i64 t173, .int .i64 t174], 2⟩, ⟨N180, [.int .i64 t172, .int .i64 t173, .int .i64 t174, .int .i64 t175, .int .i64 t176, .int .i64 t177, .int .i64 t178], 7⟩, ⟨b169, [.int .i64 0, .int .i64 0], 2⟩, ⟨b168, [.int .i64 2, .int .i64 s1_1, .int .i64 s1_2, .int .i64 s1_3, .int .i64 s1_4, .int .i64 0, .int .i64 0], 7⟩, ⟨b167, [.int .i64 a0_0, .int .i64 a0_1], 2⟩] : List Own)) (news := [.int .i64 t174]) rfl rfl rfl rfl (sel_perm (is := [5]) (by kernel_rfl)) (.at 0 rfl rfl) (by kernel_rfl) rfl rfl (by decide) (by decide) rfl fun g185 ng185 => ?_
        refine t_keep [2, 3, 8, 9, 10, 20, 21, 22, 30, 35] (σ' := [(2, .int .i64 0), (3, .int .i64 n3), (8, .pointer (some ⟨b169, 0, none⟩)), (9, .slice (some ⟨g170, 0, none⟩) 1 1), (10, .slice (some ⟨g171, 0, none⟩) 1 1), (20, .slice (some ⟨N180, 1, none⟩) 2 3), (21, .int .i64 2), (22, .int .i64 0), (30, .slice (some ⟨g183, 0, none⟩) 2 (ng183 / 1)), (35, .slice (some ⟨g185, 0, none⟩) 2 (ng185 / 1))]) (by kernel_rfl) ?_
        refine t_end ?_
        exact ⟨hg_3ff g185 ng185 g184 g183 ng183 g182, rfl⟩
    have hg_ff : ∀ (g183 ng183 g182 : Nat), G [true, true, true, true, true, true, true, true, false, false, false, false] [(2, .int .i64 0), (3, .int .i64 n3), (8, .pointer (some ⟨b169, 0, none⟩)), (9, .slice (some ⟨g170, 0, none⟩) 1 1), (10, .slice (some ⟨g171, 0, none⟩) 1 1), (20, .slice (some ⟨N180, 1, none⟩) 2 3), (21, .int .i64 2), (22, .int .i64 0), (30, .slice (some ⟨g183, 0, none⟩) 2 (ng183 / 1)), (31, .slice (some ⟨g171, 0, none⟩) 1 1), (33, .int .i64 t174)] ([⟨g183, [.int .i64 a0_0, .int .i64 t173], ng183⟩, ⟨g182, [.int .i64 t173], 1⟩, ⟨b181, [.int .i64 t173, .int .i64 t174], 2⟩, ⟨N180, [.int .i64 t172, .int .i64 t173, .int .i64 t174, .int .i64 t175, .int .i64 t176, .int .i64 t177, .int .i64 t178], 7⟩, ⟨g171, [.int .i64 a0_1], 1⟩, ⟨b169, [.int .i64 0, .int .i64 0], 2⟩, ⟨b168, [.int .i64 2, .int .i64 s1_1, .int .i64 s1_2, .int .i64 s1_3, .int .i64 s1_4, .int .i64 0, .int .i64 0], 7⟩, ⟨b167, [.int .i64 a0_0, .int .i64 a0_1], 2⟩] : List Own) := by
      intro g183 ng183 g182
      refine hstep [8] _ _ _ (by kernel_rfl) (List.cons_ne_nil _ _) ⟨?_, trivial⟩
      · show T _ _ _ _ _ _ _ _
        refine t_a (.bsl rfl rfl rfl rfl) fun g184 fg184 sg184 => ?_
        refine t_keep [2, 3, 8, 9, 10, 20, 21, 22, 30, 31, 34] (σ' := [(2, .int .i64 0), (3, .int .i64 n3), (8, .pointer (some ⟨b169, 0, none⟩)), (9, .slice (some ⟨g170, 0, none⟩) 1 1), (10, .slice (some ⟨g171, 0, none⟩) 1 1), (20, .slice (some ⟨N180, 1, none⟩) 2 3), (21, .int .i64 2), (22, .int .i64 0), (30, .slice (some ⟨g183, 0, none⟩) 2 (ng183 / 1)), (31, .slice (some ⟨g171, 0, none⟩) 1 1), (34, .slice (some ⟨g184, 0, none⟩) 1 1)]) (by kernel_rfl) ?_
        refine t_end ?_
        exact ⟨hg_1ff g184 g183 ng183 g182, rfl⟩
    have hg_1ef : ∀ (g184 g182 : Nat), G [true, true, true, true, false, true, true, true, true, false, false, false] [(2, .int .i64 0), (3, .int .i64 n3), (8, .pointer (some ⟨b169, 0, none⟩)), (9, .slice (some ⟨g170, 0, none⟩) 1 1), (10, .slice (some ⟨g171, 0, none⟩) 1 1), (20, .slice (some ⟨N180, 1, none⟩) 2 3), (21, .int .i64 2), (22, .int .i64 0), (26, .slice (some ⟨g170, 0, none⟩) 1 1), (29, .slice (some ⟨g182, 0, none⟩) 1 1), (31, .slice (some ⟨g171, 0, none⟩) 1 1), (34, .slice (some ⟨g184, 0, none⟩) 1 1)] ([⟨g184, [.int .i64 t174], 1⟩, ⟨g182, [.int .i64 t173], 1⟩, ⟨b181, [.int .i64 t173, .int .i64 t174], 2⟩, ⟨N180, [.int .i64 t172, .int .i64 t173, .int .i64 t174, .int .i64 t175, .int .i64 t176, .int .i64 t177, .int .i64 t178], 7⟩, ⟨g171, [.int .i64 a0_1], 1⟩, ⟨g170, [.int .i64 a0_0], 1⟩, ⟨b169, [.int .i64 0, .int .i64 0], 2⟩, ⟨b168, [.int .i64 2, .int .i64 s1_1, .int .i64 s1_2, .int .i64 s1_3, .int .i64 s1_4, .int .i64 0, .int .i64 0], 7⟩, ⟨b167, [.int .i64 a0_0, .int .i64 a0_1], 2⟩] : List Own) := by
      intro g184 g182
      refine hstep [4] _ _ _ (by kernel_rfl) (List.cons_ne_nil _ _) ⟨?_, trivial⟩
      · show T _ _ _ _ _ _ _ _
        refine t_app1 (cs := [.int .i64 a0_0]) (M := 1) (F := ([⟨g184, [.int .i64 t174], 1⟩, ⟨g182, [.int .i64 t173], 1⟩, ⟨b181, [.int .i64 t173, .int .i64 t174], 2⟩, ⟨N180, [.int .i64 t172, .int .i64 t173, .int .i64 t174, .int .i64 t175, .int .i64 t176, .int .i64 t177, .int .i64 t178], 7⟩, ⟨g171, [.int .i64 a0_1], 1⟩, ⟨b169, [.int .i64 0, .int .i64 0], 2⟩, ⟨b168, [.int .i64 2, .int .i64 s1_1, .int .i64 s1_2, .int .i64 s1_3, .int .i64 s1_4, .int .i64 0, .int .i64 0], 7⟩, ⟨b167, [.int .i64 a0_0, .int .i64 a0_1], 2⟩] : List Own)) (news := [.int .i64 t173]) rfl rfl rfl rfl (sel_perm (is := [5]) (by kernel_rfl)) (.at 1 rfl rfl) (by kernel_rfl) rfl rfl (by decide) (by decide) rfl fun g183 ng183 => ?_
        refine t_keep [2, 3, 8, 9, 10, 20, 21, 22, 30, 31, 34] (σ' := [(2, .int .i64 0), (3, .int .i64 n3), (8, .pointer (some ⟨b169, 0, none⟩)), (9, .slice (some ⟨g170, 0, none⟩) 1 1), (10, .slice (some ⟨g171, 0, none⟩) 1 1), (20, .slice (some ⟨N180, 1, none⟩) 2 3), (21, .int .i64 2), (22, .int .i64 0), (30, .slice (some ⟨g183, 0, none⟩) 2 (ng183 / 1)), (31, .slice (some ⟨g171, 0, none⟩) 1 1), (34, .slice (some ⟨g184, 0, none⟩) 1 1)]) (by kernel_rfl) ?_
        refine t_vs (H' := ([⟨g184, [.int .i64 t174], 1⟩, ⟨g183, [.int .i64 a0_0, .int .i64 t173], ng183⟩, ⟨g182, [.int .i64 t173], 1⟩, ⟨b181, [.int .i64 t173, .int .i64 t174], 2⟩, ⟨N180, [.int .i64 t172, .int .i64 t173, .int .i64 t174, .int .i64 t175, .int .i64 t176, .int .i64 t177, .int .i64 t178], 7⟩, ⟨g171, [.int .i64 a0_1], 1⟩, ⟨b169, [.int .i64 0, .int .i64 0], 2⟩, ⟨b168, [.int .i64 2, .int .i64 s1_1, .int .i64 s1_2, .int .i64 s1_3, .int .i64 s1_4, .int .i64 0, .int .i64 0], 7⟩, ⟨b167, [.int .i64 a0_0, .int .i64 a0_1], 2⟩] : List Own)) (S' := S) (VS.sel [1, 0, 0, 0, 0, 0, 0, 0, 0] (by kernel_rfl)) ?_
        refine t_end ?_
        exact ⟨hg_1ff g184 g183 ng183 g182, rfl⟩
    have hg_1e7 : ∀ (g184 : Nat), G [true, true, true, false, false, true, true, true, true, false, false, false] [(2, .int .i64 0), (3, .int .i64 n3), (8, .pointer (some ⟨b169, 0, none⟩)), (9, .slice (some ⟨g170, 0, none⟩) 1 1), (10, .slice (some ⟨g171, 0, none⟩) 1 1), (20, .slice (some ⟨N180, 1, none⟩) 2 3), (21, .int .i64 2), (22, .int .i64 0), (26, .slice (some ⟨g170, 0, none⟩) 1 1), (28, .int .i64 t173), (31, .slice (some ⟨g171, 0, none⟩) 1 1), (34, .slice (some ⟨g184, 0, none⟩) 1 1)] ([⟨g184, [.int .i64 t174], 1⟩, ⟨b181, [.int .i64 t173, .int .i64 t174], 2⟩, ⟨N180, [.int .i64 t172, .int .i64 t173, .int .i64 t174, .int .i64 t175, .int .i64 t176, .int .i64 t177, .int .i64 t178], 7⟩, ⟨g171, [.int .i64 a0_1], 1⟩, ⟨g170, [.int .i64 a0_0], 1⟩, ⟨b169, [.int .i64 0, .int .i64 0], 2⟩, ⟨b168, [.int .i64 2, .int .i64 s1_1, .int .i64 s1_2, .int .i64 s1_3, .int .i64 s1_4, .int .i64 0, .int .i64 0], 7⟩, ⟨b167, [.int .i64 a0_0, .int .i64 a0_1], 2⟩] : List Own) := by
      intro g184
      refine hstep [3] _ _ _ (by kernel_rfl) (List.cons_ne_nil _ _) ⟨?_, trivial⟩
      · show T _ _ _ _ _ _ _ _
        refine t_a (.bsl rfl rfl rfl rfl) fun g182 fg182 sg182 => ?_
        refine t_keep [2, 3, 8, 9, 10, 20, 21, 22, 26, 29, 31, 34] (σ' := [(2, .int .i64 0), (3, .int .i64 n3), (8, .pointer (some ⟨b169, 0, none⟩)), (9, .slice (some ⟨g170, 0, none⟩) 1 1), (10, .slice (some ⟨g171, 0, none⟩) 1 1), (20, .slice (some ⟨N180, 1, none⟩) 2 3), (21, .int .i64 2), (22, .int .i64 0), (26, .slice (some ⟨g170, 0, none⟩) 1 1), (29, .slice (some ⟨g182, 0, none⟩) 1 1), (31, .slice (some ⟨g171, 0, none⟩) 1 1), (34, .slice (some ⟨g184, 0, none⟩) 1 1)]) (by kernel_rfl) ?_
        refine t_vs (H' := ([⟨g184, [.int .i64 t174], 1⟩, ⟨g182, [.int .i64 t173], 1⟩, ⟨b181, [.int .i64 t173, .int .i64 t174], 2⟩, ⟨N180, [.int .i64 t172, .int .i64 t173, .int .i64 t174, .int .i64 t175, .int .i64 t176, .int .i64 t177, .int .i64 t178], 7⟩, ⟨g171, [.int .i64 a0_1], 1⟩, ⟨g170, [.int .i64 a0_0], 1⟩, ⟨b169, [.int .i64 0, .int .i64 0], 2⟩, ⟨b168, [.int .i64 2, .int .i64 s1_1, .int .i64 s1_2, .int .i64 s1_3, .int .i64 s1_4, .int .i64 0, .int .i64 0], 7⟩, ⟨b167, [.int .i64 a0_0, .int .i64 a0_1], 2⟩] : List Own)) (S' := S) (VS.sel [1, 0, 0, 0, 0, 0, 0, 0, 0] (by kernel_rfl)) ?_
        refine t_end ?_
        exact ⟨hg_1ef g184 g182, rfl⟩
    have hg_ef : ∀ (g182 : Nat), G [true, true, true, true, false, true, true, true, false, false, false, false] [(2, .int .i64 0), (3, .int .i64 n3), (8, .pointer (some ⟨b169, 0, none⟩)), (9, .slice (some ⟨g170, 0, none⟩) 1 1), (10, .slice (some ⟨g171, 0, none⟩) 1 1), (20, .slice (some ⟨N180, 1, none⟩) 2 3), (21, .int .i64 2), (22, .int .i64 0), (26, .slice (some ⟨g170, 0, none⟩) 1 1), (29, .slice (some ⟨g182, 0, none⟩) 1 1), (31, .slice (some ⟨g171, 0, none⟩) 1 1), (33, .int .i64 t174)] ([⟨g182, [.int .i64 t173], 1⟩, ⟨b181, [.int .i64 t173, .int .i64 t174], 2⟩, ⟨N180, [.int .i64 t172, .int .i64 t173, .int .i64 t174, .int .i64 t175, .int .i64 t176, .int .i64 t177, .int .i64 t178], 7⟩, ⟨g171, [.int .i64 a0_1], 1⟩, ⟨g170, [.int .i64 a0_0], 1⟩, ⟨b169, [.int .i64 0, .int .i64 0], 2⟩, ⟨b168, [.int .i64 2, .int .i64 s1_1, .int .i64 s1_2, .int .i64 s1_3, .int .i64 s1_4, .int .i64 0, .int .i64 0], 7⟩, ⟨b167, [.int .i64 a0_0, .int .i64 a0_1], 2⟩] : List Own) := by
      intro g182
      refine hstep [4, 8] _ _ _ (by kernel_rfl) (List.cons_ne_nil _ _) ⟨?_, ?_, trivial⟩
      · show T _ _ _ _ _ _ _ _
        refine t_app1 (cs := [.int .i64 a0_0]) (M := 1) (F := ([⟨g182, [.int .i64 t173], 1⟩, ⟨b181, [.int .i64 t173, .int .i64 t174], 2⟩, ⟨N180, [.int .i64 t172, .int .i64 t173, .int .i64 t174, .int .i64 t175, .int .i64 t176, .int .i64 t177, .int .i64 t178], 7⟩, ⟨g171, [.int .i64 a0_1], 1⟩, ⟨b169, [.int .i64 0, .int .i64 0], 2⟩, ⟨b168, [.int .i64 2, .int .i64 s1_1, .int .i64 s1_2, .int .i64 s1_3, .int .i64 s1_4, .int .i64 0, .int .i64 0], 7⟩, ⟨b167, [.int .i64 a0_0, .int .i64 a0_1], 2⟩] : List Own)) (news := [.int .i64 t173]) rfl rfl rfl rfl (sel_perm (is := [4]) (by kernel_rfl)) (.at 0 rfl rfl) (by kernel_rfl) rfl rfl (by decide) (by decide) rfl fun g183 ng183 => ?_
        refine t_keep [2, 3, 8, 9, 10, 20, 21, 22, 30, 31, 33] (σ' := [(2, .int .i64 0), (3, .int .i64 n3), (8, .pointer (some ⟨b169, 0, none⟩)), (9, .slice (some ⟨g170, 0, none⟩) 1 1), (10, .slice (some ⟨g171, 0, none⟩) 1 1), (20, .slice (some ⟨N180, 1, none⟩) 2 3), (21, .int .i64 2), (22, .int .i64 0), (30, .slice (some ⟨g183, 0, none⟩) 2 (ng183 / 1)), (31, .slice (some ⟨g171, 0, none⟩) 1 1), (33, .int .i64 t174)]) (by kernel_rfl) ?_
        refine t_end ?_
        exact ⟨hg_ff g183 ng183 g182, rfl⟩
      · show T _ _ _ _ _ _ _ _
        refine t_a (.bsl rfl rfl rfl rfl) fun g184 fg184 sg184 => ?_
        refine t_keep [2, 3, 8, 9, 10, 20, 21, 22, 26, 29, 31, 34] (σ' := [(2, .int .i64 0), (3, .int .i64 n3), (8, .pointer (some ⟨b169, 0, none⟩)), (9, .slice (some ⟨g170, 0, none⟩) 1 1), (10, .slice (some ⟨g171, 0, none⟩) 1 1), (20, .slice (some ⟨N180, 1, none⟩) 2 3), (21, .int .i64 2), (22, .int .i64 0), (26, .slice (some ⟨g170, 0, none⟩) 1 1), (29, .slice (some ⟨g182, 0, none⟩) 1 1), (31, .slice (some ⟨g171, 0, none⟩) 1 1), (34, .slice (some ⟨g184, 0, none⟩) 1 1)]) (by kernel_rfl) ?_
        refine t_end ?_
        exact ⟨hg_1ef g184 g182, rfl⟩
    have hg_7f : ∀ (g183 ng183 g182 : Nat), G [true, true, true, true, true, true, true, false, false, false, false, false] [(2, .int .i64 0), (3, .int .i64 n3), (8, .pointer (some ⟨b169, 0, none⟩)), (9, .slice (some ⟨g170, 0, none⟩) 1 1), (10, .slice (some ⟨g171, 0, none⟩) 1 1), (20, .slice (some ⟨N180, 1, none⟩) 2 3), (21, .int .i64 2), (22, .int .i64 0), (30, .slice (some ⟨g183, 0, none⟩) 2 (ng183 / 1)), (31, .slice (some ⟨g171, 0, none⟩) 1 1), (32, .pointer (some ⟨b181, 1, none⟩))] ([⟨g183, [.int .i64 a0_0, .int .i64 t173], ng183⟩, ⟨g182, [.int .i64 t173], 1⟩, ⟨b181, [.int .i64 t173, .int .i64 t174], 2⟩, ⟨N180, [.int .i64 t172, .int .i64 t173, .int .i64 t174, .int .i64 t175, .int .i64 t176, .int .i64 t177, .int .i64 t178], 7⟩, ⟨g171, [.int .i64 a0_1], 1⟩, ⟨b169, [.int .i64 0, .int .i64 0], 2⟩, ⟨b168, [.int .i64 2, .int .i64 s1_1, .int .i64 s1_2, .int .i64 s1_3, .int .i64 s1_4, .int .i64 0, .int .i64 0], 7⟩, ⟨b167, [.int .i64 a0_0, .int .i64 a0_1], 2⟩] : List Own) := by
      intro g183 ng183 g182
      refine hstep [7] _ _ _ (by kernel_rfl) (List.cons_ne_nil _ _) ⟨?_, trivial⟩
      · show T _ _ _ _ _ _ _ _
        refine t_v (.ld1 rfl rfl rfl (.at 2 rfl rfl)) ?_
        refine t_keep [2, 3, 8, 9, 10, 20, 21, 22, 30, 31, 33] (σ' := [(2, .int .i64 0), (3, .int .i64 n3), (8, .pointer (some ⟨b169, 0, none⟩)), (9, .slice (some ⟨g170, 0, none⟩) 1 1), (10, .slice (some ⟨g171, 0, none⟩) 1 1), (20, .slice (some ⟨N180, 1, none⟩) 2 3), (21, .int .i64 2), (22, .int .i64 0), (30, .slice (some ⟨g183, 0, none⟩) 2 (ng183 / 1)), (31, .slice (some ⟨g171, 0, none⟩) 1 1), (33, .int .i64 t174)]) (by kernel_rfl) ?_
        refine t_end ?_
        exact ⟨hg_ff g183 ng183 g182, rfl⟩
    have hg_1e3 : ∀ (g184 : Nat), G [true, true, false, false, false, true, true, true, true, false, false, false] [(2, .int .i64 0), (3, .int .i64 n3), (8, .pointer (some ⟨b169, 0, none⟩)), (9, .slice (some ⟨g170, 0, none⟩) 1 1), (10, .slice (some ⟨g171, 0, none⟩) 1 1), (20, .slice (some ⟨N180, 1, none⟩) 2 3), (21, .int .i64 2), (22, .int .i64 0), (26, .slice (some ⟨g170, 0, none⟩) 1 1), (27, .pointer (some ⟨b181, 0, none⟩)), (31, .slice (some ⟨g171, 0, none⟩) 1 1), (34, .slice (some ⟨g184, 0, none⟩) 1 1)] ([⟨g184, [.int .i64 t174], 1⟩, ⟨b181, [.int .i64 t173, .int .i64 t174], 2⟩, ⟨N180, [.int .i64 t172, .int .i64 t173, .int .i64 t174, .int .i64 t175, .int .i64 t176, .int .i64 t177, .int .i64 t178], 7⟩, ⟨g171, [.int .i64 a0_1], 1⟩, ⟨g170, [.int .i64 a0_0], 1⟩, ⟨b169, [.int .i64 0, .int .i64 0], 2⟩, ⟨b168, [.int .i64 2, .int .i64 s1_1, .int .i64 s1_2, .int .i64 s1_3, .int .i64 s1_4, .int .i64 0, .int .i64 0], 7⟩, ⟨b167, [.int .i64 a0_0, .int .i64 a0_1], 2⟩] : List Own) := by
      intro g184
      refine hstep [2] _ _ _ (by kernel_rfl) (List.cons_ne_nil _ _) ⟨?_, trivial⟩
      · show T _ _ _ _ _ _ _ _
        refine t_v (.ld1 rfl rfl rfl (.at 1 rfl rfl)) ?_
        refine t_keep [2, 3, 8, 9, 10, 20, 21, 22, 26, 28, 31, 34] (σ' := [(2, .int .i64 0), (3, .int .i64 n3), (8, .pointer (some ⟨b169, 0, none⟩)), (9, .slice (some ⟨g170, 0, none⟩) 1 1), (10, .slice (some ⟨g171, 0, none⟩) 1 1), (20, .slice (some ⟨N180, 1, none⟩) 2 3), (21, .int .i64 2), (22, .int .i64 0), (26, .slice (some ⟨g170, 0, none⟩) 1 1), (28, .int .i64 t173), (31, .slice (some ⟨g171, 0, none⟩) 1 1), (34, .slice (some ⟨g184, 0, none⟩) 1 1)]) (by kernel_rfl) ?_
        refine t_end ?_
        exact ⟨hg_1e7 g184, rfl⟩
    have hg_e7 : G [true, true, true, false, false, true, true, true, false, false, false, false] [(2, .int .i64 0), (3, .int .i64 n3), (8, .pointer (some ⟨b169, 0, none⟩)), (9, .slice (some ⟨g170, 0, none⟩) 1 1), (10, .slice (some ⟨g171, 0, none⟩) 1 1), (20, .slice (some ⟨N180, 1, none⟩) 2 3), (21, .int .i64 2), (22, .int .i64 0), (26, .slice (some ⟨g170, 0, none⟩) 1 1), (28, .int .i64 t173), (31, .slice (some ⟨g171, 0, none⟩) 1 1), (33, .int .i64 t174)] ([⟨b181, [.int .i64 t173, .int .i64 t174], 2⟩, ⟨N180, [.int .i64 t172, .int .i64 t173, .int .i64 t174, .int .i64 t175, .int .i64 t176, .int .i64 t177, .int .i64 t178], 7⟩, ⟨g171, [.int .i64 a0_1], 1⟩, ⟨g170, [.int .i64 a0_0], 1⟩, ⟨b169, [.int .i64 0, .int .i64 0], 2⟩, ⟨b168, [.int .i64 2, .int .i64 s1_1, .int .i64 s1_2, .int .i64 s1_3, .int .i64 s1_4, .int .i64 0, .int .i64 0], 7⟩, ⟨b167, [.int .i64 a0_0, .int .i64 a0_1], 2⟩] : List Own) := by
      refine hstep [3, 8] _ _ _ (by kernel_rfl) (List.cons_ne_nil _ _) ⟨?_, ?_, trivial⟩
      · show T _ _ _ _ _ _ _ _
        refine t_a (.bsl rfl rfl rfl rfl) fun g182 fg182 sg182 => ?_
        refine t_keep [2, 3, 8, 9, 10, 20, 21, 22, 26, 29, 31, 33] (σ' := [(2, .int .i64 0), (3, .int .i64 n3), (8, .pointer (some ⟨b169, 0, none⟩)), (9, .slice (some ⟨g170, 0, none⟩) 1 1), (10, .slice (some ⟨g171, 0, none⟩) 1 1), (20, .slice (some ⟨N180, 1, none⟩) 2 3), (21, .int .i64 2), (22, .int .i64 0), (26, .slice (some ⟨g170, 0, none⟩) 1 1), (29, .slice (some ⟨g182, 0, none⟩) 1 1), (31, .slice (some ⟨g171, 0, none⟩) 1 1), (33, .int .i64 t174)]) (by kernel_rfl) ?_
        refine t_end ?_
        exact ⟨hg_ef g182, rfl⟩
      · show T _ _ _ _ _ _ _ _
        refine t_a (.bsl rfl rfl rfl rfl) fun g184 fg184 sg184 => ?_
        refine t_keep [2, 3, 8, 9, 10, 20, 21, 22, 26, 28, 31, 34] (σ' := [(2, .int .i64 0), (3, .int .i64 n3), (8, .pointer (some ⟨b169, 0, none⟩)), (9, .slice (some ⟨g170, 0, none⟩) 1 1), (10, .slice (some ⟨g171, 0, none⟩) 1 1), (20, .slice (some ⟨N180, 1, none⟩) 2 3), (21, .int .i64 2), (22, .int .i64 0), (26, .slice (some ⟨g170, 0, none⟩) 1 1), (28, .int .i64 t173), (31, .slice (some ⟨g171, 0, none⟩) 1 1), (34, .slice (some ⟨g184, 0, none⟩) 1 1)]) (by kernel_rfl) ?_
        refine t_end ?_
        exact ⟨hg_1e7 g184, rfl⟩
    have hg_6f : ∀ (g182 : Nat), G [true, true, true, true, false, true, true, false, false, false, false, false] [(2, .int .i64 0), (3, .int .i64 n3), (8, .pointer (some ⟨b169, 0, none⟩)), (9, .slice (some ⟨g170, 0, none⟩) 1 1), (10, .slice (some ⟨g171, 0, none⟩) 1 1), (20, .slice (some ⟨N180, 1, none⟩) 2 3), (21, .int .i64 2), (22, .int .i64 0), (26, .slice (some ⟨g170, 0, none⟩) 1 1), (29, .slice (some ⟨g182, 0, none⟩) 1 1), (31, .slice (some ⟨g171, 0, none⟩) 1 1), (32, .pointer (some ⟨b181, 1, none⟩))] ([⟨g182, [.int .i64 t173], 1⟩, ⟨b181, [.int .i64 t173, .int .i64 t174], 2⟩, ⟨N180, [.int .i64 t172, .int .i64 t173, .int .i64 t174, .int .i64 t175, .int .i64 t176, .int .i64 t177, .int .i64 t178], 7⟩, ⟨g171, [.int .i64 a0_1], 1⟩, ⟨g170, [.int .i64 a0_0], 1⟩, ⟨b169, [.int .i64 0, .int .i64 0], 2⟩, ⟨b168, [.int .i64 2, .int .i64 s1_1, .int .i64 s1_2, .int .i64 s1_3, .int .i64 s1_4, .int .i64 0, .int .i64 0], 7⟩, ⟨b167, [.int .i64 a0_0, .int .i64 a0_1], 2⟩] : List Own) := by
      intro g182
      refine hstep [4, 7] _ _ _ (by kernel_rfl) (List.cons_ne_nil _ _) ⟨?_, ?_, trivial⟩
      · show T _ _ _ _ _ _ _ _
        refine t_app1 (cs := [.int .i64 a0_0]) (M := 1) (F := ([⟨g182, [.int .i64 t173], 1⟩, ⟨b181, [.int .i64 t173, .int .i64 t174], 2⟩, ⟨N180, [.int .i64 t172, .int .i64 t173, .int .i64 t174, .int .i64 t175, .int .i64 t176, .int .i64 t177, .int .i64 t178], 7⟩, ⟨g171, [.int .i64 a0_1], 1⟩, ⟨b169, [.int .i64 0, .int .i64 0], 2⟩, ⟨b168, [.int .i64 2, .int .i64 s1_1, .int .i64 s1_2, .int .i64 s1_3, .int .i64 s1_4, .int .i64 0, .int .i64 0], 7⟩, ⟨b167, [.int .i64 a0_0, .int .i64 a0_1], 2⟩] : List Own)) (news := [.int .i64 t173]) rfl rfl rfl rfl (sel_perm (is := [4]) (by kernel_rfl)) (.at 0 rfl rfl) (by kernel_rfl) rfl rfl (by decide) (by decide) rfl fun g183 ng183 => ?_
        refine t_keep [2, 3, 8, 9, 10, 20, 21, 22, 30, 31, 32] (σ' := [(2, .int .i64 0), (3, .int .i64 n3), (8, .pointer (some ⟨b169, 0, none⟩)), (9, .slice (some ⟨g170, 0, none⟩) 1 1), (10, .slice (some ⟨g171, 0, none⟩) 1 1), (20, .slice (some ⟨N180, 1, none⟩) 2 3), (21, .int .i64 2), (22, .int .i64 0), (30, .slice (some ⟨g183, 0, none⟩) 2 (ng183 / 1)), (31, .slice (some ⟨g171, 0, none⟩) 1 1), (32, .pointer (some ⟨b181, 1, none⟩))]) (by kernel_rfl) ?_
        refine t_end ?_
        exact ⟨hg_7f g183 ng183 g182, rfl⟩
      · show T _ _ _ _ _ _ _ _
        refine t_v (.ld1 rfl rfl rfl (.at 1 rfl rfl)) ?_
        refine t_keep [2, 3, 8, 9, 10, 20, 21, 22, 26, 29, 31, 33] (σ' := [(2, .int .i64 0), (3, .int .i64 n3), (8, .pointer (some ⟨b169, 0, none⟩)), (9, .slice (some ⟨g170, 0, none⟩) 1 1), (10, .slice (some ⟨g171, 0, none⟩) 1 1), (20, .slice (some ⟨N180, 1, none⟩) 2 3), (21, .int .i64 2), (22, .int .i64 0), (26, .slice (some ⟨g170, 0, none⟩) 1 1), (29, .slice (some ⟨g182, 0, none⟩) 1 1), (31, .slice (some ⟨g171, 0, none⟩) 1 1), (33, .int .i64 t174)]) (by kernel_rfl) ?_
        refine t_end ?_
        exact ⟨hg_ef g182, rfl⟩
    have hg_e3 : G [true, true, false, false, false, true, true, true, false, false, false, false] [(2, .int .i64 0), (3, .int .i64 n3), (8, .pointer (some ⟨b169, 0, none⟩)), (9, .slice (some ⟨g170, 0, none⟩) 1 1), (10, .slice (some ⟨g171, 0, none⟩) 1 1), (20, .slice (some ⟨N180, 1, none⟩) 2 3), (21, .int .i64 2), (22, .int .i64 0), (26, .slice (some ⟨g170, 0, none⟩) 1 1), (27, .pointer (some ⟨b181, 0, none⟩)), (31, .slice (some ⟨g171, 0, none⟩) 1 1), (33, .int .i64 t174)] ([⟨b181, [.int .i64 t173, .int .i64 t174], 2⟩, ⟨N180, [.int .i64 t172, .int .i64 t173, .int .i64 t174, .int .i64 t175, .int .i64 t176, .int .i64 t177, .int .i64 t178], 7⟩, ⟨g171, [.int .i64 a0_1], 1⟩, ⟨g170, [.int .i64 a0_0], 1⟩, ⟨b169, [.int .i64 0, .int .i64 0], 2⟩, ⟨b168, [.int .i64 2, .int .i64 s1_1, .int .i64 s1_2, .int .i64 s1_3, .int .i64 s1_4, .int .i64 0, .int .i64 0], 7⟩, ⟨b167, [.int .i64 a0_0, .int .i64 a0_1], 2⟩] : List Own) := by
      refine hstep [2, 8] _ _ _ (by kernel_rfl) (List.cons_ne_nil _ _) ⟨?_, ?_, trivial⟩
      · show T _ _ _ _ _ _ _ _
        refine t_v (.ld1 rfl rfl rfl (.at 0 rfl rfl)) ?_
        refine t_keep [2, 3, 8, 9, 10, 20, 21, 22, 26, 28, 31, 33] (σ' := [(2, .int .i64 0), (3, .int .i64 n3), (8, .pointer (some ⟨b169, 0, none⟩)), (9, .slice (some ⟨g170, 0, none⟩) 1 1), (10, .slice (some ⟨g171, 0, none⟩) 1 1), (20, .slice (some ⟨N180, 1, none⟩) 2 3), (21, .int .i64 2), (22, .int .i64 0), (26, .slice (some ⟨g170, 0, none⟩) 1 1), (28, .int .i64 t173), (31, .slice (some ⟨g171, 0, none⟩) 1 1), (33, .int .i64 t174)]) (by kernel_rfl) ?_
        refine t_end ?_
        exact ⟨hg_e7, rfl⟩
      · show T _ _ _ _ _ _ _ _
        refine t_a (.bsl rfl rfl rfl rfl) fun g184 fg184 sg184 => ?_
        refine t_keep [2, 3, 8, 9, 10, 20, 21, 22, 26, 27, 31, 34] (σ' := [(2, .int .i64 0), (3, .int .i64 n3), (8, .pointer (some ⟨b169, 0, none⟩)), (9, .slice (some ⟨g170, 0, none⟩) 1 1), (10, .slice (some ⟨g171, 0, none⟩) 1 1), (20, .slice (some ⟨N180, 1, none⟩) 2 3), (21, .int .i64 2), (22, .int .i64 0), (26, .slice (some ⟨g170, 0, none⟩) 1 1), (27, .pointer (some ⟨b181, 0, none⟩)), (31, .slice (some ⟨g171, 0, none⟩) 1 1), (34, .slice (some ⟨g184, 0, none⟩) 1 1)]) (by kernel_rfl) ?_
        refine t_end ?_
        exact ⟨hg_1e3 g184, rfl⟩
    have hg_67 : G [true, true, true, false, false, true, true, false, false, false, false, false] [(2, .int .i64 0), (3, .int .i64 n3), (8, .pointer (some ⟨b169, 0, none⟩)), (9, .slice (some ⟨g170, 0, none⟩) 1 1), (10, .slice (some ⟨g171, 0, none⟩) 1 1), (20, .slice (some ⟨N180, 1, none⟩) 2 3), (21, .int .i64 2), (22, .int .i64 0), (26, .slice (some ⟨g170, 0, none⟩) 1 1), (28, .int .i64 t173), (31, .slice (some ⟨g171, 0, none⟩) 1 1), (32, .pointer (some ⟨b181, 1, none⟩))] ([⟨b181, [.int .i64 t173, .int .i64 t174], 2⟩, ⟨N180, [.int .i64 t172, .int .i64 t173, .int .i64 t174, .int .i64 t175, .int .i64 t176, .int .i64 t177, .int .i64 t178], 7⟩, ⟨g171, [.int .i64 a0_1], 1⟩, ⟨g170, [.int .i64 a0_0], 1⟩, ⟨b169, [.int .i64 0, .int .i64 0], 2⟩, ⟨b168, [.int .i64 2, .int .i64 s1_1, .int .i64 s1_2, .int .i64 s1_3, .int .i64 s1_4, .int .i64 0, .int .i64 0], 7⟩, ⟨b167, [.int .i64 a0_0, .int .i64 a0_1], 2⟩] : List Own) := by
      refine hstep [3, 7] _ _ _ (by kernel_rfl) (List.cons_ne_nil _ _) ⟨?_, ?_, trivial⟩
      · show T _ _ _ _ _ _ _ _
        refine t_a (.bsl rfl rfl rfl rfl) fun g182 fg182 sg182 => ?_
        refine t_keep [2, 3, 8, 9, 10, 20, 21, 22, 26, 29, 31, 32] (σ' := [(2, .int .i64 0), (3, .int .i64 n3), (8, .pointer (some ⟨b169, 0, none⟩)), (9, .slice (some ⟨g170, 0, none⟩) 1 1), (10, .slice (some ⟨g171, 0, none⟩) 1 1), (20, .slice (some ⟨N180, 1, none⟩) 2 3), (21, .int .i64 2), (22, .int .i64 0), (26, .slice (some ⟨g170, 0, none⟩) 1 1), (29, .slice (some ⟨g182, 0, none⟩) 1 1), (31, .slice (some ⟨g171, 0, none⟩) 1 1), (32, .pointer (some ⟨b181, 1, none⟩))]) (by kernel_rfl) ?_
        refine t_end ?_
        exact ⟨hg_6f g182, rfl⟩
      · show T _ _ _ _ _ _ _ _
        refine t_v (.ld1 rfl rfl rfl (.at 0 rfl rfl)) ?_
        refine t_keep [2, 3, 8, 9, 10, 20, 21, 22, 26, 28, 31, 33] (σ' := [(2, .int .i64 0), (3, .int .i64 n3), (8, .pointer (some ⟨b169, 0, none⟩)), (9, .slice (some ⟨g170, 0, none⟩) 1 1), (10, .slice (some ⟨g171, 0, none⟩) 1 1), (20, .slice (some ⟨N180, 1, none⟩) 2 3), (21, .int .i64 2), (22, .int .i64 0), (26, .slice (some ⟨g170, 0, none⟩) 1 1), (28, .int .i64 t173), (31, .slice (some ⟨g171, 0, none⟩) 1 1), (33, .int .i64 t174)]) (by kernel_rfl) ?_
        refine t_end ?_
        exact ⟨hg_e7, rfl⟩
    have hg_63 : G [true, true, false, false, false, true, true, false, false, false, false, false] [(2, .int .i64 0), (3, .int .i64 n3), (8, .pointer (some ⟨b169, 0, none⟩)), (9, .slice (some ⟨g170, 0, none⟩) 1 1), (10, .slice (some ⟨g171, 0, none⟩) 1 1), (20, .slice (some ⟨N180, 1, none⟩) 2 3), (21, .int .i64 2), (22, .int .i64 0), (26, .slice (some ⟨g170, 0, none⟩) 1 1), (27, .pointer (some ⟨b181, 0, none⟩)), (31, .slice (some ⟨g171, 0, none⟩) 1 1), (32, .pointer (some ⟨b181, 1, none⟩))] ([⟨b181, [.int .i64 t173, .int .i64 t174], 2⟩, ⟨N180, [.int .i64 t172, .int .i64 t173, .int .i64 t174, .int .i64 t175, .int .i64 t176, .int .i64 t177, .int .i64 t178], 7⟩, ⟨g171, [.int .i64 a0_1], 1⟩, ⟨g170, [.int .i64 a0_0], 1⟩, ⟨b169, [.int .i64 0, .int .i64 0], 2⟩, ⟨b168, [.int .i64 2, .int .i64 s1_1, .int .i64 s1_2, .int .i64 s1_3, .int .i64 s1_4, .int .i64 0, .int .i64 0], 7⟩, ⟨b167, [.int .i64 a0_0, .int .i64 a0_1], 2⟩] : List Own) := by
      refine hstep [2, 7] _ _ _ (by kernel_rfl) (List.cons_ne_nil _ _) ⟨?_, ?_, trivial⟩
      · show T _ _ _ _ _ _ _ _
        refine t_v (.ld1 rfl rfl rfl (.at 0 rfl rfl)) ?_
        refine t_keep [2, 3, 8, 9, 10, 20, 21, 22, 26, 28, 31, 32] (σ' := [(2, .int .i64 0), (3, .int .i64 n3), (8, .pointer (some ⟨b169, 0, none⟩)), (9, .slice (some ⟨g170, 0, none⟩) 1 1), (10, .slice (some ⟨g171, 0, none⟩) 1 1), (20, .slice (some ⟨N180, 1, none⟩) 2 3), (21, .int .i64 2), (22, .int .i64 0), (26, .slice (some ⟨g170, 0, none⟩) 1 1), (28, .int .i64 t173), (31, .slice (some ⟨g171, 0, none⟩) 1 1), (32, .pointer (some ⟨b181, 1, none⟩))]) (by kernel_rfl) ?_
        refine t_end ?_
        exact ⟨hg_67, rfl⟩
      · show T _ _ _ _ _ _ _ _
        refine t_v (.ld1 rfl rfl rfl (.at 0 rfl rfl)) ?_
        refine t_keep [2, 3, 8, 9, 10, 20, 21, 22, 26, 27, 31, 33] (σ' := [(2, .int .i64 0), (3, .int .i64 n3), (8, .pointer (some ⟨b169, 0, none⟩)), (9, .slice (some ⟨g170, 0, none⟩) 1 1), (10, .slice (some ⟨g171, 0, none⟩) 1 1), (20, .slice (some ⟨N180, 1, none⟩) 2 3), (21, .int .i64 2), (22, .int .i64 0), (26, .slice (some ⟨g170, 0, none⟩) 1 1), (27, .pointer (some ⟨b181, 0, none⟩)), (31, .slice (some ⟨g171, 0, none⟩) 1 1), (33, .int .i64 t174)]) (by kernel_rfl) ?_
        refine t_end ?_
        exact ⟨hg_e3, rfl⟩
    have hg_23 : G [true, true, false, false, false, true, false, false, false, false, false, false] [(2, .int .i64 0), (3, .int .i64 n3), (8, .pointer (some ⟨b169, 0, none⟩)), (9, .slice (some ⟨g170, 0, none⟩) 1 1), (10, .slice (some ⟨g171, 0, none⟩) 1 1), (12, .pointer (some ⟨b181, 0, none⟩)), (20, .slice (some ⟨N180, 1, none⟩) 2 3), (21, .int .i64 2), (22, .int .i64 0), (26, .slice (some ⟨g170, 0, none⟩) 1 1), (27, .pointer (some ⟨b181, 0, none⟩)), (31, .slice (some ⟨g171, 0, none⟩) 1 1)] ([⟨b181, [.int .i64 t173, .int .i64 t174], 2⟩, ⟨N180, [.int .i64 t172, .int .i64 t173, .int .i64 t174, .int .i64 t175, .int .i64 t176, .int .i64 t177, .int .i64 t178], 7⟩, ⟨g171, [.int .i64 a0_1], 1⟩, ⟨g170, [.int .i64 a0_0], 1⟩, ⟨b169, [.int .i64 0, .int .i64 0], 2⟩, ⟨b168, [.int .i64 2, .int .i64 s1_1, .int .i64 s1_2, .int .i64 s1_3, .int .i64 s1_4, .int .i64 0, .int .i64 0], 7⟩, ⟨b167, [.int .i64 a0_0, .int .i64 a0_1], 2⟩] : List Own) := by
      exact hqf 6 [2, 3, 8, 9, 10, 20, 21, 22, 26, 27, 31, 32] _ _ _ [(2, .int .i64 0), (3, .int .i64 n3), (8, .pointer (some ⟨b169, 0, none⟩)), (9, .slice (some ⟨g170, 0, none⟩) 1 1), (10, .slice (some ⟨g171, 0, none⟩) 1 1), (20, .slice (some ⟨N180, 1, none⟩) 2 3), (21, .int .i64 2), (22, .int .i64 0), (26, .slice (some ⟨g170, 0, none⟩) 1 1), (27, .pointer (some ⟨b181, 0, none⟩)), (31, .slice (some ⟨g171, 0, none⟩) 1 1), (32, .pointer (some ⟨b181, 1, none⟩))] (by kernel_rfl) (by kernel_rfl) hg_63
    have hg_3 : G [true, true, false, false, false, false, false, false, false, false, false, false] [(2, .int .i64 0), (3, .int .i64 n3), (8, .pointer (some ⟨b169, 0, none⟩)), (9, .slice (some ⟨g170, 0, none⟩) 1 1), (10, .slice (some ⟨g171, 0, none⟩) 1 1), (12, .pointer (some ⟨b181, 0, none⟩)), (20, .slice (some ⟨N180, 1, none⟩) 2 3), (21, .int .i64 2), (22, .int .i64 0), (26, .slice (some ⟨g170, 0, none⟩) 1 1), (27, .pointer (some ⟨b181, 0, none⟩))] ([⟨b181, [.int .i64 t173, .int .i64 t174], 2⟩, ⟨N180, [.int .i64 t172, .int .i64 t173, .int .i64 t174, .int .i64 t175, .int .i64 t176, .int .i64 t177, .int .i64 t178], 7⟩, ⟨g171, [.int .i64 a0_1], 1⟩, ⟨g170, [.int .i64 a0_0], 1⟩, ⟨b169, [.int .i64 0, .int .i64 0], 2⟩, ⟨b168, [.int .i64 2, .int .i64 s1_1, .int .i64 s1_2, .int .i64 s1_3, .int .i64 s1_4, .int .i64 0, .int .i64 0], 7⟩, ⟨b167, [.int .i64 a0_0, .int .i64 a0_1], 2⟩] : List Own) := by
      exact hqf 5 [2, 3, 8, 9, 10, 12, 20, 21, 22, 26, 27, 31] _ _ _ [(2, .int .i64 0), (3, .int .i64 n3), (8, .pointer (some ⟨b169, 0, none⟩)), (9, .slice (some ⟨g170, 0, none⟩) 1 1), (10, .slice (some ⟨g171, 0, none⟩) 1 1), (12, .pointer (some ⟨b181, 0, none⟩)), (20, .slice (some ⟨N180, 1, none⟩) 2 3), (21, .int .i64 2), (22, .int .i64 0), (26, .slice (some ⟨g170, 0, none⟩) 1 1), (27, .pointer (some ⟨b181, 0, none⟩)), (31, .slice (some ⟨g171, 0, none⟩) 1 1)] (by kernel_rfl) (by kernel_rfl) hg_23
    have hg_1 : G [true, false, false, false, false, false, false, false, false, false, false, false] [(2, .int .i64 0), (3, .int .i64 n3), (8, .pointer (some ⟨b169, 0, none⟩)), (9, .slice (some ⟨g170, 0, none⟩) 1 1), (10, .slice (some ⟨g171, 0, none⟩) 1 1), (12, .pointer (some ⟨b181, 0, none⟩)), (20, .slice (some ⟨N180, 1, none⟩) 2 3), (21, .int .i64 2), (22, .int .i64 0), (26, .slice (some ⟨g170, 0, none⟩) 1 1)] ([⟨b181, [.int .i64 t173, .int .i64 t174], 2⟩, ⟨N180, [.int .i64 t172, .int .i64 t173, .int .i64 t174, .int .i64 t175, .int .i64 t176, .int .i64 t177, .int .i64 t178], 7⟩, ⟨g171, [.int .i64 a0_1], 1⟩, ⟨g170, [.int .i64 a0_0], 1⟩, ⟨b169, [.int .i64 0, .int .i64 0], 2⟩, ⟨b168, [.int .i64 2, .int .i64 s1_1, .int .i64 s1_2, .int .i64 s1_3, .int .i64 s1_4, .int .i64 0, .int .i64 0], 7⟩, ⟨b167, [.int .i64 a0_0, .int .i64 a0_1], 2⟩] : List Own) := by
      exact hqf 1 [2, 3, 8, 9, 10, 12, 20, 21, 22, 26, 27] _ _ _ [(2, .int .i64 0), (3, .int .i64 n3), (8, .pointer (some ⟨b169, 0, none⟩)), (9, .slice (some ⟨g170, 0, none⟩) 1 1), (10, .slice (some ⟨g171, 0, none⟩) 1 1), (12, .pointer (some ⟨b181, 0, none⟩)), (20, .slice (some ⟨N180, 1, none⟩) 2 3), (21, .int .i64 2), (22, .int .i64 0), (26, .slice (some ⟨g170, 0, none⟩) 1 1), (27, .pointer (some ⟨b181, 0, none⟩))] (by kernel_rfl) (by kernel_rfl) hg_3
    have hg_0 : G [false, false, false, false, false, false, false, false, false, false, false, false] [(2, .int .i64 0), (3, .int .i64 n3), (8, .pointer (some ⟨b169, 0, none⟩)), (9, .slice (some ⟨g170, 0, none⟩) 1 1), (10, .slice (some ⟨g171, 0, none⟩) 1 1), (12, .pointer (some ⟨b181, 0, none⟩)), (20, .slice (some ⟨N180, 1, none⟩) 2 3), (21, .int .i64 2), (22, .int .i64 0)] ([⟨b181, [.int .i64 t173, .int .i64 t174], 2⟩, ⟨N180, [.int .i64 t172, .int .i64 t173, .int .i64 t174, .int .i64 t175, .int .i64 t176, .int .i64 t177, .int .i64 t178], 7⟩, ⟨g171, [.int .i64 a0_1], 1⟩, ⟨g170, [.int .i64 a0_0], 1⟩, ⟨b169, [.int .i64 0, .int .i64 0], 2⟩, ⟨b168, [.int .i64 2, .int .i64 s1_1, .int .i64 s1_2, .int .i64 s1_3, .int .i64 s1_4, .int .i64 0, .int .i64 0], 7⟩, ⟨b167, [.int .i64 a0_0, .int .i64 a0_1], 2⟩] : List Own) := by
      exact hqf 0 [2, 3, 8, 9, 10, 12, 20, 21, 22, 26] _ _ _ [(2, .int .i64 0), (3, .int .i64 n3), (8, .pointer (some ⟨b169, 0, none⟩)), (9, .slice (some ⟨g170, 0, none⟩) 1 1), (10, .slice (some ⟨g171, 0, none⟩) 1 1), (12, .pointer (some ⟨b181, 0, none⟩)), (20, .slice (some ⟨N180, 1, none⟩) 2 3), (21, .int .i64 2), (22, .int .i64 0), (26, .slice (some ⟨g170, 0, none⟩) 1 1)] (by kernel_rfl) (by kernel_rfl) hg_1
    exact hg_0
  have hg_7f : ∀ (g171 g170 : Nat), G [true, true, true, true, true, true, true, false] [(2, .int .i64 0), (3, .int .i64 n3), (5, .pointer (some ⟨b168, 0, none⟩)), (8, .pointer (some ⟨b169, 0, none⟩)), (9, .slice (some ⟨g170, 0, none⟩) 1 1), (18, .slice (some ⟨g171, 0, none⟩) 1 1)] ([⟨g171, [.int .i64 a0_1], 1⟩, ⟨g170, [.int .i64 a0_0], 1⟩, ⟨b169, [.int .i64 0, .int .i64 0], 2⟩, ⟨b168, [.int .i64 2, .int .i64 s1_1, .int .i64 s1_2, .int .i64 s1_3, .int .i64 s1_4, .int .i64 0, .int .i64 0], 7⟩, ⟨b167, [.int .i64 a0_0, .int .i64 a0_1], 2⟩] : List Own) := by
    intro g171 g170
    exact hqf 7 [2, 3, 5, 8, 9, 10] _ _ _ [(2, .int .i64 0), (3, .int .i64 n3), (5, .pointer (some ⟨b168, 0, none⟩)), (8, .pointer (some ⟨b169, 0, none⟩)), (9, .slice (some ⟨g170, 0, none⟩) 1 1), (10, .slice (some ⟨g171, 0, none⟩) 1 1)] (by kernel_rfl) (by kernel_rfl) (hg_ff g171 g170)
  have hg_3f : ∀ (g171 g170 : Nat), G [true, true, true, true, true, true, false, false] [(2, .int .i64 0), (3, .int .i64 n3), (5, .pointer (some ⟨b168, 0, none⟩)), (8, .pointer (some ⟨b169, 0, none⟩)), (15, .slice (some ⟨g170, 0, none⟩) 1 1), (18, .slice (some ⟨g171, 0, none⟩) 1 1)] ([⟨g171, [.int .i64 a0_1], 1⟩, ⟨g170, [.int .i64 a0_0], 1⟩, ⟨b169, [.int .i64 0, .int .i64 0], 2⟩, ⟨b168, [.int .i64 2, .int .i64 s1_1, .int .i64 s1_2, .int .i64 s1_3, .int .i64 s1_4, .int .i64 0, .int .i64 0], 7⟩, ⟨b167, [.int .i64 a0_0, .int .i64 a0_1], 2⟩] : List Own) := by
    intro g171 g170
    exact hqf 6 [2, 3, 5, 8, 9, 18] _ _ _ [(2, .int .i64 0), (3, .int .i64 n3), (5, .pointer (some ⟨b168, 0, none⟩)), (8, .pointer (some ⟨b169, 0, none⟩)), (9, .slice (some ⟨g170, 0, none⟩) 1 1), (18, .slice (some ⟨g171, 0, none⟩) 1 1)] (by kernel_rfl) (by kernel_rfl) (hg_7f g171 g170)
  have hg_5f : ∀ (g170 : Nat), G [true, true, true, true, true, false, true, false] [(2, .int .i64 0), (3, .int .i64 n3), (5, .pointer (some ⟨b168, 0, none⟩)), (8, .pointer (some ⟨b169, 0, none⟩)), (9, .slice (some ⟨g170, 0, none⟩) 1 1), (17, .int .i64 a0_1)] ([⟨g170, [.int .i64 a0_0], 1⟩, ⟨b169, [.int .i64 0, .int .i64 0], 2⟩, ⟨b168, [.int .i64 2, .int .i64 s1_1, .int .i64 s1_2, .int .i64 s1_3, .int .i64 s1_4, .int .i64 0, .int .i64 0], 7⟩, ⟨b167, [.int .i64 a0_0, .int .i64 a0_1], 2⟩] : List Own) := by
    intro g170
    refine hstep [5] _ _ _ (by kernel_rfl) (List.cons_ne_nil _ _) ⟨?_, trivial⟩
    · show T _ _ _ _ _ _ _ _
      refine t_a (.bsl rfl rfl rfl rfl) fun g171 fg171 sg171 => ?_
      refine t_keep [2, 3, 5, 8, 9, 18] (σ' := [(2, .int .i64 0), (3, .int .i64 n3), (5, .pointer (some ⟨b168, 0, none⟩)), (8, .pointer (some ⟨b169, 0, none⟩)), (9, .slice (some ⟨g170, 0, none⟩) 1 1), (18, .slice (some ⟨g171, 0, none⟩) 1 1)]) (by kernel_rfl) ?_
      refine t_end ?_
      exact ⟨hg_7f g171 g170, rfl⟩
  have hg_3b : ∀ (g171 : Nat), G [true, true, false, true, true, true, false, false] [(2, .int .i64 0), (3, .int .i64 n3), (5, .pointer (some ⟨b168, 0, none⟩)), (8, .pointer (some ⟨b169, 0, none⟩)), (14, .int .i64 a0_0), (18, .slice (some ⟨g171, 0, none⟩) 1 1)] ([⟨g171, [.int .i64 a0_1], 1⟩, ⟨b169, [.int .i64 0, .int .i64 0], 2⟩, ⟨b168, [.int .i64 2, .int .i64 s1_1, .int .i64 s1_2, .int .i64 s1_3, .int .i64 s1_4, .int .i64 0, .int .i64 0], 7⟩, ⟨b167, [.int .i64 a0_0, .int .i64 a0_1], 2⟩] : List Own) := by
    intro g171
    refine hstep [2] _ _ _ (by kernel_rfl) (List.cons_ne_nil _ _) ⟨?_, trivial⟩
    · show T _ _ _ _ _ _ _ _
      refine t_a (.bsl rfl rfl rfl rfl) fun g170 fg170 sg170 => ?_
      refine t_keep [2, 3, 5, 8, 15, 18] (σ' := [(2, .int .i64 0), (3, .int .i64 n3), (5, .pointer (some ⟨b168, 0, none⟩)), (8, .pointer (some ⟨b169, 0, none⟩)), (15, .slice (some ⟨g170, 0, none⟩) 1 1), (18, .slice (some ⟨g171, 0, none⟩) 1 1)]) (by kernel_rfl) ?_
      refine t_vs (H' := ([⟨g171, [.int .i64 a0_1], 1⟩, ⟨g170, [.int .i64 a0_0], 1⟩, ⟨b169, [.int .i64 0, .int .i64 0], 2⟩, ⟨b168, [.int .i64 2, .int .i64 s1_1, .int .i64 s1_2, .int .i64 s1_3, .int .i64 s1_4, .int .i64 0, .int .i64 0], 7⟩, ⟨b167, [.int .i64 a0_0, .int .i64 a0_1], 2⟩] : List Own)) (S' := S) (VS.sel [1, 0, 0, 0, 0] (by kernel_rfl)) ?_
      refine t_end ?_
      exact ⟨hg_3f g171 g170, rfl⟩
  have hg_1f : ∀ (g170 : Nat), G [true, true, true, true, true, false, false, false] [(2, .int .i64 0), (3, .int .i64 n3), (5, .pointer (some ⟨b168, 0, none⟩)), (8, .pointer (some ⟨b169, 0, none⟩)), (15, .slice (some ⟨g170, 0, none⟩) 1 1), (17, .int .i64 a0_1)] ([⟨g170, [.int .i64 a0_0], 1⟩, ⟨b169, [.int .i64 0, .int .i64 0], 2⟩, ⟨b168, [.int .i64 2, .int .i64 s1_1, .int .i64 s1_2, .int .i64 s1_3, .int .i64 s1_4, .int .i64 0, .int .i64 0], 7⟩, ⟨b167, [.int .i64 a0_0, .int .i64 a0_1], 2⟩] : List Own) := by
    intro g170
    exact hqf 6 [2, 3, 5, 8, 9, 17] _ _ _ [(2, .int .i64 0), (3, .int .i64 n3), (5, .pointer (some ⟨b168, 0, none⟩)), (8, .pointer (some ⟨b169, 0, none⟩)), (9, .slice (some ⟨g170, 0, none⟩) 1 1), (17, .int .i64 a0_1)] (by kernel_rfl) (by kernel_rfl) (hg_5f g170)
  have hg_4f : ∀ (g170 : Nat), G [true, true, true, true, false, false, true, false] [(2, .int .i64 0), (3, .int .i64 n3), (5, .pointer (some ⟨b168, 0, none⟩)), (8, .pointer (some ⟨b169, 0, none⟩)), (9, .slice (some ⟨g170, 0, none⟩) 1 1), (16, .pointer (some ⟨b167, 1, none⟩))] ([⟨g170, [.int .i64 a0_0], 1⟩, ⟨b169, [.int .i64 0, .int .i64 0], 2⟩, ⟨b168, [.int .i64 2, .int .i64 s1_1, .int .i64 s1_2, .int .i64 s1_3, .int .i64 s1_4, .int .i64 0, .int .i64 0], 7⟩, ⟨b167, [.int .i64 a0_0, .int .i64 a0_1], 2⟩] : List Own) := by
    intro g170
    refine hstep [4] _ _ _ (by kernel_rfl) (List.cons_ne_nil _ _) ⟨?_, trivial⟩
    · show T _ _ _ _ _ _ _ _
      refine t_v (.ld1 rfl rfl rfl (.at 3 rfl rfl)) ?_
      refine t_keep [2, 3, 5, 8, 9, 17] (σ' := [(2, .int .i64 0), (3, .int .i64 n3), (5, .pointer (some ⟨b168, 0, none⟩)), (8, .pointer (some ⟨b169, 0, none⟩)), (9, .slice (some ⟨g170, 0, none⟩) 1 1), (17, .int .i64 a0_1)]) (by kernel_rfl) ?_
      refine t_end ?_
      exact ⟨hg_5f g170, rfl⟩
  have hg_f : ∀ (g170 : Nat), G [true, true, true, true, false, false, false, false] [(2, .int .i64 0), (3, .int .i64 n3), (5, .pointer (some ⟨b168, 0, none⟩)), (8, .pointer (some ⟨b169, 0, none⟩)), (15, .slice (some ⟨g170, 0, none⟩) 1 1), (16, .pointer (some ⟨b167, 1, none⟩))] ([⟨g170, [.int .i64 a0_0], 1⟩, ⟨b169, [.int .i64 0, .int .i64 0], 2⟩, ⟨b168, [.int .i64 2, .int .i64 s1_1, .int .i64 s1_2, .int .i64 s1_3, .int .i64 s1_4, .int .i64 0, .int .i64 0], 7⟩, ⟨b167, [.int .i64 a0_0, .int .i64 a0_1], 2⟩] : List Own) := by
    intro g170
    exact hqf 6 [2, 3, 5, 8, 9, 16] _ _ _ [(2, .int .i64 0), (3, .int .i64 n3), (5, .pointer (some ⟨b168, 0, none⟩)), (8, .pointer (some ⟨b169, 0, none⟩)), (9, .slice (some ⟨g170, 0, none⟩) 1 1), (16, .pointer (some ⟨b167, 1, none⟩))] (by kernel_rfl) (by kernel_rfl) (hg_4f g170)
  have hg_1b : G [true, true, false, true, true, false, false, false] [(2, .int .i64 0), (3, .int .i64 n3), (5, .pointer (some ⟨b168, 0, none⟩)), (8, .pointer (some ⟨b169, 0, none⟩)), (14, .int .i64 a0_0), (17, .int .i64 a0_1)] ([⟨b169, [.int .i64 0, .int .i64 0], 2⟩, ⟨b168, [.int .i64 2, .int .i64 s1_1, .int .i64 s1_2, .int .i64 s1_3, .int .i64 s1_4, .int .i64 0, .int .i64 0], 7⟩, ⟨b167, [.int .i64 a0_0, .int .i64 a0_1], 2⟩] : List Own) := by
    refine hstep [2, 5] _ _ _ (by kernel_rfl) (List.cons_ne_nil _ _) ⟨?_, ?_, trivial⟩
    · show T _ _ _ _ _ _ _ _
      refine t_a (.bsl rfl rfl rfl rfl) fun g170 fg170 sg170 => ?_
      refine t_keep [2, 3, 5, 8, 15, 17] (σ' := [(2, .int .i64 0), (3, .int .i64 n3), (5, .pointer (some ⟨b168, 0, none⟩)), (8, .pointer (some ⟨b169, 0, none⟩)), (15, .slice (some ⟨g170, 0, none⟩) 1 1), (17, .int .i64 a0_1)]) (by kernel_rfl) ?_
      refine t_end ?_
      exact ⟨hg_1f g170, rfl⟩
    · show T _ _ _ _ _ _ _ _
      refine t_a (.bsl rfl rfl rfl rfl) fun g171 fg171 sg171 => ?_
      refine t_keep [2, 3, 5, 8, 14, 18] (σ' := [(2, .int .i64 0), (3, .int .i64 n3), (5, .pointer (some ⟨b168, 0, none⟩)), (8, .pointer (some ⟨b169, 0, none⟩)), (14, .int .i64 a0_0), (18, .slice (some ⟨g171, 0, none⟩) 1 1)]) (by kernel_rfl) ?_
      refine t_end ?_
      exact ⟨hg_3b g171, rfl⟩
  have hg_39 : ∀ (g171 : Nat), G [true, false, false, true, true, true, false, false] [(2, .int .i64 0), (3, .int .i64 n3), (5, .pointer (some ⟨b168, 0, none⟩)), (8, .pointer (some ⟨b169, 0, none⟩)), (13, .pointer (some ⟨b167, 0, none⟩)), (18, .slice (some ⟨g171, 0, none⟩) 1 1)] ([⟨g171, [.int .i64 a0_1], 1⟩, ⟨b169, [.int .i64 0, .int .i64 0], 2⟩, ⟨b168, [.int .i64 2, .int .i64 s1_1, .int .i64 s1_2, .int .i64 s1_3, .int .i64 s1_4, .int .i64 0, .int .i64 0], 7⟩, ⟨b167, [.int .i64 a0_0, .int .i64 a0_1], 2⟩] : List Own) := by
    intro g171
    refine hstep [1] _ _ _ (by kernel_rfl) (List.cons_ne_nil _ _) ⟨?_, trivial⟩
    · show T _ _ _ _ _ _ _ _
      refine t_v (.ld1 rfl rfl rfl (.at 3 rfl rfl)) ?_
      refine t_keep [2, 3, 5, 8, 14, 18] (σ' := [(2, .int .i64 0), (3, .int .i64 n3), (5, .pointer (some ⟨b168, 0, none⟩)), (8, .pointer (some ⟨b169, 0, none⟩)), (14, .int .i64 a0_0), (18, .slice (some ⟨g171, 0, none⟩) 1 1)]) (by kernel_rfl) ?_
      refine t_end ?_
      exact ⟨hg_3b g171, rfl⟩
  have hg_b : G [true, true, false, true, false, false, false, false] [(2, .int .i64 0), (3, .int .i64 n3), (5, .pointer (some ⟨b168, 0, none⟩)), (8, .pointer (some ⟨b169, 0, none⟩)), (14, .int .i64 a0_0), (16, .pointer (some ⟨b167, 1, none⟩))] ([⟨b169, [.int .i64 0, .int .i64 0], 2⟩, ⟨b168, [.int .i64 2, .int .i64 s1_1, .int .i64 s1_2, .int .i64 s1_3, .int .i64 s1_4, .int .i64 0, .int .i64 0], 7⟩, ⟨b167, [.int .i64 a0_0, .int .i64 a0_1], 2⟩] : List Own) := by
    refine hstep [2, 4] _ _ _ (by kernel_rfl) (List.cons_ne_nil _ _) ⟨?_, ?_, trivial⟩
    · show T _ _ _ _ _ _ _ _
      refine t_a (.bsl rfl rfl rfl rfl) fun g170 fg170 sg170 => ?_
      refine t_keep [2, 3, 5, 8, 15, 16] (σ' := [(2, .int .i64 0), (3, .int .i64 n3), (5, .pointer (some ⟨b168, 0, none⟩)), (8, .pointer (some ⟨b169, 0, none⟩)), (15, .slice (some ⟨g170, 0, none⟩) 1 1), (16, .pointer (some ⟨b167, 1, none⟩))]) (by kernel_rfl) ?_
      refine t_end ?_
      exact ⟨hg_f g170, rfl⟩
    · show T _ _ _ _ _ _ _ _
      refine t_v (.ld1 rfl rfl rfl (.at 2 rfl rfl)) ?_
      refine t_keep [2, 3, 5, 8, 14, 17] (σ' := [(2, .int .i64 0), (3, .int .i64 n3), (5, .pointer (some ⟨b168, 0, none⟩)), (8, .pointer (some ⟨b169, 0, none⟩)), (14, .int .i64 a0_0), (17, .int .i64 a0_1)]) (by kernel_rfl) ?_
      refine t_end ?_
      exact ⟨hg_1b, rfl⟩
  have hg_19 : G [true, false, false, true, true, false, false, false] [(2, .int .i64 0), (3, .int .i64 n3), (5, .pointer (some ⟨b168, 0, none⟩)), (8, .pointer (some ⟨b169, 0, none⟩)), (13, .pointer (some ⟨b167, 0, none⟩)), (17, .int .i64 a0_1)] ([⟨b169, [.int .i64 0, .int .i64 0], 2⟩, ⟨b168, [.int .i64 2, .int .i64 s1_1, .int .i64 s1_2, .int .i64 s1_3, .int .i64 s1_4, .int .i64 0, .int .i64 0], 7⟩, ⟨b167, [.int .i64 a0_0, .int .i64 a0_1], 2⟩] : List Own) := by
    refine hstep [1, 5] _ _ _ (by kernel_rfl) (List.cons_ne_nil _ _) ⟨?_, ?_, trivial⟩
    · show T _ _ _ _ _ _ _ _
      refine t_v (.ld1 rfl rfl rfl (.at 2 rfl rfl)) ?_
      refine t_keep [2, 3, 5, 8, 14, 17] (σ' := [(2, .int .i64 0), (3, .int .i64 n3), (5, .pointer (some ⟨b168, 0, none⟩)), (8, .pointer (some ⟨b169, 0, none⟩)), (14, .int .i64 a0_0), (17, .int .i64 a0_1)]) (by kernel_rfl) ?_
      refine t_end ?_
      exact ⟨hg_1b, rfl⟩
    · show T _ _ _ _ _ _ _ _
      refine t_a (.bsl rfl rfl rfl rfl) fun g171 fg171 sg171 => ?_
      refine t_keep [2, 3, 5, 8, 13, 18] (σ' := [(2, .int .i64 0), (3, .int .i64 n3), (5, .pointer (some ⟨b168, 0, none⟩)), (8, .pointer (some ⟨b169, 0, none⟩)), (13, .pointer (some ⟨b167, 0, none⟩)), (18, .slice (some ⟨g171, 0, none⟩) 1 1)]) (by kernel_rfl) ?_
      refine t_end ?_
      exact ⟨hg_39 g171, rfl⟩
  have hg_9 : G [true, false, false, true, false, false, false, false] [(2, .int .i64 0), (3, .int .i64 n3), (5, .pointer (some ⟨b168, 0, none⟩)), (8, .pointer (some ⟨b169, 0, none⟩)), (13, .pointer (some ⟨b167, 0, none⟩)), (16, .pointer (some ⟨b167, 1, none⟩))] ([⟨b169, [.int .i64 0, .int .i64 0], 2⟩, ⟨b168, [.int .i64 2, .int .i64 s1_1, .int .i64 s1_2, .int .i64 s1_3, .int .i64 s1_4, .int .i64 0, .int .i64 0], 7⟩, ⟨b167, [.int .i64 a0_0, .int .i64 a0_1], 2⟩] : List Own) := by
    refine hstep [1, 4] _ _ _ (by kernel_rfl) (List.cons_ne_nil _ _) ⟨?_, ?_, trivial⟩
    · show T _ _ _ _ _ _ _ _
      refine t_v (.ld1 rfl rfl rfl (.at 2 rfl rfl)) ?_
      refine t_keep [2, 3, 5, 8, 14, 16] (σ' := [(2, .int .i64 0), (3, .int .i64 n3), (5, .pointer (some ⟨b168, 0, none⟩)), (8, .pointer (some ⟨b169, 0, none⟩)), (14, .int .i64 a0_0), (16, .pointer (some ⟨b167, 1, none⟩))]) (by kernel_rfl) ?_
      refine t_end ?_
      exact ⟨hg_b, rfl⟩
    · show T _ _ _ _ _ _ _ _
      refine t_v (.ld1 rfl rfl rfl (.at 2 rfl rfl)) ?_
      refine t_keep [2, 3, 5, 8, 13, 17] (σ' := [(2, .int .i64 0), (3, .int .i64 n3), (5, .pointer (some ⟨b168, 0, none⟩)), (8, .pointer (some ⟨b169, 0, none⟩)), (13, .pointer (some ⟨b167, 0, none⟩)), (17, .int .i64 a0_1)]) (by kernel_rfl) ?_
      refine t_end ?_
      exact ⟨hg_19, rfl⟩
  have hg_1 : G [true, false, false, false, false, false, false, false] [(2, .int .i64 0), (3, .int .i64 n3), (4, .pointer (some ⟨b167, 0, none⟩)), (5, .pointer (some ⟨b168, 0, none⟩)), (8, .pointer (some ⟨b169, 0, none⟩)), (13, .pointer (some ⟨b167, 0, none⟩))] ([⟨b169, [.int .i64 0, .int .i64 0], 2⟩, ⟨b168, [.int .i64 2, .int .i64 s1_1, .int .i64 s1_2, .int .i64 s1_3, .int .i64 s1_4, .int .i64 0, .int .i64 0], 7⟩, ⟨b167, [.int .i64 a0_0, .int .i64 a0_1], 2⟩] : List Own) := by
    exact hqf 3 [2, 3, 5, 8, 13, 16] _ _ _ [(2, .int .i64 0), (3, .int .i64 n3), (5, .pointer (some ⟨b168, 0, none⟩)), (8, .pointer (some ⟨b169, 0, none⟩)), (13, .pointer (some ⟨b167, 0, none⟩)), (16, .pointer (some ⟨b167, 1, none⟩))] (by kernel_rfl) (by kernel_rfl) hg_9
  have hg_0 : G [false, false, false, false, false, false, false, false] [(2, .int .i64 0), (3, .int .i64 n3), (4, .pointer (some ⟨b167, 0, none⟩)), (5, .pointer (some ⟨b168, 0, none⟩)), (8, .pointer (some ⟨b169, 0, none⟩))] ([⟨b169, [.int .i64 0, .int .i64 0], 2⟩, ⟨b168, [.int .i64 2, .int .i64 s1_1, .int .i64 s1_2, .int .i64 s1_3, .int .i64 s1_4, .int .i64 0, .int .i64 0], 7⟩, ⟨b167, [.int .i64 a0_0, .int .i64 a0_1], 2⟩] : List Own) := by
    exact hqf 0 [2, 3, 4, 5, 8, 13] _ _ _ [(2, .int .i64 0), (3, .int .i64 n3), (4, .pointer (some ⟨b167, 0, none⟩)), (5, .pointer (some ⟨b168, 0, none⟩)), (8, .pointer (some ⟨b169, 0, none⟩)), (13, .pointer (some ⟨b167, 0, none⟩))] (by kernel_rfl) (by kernel_rfl) hg_1
  exact hg_0

/-- glyphicref.SamePoint -/
def c21 : C :=
  (.seq (.reg [⟨(some 2), .box (.tmp 0), none⟩,
     ⟨(some 3), .box (.tmp 1), none⟩,
     ⟨(some 4), .mv (.const (.bool false)), none⟩])
  (.seq (.reg [⟨(some 5), .pad 0 (.tmp 2), none⟩,
     ⟨(some 6), .ld none (.tmp 5), none⟩,
     ⟨(some 7), .pad 0 (.tmp 3), none⟩,
     ⟨(some 8), .ld none (.tmp 7), none⟩,
     ⟨(some 9), .bin .eql (.tmp 6) (.tmp 8), none⟩,
     ⟨(some 10), .mv (.tmp 9), none⟩,
     ⟨(some 11), .pad 1 (.tmp 2), (some (10, true))⟩,
     ⟨(some 12), .ld none (.tmp 11), (some (10, true))⟩,
     ⟨(some 13), .pad 1 (.tmp 3), (some (10, true))⟩,
     ⟨(some 14), .ld none (.tmp 13), (some (10, true))⟩,
     ⟨(some 15), .bin .eql (.tmp 12) (.tmp 14), (some (10, true))⟩,
     ⟨(some 16), .pk (.tmp 10) (.tmp 15) (.const (.bool false)), none⟩,
     ⟨(some 4), .mv (.tmp 16), none⟩])
  .ret))
def glyphicref_SamePoint.f (a0_X : Int) (a0_Y : Int) (b1_X : Int) (b1_Y : Int) : Option (Bool) := if a0_X = b1_X then (some (a0_Y == b1_Y)) else (some false)
theorem glyphicref_SamePoint.ok {S : Seal} {a0_X : Int} {a0_Y : Int} {b1_X : Int} {b1_Y : Int} {r0_ : Bool} (e : glyphicref_SamePoint.f a0_X a0_Y b1_X b1_Y = some r0_) :
    Cal Try.prog 21 [.agg #[.int .i64 a0_X, .int .i64 a0_Y], .agg #[.int .i64 b1_X, .int .i64 b1_Y]] [] S fun v H' S' => v = .bool r0_ ∧ H' = [] ∧ S' = S := by
  unfold glyphicref_SamePoint.f at e
  refine cal_of (c := c21) (N := 17) Try.func21 rfl rfl (by kernel_rfl) (rs := [.t 4]) (by kernel_rfl) (Nat.le_of_ble_eq_true rfl) ?_
  unfold c21
  refine w_seq ?_
  refine w_reg fun all => ?_
  refine t_a (.box rfl rfl rfl) fun b198 fb198 sb198 => ?_
  refine t_a (.box rfl rfl rfl) fun b199 fb199 sb199 => ?_
  refine t_qz 1 [2, 3] (σ' := [(2, .pointer (some ⟨b198, 0, none⟩)), (3, .pointer (some ⟨b199, 0, none⟩))]) (by kernel_rfl) ?_
  refine t_end ?_
  show W _ _ _ _ _ _ _
  refine w_seq ?_
  refine w_reg fun all => ?_
  refine t_qz 1 [2, 3, 5] (σ' := [(2, .pointer (some ⟨b198, 0, none⟩)), (3, .pointer (some ⟨b199, 0, none⟩)), (5, .pointer (some ⟨b198, 0, none⟩))]) (by kernel_rfl) ?_
  refine t_v (.ld1 rfl rfl rfl (.at 1 rfl rfl)) ?_
  refine t_qz 1 [2, 3, 6, 7] (σ' := [(2, .pointer (some ⟨b198, 0, none⟩)), (3, .pointer (some ⟨b199, 0, none⟩)), (6, .int .i64 a0_X), (7, .pointer (some ⟨b199, 0, none⟩))]) (by kernel_rfl) ?_
  refine t_v (.ld1 rfl rfl rfl (.at 0 rfl rfl)) ?_
  by_cases c200 : a0_X = b1_X
  · rw [if_pos c200] at e
    have c200b : (a0_X == b1_X) = true := beq_iff_eq.mpr c200
    refine t_v (dv_quiet rfl (congrArg (fun t => some (Value.bool t)) c200b)) ?_
    refine t_qz 2 [3, 10, 11] (σ' := [(3, .pointer (some ⟨b199, 0, none⟩)), (10, .bool true), (11, .pointer (some ⟨b198, 1, none⟩))]) (by kernel_rfl) ?_
    refine t_v (.ld1 rfl rfl rfl (.at 1 rfl rfl)) ?_
    refine t_qz 1 [10, 12, 13] (σ' := [(10, .bool true), (12, .int .i64 a0_Y), (13, .pointer (some ⟨b199, 1, none⟩))]) (by kernel_rfl) ?_
    refine t_v (.ld1 rfl rfl rfl (.at 0 rfl rfl)) ?_
    refine t_qz 3 [4] (σ' := [(4, .bool (a0_Y == b1_Y))]) (by kernel_rfl) ?_
    refine t_end ?_
    show W _ _ _ _ _ _ _
    refine w_ret ?_
    obtain rfl := Option.some.inj e
    exact ⟨[.bool (a0_Y == b1_Y)], [], S, ⟨rfl, trivial⟩, VS.none, rfl, rfl, rfl⟩
  · rw [if_neg c200] at e
    have c200b : (a0_X == b1_X) = false := beq_eq_false_iff_ne.mpr c200
    refine t_v (dv_quiet rfl (congrArg (fun t => some (Value.bool t)) c200b)) ?_
    refine t_qz 8 [4] (σ' := [(4, .bool false)]) (by kernel_rfl) ?_
    refine t_end ?_
    show W _ _ _ _ _ _ _
    refine w_ret ?_
    obtain rfl := Option.some.inj e
    exact ⟨[.bool false], [], S, ⟨rfl, trivial⟩, VS.none, rfl, rfl, rfl⟩
end Go.Proofs.Ytijjgmkhgcofiaa.QFlattenEnds
