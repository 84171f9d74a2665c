/- Functions of the program as Lean functions, each with the proof of its walk. Written by gen.py, a program of these sessions. -/
import Derived.Test.YtpimfacaalkmdaaQFlattenRowsx0
namespace Go.Proofs.Ytpimfacaalkmdaa.QFlattenRows
open Go Go.RowKit Go.Proofs.YtpimfacaalkmdaaE
set_option linter.unusedVariables false
set_option maxRecDepth 100000
set_option maxHeartbeats 8000000
def flatten_Point_v2.f (a0_0 : Int) (a0_1 : Int) (s1_1 : Int) (s1_2 : Int) (s1_3 : Int) (s1_4 : Int) (s1_5 : Int) (s1_6 : Int) (i2 : Int) (n3 : Int) : Option (Int × Int) := (flatten_points_v2.f s1_1 s1_2 s1_3 s1_4 s1_5 s1_6).bind fun (t319, t320, t321, t322, t323, t324, t325) => ((flatten_mix_v3.f i2 n3 a0_0 t320).bind fun t335 => ((flatten_mix_v3.f i2 n3 a0_1 t321).bind fun t337 => (some (t335, t337))))
theorem flatten_Point_v2.ok {S : Seal} {a0_0 : Int} {a0_1 : Int} {s1_1 : Int} {s1_2 : Int} {s1_3 : Int} {s1_4 : Int} {s1_5 : Int} {s1_6 : Int} {i2 : Int} {n3 : Int} {r0_ : Int} {r1_ : Int}(e : flatten_Point_v2.f a0_0 a0_1 s1_1 s1_2 s1_3 s1_4 s1_5 s1_6 i2 n3 = some (r0_, r1_)) :
    Cal Try.prog 31 [.agg #[.int .i64 a0_0, .int .i64 a0_1], .agg #[.int .i64 1, .int .i64 s1_1, .int .i64 s1_2, .int .i64 s1_3, .int .i64 s1_4, .int .i64 s1_5, .int .i64 s1_6], .int .i64 i2, .int .i64 n3] [] S fun v H' S' => v = .agg #[.int .i64 r0_, .int .i64 r1_] ∧ H' = [] ∧ S' = S := by
  unfold flatten_Point_v2.f at e
  refine cal_of (c := c31) (N := 46) Try.func31 rfl rfl (by kernel_rfl) (rs := [.cn 2 8]) (by kernel_rfl) (Nat.le_of_ble_eq_true rfl) ?_
  unfold c31
  refine w_seq ?_
  refine w_reg fun all => ?_
  refine t_a (.box rfl rfl rfl) fun b313 fb313 sb313 => ?_
  refine t_a (.box rfl rfl rfl) fun b314 fb314 sb314 => ?_
  refine t_a (.new rfl rfl) fun b315 fb315 sb315 => ?_
  refine t_keep [2, 3, 4, 5, 8] (σ' := [(2, .int .i64 i2), (3, .int .i64 n3), (4, .pointer (some ⟨b313, 0, none⟩)), (5, .pointer (some ⟨b314, 0, none⟩)), (8, .pointer (some ⟨b315, 0, none⟩))]) (by kernel_rfl) ?_
  refine t_end ?_
  show W _ _ _ _ _ _ _
  refine w_seq ?_
  refine w_kp [2, 3, 4, 5, 8] (σ' := [(2, .int .i64 i2), (3, .int .i64 n3), (4, .pointer (some ⟨b313, 0, none⟩)), (5, .pointer (some ⟨b314, 0, none⟩)), (8, .pointer (some ⟨b315, 0, none⟩))]) (by kernel_rfl) ?_
  refine w_gameQ mixed (by kernel_rfl) fun all G hend hstep hqf => ?_
  have hg_ff : ∀ (g317 : Nat) (g316 : Nat), G [true, true, true, true, true, true, true, true] [(2, .int .i64 i2), (3, .int .i64 n3), (5, .pointer (some ⟨b314, 0, none⟩)), (8, .pointer (some ⟨b315, 0, none⟩)), (9, .slice (some ⟨g316, 0, none⟩) 1 1), (10, .slice (some ⟨g317, 0, none⟩) 1 1)] ([⟨g317, [.int .i64 a0_1], 1⟩, ⟨g316, [.int .i64 a0_0], 1⟩, ⟨b315, [.int .i64 0, .int .i64 0], 2⟩, ⟨b314, [.int .i64 1, .int .i64 s1_1, .int .i64 s1_2, .int .i64 s1_3, .int .i64 s1_4, .int .i64 s1_5, .int .i64 s1_6], 7⟩, ⟨b313, [.int .i64 a0_0, .int .i64 a0_1], 2⟩] : List Own) := by
    intro g317 g316
    refine hend _ _ _ (by kernel_rfl) ?_
    show W _ _ _ _ _ _ _
    refine w_seq ?_
    refine w_seq ?_
    refine w_reg fun all => ?_
    refine t_v (.ldn rfl rfl rfl (.at 3 rfl rfl)) ?_
    obtain ⟨⟨t319, t320, t321, t322, t323, t324, t325⟩, h326, e⟩ := bind_of e
    try dsimp only at e
    refine t_call (vs := [.agg #[.int .i64 1, .int .i64 s1_1, .int .i64 s1_2, .int .i64 s1_3, .int .i64 s1_4, .int .i64 s1_5, .int .i64 s1_6]]) (H1 := ([] : List Own)) (F := ([⟨g317, [.int .i64 a0_1], 1⟩, ⟨g316, [.int .i64 a0_0], 1⟩, ⟨b315, [.int .i64 0, .int .i64 0], 2⟩, ⟨b314, [.int .i64 1, .int .i64 s1_1, .int .i64 s1_2, .int .i64 s1_3, .int .i64 s1_4, .int .i64 s1_5, .int .i64 s1_6], 7⟩, ⟨b313, [.int .i64 a0_0, .int .i64 a0_1], 2⟩] : List Own)) rfl rfl (by kernel_rfl) (sel_perm (is := []) (by kernel_rfl)) (flatten_points_v2.ok h326) ?_
    rintro _ _ S_ ⟨N327, rfl, rfl, hS_⟩
    obtain rfl := hS_.symm
    refine t_qz 2 [2, 3, 8, 9, 10, 20, 21, 22] (σ' := [(2, .int .i64 i2), (3, .int .i64 n3), (8, .pointer (some ⟨b315, 0, none⟩)), (9, .slice (some ⟨g316, 0, none⟩) 1 1), (10, .slice (some ⟨g317, 0, none⟩) 1 1), (20, .slice (some ⟨N327, 1, none⟩) 1 3), (21, .int .i64 1), (22, .int .i64 0)]) (by kernel_rfl) ?_
    refine t_end ?_
    show W _ _ _ _ _ _ _
    refine w_block ?_
    refine w_lun 10 ?_
    refine wl_step ?_
    refine w_seq ?_
    refine w_reg fun all => ?_
    refine t_qz 1 [2, 3, 8, 9, 10, 20, 21, 22, 23] (σ' := [(2, .int .i64 i2), (3, .int .i64 n3), (8, .pointer (some ⟨b315, 0, none⟩)), (9, .slice (some ⟨g316, 0, none⟩) 1 1), (10, .slice (some ⟨g317, 0, none⟩) 1 1), (20, .slice (some ⟨N327, 1, none⟩) 1 3), (21, .int .i64 1), (22, .int .i64 0), (23, .bool true)]) (by kernel_rfl) ?_
    refine t_end ?_
    show W _ _ _ _ _ _ _
    refine w_seq ?_
    refine w_cond rfl (fun _ => ?_) (fun c_ => by cases c_)
    show W _ _ _ _ _ _ _
    refine w_skip ?_
    show W _ _ _ _ _ _ _
    refine w_seq ?_
    refine w_block ?_
    refine w_seq ?_
    refine w_reg fun all => ?_
    refine t_qz 1 [2, 3, 8, 9, 10, 20, 21, 22, 24] (σ' := [(2, .int .i64 i2), (3, .int .i64 n3), (8, .pointer (some ⟨b315, 0, none⟩)), (9, .slice (some ⟨g316, 0, none⟩) 1 1), (10, .slice (some ⟨g317, 0, none⟩) 1 1), (20, .slice (some ⟨N327, 1, none⟩) 1 3), (21, .int .i64 1), (22, .int .i64 0), (24, .pointer (some ⟨N327, 1, none⟩))]) (by kernel_rfl) ?_
    refine t_v (.ldn rfl rfl rfl (.at 0 rfl rfl)) ?_
    refine t_a (.new rfl rfl) fun b328 fb328 sb328 => ?_
    refine t_sti 0 (cs := [.int .i64 t320, .int .i64 t321]) rfl rfl rfl rfl rfl rfl rfl rfl rfl ?_
    refine t_keep [2, 3, 8, 9, 10, 12, 20, 21, 22] (σ' := [(2, .int .i64 i2), (3, .int .i64 n3), (8, .pointer (some ⟨b315, 0, none⟩)), (9, .slice (some ⟨g316, 0, none⟩) 1 1), (10, .slice (some ⟨g317, 0, none⟩) 1 1), (12, .pointer (some ⟨b328, 0, none⟩)), (20, .slice (some ⟨N327, 1, none⟩) 1 3), (21, .int .i64 1), (22, .int .i64 0)]) (by kernel_rfl) ?_
    refine t_end ?_
    show W _ _ _ _ _ _ _
    refine w_kp [2, 3, 8, 9, 10, 12, 20, 21, 22] (σ' := [(2, .int .i64 i2), (3, .int .i64 n3), (8, .pointer (some ⟨b315, 0, none⟩)), (9, .slice (some ⟨g316, 0, none⟩) 1 1), (10, .slice (some ⟨g317, 0, none⟩) 1 1), (12, .pointer (some ⟨b328, 0, none⟩)), (20, .slice (some ⟨N327, 1, none⟩) 1 3), (21, .int .i64 1), (22, .int .i64 0)]) (by kernel_rfl) ?_
    refine w_gameQ mixed (by kernel_rfl) fun all G hend hstep hqf => ?_
    have hg_fff : ∀ (g332 : Nat) (ng332 : Nat) (g331 : Nat) (g330 : Nat) (ng330 : Nat) (g329 : Nat), G [true, true, true, true, true, true, true, true, true, true, true, true] [(2, .int .i64 i2), (3, .int .i64 n3), (8, .pointer (some ⟨b315, 0, none⟩)), (9, .slice (some ⟨g330, 0, none⟩) 2 (ng330 / 1)), (10, .slice (some ⟨g332, 0, none⟩) 2 (ng332 / 1)), (20, .slice (some ⟨N327, 1, none⟩) 1 3), (21, .int .i64 1), (22, .int .i64 0)] ([⟨g332, [.int .i64 a0_1, .int .i64 t321], ng332⟩, ⟨g331, [.int .i64 t321], 1⟩, ⟨g330, [.int .i64 a0_0, .int .i64 t320], ng330⟩, ⟨g329, [.int .i64 t320], 1⟩, ⟨b328, [.int .i64 t320, .int .i64 t321], 2⟩, ⟨N327, [.int .i64 t319, .int .i64 t320, .int .i64 t321, .int .i64 t322, .int .i64 t323, .int .i64 t324, .int .i64 t325], 7⟩, ⟨b315, [.int .i64 0, .int .i64 0], 2⟩, ⟨b314, [.int .i64 1, .int .i64 s1_1, .int .i64 s1_2, .int .i64 s1_3, .int .i64 s1_4, .int .i64 s1_5, .int .i64 s1_6], 7⟩, ⟨b313, [.int .i64 a0_0, .int .i64 a0_1], 2⟩] : List Own) := by
      intro g332 ng332 g331 g330 ng330 g329
      refine hend _ _ _ (by kernel_rfl) ?_
      show W _ _ _ _ _ _ _
      refine w_reg fun all => ?_
      refine t_qz 2 [2, 3, 8, 9, 10, 20, 21, 22] (σ' := [(2, .int .i64 i2), (3, .int .i64 n3), (8, .pointer (some ⟨b315, 0, none⟩)), (9, .slice (some ⟨g330, 0, none⟩) 2 (ng330 / 1)), (10, .slice (some ⟨g332, 0, none⟩) 2 (ng332 / 1)), (20, .slice (some ⟨N327, 1, none⟩) 1 3), (21, .int .i64 1), (22, .int .i64 1)]) (by kernel_rfl) ?_
      refine t_end ?_
      show WL _ _ _ _ _ _ _ _
      refine wl_step ?_
      refine w_seq ?_
      refine w_reg fun all => ?_
      refine t_qz 1 [2, 3, 8, 9, 10, 20, 21, 22, 23] (σ' := [(2, .int .i64 i2), (3, .int .i64 n3), (8, .pointer (some ⟨b315, 0, none⟩)), (9, .slice (some ⟨g330, 0, none⟩) 2 (ng330 / 1)), (10, .slice (some ⟨g332, 0, none⟩) 2 (ng332 / 1)), (20, .slice (some ⟨N327, 1, none⟩) 1 3), (21, .int .i64 1), (22, .int .i64 1), (23, .bool false)]) (by kernel_rfl) ?_
      refine t_end ?_
      show W _ _ _ _ _ _ _
      refine w_seq ?_
      refine w_cond rfl (fun c_ => by cases c_) (fun _ => ?_)
      show W _ _ _ _ _ _ _
      refine w_exit ?_
      show W _ _ _ _ _ _ _
      refine w_seq ?_
      refine w_reg fun all => ?_
      obtain ⟨t335, h336, e⟩ := bind_of e
      refine t_qz 3 [2, 3, 8, 10, 37, 38, 39] (σ' := [(2, .int .i64 i2), (3, .int .i64 n3), (8, .pointer (some ⟨b315, 0, none⟩)), (10, .slice (some ⟨g332, 0, none⟩) 2 (ng332 / 1)), (37, .int .i64 i2), (38, .int .i64 n3), (39, .slice (some ⟨g330, 0, none⟩) 2 (ng330 / 1))]) (by kernel_rfl) ?_
      refine t_v (.callr (vs := [.int .i64 i2, .int .i64 n3, .slice (some ⟨g330, 0, none⟩) 2 (ng330 / 1)]) (A := ([⟨g330, [.int .i64 a0_0, .int .i64 t320], ng330⟩] : List Own)) (F0 := ([⟨g332, [.int .i64 a0_1, .int .i64 t321], ng332⟩, ⟨g331, [.int .i64 t321], 1⟩, ⟨g329, [.int .i64 t320], 1⟩, ⟨b328, [.int .i64 t320, .int .i64 t321], 2⟩, ⟨N327, [.int .i64 t319, .int .i64 t320, .int .i64 t321, .int .i64 t322, .int .i64 t323, .int .i64 t324, .int .i64 t325], 7⟩, ⟨b315, [.int .i64 0, .int .i64 0], 2⟩, ⟨b314, [.int .i64 1, .int .i64 s1_1, .int .i64 s1_2, .int .i64 s1_3, .int .i64 s1_4, .int .i64 s1_5, .int .i64 s1_6], 7⟩, ⟨b313, [.int .i64 a0_0, .int .i64 a0_1], 2⟩] : List Own)) rfl rfl (by kernel_rfl) (sel_perm (is := [2]) (by kernel_rfl)) (flatten_mix_v3.ok h336)) ?_
      obtain ⟨t337, h338, e⟩ := bind_of e
      refine t_qz 3 [8, 40, 41, 42, 43] (σ' := [(8, .pointer (some ⟨b315, 0, none⟩)), (40, .int .i64 t335), (41, .int .i64 i2), (42, .int .i64 n3), (43, .slice (some ⟨g332, 0, none⟩) 2 (ng332 / 1))]) (by kernel_rfl) ?_
      refine t_v (.callr (vs := [.int .i64 i2, .int .i64 n3, .slice (some ⟨g332, 0, none⟩) 2 (ng332 / 1)]) (A := ([⟨g332, [.int .i64 a0_1, .int .i64 t321], ng332⟩] : List Own)) (F0 := ([⟨g331, [.int .i64 t321], 1⟩, ⟨g330, [.int .i64 a0_0, .int .i64 t320], ng330⟩, ⟨g329, [.int .i64 t320], 1⟩, ⟨b328, [.int .i64 t320, .int .i64 t321], 2⟩, ⟨N327, [.int .i64 t319, .int .i64 t320, .int .i64 t321, .int .i64 t322, .int .i64 t323, .int .i64 t324, .int .i64 t325], 7⟩, ⟨b315, [.int .i64 0, .int .i64 0], 2⟩, ⟨b314, [.int .i64 1, .int .i64 s1_1, .int .i64 s1_2, .int .i64 s1_3, .int .i64 s1_4, .int .i64 s1_5, .int .i64 s1_6], 7⟩, ⟨b313, [.int .i64 a0_0, .int .i64 a0_1], 2⟩] : List Own)) rfl rfl (by kernel_rfl) (sel_perm (is := [0]) (by kernel_rfl)) (flatten_mix_v3.ok h338)) ?_
      refine t_qz 1 [8, 45] (σ' := [(8, .pointer (some ⟨b315, 0, none⟩)), (45, .agg #[.int .i64 t335, .int .i64 t337])]) (by kernel_rfl) ?_
      refine t_sti 6 (cs := [.int .i64 t335, .int .i64 t337]) rfl rfl rfl rfl rfl rfl rfl rfl rfl ?_
      refine t_keep [8] (σ' := [(8, .pointer (some ⟨b315, 0, none⟩))]) (by kernel_rfl) ?_
      refine t_end ?_
      show W _ _ _ _ _ _ _
      refine w_ret ?_
      simp only [Option.some.injEq, Prod.mk.injEq] at e
      obtain ⟨rfl, rfl⟩ := e
      exact ⟨[.agg #[.int .i64 t335, .int .i64 t337]], [], S, ⟨⟨_, _, _, rfl, .at 6 rfl rfl, rfl⟩, trivial⟩, VS.none, rfl, rfl, rfl⟩
    have hg_7ff : ∀ (g332 : Nat) (ng332 : Nat) (g331 : Nat) (g330 : Nat) (ng330 : Nat) (g329 : Nat), G [true, true, true, true, true, true, true, true, true, true, true, false] [(2, .int .i64 i2), (3, .int .i64 n3), (8, .pointer (some ⟨b315, 0, none⟩)), (9, .slice (some ⟨g330, 0, none⟩) 2 (ng330 / 1)), (10, .slice (some ⟨g317, 0, none⟩) 1 1), (20, .slice (some ⟨N327, 1, none⟩) 1 3), (21, .int .i64 1), (22, .int .i64 0), (35, .slice (some ⟨g332, 0, none⟩) 2 (ng332 / 1))] ([⟨g332, [.int .i64 a0_1, .int .i64 t321], ng332⟩, ⟨g331, [.int .i64 t321], 1⟩, ⟨g330, [.int .i64 a0_0, .int .i64 t320], ng330⟩, ⟨g329, [.int .i64 t320], 1⟩, ⟨b328, [.int .i64 t320, .int .i64 t321], 2⟩, ⟨N327, [.int .i64 t319, .int .i64 t320, .int .i64 t321, .int .i64 t322, .int .i64 t323, .int .i64 t324, .int .i64 t325], 7⟩, ⟨b315, [.int .i64 0, .int .i64 0], 2⟩, ⟨b314, [.int .i64 1, .int .i64 s1_1, .int .i64 s1_2, .int .i64 s1_3, .int .i64 s1_4, .int .i64 s1_5, .int .i64 s1_6], 7⟩, ⟨b313, [.int .i64 a0_0, .int .i64 a0_1], 2⟩] : List Own) := by
      intro g332 ng332 g331 g330 ng330 g329
      exact hqf 11 [2, 3, 8, 9, 10, 20, 21, 22] _ _ _ [(2, .int .i64 i2), (3, .int .i64 n3), (8, .pointer (some ⟨b315, 0, none⟩)), (9, .slice (some ⟨g330, 0, none⟩) 2 (ng330 / 1)), (10, .slice (some ⟨g332, 0, none⟩) 2 (ng332 / 1)), (20, .slice (some ⟨N327, 1, none⟩) 1 3), (21, .int .i64 1), (22, .int .i64 0)] (by kernel_rfl) (by kernel_rfl) (hg_fff g332 ng332 g331 g330 ng330 g329)
    have hg_3ff : ∀ (g332 : Nat) (ng332 : Nat) (g331 : Nat) (g330 : Nat) (ng330 : Nat) (g329 : Nat), G [true, true, true, true, true, true, true, true, true, true, false, false] [(2, .int .i64 i2), (3, .int .i64 n3), (8, .pointer (some ⟨b315, 0, none⟩)), (9, .slice (some ⟨g316, 0, none⟩) 1 1), (10, .slice (some ⟨g317, 0, none⟩) 1 1), (20, .slice (some ⟨N327, 1, none⟩) 1 3), (21, .int .i64 1), (22, .int .i64 0), (30, .slice (some ⟨g330, 0, none⟩) 2 (ng330 / 1)), (35, .slice (some ⟨g332, 0, none⟩) 2 (ng332 / 1))] ([⟨g332, [.int .i64 a0_1, .int .i64 t321], ng332⟩, ⟨g331, [.int .i64 t321], 1⟩, ⟨g330, [.int .i64 a0_0, .int .i64 t320], ng330⟩, ⟨g329, [.int .i64 t320], 1⟩, ⟨b328, [.int .i64 t320, .int .i64 t321], 2⟩, ⟨N327, [.int .i64 t319, .int .i64 t320, .int .i64 t321, .int .i64 t322, .int .i64 t323, .int .i64 t324, .int .i64 t325], 7⟩, ⟨b315, [.int .i64 0, .int .i64 0], 2⟩, ⟨b314, [.int .i64 1, .int .i64 s1_1, .int .i64 s1_2, .int .i64 s1_3, .int .i64 s1_4, .int .i64 s1_5, .int .i64 s1_6], 7⟩, ⟨b313, [.int .i64 a0_0, .int .i64 a0_1], 2⟩] : List Own) := by
      intro g332 ng332 g331 g330 ng330 g329
      exact hqf 10 [2, 3, 8, 9, 10, 20, 21, 22, 35] _ _ _ [(2, .int .i64 i2), (3, .int .i64 n3), (8, .pointer (some ⟨b315, 0, none⟩)), (9, .slice (some ⟨g330, 0, none⟩) 2 (ng330 / 1)), (10, .slice (some ⟨g317, 0, none⟩) 1 1), (20, .slice (some ⟨N327, 1, none⟩) 1 3), (21, .int .i64 1), (22, .int .i64 0), (35, .slice (some ⟨g332, 0, none⟩) 2 (ng332 / 1))] (by kernel_rfl) (by kernel_rfl) (hg_7ff g332 ng332 g331 g330 ng330 g329)
    have hg_1ff : ∀ (g331 : Nat) (g330 : Nat) (ng330 : Nat) (g329 : Nat), G [true, true, true, true, true, true, true, true, true, false, false, false] [(2, .int .i64 i2), (3, .int .i64 n3), (8, .pointer (some ⟨b315, 0, none⟩)), (9, .slice (some ⟨g316, 0, none⟩) 1 1), (10, .slice (some ⟨g317, 0, none⟩) 1 1), (20, .slice (some ⟨N327, 1, none⟩) 1 3), (21, .int .i64 1), (22, .int .i64 0), (30, .slice (some ⟨g330, 0, none⟩) 2 (ng330 / 1)), (31, .slice (some ⟨g317, 0, none⟩) 1 1), (34, .slice (some ⟨g331, 0, none⟩) 1 1)] ([⟨g331, [.int .i64 t321], 1⟩, ⟨g330, [.int .i64 a0_0, .int .i64 t320], ng330⟩, ⟨g329, [.int .i64 t320], 1⟩, ⟨b328, [.int .i64 t320, .int .i64 t321], 2⟩, ⟨N327, [.int .i64 t319, .int .i64 t320, .int .i64 t321, .int .i64 t322, .int .i64 t323, .int .i64 t324, .int .i64 t325], 7⟩, ⟨g317, [.int .i64 a0_1], 1⟩, ⟨b315, [.int .i64 0, .int .i64 0], 2⟩, ⟨b314, [.int .i64 1, .int .i64 s1_1, .int .i64 s1_2, .int .i64 s1_3, .int .i64 s1_4, .int .i64 s1_5, .int .i64 s1_6], 7⟩, ⟨b313, [.int .i64 a0_0, .int .i64 a0_1], 2⟩] : List Own) := by
      intro g331 g330 ng330 g329
      refine hstep [9] _ _ _ (by kernel_rfl) (List.cons_ne_nil _ _) ⟨?_, trivial⟩
      · show T _ _ _ _ _ _ _ _
        refine t_app1 (cs := [.int .i64 a0_1]) (M := 1) (F := ([⟨g331, [.int .i64 t321], 1⟩, ⟨g330, [.int .i64 a0_0, .int .i64 t320], ng330⟩, ⟨g329, [.int .i64 t320], 1⟩, ⟨b328, [.int .i64 t320, .int .i64 t321], 2⟩, ⟨N327, [.int .i64 t319, .int .i64 t320, .int .i64 t321, .int .i64 t322, .int .i64 t323, .int .i64 t324, .int .i64 t325], 7⟩, ⟨b315, [.int .i64 0, .int .i64 0], 2⟩, ⟨b314, [.int .i64 1, .int .i64 s1_1, .int .i64 s1_2, .int .i64 s1_3, .int .i64 s1_4, .int .i64 s1_5, .int .i64 s1_6], 7⟩, ⟨b313, [.int .i64 a0_0, .int .i64 a0_1], 2⟩] : List Own)) (news := [.int .i64 t321]) rfl rfl rfl rfl (sel_perm (is := [5]) (by kernel_rfl)) (.at 0 rfl rfl) (by kernel_rfl) rfl rfl (by decide) (by decide) rfl fun g332 ng332 => ?_
        refine t_keep [2, 3, 8, 9, 10, 20, 21, 22, 30, 35] (σ' := [(2, .int .i64 i2), (3, .int .i64 n3), (8, .pointer (some ⟨b315, 0, none⟩)), (9, .slice (some ⟨g316, 0, none⟩) 1 1), (10, .slice (some ⟨g317, 0, none⟩) 1 1), (20, .slice (some ⟨N327, 1, none⟩) 1 3), (21, .int .i64 1), (22, .int .i64 0), (30, .slice (some ⟨g330, 0, none⟩) 2 (ng330 / 1)), (35, .slice (some ⟨g332, 0, none⟩) 2 (ng332 / 1))]) (by kernel_rfl) ?_
        refine t_end ?_
        exact ⟨hg_3ff g332 ng332 g331 g330 ng330 g329, rfl⟩
    have hg_ff : ∀ (g330 : Nat) (ng330 : Nat) (g329 : Nat), G [true, true, true, true, true, true, true, true, false, false, false, false] [(2, .int .i64 i2), (3, .int .i64 n3), (8, .pointer (some ⟨b315, 0, none⟩)), (9, .slice (some ⟨g316, 0, none⟩) 1 1), (10, .slice (some ⟨g317, 0, none⟩) 1 1), (20, .slice (some ⟨N327, 1, none⟩) 1 3), (21, .int .i64 1), (22, .int .i64 0), (30, .slice (some ⟨g330, 0, none⟩) 2 (ng330 / 1)), (31, .slice (some ⟨g317, 0, none⟩) 1 1), (33, .int .i64 t321)] ([⟨g330, [.int .i64 a0_0, .int .i64 t320], ng330⟩, ⟨g329, [.int .i64 t320], 1⟩, ⟨b328, [.int .i64 t320, .int .i64 t321], 2⟩, ⟨N327, [.int .i64 t319, .int .i64 t320, .int .i64 t321, .int .i64 t322, .int .i64 t323, .int .i64 t324, .int .i64 t325], 7⟩, ⟨g317, [.int .i64 a0_1], 1⟩, ⟨b315, [.int .i64 0, .int .i64 0], 2⟩, ⟨b314, [.int .i64 1, .int .i64 s1_1, .int .i64 s1_2, .int .i64 s1_3, .int .i64 s1_4, .int .i64 s1_5, .int .i64 s1_6], 7⟩, ⟨b313, [.int .i64 a0_0, .int .i64 a0_1], 2⟩] : List Own) := by
      intro g330 ng330 g329
      refine hstep [8] _ _ _ (by kernel_rfl) (List.cons_ne_nil _ _) ⟨?_, trivial⟩
      · show T _ _ _ _ _ _ _ _
        refine t_a (.bsl rfl rfl rfl rfl) fun g331 fg331 sg331 => ?_
        refine t_keep [2, 3, 8, 9, 10, 20, 21, 22, 30, 31, 34] (σ' := [(2, .int .i64 i2), (3, .int .i64 n3), (8, .pointer (some ⟨b315, 0, none⟩)), (9, .slice (some ⟨g316, 0, none⟩) 1 1), (10, .slice (some ⟨g317, 0, none⟩) 1 1), (20, .slice (some ⟨N327, 1, none⟩) 1 3), (21, .int .i64 1), (22, .int .i64 0), (30, .slice (some ⟨g330, 0, none⟩) 2 (ng330 / 1)), (31, .slice (some ⟨g317, 0, none⟩) 1 1), (34, .slice (some ⟨g331, 0, none⟩) 1 1)]) (by kernel_rfl) ?_
        refine t_end ?_
        exact ⟨hg_1ff g331 g330 ng330 g329, rfl⟩
    have hg_1ef : ∀ (g331 : Nat) (g329 : Nat), G [true, true, true, true, false, true, true, true, true, false, false, false] [(2, .int .i64 i2), (3, .int .i64 n3), (8, .pointer (some ⟨b315, 0, none⟩)), (9, .slice (some ⟨g316, 0, none⟩) 1 1), (10, .slice (some ⟨g317, 0, none⟩) 1 1), (20, .slice (some ⟨N327, 1, none⟩) 1 3), (21, .int .i64 1), (22, .int .i64 0), (26, .slice (some ⟨g316, 0, none⟩) 1 1), (29, .slice (some ⟨g329, 0, none⟩) 1 1), (31, .slice (some ⟨g317, 0, none⟩) 1 1), (34, .slice (some ⟨g331, 0, none⟩) 1 1)] ([⟨g331, [.int .i64 t321], 1⟩, ⟨g329, [.int .i64 t320], 1⟩, ⟨b328, [.int .i64 t320, .int .i64 t321], 2⟩, ⟨N327, [.int .i64 t319, .int .i64 t320, .int .i64 t321, .int .i64 t322, .int .i64 t323, .int .i64 t324, .int .i64 t325], 7⟩, ⟨g317, [.int .i64 a0_1], 1⟩, ⟨g316, [.int .i64 a0_0], 1⟩, ⟨b315, [.int .i64 0, .int .i64 0], 2⟩, ⟨b314, [.int .i64 1, .int .i64 s1_1, .int .i64 s1_2, .int .i64 s1_3, .int .i64 s1_4, .int .i64 s1_5, .int .i64 s1_6], 7⟩, ⟨b313, [.int .i64 a0_0, .int .i64 a0_1], 2⟩] : List Own) := by
      intro g331 g329
      refine hstep [4] _ _ _ (by kernel_rfl) (List.cons_ne_nil _ _) ⟨?_, trivial⟩
      · show T _ _ _ _ _ _ _ _
        refine t_app1 (cs := [.int .i64 a0_0]) (M := 1) (F := ([⟨g331, [.int .i64 t321], 1⟩, ⟨g329, [.int .i64 t320], 1⟩, ⟨b328, [.int .i64 t320, .int .i64 t321], 2⟩, ⟨N327, [.int .i64 t319, .int .i64 t320, .int .i64 t321, .int .i64 t322, .int .i64 t323, .int .i64 t324, .int .i64 t325], 7⟩, ⟨g317, [.int .i64 a0_1], 1⟩, ⟨b315, [.int .i64 0, .int .i64 0], 2⟩, ⟨b314, [.int .i64 1, .int .i64 s1_1, .int .i64 s1_2, .int .i64 s1_3, .int .i64 s1_4, .int .i64 s1_5, .int .i64 s1_6], 7⟩, ⟨b313, [.int .i64 a0_0, .int .i64 a0_1], 2⟩] : List Own)) (news := [.int .i64 t320]) rfl rfl rfl rfl (sel_perm (is := [5]) (by kernel_rfl)) (.at 1 rfl rfl) (by kernel_rfl) rfl rfl (by decide) (by decide) rfl fun g330 ng330 => ?_
        refine t_keep [2, 3, 8, 9, 10, 20, 21, 22, 30, 31, 34] (σ' := [(2, .int .i64 i2), (3, .int .i64 n3), (8, .pointer (some ⟨b315, 0, none⟩)), (9, .slice (some ⟨g316, 0, none⟩) 1 1), (10, .slice (some ⟨g317, 0, none⟩) 1 1), (20, .slice (some ⟨N327, 1, none⟩) 1 3), (21, .int .i64 1), (22, .int .i64 0), (30, .slice (some ⟨g330, 0, none⟩) 2 (ng330 / 1)), (31, .slice (some ⟨g317, 0, none⟩) 1 1), (34, .slice (some ⟨g331, 0, none⟩) 1 1)]) (by kernel_rfl) ?_
        refine t_vs (H' := ([⟨g331, [.int .i64 t321], 1⟩, ⟨g330, [.int .i64 a0_0, .int .i64 t320], ng330⟩, ⟨g329, [.int .i64 t320], 1⟩, ⟨b328, [.int .i64 t320, .int .i64 t321], 2⟩, ⟨N327, [.int .i64 t319, .int .i64 t320, .int .i64 t321, .int .i64 t322, .int .i64 t323, .int .i64 t324, .int .i64 t325], 7⟩, ⟨g317, [.int .i64 a0_1], 1⟩, ⟨b315, [.int .i64 0, .int .i64 0], 2⟩, ⟨b314, [.int .i64 1, .int .i64 s1_1, .int .i64 s1_2, .int .i64 s1_3, .int .i64 s1_4, .int .i64 s1_5, .int .i64 s1_6], 7⟩, ⟨b313, [.int .i64 a0_0, .int .i64 a0_1], 2⟩] : List Own)) (S' := S) (VS.sel [1, 0, 0, 0, 0, 0, 0, 0, 0] (by kernel_rfl)) ?_
        refine t_end ?_
        exact ⟨hg_1ff g331 g330 ng330 g329, rfl⟩
    have hg_1e7 : ∀ (g331 : Nat), G [true, true, true, false, false, true, true, true, true, false, false, false] [(2, .int .i64 i2), (3, .int .i64 n3), (8, .pointer (some ⟨b315, 0, none⟩)), (9, .slice (some ⟨g316, 0, none⟩) 1 1), (10, .slice (some ⟨g317, 0, none⟩) 1 1), (20, .slice (some ⟨N327, 1, none⟩) 1 3), (21, .int .i64 1), (22, .int .i64 0), (26, .slice (some ⟨g316, 0, none⟩) 1 1), (28, .int .i64 t320), (31, .slice (some ⟨g317, 0, none⟩) 1 1), (34, .slice (some ⟨g331, 0, none⟩) 1 1)] ([⟨g331, [.int .i64 t321], 1⟩, ⟨b328, [.int .i64 t320, .int .i64 t321], 2⟩, ⟨N327, [.int .i64 t319, .int .i64 t320, .int .i64 t321, .int .i64 t322, .int .i64 t323, .int .i64 t324, .int .i64 t325], 7⟩, ⟨g317, [.int .i64 a0_1], 1⟩, ⟨g316, [.int .i64 a0_0], 1⟩, ⟨b315, [.int .i64 0, .int .i64 0], 2⟩, ⟨b314, [.int .i64 1, .int .i64 s1_1, .int .i64 s1_2, .int .i64 s1_3, .int .i64 s1_4, .int .i64 s1_5, .int .i64 s1_6], 7⟩, ⟨b313, [.int .i64 a0_0, .int .i64 a0_1], 2⟩] : List Own) := by
      intro g331
      refine hstep [3] _ _ _ (by kernel_rfl) (List.cons_ne_nil _ _) ⟨?_, trivial⟩
      · show T _ _ _ _ _ _ _ _
        refine t_a (.bsl rfl rfl rfl rfl) fun g329 fg329 sg329 => ?_
        refine t_keep [2, 3, 8, 9, 10, 20, 21, 22, 26, 29, 31, 34] (σ' := [(2, .int .i64 i2), (3, .int .i64 n3), (8, .pointer (some ⟨b315, 0, none⟩)), (9, .slice (some ⟨g316, 0, none⟩) 1 1), (10, .slice (some ⟨g317, 0, none⟩) 1 1), (20, .slice (some ⟨N327, 1, none⟩) 1 3), (21, .int .i64 1), (22, .int .i64 0), (26, .slice (some ⟨g316, 0, none⟩) 1 1), (29, .slice (some ⟨g329, 0, none⟩) 1 1), (31, .slice (some ⟨g317, 0, none⟩) 1 1), (34, .slice (some ⟨g331, 0, none⟩) 1 1)]) (by kernel_rfl) ?_
        refine t_vs (H' := ([⟨g331, [.int .i64 t321], 1⟩, ⟨g329, [.int .i64 t320], 1⟩, ⟨b328, [.int .i64 t320, .int .i64 t321], 2⟩, ⟨N327, [.int .i64 t319, .int .i64 t320, .int .i64 t321, .int .i64 t322, .int .i64 t323, .int .i64 t324, .int .i64 t325], 7⟩, ⟨g317, [.int .i64 a0_1], 1⟩, ⟨g316, [.int .i64 a0_0], 1⟩, ⟨b315, [.int .i64 0, .int .i64 0], 2⟩, ⟨b314, [.int .i64 1, .int .i64 s1_1, .int .i64 s1_2, .int .i64 s1_3, .int .i64 s1_4, .int .i64 s1_5, .int .i64 s1_6], 7⟩, ⟨b313, [.int .i64 a0_0, .int .i64 a0_1], 2⟩] : List Own)) (S' := S) (VS.sel [1, 0, 0, 0, 0, 0, 0, 0, 0] (by kernel_rfl)) ?_
        refine t_end ?_
        exact ⟨hg_1ef g331 g329, rfl⟩
    have hg_ef : ∀ (g329 : Nat), G [true, true, true, true, false, true, true, true, false, false, false, false] [(2, .int .i64 i2), (3, .int .i64 n3), (8, .pointer (some ⟨b315, 0, none⟩)), (9, .slice (some ⟨g316, 0, none⟩) 1 1), (10, .slice (some ⟨g317, 0, none⟩) 1 1), (20, .slice (some ⟨N327, 1, none⟩) 1 3), (21, .int .i64 1), (22, .int .i64 0), (26, .slice (some ⟨g316, 0, none⟩) 1 1), (29, .slice (some ⟨g329, 0, none⟩) 1 1), (31, .slice (some ⟨g317, 0, none⟩) 1 1), (33, .int .i64 t321)] ([⟨g329, [.int .i64 t320], 1⟩, ⟨b328, [.int .i64 t320, .int .i64 t321], 2⟩, ⟨N327, [.int .i64 t319, .int .i64 t320, .int .i64 t321, .int .i64 t322, .int .i64 t323, .int .i64 t324, .int .i64 t325], 7⟩, ⟨g317, [.int .i64 a0_1], 1⟩, ⟨g316, [.int .i64 a0_0], 1⟩, ⟨b315, [.int .i64 0, .int .i64 0], 2⟩, ⟨b314, [.int .i64 1, .int .i64 s1_1, .int .i64 s1_2, .int .i64 s1_3, .int .i64 s1_4, .int .i64 s1_5, .int .i64 s1_6], 7⟩, ⟨b313, [.int .i64 a0_0, .int .i64 a0_1], 2⟩] : List Own) := by
      intro g329
      refine hstep [4, 8] _ _ _ (by kernel_rfl) (List.cons_ne_nil _ _) ⟨?_, ?_, trivial⟩
      · show T _ _ _ _ _ _ _ _
        refine t_app1 (cs := [.int .i64 a0_0]) (M := 1) (F := ([⟨g329, [.int .i64 t320], 1⟩, ⟨b328, [.int .i64 t320, .int .i64 t321], 2⟩, ⟨N327, [.int .i64 t319, .int .i64 t320, .int .i64 t321, .int .i64 t322, .int .i64 t323, .int .i64 t324, .int .i64 t325], 7⟩, ⟨g317, [.int .i64 a0_1], 1⟩, ⟨b315, [.int .i64 0, .int .i64 0], 2⟩, ⟨b314, [.int .i64 1, .int .i64 s1_1, .int .i64 s1_2, .int .i64 s1_3, .int .i64 s1_4, .int .i64 s1_5, .int .i64 s1_6], 7⟩, ⟨b313, [.int .i64 a0_0, .int .i64 a0_1], 2⟩] : List Own)) (news := [.int .i64 t320]) rfl rfl rfl rfl (sel_perm (is := [4]) (by kernel_rfl)) (.at 0 rfl rfl) (by kernel_rfl) rfl rfl (by decide) (by decide) rfl fun g330 ng330 => ?_
        refine t_keep [2, 3, 8, 9, 10, 20, 21, 22, 30, 31, 33] (σ' := [(2, .int .i64 i2), (3, .int .i64 n3), (8, .pointer (some ⟨b315, 0, none⟩)), (9, .slice (some ⟨g316, 0, none⟩) 1 1), (10, .slice (some ⟨g317, 0, none⟩) 1 1), (20, .slice (some ⟨N327, 1, none⟩) 1 3), (21, .int .i64 1), (22, .int .i64 0), (30, .slice (some ⟨g330, 0, none⟩) 2 (ng330 / 1)), (31, .slice (some ⟨g317, 0, none⟩) 1 1), (33, .int .i64 t321)]) (by kernel_rfl) ?_
        refine t_end ?_
        exact ⟨hg_ff g330 ng330 g329, rfl⟩
      · show T _ _ _ _ _ _ _ _
        refine t_a (.bsl rfl rfl rfl rfl) fun g331 fg331 sg331 => ?_
        refine t_keep [2, 3, 8, 9, 10, 20, 21, 22, 26, 29, 31, 34] (σ' := [(2, .int .i64 i2), (3, .int .i64 n3), (8, .pointer (some ⟨b315, 0, none⟩)), (9, .slice (some ⟨g316, 0, none⟩) 1 1), (10, .slice (some ⟨g317, 0, none⟩) 1 1), (20, .slice (some ⟨N327, 1, none⟩) 1 3), (21, .int .i64 1), (22, .int .i64 0), (26, .slice (some ⟨g316, 0, none⟩) 1 1), (29, .slice (some ⟨g329, 0, none⟩) 1 1), (31, .slice (some ⟨g317, 0, none⟩) 1 1), (34, .slice (some ⟨g331, 0, none⟩) 1 1)]) (by kernel_rfl) ?_
        refine t_end ?_
        exact ⟨hg_1ef g331 g329, rfl⟩
    have hg_7f : ∀ (g330 : Nat) (ng330 : Nat) (g329 : Nat), G [true, true, true, true, true, true, true, false, false, false, false, false] [(2, .int .i64 i2), (3, .int .i64 n3), (8, .pointer (some ⟨b315, 0, none⟩)), (9, .slice (some ⟨g316, 0, none⟩) 1 1), (10, .slice (some ⟨g317, 0, none⟩) 1 1), (20, .slice (some ⟨N327, 1, none⟩) 1 3), (21, .int .i64 1), (22, .int .i64 0), (30, .slice (some ⟨g330, 0, none⟩) 2 (ng330 / 1)), (31, .slice (some ⟨g317, 0, none⟩) 1 1), (32, .pointer (some ⟨b328, 1, none⟩))] ([⟨g330, [.int .i64 a0_0, .int .i64 t320], ng330⟩, ⟨g329, [.int .i64 t320], 1⟩, ⟨b328, [.int .i64 t320, .int .i64 t321], 2⟩, ⟨N327, [.int .i64 t319, .int .i64 t320, .int .i64 t321, .int .i64 t322, .int .i64 t323, .int .i64 t324, .int .i64 t325], 7⟩, ⟨g317, [.int .i64 a0_1], 1⟩, ⟨b315, [.int .i64 0, .int .i64 0], 2⟩, ⟨b314, [.int .i64 1, .int .i64 s1_1, .int .i64 s1_2, .int .i64 s1_3, .int .i64 s1_4, .int .i64 s1_5, .int .i64 s1_6], 7⟩, ⟨b313, [.int .i64 a0_0, .int .i64 a0_1], 2⟩] : List Own) := by
      intro g330 ng330 g329
      refine hstep [7] _ _ _ (by kernel_rfl) (List.cons_ne_nil _ _) ⟨?_, trivial⟩
      · show T _ _ _ _ _ _ _ _
        refine t_v (.ld1 rfl rfl rfl (.at 2 rfl rfl)) ?_
        refine t_keep [2, 3, 8, 9, 10, 20, 21, 22, 30, 31, 33] (σ' := [(2, .int .i64 i2), (3, .int .i64 n3), (8, .pointer (some ⟨b315, 0, none⟩)), (9, .slice (some ⟨g316, 0, none⟩) 1 1), (10, .slice (some ⟨g317, 0, none⟩) 1 1), (20, .slice (some ⟨N327, 1, none⟩) 1 3), (21, .int .i64 1), (22, .int .i64 0), (30, .slice (some ⟨g330, 0, none⟩) 2 (ng330 / 1)), (31, .slice (some ⟨g317, 0, none⟩) 1 1), (33, .int .i64 t321)]) (by kernel_rfl) ?_
        refine t_end ?_
        exact ⟨hg_ff g330 ng330 g329, rfl⟩
    have hg_1e3 : ∀ (g331 : Nat), G [true, true, false, false, false, true, true, true, true, false, false, false] [(2, .int .i64 i2), (3, .int .i64 n3), (8, .pointer (some ⟨b315, 0, none⟩)), (9, .slice (some ⟨g316, 0, none⟩) 1 1), (10, .slice (some ⟨g317, 0, none⟩) 1 1), (20, .slice (some ⟨N327, 1, none⟩) 1 3), (21, .int .i64 1), (22, .int .i64 0), (26, .slice (some ⟨g316, 0, none⟩) 1 1), (27, .pointer (some ⟨b328, 0, none⟩)), (31, .slice (some ⟨g317, 0, none⟩) 1 1), (34, .slice (some ⟨g331, 0, none⟩) 1 1)] ([⟨g331, [.int .i64 t321], 1⟩, ⟨b328, [.int .i64 t320, .int .i64 t321], 2⟩, ⟨N327, [.int .i64 t319, .int .i64 t320, .int .i64 t321, .int .i64 t322, .int .i64 t323, .int .i64 t324, .int .i64 t325], 7⟩, ⟨g317, [.int .i64 a0_1], 1⟩, ⟨g316, [.int .i64 a0_0], 1⟩, ⟨b315, [.int .i64 0, .int .i64 0], 2⟩, ⟨b314, [.int .i64 1, .int .i64 s1_1, .int .i64 s1_2, .int .i64 s1_3, .int .i64 s1_4, .int .i64 s1_5, .int .i64 s1_6], 7⟩, ⟨b313, [.int .i64 a0_0, .int .i64 a0_1], 2⟩] : List Own) := by
      intro g331
      refine hstep [2] _ _ _ (by kernel_rfl) (List.cons_ne_nil _ _) ⟨?_, trivial⟩
      · show T _ _ _ _ _ _ _ _
        refine t_v (.ld1 rfl rfl rfl (.at 1 rfl rfl)) ?_
        refine t_keep [2, 3, 8, 9, 10, 20, 21, 22, 26, 28, 31, 34] (σ' := [(2, .int .i64 i2), (3, .int .i64 n3), (8, .pointer (some ⟨b315, 0, none⟩)), (9, .slice (some ⟨g316, 0, none⟩) 1 1), (10, .slice (some ⟨g317, 0, none⟩) 1 1), (20, .slice (some ⟨N327, 1, none⟩) 1 3), (21, .int .i64 1), (22, .int .i64 0), (26, .slice (some ⟨g316, 0, none⟩) 1 1), (28, .int .i64 t320), (31, .slice (some ⟨g317, 0, none⟩) 1 1), (34, .slice (some ⟨g331, 0, none⟩) 1 1)]) (by kernel_rfl) ?_
        refine t_end ?_
        exact ⟨hg_1e7 g331, rfl⟩
    have hg_e7 : G [true, true, true, false, false, true, true, true, false, false, false, false] [(2, .int .i64 i2), (3, .int .i64 n3), (8, .pointer (some ⟨b315, 0, none⟩)), (9, .slice (some ⟨g316, 0, none⟩) 1 1), (10, .slice (some ⟨g317, 0, none⟩) 1 1), (20, .slice (some ⟨N327, 1, none⟩) 1 3), (21, .int .i64 1), (22, .int .i64 0), (26, .slice (some ⟨g316, 0, none⟩) 1 1), (28, .int .i64 t320), (31, .slice (some ⟨g317, 0, none⟩) 1 1), (33, .int .i64 t321)] ([⟨b328, [.int .i64 t320, .int .i64 t321], 2⟩, ⟨N327, [.int .i64 t319, .int .i64 t320, .int .i64 t321, .int .i64 t322, .int .i64 t323, .int .i64 t324, .int .i64 t325], 7⟩, ⟨g317, [.int .i64 a0_1], 1⟩, ⟨g316, [.int .i64 a0_0], 1⟩, ⟨b315, [.int .i64 0, .int .i64 0], 2⟩, ⟨b314, [.int .i64 1, .int .i64 s1_1, .int .i64 s1_2, .int .i64 s1_3, .int .i64 s1_4, .int .i64 s1_5, .int .i64 s1_6], 7⟩, ⟨b313, [.int .i64 a0_0, .int .i64 a0_1], 2⟩] : List Own) := by
      refine hstep [3, 8] _ _ _ (by kernel_rfl) (List.cons_ne_nil _ _) ⟨?_, ?_, trivial⟩
      · show T _ _ _ _ _ _ _ _
        refine t_a (.bsl rfl rfl rfl rfl) fun g329 fg329 sg329 => ?_
        refine t_keep [2, 3, 8, 9, 10, 20, 21, 22, 26, 29, 31, 33] (σ' := [(2, .int .i64 i2), (3, .int .i64 n3), (8, .pointer (some ⟨b315, 0, none⟩)), (9, .slice (some ⟨g316, 0, none⟩) 1 1), (10, .slice (some ⟨g317, 0, none⟩) 1 1), (20, .slice (some ⟨N327, 1, none⟩) 1 3), (21, .int .i64 1), (22, .int .i64 0), (26, .slice (some ⟨g316, 0, none⟩) 1 1), (29, .slice (some ⟨g329, 0, none⟩) 1 1), (31, .slice (some ⟨g317, 0, none⟩) 1 1), (33, .int .i64 t321)]) (by kernel_rfl) ?_
        refine t_end ?_
        exact ⟨hg_ef g329, rfl⟩
      · show T _ _ _ _ _ _ _ _
        refine t_a (.bsl rfl rfl rfl rfl) fun g331 fg331 sg331 => ?_
        refine t_keep [2, 3, 8, 9, 10, 20, 21, 22, 26, 28, 31, 34] (σ' := [(2, .int .i64 i2), (3, .int .i64 n3), (8, .pointer (some ⟨b315, 0, none⟩)), (9, .slice (some ⟨g316, 0, none⟩) 1 1), (10, .slice (some ⟨g317, 0, none⟩) 1 1), (20, .slice (some ⟨N327, 1, none⟩) 1 3), (21, .int .i64 1), (22, .int .i64 0), (26, .slice (some ⟨g316, 0, none⟩) 1 1), (28, .int .i64 t320), (31, .slice (some ⟨g317, 0, none⟩) 1 1), (34, .slice (some ⟨g331, 0, none⟩) 1 1)]) (by kernel_rfl) ?_
        refine t_end ?_
        exact ⟨hg_1e7 g331, rfl⟩
    have hg_6f : ∀ (g329 : Nat), G [true, true, true, true, false, true, true, false, false, false, false, false] [(2, .int .i64 i2), (3, .int .i64 n3), (8, .pointer (some ⟨b315, 0, none⟩)), (9, .slice (some ⟨g316, 0, none⟩) 1 1), (10, .slice (some ⟨g317, 0, none⟩) 1 1), (20, .slice (some ⟨N327, 1, none⟩) 1 3), (21, .int .i64 1), (22, .int .i64 0), (26, .slice (some ⟨g316, 0, none⟩) 1 1), (29, .slice (some ⟨g329, 0, none⟩) 1 1), (31, .slice (some ⟨g317, 0, none⟩) 1 1), (32, .pointer (some ⟨b328, 1, none⟩))] ([⟨g329, [.int .i64 t320], 1⟩, ⟨b328, [.int .i64 t320, .int .i64 t321], 2⟩, ⟨N327, [.int .i64 t319, .int .i64 t320, .int .i64 t321, .int .i64 t322, .int .i64 t323, .int .i64 t324, .int .i64 t325], 7⟩, ⟨g317, [.int .i64 a0_1], 1⟩, ⟨g316, [.int .i64 a0_0], 1⟩, ⟨b315, [.int .i64 0, .int .i64 0], 2⟩, ⟨b314, [.int .i64 1, .int .i64 s1_1, .int .i64 s1_2, .int .i64 s1_3, .int .i64 s1_4, .int .i64 s1_5, .int .i64 s1_6], 7⟩, ⟨b313, [.int .i64 a0_0, .int .i64 a0_1], 2⟩] : List Own) := by
      intro g329
      refine hstep [4, 7] _ _ _ (by kernel_rfl) (List.cons_ne_nil _ _) ⟨?_, ?_, trivial⟩
      · show T _ _ _ _ _ _ _ _
        refine t_app1 (cs := [.int .i64 a0_0]) (M := 1) (F := ([⟨g329, [.int .i64 t320], 1⟩, ⟨b328, [.int .i64 t320, .int .i64 t321], 2⟩, ⟨N327, [.int .i64 t319, .int .i64 t320, .int .i64 t321, .int .i64 t322, .int .i64 t323, .int .i64 t324, .int .i64 t325], 7⟩, ⟨g317, [.int .i64 a0_1], 1⟩, ⟨b315, [.int .i64 0, .int .i64 0], 2⟩, ⟨b314, [.int .i64 1, .int .i64 s1_1, .int .i64 s1_2, .int .i64 s1_3, .int .i64 s1_4, .int .i64 s1_5, .int .i64 s1_6], 7⟩, ⟨b313, [.int .i64 a0_0, .int .i64 a0_1], 2⟩] : List Own)) (news := [.int .i64 t320]) rfl rfl rfl rfl (sel_perm (is := [4]) (by kernel_rfl)) (.at 0 rfl rfl) (by kernel_rfl) rfl rfl (by decide) (by decide) rfl fun g330 ng330 => ?_
        refine t_keep [2, 3, 8, 9, 10, 20, 21, 22, 30, 31, 32] (σ' := [(2, .int .i64 i2), (3, .int .i64 n3), (8, .pointer (some ⟨b315, 0, none⟩)), (9, .slice (some ⟨g316, 0, none⟩) 1 1), (10, .slice (some ⟨g317, 0, none⟩) 1 1), (20, .slice (some ⟨N327, 1, none⟩) 1 3), (21, .int .i64 1), (22, .int .i64 0), (30, .slice (some ⟨g330, 0, none⟩) 2 (ng330 / 1)), (31, .slice (some ⟨g317, 0, none⟩) 1 1), (32, .pointer (some ⟨b328, 1, none⟩))]) (by kernel_rfl) ?_
        refine t_end ?_
        exact ⟨hg_7f g330 ng330 g329, rfl⟩
      · show T _ _ _ _ _ _ _ _
        refine t_v (.ld1 rfl rfl rfl (.at 1 rfl rfl)) ?_
        refine t_keep [2, 3, 8, 9, 10, 20, 21, 22, 26, 29, 31, 33] (σ' := [(2, .int .i64 i2), (3, .int .i64 n3), (8, .pointer (some ⟨b315, 0, none⟩)), (9, .slice (some ⟨g316, 0, none⟩) 1 1), (10, .slice (some ⟨g317, 0, none⟩) 1 1), (20, .slice (some ⟨N327, 1, none⟩) 1 3), (21, .int .i64 1), (22, .int .i64 0), (26, .slice (some ⟨g316, 0, none⟩) 1 1), (29, .slice (some ⟨g329, 0, none⟩) 1 1), (31, .slice (some ⟨g317, 0, none⟩) 1 1), (33, .int .i64 t321)]) (by kernel_rfl) ?_
        refine t_end ?_
        exact ⟨hg_ef g329, rfl⟩
    have hg_e3 : G [true, true, false, false, false, true, true, true, false, false, false, false] [(2, .int .i64 i2), (3, .int .i64 n3), (8, .pointer (some ⟨b315, 0, none⟩)), (9, .slice (some ⟨g316, 0, none⟩) 1 1), (10, .slice (some ⟨g317, 0, none⟩) 1 1), (20, .slice (some ⟨N327, 1, none⟩) 1 3), (21, .int .i64 1), (22, .int .i64 0), (26, .slice (some ⟨g316, 0, none⟩) 1 1), (27, .pointer (some ⟨b328, 0, none⟩)), (31, .slice (some ⟨g317, 0, none⟩) 1 1), (33, .int .i64 t321)] ([⟨b328, [.int .i64 t320, .int .i64 t321], 2⟩, ⟨N327, [.int .i64 t319, .int .i64 t320, .int .i64 t321, .int .i64 t322, .int .i64 t323, .int .i64 t324, .int .i64 t325], 7⟩, ⟨g317, [.int .i64 a0_1], 1⟩, ⟨g316, [.int .i64 a0_0], 1⟩, ⟨b315, [.int .i64 0, .int .i64 0], 2⟩, ⟨b314, [.int .i64 1, .int .i64 s1_1, .int .i64 s1_2, .int .i64 s1_3, .int .i64 s1_4, .int .i64 s1_5, .int .i64 s1_6], 7⟩, ⟨b313, [.int .i64 a0_0, .int .i64 a0_1], 2⟩] : List Own) := by
      refine hstep [2, 8] _ _ _ (by kernel_rfl) (List.cons_ne_nil _ _) ⟨?_, ?_, trivial⟩
      · show T _ _ _ _ _ _ _ _
        refine t_v (.ld1 rfl rfl rfl (.at 0 rfl rfl)) ?_
        refine t_keep [2, 3, 8, 9, 10, 20, 21, 22, 26, 28, 31, 33] (σ' := [(2, .int .i64 i2), (3, .int .i64 n3), (8, .pointer (some ⟨b315, 0, none⟩)), (9, .slice (some ⟨g316, 0, none⟩) 1 1), (10, .slice (some ⟨g317, 0, none⟩) 1 1), (20, .slice (some ⟨N327, 1, none⟩) 1 3), (21, .int .i64 1), (22, .int .i64 0), (26, .slice (some ⟨g316, 0, none⟩) 1 1), (28, .int .i64 t320), (31, .slice (some ⟨g317, 0, none⟩) 1 1), (33, .int .i64 t321)]) (by kernel_rfl) ?_
        refine t_end ?_
        exact ⟨hg_e7, rfl⟩
      · show T _ _ _ _ _ _ _ _
        refine t_a (.bsl rfl rfl rfl rfl) fun g331 fg331 sg331 => ?_
        refine t_keep [2, 3, 8, 9, 10, 20, 21, 22, 26, 27, 31, 34] (σ' := [(2, .int .i64 i2), (3, .int .i64 n3), (8, .pointer (some ⟨b315, 0, none⟩)), (9, .slice (some ⟨g316, 0, none⟩) 1 1), (10, .slice (some ⟨g317, 0, none⟩) 1 1), (20, .slice (some ⟨N327, 1, none⟩) 1 3), (21, .int .i64 1), (22, .int .i64 0), (26, .slice (some ⟨g316, 0, none⟩) 1 1), (27, .pointer (some ⟨b328, 0, none⟩)), (31, .slice (some ⟨g317, 0, none⟩) 1 1), (34, .slice (some ⟨g331, 0, none⟩) 1 1)]) (by kernel_rfl) ?_
        refine t_end ?_
        exact ⟨hg_1e3 g331, rfl⟩
    have hg_67 : G [true, true, true, false, false, true, true, false, false, false, false, false] [(2, .int .i64 i2), (3, .int .i64 n3), (8, .pointer (some ⟨b315, 0, none⟩)), (9, .slice (some ⟨g316, 0, none⟩) 1 1), (10, .slice (some ⟨g317, 0, none⟩) 1 1), (20, .slice (some ⟨N327, 1, none⟩) 1 3), (21, .int .i64 1), (22, .int .i64 0), (26, .slice (some ⟨g316, 0, none⟩) 1 1), (28, .int .i64 t320), (31, .slice (some ⟨g317, 0, none⟩) 1 1), (32, .pointer (some ⟨b328, 1, none⟩))] ([⟨b328, [.int .i64 t320, .int .i64 t321], 2⟩, ⟨N327, [.int .i64 t319, .int .i64 t320, .int .i64 t321, .int .i64 t322, .int .i64 t323, .int .i64 t324, .int .i64 t325], 7⟩, ⟨g317, [.int .i64 a0_1], 1⟩, ⟨g316, [.int .i64 a0_0], 1⟩, ⟨b315, [.int .i64 0, .int .i64 0], 2⟩, ⟨b314, [.int .i64 1, .int .i64 s1_1, .int .i64 s1_2, .int .i64 s1_3, .int .i64 s1_4, .int .i64 s1_5, .int .i64 s1_6], 7⟩, ⟨b313, [.int .i64 a0_0, .int .i64 a0_1], 2⟩] : List Own) := by
      refine hstep [3, 7] _ _ _ (by kernel_rfl) (List.cons_ne_nil _ _) ⟨?_, ?_, trivial⟩
      · show T _ _ _ _ _ _ _ _
        refine t_a (.bsl rfl rfl rfl rfl) fun g329 fg329 sg329 => ?_
        refine t_keep [2, 3, 8, 9, 10, 20, 21, 22, 26, 29, 31, 32] (σ' := [(2, .int .i64 i2), (3, .int .i64 n3), (8, .pointer (some ⟨b315, 0, none⟩)), (9, .slice (some ⟨g316, 0, none⟩) 1 1), (10, .slice (some ⟨g317, 0, none⟩) 1 1), (20, .slice (some ⟨N327, 1, none⟩) 1 3), (21, .int .i64 1), (22, .int .i64 0), (26, .slice (some ⟨g316, 0, none⟩) 1 1), (29, .slice (some ⟨g329, 0, none⟩) 1 1), (31, .slice (some ⟨g317, 0, none⟩) 1 1), (32, .pointer (some ⟨b328, 1, none⟩))]) (by kernel_rfl) ?_
        refine t_end ?_
        exact ⟨hg_6f g329, rfl⟩
      · show T _ _ _ _ _ _ _ _
        refine t_v (.ld1 rfl rfl rfl (.at 0 rfl rfl)) ?_
        refine t_keep [2, 3, 8, 9, 10, 20, 21, 22, 26, 28, 31, 33] (σ' := [(2, .int .i64 i2), (3, .int .i64 n3), (8, .pointer (some ⟨b315, 0, none⟩)), (9, .slice (some ⟨g316, 0, none⟩) 1 1), (10, .slice (some ⟨g317, 0, none⟩) 1 1), (20, .slice (some ⟨N327, 1, none⟩) 1 3), (21, .int .i64 1), (22, .int .i64 0), (26, .slice (some ⟨g316, 0, none⟩) 1 1), (28, .int .i64 t320), (31, .slice (some ⟨g317, 0, none⟩) 1 1), (33, .int .i64 t321)]) (by kernel_rfl) ?_
        refine t_end ?_
        exact ⟨hg_e7, rfl⟩
    have hg_63 : G [true, true, false, false, false, true, true, false, false, false, false, false] [(2, .int .i64 i2), (3, .int .i64 n3), (8, .pointer (some ⟨b315, 0, none⟩)), (9, .slice (some ⟨g316, 0, none⟩) 1 1), (10, .slice (some ⟨g317, 0, none⟩) 1 1), (20, .slice (some ⟨N327, 1, none⟩) 1 3), (21, .int .i64 1), (22, .int .i64 0), (26, .slice (some ⟨g316, 0, none⟩) 1 1), (27, .pointer (some ⟨b328, 0, none⟩)), (31, .slice (some ⟨g317, 0, none⟩) 1 1), (32, .pointer (some ⟨b328, 1, none⟩))] ([⟨b328, [.int .i64 t320, .int .i64 t321], 2⟩, ⟨N327, [.int .i64 t319, .int .i64 t320, .int .i64 t321, .int .i64 t322, .int .i64 t323, .int .i64 t324, .int .i64 t325], 7⟩, ⟨g317, [.int .i64 a0_1], 1⟩, ⟨g316, [.int .i64 a0_0], 1⟩, ⟨b315, [.int .i64 0, .int .i64 0], 2⟩, ⟨b314, [.int .i64 1, .int .i64 s1_1, .int .i64 s1_2, .int .i64 s1_3, .int .i64 s1_4, .int .i64 s1_5, .int .i64 s1_6], 7⟩, ⟨b313, [.int .i64 a0_0, .int .i64 a0_1], 2⟩] : List Own) := by
      refine hstep [2, 7] _ _ _ (by kernel_rfl) (List.cons_ne_nil _ _) ⟨?_, ?_, trivial⟩
      · show T _ _ _ _ _ _ _ _
        refine t_v (.ld1 rfl rfl rfl (.at 0 rfl rfl)) ?_
        refine t_keep [2, 3, 8, 9, 10, 20, 21, 22, 26, 28, 31, 32] (σ' := [(2, .int .i64 i2), (3, .int .i64 n3), (8, .pointer (some ⟨b315, 0, none⟩)), (9, .slice (some ⟨g316, 0, none⟩) 1 1), (10, .slice (some ⟨g317, 0, none⟩) 1 1), (20, .slice (some ⟨N327, 1, none⟩) 1 3), (21, .int .i64 1), (22, .int .i64 0), (26, .slice (some ⟨g316, 0, none⟩) 1 1), (28, .int .i64 t320), (31, .slice (some ⟨g317, 0, none⟩) 1 1), (32, .pointer (some ⟨b328, 1, none⟩))]) (by kernel_rfl) ?_
        refine t_end ?_
        exact ⟨hg_67, rfl⟩
      · show T _ _ _ _ _ _ _ _
        refine t_v (.ld1 rfl rfl rfl (.at 0 rfl rfl)) ?_
        refine t_keep [2, 3, 8, 9, 10, 20, 21, 22, 26, 27, 31, 33] (σ' := [(2, .int .i64 i2), (3, .int .i64 n3), (8, .pointer (some ⟨b315, 0, none⟩)), (9, .slice (some ⟨g316, 0, none⟩) 1 1), (10, .slice (some ⟨g317, 0, none⟩) 1 1), (20, .slice (some ⟨N327, 1, none⟩) 1 3), (21, .int .i64 1), (22, .int .i64 0), (26, .slice (some ⟨g316, 0, none⟩) 1 1), (27, .pointer (some ⟨b328, 0, none⟩)), (31, .slice (some ⟨g317, 0, none⟩) 1 1), (33, .int .i64 t321)]) (by kernel_rfl) ?_
        refine t_end ?_
        exact ⟨hg_e3, rfl⟩
    have hg_23 : G [true, true, false, false, false, true, false, false, false, false, false, false] [(2, .int .i64 i2), (3, .int .i64 n3), (8, .pointer (some ⟨b315, 0, none⟩)), (9, .slice (some ⟨g316, 0, none⟩) 1 1), (10, .slice (some ⟨g317, 0, none⟩) 1 1), (12, .pointer (some ⟨b328, 0, none⟩)), (20, .slice (some ⟨N327, 1, none⟩) 1 3), (21, .int .i64 1), (22, .int .i64 0), (26, .slice (some ⟨g316, 0, none⟩) 1 1), (27, .pointer (some ⟨b328, 0, none⟩)), (31, .slice (some ⟨g317, 0, none⟩) 1 1)] ([⟨b328, [.int .i64 t320, .int .i64 t321], 2⟩, ⟨N327, [.int .i64 t319, .int .i64 t320, .int .i64 t321, .int .i64 t322, .int .i64 t323, .int .i64 t324, .int .i64 t325], 7⟩, ⟨g317, [.int .i64 a0_1], 1⟩, ⟨g316, [.int .i64 a0_0], 1⟩, ⟨b315, [.int .i64 0, .int .i64 0], 2⟩, ⟨b314, [.int .i64 1, .int .i64 s1_1, .int .i64 s1_2, .int .i64 s1_3, .int .i64 s1_4, .int .i64 s1_5, .int .i64 s1_6], 7⟩, ⟨b313, [.int .i64 a0_0, .int .i64 a0_1], 2⟩] : List Own) := by
      exact hqf 6 [2, 3, 8, 9, 10, 20, 21, 22, 26, 27, 31, 32] _ _ _ [(2, .int .i64 i2), (3, .int .i64 n3), (8, .pointer (some ⟨b315, 0, none⟩)), (9, .slice (some ⟨g316, 0, none⟩) 1 1), (10, .slice (some ⟨g317, 0, none⟩) 1 1), (20, .slice (some ⟨N327, 1, none⟩) 1 3), (21, .int .i64 1), (22, .int .i64 0), (26, .slice (some ⟨g316, 0, none⟩) 1 1), (27, .pointer (some ⟨b328, 0, none⟩)), (31, .slice (some ⟨g317, 0, none⟩) 1 1), (32, .pointer (some ⟨b328, 1, none⟩))] (by kernel_rfl) (by kernel_rfl) hg_63
    have hg_3 : G [true, true, false, false, false, false, false, false, false, false, false, false] [(2, .int .i64 i2), (3, .int .i64 n3), (8, .pointer (some ⟨b315, 0, none⟩)), (9, .slice (some ⟨g316, 0, none⟩) 1 1), (10, .slice (some ⟨g317, 0, none⟩) 1 1), (12, .pointer (some ⟨b328, 0, none⟩)), (20, .slice (some ⟨N327, 1, none⟩) 1 3), (21, .int .i64 1), (22, .int .i64 0), (26, .slice (some ⟨g316, 0, none⟩) 1 1), (27, .pointer (some ⟨b328, 0, none⟩))] ([⟨b328, [.int .i64 t320, .int .i64 t321], 2⟩, ⟨N327, [.int .i64 t319, .int .i64 t320, .int .i64 t321, .int .i64 t322, .int .i64 t323, .int .i64 t324, .int .i64 t325], 7⟩, ⟨g317, [.int .i64 a0_1], 1⟩, ⟨g316, [.int .i64 a0_0], 1⟩, ⟨b315, [.int .i64 0, .int .i64 0], 2⟩, ⟨b314, [.int .i64 1, .int .i64 s1_1, .int .i64 s1_2, .int .i64 s1_3, .int .i64 s1_4, .int .i64 s1_5, .int .i64 s1_6], 7⟩, ⟨b313, [.int .i64 a0_0, .int .i64 a0_1], 2⟩] : List Own) := by
      exact hqf 5 [2, 3, 8, 9, 10, 12, 20, 21, 22, 26, 27, 31] _ _ _ [(2, .int .i64 i2), (3, .int .i64 n3), (8, .pointer (some ⟨b315, 0, none⟩)), (9, .slice (some ⟨g316, 0, none⟩) 1 1), (10, .slice (some ⟨g317, 0, none⟩) 1 1), (12, .pointer (some ⟨b328, 0, none⟩)), (20, .slice (some ⟨N327, 1, none⟩) 1 3), (21, .int .i64 1), (22, .int .i64 0), (26, .slice (some ⟨g316, 0, none⟩) 1 1), (27, .pointer (some ⟨b328, 0, none⟩)), (31, .slice (some ⟨g317, 0, none⟩) 1 1)] (by kernel_rfl) (by kernel_rfl) hg_23
    have hg_1 : G [true, false, false, false, false, false, false, false, false, false, false, false] [(2, .int .i64 i2), (3, .int .i64 n3), (8, .pointer (some ⟨b315, 0, none⟩)), (9, .slice (some ⟨g316, 0, none⟩) 1 1), (10, .slice (some ⟨g317, 0, none⟩) 1 1), (12, .pointer (some ⟨b328, 0, none⟩)), (20, .slice (some ⟨N327, 1, none⟩) 1 3), (21, .int .i64 1), (22, .int .i64 0), (26, .slice (some ⟨g316, 0, none⟩) 1 1)] ([⟨b328, [.int .i64 t320, .int .i64 t321], 2⟩, ⟨N327, [.int .i64 t319, .int .i64 t320, .int .i64 t321, .int .i64 t322, .int .i64 t323, .int .i64 t324, .int .i64 t325], 7⟩, ⟨g317, [.int .i64 a0_1], 1⟩, ⟨g316, [.int .i64 a0_0], 1⟩, ⟨b315, [.int .i64 0, .int .i64 0], 2⟩, ⟨b314, [.int .i64 1, .int .i64 s1_1, .int .i64 s1_2, .int .i64 s1_3, .int .i64 s1_4, .int .i64 s1_5, .int .i64 s1_6], 7⟩, ⟨b313, [.int .i64 a0_0, .int .i64 a0_1], 2⟩] : List Own) := by
      exact hqf 1 [2, 3, 8, 9, 10, 12, 20, 21, 22, 26, 27] _ _ _ [(2, .int .i64 i2), (3, .int .i64 n3), (8, .pointer (some ⟨b315, 0, none⟩)), (9, .slice (some ⟨g316, 0, none⟩) 1 1), (10, .slice (some ⟨g317, 0, none⟩) 1 1), (12, .pointer (some ⟨b328, 0, none⟩)), (20, .slice (some ⟨N327, 1, none⟩) 1 3), (21, .int .i64 1), (22, .int .i64 0), (26, .slice (some ⟨g316, 0, none⟩) 1 1), (27, .pointer (some ⟨b328, 0, none⟩))] (by kernel_rfl) (by kernel_rfl) hg_3
    have hg_0 : G [false, false, false, false, false, false, false, false, false, false, false, false] [(2, .int .i64 i2), (3, .int .i64 n3), (8, .pointer (some ⟨b315, 0, none⟩)), (9, .slice (some ⟨g316, 0, none⟩) 1 1), (10, .slice (some ⟨g317, 0, none⟩) 1 1), (12, .pointer (some ⟨b328, 0, none⟩)), (20, .slice (some ⟨N327, 1, none⟩) 1 3), (21, .int .i64 1), (22, .int .i64 0)] ([⟨b328, [.int .i64 t320, .int .i64 t321], 2⟩, ⟨N327, [.int .i64 t319, .int .i64 t320, .int .i64 t321, .int .i64 t322, .int .i64 t323, .int .i64 t324, .int .i64 t325], 7⟩, ⟨g317, [.int .i64 a0_1], 1⟩, ⟨g316, [.int .i64 a0_0], 1⟩, ⟨b315, [.int .i64 0, .int .i64 0], 2⟩, ⟨b314, [.int .i64 1, .int .i64 s1_1, .int .i64 s1_2, .int .i64 s1_3, .int .i64 s1_4, .int .i64 s1_5, .int .i64 s1_6], 7⟩, ⟨b313, [.int .i64 a0_0, .int .i64 a0_1], 2⟩] : List Own) := by
      exact hqf 0 [2, 3, 8, 9, 10, 12, 20, 21, 22, 26] _ _ _ [(2, .int .i64 i2), (3, .int .i64 n3), (8, .pointer (some ⟨b315, 0, none⟩)), (9, .slice (some ⟨g316, 0, none⟩) 1 1), (10, .slice (some ⟨g317, 0, none⟩) 1 1), (12, .pointer (some ⟨b328, 0, none⟩)), (20, .slice (some ⟨N327, 1, none⟩) 1 3), (21, .int .i64 1), (22, .int .i64 0), (26, .slice (some ⟨g316, 0, none⟩) 1 1)] (by kernel_rfl) (by kernel_rfl) hg_1
    exact hg_0
  have hg_7f : ∀ (g317 : Nat) (g316 : Nat), G [true, true, true, true, true, true, true, false] [(2, .int .i64 i2), (3, .int .i64 n3), (5, .pointer (some ⟨b314, 0, none⟩)), (8, .pointer (some ⟨b315, 0, none⟩)), (9, .slice (some ⟨g316, 0, none⟩) 1 1), (18, .slice (some ⟨g317, 0, none⟩) 1 1)] ([⟨g317, [.int .i64 a0_1], 1⟩, ⟨g316, [.int .i64 a0_0], 1⟩, ⟨b315, [.int .i64 0, .int .i64 0], 2⟩, ⟨b314, [.int .i64 1, .int .i64 s1_1, .int .i64 s1_2, .int .i64 s1_3, .int .i64 s1_4, .int .i64 s1_5, .int .i64 s1_6], 7⟩, ⟨b313, [.int .i64 a0_0, .int .i64 a0_1], 2⟩] : List Own) := by
    intro g317 g316
    exact hqf 7 [2, 3, 5, 8, 9, 10] _ _ _ [(2, .int .i64 i2), (3, .int .i64 n3), (5, .pointer (some ⟨b314, 0, none⟩)), (8, .pointer (some ⟨b315, 0, none⟩)), (9, .slice (some ⟨g316, 0, none⟩) 1 1), (10, .slice (some ⟨g317, 0, none⟩) 1 1)] (by kernel_rfl) (by kernel_rfl) (hg_ff g317 g316)
  have hg_3f : ∀ (g317 : Nat) (g316 : Nat), G [true, true, true, true, true, true, false, false] [(2, .int .i64 i2), (3, .int .i64 n3), (5, .pointer (some ⟨b314, 0, none⟩)), (8, .pointer (some ⟨b315, 0, none⟩)), (15, .slice (some ⟨g316, 0, none⟩) 1 1), (18, .slice (some ⟨g317, 0, none⟩) 1 1)] ([⟨g317, [.int .i64 a0_1], 1⟩, ⟨g316, [.int .i64 a0_0], 1⟩, ⟨b315, [.int .i64 0, .int .i64 0], 2⟩, ⟨b314, [.int .i64 1, .int .i64 s1_1, .int .i64 s1_2, .int .i64 s1_3, .int .i64 s1_4, .int .i64 s1_5, .int .i64 s1_6], 7⟩, ⟨b313, [.int .i64 a0_0, .int .i64 a0_1], 2⟩] : List Own) := by
    intro g317 g316
    exact hqf 6 [2, 3, 5, 8, 9, 18] _ _ _ [(2, .int .i64 i2), (3, .int .i64 n3), (5, .pointer (some ⟨b314, 0, none⟩)), (8, .pointer (some ⟨b315, 0, none⟩)), (9, .slice (some ⟨g316, 0, none⟩) 1 1), (18, .slice (some ⟨g317, 0, none⟩) 1 1)] (by kernel_rfl) (by kernel_rfl) (hg_7f g317 g316)
  have hg_5f : ∀ (g316 : Nat), G [true, true, true, true, true, false, true, false] [(2, .int .i64 i2), (3, .int .i64 n3), (5, .pointer (some ⟨b314, 0, none⟩)), (8, .pointer (some ⟨b315, 0, none⟩)), (9, .slice (some ⟨g316, 0, none⟩) 1 1), (17, .int .i64 a0_1)] ([⟨g316, [.int .i64 a0_0], 1⟩, ⟨b315, [.int .i64 0, .int .i64 0], 2⟩, ⟨b314, [.int .i64 1, .int .i64 s1_1, .int .i64 s1_2, .int .i64 s1_3, .int .i64 s1_4, .int .i64 s1_5, .int .i64 s1_6], 7⟩, ⟨b313, [.int .i64 a0_0, .int .i64 a0_1], 2⟩] : List Own) := by
    intro g316
    refine hstep [5] _ _ _ (by kernel_rfl) (List.cons_ne_nil _ _) ⟨?_, trivial⟩
    · show T _ _ _ _ _ _ _ _
      refine t_a (.bsl rfl rfl rfl rfl) fun g317 fg317 sg317 => ?_
      refine t_keep [2, 3, 5, 8, 9, 18] (σ' := [(2, .int .i64 i2), (3, .int .i64 n3), (5, .pointer (some ⟨b314, 0, none⟩)), (8, .pointer (some ⟨b315, 0, none⟩)), (9, .slice (some ⟨g316, 0, none⟩) 1 1), (18, .slice (some ⟨g317, 0, none⟩) 1 1)]) (by kernel_rfl) ?_
      refine t_end ?_
      exact ⟨hg_7f g317 g316, rfl⟩
  have hg_3b : ∀ (g317 : Nat), G [true, true, false, true, true, true, false, false] [(2, .int .i64 i2), (3, .int .i64 n3), (5, .pointer (some ⟨b314, 0, none⟩)), (8, .pointer (some ⟨b315, 0, none⟩)), (14, .int .i64 a0_0), (18, .slice (some ⟨g317, 0, none⟩) 1 1)] ([⟨g317, [.int .i64 a0_1], 1⟩, ⟨b315, [.int .i64 0, .int .i64 0], 2⟩, ⟨b314, [.int .i64 1, .int .i64 s1_1, .int .i64 s1_2, .int .i64 s1_3, .int .i64 s1_4, .int .i64 s1_5, .int .i64 s1_6], 7⟩, ⟨b313, [.int .i64 a0_0, .int .i64 a0_1], 2⟩] : List Own) := by
    intro g317
    refine hstep [2] _ _ _ (by kernel_rfl) (List.cons_ne_nil _ _) ⟨?_, trivial⟩
    · show T _ _ _ _ _ _ _ _
      refine t_a (.bsl rfl rfl rfl rfl) fun g316 fg316 sg316 => ?_
      refine t_keep [2, 3, 5, 8, 15, 18] (σ' := [(2, .int .i64 i2), (3, .int .i64 n3), (5, .pointer (some ⟨b314, 0, none⟩)), (8, .pointer (some ⟨b315, 0, none⟩)), (15, .slice (some ⟨g316, 0, none⟩) 1 1), (18, .slice (some ⟨g317, 0, none⟩) 1 1)]) (by kernel_rfl) ?_
      refine t_vs (H' := ([⟨g317, [.int .i64 a0_1], 1⟩, ⟨g316, [.int .i64 a0_0], 1⟩, ⟨b315, [.int .i64 0, .int .i64 0], 2⟩, ⟨b314, [.int .i64 1, .int .i64 s1_1, .int .i64 s1_2, .int .i64 s1_3, .int .i64 s1_4, .int .i64 s1_5, .int .i64 s1_6], 7⟩, ⟨b313, [.int .i64 a0_0, .int .i64 a0_1], 2⟩] : List Own)) (S' := S) (VS.sel [1, 0, 0, 0, 0] (by kernel_rfl)) ?_
      refine t_end ?_
      exact ⟨hg_3f g317 g316, rfl⟩
  have hg_1f : ∀ (g316 : Nat), G [true, true, true, true, true, false, false, false] [(2, .int .i64 i2), (3, .int .i64 n3), (5, .pointer (some ⟨b314, 0, none⟩)), (8, .pointer (some ⟨b315, 0, none⟩)), (15, .slice (some ⟨g316, 0, none⟩) 1 1), (17, .int .i64 a0_1)] ([⟨g316, [.int .i64 a0_0], 1⟩, ⟨b315, [.int .i64 0, .int .i64 0], 2⟩, ⟨b314, [.int .i64 1, .int .i64 s1_1, .int .i64 s1_2, .int .i64 s1_3, .int .i64 s1_4, .int .i64 s1_5, .int .i64 s1_6], 7⟩, ⟨b313, [.int .i64 a0_0, .int .i64 a0_1], 2⟩] : List Own) := by
    intro g316
    exact hqf 6 [2, 3, 5, 8, 9, 17] _ _ _ [(2, .int .i64 i2), (3, .int .i64 n3), (5, .pointer (some ⟨b314, 0, none⟩)), (8, .pointer (some ⟨b315, 0, none⟩)), (9, .slice (some ⟨g316, 0, none⟩) 1 1), (17, .int .i64 a0_1)] (by kernel_rfl) (by kernel_rfl) (hg_5f g316)
  have hg_4f : ∀ (g316 : Nat), G [true, true, true, true, false, false, true, false] [(2, .int .i64 i2), (3, .int .i64 n3), (5, .pointer (some ⟨b314, 0, none⟩)), (8, .pointer (some ⟨b315, 0, none⟩)), (9, .slice (some ⟨g316, 0, none⟩) 1 1), (16, .pointer (some ⟨b313, 1, none⟩))] ([⟨g316, [.int .i64 a0_0], 1⟩, ⟨b315, [.int .i64 0, .int .i64 0], 2⟩, ⟨b314, [.int .i64 1, .int .i64 s1_1, .int .i64 s1_2, .int .i64 s1_3, .int .i64 s1_4, .int .i64 s1_5, .int .i64 s1_6], 7⟩, ⟨b313, [.int .i64 a0_0, .int .i64 a0_1], 2⟩] : List Own) := by
    intro g316
    refine hstep [4] _ _ _ (by kernel_rfl) (List.cons_ne_nil _ _) ⟨?_, trivial⟩
    · show T _ _ _ _ _ _ _ _
      refine t_v (.ld1 rfl rfl rfl (.at 3 rfl rfl)) ?_
      refine t_keep [2, 3, 5, 8, 9, 17] (σ' := [(2, .int .i64 i2), (3, .int .i64 n3), (5, .pointer (some ⟨b314, 0, none⟩)), (8, .pointer (some ⟨b315, 0, none⟩)), (9, .slice (some ⟨g316, 0, none⟩) 1 1), (17, .int .i64 a0_1)]) (by kernel_rfl) ?_
      refine t_end ?_
      exact ⟨hg_5f g316, rfl⟩
  have hg_f : ∀ (g316 : Nat), G [true, true, true, true, false, false, false, false] [(2, .int .i64 i2), (3, .int .i64 n3), (5, .pointer (some ⟨b314, 0, none⟩)), (8, .pointer (some ⟨b315, 0, none⟩)), (15, .slice (some ⟨g316, 0, none⟩) 1 1), (16, .pointer (some ⟨b313, 1, none⟩))] ([⟨g316, [.int .i64 a0_0], 1⟩, ⟨b315, [.int .i64 0, .int .i64 0], 2⟩, ⟨b314, [.int .i64 1, .int .i64 s1_1, .int .i64 s1_2, .int .i64 s1_3, .int .i64 s1_4, .int .i64 s1_5, .int .i64 s1_6], 7⟩, ⟨b313, [.int .i64 a0_0, .int .i64 a0_1], 2⟩] : List Own) := by
    intro g316
    exact hqf 6 [2, 3, 5, 8, 9, 16] _ _ _ [(2, .int .i64 i2), (3, .int .i64 n3), (5, .pointer (some ⟨b314, 0, none⟩)), (8, .pointer (some ⟨b315, 0, none⟩)), (9, .slice (some ⟨g316, 0, none⟩) 1 1), (16, .pointer (some ⟨b313, 1, none⟩))] (by kernel_rfl) (by kernel_rfl) (hg_4f g316)
  have hg_1b : G [true, true, false, true, true, false, false, false] [(2, .int .i64 i2), (3, .int .i64 n3), (5, .pointer (some ⟨b314, 0, none⟩)), (8, .pointer (some ⟨b315, 0, none⟩)), (14, .int .i64 a0_0), (17, .int .i64 a0_1)] ([⟨b315, [.int .i64 0, .int .i64 0], 2⟩, ⟨b314, [.int .i64 1, .int .i64 s1_1, .int .i64 s1_2, .int .i64 s1_3, .int .i64 s1_4, .int .i64 s1_5, .int .i64 s1_6], 7⟩, ⟨b313, [.int .i64 a0_0, .int .i64 a0_1], 2⟩] : List Own) := by
    refine hstep [2, 5] _ _ _ (by kernel_rfl) (List.cons_ne_nil _ _) ⟨?_, ?_, trivial⟩
    · show T _ _ _ _ _ _ _ _
      refine t_a (.bsl rfl rfl rfl rfl) fun g316 fg316 sg316 => ?_
      refine t_keep [2, 3, 5, 8, 15, 17] (σ' := [(2, .int .i64 i2), (3, .int .i64 n3), (5, .pointer (some ⟨b314, 0, none⟩)), (8, .pointer (some ⟨b315, 0, none⟩)), (15, .slice (some ⟨g316, 0, none⟩) 1 1), (17, .int .i64 a0_1)]) (by kernel_rfl) ?_
      refine t_end ?_
      exact ⟨hg_1f g316, rfl⟩
    · show T _ _ _ _ _ _ _ _
      refine t_a (.bsl rfl rfl rfl rfl) fun g317 fg317 sg317 => ?_
      refine t_keep [2, 3, 5, 8, 14, 18] (σ' := [(2, .int .i64 i2), (3, .int .i64 n3), (5, .pointer (some ⟨b314, 0, none⟩)), (8, .pointer (some ⟨b315, 0, none⟩)), (14, .int .i64 a0_0), (18, .slice (some ⟨g317, 0, none⟩) 1 1)]) (by kernel_rfl) ?_
      refine t_end ?_
      exact ⟨hg_3b g317, rfl⟩
  have hg_39 : ∀ (g317 : Nat), G [true, false, false, true, true, true, false, false] [(2, .int .i64 i2), (3, .int .i64 n3), (5, .pointer (some ⟨b314, 0, none⟩)), (8, .pointer (some ⟨b315, 0, none⟩)), (13, .pointer (some ⟨b313, 0, none⟩)), (18, .slice (some ⟨g317, 0, none⟩) 1 1)] ([⟨g317, [.int .i64 a0_1], 1⟩, ⟨b315, [.int .i64 0, .int .i64 0], 2⟩, ⟨b314, [.int .i64 1, .int .i64 s1_1, .int .i64 s1_2, .int .i64 s1_3, .int .i64 s1_4, .int .i64 s1_5, .int .i64 s1_6], 7⟩, ⟨b313, [.int .i64 a0_0, .int .i64 a0_1], 2⟩] : List Own) := by
    intro g317
    refine hstep [1] _ _ _ (by kernel_rfl) (List.cons_ne_nil _ _) ⟨?_, trivial⟩
    · show T _ _ _ _ _ _ _ _
      refine t_v (.ld1 rfl rfl rfl (.at 3 rfl rfl)) ?_
      refine t_keep [2, 3, 5, 8, 14, 18] (σ' := [(2, .int .i64 i2), (3, .int .i64 n3), (5, .pointer (some ⟨b314, 0, none⟩)), (8, .pointer (some ⟨b315, 0, none⟩)), (14, .int .i64 a0_0), (18, .slice (some ⟨g317, 0, none⟩) 1 1)]) (by kernel_rfl) ?_
      refine t_end ?_
      exact ⟨hg_3b g317, rfl⟩
  have hg_b : G [true, true, false, true, false, false, false, false] [(2, .int .i64 i2), (3, .int .i64 n3), (5, .pointer (some ⟨b314, 0, none⟩)), (8, .pointer (some ⟨b315, 0, none⟩)), (14, .int .i64 a0_0), (16, .pointer (some ⟨b313, 1, none⟩))] ([⟨b315, [.int .i64 0, .int .i64 0], 2⟩, ⟨b314, [.int .i64 1, .int .i64 s1_1, .int .i64 s1_2, .int .i64 s1_3, .int .i64 s1_4, .int .i64 s1_5, .int .i64 s1_6], 7⟩, ⟨b313, [.int .i64 a0_0, .int .i64 a0_1], 2⟩] : List Own) := by
    refine hstep [2, 4] _ _ _ (by kernel_rfl) (List.cons_ne_nil _ _) ⟨?_, ?_, trivial⟩
    · show T _ _ _ _ _ _ _ _
      refine t_a (.bsl rfl rfl rfl rfl) fun g316 fg316 sg316 => ?_
      refine t_keep [2, 3, 5, 8, 15, 16] (σ' := [(2, .int .i64 i2), (3, .int .i64 n3), (5, .pointer (some ⟨b314, 0, none⟩)), (8, .pointer (some ⟨b315, 0, none⟩)), (15, .slice (some ⟨g316, 0, none⟩) 1 1), (16, .pointer (some ⟨b313, 1, none⟩))]) (by kernel_rfl) ?_
      refine t_end ?_
      exact ⟨hg_f g316, rfl⟩
    · show T _ _ _ _ _ _ _ _
      refine t_v (.ld1 rfl rfl rfl (.at 2 rfl rfl)) ?_
      refine t_keep [2, 3, 5, 8, 14, 17] (σ' := [(2, .int .i64 i2), (3, .int .i64 n3), (5, .pointer (some ⟨b314, 0, none⟩)), (8, .pointer (some ⟨b315, 0, none⟩)), (14, .int .i64 a0_0), (17, .int .i64 a0_1)]) (by kernel_rfl) ?_
      refine t_end ?_
      exact ⟨hg_1b, rfl⟩
  have hg_19 : G [true, false, false, true, true, false, false, false] [(2, .int .i64 i2), (3, .int .i64 n3), (5, .pointer (some ⟨b314, 0, none⟩)), (8, .pointer (some ⟨b315, 0, none⟩)), (13, .pointer (some ⟨b313, 0, none⟩)), (17, .int .i64 a0_1)] ([⟨b315, [.int .i64 0, .int .i64 0], 2⟩, ⟨b314, [.int .i64 1, .int .i64 s1_1, .int .i64 s1_2, .int .i64 s1_3, .int .i64 s1_4, .int .i64 s1_5, .int .i64 s1_6], 7⟩, ⟨b313, [.int .i64 a0_0, .int .i64 a0_1], 2⟩] : List Own) := by
    refine hstep [1, 5] _ _ _ (by kernel_rfl) (List.cons_ne_nil _ _) ⟨?_, ?_, trivial⟩
    · show T _ _ _ _ _ _ _ _
      refine t_v (.ld1 rfl rfl rfl (.at 2 rfl rfl)) ?_
      refine t_keep [2, 3, 5, 8, 14, 17] (σ' := [(2, .int .i64 i2), (3, .int .i64 n3), (5, .pointer (some ⟨b314, 0, none⟩)), (8, .pointer (some ⟨b315, 0, none⟩)), (14, .int .i64 a0_0), (17, .int .i64 a0_1)]) (by kernel_rfl) ?_
      refine t_end ?_
      exact ⟨hg_1b, rfl⟩
    · show T _ _ _ _ _ _ _ _
      refine t_a (.bsl rfl rfl rfl rfl) fun g317 fg317 sg317 => ?_
      refine t_keep [2, 3, 5, 8, 13, 18] (σ' := [(2, .int .i64 i2), (3, .int .i64 n3), (5, .pointer (some ⟨b314, 0, none⟩)), (8, .pointer (some ⟨b315, 0, none⟩)), (13, .pointer (some ⟨b313, 0, none⟩)), (18, .slice (some ⟨g317, 0, none⟩) 1 1)]) (by kernel_rfl) ?_
      refine t_end ?_
      exact ⟨hg_39 g317, rfl⟩
  have hg_9 : G [true, false, false, true, false, false, false, false] [(2, .int .i64 i2), (3, .int .i64 n3), (5, .pointer (some ⟨b314, 0, none⟩)), (8, .pointer (some ⟨b315, 0, none⟩)), (13, .pointer (some ⟨b313, 0, none⟩)), (16, .pointer (some ⟨b313, 1, none⟩))] ([⟨b315, [.int .i64 0, .int .i64 0], 2⟩, ⟨b314, [.int .i64 1, .int .i64 s1_1, .int .i64 s1_2, .int .i64 s1_3, .int .i64 s1_4, .int .i64 s1_5, .int .i64 s1_6], 7⟩, ⟨b313, [.int .i64 a0_0, .int .i64 a0_1], 2⟩] : List Own) := by
    refine hstep [1, 4] _ _ _ (by kernel_rfl) (List.cons_ne_nil _ _) ⟨?_, ?_, trivial⟩
    · show T _ _ _ _ _ _ _ _
      refine t_v (.ld1 rfl rfl rfl (.at 2 rfl rfl)) ?_
      refine t_keep [2, 3, 5, 8, 14, 16] (σ' := [(2, .int .i64 i2), (3, .int .i64 n3), (5, .pointer (some ⟨b314, 0, none⟩)), (8, .pointer (some ⟨b315, 0, none⟩)), (14, .int .i64 a0_0), (16, .pointer (some ⟨b313, 1, none⟩))]) (by kernel_rfl) ?_
      refine t_end ?_
      exact ⟨hg_b, rfl⟩
    · show T _ _ _ _ _ _ _ _
      refine t_v (.ld1 rfl rfl rfl (.at 2 rfl rfl)) ?_
      refine t_keep [2, 3, 5, 8, 13, 17] (σ' := [(2, .int .i64 i2), (3, .int .i64 n3), (5, .pointer (some ⟨b314, 0, none⟩)), (8, .pointer (some ⟨b315, 0, none⟩)), (13, .pointer (some ⟨b313, 0, none⟩)), (17, .int .i64 a0_1)]) (by kernel_rfl) ?_
      refine t_end ?_
      exact ⟨hg_19, rfl⟩
  have hg_1 : G [true, false, false, false, false, false, false, false] [(2, .int .i64 i2), (3, .int .i64 n3), (4, .pointer (some ⟨b313, 0, none⟩)), (5, .pointer (some ⟨b314, 0, none⟩)), (8, .pointer (some ⟨b315, 0, none⟩)), (13, .pointer (some ⟨b313, 0, none⟩))] ([⟨b315, [.int .i64 0, .int .i64 0], 2⟩, ⟨b314, [.int .i64 1, .int .i64 s1_1, .int .i64 s1_2, .int .i64 s1_3, .int .i64 s1_4, .int .i64 s1_5, .int .i64 s1_6], 7⟩, ⟨b313, [.int .i64 a0_0, .int .i64 a0_1], 2⟩] : List Own) := by
    exact hqf 3 [2, 3, 5, 8, 13, 16] _ _ _ [(2, .int .i64 i2), (3, .int .i64 n3), (5, .pointer (some ⟨b314, 0, none⟩)), (8, .pointer (some ⟨b315, 0, none⟩)), (13, .pointer (some ⟨b313, 0, none⟩)), (16, .pointer (some ⟨b313, 1, none⟩))] (by kernel_rfl) (by kernel_rfl) hg_9
  have hg_0 : G [false, false, false, false, false, false, false, false] [(2, .int .i64 i2), (3, .int .i64 n3), (4, .pointer (some ⟨b313, 0, none⟩)), (5, .pointer (some ⟨b314, 0, none⟩)), (8, .pointer (some ⟨b315, 0, none⟩))] ([⟨b315, [.int .i64 0, .int .i64 0], 2⟩, ⟨b314, [.int .i64 1, .int .i64 s1_1, .int .i64 s1_2, .int .i64 s1_3, .int .i64 s1_4, .int .i64 s1_5, .int .i64 s1_6], 7⟩, ⟨b313, [.int .i64 a0_0, .int .i64 a0_1], 2⟩] : List Own) := by
    exact hqf 0 [2, 3, 4, 5, 8, 13] _ _ _ [(2, .int .i64 i2), (3, .int .i64 n3), (4, .pointer (some ⟨b313, 0, none⟩)), (5, .pointer (some ⟨b314, 0, none⟩)), (8, .pointer (some ⟨b315, 0, none⟩)), (13, .pointer (some ⟨b313, 0, none⟩))] (by kernel_rfl) (by kernel_rfl) hg_1
  exact hg_0

def flatten_Path_1_v2.f (to0_0 : Int) (to0_1 : Int) (m0_0 : Int) (m0_1 : Int) (m2_L : List (Int × Int × Int × Int)) : Option (List (Int × Int × Int × Int) × Int × Int) := if ((m0_0 == to0_0) && (m0_1 == to0_1)) = true then (some (m2_L, to0_0, to0_1)) else ((lapp m2_L ([(m0_0, m0_1, to0_0, to0_1)] : List (Int × Int × Int × Int))).bind fun y327 => (some (y327, to0_0, to0_1)))
theorem flatten_Path_1_v2.ok {S : Seal} {B0 : Nat} {B1 : Nat} {B2 : Option Nat} {nB2 : Nat} {to0_0 : Int} {to0_1 : Int} {m0_0 : Int} {m0_1 : Int} {m2_L : List (Int × Int × Int × Int)} {r0_ : List (Int × Int × Int × Int)} {r1_ : Int} {r2_ : Int}(e : flatten_Path_1_v2.f to0_0 to0_1 m0_0 m0_1 m2_L = some (r0_, r1_, r2_)) :
    Cal Try.prog 67 [.agg #[.int .i64 to0_0, .int .i64 to0_1], .pointer (some ⟨B0, 0, none⟩), .pointer (some ⟨B1, 0, none⟩)] ([⟨B0, [.int .i64 m0_0, .int .i64 m0_1], 2⟩, ⟨B1, [.slice (ad B2) m2_L.length (nB2 / 4)], 1⟩, ⟨B2, encL E_i644 m2_L, nB2⟩] : List Own) S fun v H' S' => ∃ (N0_ : Option Nat) (nN0_ : Nat) , v = .tuple #[] ∧ H' = ([⟨N0_, encL E_i644 r0_, nN0_⟩, ⟨B0, [.int .i64 r1_, .int .i64 r2_], 2⟩, ⟨B1, [.slice (ad N0_) r0_.length (nN0_ / 4)], 1⟩] : List Own) ∧ S' = S := by
  unfold flatten_Path_1_v2.f at e
  refine cal_of (c := c67) (N := 14) Try.func67 rfl rfl (by kernel_rfl) (rs := []) (by kernel_rfl) (Nat.le_of_ble_eq_true rfl) ?_
  unfold c67
  refine w_seq ?_
  refine w_reg fun all => ?_
  refine t_a (.box rfl rfl rfl) fun b324 fb324 sb324 => ?_
  refine t_keep [1, 2, 3] (σ' := [(1, .pointer (some ⟨B0, 0, none⟩)), (2, .pointer (some ⟨B1, 0, none⟩)), (3, .pointer (some ⟨b324, 0, none⟩))]) (by kernel_rfl) ?_
  refine t_end ?_
  show W _ _ _ _ _ _ _
  refine w_seq ?_
  refine w_seq ?_
  refine w_reg fun all => ?_
  refine t_v (.ldn rfl rfl rfl (.at 1 rfl rfl)) ?_
  refine t_v (.ldn rfl rfl rfl (.at 0 rfl rfl)) ?_
  by_cases c325 : ((m0_0 == to0_0) && (m0_1 == to0_1)) = true
  · rw [if_pos c325] at e
    have c325b : ((m0_0 == to0_0) && (m0_1 == to0_1)) = true := c325
    refine t_v (.eqt (a := .agg #[.int .i64 m0_0, .int .i64 m0_1]) (b := .agg #[.int .i64 to0_0, .int .i64 to0_1]) (r := (m0_0 == to0_0) && (m0_1 == to0_1)) rfl rfl rfl rfl (by kernel_rfl) (bnk c325b rfl)) ?_
    refine t_keep [1, 2, 3, 6] (σ' := [(1, .pointer (some ⟨B0, 0, none⟩)), (2, .pointer (some ⟨B1, 0, none⟩)), (3, .pointer (some ⟨b324, 0, none⟩)), (6, .bool false)]) (by kernel_rfl) ?_
    refine t_end ?_
    show W _ _ _ _ _ _ _
    refine w_cond rfl (fun c_ => by cases c_) (fun _ => ?_)
    show W _ _ _ _ _ _ _
    refine w_skip ?_
    show W _ _ _ _ _ _ _
    refine w_reg fun all => ?_
    refine t_v (.ldn rfl rfl rfl (.at 0 rfl rfl)) ?_
    refine t_sti 1 (cs := [.int .i64 to0_0, .int .i64 to0_1]) rfl rfl rfl rfl rfl rfl rfl rfl rfl ?_
    refine t_keep [] (σ' := []) (by kernel_rfl) ?_
    refine t_end ?_
    simp only [Option.some.injEq, Prod.mk.injEq] at e
    obtain ⟨rfl, rfl, rfl⟩ := e
    exact ⟨[], ([⟨B2, encL E_i644 m2_L, nB2⟩, ⟨B0, [.int .i64 to0_0, .int .i64 to0_1], 2⟩, ⟨B1, [.slice (ad B2) m2_L.length (nB2 / 4)], 1⟩] : List Own), S, trivial, VS.sel [3, 1, 1] (by kernel_rfl), B2, nB2, rfl, rfl, rfl⟩
  · rw [if_neg c325] at e
    have c325b : ((m0_0 == to0_0) && (m0_1 == to0_1)) = false := Bool.eq_false_iff.mpr c325
    refine t_v (.eqt (a := .agg #[.int .i64 m0_0, .int .i64 m0_1]) (b := .agg #[.int .i64 to0_0, .int .i64 to0_1]) (r := (m0_0 == to0_0) && (m0_1 == to0_1)) rfl rfl rfl rfl (by kernel_rfl) (bnk c325b rfl)) ?_
    refine t_keep [1, 2, 3, 6] (σ' := [(1, .pointer (some ⟨B0, 0, none⟩)), (2, .pointer (some ⟨B1, 0, none⟩)), (3, .pointer (some ⟨b324, 0, none⟩)), (6, .bool true)]) (by kernel_rfl) ?_
    refine t_end ?_
    show W _ _ _ _ _ _ _
    refine w_cond rfl (fun _ => ?_) (fun c_ => by cases c_)
    show W _ _ _ _ _ _ _
    refine w_reg fun all => ?_
    refine t_v (.ld1 rfl rfl rfl (.at 2 rfl rfl)) ?_
    refine t_v (.ldn rfl rfl rfl (.at 1 rfl rfl)) ?_
    refine t_v (.ldn rfl rfl rfl (.at 0 rfl rfl)) ?_
    refine t_qz 1 [1, 2, 3, 7, 10] (σ' := [(1, .pointer (some ⟨B0, 0, none⟩)), (2, .pointer (some ⟨B1, 0, none⟩)), (3, .pointer (some ⟨b324, 0, none⟩)), (7, .slice (ad B2) m2_L.length (nB2 / 4)), (10, .agg #[.int .i64 m0_0, .int .i64 m0_1, .int .i64 to0_0, .int .i64 to0_1])]) (by kernel_rfl) ?_
    refine t_a (.bsl rfl rfl rfl rfl) fun b326 fb326 sb326 => ?_
    obtain ⟨y327, hl328, e⟩ := bind_of e
    refine t_appX (E := E_i644) (L := m2_L) (X := ([(m0_0, m0_1, to0_0, to0_1)] : List (Int × Int × Int × Int))) (F := ([⟨b326, [.int .i64 m0_0, .int .i64 m0_1, .int .i64 to0_0, .int .i64 to0_1], 4⟩, ⟨b324, [.int .i64 to0_0, .int .i64 to0_1], 2⟩, ⟨B0, [.int .i64 m0_0, .int .i64 m0_1], 2⟩, ⟨B1, [.slice (ad B2) m2_L.length (nB2 / 4)], 1⟩] : List Own)) rfl rfl rfl rfl (sel_perm (is := [4]) (by kernel_rfl)) rfl (Or.inr ⟨_, _, rfl, .at 0 rfl (by kernel_rfl)⟩) rfl (by decide) (by decide) rfl hl328 fun a329 na329 => ?_
    refine t_sti 4 (cs := [.slice (ad a329) y327.length (na329 / 4)]) rfl rfl rfl rfl rfl rfl rfl rfl rfl ?_
    refine t_keep [1, 3] (σ' := [(1, .pointer (some ⟨B0, 0, none⟩)), (3, .pointer (some ⟨b324, 0, none⟩))]) (by kernel_rfl) ?_
    refine t_end ?_
    show W _ _ _ _ _ _ _
    refine w_reg fun all => ?_
    refine t_v (.ldn rfl rfl rfl (.at 2 rfl rfl)) ?_
    refine t_sti 3 (cs := [.int .i64 to0_0, .int .i64 to0_1]) rfl rfl rfl rfl rfl rfl rfl rfl rfl ?_
    refine t_keep [] (σ' := []) (by kernel_rfl) ?_
    refine t_end ?_
    simp only [Option.some.injEq, Prod.mk.injEq] at e
    obtain ⟨rfl, rfl, rfl⟩ := e
    exact ⟨[], ([⟨a329, encL E_i644 y327, na329⟩, ⟨B0, [.int .i64 to0_0, .int .i64 to0_1], 2⟩, ⟨B1, [.slice (ad a329) y327.length (na329 / 4)], 1⟩] : List Own), S, trivial, VS.sel [0, 2, 2] (by kernel_rfl), a329, na329, rfl, rfl, rfl⟩

def flatten_points_v3.f (s0_1 : Int) (s0_2 : Int) (s0_3 : Int) (s0_4 : Int) (s0_5 : Int) (s0_6 : Int) : Option (Int × Int × Int × Int × Int × Int × Int) := some (2, s0_1, s0_2, s0_3, s0_4, s0_5, s0_6)
theorem flatten_points_v3.ok {S : Seal} {s0_1 : Int} {s0_2 : Int} {s0_3 : Int} {s0_4 : Int} {s0_5 : Int} {s0_6 : Int} {r0_ : Int} {r1_ : Int} {r2_ : Int} {r3_ : Int} {r4_ : Int} {r5_ : Int} {r6_ : Int}(e : flatten_points_v3.f s0_1 s0_2 s0_3 s0_4 s0_5 s0_6 = some (r0_, r1_, r2_, r3_, r4_, r5_, r6_)) :
    Cal Try.prog 70 [.agg #[.int .i64 2, .int .i64 s0_1, .int .i64 s0_2, .int .i64 s0_3, .int .i64 s0_4, .int .i64 s0_5, .int .i64 s0_6]] [] S fun v H' S' => ∃ (N0_ : Nat) , v = .slice (some ⟨N0_, 1, none⟩) 2 3 ∧ H' = ([⟨N0_, [.int .i64 r0_, .int .i64 r1_, .int .i64 r2_, .int .i64 r3_, .int .i64 r4_, .int .i64 r5_, .int .i64 r6_], 7⟩] : List Own) ∧ S' = S := by
  unfold flatten_points_v3.f at e
  refine cal_of (c := c70) (N := 15) Try.func70 rfl rfl (by kernel_rfl) (rs := [.t 2]) (by kernel_rfl) (Nat.le_of_ble_eq_true rfl) ?_
  unfold c70
  refine w_seq ?_
  refine w_reg fun all => ?_
  refine t_a (.box rfl rfl rfl) fun b342 fb342 sb342 => ?_
  refine t_qz 1 [1] (σ' := [(1, .pointer (some ⟨b342, 0, none⟩))]) (by kernel_rfl) ?_
  refine t_end ?_
  show W _ _ _ _ _ _ _
  refine w_seq ?_
  refine w_seq ?_
  refine w_reg fun all => ?_
  refine t_qz 1 [1, 3] (σ' := [(1, .pointer (some ⟨b342, 0, none⟩)), (3, .pointer (some ⟨b342, 0, none⟩))]) (by kernel_rfl) ?_
  refine t_v (.ld1 rfl rfl rfl (.at 0 rfl rfl)) ?_
  refine t_qz 3 [1, 6, 7] (σ' := [(1, .pointer (some ⟨b342, 0, none⟩)), (6, .bool false), (7, .pointer (some ⟨b342, 0, none⟩))]) (by kernel_rfl) ?_
  refine t_v (.ld1 rfl rfl rfl (.at 0 rfl rfl)) ?_
  refine t_qz 2 [1, 10] (σ' := [(1, .pointer (some ⟨b342, 0, none⟩)), (10, .bool false)]) (by kernel_rfl) ?_
  refine t_end ?_
  show W _ _ _ _ _ _ _
  refine w_cond rfl (fun c_ => by cases c_) (fun _ => ?_)
  show W _ _ _ _ _ _ _
  refine w_skip ?_
  show W _ _ _ _ _ _ _
  refine w_seq ?_
  refine w_reg fun all => ?_
  refine t_qz 2 [11, 12] (σ' := [(11, .pointer (some ⟨b342, 1, none⟩)), (12, .pointer (some ⟨b342, 0, none⟩))]) (by kernel_rfl) ?_
  refine t_v (.ld1 rfl rfl rfl (.at 0 rfl rfl)) ?_
  refine t_qz 2 [2] (σ' := [(2, .slice (some ⟨b342, 1, none⟩) 2 3)]) (by kernel_rfl) ?_
  refine t_end ?_
  show W _ _ _ _ _ _ _
  refine w_ret ?_
  simp only [Option.some.injEq, Prod.mk.injEq] at e
  obtain ⟨rfl, rfl, rfl, rfl, rfl, rfl, rfl⟩ := e
  exact ⟨[.slice (some ⟨b342, 1, none⟩) 2 3], ([⟨b342, [.int .i64 2, .int .i64 s0_1, .int .i64 s0_2, .int .i64 s0_3, .int .i64 s0_4, .int .i64 s0_5, .int .i64 s0_6], 7⟩] : List Own), S, ⟨rfl, trivial⟩, VS.sel [0] (by kernel_rfl), b342, rfl, rfl, rfl⟩

def flatten_mix_v4.f (i0 : Int) (n1 : Int) (m0_0 : Int) (m0_1 : Int) (m0_2 : Int) : Option (Int) := (fixed_Round.f (wr64 ((wr64 ((wr64 ((wr64 ((wr64 (n1 - i0)) * (wr64 (n1 - i0)))) * m0_0)) + (wr64 ((wr64 ((wr64 (2 * i0)) * (wr64 (n1 - i0)))) * m0_1)))) + (wr64 ((wr64 (i0 * i0)) * m0_2)))) (wr64 (n1 * n1))).bind fun t362 => (some t362)
theorem flatten_mix_v4.ok {S : Seal} {B0 nB0 : Nat} {i0 : Int} {n1 : Int} {m0_0 : Int} {m0_1 : Int} {m0_2 : Int} {r0_ : Int}(e : flatten_mix_v4.f i0 n1 m0_0 m0_1 m0_2 = some r0_) :
    Cal Try.prog 71 [.int .i64 i0, .int .i64 n1, .slice (some ⟨B0, 0, none⟩) 3 (nB0 / 1)] ([⟨B0, [.int .i64 m0_0, .int .i64 m0_1, .int .i64 m0_2], nB0⟩] : List Own) S fun v H' S' => v = .int .i64 r0_ ∧ H' = ([⟨B0, [.int .i64 m0_0, .int .i64 m0_1, .int .i64 m0_2], nB0⟩] : List Own) ∧ S' = S := by
  unfold flatten_mix_v4.f at e
  refine cal_of (c := c71) (N := 110) Try.func71 rfl rfl (by kernel_rfl) (rs := [.t 6]) (by kernel_rfl) (Nat.le_of_ble_eq_true rfl) ?_
  unfold c71
  refine w_seq ?_
  refine w_reg fun all => ?_
  refine t_qz 1 [0, 1, 2] (σ' := [(0, .int .i64 i0), (1, .int .i64 n1), (2, .slice (some ⟨B0, 0, none⟩) 3 (nB0 / 1))]) (by kernel_rfl) ?_
  refine t_end ?_
  show W _ _ _ _ _ _ _
  refine w_seq ?_
  refine w_reg fun all => ?_
  refine t_qz 4 [0, 1, 2, 7] (σ' := [(0, .int .i64 i0), (1, .int .i64 n1), (2, .slice (some ⟨B0, 0, none⟩) 3 (nB0 / 1)), (7, .int .i64 (wr64 (n1 - i0)))]) (by kernel_rfl) ?_
  refine t_end ?_
  show W _ _ _ _ _ _ _
  refine w_seq ?_
  refine w_seq ?_
  refine w_reg fun all => ?_
  refine t_qz 2 [0, 1, 2, 7, 12] (σ' := [(0, .int .i64 i0), (1, .int .i64 n1), (2, .slice (some ⟨B0, 0, none⟩) 3 (nB0 / 1)), (7, .int .i64 (wr64 (n1 - i0))), (12, .int .i64 3)]) (by kernel_rfl) ?_
  refine t_end ?_
  show W _ _ _ _ _ _ _
  refine w_block ?_
  refine w_seq ?_
  refine w_reg fun all => ?_
  refine t_qz 2 [0, 1, 2, 7, 12, 13] (σ' := [(0, .int .i64 i0), (1, .int .i64 n1), (2, .slice (some ⟨B0, 0, none⟩) 3 (nB0 / 1)), (7, .int .i64 (wr64 (n1 - i0))), (12, .int .i64 3), (13, .bool false)]) (by kernel_rfl) ?_
  refine t_end ?_
  show W _ _ _ _ _ _ _
  refine w_cond rfl (fun c_ => by cases c_) (fun _ => ?_)
  show W _ _ _ _ _ _ _
  refine w_seq ?_
  refine w_reg fun all => ?_
  refine t_qz 2 [0, 1, 2, 7, 12, 18] (σ' := [(0, .int .i64 i0), (1, .int .i64 n1), (2, .slice (some ⟨B0, 0, none⟩) 3 (nB0 / 1)), (7, .int .i64 (wr64 (n1 - i0))), (12, .int .i64 3), (18, .bool false)]) (by kernel_rfl) ?_
  refine t_end ?_
  show W _ _ _ _ _ _ _
  refine w_cond rfl (fun c_ => by cases c_) (fun _ => ?_)
  show W _ _ _ _ _ _ _
  refine w_seq ?_
  refine w_reg fun all => ?_
  refine t_qz 2 [0, 1, 2, 7, 33] (σ' := [(0, .int .i64 i0), (1, .int .i64 n1), (2, .slice (some ⟨B0, 0, none⟩) 3 (nB0 / 1)), (7, .int .i64 (wr64 (n1 - i0))), (33, .bool true)]) (by kernel_rfl) ?_
  refine t_end ?_
  show W _ _ _ _ _ _ _
  refine w_cond rfl (fun _ => ?_) (fun c_ => by cases c_)
  show W _ _ _ _ _ _ _
  refine w_seq ?_
  obtain ⟨t362, h363, e⟩ := bind_of e
  refine w_drwE mixed 29 [.v (.int .i64 (wr64 (n1 - i0))), .v (.int .i64 (wr64 (n1 - i0))), .v (.int .i64 (wr64 ((wr64 (n1 - i0)) * (wr64 (n1 - i0))))), .v (.slice (some ⟨B0, 0, none⟩) 3 (nB0 / 1)), .v (.pointer (some ⟨B0, 0, none⟩)), .v (.int .i64 m0_0), .v (.int .i64 (wr64 ((wr64 ((wr64 (n1 - i0)) * (wr64 (n1 - i0)))) * m0_0))), .v (.int .i64 i0), .v (.int .i64 (wr64 (2 * i0))), .v (.int .i64 (wr64 (n1 - i0))), .v (.int .i64 (wr64 ((wr64 (2 * i0)) * (wr64 (n1 - i0))))), .v (.slice (some ⟨B0, 0, none⟩) 3 (nB0 / 1)), .v (.pointer (some ⟨B0, 1, none⟩)), .v (.int .i64 m0_1), .v (.int .i64 (wr64 ((wr64 ((wr64 (2 * i0)) * (wr64 (n1 - i0)))) * m0_1))), .v (.int .i64 (wr64 ((wr64 ((wr64 ((wr64 (n1 - i0)) * (wr64 (n1 - i0)))) * m0_0)) + (wr64 ((wr64 ((wr64 (2 * i0)) * (wr64 (n1 - i0)))) * m0_1))))), .v (.int .i64 i0), .v (.int .i64 i0), .v (.int .i64 (wr64 (i0 * i0))), .v (.slice (some ⟨B0, 0, none⟩) 3 (nB0 / 1)), .v (.pointer (some ⟨B0, 2, none⟩)), .v (.int .i64 m0_2), .v (.int .i64 (wr64 ((wr64 (i0 * i0)) * m0_2))), .v (.int .i64 (wr64 ((wr64 ((wr64 ((wr64 ((wr64 (n1 - i0)) * (wr64 (n1 - i0)))) * m0_0)) + (wr64 ((wr64 ((wr64 (2 * i0)) * (wr64 (n1 - i0)))) * m0_1)))) + (wr64 ((wr64 (i0 * i0)) * m0_2))))), .v (.int .i64 n1), .v (.int .i64 n1), .v (.int .i64 (wr64 (n1 * n1))), .v (.int .i64 t362), .v (.int .i64 t362)] (by kernel_rfl) ?_ ?_
  · refine DI.sq 5 (by kernel_rfl) rfl ?_
    refine .cons (.ld1 rfl rfl rfl (.at 0 rfl rfl)) ?_
    refine DI.sq 7 (by kernel_rfl) rfl ?_
    refine .cons (.ld1 rfl rfl rfl (.at 0 rfl rfl)) ?_
    refine DI.sq 7 (by kernel_rfl) rfl ?_
    refine .cons (.ld1 rfl rfl rfl (.at 0 rfl rfl)) ?_
    refine DI.sq 5 (by kernel_rfl) rfl ?_
    refine .cons (.call (vs := [.int .i64 (wr64 ((wr64 ((wr64 ((wr64 ((wr64 (n1 - i0)) * (wr64 (n1 - i0)))) * m0_0)) + (wr64 ((wr64 ((wr64 (2 * i0)) * (wr64 (n1 - i0)))) * m0_1)))) + (wr64 ((wr64 (i0 * i0)) * m0_2)))), .int .i64 (wr64 (n1 * n1))]) rfl rfl (by kernel_rfl) (fixed_Round.ok h363)) ?_
    refine DI.sq 1 (by kernel_rfl) rfl ?_
    exact .nil
  refine fk_q 29 [6] (σ' := [(6, .int .i64 t362)]) t_more (by kernel_rfl) ?_
  refine fk_nil fun all => ?_
  refine t_keep [6] (σ' := [(6, .int .i64 t362)]) (by kernel_rfl) ?_
  refine t_end ?_
  show W _ _ _ _ _ _ _
  refine w_ret ?_
  obtain rfl := Option.some.inj e
  exact ⟨[.int .i64 t362], ([⟨B0, [.int .i64 m0_0, .int .i64 m0_1, .int .i64 m0_2], nB0⟩] : List Own), S, ⟨rfl, trivial⟩, VS.sel [0] (by kernel_rfl), rfl, rfl, rfl⟩

def flatten_Point_v3.f (a0_0 : Int) (a0_1 : Int) (s1_1 : Int) (s1_2 : Int) (s1_3 : Int) (s1_4 : Int) (s1_5 : Int) (s1_6 : Int) (i2 : Int) (n3 : Int) : Option (Int × Int) := (flatten_points_v3.f s1_1 s1_2 s1_3 s1_4 s1_5 s1_6).bind fun (t343, t344, t345, t346, t347, t348, t349) => ((flatten_mix_v4.f i2 n3 a0_0 t344 t346).bind fun t364 => ((flatten_mix_v4.f i2 n3 a0_1 t345 t347).bind fun t366 => (some (t364, t366))))
theorem flatten_Point_v3.ok {S : Seal} {a0_0 : Int} {a0_1 : Int} {s1_1 : Int} {s1_2 : Int} {s1_3 : Int} {s1_4 : Int} {s1_5 : Int} {s1_6 : Int} {i2 : Int} {n3 : Int} {r0_ : Int} {r1_ : Int}(e : flatten_Point_v3.f a0_0 a0_1 s1_1 s1_2 s1_3 s1_4 s1_5 s1_6 i2 n3 = some (r0_, r1_)) :
    Cal Try.prog 31 [.agg #[.int .i64 a0_0, .int .i64 a0_1], .agg #[.int .i64 2, .int .i64 s1_1, .int .i64 s1_2, .int .i64 s1_3, .int .i64 s1_4, .int .i64 s1_5, .int .i64 s1_6], .int .i64 i2, .int .i64 n3] [] S fun v H' S' => v = .agg #[.int .i64 r0_, .int .i64 r1_] ∧ H' = [] ∧ S' = S := by
  unfold flatten_Point_v3.f at e
  refine cal_of (c := c31) (N := 46) Try.func31 rfl rfl (by kernel_rfl) (rs := [.cn 2 8]) (by kernel_rfl) (Nat.le_of_ble_eq_true rfl) ?_
  unfold c31
  refine w_seq ?_
  refine w_reg fun all => ?_
  refine t_a (.box rfl rfl rfl) fun b337 fb337 sb337 => ?_
  refine t_a (.box rfl rfl rfl) fun b338 fb338 sb338 => ?_
  refine t_a (.new rfl rfl) fun b339 fb339 sb339 => ?_
  refine t_keep [2, 3, 4, 5, 8] (σ' := [(2, .int .i64 i2), (3, .int .i64 n3), (4, .pointer (some ⟨b337, 0, none⟩)), (5, .pointer (some ⟨b338, 0, none⟩)), (8, .pointer (some ⟨b339, 0, none⟩))]) (by kernel_rfl) ?_
  refine t_end ?_
  show W _ _ _ _ _ _ _
  refine w_seq ?_
  refine w_kp [2, 3, 4, 5, 8] (σ' := [(2, .int .i64 i2), (3, .int .i64 n3), (4, .pointer (some ⟨b337, 0, none⟩)), (5, .pointer (some ⟨b338, 0, none⟩)), (8, .pointer (some ⟨b339, 0, none⟩))]) (by kernel_rfl) ?_
  refine w_gameQ mixed (by kernel_rfl) fun all G hend hstep hqf => ?_
  have hg_ff : ∀ (g341 : Nat) (g340 : Nat), G [true, true, true, true, true, true, true, true] [(2, .int .i64 i2), (3, .int .i64 n3), (5, .pointer (some ⟨b338, 0, none⟩)), (8, .pointer (some ⟨b339, 0, none⟩)), (9, .slice (some ⟨g340, 0, none⟩) 1 1), (10, .slice (some ⟨g341, 0, none⟩) 1 1)] ([⟨g341, [.int .i64 a0_1], 1⟩, ⟨g340, [.int .i64 a0_0], 1⟩, ⟨b339, [.int .i64 0, .int .i64 0], 2⟩, ⟨b338, [.int .i64 2, .int .i64 s1_1, .int .i64 s1_2, .int .i64 s1_3, .int .i64 s1_4, .int .i64 s1_5, .int .i64 s1_6], 7⟩, ⟨b337, [.int .i64 a0_0, .int .i64 a0_1], 2⟩] : List Own) := by
    intro g341 g340
    refine hend _ _ _ (by kernel_rfl) ?_
    show W _ _ _ _ _ _ _
    refine w_seq ?_
    refine w_seq ?_
    refine w_reg fun all => ?_
    refine t_v (.ldn rfl rfl rfl (.at 3 rfl rfl)) ?_
    obtain ⟨⟨t343, t344, t345, t346, t347, t348, t349⟩, h350, e⟩ := bind_of e
    try dsimp only at e
    refine t_call (vs := [.agg #[.int .i64 2, .int .i64 s1_1, .int .i64 s1_2, .int .i64 s1_3, .int .i64 s1_4, .int .i64 s1_5, .int .i64 s1_6]]) (H1 := ([] : List Own)) (F := ([⟨g341, [.int .i64 a0_1], 1⟩, ⟨g340, [.int .i64 a0_0], 1⟩, ⟨b339, [.int .i64 0, .int .i64 0], 2⟩, ⟨b338, [.int .i64 2, .int .i64 s1_1, .int .i64 s1_2, .int .i64 s1_3, .int .i64 s1_4, .int .i64 s1_5, .int .i64 s1_6], 7⟩, ⟨b337, [.int .i64 a0_0, .int .i64 a0_1], 2⟩] : List Own)) rfl rfl (by kernel_rfl) (sel_perm (is := []) (by kernel_rfl)) (flatten_points_v3.ok h350) ?_
    rintro _ _ S_ ⟨N351, rfl, rfl, hS_⟩
    obtain rfl := hS_.symm
    refine t_qz 2 [2, 3, 8, 9, 10, 20, 21, 22] (σ' := [(2, .int .i64 i2), (3, .int .i64 n3), (8, .pointer (some ⟨b339, 0, none⟩)), (9, .slice (some ⟨g340, 0, none⟩) 1 1), (10, .slice (some ⟨g341, 0, none⟩) 1 1), (20, .slice (some ⟨N351, 1, none⟩) 2 3), (21, .int .i64 2), (22, .int .i64 0)]) (by kernel_rfl) ?_
    refine t_end ?_
    show W _ _ _ _ _ _ _
    refine w_block ?_
    refine w_lun 10 ?_
    refine wl_step ?_
    refine w_seq ?_
    refine w_reg fun all => ?_
    refine t_qz 1 [2, 3, 8, 9, 10, 20, 21, 22, 23] (σ' := [(2, .int .i64 i2), (3, .int .i64 n3), (8, .pointer (some ⟨b339, 0, none⟩)), (9, .slice (some ⟨g340, 0, none⟩) 1 1), (10, .slice (some ⟨g341, 0, none⟩) 1 1), (20, .slice (some ⟨N351, 1, none⟩) 2 3), (21, .int .i64 2), (22, .int .i64 0), (23, .bool true)]) (by kernel_rfl) ?_
    refine t_end ?_
    show W _ _ _ _ _ _ _
    refine w_seq ?_
    refine w_cond rfl (fun _ => ?_) (fun c_ => by cases c_)
    show W _ _ _ _ _ _ _
    refine w_skip ?_
    show W _ _ _ _ _ _ _
    refine w_seq ?_
    refine w_block ?_
    refine w_seq ?_
    refine w_reg fun all => ?_
    refine t_qz 1 [2, 3, 8, 9, 10, 20, 21, 22, 24] (σ' := [(2, .int .i64 i2), (3, .int .i64 n3), (8, .pointer (some ⟨b339, 0, none⟩)), (9, .slice (some ⟨g340, 0, none⟩) 1 1), (10, .slice (some ⟨g341, 0, none⟩) 1 1), (20, .slice (some ⟨N351, 1, none⟩) 2 3), (21, .int .i64 2), (22, .int .i64 0), (24, .pointer (some ⟨N351, 1, none⟩))]) (by kernel_rfl) ?_
    refine t_v (.ldn rfl rfl rfl (.at 0 rfl rfl)) ?_
    refine t_a (.new rfl rfl) fun b352 fb352 sb352 => ?_
    refine t_sti 0 (cs := [.int .i64 t344, .int .i64 t345]) rfl rfl rfl rfl rfl rfl rfl rfl rfl ?_
    refine t_keep [2, 3, 8, 9, 10, 12, 20, 21, 22] (σ' := [(2, .int .i64 i2), (3, .int .i64 n3), (8, .pointer (some ⟨b339, 0, none⟩)), (9, .slice (some ⟨g340, 0, none⟩) 1 1), (10, .slice (some ⟨g341, 0, none⟩) 1 1), (12, .pointer (some ⟨b352, 0, none⟩)), (20, .slice (some ⟨N351, 1, none⟩) 2 3), (21, .int .i64 2), (22, .int .i64 0)]) (by kernel_rfl) ?_
    refine t_end ?_
    show W _ _ _ _ _ _ _
    refine w_kp [2, 3, 8, 9, 10, 12, 20, 21, 22] (σ' := [(2, .int .i64 i2), (3, .int .i64 n3), (8, .pointer (some ⟨b339, 0, none⟩)), (9, .slice (some ⟨g340, 0, none⟩) 1 1), (10, .slice (some ⟨g341, 0, none⟩) 1 1), (12, .pointer (some ⟨b352, 0, none⟩)), (20, .slice (some ⟨N351, 1, none⟩) 2 3), (21, .int .i64 2), (22, .int .i64 0)]) (by kernel_rfl) ?_
    refine w_gameQ mixed (by kernel_rfl) fun all G hend hstep hqf => ?_
    have hg_fff : ∀ (g356 : Nat) (ng356 : Nat) (g355 : Nat) (g354 : Nat) (ng354 : Nat) (g353 : Nat), G [true, true, true, true, true, true, true, true, true, true, true, true] [(2, .int .i64 i2), (3, .int .i64 n3), (8, .pointer (some ⟨b339, 0, none⟩)), (9, .slice (some ⟨g354, 0, none⟩) 2 (ng354 / 1)), (10, .slice (some ⟨g356, 0, none⟩) 2 (ng356 / 1)), (20, .slice (some ⟨N351, 1, none⟩) 2 3), (21, .int .i64 2), (22, .int .i64 0)] ([⟨g356, [.int .i64 a0_1, .int .i64 t345], ng356⟩, ⟨g355, [.int .i64 t345], 1⟩, ⟨g354, [.int .i64 a0_0, .int .i64 t344], ng354⟩, ⟨g353, [.int .i64 t344], 1⟩, ⟨b352, [.int .i64 t344, .int .i64 t345], 2⟩, ⟨N351, [.int .i64 t343, .int .i64 t344, .int .i64 t345, .int .i64 t346, .int .i64 t347, .int .i64 t348, .int .i64 t349], 7⟩, ⟨b339, [.int .i64 0, .int .i64 0], 2⟩, ⟨b338, [.int .i64 2, .int .i64 s1_1, .int .i64 s1_2, .int .i64 s1_3, .int .i64 s1_4, .int .i64 s1_5, .int .i64 s1_6], 7⟩, ⟨b337, [.int .i64 a0_0, .int .i64 a0_1], 2⟩] : List Own) := by
      intro g356 ng356 g355 g354 ng354 g353
      refine hend _ _ _ (by kernel_rfl) ?_
      show W _ _ _ _ _ _ _
      refine w_reg fun all => ?_
      refine t_qz 2 [2, 3, 8, 9, 10, 20, 21, 22] (σ' := [(2, .int .i64 i2), (3, .int .i64 n3), (8, .pointer (some ⟨b339, 0, none⟩)), (9, .slice (some ⟨g354, 0, none⟩) 2 (ng354 / 1)), (10, .slice (some ⟨g356, 0, none⟩) 2 (ng356 / 1)), (20, .slice (some ⟨N351, 1, none⟩) 2 3), (21, .int .i64 2), (22, .int .i64 1)]) (by kernel_rfl) ?_
      refine t_end ?_
      show WL _ _ _ _ _ _ _ _
      refine wl_step ?_
      refine w_seq ?_
      refine w_reg fun all => ?_
      refine t_qz 1 [2, 3, 8, 9, 10, 20, 21, 22, 23] (σ' := [(2, .int .i64 i2), (3, .int .i64 n3), (8, .pointer (some ⟨b339, 0, none⟩)), (9, .slice (some ⟨g354, 0, none⟩) 2 (ng354 / 1)), (10, .slice (some ⟨g356, 0, none⟩) 2 (ng356 / 1)), (20, .slice (some ⟨N351, 1, none⟩) 2 3), (21, .int .i64 2), (22, .int .i64 1), (23, .bool true)]) (by kernel_rfl) ?_
      refine t_end ?_
      show W _ _ _ _ _ _ _
      refine w_seq ?_
      refine w_cond rfl (fun _ => ?_) (fun c_ => by cases c_)
      show W _ _ _ _ _ _ _
      refine w_skip ?_
      show W _ _ _ _ _ _ _
      refine w_seq ?_
      refine w_block ?_
      refine w_seq ?_
      refine w_reg fun all => ?_
      refine t_qz 1 [2, 3, 8, 9, 10, 20, 21, 22, 24] (σ' := [(2, .int .i64 i2), (3, .int .i64 n3), (8, .pointer (some ⟨b339, 0, none⟩)), (9, .slice (some ⟨g354, 0, none⟩) 2 (ng354 / 1)), (10, .slice (some ⟨g356, 0, none⟩) 2 (ng356 / 1)), (20, .slice (some ⟨N351, 1, none⟩) 2 3), (21, .int .i64 2), (22, .int .i64 1), (24, .pointer (some ⟨N351, 3, none⟩))]) (by kernel_rfl) ?_
      refine t_v (.ldn rfl rfl rfl (.at 5 rfl rfl)) ?_
      refine t_a (.new rfl rfl) fun b357 fb357 sb357 => ?_
      refine t_sti 0 (cs := [.int .i64 t346, .int .i64 t347]) rfl rfl rfl rfl rfl rfl rfl rfl rfl ?_
      refine t_keep [2, 3, 8, 9, 10, 12, 20, 21, 22] (σ' := [(2, .int .i64 i2), (3, .int .i64 n3), (8, .pointer (some ⟨b339, 0, none⟩)), (9, .slice (some ⟨g354, 0, none⟩) 2 (ng354 / 1)), (10, .slice (some ⟨g356, 0, none⟩) 2 (ng356 / 1)), (12, .pointer (some ⟨b357, 0, none⟩)), (20, .slice (some ⟨N351, 1, none⟩) 2 3), (21, .int .i64 2), (22, .int .i64 1)]) (by kernel_rfl) ?_
      refine t_end ?_
      show W _ _ _ _ _ _ _
      refine w_kp [2, 3, 8, 9, 10, 12, 20, 21, 22] (σ' := [(2, .int .i64 i2), (3, .int .i64 n3), (8, .pointer (some ⟨b339, 0, none⟩)), (9, .slice (some ⟨g354, 0, none⟩) 2 (ng354 / 1)), (10, .slice (some ⟨g356, 0, none⟩) 2 (ng356 / 1)), (12, .pointer (some ⟨b357, 0, none⟩)), (20, .slice (some ⟨N351, 1, none⟩) 2 3), (21, .int .i64 2), (22, .int .i64 1)]) (by kernel_rfl) ?_
      refine w_gameQ mixed (by kernel_rfl) fun all G hend hstep hqf => ?_
      have hg_fff : ∀ (g361 : Nat) (ng361 : Nat) (g360 : Nat) (g359 : Nat) (ng359 : Nat) (g358 : Nat), G [true, true, true, true, true, true, true, true, true, true, true, true] [(2, .int .i64 i2), (3, .int .i64 n3), (8, .pointer (some ⟨b339, 0, none⟩)), (9, .slice (some ⟨g359, 0, none⟩) 3 (ng359 / 1)), (10, .slice (some ⟨g361, 0, none⟩) 3 (ng361 / 1)), (20, .slice (some ⟨N351, 1, none⟩) 2 3), (21, .int .i64 2), (22, .int .i64 1)] ([⟨g361, [.int .i64 a0_1, .int .i64 t345, .int .i64 t347], ng361⟩, ⟨g360, [.int .i64 t347], 1⟩, ⟨g359, [.int .i64 a0_0, .int .i64 t344, .int .i64 t346], ng359⟩, ⟨g358, [.int .i64 t346], 1⟩, ⟨b357, [.int .i64 t346, .int .i64 t347], 2⟩, ⟨g355, [.int .i64 t345], 1⟩, ⟨g353, [.int .i64 t344], 1⟩, ⟨b352, [.int .i64 t344, .int .i64 t345], 2⟩, ⟨N351, [.int .i64 t343, .int .i64 t344, .int .i64 t345, .int .i64 t346, .int .i64 t347, .int .i64 t348, .int .i64 t349], 7⟩, ⟨b339, [.int .i64 0, .int .i64 0], 2⟩, ⟨b338, [.int .i64 2, .int .i64 s1_1, .int .i64 s1_2, .int .i64 s1_3, .int .i64 s1_4, .int .i64 s1_5, .int .i64 s1_6], 7⟩, ⟨b337, [.int .i64 a0_0, .int .i64 a0_1], 2⟩] : List Own) := by
        intro g361 ng361 g360 g359 ng359 g358
        refine hend _ _ _ (by kernel_rfl) ?_
        show W _ _ _ _ _ _ _
        refine w_reg fun all => ?_
        refine t_qz 2 [2, 3, 8, 9, 10, 20, 21, 22] (σ' := [(2, .int .i64 i2), (3, .int .i64 n3), (8, .pointer (some ⟨b339, 0, none⟩)), (9, .slice (some ⟨g359, 0, none⟩) 3 (ng359 / 1)), (10, .slice (some ⟨g361, 0, none⟩) 3 (ng361 / 1)), (20, .slice (some ⟨N351, 1, none⟩) 2 3), (21, .int .i64 2), (22, .int .i64 2)]) (by kernel_rfl) ?_
        refine t_end ?_
        show WL _ _ _ _ _ _ _ _
        refine wl_step ?_
        refine w_seq ?_
        refine w_reg fun all => ?_
        refine t_qz 1 [2, 3, 8, 9, 10, 20, 21, 22, 23] (σ' := [(2, .int .i64 i2), (3, .int .i64 n3), (8, .pointer (some ⟨b339, 0, none⟩)), (9, .slice (some ⟨g359, 0, none⟩) 3 (ng359 / 1)), (10, .slice (some ⟨g361, 0, none⟩) 3 (ng361 / 1)), (20, .slice (some ⟨N351, 1, none⟩) 2 3), (21, .int .i64 2), (22, .int .i64 2), (23, .bool false)]) (by kernel_rfl) ?_
        refine t_end ?_
        show W _ _ _ _ _ _ _
        refine w_seq ?_
        refine w_cond rfl (fun c_ => by cases c_) (fun _ => ?_)
        show W _ _ _ _ _ _ _
        refine w_exit ?_
        show W _ _ _ _ _ _ _
        refine w_seq ?_
        refine w_reg fun all => ?_
        obtain ⟨t364, h365, e⟩ := bind_of e
        refine t_qz 3 [2, 3, 8, 10, 37, 38, 39] (σ' := [(2, .int .i64 i2), (3, .int .i64 n3), (8, .pointer (some ⟨b339, 0, none⟩)), (10, .slice (some ⟨g361, 0, none⟩) 3 (ng361 / 1)), (37, .int .i64 i2), (38, .int .i64 n3), (39, .slice (some ⟨g359, 0, none⟩) 3 (ng359 / 1))]) (by kernel_rfl) ?_
        refine t_v (.callr (vs := [.int .i64 i2, .int .i64 n3, .slice (some ⟨g359, 0, none⟩) 3 (ng359 / 1)]) (A := ([⟨g359, [.int .i64 a0_0, .int .i64 t344, .int .i64 t346], ng359⟩] : List Own)) (F0 := ([⟨g361, [.int .i64 a0_1, .int .i64 t345, .int .i64 t347], ng361⟩, ⟨g360, [.int .i64 t347], 1⟩, ⟨g358, [.int .i64 t346], 1⟩, ⟨b357, [.int .i64 t346, .int .i64 t347], 2⟩, ⟨g355, [.int .i64 t345], 1⟩, ⟨g353, [.int .i64 t344], 1⟩, ⟨b352, [.int .i64 t344, .int .i64 t345], 2⟩, ⟨N351, [.int .i64 t343, .int .i64 t344, .int .i64 t345, .int .i64 t346, .int .i64 t347, .int .i64 t348, .int .i64 t349], 7⟩, ⟨b339, [.int .i64 0, .int .i64 0], 2⟩, ⟨b338, [.int .i64 2, .int .i64 s1_1, .int .i64 s1_2, .int .i64 s1_3, .int .i64 s1_4, .int .i64 s1_5, .int .i64 s1_6], 7⟩, ⟨b337, [.int .i64 a0_0, .int .i64 a0_1], 2⟩] : List Own)) rfl rfl (by kernel_rfl) (sel_perm (is := [2]) (by kernel_rfl)) (flatten_mix_v4.ok h365)) ?_
        obtain ⟨t366, h367, e⟩ := bind_of e
        refine t_qz 3 [8, 40, 41, 42, 43] (σ' := [(8, .pointer (some ⟨b339, 0, none⟩)), (40, .int .i64 t364), (41, .int .i64 i2), (42, .int .i64 n3), (43, .slice (some ⟨g361, 0, none⟩) 3 (ng361 / 1))]) (by kernel_rfl) ?_
        refine t_v (.callr (vs := [.int .i64 i2, .int .i64 n3, .slice (some ⟨g361, 0, none⟩) 3 (ng361 / 1)]) (A := ([⟨g361, [.int .i64 a0_1, .int .i64 t345, .int .i64 t347], ng361⟩] : List Own)) (F0 := ([⟨g360, [.int .i64 t347], 1⟩, ⟨g359, [.int .i64 a0_0, .int .i64 t344, .int .i64 t346], ng359⟩, ⟨g358, [.int .i64 t346], 1⟩, ⟨b357, [.int .i64 t346, .int .i64 t347], 2⟩, ⟨g355, [.int .i64 t345], 1⟩, ⟨g353, [.int .i64 t344], 1⟩, ⟨b352, [.int .i64 t344, .int .i64 t345], 2⟩, ⟨N351, [.int .i64 t343, .int .i64 t344, .int .i64 t345, .int .i64 t346, .int .i64 t347, .int .i64 t348, .int .i64 t349], 7⟩, ⟨b339, [.int .i64 0, .int .i64 0], 2⟩, ⟨b338, [.int .i64 2, .int .i64 s1_1, .int .i64 s1_2, .int .i64 s1_3, .int .i64 s1_4, .int .i64 s1_5, .int .i64 s1_6], 7⟩, ⟨b337, [.int .i64 a0_0, .int .i64 a0_1], 2⟩] : List Own)) rfl rfl (by kernel_rfl) (sel_perm (is := [0]) (by kernel_rfl)) (flatten_mix_v4.ok h367)) ?_
        refine t_qz 1 [8, 45] (σ' := [(8, .pointer (some ⟨b339, 0, none⟩)), (45, .agg #[.int .i64 t364, .int .i64 t366])]) (by kernel_rfl) ?_
        refine t_sti 9 (cs := [.int .i64 t364, .int .i64 t366]) rfl rfl rfl rfl rfl rfl rfl rfl rfl ?_
        refine t_keep [8] (σ' := [(8, .pointer (some ⟨b339, 0, none⟩))]) (by kernel_rfl) ?_
        refine t_end ?_
        show W _ _ _ _ _ _ _
        refine w_ret ?_
        simp only [Option.some.injEq, Prod.mk.injEq] at e
        obtain ⟨rfl, rfl⟩ := e
        exact ⟨[.agg #[.int .i64 t364, .int .i64 t366]], [], S, ⟨⟨_, _, _, rfl, .at 9 rfl rfl, rfl⟩, trivial⟩, VS.none, rfl, rfl, rfl⟩
      have hg_7ff : ∀ (g361 : Nat) (ng361 : Nat) (g360 : Nat) (g359 : Nat) (ng359 : Nat) (g358 : Nat), G [true, true, true, true, true, true, true, true, true, true, true, false] [(2, .int .i64 i2), (3, .int .i64 n3), (8, .pointer (some ⟨b339, 0, none⟩)), (9, .slice (some ⟨g359, 0, none⟩) 3 (ng359 / 1)), (10, .slice (some ⟨g356, 0, none⟩) 2 (ng356 / 1)), (20, .slice (some ⟨N351, 1, none⟩) 2 3), (21, .int .i64 2), (22, .int .i64 1), (35, .slice (some ⟨g361, 0, none⟩) 3 (ng361 / 1))] ([⟨g361, [.int .i64 a0_1, .int .i64 t345, .int .i64 t347], ng361⟩, ⟨g360, [.int .i64 t347], 1⟩, ⟨g359, [.int .i64 a0_0, .int .i64 t344, .int .i64 t346], ng359⟩, ⟨g358, [.int .i64 t346], 1⟩, ⟨b357, [.int .i64 t346, .int .i64 t347], 2⟩, ⟨g355, [.int .i64 t345], 1⟩, ⟨g353, [.int .i64 t344], 1⟩, ⟨b352, [.int .i64 t344, .int .i64 t345], 2⟩, ⟨N351, [.int .i64 t343, .int .i64 t344, .int .i64 t345, .int .i64 t346, .int .i64 t347, .int .i64 t348, .int .i64 t349], 7⟩, ⟨b339, [.int .i64 0, .int .i64 0], 2⟩, ⟨b338, [.int .i64 2, .int .i64 s1_1, .int .i64 s1_2, .int .i64 s1_3, .int .i64 s1_4, .int .i64 s1_5, .int .i64 s1_6], 7⟩, ⟨b337, [.int .i64 a0_0, .int .i64 a0_1], 2⟩] : List Own) := by
        intro g361 ng361 g360 g359 ng359 g358
        exact hqf 11 [2, 3, 8, 9, 10, 20, 21, 22] _ _ _ [(2, .int .i64 i2), (3, .int .i64 n3), (8, .pointer (some ⟨b339, 0, none⟩)), (9, .slice (some ⟨g359, 0, none⟩) 3 (ng359 / 1)), (10, .slice (some ⟨g361, 0, none⟩) 3 (ng361 / 1)), (20, .slice (some ⟨N351, 1, none⟩) 2 3), (21, .int .i64 2), (22, .int .i64 1)] (by kernel_rfl) (by kernel_rfl) (hg_fff g361 ng361 g360 g359 ng359 g358)
      have hg_3ff : ∀ (g361 : Nat) (ng361 : Nat) (g360 : Nat) (g359 : Nat) (ng359 : Nat) (g358 : Nat), G [true, true, true, true, true, true, true, true, true, true, false, false] [(2, .int .i64 i2), (3, .int .i64 n3), (8, .pointer (some ⟨b339, 0, none⟩)), (9, .slice (some ⟨g354, 0, none⟩) 2 (ng354 / 1)), (10, .slice (some ⟨g356, 0, none⟩) 2 (ng356 / 1)), (20, .slice (some ⟨N351, 1, none⟩) 2 3), (21, .int .i64 2), (22, .int .i64 1), (30, .slice (some ⟨g359, 0, none⟩) 3 (ng359 / 1)), (35, .slice (some ⟨g361, 0, none⟩) 3 (ng361 / 1))] ([⟨g361, [.int .i64 a0_1, .int .i64 t345, .int .i64 t347], ng361⟩, ⟨g360, [.int .i64 t347], 1⟩, ⟨g359, [.int .i64 a0_0, .int .i64 t344, .int .i64 t346], ng359⟩, ⟨g358, [.int .i64 t346], 1⟩, ⟨b357, [.int .i64 t346, .int .i64 t347], 2⟩, ⟨g355, [.int .i64 t345], 1⟩, ⟨g353, [.int .i64 t344], 1⟩, ⟨b352, [.int .i64 t344, .int .i64 t345], 2⟩, ⟨N351, [.int .i64 t343, .int .i64 t344, .int .i64 t345, .int .i64 t346, .int .i64 t347, .int .i64 t348, .int .i64 t349], 7⟩, ⟨b339, [.int .i64 0, .int .i64 0], 2⟩, ⟨b338, [.int .i64 2, .int .i64 s1_1, .int .i64 s1_2, .int .i64 s1_3, .int .i64 s1_4, .int .i64 s1_5, .int .i64 s1_6], 7⟩, ⟨b337, [.int .i64 a0_0, .int .i64 a0_1], 2⟩] : List Own) := by
        intro g361 ng361 g360 g359 ng359 g358
        exact hqf 10 [2, 3, 8, 9, 10, 20, 21, 22, 35] _ _ _ [(2, .int .i64 i2), (3, .int .i64 n3), (8, .pointer (some ⟨b339, 0, none⟩)), (9, .slice (some ⟨g359, 0, none⟩) 3 (ng359 / 1)), (10, .slice (some ⟨g356, 0, none⟩) 2 (ng356 / 1)), (20, .slice (some ⟨N351, 1, none⟩) 2 3), (21, .int .i64 2), (22, .int .i64 1), (35, .slice (some ⟨g361, 0, none⟩) 3 (ng361 / 1))] (by kernel_rfl) (by kernel_rfl) (hg_7ff g361 ng361 g360 g359 ng359 g358)
      have hg_1ff : ∀ (g360 : Nat) (g359 : Nat) (ng359 : Nat) (g358 : Nat), G [true, true, true, true, true, true, true, true, true, false, false, false] [(2, .int .i64 i2), (3, .int .i64 n3), (8, .pointer (some ⟨b339, 0, none⟩)), (9, .slice (some ⟨g354, 0, none⟩) 2 (ng354 / 1)), (10, .slice (some ⟨g356, 0, none⟩) 2 (ng356 / 1)), (20, .slice (some ⟨N351, 1, none⟩) 2 3), (21, .int .i64 2), (22, .int .i64 1), (30, .slice (some ⟨g359, 0, none⟩) 3 (ng359 / 1)), (31, .slice (some ⟨g356, 0, none⟩) 2 (ng356 / 1)), (34, .slice (some ⟨g360, 0, none⟩) 1 1)] ([⟨g360, [.int .i64 t347], 1⟩, ⟨g359, [.int .i64 a0_0, .int .i64 t344, .int .i64 t346], ng359⟩, ⟨g358, [.int .i64 t346], 1⟩, ⟨b357, [.int .i64 t346, .int .i64 t347], 2⟩, ⟨g356, [.int .i64 a0_1, .int .i64 t345], ng356⟩, ⟨g355, [.int .i64 t345], 1⟩, ⟨g353, [.int .i64 t344], 1⟩, ⟨b352, [.int .i64 t344, .int .i64 t345], 2⟩, ⟨N351, [.int .i64 t343, .int .i64 t344, .int .i64 t345, .int .i64 t346, .int .i64 t347, .int .i64 t348, .int .i64 t349], 7⟩, ⟨b339, [.int .i64 0, .int .i64 0], 2⟩, ⟨b338, [.int .i64 2, .int .i64 s1_1, .int .i64 s1_2, .int .i64 s1_3, .int .i64 s1_4, .int .i64 s1_5, .int .i64 s1_6], 7⟩, ⟨b337, [.int .i64 a0_0, .int .i64 a0_1], 2⟩] : List Own) := by
        intro g360 g359 ng359 g358
        refine hstep [9] _ _ _ (by kernel_rfl) (List.cons_ne_nil _ _) ⟨?_, trivial⟩
        · show T _ _ _ _ _ _ _ _
          refine t_app1 (cs := [.int .i64 a0_1, .int .i64 t345]) (M := ng356) (F := ([⟨g360, [.int .i64 t347], 1⟩, ⟨g359, [.int .i64 a0_0, .int .i64 t344, .int .i64 t346], ng359⟩, ⟨g358, [.int .i64 t346], 1⟩, ⟨b357, [.int .i64 t346, .int .i64 t347], 2⟩, ⟨g355, [.int .i64 t345], 1⟩, ⟨g353, [.int .i64 t344], 1⟩, ⟨b352, [.int .i64 t344, .int .i64 t345], 2⟩, ⟨N351, [.int .i64 t343, .int .i64 t344, .int .i64 t345, .int .i64 t346, .int .i64 t347, .int .i64 t348, .int .i64 t349], 7⟩, ⟨b339, [.int .i64 0, .int .i64 0], 2⟩, ⟨b338, [.int .i64 2, .int .i64 s1_1, .int .i64 s1_2, .int .i64 s1_3, .int .i64 s1_4, .int .i64 s1_5, .int .i64 s1_6], 7⟩, ⟨b337, [.int .i64 a0_0, .int .i64 a0_1], 2⟩] : List Own)) (news := [.int .i64 t347]) rfl rfl rfl rfl (sel_perm (is := [4]) (by kernel_rfl)) (.at 0 rfl rfl) (by kernel_rfl) rfl rfl (by decide) (by decide) rfl fun g361 ng361 => ?_
          refine t_keep [2, 3, 8, 9, 10, 20, 21, 22, 30, 35] (σ' := [(2, .int .i64 i2), (3, .int .i64 n3), (8, .pointer (some ⟨b339, 0, none⟩)), (9, .slice (some ⟨g354, 0, none⟩) 2 (ng354 / 1)), (10, .slice (some ⟨g356, 0, none⟩) 2 (ng356 / 1)), (20, .slice (some ⟨N351, 1, none⟩) 2 3), (21, .int .i64 2), (22, .int .i64 1), (30, .slice (some ⟨g359, 0, none⟩) 3 (ng359 / 1)), (35, .slice (some ⟨g361, 0, none⟩) 3 (ng361 / 1))]) (by kernel_rfl) ?_
          refine t_end ?_
          exact ⟨hg_3ff g361 ng361 g360 g359 ng359 g358, rfl⟩
      have hg_ff : ∀ (g359 : Nat) (ng359 : Nat) (g358 : Nat), G [true, true, true, true, true, true, true, true, false, false, false, false] [(2, .int .i64 i2), (3, .int .i64 n3), (8, .pointer (some ⟨b339, 0, none⟩)), (9, .slice (some ⟨g354, 0, none⟩) 2 (ng354 / 1)), (10, .slice (some ⟨g356, 0, none⟩) 2 (ng356 / 1)), (20, .slice (some ⟨N351, 1, none⟩) 2 3), (21, .int .i64 2), (22, .int .i64 1), (30, .slice (some ⟨g359, 0, none⟩) 3 (ng359 / 1)), (31, .slice (some ⟨g356, 0, none⟩) 2 (ng356 / 1)), (33, .int .i64 t347)] ([⟨g359, [.int .i64 a0_0, .int .i64 t344, .int .i64 t346], ng359⟩, ⟨g358, [.int .i64 t346], 1⟩, ⟨b357, [.int .i64 t346, .int .i64 t347], 2⟩, ⟨g356, [.int .i64 a0_1, .int .i64 t345], ng356⟩, ⟨g355, [.int .i64 t345], 1⟩, ⟨g353, [.int .i64 t344], 1⟩, ⟨b352, [.int .i64 t344, .int .i64 t345], 2⟩, ⟨N351, [.int .i64 t343, .int .i64 t344, .int .i64 t345, .int .i64 t346, .int .i64 t347, .int .i64 t348, .int .i64 t349], 7⟩, ⟨b339, [.int .i64 0, .int .i64 0], 2⟩, ⟨b338, [.int .i64 2, .int .i64 s1_1, .int .i64 s1_2, .int .i64 s1_3, .int .i64 s1_4, .int .i64 s1_5, .int .i64 s1_6], 7⟩, ⟨b337, [.int .i64 a0_0, .int .i64 a0_1], 2⟩] : List Own) := by
        intro g359 ng359 g358
        refine hstep [8] _ _ _ (by kernel_rfl) (List.cons_ne_nil _ _) ⟨?_, trivial⟩
        · show T _ _ _ _ _ _ _ _
          refine t_a (.bsl rfl rfl rfl rfl) fun g360 fg360 sg360 => ?_
          refine t_keep [2, 3, 8, 9, 10, 20, 21, 22, 30, 31, 34] (σ' := [(2, .int .i64 i2), (3, .int .i64 n3), (8, .pointer (some ⟨b339, 0, none⟩)), (9, .slice (some ⟨g354, 0, none⟩) 2 (ng354 / 1)), (10, .slice (some ⟨g356, 0, none⟩) 2 (ng356 / 1)), (20, .slice (some ⟨N351, 1, none⟩) 2 3), (21, .int .i64 2), (22, .int .i64 1), (30, .slice (some ⟨g359, 0, none⟩) 3 (ng359 / 1)), (31, .slice (some ⟨g356, 0, none⟩) 2 (ng356 / 1)), (34, .slice (some ⟨g360, 0, none⟩) 1 1)]) (by kernel_rfl) ?_
          refine t_end ?_
          exact ⟨hg_1ff g360 g359 ng359 g358, rfl⟩
      have hg_1ef : ∀ (g360 : Nat) (g358 : Nat), G [true, true, true, true, false, true, true, true, true, false, false, false] [(2, .int .i64 i2), (3, .int .i64 n3), (8, .pointer (some ⟨b339, 0, none⟩)), (9, .slice (some ⟨g354, 0, none⟩) 2 (ng354 / 1)), (10, .slice (some ⟨g356, 0, none⟩) 2 (ng356 / 1)), (20, .slice (some ⟨N351, 1, none⟩) 2 3), (21, .int .i64 2), (22, .int .i64 1), (26, .slice (some ⟨g354, 0, none⟩) 2 (ng354 / 1)), (29, .slice (some ⟨g358, 0, none⟩) 1 1), (31, .slice (some ⟨g356, 0, none⟩) 2 (ng356 / 1)), (34, .slice (some ⟨g360, 0, none⟩) 1 1)] ([⟨g360, [.int .i64 t347], 1⟩, ⟨g358, [.int .i64 t346], 1⟩, ⟨b357, [.int .i64 t346, .int .i64 t347], 2⟩, ⟨g356, [.int .i64 a0_1, .int .i64 t345], ng356⟩, ⟨g355, [.int .i64 t345], 1⟩, ⟨g354, [.int .i64 a0_0, .int .i64 t344], ng354⟩, ⟨g353, [.int .i64 t344], 1⟩, ⟨b352, [.int .i64 t344, .int .i64 t345], 2⟩, ⟨N351, [.int .i64 t343, .int .i64 t344, .int .i64 t345, .int .i64 t346, .int .i64 t347, .int .i64 t348, .int .i64 t349], 7⟩, ⟨b339, [.int .i64 0, .int .i64 0], 2⟩, ⟨b338, [.int .i64 2, .int .i64 s1_1, .int .i64 s1_2, .int .i64 s1_3, .int .i64 s1_4, .int .i64 s1_5, .int .i64 s1_6], 7⟩, ⟨b337, [.int .i64 a0_0, .int .i64 a0_1], 2⟩] : List Own) := by
        intro g360 g358
        refine hstep [4] _ _ _ (by kernel_rfl) (List.cons_ne_nil _ _) ⟨?_, trivial⟩
        · show T _ _ _ _ _ _ _ _
          refine t_app1 (cs := [.int .i64 a0_0, .int .i64 t344]) (M := ng354) (F := ([⟨g360, [.int .i64 t347], 1⟩, ⟨g358, [.int .i64 t346], 1⟩, ⟨b357, [.int .i64 t346, .int .i64 t347], 2⟩, ⟨g356, [.int .i64 a0_1, .int .i64 t345], ng356⟩, ⟨g355, [.int .i64 t345], 1⟩, ⟨g353, [.int .i64 t344], 1⟩, ⟨b352, [.int .i64 t344, .int .i64 t345], 2⟩, ⟨N351, [.int .i64 t343, .int .i64 t344, .int .i64 t345, .int .i64 t346, .int .i64 t347, .int .i64 t348, .int .i64 t349], 7⟩, ⟨b339, [.int .i64 0, .int .i64 0], 2⟩, ⟨b338, [.int .i64 2, .int .i64 s1_1, .int .i64 s1_2, .int .i64 s1_3, .int .i64 s1_4, .int .i64 s1_5, .int .i64 s1_6], 7⟩, ⟨b337, [.int .i64 a0_0, .int .i64 a0_1], 2⟩] : List Own)) (news := [.int .i64 t346]) rfl rfl rfl rfl (sel_perm (is := [5]) (by kernel_rfl)) (.at 1 rfl rfl) (by kernel_rfl) rfl rfl (by decide) (by decide) rfl fun g359 ng359 => ?_
          refine t_keep [2, 3, 8, 9, 10, 20, 21, 22, 30, 31, 34] (σ' := [(2, .int .i64 i2), (3, .int .i64 n3), (8, .pointer (some ⟨b339, 0, none⟩)), (9, .slice (some ⟨g354, 0, none⟩) 2 (ng354 / 1)), (10, .slice (some ⟨g356, 0, none⟩) 2 (ng356 / 1)), (20, .slice (some ⟨N351, 1, none⟩) 2 3), (21, .int .i64 2), (22, .int .i64 1), (30, .slice (some ⟨g359, 0, none⟩) 3 (ng359 / 1)), (31, .slice (some ⟨g356, 0, none⟩) 2 (ng356 / 1)), (34, .slice (some ⟨g360, 0, none⟩) 1 1)]) (by kernel_rfl) ?_
          refine t_vs (H' := ([⟨g360, [.int .i64 t347], 1⟩, ⟨g359, [.int .i64 a0_0, .int .i64 t344, .int .i64 t346], ng359⟩, ⟨g358, [.int .i64 t346], 1⟩, ⟨b357, [.int .i64 t346, .int .i64 t347], 2⟩, ⟨g356, [.int .i64 a0_1, .int .i64 t345], ng356⟩, ⟨g355, [.int .i64 t345], 1⟩, ⟨g353, [.int .i64 t344], 1⟩, ⟨b352, [.int .i64 t344, .int .i64 t345], 2⟩, ⟨N351, [.int .i64 t343, .int .i64 t344, .int .i64 t345, .int .i64 t346, .int .i64 t347, .int .i64 t348, .int .i64 t349], 7⟩, ⟨b339, [.int .i64 0, .int .i64 0], 2⟩, ⟨b338, [.int .i64 2, .int .i64 s1_1, .int .i64 s1_2, .int .i64 s1_3, .int .i64 s1_4, .int .i64 s1_5, .int .i64 s1_6], 7⟩, ⟨b337, [.int .i64 a0_0, .int .i64 a0_1], 2⟩] : List Own)) (S' := S) (VS.sel [1, 0, 0, 0, 0, 0, 0, 0, 0, 0, 0, 0] (by kernel_rfl)) ?_
          refine t_end ?_
          exact ⟨hg_1ff g360 g359 ng359 g358, rfl⟩
      have hg_1e7 : ∀ (g360 : Nat), G [true, true, true, false, false, true, true, true, true, false, false, false] [(2, .int .i64 i2), (3, .int .i64 n3), (8, .pointer (some ⟨b339, 0, none⟩)), (9, .slice (some ⟨g354, 0, none⟩) 2 (ng354 / 1)), (10, .slice (some ⟨g356, 0, none⟩) 2 (ng356 / 1)), (20, .slice (some ⟨N351, 1, none⟩) 2 3), (21, .int .i64 2), (22, .int .i64 1), (26, .slice (some ⟨g354, 0, none⟩) 2 (ng354 / 1)), (28, .int .i64 t346), (31, .slice (some ⟨g356, 0, none⟩) 2 (ng356 / 1)), (34, .slice (some ⟨g360, 0, none⟩) 1 1)] ([⟨g360, [.int .i64 t347], 1⟩, ⟨b357, [.int .i64 t346, .int .i64 t347], 2⟩, ⟨g356, [.int .i64 a0_1, .int .i64 t345], ng356⟩, ⟨g355, [.int .i64 t345], 1⟩, ⟨g354, [.int .i64 a0_0, .int .i64 t344], ng354⟩, ⟨g353, [.int .i64 t344], 1⟩, ⟨b352, [.int .i64 t344, .int .i64 t345], 2⟩, ⟨N351, [.int .i64 t343, .int .i64 t344, .int .i64 t345, .int .i64 t346, .int .i64 t347, .int .i64 t348, .int .i64 t349], 7⟩, ⟨b339, [.int .i64 0, .int .i64 0], 2⟩, ⟨b338, [.int .i64 2, .int .i64 s1_1, .int .i64 s1_2, .int .i64 s1_3, .int .i64 s1_4, .int .i64 s1_5, .int .i64 s1_6], 7⟩, ⟨b337, [.int .i64 a0_0, .int .i64 a0_1], 2⟩] : List Own) := by
        intro g360
        refine hstep [3] _ _ _ (by kernel_rfl) (List.cons_ne_nil _ _) ⟨?_, trivial⟩
        · show T _ _ _ _ _ _ _ _
          refine t_a (.bsl rfl rfl rfl rfl) fun g358 fg358 sg358 => ?_
          refine t_keep [2, 3, 8, 9, 10, 20, 21, 22, 26, 29, 31, 34] (σ' := [(2, .int .i64 i2), (3, .int .i64 n3), (8, .pointer (some ⟨b339, 0, none⟩)), (9, .slice (some ⟨g354, 0, none⟩) 2 (ng354 / 1)), (10, .slice (some ⟨g356, 0, none⟩) 2 (ng356 / 1)), (20, .slice (some ⟨N351, 1, none⟩) 2 3), (21, .int .i64 2), (22, .int .i64 1), (26, .slice (some ⟨g354, 0, none⟩) 2 (ng354 / 1)), (29, .slice (some ⟨g358, 0, none⟩) 1 1), (31, .slice (some ⟨g356, 0, none⟩) 2 (ng356 / 1)), (34, .slice (some ⟨g360, 0, none⟩) 1 1)]) (by kernel_rfl) ?_
          refine t_vs (H' := ([⟨g360, [.int .i64 t347], 1⟩, ⟨g358, [.int .i64 t346], 1⟩, ⟨b357, [.int .i64 t346, .int .i64 t347], 2⟩, ⟨g356, [.int .i64 a0_1, .int .i64 t345], ng356⟩, ⟨g355, [.int .i64 t345], 1⟩, ⟨g354, [.int .i64 a0_0, .int .i64 t344], ng354⟩, ⟨g353, [.int .i64 t344], 1⟩, ⟨b352, [.int .i64 t344, .int .i64 t345], 2⟩, ⟨N351, [.int .i64 t343, .int .i64 t344, .int .i64 t345, .int .i64 t346, .int .i64 t347, .int .i64 t348, .int .i64 t349], 7⟩, ⟨b339, [.int .i64 0, .int .i64 0], 2⟩, ⟨b338, [.int .i64 2, .int .i64 s1_1, .int .i64 s1_2, .int .i64 s1_3, .int .i64 s1_4, .int .i64 s1_5, .int .i64 s1_6], 7⟩, ⟨b337, [.int .i64 a0_0, .int .i64 a0_1], 2⟩] : List Own)) (S' := S) (VS.sel [1, 0, 0, 0, 0, 0, 0, 0, 0, 0, 0, 0] (by kernel_rfl)) ?_
          refine t_end ?_
          exact ⟨hg_1ef g360 g358, rfl⟩
      have hg_ef : ∀ (g358 : Nat), G [true, true, true, true, false, true, true, true, false, false, false, false] [(2, .int .i64 i2), (3, .int .i64 n3), (8, .pointer (some ⟨b339, 0, none⟩)), (9, .slice (some ⟨g354, 0, none⟩) 2 (ng354 / 1)), (10, .slice (some ⟨g356, 0, none⟩) 2 (ng356 / 1)), (20, .slice (some ⟨N351, 1, none⟩) 2 3), (21, .int .i64 2), (22, .int .i64 1), (26, .slice (some ⟨g354, 0, none⟩) 2 (ng354 / 1)), (29, .slice (some ⟨g358, 0, none⟩) 1 1), (31, .slice (some ⟨g356, 0, none⟩) 2 (ng356 / 1)), (33, .int .i64 t347)] ([⟨g358, [.int .i64 t346], 1⟩, ⟨b357, [.int .i64 t346, .int .i64 t347], 2⟩, ⟨g356, [.int .i64 a0_1, .int .i64 t345], ng356⟩, ⟨g355, [.int .i64 t345], 1⟩, ⟨g354, [.int .i64 a0_0, .int .i64 t344], ng354⟩, ⟨g353, [.int .i64 t344], 1⟩, ⟨b352, [.int .i64 t344, .int .i64 t345], 2⟩, ⟨N351, [.int .i64 t343, .int .i64 t344, .int .i64 t345, .int .i64 t346, .int .i64 t347, .int .i64 t348, .int .i64 t349], 7⟩, ⟨b339, [.int .i64 0, .int .i64 0], 2⟩, ⟨b338, [.int .i64 2, .int .i64 s1_1, .int .i64 s1_2, .int .i64 s1_3, .int .i64 s1_4, .int .i64 s1_5, .int .i64 s1_6], 7⟩, ⟨b337, [.int .i64 a0_0, .int .i64 a0_1], 2⟩] : List Own) := by
        intro g358
        refine hstep [4, 8] _ _ _ (by kernel_rfl) (List.cons_ne_nil _ _) ⟨?_, ?_, trivial⟩
        · show T _ _ _ _ _ _ _ _
          refine t_app1 (cs := [.int .i64 a0_0, .int .i64 t344]) (M := ng354) (F := ([⟨g358, [.int .i64 t346], 1⟩, ⟨b357, [.int .i64 t346, .int .i64 t347], 2⟩, ⟨g356, [.int .i64 a0_1, .int .i64 t345], ng356⟩, ⟨g355, [.int .i64 t345], 1⟩, ⟨g353, [.int .i64 t344], 1⟩, ⟨b352, [.int .i64 t344, .int .i64 t345], 2⟩, ⟨N351, [.int .i64 t343, .int .i64 t344, .int .i64 t345, .int .i64 t346, .int .i64 t347, .int .i64 t348, .int .i64 t349], 7⟩, ⟨b339, [.int .i64 0, .int .i64 0], 2⟩, ⟨b338, [.int .i64 2, .int .i64 s1_1, .int .i64 s1_2, .int .i64 s1_3, .int .i64 s1_4, .int .i64 s1_5, .int .i64 s1_6], 7⟩, ⟨b337, [.int .i64 a0_0, .int .i64 a0_1], 2⟩] : List Own)) (news := [.int .i64 t346]) rfl rfl rfl rfl (sel_perm (is := [4]) (by kernel_rfl)) (.at 0 rfl rfl) (by kernel_rfl) rfl rfl (by decide) (by decide) rfl fun g359 ng359 => ?_
          refine t_keep [2, 3, 8, 9, 10, 20, 21, 22, 30, 31, 33] (σ' := [(2, .int .i64 i2), (3, .int .i64 n3), (8, .pointer (some ⟨b339, 0, none⟩)), (9, .slice (some ⟨g354, 0, none⟩) 2 (ng354 / 1)), (10, .slice (some ⟨g356, 0, none⟩) 2 (ng356 / 1)), (20, .slice (some ⟨N351, 1, none⟩) 2 3), (21, .int .i64 2), (22, .int .i64 1), (30, .slice (some ⟨g359, 0, none⟩) 3 (ng359 / 1)), (31, .slice (some ⟨g356, 0, none⟩) 2 (ng356 / 1)), (33, .int .i64 t347)]) (by kernel_rfl) ?_
          refine t_end ?_
          exact ⟨hg_ff g359 ng359 g358, rfl⟩
        · show T _ _ _ _ _ _ _ _
          refine t_a (.bsl rfl rfl rfl rfl) fun g360 fg360 sg360 => ?_
          refine t_keep [2, 3, 8, 9, 10, 20, 21, 22, 26, 29, 31, 34] (σ' := [(2, .int .i64 i2), (3, .int .i64 n3), (8, .pointer (some ⟨b339, 0, none⟩)), (9, .slice (some ⟨g354, 0, none⟩) 2 (ng354 / 1)), (10, .slice (some ⟨g356, 0, none⟩) 2 (ng356 / 1)), (20, .slice (some ⟨N351, 1, none⟩) 2 3), (21, .int .i64 2), (22, .int .i64 1), (26, .slice (some ⟨g354, 0, none⟩) 2 (ng354 / 1)), (29, .slice (some ⟨g358, 0, none⟩) 1 1), (31, .slice (some ⟨g356, 0, none⟩) 2 (ng356 / 1)), (34, .slice (some ⟨g360, 0, none⟩) 1 1)]) (by kernel_rfl) ?_
          refine t_end ?_
          exact ⟨hg_1ef g360 g358, rfl⟩
      have hg_7f : ∀ (g359 : Nat) (ng359 : Nat) (g358 : Nat), G [true, true, true, true, true, true, true, false, false, false, false, false] [(2, .int .i64 i2), (3, .int .i64 n3), (8, .pointer (some ⟨b339, 0, none⟩)), (9, .slice (some ⟨g354, 0, none⟩) 2 (ng354 / 1)), (10, .slice (some ⟨g356, 0, none⟩) 2 (ng356 / 1)), (20, .slice (some ⟨N351, 1, none⟩) 2 3), (21, .int .i64 2), (22, .int .i64 1), (30, .slice (some ⟨g359, 0, none⟩) 3 (ng359 / 1)), (31, .slice (some ⟨g356, 0, none⟩) 2 (ng356 / 1)), (32, .pointer (some ⟨b357, 1, none⟩))] ([⟨g359, [.int .i64 a0_0, .int .i64 t344, .int .i64 t346], ng359⟩, ⟨g358, [.int .i64 t346], 1⟩, ⟨b357, [.int .i64 t346, .int .i64 t347], 2⟩, ⟨g356, [.int .i64 a0_1, .int .i64 t345], ng356⟩, ⟨g355, [.int .i64 t345], 1⟩, ⟨g353, [.int .i64 t344], 1⟩, ⟨b352, [.int .i64 t344, .int .i64 t345], 2⟩, ⟨N351, [.int .i64 t343, .int .i64 t344, .int .i64 t345, .int .i64 t346, .int .i64 t347, .int .i64 t348, .int .i64 t349], 7⟩, ⟨b339, [.int .i64 0, .int .i64 0], 2⟩, ⟨b338, [.int .i64 2, .int .i64 s1_1, .int .i64 s1_2, .int .i64 s1_3, .int .i64 s1_4, .int .i64 s1_5, .int .i64 s1_6], 7⟩, ⟨b337, [.int .i64 a0_0, .int .i64 a0_1], 2⟩] : List Own) := by
        intro g359 ng359 g358
        refine hstep [7] _ _ _ (by kernel_rfl) (List.cons_ne_nil _ _) ⟨?_, trivial⟩
        · show T _ _ _ _ _ _ _ _
          refine t_v (.ld1 rfl rfl rfl (.at 2 rfl rfl)) ?_
          refine t_keep [2, 3, 8, 9, 10, 20, 21, 22, 30, 31, 33] (σ' := [(2, .int .i64 i2), (3, .int .i64 n3), (8, .pointer (some ⟨b339, 0, none⟩)), (9, .slice (some ⟨g354, 0, none⟩) 2 (ng354 / 1)), (10, .slice (some ⟨g356, 0, none⟩) 2 (ng356 / 1)), (20, .slice (some ⟨N351, 1, none⟩) 2 3), (21, .int .i64 2), (22, .int .i64 1), (30, .slice (some ⟨g359, 0, none⟩) 3 (ng359 / 1)), (31, .slice (some ⟨g356, 0, none⟩) 2 (ng356 / 1)), (33, .int .i64 t347)]) (by kernel_rfl) ?_
          refine t_end ?_
          exact ⟨hg_ff g359 ng359 g358, rfl⟩
      have hg_1e3 : ∀ (g360 : Nat), G [true, true, false, false, false, true, true, true, true, false, false, false] [(2, .int .i64 i2), (3, .int .i64 n3), (8, .pointer (some ⟨b339, 0, none⟩)), (9, .slice (some ⟨g354, 0, none⟩) 2 (ng354 / 1)), (10, .slice (some ⟨g356, 0, none⟩) 2 (ng356 / 1)), (20, .slice (some ⟨N351, 1, none⟩) 2 3), (21, .int .i64 2), (22, .int .i64 1), (26, .slice (some ⟨g354, 0, none⟩) 2 (ng354 / 1)), (27, .pointer (some ⟨b357, 0, none⟩)), (31, .slice (some ⟨g356, 0, none⟩) 2 (ng356 / 1)), (34, .slice (some ⟨g360, 0, none⟩) 1 1)] ([⟨g360, [.int .i64 t347], 1⟩, ⟨b357, [.int .i64 t346, .int .i64 t347], 2⟩, ⟨g356, [.int .i64 a0_1, .int .i64 t345], ng356⟩, ⟨g355, [.int .i64 t345], 1⟩, ⟨g354, [.int .i64 a0_0, .int .i64 t344], ng354⟩, ⟨g353, [.int .i64 t344], 1⟩, ⟨b352, [.int .i64 t344, .int .i64 t345], 2⟩, ⟨N351, [.int .i64 t343, .int .i64 t344, .int .i64 t345, .int .i64 t346, .int .i64 t347, .int .i64 t348, .int .i64 t349], 7⟩, ⟨b339, [.int .i64 0, .int .i64 0], 2⟩, ⟨b338, [.int .i64 2, .int .i64 s1_1, .int .i64 s1_2, .int .i64 s1_3, .int .i64 s1_4, .int .i64 s1_5, .int .i64 s1_6], 7⟩, ⟨b337, [.int .i64 a0_0, .int .i64 a0_1], 2⟩] : List Own) := by
        intro g360
        refine hstep [2] _ _ _ (by kernel_rfl) (List.cons_ne_nil _ _) ⟨?_, trivial⟩
        · show T _ _ _ _ _ _ _ _
          refine t_v (.ld1 rfl rfl rfl (.at 1 rfl rfl)) ?_
          refine t_keep [2, 3, 8, 9, 10, 20, 21, 22, 26, 28, 31, 34] (σ' := [(2, .int .i64 i2), (3, .int .i64 n3), (8, .pointer (some ⟨b339, 0, none⟩)), (9, .slice (some ⟨g354, 0, none⟩) 2 (ng354 / 1)), (10, .slice (some ⟨g356, 0, none⟩) 2 (ng356 / 1)), (20, .slice (some ⟨N351, 1, none⟩) 2 3), (21, .int .i64 2), (22, .int .i64 1), (26, .slice (some ⟨g354, 0, none⟩) 2 (ng354 / 1)), (28, .int .i64 t346), (31, .slice (some ⟨g356, 0, none⟩) 2 (ng356 / 1)), (34, .slice (some ⟨g360, 0, none⟩) 1 1)]) (by kernel_rfl) ?_
          refine t_end ?_
          exact ⟨hg_1e7 g360, rfl⟩
      have hg_e7 : G [true, true, true, false, false, true, true, true, false, false, false, false] [(2, .int .i64 i2), (3, .int .i64 n3), (8, .pointer (some ⟨b339, 0, none⟩)), (9, .slice (some ⟨g354, 0, none⟩) 2 (ng354 / 1)), (10, .slice (some ⟨g356, 0, none⟩) 2 (ng356 / 1)), (20, .slice (some ⟨N351, 1, none⟩) 2 3), (21, .int .i64 2), (22, .int .i64 1), (26, .slice (some ⟨g354, 0, none⟩) 2 (ng354 / 1)), (28, .int .i64 t346), (31, .slice (some ⟨g356, 0, none⟩) 2 (ng356 / 1)), (33, .int .i64 t347)] ([⟨b357, [.int .i64 t346, .int .i64 t347], 2⟩, ⟨g356, [.int .i64 a0_1, .int .i64 t345], ng356⟩, ⟨g355, [.int .i64 t345], 1⟩, ⟨g354, [.int .i64 a0_0, .int .i64 t344], ng354⟩, ⟨g353, [.int .i64 t344], 1⟩, ⟨b352, [.int .i64 t344, .int .i64 t345], 2⟩, ⟨N351, [.int .i64 t343, .int .i64 t344, .int .i64 t345, .int .i64 t346, .int .i64 t347, .int .i64 t348, .int .i64 t349], 7⟩, ⟨b339, [.int .i64 0, .int .i64 0], 2⟩, ⟨b338, [.int .i64 2, .int .i64 s1_1, .int .i64 s1_2, .int .i64 s1_3, .int .i64 s1_4, .int .i64 s1_5, .int .i64 s1_6], 7⟩, ⟨b337, [.int .i64 a0_0, .int .i64 a0_1], 2⟩] : List Own) := by
        refine hstep [3, 8] _ _ _ (by kernel_rfl) (List.cons_ne_nil _ _) ⟨?_, ?_, trivial⟩
        · show T _ _ _ _ _ _ _ _
          refine t_a (.bsl rfl rfl rfl rfl) fun g358 fg358 sg358 => ?_
          refine t_keep [2, 3, 8, 9, 10, 20, 21, 22, 26, 29, 31, 33] (σ' := [(2, .int .i64 i2), (3, .int .i64 n3), (8, .pointer (some ⟨b339, 0, none⟩)), (9, .slice (some ⟨g354, 0, none⟩) 2 (ng354 / 1)), (10, .slice (some ⟨g356, 0, none⟩) 2 (ng356 / 1)), (20, .slice (some ⟨N351, 1, none⟩) 2 3), (21, .int .i64 2), (22, .int .i64 1), (26, .slice (some ⟨g354, 0, none⟩) 2 (ng354 / 1)), (29, .slice (some ⟨g358, 0, none⟩) 1 1), (31, .slice (some ⟨g356, 0, none⟩) 2 (ng356 / 1)), (33, .int .i64 t347)]) (by kernel_rfl) ?_
          refine t_end ?_
          exact ⟨hg_ef g358, rfl⟩
        · show T _ _ _ _ _ _ _ _
          refine t_a (.bsl rfl rfl rfl rfl) fun g360 fg360 sg360 => ?_
          refine t_keep [2, 3, 8, 9, 10, 20, 21, 22, 26, 28, 31, 34] (σ' := [(2, .int .i64 i2), (3, .int .i64 n3), (8, .pointer (some ⟨b339, 0, none⟩)), (9, .slice (some ⟨g354, 0, none⟩) 2 (ng354 / 1)), (10, .slice (some ⟨g356, 0, none⟩) 2 (ng356 / 1)), (20, .slice (some ⟨N351, 1, none⟩) 2 3), (21, .int .i64 2), (22, .int .i64 1), (26, .slice (some ⟨g354, 0, none⟩) 2 (ng354 / 1)), (28, .int .i64 t346), (31, .slice (some ⟨g356, 0, none⟩) 2 (ng356 / 1)), (34, .slice (some ⟨g360, 0, none⟩) 1 1)]) (by kernel_rfl) ?_
          refine t_end ?_
          exact ⟨hg_1e7 g360, rfl⟩
      have hg_6f : ∀ (g358 : Nat), G [true, true, true, true, false, true, true, false, false, false, false, false] [(2, .int .i64 i2), (3, .int .i64 n3), (8, .pointer (some ⟨b339, 0, none⟩)), (9, .slice (some ⟨g354, 0, none⟩) 2 (ng354 / 1)), (10, .slice (some ⟨g356, 0, none⟩) 2 (ng356 / 1)), (20, .slice (some ⟨N351, 1, none⟩) 2 3), (21, .int .i64 2), (22, .int .i64 1), (26, .slice (some ⟨g354, 0, none⟩) 2 (ng354 / 1)), (29, .slice (some ⟨g358, 0, none⟩) 1 1), (31, .slice (some ⟨g356, 0, none⟩) 2 (ng356 / 1)), (32, .pointer (some ⟨b357, 1, none⟩))] ([⟨g358, [.int .i64 t346], 1⟩, ⟨b357, [.int .i64 t346, .int .i64 t347], 2⟩, ⟨g356, [.int .i64 a0_1, .int .i64 t345], ng356⟩, ⟨g355, [.int .i64 t345], 1⟩, ⟨g354, [.int .i64 a0_0, .int .i64 t344], ng354⟩, ⟨g353, [.int .i64 t344], 1⟩, ⟨b352, [.int .i64 t344, .int .i64 t345], 2⟩, ⟨N351, [.int .i64 t343, .int .i64 t344, .int .i64 t345, .int .i64 t346, .int .i64 t347, .int .i64 t348, .int .i64 t349], 7⟩, ⟨b339, [.int .i64 0, .int .i64 0], 2⟩, ⟨b338, [.int .i64 2, .int .i64 s1_1, .int .i64 s1_2, .int .i64 s1_3, .int .i64 s1_4, .int .i64 s1_5, .int .i64 s1_6], 7⟩, ⟨b337, [.int .i64 a0_0, .int .i64 a0_1], 2⟩] : List Own) := by
        intro g358
        refine hstep [4, 7] _ _ _ (by kernel_rfl) (List.cons_ne_nil _ _) ⟨?_, ?_, trivial⟩
        · show T _ _ _ _ _ _ _ _
          refine t_app1 (cs := [.int .i64 a0_0, .int .i64 t344]) (M := ng354) (F := ([⟨g358, [.int .i64 t346], 1⟩, ⟨b357, [.int .i64 t346, .int .i64 t347], 2⟩, ⟨g356, [.int .i64 a0_1, .int .i64 t345], ng356⟩, ⟨g355, [.int .i64 t345], 1⟩, ⟨g353, [.int .i64 t344], 1⟩, ⟨b352, [.int .i64 t344, .int .i64 t345], 2⟩, ⟨N351, [.int .i64 t343, .int .i64 t344, .int .i64 t345, .int .i64 t346, .int .i64 t347, .int .i64 t348, .int .i64 t349], 7⟩, ⟨b339, [.int .i64 0, .int .i64 0], 2⟩, ⟨b338, [.int .i64 2, .int .i64 s1_1, .int .i64 s1_2, .int .i64 s1_3, .int .i64 s1_4, .int .i64 s1_5, .int .i64 s1_6], 7⟩, ⟨b337, [.int .i64 a0_0, .int .i64 a0_1], 2⟩] : List Own)) (news := [.int .i64 t346]) rfl rfl rfl rfl (sel_perm (is := [4]) (by kernel_rfl)) (.at 0 rfl rfl) (by kernel_rfl) rfl rfl (by decide) (by decide) rfl fun g359 ng359 => ?_
          refine t_keep [2, 3, 8, 9, 10, 20, 21, 22, 30, 31, 32] (σ' := [(2, .int .i64 i2), (3, .int .i64 n3), (8, .pointer (some ⟨b339, 0, none⟩)), (9, .slice (some ⟨g354, 0, none⟩) 2 (ng354 / 1)), (10, .slice (some ⟨g356, 0, none⟩) 2 (ng356 / 1)), (20, .slice (some ⟨N351, 1, none⟩) 2 3), (21, .int .i64 2), (22, .int .i64 1), (30, .slice (some ⟨g359, 0, none⟩) 3 (ng359 / 1)), (31, .slice (some ⟨g356, 0, none⟩) 2 (ng356 / 1)), (32, .pointer (some ⟨b357, 1, none⟩))]) (by kernel_rfl) ?_
          refine t_end ?_
          exact ⟨hg_7f g359 ng359 g358, rfl⟩
        · show T _ _ _ _ _ _ _ _
          refine t_v (.ld1 rfl rfl rfl (.at 1 rfl rfl)) ?_
          refine t_keep [2, 3, 8, 9, 10, 20, 21, 22, 26, 29, 31, 33] (σ' := [(2, .int .i64 i2), (3, .int .i64 n3), (8, .pointer (some ⟨b339, 0, none⟩)), (9, .slice (some ⟨g354, 0, none⟩) 2 (ng354 / 1)), (10, .slice (some ⟨g356, 0, none⟩) 2 (ng356 / 1)), (20, .slice (some ⟨N351, 1, none⟩) 2 3), (21, .int .i64 2), (22, .int .i64 1), (26, .slice (some ⟨g354, 0, none⟩) 2 (ng354 / 1)), (29, .slice (some ⟨g358, 0, none⟩) 1 1), (31, .slice (some ⟨g356, 0, none⟩) 2 (ng356 / 1)), (33, .int .i64 t347)]) (by kernel_rfl) ?_
          refine t_end ?_
          exact ⟨hg_ef g358, rfl⟩
      have hg_e3 : G [true, true, false, false, false, true, true, true, false, false, false, false] [(2, .int .i64 i2), (3, .int .i64 n3), (8, .pointer (some ⟨b339, 0, none⟩)), (9, .slice (some ⟨g354, 0, none⟩) 2 (ng354 / 1)), (10, .slice (some ⟨g356, 0, none⟩) 2 (ng356 / 1)), (20, .slice (some ⟨N351, 1, none⟩) 2 3), (21, .int .i64 2), (22, .int .i64 1), (26, .slice (some ⟨g354, 0, none⟩) 2 (ng354 / 1)), (27, .pointer (some ⟨b357, 0, none⟩)), (31, .slice (some ⟨g356, 0, none⟩) 2 (ng356 / 1)), (33, .int .i64 t347)] ([⟨b357, [.int .i64 t346, .int .i64 t347], 2⟩, ⟨g356, [.int .i64 a0_1, .int .i64 t345], ng356⟩, ⟨g355, [.int .i64 t345], 1⟩, ⟨g354, [.int .i64 a0_0, .int .i64 t344], ng354⟩, ⟨g353, [.int .i64 t344], 1⟩, ⟨b352, [.int .i64 t344, .int .i64 t345], 2⟩, ⟨N351, [.int .i64 t343, .int .i64 t344, .int .i64 t345, .int .i64 t346, .int .i64 t347, .int .i64 t348, .int .i64 t349], 7⟩, ⟨b339, [.int .i64 0, .int .i64 0], 2⟩, ⟨b338, [.int .i64 2, .int .i64 s1_1, .int .i64 s1_2, .int .i64 s1_3, .int .i64 s1_4, .int .i64 s1_5, .int .i64 s1_6], 7⟩, ⟨b337, [.int .i64 a0_0, .int .i64 a0_1], 2⟩] : List Own) := by
        refine hstep [2, 8] _ _ _ (by kernel_rfl) (List.cons_ne_nil _ _) ⟨?_, ?_, trivial⟩
        · show T _ _ _ _ _ _ _ _
          refine t_v (.ld1 rfl rfl rfl (.at 0 rfl rfl)) ?_
          refine t_keep [2, 3, 8, 9, 10, 20, 21, 22, 26, 28, 31, 33] (σ' := [(2, .int .i64 i2), (3, .int .i64 n3), (8, .pointer (some ⟨b339, 0, none⟩)), (9, .slice (some ⟨g354, 0, none⟩) 2 (ng354 / 1)), (10, .slice (some ⟨g356, 0, none⟩) 2 (ng356 / 1)), (20, .slice (some ⟨N351, 1, none⟩) 2 3), (21, .int .i64 2), (22, .int .i64 1), (26, .slice (some ⟨g354, 0, none⟩) 2 (ng354 / 1)), (28, .int .i64 t346), (31, .slice (some ⟨g356, 0, none⟩) 2 (ng356 / 1)), (33, .int .i64 t347)]) (by kernel_rfl) ?_
          refine t_end ?_
          exact ⟨hg_e7, rfl⟩
        · show T _ _ _ _ _ _ _ _
          refine t_a (.bsl rfl rfl rfl rfl) fun g360 fg360 sg360 => ?_
          refine t_keep [2, 3, 8, 9, 10, 20, 21, 22, 26, 27, 31, 34] (σ' := [(2, .int .i64 i2), (3, .int .i64 n3), (8, .pointer (some ⟨b339, 0, none⟩)), (9, .slice (some ⟨g354, 0, none⟩) 2 (ng354 / 1)), (10, .slice (some ⟨g356, 0, none⟩) 2 (ng356 / 1)), (20, .slice (some ⟨N351, 1, none⟩) 2 3), (21, .int .i64 2), (22, .int .i64 1), (26, .slice (some ⟨g354, 0, none⟩) 2 (ng354 / 1)), (27, .pointer (some ⟨b357, 0, none⟩)), (31, .slice (some ⟨g356, 0, none⟩) 2 (ng356 / 1)), (34, .slice (some ⟨g360, 0, none⟩) 1 1)]) (by kernel_rfl) ?_
          refine t_end ?_
          exact ⟨hg_1e3 g360, rfl⟩
      have hg_67 : G [true, true, true, false, false, true, true, false, false, false, false, false] [(2, .int .i64 i2), (3, .int .i64 n3), (8, .pointer (some ⟨b339, 0, none⟩)), (9, .slice (some ⟨g354, 0, none⟩) 2 (ng354 / 1)), (10, .slice (some ⟨g356, 0, none⟩) 2 (ng356 / 1)), (20, .slice (some ⟨N351, 1, none⟩) 2 3), (21, .int .i64 2), (22, .int .i64 1), (26, .slice (some ⟨g354, 0, none⟩) 2 (ng354 / 1)), (28, .int .i64 t346), (31, .slice (some ⟨g356, 0, none⟩) 2 (ng356 / 1)), (32, .pointer (some ⟨b357, 1, none⟩))] ([⟨b357, [.int .i64 t346, .int .i64 t347], 2⟩, ⟨g356, [.int .i64 a0_1, .int .i64 t345], ng356⟩, ⟨g355, [.int .i64 t345], 1⟩, ⟨g354, [.int .i64 a0_0, .int .i64 t344], ng354⟩, ⟨g353, [.int .i64 t344], 1⟩, ⟨b352, [.int .i64 t344, .int .i64 t345], 2⟩, ⟨N351, [.int .i64 t343, .int .i64 t344, .int .i64 t345, .int .i64 t346, .int .i64 t347, .int .i64 t348, .int .i64 t349], 7⟩, ⟨b339, [.int .i64 0, .int .i64 0], 2⟩, ⟨b338, [.int .i64 2, .int .i64 s1_1, .int .i64 s1_2, .int .i64 s1_3, .int .i64 s1_4, .int .i64 s1_5, .int .i64 s1_6], 7⟩, ⟨b337, [.int .i64 a0_0, .int .i64 a0_1], 2⟩] : List Own) := by
        refine hstep [3, 7] _ _ _ (by kernel_rfl) (List.cons_ne_nil _ _) ⟨?_, ?_, trivial⟩
        · show T _ _ _ _ _ _ _ _
          refine t_a (.bsl rfl rfl rfl rfl) fun g358 fg358 sg358 => ?_
          refine t_keep [2, 3, 8, 9, 10, 20, 21, 22, 26, 29, 31, 32] (σ' := [(2, .int .i64 i2), (3, .int .i64 n3), (8, .pointer (some ⟨b339, 0, none⟩)), (9, .slice (some ⟨g354, 0, none⟩) 2 (ng354 / 1)), (10, .slice (some ⟨g356, 0, none⟩) 2 (ng356 / 1)), (20, .slice (some ⟨N351, 1, none⟩) 2 3), (21, .int .i64 2), (22, .int .i64 1), (26, .slice (some ⟨g354, 0, none⟩) 2 (ng354 / 1)), (29, .slice (some ⟨g358, 0, none⟩) 1 1), (31, .slice (some ⟨g356, 0, none⟩) 2 (ng356 / 1)), (32, .pointer (some ⟨b357, 1, none⟩))]) (by kernel_rfl) ?_
          refine t_end ?_
          exact ⟨hg_6f g358, rfl⟩
        · show T _ _ _ _ _ _ _ _
          refine t_v (.ld1 rfl rfl rfl (.at 0 rfl rfl)) ?_
          refine t_keep [2, 3, 8, 9, 10, 20, 21, 22, 26, 28, 31, 33] (σ' := [(2, .int .i64 i2), (3, .int .i64 n3), (8, .pointer (some ⟨b339, 0, none⟩)), (9, .slice (some ⟨g354, 0, none⟩) 2 (ng354 / 1)), (10, .slice (some ⟨g356, 0, none⟩) 2 (ng356 / 1)), (20, .slice (some ⟨N351, 1, none⟩) 2 3), (21, .int .i64 2), (22, .int .i64 1), (26, .slice (some ⟨g354, 0, none⟩) 2 (ng354 / 1)), (28, .int .i64 t346), (31, .slice (some ⟨g356, 0, none⟩) 2 (ng356 / 1)), (33, .int .i64 t347)]) (by kernel_rfl) ?_
          refine t_end ?_
          exact ⟨hg_e7, rfl⟩
      have hg_63 : G [true, true, false, false, false, true, true, false, false, false, false, false] [(2, .int .i64 i2), (3, .int .i64 n3), (8, .pointer (some ⟨b339, 0, none⟩)), (9, .slice (some ⟨g354, 0, none⟩) 2 (ng354 / 1)), (10, .slice (some ⟨g356, 0, none⟩) 2 (ng356 / 1)), (20, .slice (some ⟨N351, 1, none⟩) 2 3), (21, .int .i64 2), (22, .int .i64 1), (26, .slice (some ⟨g354, 0, none⟩) 2 (ng354 / 1)), (27, .pointer (some ⟨b357, 0, none⟩)), (31, .slice (some ⟨g356, 0, none⟩) 2 (ng356 / 1)), (32, .pointer (some ⟨b357, 1, none⟩))] ([⟨b357, [.int .i64 t346, .int .i64 t347], 2⟩, ⟨g356, [.int .i64 a0_1, .int .i64 t345], ng356⟩, ⟨g355, [.int .i64 t345], 1⟩, ⟨g354, [.int .i64 a0_0, .int .i64 t344], ng354⟩, ⟨g353, [.int .i64 t344], 1⟩, ⟨b352, [.int .i64 t344, .int .i64 t345], 2⟩, ⟨N351, [.int .i64 t343, .int .i64 t344, .int .i64 t345, .int .i64 t346, .int .i64 t347, .int .i64 t348, .int .i64 t349], 7⟩, ⟨b339, [.int .i64 0, .int .i64 0], 2⟩, ⟨b338, [.int .i64 2, .int .i64 s1_1, .int .i64 s1_2, .int .i64 s1_3, .int .i64 s1_4, .int .i64 s1_5, .int .i64 s1_6], 7⟩, ⟨b337, [.int .i64 a0_0, .int .i64 a0_1], 2⟩] : List Own) := by
        refine hstep [2, 7] _ _ _ (by kernel_rfl) (List.cons_ne_nil _ _) ⟨?_, ?_, trivial⟩
        · show T _ _ _ _ _ _ _ _
          refine t_v (.ld1 rfl rfl rfl (.at 0 rfl rfl)) ?_
          refine t_keep [2, 3, 8, 9, 10, 20, 21, 22, 26, 28, 31, 32] (σ' := [(2, .int .i64 i2), (3, .int .i64 n3), (8, .pointer (some ⟨b339, 0, none⟩)), (9, .slice (some ⟨g354, 0, none⟩) 2 (ng354 / 1)), (10, .slice (some ⟨g356, 0, none⟩) 2 (ng356 / 1)), (20, .slice (some ⟨N351, 1, none⟩) 2 3), (21, .int .i64 2), (22, .int .i64 1), (26, .slice (some ⟨g354, 0, none⟩) 2 (ng354 / 1)), (28, .int .i64 t346), (31, .slice (some ⟨g356, 0, none⟩) 2 (ng356 / 1)), (32, .pointer (some ⟨b357, 1, none⟩))]) (by kernel_rfl) ?_
          refine t_end ?_
          exact ⟨hg_67, rfl⟩
        · show T _ _ _ _ _ _ _ _
          refine t_v (.ld1 rfl rfl rfl (.at 0 rfl rfl)) ?_
          refine t_keep [2, 3, 8, 9, 10, 20, 21, 22, 26, 27, 31, 33] (σ' := [(2, .int .i64 i2), (3, .int .i64 n3), (8, .pointer (some ⟨b339, 0, none⟩)), (9, .slice (some ⟨g354, 0, none⟩) 2 (ng354 / 1)), (10, .slice (some ⟨g356, 0, none⟩) 2 (ng356 / 1)), (20, .slice (some ⟨N351, 1, none⟩) 2 3), (21, .int .i64 2), (22, .int .i64 1), (26, .slice (some ⟨g354, 0, none⟩) 2 (ng354 / 1)), (27, .pointer (some ⟨b357, 0, none⟩)), (31, .slice (some ⟨g356, 0, none⟩) 2 (ng356 / 1)), (33, .int .i64 t347)]) (by kernel_rfl) ?_
          refine t_end ?_
          exact ⟨hg_e3, rfl⟩
      have hg_23 : G [true, true, false, false, false, true, false, false, false, false, false, false] [(2, .int .i64 i2), (3, .int .i64 n3), (8, .pointer (some ⟨b339, 0, none⟩)), (9, .slice (some ⟨g354, 0, none⟩) 2 (ng354 / 1)), (10, .slice (some ⟨g356, 0, none⟩) 2 (ng356 / 1)), (12, .pointer (some ⟨b357, 0, none⟩)), (20, .slice (some ⟨N351, 1, none⟩) 2 3), (21, .int .i64 2), (22, .int .i64 1), (26, .slice (some ⟨g354, 0, none⟩) 2 (ng354 / 1)), (27, .pointer (some ⟨b357, 0, none⟩)), (31, .slice (some ⟨g356, 0, none⟩) 2 (ng356 / 1))] ([⟨b357, [.int .i64 t346, .int .i64 t347], 2⟩, ⟨g356, [.int .i64 a0_1, .int .i64 t345], ng356⟩, ⟨g355, [.int .i64 t345], 1⟩, ⟨g354, [.int .i64 a0_0, .int .i64 t344], ng354⟩, ⟨g353, [.int .i64 t344], 1⟩, ⟨b352, [.int .i64 t344, .int .i64 t345], 2⟩, ⟨N351, [.int .i64 t343, .int .i64 t344, .int .i64 t345, .int .i64 t346, .int .i64 t347, .int .i64 t348, .int .i64 t349], 7⟩, ⟨b339, [.int .i64 0, .int .i64 0], 2⟩, ⟨b338, [.int .i64 2, .int .i64 s1_1, .int .i64 s1_2, .int .i64 s1_3, .int .i64 s1_4, .int .i64 s1_5, .int .i64 s1_6], 7⟩, ⟨b337, [.int .i64 a0_0, .int .i64 a0_1], 2⟩] : List Own) := by
        exact hqf 6 [2, 3, 8, 9, 10, 20, 21, 22, 26, 27, 31, 32] _ _ _ [(2, .int .i64 i2), (3, .int .i64 n3), (8, .pointer (some ⟨b339, 0, none⟩)), (9, .slice (some ⟨g354, 0, none⟩) 2 (ng354 / 1)), (10, .slice (some ⟨g356, 0, none⟩) 2 (ng356 / 1)), (20, .slice (some ⟨N351, 1, none⟩) 2 3), (21, .int .i64 2), (22, .int .i64 1), (26, .slice (some ⟨g354, 0, none⟩) 2 (ng354 / 1)), (27, .pointer (some ⟨b357, 0, none⟩)), (31, .slice (some ⟨g356, 0, none⟩) 2 (ng356 / 1)), (32, .pointer (some ⟨b357, 1, none⟩))] (by kernel_rfl) (by kernel_rfl) hg_63
      have hg_3 : G [true, true, false, false, false, false, false, false, false, false, false, false] [(2, .int .i64 i2), (3, .int .i64 n3), (8, .pointer (some ⟨b339, 0, none⟩)), (9, .slice (some ⟨g354, 0, none⟩) 2 (ng354 / 1)), (10, .slice (some ⟨g356, 0, none⟩) 2 (ng356 / 1)), (12, .pointer (some ⟨b357, 0, none⟩)), (20, .slice (some ⟨N351, 1, none⟩) 2 3), (21, .int .i64 2), (22, .int .i64 1), (26, .slice (some ⟨g354, 0, none⟩) 2 (ng354 / 1)), (27, .pointer (some ⟨b357, 0, none⟩))] ([⟨b357, [.int .i64 t346, .int .i64 t347], 2⟩, ⟨g356, [.int .i64 a0_1, .int .i64 t345], ng356⟩, ⟨g355, [.int .i64 t345], 1⟩, ⟨g354, [.int .i64 a0_0, .int .i64 t344], ng354⟩, ⟨g353, [.int .i64 t344], 1⟩, ⟨b352, [.int .i64 t344, .int .i64 t345], 2⟩, ⟨N351, [.int .i64 t343, .int .i64 t344, .int .i64 t345, .int .i64 t346, .int .i64 t347, .int .i64 t348, .int .i64 t349], 7⟩, ⟨b339, [.int .i64 0, .int .i64 0], 2⟩, ⟨b338, [.int .i64 2, .int .i64 s1_1, .int .i64 s1_2, .int .i64 s1_3, .int .i64 s1_4, .int .i64 s1_5, .int .i64 s1_6], 7⟩, ⟨b337, [.int .i64 a0_0, .int .i64 a0_1], 2⟩] : List Own) := by
        exact hqf 5 [2, 3, 8, 9, 10, 12, 20, 21, 22, 26, 27, 31] _ _ _ [(2, .int .i64 i2), (3, .int .i64 n3), (8, .pointer (some ⟨b339, 0, none⟩)), (9, .slice (some ⟨g354, 0, none⟩) 2 (ng354 / 1)), (10, .slice (some ⟨g356, 0, none⟩) 2 (ng356 / 1)), (12, .pointer (some ⟨b357, 0, none⟩)), (20, .slice (some ⟨N351, 1, none⟩) 2 3), (21, .int .i64 2), (22, .int .i64 1), (26, .slice (some ⟨g354, 0, none⟩) 2 (ng354 / 1)), (27, .pointer (some ⟨b357, 0, none⟩)), (31, .slice (some ⟨g356, 0, none⟩) 2 (ng356 / 1))] (by kernel_rfl) (by kernel_rfl) hg_23
      have hg_1 : G [true, false, false, false, false, false, false, false, false, false, false, false] [(2, .int .i64 i2), (3, .int .i64 n3), (8, .pointer (some ⟨b339, 0, none⟩)), (9, .slice (some ⟨g354, 0, none⟩) 2 (ng354 / 1)), (10, .slice (some ⟨g356, 0, none⟩) 2 (ng356 / 1)), (12, .pointer (some ⟨b357, 0, none⟩)), (20, .slice (some ⟨N351, 1, none⟩) 2 3), (21, .int .i64 2), (22, .int .i64 1), (26, .slice (some ⟨g354, 0, none⟩) 2 (ng354 / 1))] ([⟨b357, [.int .i64 t346, .int .i64 t347], 2⟩, ⟨g356, [.int .i64 a0_1, .int .i64 t345], ng356⟩, ⟨g355, [.int .i64 t345], 1⟩, ⟨g354, [.int .i64 a0_0, .int .i64 t344], ng354⟩, ⟨g353, [.int .i64 t344], 1⟩, ⟨b352, [.int .i64 t344, .int .i64 t345], 2⟩, ⟨N351, [.int .i64 t343, .int .i64 t344, .int .i64 t345, .int .i64 t346, .int .i64 t347, .int .i64 t348, .int .i64 t349], 7⟩, ⟨b339, [.int .i64 0, .int .i64 0], 2⟩, ⟨b338, [.int .i64 2, .int .i64 s1_1, .int .i64 s1_2, .int .i64 s1_3, .int .i64 s1_4, .int .i64 s1_5, .int .i64 s1_6], 7⟩, ⟨b337, [.int .i64 a0_0, .int .i64 a0_1], 2⟩] : List Own) := by
        exact hqf 1 [2, 3, 8, 9, 10, 12, 20, 21, 22, 26, 27] _ _ _ [(2, .int .i64 i2), (3, .int .i64 n3), (8, .pointer (some ⟨b339, 0, none⟩)), (9, .slice (some ⟨g354, 0, none⟩) 2 (ng354 / 1)), (10, .slice (some ⟨g356, 0, none⟩) 2 (ng356 / 1)), (12, .pointer (some ⟨b357, 0, none⟩)), (20, .slice (some ⟨N351, 1, none⟩) 2 3), (21, .int .i64 2), (22, .int .i64 1), (26, .slice (some ⟨g354, 0, none⟩) 2 (ng354 / 1)), (27, .pointer (some ⟨b357, 0, none⟩))] (by kernel_rfl) (by kernel_rfl) hg_3
      have hg_0 : G [false, false, false, false, false, false, false, false, false, false, false, false] [(2, .int .i64 i2), (3, .int .i64 n3), (8, .pointer (some ⟨b339, 0, none⟩)), (9, .slice (some ⟨g354, 0, none⟩) 2 (ng354 / 1)), (10, .slice (some ⟨g356, 0, none⟩) 2 (ng356 / 1)), (12, .pointer (some ⟨b357, 0, none⟩)), (20, .slice (some ⟨N351, 1, none⟩) 2 3), (21, .int .i64 2), (22, .int .i64 1)] ([⟨b357, [.int .i64 t346, .int .i64 t347], 2⟩, ⟨g356, [.int .i64 a0_1, .int .i64 t345], ng356⟩, ⟨g355, [.int .i64 t345], 1⟩, ⟨g354, [.int .i64 a0_0, .int .i64 t344], ng354⟩, ⟨g353, [.int .i64 t344], 1⟩, ⟨b352, [.int .i64 t344, .int .i64 t345], 2⟩, ⟨N351, [.int .i64 t343, .int .i64 t344, .int .i64 t345, .int .i64 t346, .int .i64 t347, .int .i64 t348, .int .i64 t349], 7⟩, ⟨b339, [.int .i64 0, .int .i64 0], 2⟩, ⟨b338, [.int .i64 2, .int .i64 s1_1, .int .i64 s1_2, .int .i64 s1_3, .int .i64 s1_4, .int .i64 s1_5, .int .i64 s1_6], 7⟩, ⟨b337, [.int .i64 a0_0, .int .i64 a0_1], 2⟩] : List Own) := by
        exact hqf 0 [2, 3, 8, 9, 10, 12, 20, 21, 22, 26] _ _ _ [(2, .int .i64 i2), (3, .int .i64 n3), (8, .pointer (some ⟨b339, 0, none⟩)), (9, .slice (some ⟨g354, 0, none⟩) 2 (ng354 / 1)), (10, .slice (some ⟨g356, 0, none⟩) 2 (ng356 / 1)), (12, .pointer (some ⟨b357, 0, none⟩)), (20, .slice (some ⟨N351, 1, none⟩) 2 3), (21, .int .i64 2), (22, .int .i64 1), (26, .slice (some ⟨g354, 0, none⟩) 2 (ng354 / 1))] (by kernel_rfl) (by kernel_rfl) hg_1
      exact hg_0
    have hg_7ff : ∀ (g356 : Nat) (ng356 : Nat) (g355 : Nat) (g354 : Nat) (ng354 : Nat) (g353 : Nat), G [true, true, true, true, true, true, true, true, true, true, true, false] [(2, .int .i64 i2), (3, .int .i64 n3), (8, .pointer (some ⟨b339, 0, none⟩)), (9, .slice (some ⟨g354, 0, none⟩) 2 (ng354 / 1)), (10, .slice (some ⟨g341, 0, none⟩) 1 1), (20, .slice (some ⟨N351, 1, none⟩) 2 3), (21, .int .i64 2), (22, .int .i64 0), (35, .slice (some ⟨g356, 0, none⟩) 2 (ng356 / 1))] ([⟨g356, [.int .i64 a0_1, .int .i64 t345], ng356⟩, ⟨g355, [.int .i64 t345], 1⟩, ⟨g354, [.int .i64 a0_0, .int .i64 t344], ng354⟩, ⟨g353, [.int .i64 t344], 1⟩, ⟨b352, [.int .i64 t344, .int .i64 t345], 2⟩, ⟨N351, [.int .i64 t343, .int .i64 t344, .int .i64 t345, .int .i64 t346, .int .i64 t347, .int .i64 t348, .int .i64 t349], 7⟩, ⟨b339, [.int .i64 0, .int .i64 0], 2⟩, ⟨b338, [.int .i64 2, .int .i64 s1_1, .int .i64 s1_2, .int .i64 s1_3, .int .i64 s1_4, .int .i64 s1_5, .int .i64 s1_6], 7⟩, ⟨b337, [.int .i64 a0_0, .int .i64 a0_1], 2⟩] : List Own) := by
      intro g356 ng356 g355 g354 ng354 g353
      exact hqf 11 [2, 3, 8, 9, 10, 20, 21, 22] _ _ _ [(2, .int .i64 i2), (3, .int .i64 n3), (8, .pointer (some ⟨b339, 0, none⟩)), (9, .slice (some ⟨g354, 0, none⟩) 2 (ng354 / 1)), (10, .slice (some ⟨g356, 0, none⟩) 2 (ng356 / 1)), (20, .slice (some ⟨N351, 1, none⟩) 2 3), (21, .int .i64 2), (22, .int .i64 0)] (by kernel_rfl) (by kernel_rfl) (hg_fff g356 ng356 g355 g354 ng354 g353)
    have hg_3ff : ∀ (g356 : Nat) (ng356 : Nat) (g355 : Nat) (g354 : Nat) (ng354 : Nat) (g353 : Nat), G [true, true, true, true, true, true, true, true, true, true, false, false] [(2, .int .i64 i2), (3, .int .i64 n3), (8, .pointer (some ⟨b339, 0, none⟩)), (9, .slice (some ⟨g340, 0, none⟩) 1 1), (10, .slice (some ⟨g341, 0, none⟩) 1 1), (20, .slice (some ⟨N351, 1, none⟩) 2 3), (21, .int .i64 2), (22, .int .i64 0), (30, .slice (some ⟨g354, 0, none⟩) 2 (ng354 / 1)), (35, .slice (some ⟨g356, 0, none⟩) 2 (ng356 / 1))] ([⟨g356, [.int .i64 a0_1, .int .i64 t345], ng356⟩, ⟨g355, [.int .i64 t345], 1⟩, ⟨g354, [.int .i64 a0_0, .int .i64 t344], ng354⟩, ⟨g353, [.int .i64 t344], 1⟩, ⟨b352, [.int .i64 t344, .int .i64 t345], 2⟩, ⟨N351, [.int .i64 t343, .int .i64 t344, .int .i64 t345, .int .i64 t346, .int .i64 t347, .int .i64 t348, .int .i64 t349], 7⟩, ⟨b339, [.int .i64 0, .int .i64 0], 2⟩, ⟨b338, [.int .i64 2, .int .i64 s1_1, .int .i64 s1_2, .int .i64 s1_3, .int .i64 s1_4, .int .i64 s1_5, .int .i64 s1_6], 7⟩, ⟨b337, [.int .i64 a0_0, .int .i64 a0_1], 2⟩] : List Own) := by
      intro g356 ng356 g355 g354 ng354 g353
      exact hqf 10 [2, 3, 8, 9, 10, 20, 21, 22, 35] _ _ _ [(2, .int .i64 i2), (3, .int .i64 n3), (8, .pointer (some ⟨b339, 0, none⟩)), (9, .slice (some ⟨g354, 0, none⟩) 2 (ng354 / 1)), (10, .slice (some ⟨g341, 0, none⟩) 1 1), (20, .slice (some ⟨N351, 1, none⟩) 2 3), (21, .int .i64 2), (22, .int .i64 0), (35, .slice (some ⟨g356, 0, none⟩) 2 (ng356 / 1))] (by kernel_rfl) (by kernel_rfl) (hg_7ff g356 ng356 g355 g354 ng354 g353)
    have hg_1ff : ∀ (g355 : Nat) (g354 : Nat) (ng354 : Nat) (g353 : Nat), G [true, true, true, true, true, true, true, true, true, false, false, false] [(2, .int .i64 i2), (3, .int .i64 n3), (8, .pointer (some ⟨b339, 0, none⟩)), (9, .slice (some ⟨g340, 0, none⟩) 1 1), (10, .slice (some ⟨g341, 0, none⟩) 1 1), (20, .slice (some ⟨N351, 1, none⟩) 2 3), (21, .int .i64 2), (22, .int .i64 0), (30, .slice (some ⟨g354, 0, none⟩) 2 (ng354 / 1)), (31, .slice (some ⟨g341, 0, none⟩) 1 1), (34, .slice (some ⟨g355, 0, none⟩) 1 1)] ([⟨g355, [.int .i64 t345], 1⟩, ⟨g354, [.int .i64 a0_0, .int .i64 t344], ng354⟩, ⟨g353, [.int .i64 t344], 1⟩, ⟨b352, [.int .i64 t344, .int .i64 t345], 2⟩, ⟨N351, [.int .i64 t343, .int .i64 t344, .int .i64 t345, .int .i64 t346, .int .i64 t347, .int .i64 t348, .int .i64 t349], 7⟩, ⟨g341, [.int .i64 a0_1], 1⟩, ⟨b339, [.int .i64 0, .int .i64 0], 2⟩, ⟨b338, [.int .i64 2, .int .i64 s1_1, .int .i64 s1_2, .int .i64 s1_3, .int .i64 s1_4, .int .i64 s1_5, .int .i64 s1_6], 7⟩, ⟨b337, [.int .i64 a0_0, .int .i64 a0_1], 2⟩] : List Own) := by
      intro g355 g354 ng354 g353
      refine hstep [9] _ _ _ (by kernel_rfl) (List.cons_ne_nil _ _) ⟨?_, trivial⟩
      · show T _ _ _ _ _ _ _ _
        refine t_app1 (cs := [.int .i64 a0_1]) (M := 1) (F := ([⟨g355, [.int .i64 t345], 1⟩, ⟨g354, [.int .i64 a0_0, .int .i64 t344], ng354⟩, ⟨g353, [.int .i64 t344], 1⟩, ⟨b352, [.int .i64 t344, .int .i64 t345], 2⟩, ⟨N351, [.int .i64 t343, .int .i64 t344, .int .i64 t345, .int .i64 t346, .int .i64 t347, .int .i64 t348, .int .i64 t349], 7⟩, ⟨b339, [.int .i64 0, .int .i64 0], 2⟩, ⟨b338, [.int .i64 2, .int .i64 s1_1, .int .i64 s1_2, .int .i64 s1_3, .int .i64 s1_4, .int .i64 s1_5, .int .i64 s1_6], 7⟩, ⟨b337, [.int .i64 a0_0, .int .i64 a0_1], 2⟩] : List Own)) (news := [.int .i64 t345]) rfl rfl rfl rfl (sel_perm (is := [5]) (by kernel_rfl)) (.at 0 rfl rfl) (by kernel_rfl) rfl rfl (by decide) (by decide) rfl fun g356 ng356 => ?_
        refine t_keep [2, 3, 8, 9, 10, 20, 21, 22, 30, 35] (σ' := [(2, .int .i64 i2), (3, .int .i64 n3), (8, .pointer (some ⟨b339, 0, none⟩)), (9, .slice (some ⟨g340, 0, none⟩) 1 1), (10, .slice (some ⟨g341, 0, none⟩) 1 1), (20, .slice (some ⟨N351, 1, none⟩) 2 3), (21, .int .i64 2), (22, .int .i64 0), (30, .slice (some ⟨g354, 0, none⟩) 2 (ng354 / 1)), (35, .slice (some ⟨g356, 0, none⟩) 2 (ng356 / 1))]) (by kernel_rfl) ?_
        refine t_end ?_
        exact ⟨hg_3ff g356 ng356 g355 g354 ng354 g353, rfl⟩
    have hg_ff : ∀ (g354 : Nat) (ng354 : Nat) (g353 : Nat), G [true, true, true, true, true, true, true, true, false, false, false, false] [(2, .int .i64 i2), (3, .int .i64 n3), (8, .pointer (some ⟨b339, 0, none⟩)), (9, .slice (some ⟨g340, 0, none⟩) 1 1), (10, .slice (some ⟨g341, 0, none⟩) 1 1), (20, .slice (some ⟨N351, 1, none⟩) 2 3), (21, .int .i64 2), (22, .int .i64 0), (30, .slice (some ⟨g354, 0, none⟩) 2 (ng354 / 1)), (31, .slice (some ⟨g341, 0, none⟩) 1 1), (33, .int .i64 t345)] ([⟨g354, [.int .i64 a0_0, .int .i64 t344], ng354⟩, ⟨g353, [.int .i64 t344], 1⟩, ⟨b352, [.int .i64 t344, .int .i64 t345], 2⟩, ⟨N351, [.int .i64 t343, .int .i64 t344, .int .i64 t345, .int .i64 t346, .int .i64 t347, .int .i64 t348, .int .i64 t349], 7⟩, ⟨g341, [.int .i64 a0_1], 1⟩, ⟨b339, [.int .i64 0, .int .i64 0], 2⟩, ⟨b338, [.int .i64 2, .int .i64 s1_1, .int .i64 s1_2, .int .i64 s1_3, .int .i64 s1_4, .int .i64 s1_5, .int .i64 s1_6], 7⟩, ⟨b337, [.int .i64 a0_0, .int .i64 a0_1], 2⟩] : List Own) := by
      intro g354 ng354 g353
      refine hstep [8] _ _ _ (by kernel_rfl) (List.cons_ne_nil _ _) ⟨?_, trivial⟩
      · show T _ _ _ _ _ _ _ _
        refine t_a (.bsl rfl rfl rfl rfl) fun g355 fg355 sg355 => ?_
        refine t_keep [2, 3, 8, 9, 10, 20, 21, 22, 30, 31, 34] (σ' := [(2, .int .i64 i2), (3, .int .i64 n3), (8, .pointer (some ⟨b339, 0, none⟩)), (9, .slice (some ⟨g340, 0, none⟩) 1 1), (10, .slice (some ⟨g341, 0, none⟩) 1 1), (20, .slice (some ⟨N351, 1, none⟩) 2 3), (21, .int .i64 2), (22, .int .i64 0), (30, .slice (some ⟨g354, 0, none⟩) 2 (ng354 / 1)), (31, .slice (some ⟨g341, 0, none⟩) 1 1), (34, .slice (some ⟨g355, 0, none⟩) 1 1)]) (by kernel_rfl) ?_
        refine t_end ?_
        exact ⟨hg_1ff g355 g354 ng354 g353, rfl⟩
    have hg_1ef : ∀ (g355 : Nat) (g353 : Nat), G [true, true, true, true, false, true, true, true, true, false, false, false] [(2, .int .i64 i2), (3, .int .i64 n3), (8, .pointer (some ⟨b339, 0, none⟩)), (9, .slice (some ⟨g340, 0, none⟩) 1 1), (10, .slice (some ⟨g341, 0, none⟩) 1 1), (20, .slice (some ⟨N351, 1, none⟩) 2 3), (21, .int .i64 2), (22, .int .i64 0), (26, .slice (some ⟨g340, 0, none⟩) 1 1), (29, .slice (some ⟨g353, 0, none⟩) 1 1), (31, .slice (some ⟨g341, 0, none⟩) 1 1), (34, .slice (some ⟨g355, 0, none⟩) 1 1)] ([⟨g355, [.int .i64 t345], 1⟩, ⟨g353, [.int .i64 t344], 1⟩, ⟨b352, [.int .i64 t344, .int .i64 t345], 2⟩, ⟨N351, [.int .i64 t343, .int .i64 t344, .int .i64 t345, .int .i64 t346, .int .i64 t347, .int .i64 t348, .int .i64 t349], 7⟩, ⟨g341, [.int .i64 a0_1], 1⟩, ⟨g340, [.int .i64 a0_0], 1⟩, ⟨b339, [.int .i64 0, .int .i64 0], 2⟩, ⟨b338, [.int .i64 2, .int .i64 s1_1, .int .i64 s1_2, .int .i64 s1_3, .int .i64 s1_4, .int .i64 s1_5, .int .i64 s1_6], 7⟩, ⟨b337, [.int .i64 a0_0, .int .i64 a0_1], 2⟩] : List Own) := by
      intro g355 g353
      refine hstep [4] _ _ _ (by kernel_rfl) (List.cons_ne_nil _ _) ⟨?_, trivial⟩
      · show T _ _ _ _ _ _ _ _
        refine t_app1 (cs := [.int .i64 a0_0]) (M := 1) (F := ([⟨g355, [.int .i64 t345], 1⟩, ⟨g353, [.int .i64 t344], 1⟩, ⟨b352, [.int .i64 t344, .int .i64 t345], 2⟩, ⟨N351, [.int .i64 t343, .int .i64 t344, .int .i64 t345, .int .i64 t346, .int .i64 t347, .int .i64 t348, .int .i64 t349], 7⟩, ⟨g341, [.int .i64 a0_1], 1⟩, ⟨b339, [.int .i64 0, .int .i64 0], 2⟩, ⟨b338, [.int .i64 2, .int .i64 s1_1, .int .i64 s1_2, .int .i64 s1_3, .int .i64 s1_4, .int .i64 s1_5, .int .i64 s1_6], 7⟩, ⟨b337, [.int .i64 a0_0, .int .i64 a0_1], 2⟩] : List Own)) (news := [.int .i64 t344]) rfl rfl rfl rfl (sel_perm (is := [5]) (by kernel_rfl)) (.at 1 rfl rfl) (by kernel_rfl) rfl rfl (by decide) (by decide) rfl fun g354 ng354 => ?_
        refine t_keep [2, 3, 8, 9, 10, 20, 21, 22, 30, 31, 34] (σ' := [(2, .int .i64 i2), (3, .int .i64 n3), (8, .pointer (some ⟨b339, 0, none⟩)), (9, .slice (some ⟨g340, 0, none⟩) 1 1), (10, .slice (some ⟨g341, 0, none⟩) 1 1), (20, .slice (some ⟨N351, 1, none⟩) 2 3), (21, .int .i64 2), (22, .int .i64 0), (30, .slice (some ⟨g354, 0, none⟩) 2 (ng354 / 1)), (31, .slice (some ⟨g341, 0, none⟩) 1 1), (34, .slice (some ⟨g355, 0, none⟩) 1 1)]) (by kernel_rfl) ?_
        refine t_vs (H' := ([⟨g355, [.int .i64 t345], 1⟩, ⟨g354, [.int .i64 a0_0, .int .i64 t344], ng354⟩, ⟨g353, [.int .i64 t344], 1⟩, ⟨b352, [.int .i64 t344, .int .i64 t345], 2⟩, ⟨N351, [.int .i64 t343, .int .i64 t344, .int .i64 t345, .int .i64 t346, .int .i64 t347, .int .i64 t348, .int .i64 t349], 7⟩, ⟨g341, [.int .i64 a0_1], 1⟩, ⟨b339, [.int .i64 0, .int .i64 0], 2⟩, ⟨b338, [.int .i64 2, .int .i64 s1_1, .int .i64 s1_2, .int .i64 s1_3, .int .i64 s1_4, .int .i64 s1_5, .int .i64 s1_6], 7⟩, ⟨b337, [.int .i64 a0_0, .int .i64 a0_1], 2⟩] : List Own)) (S' := S) (VS.sel [1, 0, 0, 0, 0, 0, 0, 0, 0] (by kernel_rfl)) ?_
        refine t_end ?_
        exact ⟨hg_1ff g355 g354 ng354 g353, rfl⟩
    have hg_1e7 : ∀ (g355 : Nat), G [true, true, true, false, false, true, true, true, true, false, false, false] [(2, .int .i64 i2), (3, .int .i64 n3), (8, .pointer (some ⟨b339, 0, none⟩)), (9, .slice (some ⟨g340, 0, none⟩) 1 1), (10, .slice (some ⟨g341, 0, none⟩) 1 1), (20, .slice (some ⟨N351, 1, none⟩) 2 3), (21, .int .i64 2), (22, .int .i64 0), (26, .slice (some ⟨g340, 0, none⟩) 1 1), (28, .int .i64 t344), (31, .slice (some ⟨g341, 0, none⟩) 1 1), (34, .slice (some ⟨g355, 0, none⟩) 1 1)] ([⟨g355, [.int .i64 t345], 1⟩, ⟨b352, [.int .i64 t344, .int .i64 t345], 2⟩, ⟨N351, [.int .i64 t343, .int .i64 t344, .int .i64 t345, .int .i64 t346, .int .i64 t347, .int .i64 t348, .int .i64 t349], 7⟩, ⟨g341, [.int .i64 a0_1], 1⟩, ⟨g340, [.int .i64 a0_0], 1⟩, ⟨b339, [.int .i64 0, .int .i64 0], 2⟩, ⟨b338, [.int .i64 2, .int .i64 s1_1, .int .i64 s1_2, .int .i64 s1_3, .int .i64 s1_4, .int .i64 s1_5, .int .i64 s1_6], 7⟩, ⟨b337, [.int .i64 a0_0, .int .i64 a0_1], 2⟩] : List Own) := by
      intro g355
      refine hstep [3] _ _ _ (by kernel_rfl) (List.cons_ne_nil _ _) ⟨?_, trivial⟩
      · show T _ _ _ _ _ _ _ _
        refine t_a (.bsl rfl rfl rfl rfl) fun g353 fg353 sg353 => ?_
        refine t_keep [2, 3, 8, 9, 10, 20, 21, 22, 26, 29, 31, 34] (σ' := [(2, .int .i64 i2), (3, .int .i64 n3), (8, .pointer (some ⟨b339, 0, none⟩)), (9, .slice (some ⟨g340, 0, none⟩) 1 1), (10, .slice (some ⟨g341, 0, none⟩) 1 1), (20, .slice (some ⟨N351, 1, none⟩) 2 3), (21, .int .i64 2), (22, .int .i64 0), (26, .slice (some ⟨g340, 0, none⟩) 1 1), (29, .slice (some ⟨g353, 0, none⟩) 1 1), (31, .slice (some ⟨g341, 0, none⟩) 1 1), (34, .slice (some ⟨g355, 0, none⟩) 1 1)]) (by kernel_rfl) ?_
        refine t_vs (H' := ([⟨g355, [.int .i64 t345], 1⟩, ⟨g353, [.int .i64 t344], 1⟩, ⟨b352, [.int .i64 t344, .int .i64 t345], 2⟩, ⟨N351, [.int .i64 t343, .int .i64 t344, .int .i64 t345, .int .i64 t346, .int .i64 t347, .int .i64 t348, .int .i64 t349], 7⟩, ⟨g341, [.int .i64 a0_1], 1⟩, ⟨g340, [.int .i64 a0_0], 1⟩, ⟨b339, [.int .i64 0, .int .i64 0], 2⟩, ⟨b338, [.int .i64 2, .int .i64 s1_1, .int .i64 s1_2, .int .i64 s1_3, .int .i64 s1_4, .int .i64 s1_5, .int .i64 s1_6], 7⟩, ⟨b337, [.int .i64 a0_0, .int .i64 a0_1], 2⟩] : List Own)) (S' := S) (VS.sel [1, 0, 0, 0, 0, 0, 0, 0, 0] (by kernel_rfl)) ?_
        refine t_end ?_
        exact ⟨hg_1ef g355 g353, rfl⟩
    have hg_ef : ∀ (g353 : Nat), G [true, true, true, true, false, true, true, true, false, false, false, false] [(2, .int .i64 i2), (3, .int .i64 n3), (8, .pointer (some ⟨b339, 0, none⟩)), (9, .slice (some ⟨g340, 0, none⟩) 1 1), (10, .slice (some ⟨g341, 0, none⟩) 1 1), (20, .slice (some ⟨N351, 1, none⟩) 2 3), (21, .int .i64 2), (22, .int .i64 0), (26, .slice (some ⟨g340, 0, none⟩) 1 1), (29, .slice (some ⟨g353, 0, none⟩) 1 1), (31, .slice (some ⟨g341, 0, none⟩) 1 1), (33, .int .i64 t345)] ([⟨g353, [.int .i64 t344], 1⟩, ⟨b352, [.int .i64 t344, .int .i64 t345], 2⟩, ⟨N351, [.int .i64 t343, .int .i64 t344, .int .i64 t345, .int .i64 t346, .int .i64 t347, .int .i64 t348, .int .i64 t349], 7⟩, ⟨g341, [.int .i64 a0_1], 1⟩, ⟨g340, [.int .i64 a0_0], 1⟩, ⟨b339, [.int .i64 0, .int .i64 0], 2⟩, ⟨b338, [.int .i64 2, .int .i64 s1_1, .int .i64 s1_2, .int .i64 s1_3, .int .i64 s1_4, .int .i64 s1_5, .int .i64 s1_6], 7⟩, ⟨b337, [.int .i64 a0_0, .int .i64 a0_1], 2⟩] : List Own) := by
      intro g353
      refine hstep [4, 8] _ _ _ (by kernel_rfl) (List.cons_ne_nil _ _) ⟨?_, ?_, trivial⟩
      · show T _ _ _ _ _ _ _ _
        refine t_app1 (cs := [.int .i64 a0_0]) (M := 1) (F := ([⟨g353, [.int .i64 t344], 1⟩, ⟨b352, [.int .i64 t344, .int .i64 t345], 2⟩, ⟨N351, [.int .i64 t343, .int .i64 t344, .int .i64 t345, .int .i64 t346, .int .i64 t347, .int .i64 t348, .int .i64 t349], 7⟩, ⟨g341, [.int .i64 a0_1], 1⟩, ⟨b339, [.int .i64 0, .int .i64 0], 2⟩, ⟨b338, [.int .i64 2, .int .i64 s1_1, .int .i64 s1_2, .int .i64 s1_3, .int .i64 s1_4, .int .i64 s1_5, .int .i64 s1_6], 7⟩, ⟨b337, [.int .i64 a0_0, .int .i64 a0_1], 2⟩] : List Own)) (news := [.int .i64 t344]) rfl rfl rfl rfl (sel_perm (is := [4]) (by kernel_rfl)) (.at 0 rfl rfl) (by kernel_rfl) rfl rfl (by decide) (by decide) rfl fun g354 ng354 => ?_
        refine t_keep [2, 3, 8, 9, 10, 20, 21, 22, 30, 31, 33] (σ' := [(2, .int .i64 i2), (3, .int .i64 n3), (8, .pointer (some ⟨b339, 0, none⟩)), (9, .slice (some ⟨g340, 0, none⟩) 1 1), (10, .slice (some ⟨g341, 0, none⟩) 1 1), (20, .slice (some ⟨N351, 1, none⟩) 2 3), (21, .int .i64 2), (22, .int .i64 0), (30, .slice (some ⟨g354, 0, none⟩) 2 (ng354 / 1)), (31, .slice (some ⟨g341, 0, none⟩) 1 1), (33, .int .i64 t345)]) (by kernel_rfl) ?_
        refine t_end ?_
        exact ⟨hg_ff g354 ng354 g353, rfl⟩
      · show T _ _ _ _ _ _ _ _
        refine t_a (.bsl rfl rfl rfl rfl) fun g355 fg355 sg355 => ?_
        refine t_keep [2, 3, 8, 9, 10, 20, 21, 22, 26, 29, 31, 34] (σ' := [(2, .int .i64 i2), (3, .int .i64 n3), (8, .pointer (some ⟨b339, 0, none⟩)), (9, .slice (some ⟨g340, 0, none⟩) 1 1), (10, .slice (some ⟨g341, 0, none⟩) 1 1), (20, .slice (some ⟨N351, 1, none⟩) 2 3), (21, .int .i64 2), (22, .int .i64 0), (26, .slice (some ⟨g340, 0, none⟩) 1 1), (29, .slice (some ⟨g353, 0, none⟩) 1 1), (31, .slice (some ⟨g341, 0, none⟩) 1 1), (34, .slice (some ⟨g355, 0, none⟩) 1 1)]) (by kernel_rfl) ?_
        refine t_end ?_
        exact ⟨hg_1ef g355 g353, rfl⟩
    have hg_7f : ∀ (g354 : Nat) (ng354 : Nat) (g353 : Nat), G [true, true, true, true, true, true, true, false, false, false, false, false] [(2, .int .i64 i2), (3, .int .i64 n3), (8, .pointer (some ⟨b339, 0, none⟩)), (9, .slice (some ⟨g340, 0, none⟩) 1 1), (10, .slice (some ⟨g341, 0, none⟩) 1 1), (20, .slice (some ⟨N351, 1, none⟩) 2 3), (21, .int .i64 2), (22, .int .i64 0), (30, .slice (some ⟨g354, 0, none⟩) 2 (ng354 / 1)), (31, .slice (some ⟨g341, 0, none⟩) 1 1), (32, .pointer (some ⟨b352, 1, none⟩))] ([⟨g354, [.int .i64 a0_0, .int .i64 t344], ng354⟩, ⟨g353, [.int .i64 t344], 1⟩, ⟨b352, [.int .i64 t344, .int .i64 t345], 2⟩, ⟨N351, [.int .i64 t343, .int .i64 t344, .int .i64 t345, .int .i64 t346, .int .i64 t347, .int .i64 t348, .int .i64 t349], 7⟩, ⟨g341, [.int .i64 a0_1], 1⟩, ⟨b339, [.int .i64 0, .int .i64 0], 2⟩, ⟨b338, [.int .i64 2, .int .i64 s1_1, .int .i64 s1_2, .int .i64 s1_3, .int .i64 s1_4, .int .i64 s1_5, .int .i64 s1_6], 7⟩, ⟨b337, [.int .i64 a0_0, .int .i64 a0_1], 2⟩] : List Own) := by
      intro g354 ng354 g353
      refine hstep [7] _ _ _ (by kernel_rfl) (List.cons_ne_nil _ _) ⟨?_, trivial⟩
      · show T _ _ _ _ _ _ _ _
        refine t_v (.ld1 rfl rfl rfl (.at 2 rfl rfl)) ?_
        refine t_keep [2, 3, 8, 9, 10, 20, 21, 22, 30, 31, 33] (σ' := [(2, .int .i64 i2), (3, .int .i64 n3), (8, .pointer (some ⟨b339, 0, none⟩)), (9, .slice (some ⟨g340, 0, none⟩) 1 1), (10, .slice (some ⟨g341, 0, none⟩) 1 1), (20, .slice (some ⟨N351, 1, none⟩) 2 3), (21, .int .i64 2), (22, .int .i64 0), (30, .slice (some ⟨g354, 0, none⟩) 2 (ng354 / 1)), (31, .slice (some ⟨g341, 0, none⟩) 1 1), (33, .int .i64 t345)]) (by kernel_rfl) ?_
        refine t_end ?_
        exact ⟨hg_ff g354 ng354 g353, rfl⟩
    have hg_1e3 : ∀ (g355 : Nat), G [true, true, false, false, false, true, true, true, true, false, false, false] [(2, .int .i64 i2), (3, .int .i64 n3), (8, .pointer (some ⟨b339, 0, none⟩)), (9, .slice (some ⟨g340, 0, none⟩) 1 1), (10, .slice (some ⟨g341, 0, none⟩) 1 1), (20, .slice (some ⟨N351, 1, none⟩) 2 3), (21, .int .i64 2), (22, .int .i64 0), (26, .slice (some ⟨g340, 0, none⟩) 1 1), (27, .pointer (some ⟨b352, 0, none⟩)), (31, .slice (some ⟨g341, 0, none⟩) 1 1), (34, .slice (some ⟨g355, 0, none⟩) 1 1)] ([⟨g355, [.int .i64 t345], 1⟩, ⟨b352, [.int .i64 t344, .int .i64 t345], 2⟩, ⟨N351, [.int .i64 t343, .int .i64 t344, .int .i64 t345, .int .i64 t346, .int .i64 t347, .int .i64 t348, .int .i64 t349], 7⟩, ⟨g341, [.int .i64 a0_1], 1⟩, ⟨g340, [.int .i64 a0_0], 1⟩, ⟨b339, [.int .i64 0, .int .i64 0], 2⟩, ⟨b338, [.int .i64 2, .int .i64 s1_1, .int .i64 s1_2, .int .i64 s1_3, .int .i64 s1_4, .int .i64 s1_5, .int .i64 s1_6], 7⟩, ⟨b337, [.int .i64 a0_0, .int .i64 a0_1], 2⟩] : List Own) := by
      intro g355
      refine hstep [2] _ _ _ (by kernel_rfl) (List.cons_ne_nil _ _) ⟨?_, trivial⟩
      · show T _ _ _ _ _ _ _ _
        refine t_v (.ld1 rfl rfl rfl (.at 1 rfl rfl)) ?_
        refine t_keep [2, 3, 8, 9, 10, 20, 21, 22, 26, 28, 31, 34] (σ' := [(2, .int .i64 i2), (3, .int .i64 n3), (8, .pointer (some ⟨b339, 0, none⟩)), (9, .slice (some ⟨g340, 0, none⟩) 1 1), (10, .slice (some ⟨g341, 0, none⟩) 1 1), (20, .slice (some ⟨N351, 1, none⟩) 2 3), (21, .int .i64 2), (22, .int .i64 0), (26, .slice (some ⟨g340, 0, none⟩) 1 1), (28, .int .i64 t344), (31, .slice (some ⟨g341, 0, none⟩) 1 1), (34, .slice (some ⟨g355, 0, none⟩) 1 1)]) (by kernel_rfl) ?_
        refine t_end ?_
        exact ⟨hg_1e7 g355, rfl⟩
    have hg_e7 : G [true, true, true, false, false, true, true, true, false, false, false, false] [(2, .int .i64 i2), (3, .int .i64 n3), (8, .pointer (some ⟨b339, 0, none⟩)), (9, .slice (some ⟨g340, 0, none⟩) 1 1), (10, .slice (some ⟨g341, 0, none⟩) 1 1), (20, .slice (some ⟨N351, 1, none⟩) 2 3), (21, .int .i64 2), (22, .int .i64 0), (26, .slice (some ⟨g340, 0, none⟩) 1 1), (28, .int .i64 t344), (31, .slice (some ⟨g341, 0, none⟩) 1 1), (33, .int .i64 t345)] ([⟨b352, [.int .i64 t344, .int .i64 t345], 2⟩, ⟨N351, [.int .i64 t343, .int .i64 t344, .int .i64 t345, .int .i64 t346, .int .i64 t347, .int .i64 t348, .int .i64 t349], 7⟩, ⟨g341, [.int .i64 a0_1], 1⟩, ⟨g340, [.int .i64 a0_0], 1⟩, ⟨b339, [.int .i64 0, .int .i64 0], 2⟩, ⟨b338, [.int .i64 2, .int .i64 s1_1, .int .i64 s1_2, .int .i64 s1_3, .int .i64 s1_4, .int .i64 s1_5, .int .i64 s1_6], 7⟩, ⟨b337, [.int .i64 a0_0, .int .i64 a0_1], 2⟩] : List Own) := by
      refine hstep [3, 8] _ _ _ (by kernel_rfl) (List.cons_ne_nil _ _) ⟨?_, ?_, trivial⟩
      · show T _ _ _ _ _ _ _ _
        refine t_a (.bsl rfl rfl rfl rfl) fun g353 fg353 sg353 => ?_
        refine t_keep [2, 3, 8, 9, 10, 20, 21, 22, 26, 29, 31, 33] (σ' := [(2, .int .i64 i2), (3, .int .i64 n3), (8, .pointer (some ⟨b339, 0, none⟩)), (9, .slice (some ⟨g340, 0, none⟩) 1 1), (10, .slice (some ⟨g341, 0, none⟩) 1 1), (20, .slice (some ⟨N351, 1, none⟩) 2 3), (21, .int .i64 2), (22, .int .i64 0), (26, .slice (some ⟨g340, 0, none⟩) 1 1), (29, .slice (some ⟨g353, 0, none⟩) 1 1), (31, .slice (some ⟨g341, 0, none⟩) 1 1), (33, .int .i64 t345)]) (by kernel_rfl) ?_
        refine t_end ?_
        exact ⟨hg_ef g353, rfl⟩
      · show T _ _ _ _ _ _ _ _
        refine t_a (.bsl rfl rfl rfl rfl) fun g355 fg355 sg355 => ?_
        refine t_keep [2, 3, 8, 9, 10, 20, 21, 22, 26, 28, 31, 34] (σ' := [(2, .int .i64 i2), (3, .int .i64 n3), (8, .pointer (some ⟨b339, 0, none⟩)), (9, .slice (some ⟨g340, 0, none⟩) 1 1), (10, .slice (some ⟨g341, 0, none⟩) 1 1), (20, .slice (some ⟨N351, 1, none⟩) 2 3), (21, .int .i64 2), (22, .int .i64 0), (26, .slice (some ⟨g340, 0, none⟩) 1 1), (28, .int .i64 t344), (31, .slice (some ⟨g341, 0, none⟩) 1 1), (34, .slice (some ⟨g355, 0, none⟩) 1 1)]) (by kernel_rfl) ?_
        refine t_end ?_
        exact ⟨hg_1e7 g355, rfl⟩
    have hg_6f : ∀ (g353 : Nat), G [true, true, true, true, false, true, true, false, false, false, false, false] [(2, .int .i64 i2), (3, .int .i64 n3), (8, .pointer (some ⟨b339, 0, none⟩)), (9, .slice (some ⟨g340, 0, none⟩) 1 1), (10, .slice (some ⟨g341, 0, none⟩) 1 1), (20, .slice (some ⟨N351, 1, none⟩) 2 3), (21, .int .i64 2), (22, .int .i64 0), (26, .slice (some ⟨g340, 0, none⟩) 1 1), (29, .slice (some ⟨g353, 0, none⟩) 1 1), (31, .slice (some ⟨g341, 0, none⟩) 1 1), (32, .pointer (some ⟨b352, 1, none⟩))] ([⟨g353, [.int .i64 t344], 1⟩, ⟨b352, [.int .i64 t344, .int .i64 t345], 2⟩, ⟨N351, [.int .i64 t343, .int .i64 t344, .int .i64 t345, .int .i64 t346, .int .i64 t347, .int .i64 t348, .int .i64 t349], 7⟩, ⟨g341, [.int .i64 a0_1], 1⟩, ⟨g340, [.int .i64 a0_0], 1⟩, ⟨b339, [.int .i64 0, .int .i64 0], 2⟩, ⟨b338, [.int .i64 2, .int .i64 s1_1, .int .i64 s1_2, .int .i64 s1_3, .int .i64 s1_4, .int .i64 s1_5, .int .i64 s1_6], 7⟩, ⟨b337, [.int .i64 a0_0, .int .i64 a0_1], 2⟩] : List Own) := by
      intro g353
      refine hstep [4, 7] _ _ _ (by kernel_rfl) (List.cons_ne_nil _ _) ⟨?_, ?_, trivial⟩
      · show T _ _ _ _ _ _ _ _
        refine t_app1 (cs := [.int .i64 a0_0]) (M := 1) (F := ([⟨g353, [.int .i64 t344], 1⟩, ⟨b352, [.int .i64 t344, .int .i64 t345], 2⟩, ⟨N351, [.int .i64 t343, .int .i64 t344, .int .i64 t345, .int .i64 t346, .int .i64 t347, .int .i64 t348, .int .i64 t349], 7⟩, ⟨g341, [.int .i64 a0_1], 1⟩, ⟨b339, [.int .i64 0, .int .i64 0], 2⟩, ⟨b338, [.int .i64 2, .int .i64 s1_1, .int .i64 s1_2, .int .i64 s1_3, .int .i64 s1_4, .int .i64 s1_5, .int .i64 s1_6], 7⟩, ⟨b337, [.int .i64 a0_0, .int .i64 a0_1], 2⟩] : List Own)) (news := [.int .i64 t344]) rfl rfl rfl rfl (sel_perm (is := [4]) (by kernel_rfl)) (.at 0 rfl rfl) (by kernel_rfl) rfl rfl (by decide) (by decide) rfl fun g354 ng354 => ?_
        refine t_keep [2, 3, 8, 9, 10, 20, 21, 22, 30, 31, 32] (σ' := [(2, .int .i64 i2), (3, .int .i64 n3), (8, .pointer (some ⟨b339, 0, none⟩)), (9, .slice (some ⟨g340, 0, none⟩) 1 1), (10, .slice (some ⟨g341, 0, none⟩) 1 1), (20, .slice (some ⟨N351, 1, none⟩) 2 3), (21, .int .i64 2), (22, .int .i64 0), (30, .slice (some ⟨g354, 0, none⟩) 2 (ng354 / 1)), (31, .slice (some ⟨g341, 0, none⟩) 1 1), (32, .pointer (some ⟨b352, 1, none⟩))]) (by kernel_rfl) ?_
        refine t_end ?_
        exact ⟨hg_7f g354 ng354 g353, rfl⟩
      · show T _ _ _ _ _ _ _ _
        refine t_v (.ld1 rfl rfl rfl (.at 1 rfl rfl)) ?_
        refine t_keep [2, 3, 8, 9, 10, 20, 21, 22, 26, 29, 31, 33] (σ' := [(2, .int .i64 i2), (3, .int .i64 n3), (8, .pointer (some ⟨b339, 0, none⟩)), (9, .slice (some ⟨g340, 0, none⟩) 1 1), (10, .slice (some ⟨g341, 0, none⟩) 1 1), (20, .slice (some ⟨N351, 1, none⟩) 2 3), (21, .int .i64 2), (22, .int .i64 0), (26, .slice (some ⟨g340, 0, none⟩) 1 1), (29, .slice (some ⟨g353, 0, none⟩) 1 1), (31, .slice (some ⟨g341, 0, none⟩) 1 1), (33, .int .i64 t345)]) (by kernel_rfl) ?_
        refine t_end ?_
        exact ⟨hg_ef g353, rfl⟩
    have hg_e3 : G [true, true, false, false, false, true, true, true, false, false, false, false] [(2, .int .i64 i2), (3, .int .i64 n3), (8, .pointer (some ⟨b339, 0, none⟩)), (9, .slice (some ⟨g340, 0, none⟩) 1 1), (10, .slice (some ⟨g341, 0, none⟩) 1 1), (20, .slice (some ⟨N351, 1, none⟩) 2 3), (21, .int .i64 2), (22, .int .i64 0), (26, .slice (some ⟨g340, 0, none⟩) 1 1), (27, .pointer (some ⟨b352, 0, none⟩)), (31, .slice (some ⟨g341, 0, none⟩) 1 1), (33, .int .i64 t345)] ([⟨b352, [.int .i64 t344, .int .i64 t345], 2⟩, ⟨N351, [.int .i64 t343, .int .i64 t344, .int .i64 t345, .int .i64 t346, .int .i64 t347, .int .i64 t348, .int .i64 t349], 7⟩, ⟨g341, [.int .i64 a0_1], 1⟩, ⟨g340, [.int .i64 a0_0], 1⟩, ⟨b339, [.int .i64 0, .int .i64 0], 2⟩, ⟨b338, [.int .i64 2, .int .i64 s1_1, .int .i64 s1_2, .int .i64 s1_3, .int .i64 s1_4, .int .i64 s1_5, .int .i64 s1_6], 7⟩, ⟨b337, [.int .i64 a0_0, .int .i64 a0_1], 2⟩] : List Own) := by
      refine hstep [2, 8] _ _ _ (by kernel_rfl) (List.cons_ne_nil _ _) ⟨?_, ?_, trivial⟩
      · show T _ _ _ _ _ _ _ _
        refine t_v (.ld1 rfl rfl rfl (.at 0 rfl rfl)) ?_
        refine t_keep [2, 3, 8, 9, 10, 20, 21, 22, 26, 28, 31, 33] (σ' := [(2, .int .i64 i2), (3, .int .i64 n3), (8, .pointer (some ⟨b339, 0, none⟩)), (9, .slice (some ⟨g340, 0, none⟩) 1 1), (10, .slice (some ⟨g341, 0, none⟩) 1 1), (20, .slice (some ⟨N351, 1, none⟩) 2 3), (21, .int .i64 2), (22, .int .i64 0), (26, .slice (some ⟨g340, 0, none⟩) 1 1), (28, .int .i64 t344), (31, .slice (some ⟨g341, 0, none⟩) 1 1), (33, .int .i64 t345)]) (by kernel_rfl) ?_
        refine t_end ?_
        exact ⟨hg_e7, rfl⟩
      · show T _ _ _ _ _ _ _ _
        refine t_a (.bsl rfl rfl rfl rfl) fun g355 fg355 sg355 => ?_
        refine t_keep [2, 3, 8, 9, 10, 20, 21, 22, 26, 27, 31, 34] (σ' := [(2, .int .i64 i2), (3, .int .i64 n3), (8, .pointer (some ⟨b339, 0, none⟩)), (9, .slice (some ⟨g340, 0, none⟩) 1 1), (10, .slice (some ⟨g341, 0, none⟩) 1 1), (20, .slice (some ⟨N351, 1, none⟩) 2 3), (21, .int .i64 2), (22, .int .i64 0), (26, .slice (some ⟨g340, 0, none⟩) 1 1), (27, .pointer (some ⟨b352, 0, none⟩)), (31, .slice (some ⟨g341, 0, none⟩) 1 1), (34, .slice (some ⟨g355, 0, none⟩) 1 1)]) (by kernel_rfl) ?_
        refine t_end ?_
        exact ⟨hg_1e3 g355, rfl⟩
    have hg_67 : G [true, true, true, false, false, true, true, false, false, false, false, false] [(2, .int .i64 i2), (3, .int .i64 n3), (8, .pointer (some ⟨b339, 0, none⟩)), (9, .slice (some ⟨g340, 0, none⟩) 1 1), (10, .slice (some ⟨g341, 0, none⟩) 1 1), (20, .slice (some ⟨N351, 1, none⟩) 2 3), (21, .int .i64 2), (22, .int .i64 0), (26, .slice (some ⟨g340, 0, none⟩) 1 1), (28, .int .i64 t344), (31, .slice (some ⟨g341, 0, none⟩) 1 1), (32, .pointer (some ⟨b352, 1, none⟩))] ([⟨b352, [.int .i64 t344, .int .i64 t345], 2⟩, ⟨N351, [.int .i64 t343, .int .i64 t344, .int .i64 t345, .int .i64 t346, .int .i64 t347, .int .i64 t348, .int .i64 t349], 7⟩, ⟨g341, [.int .i64 a0_1], 1⟩, ⟨g340, [.int .i64 a0_0], 1⟩, ⟨b339, [.int .i64 0, .int .i64 0], 2⟩, ⟨b338, [.int .i64 2, .int .i64 s1_1, .int .i64 s1_2, .int .i64 s1_3, .int .i64 s1_4, .int .i64 s1_5, .int .i64 s1_6], 7⟩, ⟨b337, [.int .i64 a0_0, .int .i64 a0_1], 2⟩] : List Own) := by
      refine hstep [3, 7] _ _ _ (by kernel_rfl) (List.cons_ne_nil _ _) ⟨?_, ?_, trivial⟩
      · show T _ _ _ _ _ _ _ _
        refine t_a (.bsl rfl rfl rfl rfl) fun g353 fg353 sg353 => ?_
        refine t_keep [2, 3, 8, 9, 10, 20, 21, 22, 26, 29, 31, 32] (σ' := [(2, .int .i64 i2), (3, .int .i64 n3), (8, .pointer (some ⟨b339, 0, none⟩)), (9, .slice (some ⟨g340, 0, none⟩) 1 1), (10, .slice (some ⟨g341, 0, none⟩) 1 1), (20, .slice (some ⟨N351, 1, none⟩) 2 3), (21, .int .i64 2), (22, .int .i64 0), (26, .slice (some ⟨g340, 0, none⟩) 1 1), (29, .slice (some ⟨g353, 0, none⟩) 1 1), (31, .slice (some ⟨g341, 0, none⟩) 1 1), (32, .pointer (some ⟨b352, 1, none⟩))]) (by kernel_rfl) ?_
        refine t_end ?_
        exact ⟨hg_6f g353, rfl⟩
      · show T _ _ _ _ _ _ _ _
        refine t_v (.ld1 rfl rfl rfl (.at 0 rfl rfl)) ?_
        refine t_keep [2, 3, 8, 9, 10, 20, 21, 22, 26, 28, 31, 33] (σ' := [(2, .int .i64 i2), (3, .int .i64 n3), (8, .pointer (some ⟨b339, 0, none⟩)), (9, .slice (some ⟨g340, 0, none⟩) 1 1), (10, .slice (some ⟨g341, 0, none⟩) 1 1), (20, .slice (some ⟨N351, 1, none⟩) 2 3), (21, .int .i64 2), (22, .int .i64 0), (26, .slice (some ⟨g340, 0, none⟩) 1 1), (28, .int .i64 t344), (31, .slice (some ⟨g341, 0, none⟩) 1 1), (33, .int .i64 t345)]) (by kernel_rfl) ?_
        refine t_end ?_
        exact ⟨hg_e7, rfl⟩
    have hg_63 : G [true, true, false, false, false, true, true, false, false, false, false, false] [(2, .int .i64 i2), (3, .int .i64 n3), (8, .pointer (some ⟨b339, 0, none⟩)), (9, .slice (some ⟨g340, 0, none⟩) 1 1), (10, .slice (some ⟨g341, 0, none⟩) 1 1), (20, .slice (some ⟨N351, 1, none⟩) 2 3), (21, .int .i64 2), (22, .int .i64 0), (26, .slice (some ⟨g340, 0, none⟩) 1 1), (27, .pointer (some ⟨b352, 0, none⟩)), (31, .slice (some ⟨g341, 0, none⟩) 1 1), (32, .pointer (some ⟨b352, 1, none⟩))] ([⟨b352, [.int .i64 t344, .int .i64 t345], 2⟩, ⟨N351, [.int .i64 t343, .int .i64 t344, .int .i64 t345, .int .i64 t346, .int .i64 t347, .int .i64 t348, .int .i64 t349], 7⟩, ⟨g341, [.int .i64 a0_1], 1⟩, ⟨g340, [.int .i64 a0_0], 1⟩, ⟨b339, [.int .i64 0, .int .i64 0], 2⟩, ⟨b338, [.int .i64 2, .int .i64 s1_1, .int .i64 s1_2, .int .i64 s1_3, .int .i64 s1_4, .int .i64 s1_5, .int .i64 s1_6], 7⟩, ⟨b337, [.int .i64 a0_0, .int .i64 a0_1], 2⟩] : List Own) := by
      refine hstep [2, 7] _ _ _ (by kernel_rfl) (List.cons_ne_nil _ _) ⟨?_, ?_, trivial⟩
      · show T _ _ _ _ _ _ _ _
        refine t_v (.ld1 rfl rfl rfl (.at 0 rfl rfl)) ?_
        refine t_keep [2, 3, 8, 9, 10, 20, 21, 22, 26, 28, 31, 32] (σ' := [(2, .int .i64 i2), (3, .int .i64 n3), (8, .pointer (some ⟨b339, 0, none⟩)), (9, .slice (some ⟨g340, 0, none⟩) 1 1), (10, .slice (some ⟨g341, 0, none⟩) 1 1), (20, .slice (some ⟨N351, 1, none⟩) 2 3), (21, .int .i64 2), (22, .int .i64 0), (26, .slice (some ⟨g340, 0, none⟩) 1 1), (28, .int .i64 t344), (31, .slice (some ⟨g341, 0, none⟩) 1 1), (32, .pointer (some ⟨b352, 1, none⟩))]) (by kernel_rfl) ?_
        refine t_end ?_
        exact ⟨hg_67, rfl⟩
      · show T _ _ _ _ _ _ _ _
        refine t_v (.ld1 rfl rfl rfl (.at 0 rfl rfl)) ?_
        refine t_keep [2, 3, 8, 9, 10, 20, 21, 22, 26, 27, 31, 33] (σ' := [(2, .int .i64 i2), (3, .int .i64 n3), (8, .pointer (some ⟨b339, 0, none⟩)), (9, .slice (some ⟨g340, 0, none⟩) 1 1), (10, .slice (some ⟨g341, 0, none⟩) 1 1), (20, .slice (some ⟨N351, 1, none⟩) 2 3), (21, .int .i64 2), (22, .int .i64 0), (26, .slice (some ⟨g340, 0, none⟩) 1 1), (27, .pointer (some ⟨b352, 0, none⟩)), (31, .slice (some ⟨g341, 0, none⟩) 1 1), (33, .int .i64 t345)]) (by kernel_rfl) ?_
        refine t_end ?_
        exact ⟨hg_e3, rfl⟩
    have hg_23 : G [true, true, false, false, false, true, false, false, false, false, false, false] [(2, .int .i64 i2), (3, .int .i64 n3), (8, .pointer (some ⟨b339, 0, none⟩)), (9, .slice (some ⟨g340, 0, none⟩) 1 1), (10, .slice (some ⟨g341, 0, none⟩) 1 1), (12, .pointer (some ⟨b352, 0, none⟩)), (20, .slice (some ⟨N351, 1, none⟩) 2 3), (21, .int .i64 2), (22, .int .i64 0), (26, .slice (some ⟨g340, 0, none⟩) 1 1), (27, .pointer (some ⟨b352, 0, none⟩)), (31, .slice (some ⟨g341, 0, none⟩) 1 1)] ([⟨b352, [.int .i64 t344, .int .i64 t345], 2⟩, ⟨N351, [.int .i64 t343, .int .i64 t344, .int .i64 t345, .int .i64 t346, .int .i64 t347, .int .i64 t348, .int .i64 t349], 7⟩, ⟨g341, [.int .i64 a0_1], 1⟩, ⟨g340, [.int .i64 a0_0], 1⟩, ⟨b339, [.int .i64 0, .int .i64 0], 2⟩, ⟨b338, [.int .i64 2, .int .i64 s1_1, .int .i64 s1_2, .int .i64 s1_3, .int .i64 s1_4, .int .i64 s1_5, .int .i64 s1_6], 7⟩, ⟨b337, [.int .i64 a0_0, .int .i64 a0_1], 2⟩] : List Own) := by
      exact hqf 6 [2, 3, 8, 9, 10, 20, 21, 22, 26, 27, 31, 32] _ _ _ [(2, .int .i64 i2), (3, .int .i64 n3), (8, .pointer (some ⟨b339, 0, none⟩)), (9, .slice (some ⟨g340, 0, none⟩) 1 1), (10, .slice (some ⟨g341, 0, none⟩) 1 1), (20, .slice (some ⟨N351, 1, none⟩) 2 3), (21, .int .i64 2), (22, .int .i64 0), (26, .slice (some ⟨g340, 0, none⟩) 1 1), (27, .pointer (some ⟨b352, 0, none⟩)), (31, .slice (some ⟨g341, 0, none⟩) 1 1), (32, .pointer (some ⟨b352, 1, none⟩))] (by kernel_rfl) (by kernel_rfl) hg_63
    have hg_3 : G [true, true, false, false, false, false, false, false, false, false, false, false] [(2, .int .i64 i2), (3, .int .i64 n3), (8, .pointer (some ⟨b339, 0, none⟩)), (9, .slice (some ⟨g340, 0, none⟩) 1 1), (10, .slice (some ⟨g341, 0, none⟩) 1 1), (12, .pointer (some ⟨b352, 0, none⟩)), (20, .slice (some ⟨N351, 1, none⟩) 2 3), (21, .int .i64 2), (22, .int .i64 0), (26, .slice (some ⟨g340, 0, none⟩) 1 1), (27, .pointer (some ⟨b352, 0, none⟩))] ([⟨b352, [.int .i64 t344, .int .i64 t345], 2⟩, ⟨N351, [.int .i64 t343, .int .i64 t344, .int .i64 t345, .int .i64 t346, .int .i64 t347, .int .i64 t348, .int .i64 t349], 7⟩, ⟨g341, [.int .i64 a0_1], 1⟩, ⟨g340, [.int .i64 a0_0], 1⟩, ⟨b339, [.int .i64 0, .int .i64 0], 2⟩, ⟨b338, [.int .i64 2, .int .i64 s1_1, .int .i64 s1_2, .int .i64 s1_3, .int .i64 s1_4, .int .i64 s1_5, .int .i64 s1_6], 7⟩, ⟨b337, [.int .i64 a0_0, .int .i64 a0_1], 2⟩] : List Own) := by
      exact hqf 5 [2, 3, 8, 9, 10, 12, 20, 21, 22, 26, 27, 31] _ _ _ [(2, .int .i64 i2), (3, .int .i64 n3), (8, .pointer (some ⟨b339, 0, none⟩)), (9, .slice (some ⟨g340, 0, none⟩) 1 1), (10, .slice (some ⟨g341, 0, none⟩) 1 1), (12, .pointer (some ⟨b352, 0, none⟩)), (20, .slice (some ⟨N351, 1, none⟩) 2 3), (21, .int .i64 2), (22, .int .i64 0), (26, .slice (some ⟨g340, 0, none⟩) 1 1), (27, .pointer (some ⟨b352, 0, none⟩)), (31, .slice (some ⟨g341, 0, none⟩) 1 1)] (by kernel_rfl) (by kernel_rfl) hg_23
    have hg_1 : G [true, false, false, false, false, false, false, false, false, false, false, false] [(2, .int .i64 i2), (3, .int .i64 n3), (8, .pointer (some ⟨b339, 0, none⟩)), (9, .slice (some ⟨g340, 0, none⟩) 1 1), (10, .slice (some ⟨g341, 0, none⟩) 1 1), (12, .pointer (some ⟨b352, 0, none⟩)), (20, .slice (some ⟨N351, 1, none⟩) 2 3), (21, .int .i64 2), (22, .int .i64 0), (26, .slice (some ⟨g340, 0, none⟩) 1 1)] ([⟨b352, [.int .i64 t344, .int .i64 t345], 2⟩, ⟨N351, [.int .i64 t343, .int .i64 t344, .int .i64 t345, .int .i64 t346, .int .i64 t347, .int .i64 t348, .int .i64 t349], 7⟩, ⟨g341, [.int .i64 a0_1], 1⟩, ⟨g340, [.int .i64 a0_0], 1⟩, ⟨b339, [.int .i64 0, .int .i64 0], 2⟩, ⟨b338, [.int .i64 2, .int .i64 s1_1, .int .i64 s1_2, .int .i64 s1_3, .int .i64 s1_4, .int .i64 s1_5, .int .i64 s1_6], 7⟩, ⟨b337, [.int .i64 a0_0, .int .i64 a0_1], 2⟩] : List Own) := by
      exact hqf 1 [2, 3, 8, 9, 10, 12, 20, 21, 22, 26, 27] _ _ _ [(2, .int .i64 i2), (3, .int .i64 n3), (8, .pointer (some ⟨b339, 0, none⟩)), (9, .slice (some ⟨g340, 0, none⟩) 1 1), (10, .slice (some ⟨g341, 0, none⟩) 1 1), (12, .pointer (some ⟨b352, 0, none⟩)), (20, .slice (some ⟨N351, 1, none⟩) 2 3), (21, .int .i64 2), (22, .int .i64 0), (26, .slice (some ⟨g340, 0, none⟩) 1 1), (27, .pointer (some ⟨b352, 0, none⟩))] (by kernel_rfl) (by kernel_rfl) hg_3
    have hg_0 : G [false, false, false, false, false, false, false, false, false, false, false, false] [(2, .int .i64 i2), (3, .int .i64 n3), (8, .pointer (some ⟨b339, 0, none⟩)), (9, .slice (some ⟨g340, 0, none⟩) 1 1), (10, .slice (some ⟨g341, 0, none⟩) 1 1), (12, .pointer (some ⟨b352, 0, none⟩)), (20, .slice (some ⟨N351, 1, none⟩) 2 3), (21, .int .i64 2), (22, .int .i64 0)] ([⟨b352, [.int .i64 t344, .int .i64 t345], 2⟩, ⟨N351, [.int .i64 t343, .int .i64 t344, .int .i64 t345, .int .i64 t346, .int .i64 t347, .int .i64 t348, .int .i64 t349], 7⟩, ⟨g341, [.int .i64 a0_1], 1⟩, ⟨g340, [.int .i64 a0_0], 1⟩, ⟨b339, [.int .i64 0, .int .i64 0], 2⟩, ⟨b338, [.int .i64 2, .int .i64 s1_1, .int .i64 s1_2, .int .i64 s1_3, .int .i64 s1_4, .int .i64 s1_5, .int .i64 s1_6], 7⟩, ⟨b337, [.int .i64 a0_0, .int .i64 a0_1], 2⟩] : List Own) := by
      exact hqf 0 [2, 3, 8, 9, 10, 12, 20, 21, 22, 26] _ _ _ [(2, .int .i64 i2), (3, .int .i64 n3), (8, .pointer (some ⟨b339, 0, none⟩)), (9, .slice (some ⟨g340, 0, none⟩) 1 1), (10, .slice (some ⟨g341, 0, none⟩) 1 1), (12, .pointer (some ⟨b352, 0, none⟩)), (20, .slice (some ⟨N351, 1, none⟩) 2 3), (21, .int .i64 2), (22, .int .i64 0), (26, .slice (some ⟨g340, 0, none⟩) 1 1)] (by kernel_rfl) (by kernel_rfl) hg_1
    exact hg_0
  have hg_7f : ∀ (g341 : Nat) (g340 : Nat), G [true, true, true, true, true, true, true, false] [(2, .int .i64 i2), (3, .int .i64 n3), (5, .pointer (some ⟨b338, 0, none⟩)), (8, .pointer (some ⟨b339, 0, none⟩)), (9, .slice (some ⟨g340, 0, none⟩) 1 1), (18, .slice (some ⟨g341, 0, none⟩) 1 1)] ([⟨g341, [.int .i64 a0_1], 1⟩, ⟨g340, [.int .i64 a0_0], 1⟩, ⟨b339, [.int .i64 0, .int .i64 0], 2⟩, ⟨b338, [.int .i64 2, .int .i64 s1_1, .int .i64 s1_2, .int .i64 s1_3, .int .i64 s1_4, .int .i64 s1_5, .int .i64 s1_6], 7⟩, ⟨b337, [.int .i64 a0_0, .int .i64 a0_1], 2⟩] : List Own) := by
    intro g341 g340
    exact hqf 7 [2, 3, 5, 8, 9, 10] _ _ _ [(2, .int .i64 i2), (3, .int .i64 n3), (5, .pointer (some ⟨b338, 0, none⟩)), (8, .pointer (some ⟨b339, 0, none⟩)), (9, .slice (some ⟨g340, 0, none⟩) 1 1), (10, .slice (some ⟨g341, 0, none⟩) 1 1)] (by kernel_rfl) (by kernel_rfl) (hg_ff g341 g340)
  have hg_3f : ∀ (g341 : Nat) (g340 : Nat), G [true, true, true, true, true, true, false, false] [(2, .int .i64 i2), (3, .int .i64 n3), (5, .pointer (some ⟨b338, 0, none⟩)), (8, .pointer (some ⟨b339, 0, none⟩)), (15, .slice (some ⟨g340, 0, none⟩) 1 1), (18, .slice (some ⟨g341, 0, none⟩) 1 1)] ([⟨g341, [.int .i64 a0_1], 1⟩, ⟨g340, [.int .i64 a0_0], 1⟩, ⟨b339, [.int .i64 0, .int .i64 0], 2⟩, ⟨b338, [.int .i64 2, .int .i64 s1_1, .int .i64 s1_2, .int .i64 s1_3, .int .i64 s1_4, .int .i64 s1_5, .int .i64 s1_6], 7⟩, ⟨b337, [.int .i64 a0_0, .int .i64 a0_1], 2⟩] : List Own) := by
    intro g341 g340
    exact hqf 6 [2, 3, 5, 8, 9, 18] _ _ _ [(2, .int .i64 i2), (3, .int .i64 n3), (5, .pointer (some ⟨b338, 0, none⟩)), (8, .pointer (some ⟨b339, 0, none⟩)), (9, .slice (some ⟨g340, 0, none⟩) 1 1), (18, .slice (some ⟨g341, 0, none⟩) 1 1)] (by kernel_rfl) (by kernel_rfl) (hg_7f g341 g340)
  have hg_5f : ∀ (g340 : Nat), G [true, true, true, true, true, false, true, false] [(2, .int .i64 i2), (3, .int .i64 n3), (5, .pointer (some ⟨b338, 0, none⟩)), (8, .pointer (some ⟨b339, 0, none⟩)), (9, .slice (some ⟨g340, 0, none⟩) 1 1), (17, .int .i64 a0_1)] ([⟨g340, [.int .i64 a0_0], 1⟩, ⟨b339, [.int .i64 0, .int .i64 0], 2⟩, ⟨b338, [.int .i64 2, .int .i64 s1_1, .int .i64 s1_2, .int .i64 s1_3, .int .i64 s1_4, .int .i64 s1_5, .int .i64 s1_6], 7⟩, ⟨b337, [.int .i64 a0_0, .int .i64 a0_1], 2⟩] : List Own) := by
    intro g340
    refine hstep [5] _ _ _ (by kernel_rfl) (List.cons_ne_nil _ _) ⟨?_, trivial⟩
    · show T _ _ _ _ _ _ _ _
      refine t_a (.bsl rfl rfl rfl rfl) fun g341 fg341 sg341 => ?_
      refine t_keep [2, 3, 5, 8, 9, 18] (σ' := [(2, .int .i64 i2), (3, .int .i64 n3), (5, .pointer (some ⟨b338, 0, none⟩)), (8, .pointer (some ⟨b339, 0, none⟩)), (9, .slice (some ⟨g340, 0, none⟩) 1 1), (18, .slice (some ⟨g341, 0, none⟩) 1 1)]) (by kernel_rfl) ?_
      refine t_end ?_
      exact ⟨hg_7f g341 g340, rfl⟩
  have hg_3b : ∀ (g341 : Nat), G [true, true, false, true, true, true, false, false] [(2, .int .i64 i2), (3, .int .i64 n3), (5, .pointer (some ⟨b338, 0, none⟩)), (8, .pointer (some ⟨b339, 0, none⟩)), (14, .int .i64 a0_0), (18, .slice (some ⟨g341, 0, none⟩) 1 1)] ([⟨g341, [.int .i64 a0_1], 1⟩, ⟨b339, [.int .i64 0, .int .i64 0], 2⟩, ⟨b338, [.int .i64 2, .int .i64 s1_1, .int .i64 s1_2, .int .i64 s1_3, .int .i64 s1_4, .int .i64 s1_5, .int .i64 s1_6], 7⟩, ⟨b337, [.int .i64 a0_0, .int .i64 a0_1], 2⟩] : List Own) := by
    intro g341
    refine hstep [2] _ _ _ (by kernel_rfl) (List.cons_ne_nil _ _) ⟨?_, trivial⟩
    · show T _ _ _ _ _ _ _ _
      refine t_a (.bsl rfl rfl rfl rfl) fun g340 fg340 sg340 => ?_
      refine t_keep [2, 3, 5, 8, 15, 18] (σ' := [(2, .int .i64 i2), (3, .int .i64 n3), (5, .pointer (some ⟨b338, 0, none⟩)), (8, .pointer (some ⟨b339, 0, none⟩)), (15, .slice (some ⟨g340, 0, none⟩) 1 1), (18, .slice (some ⟨g341, 0, none⟩) 1 1)]) (by kernel_rfl) ?_
      refine t_vs (H' := ([⟨g341, [.int .i64 a0_1], 1⟩, ⟨g340, [.int .i64 a0_0], 1⟩, ⟨b339, [.int .i64 0, .int .i64 0], 2⟩, ⟨b338, [.int .i64 2, .int .i64 s1_1, .int .i64 s1_2, .int .i64 s1_3, .int .i64 s1_4, .int .i64 s1_5, .int .i64 s1_6], 7⟩, ⟨b337, [.int .i64 a0_0, .int .i64 a0_1], 2⟩] : List Own)) (S' := S) (VS.sel [1, 0, 0, 0, 0] (by kernel_rfl)) ?_
      refine t_end ?_
      exact ⟨hg_3f g341 g340, rfl⟩
  have hg_1f : ∀ (g340 : Nat), G [true, true, true, true, true, false, false, false] [(2, .int .i64 i2), (3, .int .i64 n3), (5, .pointer (some ⟨b338, 0, none⟩)), (8, .pointer (some ⟨b339, 0, none⟩)), (15, .slice (some ⟨g340, 0, none⟩) 1 1), (17, .int .i64 a0_1)] ([⟨g340, [.int .i64 a0_0], 1⟩, ⟨b339, [.int .i64 0, .int .i64 0], 2⟩, ⟨b338, [.int .i64 2, .int .i64 s1_1, .int .i64 s1_2, .int .i64 s1_3, .int .i64 s1_4, .int .i64 s1_5, .int .i64 s1_6], 7⟩, ⟨b337, [.int .i64 a0_0, .int .i64 a0_1], 2⟩] : List Own) := by
    intro g340
    exact hqf 6 [2, 3, 5, 8, 9, 17] _ _ _ [(2, .int .i64 i2), (3, .int .i64 n3), (5, .pointer (some ⟨b338, 0, none⟩)), (8, .pointer (some ⟨b339, 0, none⟩)), (9, .slice (some ⟨g340, 0, none⟩) 1 1), (17, .int .i64 a0_1)] (by kernel_rfl) (by kernel_rfl) (hg_5f g340)
  have hg_4f : ∀ (g340 : Nat), G [true, true, true, true, false, false, true, false] [(2, .int .i64 i2), (3, .int .i64 n3), (5, .pointer (some ⟨b338, 0, none⟩)), (8, .pointer (some ⟨b339, 0, none⟩)), (9, .slice (some ⟨g340, 0, none⟩) 1 1), (16, .pointer (some ⟨b337, 1, none⟩))] ([⟨g340, [.int .i64 a0_0], 1⟩, ⟨b339, [.int .i64 0, .int .i64 0], 2⟩, ⟨b338, [.int .i64 2, .int .i64 s1_1, .int .i64 s1_2, .int .i64 s1_3, .int .i64 s1_4, .int .i64 s1_5, .int .i64 s1_6], 7⟩, ⟨b337, [.int .i64 a0_0, .int .i64 a0_1], 2⟩] : List Own) := by
    intro g340
    refine hstep [4] _ _ _ (by kernel_rfl) (List.cons_ne_nil _ _) ⟨?_, trivial⟩
    · show T _ _ _ _ _ _ _ _
      refine t_v (.ld1 rfl rfl rfl (.at 3 rfl rfl)) ?_
      refine t_keep [2, 3, 5, 8, 9, 17] (σ' := [(2, .int .i64 i2), (3, .int .i64 n3), (5, .pointer (some ⟨b338, 0, none⟩)), (8, .pointer (some ⟨b339, 0, none⟩)), (9, .slice (some ⟨g340, 0, none⟩) 1 1), (17, .int .i64 a0_1)]) (by kernel_rfl) ?_
      refine t_end ?_
      exact ⟨hg_5f g340, rfl⟩
  have hg_f : ∀ (g340 : Nat), G [true, true, true, true, false, false, false, false] [(2, .int .i64 i2), (3, .int .i64 n3), (5, .pointer (some ⟨b338, 0, none⟩)), (8, .pointer (some ⟨b339, 0, none⟩)), (15, .slice (some ⟨g340, 0, none⟩) 1 1), (16, .pointer (some ⟨b337, 1, none⟩))] ([⟨g340, [.int .i64 a0_0], 1⟩, ⟨b339, [.int .i64 0, .int .i64 0], 2⟩, ⟨b338, [.int .i64 2, .int .i64 s1_1, .int .i64 s1_2, .int .i64 s1_3, .int .i64 s1_4, .int .i64 s1_5, .int .i64 s1_6], 7⟩, ⟨b337, [.int .i64 a0_0, .int .i64 a0_1], 2⟩] : List Own) := by
    intro g340
    exact hqf 6 [2, 3, 5, 8, 9, 16] _ _ _ [(2, .int .i64 i2), (3, .int .i64 n3), (5, .pointer (some ⟨b338, 0, none⟩)), (8, .pointer (some ⟨b339, 0, none⟩)), (9, .slice (some ⟨g340, 0, none⟩) 1 1), (16, .pointer (some ⟨b337, 1, none⟩))] (by kernel_rfl) (by kernel_rfl) (hg_4f g340)
  have hg_1b : G [true, true, false, true, true, false, false, false] [(2, .int .i64 i2), (3, .int .i64 n3), (5, .pointer (some ⟨b338, 0, none⟩)), (8, .pointer (some ⟨b339, 0, none⟩)), (14, .int .i64 a0_0), (17, .int .i64 a0_1)] ([⟨b339, [.int .i64 0, .int .i64 0], 2⟩, ⟨b338, [.int .i64 2, .int .i64 s1_1, .int .i64 s1_2, .int .i64 s1_3, .int .i64 s1_4, .int .i64 s1_5, .int .i64 s1_6], 7⟩, ⟨b337, [.int .i64 a0_0, .int .i64 a0_1], 2⟩] : List Own) := by
    refine hstep [2, 5] _ _ _ (by kernel_rfl) (List.cons_ne_nil _ _) ⟨?_, ?_, trivial⟩
    · show T _ _ _ _ _ _ _ _
      refine t_a (.bsl rfl rfl rfl rfl) fun g340 fg340 sg340 => ?_
      refine t_keep [2, 3, 5, 8, 15, 17] (σ' := [(2, .int .i64 i2), (3, .int .i64 n3), (5, .pointer (some ⟨b338, 0, none⟩)), (8, .pointer (some ⟨b339, 0, none⟩)), (15, .slice (some ⟨g340, 0, none⟩) 1 1), (17, .int .i64 a0_1)]) (by kernel_rfl) ?_
      refine t_end ?_
      exact ⟨hg_1f g340, rfl⟩
    · show T _ _ _ _ _ _ _ _
      refine t_a (.bsl rfl rfl rfl rfl) fun g341 fg341 sg341 => ?_
      refine t_keep [2, 3, 5, 8, 14, 18] (σ' := [(2, .int .i64 i2), (3, .int .i64 n3), (5, .pointer (some ⟨b338, 0, none⟩)), (8, .pointer (some ⟨b339, 0, none⟩)), (14, .int .i64 a0_0), (18, .slice (some ⟨g341, 0, none⟩) 1 1)]) (by kernel_rfl) ?_
      refine t_end ?_
      exact ⟨hg_3b g341, rfl⟩
  have hg_39 : ∀ (g341 : Nat), G [true, false, false, true, true, true, false, false] [(2, .int .i64 i2), (3, .int .i64 n3), (5, .pointer (some ⟨b338, 0, none⟩)), (8, .pointer (some ⟨b339, 0, none⟩)), (13, .pointer (some ⟨b337, 0, none⟩)), (18, .slice (some ⟨g341, 0, none⟩) 1 1)] ([⟨g341, [.int .i64 a0_1], 1⟩, ⟨b339, [.int .i64 0, .int .i64 0], 2⟩, ⟨b338, [.int .i64 2, .int .i64 s1_1, .int .i64 s1_2, .int .i64 s1_3, .int .i64 s1_4, .int .i64 s1_5, .int .i64 s1_6], 7⟩, ⟨b337, [.int .i64 a0_0, .int .i64 a0_1], 2⟩] : List Own) := by
    intro g341
    refine hstep [1] _ _ _ (by kernel_rfl) (List.cons_ne_nil _ _) ⟨?_, trivial⟩
    · show T _ _ _ _ _ _ _ _
      refine t_v (.ld1 rfl rfl rfl (.at 3 rfl rfl)) ?_
      refine t_keep [2, 3, 5, 8, 14, 18] (σ' := [(2, .int .i64 i2), (3, .int .i64 n3), (5, .pointer (some ⟨b338, 0, none⟩)), (8, .pointer (some ⟨b339, 0, none⟩)), (14, .int .i64 a0_0), (18, .slice (some ⟨g341, 0, none⟩) 1 1)]) (by kernel_rfl) ?_
      refine t_end ?_
      exact ⟨hg_3b g341, rfl⟩
  have hg_b : G [true, true, false, true, false, false, false, false] [(2, .int .i64 i2), (3, .int .i64 n3), (5, .pointer (some ⟨b338, 0, none⟩)), (8, .pointer (some ⟨b339, 0, none⟩)), (14, .int .i64 a0_0), (16, .pointer (some ⟨b337, 1, none⟩))] ([⟨b339, [.int .i64 0, .int .i64 0], 2⟩, ⟨b338, [.int .i64 2, .int .i64 s1_1, .int .i64 s1_2, .int .i64 s1_3, .int .i64 s1_4, .int .i64 s1_5, .int .i64 s1_6], 7⟩, ⟨b337, [.int .i64 a0_0, .int .i64 a0_1], 2⟩] : List Own) := by
    refine hstep [2, 4] _ _ _ (by kernel_rfl) (List.cons_ne_nil _ _) ⟨?_, ?_, trivial⟩
    · show T _ _ _ _ _ _ _ _
      refine t_a (.bsl rfl rfl rfl rfl) fun g340 fg340 sg340 => ?_
      refine t_keep [2, 3, 5, 8, 15, 16] (σ' := [(2, .int .i64 i2), (3, .int .i64 n3), (5, .pointer (some ⟨b338, 0, none⟩)), (8, .pointer (some ⟨b339, 0, none⟩)), (15, .slice (some ⟨g340, 0, none⟩) 1 1), (16, .pointer (some ⟨b337, 1, none⟩))]) (by kernel_rfl) ?_
      refine t_end ?_
      exact ⟨hg_f g340, rfl⟩
    · show T _ _ _ _ _ _ _ _
      refine t_v (.ld1 rfl rfl rfl (.at 2 rfl rfl)) ?_
      refine t_keep [2, 3, 5, 8, 14, 17] (σ' := [(2, .int .i64 i2), (3, .int .i64 n3), (5, .pointer (some ⟨b338, 0, none⟩)), (8, .pointer (some ⟨b339, 0, none⟩)), (14, .int .i64 a0_0), (17, .int .i64 a0_1)]) (by kernel_rfl) ?_
      refine t_end ?_
      exact ⟨hg_1b, rfl⟩
  have hg_19 : G [true, false, false, true, true, false, false, false] [(2, .int .i64 i2), (3, .int .i64 n3), (5, .pointer (some ⟨b338, 0, none⟩)), (8, .pointer (some ⟨b339, 0, none⟩)), (13, .pointer (some ⟨b337, 0, none⟩)), (17, .int .i64 a0_1)] ([⟨b339, [.int .i64 0, .int .i64 0], 2⟩, ⟨b338, [.int .i64 2, .int .i64 s1_1, .int .i64 s1_2, .int .i64 s1_3, .int .i64 s1_4, .int .i64 s1_5, .int .i64 s1_6], 7⟩, ⟨b337, [.int .i64 a0_0, .int .i64 a0_1], 2⟩] : List Own) := by
    refine hstep [1, 5] _ _ _ (by kernel_rfl) (List.cons_ne_nil _ _) ⟨?_, ?_, trivial⟩
    · show T _ _ _ _ _ _ _ _
      refine t_v (.ld1 rfl rfl rfl (.at 2 rfl rfl)) ?_
      refine t_keep [2, 3, 5, 8, 14, 17] (σ' := [(2, .int .i64 i2), (3, .int .i64 n3), (5, .pointer (some ⟨b338, 0, none⟩)), (8, .pointer (some ⟨b339, 0, none⟩)), (14, .int .i64 a0_0), (17, .int .i64 a0_1)]) (by kernel_rfl) ?_
      refine t_end ?_
      exact ⟨hg_1b, rfl⟩
    · show T _ _ _ _ _ _ _ _
      refine t_a (.bsl rfl rfl rfl rfl) fun g341 fg341 sg341 => ?_
      refine t_keep [2, 3, 5, 8, 13, 18] (σ' := [(2, .int .i64 i2), (3, .int .i64 n3), (5, .pointer (some ⟨b338, 0, none⟩)), (8, .pointer (some ⟨b339, 0, none⟩)), (13, .pointer (some ⟨b337, 0, none⟩)), (18, .slice (some ⟨g341, 0, none⟩) 1 1)]) (by kernel_rfl) ?_
      refine t_end ?_
      exact ⟨hg_39 g341, rfl⟩
  have hg_9 : G [true, false, false, true, false, false, false, false] [(2, .int .i64 i2), (3, .int .i64 n3), (5, .pointer (some ⟨b338, 0, none⟩)), (8, .pointer (some ⟨b339, 0, none⟩)), (13, .pointer (some ⟨b337, 0, none⟩)), (16, .pointer (some ⟨b337, 1, none⟩))] ([⟨b339, [.int .i64 0, .int .i64 0], 2⟩, ⟨b338, [.int .i64 2, .int .i64 s1_1, .int .i64 s1_2, .int .i64 s1_3, .int .i64 s1_4, .int .i64 s1_5, .int .i64 s1_6], 7⟩, ⟨b337, [.int .i64 a0_0, .int .i64 a0_1], 2⟩] : List Own) := by
    refine hstep [1, 4] _ _ _ (by kernel_rfl) (List.cons_ne_nil _ _) ⟨?_, ?_, trivial⟩
    · show T _ _ _ _ _ _ _ _
      refine t_v (.ld1 rfl rfl rfl (.at 2 rfl rfl)) ?_
      refine t_keep [2, 3, 5, 8, 14, 16] (σ' := [(2, .int .i64 i2), (3, .int .i64 n3), (5, .pointer (some ⟨b338, 0, none⟩)), (8, .pointer (some ⟨b339, 0, none⟩)), (14, .int .i64 a0_0), (16, .pointer (some ⟨b337, 1, none⟩))]) (by kernel_rfl) ?_
      refine t_end ?_
      exact ⟨hg_b, rfl⟩
    · show T _ _ _ _ _ _ _ _
      refine t_v (.ld1 rfl rfl rfl (.at 2 rfl rfl)) ?_
      refine t_keep [2, 3, 5, 8, 13, 17] (σ' := [(2, .int .i64 i2), (3, .int .i64 n3), (5, .pointer (some ⟨b338, 0, none⟩)), (8, .pointer (some ⟨b339, 0, none⟩)), (13, .pointer (some ⟨b337, 0, none⟩)), (17, .int .i64 a0_1)]) (by kernel_rfl) ?_
      refine t_end ?_
      exact ⟨hg_19, rfl⟩
  have hg_1 : G [true, false, false, false, false, false, false, false] [(2, .int .i64 i2), (3, .int .i64 n3), (4, .pointer (some ⟨b337, 0, none⟩)), (5, .pointer (some ⟨b338, 0, none⟩)), (8, .pointer (some ⟨b339, 0, none⟩)), (13, .pointer (some ⟨b337, 0, none⟩))] ([⟨b339, [.int .i64 0, .int .i64 0], 2⟩, ⟨b338, [.int .i64 2, .int .i64 s1_1, .int .i64 s1_2, .int .i64 s1_3, .int .i64 s1_4, .int .i64 s1_5, .int .i64 s1_6], 7⟩, ⟨b337, [.int .i64 a0_0, .int .i64 a0_1], 2⟩] : List Own) := by
    exact hqf 3 [2, 3, 5, 8, 13, 16] _ _ _ [(2, .int .i64 i2), (3, .int .i64 n3), (5, .pointer (some ⟨b338, 0, none⟩)), (8, .pointer (some ⟨b339, 0, none⟩)), (13, .pointer (some ⟨b337, 0, none⟩)), (16, .pointer (some ⟨b337, 1, none⟩))] (by kernel_rfl) (by kernel_rfl) hg_9
  have hg_0 : G [false, false, false, false, false, false, false, false] [(2, .int .i64 i2), (3, .int .i64 n3), (4, .pointer (some ⟨b337, 0, none⟩)), (5, .pointer (some ⟨b338, 0, none⟩)), (8, .pointer (some ⟨b339, 0, none⟩))] ([⟨b339, [.int .i64 0, .int .i64 0], 2⟩, ⟨b338, [.int .i64 2, .int .i64 s1_1, .int .i64 s1_2, .int .i64 s1_3, .int .i64 s1_4, .int .i64 s1_5, .int .i64 s1_6], 7⟩, ⟨b337, [.int .i64 a0_0, .int .i64 a0_1], 2⟩] : List Own) := by
    exact hqf 0 [2, 3, 4, 5, 8, 13] _ _ _ [(2, .int .i64 i2), (3, .int .i64 n3), (4, .pointer (some ⟨b337, 0, none⟩)), (5, .pointer (some ⟨b338, 0, none⟩)), (8, .pointer (some ⟨b339, 0, none⟩)), (13, .pointer (some ⟨b337, 0, none⟩))] (by kernel_rfl) (by kernel_rfl) hg_1
  exact hg_0

def flatten_points_v4.f (s0_1 : Int) (s0_2 : Int) (s0_3 : Int) (s0_4 : Int) (s0_5 : Int) (s0_6 : Int) : Option (Int × Int × Int × Int × Int × Int × Int) := some (3, s0_1, s0_2, s0_3, s0_4, s0_5, s0_6)
theorem flatten_points_v4.ok {S : Seal} {s0_1 : Int} {s0_2 : Int} {s0_3 : Int} {s0_4 : Int} {s0_5 : Int} {s0_6 : Int} {r0_ : Int} {r1_ : Int} {r2_ : Int} {r3_ : Int} {r4_ : Int} {r5_ : Int} {r6_ : Int}(e : flatten_points_v4.f s0_1 s0_2 s0_3 s0_4 s0_5 s0_6 = some (r0_, r1_, r2_, r3_, r4_, r5_, r6_)) :
    Cal Try.prog 70 [.agg #[.int .i64 3, .int .i64 s0_1, .int .i64 s0_2, .int .i64 s0_3, .int .i64 s0_4, .int .i64 s0_5, .int .i64 s0_6]] [] S fun v H' S' => ∃ (N0_ : Nat) , v = .slice (some ⟨N0_, 1, none⟩) 3 3 ∧ H' = ([⟨N0_, [.int .i64 r0_, .int .i64 r1_, .int .i64 r2_, .int .i64 r3_, .int .i64 r4_, .int .i64 r5_, .int .i64 r6_], 7⟩] : List Own) ∧ S' = S := by
  unfold flatten_points_v4.f at e
  refine cal_of (c := c70) (N := 15) Try.func70 rfl rfl (by kernel_rfl) (rs := [.t 2]) (by kernel_rfl) (Nat.le_of_ble_eq_true rfl) ?_
  unfold c70
  refine w_seq ?_
  refine w_reg fun all => ?_
  refine t_a (.box rfl rfl rfl) fun b383 fb383 sb383 => ?_
  refine t_qz 1 [1] (σ' := [(1, .pointer (some ⟨b383, 0, none⟩))]) (by kernel_rfl) ?_
  refine t_end ?_
  show W _ _ _ _ _ _ _
  refine w_seq ?_
  refine w_seq ?_
  refine w_reg fun all => ?_
  refine t_qz 1 [1, 3] (σ' := [(1, .pointer (some ⟨b383, 0, none⟩)), (3, .pointer (some ⟨b383, 0, none⟩))]) (by kernel_rfl) ?_
  refine t_v (.ld1 rfl rfl rfl (.at 0 rfl rfl)) ?_
  refine t_qz 3 [1, 6, 7] (σ' := [(1, .pointer (some ⟨b383, 0, none⟩)), (6, .bool false), (7, .pointer (some ⟨b383, 0, none⟩))]) (by kernel_rfl) ?_
  refine t_v (.ld1 rfl rfl rfl (.at 0 rfl rfl)) ?_
  refine t_qz 2 [1, 10] (σ' := [(1, .pointer (some ⟨b383, 0, none⟩)), (10, .bool false)]) (by kernel_rfl) ?_
  refine t_end ?_
  show W _ _ _ _ _ _ _
  refine w_cond rfl (fun c_ => by cases c_) (fun _ => ?_)
  show W _ _ _ _ _ _ _
  refine w_skip ?_
  show W _ _ _ _ _ _ _
  refine w_seq ?_
  refine w_reg fun all => ?_
  refine t_qz 2 [11, 12] (σ' := [(11, .pointer (some ⟨b383, 1, none⟩)), (12, .pointer (some ⟨b383, 0, none⟩))]) (by kernel_rfl) ?_
  refine t_v (.ld1 rfl rfl rfl (.at 0 rfl rfl)) ?_
  refine t_qz 2 [2] (σ' := [(2, .slice (some ⟨b383, 1, none⟩) 3 3)]) (by kernel_rfl) ?_
  refine t_end ?_
  show W _ _ _ _ _ _ _
  refine w_ret ?_
  simp only [Option.some.injEq, Prod.mk.injEq] at e
  obtain ⟨rfl, rfl, rfl, rfl, rfl, rfl, rfl⟩ := e
  exact ⟨[.slice (some ⟨b383, 1, none⟩) 3 3], ([⟨b383, [.int .i64 3, .int .i64 s0_1, .int .i64 s0_2, .int .i64 s0_3, .int .i64 s0_4, .int .i64 s0_5, .int .i64 s0_6], 7⟩] : List Own), S, ⟨rfl, trivial⟩, VS.sel [0] (by kernel_rfl), b383, rfl, rfl, rfl⟩

def flatten_mix_v5.f (i0 : Int) (n1 : Int) (m0_0 : Int) (m0_1 : Int) (m0_2 : Int) (m0_3 : Int) : Option (Int) := (fixed_Round.f (wr64 ((wr64 ((wr64 ((wr64 ((wr64 ((wr64 ((wr64 (n1 - i0)) * (wr64 (n1 - i0)))) * (wr64 (n1 - i0)))) * m0_0)) + (wr64 ((wr64 ((wr64 ((wr64 (3 * i0)) * (wr64 (n1 - i0)))) * (wr64 (n1 - i0)))) * m0_1)))) + (wr64 ((wr64 ((wr64 ((wr64 (3 * i0)) * i0)) * (wr64 (n1 - i0)))) * m0_2)))) + (wr64 ((wr64 ((wr64 (i0 * i0)) * i0)) * m0_3)))) (wr64 ((wr64 (n1 * n1)) * n1))).bind fun t408 => (some t408)
theorem flatten_mix_v5.ok {S : Seal} {B0 nB0 : Nat} {i0 : Int} {n1 : Int} {m0_0 : Int} {m0_1 : Int} {m0_2 : Int} {m0_3 : Int} {r0_ : Int}(e : flatten_mix_v5.f i0 n1 m0_0 m0_1 m0_2 m0_3 = some r0_) :
    Cal Try.prog 71 [.int .i64 i0, .int .i64 n1, .slice (some ⟨B0, 0, none⟩) 4 (nB0 / 1)] ([⟨B0, [.int .i64 m0_0, .int .i64 m0_1, .int .i64 m0_2, .int .i64 m0_3], nB0⟩] : List Own) S fun v H' S' => v = .int .i64 r0_ ∧ H' = ([⟨B0, [.int .i64 m0_0, .int .i64 m0_1, .int .i64 m0_2, .int .i64 m0_3], nB0⟩] : List Own) ∧ S' = S := by
  unfold flatten_mix_v5.f at e
  refine cal_of (c := c71) (N := 110) Try.func71 rfl rfl (by kernel_rfl) (rs := [.t 6]) (by kernel_rfl) (Nat.le_of_ble_eq_true rfl) ?_
  unfold c71
  refine w_seq ?_
  refine w_reg fun all => ?_
  refine t_qz 1 [0, 1, 2] (σ' := [(0, .int .i64 i0), (1, .int .i64 n1), (2, .slice (some ⟨B0, 0, none⟩) 4 (nB0 / 1))]) (by kernel_rfl) ?_
  refine t_end ?_
  show W _ _ _ _ _ _ _
  refine w_seq ?_
  refine w_reg fun all => ?_
  refine t_qz 4 [0, 1, 2, 7] (σ' := [(0, .int .i64 i0), (1, .int .i64 n1), (2, .slice (some ⟨B0, 0, none⟩) 4 (nB0 / 1)), (7, .int .i64 (wr64 (n1 - i0)))]) (by kernel_rfl) ?_
  refine t_end ?_
  show W _ _ _ _ _ _ _
  refine w_seq ?_
  refine w_seq ?_
  refine w_reg fun all => ?_
  refine t_qz 2 [0, 1, 2, 7, 12] (σ' := [(0, .int .i64 i0), (1, .int .i64 n1), (2, .slice (some ⟨B0, 0, none⟩) 4 (nB0 / 1)), (7, .int .i64 (wr64 (n1 - i0))), (12, .int .i64 4)]) (by kernel_rfl) ?_
  refine t_end ?_
  show W _ _ _ _ _ _ _
  refine w_block ?_
  refine w_seq ?_
  refine w_reg fun all => ?_
  refine t_qz 2 [0, 1, 2, 7, 12, 13] (σ' := [(0, .int .i64 i0), (1, .int .i64 n1), (2, .slice (some ⟨B0, 0, none⟩) 4 (nB0 / 1)), (7, .int .i64 (wr64 (n1 - i0))), (12, .int .i64 4), (13, .bool false)]) (by kernel_rfl) ?_
  refine t_end ?_
  show W _ _ _ _ _ _ _
  refine w_cond rfl (fun c_ => by cases c_) (fun _ => ?_)
  show W _ _ _ _ _ _ _
  refine w_seq ?_
  refine w_reg fun all => ?_
  refine t_qz 2 [0, 1, 2, 7, 12, 18] (σ' := [(0, .int .i64 i0), (1, .int .i64 n1), (2, .slice (some ⟨B0, 0, none⟩) 4 (nB0 / 1)), (7, .int .i64 (wr64 (n1 - i0))), (12, .int .i64 4), (18, .bool false)]) (by kernel_rfl) ?_
  refine t_end ?_
  show W _ _ _ _ _ _ _
  refine w_cond rfl (fun c_ => by cases c_) (fun _ => ?_)
  show W _ _ _ _ _ _ _
  refine w_seq ?_
  refine w_reg fun all => ?_
  refine t_qz 2 [0, 1, 2, 7, 33] (σ' := [(0, .int .i64 i0), (1, .int .i64 n1), (2, .slice (some ⟨B0, 0, none⟩) 4 (nB0 / 1)), (7, .int .i64 (wr64 (n1 - i0))), (33, .bool false)]) (by kernel_rfl) ?_
  refine t_end ?_
  show W _ _ _ _ _ _ _
  refine w_cond rfl (fun c_ => by cases c_) (fun _ => ?_)
  show W _ _ _ _ _ _ _
  refine w_skip ?_
  show W _ _ _ _ _ _ _
  refine w_seq ?_
  obtain ⟨t408, h409, e⟩ := bind_of e
  refine w_drwE mixed 48 [.v (.int .i64 (wr64 (n1 - i0))), .v (.int .i64 (wr64 (n1 - i0))), .v (.int .i64 (wr64 ((wr64 (n1 - i0)) * (wr64 (n1 - i0))))), .v (.int .i64 (wr64 (n1 - i0))), .v (.int .i64 (wr64 ((wr64 ((wr64 (n1 - i0)) * (wr64 (n1 - i0)))) * (wr64 (n1 - i0))))), .v (.slice (some ⟨B0, 0, none⟩) 4 (nB0 / 1)), .v (.pointer (some ⟨B0, 0, none⟩)), .v (.int .i64 m0_0), .v (.int .i64 (wr64 ((wr64 ((wr64 ((wr64 (n1 - i0)) * (wr64 (n1 - i0)))) * (wr64 (n1 - i0)))) * m0_0))), .v (.int .i64 i0), .v (.int .i64 (wr64 (3 * i0))), .v (.int .i64 (wr64 (n1 - i0))), .v (.int .i64 (wr64 ((wr64 (3 * i0)) * (wr64 (n1 - i0))))), .v (.int .i64 (wr64 (n1 - i0))), .v (.int .i64 (wr64 ((wr64 ((wr64 (3 * i0)) * (wr64 (n1 - i0)))) * (wr64 (n1 - i0))))), .v (.slice (some ⟨B0, 0, none⟩) 4 (nB0 / 1)), .v (.pointer (some ⟨B0, 1, none⟩)), .v (.int .i64 m0_1), .v (.int .i64 (wr64 ((wr64 ((wr64 ((wr64 (3 * i0)) * (wr64 (n1 - i0)))) * (wr64 (n1 - i0)))) * m0_1))), .v (.int .i64 (wr64 ((wr64 ((wr64 ((wr64 ((wr64 (n1 - i0)) * (wr64 (n1 - i0)))) * (wr64 (n1 - i0)))) * m0_0)) + (wr64 ((wr64 ((wr64 ((wr64 (3 * i0)) * (wr64 (n1 - i0)))) * (wr64 (n1 - i0)))) * m0_1))))), .v (.int .i64 i0), .v (.int .i64 (wr64 (3 * i0))), .v (.int .i64 i0), .v (.int .i64 (wr64 ((wr64 (3 * i0)) * i0))), .v (.int .i64 (wr64 (n1 - i0))), .v (.int .i64 (wr64 ((wr64 ((wr64 (3 * i0)) * i0)) * (wr64 (n1 - i0))))), .v (.slice (some ⟨B0, 0, none⟩) 4 (nB0 / 1)), .v (.pointer (some ⟨B0, 2, none⟩)), .v (.int .i64 m0_2), .v (.int .i64 (wr64 ((wr64 ((wr64 ((wr64 (3 * i0)) * i0)) * (wr64 (n1 - i0)))) * m0_2))), .v (.int .i64 (wr64 ((wr64 ((wr64 ((wr64 ((wr64 ((wr64 (n1 - i0)) * (wr64 (n1 - i0)))) * (wr64 (n1 - i0)))) * m0_0)) + (wr64 ((wr64 ((wr64 ((wr64 (3 * i0)) * (wr64 (n1 - i0)))) * (wr64 (n1 - i0)))) * m0_1)))) + (wr64 ((wr64 ((wr64 ((wr64 (3 * i0)) * i0)) * (wr64 (n1 - i0)))) * m0_2))))), .v (.int .i64 i0), .v (.int .i64 i0), .v (.int .i64 (wr64 (i0 * i0))), .v (.int .i64 i0), .v (.int .i64 (wr64 ((wr64 (i0 * i0)) * i0))), .v (.slice (some ⟨B0, 0, none⟩) 4 (nB0 / 1)), .v (.pointer (some ⟨B0, 3, none⟩)), .v (.int .i64 m0_3), .v (.int .i64 (wr64 ((wr64 ((wr64 (i0 * i0)) * i0)) * m0_3))), .v (.int .i64 (wr64 ((wr64 ((wr64 ((wr64 ((wr64 ((wr64 ((wr64 (n1 - i0)) * (wr64 (n1 - i0)))) * (wr64 (n1 - i0)))) * m0_0)) + (wr64 ((wr64 ((wr64 ((wr64 (3 * i0)) * (wr64 (n1 - i0)))) * (wr64 (n1 - i0)))) * m0_1)))) + (wr64 ((wr64 ((wr64 ((wr64 (3 * i0)) * i0)) * (wr64 (n1 - i0)))) * m0_2)))) + (wr64 ((wr64 ((wr64 (i0 * i0)) * i0)) * m0_3))))), .v (.int .i64 n1), .v (.int .i64 n1), .v (.int .i64 (wr64 (n1 * n1))), .v (.int .i64 n1), .v (.int .i64 (wr64 ((wr64 (n1 * n1)) * n1))), .v (.int .i64 t408), .v (.int .i64 t408)] (by kernel_rfl) ?_ ?_
  · refine DI.sq 7 (by kernel_rfl) rfl ?_
    refine .cons (.ld1 rfl rfl rfl (.at 0 rfl rfl)) ?_
    refine DI.sq 9 (by kernel_rfl) rfl ?_
    refine .cons (.ld1 rfl rfl rfl (.at 0 rfl rfl)) ?_
    refine DI.sq 10 (by kernel_rfl) rfl ?_
    refine .cons (.ld1 rfl rfl rfl (.at 0 rfl rfl)) ?_
    refine DI.sq 9 (by kernel_rfl) rfl ?_
    refine .cons (.ld1 rfl rfl rfl (.at 0 rfl rfl)) ?_
    refine DI.sq 7 (by kernel_rfl) rfl ?_
    refine .cons (.call (vs := [.int .i64 (wr64 ((wr64 ((wr64 ((wr64 ((wr64 ((wr64 ((wr64 (n1 - i0)) * (wr64 (n1 - i0)))) * (wr64 (n1 - i0)))) * m0_0)) + (wr64 ((wr64 ((wr64 ((wr64 (3 * i0)) * (wr64 (n1 - i0)))) * (wr64 (n1 - i0)))) * m0_1)))) + (wr64 ((wr64 ((wr64 ((wr64 (3 * i0)) * i0)) * (wr64 (n1 - i0)))) * m0_2)))) + (wr64 ((wr64 ((wr64 (i0 * i0)) * i0)) * m0_3)))), .int .i64 (wr64 ((wr64 (n1 * n1)) * n1))]) rfl rfl (by kernel_rfl) (fixed_Round.ok h409)) ?_
    refine DI.sq 1 (by kernel_rfl) rfl ?_
    exact .nil
  refine fk_q 48 [6] (σ' := [(6, .int .i64 t408)]) t_more (by kernel_rfl) ?_
  refine fk_nil fun all => ?_
  refine t_keep [6] (σ' := [(6, .int .i64 t408)]) (by kernel_rfl) ?_
  refine t_end ?_
  show W _ _ _ _ _ _ _
  refine w_ret ?_
  obtain rfl := Option.some.inj e
  exact ⟨[.int .i64 t408], ([⟨B0, [.int .i64 m0_0, .int .i64 m0_1, .int .i64 m0_2, .int .i64 m0_3], nB0⟩] : List Own), S, ⟨rfl, trivial⟩, VS.sel [0] (by kernel_rfl), rfl, rfl, rfl⟩
end Go.Proofs.Ytpimfacaalkmdaa.QFlattenRows
