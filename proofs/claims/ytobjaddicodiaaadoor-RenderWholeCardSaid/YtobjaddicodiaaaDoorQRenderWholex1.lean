/- Functions of the program as Lean functions, each with the proof of its walk. Written by gen.py, a program of these sessions. -/
import Derived.Test.YtobjaddicodiaaaDoorQRenderWholex0
namespace Go.Proofs.YtobjaddicodiaaaDoor.QRenderWhole
open Go Go.RowKit Go.Proofs.YtobjaddicodiaaaDoorE Go.Proofs.YtobjaddicodiaaaDoorX
set_option linter.unusedVariables false
set_option maxRecDepth 100000
set_option maxHeartbeats 8000000
/-- flatten.Point -/
def c46 : C :=
  (.seq (.reg [oq 4 (.box (.tmp 0)),
     oq 5 (.box (.tmp 1)),
     oq 8 (.new [(vI 0), (vI 0)])])
  (.seq (.drw [oq 13 (.pad 0 (.tmp 4)),
     oq 14 (.ld none (.tmp 13)),
     oq 15 (.bsl [(vI 0)] 1 [(0, 1, (.tmp 14))]),
     oq 16 (.pad 1 (.tmp 4)),
     oq 17 (.ld none (.tmp 16)),
     oq 18 (.bsl [(vI 0)] 1 [(0, 1, (.tmp 17))]),
     oq 9 (.mv (.tmp 15)),
     oq 10 (.mv (.tmp 18))] [[], [0], [1], [], [3], [4], [2, 0, 1, 2], [5, 6, 0, 1, 2, 3, 4, 5, 6]])
  (.seq (.seq (.reg [oq 19 (.ld (some 7) (.tmp 5)),
      oq 20 (.call 44 [(.tmp 19)]),
      oq 21 (.lns (.tmp 20)),
      oq 22 (.mv (.const (vI 0)))])
   (.block 0 (.loop (.seq (.reg [oq 23 (.bin .lss (.tmp 22) (.tmp 21))])
     (.seq (.cond (.tmp 23)
       .skip
       (.exit 0))
     (.seq (.block 1 (.seq (.reg [oq 24 (.ixs 2 (.tmp 20) (.tmp 22)),
          oq 25 (.ld (some 2) (.tmp 24)),
          oq 12 (.new [(vI 0), (vI 0)]),
          ⟨none, .st 2 (.tmp 12) (.tmp 25), none⟩])
       (.drw [oq 26 (.mv (.tmp 9)),
         oq 27 (.pad 0 (.tmp 12)),
         oq 28 (.ld none (.tmp 27)),
         oq 29 (.bsl [(vI 0)] 1 [(0, 1, (.tmp 28))]),
         oq 30 (.app 2 1 8 [(vI 0)] (.tmp 26) (.tmp 29)),
         oq 31 (.mv (.tmp 10)),
         oq 32 (.pad 1 (.tmp 12)),
         oq 33 (.ld none (.tmp 32)),
         oq 34 (.bsl [(vI 0)] 1 [(0, 1, (.tmp 33))]),
         oq 35 (.app 2 1 8 [(vI 0)] (.tmp 31) (.tmp 34)),
         oq 9 (.mv (.tmp 30)),
         oq 10 (.mv (.tmp 35))] [[], [], [1], [2], [0, 3], [], [], [6], [7], [5, 8, 4], [4, 9, 0, 1, 2, 3, 4], [9, 10, 0, 1, 2, 3, 4, 5, 6, 7, 8, 9, 10]])))
     (.reg [oq 36 (.bin .add (.tmp 22) (.const (vI 1))),
       oq 22 (.mv (.tmp 36))])))))))
  (.seq (.reg [oq 37 (.mv (.tmp 2)),
     oq 38 (.mv (.tmp 3)),
     oq 39 (.mv (.tmp 9)),
     oq 40 (.call 56 [(.tmp 37), (.tmp 38), (.tmp 39)]),
     oq 41 (.mv (.tmp 2)),
     oq 42 (.mv (.tmp 3)),
     oq 43 (.mv (.tmp 10)),
     oq 44 (.call 56 [(.tmp 41), (.tmp 42), (.tmp 43)]),
     oq 45 (.bld [(vI 0), (vI 0)] [(0, 1, (.tmp 40)), (1, 1, (.tmp 44))]),
     ⟨none, .st 2 (.tmp 8) (.tmp 45), none⟩])
  .ret))))
def flatten_Point_v1.f (a0_0 : Int) (a0_1 : Int) (s1_1 : Int) (s1_2 : Int) (s1_3 : Int) (s1_4 : Int) (s1_5 : Int) (s1_6 : Int) : Option (Int × Int) := (flatten_points_v1.f s1_1 s1_2 s1_3 s1_4 s1_5 s1_6).bind fun (t203, t204, t205, t206, t207, t208) => ((flatten_mix_v1.f 1 1 a0_0 t203).bind fun t218 => ((flatten_mix_v1.f 1 1 a0_1 t204).bind fun t220 => (some (t218, t220))))
theorem flatten_Point_v1.ok {S : Seal} {a0_0 : Int} {a0_1 : Int} {s1_1 : Int} {s1_2 : Int} {s1_3 : Int} {s1_4 : Int} {s1_5 : Int} {s1_6 : Int} {r0_ : Int} {r1_ : Int}{A_ : Int → Addr} (hE_ : EO gsE S A_ 157) (e : flatten_Point_v1.f a0_0 a0_1 s1_1 s1_2 s1_3 s1_4 s1_5 s1_6 = some (r0_, r1_)) :
    Cal Tryd.prog 46 [.agg #[vI a0_0, vI a0_1], .agg #[vI 1, vI s1_1, vI s1_2, vI s1_3, vI s1_4, vI s1_5, vI s1_6], vI 1, vI 1] [] S fun v H' S' => v = .agg #[vI r0_, vI r1_] ∧ H' = [] ∧ S' = S := by
 unfold flatten_Point_v1.f at e
 refine cal_of (c := c46) (N := 46) Tryd.func46 rfl rfl (by kernel_rfl) (rs := [.cn 2 8]) (by kernel_rfl) (Nat.le_of_ble_eq_true rfl) ?_
 unfold c46
 refine w_seq ?_
 refine w_reg fun all => ?_
 refine t_a (.box rfl rfl rfl) fun b198 fb198 sb198 => ?_
 refine t_a (.box rfl rfl rfl) fun b199 fb199 sb199 => ?_
 refine t_a (.new rfl rfl) fun b200 fb200 sb200 => ?_
 refine t_keep [2, 3, 4, 5, 8] (σ' := [(2, vI 1), (3, vI 1), (4, vP b198 0), (5, vP b199 0), (8, vP b200 0)]) (by kernel_rfl) ?_
 refine t_end ?_
 show W _ _ _ _ _ _ _
 refine w_seq ?_
 refine w_kp [2, 3, 4, 5, 8] (σ' := [(2, vI 1), (3, vI 1), (4, vP b198 0), (5, vP b199 0), (8, vP b200 0)]) (by kernel_rfl) ?_
 refine w_gameQ mixed (by kernel_rfl) fun all G hend hstep hqf => ?_
 have hg_ff : ∀ (g202 : Nat) (g201 : Nat), G [true, true, true, true, true, true, true, true] [(2, vI 1), (3, vI 1), (5, vP b199 0), (8, vP b200 0), (9, .slice (some ⟨g201, 0, none⟩) 1 1), (10, .slice (some ⟨g202, 0, none⟩) 1 1)] ([⟨g202, [vI a0_1], 1⟩, ⟨g201, [vI a0_0], 1⟩, ⟨b200, [vI 0, vI 0], 2⟩, ⟨b199, [vI 1, vI s1_1, vI s1_2, vI s1_3, vI s1_4, vI s1_5, vI s1_6], 7⟩, ⟨b198, [vI a0_0, vI a0_1], 2⟩] : List Own) := by
  intro g202 g201
  refine hend _ _ _ (by kernel_rfl) ?_
  show W _ _ _ _ _ _ _
  refine w_seq ?_
  refine w_seq ?_
  refine w_reg fun all => ?_
  refine t_v (.ldn rfl rfl rfl (.at 3 rfl rfl)) ?_
  obtain ⟨⟨t203, t204, t205, t206, t207, t208⟩, h209, e⟩ := bind_of e
  try dsimp only at e
  refine t_call (vs := [.agg #[vI 1, vI s1_1, vI s1_2, vI s1_3, vI s1_4, vI s1_5, vI s1_6]]) (H1 := []) (F := ([⟨g202, [vI a0_1], 1⟩, ⟨g201, [vI a0_0], 1⟩, ⟨b200, [vI 0, vI 0], 2⟩, ⟨b199, [vI 1, vI s1_1, vI s1_2, vI s1_3, vI s1_4, vI s1_5, vI s1_6], 7⟩, ⟨b198, [vI a0_0, vI a0_1], 2⟩] : List Own)) rfl rfl (by kernel_rfl) (sel_perm (is := []) (by kernel_rfl)) (flatten_points_v1.ok hE_ h209) ?_
  rintro _ _ S_ ⟨N210, rfl, rfl, hS_⟩
  obtain rfl := hS_.symm
  refine t_qz 2 [2, 3, 8, 9, 10, 20, 21, 22] (σ' := [(2, vI 1), (3, vI 1), (8, vP b200 0), (9, .slice (some ⟨g201, 0, none⟩) 1 1), (10, .slice (some ⟨g202, 0, none⟩) 1 1), (20, .slice (some ⟨N210, 1, none⟩) 1 3), (21, vI 1), (22, vI 0)]) (by kernel_rfl) ?_
  refine t_end ?_
  show W _ _ _ _ _ _ _
  refine w_block ?_
  refine w_lun 15 ?_
  refine wl_step ?_
  refine w_seq ?_
  refine w_reg fun all => ?_
  refine t_qz 1 [2, 3, 8, 9, 10, 20, 21, 22, 23] (σ' := [(2, vI 1), (3, vI 1), (8, vP b200 0), (9, .slice (some ⟨g201, 0, none⟩) 1 1), (10, .slice (some ⟨g202, 0, none⟩) 1 1), (20, .slice (some ⟨N210, 1, none⟩) 1 3), (21, vI 1), (22, vI 0), (23, vB true)]) (by kernel_rfl) ?_
  refine t_end ?_
  show W _ _ _ _ _ _ _
  refine w_seq ?_
  refine w_cond rfl (fun _ => ?_) (fun c_ => by cases c_)
  show W _ _ _ _ _ _ _
  refine w_skip ?_
  show W _ _ _ _ _ _ _
  refine w_seq ?_
  refine w_block ?_
  refine w_seq ?_
  refine w_reg fun all => ?_
  refine t_qz 1 [2, 3, 8, 9, 10, 20, 21, 22, 24] (σ' := [(2, vI 1), (3, vI 1), (8, vP b200 0), (9, .slice (some ⟨g201, 0, none⟩) 1 1), (10, .slice (some ⟨g202, 0, none⟩) 1 1), (20, .slice (some ⟨N210, 1, none⟩) 1 3), (21, vI 1), (22, vI 0), (24, vP N210 1)]) (by kernel_rfl) ?_
  refine t_v (.ldn rfl rfl rfl (.at 0 rfl rfl)) ?_
  refine t_a (.new rfl rfl) fun b211 fb211 sb211 => ?_
  refine t_sti 0 (cs := [vI t203, vI t204]) rfl rfl rfl rfl rfl rfl rfl rfl rfl ?_
  refine t_keep [2, 3, 8, 9, 10, 12, 20, 21, 22] (σ' := [(2, vI 1), (3, vI 1), (8, vP b200 0), (9, .slice (some ⟨g201, 0, none⟩) 1 1), (10, .slice (some ⟨g202, 0, none⟩) 1 1), (12, vP b211 0), (20, .slice (some ⟨N210, 1, none⟩) 1 3), (21, vI 1), (22, vI 0)]) (by kernel_rfl) ?_
  refine t_end ?_
  show W _ _ _ _ _ _ _
  refine w_kp [2, 3, 8, 9, 10, 12, 20, 21, 22] (σ' := [(2, vI 1), (3, vI 1), (8, vP b200 0), (9, .slice (some ⟨g201, 0, none⟩) 1 1), (10, .slice (some ⟨g202, 0, none⟩) 1 1), (12, vP b211 0), (20, .slice (some ⟨N210, 1, none⟩) 1 3), (21, vI 1), (22, vI 0)]) (by kernel_rfl) ?_
  refine w_gameQ mixed (by kernel_rfl) fun all G hend hstep hqf => ?_
  have hg_fff : ∀ (g215 : Nat) (ng215 : Nat) (g214 : Nat) (g213 : Nat) (ng213 : Nat) (g212 : Nat), G [true, true, true, true, true, true, true, true, true, true, true, true] [(2, vI 1), (3, vI 1), (8, vP b200 0), (9, .slice (some ⟨g213, 0, none⟩) 2 (ng213 / 1)), (10, .slice (some ⟨g215, 0, none⟩) 2 (ng215 / 1)), (20, .slice (some ⟨N210, 1, none⟩) 1 3), (21, vI 1), (22, vI 0)] ([⟨g215, [vI a0_1, vI t204], ng215⟩, ⟨g214, [vI t204], 1⟩, ⟨g213, [vI a0_0, vI t203], ng213⟩, ⟨g212, [vI t203], 1⟩, ⟨b211, [vI t203, vI t204], 2⟩, ⟨N210, [vI 1, vI t203, vI t204, vI t205, vI t206, vI t207, vI t208], 7⟩, ⟨b200, [vI 0, vI 0], 2⟩, ⟨b199, [vI 1, vI s1_1, vI s1_2, vI s1_3, vI s1_4, vI s1_5, vI s1_6], 7⟩, ⟨b198, [vI a0_0, vI a0_1], 2⟩] : List Own) := by
   intro g215 ng215 g214 g213 ng213 g212
   refine hend _ _ _ (by kernel_rfl) ?_
   show W _ _ _ _ _ _ _
   refine w_reg fun all => ?_
   refine t_qz 2 [2, 3, 8, 9, 10, 20, 21, 22] (σ' := [(2, vI 1), (3, vI 1), (8, vP b200 0), (9, .slice (some ⟨g213, 0, none⟩) 2 (ng213 / 1)), (10, .slice (some ⟨g215, 0, none⟩) 2 (ng215 / 1)), (20, .slice (some ⟨N210, 1, none⟩) 1 3), (21, vI 1), (22, vI 1)]) (by kernel_rfl) ?_
   refine t_end ?_
   show WL _ _ _ _ _ _ _ _
   refine wl_step ?_
   refine w_seq ?_
   refine w_reg fun all => ?_
   refine t_qz 1 [2, 3, 8, 9, 10, 20, 21, 22, 23] (σ' := [(2, vI 1), (3, vI 1), (8, vP b200 0), (9, .slice (some ⟨g213, 0, none⟩) 2 (ng213 / 1)), (10, .slice (some ⟨g215, 0, none⟩) 2 (ng215 / 1)), (20, .slice (some ⟨N210, 1, none⟩) 1 3), (21, vI 1), (22, vI 1), (23, vB false)]) (by kernel_rfl) ?_
   refine t_end ?_
   show W _ _ _ _ _ _ _
   refine w_seq ?_
   refine w_cond rfl (fun c_ => by cases c_) (fun _ => ?_)
   show W _ _ _ _ _ _ _
   refine w_exit ?_
   show W _ _ _ _ _ _ _
   refine w_seq ?_
   refine w_reg fun all => ?_
   obtain ⟨t218, h219, e⟩ := bind_of e
   refine t_qz 3 [2, 3, 8, 10, 37, 38, 39] (σ' := [(2, vI 1), (3, vI 1), (8, vP b200 0), (10, .slice (some ⟨g215, 0, none⟩) 2 (ng215 / 1)), (37, vI 1), (38, vI 1), (39, .slice (some ⟨g213, 0, none⟩) 2 (ng213 / 1))]) (by kernel_rfl) ?_
   refine t_v (.callr (vs := [vI 1, vI 1, .slice (some ⟨g213, 0, none⟩) 2 (ng213 / 1)]) (A := ([⟨g213, [vI a0_0, vI t203], ng213⟩] : List Own)) (F0 := ([⟨g215, [vI a0_1, vI t204], ng215⟩, ⟨g214, [vI t204], 1⟩, ⟨g212, [vI t203], 1⟩, ⟨b211, [vI t203, vI t204], 2⟩, ⟨N210, [vI 1, vI t203, vI t204, vI t205, vI t206, vI t207, vI t208], 7⟩, ⟨b200, [vI 0, vI 0], 2⟩, ⟨b199, [vI 1, vI s1_1, vI s1_2, vI s1_3, vI s1_4, vI s1_5, vI s1_6], 7⟩, ⟨b198, [vI a0_0, vI a0_1], 2⟩] : List Own)) rfl rfl (by kernel_rfl) (sel_perm (is := [2]) (by kernel_rfl)) (flatten_mix_v1.ok hE_ h219)) ?_
   obtain ⟨t220, h221, e⟩ := bind_of e
   refine t_qz 3 [8, 40, 41, 42, 43] (σ' := [(8, vP b200 0), (40, vI t218), (41, vI 1), (42, vI 1), (43, .slice (some ⟨g215, 0, none⟩) 2 (ng215 / 1))]) (by kernel_rfl) ?_
   refine t_v (.callr (vs := [vI 1, vI 1, .slice (some ⟨g215, 0, none⟩) 2 (ng215 / 1)]) (A := ([⟨g215, [vI a0_1, vI t204], ng215⟩] : List Own)) (F0 := ([⟨g214, [vI t204], 1⟩, ⟨g213, [vI a0_0, vI t203], ng213⟩, ⟨g212, [vI t203], 1⟩, ⟨b211, [vI t203, vI t204], 2⟩, ⟨N210, [vI 1, vI t203, vI t204, vI t205, vI t206, vI t207, vI t208], 7⟩, ⟨b200, [vI 0, vI 0], 2⟩, ⟨b199, [vI 1, vI s1_1, vI s1_2, vI s1_3, vI s1_4, vI s1_5, vI s1_6], 7⟩, ⟨b198, [vI a0_0, vI a0_1], 2⟩] : List Own)) rfl rfl (by kernel_rfl) (sel_perm (is := [0]) (by kernel_rfl)) (flatten_mix_v1.ok hE_ h221)) ?_
   refine t_qz 1 [8, 45] (σ' := [(8, vP b200 0), (45, .agg #[vI t218, vI t220])]) (by kernel_rfl) ?_
   refine t_sti 6 (cs := [vI t218, vI t220]) rfl rfl rfl rfl rfl rfl rfl rfl rfl ?_
   refine t_keep [8] (σ' := [(8, vP b200 0)]) (by kernel_rfl) ?_
   refine t_end ?_
   show W _ _ _ _ _ _ _
   refine w_ret ?_
   simp only [Option.some.injEq, Prod.mk.injEq] at e
   obtain ⟨rfl, rfl⟩ := e
   exact ⟨[.agg #[vI t218, vI t220]], [], S, ⟨⟨_, _, _, rfl, .at 6 rfl rfl, rfl⟩, trivial⟩, VS.none, rfl, rfl, rfl⟩
  have hg_7ff : ∀ (g215 : Nat) (ng215 : Nat) (g214 : Nat) (g213 : Nat) (ng213 : Nat) (g212 : Nat), G [true, true, true, true, true, true, true, true, true, true, true, false] [(2, vI 1), (3, vI 1), (8, vP b200 0), (9, .slice (some ⟨g213, 0, none⟩) 2 (ng213 / 1)), (10, .slice (some ⟨g202, 0, none⟩) 1 1), (20, .slice (some ⟨N210, 1, none⟩) 1 3), (21, vI 1), (22, vI 0), (35, .slice (some ⟨g215, 0, none⟩) 2 (ng215 / 1))] ([⟨g215, [vI a0_1, vI t204], ng215⟩, ⟨g214, [vI t204], 1⟩, ⟨g213, [vI a0_0, vI t203], ng213⟩, ⟨g212, [vI t203], 1⟩, ⟨b211, [vI t203, vI t204], 2⟩, ⟨N210, [vI 1, vI t203, vI t204, vI t205, vI t206, vI t207, vI t208], 7⟩, ⟨b200, [vI 0, vI 0], 2⟩, ⟨b199, [vI 1, vI s1_1, vI s1_2, vI s1_3, vI s1_4, vI s1_5, vI s1_6], 7⟩, ⟨b198, [vI a0_0, vI a0_1], 2⟩] : List Own) := by
   intro g215 ng215 g214 g213 ng213 g212
   exact hqf 11 [2, 3, 8, 9, 10, 20, 21, 22] _ _ _ _ (by kernel_rfl) (by kernel_rfl) (hg_fff g215 ng215 g214 g213 ng213 g212)
  have hg_3ff : ∀ (g215 : Nat) (ng215 : Nat) (g214 : Nat) (g213 : Nat) (ng213 : Nat) (g212 : Nat), G [true, true, true, true, true, true, true, true, true, true, false, false] [(2, vI 1), (3, vI 1), (8, vP b200 0), (9, .slice (some ⟨g201, 0, none⟩) 1 1), (10, .slice (some ⟨g202, 0, none⟩) 1 1), (20, .slice (some ⟨N210, 1, none⟩) 1 3), (21, vI 1), (22, vI 0), (30, .slice (some ⟨g213, 0, none⟩) 2 (ng213 / 1)), (35, .slice (some ⟨g215, 0, none⟩) 2 (ng215 / 1))] ([⟨g215, [vI a0_1, vI t204], ng215⟩, ⟨g214, [vI t204], 1⟩, ⟨g213, [vI a0_0, vI t203], ng213⟩, ⟨g212, [vI t203], 1⟩, ⟨b211, [vI t203, vI t204], 2⟩, ⟨N210, [vI 1, vI t203, vI t204, vI t205, vI t206, vI t207, vI t208], 7⟩, ⟨b200, [vI 0, vI 0], 2⟩, ⟨b199, [vI 1, vI s1_1, vI s1_2, vI s1_3, vI s1_4, vI s1_5, vI s1_6], 7⟩, ⟨b198, [vI a0_0, vI a0_1], 2⟩] : List Own) := by
   intro g215 ng215 g214 g213 ng213 g212
   exact hqf 10 [2, 3, 8, 9, 10, 20, 21, 22, 35] _ _ _ _ (by kernel_rfl) (by kernel_rfl) (hg_7ff g215 ng215 g214 g213 ng213 g212)
  have hg_1ff : ∀ (g214 : Nat) (g213 : Nat) (ng213 : Nat) (g212 : Nat), G [true, true, true, true, true, true, true, true, true, false, false, false] [(2, vI 1), (3, vI 1), (8, vP b200 0), (9, .slice (some ⟨g201, 0, none⟩) 1 1), (10, .slice (some ⟨g202, 0, none⟩) 1 1), (20, .slice (some ⟨N210, 1, none⟩) 1 3), (21, vI 1), (22, vI 0), (30, .slice (some ⟨g213, 0, none⟩) 2 (ng213 / 1)), (31, .slice (some ⟨g202, 0, none⟩) 1 1), (34, .slice (some ⟨g214, 0, none⟩) 1 1)] ([⟨g214, [vI t204], 1⟩, ⟨g213, [vI a0_0, vI t203], ng213⟩, ⟨g212, [vI t203], 1⟩, ⟨b211, [vI t203, vI t204], 2⟩, ⟨N210, [vI 1, vI t203, vI t204, vI t205, vI t206, vI t207, vI t208], 7⟩, ⟨g202, [vI a0_1], 1⟩, ⟨b200, [vI 0, vI 0], 2⟩, ⟨b199, [vI 1, vI s1_1, vI s1_2, vI s1_3, vI s1_4, vI s1_5, vI s1_6], 7⟩, ⟨b198, [vI a0_0, vI a0_1], 2⟩] : List Own) := by
   intro g214 g213 ng213 g212
   refine hstep [9] _ _ _ (by kernel_rfl) (List.cons_ne_nil _ _) ⟨?_, trivial⟩
   ·show T _ _ _ _ _ _ _ _
    refine t_app1 (cs := [vI a0_1]) (M := 1) (F := ([⟨g214, [vI t204], 1⟩, ⟨g213, [vI a0_0, vI t203], ng213⟩, ⟨g212, [vI t203], 1⟩, ⟨b211, [vI t203, vI t204], 2⟩, ⟨N210, [vI 1, vI t203, vI t204, vI t205, vI t206, vI t207, vI t208], 7⟩, ⟨b200, [vI 0, vI 0], 2⟩, ⟨b199, [vI 1, vI s1_1, vI s1_2, vI s1_3, vI s1_4, vI s1_5, vI s1_6], 7⟩, ⟨b198, [vI a0_0, vI a0_1], 2⟩] : List Own)) (news := [vI t204]) rfl rfl rfl rfl (sel_perm (is := [5]) (by kernel_rfl)) (.at 0 rfl rfl) (by kernel_rfl) rfl rfl (by decide) (by decide) rfl fun g215 ng215 => ?_
    exact t_fin [2, 3, 8, 9, 10, 20, 21, 22, 30, 35] (hg_3ff g215 ng215 g214 g213 ng213 g212) (by kernel_rfl)
  have hg_ff : ∀ (g213 : Nat) (ng213 : Nat) (g212 : Nat), G [true, true, true, true, true, true, true, true, false, false, false, false] [(2, vI 1), (3, vI 1), (8, vP b200 0), (9, .slice (some ⟨g201, 0, none⟩) 1 1), (10, .slice (some ⟨g202, 0, none⟩) 1 1), (20, .slice (some ⟨N210, 1, none⟩) 1 3), (21, vI 1), (22, vI 0), (30, .slice (some ⟨g213, 0, none⟩) 2 (ng213 / 1)), (31, .slice (some ⟨g202, 0, none⟩) 1 1), (33, vI t204)] ([⟨g213, [vI a0_0, vI t203], ng213⟩, ⟨g212, [vI t203], 1⟩, ⟨b211, [vI t203, vI t204], 2⟩, ⟨N210, [vI 1, vI t203, vI t204, vI t205, vI t206, vI t207, vI t208], 7⟩, ⟨g202, [vI a0_1], 1⟩, ⟨b200, [vI 0, vI 0], 2⟩, ⟨b199, [vI 1, vI s1_1, vI s1_2, vI s1_3, vI s1_4, vI s1_5, vI s1_6], 7⟩, ⟨b198, [vI a0_0, vI a0_1], 2⟩] : List Own) := by
   intro g213 ng213 g212
   refine hstep [8] _ _ _ (by kernel_rfl) (List.cons_ne_nil _ _) ⟨?_, trivial⟩
   ·show T _ _ _ _ _ _ _ _
    refine t_a (dv_bsl (cs := [vI t204]) rfl rfl (by kernel_rfl)) fun g214 fg214 sg214 => ?_
    exact t_fin [2, 3, 8, 9, 10, 20, 21, 22, 30, 31, 34] (hg_1ff g214 g213 ng213 g212) (by kernel_rfl)
  have hg_1ef : ∀ (g214 : Nat) (g212 : Nat), G [true, true, true, true, false, true, true, true, true, false, false, false] [(2, vI 1), (3, vI 1), (8, vP b200 0), (9, .slice (some ⟨g201, 0, none⟩) 1 1), (10, .slice (some ⟨g202, 0, none⟩) 1 1), (20, .slice (some ⟨N210, 1, none⟩) 1 3), (21, vI 1), (22, vI 0), (26, .slice (some ⟨g201, 0, none⟩) 1 1), (29, .slice (some ⟨g212, 0, none⟩) 1 1), (31, .slice (some ⟨g202, 0, none⟩) 1 1), (34, .slice (some ⟨g214, 0, none⟩) 1 1)] ([⟨g214, [vI t204], 1⟩, ⟨g212, [vI t203], 1⟩, ⟨b211, [vI t203, vI t204], 2⟩, ⟨N210, [vI 1, vI t203, vI t204, vI t205, vI t206, vI t207, vI t208], 7⟩, ⟨g202, [vI a0_1], 1⟩, ⟨g201, [vI a0_0], 1⟩, ⟨b200, [vI 0, vI 0], 2⟩, ⟨b199, [vI 1, vI s1_1, vI s1_2, vI s1_3, vI s1_4, vI s1_5, vI s1_6], 7⟩, ⟨b198, [vI a0_0, vI a0_1], 2⟩] : List Own) := by
   intro g214 g212
   refine hstep [4] _ _ _ (by kernel_rfl) (List.cons_ne_nil _ _) ⟨?_, trivial⟩
   ·show T _ _ _ _ _ _ _ _
    refine t_app1 (cs := [vI a0_0]) (M := 1) (F := ([⟨g214, [vI t204], 1⟩, ⟨g212, [vI t203], 1⟩, ⟨b211, [vI t203, vI t204], 2⟩, ⟨N210, [vI 1, vI t203, vI t204, vI t205, vI t206, vI t207, vI t208], 7⟩, ⟨g202, [vI a0_1], 1⟩, ⟨b200, [vI 0, vI 0], 2⟩, ⟨b199, [vI 1, vI s1_1, vI s1_2, vI s1_3, vI s1_4, vI s1_5, vI s1_6], 7⟩, ⟨b198, [vI a0_0, vI a0_1], 2⟩] : List Own)) (news := [vI t203]) rfl rfl rfl rfl (sel_perm (is := [5]) (by kernel_rfl)) (.at 1 rfl rfl) (by kernel_rfl) rfl rfl (by decide) (by decide) rfl fun g213 ng213 => ?_
    refine t_vs (H' := ([⟨g214, [vI t204], 1⟩, ⟨g213, [vI a0_0, vI t203], ng213⟩, ⟨g212, [vI t203], 1⟩, ⟨b211, [vI t203, vI t204], 2⟩, ⟨N210, [vI 1, vI t203, vI t204, vI t205, vI t206, vI t207, vI t208], 7⟩, ⟨g202, [vI a0_1], 1⟩, ⟨b200, [vI 0, vI 0], 2⟩, ⟨b199, [vI 1, vI s1_1, vI s1_2, vI s1_3, vI s1_4, vI s1_5, vI s1_6], 7⟩, ⟨b198, [vI a0_0, vI a0_1], 2⟩] : List Own)) (S' := S) (VS.sel [1, 0, 0, 0, 0, 0, 0, 0, 0] (by kernel_rfl)) ?_
    exact t_fin [2, 3, 8, 9, 10, 20, 21, 22, 30, 31, 34] (hg_1ff g214 g213 ng213 g212) (by kernel_rfl)
  have hg_1e7 : ∀ (g214 : Nat), G [true, true, true, false, false, true, true, true, true, false, false, false] [(2, vI 1), (3, vI 1), (8, vP b200 0), (9, .slice (some ⟨g201, 0, none⟩) 1 1), (10, .slice (some ⟨g202, 0, none⟩) 1 1), (20, .slice (some ⟨N210, 1, none⟩) 1 3), (21, vI 1), (22, vI 0), (26, .slice (some ⟨g201, 0, none⟩) 1 1), (28, vI t203), (31, .slice (some ⟨g202, 0, none⟩) 1 1), (34, .slice (some ⟨g214, 0, none⟩) 1 1)] ([⟨g214, [vI t204], 1⟩, ⟨b211, [vI t203, vI t204], 2⟩, ⟨N210, [vI 1, vI t203, vI t204, vI t205, vI t206, vI t207, vI t208], 7⟩, ⟨g202, [vI a0_1], 1⟩, ⟨g201, [vI a0_0], 1⟩, ⟨b200, [vI 0, vI 0], 2⟩, ⟨b199, [vI 1, vI s1_1, vI s1_2, vI s1_3, vI s1_4, vI s1_5, vI s1_6], 7⟩, ⟨b198, [vI a0_0, vI a0_1], 2⟩] : List Own) := by
   intro g214
   refine hstep [3] _ _ _ (by kernel_rfl) (List.cons_ne_nil _ _) ⟨?_, trivial⟩
   ·show T _ _ _ _ _ _ _ _
    refine t_a (dv_bsl (cs := [vI t203]) rfl rfl (by kernel_rfl)) fun g212 fg212 sg212 => ?_
    refine t_vs (H' := ([⟨g214, [vI t204], 1⟩, ⟨g212, [vI t203], 1⟩, ⟨b211, [vI t203, vI t204], 2⟩, ⟨N210, [vI 1, vI t203, vI t204, vI t205, vI t206, vI t207, vI t208], 7⟩, ⟨g202, [vI a0_1], 1⟩, ⟨g201, [vI a0_0], 1⟩, ⟨b200, [vI 0, vI 0], 2⟩, ⟨b199, [vI 1, vI s1_1, vI s1_2, vI s1_3, vI s1_4, vI s1_5, vI s1_6], 7⟩, ⟨b198, [vI a0_0, vI a0_1], 2⟩] : List Own)) (S' := S) (VS.sel [1, 0, 0, 0, 0, 0, 0, 0, 0] (by kernel_rfl)) ?_
    exact t_fin [2, 3, 8, 9, 10, 20, 21, 22, 26, 29, 31, 34] (hg_1ef g214 g212) (by kernel_rfl)
  have hg_ef : ∀ (g212 : Nat), G [true, true, true, true, false, true, true, true, false, false, false, false] [(2, vI 1), (3, vI 1), (8, vP b200 0), (9, .slice (some ⟨g201, 0, none⟩) 1 1), (10, .slice (some ⟨g202, 0, none⟩) 1 1), (20, .slice (some ⟨N210, 1, none⟩) 1 3), (21, vI 1), (22, vI 0), (26, .slice (some ⟨g201, 0, none⟩) 1 1), (29, .slice (some ⟨g212, 0, none⟩) 1 1), (31, .slice (some ⟨g202, 0, none⟩) 1 1), (33, vI t204)] ([⟨g212, [vI t203], 1⟩, ⟨b211, [vI t203, vI t204], 2⟩, ⟨N210, [vI 1, vI t203, vI t204, vI t205, vI t206, vI t207, vI t208], 7⟩, ⟨g202, [vI a0_1], 1⟩, ⟨g201, [vI a0_0], 1⟩, ⟨b200, [vI 0, vI 0], 2⟩, ⟨b199, [vI 1, vI s1_1, vI s1_2, vI s1_3, vI s1_4, vI s1_5, vI s1_6], 7⟩, ⟨b198, [vI a0_0, vI a0_1], 2⟩] : List Own) := by
   intro g212
   refine hstep [4, 8] _ _ _ (by kernel_rfl) (List.cons_ne_nil _ _) ⟨?_, ?_, trivial⟩
   ·show T _ _ _ _ _ _ _ _
    refine t_app1 (cs := [vI a0_0]) (M := 1) (F := ([⟨g212, [vI t203], 1⟩, ⟨b211, [vI t203, vI t204], 2⟩, ⟨N210, [vI 1, vI t203, vI t204, vI t205, vI t206, vI t207, vI t208], 7⟩, ⟨g202, [vI a0_1], 1⟩, ⟨b200, [vI 0, vI 0], 2⟩, ⟨b199, [vI 1, vI s1_1, vI s1_2, vI s1_3, vI s1_4, vI s1_5, vI s1_6], 7⟩, ⟨b198, [vI a0_0, vI a0_1], 2⟩] : List Own)) (news := [vI t203]) rfl rfl rfl rfl (sel_perm (is := [4]) (by kernel_rfl)) (.at 0 rfl rfl) (by kernel_rfl) rfl rfl (by decide) (by decide) rfl fun g213 ng213 => ?_
    exact t_fin [2, 3, 8, 9, 10, 20, 21, 22, 30, 31, 33] (hg_ff g213 ng213 g212) (by kernel_rfl)
   ·show T _ _ _ _ _ _ _ _
    refine t_a (dv_bsl (cs := [vI t204]) rfl rfl (by kernel_rfl)) fun g214 fg214 sg214 => ?_
    exact t_fin [2, 3, 8, 9, 10, 20, 21, 22, 26, 29, 31, 34] (hg_1ef g214 g212) (by kernel_rfl)
  have hg_7f : ∀ (g213 : Nat) (ng213 : Nat) (g212 : Nat), G [true, true, true, true, true, true, true, false, false, false, false, false] [(2, vI 1), (3, vI 1), (8, vP b200 0), (9, .slice (some ⟨g201, 0, none⟩) 1 1), (10, .slice (some ⟨g202, 0, none⟩) 1 1), (20, .slice (some ⟨N210, 1, none⟩) 1 3), (21, vI 1), (22, vI 0), (30, .slice (some ⟨g213, 0, none⟩) 2 (ng213 / 1)), (31, .slice (some ⟨g202, 0, none⟩) 1 1), (32, vP b211 1)] ([⟨g213, [vI a0_0, vI t203], ng213⟩, ⟨g212, [vI t203], 1⟩, ⟨b211, [vI t203, vI t204], 2⟩, ⟨N210, [vI 1, vI t203, vI t204, vI t205, vI t206, vI t207, vI t208], 7⟩, ⟨g202, [vI a0_1], 1⟩, ⟨b200, [vI 0, vI 0], 2⟩, ⟨b199, [vI 1, vI s1_1, vI s1_2, vI s1_3, vI s1_4, vI s1_5, vI s1_6], 7⟩, ⟨b198, [vI a0_0, vI a0_1], 2⟩] : List Own) := by
   intro g213 ng213 g212
   refine hstep [7] _ _ _ (by kernel_rfl) (List.cons_ne_nil _ _) ⟨?_, trivial⟩
   ·show T _ _ _ _ _ _ _ _
    refine t_v (.ld1 rfl rfl rfl (.at 2 rfl rfl)) ?_
    exact t_fin [2, 3, 8, 9, 10, 20, 21, 22, 30, 31, 33] (hg_ff g213 ng213 g212) (by kernel_rfl)
  have hg_1e3 : ∀ (g214 : Nat), G [true, true, false, false, false, true, true, true, true, false, false, false] [(2, vI 1), (3, vI 1), (8, vP b200 0), (9, .slice (some ⟨g201, 0, none⟩) 1 1), (10, .slice (some ⟨g202, 0, none⟩) 1 1), (20, .slice (some ⟨N210, 1, none⟩) 1 3), (21, vI 1), (22, vI 0), (26, .slice (some ⟨g201, 0, none⟩) 1 1), (27, vP b211 0), (31, .slice (some ⟨g202, 0, none⟩) 1 1), (34, .slice (some ⟨g214, 0, none⟩) 1 1)] ([⟨g214, [vI t204], 1⟩, ⟨b211, [vI t203, vI t204], 2⟩, ⟨N210, [vI 1, vI t203, vI t204, vI t205, vI t206, vI t207, vI t208], 7⟩, ⟨g202, [vI a0_1], 1⟩, ⟨g201, [vI a0_0], 1⟩, ⟨b200, [vI 0, vI 0], 2⟩, ⟨b199, [vI 1, vI s1_1, vI s1_2, vI s1_3, vI s1_4, vI s1_5, vI s1_6], 7⟩, ⟨b198, [vI a0_0, vI a0_1], 2⟩] : List Own) := by
   intro g214
   refine hstep [2] _ _ _ (by kernel_rfl) (List.cons_ne_nil _ _) ⟨?_, trivial⟩
   ·show T _ _ _ _ _ _ _ _
    refine t_v (.ld1 rfl rfl rfl (.at 1 rfl rfl)) ?_
    exact t_fin [2, 3, 8, 9, 10, 20, 21, 22, 26, 28, 31, 34] (hg_1e7 g214) (by kernel_rfl)
  have hg_e7 : G [true, true, true, false, false, true, true, true, false, false, false, false] [(2, vI 1), (3, vI 1), (8, vP b200 0), (9, .slice (some ⟨g201, 0, none⟩) 1 1), (10, .slice (some ⟨g202, 0, none⟩) 1 1), (20, .slice (some ⟨N210, 1, none⟩) 1 3), (21, vI 1), (22, vI 0), (26, .slice (some ⟨g201, 0, none⟩) 1 1), (28, vI t203), (31, .slice (some ⟨g202, 0, none⟩) 1 1), (33, vI t204)] ([⟨b211, [vI t203, vI t204], 2⟩, ⟨N210, [vI 1, vI t203, vI t204, vI t205, vI t206, vI t207, vI t208], 7⟩, ⟨g202, [vI a0_1], 1⟩, ⟨g201, [vI a0_0], 1⟩, ⟨b200, [vI 0, vI 0], 2⟩, ⟨b199, [vI 1, vI s1_1, vI s1_2, vI s1_3, vI s1_4, vI s1_5, vI s1_6], 7⟩, ⟨b198, [vI a0_0, vI a0_1], 2⟩] : List Own) := by
   refine hstep [3, 8] _ _ _ (by kernel_rfl) (List.cons_ne_nil _ _) ⟨?_, ?_, trivial⟩
   ·show T _ _ _ _ _ _ _ _
    refine t_a (dv_bsl (cs := [vI t203]) rfl rfl (by kernel_rfl)) fun g212 fg212 sg212 => ?_
    exact t_fin [2, 3, 8, 9, 10, 20, 21, 22, 26, 29, 31, 33] (hg_ef g212) (by kernel_rfl)
   ·show T _ _ _ _ _ _ _ _
    refine t_a (dv_bsl (cs := [vI t204]) rfl rfl (by kernel_rfl)) fun g214 fg214 sg214 => ?_
    exact t_fin [2, 3, 8, 9, 10, 20, 21, 22, 26, 28, 31, 34] (hg_1e7 g214) (by kernel_rfl)
  have hg_6f : ∀ (g212 : Nat), G [true, true, true, true, false, true, true, false, false, false, false, false] [(2, vI 1), (3, vI 1), (8, vP b200 0), (9, .slice (some ⟨g201, 0, none⟩) 1 1), (10, .slice (some ⟨g202, 0, none⟩) 1 1), (20, .slice (some ⟨N210, 1, none⟩) 1 3), (21, vI 1), (22, vI 0), (26, .slice (some ⟨g201, 0, none⟩) 1 1), (29, .slice (some ⟨g212, 0, none⟩) 1 1), (31, .slice (some ⟨g202, 0, none⟩) 1 1), (32, vP b211 1)] ([⟨g212, [vI t203], 1⟩, ⟨b211, [vI t203, vI t204], 2⟩, ⟨N210, [vI 1, vI t203, vI t204, vI t205, vI t206, vI t207, vI t208], 7⟩, ⟨g202, [vI a0_1], 1⟩, ⟨g201, [vI a0_0], 1⟩, ⟨b200, [vI 0, vI 0], 2⟩, ⟨b199, [vI 1, vI s1_1, vI s1_2, vI s1_3, vI s1_4, vI s1_5, vI s1_6], 7⟩, ⟨b198, [vI a0_0, vI a0_1], 2⟩] : List Own) := by
   intro g212
   refine hstep [4, 7] _ _ _ (by kernel_rfl) (List.cons_ne_nil _ _) ⟨?_, ?_, trivial⟩
   ·show T _ _ _ _ _ _ _ _
    refine t_app1 (cs := [vI a0_0]) (M := 1) (F := ([⟨g212, [vI t203], 1⟩, ⟨b211, [vI t203, vI t204], 2⟩, ⟨N210, [vI 1, vI t203, vI t204, vI t205, vI t206, vI t207, vI t208], 7⟩, ⟨g202, [vI a0_1], 1⟩, ⟨b200, [vI 0, vI 0], 2⟩, ⟨b199, [vI 1, vI s1_1, vI s1_2, vI s1_3, vI s1_4, vI s1_5, vI s1_6], 7⟩, ⟨b198, [vI a0_0, vI a0_1], 2⟩] : List Own)) (news := [vI t203]) rfl rfl rfl rfl (sel_perm (is := [4]) (by kernel_rfl)) (.at 0 rfl rfl) (by kernel_rfl) rfl rfl (by decide) (by decide) rfl fun g213 ng213 => ?_
    exact t_fin [2, 3, 8, 9, 10, 20, 21, 22, 30, 31, 32] (hg_7f g213 ng213 g212) (by kernel_rfl)
   ·show T _ _ _ _ _ _ _ _
    refine t_v (.ld1 rfl rfl rfl (.at 1 rfl rfl)) ?_
    exact t_fin [2, 3, 8, 9, 10, 20, 21, 22, 26, 29, 31, 33] (hg_ef g212) (by kernel_rfl)
  have hg_e3 : G [true, true, false, false, false, true, true, true, false, false, false, false] [(2, vI 1), (3, vI 1), (8, vP b200 0), (9, .slice (some ⟨g201, 0, none⟩) 1 1), (10, .slice (some ⟨g202, 0, none⟩) 1 1), (20, .slice (some ⟨N210, 1, none⟩) 1 3), (21, vI 1), (22, vI 0), (26, .slice (some ⟨g201, 0, none⟩) 1 1), (27, vP b211 0), (31, .slice (some ⟨g202, 0, none⟩) 1 1), (33, vI t204)] ([⟨b211, [vI t203, vI t204], 2⟩, ⟨N210, [vI 1, vI t203, vI t204, vI t205, vI t206, vI t207, vI t208], 7⟩, ⟨g202, [vI a0_1], 1⟩, ⟨g201, [vI a0_0], 1⟩, ⟨b200, [vI 0, vI 0], 2⟩, ⟨b199, [vI 1, vI s1_1, vI s1_2, vI s1_3, vI s1_4, vI s1_5, vI s1_6], 7⟩, ⟨b198, [vI a0_0, vI a0_1], 2⟩] : List Own) := by
   refine hstep [2, 8] _ _ _ (by kernel_rfl) (List.cons_ne_nil _ _) ⟨?_, ?_, trivial⟩
   ·show T _ _ _ _ _ _ _ _
    refine t_v (.ld1 rfl rfl rfl (.at 0 rfl rfl)) ?_
    exact t_fin [2, 3, 8, 9, 10, 20, 21, 22, 26, 28, 31, 33] hg_e7 (by kernel_rfl)
   ·show T _ _ _ _ _ _ _ _
    refine t_a (dv_bsl (cs := [vI t204]) rfl rfl (by kernel_rfl)) fun g214 fg214 sg214 => ?_
    exact t_fin [2, 3, 8, 9, 10, 20, 21, 22, 26, 27, 31, 34] (hg_1e3 g214) (by kernel_rfl)
  have hg_67 : G [true, true, true, false, false, true, true, false, false, false, false, false] [(2, vI 1), (3, vI 1), (8, vP b200 0), (9, .slice (some ⟨g201, 0, none⟩) 1 1), (10, .slice (some ⟨g202, 0, none⟩) 1 1), (20, .slice (some ⟨N210, 1, none⟩) 1 3), (21, vI 1), (22, vI 0), (26, .slice (some ⟨g201, 0, none⟩) 1 1), (28, vI t203), (31, .slice (some ⟨g202, 0, none⟩) 1 1), (32, vP b211 1)] ([⟨b211, [vI t203, vI t204], 2⟩, ⟨N210, [vI 1, vI t203, vI t204, vI t205, vI t206, vI t207, vI t208], 7⟩, ⟨g202, [vI a0_1], 1⟩, ⟨g201, [vI a0_0], 1⟩, ⟨b200, [vI 0, vI 0], 2⟩, ⟨b199, [vI 1, vI s1_1, vI s1_2, vI s1_3, vI s1_4, vI s1_5, vI s1_6], 7⟩, ⟨b198, [vI a0_0, vI a0_1], 2⟩] : List Own) := by
   refine hstep [3, 7] _ _ _ (by kernel_rfl) (List.cons_ne_nil _ _) ⟨?_, ?_, trivial⟩
   ·show T _ _ _ _ _ _ _ _
    refine t_a (dv_bsl (cs := [vI t203]) rfl rfl (by kernel_rfl)) fun g212 fg212 sg212 => ?_
    exact t_fin [2, 3, 8, 9, 10, 20, 21, 22, 26, 29, 31, 32] (hg_6f g212) (by kernel_rfl)
   ·show T _ _ _ _ _ _ _ _
    refine t_v (.ld1 rfl rfl rfl (.at 0 rfl rfl)) ?_
    exact t_fin [2, 3, 8, 9, 10, 20, 21, 22, 26, 28, 31, 33] hg_e7 (by kernel_rfl)
  have hg_63 : G [true, true, false, false, false, true, true, false, false, false, false, false] [(2, vI 1), (3, vI 1), (8, vP b200 0), (9, .slice (some ⟨g201, 0, none⟩) 1 1), (10, .slice (some ⟨g202, 0, none⟩) 1 1), (20, .slice (some ⟨N210, 1, none⟩) 1 3), (21, vI 1), (22, vI 0), (26, .slice (some ⟨g201, 0, none⟩) 1 1), (27, vP b211 0), (31, .slice (some ⟨g202, 0, none⟩) 1 1), (32, vP b211 1)] ([⟨b211, [vI t203, vI t204], 2⟩, ⟨N210, [vI 1, vI t203, vI t204, vI t205, vI t206, vI t207, vI t208], 7⟩, ⟨g202, [vI a0_1], 1⟩, ⟨g201, [vI a0_0], 1⟩, ⟨b200, [vI 0, vI 0], 2⟩, ⟨b199, [vI 1, vI s1_1, vI s1_2, vI s1_3, vI s1_4, vI s1_5, vI s1_6], 7⟩, ⟨b198, [vI a0_0, vI a0_1], 2⟩] : List Own) := by
   refine hstep [2, 7] _ _ _ (by kernel_rfl) (List.cons_ne_nil _ _) ⟨?_, ?_, trivial⟩
   ·show T _ _ _ _ _ _ _ _
    refine t_v (.ld1 rfl rfl rfl (.at 0 rfl rfl)) ?_
    exact t_fin [2, 3, 8, 9, 10, 20, 21, 22, 26, 28, 31, 32] hg_67 (by kernel_rfl)
   ·show T _ _ _ _ _ _ _ _
    refine t_v (.ld1 rfl rfl rfl (.at 0 rfl rfl)) ?_
    exact t_fin [2, 3, 8, 9, 10, 20, 21, 22, 26, 27, 31, 33] hg_e3 (by kernel_rfl)
  have hg_23 : G [true, true, false, false, false, true, false, false, false, false, false, false] [(2, vI 1), (3, vI 1), (8, vP b200 0), (9, .slice (some ⟨g201, 0, none⟩) 1 1), (10, .slice (some ⟨g202, 0, none⟩) 1 1), (12, vP b211 0), (20, .slice (some ⟨N210, 1, none⟩) 1 3), (21, vI 1), (22, vI 0), (26, .slice (some ⟨g201, 0, none⟩) 1 1), (27, vP b211 0), (31, .slice (some ⟨g202, 0, none⟩) 1 1)] ([⟨b211, [vI t203, vI t204], 2⟩, ⟨N210, [vI 1, vI t203, vI t204, vI t205, vI t206, vI t207, vI t208], 7⟩, ⟨g202, [vI a0_1], 1⟩, ⟨g201, [vI a0_0], 1⟩, ⟨b200, [vI 0, vI 0], 2⟩, ⟨b199, [vI 1, vI s1_1, vI s1_2, vI s1_3, vI s1_4, vI s1_5, vI s1_6], 7⟩, ⟨b198, [vI a0_0, vI a0_1], 2⟩] : List Own) := by
   exact hqf 6 [2, 3, 8, 9, 10, 20, 21, 22, 26, 27, 31, 32] _ _ _ _ (by kernel_rfl) (by kernel_rfl) hg_63
  have hg_3 : G [true, true, false, false, false, false, false, false, false, false, false, false] [(2, vI 1), (3, vI 1), (8, vP b200 0), (9, .slice (some ⟨g201, 0, none⟩) 1 1), (10, .slice (some ⟨g202, 0, none⟩) 1 1), (12, vP b211 0), (20, .slice (some ⟨N210, 1, none⟩) 1 3), (21, vI 1), (22, vI 0), (26, .slice (some ⟨g201, 0, none⟩) 1 1), (27, vP b211 0)] ([⟨b211, [vI t203, vI t204], 2⟩, ⟨N210, [vI 1, vI t203, vI t204, vI t205, vI t206, vI t207, vI t208], 7⟩, ⟨g202, [vI a0_1], 1⟩, ⟨g201, [vI a0_0], 1⟩, ⟨b200, [vI 0, vI 0], 2⟩, ⟨b199, [vI 1, vI s1_1, vI s1_2, vI s1_3, vI s1_4, vI s1_5, vI s1_6], 7⟩, ⟨b198, [vI a0_0, vI a0_1], 2⟩] : List Own) := by
   exact hqf 5 [2, 3, 8, 9, 10, 12, 20, 21, 22, 26, 27, 31] _ _ _ _ (by kernel_rfl) (by kernel_rfl) hg_23
  have hg_1 : G [true, false, false, false, false, false, false, false, false, false, false, false] [(2, vI 1), (3, vI 1), (8, vP b200 0), (9, .slice (some ⟨g201, 0, none⟩) 1 1), (10, .slice (some ⟨g202, 0, none⟩) 1 1), (12, vP b211 0), (20, .slice (some ⟨N210, 1, none⟩) 1 3), (21, vI 1), (22, vI 0), (26, .slice (some ⟨g201, 0, none⟩) 1 1)] ([⟨b211, [vI t203, vI t204], 2⟩, ⟨N210, [vI 1, vI t203, vI t204, vI t205, vI t206, vI t207, vI t208], 7⟩, ⟨g202, [vI a0_1], 1⟩, ⟨g201, [vI a0_0], 1⟩, ⟨b200, [vI 0, vI 0], 2⟩, ⟨b199, [vI 1, vI s1_1, vI s1_2, vI s1_3, vI s1_4, vI s1_5, vI s1_6], 7⟩, ⟨b198, [vI a0_0, vI a0_1], 2⟩] : List Own) := by
   exact hqf 1 [2, 3, 8, 9, 10, 12, 20, 21, 22, 26, 27] _ _ _ _ (by kernel_rfl) (by kernel_rfl) hg_3
  have hg_0 : G [false, false, false, false, false, false, false, false, false, false, false, false] [(2, vI 1), (3, vI 1), (8, vP b200 0), (9, .slice (some ⟨g201, 0, none⟩) 1 1), (10, .slice (some ⟨g202, 0, none⟩) 1 1), (12, vP b211 0), (20, .slice (some ⟨N210, 1, none⟩) 1 3), (21, vI 1), (22, vI 0)] ([⟨b211, [vI t203, vI t204], 2⟩, ⟨N210, [vI 1, vI t203, vI t204, vI t205, vI t206, vI t207, vI t208], 7⟩, ⟨g202, [vI a0_1], 1⟩, ⟨g201, [vI a0_0], 1⟩, ⟨b200, [vI 0, vI 0], 2⟩, ⟨b199, [vI 1, vI s1_1, vI s1_2, vI s1_3, vI s1_4, vI s1_5, vI s1_6], 7⟩, ⟨b198, [vI a0_0, vI a0_1], 2⟩] : List Own) := by
   exact hqf 0 [2, 3, 8, 9, 10, 12, 20, 21, 22, 26] _ _ _ _ (by kernel_rfl) (by kernel_rfl) hg_1
  exact hg_0
 have hg_7f : ∀ (g202 : Nat) (g201 : Nat), G [true, true, true, true, true, true, true, false] [(2, vI 1), (3, vI 1), (5, vP b199 0), (8, vP b200 0), (9, .slice (some ⟨g201, 0, none⟩) 1 1), (18, .slice (some ⟨g202, 0, none⟩) 1 1)] ([⟨g202, [vI a0_1], 1⟩, ⟨g201, [vI a0_0], 1⟩, ⟨b200, [vI 0, vI 0], 2⟩, ⟨b199, [vI 1, vI s1_1, vI s1_2, vI s1_3, vI s1_4, vI s1_5, vI s1_6], 7⟩, ⟨b198, [vI a0_0, vI a0_1], 2⟩] : List Own) := by
  intro g202 g201
  exact hqf 7 [2, 3, 5, 8, 9, 10] _ _ _ _ (by kernel_rfl) (by kernel_rfl) (hg_ff g202 g201)
 have hg_3f : ∀ (g202 : Nat) (g201 : Nat), G [true, true, true, true, true, true, false, false] [(2, vI 1), (3, vI 1), (5, vP b199 0), (8, vP b200 0), (15, .slice (some ⟨g201, 0, none⟩) 1 1), (18, .slice (some ⟨g202, 0, none⟩) 1 1)] ([⟨g202, [vI a0_1], 1⟩, ⟨g201, [vI a0_0], 1⟩, ⟨b200, [vI 0, vI 0], 2⟩, ⟨b199, [vI 1, vI s1_1, vI s1_2, vI s1_3, vI s1_4, vI s1_5, vI s1_6], 7⟩, ⟨b198, [vI a0_0, vI a0_1], 2⟩] : List Own) := by
  intro g202 g201
  exact hqf 6 [2, 3, 5, 8, 9, 18] _ _ _ _ (by kernel_rfl) (by kernel_rfl) (hg_7f g202 g201)
 have hg_5f : ∀ (g201 : Nat), G [true, true, true, true, true, false, true, false] [(2, vI 1), (3, vI 1), (5, vP b199 0), (8, vP b200 0), (9, .slice (some ⟨g201, 0, none⟩) 1 1), (17, vI a0_1)] ([⟨g201, [vI a0_0], 1⟩, ⟨b200, [vI 0, vI 0], 2⟩, ⟨b199, [vI 1, vI s1_1, vI s1_2, vI s1_3, vI s1_4, vI s1_5, vI s1_6], 7⟩, ⟨b198, [vI a0_0, vI a0_1], 2⟩] : List Own) := by
  intro g201
  refine hstep [5] _ _ _ (by kernel_rfl) (List.cons_ne_nil _ _) ⟨?_, trivial⟩
  ·show T _ _ _ _ _ _ _ _
   refine t_a (dv_bsl (cs := [vI a0_1]) rfl rfl (by kernel_rfl)) fun g202 fg202 sg202 => ?_
   exact t_fin [2, 3, 5, 8, 9, 18] (hg_7f g202 g201) (by kernel_rfl)
 have hg_3b : ∀ (g202 : Nat), G [true, true, false, true, true, true, false, false] [(2, vI 1), (3, vI 1), (5, vP b199 0), (8, vP b200 0), (14, vI a0_0), (18, .slice (some ⟨g202, 0, none⟩) 1 1)] ([⟨g202, [vI a0_1], 1⟩, ⟨b200, [vI 0, vI 0], 2⟩, ⟨b199, [vI 1, vI s1_1, vI s1_2, vI s1_3, vI s1_4, vI s1_5, vI s1_6], 7⟩, ⟨b198, [vI a0_0, vI a0_1], 2⟩] : List Own) := by
  intro g202
  refine hstep [2] _ _ _ (by kernel_rfl) (List.cons_ne_nil _ _) ⟨?_, trivial⟩
  ·show T _ _ _ _ _ _ _ _
   refine t_a (dv_bsl (cs := [vI a0_0]) rfl rfl (by kernel_rfl)) fun g201 fg201 sg201 => ?_
   refine t_vs (H' := ([⟨g202, [vI a0_1], 1⟩, ⟨g201, [vI a0_0], 1⟩, ⟨b200, [vI 0, vI 0], 2⟩, ⟨b199, [vI 1, vI s1_1, vI s1_2, vI s1_3, vI s1_4, vI s1_5, vI s1_6], 7⟩, ⟨b198, [vI a0_0, vI a0_1], 2⟩] : List Own)) (S' := S) (VS.sel [1, 0, 0, 0, 0] (by kernel_rfl)) ?_
   exact t_fin [2, 3, 5, 8, 15, 18] (hg_3f g202 g201) (by kernel_rfl)
 have hg_1f : ∀ (g201 : Nat), G [true, true, true, true, true, false, false, false] [(2, vI 1), (3, vI 1), (5, vP b199 0), (8, vP b200 0), (15, .slice (some ⟨g201, 0, none⟩) 1 1), (17, vI a0_1)] ([⟨g201, [vI a0_0], 1⟩, ⟨b200, [vI 0, vI 0], 2⟩, ⟨b199, [vI 1, vI s1_1, vI s1_2, vI s1_3, vI s1_4, vI s1_5, vI s1_6], 7⟩, ⟨b198, [vI a0_0, vI a0_1], 2⟩] : List Own) := by
  intro g201
  exact hqf 6 [2, 3, 5, 8, 9, 17] _ _ _ _ (by kernel_rfl) (by kernel_rfl) (hg_5f g201)
 have hg_4f : ∀ (g201 : Nat), G [true, true, true, true, false, false, true, false] [(2, vI 1), (3, vI 1), (5, vP b199 0), (8, vP b200 0), (9, .slice (some ⟨g201, 0, none⟩) 1 1), (16, vP b198 1)] ([⟨g201, [vI a0_0], 1⟩, ⟨b200, [vI 0, vI 0], 2⟩, ⟨b199, [vI 1, vI s1_1, vI s1_2, vI s1_3, vI s1_4, vI s1_5, vI s1_6], 7⟩, ⟨b198, [vI a0_0, vI a0_1], 2⟩] : List Own) := by
  intro g201
  refine hstep [4] _ _ _ (by kernel_rfl) (List.cons_ne_nil _ _) ⟨?_, trivial⟩
  ·show T _ _ _ _ _ _ _ _
   refine t_v (.ld1 rfl rfl rfl (.at 3 rfl rfl)) ?_
   exact t_fin [2, 3, 5, 8, 9, 17] (hg_5f g201) (by kernel_rfl)
 have hg_f : ∀ (g201 : Nat), G [true, true, true, true, false, false, false, false] [(2, vI 1), (3, vI 1), (5, vP b199 0), (8, vP b200 0), (15, .slice (some ⟨g201, 0, none⟩) 1 1), (16, vP b198 1)] ([⟨g201, [vI a0_0], 1⟩, ⟨b200, [vI 0, vI 0], 2⟩, ⟨b199, [vI 1, vI s1_1, vI s1_2, vI s1_3, vI s1_4, vI s1_5, vI s1_6], 7⟩, ⟨b198, [vI a0_0, vI a0_1], 2⟩] : List Own) := by
  intro g201
  exact hqf 6 [2, 3, 5, 8, 9, 16] _ _ _ _ (by kernel_rfl) (by kernel_rfl) (hg_4f g201)
 have hg_1b : G [true, true, false, true, true, false, false, false] [(2, vI 1), (3, vI 1), (5, vP b199 0), (8, vP b200 0), (14, vI a0_0), (17, vI a0_1)] ([⟨b200, [vI 0, vI 0], 2⟩, ⟨b199, [vI 1, vI s1_1, vI s1_2, vI s1_3, vI s1_4, vI s1_5, vI s1_6], 7⟩, ⟨b198, [vI a0_0, vI a0_1], 2⟩] : List Own) := by
  refine hstep [2, 5] _ _ _ (by kernel_rfl) (List.cons_ne_nil _ _) ⟨?_, ?_, trivial⟩
  ·show T _ _ _ _ _ _ _ _
   refine t_a (dv_bsl (cs := [vI a0_0]) rfl rfl (by kernel_rfl)) fun g201 fg201 sg201 => ?_
   exact t_fin [2, 3, 5, 8, 15, 17] (hg_1f g201) (by kernel_rfl)
  ·show T _ _ _ _ _ _ _ _
   refine t_a (dv_bsl (cs := [vI a0_1]) rfl rfl (by kernel_rfl)) fun g202 fg202 sg202 => ?_
   exact t_fin [2, 3, 5, 8, 14, 18] (hg_3b g202) (by kernel_rfl)
 have hg_39 : ∀ (g202 : Nat), G [true, false, false, true, true, true, false, false] [(2, vI 1), (3, vI 1), (5, vP b199 0), (8, vP b200 0), (13, vP b198 0), (18, .slice (some ⟨g202, 0, none⟩) 1 1)] ([⟨g202, [vI a0_1], 1⟩, ⟨b200, [vI 0, vI 0], 2⟩, ⟨b199, [vI 1, vI s1_1, vI s1_2, vI s1_3, vI s1_4, vI s1_5, vI s1_6], 7⟩, ⟨b198, [vI a0_0, vI a0_1], 2⟩] : List Own) := by
  intro g202
  refine hstep [1] _ _ _ (by kernel_rfl) (List.cons_ne_nil _ _) ⟨?_, trivial⟩
  ·show T _ _ _ _ _ _ _ _
   refine t_v (.ld1 rfl rfl rfl (.at 3 rfl rfl)) ?_
   exact t_fin [2, 3, 5, 8, 14, 18] (hg_3b g202) (by kernel_rfl)
 have hg_b : G [true, true, false, true, false, false, false, false] [(2, vI 1), (3, vI 1), (5, vP b199 0), (8, vP b200 0), (14, vI a0_0), (16, vP b198 1)] ([⟨b200, [vI 0, vI 0], 2⟩, ⟨b199, [vI 1, vI s1_1, vI s1_2, vI s1_3, vI s1_4, vI s1_5, vI s1_6], 7⟩, ⟨b198, [vI a0_0, vI a0_1], 2⟩] : List Own) := by
  refine hstep [2, 4] _ _ _ (by kernel_rfl) (List.cons_ne_nil _ _) ⟨?_, ?_, trivial⟩
  ·show T _ _ _ _ _ _ _ _
   refine t_a (dv_bsl (cs := [vI a0_0]) rfl rfl (by kernel_rfl)) fun g201 fg201 sg201 => ?_
   exact t_fin [2, 3, 5, 8, 15, 16] (hg_f g201) (by kernel_rfl)
  ·show T _ _ _ _ _ _ _ _
   refine t_v (.ld1 rfl rfl rfl (.at 2 rfl rfl)) ?_
   exact t_fin [2, 3, 5, 8, 14, 17] hg_1b (by kernel_rfl)
 have hg_19 : G [true, false, false, true, true, false, false, false] [(2, vI 1), (3, vI 1), (5, vP b199 0), (8, vP b200 0), (13, vP b198 0), (17, vI a0_1)] ([⟨b200, [vI 0, vI 0], 2⟩, ⟨b199, [vI 1, vI s1_1, vI s1_2, vI s1_3, vI s1_4, vI s1_5, vI s1_6], 7⟩, ⟨b198, [vI a0_0, vI a0_1], 2⟩] : List Own) := by
  refine hstep [1, 5] _ _ _ (by kernel_rfl) (List.cons_ne_nil _ _) ⟨?_, ?_, trivial⟩
  ·show T _ _ _ _ _ _ _ _
   refine t_v (.ld1 rfl rfl rfl (.at 2 rfl rfl)) ?_
   exact t_fin [2, 3, 5, 8, 14, 17] hg_1b (by kernel_rfl)
  ·show T _ _ _ _ _ _ _ _
   refine t_a (dv_bsl (cs := [vI a0_1]) rfl rfl (by kernel_rfl)) fun g202 fg202 sg202 => ?_
   exact t_fin [2, 3, 5, 8, 13, 18] (hg_39 g202) (by kernel_rfl)
 have hg_9 : G [true, false, false, true, false, false, false, false] [(2, vI 1), (3, vI 1), (5, vP b199 0), (8, vP b200 0), (13, vP b198 0), (16, vP b198 1)] ([⟨b200, [vI 0, vI 0], 2⟩, ⟨b199, [vI 1, vI s1_1, vI s1_2, vI s1_3, vI s1_4, vI s1_5, vI s1_6], 7⟩, ⟨b198, [vI a0_0, vI a0_1], 2⟩] : List Own) := by
  refine hstep [1, 4] _ _ _ (by kernel_rfl) (List.cons_ne_nil _ _) ⟨?_, ?_, trivial⟩
  ·show T _ _ _ _ _ _ _ _
   refine t_v (.ld1 rfl rfl rfl (.at 2 rfl rfl)) ?_
   exact t_fin [2, 3, 5, 8, 14, 16] hg_b (by kernel_rfl)
  ·show T _ _ _ _ _ _ _ _
   refine t_v (.ld1 rfl rfl rfl (.at 2 rfl rfl)) ?_
   exact t_fin [2, 3, 5, 8, 13, 17] hg_19 (by kernel_rfl)
 have hg_1 : G [true, false, false, false, false, false, false, false] [(2, vI 1), (3, vI 1), (4, vP b198 0), (5, vP b199 0), (8, vP b200 0), (13, vP b198 0)] ([⟨b200, [vI 0, vI 0], 2⟩, ⟨b199, [vI 1, vI s1_1, vI s1_2, vI s1_3, vI s1_4, vI s1_5, vI s1_6], 7⟩, ⟨b198, [vI a0_0, vI a0_1], 2⟩] : List Own) := by
  exact hqf 3 [2, 3, 5, 8, 13, 16] _ _ _ _ (by kernel_rfl) (by kernel_rfl) hg_9
 have hg_0 : G [false, false, false, false, false, false, false, false] [(2, vI 1), (3, vI 1), (4, vP b198 0), (5, vP b199 0), (8, vP b200 0)] ([⟨b200, [vI 0, vI 0], 2⟩, ⟨b199, [vI 1, vI s1_1, vI s1_2, vI s1_3, vI s1_4, vI s1_5, vI s1_6], 7⟩, ⟨b198, [vI a0_0, vI a0_1], 2⟩] : List Own) := by
  exact hqf 0 [2, 3, 4, 5, 8, 13] _ _ _ _ (by kernel_rfl) (by kernel_rfl) hg_1
 exact hg_0

/-- flatten.Path$1 -/
def c45 : C :=
  (.seq (.reg [oq 3 (.box (.tmp 0))])
  (.seq (.seq (.reg [oq 4 (.ld (some 2) (.tmp 1)),
      oq 5 (.ld (some 2) (.tmp 3)),
      oq 6 (.eqt true 49 (.tmp 4) (.tmp 5))])
   (.cond (.tmp 6)
    (.reg [oq 7 (.ld none (.tmp 2)),
       oq 8 (.ld (some 2) (.tmp 1)),
       oq 9 (.ld (some 2) (.tmp 3)),
       oq 10 (.bld [(vI 0), (vI 0), (vI 0), (vI 0)] [(0, 2, (.tmp 8)), (2, 2, (.tmp 9))]),
       oq 11 (.bsl [(vI 0), (vI 0), (vI 0), (vI 0)] 1 [(0, 4, (.tmp 10))]),
       oq 12 (.app 105 4 32 [(vI 0), (vI 0), (vI 0), (vI 0)] (.tmp 7) (.tmp 11)),
       ⟨none, .st 1 (.tmp 2) (.tmp 12), none⟩])
    .skip))
  (.reg [oq 13 (.ld (some 2) (.tmp 3)),
    ⟨none, .st 2 (.tmp 1) (.tmp 13), none⟩])))
def flatten_Path_1_v1.f (to0_0 : Int) (to0_1 : Int) (m0_0 : Int) (m0_1 : Int) (m2_L : List (Int × Int × Int × Int)) : Option (List (Int × Int × Int × Int) × Int × Int) := if ((m0_0 == to0_0) && (m0_1 == to0_1)) = true then (some (m2_L, to0_0, to0_1)) else ((lapp m2_L ([(m0_0, m0_1, to0_0, to0_1)] : List (Int × Int × Int × Int))).bind fun y212 => (some (y212, to0_0, to0_1)))
theorem flatten_Path_1_v1.ok {S : Seal} {B0 : Nat} {B1 : Nat} {B2 : Option Nat} {nB2 : Nat} {to0_0 : Int} {to0_1 : Int} {m0_0 : Int} {m0_1 : Int} {m2_L : List (Int × Int × Int × Int)} {r0_ : List (Int × Int × Int × Int)} {r1_ : Int} {r2_ : Int}{A_ : Int → Addr} (hE_ : EO gsE S A_ 157) (e : flatten_Path_1_v1.f to0_0 to0_1 m0_0 m0_1 m2_L = some (r0_, r1_, r2_)) :
    Cal Tryd.prog 45 [.agg #[vI to0_0, vI to0_1], vP B0 0, vP B1 0] ([⟨B0, [vI m0_0, vI m0_1], 2⟩, ⟨B1, [.slice (ad B2) m2_L.length (nB2 / 4)], 1⟩, ⟨B2, encL E_i644 m2_L, nB2⟩] : List Own) S fun v H' S' => ∃ (N0_ : Option Nat) (nN0_ : Nat) , v = .tuple #[] ∧ H' = ([⟨N0_, encL E_i644 r0_, nN0_⟩, ⟨B0, [vI r1_, vI r2_], 2⟩, ⟨B1, [.slice (ad N0_) r0_.length (nN0_ / 4)], 1⟩] : List Own) ∧ S' = S := by
 unfold flatten_Path_1_v1.f at e
 refine cal_of (c := c45) (N := 14) Tryd.func45 rfl rfl (by kernel_rfl) (rs := []) (by kernel_rfl) (Nat.le_of_ble_eq_true rfl) ?_
 unfold c45
 refine w_seq ?_
 refine w_reg fun all => ?_
 refine t_a (.box rfl rfl rfl) fun b209 fb209 sb209 => ?_
 refine t_keep [1, 2, 3] (σ' := [(1, vP B0 0), (2, vP B1 0), (3, vP b209 0)]) (by kernel_rfl) ?_
 refine t_end ?_
 show W _ _ _ _ _ _ _
 refine w_seq ?_
 refine w_seq ?_
 refine w_reg fun all => ?_
 refine t_v (.ldn rfl rfl rfl (.at 1 rfl rfl)) ?_
 refine t_v (.ldn rfl rfl rfl (.at 0 rfl rfl)) ?_
 by_cases c210 : ((m0_0 == to0_0) && (m0_1 == to0_1)) = true
 ·rw [if_pos c210] at e
  have c210b : ((m0_0 == to0_0) && (m0_1 == to0_1)) = true := c210
  refine t_v (.eqt (a := .agg #[vI m0_0, vI m0_1]) (b := .agg #[vI to0_0, vI to0_1]) (r := (m0_0 == to0_0) && (m0_1 == to0_1)) rfl rfl rfl rfl (by kernel_rfl) (bnk c210b rfl)) ?_
  refine t_keep [1, 2, 3, 6] (σ' := [(1, vP B0 0), (2, vP B1 0), (3, vP b209 0), (6, vB false)]) (by kernel_rfl) ?_
  refine t_end ?_
  show W _ _ _ _ _ _ _
  refine w_cond rfl (fun c_ => by cases c_) (fun _ => ?_)
  show W _ _ _ _ _ _ _
  refine w_skip ?_
  show W _ _ _ _ _ _ _
  refine w_reg fun all => ?_
  refine t_v (.ldn rfl rfl rfl (.at 0 rfl rfl)) ?_
  refine t_sti 1 (cs := [vI to0_0, vI to0_1]) rfl rfl rfl rfl rfl rfl rfl rfl rfl ?_
  refine t_keep [] (σ' := []) (by kernel_rfl) ?_
  refine t_end ?_
  simp only [Option.some.injEq, Prod.mk.injEq] at e
  obtain ⟨rfl, rfl, rfl⟩ := e
  exact ⟨[], ([⟨B2, encL E_i644 m2_L, nB2⟩, ⟨B0, [vI to0_0, vI to0_1], 2⟩, ⟨B1, [.slice (ad B2) m2_L.length (nB2 / 4)], 1⟩] : List Own), S, trivial, VS.sel [3, 1, 1] (by kernel_rfl), B2, nB2, rfl, rfl, rfl⟩
 ·rw [if_neg c210] at e
  have c210b : ((m0_0 == to0_0) && (m0_1 == to0_1)) = false := Bool.eq_false_iff.mpr c210
  refine t_v (.eqt (a := .agg #[vI m0_0, vI m0_1]) (b := .agg #[vI to0_0, vI to0_1]) (r := (m0_0 == to0_0) && (m0_1 == to0_1)) rfl rfl rfl rfl (by kernel_rfl) (bnk c210b rfl)) ?_
  refine t_keep [1, 2, 3, 6] (σ' := [(1, vP B0 0), (2, vP B1 0), (3, vP b209 0), (6, vB true)]) (by kernel_rfl) ?_
  refine t_end ?_
  show W _ _ _ _ _ _ _
  refine w_cond rfl (fun _ => ?_) (fun c_ => by cases c_)
  show W _ _ _ _ _ _ _
  refine w_reg fun all => ?_
  refine t_v (.ld1 rfl rfl rfl (.at 2 rfl rfl)) ?_
  refine t_v (.ldn rfl rfl rfl (.at 1 rfl rfl)) ?_
  refine t_v (.ldn rfl rfl rfl (.at 0 rfl rfl)) ?_
  refine t_qz 1 [1, 2, 3, 7, 10] (σ' := [(1, vP B0 0), (2, vP B1 0), (3, vP b209 0), (7, .slice (ad B2) m2_L.length (nB2 / 4)), (10, .agg #[vI m0_0, vI m0_1, vI to0_0, vI to0_1])]) (by kernel_rfl) ?_
  refine t_a (dv_bsl (cs := [vI m0_0, vI m0_1, vI to0_0, vI to0_1]) rfl rfl (by kernel_rfl)) fun b211 fb211 sb211 => ?_
  obtain ⟨y212, hl213, e⟩ := bind_of e
  refine t_appX (E := E_i644) (L := m2_L) (X := ([(m0_0, m0_1, to0_0, to0_1)] : List (Int × Int × Int × Int))) (F := ([⟨b211, [vI m0_0, vI m0_1, vI to0_0, vI to0_1], 4⟩, ⟨b209, [vI to0_0, vI to0_1], 2⟩, ⟨B0, [vI m0_0, vI m0_1], 2⟩, ⟨B1, [.slice (ad B2) m2_L.length (nB2 / 4)], 1⟩] : List Own)) rfl rfl rfl rfl (sel_perm (is := [4]) (by kernel_rfl)) rfl (Or.inr ⟨_, _, rfl, .at 0 rfl (by kernel_rfl)⟩) rfl (by decide) (by decide) rfl hl213 fun a214 na214 => ?_
  refine t_sti 4 (cs := [.slice (ad a214) y212.length (na214 / 4)]) rfl rfl rfl rfl rfl rfl rfl rfl rfl ?_
  refine t_keep [1, 3] (σ' := [(1, vP B0 0), (3, vP b209 0)]) (by kernel_rfl) ?_
  refine t_end ?_
  show W _ _ _ _ _ _ _
  refine w_reg fun all => ?_
  refine t_v (.ldn rfl rfl rfl (.at 2 rfl rfl)) ?_
  refine t_sti 3 (cs := [vI to0_0, vI to0_1]) rfl rfl rfl rfl rfl rfl rfl rfl rfl ?_
  refine t_keep [] (σ' := []) (by kernel_rfl) ?_
  refine t_end ?_
  simp only [Option.some.injEq, Prod.mk.injEq] at e
  obtain ⟨rfl, rfl, rfl⟩ := e
  exact ⟨[], ([⟨a214, encL E_i644 y212, na214⟩, ⟨B0, [vI to0_0, vI to0_1], 2⟩, ⟨B1, [.slice (ad a214) y212.length (na214 / 4)], 1⟩] : List Own), S, trivial, VS.sel [0, 2, 2] (by kernel_rfl), a214, na214, rfl, rfl, rfl⟩

/-- flatten.Path -/
def c33 : C :=
  (.seq (.reg [oq 2 (.box (.tmp 0)),
     oq 4 (.mv (.const (.slice none 0 0)))])
  (.seq (.reg [oq 5 (.new [(.slice none 0 0)])])
  (.seq (.reg [oq 13 (.pad 0 (.tmp 2)),
     oq 14 (.ld (some 2) (.tmp 13)),
     oq 6 (.new [(vI 0), (vI 0)]),
     ⟨none, .st 2 (.tmp 6) (.tmp 14), none⟩])
  (.seq (.reg [oq 15 (.mkf 45 [(.tmp 6), (.tmp 5)]),
     oq 7 (.mv (.tmp 15))])
  (.seq (.seq (.reg [oq 16 (.pad 2 (.tmp 2)),
      oq 17 (.ld none (.tmp 16)),
      oq 18 (.lns (.tmp 17)),
      oq 19 (.mv (.const (vI 0)))])
   (.block 0 (.loop (.seq (.reg [oq 20 (.bin .lss (.tmp 19) (.tmp 18))])
     (.seq (.cond (.tmp 20)
       .skip
       (.exit 0))
     (.seq (.block 1 (.seq (.reg [oq 21 (.ixs 7 (.tmp 17) (.tmp 19)),
          oq 22 (.ld (some 7) (.tmp 21)),
          oq 9 (.new [(vI 0), (vI 0), (vI 0), (vI 0), (vI 0), (vI 0), (vI 0)]),
          ⟨none, .st 7 (.tmp 9) (.tmp 22), none⟩])
       (.seq (.drw [oq 23 (.ld (some 2) (.tmp 6)),
          oq 24 (.ld (some 2) (.tmp 6)),
          oq 25 (.ld (some 7) (.tmp 9)),
          oq 26 (.call 43 [(.tmp 24), (.tmp 25)]),
          oq 10 (.new [(vI 0), (vI 0)]),
          ⟨none, .st 2 (.tmp 10) (.tmp 23), none⟩,
          oq 11 (.mv (.tmp 26))] [[], [], [], [1, 2], [], [4, 0, 3, 0, 4], [3, 5, 0, 1, 2, 3, 4, 5]])
       (.seq (.reg [oq 12 (.mv (.const (vI 1)))])
       (.block 2 (.loop (.seq (.seq (.reg [oq 27 (.mv (.tmp 12)),
             oq 28 (.mv (.tmp 11)),
             oq 29 (.bin .leq (.tmp 27) (.tmp 28))])
          (.cond (.tmp 29)
           .skip
           (.exit 2)))
         (.seq (.block 3 (.reg [oq 32 (.mv (.tmp 7)),
             oq 33 (.ld (some 2) (.tmp 10)),
             oq 34 (.ld (some 7) (.tmp 9)),
             oq 35 (.mv (.tmp 12)),
             oq 36 (.mv (.tmp 11)),
             oq 37 (.call 46 [(.tmp 33), (.tmp 34), (.tmp 35), (.tmp 36)]),
             oq 38 (.clo (.tmp 32) [(.tmp 37)])]))
         (.reg [oq 30 (.mv (.tmp 12)),
           oq 31 (.bin .add (.tmp 30) (.const (vI 1))),
           oq 12 (.mv (.tmp 31))])))))))))
     (.reg [oq 39 (.bin .add (.tmp 19) (.const (vI 1))),
       oq 19 (.mv (.tmp 39))])))))))
  (.seq (.seq (.reg [oq 40 (.mv (.tmp 1)),
      oq 41 (.mv (.tmp 40)),
      ⟨(some 42), .pad 3 (.tmp 2), (some (41, false))⟩,
      ⟨(some 43), .ld none (.tmp 42), (some (41, false))⟩,
      oq 44 (.pk (.tmp 41) (.const (vB true)) (.tmp 43))])
   (.cond (.tmp 44)
    (.reg [oq 45 (.mv (.tmp 7)),
       oq 46 (.pad 0 (.tmp 2)),
       oq 47 (.ld (some 2) (.tmp 46)),
       oq 48 (.clo (.tmp 45) [(.tmp 47)])])
    .skip))
  (.seq (.reg [oq 49 (.ld none (.tmp 5)),
     oq 4 (.mv (.tmp 49))])
  .ret)))))))
def flatten_Path_v1.l0 : Nat → Int → Int → Int → Int → Int → Int → Int → Int → Int → Int → Int → Int → Int → Int → Int → Int → Int → Int → Int → List (Int × Int × Int × Int) → Int → Int → Option (Int × Int × List (Int × Int × Int × Int))
  | 0, _, _, _, _, _, _, _, _, _, _, _, _, _, _, _, _, _, _, _, _, _, _ => none
  | k + 1, m0_1, m0_2, m0_3, m0_4, m0_5, m0_6, m0_8, m0_9, m0_10, m0_11, m0_12, m0_13, m0_15, m0_16, m0_17, m0_18, m0_19, m0_20, x189, y191, x192, x193 => if x189 < 3 then ((if x189 = 0 then ((flatten_Count_v1.f x192 x193 m0_1 m0_2 m0_3 m0_4 m0_5 m0_6).bind fun _ => ((flatten_Point_v1.f x192 x193 m0_1 m0_2 m0_3 m0_4 m0_5 m0_6).bind fun (t202, t203) => ((flatten_Path_1_v1.f t202 t203 x192 x193 y191).bind fun (t205, t206, t207) => (some (t206, t207, t205))))) else (if x189 = 1 then ((flatten_Count_v1.f x192 x193 m0_8 m0_9 m0_10 m0_11 m0_12 m0_13).bind fun _ => ((flatten_Point_v1.f x192 x193 m0_8 m0_9 m0_10 m0_11 m0_12 m0_13).bind fun (t214, t215) => ((flatten_Path_1_v1.f t214 t215 x192 x193 y191).bind fun (t217, t218, t219) => (some (t218, t219, t217))))) else (if x189 = 2 then ((flatten_Count_v1.f x192 x193 m0_15 m0_16 m0_17 m0_18 m0_19 m0_20).bind fun _ => ((flatten_Point_v1.f x192 x193 m0_15 m0_16 m0_17 m0_18 m0_19 m0_20).bind fun (t226, t227) => ((flatten_Path_1_v1.f t226 t227 x192 x193 y191).bind fun (t229, t230, t231) => (some (t230, t231, t229))))) else (none))) : Option (Int × Int × List (Int × Int × Int × Int))).bind fun (x234, x235, y237) => (flatten_Path_v1.l0 k m0_1 m0_2 m0_3 m0_4 m0_5 m0_6 m0_8 m0_9 m0_10 m0_11 m0_12 m0_13 m0_15 m0_16 m0_17 m0_18 m0_19 m0_20 (wr64 (x189 + 1)) y237 x234 x235)) else (some (x192, x193, y191))
def flatten_Path_v1.f (k : Nat) (p0_0 : Int) (p0_1 : Int) (m0_1 : Int) (m0_2 : Int) (m0_3 : Int) (m0_4 : Int) (m0_5 : Int) (m0_6 : Int) (m0_8 : Int) (m0_9 : Int) (m0_10 : Int) (m0_11 : Int) (m0_12 : Int) (m0_13 : Int) (m0_15 : Int) (m0_16 : Int) (m0_17 : Int) (m0_18 : Int) (m0_19 : Int) (m0_20 : Int) : Option (List (Int × Int × Int × Int)) := (flatten_Path_v1.l0 k m0_1 m0_2 m0_3 m0_4 m0_5 m0_6 m0_8 m0_9 m0_10 m0_11 m0_12 m0_13 m0_15 m0_16 m0_17 m0_18 m0_19 m0_20 0 ([] : List (Int × Int × Int × Int)) p0_0 p0_1 : Option (Int × Int × List (Int × Int × Int × Int))).bind fun (x240, x241, y243) => ((flatten_Path_1_v1.f p0_0 p0_1 x240 x241 y243).bind fun (t244, t245, t246) => (some t244))
theorem flatten_Path_v1.ok {S : Seal} {B0 nB0 : Nat} {k : Nat} {p0_0 : Int} {p0_1 : Int} {m0_1 : Int} {m0_2 : Int} {m0_3 : Int} {m0_4 : Int} {m0_5 : Int} {m0_6 : Int} {m0_8 : Int} {m0_9 : Int} {m0_10 : Int} {m0_11 : Int} {m0_12 : Int} {m0_13 : Int} {m0_15 : Int} {m0_16 : Int} {m0_17 : Int} {m0_18 : Int} {m0_19 : Int} {m0_20 : Int} {r0_ : List (Int × Int × Int × Int)}{A_ : Int → Addr} (hE_ : EO gsE S A_ 157) (e : flatten_Path_v1.f k p0_0 p0_1 m0_1 m0_2 m0_3 m0_4 m0_5 m0_6 m0_8 m0_9 m0_10 m0_11 m0_12 m0_13 m0_15 m0_16 m0_17 m0_18 m0_19 m0_20 = some r0_) :
    Cal Tryd.prog 33 [.agg #[vI p0_0, vI p0_1, .slice (some ⟨B0, 0, none⟩) 3 (nB0 / 7), vB false], vB true] ([⟨B0, [vI 1, vI m0_1, vI m0_2, vI m0_3, vI m0_4, vI m0_5, vI m0_6, vI 1, vI m0_8, vI m0_9, vI m0_10, vI m0_11, vI m0_12, vI m0_13, vI 1, vI m0_15, vI m0_16, vI m0_17, vI m0_18, vI m0_19, vI m0_20], nB0⟩] : List Own) S fun v H' S' => ∃ (N0_ : Option Nat) (nN0_ : Nat) , v = .slice (ad N0_) r0_.length (nN0_ / 4) ∧ H' = ([⟨N0_, encL E_i644 r0_, nN0_⟩, ⟨B0, [vI 1, vI m0_1, vI m0_2, vI m0_3, vI m0_4, vI m0_5, vI m0_6, vI 1, vI m0_8, vI m0_9, vI m0_10, vI m0_11, vI m0_12, vI m0_13, vI 1, vI m0_15, vI m0_16, vI m0_17, vI m0_18, vI m0_19, vI m0_20], nB0⟩] : List Own) ∧ S' = S := by
 unfold flatten_Path_v1.f at e
 refine cal_of (c := c33) (N := 50) Tryd.func33 rfl rfl (by kernel_rfl) (rs := [.t 4]) (by kernel_rfl) (Nat.le_of_ble_eq_true rfl) ?_
 unfold c33
 refine w_seq ?_
 refine w_reg fun all => ?_
 refine t_a (.box rfl rfl rfl) fun b183 fb183 sb183 => ?_
 refine t_qz 1 [1, 2] (σ' := [(1, vB true), (2, vP b183 0)]) (by kernel_rfl) ?_
 refine t_end ?_
 show W _ _ _ _ _ _ _
 refine w_seq ?_
 refine w_reg fun all => ?_
 refine t_a (.new rfl rfl) fun b184 fb184 sb184 => ?_
 refine t_keep [1, 2, 5] (σ' := [(1, vB true), (2, vP b183 0), (5, vP b184 0)]) (by kernel_rfl) ?_
 refine t_end ?_
 show W _ _ _ _ _ _ _
 refine w_seq ?_
 refine w_reg fun all => ?_
 refine t_qz 1 [1, 2, 5, 13] (σ' := [(1, vB true), (2, vP b183 0), (5, vP b184 0), (13, vP b183 0)]) (by kernel_rfl) ?_
 refine t_v (.ldn rfl rfl rfl (.at 1 rfl rfl)) ?_
 refine t_a (.new rfl rfl) fun b185 fb185 sb185 => ?_
 refine t_sti 0 (cs := [vI p0_0, vI p0_1]) rfl rfl rfl rfl rfl rfl rfl rfl rfl ?_
 refine t_keep [1, 2, 5, 6] (σ' := [(1, vB true), (2, vP b183 0), (5, vP b184 0), (6, vP b185 0)]) (by kernel_rfl) ?_
 refine t_end ?_
 show W _ _ _ _ _ _ _
 refine w_seq ?_
 refine w_reg fun all => ?_
 refine t_qz 2 [1, 2, 5, 6, 7] (σ' := [(1, vB true), (2, vP b183 0), (5, vP b184 0), (6, vP b185 0), (7, .func (.func 45) #[] #[vP b185 0, vP b184 0])]) (by kernel_rfl) ?_
 refine t_end ?_
 show W _ _ _ _ _ _ _
 obtain ⟨⟨x240, x241, y243⟩, e187, e⟩ := bind_of e
 try dsimp only at e
 refine w_cut [1, 2, 5, 7] (fun σ_ H_ S_ => ∃ (a242 : Option Nat) (na242 : Nat), [(1, vB true), (2, vP b183 0), (5, vP b184 0), (7, .func (.func 45) #[] #[vP b185 0, vP b184 0])] = σ_ ∧ ([⟨b185, [vI x240, vI x241], 2⟩, ⟨b184, [.slice (ad a242) y243.length (na242 / 4)], 1⟩, ⟨b183, [vI p0_0, vI p0_1, .slice (some ⟨B0, 0, none⟩) 3 (nB0 / 7), vB false], 4⟩, ⟨B0, [vI 1, vI m0_1, vI m0_2, vI m0_3, vI m0_4, vI m0_5, vI m0_6, vI 1, vI m0_8, vI m0_9, vI m0_10, vI m0_11, vI m0_12, vI m0_13, vI 1, vI m0_15, vI m0_16, vI m0_17, vI m0_18, vI m0_19, vI m0_20], nB0⟩, ⟨a242, encL E_i644 y243, na242⟩] : List Own) = H_ ∧ S = S_) ?_ ?_
 ·show W _ _ _ _ _ _ _
  refine w_seq ?_
  refine w_reg fun all => ?_
  refine t_qz 1 [1, 2, 5, 6, 7, 16] (σ' := [(1, vB true), (2, vP b183 0), (5, vP b184 0), (6, vP b185 0), (7, .func (.func 45) #[] #[vP b185 0, vP b184 0]), (16, vP b183 2)]) (by kernel_rfl) ?_
  refine t_v (.ld1 rfl rfl rfl (.at 2 rfl rfl)) ?_
  refine t_qz 2 [1, 2, 5, 6, 7, 17, 18, 19] (σ' := [(1, vB true), (2, vP b183 0), (5, vP b184 0), (6, vP b185 0), (7, .func (.func 45) #[] #[vP b185 0, vP b184 0]), (17, .slice (some ⟨B0, 0, none⟩) 3 (nB0 / 7)), (18, vI 3), (19, vI 0)]) (by kernel_rfl) ?_
  refine t_end ?_
  show W _ _ _ _ _ _ _
  refine w_block ?_
  refine w_vs VS.vac ?_
  refine w_kp [1, 2, 5, 6, 7, 17, 18, 19] (σ' := [(1, vB true), (2, vP b183 0), (5, vP b184 0), (6, vP b185 0), (7, .func (.func 45) #[] #[vP b185 0, vP b184 0]), (17, .slice (some ⟨B0, 0, none⟩) 3 (nB0 / 7)), (18, vI 3), (19, vI 0)]) (by kernel_rfl) ?_
  refine w_loop (fun n_ σ_ H_ S_ => ∃ (x189 : Int) (y191 : List (Int × Int × Int × Int)) (x192 : Int) (x193 : Int), ∃ (a190 : Option Nat) (na190 : Nat), [(1, vB true), (2, vP b183 0), (5, vP b184 0), (6, vP b185 0), (7, .func (.func 45) #[] #[vP b185 0, vP b184 0]), (17, .slice (some ⟨B0, 0, none⟩) 3 (nB0 / 7)), (18, vI 3), (19, vI x189)] = σ_ ∧ ([⟨a190, encL E_i644 y191, na190⟩, ⟨b185, [vI x192, vI x193], 2⟩, ⟨b184, [.slice (ad a190) y191.length (na190 / 4)], 1⟩, ⟨b183, [vI p0_0, vI p0_1, .slice (some ⟨B0, 0, none⟩) 3 (nB0 / 7), vB false], 4⟩, ⟨B0, [vI 1, vI m0_1, vI m0_2, vI m0_3, vI m0_4, vI m0_5, vI m0_6, vI 1, vI m0_8, vI m0_9, vI m0_10, vI m0_11, vI m0_12, vI m0_13, vI 1, vI m0_15, vI m0_16, vI m0_17, vI m0_18, vI m0_19, vI m0_20], nB0⟩] : List Own) = H_ ∧ S = S_ ∧ flatten_Path_v1.l0 n_ m0_1 m0_2 m0_3 m0_4 m0_5 m0_6 m0_8 m0_9 m0_10 m0_11 m0_12 m0_13 m0_15 m0_16 m0_17 m0_18 m0_19 m0_20 x189 y191 x192 x193 = some (x240, x241, y243)) _ ⟨0, ([] : List (Int × Int × Int × Int)), p0_0, p0_1, none, 0, rfl, rfl, rfl, e187⟩ ?_
  rintro n239 σ_ H_ S_ ⟨x189, y191, x192, x193, a190, na190, rfl, rfl, rfl, e187⟩
  cases n239 with
  | zero => rw [flatten_Path_v1.l0.eq_1] at e187; cases e187
  | succ k_ =>
   rw [flatten_Path_v1.l0.eq_2] at e187
   refine w_seq ?_
   refine w_reg fun all => ?_
   by_cases c194 : x189 < 3
   ·rw [if_pos c194] at e187
    have c194b : (decide (x189 < 3)) = true := decide_eq_true c194
    refine t_v (dv_quiet rfl (congrArg (fun t => some (Value.bool t)) c194b)) ?_
    refine t_keep [1, 2, 5, 6, 7, 17, 18, 19, 20] (σ' := [(1, vB true), (2, vP b183 0), (5, vP b184 0), (6, vP b185 0), (7, .func (.func 45) #[] #[vP b185 0, vP b184 0]), (17, .slice (some ⟨B0, 0, none⟩) 3 (nB0 / 7)), (18, vI 3), (19, vI x189), (20, vB true)]) (by kernel_rfl) ?_
    refine t_end ?_
    show W _ _ _ _ _ _ _
    refine w_seq ?_
    refine w_cond rfl (fun _ => ?_) (fun c_ => by cases c_)
    show W _ _ _ _ _ _ _
    refine w_skip ?_
    show W _ _ _ _ _ _ _
    obtain ⟨⟨x234, x235, y237⟩, e196, e187⟩ := bind_of e187
    try dsimp only at e187
    refine w_cut [1, 2, 5, 6, 7, 17, 18, 19] (fun σ_ H_ S_ => ∃ (a236 : Option Nat) (na236 : Nat), [(1, vB true), (2, vP b183 0), (5, vP b184 0), (6, vP b185 0), (7, .func (.func 45) #[] #[vP b185 0, vP b184 0]), (17, .slice (some ⟨B0, 0, none⟩) 3 (nB0 / 7)), (18, vI 3), (19, vI x189)] = σ_ ∧ ([⟨b185, [vI x234, vI x235], 2⟩, ⟨b184, [.slice (ad a236) y237.length (na236 / 4)], 1⟩, ⟨b183, [vI p0_0, vI p0_1, .slice (some ⟨B0, 0, none⟩) 3 (nB0 / 7), vB false], 4⟩, ⟨B0, [vI 1, vI m0_1, vI m0_2, vI m0_3, vI m0_4, vI m0_5, vI m0_6, vI 1, vI m0_8, vI m0_9, vI m0_10, vI m0_11, vI m0_12, vI m0_13, vI 1, vI m0_15, vI m0_16, vI m0_17, vI m0_18, vI m0_19, vI m0_20], nB0⟩, ⟨a236, encL E_i644 y237, na236⟩] : List Own) = H_ ∧ S = S_) ?_ ?_
    ·show W _ _ _ _ _ _ _
     refine w_block ?_
     refine w_seq ?_
     refine w_reg fun all => ?_
     by_cases c198 : x189 = 0
     ·rw [if_pos c198] at e196
      have c198b : (x189 == 0) = true := beq_iff_eq.mpr c198
      refine t_v (.quiet rfl (ixs_at (j := 0) (u := vP B0 0) rfl c198b (by kernel_rfl))) ?_
      refine t_v (.ldn rfl rfl rfl (.at 4 rfl rfl)) ?_
      refine t_a (.new rfl rfl) fun b199 fb199 sb199 => ?_
      refine t_sti 0 (cs := [vI 1, vI m0_1, vI m0_2, vI m0_3, vI m0_4, vI m0_5, vI m0_6]) rfl rfl rfl rfl rfl rfl rfl rfl rfl ?_
      refine t_keep [1, 2, 5, 6, 7, 9, 17, 18, 19] (σ' := [(1, vB true), (2, vP b183 0), (5, vP b184 0), (6, vP b185 0), (7, .func (.func 45) #[] #[vP b185 0, vP b184 0]), (9, vP b199 0), (17, .slice (some ⟨B0, 0, none⟩) 3 (nB0 / 7)), (18, vI 3), (19, vI x189)]) (by kernel_rfl) ?_
      refine t_end ?_
      show W _ _ _ _ _ _ _
      refine w_seq ?_
      obtain ⟨u_, h200, e196⟩ := bind_of e196
      refine w_drwE mixed 5 [.v (.agg #[vI x192, vI x193]), .v (.agg #[vI x192, vI x193]), .v (.agg #[vI 1, vI m0_1, vI m0_2, vI m0_3, vI m0_4, vI m0_5, vI m0_6]), .v (vI 1), .a [vI 0, vI 0] ptrTo] (by kernel_rfl) ?_ ?_
      ·refine .cons (.ldn rfl rfl rfl (.at 2 rfl rfl)) ?_
       refine .cons (.ldn rfl rfl rfl (.at 2 rfl rfl)) ?_
       refine .cons (.ldn rfl rfl rfl (.at 0 rfl rfl)) ?_
       refine .cons (.call (vs := [.agg #[vI x192, vI x193], .agg #[vI 1, vI m0_1, vI m0_2, vI m0_3, vI m0_4, vI m0_5, vI m0_6]]) rfl rfl (by kernel_rfl) (flatten_Count_v1.ok hE_ h200)) ?_
       refine .cons (.new rfl rfl) ?_
       exact .nil
      refine fk_q 4 [1, 2, 5, 6, 7, 9, 17, 18, 19, 23, 26] (σ' := [(1, vB true), (2, vP b183 0), (5, vP b184 0), (6, vP b185 0), (7, .func (.func 45) #[] #[vP b185 0, vP b184 0]), (9, vP b199 0), (17, .slice (some ⟨B0, 0, none⟩) 3 (nB0 / 7)), (18, vI 3), (19, vI x189), (23, .agg #[vI x192, vI x193]), (26, vI 1)]) t_more (by kernel_rfl) ?_
      refine fk_a fun b201 fb201 sb201 => ?_
      refine fk_nil fun all => ?_
      refine t_sti 0 (cs := [vI x192, vI x193]) rfl rfl rfl rfl rfl rfl rfl rfl rfl ?_
      refine t_qz 1 [1, 2, 5, 6, 7, 9, 10, 11, 17, 18, 19] (σ' := [(1, vB true), (2, vP b183 0), (5, vP b184 0), (6, vP b185 0), (7, .func (.func 45) #[] #[vP b185 0, vP b184 0]), (9, vP b199 0), (10, vP b201 0), (11, vI 1), (17, .slice (some ⟨B0, 0, none⟩) 3 (nB0 / 7)), (18, vI 3), (19, vI x189)]) (by kernel_rfl) ?_
      refine t_end ?_
      show W _ _ _ _ _ _ _
      refine w_seq ?_
      refine w_reg fun all => ?_
      refine t_qz 1 [1, 2, 5, 6, 7, 9, 10, 11, 12, 17, 18, 19] (σ' := [(1, vB true), (2, vP b183 0), (5, vP b184 0), (6, vP b185 0), (7, .func (.func 45) #[] #[vP b185 0, vP b184 0]), (9, vP b199 0), (10, vP b201 0), (11, vI 1), (12, vI 1), (17, .slice (some ⟨B0, 0, none⟩) 3 (nB0 / 7)), (18, vI 3), (19, vI x189)]) (by kernel_rfl) ?_
      refine t_end ?_
      show W _ _ _ _ _ _ _
      refine w_block ?_
      refine w_lun 15 ?_
      refine wl_step ?_
      refine w_seq ?_
      refine w_seq ?_
      refine w_reg fun all => ?_
      refine t_qz 3 [1, 2, 5, 6, 7, 9, 10, 11, 12, 17, 18, 19, 29] (σ' := [(1, vB true), (2, vP b183 0), (5, vP b184 0), (6, vP b185 0), (7, .func (.func 45) #[] #[vP b185 0, vP b184 0]), (9, vP b199 0), (10, vP b201 0), (11, vI 1), (12, vI 1), (17, .slice (some ⟨B0, 0, none⟩) 3 (nB0 / 7)), (18, vI 3), (19, vI x189), (29, vB true)]) (by kernel_rfl) ?_
      refine t_end ?_
      show W _ _ _ _ _ _ _
      refine w_cond rfl (fun _ => ?_) (fun c_ => by cases c_)
      show W _ _ _ _ _ _ _
      refine w_skip ?_
      show W _ _ _ _ _ _ _
      refine w_seq ?_
      refine w_block ?_
      refine w_reg fun all => ?_
      refine t_qz 1 [1, 2, 5, 6, 7, 9, 10, 11, 12, 17, 18, 19, 32] (σ' := [(1, vB true), (2, vP b183 0), (5, vP b184 0), (6, vP b185 0), (7, .func (.func 45) #[] #[vP b185 0, vP b184 0]), (9, vP b199 0), (10, vP b201 0), (11, vI 1), (12, vI 1), (17, .slice (some ⟨B0, 0, none⟩) 3 (nB0 / 7)), (18, vI 3), (19, vI x189), (32, .func (.func 45) #[] #[vP b185 0, vP b184 0])]) (by kernel_rfl) ?_
      refine t_v (.ldn rfl rfl rfl (.at 0 rfl rfl)) ?_
      refine t_v (.ldn rfl rfl rfl (.at 1 rfl rfl)) ?_
      obtain ⟨⟨t202, t203⟩, h204, e196⟩ := bind_of e196
      try dsimp only at e196
      refine t_qz 2 [1, 2, 5, 6, 7, 9, 10, 11, 12, 17, 18, 19, 32, 33, 34, 35, 36] (σ' := [(1, vB true), (2, vP b183 0), (5, vP b184 0), (6, vP b185 0), (7, .func (.func 45) #[] #[vP b185 0, vP b184 0]), (9, vP b199 0), (10, vP b201 0), (11, vI 1), (12, vI 1), (17, .slice (some ⟨B0, 0, none⟩) 3 (nB0 / 7)), (18, vI 3), (19, vI x189), (32, .func (.func 45) #[] #[vP b185 0, vP b184 0]), (33, .agg #[vI x192, vI x193]), (34, .agg #[vI 1, vI m0_1, vI m0_2, vI m0_3, vI m0_4, vI m0_5, vI m0_6]), (35, vI 1), (36, vI 1)]) (by kernel_rfl) ?_
      refine t_v (.call (vs := [.agg #[vI x192, vI x193], .agg #[vI 1, vI m0_1, vI m0_2, vI m0_3, vI m0_4, vI m0_5, vI m0_6], vI 1, vI 1]) rfl rfl (by kernel_rfl) (flatten_Point_v1.ok hE_ h204)) ?_
      obtain ⟨⟨t205, t206, t207⟩, h208, e196⟩ := bind_of e196
      try dsimp only at e196
      refine t_clo (caps := #[vP b185 0, vP b184 0]) (vs := [.agg #[vI t202, vI t203]]) (H1 := ([⟨b185, [vI x192, vI x193], 2⟩, ⟨b184, [.slice (ad a190) y191.length (na190 / 4)], 1⟩, ⟨a190, encL E_i644 y191, na190⟩] : List Own)) (F := ([⟨b201, [vI x192, vI x193], 2⟩, ⟨b199, [vI 1, vI m0_1, vI m0_2, vI m0_3, vI m0_4, vI m0_5, vI m0_6], 7⟩, ⟨b183, [vI p0_0, vI p0_1, .slice (some ⟨B0, 0, none⟩) 3 (nB0 / 7), vB false], 4⟩, ⟨B0, [vI 1, vI m0_1, vI m0_2, vI m0_3, vI m0_4, vI m0_5, vI m0_6, vI 1, vI m0_8, vI m0_9, vI m0_10, vI m0_11, vI m0_12, vI m0_13, vI 1, vI m0_15, vI m0_16, vI m0_17, vI m0_18, vI m0_19, vI m0_20], nB0⟩] : List Own)) rfl rfl rfl (by kernel_rfl) (by kernel_rfl) (sel_perm (is := [3, 3, 2]) (by kernel_rfl)) (flatten_Path_1_v1.ok hE_ h208) ?_
      rintro _ _ S_ ⟨N209, nN209, rfl, rfl, hS_⟩
      obtain rfl := hS_.symm
      refine t_keep [1, 2, 5, 6, 7, 9, 10, 11, 12, 17, 18, 19] (σ' := [(1, vB true), (2, vP b183 0), (5, vP b184 0), (6, vP b185 0), (7, .func (.func 45) #[] #[vP b185 0, vP b184 0]), (9, vP b199 0), (10, vP b201 0), (11, vI 1), (12, vI 1), (17, .slice (some ⟨B0, 0, none⟩) 3 (nB0 / 7)), (18, vI 3), (19, vI x189)]) (by kernel_rfl) ?_
      refine t_end ?_
      show W _ _ _ _ _ _ _
      refine w_reg fun all => ?_
      refine t_qz 3 [1, 2, 5, 6, 7, 9, 10, 11, 12, 17, 18, 19] (σ' := [(1, vB true), (2, vP b183 0), (5, vP b184 0), (6, vP b185 0), (7, .func (.func 45) #[] #[vP b185 0, vP b184 0]), (9, vP b199 0), (10, vP b201 0), (11, vI 1), (12, vI 2), (17, .slice (some ⟨B0, 0, none⟩) 3 (nB0 / 7)), (18, vI 3), (19, vI x189)]) (by kernel_rfl) ?_
      refine t_end ?_
      show WL _ _ _ _ _ _ _ _
      refine wl_step ?_
      refine w_seq ?_
      refine w_seq ?_
      refine w_reg fun all => ?_
      refine t_qz 3 [1, 2, 5, 6, 7, 9, 10, 11, 12, 17, 18, 19, 29] (σ' := [(1, vB true), (2, vP b183 0), (5, vP b184 0), (6, vP b185 0), (7, .func (.func 45) #[] #[vP b185 0, vP b184 0]), (9, vP b199 0), (10, vP b201 0), (11, vI 1), (12, vI 2), (17, .slice (some ⟨B0, 0, none⟩) 3 (nB0 / 7)), (18, vI 3), (19, vI x189), (29, vB false)]) (by kernel_rfl) ?_
      refine t_end ?_
      show W _ _ _ _ _ _ _
      refine w_cond rfl (fun c_ => by cases c_) (fun _ => ?_)
      show W _ _ _ _ _ _ _
      refine w_exit ?_
      simp only [Option.some.injEq, Prod.mk.injEq] at e196
      obtain ⟨rfl, rfl, rfl⟩ := e196
      exact ⟨([⟨b185, [vI t206, vI t207], 2⟩, ⟨b184, [.slice (ad N209) t205.length (nN209 / 4)], 1⟩, ⟨b183, [vI p0_0, vI p0_1, .slice (some ⟨B0, 0, none⟩) 3 (nB0 / 7), vB false], 4⟩, ⟨B0, [vI 1, vI m0_1, vI m0_2, vI m0_3, vI m0_4, vI m0_5, vI m0_6, vI 1, vI m0_8, vI m0_9, vI m0_10, vI m0_11, vI m0_12, vI m0_13, vI 1, vI m0_15, vI m0_16, vI m0_17, vI m0_18, vI m0_19, vI m0_20], nB0⟩, ⟨N209, encL E_i644 t205, nN209⟩] : List Own), S, VS.sel [1, 1, 3, 3, 0] (by kernel_rfl), N209, nN209, by kernel_rfl, rfl, rfl⟩
     ·rw [if_neg c198] at e196
      have c198b : (x189 == 0) = false := beq_eq_false_iff_ne.mpr c198
      by_cases c210 : x189 = 1
      ·rw [if_pos c210] at e196
       have c210b : (x189 == 1) = true := beq_iff_eq.mpr c210
       refine t_v (.quiet rfl (ixs_at (j := 1) (u := vP B0 7) rfl c210b (by kernel_rfl))) ?_
       refine t_v (.ldn rfl rfl rfl (.at 4 rfl rfl)) ?_
       refine t_a (.new rfl rfl) fun b211 fb211 sb211 => ?_
       refine t_sti 0 (cs := [vI 1, vI m0_8, vI m0_9, vI m0_10, vI m0_11, vI m0_12, vI m0_13]) rfl rfl rfl rfl rfl rfl rfl rfl rfl ?_
       refine t_keep [1, 2, 5, 6, 7, 9, 17, 18, 19] (σ' := [(1, vB true), (2, vP b183 0), (5, vP b184 0), (6, vP b185 0), (7, .func (.func 45) #[] #[vP b185 0, vP b184 0]), (9, vP b211 0), (17, .slice (some ⟨B0, 0, none⟩) 3 (nB0 / 7)), (18, vI 3), (19, vI x189)]) (by kernel_rfl) ?_
       refine t_end ?_
       show W _ _ _ _ _ _ _
       refine w_seq ?_
       obtain ⟨u_, h212, e196⟩ := bind_of e196
       refine w_drwE mixed 5 [.v (.agg #[vI x192, vI x193]), .v (.agg #[vI x192, vI x193]), .v (.agg #[vI 1, vI m0_8, vI m0_9, vI m0_10, vI m0_11, vI m0_12, vI m0_13]), .v (vI 1), .a [vI 0, vI 0] ptrTo] (by kernel_rfl) ?_ ?_
       ·refine .cons (.ldn rfl rfl rfl (.at 2 rfl rfl)) ?_
        refine .cons (.ldn rfl rfl rfl (.at 2 rfl rfl)) ?_
        refine .cons (.ldn rfl rfl rfl (.at 0 rfl rfl)) ?_
        refine .cons (.call (vs := [.agg #[vI x192, vI x193], .agg #[vI 1, vI m0_8, vI m0_9, vI m0_10, vI m0_11, vI m0_12, vI m0_13]]) rfl rfl (by kernel_rfl) (flatten_Count_v1.ok hE_ h212)) ?_
        refine .cons (.new rfl rfl) ?_
        exact .nil
       refine fk_q 4 [1, 2, 5, 6, 7, 9, 17, 18, 19, 23, 26] (σ' := [(1, vB true), (2, vP b183 0), (5, vP b184 0), (6, vP b185 0), (7, .func (.func 45) #[] #[vP b185 0, vP b184 0]), (9, vP b211 0), (17, .slice (some ⟨B0, 0, none⟩) 3 (nB0 / 7)), (18, vI 3), (19, vI x189), (23, .agg #[vI x192, vI x193]), (26, vI 1)]) t_more (by kernel_rfl) ?_
       refine fk_a fun b213 fb213 sb213 => ?_
       refine fk_nil fun all => ?_
       refine t_sti 0 (cs := [vI x192, vI x193]) rfl rfl rfl rfl rfl rfl rfl rfl rfl ?_
       refine t_qz 1 [1, 2, 5, 6, 7, 9, 10, 11, 17, 18, 19] (σ' := [(1, vB true), (2, vP b183 0), (5, vP b184 0), (6, vP b185 0), (7, .func (.func 45) #[] #[vP b185 0, vP b184 0]), (9, vP b211 0), (10, vP b213 0), (11, vI 1), (17, .slice (some ⟨B0, 0, none⟩) 3 (nB0 / 7)), (18, vI 3), (19, vI x189)]) (by kernel_rfl) ?_
       refine t_end ?_
       show W _ _ _ _ _ _ _
       refine w_seq ?_
       refine w_reg fun all => ?_
       refine t_qz 1 [1, 2, 5, 6, 7, 9, 10, 11, 12, 17, 18, 19] (σ' := [(1, vB true), (2, vP b183 0), (5, vP b184 0), (6, vP b185 0), (7, .func (.func 45) #[] #[vP b185 0, vP b184 0]), (9, vP b211 0), (10, vP b213 0), (11, vI 1), (12, vI 1), (17, .slice (some ⟨B0, 0, none⟩) 3 (nB0 / 7)), (18, vI 3), (19, vI x189)]) (by kernel_rfl) ?_
       refine t_end ?_
       show W _ _ _ _ _ _ _
       refine w_block ?_
       refine w_lun 15 ?_
       refine wl_step ?_
       refine w_seq ?_
       refine w_seq ?_
       refine w_reg fun all => ?_
       refine t_qz 3 [1, 2, 5, 6, 7, 9, 10, 11, 12, 17, 18, 19, 29] (σ' := [(1, vB true), (2, vP b183 0), (5, vP b184 0), (6, vP b185 0), (7, .func (.func 45) #[] #[vP b185 0, vP b184 0]), (9, vP b211 0), (10, vP b213 0), (11, vI 1), (12, vI 1), (17, .slice (some ⟨B0, 0, none⟩) 3 (nB0 / 7)), (18, vI 3), (19, vI x189), (29, vB true)]) (by kernel_rfl) ?_
       refine t_end ?_
       show W _ _ _ _ _ _ _
       refine w_cond rfl (fun _ => ?_) (fun c_ => by cases c_)
       show W _ _ _ _ _ _ _
       refine w_skip ?_
       show W _ _ _ _ _ _ _
       refine w_seq ?_
       refine w_block ?_
       refine w_reg fun all => ?_
       refine t_qz 1 [1, 2, 5, 6, 7, 9, 10, 11, 12, 17, 18, 19, 32] (σ' := [(1, vB true), (2, vP b183 0), (5, vP b184 0), (6, vP b185 0), (7, .func (.func 45) #[] #[vP b185 0, vP b184 0]), (9, vP b211 0), (10, vP b213 0), (11, vI 1), (12, vI 1), (17, .slice (some ⟨B0, 0, none⟩) 3 (nB0 / 7)), (18, vI 3), (19, vI x189), (32, .func (.func 45) #[] #[vP b185 0, vP b184 0])]) (by kernel_rfl) ?_
       refine t_v (.ldn rfl rfl rfl (.at 0 rfl rfl)) ?_
       refine t_v (.ldn rfl rfl rfl (.at 1 rfl rfl)) ?_
       obtain ⟨⟨t214, t215⟩, h216, e196⟩ := bind_of e196
       try dsimp only at e196
       refine t_qz 2 [1, 2, 5, 6, 7, 9, 10, 11, 12, 17, 18, 19, 32, 33, 34, 35, 36] (σ' := [(1, vB true), (2, vP b183 0), (5, vP b184 0), (6, vP b185 0), (7, .func (.func 45) #[] #[vP b185 0, vP b184 0]), (9, vP b211 0), (10, vP b213 0), (11, vI 1), (12, vI 1), (17, .slice (some ⟨B0, 0, none⟩) 3 (nB0 / 7)), (18, vI 3), (19, vI x189), (32, .func (.func 45) #[] #[vP b185 0, vP b184 0]), (33, .agg #[vI x192, vI x193]), (34, .agg #[vI 1, vI m0_8, vI m0_9, vI m0_10, vI m0_11, vI m0_12, vI m0_13]), (35, vI 1), (36, vI 1)]) (by kernel_rfl) ?_
       refine t_v (.call (vs := [.agg #[vI x192, vI x193], .agg #[vI 1, vI m0_8, vI m0_9, vI m0_10, vI m0_11, vI m0_12, vI m0_13], vI 1, vI 1]) rfl rfl (by kernel_rfl) (flatten_Point_v1.ok hE_ h216)) ?_
       obtain ⟨⟨t217, t218, t219⟩, h220, e196⟩ := bind_of e196
       try dsimp only at e196
       refine t_clo (caps := #[vP b185 0, vP b184 0]) (vs := [.agg #[vI t214, vI t215]]) (H1 := ([⟨b185, [vI x192, vI x193], 2⟩, ⟨b184, [.slice (ad a190) y191.length (na190 / 4)], 1⟩, ⟨a190, encL E_i644 y191, na190⟩] : List Own)) (F := ([⟨b213, [vI x192, vI x193], 2⟩, ⟨b211, [vI 1, vI m0_8, vI m0_9, vI m0_10, vI m0_11, vI m0_12, vI m0_13], 7⟩, ⟨b183, [vI p0_0, vI p0_1, .slice (some ⟨B0, 0, none⟩) 3 (nB0 / 7), vB false], 4⟩, ⟨B0, [vI 1, vI m0_1, vI m0_2, vI m0_3, vI m0_4, vI m0_5, vI m0_6, vI 1, vI m0_8, vI m0_9, vI m0_10, vI m0_11, vI m0_12, vI m0_13, vI 1, vI m0_15, vI m0_16, vI m0_17, vI m0_18, vI m0_19, vI m0_20], nB0⟩] : List Own)) rfl rfl rfl (by kernel_rfl) (by kernel_rfl) (sel_perm (is := [3, 3, 2]) (by kernel_rfl)) (flatten_Path_1_v1.ok hE_ h220) ?_
       rintro _ _ S_ ⟨N221, nN221, rfl, rfl, hS_⟩
       obtain rfl := hS_.symm
       refine t_keep [1, 2, 5, 6, 7, 9, 10, 11, 12, 17, 18, 19] (σ' := [(1, vB true), (2, vP b183 0), (5, vP b184 0), (6, vP b185 0), (7, .func (.func 45) #[] #[vP b185 0, vP b184 0]), (9, vP b211 0), (10, vP b213 0), (11, vI 1), (12, vI 1), (17, .slice (some ⟨B0, 0, none⟩) 3 (nB0 / 7)), (18, vI 3), (19, vI x189)]) (by kernel_rfl) ?_
       refine t_end ?_
       show W _ _ _ _ _ _ _
       refine w_reg fun all => ?_
       refine t_qz 3 [1, 2, 5, 6, 7, 9, 10, 11, 12, 17, 18, 19] (σ' := [(1, vB true), (2, vP b183 0), (5, vP b184 0), (6, vP b185 0), (7, .func (.func 45) #[] #[vP b185 0, vP b184 0]), (9, vP b211 0), (10, vP b213 0), (11, vI 1), (12, vI 2), (17, .slice (some ⟨B0, 0, none⟩) 3 (nB0 / 7)), (18, vI 3), (19, vI x189)]) (by kernel_rfl) ?_
       refine t_end ?_
       show WL _ _ _ _ _ _ _ _
       refine wl_step ?_
       refine w_seq ?_
       refine w_seq ?_
       refine w_reg fun all => ?_
       refine t_qz 3 [1, 2, 5, 6, 7, 9, 10, 11, 12, 17, 18, 19, 29] (σ' := [(1, vB true), (2, vP b183 0), (5, vP b184 0), (6, vP b185 0), (7, .func (.func 45) #[] #[vP b185 0, vP b184 0]), (9, vP b211 0), (10, vP b213 0), (11, vI 1), (12, vI 2), (17, .slice (some ⟨B0, 0, none⟩) 3 (nB0 / 7)), (18, vI 3), (19, vI x189), (29, vB false)]) (by kernel_rfl) ?_
       refine t_end ?_
       show W _ _ _ _ _ _ _
       refine w_cond rfl (fun c_ => by cases c_) (fun _ => ?_)
       show W _ _ _ _ _ _ _
       refine w_exit ?_
       simp only [Option.some.injEq, Prod.mk.injEq] at e196
       obtain ⟨rfl, rfl, rfl⟩ := e196
       exact ⟨([⟨b185, [vI t218, vI t219], 2⟩, ⟨b184, [.slice (ad N221) t217.length (nN221 / 4)], 1⟩, ⟨b183, [vI p0_0, vI p0_1, .slice (some ⟨B0, 0, none⟩) 3 (nB0 / 7), vB false], 4⟩, ⟨B0, [vI 1, vI m0_1, vI m0_2, vI m0_3, vI m0_4, vI m0_5, vI m0_6, vI 1, vI m0_8, vI m0_9, vI m0_10, vI m0_11, vI m0_12, vI m0_13, vI 1, vI m0_15, vI m0_16, vI m0_17, vI m0_18, vI m0_19, vI m0_20], nB0⟩, ⟨N221, encL E_i644 t217, nN221⟩] : List Own), S, VS.sel [1, 1, 3, 3, 0] (by kernel_rfl), N221, nN221, by kernel_rfl, rfl, rfl⟩
      ·rw [if_neg c210] at e196
       have c210b : (x189 == 1) = false := beq_eq_false_iff_ne.mpr c210
       by_cases c222 : x189 = 2
       ·rw [if_pos c222] at e196
        have c222b : (x189 == 2) = true := beq_iff_eq.mpr c222
        refine t_v (.quiet rfl (ixs_at (j := 2) (u := vP B0 14) rfl c222b (by kernel_rfl))) ?_
        refine t_v (.ldn rfl rfl rfl (.at 4 rfl rfl)) ?_
        refine t_a (.new rfl rfl) fun b223 fb223 sb223 => ?_
        refine t_sti 0 (cs := [vI 1, vI m0_15, vI m0_16, vI m0_17, vI m0_18, vI m0_19, vI m0_20]) rfl rfl rfl rfl rfl rfl rfl rfl rfl ?_
        refine t_keep [1, 2, 5, 6, 7, 9, 17, 18, 19] (σ' := [(1, vB true), (2, vP b183 0), (5, vP b184 0), (6, vP b185 0), (7, .func (.func 45) #[] #[vP b185 0, vP b184 0]), (9, vP b223 0), (17, .slice (some ⟨B0, 0, none⟩) 3 (nB0 / 7)), (18, vI 3), (19, vI x189)]) (by kernel_rfl) ?_
        refine t_end ?_
        show W _ _ _ _ _ _ _
        refine w_seq ?_
        obtain ⟨u_, h224, e196⟩ := bind_of e196
        refine w_drwE mixed 5 [.v (.agg #[vI x192, vI x193]), .v (.agg #[vI x192, vI x193]), .v (.agg #[vI 1, vI m0_15, vI m0_16, vI m0_17, vI m0_18, vI m0_19, vI m0_20]), .v (vI 1), .a [vI 0, vI 0] ptrTo] (by kernel_rfl) ?_ ?_
        ·refine .cons (.ldn rfl rfl rfl (.at 2 rfl rfl)) ?_
         refine .cons (.ldn rfl rfl rfl (.at 2 rfl rfl)) ?_
         refine .cons (.ldn rfl rfl rfl (.at 0 rfl rfl)) ?_
         refine .cons (.call (vs := [.agg #[vI x192, vI x193], .agg #[vI 1, vI m0_15, vI m0_16, vI m0_17, vI m0_18, vI m0_19, vI m0_20]]) rfl rfl (by kernel_rfl) (flatten_Count_v1.ok hE_ h224)) ?_
         refine .cons (.new rfl rfl) ?_
         exact .nil
        refine fk_q 4 [1, 2, 5, 6, 7, 9, 17, 18, 19, 23, 26] (σ' := [(1, vB true), (2, vP b183 0), (5, vP b184 0), (6, vP b185 0), (7, .func (.func 45) #[] #[vP b185 0, vP b184 0]), (9, vP b223 0), (17, .slice (some ⟨B0, 0, none⟩) 3 (nB0 / 7)), (18, vI 3), (19, vI x189), (23, .agg #[vI x192, vI x193]), (26, vI 1)]) t_more (by kernel_rfl) ?_
        refine fk_a fun b225 fb225 sb225 => ?_
        refine fk_nil fun all => ?_
        refine t_sti 0 (cs := [vI x192, vI x193]) rfl rfl rfl rfl rfl rfl rfl rfl rfl ?_
        refine t_qz 1 [1, 2, 5, 6, 7, 9, 10, 11, 17, 18, 19] (σ' := [(1, vB true), (2, vP b183 0), (5, vP b184 0), (6, vP b185 0), (7, .func (.func 45) #[] #[vP b185 0, vP b184 0]), (9, vP b223 0), (10, vP b225 0), (11, vI 1), (17, .slice (some ⟨B0, 0, none⟩) 3 (nB0 / 7)), (18, vI 3), (19, vI x189)]) (by kernel_rfl) ?_
        refine t_end ?_
        show W _ _ _ _ _ _ _
        refine w_seq ?_
        refine w_reg fun all => ?_
        refine t_qz 1 [1, 2, 5, 6, 7, 9, 10, 11, 12, 17, 18, 19] (σ' := [(1, vB true), (2, vP b183 0), (5, vP b184 0), (6, vP b185 0), (7, .func (.func 45) #[] #[vP b185 0, vP b184 0]), (9, vP b223 0), (10, vP b225 0), (11, vI 1), (12, vI 1), (17, .slice (some ⟨B0, 0, none⟩) 3 (nB0 / 7)), (18, vI 3), (19, vI x189)]) (by kernel_rfl) ?_
        refine t_end ?_
        show W _ _ _ _ _ _ _
        refine w_block ?_
        refine w_lun 15 ?_
        refine wl_step ?_
        refine w_seq ?_
        refine w_seq ?_
        refine w_reg fun all => ?_
        refine t_qz 3 [1, 2, 5, 6, 7, 9, 10, 11, 12, 17, 18, 19, 29] (σ' := [(1, vB true), (2, vP b183 0), (5, vP b184 0), (6, vP b185 0), (7, .func (.func 45) #[] #[vP b185 0, vP b184 0]), (9, vP b223 0), (10, vP b225 0), (11, vI 1), (12, vI 1), (17, .slice (some ⟨B0, 0, none⟩) 3 (nB0 / 7)), (18, vI 3), (19, vI x189), (29, vB true)]) (by kernel_rfl) ?_
        refine t_end ?_
        show W _ _ _ _ _ _ _
        refine w_cond rfl (fun _ => ?_) (fun c_ => by cases c_)
        show W _ _ _ _ _ _ _
        refine w_skip ?_
        show W _ _ _ _ _ _ _
        refine w_seq ?_
        refine w_block ?_
        refine w_reg fun all => ?_
        refine t_qz 1 [1, 2, 5, 6, 7, 9, 10, 11, 12, 17, 18, 19, 32] (σ' := [(1, vB true), (2, vP b183 0), (5, vP b184 0), (6, vP b185 0), (7, .func (.func 45) #[] #[vP b185 0, vP b184 0]), (9, vP b223 0), (10, vP b225 0), (11, vI 1), (12, vI 1), (17, .slice (some ⟨B0, 0, none⟩) 3 (nB0 / 7)), (18, vI 3), (19, vI x189), (32, .func (.func 45) #[] #[vP b185 0, vP b184 0])]) (by kernel_rfl) ?_
        refine t_v (.ldn rfl rfl rfl (.at 0 rfl rfl)) ?_
        refine t_v (.ldn rfl rfl rfl (.at 1 rfl rfl)) ?_
        obtain ⟨⟨t226, t227⟩, h228, e196⟩ := bind_of e196
        try dsimp only at e196
        refine t_qz 2 [1, 2, 5, 6, 7, 9, 10, 11, 12, 17, 18, 19, 32, 33, 34, 35, 36] (σ' := [(1, vB true), (2, vP b183 0), (5, vP b184 0), (6, vP b185 0), (7, .func (.func 45) #[] #[vP b185 0, vP b184 0]), (9, vP b223 0), (10, vP b225 0), (11, vI 1), (12, vI 1), (17, .slice (some ⟨B0, 0, none⟩) 3 (nB0 / 7)), (18, vI 3), (19, vI x189), (32, .func (.func 45) #[] #[vP b185 0, vP b184 0]), (33, .agg #[vI x192, vI x193]), (34, .agg #[vI 1, vI m0_15, vI m0_16, vI m0_17, vI m0_18, vI m0_19, vI m0_20]), (35, vI 1), (36, vI 1)]) (by kernel_rfl) ?_
        refine t_v (.call (vs := [.agg #[vI x192, vI x193], .agg #[vI 1, vI m0_15, vI m0_16, vI m0_17, vI m0_18, vI m0_19, vI m0_20], vI 1, vI 1]) rfl rfl (by kernel_rfl) (flatten_Point_v1.ok hE_ h228)) ?_
        obtain ⟨⟨t229, t230, t231⟩, h232, e196⟩ := bind_of e196
        try dsimp only at e196
        refine t_clo (caps := #[vP b185 0, vP b184 0]) (vs := [.agg #[vI t226, vI t227]]) (H1 := ([⟨b185, [vI x192, vI x193], 2⟩, ⟨b184, [.slice (ad a190) y191.length (na190 / 4)], 1⟩, ⟨a190, encL E_i644 y191, na190⟩] : List Own)) (F := ([⟨b225, [vI x192, vI x193], 2⟩, ⟨b223, [vI 1, vI m0_15, vI m0_16, vI m0_17, vI m0_18, vI m0_19, vI m0_20], 7⟩, ⟨b183, [vI p0_0, vI p0_1, .slice (some ⟨B0, 0, none⟩) 3 (nB0 / 7), vB false], 4⟩, ⟨B0, [vI 1, vI m0_1, vI m0_2, vI m0_3, vI m0_4, vI m0_5, vI m0_6, vI 1, vI m0_8, vI m0_9, vI m0_10, vI m0_11, vI m0_12, vI m0_13, vI 1, vI m0_15, vI m0_16, vI m0_17, vI m0_18, vI m0_19, vI m0_20], nB0⟩] : List Own)) rfl rfl rfl (by kernel_rfl) (by kernel_rfl) (sel_perm (is := [3, 3, 2]) (by kernel_rfl)) (flatten_Path_1_v1.ok hE_ h232) ?_
        rintro _ _ S_ ⟨N233, nN233, rfl, rfl, hS_⟩
        obtain rfl := hS_.symm
        refine t_keep [1, 2, 5, 6, 7, 9, 10, 11, 12, 17, 18, 19] (σ' := [(1, vB true), (2, vP b183 0), (5, vP b184 0), (6, vP b185 0), (7, .func (.func 45) #[] #[vP b185 0, vP b184 0]), (9, vP b223 0), (10, vP b225 0), (11, vI 1), (12, vI 1), (17, .slice (some ⟨B0, 0, none⟩) 3 (nB0 / 7)), (18, vI 3), (19, vI x189)]) (by kernel_rfl) ?_
        refine t_end ?_
        show W _ _ _ _ _ _ _
        refine w_reg fun all => ?_
        refine t_qz 3 [1, 2, 5, 6, 7, 9, 10, 11, 12, 17, 18, 19] (σ' := [(1, vB true), (2, vP b183 0), (5, vP b184 0), (6, vP b185 0), (7, .func (.func 45) #[] #[vP b185 0, vP b184 0]), (9, vP b223 0), (10, vP b225 0), (11, vI 1), (12, vI 2), (17, .slice (some ⟨B0, 0, none⟩) 3 (nB0 / 7)), (18, vI 3), (19, vI x189)]) (by kernel_rfl) ?_
        refine t_end ?_
        show WL _ _ _ _ _ _ _ _
        refine wl_step ?_
        refine w_seq ?_
        refine w_seq ?_
        refine w_reg fun all => ?_
        refine t_qz 3 [1, 2, 5, 6, 7, 9, 10, 11, 12, 17, 18, 19, 29] (σ' := [(1, vB true), (2, vP b183 0), (5, vP b184 0), (6, vP b185 0), (7, .func (.func 45) #[] #[vP b185 0, vP b184 0]), (9, vP b223 0), (10, vP b225 0), (11, vI 1), (12, vI 2), (17, .slice (some ⟨B0, 0, none⟩) 3 (nB0 / 7)), (18, vI 3), (19, vI x189), (29, vB false)]) (by kernel_rfl) ?_
        refine t_end ?_
        show W _ _ _ _ _ _ _
        refine w_cond rfl (fun c_ => by cases c_) (fun _ => ?_)
        show W _ _ _ _ _ _ _
        refine w_exit ?_
        simp only [Option.some.injEq, Prod.mk.injEq] at e196
        obtain ⟨rfl, rfl, rfl⟩ := e196
        exact ⟨([⟨b185, [vI t230, vI t231], 2⟩, ⟨b184, [.slice (ad N233) t229.length (nN233 / 4)], 1⟩, ⟨b183, [vI p0_0, vI p0_1, .slice (some ⟨B0, 0, none⟩) 3 (nB0 / 7), vB false], 4⟩, ⟨B0, [vI 1, vI m0_1, vI m0_2, vI m0_3, vI m0_4, vI m0_5, vI m0_6, vI 1, vI m0_8, vI m0_9, vI m0_10, vI m0_11, vI m0_12, vI m0_13, vI 1, vI m0_15, vI m0_16, vI m0_17, vI m0_18, vI m0_19, vI m0_20], nB0⟩, ⟨N233, encL E_i644 t229, nN233⟩] : List Own), S, VS.sel [1, 1, 3, 3, 0] (by kernel_rfl), N233, nN233, by kernel_rfl, rfl, rfl⟩
       ·rw [if_neg c222] at e196
        have c222b : (x189 == 2) = false := beq_eq_false_iff_ne.mpr c222
        cases e196
    ·rintro σ_ H_ S_ ⟨a236, na236, rfl, rfl, rfl⟩
     refine w_reg fun all => ?_
     refine t_qz 2 [1, 2, 5, 6, 7, 17, 18, 19] (σ' := [(1, vB true), (2, vP b183 0), (5, vP b184 0), (6, vP b185 0), (7, .func (.func 45) #[] #[vP b185 0, vP b184 0]), (17, .slice (some ⟨B0, 0, none⟩) 3 (nB0 / 7)), (18, vI 3), (19, vI (wr64 (x189 + 1)))]) (by kernel_rfl) ?_
     refine t_end ?_
     exact ⟨k_, Nat.lt_succ_self _, [(1, vB true), (2, vP b183 0), (5, vP b184 0), (6, vP b185 0), (7, .func (.func 45) #[] #[vP b185 0, vP b184 0]), (17, .slice (some ⟨B0, 0, none⟩) 3 (nB0 / 7)), (18, vI 3), (19, vI (wr64 (x189 + 1)))], ([⟨a236, encL E_i644 y237, na236⟩, ⟨b185, [vI x234, vI x235], 2⟩, ⟨b184, [.slice (ad a236) y237.length (na236 / 4)], 1⟩, ⟨b183, [vI p0_0, vI p0_1, .slice (some ⟨B0, 0, none⟩) 3 (nB0 / 7), vB false], 4⟩, ⟨B0, [vI 1, vI m0_1, vI m0_2, vI m0_3, vI m0_4, vI m0_5, vI m0_6, vI 1, vI m0_8, vI m0_9, vI m0_10, vI m0_11, vI m0_12, vI m0_13, vI 1, vI m0_15, vI m0_16, vI m0_17, vI m0_18, vI m0_19, vI m0_20], nB0⟩] : List Own), S, keep_sub [1, 2, 5, 6, 7, 17, 18, 19] (by kernel_rfl), VS.sel [4, 0, 0, 0, 0] (by kernel_rfl), wr64 (x189 + 1), y237, x234, x235, a236, na236, rfl, rfl, rfl, e187⟩
   ·rw [if_neg c194] at e187
    have c194b : (decide (x189 < 3)) = false := decide_eq_false c194
    refine t_v (dv_quiet rfl (congrArg (fun t => some (Value.bool t)) c194b)) ?_
    refine t_keep [1, 2, 5, 6, 7, 17, 18, 19, 20] (σ' := [(1, vB true), (2, vP b183 0), (5, vP b184 0), (6, vP b185 0), (7, .func (.func 45) #[] #[vP b185 0, vP b184 0]), (17, .slice (some ⟨B0, 0, none⟩) 3 (nB0 / 7)), (18, vI 3), (19, vI x189), (20, vB false)]) (by kernel_rfl) ?_
    refine t_end ?_
    show W _ _ _ _ _ _ _
    refine w_seq ?_
    refine w_cond rfl (fun c_ => by cases c_) (fun _ => ?_)
    show W _ _ _ _ _ _ _
    refine w_exit ?_
    simp only [Option.some.injEq, Prod.mk.injEq] at e187
    obtain ⟨rfl, rfl, rfl⟩ := e187
    exact ⟨([⟨b185, [vI x192, vI x193], 2⟩, ⟨b184, [.slice (ad a190) y191.length (na190 / 4)], 1⟩, ⟨b183, [vI p0_0, vI p0_1, .slice (some ⟨B0, 0, none⟩) 3 (nB0 / 7), vB false], 4⟩, ⟨B0, [vI 1, vI m0_1, vI m0_2, vI m0_3, vI m0_4, vI m0_5, vI m0_6, vI 1, vI m0_8, vI m0_9, vI m0_10, vI m0_11, vI m0_12, vI m0_13, vI 1, vI m0_15, vI m0_16, vI m0_17, vI m0_18, vI m0_19, vI m0_20], nB0⟩, ⟨a190, encL E_i644 y191, na190⟩] : List Own), S, VS.sel [1, 1, 1, 1, 0] (by kernel_rfl), a190, na190, by kernel_rfl, rfl, rfl⟩
 ·rintro σ_ H_ S_ ⟨a242, na242, rfl, rfl, rfl⟩
  refine w_seq ?_
  refine w_seq ?_
  refine w_reg fun all => ?_
  refine t_qz 5 [2, 5, 7, 44] (σ' := [(2, vP b183 0), (5, vP b184 0), (7, .func (.func 45) #[] #[vP b185 0, vP b184 0]), (44, vB true)]) (by kernel_rfl) ?_
  refine t_end ?_
  show W _ _ _ _ _ _ _
  refine w_cond rfl (fun _ => ?_) (fun c_ => by cases c_)
  show W _ _ _ _ _ _ _
  refine w_reg fun all => ?_
  refine t_qz 2 [5, 45, 46] (σ' := [(5, vP b184 0), (45, .func (.func 45) #[] #[vP b185 0, vP b184 0]), (46, vP b183 0)]) (by kernel_rfl) ?_
  refine t_v (.ldn rfl rfl rfl (.at 2 rfl rfl)) ?_
  obtain ⟨⟨t244, t245, t246⟩, h247, e⟩ := bind_of e
  try dsimp only at e
  refine t_clo (caps := #[vP b185 0, vP b184 0]) (vs := [.agg #[vI p0_0, vI p0_1]]) (H1 := ([⟨b185, [vI x240, vI x241], 2⟩, ⟨b184, [.slice (ad a242) y243.length (na242 / 4)], 1⟩, ⟨a242, encL E_i644 y243, na242⟩] : List Own)) (F := ([⟨b183, [vI p0_0, vI p0_1, .slice (some ⟨B0, 0, none⟩) 3 (nB0 / 7), vB false], 4⟩, ⟨B0, [vI 1, vI m0_1, vI m0_2, vI m0_3, vI m0_4, vI m0_5, vI m0_6, vI 1, vI m0_8, vI m0_9, vI m0_10, vI m0_11, vI m0_12, vI m0_13, vI 1, vI m0_15, vI m0_16, vI m0_17, vI m0_18, vI m0_19, vI m0_20], nB0⟩] : List Own)) rfl rfl rfl (by kernel_rfl) (by kernel_rfl) (sel_perm (is := [0, 0, 2]) (by kernel_rfl)) (flatten_Path_1_v1.ok hE_ h247) ?_
  rintro _ _ S_ ⟨N248, nN248, rfl, rfl, hS_⟩
  obtain rfl := hS_.symm
  refine t_keep [5] (σ' := [(5, vP b184 0)]) (by kernel_rfl) ?_
  refine t_end ?_
  show W _ _ _ _ _ _ _
  refine w_seq ?_
  refine w_reg fun all => ?_
  refine t_v (.ld1 rfl rfl rfl (.at 2 rfl rfl)) ?_
  refine t_qz 1 [4] (σ' := [(4, .slice (ad N248) t244.length (nN248 / 4))]) (by kernel_rfl) ?_
  refine t_end ?_
  show W _ _ _ _ _ _ _
  refine w_ret ?_
  obtain rfl := Option.some.inj e
  exact ⟨[.slice (ad N248) t244.length (nN248 / 4)], ([⟨N248, encL E_i644 t244, nN248⟩, ⟨B0, [vI 1, vI m0_1, vI m0_2, vI m0_3, vI m0_4, vI m0_5, vI m0_6, vI 1, vI m0_8, vI m0_9, vI m0_10, vI m0_11, vI m0_12, vI m0_13, vI 1, vI m0_15, vI m0_16, vI m0_17, vI m0_18, vI m0_19, vI m0_20], nB0⟩] : List Own), S, ⟨rfl, trivial⟩, VS.sel [0, 3] (by kernel_rfl), N248, nN248, rfl, rfl, rfl⟩

def render_layers_v2.f (k : Nat) (i0_0 : Int) (i0_1 : Int) (w1 : Int) (m2_1 : Int) (m2_8 : Int) (m2_9 : Int) (m2_16 : Int) : Option (Int × Int × Int × Int × Int × Int × Int × Int × Int × Int × Int × Int × Int × Int × Int × Int × Int × Int × Int × Int × Int × Int × Int × Int × List (Int × Int × Int × Int)) := (scale_Cmd_v1.f i0_0 i0_1 w1 m2_1 m2_8 m2_9 m2_16).bind fun (t154, t155, t156, t157, t158, t159, t160, t161, t162, t163, t164, t165, t166, t167, t168, t169, t170, t171, t172, t173, t174, t175, t176, t177) => ((flatten_Path_v1.f k t158 t159 t160 t161 t162 t163 t164 t165 t166 t167 t168 t169 t170 t171 t172 t173 t174 t175 t176 t177).bind fun t183 => ((lapp ([] : List (Int × Int × Int × Int)) t183).bind fun y186 => (some (t154, t155, t156, t157, t158, t159, t160, t161, t162, t163, t164, t165, t166, t167, t168, t169, t170, t171, t172, t173, t174, t175, t176, t177, y186))))
theorem render_layers_v2.ok {S : Seal} {B0 : Nat} {B1 : Nat} {B2 : Nat} {k : Nat} {i0_0 : Int} {i0_1 : Int} {w1 : Int} {m2_1 : Int} {m2_8 : Int} {m2_9 : Int} {m2_16 : Int} {r0_ : Int} {r1_ : Int} {r2_ : Int} {r3_ : Int} {r4_ : Int} {r5_ : Int} {r6_ : Int} {r7_ : Int} {r8_ : Int} {r9_ : Int} {r10_ : Int} {r11_ : Int} {r12_ : Int} {r13_ : Int} {r14_ : Int} {r15_ : Int} {r16_ : Int} {r17_ : Int} {r18_ : Int} {r19_ : Int} {r20_ : Int} {r21_ : Int} {r22_ : Int} {r23_ : Int} {r24_ : List (Int × Int × Int × Int)}{A_ : Int → Addr} (hE_ : EO gsE S A_ 157) {a_i0_3 : Option Addr} {n_i0_3 c_i0_3 : Nat} (e : render_layers_v2.f k i0_0 i0_1 w1 m2_1 m2_8 m2_9 m2_16 = some (r0_, r1_, r2_, r3_, r4_, r5_, r6_, r7_, r8_, r9_, r10_, r11_, r12_, r13_, r14_, r15_, r16_, r17_, r18_, r19_, r20_, r21_, r22_, r23_, r24_)) :
    Cal Tryd.prog 18 [.agg #[vI i0_0, vI i0_1, vI 0, .slice a_i0_3 n_i0_3 c_i0_3, .slice (some ⟨B0, 0, none⟩) 1 1], vI w1] ([⟨B0, [vI 1, vI 0, vI 0, vI 0, vI 0, vI 0, vI 0, vI 0, vI 0, vI 0, .slice (some ⟨B1, 0, none⟩) 1 1], 11⟩, ⟨B1, [vI 0, vI 0, .slice (some ⟨B2, 0, none⟩) 3 3, vB false], 4⟩, ⟨B2, [vI 1, vI m2_1, vI 0, vI 0, vI 0, vI 0, vI 0, vI 1, vI m2_8, vI m2_9, vI 0, vI 0, vI 0, vI 0, vI 1, vI 0, vI m2_16, vI 0, vI 0, vI 0, vI 0], 21⟩] : List Own) S fun v H' S' => ∃ (N0_ nN0_ : Nat) (N1_ nN1_ : Nat) (N2_ nN2_ : Nat) (N3_ : Option Nat) (nN3_ : Nat) , v = .slice (some ⟨N0_, 0, none⟩) 1 (nN0_ / 12) ∧ H' = ([⟨N0_, [vI 1, vI 0, vI 0, vI 0, vI 0, vI 0, vI r0_, vI r1_, vI r2_, vI r3_, .slice (some ⟨N1_, 0, none⟩) 1 (nN1_ / 4), .slice (ad N3_) r24_.length (nN3_ / 4)], nN0_⟩, ⟨N1_, [vI r4_, vI r5_, .slice (some ⟨N2_, 0, none⟩) 3 (nN2_ / 7), vB false], nN1_⟩, ⟨N2_, [vI 1, vI r6_, vI r7_, vI r8_, vI r9_, vI r10_, vI r11_, vI 1, vI r12_, vI r13_, vI r14_, vI r15_, vI r16_, vI r17_, vI 1, vI r18_, vI r19_, vI r20_, vI r21_, vI r22_, vI r23_], nN2_⟩, ⟨N3_, encL E_i644 r24_, nN3_⟩, ⟨B0, [vI 1, vI 0, vI 0, vI 0, vI 0, vI 0, vI 0, vI 0, vI 0, vI 0, .slice (some ⟨B1, 0, none⟩) 1 1], 11⟩, ⟨B1, [vI 0, vI 0, .slice (some ⟨B2, 0, none⟩) 3 3, vB false], 4⟩, ⟨B2, [vI 1, vI m2_1, vI 0, vI 0, vI 0, vI 0, vI 0, vI 1, vI m2_8, vI m2_9, vI 0, vI 0, vI 0, vI 0, vI 1, vI 0, vI m2_16, vI 0, vI 0, vI 0, vI 0], 21⟩] : List Own) ∧ S' = S := by
 unfold render_layers_v2.f at e
 refine cal_of (c := c18) (N := 47) Tryd.func18 rfl rfl (by kernel_rfl) (rs := [.t 4]) (by kernel_rfl) (Nat.le_of_ble_eq_true rfl) ?_
 unfold c18
 refine w_seq ?_
 refine w_reg fun all => ?_
 refine t_a (.box rfl rfl rfl) fun b152 fb152 sb152 => ?_
 refine t_qz 1 [1, 2] (σ' := [(1, vI w1), (2, vP b152 0)]) (by kernel_rfl) ?_
 refine t_end ?_
 show W _ _ _ _ _ _ _
 refine w_seq ?_
 refine w_reg fun all => ?_
 refine t_qz 1 [1, 2, 5] (σ' := [(1, vI w1), (2, vP b152 0), (5, .slice none 0 0)]) (by kernel_rfl) ?_
 refine t_end ?_
 show W _ _ _ _ _ _ _
 refine w_seq ?_
 refine w_seq ?_
 refine w_reg fun all => ?_
 refine t_qz 1 [1, 2, 5, 11] (σ' := [(1, vI w1), (2, vP b152 0), (5, .slice none 0 0), (11, vP b152 4)]) (by kernel_rfl) ?_
 refine t_v (.ld1 rfl rfl rfl (.at 0 rfl rfl)) ?_
 refine t_qz 2 [1, 2, 5, 12, 13, 14] (σ' := [(1, vI w1), (2, vP b152 0), (5, .slice none 0 0), (12, .slice (some ⟨B0, 0, none⟩) 1 1), (13, vI 1), (14, vI 0)]) (by kernel_rfl) ?_
 refine t_end ?_
 show W _ _ _ _ _ _ _
 refine w_block ?_
 refine w_lun 15 ?_
 refine wl_step ?_
 refine w_seq ?_
 refine w_reg fun all => ?_
 refine t_qz 1 [1, 2, 5, 12, 13, 14, 15] (σ' := [(1, vI w1), (2, vP b152 0), (5, .slice none 0 0), (12, .slice (some ⟨B0, 0, none⟩) 1 1), (13, vI 1), (14, vI 0), (15, vB true)]) (by kernel_rfl) ?_
 refine t_end ?_
 show W _ _ _ _ _ _ _
 refine w_seq ?_
 refine w_cond rfl (fun _ => ?_) (fun c_ => by cases c_)
 show W _ _ _ _ _ _ _
 refine w_skip ?_
 show W _ _ _ _ _ _ _
 refine w_seq ?_
 refine w_block ?_
 refine w_seq ?_
 refine w_reg fun all => ?_
 refine t_qz 1 [1, 2, 5, 12, 13, 14, 16] (σ' := [(1, vI w1), (2, vP b152 0), (5, .slice none 0 0), (12, .slice (some ⟨B0, 0, none⟩) 1 1), (13, vI 1), (14, vI 0), (16, vP B0 0)]) (by kernel_rfl) ?_
 refine t_v (.ldn rfl rfl rfl (.at 1 rfl rfl)) ?_
 refine t_a (.new rfl rfl) fun b153 fb153 sb153 => ?_
 refine t_sti 0 (cs := [vI 1, vI 0, vI 0, vI 0, vI 0, vI 0, vI 0, vI 0, vI 0, vI 0, .slice (some ⟨B1, 0, none⟩) 1 1]) rfl rfl rfl rfl rfl rfl rfl rfl rfl ?_
 refine t_keep [1, 2, 5, 7, 12, 13, 14] (σ' := [(1, vI w1), (2, vP b152 0), (5, .slice none 0 0), (7, vP b153 0), (12, .slice (some ⟨B0, 0, none⟩) 1 1), (13, vI 1), (14, vI 0)]) (by kernel_rfl) ?_
 refine t_end ?_
 show W _ _ _ _ _ _ _
 refine w_seq ?_
 refine w_reg fun all => ?_
 refine t_v (.ldn rfl rfl rfl (.at 1 rfl rfl)) ?_
 refine t_qz 1 [1, 2, 5, 7, 12, 13, 14, 18, 19] (σ' := [(1, vI w1), (2, vP b152 0), (5, .slice none 0 0), (7, vP b153 0), (12, .slice (some ⟨B0, 0, none⟩) 1 1), (13, vI 1), (14, vI 0), (18, .agg #[vI i0_0, vI i0_1, vI 0, .slice a_i0_3 n_i0_3 c_i0_3, .slice (some ⟨B0, 0, none⟩) 1 1]), (19, vI w1)]) (by kernel_rfl) ?_
 refine t_v (.ldn rfl rfl rfl (.at 0 rfl rfl)) ?_
 obtain ⟨⟨t154, t155, t156, t157, t158, t159, t160, t161, t162, t163, t164, t165, t166, t167, t168, t169, t170, t171, t172, t173, t174, t175, t176, t177⟩, h178, e⟩ := bind_of e
 try dsimp only at e
 refine t_call (vs := [.agg #[vI i0_0, vI i0_1, vI 0, .slice a_i0_3 n_i0_3 c_i0_3, .slice (some ⟨B0, 0, none⟩) 1 1], vI w1, .agg #[vI 1, vI 0, vI 0, vI 0, vI 0, vI 0, vI 0, vI 0, vI 0, vI 0, .slice (some ⟨B1, 0, none⟩) 1 1]]) (H1 := ([⟨B1, [vI 0, vI 0, .slice (some ⟨B2, 0, none⟩) 3 3, vB false], 4⟩, ⟨B2, [vI 1, vI m2_1, vI 0, vI 0, vI 0, vI 0, vI 0, vI 1, vI m2_8, vI m2_9, vI 0, vI 0, vI 0, vI 0, vI 1, vI 0, vI m2_16, vI 0, vI 0, vI 0, vI 0], 21⟩] : List Own)) (F := ([⟨b153, [vI 1, vI 0, vI 0, vI 0, vI 0, vI 0, vI 0, vI 0, vI 0, vI 0, .slice (some ⟨B1, 0, none⟩) 1 1], 11⟩, ⟨b152, [vI i0_0, vI i0_1, vI 0, .slice a_i0_3 n_i0_3 c_i0_3, .slice (some ⟨B0, 0, none⟩) 1 1], 5⟩, ⟨B0, [vI 1, vI 0, vI 0, vI 0, vI 0, vI 0, vI 0, vI 0, vI 0, vI 0, .slice (some ⟨B1, 0, none⟩) 1 1], 11⟩] : List Own)) rfl rfl (by kernel_rfl) (sel_perm (is := [3, 3]) (by kernel_rfl)) (scale_Cmd_v1.ok hE_ h178) ?_
 rintro _ _ S_ ⟨N179, nN179, N180, nN180, rfl, rfl, hS_⟩
 obtain rfl := hS_.symm
 refine t_qz 1 [1, 2, 5, 7, 12, 13, 14, 22] (σ' := [(1, vI w1), (2, vP b152 0), (5, .slice none 0 0), (7, vP b153 0), (12, .slice (some ⟨B0, 0, none⟩) 1 1), (13, vI 1), (14, vI 0), (22, .agg #[vI 1, vI 0, vI 0, vI 0, vI 0, vI 0, vI t154, vI t155, vI t156, vI t157, .slice (some ⟨N179, 0, none⟩) 1 (nN179 / 4), .slice none 0 0])]) (by kernel_rfl) ?_
 refine t_a (.new rfl rfl) fun b181 fb181 sb181 => ?_
 refine t_sti 0 (cs := [vI 1, vI 0, vI 0, vI 0, vI 0, vI 0, vI t154, vI t155, vI t156, vI t157, .slice (some ⟨N179, 0, none⟩) 1 (nN179 / 4), .slice none 0 0]) rfl rfl rfl rfl rfl rfl rfl rfl rfl ?_
 refine t_keep [1, 2, 5, 7, 8, 12, 13, 14] (σ' := [(1, vI w1), (2, vP b152 0), (5, .slice none 0 0), (7, vP b153 0), (8, vP b181 0), (12, .slice (some ⟨B0, 0, none⟩) 1 1), (13, vI 1), (14, vI 0)]) (by kernel_rfl) ?_
 refine t_end ?_
 show W _ _ _ _ _ _ _
 refine w_seq ?_
 refine w_seq ?_
 refine w_vs VS.vac ?_
 refine w_H (H' := ([⟨none, encL E_i644 ([] : List (Int × Int × Int × Int)), 0⟩, ⟨b181, [vI 1, vI 0, vI 0, vI 0, vI 0, vI 0, vI t154, vI t155, vI t156, vI t157, .slice (some ⟨N179, 0, none⟩) 1 (nN179 / 4), .slice (ad none) ([] : List (Int × Int × Int × Int)).length (0 / 4)], 12⟩, ⟨N179, [vI t158, vI t159, .slice (some ⟨N180, 0, none⟩) 3 (nN180 / 7), vB false], nN179⟩, ⟨N180, [vI 1, vI t160, vI t161, vI t162, vI t163, vI t164, vI t165, vI 1, vI t166, vI t167, vI t168, vI t169, vI t170, vI t171, vI 1, vI t172, vI t173, vI t174, vI t175, vI t176, vI t177], nN180⟩, ⟨B1, [vI 0, vI 0, .slice (some ⟨B2, 0, none⟩) 3 3, vB false], 4⟩, ⟨B2, [vI 1, vI m2_1, vI 0, vI 0, vI 0, vI 0, vI 0, vI 1, vI m2_8, vI m2_9, vI 0, vI 0, vI 0, vI 0, vI 1, vI 0, vI m2_16, vI 0, vI 0, vI 0, vI 0], 21⟩, ⟨b153, [vI 1, vI 0, vI 0, vI 0, vI 0, vI 0, vI 0, vI 0, vI 0, vI 0, .slice (some ⟨B1, 0, none⟩) 1 1], 11⟩, ⟨b152, [vI i0_0, vI i0_1, vI 0, .slice a_i0_3 n_i0_3 c_i0_3, .slice (some ⟨B0, 0, none⟩) 1 1], 5⟩, ⟨B0, [vI 1, vI 0, vI 0, vI 0, vI 0, vI 0, vI 0, vI 0, vI 0, vI 0, .slice (some ⟨B1, 0, none⟩) 1 1], 11⟩] : List Own)) (by kernel_rfl) ?_
 refine w_reg fun all => ?_
 refine t_qz 2 [1, 2, 5, 7, 8, 12, 13, 14, 24] (σ' := [(1, vI w1), (2, vP b152 0), (5, .slice none 0 0), (7, vP b153 0), (8, vP b181 0), (12, .slice (some ⟨B0, 0, none⟩) 1 1), (13, vI 1), (14, vI 0), (24, vP b181 10)]) (by kernel_rfl) ?_
 refine t_v (.ld1 rfl rfl rfl (.at 1 rfl rfl)) ?_
 refine t_qz 2 [1, 2, 5, 7, 8, 12, 13, 14, 25, 26, 27] (σ' := [(1, vI w1), (2, vP b152 0), (5, .slice none 0 0), (7, vP b153 0), (8, vP b181 0), (12, .slice (some ⟨B0, 0, none⟩) 1 1), (13, vI 1), (14, vI 0), (25, .slice (some ⟨N179, 0, none⟩) 1 (nN179 / 4)), (26, vI 1), (27, vI 0)]) (by kernel_rfl) ?_
 refine t_end ?_
 show W _ _ _ _ _ _ _
 refine w_block ?_
 refine w_lun 15 ?_
 refine wl_step ?_
 refine w_seq ?_
 refine w_reg fun all => ?_
 refine t_qz 1 [1, 2, 5, 7, 8, 12, 13, 14, 25, 26, 27, 28] (σ' := [(1, vI w1), (2, vP b152 0), (5, .slice none 0 0), (7, vP b153 0), (8, vP b181 0), (12, .slice (some ⟨B0, 0, none⟩) 1 1), (13, vI 1), (14, vI 0), (25, .slice (some ⟨N179, 0, none⟩) 1 (nN179 / 4)), (26, vI 1), (27, vI 0), (28, vB true)]) (by kernel_rfl) ?_
 refine t_end ?_
 show W _ _ _ _ _ _ _
 refine w_seq ?_
 refine w_cond rfl (fun _ => ?_) (fun c_ => by cases c_)
 show W _ _ _ _ _ _ _
 refine w_skip ?_
 show W _ _ _ _ _ _ _
 refine w_seq ?_
 refine w_block ?_
 refine w_seq ?_
 refine w_reg fun all => ?_
 refine t_qz 1 [1, 2, 5, 7, 8, 12, 13, 14, 25, 26, 27, 29] (σ' := [(1, vI w1), (2, vP b152 0), (5, .slice none 0 0), (7, vP b153 0), (8, vP b181 0), (12, .slice (some ⟨B0, 0, none⟩) 1 1), (13, vI 1), (14, vI 0), (25, .slice (some ⟨N179, 0, none⟩) 1 (nN179 / 4)), (26, vI 1), (27, vI 0), (29, vP N179 0)]) (by kernel_rfl) ?_
 refine t_v (.ldn rfl rfl rfl (.at 2 rfl rfl)) ?_
 refine t_a (.new rfl rfl) fun b182 fb182 sb182 => ?_
 refine t_sti 0 (cs := [vI t158, vI t159, .slice (some ⟨N180, 0, none⟩) 3 (nN180 / 7), vB false]) rfl rfl rfl rfl rfl rfl rfl rfl rfl ?_
 refine t_keep [1, 2, 5, 7, 8, 10, 12, 13, 14, 25, 26, 27] (σ' := [(1, vI w1), (2, vP b152 0), (5, .slice none 0 0), (7, vP b153 0), (8, vP b181 0), (10, vP b182 0), (12, .slice (some ⟨B0, 0, none⟩) 1 1), (13, vI 1), (14, vI 0), (25, .slice (some ⟨N179, 0, none⟩) 1 (nN179 / 4)), (26, vI 1), (27, vI 0)]) (by kernel_rfl) ?_
 refine t_end ?_
 show W _ _ _ _ _ _ _
 obtain ⟨t183, h184, e⟩ := bind_of e
 obtain ⟨y186, hl187, e⟩ := bind_of e
 refine w_kp [1, 2, 5, 7, 8, 10, 12, 13, 14, 25, 26, 27] (σ' := [(1, vI w1), (2, vP b152 0), (5, .slice none 0 0), (7, vP b153 0), (8, vP b181 0), (10, vP b182 0), (12, .slice (some ⟨B0, 0, none⟩) 1 1), (13, vI 1), (14, vI 0), (25, .slice (some ⟨N179, 0, none⟩) 1 (nN179 / 4)), (26, vI 1), (27, vI 0)]) (by kernel_rfl) ?_
 refine w_gameQ mixed (by kernel_rfl) fun all G hend hstep hqf => ?_
 have hg_3ff : ∀ (g188 : Option Nat) (ng188 : Nat) (N185 : Option Nat) (nN185 : Nat), G [true, true, true, true, true, true, true, true, true, true] [(1, vI w1), (2, vP b152 0), (5, .slice none 0 0), (7, vP b153 0), (8, vP b181 0), (12, .slice (some ⟨B0, 0, none⟩) 1 1), (13, vI 1), (14, vI 0), (25, .slice (some ⟨N179, 0, none⟩) 1 (nN179 / 4)), (26, vI 1), (27, vI 0)] ([⟨g188, encL E_i644 y186, ng188⟩, ⟨N185, encL E_i644 t183, nN185⟩, ⟨N180, [vI 1, vI t160, vI t161, vI t162, vI t163, vI t164, vI t165, vI 1, vI t166, vI t167, vI t168, vI t169, vI t170, vI t171, vI 1, vI t172, vI t173, vI t174, vI t175, vI t176, vI t177], nN180⟩, ⟨b182, [vI t158, vI t159, .slice (some ⟨N180, 0, none⟩) 3 (nN180 / 7), vB false], 4⟩, ⟨b181, [vI 1, vI 0, vI 0, vI 0, vI 0, vI 0, vI t154, vI t155, vI t156, vI t157, .slice (some ⟨N179, 0, none⟩) 1 (nN179 / 4), .slice (ad g188) y186.length (ng188 / 4)], 12⟩, ⟨N179, [vI t158, vI t159, .slice (some ⟨N180, 0, none⟩) 3 (nN180 / 7), vB false], nN179⟩, ⟨B1, [vI 0, vI 0, .slice (some ⟨B2, 0, none⟩) 3 3, vB false], 4⟩, ⟨B2, [vI 1, vI m2_1, vI 0, vI 0, vI 0, vI 0, vI 0, vI 1, vI m2_8, vI m2_9, vI 0, vI 0, vI 0, vI 0, vI 1, vI 0, vI m2_16, vI 0, vI 0, vI 0, vI 0], 21⟩, ⟨b153, [vI 1, vI 0, vI 0, vI 0, vI 0, vI 0, vI 0, vI 0, vI 0, vI 0, .slice (some ⟨B1, 0, none⟩) 1 1], 11⟩, ⟨b152, [vI i0_0, vI i0_1, vI 0, .slice a_i0_3 n_i0_3 c_i0_3, .slice (some ⟨B0, 0, none⟩) 1 1], 5⟩, ⟨B0, [vI 1, vI 0, vI 0, vI 0, vI 0, vI 0, vI 0, vI 0, vI 0, vI 0, .slice (some ⟨B1, 0, none⟩) 1 1], 11⟩] : List Own) := by
  intro g188 ng188 N185 nN185
  refine hend _ _ _ (by kernel_rfl) ?_
  show W _ _ _ _ _ _ _
  refine w_reg fun all => ?_
  refine t_qz 2 [1, 2, 5, 7, 8, 12, 13, 14, 25, 26, 27] (σ' := [(1, vI w1), (2, vP b152 0), (5, .slice none 0 0), (7, vP b153 0), (8, vP b181 0), (12, .slice (some ⟨B0, 0, none⟩) 1 1), (13, vI 1), (14, vI 0), (25, .slice (some ⟨N179, 0, none⟩) 1 (nN179 / 4)), (26, vI 1), (27, vI 1)]) (by kernel_rfl) ?_
  refine t_end ?_
  show WL _ _ _ _ _ _ _ _
  refine wl_step ?_
  refine w_seq ?_
  refine w_reg fun all => ?_
  refine t_qz 1 [1, 2, 5, 7, 8, 12, 13, 14, 25, 26, 27, 28] (σ' := [(1, vI w1), (2, vP b152 0), (5, .slice none 0 0), (7, vP b153 0), (8, vP b181 0), (12, .slice (some ⟨B0, 0, none⟩) 1 1), (13, vI 1), (14, vI 0), (25, .slice (some ⟨N179, 0, none⟩) 1 (nN179 / 4)), (26, vI 1), (27, vI 1), (28, vB false)]) (by kernel_rfl) ?_
  refine t_end ?_
  show W _ _ _ _ _ _ _
  refine w_seq ?_
  refine w_cond rfl (fun c_ => by cases c_) (fun _ => ?_)
  show W _ _ _ _ _ _ _
  refine w_exit ?_
  show W _ _ _ _ _ _ _
  refine w_reg fun all => ?_
  refine t_qz 1 [1, 2, 8, 12, 13, 14, 41] (σ' := [(1, vI w1), (2, vP b152 0), (8, vP b181 0), (12, .slice (some ⟨B0, 0, none⟩) 1 1), (13, vI 1), (14, vI 0), (41, .slice none 0 0)]) (by kernel_rfl) ?_
  refine t_v (.ldn rfl rfl rfl (.at 4 rfl rfl)) ?_
  refine t_a (dv_bsl (cs := [vI 1, vI 0, vI 0, vI 0, vI 0, vI 0, vI t154, vI t155, vI t156, vI t157, .slice (some ⟨N179, 0, none⟩) 1 (nN179 / 4), .slice (ad g188) y186.length (ng188 / 4)]) rfl rfl (by kernel_rfl)) fun b189 fb189 sb189 => ?_
  refine t_app0 (news := [vI 1, vI 0, vI 0, vI 0, vI 0, vI 0, vI t154, vI t155, vI t156, vI t157, .slice (some ⟨N179, 0, none⟩) 1 (nN179 / 4), .slice (ad g188) y186.length (ng188 / 4)]) rfl rfl rfl rfl (.at 0 rfl rfl) (by decide) (by decide) (by decide) rfl fun b190 nb190 fb190 sb190 => ?_
  refine t_qz 1 [1, 2, 5, 12, 13, 14] (σ' := [(1, vI w1), (2, vP b152 0), (5, .slice (some ⟨b190, 0, none⟩) 1 (nb190 / 12)), (12, .slice (some ⟨B0, 0, none⟩) 1 1), (13, vI 1), (14, vI 0)]) (by kernel_rfl) ?_
  refine t_end ?_
  show W _ _ _ _ _ _ _
  refine w_reg fun all => ?_
  refine t_qz 2 [1, 2, 5, 12, 13, 14] (σ' := [(1, vI w1), (2, vP b152 0), (5, .slice (some ⟨b190, 0, none⟩) 1 (nb190 / 12)), (12, .slice (some ⟨B0, 0, none⟩) 1 1), (13, vI 1), (14, vI 1)]) (by kernel_rfl) ?_
  refine t_end ?_
  show WL _ _ _ _ _ _ _ _
  refine wl_step ?_
  refine w_seq ?_
  refine w_reg fun all => ?_
  refine t_qz 1 [1, 2, 5, 12, 13, 14, 15] (σ' := [(1, vI w1), (2, vP b152 0), (5, .slice (some ⟨b190, 0, none⟩) 1 (nb190 / 12)), (12, .slice (some ⟨B0, 0, none⟩) 1 1), (13, vI 1), (14, vI 1), (15, vB false)]) (by kernel_rfl) ?_
  refine t_end ?_
  show W _ _ _ _ _ _ _
  refine w_seq ?_
  refine w_cond rfl (fun c_ => by cases c_) (fun _ => ?_)
  show W _ _ _ _ _ _ _
  refine w_exit ?_
  show W _ _ _ _ _ _ _
  refine w_seq ?_
  refine w_reg fun all => ?_
  refine t_qz 2 [4] (σ' := [(4, .slice (some ⟨b190, 0, none⟩) 1 (nb190 / 12))]) (by kernel_rfl) ?_
  refine t_end ?_
  show W _ _ _ _ _ _ _
  refine w_ret ?_
  simp only [Option.some.injEq, Prod.mk.injEq] at e
  obtain ⟨rfl, rfl, rfl, rfl, rfl, rfl, rfl, rfl, rfl, rfl, rfl, rfl, rfl, rfl, rfl, rfl, rfl, rfl, rfl, rfl, rfl, rfl, rfl, rfl, rfl⟩ := e
  exact ⟨[.slice (some ⟨b190, 0, none⟩) 1 (nb190 / 12)], ([⟨b190, [vI 1, vI 0, vI 0, vI 0, vI 0, vI 0, vI t154, vI t155, vI t156, vI t157, .slice (some ⟨N179, 0, none⟩) 1 (nN179 / 4), .slice (ad g188) y186.length (ng188 / 4)], nb190⟩, ⟨N179, [vI t158, vI t159, .slice (some ⟨N180, 0, none⟩) 3 (nN180 / 7), vB false], nN179⟩, ⟨N180, [vI 1, vI t160, vI t161, vI t162, vI t163, vI t164, vI t165, vI 1, vI t166, vI t167, vI t168, vI t169, vI t170, vI t171, vI 1, vI t172, vI t173, vI t174, vI t175, vI t176, vI t177], nN180⟩, ⟨g188, encL E_i644 y186, ng188⟩, ⟨B0, [vI 1, vI 0, vI 0, vI 0, vI 0, vI 0, vI 0, vI 0, vI 0, vI 0, .slice (some ⟨B1, 0, none⟩) 1 1], 11⟩, ⟨B1, [vI 0, vI 0, .slice (some ⟨B2, 0, none⟩) 3 3, vB false], 4⟩, ⟨B2, [vI 1, vI m2_1, vI 0, vI 0, vI 0, vI 0, vI 0, vI 1, vI m2_8, vI m2_9, vI 0, vI 0, vI 0, vI 0, vI 1, vI 0, vI m2_16, vI 0, vI 0, vI 0, vI 0], 21⟩] : List Own), S, ⟨rfl, trivial⟩, VS.sel [0, 6, 3, 1, 8, 4, 4] (by kernel_rfl), b190, nb190, N179, nN179, N180, nN180, g188, ng188, rfl, rfl, rfl⟩
 have hg_1ff : ∀ (g188 : Option Nat) (ng188 : Nat) (N185 : Option Nat) (nN185 : Nat), G [true, true, true, true, true, true, true, true, true, false] [(1, vI w1), (2, vP b152 0), (5, .slice none 0 0), (7, vP b153 0), (8, vP b181 0), (12, .slice (some ⟨B0, 0, none⟩) 1 1), (13, vI 1), (14, vI 0), (25, .slice (some ⟨N179, 0, none⟩) 1 (nN179 / 4)), (26, vI 1), (27, vI 0), (38, .slice (ad g188) y186.length (ng188 / 4)), (39, vP b181 11)] ([⟨g188, encL E_i644 y186, ng188⟩, ⟨N185, encL E_i644 t183, nN185⟩, ⟨N180, [vI 1, vI t160, vI t161, vI t162, vI t163, vI t164, vI t165, vI 1, vI t166, vI t167, vI t168, vI t169, vI t170, vI t171, vI 1, vI t172, vI t173, vI t174, vI t175, vI t176, vI t177], nN180⟩, ⟨b182, [vI t158, vI t159, .slice (some ⟨N180, 0, none⟩) 3 (nN180 / 7), vB false], 4⟩, ⟨b181, [vI 1, vI 0, vI 0, vI 0, vI 0, vI 0, vI t154, vI t155, vI t156, vI t157, .slice (some ⟨N179, 0, none⟩) 1 (nN179 / 4), .slice (ad none) ([] : List (Int × Int × Int × Int)).length (0 / 4)], 12⟩, ⟨N179, [vI t158, vI t159, .slice (some ⟨N180, 0, none⟩) 3 (nN180 / 7), vB false], nN179⟩, ⟨B1, [vI 0, vI 0, .slice (some ⟨B2, 0, none⟩) 3 3, vB false], 4⟩, ⟨B2, [vI 1, vI m2_1, vI 0, vI 0, vI 0, vI 0, vI 0, vI 1, vI m2_8, vI m2_9, vI 0, vI 0, vI 0, vI 0, vI 1, vI 0, vI m2_16, vI 0, vI 0, vI 0, vI 0], 21⟩, ⟨b153, [vI 1, vI 0, vI 0, vI 0, vI 0, vI 0, vI 0, vI 0, vI 0, vI 0, .slice (some ⟨B1, 0, none⟩) 1 1], 11⟩, ⟨b152, [vI i0_0, vI i0_1, vI 0, .slice a_i0_3 n_i0_3 c_i0_3, .slice (some ⟨B0, 0, none⟩) 1 1], 5⟩, ⟨B0, [vI 1, vI 0, vI 0, vI 0, vI 0, vI 0, vI 0, vI 0, vI 0, vI 0, .slice (some ⟨B1, 0, none⟩) 1 1], 11⟩] : List Own) := by
  intro g188 ng188 N185 nN185
  refine hstep [9] _ _ _ (by kernel_rfl) (List.cons_ne_nil _ _) ⟨?_, trivial⟩
  ·show T _ _ _ _ _ _ _ _
   refine t_sti 4 (cs := [vI 1, vI 0, vI 0, vI 0, vI 0, vI 0, vI t154, vI t155, vI t156, vI t157, .slice (some ⟨N179, 0, none⟩) 1 (nN179 / 4), .slice (ad g188) y186.length (ng188 / 4)]) rfl rfl rfl rfl rfl rfl rfl rfl rfl ?_
   exact t_fin [1, 2, 5, 7, 8, 12, 13, 14, 25, 26, 27] (hg_3ff g188 ng188 N185 nN185) (by kernel_rfl)
 have hg_ff : ∀ (g188 : Option Nat) (ng188 : Nat) (N185 : Option Nat) (nN185 : Nat), G [true, true, true, true, true, true, true, true, false, false] [(1, vI w1), (2, vP b152 0), (5, .slice none 0 0), (7, vP b153 0), (8, vP b181 0), (12, .slice (some ⟨B0, 0, none⟩) 1 1), (13, vI 1), (14, vI 0), (25, .slice (some ⟨N179, 0, none⟩) 1 (nN179 / 4)), (26, vI 1), (27, vI 0), (38, .slice (ad g188) y186.length (ng188 / 4))] ([⟨g188, encL E_i644 y186, ng188⟩, ⟨N185, encL E_i644 t183, nN185⟩, ⟨N180, [vI 1, vI t160, vI t161, vI t162, vI t163, vI t164, vI t165, vI 1, vI t166, vI t167, vI t168, vI t169, vI t170, vI t171, vI 1, vI t172, vI t173, vI t174, vI t175, vI t176, vI t177], nN180⟩, ⟨b182, [vI t158, vI t159, .slice (some ⟨N180, 0, none⟩) 3 (nN180 / 7), vB false], 4⟩, ⟨b181, [vI 1, vI 0, vI 0, vI 0, vI 0, vI 0, vI t154, vI t155, vI t156, vI t157, .slice (some ⟨N179, 0, none⟩) 1 (nN179 / 4), .slice (ad none) ([] : List (Int × Int × Int × Int)).length (0 / 4)], 12⟩, ⟨N179, [vI t158, vI t159, .slice (some ⟨N180, 0, none⟩) 3 (nN180 / 7), vB false], nN179⟩, ⟨B1, [vI 0, vI 0, .slice (some ⟨B2, 0, none⟩) 3 3, vB false], 4⟩, ⟨B2, [vI 1, vI m2_1, vI 0, vI 0, vI 0, vI 0, vI 0, vI 1, vI m2_8, vI m2_9, vI 0, vI 0, vI 0, vI 0, vI 1, vI 0, vI m2_16, vI 0, vI 0, vI 0, vI 0], 21⟩, ⟨b153, [vI 1, vI 0, vI 0, vI 0, vI 0, vI 0, vI 0, vI 0, vI 0, vI 0, .slice (some ⟨B1, 0, none⟩) 1 1], 11⟩, ⟨b152, [vI i0_0, vI i0_1, vI 0, .slice a_i0_3 n_i0_3 c_i0_3, .slice (some ⟨B0, 0, none⟩) 1 1], 5⟩, ⟨B0, [vI 1, vI 0, vI 0, vI 0, vI 0, vI 0, vI 0, vI 0, vI 0, vI 0, .slice (some ⟨B1, 0, none⟩) 1 1], 11⟩] : List Own) := by
  intro g188 ng188 N185 nN185
  exact hqf 8 [1, 2, 5, 7, 8, 12, 13, 14, 25, 26, 27, 38, 39] _ _ _ _ (by kernel_rfl) (by kernel_rfl) (hg_1ff g188 ng188 N185 nN185)
 have hg_7f : ∀ (N185 : Option Nat) (nN185 : Nat), G [true, true, true, true, true, true, true, false, false, false] [(1, vI w1), (2, vP b152 0), (5, .slice none 0 0), (7, vP b153 0), (8, vP b181 0), (12, .slice (some ⟨B0, 0, none⟩) 1 1), (13, vI 1), (14, vI 0), (25, .slice (some ⟨N179, 0, none⟩) 1 (nN179 / 4)), (26, vI 1), (27, vI 0), (32, .slice (ad none) ([] : List (Int × Int × Int × Int)).length (0 / 4)), (37, .slice (ad N185) t183.length (nN185 / 4))] ([⟨N185, encL E_i644 t183, nN185⟩, ⟨N180, [vI 1, vI t160, vI t161, vI t162, vI t163, vI t164, vI t165, vI 1, vI t166, vI t167, vI t168, vI t169, vI t170, vI t171, vI 1, vI t172, vI t173, vI t174, vI t175, vI t176, vI t177], nN180⟩, ⟨b182, [vI t158, vI t159, .slice (some ⟨N180, 0, none⟩) 3 (nN180 / 7), vB false], 4⟩, ⟨none, encL E_i644 ([] : List (Int × Int × Int × Int)), 0⟩, ⟨b181, [vI 1, vI 0, vI 0, vI 0, vI 0, vI 0, vI t154, vI t155, vI t156, vI t157, .slice (some ⟨N179, 0, none⟩) 1 (nN179 / 4), .slice (ad none) ([] : List (Int × Int × Int × Int)).length (0 / 4)], 12⟩, ⟨N179, [vI t158, vI t159, .slice (some ⟨N180, 0, none⟩) 3 (nN180 / 7), vB false], nN179⟩, ⟨B1, [vI 0, vI 0, .slice (some ⟨B2, 0, none⟩) 3 3, vB false], 4⟩, ⟨B2, [vI 1, vI m2_1, vI 0, vI 0, vI 0, vI 0, vI 0, vI 1, vI m2_8, vI m2_9, vI 0, vI 0, vI 0, vI 0, vI 1, vI 0, vI m2_16, vI 0, vI 0, vI 0, vI 0], 21⟩, ⟨b153, [vI 1, vI 0, vI 0, vI 0, vI 0, vI 0, vI 0, vI 0, vI 0, vI 0, .slice (some ⟨B1, 0, none⟩) 1 1], 11⟩, ⟨b152, [vI i0_0, vI i0_1, vI 0, .slice a_i0_3 n_i0_3 c_i0_3, .slice (some ⟨B0, 0, none⟩) 1 1], 5⟩, ⟨B0, [vI 1, vI 0, vI 0, vI 0, vI 0, vI 0, vI 0, vI 0, vI 0, vI 0, .slice (some ⟨B1, 0, none⟩) 1 1], 11⟩] : List Own) := by
  intro N185 nN185
  refine hstep [7] _ _ _ (by kernel_rfl) (List.cons_ne_nil _ _) ⟨?_, trivial⟩
  ·show T _ _ _ _ _ _ _ _
   refine t_pure (fun w_ h_ => apO (E := E_i644) (z := 4) h_ (j := 0) rfl rfl (by decide)) fun hy_ => ?_
   refine t_appX (E := E_i644) (L := ([] : List (Int × Int × Int × Int))) (X := t183) (F := ([⟨N185, encL E_i644 t183, nN185⟩, ⟨N180, [vI 1, vI t160, vI t161, vI t162, vI t163, vI t164, vI t165, vI 1, vI t166, vI t167, vI t168, vI t169, vI t170, vI t171, vI 1, vI t172, vI t173, vI t174, vI t175, vI t176, vI t177], nN180⟩, ⟨b182, [vI t158, vI t159, .slice (some ⟨N180, 0, none⟩) 3 (nN180 / 7), vB false], 4⟩, ⟨b181, [vI 1, vI 0, vI 0, vI 0, vI 0, vI 0, vI t154, vI t155, vI t156, vI t157, .slice (some ⟨N179, 0, none⟩) 1 (nN179 / 4), .slice (ad none) ([] : List (Int × Int × Int × Int)).length (0 / 4)], 12⟩, ⟨N179, [vI t158, vI t159, .slice (some ⟨N180, 0, none⟩) 3 (nN180 / 7), vB false], nN179⟩, ⟨B1, [vI 0, vI 0, .slice (some ⟨B2, 0, none⟩) 3 3, vB false], 4⟩, ⟨B2, [vI 1, vI m2_1, vI 0, vI 0, vI 0, vI 0, vI 0, vI 1, vI m2_8, vI m2_9, vI 0, vI 0, vI 0, vI 0, vI 1, vI 0, vI m2_16, vI 0, vI 0, vI 0, vI 0], 21⟩, ⟨b153, [vI 1, vI 0, vI 0, vI 0, vI 0, vI 0, vI 0, vI 0, vI 0, vI 0, .slice (some ⟨B1, 0, none⟩) 1 1], 11⟩, ⟨b152, [vI i0_0, vI i0_1, vI 0, .slice a_i0_3 n_i0_3 c_i0_3, .slice (some ⟨B0, 0, none⟩) 1 1], 5⟩, ⟨B0, [vI 1, vI 0, vI 0, vI 0, vI 0, vI 0, vI 0, vI 0, vI 0, vI 0, .slice (some ⟨B1, 0, none⟩) 1 1], 11⟩] : List Own)) rfl rfl rfl rfl (sel_perm (is := [3]) (by kernel_rfl)) rfl hy_ rfl (by decide) (by decide) rfl hl187 fun g188 ng188 => ?_
   exact t_fin [1, 2, 5, 7, 8, 12, 13, 14, 25, 26, 27, 38] (hg_ff g188 ng188 N185 nN185) (by kernel_rfl)
 have hg_3f : G [true, true, true, true, true, true, false, false, false, false] [(1, vI w1), (2, vP b152 0), (5, .slice none 0 0), (7, vP b153 0), (8, vP b181 0), (12, .slice (some ⟨B0, 0, none⟩) 1 1), (13, vI 1), (14, vI 0), (25, .slice (some ⟨N179, 0, none⟩) 1 (nN179 / 4)), (26, vI 1), (27, vI 0), (32, .slice (ad none) ([] : List (Int × Int × Int × Int)).length (0 / 4)), (33, .agg #[vI t158, vI t159, .slice (some ⟨N180, 0, none⟩) 3 (nN180 / 7), vB false]), (36, vB true)] ([⟨b182, [vI t158, vI t159, .slice (some ⟨N180, 0, none⟩) 3 (nN180 / 7), vB false], 4⟩, ⟨none, encL E_i644 ([] : List (Int × Int × Int × Int)), 0⟩, ⟨b181, [vI 1, vI 0, vI 0, vI 0, vI 0, vI 0, vI t154, vI t155, vI t156, vI t157, .slice (some ⟨N179, 0, none⟩) 1 (nN179 / 4), .slice (ad none) ([] : List (Int × Int × Int × Int)).length (0 / 4)], 12⟩, ⟨N179, [vI t158, vI t159, .slice (some ⟨N180, 0, none⟩) 3 (nN180 / 7), vB false], nN179⟩, ⟨N180, [vI 1, vI t160, vI t161, vI t162, vI t163, vI t164, vI t165, vI 1, vI t166, vI t167, vI t168, vI t169, vI t170, vI t171, vI 1, vI t172, vI t173, vI t174, vI t175, vI t176, vI t177], nN180⟩, ⟨B1, [vI 0, vI 0, .slice (some ⟨B2, 0, none⟩) 3 3, vB false], 4⟩, ⟨B2, [vI 1, vI m2_1, vI 0, vI 0, vI 0, vI 0, vI 0, vI 1, vI m2_8, vI m2_9, vI 0, vI 0, vI 0, vI 0, vI 1, vI 0, vI m2_16, vI 0, vI 0, vI 0, vI 0], 21⟩, ⟨b153, [vI 1, vI 0, vI 0, vI 0, vI 0, vI 0, vI 0, vI 0, vI 0, vI 0, .slice (some ⟨B1, 0, none⟩) 1 1], 11⟩, ⟨b152, [vI i0_0, vI i0_1, vI 0, .slice a_i0_3 n_i0_3 c_i0_3, .slice (some ⟨B0, 0, none⟩) 1 1], 5⟩, ⟨B0, [vI 1, vI 0, vI 0, vI 0, vI 0, vI 0, vI 0, vI 0, vI 0, vI 0, .slice (some ⟨B1, 0, none⟩) 1 1], 11⟩] : List Own) := by
  refine hstep [6] _ _ _ (by kernel_rfl) (List.cons_ne_nil _ _) ⟨?_, trivial⟩
  ·show T _ _ _ _ _ _ _ _
   refine t_call (vs := [.agg #[vI t158, vI t159, .slice (some ⟨N180, 0, none⟩) 3 (nN180 / 7), vB false], vB true]) (H1 := ([⟨N180, [vI 1, vI t160, vI t161, vI t162, vI t163, vI t164, vI t165, vI 1, vI t166, vI t167, vI t168, vI t169, vI t170, vI t171, vI 1, vI t172, vI t173, vI t174, vI t175, vI t176, vI t177], nN180⟩] : List Own)) (F := ([⟨b182, [vI t158, vI t159, .slice (some ⟨N180, 0, none⟩) 3 (nN180 / 7), vB false], 4⟩, ⟨none, encL E_i644 ([] : List (Int × Int × Int × Int)), 0⟩, ⟨b181, [vI 1, vI 0, vI 0, vI 0, vI 0, vI 0, vI t154, vI t155, vI t156, vI t157, .slice (some ⟨N179, 0, none⟩) 1 (nN179 / 4), .slice (ad none) ([] : List (Int × Int × Int × Int)).length (0 / 4)], 12⟩, ⟨N179, [vI t158, vI t159, .slice (some ⟨N180, 0, none⟩) 3 (nN180 / 7), vB false], nN179⟩, ⟨B1, [vI 0, vI 0, .slice (some ⟨B2, 0, none⟩) 3 3, vB false], 4⟩, ⟨B2, [vI 1, vI m2_1, vI 0, vI 0, vI 0, vI 0, vI 0, vI 1, vI m2_8, vI m2_9, vI 0, vI 0, vI 0, vI 0, vI 1, vI 0, vI m2_16, vI 0, vI 0, vI 0, vI 0], 21⟩, ⟨b153, [vI 1, vI 0, vI 0, vI 0, vI 0, vI 0, vI 0, vI 0, vI 0, vI 0, .slice (some ⟨B1, 0, none⟩) 1 1], 11⟩, ⟨b152, [vI i0_0, vI i0_1, vI 0, .slice a_i0_3 n_i0_3 c_i0_3, .slice (some ⟨B0, 0, none⟩) 1 1], 5⟩, ⟨B0, [vI 1, vI 0, vI 0, vI 0, vI 0, vI 0, vI 0, vI 0, vI 0, vI 0, .slice (some ⟨B1, 0, none⟩) 1 1], 11⟩] : List Own)) rfl rfl (by kernel_rfl) (sel_perm (is := [4]) (by kernel_rfl)) (flatten_Path_v1.ok hE_ h184) ?_
   rintro _ _ S_ ⟨N185, nN185, rfl, rfl, hS_⟩
   obtain rfl := hS_.symm
   exact t_fin [1, 2, 5, 7, 8, 12, 13, 14, 25, 26, 27, 32, 37] (hg_7f N185 nN185) (by kernel_rfl)
 have hg_7d : ∀ (N185 : Option Nat) (nN185 : Nat), G [true, false, true, true, true, true, true, false, false, false] [(1, vI w1), (2, vP b152 0), (5, .slice none 0 0), (7, vP b153 0), (8, vP b181 0), (12, .slice (some ⟨B0, 0, none⟩) 1 1), (13, vI 1), (14, vI 0), (25, .slice (some ⟨N179, 0, none⟩) 1 (nN179 / 4)), (26, vI 1), (27, vI 0), (31, vP b181 11), (37, .slice (ad N185) t183.length (nN185 / 4))] ([⟨N185, encL E_i644 t183, nN185⟩, ⟨N180, [vI 1, vI t160, vI t161, vI t162, vI t163, vI t164, vI t165, vI 1, vI t166, vI t167, vI t168, vI t169, vI t170, vI t171, vI 1, vI t172, vI t173, vI t174, vI t175, vI t176, vI t177], nN180⟩, ⟨b182, [vI t158, vI t159, .slice (some ⟨N180, 0, none⟩) 3 (nN180 / 7), vB false], 4⟩, ⟨none, encL E_i644 ([] : List (Int × Int × Int × Int)), 0⟩, ⟨b181, [vI 1, vI 0, vI 0, vI 0, vI 0, vI 0, vI t154, vI t155, vI t156, vI t157, .slice (some ⟨N179, 0, none⟩) 1 (nN179 / 4), .slice (ad none) ([] : List (Int × Int × Int × Int)).length (0 / 4)], 12⟩, ⟨N179, [vI t158, vI t159, .slice (some ⟨N180, 0, none⟩) 3 (nN180 / 7), vB false], nN179⟩, ⟨B1, [vI 0, vI 0, .slice (some ⟨B2, 0, none⟩) 3 3, vB false], 4⟩, ⟨B2, [vI 1, vI m2_1, vI 0, vI 0, vI 0, vI 0, vI 0, vI 1, vI m2_8, vI m2_9, vI 0, vI 0, vI 0, vI 0, vI 1, vI 0, vI m2_16, vI 0, vI 0, vI 0, vI 0], 21⟩, ⟨b153, [vI 1, vI 0, vI 0, vI 0, vI 0, vI 0, vI 0, vI 0, vI 0, vI 0, .slice (some ⟨B1, 0, none⟩) 1 1], 11⟩, ⟨b152, [vI i0_0, vI i0_1, vI 0, .slice a_i0_3 n_i0_3 c_i0_3, .slice (some ⟨B0, 0, none⟩) 1 1], 5⟩, ⟨B0, [vI 1, vI 0, vI 0, vI 0, vI 0, vI 0, vI 0, vI 0, vI 0, vI 0, .slice (some ⟨B1, 0, none⟩) 1 1], 11⟩] : List Own) := by
  intro N185 nN185
  refine hstep [1] _ _ _ (by kernel_rfl) (List.cons_ne_nil _ _) ⟨?_, trivial⟩
  ·show T _ _ _ _ _ _ _ _
   refine t_v (.ld1 rfl rfl rfl (.at 4 rfl rfl)) ?_
   exact t_fin [1, 2, 5, 7, 8, 12, 13, 14, 25, 26, 27, 32, 37] (hg_7f N185 nN185) (by kernel_rfl)
 have hg_1f : G [true, true, true, true, true, false, false, false, false, false] [(1, vI w1), (2, vP b152 0), (5, .slice none 0 0), (7, vP b153 0), (8, vP b181 0), (12, .slice (some ⟨B0, 0, none⟩) 1 1), (13, vI 1), (14, vI 0), (25, .slice (some ⟨N179, 0, none⟩) 1 (nN179 / 4)), (26, vI 1), (27, vI 0), (32, .slice (ad none) ([] : List (Int × Int × Int × Int)).length (0 / 4)), (33, .agg #[vI t158, vI t159, .slice (some ⟨N180, 0, none⟩) 3 (nN180 / 7), vB false]), (35, vI 1)] ([⟨b182, [vI t158, vI t159, .slice (some ⟨N180, 0, none⟩) 3 (nN180 / 7), vB false], 4⟩, ⟨none, encL E_i644 ([] : List (Int × Int × Int × Int)), 0⟩, ⟨b181, [vI 1, vI 0, vI 0, vI 0, vI 0, vI 0, vI t154, vI t155, vI t156, vI t157, .slice (some ⟨N179, 0, none⟩) 1 (nN179 / 4), .slice (ad none) ([] : List (Int × Int × Int × Int)).length (0 / 4)], 12⟩, ⟨N179, [vI t158, vI t159, .slice (some ⟨N180, 0, none⟩) 3 (nN180 / 7), vB false], nN179⟩, ⟨N180, [vI 1, vI t160, vI t161, vI t162, vI t163, vI t164, vI t165, vI 1, vI t166, vI t167, vI t168, vI t169, vI t170, vI t171, vI 1, vI t172, vI t173, vI t174, vI t175, vI t176, vI t177], nN180⟩, ⟨B1, [vI 0, vI 0, .slice (some ⟨B2, 0, none⟩) 3 3, vB false], 4⟩, ⟨B2, [vI 1, vI m2_1, vI 0, vI 0, vI 0, vI 0, vI 0, vI 1, vI m2_8, vI m2_9, vI 0, vI 0, vI 0, vI 0, vI 1, vI 0, vI m2_16, vI 0, vI 0, vI 0, vI 0], 21⟩, ⟨b153, [vI 1, vI 0, vI 0, vI 0, vI 0, vI 0, vI 0, vI 0, vI 0, vI 0, .slice (some ⟨B1, 0, none⟩) 1 1], 11⟩, ⟨b152, [vI i0_0, vI i0_1, vI 0, .slice a_i0_3 n_i0_3 c_i0_3, .slice (some ⟨B0, 0, none⟩) 1 1], 5⟩, ⟨B0, [vI 1, vI 0, vI 0, vI 0, vI 0, vI 0, vI 0, vI 0, vI 0, vI 0, .slice (some ⟨B1, 0, none⟩) 1 1], 11⟩] : List Own) := by
  exact hqf 5 [1, 2, 5, 7, 8, 12, 13, 14, 25, 26, 27, 32, 33, 36] _ _ _ _ (by kernel_rfl) (by kernel_rfl) hg_3f
 have hg_3b : G [true, true, false, true, true, true, false, false, false, false] [(1, vI w1), (2, vP b152 0), (5, .slice none 0 0), (7, vP b153 0), (8, vP b181 0), (10, vP b182 0), (12, .slice (some ⟨B0, 0, none⟩) 1 1), (13, vI 1), (14, vI 0), (25, .slice (some ⟨N179, 0, none⟩) 1 (nN179 / 4)), (26, vI 1), (27, vI 0), (32, .slice (ad none) ([] : List (Int × Int × Int × Int)).length (0 / 4)), (36, vB true)] ([⟨b182, [vI t158, vI t159, .slice (some ⟨N180, 0, none⟩) 3 (nN180 / 7), vB false], 4⟩, ⟨none, encL E_i644 ([] : List (Int × Int × Int × Int)), 0⟩, ⟨b181, [vI 1, vI 0, vI 0, vI 0, vI 0, vI 0, vI t154, vI t155, vI t156, vI t157, .slice (some ⟨N179, 0, none⟩) 1 (nN179 / 4), .slice (ad none) ([] : List (Int × Int × Int × Int)).length (0 / 4)], 12⟩, ⟨N179, [vI t158, vI t159, .slice (some ⟨N180, 0, none⟩) 3 (nN180 / 7), vB false], nN179⟩, ⟨N180, [vI 1, vI t160, vI t161, vI t162, vI t163, vI t164, vI t165, vI 1, vI t166, vI t167, vI t168, vI t169, vI t170, vI t171, vI 1, vI t172, vI t173, vI t174, vI t175, vI t176, vI t177], nN180⟩, ⟨B1, [vI 0, vI 0, .slice (some ⟨B2, 0, none⟩) 3 3, vB false], 4⟩, ⟨B2, [vI 1, vI m2_1, vI 0, vI 0, vI 0, vI 0, vI 0, vI 1, vI m2_8, vI m2_9, vI 0, vI 0, vI 0, vI 0, vI 1, vI 0, vI m2_16, vI 0, vI 0, vI 0, vI 0], 21⟩, ⟨b153, [vI 1, vI 0, vI 0, vI 0, vI 0, vI 0, vI 0, vI 0, vI 0, vI 0, .slice (some ⟨B1, 0, none⟩) 1 1], 11⟩, ⟨b152, [vI i0_0, vI i0_1, vI 0, .slice a_i0_3 n_i0_3 c_i0_3, .slice (some ⟨B0, 0, none⟩) 1 1], 5⟩, ⟨B0, [vI 1, vI 0, vI 0, vI 0, vI 0, vI 0, vI 0, vI 0, vI 0, vI 0, .slice (some ⟨B1, 0, none⟩) 1 1], 11⟩] : List Own) := by
  refine hstep [2] _ _ _ (by kernel_rfl) (List.cons_ne_nil _ _) ⟨?_, trivial⟩
  ·show T _ _ _ _ _ _ _ _
   refine t_v (.ldn rfl rfl rfl (.at 0 rfl rfl)) ?_
   exact t_fin [1, 2, 5, 7, 8, 12, 13, 14, 25, 26, 27, 32, 33, 36] hg_3f (by kernel_rfl)
 have hg_3d : G [true, false, true, true, true, true, false, false, false, false] [(1, vI w1), (2, vP b152 0), (5, .slice none 0 0), (7, vP b153 0), (8, vP b181 0), (12, .slice (some ⟨B0, 0, none⟩) 1 1), (13, vI 1), (14, vI 0), (25, .slice (some ⟨N179, 0, none⟩) 1 (nN179 / 4)), (26, vI 1), (27, vI 0), (31, vP b181 11), (33, .agg #[vI t158, vI t159, .slice (some ⟨N180, 0, none⟩) 3 (nN180 / 7), vB false]), (36, vB true)] ([⟨b182, [vI t158, vI t159, .slice (some ⟨N180, 0, none⟩) 3 (nN180 / 7), vB false], 4⟩, ⟨none, encL E_i644 ([] : List (Int × Int × Int × Int)), 0⟩, ⟨b181, [vI 1, vI 0, vI 0, vI 0, vI 0, vI 0, vI t154, vI t155, vI t156, vI t157, .slice (some ⟨N179, 0, none⟩) 1 (nN179 / 4), .slice (ad none) ([] : List (Int × Int × Int × Int)).length (0 / 4)], 12⟩, ⟨N179, [vI t158, vI t159, .slice (some ⟨N180, 0, none⟩) 3 (nN180 / 7), vB false], nN179⟩, ⟨N180, [vI 1, vI t160, vI t161, vI t162, vI t163, vI t164, vI t165, vI 1, vI t166, vI t167, vI t168, vI t169, vI t170, vI t171, vI 1, vI t172, vI t173, vI t174, vI t175, vI t176, vI t177], nN180⟩, ⟨B1, [vI 0, vI 0, .slice (some ⟨B2, 0, none⟩) 3 3, vB false], 4⟩, ⟨B2, [vI 1, vI m2_1, vI 0, vI 0, vI 0, vI 0, vI 0, vI 1, vI m2_8, vI m2_9, vI 0, vI 0, vI 0, vI 0, vI 1, vI 0, vI m2_16, vI 0, vI 0, vI 0, vI 0], 21⟩, ⟨b153, [vI 1, vI 0, vI 0, vI 0, vI 0, vI 0, vI 0, vI 0, vI 0, vI 0, .slice (some ⟨B1, 0, none⟩) 1 1], 11⟩, ⟨b152, [vI i0_0, vI i0_1, vI 0, .slice a_i0_3 n_i0_3 c_i0_3, .slice (some ⟨B0, 0, none⟩) 1 1], 5⟩, ⟨B0, [vI 1, vI 0, vI 0, vI 0, vI 0, vI 0, vI 0, vI 0, vI 0, vI 0, .slice (some ⟨B1, 0, none⟩) 1 1], 11⟩] : List Own) := by
  refine hstep [1, 6] _ _ _ (by kernel_rfl) (List.cons_ne_nil _ _) ⟨?_, ?_, trivial⟩
  ·show T _ _ _ _ _ _ _ _
   refine t_v (.ld1 rfl rfl rfl (.at 2 rfl rfl)) ?_
   exact t_fin [1, 2, 5, 7, 8, 12, 13, 14, 25, 26, 27, 32, 33, 36] hg_3f (by kernel_rfl)
  ·show T _ _ _ _ _ _ _ _
   refine t_call (vs := [.agg #[vI t158, vI t159, .slice (some ⟨N180, 0, none⟩) 3 (nN180 / 7), vB false], vB true]) (H1 := ([⟨N180, [vI 1, vI t160, vI t161, vI t162, vI t163, vI t164, vI t165, vI 1, vI t166, vI t167, vI t168, vI t169, vI t170, vI t171, vI 1, vI t172, vI t173, vI t174, vI t175, vI t176, vI t177], nN180⟩] : List Own)) (F := ([⟨b182, [vI t158, vI t159, .slice (some ⟨N180, 0, none⟩) 3 (nN180 / 7), vB false], 4⟩, ⟨none, encL E_i644 ([] : List (Int × Int × Int × Int)), 0⟩, ⟨b181, [vI 1, vI 0, vI 0, vI 0, vI 0, vI 0, vI t154, vI t155, vI t156, vI t157, .slice (some ⟨N179, 0, none⟩) 1 (nN179 / 4), .slice (ad none) ([] : List (Int × Int × Int × Int)).length (0 / 4)], 12⟩, ⟨N179, [vI t158, vI t159, .slice (some ⟨N180, 0, none⟩) 3 (nN180 / 7), vB false], nN179⟩, ⟨B1, [vI 0, vI 0, .slice (some ⟨B2, 0, none⟩) 3 3, vB false], 4⟩, ⟨B2, [vI 1, vI m2_1, vI 0, vI 0, vI 0, vI 0, vI 0, vI 1, vI m2_8, vI m2_9, vI 0, vI 0, vI 0, vI 0, vI 1, vI 0, vI m2_16, vI 0, vI 0, vI 0, vI 0], 21⟩, ⟨b153, [vI 1, vI 0, vI 0, vI 0, vI 0, vI 0, vI 0, vI 0, vI 0, vI 0, .slice (some ⟨B1, 0, none⟩) 1 1], 11⟩, ⟨b152, [vI i0_0, vI i0_1, vI 0, .slice a_i0_3 n_i0_3 c_i0_3, .slice (some ⟨B0, 0, none⟩) 1 1], 5⟩, ⟨B0, [vI 1, vI 0, vI 0, vI 0, vI 0, vI 0, vI 0, vI 0, vI 0, vI 0, .slice (some ⟨B1, 0, none⟩) 1 1], 11⟩] : List Own)) rfl rfl (by kernel_rfl) (sel_perm (is := [4]) (by kernel_rfl)) (flatten_Path_v1.ok hE_ h184) ?_
   rintro _ _ S_ ⟨N185, nN185, rfl, rfl, hS_⟩
   obtain rfl := hS_.symm
   exact t_fin [1, 2, 5, 7, 8, 12, 13, 14, 25, 26, 27, 31, 37] (hg_7d N185 nN185) (by kernel_rfl)
 have hg_f : G [true, true, true, true, false, false, false, false, false, false] [(1, vI w1), (2, vP b152 0), (5, .slice none 0 0), (7, vP b153 0), (8, vP b181 0), (12, .slice (some ⟨B0, 0, none⟩) 1 1), (13, vI 1), (14, vI 0), (25, .slice (some ⟨N179, 0, none⟩) 1 (nN179 / 4)), (26, vI 1), (27, vI 0), (32, .slice (ad none) ([] : List (Int × Int × Int × Int)).length (0 / 4)), (33, .agg #[vI t158, vI t159, .slice (some ⟨N180, 0, none⟩) 3 (nN180 / 7), vB false]), (34, vP b153 0)] ([⟨b182, [vI t158, vI t159, .slice (some ⟨N180, 0, none⟩) 3 (nN180 / 7), vB false], 4⟩, ⟨none, encL E_i644 ([] : List (Int × Int × Int × Int)), 0⟩, ⟨b181, [vI 1, vI 0, vI 0, vI 0, vI 0, vI 0, vI t154, vI t155, vI t156, vI t157, .slice (some ⟨N179, 0, none⟩) 1 (nN179 / 4), .slice (ad none) ([] : List (Int × Int × Int × Int)).length (0 / 4)], 12⟩, ⟨N179, [vI t158, vI t159, .slice (some ⟨N180, 0, none⟩) 3 (nN180 / 7), vB false], nN179⟩, ⟨N180, [vI 1, vI t160, vI t161, vI t162, vI t163, vI t164, vI t165, vI 1, vI t166, vI t167, vI t168, vI t169, vI t170, vI t171, vI 1, vI t172, vI t173, vI t174, vI t175, vI t176, vI t177], nN180⟩, ⟨B1, [vI 0, vI 0, .slice (some ⟨B2, 0, none⟩) 3 3, vB false], 4⟩, ⟨B2, [vI 1, vI m2_1, vI 0, vI 0, vI 0, vI 0, vI 0, vI 1, vI m2_8, vI m2_9, vI 0, vI 0, vI 0, vI 0, vI 1, vI 0, vI m2_16, vI 0, vI 0, vI 0, vI 0], 21⟩, ⟨b153, [vI 1, vI 0, vI 0, vI 0, vI 0, vI 0, vI 0, vI 0, vI 0, vI 0, .slice (some ⟨B1, 0, none⟩) 1 1], 11⟩, ⟨b152, [vI i0_0, vI i0_1, vI 0, .slice a_i0_3 n_i0_3 c_i0_3, .slice (some ⟨B0, 0, none⟩) 1 1], 5⟩, ⟨B0, [vI 1, vI 0, vI 0, vI 0, vI 0, vI 0, vI 0, vI 0, vI 0, vI 0, .slice (some ⟨B1, 0, none⟩) 1 1], 11⟩] : List Own) := by
  refine hstep [4] _ _ _ (by kernel_rfl) (List.cons_ne_nil _ _) ⟨?_, trivial⟩
  ·show T _ _ _ _ _ _ _ _
   refine t_v (.ld1 rfl rfl rfl (.at 7 rfl rfl)) ?_
   exact t_fin [1, 2, 5, 7, 8, 12, 13, 14, 25, 26, 27, 32, 33, 35] hg_1f (by kernel_rfl)
 have hg_1b : G [true, true, false, true, true, false, false, false, false, false] [(1, vI w1), (2, vP b152 0), (5, .slice none 0 0), (7, vP b153 0), (8, vP b181 0), (10, vP b182 0), (12, .slice (some ⟨B0, 0, none⟩) 1 1), (13, vI 1), (14, vI 0), (25, .slice (some ⟨N179, 0, none⟩) 1 (nN179 / 4)), (26, vI 1), (27, vI 0), (32, .slice (ad none) ([] : List (Int × Int × Int × Int)).length (0 / 4)), (35, vI 1)] ([⟨b182, [vI t158, vI t159, .slice (some ⟨N180, 0, none⟩) 3 (nN180 / 7), vB false], 4⟩, ⟨none, encL E_i644 ([] : List (Int × Int × Int × Int)), 0⟩, ⟨b181, [vI 1, vI 0, vI 0, vI 0, vI 0, vI 0, vI t154, vI t155, vI t156, vI t157, .slice (some ⟨N179, 0, none⟩) 1 (nN179 / 4), .slice (ad none) ([] : List (Int × Int × Int × Int)).length (0 / 4)], 12⟩, ⟨N179, [vI t158, vI t159, .slice (some ⟨N180, 0, none⟩) 3 (nN180 / 7), vB false], nN179⟩, ⟨N180, [vI 1, vI t160, vI t161, vI t162, vI t163, vI t164, vI t165, vI 1, vI t166, vI t167, vI t168, vI t169, vI t170, vI t171, vI 1, vI t172, vI t173, vI t174, vI t175, vI t176, vI t177], nN180⟩, ⟨B1, [vI 0, vI 0, .slice (some ⟨B2, 0, none⟩) 3 3, vB false], 4⟩, ⟨B2, [vI 1, vI m2_1, vI 0, vI 0, vI 0, vI 0, vI 0, vI 1, vI m2_8, vI m2_9, vI 0, vI 0, vI 0, vI 0, vI 1, vI 0, vI m2_16, vI 0, vI 0, vI 0, vI 0], 21⟩, ⟨b153, [vI 1, vI 0, vI 0, vI 0, vI 0, vI 0, vI 0, vI 0, vI 0, vI 0, .slice (some ⟨B1, 0, none⟩) 1 1], 11⟩, ⟨b152, [vI i0_0, vI i0_1, vI 0, .slice a_i0_3 n_i0_3 c_i0_3, .slice (some ⟨B0, 0, none⟩) 1 1], 5⟩, ⟨B0, [vI 1, vI 0, vI 0, vI 0, vI 0, vI 0, vI 0, vI 0, vI 0, vI 0, .slice (some ⟨B1, 0, none⟩) 1 1], 11⟩] : List Own) := by
  exact hqf 5 [1, 2, 5, 7, 8, 10, 12, 13, 14, 25, 26, 27, 32, 36] _ _ _ _ (by kernel_rfl) (by kernel_rfl) hg_3b
 have hg_1d : G [true, false, true, true, true, false, false, false, false, false] [(1, vI w1), (2, vP b152 0), (5, .slice none 0 0), (7, vP b153 0), (8, vP b181 0), (12, .slice (some ⟨B0, 0, none⟩) 1 1), (13, vI 1), (14, vI 0), (25, .slice (some ⟨N179, 0, none⟩) 1 (nN179 / 4)), (26, vI 1), (27, vI 0), (31, vP b181 11), (33, .agg #[vI t158, vI t159, .slice (some ⟨N180, 0, none⟩) 3 (nN180 / 7), vB false]), (35, vI 1)] ([⟨b182, [vI t158, vI t159, .slice (some ⟨N180, 0, none⟩) 3 (nN180 / 7), vB false], 4⟩, ⟨none, encL E_i644 ([] : List (Int × Int × Int × Int)), 0⟩, ⟨b181, [vI 1, vI 0, vI 0, vI 0, vI 0, vI 0, vI t154, vI t155, vI t156, vI t157, .slice (some ⟨N179, 0, none⟩) 1 (nN179 / 4), .slice (ad none) ([] : List (Int × Int × Int × Int)).length (0 / 4)], 12⟩, ⟨N179, [vI t158, vI t159, .slice (some ⟨N180, 0, none⟩) 3 (nN180 / 7), vB false], nN179⟩, ⟨N180, [vI 1, vI t160, vI t161, vI t162, vI t163, vI t164, vI t165, vI 1, vI t166, vI t167, vI t168, vI t169, vI t170, vI t171, vI 1, vI t172, vI t173, vI t174, vI t175, vI t176, vI t177], nN180⟩, ⟨B1, [vI 0, vI 0, .slice (some ⟨B2, 0, none⟩) 3 3, vB false], 4⟩, ⟨B2, [vI 1, vI m2_1, vI 0, vI 0, vI 0, vI 0, vI 0, vI 1, vI m2_8, vI m2_9, vI 0, vI 0, vI 0, vI 0, vI 1, vI 0, vI m2_16, vI 0, vI 0, vI 0, vI 0], 21⟩, ⟨b153, [vI 1, vI 0, vI 0, vI 0, vI 0, vI 0, vI 0, vI 0, vI 0, vI 0, .slice (some ⟨B1, 0, none⟩) 1 1], 11⟩, ⟨b152, [vI i0_0, vI i0_1, vI 0, .slice a_i0_3 n_i0_3 c_i0_3, .slice (some ⟨B0, 0, none⟩) 1 1], 5⟩, ⟨B0, [vI 1, vI 0, vI 0, vI 0, vI 0, vI 0, vI 0, vI 0, vI 0, vI 0, .slice (some ⟨B1, 0, none⟩) 1 1], 11⟩] : List Own) := by
  exact hqf 5 [1, 2, 5, 7, 8, 12, 13, 14, 25, 26, 27, 31, 33, 36] _ _ _ _ (by kernel_rfl) (by kernel_rfl) hg_3d
 have hg_39 : G [true, false, false, true, true, true, false, false, false, false] [(1, vI w1), (2, vP b152 0), (5, .slice none 0 0), (7, vP b153 0), (8, vP b181 0), (10, vP b182 0), (12, .slice (some ⟨B0, 0, none⟩) 1 1), (13, vI 1), (14, vI 0), (25, .slice (some ⟨N179, 0, none⟩) 1 (nN179 / 4)), (26, vI 1), (27, vI 0), (31, vP b181 11), (36, vB true)] ([⟨b182, [vI t158, vI t159, .slice (some ⟨N180, 0, none⟩) 3 (nN180 / 7), vB false], 4⟩, ⟨none, encL E_i644 ([] : List (Int × Int × Int × Int)), 0⟩, ⟨b181, [vI 1, vI 0, vI 0, vI 0, vI 0, vI 0, vI t154, vI t155, vI t156, vI t157, .slice (some ⟨N179, 0, none⟩) 1 (nN179 / 4), .slice (ad none) ([] : List (Int × Int × Int × Int)).length (0 / 4)], 12⟩, ⟨N179, [vI t158, vI t159, .slice (some ⟨N180, 0, none⟩) 3 (nN180 / 7), vB false], nN179⟩, ⟨N180, [vI 1, vI t160, vI t161, vI t162, vI t163, vI t164, vI t165, vI 1, vI t166, vI t167, vI t168, vI t169, vI t170, vI t171, vI 1, vI t172, vI t173, vI t174, vI t175, vI t176, vI t177], nN180⟩, ⟨B1, [vI 0, vI 0, .slice (some ⟨B2, 0, none⟩) 3 3, vB false], 4⟩, ⟨B2, [vI 1, vI m2_1, vI 0, vI 0, vI 0, vI 0, vI 0, vI 1, vI m2_8, vI m2_9, vI 0, vI 0, vI 0, vI 0, vI 1, vI 0, vI m2_16, vI 0, vI 0, vI 0, vI 0], 21⟩, ⟨b153, [vI 1, vI 0, vI 0, vI 0, vI 0, vI 0, vI 0, vI 0, vI 0, vI 0, .slice (some ⟨B1, 0, none⟩) 1 1], 11⟩, ⟨b152, [vI i0_0, vI i0_1, vI 0, .slice a_i0_3 n_i0_3 c_i0_3, .slice (some ⟨B0, 0, none⟩) 1 1], 5⟩, ⟨B0, [vI 1, vI 0, vI 0, vI 0, vI 0, vI 0, vI 0, vI 0, vI 0, vI 0, .slice (some ⟨B1, 0, none⟩) 1 1], 11⟩] : List Own) := by
  refine hstep [1, 2] _ _ _ (by kernel_rfl) (List.cons_ne_nil _ _) ⟨?_, ?_, trivial⟩
  ·show T _ _ _ _ _ _ _ _
   refine t_v (.ld1 rfl rfl rfl (.at 2 rfl rfl)) ?_
   exact t_fin [1, 2, 5, 7, 8, 10, 12, 13, 14, 25, 26, 27, 32, 36] hg_3b (by kernel_rfl)
  ·show T _ _ _ _ _ _ _ _
   refine t_v (.ldn rfl rfl rfl (.at 0 rfl rfl)) ?_
   exact t_fin [1, 2, 5, 7, 8, 12, 13, 14, 25, 26, 27, 31, 33, 36] hg_3d (by kernel_rfl)
 have hg_b : G [true, true, false, true, false, false, false, false, false, false] [(1, vI w1), (2, vP b152 0), (5, .slice none 0 0), (7, vP b153 0), (8, vP b181 0), (10, vP b182 0), (12, .slice (some ⟨B0, 0, none⟩) 1 1), (13, vI 1), (14, vI 0), (25, .slice (some ⟨N179, 0, none⟩) 1 (nN179 / 4)), (26, vI 1), (27, vI 0), (32, .slice (ad none) ([] : List (Int × Int × Int × Int)).length (0 / 4)), (34, vP b153 0)] ([⟨b182, [vI t158, vI t159, .slice (some ⟨N180, 0, none⟩) 3 (nN180 / 7), vB false], 4⟩, ⟨none, encL E_i644 ([] : List (Int × Int × Int × Int)), 0⟩, ⟨b181, [vI 1, vI 0, vI 0, vI 0, vI 0, vI 0, vI t154, vI t155, vI t156, vI t157, .slice (some ⟨N179, 0, none⟩) 1 (nN179 / 4), .slice (ad none) ([] : List (Int × Int × Int × Int)).length (0 / 4)], 12⟩, ⟨N179, [vI t158, vI t159, .slice (some ⟨N180, 0, none⟩) 3 (nN180 / 7), vB false], nN179⟩, ⟨N180, [vI 1, vI t160, vI t161, vI t162, vI t163, vI t164, vI t165, vI 1, vI t166, vI t167, vI t168, vI t169, vI t170, vI t171, vI 1, vI t172, vI t173, vI t174, vI t175, vI t176, vI t177], nN180⟩, ⟨B1, [vI 0, vI 0, .slice (some ⟨B2, 0, none⟩) 3 3, vB false], 4⟩, ⟨B2, [vI 1, vI m2_1, vI 0, vI 0, vI 0, vI 0, vI 0, vI 1, vI m2_8, vI m2_9, vI 0, vI 0, vI 0, vI 0, vI 1, vI 0, vI m2_16, vI 0, vI 0, vI 0, vI 0], 21⟩, ⟨b153, [vI 1, vI 0, vI 0, vI 0, vI 0, vI 0, vI 0, vI 0, vI 0, vI 0, .slice (some ⟨B1, 0, none⟩) 1 1], 11⟩, ⟨b152, [vI i0_0, vI i0_1, vI 0, .slice a_i0_3 n_i0_3 c_i0_3, .slice (some ⟨B0, 0, none⟩) 1 1], 5⟩, ⟨B0, [vI 1, vI 0, vI 0, vI 0, vI 0, vI 0, vI 0, vI 0, vI 0, vI 0, .slice (some ⟨B1, 0, none⟩) 1 1], 11⟩] : List Own) := by
  refine hstep [2, 4] _ _ _ (by kernel_rfl) (List.cons_ne_nil _ _) ⟨?_, ?_, trivial⟩
  ·show T _ _ _ _ _ _ _ _
   refine t_v (.ldn rfl rfl rfl (.at 0 rfl rfl)) ?_
   exact t_fin [1, 2, 5, 7, 8, 12, 13, 14, 25, 26, 27, 32, 33, 34] hg_f (by kernel_rfl)
  ·show T _ _ _ _ _ _ _ _
   refine t_v (.ld1 rfl rfl rfl (.at 7 rfl rfl)) ?_
   exact t_fin [1, 2, 5, 7, 8, 10, 12, 13, 14, 25, 26, 27, 32, 35] hg_1b (by kernel_rfl)
 have hg_d : G [true, false, true, true, false, false, false, false, false, false] [(1, vI w1), (2, vP b152 0), (5, .slice none 0 0), (7, vP b153 0), (8, vP b181 0), (12, .slice (some ⟨B0, 0, none⟩) 1 1), (13, vI 1), (14, vI 0), (25, .slice (some ⟨N179, 0, none⟩) 1 (nN179 / 4)), (26, vI 1), (27, vI 0), (31, vP b181 11), (33, .agg #[vI t158, vI t159, .slice (some ⟨N180, 0, none⟩) 3 (nN180 / 7), vB false]), (34, vP b153 0)] ([⟨b182, [vI t158, vI t159, .slice (some ⟨N180, 0, none⟩) 3 (nN180 / 7), vB false], 4⟩, ⟨none, encL E_i644 ([] : List (Int × Int × Int × Int)), 0⟩, ⟨b181, [vI 1, vI 0, vI 0, vI 0, vI 0, vI 0, vI t154, vI t155, vI t156, vI t157, .slice (some ⟨N179, 0, none⟩) 1 (nN179 / 4), .slice (ad none) ([] : List (Int × Int × Int × Int)).length (0 / 4)], 12⟩, ⟨N179, [vI t158, vI t159, .slice (some ⟨N180, 0, none⟩) 3 (nN180 / 7), vB false], nN179⟩, ⟨N180, [vI 1, vI t160, vI t161, vI t162, vI t163, vI t164, vI t165, vI 1, vI t166, vI t167, vI t168, vI t169, vI t170, vI t171, vI 1, vI t172, vI t173, vI t174, vI t175, vI t176, vI t177], nN180⟩, ⟨B1, [vI 0, vI 0, .slice (some ⟨B2, 0, none⟩) 3 3, vB false], 4⟩, ⟨B2, [vI 1, vI m2_1, vI 0, vI 0, vI 0, vI 0, vI 0, vI 1, vI m2_8, vI m2_9, vI 0, vI 0, vI 0, vI 0, vI 1, vI 0, vI m2_16, vI 0, vI 0, vI 0, vI 0], 21⟩, ⟨b153, [vI 1, vI 0, vI 0, vI 0, vI 0, vI 0, vI 0, vI 0, vI 0, vI 0, .slice (some ⟨B1, 0, none⟩) 1 1], 11⟩, ⟨b152, [vI i0_0, vI i0_1, vI 0, .slice a_i0_3 n_i0_3 c_i0_3, .slice (some ⟨B0, 0, none⟩) 1 1], 5⟩, ⟨B0, [vI 1, vI 0, vI 0, vI 0, vI 0, vI 0, vI 0, vI 0, vI 0, vI 0, .slice (some ⟨B1, 0, none⟩) 1 1], 11⟩] : List Own) := by
  refine hstep [1, 4] _ _ _ (by kernel_rfl) (List.cons_ne_nil _ _) ⟨?_, ?_, trivial⟩
  ·show T _ _ _ _ _ _ _ _
   refine t_v (.ld1 rfl rfl rfl (.at 2 rfl rfl)) ?_
   exact t_fin [1, 2, 5, 7, 8, 12, 13, 14, 25, 26, 27, 32, 33, 34] hg_f (by kernel_rfl)
  ·show T _ _ _ _ _ _ _ _
   refine t_v (.ld1 rfl rfl rfl (.at 7 rfl rfl)) ?_
   exact t_fin [1, 2, 5, 7, 8, 12, 13, 14, 25, 26, 27, 31, 33, 35] hg_1d (by kernel_rfl)
 have hg_19 : G [true, false, false, true, true, false, false, false, false, false] [(1, vI w1), (2, vP b152 0), (5, .slice none 0 0), (7, vP b153 0), (8, vP b181 0), (10, vP b182 0), (12, .slice (some ⟨B0, 0, none⟩) 1 1), (13, vI 1), (14, vI 0), (25, .slice (some ⟨N179, 0, none⟩) 1 (nN179 / 4)), (26, vI 1), (27, vI 0), (31, vP b181 11), (35, vI 1)] ([⟨b182, [vI t158, vI t159, .slice (some ⟨N180, 0, none⟩) 3 (nN180 / 7), vB false], 4⟩, ⟨none, encL E_i644 ([] : List (Int × Int × Int × Int)), 0⟩, ⟨b181, [vI 1, vI 0, vI 0, vI 0, vI 0, vI 0, vI t154, vI t155, vI t156, vI t157, .slice (some ⟨N179, 0, none⟩) 1 (nN179 / 4), .slice (ad none) ([] : List (Int × Int × Int × Int)).length (0 / 4)], 12⟩, ⟨N179, [vI t158, vI t159, .slice (some ⟨N180, 0, none⟩) 3 (nN180 / 7), vB false], nN179⟩, ⟨N180, [vI 1, vI t160, vI t161, vI t162, vI t163, vI t164, vI t165, vI 1, vI t166, vI t167, vI t168, vI t169, vI t170, vI t171, vI 1, vI t172, vI t173, vI t174, vI t175, vI t176, vI t177], nN180⟩, ⟨B1, [vI 0, vI 0, .slice (some ⟨B2, 0, none⟩) 3 3, vB false], 4⟩, ⟨B2, [vI 1, vI m2_1, vI 0, vI 0, vI 0, vI 0, vI 0, vI 1, vI m2_8, vI m2_9, vI 0, vI 0, vI 0, vI 0, vI 1, vI 0, vI m2_16, vI 0, vI 0, vI 0, vI 0], 21⟩, ⟨b153, [vI 1, vI 0, vI 0, vI 0, vI 0, vI 0, vI 0, vI 0, vI 0, vI 0, .slice (some ⟨B1, 0, none⟩) 1 1], 11⟩, ⟨b152, [vI i0_0, vI i0_1, vI 0, .slice a_i0_3 n_i0_3 c_i0_3, .slice (some ⟨B0, 0, none⟩) 1 1], 5⟩, ⟨B0, [vI 1, vI 0, vI 0, vI 0, vI 0, vI 0, vI 0, vI 0, vI 0, vI 0, .slice (some ⟨B1, 0, none⟩) 1 1], 11⟩] : List Own) := by
  exact hqf 5 [1, 2, 5, 7, 8, 10, 12, 13, 14, 25, 26, 27, 31, 36] _ _ _ _ (by kernel_rfl) (by kernel_rfl) hg_39
 have hg_9 : G [true, false, false, true, false, false, false, false, false, false] [(1, vI w1), (2, vP b152 0), (5, .slice none 0 0), (7, vP b153 0), (8, vP b181 0), (10, vP b182 0), (12, .slice (some ⟨B0, 0, none⟩) 1 1), (13, vI 1), (14, vI 0), (25, .slice (some ⟨N179, 0, none⟩) 1 (nN179 / 4)), (26, vI 1), (27, vI 0), (31, vP b181 11), (34, vP b153 0)] ([⟨b182, [vI t158, vI t159, .slice (some ⟨N180, 0, none⟩) 3 (nN180 / 7), vB false], 4⟩, ⟨none, encL E_i644 ([] : List (Int × Int × Int × Int)), 0⟩, ⟨b181, [vI 1, vI 0, vI 0, vI 0, vI 0, vI 0, vI t154, vI t155, vI t156, vI t157, .slice (some ⟨N179, 0, none⟩) 1 (nN179 / 4), .slice (ad none) ([] : List (Int × Int × Int × Int)).length (0 / 4)], 12⟩, ⟨N179, [vI t158, vI t159, .slice (some ⟨N180, 0, none⟩) 3 (nN180 / 7), vB false], nN179⟩, ⟨N180, [vI 1, vI t160, vI t161, vI t162, vI t163, vI t164, vI t165, vI 1, vI t166, vI t167, vI t168, vI t169, vI t170, vI t171, vI 1, vI t172, vI t173, vI t174, vI t175, vI t176, vI t177], nN180⟩, ⟨B1, [vI 0, vI 0, .slice (some ⟨B2, 0, none⟩) 3 3, vB false], 4⟩, ⟨B2, [vI 1, vI m2_1, vI 0, vI 0, vI 0, vI 0, vI 0, vI 1, vI m2_8, vI m2_9, vI 0, vI 0, vI 0, vI 0, vI 1, vI 0, vI m2_16, vI 0, vI 0, vI 0, vI 0], 21⟩, ⟨b153, [vI 1, vI 0, vI 0, vI 0, vI 0, vI 0, vI 0, vI 0, vI 0, vI 0, .slice (some ⟨B1, 0, none⟩) 1 1], 11⟩, ⟨b152, [vI i0_0, vI i0_1, vI 0, .slice a_i0_3 n_i0_3 c_i0_3, .slice (some ⟨B0, 0, none⟩) 1 1], 5⟩, ⟨B0, [vI 1, vI 0, vI 0, vI 0, vI 0, vI 0, vI 0, vI 0, vI 0, vI 0, .slice (some ⟨B1, 0, none⟩) 1 1], 11⟩] : List Own) := by
  refine hstep [1, 2, 4] _ _ _ (by kernel_rfl) (List.cons_ne_nil _ _) ⟨?_, ?_, ?_, trivial⟩
  ·show T _ _ _ _ _ _ _ _
   refine t_v (.ld1 rfl rfl rfl (.at 2 rfl rfl)) ?_
   exact t_fin [1, 2, 5, 7, 8, 10, 12, 13, 14, 25, 26, 27, 32, 34] hg_b (by kernel_rfl)
  ·show T _ _ _ _ _ _ _ _
   refine t_v (.ldn rfl rfl rfl (.at 0 rfl rfl)) ?_
   exact t_fin [1, 2, 5, 7, 8, 12, 13, 14, 25, 26, 27, 31, 33, 34] hg_d (by kernel_rfl)
  ·show T _ _ _ _ _ _ _ _
   refine t_v (.ld1 rfl rfl rfl (.at 7 rfl rfl)) ?_
   exact t_fin [1, 2, 5, 7, 8, 10, 12, 13, 14, 25, 26, 27, 31, 35] hg_19 (by kernel_rfl)
 have hg_1 : G [true, false, false, false, false, false, false, false, false, false] [(1, vI w1), (2, vP b152 0), (5, .slice none 0 0), (7, vP b153 0), (8, vP b181 0), (10, vP b182 0), (12, .slice (some ⟨B0, 0, none⟩) 1 1), (13, vI 1), (14, vI 0), (25, .slice (some ⟨N179, 0, none⟩) 1 (nN179 / 4)), (26, vI 1), (27, vI 0), (31, vP b181 11)] ([⟨b182, [vI t158, vI t159, .slice (some ⟨N180, 0, none⟩) 3 (nN180 / 7), vB false], 4⟩, ⟨none, encL E_i644 ([] : List (Int × Int × Int × Int)), 0⟩, ⟨b181, [vI 1, vI 0, vI 0, vI 0, vI 0, vI 0, vI t154, vI t155, vI t156, vI t157, .slice (some ⟨N179, 0, none⟩) 1 (nN179 / 4), .slice (ad none) ([] : List (Int × Int × Int × Int)).length (0 / 4)], 12⟩, ⟨N179, [vI t158, vI t159, .slice (some ⟨N180, 0, none⟩) 3 (nN180 / 7), vB false], nN179⟩, ⟨N180, [vI 1, vI t160, vI t161, vI t162, vI t163, vI t164, vI t165, vI 1, vI t166, vI t167, vI t168, vI t169, vI t170, vI t171, vI 1, vI t172, vI t173, vI t174, vI t175, vI t176, vI t177], nN180⟩, ⟨B1, [vI 0, vI 0, .slice (some ⟨B2, 0, none⟩) 3 3, vB false], 4⟩, ⟨B2, [vI 1, vI m2_1, vI 0, vI 0, vI 0, vI 0, vI 0, vI 1, vI m2_8, vI m2_9, vI 0, vI 0, vI 0, vI 0, vI 1, vI 0, vI m2_16, vI 0, vI 0, vI 0, vI 0], 21⟩, ⟨b153, [vI 1, vI 0, vI 0, vI 0, vI 0, vI 0, vI 0, vI 0, vI 0, vI 0, .slice (some ⟨B1, 0, none⟩) 1 1], 11⟩, ⟨b152, [vI i0_0, vI i0_1, vI 0, .slice a_i0_3 n_i0_3 c_i0_3, .slice (some ⟨B0, 0, none⟩) 1 1], 5⟩, ⟨B0, [vI 1, vI 0, vI 0, vI 0, vI 0, vI 0, vI 0, vI 0, vI 0, vI 0, .slice (some ⟨B1, 0, none⟩) 1 1], 11⟩] : List Own) := by
  exact hqf 3 [1, 2, 5, 7, 8, 10, 12, 13, 14, 25, 26, 27, 31, 34] _ _ _ _ (by kernel_rfl) (by kernel_rfl) hg_9
 have hg_0 : G [false, false, false, false, false, false, false, false, false, false] [(1, vI w1), (2, vP b152 0), (5, .slice none 0 0), (7, vP b153 0), (8, vP b181 0), (10, vP b182 0), (12, .slice (some ⟨B0, 0, none⟩) 1 1), (13, vI 1), (14, vI 0), (25, .slice (some ⟨N179, 0, none⟩) 1 (nN179 / 4)), (26, vI 1), (27, vI 0)] ([⟨b182, [vI t158, vI t159, .slice (some ⟨N180, 0, none⟩) 3 (nN180 / 7), vB false], 4⟩, ⟨none, encL E_i644 ([] : List (Int × Int × Int × Int)), 0⟩, ⟨b181, [vI 1, vI 0, vI 0, vI 0, vI 0, vI 0, vI t154, vI t155, vI t156, vI t157, .slice (some ⟨N179, 0, none⟩) 1 (nN179 / 4), .slice (ad none) ([] : List (Int × Int × Int × Int)).length (0 / 4)], 12⟩, ⟨N179, [vI t158, vI t159, .slice (some ⟨N180, 0, none⟩) 3 (nN180 / 7), vB false], nN179⟩, ⟨N180, [vI 1, vI t160, vI t161, vI t162, vI t163, vI t164, vI t165, vI 1, vI t166, vI t167, vI t168, vI t169, vI t170, vI t171, vI 1, vI t172, vI t173, vI t174, vI t175, vI t176, vI t177], nN180⟩, ⟨B1, [vI 0, vI 0, .slice (some ⟨B2, 0, none⟩) 3 3, vB false], 4⟩, ⟨B2, [vI 1, vI m2_1, vI 0, vI 0, vI 0, vI 0, vI 0, vI 1, vI m2_8, vI m2_9, vI 0, vI 0, vI 0, vI 0, vI 1, vI 0, vI m2_16, vI 0, vI 0, vI 0, vI 0], 21⟩, ⟨b153, [vI 1, vI 0, vI 0, vI 0, vI 0, vI 0, vI 0, vI 0, vI 0, vI 0, .slice (some ⟨B1, 0, none⟩) 1 1], 11⟩, ⟨b152, [vI i0_0, vI i0_1, vI 0, .slice a_i0_3 n_i0_3 c_i0_3, .slice (some ⟨B0, 0, none⟩) 1 1], 5⟩, ⟨B0, [vI 1, vI 0, vI 0, vI 0, vI 0, vI 0, vI 0, vI 0, vI 0, vI 0, .slice (some ⟨B1, 0, none⟩) 1 1], 11⟩] : List Own) := by
  exact hqf 0 [1, 2, 5, 7, 8, 10, 12, 13, 14, 25, 26, 27, 31] _ _ _ _ (by kernel_rfl) (by kernel_rfl) hg_1
 exact hg_0

/-- sweep.Sample -/
def c76 : C :=
  (.seq (.reg [oq 6 (.new [(vI 0), (vI 0)])])
  (.seq (.reg [oq 7 (.mv (.tmp 0)),
     oq 8 (.bin .mul (.tmp 7) (.const (vI 256))),
     oq 9 (.mv (.tmp 2)),
     oq 10 (.bin .rem (.tmp 9) (.const (vI 8))),
     oq 11 (.bin .mul (.const (vI 32)) (.tmp 10)),
     oq 12 (.bin .add (.tmp 8) (.tmp 11)),
     oq 13 (.bin .add (.tmp 12) (.const (vI 16))),
     oq 14 (.mv (.tmp 1)),
     oq 15 (.bin .mul (.tmp 14) (.const (vI 256))),
     oq 16 (.mv (.tmp 2)),
     oq 17 (.bin .quo (.tmp 16) (.const (vI 8))),
     oq 18 (.bin .mul (.const (vI 32)) (.tmp 17)),
     oq 19 (.bin .add (.tmp 15) (.tmp 18)),
     oq 20 (.bin .add (.tmp 19) (.const (vI 16))),
     oq 21 (.bld [(vI 0), (vI 0)] [(0, 1, (.tmp 13)), (1, 1, (.tmp 20))]),
     ⟨none, .st 2 (.tmp 6) (.tmp 21), none⟩])
  .ret))
def sweep_Sample.f (x0 : Int) (y1 : Int) (k2 : Int) : Option (Int × Int) := some (wr64 ((wr64 ((wr64 (x0 * 256)) + (wr64 (32 * (Int.tmod k2 8))))) + 16), wr64 ((wr64 ((wr64 (y1 * 256)) + (wr64 (32 * (wr64 (Int.tdiv k2 8)))))) + 16))
theorem sweep_Sample.ok {S : Seal} {x0 : Int} {y1 : Int} {k2 : Int} {r0_ : Int} {r1_ : Int}{A_ : Int → Addr} (hE_ : EO gsE S A_ 157) (e : sweep_Sample.f x0 y1 k2 = some (r0_, r1_)) :
    Cal Tryd.prog 76 [vI x0, vI y1, vI k2] [] S fun v H' S' => v = .agg #[vI r0_, vI r1_] ∧ H' = [] ∧ S' = S := by
 unfold sweep_Sample.f at e
 refine cal_of (c := c76) (N := 22) Tryd.func76 rfl rfl (by kernel_rfl) (rs := [.cn 2 6]) (by kernel_rfl) (Nat.le_of_ble_eq_true rfl) ?_
 unfold c76
 refine w_seq ?_
 refine w_reg fun all => ?_
 refine t_a (.new rfl rfl) fun b252 fb252 sb252 => ?_
 refine t_keep [0, 1, 2, 6] (σ' := [(0, vI x0), (1, vI y1), (2, vI k2), (6, vP b252 0)]) (by kernel_rfl) ?_
 refine t_end ?_
 show W _ _ _ _ _ _ _
 refine w_seq ?_
 refine w_reg fun all => ?_
 refine t_qz 15 [6, 21] (σ' := [(6, vP b252 0), (21, .agg #[vI (wr64 ((wr64 ((wr64 (x0 * 256)) + (wr64 (32 * (Int.tmod k2 8))))) + 16)), vI (wr64 ((wr64 ((wr64 (y1 * 256)) + (wr64 (32 * (wr64 (Int.tdiv k2 8)))))) + 16))])]) (by kernel_rfl) ?_
 refine t_sti 0 (cs := [vI (wr64 ((wr64 ((wr64 (x0 * 256)) + (wr64 (32 * (Int.tmod k2 8))))) + 16)), vI (wr64 ((wr64 ((wr64 (y1 * 256)) + (wr64 (32 * (wr64 (Int.tdiv k2 8)))))) + 16))]) rfl rfl rfl rfl rfl rfl rfl rfl rfl ?_
 refine t_keep [6] (σ' := [(6, vP b252 0)]) (by kernel_rfl) ?_
 refine t_end ?_
 show W _ _ _ _ _ _ _
 refine w_ret ?_
 simp only [Option.some.injEq, Prod.mk.injEq] at e
 obtain ⟨rfl, rfl⟩ := e
 exact ⟨[.agg #[vI (wr64 ((wr64 ((wr64 (x0 * 256)) + (wr64 (32 * (Int.tmod k2 8))))) + 16)), vI (wr64 ((wr64 ((wr64 (y1 * 256)) + (wr64 (32 * (wr64 (Int.tdiv k2 8)))))) + 16))]], [], S, ⟨⟨_, _, _, rfl, .at 0 rfl rfl, rfl⟩, trivial⟩, VS.none, rfl, rfl, rfl⟩

/-- stroke.Box -/
def c84 : C :=
  (.seq (.reg [oq 4 (.new [(vI 0), (vI 0)]),
     oq 5 (.new [(vI 0), (vI 0)]),
     oq 6 (.mv (.const (vB false)))])
  (.seq (.seq (.reg [oq 14 (.mv (.tmp 0)),
      oq 15 (.lns (.tmp 14)),
      oq 16 (.bin .eql (.tmp 15) (.const (vI 0)))])
   (.cond (.tmp 16)
    (.seq (.reg [oq 17 (.bld [(vI 0), (vI 0)] []),
        oq 18 (.bld [(vI 0), (vI 0)] []),
        ⟨none, .st 2 (.tmp 4) (.tmp 17), none⟩,
        ⟨none, .st 2 (.tmp 5) (.tmp 18), none⟩,
        oq 6 (.mv (.const (vB false)))])
     .ret)
    .skip))
  (.seq (.drw [oq 19 (.mv (.tmp 0)),
     oq 20 (.ixs 4 (.tmp 19) (.const (vI 0))),
     oq 21 (.pad 0 (.tmp 20)),
     oq 22 (.ld (some 2) (.tmp 21)),
     oq 23 (.mv (.tmp 0)),
     oq 24 (.ixs 4 (.tmp 23) (.const (vI 0))),
     oq 25 (.pad 0 (.tmp 24)),
     oq 26 (.ld (some 2) (.tmp 25)),
     oq 7 (.new [(vI 0), (vI 0)]),
     oq 8 (.new [(vI 0), (vI 0)]),
     ⟨none, .st 2 (.tmp 7) (.tmp 22), none⟩,
     ⟨none, .st 2 (.tmp 8) (.tmp 26), none⟩] [[], [0], [1], [2], [], [4], [5], [6], [], [], [8, 3, 0, 1, 2, 3, 8, 9], [9, 7, 10, 0, 1, 2, 3, 4, 5, 6, 7, 8, 9, 10]])
  (.seq (.seq (.reg [oq 27 (.mv (.tmp 0)),
      oq 28 (.lns (.tmp 27)),
      oq 29 (.mv (.const (vI 0)))])
   (.block 0 (.loop (.seq (.reg [oq 30 (.bin .lss (.tmp 29) (.tmp 28))])
     (.seq (.cond (.tmp 30)
       .skip
       (.exit 0))
     (.seq (.block 1 (.seq (.reg [oq 31 (.ixs 4 (.tmp 27) (.tmp 29)),
          oq 32 (.ld (some 4) (.tmp 31)),
          oq 10 (.new [(vI 0), (vI 0), (vI 0), (vI 0)]),
          ⟨none, .st 4 (.tmp 10) (.tmp 32), none⟩])
       (.seq (.reg [oq 33 (.pad 0 (.tmp 10)),
          oq 34 (.ld (some 2) (.tmp 33)),
          oq 35 (.pad 2 (.tmp 10)),
          oq 36 (.ld (some 2) (.tmp 35)),
          oq 37 (.bld [(vI 0), (vI 0), (vI 0), (vI 0)] [(0, 2, (.tmp 34)), (2, 2, (.tmp 36))]),
          oq 38 (.mv (.const (vI 0)))])
       (.block 2 (.loop (.seq (.reg [oq 39 (.bin .lss (.tmp 38) (.const (vI 2)))])
         (.seq (.cond (.tmp 39)
           .skip
           (.exit 2))
         (.seq (.block 3 (.seq (.reg [oq 40 (.ixv (some 2) 2 2 (.tmp 37) (.tmp 38)),
              oq 12 (.new [(vI 0), (vI 0)]),
              ⟨none, .st 2 (.tmp 12) (.tmp 40), none⟩])
           (.seq (.reg [oq 41 (.pad 0 (.tmp 7)),
              oq 42 (.ld none (.tmp 41)),
              oq 43 (.pad 0 (.tmp 12)),
              oq 44 (.ld none (.tmp 43)),
              oq 45 (.mm false [(.tmp 42), (.tmp 44)]),
              oq 46 (.pad 1 (.tmp 7)),
              oq 47 (.ld none (.tmp 46)),
              oq 48 (.pad 1 (.tmp 12)),
              oq 49 (.ld none (.tmp 48)),
              oq 50 (.mm false [(.tmp 47), (.tmp 49)]),
              oq 51 (.bld [(vI 0), (vI 0)] [(0, 1, (.tmp 45)), (1, 1, (.tmp 50))]),
              ⟨none, .st 2 (.tmp 7) (.tmp 51), none⟩])
           (.reg [oq 52 (.pad 0 (.tmp 8)),
             oq 53 (.ld none (.tmp 52)),
             oq 54 (.pad 0 (.tmp 12)),
             oq 55 (.ld none (.tmp 54)),
             oq 56 (.mm true [(.tmp 53), (.tmp 55)]),
             oq 57 (.pad 1 (.tmp 8)),
             oq 58 (.ld none (.tmp 57)),
             oq 59 (.pad 1 (.tmp 12)),
             oq 60 (.ld none (.tmp 59)),
             oq 61 (.mm true [(.tmp 58), (.tmp 60)]),
             oq 62 (.bld [(vI 0), (vI 0)] [(0, 1, (.tmp 56)), (1, 1, (.tmp 61))]),
             ⟨none, .st 2 (.tmp 8) (.tmp 62), none⟩]))))
         (.reg [oq 63 (.bin .add (.tmp 38) (.const (vI 1))),
           oq 38 (.mv (.tmp 63))])))))))))
     (.reg [oq 64 (.bin .add (.tmp 29) (.const (vI 1))),
       oq 29 (.mv (.tmp 64))])))))))
  (.seq (.reg [oq 65 (.mv (.tmp 1)),
     oq 66 (.bin .add (.tmp 65) (.const (vI 1))),
     oq 67 (.bin .quo (.tmp 66) (.const (vI 2))),
     oq 13 (.mv (.tmp 67))])
  (.seq (.drw [oq 68 (.pad 0 (.tmp 7)),
     oq 69 (.ld none (.tmp 68)),
     oq 70 (.mv (.tmp 13)),
     oq 71 (.bin .sub (.tmp 69) (.tmp 70)),
     oq 72 (.pad 1 (.tmp 7)),
     oq 73 (.ld none (.tmp 72)),
     oq 74 (.mv (.tmp 13)),
     oq 75 (.bin .sub (.tmp 73) (.tmp 74)),
     oq 76 (.bld [(vI 0), (vI 0)] [(0, 1, (.tmp 71)), (1, 1, (.tmp 75))]),
     oq 77 (.pad 0 (.tmp 8)),
     oq 78 (.ld none (.tmp 77)),
     oq 79 (.mv (.tmp 13)),
     oq 80 (.bin .add (.tmp 78) (.tmp 79)),
     oq 81 (.pad 1 (.tmp 8)),
     oq 82 (.ld none (.tmp 81)),
     oq 83 (.mv (.tmp 13)),
     oq 84 (.bin .add (.tmp 82) (.tmp 83)),
     oq 85 (.bld [(vI 0), (vI 0)] [(0, 1, (.tmp 80)), (1, 1, (.tmp 84))]),
     ⟨none, .st 2 (.tmp 4) (.tmp 76), none⟩,
     ⟨none, .st 2 (.tmp 5) (.tmp 85), none⟩,
     oq 6 (.mv (.const (vB true)))] [[], [0], [], [1, 2], [], [4], [], [5, 6], [3, 7], [], [9], [], [10, 11], [], [13], [], [14, 15], [12, 16], [8, 0, 1, 2, 3, 4, 5, 6, 7, 8], [17, 18, 0, 1, 2, 3, 4, 5, 6, 7, 8, 9, 10, 11, 12, 13, 14, 15, 16, 17, 18], [19, 0, 1, 2, 3, 4, 5, 6, 7, 8, 9, 10, 11, 12, 13, 14, 15, 16, 17, 18, 19]])
  .ret))))))
def stroke_Box_v1.f (w1 : Int) (m0_0 : Int) (m0_1 : Int) (m0_2 : Int) (m0_3 : Int) : Option (Int × Int × Int × Int × Bool) := some (wr64 ((mn (mn m0_0 m0_0) m0_2) - (wr64 (Int.tdiv (wr64 (w1 + 1)) 2))), wr64 ((mn (mn m0_1 m0_1) m0_3) - (wr64 (Int.tdiv (wr64 (w1 + 1)) 2))), wr64 ((mx (mx m0_0 m0_0) m0_2) + (wr64 (Int.tdiv (wr64 (w1 + 1)) 2))), wr64 ((mx (mx m0_1 m0_1) m0_3) + (wr64 (Int.tdiv (wr64 (w1 + 1)) 2))), true)
theorem stroke_Box_v1.ok {S : Seal} {B0 : Nat} {w1 : Int} {m0_0 : Int} {m0_1 : Int} {m0_2 : Int} {m0_3 : Int} {r0_ : Int} {r1_ : Int} {r2_ : Int} {r3_ : Int} {r4_ : Bool}{A_ : Int → Addr} (hE_ : EO gsE S A_ 157) (e : stroke_Box_v1.f w1 m0_0 m0_1 m0_2 m0_3 = some (r0_, r1_, r2_, r3_, r4_)) :
    Cal Tryd.prog 84 [.slice (some ⟨B0, 0, none⟩) 1 1, vI w1] ([⟨B0, [vI m0_0, vI m0_1, vI m0_2, vI m0_3], 4⟩] : List Own) S fun v H' S' => v = .tuple #[.agg #[vI r0_, vI r1_], .agg #[vI r2_, vI r3_], .bool r4_] ∧ H' = ([⟨B0, [vI m0_0, vI m0_1, vI m0_2, vI m0_3], 4⟩] : List Own) ∧ S' = S := by
 unfold stroke_Box_v1.f at e
 refine cal_of (c := c84) (N := 86) Tryd.func84 rfl rfl (by kernel_rfl) (rs := [.cn 2 4, .cn 2 5, .t 6]) (by kernel_rfl) (Nat.le_of_ble_eq_true rfl) ?_
 unfold c84
 refine w_seq ?_
 refine w_reg fun all => ?_
 refine t_a (.new rfl rfl) fun b278 fb278 sb278 => ?_
 refine t_a (.new rfl rfl) fun b279 fb279 sb279 => ?_
 refine t_qz 1 [0, 1, 4, 5] (σ' := [(0, .slice (some ⟨B0, 0, none⟩) 1 1), (1, vI w1), (4, vP b278 0), (5, vP b279 0)]) (by kernel_rfl) ?_
 refine t_end ?_
 show W _ _ _ _ _ _ _
 refine w_seq ?_
 refine w_seq ?_
 refine w_reg fun all => ?_
 refine t_qz 3 [0, 1, 4, 5, 16] (σ' := [(0, .slice (some ⟨B0, 0, none⟩) 1 1), (1, vI w1), (4, vP b278 0), (5, vP b279 0), (16, vB false)]) (by kernel_rfl) ?_
 refine t_end ?_
 show W _ _ _ _ _ _ _
 refine w_cond rfl (fun c_ => by cases c_) (fun _ => ?_)
 show W _ _ _ _ _ _ _
 refine w_skip ?_
 show W _ _ _ _ _ _ _
 refine w_seq ?_
 refine w_kp [0, 1, 4, 5] (σ' := [(0, .slice (some ⟨B0, 0, none⟩) 1 1), (1, vI w1), (4, vP b278 0), (5, vP b279 0)]) (by kernel_rfl) ?_
 refine w_gameQ mixed (by kernel_rfl) fun all G hend hstep hqf => ?_
 have hg_fff : ∀ (g281 : Nat) (g280 : Nat), G [true, true, true, true, true, true, true, true, true, true, true, true] [(0, .slice (some ⟨B0, 0, none⟩) 1 1), (1, vI w1), (4, vP b278 0), (5, vP b279 0), (7, vP g280 0), (8, vP g281 0)] ([⟨g281, [vI m0_0, vI m0_1], 2⟩, ⟨g280, [vI m0_0, vI m0_1], 2⟩, ⟨b279, [vI 0, vI 0], 2⟩, ⟨b278, [vI 0, vI 0], 2⟩, ⟨B0, [vI m0_0, vI m0_1, vI m0_2, vI m0_3], 4⟩] : List Own) := by
  intro g281 g280
  refine hend _ _ _ (by kernel_rfl) ?_
  show W _ _ _ _ _ _ _
  refine w_seq ?_
  refine w_seq ?_
  refine w_reg fun all => ?_
  refine t_qz 3 [1, 4, 5, 7, 8, 27, 28, 29] (σ' := [(1, vI w1), (4, vP b278 0), (5, vP b279 0), (7, vP g280 0), (8, vP g281 0), (27, .slice (some ⟨B0, 0, none⟩) 1 1), (28, vI 1), (29, vI 0)]) (by kernel_rfl) ?_
  refine t_end ?_
  show W _ _ _ _ _ _ _
  refine w_block ?_
  refine w_lun 15 ?_
  refine wl_step ?_
  refine w_seq ?_
  refine w_reg fun all => ?_
  refine t_qz 1 [1, 4, 5, 7, 8, 27, 28, 29, 30] (σ' := [(1, vI w1), (4, vP b278 0), (5, vP b279 0), (7, vP g280 0), (8, vP g281 0), (27, .slice (some ⟨B0, 0, none⟩) 1 1), (28, vI 1), (29, vI 0), (30, vB true)]) (by kernel_rfl) ?_
  refine t_end ?_
  show W _ _ _ _ _ _ _
  refine w_seq ?_
  refine w_cond rfl (fun _ => ?_) (fun c_ => by cases c_)
  show W _ _ _ _ _ _ _
  refine w_skip ?_
  show W _ _ _ _ _ _ _
  refine w_seq ?_
  refine w_block ?_
  refine w_seq ?_
  refine w_reg fun all => ?_
  refine t_qz 1 [1, 4, 5, 7, 8, 27, 28, 29, 31] (σ' := [(1, vI w1), (4, vP b278 0), (5, vP b279 0), (7, vP g280 0), (8, vP g281 0), (27, .slice (some ⟨B0, 0, none⟩) 1 1), (28, vI 1), (29, vI 0), (31, vP B0 0)]) (by kernel_rfl) ?_
  refine t_v (.ldn rfl rfl rfl (.at 4 rfl rfl)) ?_
  refine t_a (.new rfl rfl) fun b282 fb282 sb282 => ?_
  refine t_sti 0 (cs := [vI m0_0, vI m0_1, vI m0_2, vI m0_3]) rfl rfl rfl rfl rfl rfl rfl rfl rfl ?_
  refine t_keep [1, 4, 5, 7, 8, 10, 27, 28, 29] (σ' := [(1, vI w1), (4, vP b278 0), (5, vP b279 0), (7, vP g280 0), (8, vP g281 0), (10, vP b282 0), (27, .slice (some ⟨B0, 0, none⟩) 1 1), (28, vI 1), (29, vI 0)]) (by kernel_rfl) ?_
  refine t_end ?_
  show W _ _ _ _ _ _ _
  refine w_seq ?_
  refine w_reg fun all => ?_
  refine t_qz 1 [1, 4, 5, 7, 8, 10, 27, 28, 29, 33] (σ' := [(1, vI w1), (4, vP b278 0), (5, vP b279 0), (7, vP g280 0), (8, vP g281 0), (10, vP b282 0), (27, .slice (some ⟨B0, 0, none⟩) 1 1), (28, vI 1), (29, vI 0), (33, vP b282 0)]) (by kernel_rfl) ?_
  refine t_v (.ldn rfl rfl rfl (.at 0 rfl rfl)) ?_
  refine t_qz 1 [1, 4, 5, 7, 8, 27, 28, 29, 34, 35] (σ' := [(1, vI w1), (4, vP b278 0), (5, vP b279 0), (7, vP g280 0), (8, vP g281 0), (27, .slice (some ⟨B0, 0, none⟩) 1 1), (28, vI 1), (29, vI 0), (34, .agg #[vI m0_0, vI m0_1]), (35, vP b282 2)]) (by kernel_rfl) ?_
  refine t_v (.ldn rfl rfl rfl (.at 0 rfl rfl)) ?_
  refine t_qz 2 [1, 4, 5, 7, 8, 27, 28, 29, 37, 38] (σ' := [(1, vI w1), (4, vP b278 0), (5, vP b279 0), (7, vP g280 0), (8, vP g281 0), (27, .slice (some ⟨B0, 0, none⟩) 1 1), (28, vI 1), (29, vI 0), (37, .agg #[vI m0_0, vI m0_1, vI m0_2, vI m0_3]), (38, vI 0)]) (by kernel_rfl) ?_
  refine t_end ?_
  show W _ _ _ _ _ _ _
  refine w_block ?_
  refine w_lun 15 ?_
  refine wl_step ?_
  refine w_seq ?_
  refine w_reg fun all => ?_
  refine t_qz 1 [1, 4, 5, 7, 8, 27, 28, 29, 37, 38, 39] (σ' := [(1, vI w1), (4, vP b278 0), (5, vP b279 0), (7, vP g280 0), (8, vP g281 0), (27, .slice (some ⟨B0, 0, none⟩) 1 1), (28, vI 1), (29, vI 0), (37, .agg #[vI m0_0, vI m0_1, vI m0_2, vI m0_3]), (38, vI 0), (39, vB true)]) (by kernel_rfl) ?_
  refine t_end ?_
  show W _ _ _ _ _ _ _
  refine w_seq ?_
  refine w_cond rfl (fun _ => ?_) (fun c_ => by cases c_)
  show W _ _ _ _ _ _ _
  refine w_skip ?_
  show W _ _ _ _ _ _ _
  refine w_seq ?_
  refine w_block ?_
  refine w_seq ?_
  refine w_reg fun all => ?_
  refine t_qz 1 [1, 4, 5, 7, 8, 27, 28, 29, 37, 38, 40] (σ' := [(1, vI w1), (4, vP b278 0), (5, vP b279 0), (7, vP g280 0), (8, vP g281 0), (27, .slice (some ⟨B0, 0, none⟩) 1 1), (28, vI 1), (29, vI 0), (37, .agg #[vI m0_0, vI m0_1, vI m0_2, vI m0_3]), (38, vI 0), (40, .agg #[vI m0_0, vI m0_1])]) (by kernel_rfl) ?_
  refine t_a (.new rfl rfl) fun b283 fb283 sb283 => ?_
  refine t_sti 0 (cs := [vI m0_0, vI m0_1]) rfl rfl rfl rfl rfl rfl rfl rfl rfl ?_
  refine t_keep [1, 4, 5, 7, 8, 12, 27, 28, 29, 37, 38] (σ' := [(1, vI w1), (4, vP b278 0), (5, vP b279 0), (7, vP g280 0), (8, vP g281 0), (12, vP b283 0), (27, .slice (some ⟨B0, 0, none⟩) 1 1), (28, vI 1), (29, vI 0), (37, .agg #[vI m0_0, vI m0_1, vI m0_2, vI m0_3]), (38, vI 0)]) (by kernel_rfl) ?_
  refine t_end ?_
  show W _ _ _ _ _ _ _
  refine w_seq ?_
  refine w_reg fun all => ?_
  refine t_qz 1 [1, 4, 5, 7, 8, 12, 27, 28, 29, 37, 38, 41] (σ' := [(1, vI w1), (4, vP b278 0), (5, vP b279 0), (7, vP g280 0), (8, vP g281 0), (12, vP b283 0), (27, .slice (some ⟨B0, 0, none⟩) 1 1), (28, vI 1), (29, vI 0), (37, .agg #[vI m0_0, vI m0_1, vI m0_2, vI m0_3]), (38, vI 0), (41, vP g280 0)]) (by kernel_rfl) ?_
  refine t_v (.ld1 rfl rfl rfl (.at 3 rfl rfl)) ?_
  refine t_qz 1 [1, 4, 5, 7, 8, 12, 27, 28, 29, 37, 38, 42, 43] (σ' := [(1, vI w1), (4, vP b278 0), (5, vP b279 0), (7, vP g280 0), (8, vP g281 0), (12, vP b283 0), (27, .slice (some ⟨B0, 0, none⟩) 1 1), (28, vI 1), (29, vI 0), (37, .agg #[vI m0_0, vI m0_1, vI m0_2, vI m0_3]), (38, vI 0), (42, vI m0_0), (43, vP b283 0)]) (by kernel_rfl) ?_
  refine t_v (.ld1 rfl rfl rfl (.at 0 rfl rfl)) ?_
  refine t_qz 2 [1, 4, 5, 7, 8, 12, 27, 28, 29, 37, 38, 45, 46] (σ' := [(1, vI w1), (4, vP b278 0), (5, vP b279 0), (7, vP g280 0), (8, vP g281 0), (12, vP b283 0), (27, .slice (some ⟨B0, 0, none⟩) 1 1), (28, vI 1), (29, vI 0), (37, .agg #[vI m0_0, vI m0_1, vI m0_2, vI m0_3]), (38, vI 0), (45, vI (mn m0_0 m0_0)), (46, vP g280 1)]) (by kernel_rfl) ?_
  refine t_v (.ld1 rfl rfl rfl (.at 3 rfl rfl)) ?_
  refine t_qz 1 [1, 4, 5, 7, 8, 12, 27, 28, 29, 37, 38, 45, 47, 48] (σ' := [(1, vI w1), (4, vP b278 0), (5, vP b279 0), (7, vP g280 0), (8, vP g281 0), (12, vP b283 0), (27, .slice (some ⟨B0, 0, none⟩) 1 1), (28, vI 1), (29, vI 0), (37, .agg #[vI m0_0, vI m0_1, vI m0_2, vI m0_3]), (38, vI 0), (45, vI (mn m0_0 m0_0)), (47, vI m0_1), (48, vP b283 1)]) (by kernel_rfl) ?_
  refine t_v (.ld1 rfl rfl rfl (.at 0 rfl rfl)) ?_
  refine t_qz 2 [1, 4, 5, 7, 8, 12, 27, 28, 29, 37, 38, 51] (σ' := [(1, vI w1), (4, vP b278 0), (5, vP b279 0), (7, vP g280 0), (8, vP g281 0), (12, vP b283 0), (27, .slice (some ⟨B0, 0, none⟩) 1 1), (28, vI 1), (29, vI 0), (37, .agg #[vI m0_0, vI m0_1, vI m0_2, vI m0_3]), (38, vI 0), (51, .agg #[vI (mn m0_0 m0_0), vI (mn m0_1 m0_1)])]) (by kernel_rfl) ?_
  refine t_sti 3 (cs := [vI (mn m0_0 m0_0), vI (mn m0_1 m0_1)]) rfl rfl rfl rfl rfl rfl rfl rfl rfl ?_
  refine t_keep [1, 4, 5, 7, 8, 12, 27, 28, 29, 37, 38] (σ' := [(1, vI w1), (4, vP b278 0), (5, vP b279 0), (7, vP g280 0), (8, vP g281 0), (12, vP b283 0), (27, .slice (some ⟨B0, 0, none⟩) 1 1), (28, vI 1), (29, vI 0), (37, .agg #[vI m0_0, vI m0_1, vI m0_2, vI m0_3]), (38, vI 0)]) (by kernel_rfl) ?_
  refine t_end ?_
  show W _ _ _ _ _ _ _
  refine w_reg fun all => ?_
  refine t_qz 1 [1, 4, 5, 7, 8, 12, 27, 28, 29, 37, 38, 52] (σ' := [(1, vI w1), (4, vP b278 0), (5, vP b279 0), (7, vP g280 0), (8, vP g281 0), (12, vP b283 0), (27, .slice (some ⟨B0, 0, none⟩) 1 1), (28, vI 1), (29, vI 0), (37, .agg #[vI m0_0, vI m0_1, vI m0_2, vI m0_3]), (38, vI 0), (52, vP g281 0)]) (by kernel_rfl) ?_
  refine t_v (.ld1 rfl rfl rfl (.at 2 rfl rfl)) ?_
  refine t_qz 1 [1, 4, 5, 7, 8, 12, 27, 28, 29, 37, 38, 53, 54] (σ' := [(1, vI w1), (4, vP b278 0), (5, vP b279 0), (7, vP g280 0), (8, vP g281 0), (12, vP b283 0), (27, .slice (some ⟨B0, 0, none⟩) 1 1), (28, vI 1), (29, vI 0), (37, .agg #[vI m0_0, vI m0_1, vI m0_2, vI m0_3]), (38, vI 0), (53, vI m0_0), (54, vP b283 0)]) (by kernel_rfl) ?_
  refine t_v (.ld1 rfl rfl rfl (.at 0 rfl rfl)) ?_
  refine t_qz 2 [1, 4, 5, 7, 8, 12, 27, 28, 29, 37, 38, 56, 57] (σ' := [(1, vI w1), (4, vP b278 0), (5, vP b279 0), (7, vP g280 0), (8, vP g281 0), (12, vP b283 0), (27, .slice (some ⟨B0, 0, none⟩) 1 1), (28, vI 1), (29, vI 0), (37, .agg #[vI m0_0, vI m0_1, vI m0_2, vI m0_3]), (38, vI 0), (56, vI (mx m0_0 m0_0)), (57, vP g281 1)]) (by kernel_rfl) ?_
  refine t_v (.ld1 rfl rfl rfl (.at 2 rfl rfl)) ?_
  refine t_qz 1 [1, 4, 5, 7, 8, 27, 28, 29, 37, 38, 56, 58, 59] (σ' := [(1, vI w1), (4, vP b278 0), (5, vP b279 0), (7, vP g280 0), (8, vP g281 0), (27, .slice (some ⟨B0, 0, none⟩) 1 1), (28, vI 1), (29, vI 0), (37, .agg #[vI m0_0, vI m0_1, vI m0_2, vI m0_3]), (38, vI 0), (56, vI (mx m0_0 m0_0)), (58, vI m0_1), (59, vP b283 1)]) (by kernel_rfl) ?_
  refine t_v (.ld1 rfl rfl rfl (.at 0 rfl rfl)) ?_
  refine t_qz 2 [1, 4, 5, 7, 8, 27, 28, 29, 37, 38, 62] (σ' := [(1, vI w1), (4, vP b278 0), (5, vP b279 0), (7, vP g280 0), (8, vP g281 0), (27, .slice (some ⟨B0, 0, none⟩) 1 1), (28, vI 1), (29, vI 0), (37, .agg #[vI m0_0, vI m0_1, vI m0_2, vI m0_3]), (38, vI 0), (62, .agg #[vI (mx m0_0 m0_0), vI (mx m0_1 m0_1)])]) (by kernel_rfl) ?_
  refine t_sti 2 (cs := [vI (mx m0_0 m0_0), vI (mx m0_1 m0_1)]) rfl rfl rfl rfl rfl rfl rfl rfl rfl ?_
  refine t_keep [1, 4, 5, 7, 8, 27, 28, 29, 37, 38] (σ' := [(1, vI w1), (4, vP b278 0), (5, vP b279 0), (7, vP g280 0), (8, vP g281 0), (27, .slice (some ⟨B0, 0, none⟩) 1 1), (28, vI 1), (29, vI 0), (37, .agg #[vI m0_0, vI m0_1, vI m0_2, vI m0_3]), (38, vI 0)]) (by kernel_rfl) ?_
  refine t_end ?_
  show W _ _ _ _ _ _ _
  refine w_reg fun all => ?_
  refine t_qz 2 [1, 4, 5, 7, 8, 27, 28, 29, 37, 38] (σ' := [(1, vI w1), (4, vP b278 0), (5, vP b279 0), (7, vP g280 0), (8, vP g281 0), (27, .slice (some ⟨B0, 0, none⟩) 1 1), (28, vI 1), (29, vI 0), (37, .agg #[vI m0_0, vI m0_1, vI m0_2, vI m0_3]), (38, vI 1)]) (by kernel_rfl) ?_
  refine t_end ?_
  show WL _ _ _ _ _ _ _ _
  refine wl_step ?_
  refine w_seq ?_
  refine w_reg fun all => ?_
  refine t_qz 1 [1, 4, 5, 7, 8, 27, 28, 29, 37, 38, 39] (σ' := [(1, vI w1), (4, vP b278 0), (5, vP b279 0), (7, vP g280 0), (8, vP g281 0), (27, .slice (some ⟨B0, 0, none⟩) 1 1), (28, vI 1), (29, vI 0), (37, .agg #[vI m0_0, vI m0_1, vI m0_2, vI m0_3]), (38, vI 1), (39, vB true)]) (by kernel_rfl) ?_
  refine t_end ?_
  show W _ _ _ _ _ _ _
  refine w_seq ?_
  refine w_cond rfl (fun _ => ?_) (fun c_ => by cases c_)
  show W _ _ _ _ _ _ _
  refine w_skip ?_
  show W _ _ _ _ _ _ _
  refine w_seq ?_
  refine w_block ?_
  refine w_seq ?_
  refine w_reg fun all => ?_
  refine t_qz 1 [1, 4, 5, 7, 8, 27, 28, 29, 37, 38, 40] (σ' := [(1, vI w1), (4, vP b278 0), (5, vP b279 0), (7, vP g280 0), (8, vP g281 0), (27, .slice (some ⟨B0, 0, none⟩) 1 1), (28, vI 1), (29, vI 0), (37, .agg #[vI m0_0, vI m0_1, vI m0_2, vI m0_3]), (38, vI 1), (40, .agg #[vI m0_2, vI m0_3])]) (by kernel_rfl) ?_
  refine t_a (.new rfl rfl) fun b284 fb284 sb284 => ?_
  refine t_sti 0 (cs := [vI m0_2, vI m0_3]) rfl rfl rfl rfl rfl rfl rfl rfl rfl ?_
  refine t_keep [1, 4, 5, 7, 8, 12, 27, 28, 29, 37, 38] (σ' := [(1, vI w1), (4, vP b278 0), (5, vP b279 0), (7, vP g280 0), (8, vP g281 0), (12, vP b284 0), (27, .slice (some ⟨B0, 0, none⟩) 1 1), (28, vI 1), (29, vI 0), (37, .agg #[vI m0_0, vI m0_1, vI m0_2, vI m0_3]), (38, vI 1)]) (by kernel_rfl) ?_
  refine t_end ?_
  show W _ _ _ _ _ _ _
  refine w_seq ?_
  refine w_reg fun all => ?_
  refine t_qz 1 [1, 4, 5, 7, 8, 12, 27, 28, 29, 37, 38, 41] (σ' := [(1, vI w1), (4, vP b278 0), (5, vP b279 0), (7, vP g280 0), (8, vP g281 0), (12, vP b284 0), (27, .slice (some ⟨B0, 0, none⟩) 1 1), (28, vI 1), (29, vI 0), (37, .agg #[vI m0_0, vI m0_1, vI m0_2, vI m0_3]), (38, vI 1), (41, vP g280 0)]) (by kernel_rfl) ?_
  refine t_v (.ld1 rfl rfl rfl (.at 4 rfl rfl)) ?_
  refine t_qz 1 [1, 4, 5, 7, 8, 12, 27, 28, 29, 37, 38, 42, 43] (σ' := [(1, vI w1), (4, vP b278 0), (5, vP b279 0), (7, vP g280 0), (8, vP g281 0), (12, vP b284 0), (27, .slice (some ⟨B0, 0, none⟩) 1 1), (28, vI 1), (29, vI 0), (37, .agg #[vI m0_0, vI m0_1, vI m0_2, vI m0_3]), (38, vI 1), (42, vI (mn m0_0 m0_0)), (43, vP b284 0)]) (by kernel_rfl) ?_
  refine t_v (.ld1 rfl rfl rfl (.at 0 rfl rfl)) ?_
  refine t_qz 2 [1, 4, 5, 7, 8, 12, 27, 28, 29, 37, 38, 45, 46] (σ' := [(1, vI w1), (4, vP b278 0), (5, vP b279 0), (7, vP g280 0), (8, vP g281 0), (12, vP b284 0), (27, .slice (some ⟨B0, 0, none⟩) 1 1), (28, vI 1), (29, vI 0), (37, .agg #[vI m0_0, vI m0_1, vI m0_2, vI m0_3]), (38, vI 1), (45, vI (mn (mn m0_0 m0_0) m0_2)), (46, vP g280 1)]) (by kernel_rfl) ?_
  refine t_v (.ld1 rfl rfl rfl (.at 4 rfl rfl)) ?_
  refine t_qz 1 [1, 4, 5, 7, 8, 12, 27, 28, 29, 37, 38, 45, 47, 48] (σ' := [(1, vI w1), (4, vP b278 0), (5, vP b279 0), (7, vP g280 0), (8, vP g281 0), (12, vP b284 0), (27, .slice (some ⟨B0, 0, none⟩) 1 1), (28, vI 1), (29, vI 0), (37, .agg #[vI m0_0, vI m0_1, vI m0_2, vI m0_3]), (38, vI 1), (45, vI (mn (mn m0_0 m0_0) m0_2)), (47, vI (mn m0_1 m0_1)), (48, vP b284 1)]) (by kernel_rfl) ?_
  refine t_v (.ld1 rfl rfl rfl (.at 0 rfl rfl)) ?_
  refine t_qz 2 [1, 4, 5, 7, 8, 12, 27, 28, 29, 37, 38, 51] (σ' := [(1, vI w1), (4, vP b278 0), (5, vP b279 0), (7, vP g280 0), (8, vP g281 0), (12, vP b284 0), (27, .slice (some ⟨B0, 0, none⟩) 1 1), (28, vI 1), (29, vI 0), (37, .agg #[vI m0_0, vI m0_1, vI m0_2, vI m0_3]), (38, vI 1), (51, .agg #[vI (mn (mn m0_0 m0_0) m0_2), vI (mn (mn m0_1 m0_1) m0_3)])]) (by kernel_rfl) ?_
  refine t_sti 4 (cs := [vI (mn (mn m0_0 m0_0) m0_2), vI (mn (mn m0_1 m0_1) m0_3)]) rfl rfl rfl rfl rfl rfl rfl rfl rfl ?_
  refine t_keep [1, 4, 5, 7, 8, 12, 27, 28, 29, 37, 38] (σ' := [(1, vI w1), (4, vP b278 0), (5, vP b279 0), (7, vP g280 0), (8, vP g281 0), (12, vP b284 0), (27, .slice (some ⟨B0, 0, none⟩) 1 1), (28, vI 1), (29, vI 0), (37, .agg #[vI m0_0, vI m0_1, vI m0_2, vI m0_3]), (38, vI 1)]) (by kernel_rfl) ?_
  refine t_end ?_
  show W _ _ _ _ _ _ _
  refine w_reg fun all => ?_
  refine t_qz 1 [1, 4, 5, 7, 8, 12, 27, 28, 29, 37, 38, 52] (σ' := [(1, vI w1), (4, vP b278 0), (5, vP b279 0), (7, vP g280 0), (8, vP g281 0), (12, vP b284 0), (27, .slice (some ⟨B0, 0, none⟩) 1 1), (28, vI 1), (29, vI 0), (37, .agg #[vI m0_0, vI m0_1, vI m0_2, vI m0_3]), (38, vI 1), (52, vP g281 0)]) (by kernel_rfl) ?_
  refine t_v (.ld1 rfl rfl rfl (.at 3 rfl rfl)) ?_
  refine t_qz 1 [1, 4, 5, 7, 8, 12, 27, 28, 29, 37, 38, 53, 54] (σ' := [(1, vI w1), (4, vP b278 0), (5, vP b279 0), (7, vP g280 0), (8, vP g281 0), (12, vP b284 0), (27, .slice (some ⟨B0, 0, none⟩) 1 1), (28, vI 1), (29, vI 0), (37, .agg #[vI m0_0, vI m0_1, vI m0_2, vI m0_3]), (38, vI 1), (53, vI (mx m0_0 m0_0)), (54, vP b284 0)]) (by kernel_rfl) ?_
  refine t_v (.ld1 rfl rfl rfl (.at 0 rfl rfl)) ?_
  refine t_qz 2 [1, 4, 5, 7, 8, 12, 27, 28, 29, 37, 38, 56, 57] (σ' := [(1, vI w1), (4, vP b278 0), (5, vP b279 0), (7, vP g280 0), (8, vP g281 0), (12, vP b284 0), (27, .slice (some ⟨B0, 0, none⟩) 1 1), (28, vI 1), (29, vI 0), (37, .agg #[vI m0_0, vI m0_1, vI m0_2, vI m0_3]), (38, vI 1), (56, vI (mx (mx m0_0 m0_0) m0_2)), (57, vP g281 1)]) (by kernel_rfl) ?_
  refine t_v (.ld1 rfl rfl rfl (.at 3 rfl rfl)) ?_
  refine t_qz 1 [1, 4, 5, 7, 8, 27, 28, 29, 37, 38, 56, 58, 59] (σ' := [(1, vI w1), (4, vP b278 0), (5, vP b279 0), (7, vP g280 0), (8, vP g281 0), (27, .slice (some ⟨B0, 0, none⟩) 1 1), (28, vI 1), (29, vI 0), (37, .agg #[vI m0_0, vI m0_1, vI m0_2, vI m0_3]), (38, vI 1), (56, vI (mx (mx m0_0 m0_0) m0_2)), (58, vI (mx m0_1 m0_1)), (59, vP b284 1)]) (by kernel_rfl) ?_
  refine t_v (.ld1 rfl rfl rfl (.at 0 rfl rfl)) ?_
  refine t_qz 2 [1, 4, 5, 7, 8, 27, 28, 29, 37, 38, 62] (σ' := [(1, vI w1), (4, vP b278 0), (5, vP b279 0), (7, vP g280 0), (8, vP g281 0), (27, .slice (some ⟨B0, 0, none⟩) 1 1), (28, vI 1), (29, vI 0), (37, .agg #[vI m0_0, vI m0_1, vI m0_2, vI m0_3]), (38, vI 1), (62, .agg #[vI (mx (mx m0_0 m0_0) m0_2), vI (mx (mx m0_1 m0_1) m0_3)])]) (by kernel_rfl) ?_
  refine t_sti 3 (cs := [vI (mx (mx m0_0 m0_0) m0_2), vI (mx (mx m0_1 m0_1) m0_3)]) rfl rfl rfl rfl rfl rfl rfl rfl rfl ?_
  refine t_keep [1, 4, 5, 7, 8, 27, 28, 29, 37, 38] (σ' := [(1, vI w1), (4, vP b278 0), (5, vP b279 0), (7, vP g280 0), (8, vP g281 0), (27, .slice (some ⟨B0, 0, none⟩) 1 1), (28, vI 1), (29, vI 0), (37, .agg #[vI m0_0, vI m0_1, vI m0_2, vI m0_3]), (38, vI 1)]) (by kernel_rfl) ?_
  refine t_end ?_
  show W _ _ _ _ _ _ _
  refine w_reg fun all => ?_
  refine t_qz 2 [1, 4, 5, 7, 8, 27, 28, 29, 37, 38] (σ' := [(1, vI w1), (4, vP b278 0), (5, vP b279 0), (7, vP g280 0), (8, vP g281 0), (27, .slice (some ⟨B0, 0, none⟩) 1 1), (28, vI 1), (29, vI 0), (37, .agg #[vI m0_0, vI m0_1, vI m0_2, vI m0_3]), (38, vI 2)]) (by kernel_rfl) ?_
  refine t_end ?_
  show WL _ _ _ _ _ _ _ _
  refine wl_step ?_
  refine w_seq ?_
  refine w_reg fun all => ?_
  refine t_qz 1 [1, 4, 5, 7, 8, 27, 28, 29, 37, 38, 39] (σ' := [(1, vI w1), (4, vP b278 0), (5, vP b279 0), (7, vP g280 0), (8, vP g281 0), (27, .slice (some ⟨B0, 0, none⟩) 1 1), (28, vI 1), (29, vI 0), (37, .agg #[vI m0_0, vI m0_1, vI m0_2, vI m0_3]), (38, vI 2), (39, vB false)]) (by kernel_rfl) ?_
  refine t_end ?_
  show W _ _ _ _ _ _ _
  refine w_seq ?_
  refine w_cond rfl (fun c_ => by cases c_) (fun _ => ?_)
  show W _ _ _ _ _ _ _
  refine w_exit ?_
  show W _ _ _ _ _ _ _
  refine w_reg fun all => ?_
  refine t_qz 2 [1, 4, 5, 7, 8, 27, 28, 29] (σ' := [(1, vI w1), (4, vP b278 0), (5, vP b279 0), (7, vP g280 0), (8, vP g281 0), (27, .slice (some ⟨B0, 0, none⟩) 1 1), (28, vI 1), (29, vI 1)]) (by kernel_rfl) ?_
  refine t_end ?_
  show WL _ _ _ _ _ _ _ _
  refine wl_step ?_
  refine w_seq ?_
  refine w_reg fun all => ?_
  refine t_qz 1 [1, 4, 5, 7, 8, 27, 28, 29, 30] (σ' := [(1, vI w1), (4, vP b278 0), (5, vP b279 0), (7, vP g280 0), (8, vP g281 0), (27, .slice (some ⟨B0, 0, none⟩) 1 1), (28, vI 1), (29, vI 1), (30, vB false)]) (by kernel_rfl) ?_
  refine t_end ?_
  show W _ _ _ _ _ _ _
  refine w_seq ?_
  refine w_cond rfl (fun c_ => by cases c_) (fun _ => ?_)
  show W _ _ _ _ _ _ _
  refine w_exit ?_
  show W _ _ _ _ _ _ _
  refine w_seq ?_
  refine w_reg fun all => ?_
  refine t_qz 4 [4, 5, 7, 8, 13] (σ' := [(4, vP b278 0), (5, vP b279 0), (7, vP g280 0), (8, vP g281 0), (13, vI (wr64 (Int.tdiv (wr64 (w1 + 1)) 2)))]) (by kernel_rfl) ?_
  refine t_end ?_
  show W _ _ _ _ _ _ _
  refine w_seq ?_
  refine w_kp [4, 5, 7, 8, 13] (σ' := [(4, vP b278 0), (5, vP b279 0), (7, vP g280 0), (8, vP g281 0), (13, vI (wr64 (Int.tdiv (wr64 (w1 + 1)) 2)))]) (by kernel_rfl) ?_
  refine w_gameQ mixed (by kernel_rfl) fun all G hend hstep hqf => ?_
  have hg_1fffff : G [true, true, true, true, true, true, true, true, true, true, true, true, true, true, true, true, true, true, true, true, true] [(4, vP b278 0), (5, vP b279 0), (6, vB true)] ([⟨b284, [vI m0_2, vI m0_3], 2⟩, ⟨b283, [vI m0_0, vI m0_1], 2⟩, ⟨b282, [vI m0_0, vI m0_1, vI m0_2, vI m0_3], 4⟩, ⟨g281, [vI (mx (mx m0_0 m0_0) m0_2), vI (mx (mx m0_1 m0_1) m0_3)], 2⟩, ⟨g280, [vI (mn (mn m0_0 m0_0) m0_2), vI (mn (mn m0_1 m0_1) m0_3)], 2⟩, ⟨b279, [vI (wr64 ((mx (mx m0_0 m0_0) m0_2) + (wr64 (Int.tdiv (wr64 (w1 + 1)) 2)))), vI (wr64 ((mx (mx m0_1 m0_1) m0_3) + (wr64 (Int.tdiv (wr64 (w1 + 1)) 2))))], 2⟩, ⟨b278, [vI (wr64 ((mn (mn m0_0 m0_0) m0_2) - (wr64 (Int.tdiv (wr64 (w1 + 1)) 2)))), vI (wr64 ((mn (mn m0_1 m0_1) m0_3) - (wr64 (Int.tdiv (wr64 (w1 + 1)) 2))))], 2⟩, ⟨B0, [vI m0_0, vI m0_1, vI m0_2, vI m0_3], 4⟩] : List Own) := by
   refine hend _ _ _ (by kernel_rfl) ?_
   show W _ _ _ _ _ _ _
   refine w_ret ?_
   simp only [Option.some.injEq, Prod.mk.injEq] at e
   obtain ⟨rfl, rfl, rfl, rfl, rfl⟩ := e
   exact ⟨[.agg #[vI (wr64 ((mn (mn m0_0 m0_0) m0_2) - (wr64 (Int.tdiv (wr64 (w1 + 1)) 2)))), vI (wr64 ((mn (mn m0_1 m0_1) m0_3) - (wr64 (Int.tdiv (wr64 (w1 + 1)) 2))))], .agg #[vI (wr64 ((mx (mx m0_0 m0_0) m0_2) + (wr64 (Int.tdiv (wr64 (w1 + 1)) 2)))), vI (wr64 ((mx (mx m0_1 m0_1) m0_3) + (wr64 (Int.tdiv (wr64 (w1 + 1)) 2))))], vB true], ([⟨B0, [vI m0_0, vI m0_1, vI m0_2, vI m0_3], 4⟩] : List Own), S, ⟨⟨_, _, _, rfl, .at 6 rfl rfl, rfl⟩, ⟨_, _, _, rfl, .at 5 rfl rfl, rfl⟩, rfl, trivial⟩, VS.sel [7] (by kernel_rfl), rfl, rfl, rfl⟩
  have hg_fffff : G [true, true, true, true, true, true, true, true, true, true, true, true, true, true, true, true, true, true, true, true, false] [(4, vP b278 0), (5, vP b279 0)] ([⟨b284, [vI m0_2, vI m0_3], 2⟩, ⟨b283, [vI m0_0, vI m0_1], 2⟩, ⟨b282, [vI m0_0, vI m0_1, vI m0_2, vI m0_3], 4⟩, ⟨g281, [vI (mx (mx m0_0 m0_0) m0_2), vI (mx (mx m0_1 m0_1) m0_3)], 2⟩, ⟨g280, [vI (mn (mn m0_0 m0_0) m0_2), vI (mn (mn m0_1 m0_1) m0_3)], 2⟩, ⟨b279, [vI (wr64 ((mx (mx m0_0 m0_0) m0_2) + (wr64 (Int.tdiv (wr64 (w1 + 1)) 2)))), vI (wr64 ((mx (mx m0_1 m0_1) m0_3) + (wr64 (Int.tdiv (wr64 (w1 + 1)) 2))))], 2⟩, ⟨b278, [vI (wr64 ((mn (mn m0_0 m0_0) m0_2) - (wr64 (Int.tdiv (wr64 (w1 + 1)) 2)))), vI (wr64 ((mn (mn m0_1 m0_1) m0_3) - (wr64 (Int.tdiv (wr64 (w1 + 1)) 2))))], 2⟩, ⟨B0, [vI m0_0, vI m0_1, vI m0_2, vI m0_3], 4⟩] : List Own) := by
   exact hqf 20 [4, 5, 6] _ _ _ _ (by kernel_rfl) (by kernel_rfl) hg_1fffff
  have hg_7ffff : G [true, true, true, true, true, true, true, true, true, true, true, true, true, true, true, true, true, true, true, false, false] [(4, vP b278 0), (5, vP b279 0), (85, .agg #[vI (wr64 ((mx (mx m0_0 m0_0) m0_2) + (wr64 (Int.tdiv (wr64 (w1 + 1)) 2)))), vI (wr64 ((mx (mx m0_1 m0_1) m0_3) + (wr64 (Int.tdiv (wr64 (w1 + 1)) 2))))])] ([⟨b284, [vI m0_2, vI m0_3], 2⟩, ⟨b283, [vI m0_0, vI m0_1], 2⟩, ⟨b282, [vI m0_0, vI m0_1, vI m0_2, vI m0_3], 4⟩, ⟨g281, [vI (mx (mx m0_0 m0_0) m0_2), vI (mx (mx m0_1 m0_1) m0_3)], 2⟩, ⟨g280, [vI (mn (mn m0_0 m0_0) m0_2), vI (mn (mn m0_1 m0_1) m0_3)], 2⟩, ⟨b279, [vI 0, vI 0], 2⟩, ⟨b278, [vI (wr64 ((mn (mn m0_0 m0_0) m0_2) - (wr64 (Int.tdiv (wr64 (w1 + 1)) 2)))), vI (wr64 ((mn (mn m0_1 m0_1) m0_3) - (wr64 (Int.tdiv (wr64 (w1 + 1)) 2))))], 2⟩, ⟨B0, [vI m0_0, vI m0_1, vI m0_2, vI m0_3], 4⟩] : List Own) := by
   refine hstep [19] _ _ _ (by kernel_rfl) (List.cons_ne_nil _ _) ⟨?_, trivial⟩
   ·show T _ _ _ _ _ _ _ _
    refine t_sti 5 (cs := [vI (wr64 ((mx (mx m0_0 m0_0) m0_2) + (wr64 (Int.tdiv (wr64 (w1 + 1)) 2)))), vI (wr64 ((mx (mx m0_1 m0_1) m0_3) + (wr64 (Int.tdiv (wr64 (w1 + 1)) 2))))]) rfl rfl rfl rfl rfl rfl rfl rfl rfl ?_
    exact t_fin [4, 5] hg_fffff (by kernel_rfl)
  have hg_5ffff : G [true, true, true, true, true, true, true, true, true, true, true, true, true, true, true, true, true, false, true, false, false] [(4, vP b278 0), (5, vP b279 0), (80, vI (wr64 ((mx (mx m0_0 m0_0) m0_2) + (wr64 (Int.tdiv (wr64 (w1 + 1)) 2))))), (84, vI (wr64 ((mx (mx m0_1 m0_1) m0_3) + (wr64 (Int.tdiv (wr64 (w1 + 1)) 2)))))] ([⟨b284, [vI m0_2, vI m0_3], 2⟩, ⟨b283, [vI m0_0, vI m0_1], 2⟩, ⟨b282, [vI m0_0, vI m0_1, vI m0_2, vI m0_3], 4⟩, ⟨g281, [vI (mx (mx m0_0 m0_0) m0_2), vI (mx (mx m0_1 m0_1) m0_3)], 2⟩, ⟨g280, [vI (mn (mn m0_0 m0_0) m0_2), vI (mn (mn m0_1 m0_1) m0_3)], 2⟩, ⟨b279, [vI 0, vI 0], 2⟩, ⟨b278, [vI (wr64 ((mn (mn m0_0 m0_0) m0_2) - (wr64 (Int.tdiv (wr64 (w1 + 1)) 2)))), vI (wr64 ((mn (mn m0_1 m0_1) m0_3) - (wr64 (Int.tdiv (wr64 (w1 + 1)) 2))))], 2⟩, ⟨B0, [vI m0_0, vI m0_1, vI m0_2, vI m0_3], 4⟩] : List Own) := by
   exact hqf 17 [4, 5, 85] _ _ _ _ (by kernel_rfl) (by kernel_rfl) hg_7ffff
  have hg_3ffff : G [true, true, true, true, true, true, true, true, true, true, true, true, true, true, true, true, true, true, false, false, false] [(4, vP b278 0), (5, vP b279 0), (76, .agg #[vI (wr64 ((mn (mn m0_0 m0_0) m0_2) - (wr64 (Int.tdiv (wr64 (w1 + 1)) 2)))), vI (wr64 ((mn (mn m0_1 m0_1) m0_3) - (wr64 (Int.tdiv (wr64 (w1 + 1)) 2))))]), (85, .agg #[vI (wr64 ((mx (mx m0_0 m0_0) m0_2) + (wr64 (Int.tdiv (wr64 (w1 + 1)) 2)))), vI (wr64 ((mx (mx m0_1 m0_1) m0_3) + (wr64 (Int.tdiv (wr64 (w1 + 1)) 2))))])] ([⟨b284, [vI m0_2, vI m0_3], 2⟩, ⟨b283, [vI m0_0, vI m0_1], 2⟩, ⟨b282, [vI m0_0, vI m0_1, vI m0_2, vI m0_3], 4⟩, ⟨g281, [vI (mx (mx m0_0 m0_0) m0_2), vI (mx (mx m0_1 m0_1) m0_3)], 2⟩, ⟨g280, [vI (mn (mn m0_0 m0_0) m0_2), vI (mn (mn m0_1 m0_1) m0_3)], 2⟩, ⟨b279, [vI 0, vI 0], 2⟩, ⟨b278, [vI 0, vI 0], 2⟩, ⟨B0, [vI m0_0, vI m0_1, vI m0_2, vI m0_3], 4⟩] : List Own) := by
   refine hstep [18] _ _ _ (by kernel_rfl) (List.cons_ne_nil _ _) ⟨?_, trivial⟩
   ·show T _ _ _ _ _ _ _ _
    refine t_sti 6 (cs := [vI (wr64 ((mn (mn m0_0 m0_0) m0_2) - (wr64 (Int.tdiv (wr64 (w1 + 1)) 2)))), vI (wr64 ((mn (mn m0_1 m0_1) m0_3) - (wr64 (Int.tdiv (wr64 (w1 + 1)) 2))))]) rfl rfl rfl rfl rfl rfl rfl rfl rfl ?_
    exact t_fin [4, 5, 85] hg_7ffff (by kernel_rfl)
  have hg_4ffff : G [true, true, true, true, true, true, true, true, true, true, true, true, true, true, true, true, false, false, true, false, false] [(4, vP b278 0), (5, vP b279 0), (80, vI (wr64 ((mx (mx m0_0 m0_0) m0_2) + (wr64 (Int.tdiv (wr64 (w1 + 1)) 2))))), (82, vI (mx (mx m0_1 m0_1) m0_3)), (83, vI (wr64 (Int.tdiv (wr64 (w1 + 1)) 2)))] ([⟨b284, [vI m0_2, vI m0_3], 2⟩, ⟨b283, [vI m0_0, vI m0_1], 2⟩, ⟨b282, [vI m0_0, vI m0_1, vI m0_2, vI m0_3], 4⟩, ⟨g281, [vI (mx (mx m0_0 m0_0) m0_2), vI (mx (mx m0_1 m0_1) m0_3)], 2⟩, ⟨g280, [vI (mn (mn m0_0 m0_0) m0_2), vI (mn (mn m0_1 m0_1) m0_3)], 2⟩, ⟨b279, [vI 0, vI 0], 2⟩, ⟨b278, [vI (wr64 ((mn (mn m0_0 m0_0) m0_2) - (wr64 (Int.tdiv (wr64 (w1 + 1)) 2)))), vI (wr64 ((mn (mn m0_1 m0_1) m0_3) - (wr64 (Int.tdiv (wr64 (w1 + 1)) 2))))], 2⟩, ⟨B0, [vI m0_0, vI m0_1, vI m0_2, vI m0_3], 4⟩] : List Own) := by
   exact hqf 16 [4, 5, 80, 84] _ _ _ _ (by kernel_rfl) (by kernel_rfl) hg_5ffff
  have hg_5efff : G [true, true, true, true, true, true, true, true, true, true, true, true, false, true, true, true, true, false, true, false, false] [(4, vP b278 0), (5, vP b279 0), (78, vI (mx (mx m0_0 m0_0) m0_2)), (79, vI (wr64 (Int.tdiv (wr64 (w1 + 1)) 2))), (84, vI (wr64 ((mx (mx m0_1 m0_1) m0_3) + (wr64 (Int.tdiv (wr64 (w1 + 1)) 2)))))] ([⟨b284, [vI m0_2, vI m0_3], 2⟩, ⟨b283, [vI m0_0, vI m0_1], 2⟩, ⟨b282, [vI m0_0, vI m0_1, vI m0_2, vI m0_3], 4⟩, ⟨g281, [vI (mx (mx m0_0 m0_0) m0_2), vI (mx (mx m0_1 m0_1) m0_3)], 2⟩, ⟨g280, [vI (mn (mn m0_0 m0_0) m0_2), vI (mn (mn m0_1 m0_1) m0_3)], 2⟩, ⟨b279, [vI 0, vI 0], 2⟩, ⟨b278, [vI (wr64 ((mn (mn m0_0 m0_0) m0_2) - (wr64 (Int.tdiv (wr64 (w1 + 1)) 2)))), vI (wr64 ((mn (mn m0_1 m0_1) m0_3) - (wr64 (Int.tdiv (wr64 (w1 + 1)) 2))))], 2⟩, ⟨B0, [vI m0_0, vI m0_1, vI m0_2, vI m0_3], 4⟩] : List Own) := by
   exact hqf 12 [4, 5, 80, 84] _ _ _ _ (by kernel_rfl) (by kernel_rfl) hg_5ffff
  have hg_1ffff : G [true, true, true, true, true, true, true, true, true, true, true, true, true, true, true, true, true, false, false, false, false] [(4, vP b278 0), (5, vP b279 0), (76, .agg #[vI (wr64 ((mn (mn m0_0 m0_0) m0_2) - (wr64 (Int.tdiv (wr64 (w1 + 1)) 2)))), vI (wr64 ((mn (mn m0_1 m0_1) m0_3) - (wr64 (Int.tdiv (wr64 (w1 + 1)) 2))))]), (80, vI (wr64 ((mx (mx m0_0 m0_0) m0_2) + (wr64 (Int.tdiv (wr64 (w1 + 1)) 2))))), (84, vI (wr64 ((mx (mx m0_1 m0_1) m0_3) + (wr64 (Int.tdiv (wr64 (w1 + 1)) 2)))))] ([⟨b284, [vI m0_2, vI m0_3], 2⟩, ⟨b283, [vI m0_0, vI m0_1], 2⟩, ⟨b282, [vI m0_0, vI m0_1, vI m0_2, vI m0_3], 4⟩, ⟨g281, [vI (mx (mx m0_0 m0_0) m0_2), vI (mx (mx m0_1 m0_1) m0_3)], 2⟩, ⟨g280, [vI (mn (mn m0_0 m0_0) m0_2), vI (mn (mn m0_1 m0_1) m0_3)], 2⟩, ⟨b279, [vI 0, vI 0], 2⟩, ⟨b278, [vI 0, vI 0], 2⟩, ⟨B0, [vI m0_0, vI m0_1, vI m0_2, vI m0_3], 4⟩] : List Own) := by
   exact hqf 17 [4, 5, 76, 85] _ _ _ _ (by kernel_rfl) (by kernel_rfl) hg_3ffff
  have hg_3feff : G [true, true, true, true, true, true, true, true, false, true, true, true, true, true, true, true, true, true, false, false, false] [(4, vP b278 0), (5, vP b279 0), (71, vI (wr64 ((mn (mn m0_0 m0_0) m0_2) - (wr64 (Int.tdiv (wr64 (w1 + 1)) 2))))), (75, vI (wr64 ((mn (mn m0_1 m0_1) m0_3) - (wr64 (Int.tdiv (wr64 (w1 + 1)) 2))))), (85, .agg #[vI (wr64 ((mx (mx m0_0 m0_0) m0_2) + (wr64 (Int.tdiv (wr64 (w1 + 1)) 2)))), vI (wr64 ((mx (mx m0_1 m0_1) m0_3) + (wr64 (Int.tdiv (wr64 (w1 + 1)) 2))))])] ([⟨b284, [vI m0_2, vI m0_3], 2⟩, ⟨b283, [vI m0_0, vI m0_1], 2⟩, ⟨b282, [vI m0_0, vI m0_1, vI m0_2, vI m0_3], 4⟩, ⟨g281, [vI (mx (mx m0_0 m0_0) m0_2), vI (mx (mx m0_1 m0_1) m0_3)], 2⟩, ⟨g280, [vI (mn (mn m0_0 m0_0) m0_2), vI (mn (mn m0_1 m0_1) m0_3)], 2⟩, ⟨b279, [vI 0, vI 0], 2⟩, ⟨b278, [vI 0, vI 0], 2⟩, ⟨B0, [vI m0_0, vI m0_1, vI m0_2, vI m0_3], 4⟩] : List Own) := by
   exact hqf 8 [4, 5, 76, 85] _ _ _ _ (by kernel_rfl) (by kernel_rfl) hg_3ffff
  have hg_4bfff : G [true, true, true, true, true, true, true, true, true, true, true, true, true, true, false, true, false, false, true, false, false] [(4, vP b278 0), (5, vP b279 0), (80, vI (wr64 ((mx (mx m0_0 m0_0) m0_2) + (wr64 (Int.tdiv (wr64 (w1 + 1)) 2))))), (81, vP g281 1), (83, vI (wr64 (Int.tdiv (wr64 (w1 + 1)) 2)))] ([⟨b284, [vI m0_2, vI m0_3], 2⟩, ⟨b283, [vI m0_0, vI m0_1], 2⟩, ⟨b282, [vI m0_0, vI m0_1, vI m0_2, vI m0_3], 4⟩, ⟨g281, [vI (mx (mx m0_0 m0_0) m0_2), vI (mx (mx m0_1 m0_1) m0_3)], 2⟩, ⟨g280, [vI (mn (mn m0_0 m0_0) m0_2), vI (mn (mn m0_1 m0_1) m0_3)], 2⟩, ⟨b279, [vI 0, vI 0], 2⟩, ⟨b278, [vI (wr64 ((mn (mn m0_0 m0_0) m0_2) - (wr64 (Int.tdiv (wr64 (w1 + 1)) 2)))), vI (wr64 ((mn (mn m0_1 m0_1) m0_3) - (wr64 (Int.tdiv (wr64 (w1 + 1)) 2))))], 2⟩, ⟨B0, [vI m0_0, vI m0_1, vI m0_2, vI m0_3], 4⟩] : List Own) := by
   refine hstep [14] _ _ _ (by kernel_rfl) (List.cons_ne_nil _ _) ⟨?_, trivial⟩
   ·show T _ _ _ _ _ _ _ _
    refine t_v (.ld1 rfl rfl rfl (.at 3 rfl rfl)) ?_
    exact t_fin [4, 5, 80, 82, 83] hg_4ffff (by kernel_rfl)
  have hg_ffff : G [true, true, true, true, true, true, true, true, true, true, true, true, true, true, true, true, false, false, false, false, false] [(4, vP b278 0), (5, vP b279 0), (76, .agg #[vI (wr64 ((mn (mn m0_0 m0_0) m0_2) - (wr64 (Int.tdiv (wr64 (w1 + 1)) 2)))), vI (wr64 ((mn (mn m0_1 m0_1) m0_3) - (wr64 (Int.tdiv (wr64 (w1 + 1)) 2))))]), (80, vI (wr64 ((mx (mx m0_0 m0_0) m0_2) + (wr64 (Int.tdiv (wr64 (w1 + 1)) 2))))), (82, vI (mx (mx m0_1 m0_1) m0_3)), (83, vI (wr64 (Int.tdiv (wr64 (w1 + 1)) 2)))] ([⟨b284, [vI m0_2, vI m0_3], 2⟩, ⟨b283, [vI m0_0, vI m0_1], 2⟩, ⟨b282, [vI m0_0, vI m0_1, vI m0_2, vI m0_3], 4⟩, ⟨g281, [vI (mx (mx m0_0 m0_0) m0_2), vI (mx (mx m0_1 m0_1) m0_3)], 2⟩, ⟨g280, [vI (mn (mn m0_0 m0_0) m0_2), vI (mn (mn m0_1 m0_1) m0_3)], 2⟩, ⟨b279, [vI 0, vI 0], 2⟩, ⟨b278, [vI 0, vI 0], 2⟩, ⟨B0, [vI m0_0, vI m0_1, vI m0_2, vI m0_3], 4⟩] : List Own) := by
   exact hqf 16 [4, 5, 76, 80, 84] _ _ _ _ (by kernel_rfl) (by kernel_rfl) hg_1ffff
  have hg_3fef7 : G [true, true, true, false, true, true, true, true, false, true, true, true, true, true, true, true, true, true, false, false, false] [(4, vP b278 0), (5, vP b279 0), (69, vI (mn (mn m0_0 m0_0) m0_2)), (70, vI (wr64 (Int.tdiv (wr64 (w1 + 1)) 2))), (75, vI (wr64 ((mn (mn m0_1 m0_1) m0_3) - (wr64 (Int.tdiv (wr64 (w1 + 1)) 2))))), (85, .agg #[vI (wr64 ((mx (mx m0_0 m0_0) m0_2) + (wr64 (Int.tdiv (wr64 (w1 + 1)) 2)))), vI (wr64 ((mx (mx m0_1 m0_1) m0_3) + (wr64 (Int.tdiv (wr64 (w1 + 1)) 2))))])] ([⟨b284, [vI m0_2, vI m0_3], 2⟩, ⟨b283, [vI m0_0, vI m0_1], 2⟩, ⟨b282, [vI m0_0, vI m0_1, vI m0_2, vI m0_3], 4⟩, ⟨g281, [vI (mx (mx m0_0 m0_0) m0_2), vI (mx (mx m0_1 m0_1) m0_3)], 2⟩, ⟨g280, [vI (mn (mn m0_0 m0_0) m0_2), vI (mn (mn m0_1 m0_1) m0_3)], 2⟩, ⟨b279, [vI 0, vI 0], 2⟩, ⟨b278, [vI 0, vI 0], 2⟩, ⟨B0, [vI m0_0, vI m0_1, vI m0_2, vI m0_3], 4⟩] : List Own) := by
   exact hqf 3 [4, 5, 71, 75, 85] _ _ _ _ (by kernel_rfl) (by kernel_rfl) hg_3feff
  have hg_5ebff : G [true, true, true, true, true, true, true, true, true, true, false, true, false, true, true, true, true, false, true, false, false] [(4, vP b278 0), (5, vP b279 0), (77, vP g281 0), (79, vI (wr64 (Int.tdiv (wr64 (w1 + 1)) 2))), (84, vI (wr64 ((mx (mx m0_1 m0_1) m0_3) + (wr64 (Int.tdiv (wr64 (w1 + 1)) 2)))))] ([⟨b284, [vI m0_2, vI m0_3], 2⟩, ⟨b283, [vI m0_0, vI m0_1], 2⟩, ⟨b282, [vI m0_0, vI m0_1, vI m0_2, vI m0_3], 4⟩, ⟨g281, [vI (mx (mx m0_0 m0_0) m0_2), vI (mx (mx m0_1 m0_1) m0_3)], 2⟩, ⟨g280, [vI (mn (mn m0_0 m0_0) m0_2), vI (mn (mn m0_1 m0_1) m0_3)], 2⟩, ⟨b279, [vI 0, vI 0], 2⟩, ⟨b278, [vI (wr64 ((mn (mn m0_0 m0_0) m0_2) - (wr64 (Int.tdiv (wr64 (w1 + 1)) 2)))), vI (wr64 ((mn (mn m0_1 m0_1) m0_3) - (wr64 (Int.tdiv (wr64 (w1 + 1)) 2))))], 2⟩, ⟨B0, [vI m0_0, vI m0_1, vI m0_2, vI m0_3], 4⟩] : List Own) := by
   refine hstep [10] _ _ _ (by kernel_rfl) (List.cons_ne_nil _ _) ⟨?_, trivial⟩
   ·show T _ _ _ _ _ _ _ _
    refine t_v (.ld1 rfl rfl rfl (.at 3 rfl rfl)) ?_
    exact t_fin [4, 5, 78, 79, 84] hg_5efff (by kernel_rfl)
  have hg_1efff : G [true, true, true, true, true, true, true, true, true, true, true, true, false, true, true, true, true, false, false, false, false] [(4, vP b278 0), (5, vP b279 0), (76, .agg #[vI (wr64 ((mn (mn m0_0 m0_0) m0_2) - (wr64 (Int.tdiv (wr64 (w1 + 1)) 2)))), vI (wr64 ((mn (mn m0_1 m0_1) m0_3) - (wr64 (Int.tdiv (wr64 (w1 + 1)) 2))))]), (78, vI (mx (mx m0_0 m0_0) m0_2)), (79, vI (wr64 (Int.tdiv (wr64 (w1 + 1)) 2))), (84, vI (wr64 ((mx (mx m0_1 m0_1) m0_3) + (wr64 (Int.tdiv (wr64 (w1 + 1)) 2)))))] ([⟨b284, [vI m0_2, vI m0_3], 2⟩, ⟨b283, [vI m0_0, vI m0_1], 2⟩, ⟨b282, [vI m0_0, vI m0_1, vI m0_2, vI m0_3], 4⟩, ⟨g281, [vI (mx (mx m0_0 m0_0) m0_2), vI (mx (mx m0_1 m0_1) m0_3)], 2⟩, ⟨g280, [vI (mn (mn m0_0 m0_0) m0_2), vI (mn (mn m0_1 m0_1) m0_3)], 2⟩, ⟨b279, [vI 0, vI 0], 2⟩, ⟨b278, [vI 0, vI 0], 2⟩, ⟨B0, [vI m0_0, vI m0_1, vI m0_2, vI m0_3], 4⟩] : List Own) := by
   exact hqf 12 [4, 5, 76, 80, 84] _ _ _ _ (by kernel_rfl) (by kernel_rfl) hg_1ffff
  have hg_3fe7f : G [true, true, true, true, true, true, true, false, false, true, true, true, true, true, true, true, true, true, false, false, false] [(4, vP b278 0), (5, vP b279 0), (71, vI (wr64 ((mn (mn m0_0 m0_0) m0_2) - (wr64 (Int.tdiv (wr64 (w1 + 1)) 2))))), (73, vI (mn (mn m0_1 m0_1) m0_3)), (74, vI (wr64 (Int.tdiv (wr64 (w1 + 1)) 2))), (85, .agg #[vI (wr64 ((mx (mx m0_0 m0_0) m0_2) + (wr64 (Int.tdiv (wr64 (w1 + 1)) 2)))), vI (wr64 ((mx (mx m0_1 m0_1) m0_3) + (wr64 (Int.tdiv (wr64 (w1 + 1)) 2))))])] ([⟨b284, [vI m0_2, vI m0_3], 2⟩, ⟨b283, [vI m0_0, vI m0_1], 2⟩, ⟨b282, [vI m0_0, vI m0_1, vI m0_2, vI m0_3], 4⟩, ⟨g281, [vI (mx (mx m0_0 m0_0) m0_2), vI (mx (mx m0_1 m0_1) m0_3)], 2⟩, ⟨g280, [vI (mn (mn m0_0 m0_0) m0_2), vI (mn (mn m0_1 m0_1) m0_3)], 2⟩, ⟨b279, [vI 0, vI 0], 2⟩, ⟨b278, [vI 0, vI 0], 2⟩, ⟨B0, [vI m0_0, vI m0_1, vI m0_2, vI m0_3], 4⟩] : List Own) := by
   exact hqf 7 [4, 5, 71, 75, 85] _ _ _ _ (by kernel_rfl) (by kernel_rfl) hg_3feff
  have hg_4ebff : G [true, true, true, true, true, true, true, true, true, true, false, true, false, true, true, true, false, false, true, false, false] [(4, vP b278 0), (5, vP b279 0), (77, vP g281 0), (79, vI (wr64 (Int.tdiv (wr64 (w1 + 1)) 2))), (82, vI (mx (mx m0_1 m0_1) m0_3)), (83, vI (wr64 (Int.tdiv (wr64 (w1 + 1)) 2)))] ([⟨b284, [vI m0_2, vI m0_3], 2⟩, ⟨b283, [vI m0_0, vI m0_1], 2⟩, ⟨b282, [vI m0_0, vI m0_1, vI m0_2, vI m0_3], 4⟩, ⟨g281, [vI (mx (mx m0_0 m0_0) m0_2), vI (mx (mx m0_1 m0_1) m0_3)], 2⟩, ⟨g280, [vI (mn (mn m0_0 m0_0) m0_2), vI (mn (mn m0_1 m0_1) m0_3)], 2⟩, ⟨b279, [vI 0, vI 0], 2⟩, ⟨b278, [vI (wr64 ((mn (mn m0_0 m0_0) m0_2) - (wr64 (Int.tdiv (wr64 (w1 + 1)) 2)))), vI (wr64 ((mn (mn m0_1 m0_1) m0_3) - (wr64 (Int.tdiv (wr64 (w1 + 1)) 2))))], 2⟩, ⟨B0, [vI m0_0, vI m0_1, vI m0_2, vI m0_3], 4⟩] : List Own) := by
   exact hqf 16 [4, 5, 77, 79, 84] _ _ _ _ (by kernel_rfl) (by kernel_rfl) hg_5ebff
  have hg_4afff : G [true, true, true, true, true, true, true, true, true, true, true, true, false, true, false, true, false, false, true, false, false] [(4, vP b278 0), (5, vP b279 0), (78, vI (mx (mx m0_0 m0_0) m0_2)), (79, vI (wr64 (Int.tdiv (wr64 (w1 + 1)) 2))), (81, vP g281 1), (83, vI (wr64 (Int.tdiv (wr64 (w1 + 1)) 2)))] ([⟨b284, [vI m0_2, vI m0_3], 2⟩, ⟨b283, [vI m0_0, vI m0_1], 2⟩, ⟨b282, [vI m0_0, vI m0_1, vI m0_2, vI m0_3], 4⟩, ⟨g281, [vI (mx (mx m0_0 m0_0) m0_2), vI (mx (mx m0_1 m0_1) m0_3)], 2⟩, ⟨g280, [vI (mn (mn m0_0 m0_0) m0_2), vI (mn (mn m0_1 m0_1) m0_3)], 2⟩, ⟨b279, [vI 0, vI 0], 2⟩, ⟨b278, [vI (wr64 ((mn (mn m0_0 m0_0) m0_2) - (wr64 (Int.tdiv (wr64 (w1 + 1)) 2)))), vI (wr64 ((mn (mn m0_1 m0_1) m0_3) - (wr64 (Int.tdiv (wr64 (w1 + 1)) 2))))], 2⟩, ⟨B0, [vI m0_0, vI m0_1, vI m0_2, vI m0_3], 4⟩] : List Own) := by
   exact hqf 12 [4, 5, 80, 81, 83] _ _ _ _ (by kernel_rfl) (by kernel_rfl) hg_4bfff
  have hg_bfff : G [true, true, true, true, true, true, true, true, true, true, true, true, true, true, false, true, false, false, false, false, false] [(4, vP b278 0), (5, vP b279 0), (76, .agg #[vI (wr64 ((mn (mn m0_0 m0_0) m0_2) - (wr64 (Int.tdiv (wr64 (w1 + 1)) 2)))), vI (wr64 ((mn (mn m0_1 m0_1) m0_3) - (wr64 (Int.tdiv (wr64 (w1 + 1)) 2))))]), (80, vI (wr64 ((mx (mx m0_0 m0_0) m0_2) + (wr64 (Int.tdiv (wr64 (w1 + 1)) 2))))), (81, vP g281 1), (83, vI (wr64 (Int.tdiv (wr64 (w1 + 1)) 2)))] ([⟨b284, [vI m0_2, vI m0_3], 2⟩, ⟨b283, [vI m0_0, vI m0_1], 2⟩, ⟨b282, [vI m0_0, vI m0_1, vI m0_2, vI m0_3], 4⟩, ⟨g281, [vI (mx (mx m0_0 m0_0) m0_2), vI (mx (mx m0_1 m0_1) m0_3)], 2⟩, ⟨g280, [vI (mn (mn m0_0 m0_0) m0_2), vI (mn (mn m0_1 m0_1) m0_3)], 2⟩, ⟨b279, [vI 0, vI 0], 2⟩, ⟨b278, [vI 0, vI 0], 2⟩, ⟨B0, [vI m0_0, vI m0_1, vI m0_2, vI m0_3], 4⟩] : List Own) := by
   refine hstep [14, 18] _ _ _ (by kernel_rfl) (List.cons_ne_nil _ _) ⟨?_, ?_, trivial⟩
   ·show T _ _ _ _ _ _ _ _
    refine t_v (.ld1 rfl rfl rfl (.at 3 rfl rfl)) ?_
    exact t_fin [4, 5, 76, 80, 82, 83] hg_ffff (by kernel_rfl)
   ·show T _ _ _ _ _ _ _ _
    refine t_sti 6 (cs := [vI (wr64 ((mn (mn m0_0 m0_0) m0_2) - (wr64 (Int.tdiv (wr64 (w1 + 1)) 2)))), vI (wr64 ((mn (mn m0_1 m0_1) m0_3) - (wr64 (Int.tdiv (wr64 (w1 + 1)) 2))))]) rfl rfl rfl rfl rfl rfl rfl rfl rfl ?_
    exact t_fin [4, 5, 80, 81, 83] hg_4bfff (by kernel_rfl)
  have hg_3fe5f : G [true, true, true, true, true, false, true, false, false, true, true, true, true, true, true, true, true, true, false, false, false] [(4, vP b278 0), (5, vP b279 0), (71, vI (wr64 ((mn (mn m0_0 m0_0) m0_2) - (wr64 (Int.tdiv (wr64 (w1 + 1)) 2))))), (72, vP g280 1), (74, vI (wr64 (Int.tdiv (wr64 (w1 + 1)) 2))), (85, .agg #[vI (wr64 ((mx (mx m0_0 m0_0) m0_2) + (wr64 (Int.tdiv (wr64 (w1 + 1)) 2)))), vI (wr64 ((mx (mx m0_1 m0_1) m0_3) + (wr64 (Int.tdiv (wr64 (w1 + 1)) 2))))])] ([⟨b284, [vI m0_2, vI m0_3], 2⟩, ⟨b283, [vI m0_0, vI m0_1], 2⟩, ⟨b282, [vI m0_0, vI m0_1, vI m0_2, vI m0_3], 4⟩, ⟨g281, [vI (mx (mx m0_0 m0_0) m0_2), vI (mx (mx m0_1 m0_1) m0_3)], 2⟩, ⟨g280, [vI (mn (mn m0_0 m0_0) m0_2), vI (mn (mn m0_1 m0_1) m0_3)], 2⟩, ⟨b279, [vI 0, vI 0], 2⟩, ⟨b278, [vI 0, vI 0], 2⟩, ⟨B0, [vI m0_0, vI m0_1, vI m0_2, vI m0_3], 4⟩] : List Own) := by
   refine hstep [5] _ _ _ (by kernel_rfl) (List.cons_ne_nil _ _) ⟨?_, trivial⟩
   ·show T _ _ _ _ _ _ _ _
    refine t_v (.ld1 rfl rfl rfl (.at 4 rfl rfl)) ?_
    exact t_fin [4, 5, 71, 73, 74, 85] hg_3fe7f (by kernel_rfl)
  have hg_1ebff : G [true, true, true, true, true, true, true, true, true, true, false, true, false, true, true, true, true, false, false, false, false] [(4, vP b278 0), (5, vP b279 0), (76, .agg #[vI (wr64 ((mn (mn m0_0 m0_0) m0_2) - (wr64 (Int.tdiv (wr64 (w1 + 1)) 2)))), vI (wr64 ((mn (mn m0_1 m0_1) m0_3) - (wr64 (Int.tdiv (wr64 (w1 + 1)) 2))))]), (77, vP g281 0), (79, vI (wr64 (Int.tdiv (wr64 (w1 + 1)) 2))), (84, vI (wr64 ((mx (mx m0_1 m0_1) m0_3) + (wr64 (Int.tdiv (wr64 (w1 + 1)) 2)))))] ([⟨b284, [vI m0_2, vI m0_3], 2⟩, ⟨b283, [vI m0_0, vI m0_1], 2⟩, ⟨b282, [vI m0_0, vI m0_1, vI m0_2, vI m0_3], 4⟩, ⟨g281, [vI (mx (mx m0_0 m0_0) m0_2), vI (mx (mx m0_1 m0_1) m0_3)], 2⟩, ⟨g280, [vI (mn (mn m0_0 m0_0) m0_2), vI (mn (mn m0_1 m0_1) m0_3)], 2⟩, ⟨b279, [vI 0, vI 0], 2⟩, ⟨b278, [vI 0, vI 0], 2⟩, ⟨B0, [vI m0_0, vI m0_1, vI m0_2, vI m0_3], 4⟩] : List Own) := by
   refine hstep [10, 18] _ _ _ (by kernel_rfl) (List.cons_ne_nil _ _) ⟨?_, ?_, trivial⟩
   ·show T _ _ _ _ _ _ _ _
    refine t_v (.ld1 rfl rfl rfl (.at 3 rfl rfl)) ?_
    exact t_fin [4, 5, 76, 78, 79, 84] hg_1efff (by kernel_rfl)
   ·show T _ _ _ _ _ _ _ _
    refine t_sti 6 (cs := [vI (wr64 ((mn (mn m0_0 m0_0) m0_2) - (wr64 (Int.tdiv (wr64 (w1 + 1)) 2)))), vI (wr64 ((mn (mn m0_1 m0_1) m0_3) - (wr64 (Int.tdiv (wr64 (w1 + 1)) 2))))]) rfl rfl rfl rfl rfl rfl rfl rfl rfl ?_
    exact t_fin [4, 5, 77, 79, 84] hg_5ebff (by kernel_rfl)
  have hg_3fef5 : G [true, false, true, false, true, true, true, true, false, true, true, true, true, true, true, true, true, true, false, false, false] [(4, vP b278 0), (5, vP b279 0), (68, vP g280 0), (70, vI (wr64 (Int.tdiv (wr64 (w1 + 1)) 2))), (75, vI (wr64 ((mn (mn m0_1 m0_1) m0_3) - (wr64 (Int.tdiv (wr64 (w1 + 1)) 2))))), (85, .agg #[vI (wr64 ((mx (mx m0_0 m0_0) m0_2) + (wr64 (Int.tdiv (wr64 (w1 + 1)) 2)))), vI (wr64 ((mx (mx m0_1 m0_1) m0_3) + (wr64 (Int.tdiv (wr64 (w1 + 1)) 2))))])] ([⟨b284, [vI m0_2, vI m0_3], 2⟩, ⟨b283, [vI m0_0, vI m0_1], 2⟩, ⟨b282, [vI m0_0, vI m0_1, vI m0_2, vI m0_3], 4⟩, ⟨g281, [vI (mx (mx m0_0 m0_0) m0_2), vI (mx (mx m0_1 m0_1) m0_3)], 2⟩, ⟨g280, [vI (mn (mn m0_0 m0_0) m0_2), vI (mn (mn m0_1 m0_1) m0_3)], 2⟩, ⟨b279, [vI 0, vI 0], 2⟩, ⟨b278, [vI 0, vI 0], 2⟩, ⟨B0, [vI m0_0, vI m0_1, vI m0_2, vI m0_3], 4⟩] : List Own) := by
   refine hstep [1] _ _ _ (by kernel_rfl) (List.cons_ne_nil _ _) ⟨?_, trivial⟩
   ·show T _ _ _ _ _ _ _ _
    refine t_v (.ld1 rfl rfl rfl (.at 4 rfl rfl)) ?_
    exact t_fin [4, 5, 69, 70, 75, 85] hg_3fef7 (by kernel_rfl)
  have hg_ebff : G [true, true, true, true, true, true, true, true, true, true, false, true, false, true, true, true, false, false, false, false, false] [(4, vP b278 0), (5, vP b279 0), (76, .agg #[vI (wr64 ((mn (mn m0_0 m0_0) m0_2) - (wr64 (Int.tdiv (wr64 (w1 + 1)) 2)))), vI (wr64 ((mn (mn m0_1 m0_1) m0_3) - (wr64 (Int.tdiv (wr64 (w1 + 1)) 2))))]), (77, vP g281 0), (79, vI (wr64 (Int.tdiv (wr64 (w1 + 1)) 2))), (82, vI (mx (mx m0_1 m0_1) m0_3)), (83, vI (wr64 (Int.tdiv (wr64 (w1 + 1)) 2)))] ([⟨b284, [vI m0_2, vI m0_3], 2⟩, ⟨b283, [vI m0_0, vI m0_1], 2⟩, ⟨b282, [vI m0_0, vI m0_1, vI m0_2, vI m0_3], 4⟩, ⟨g281, [vI (mx (mx m0_0 m0_0) m0_2), vI (mx (mx m0_1 m0_1) m0_3)], 2⟩, ⟨g280, [vI (mn (mn m0_0 m0_0) m0_2), vI (mn (mn m0_1 m0_1) m0_3)], 2⟩, ⟨b279, [vI 0, vI 0], 2⟩, ⟨b278, [vI 0, vI 0], 2⟩, ⟨B0, [vI m0_0, vI m0_1, vI m0_2, vI m0_3], 4⟩] : List Own) := by
   exact hqf 16 [4, 5, 76, 77, 79, 84] _ _ _ _ (by kernel_rfl) (by kernel_rfl) hg_1ebff
  have hg_afff : G [true, true, true, true, true, true, true, true, true, true, true, true, false, true, false, true, false, false, false, false, false] [(4, vP b278 0), (5, vP b279 0), (76, .agg #[vI (wr64 ((mn (mn m0_0 m0_0) m0_2) - (wr64 (Int.tdiv (wr64 (w1 + 1)) 2)))), vI (wr64 ((mn (mn m0_1 m0_1) m0_3) - (wr64 (Int.tdiv (wr64 (w1 + 1)) 2))))]), (78, vI (mx (mx m0_0 m0_0) m0_2)), (79, vI (wr64 (Int.tdiv (wr64 (w1 + 1)) 2))), (81, vP g281 1), (83, vI (wr64 (Int.tdiv (wr64 (w1 + 1)) 2)))] ([⟨b284, [vI m0_2, vI m0_3], 2⟩, ⟨b283, [vI m0_0, vI m0_1], 2⟩, ⟨b282, [vI m0_0, vI m0_1, vI m0_2, vI m0_3], 4⟩, ⟨g281, [vI (mx (mx m0_0 m0_0) m0_2), vI (mx (mx m0_1 m0_1) m0_3)], 2⟩, ⟨g280, [vI (mn (mn m0_0 m0_0) m0_2), vI (mn (mn m0_1 m0_1) m0_3)], 2⟩, ⟨b279, [vI 0, vI 0], 2⟩, ⟨b278, [vI 0, vI 0], 2⟩, ⟨B0, [vI m0_0, vI m0_1, vI m0_2, vI m0_3], 4⟩] : List Own) := by
   exact hqf 12 [4, 5, 76, 80, 81, 83] _ _ _ _ (by kernel_rfl) (by kernel_rfl) hg_bfff
  have hg_1fe5f : G [true, true, true, true, true, false, true, false, false, true, true, true, true, true, true, true, true, false, false, false, false] [(4, vP b278 0), (5, vP b279 0), (71, vI (wr64 ((mn (mn m0_0 m0_0) m0_2) - (wr64 (Int.tdiv (wr64 (w1 + 1)) 2))))), (72, vP g280 1), (74, vI (wr64 (Int.tdiv (wr64 (w1 + 1)) 2))), (80, vI (wr64 ((mx (mx m0_0 m0_0) m0_2) + (wr64 (Int.tdiv (wr64 (w1 + 1)) 2))))), (84, vI (wr64 ((mx (mx m0_1 m0_1) m0_3) + (wr64 (Int.tdiv (wr64 (w1 + 1)) 2)))))] ([⟨b284, [vI m0_2, vI m0_3], 2⟩, ⟨b283, [vI m0_0, vI m0_1], 2⟩, ⟨b282, [vI m0_0, vI m0_1, vI m0_2, vI m0_3], 4⟩, ⟨g281, [vI (mx (mx m0_0 m0_0) m0_2), vI (mx (mx m0_1 m0_1) m0_3)], 2⟩, ⟨g280, [vI (mn (mn m0_0 m0_0) m0_2), vI (mn (mn m0_1 m0_1) m0_3)], 2⟩, ⟨b279, [vI 0, vI 0], 2⟩, ⟨b278, [vI 0, vI 0], 2⟩, ⟨B0, [vI m0_0, vI m0_1, vI m0_2, vI m0_3], 4⟩] : List Own) := by
   exact hqf 17 [4, 5, 71, 72, 74, 85] _ _ _ _ (by kernel_rfl) (by kernel_rfl) hg_3fe5f
  have hg_1eaff : G [true, true, true, true, true, true, true, true, false, true, false, true, false, true, true, true, true, false, false, false, false] [(4, vP b278 0), (5, vP b279 0), (71, vI (wr64 ((mn (mn m0_0 m0_0) m0_2) - (wr64 (Int.tdiv (wr64 (w1 + 1)) 2))))), (75, vI (wr64 ((mn (mn m0_1 m0_1) m0_3) - (wr64 (Int.tdiv (wr64 (w1 + 1)) 2))))), (77, vP g281 0), (79, vI (wr64 (Int.tdiv (wr64 (w1 + 1)) 2))), (84, vI (wr64 ((mx (mx m0_1 m0_1) m0_3) + (wr64 (Int.tdiv (wr64 (w1 + 1)) 2)))))] ([⟨b284, [vI m0_2, vI m0_3], 2⟩, ⟨b283, [vI m0_0, vI m0_1], 2⟩, ⟨b282, [vI m0_0, vI m0_1, vI m0_2, vI m0_3], 4⟩, ⟨g281, [vI (mx (mx m0_0 m0_0) m0_2), vI (mx (mx m0_1 m0_1) m0_3)], 2⟩, ⟨g280, [vI (mn (mn m0_0 m0_0) m0_2), vI (mn (mn m0_1 m0_1) m0_3)], 2⟩, ⟨b279, [vI 0, vI 0], 2⟩, ⟨b278, [vI 0, vI 0], 2⟩, ⟨B0, [vI m0_0, vI m0_1, vI m0_2, vI m0_3], 4⟩] : List Own) := by
   exact hqf 8 [4, 5, 76, 77, 79, 84] _ _ _ _ (by kernel_rfl) (by kernel_rfl) hg_1ebff
  have hg_3fe57 : G [true, true, true, false, true, false, true, false, false, true, true, true, true, true, true, true, true, true, false, false, false] [(4, vP b278 0), (5, vP b279 0), (69, vI (mn (mn m0_0 m0_0) m0_2)), (70, vI (wr64 (Int.tdiv (wr64 (w1 + 1)) 2))), (72, vP g280 1), (74, vI (wr64 (Int.tdiv (wr64 (w1 + 1)) 2))), (85, .agg #[vI (wr64 ((mx (mx m0_0 m0_0) m0_2) + (wr64 (Int.tdiv (wr64 (w1 + 1)) 2)))), vI (wr64 ((mx (mx m0_1 m0_1) m0_3) + (wr64 (Int.tdiv (wr64 (w1 + 1)) 2))))])] ([⟨b284, [vI m0_2, vI m0_3], 2⟩, ⟨b283, [vI m0_0, vI m0_1], 2⟩, ⟨b282, [vI m0_0, vI m0_1, vI m0_2, vI m0_3], 4⟩, ⟨g281, [vI (mx (mx m0_0 m0_0) m0_2), vI (mx (mx m0_1 m0_1) m0_3)], 2⟩, ⟨g280, [vI (mn (mn m0_0 m0_0) m0_2), vI (mn (mn m0_1 m0_1) m0_3)], 2⟩, ⟨b279, [vI 0, vI 0], 2⟩, ⟨b278, [vI 0, vI 0], 2⟩, ⟨B0, [vI m0_0, vI m0_1, vI m0_2, vI m0_3], 4⟩] : List Own) := by
   exact hqf 3 [4, 5, 71, 72, 74, 85] _ _ _ _ (by kernel_rfl) (by kernel_rfl) hg_3fe5f
  have hg_beff : G [true, true, true, true, true, true, true, true, false, true, true, true, true, true, false, true, false, false, false, false, false] [(4, vP b278 0), (5, vP b279 0), (71, vI (wr64 ((mn (mn m0_0 m0_0) m0_2) - (wr64 (Int.tdiv (wr64 (w1 + 1)) 2))))), (75, vI (wr64 ((mn (mn m0_1 m0_1) m0_3) - (wr64 (Int.tdiv (wr64 (w1 + 1)) 2))))), (80, vI (wr64 ((mx (mx m0_0 m0_0) m0_2) + (wr64 (Int.tdiv (wr64 (w1 + 1)) 2))))), (81, vP g281 1), (83, vI (wr64 (Int.tdiv (wr64 (w1 + 1)) 2)))] ([⟨b284, [vI m0_2, vI m0_3], 2⟩, ⟨b283, [vI m0_0, vI m0_1], 2⟩, ⟨b282, [vI m0_0, vI m0_1, vI m0_2, vI m0_3], 4⟩, ⟨g281, [vI (mx (mx m0_0 m0_0) m0_2), vI (mx (mx m0_1 m0_1) m0_3)], 2⟩, ⟨g280, [vI (mn (mn m0_0 m0_0) m0_2), vI (mn (mn m0_1 m0_1) m0_3)], 2⟩, ⟨b279, [vI 0, vI 0], 2⟩, ⟨b278, [vI 0, vI 0], 2⟩, ⟨B0, [vI m0_0, vI m0_1, vI m0_2, vI m0_3], 4⟩] : List Own) := by
   exact hqf 8 [4, 5, 76, 80, 81, 83] _ _ _ _ (by kernel_rfl) (by kernel_rfl) hg_bfff
  have hg_4abff : G [true, true, true, true, true, true, true, true, true, true, false, true, false, true, false, true, false, false, true, false, false] [(4, vP b278 0), (5, vP b279 0), (77, vP g281 0), (79, vI (wr64 (Int.tdiv (wr64 (w1 + 1)) 2))), (81, vP g281 1), (83, vI (wr64 (Int.tdiv (wr64 (w1 + 1)) 2)))] ([⟨b284, [vI m0_2, vI m0_3], 2⟩, ⟨b283, [vI m0_0, vI m0_1], 2⟩, ⟨b282, [vI m0_0, vI m0_1, vI m0_2, vI m0_3], 4⟩, ⟨g281, [vI (mx (mx m0_0 m0_0) m0_2), vI (mx (mx m0_1 m0_1) m0_3)], 2⟩, ⟨g280, [vI (mn (mn m0_0 m0_0) m0_2), vI (mn (mn m0_1 m0_1) m0_3)], 2⟩, ⟨b279, [vI 0, vI 0], 2⟩, ⟨b278, [vI (wr64 ((mn (mn m0_0 m0_0) m0_2) - (wr64 (Int.tdiv (wr64 (w1 + 1)) 2)))), vI (wr64 ((mn (mn m0_1 m0_1) m0_3) - (wr64 (Int.tdiv (wr64 (w1 + 1)) 2))))], 2⟩, ⟨B0, [vI m0_0, vI m0_1, vI m0_2, vI m0_3], 4⟩] : List Own) := by
   refine hstep [10, 14] _ _ _ (by kernel_rfl) (List.cons_ne_nil _ _) ⟨?_, ?_, trivial⟩
   ·show T _ _ _ _ _ _ _ _
    refine t_v (.ld1 rfl rfl rfl (.at 3 rfl rfl)) ?_
    exact t_fin [4, 5, 78, 79, 81, 83] hg_4afff (by kernel_rfl)
   ·show T _ _ _ _ _ _ _ _
    refine t_v (.ld1 rfl rfl rfl (.at 3 rfl rfl)) ?_
    exact t_fin [4, 5, 77, 79, 82, 83] hg_4ebff (by kernel_rfl)
  have hg_3fe75 : G [true, false, true, false, true, true, true, false, false, true, true, true, true, true, true, true, true, true, false, false, false] [(4, vP b278 0), (5, vP b279 0), (68, vP g280 0), (70, vI (wr64 (Int.tdiv (wr64 (w1 + 1)) 2))), (73, vI (mn (mn m0_1 m0_1) m0_3)), (74, vI (wr64 (Int.tdiv (wr64 (w1 + 1)) 2))), (85, .agg #[vI (wr64 ((mx (mx m0_0 m0_0) m0_2) + (wr64 (Int.tdiv (wr64 (w1 + 1)) 2)))), vI (wr64 ((mx (mx m0_1 m0_1) m0_3) + (wr64 (Int.tdiv (wr64 (w1 + 1)) 2))))])] ([⟨b284, [vI m0_2, vI m0_3], 2⟩, ⟨b283, [vI m0_0, vI m0_1], 2⟩, ⟨b282, [vI m0_0, vI m0_1, vI m0_2, vI m0_3], 4⟩, ⟨g281, [vI (mx (mx m0_0 m0_0) m0_2), vI (mx (mx m0_1 m0_1) m0_3)], 2⟩, ⟨g280, [vI (mn (mn m0_0 m0_0) m0_2), vI (mn (mn m0_1 m0_1) m0_3)], 2⟩, ⟨b279, [vI 0, vI 0], 2⟩, ⟨b278, [vI 0, vI 0], 2⟩, ⟨B0, [vI m0_0, vI m0_1, vI m0_2, vI m0_3], 4⟩] : List Own) := by
   exact hqf 7 [4, 5, 68, 70, 75, 85] _ _ _ _ (by kernel_rfl) (by kernel_rfl) hg_3fef5
  have hg_1fef5 : G [true, false, true, false, true, true, true, true, false, true, true, true, true, true, true, true, true, false, false, false, false] [(4, vP b278 0), (5, vP b279 0), (68, vP g280 0), (70, vI (wr64 (Int.tdiv (wr64 (w1 + 1)) 2))), (75, vI (wr64 ((mn (mn m0_1 m0_1) m0_3) - (wr64 (Int.tdiv (wr64 (w1 + 1)) 2))))), (80, vI (wr64 ((mx (mx m0_0 m0_0) m0_2) + (wr64 (Int.tdiv (wr64 (w1 + 1)) 2))))), (84, vI (wr64 ((mx (mx m0_1 m0_1) m0_3) + (wr64 (Int.tdiv (wr64 (w1 + 1)) 2)))))] ([⟨b284, [vI m0_2, vI m0_3], 2⟩, ⟨b283, [vI m0_0, vI m0_1], 2⟩, ⟨b282, [vI m0_0, vI m0_1, vI m0_2, vI m0_3], 4⟩, ⟨g281, [vI (mx (mx m0_0 m0_0) m0_2), vI (mx (mx m0_1 m0_1) m0_3)], 2⟩, ⟨g280, [vI (mn (mn m0_0 m0_0) m0_2), vI (mn (mn m0_1 m0_1) m0_3)], 2⟩, ⟨b279, [vI 0, vI 0], 2⟩, ⟨b278, [vI 0, vI 0], 2⟩, ⟨B0, [vI m0_0, vI m0_1, vI m0_2, vI m0_3], 4⟩] : List Own) := by
   exact hqf 17 [4, 5, 68, 70, 75, 85] _ _ _ _ (by kernel_rfl) (by kernel_rfl) hg_3fef5
  have hg_1eaf7 : G [true, true, true, false, true, true, true, true, false, true, false, true, false, true, true, true, true, false, false, false, false] [(4, vP b278 0), (5, vP b279 0), (69, vI (mn (mn m0_0 m0_0) m0_2)), (70, vI (wr64 (Int.tdiv (wr64 (w1 + 1)) 2))), (75, vI (wr64 ((mn (mn m0_1 m0_1) m0_3) - (wr64 (Int.tdiv (wr64 (w1 + 1)) 2))))), (77, vP g281 0), (79, vI (wr64 (Int.tdiv (wr64 (w1 + 1)) 2))), (84, vI (wr64 ((mx (mx m0_1 m0_1) m0_3) + (wr64 (Int.tdiv (wr64 (w1 + 1)) 2)))))] ([⟨b284, [vI m0_2, vI m0_3], 2⟩, ⟨b283, [vI m0_0, vI m0_1], 2⟩, ⟨b282, [vI m0_0, vI m0_1, vI m0_2, vI m0_3], 4⟩, ⟨g281, [vI (mx (mx m0_0 m0_0) m0_2), vI (mx (mx m0_1 m0_1) m0_3)], 2⟩, ⟨g280, [vI (mn (mn m0_0 m0_0) m0_2), vI (mn (mn m0_1 m0_1) m0_3)], 2⟩, ⟨b279, [vI 0, vI 0], 2⟩, ⟨b278, [vI 0, vI 0], 2⟩, ⟨B0, [vI m0_0, vI m0_1, vI m0_2, vI m0_3], 4⟩] : List Own) := by
   exact hqf 3 [4, 5, 71, 75, 77, 79, 84] _ _ _ _ (by kernel_rfl) (by kernel_rfl) hg_1eaff
  have hg_fef5 : G [true, false, true, false, true, true, true, true, false, true, true, true, true, true, true, true, false, false, false, false, false] [(4, vP b278 0), (5, vP b279 0), (68, vP g280 0), (70, vI (wr64 (Int.tdiv (wr64 (w1 + 1)) 2))), (75, vI (wr64 ((mn (mn m0_1 m0_1) m0_3) - (wr64 (Int.tdiv (wr64 (w1 + 1)) 2))))), (80, vI (wr64 ((mx (mx m0_0 m0_0) m0_2) + (wr64 (Int.tdiv (wr64 (w1 + 1)) 2))))), (82, vI (mx (mx m0_1 m0_1) m0_3)), (83, vI (wr64 (Int.tdiv (wr64 (w1 + 1)) 2)))] ([⟨b284, [vI m0_2, vI m0_3], 2⟩, ⟨b283, [vI m0_0, vI m0_1], 2⟩, ⟨b282, [vI m0_0, vI m0_1, vI m0_2, vI m0_3], 4⟩, ⟨g281, [vI (mx (mx m0_0 m0_0) m0_2), vI (mx (mx m0_1 m0_1) m0_3)], 2⟩, ⟨g280, [vI (mn (mn m0_0 m0_0) m0_2), vI (mn (mn m0_1 m0_1) m0_3)], 2⟩, ⟨b279, [vI 0, vI 0], 2⟩, ⟨b278, [vI 0, vI 0], 2⟩, ⟨B0, [vI m0_0, vI m0_1, vI m0_2, vI m0_3], 4⟩] : List Own) := by
   exact hqf 16 [4, 5, 68, 70, 75, 80, 84] _ _ _ _ (by kernel_rfl) (by kernel_rfl) hg_1fef5
  have hg_bef7 : G [true, true, true, false, true, true, true, true, false, true, true, true, true, true, false, true, false, false, false, false, false] [(4, vP b278 0), (5, vP b279 0), (69, vI (mn (mn m0_0 m0_0) m0_2)), (70, vI (wr64 (Int.tdiv (wr64 (w1 + 1)) 2))), (75, vI (wr64 ((mn (mn m0_1 m0_1) m0_3) - (wr64 (Int.tdiv (wr64 (w1 + 1)) 2))))), (80, vI (wr64 ((mx (mx m0_0 m0_0) m0_2) + (wr64 (Int.tdiv (wr64 (w1 + 1)) 2))))), (81, vP g281 1), (83, vI (wr64 (Int.tdiv (wr64 (w1 + 1)) 2)))] ([⟨b284, [vI m0_2, vI m0_3], 2⟩, ⟨b283, [vI m0_0, vI m0_1], 2⟩, ⟨b282, [vI m0_0, vI m0_1, vI m0_2, vI m0_3], 4⟩, ⟨g281, [vI (mx (mx m0_0 m0_0) m0_2), vI (mx (mx m0_1 m0_1) m0_3)], 2⟩, ⟨g280, [vI (mn (mn m0_0 m0_0) m0_2), vI (mn (mn m0_1 m0_1) m0_3)], 2⟩, ⟨b279, [vI 0, vI 0], 2⟩, ⟨b278, [vI 0, vI 0], 2⟩, ⟨B0, [vI m0_0, vI m0_1, vI m0_2, vI m0_3], 4⟩] : List Own) := by
   exact hqf 3 [4, 5, 71, 75, 80, 81, 83] _ _ _ _ (by kernel_rfl) (by kernel_rfl) hg_beff
  have hg_1ea7f : G [true, true, true, true, true, true, true, false, false, true, false, true, false, true, true, true, true, false, false, false, false] [(4, vP b278 0), (5, vP b279 0), (71, vI (wr64 ((mn (mn m0_0 m0_0) m0_2) - (wr64 (Int.tdiv (wr64 (w1 + 1)) 2))))), (73, vI (mn (mn m0_1 m0_1) m0_3)), (74, vI (wr64 (Int.tdiv (wr64 (w1 + 1)) 2))), (77, vP g281 0), (79, vI (wr64 (Int.tdiv (wr64 (w1 + 1)) 2))), (84, vI (wr64 ((mx (mx m0_1 m0_1) m0_3) + (wr64 (Int.tdiv (wr64 (w1 + 1)) 2)))))] ([⟨b284, [vI m0_2, vI m0_3], 2⟩, ⟨b283, [vI m0_0, vI m0_1], 2⟩, ⟨b282, [vI m0_0, vI m0_1, vI m0_2, vI m0_3], 4⟩, ⟨g281, [vI (mx (mx m0_0 m0_0) m0_2), vI (mx (mx m0_1 m0_1) m0_3)], 2⟩, ⟨g280, [vI (mn (mn m0_0 m0_0) m0_2), vI (mn (mn m0_1 m0_1) m0_3)], 2⟩, ⟨b279, [vI 0, vI 0], 2⟩, ⟨b278, [vI 0, vI 0], 2⟩, ⟨B0, [vI m0_0, vI m0_1, vI m0_2, vI m0_3], 4⟩] : List Own) := by
   exact hqf 7 [4, 5, 71, 75, 77, 79, 84] _ _ _ _ (by kernel_rfl) (by kernel_rfl) hg_1eaff
  have hg_fe5f : G [true, true, true, true, true, false, true, false, false, true, true, true, true, true, true, true, false, false, false, false, false] [(4, vP b278 0), (5, vP b279 0), (71, vI (wr64 ((mn (mn m0_0 m0_0) m0_2) - (wr64 (Int.tdiv (wr64 (w1 + 1)) 2))))), (72, vP g280 1), (74, vI (wr64 (Int.tdiv (wr64 (w1 + 1)) 2))), (80, vI (wr64 ((mx (mx m0_0 m0_0) m0_2) + (wr64 (Int.tdiv (wr64 (w1 + 1)) 2))))), (82, vI (mx (mx m0_1 m0_1) m0_3)), (83, vI (wr64 (Int.tdiv (wr64 (w1 + 1)) 2)))] ([⟨b284, [vI m0_2, vI m0_3], 2⟩, ⟨b283, [vI m0_0, vI m0_1], 2⟩, ⟨b282, [vI m0_0, vI m0_1, vI m0_2, vI m0_3], 4⟩, ⟨g281, [vI (mx (mx m0_0 m0_0) m0_2), vI (mx (mx m0_1 m0_1) m0_3)], 2⟩, ⟨g280, [vI (mn (mn m0_0 m0_0) m0_2), vI (mn (mn m0_1 m0_1) m0_3)], 2⟩, ⟨b279, [vI 0, vI 0], 2⟩, ⟨b278, [vI 0, vI 0], 2⟩, ⟨B0, [vI m0_0, vI m0_1, vI m0_2, vI m0_3], 4⟩] : List Own) := by
   exact hqf 16 [4, 5, 71, 72, 74, 80, 84] _ _ _ _ (by kernel_rfl) (by kernel_rfl) hg_1fe5f
  have hg_3fe55 : G [true, false, true, false, true, false, true, false, false, true, true, true, true, true, true, true, true, true, false, false, false] [(4, vP b278 0), (5, vP b279 0), (68, vP g280 0), (70, vI (wr64 (Int.tdiv (wr64 (w1 + 1)) 2))), (72, vP g280 1), (74, vI (wr64 (Int.tdiv (wr64 (w1 + 1)) 2))), (85, .agg #[vI (wr64 ((mx (mx m0_0 m0_0) m0_2) + (wr64 (Int.tdiv (wr64 (w1 + 1)) 2)))), vI (wr64 ((mx (mx m0_1 m0_1) m0_3) + (wr64 (Int.tdiv (wr64 (w1 + 1)) 2))))])] ([⟨b284, [vI m0_2, vI m0_3], 2⟩, ⟨b283, [vI m0_0, vI m0_1], 2⟩, ⟨b282, [vI m0_0, vI m0_1, vI m0_2, vI m0_3], 4⟩, ⟨g281, [vI (mx (mx m0_0 m0_0) m0_2), vI (mx (mx m0_1 m0_1) m0_3)], 2⟩, ⟨g280, [vI (mn (mn m0_0 m0_0) m0_2), vI (mn (mn m0_1 m0_1) m0_3)], 2⟩, ⟨b279, [vI 0, vI 0], 2⟩, ⟨b278, [vI 0, vI 0], 2⟩, ⟨B0, [vI m0_0, vI m0_1, vI m0_2, vI m0_3], 4⟩] : List Own) := by
   refine hstep [1, 5] _ _ _ (by kernel_rfl) (List.cons_ne_nil _ _) ⟨?_, ?_, trivial⟩
   ·show T _ _ _ _ _ _ _ _
    refine t_v (.ld1 rfl rfl rfl (.at 4 rfl rfl)) ?_
    exact t_fin [4, 5, 69, 70, 72, 74, 85] hg_3fe57 (by kernel_rfl)
   ·show T _ _ _ _ _ _ _ _
    refine t_v (.ld1 rfl rfl rfl (.at 4 rfl rfl)) ?_
    exact t_fin [4, 5, 68, 70, 73, 74, 85] hg_3fe75 (by kernel_rfl)
  have hg_1ee5f : G [true, true, true, true, true, false, true, false, false, true, true, true, false, true, true, true, true, false, false, false, false] [(4, vP b278 0), (5, vP b279 0), (71, vI (wr64 ((mn (mn m0_0 m0_0) m0_2) - (wr64 (Int.tdiv (wr64 (w1 + 1)) 2))))), (72, vP g280 1), (74, vI (wr64 (Int.tdiv (wr64 (w1 + 1)) 2))), (78, vI (mx (mx m0_0 m0_0) m0_2)), (79, vI (wr64 (Int.tdiv (wr64 (w1 + 1)) 2))), (84, vI (wr64 ((mx (mx m0_1 m0_1) m0_3) + (wr64 (Int.tdiv (wr64 (w1 + 1)) 2)))))] ([⟨b284, [vI m0_2, vI m0_3], 2⟩, ⟨b283, [vI m0_0, vI m0_1], 2⟩, ⟨b282, [vI m0_0, vI m0_1, vI m0_2, vI m0_3], 4⟩, ⟨g281, [vI (mx (mx m0_0 m0_0) m0_2), vI (mx (mx m0_1 m0_1) m0_3)], 2⟩, ⟨g280, [vI (mn (mn m0_0 m0_0) m0_2), vI (mn (mn m0_1 m0_1) m0_3)], 2⟩, ⟨b279, [vI 0, vI 0], 2⟩, ⟨b278, [vI 0, vI 0], 2⟩, ⟨B0, [vI m0_0, vI m0_1, vI m0_2, vI m0_3], 4⟩] : List Own) := by
   exact hqf 12 [4, 5, 71, 72, 74, 80, 84] _ _ _ _ (by kernel_rfl) (by kernel_rfl) hg_1fe5f
  have hg_be7f : G [true, true, true, true, true, true, true, false, false, true, true, true, true, true, false, true, false, false, false, false, false] [(4, vP b278 0), (5, vP b279 0), (71, vI (wr64 ((mn (mn m0_0 m0_0) m0_2) - (wr64 (Int.tdiv (wr64 (w1 + 1)) 2))))), (73, vI (mn (mn m0_1 m0_1) m0_3)), (74, vI (wr64 (Int.tdiv (wr64 (w1 + 1)) 2))), (80, vI (wr64 ((mx (mx m0_0 m0_0) m0_2) + (wr64 (Int.tdiv (wr64 (w1 + 1)) 2))))), (81, vP g281 1), (83, vI (wr64 (Int.tdiv (wr64 (w1 + 1)) 2)))] ([⟨b284, [vI m0_2, vI m0_3], 2⟩, ⟨b283, [vI m0_0, vI m0_1], 2⟩, ⟨b282, [vI m0_0, vI m0_1, vI m0_2, vI m0_3], 4⟩, ⟨g281, [vI (mx (mx m0_0 m0_0) m0_2), vI (mx (mx m0_1 m0_1) m0_3)], 2⟩, ⟨g280, [vI (mn (mn m0_0 m0_0) m0_2), vI (mn (mn m0_1 m0_1) m0_3)], 2⟩, ⟨b279, [vI 0, vI 0], 2⟩, ⟨b278, [vI 0, vI 0], 2⟩, ⟨B0, [vI m0_0, vI m0_1, vI m0_2, vI m0_3], 4⟩] : List Own) := by
   exact hqf 7 [4, 5, 71, 75, 80, 81, 83] _ _ _ _ (by kernel_rfl) (by kernel_rfl) hg_beff
  have hg_abff : G [true, true, true, true, true, true, true, true, true, true, false, true, false, true, false, true, false, false, false, false, false] [(4, vP b278 0), (5, vP b279 0), (76, .agg #[vI (wr64 ((mn (mn m0_0 m0_0) m0_2) - (wr64 (Int.tdiv (wr64 (w1 + 1)) 2)))), vI (wr64 ((mn (mn m0_1 m0_1) m0_3) - (wr64 (Int.tdiv (wr64 (w1 + 1)) 2))))]), (77, vP g281 0), (79, vI (wr64 (Int.tdiv (wr64 (w1 + 1)) 2))), (81, vP g281 1), (83, vI (wr64 (Int.tdiv (wr64 (w1 + 1)) 2)))] ([⟨b284, [vI m0_2, vI m0_3], 2⟩, ⟨b283, [vI m0_0, vI m0_1], 2⟩, ⟨b282, [vI m0_0, vI m0_1, vI m0_2, vI m0_3], 4⟩, ⟨g281, [vI (mx (mx m0_0 m0_0) m0_2), vI (mx (mx m0_1 m0_1) m0_3)], 2⟩, ⟨g280, [vI (mn (mn m0_0 m0_0) m0_2), vI (mn (mn m0_1 m0_1) m0_3)], 2⟩, ⟨b279, [vI 0, vI 0], 2⟩, ⟨b278, [vI 0, vI 0], 2⟩, ⟨B0, [vI m0_0, vI m0_1, vI m0_2, vI m0_3], 4⟩] : List Own) := by
   refine hstep [10, 14, 18] _ _ _ (by kernel_rfl) (List.cons_ne_nil _ _) ⟨?_, ?_, ?_, trivial⟩
   ·show T _ _ _ _ _ _ _ _
    refine t_v (.ld1 rfl rfl rfl (.at 3 rfl rfl)) ?_
    exact t_fin [4, 5, 76, 78, 79, 81, 83] hg_afff (by kernel_rfl)
   ·show T _ _ _ _ _ _ _ _
    refine t_v (.ld1 rfl rfl rfl (.at 3 rfl rfl)) ?_
    exact t_fin [4, 5, 76, 77, 79, 82, 83] hg_ebff (by kernel_rfl)
   ·show T _ _ _ _ _ _ _ _
    refine t_sti 6 (cs := [vI (wr64 ((mn (mn m0_0 m0_0) m0_2) - (wr64 (Int.tdiv (wr64 (w1 + 1)) 2)))), vI (wr64 ((mn (mn m0_1 m0_1) m0_3) - (wr64 (Int.tdiv (wr64 (w1 + 1)) 2))))]) rfl rfl rfl rfl rfl rfl rfl rfl rfl ?_
    exact t_fin [4, 5, 77, 79, 81, 83] hg_4abff (by kernel_rfl)
  have hg_1eef5 : G [true, false, true, false, true, true, true, true, false, true, true, true, false, true, true, true, true, false, false, false, false] [(4, vP b278 0), (5, vP b279 0), (68, vP g280 0), (70, vI (wr64 (Int.tdiv (wr64 (w1 + 1)) 2))), (75, vI (wr64 ((mn (mn m0_1 m0_1) m0_3) - (wr64 (Int.tdiv (wr64 (w1 + 1)) 2))))), (78, vI (mx (mx m0_0 m0_0) m0_2)), (79, vI (wr64 (Int.tdiv (wr64 (w1 + 1)) 2))), (84, vI (wr64 ((mx (mx m0_1 m0_1) m0_3) + (wr64 (Int.tdiv (wr64 (w1 + 1)) 2)))))] ([⟨b284, [vI m0_2, vI m0_3], 2⟩, ⟨b283, [vI m0_0, vI m0_1], 2⟩, ⟨b282, [vI m0_0, vI m0_1, vI m0_2, vI m0_3], 4⟩, ⟨g281, [vI (mx (mx m0_0 m0_0) m0_2), vI (mx (mx m0_1 m0_1) m0_3)], 2⟩, ⟨g280, [vI (mn (mn m0_0 m0_0) m0_2), vI (mn (mn m0_1 m0_1) m0_3)], 2⟩, ⟨b279, [vI 0, vI 0], 2⟩, ⟨b278, [vI 0, vI 0], 2⟩, ⟨B0, [vI m0_0, vI m0_1, vI m0_2, vI m0_3], 4⟩] : List Own) := by
   exact hqf 12 [4, 5, 68, 70, 75, 80, 84] _ _ _ _ (by kernel_rfl) (by kernel_rfl) hg_1fef5
  have hg_bef5 : G [true, false, true, false, true, true, true, true, false, true, true, true, true, true, false, true, false, false, false, false, false] [(4, vP b278 0), (5, vP b279 0), (68, vP g280 0), (70, vI (wr64 (Int.tdiv (wr64 (w1 + 1)) 2))), (75, vI (wr64 ((mn (mn m0_1 m0_1) m0_3) - (wr64 (Int.tdiv (wr64 (w1 + 1)) 2))))), (80, vI (wr64 ((mx (mx m0_0 m0_0) m0_2) + (wr64 (Int.tdiv (wr64 (w1 + 1)) 2))))), (81, vP g281 1), (83, vI (wr64 (Int.tdiv (wr64 (w1 + 1)) 2)))] ([⟨b284, [vI m0_2, vI m0_3], 2⟩, ⟨b283, [vI m0_0, vI m0_1], 2⟩, ⟨b282, [vI m0_0, vI m0_1, vI m0_2, vI m0_3], 4⟩, ⟨g281, [vI (mx (mx m0_0 m0_0) m0_2), vI (mx (mx m0_1 m0_1) m0_3)], 2⟩, ⟨g280, [vI (mn (mn m0_0 m0_0) m0_2), vI (mn (mn m0_1 m0_1) m0_3)], 2⟩, ⟨b279, [vI 0, vI 0], 2⟩, ⟨b278, [vI 0, vI 0], 2⟩, ⟨B0, [vI m0_0, vI m0_1, vI m0_2, vI m0_3], 4⟩] : List Own) := by
   refine hstep [1, 14] _ _ _ (by kernel_rfl) (List.cons_ne_nil _ _) ⟨?_, ?_, trivial⟩
   ·show T _ _ _ _ _ _ _ _
    refine t_v (.ld1 rfl rfl rfl (.at 4 rfl rfl)) ?_
    exact t_fin [4, 5, 69, 70, 75, 80, 81, 83] hg_bef7 (by kernel_rfl)
   ·show T _ _ _ _ _ _ _ _
    refine t_v (.ld1 rfl rfl rfl (.at 3 rfl rfl)) ?_
    exact t_fin [4, 5, 68, 70, 75, 80, 82, 83] hg_fef5 (by kernel_rfl)
  have hg_be5f : G [true, true, true, true, true, false, true, false, false, true, true, true, true, true, false, true, false, false, false, false, false] [(4, vP b278 0), (5, vP b279 0), (71, vI (wr64 ((mn (mn m0_0 m0_0) m0_2) - (wr64 (Int.tdiv (wr64 (w1 + 1)) 2))))), (72, vP g280 1), (74, vI (wr64 (Int.tdiv (wr64 (w1 + 1)) 2))), (80, vI (wr64 ((mx (mx m0_0 m0_0) m0_2) + (wr64 (Int.tdiv (wr64 (w1 + 1)) 2))))), (81, vP g281 1), (83, vI (wr64 (Int.tdiv (wr64 (w1 + 1)) 2)))] ([⟨b284, [vI m0_2, vI m0_3], 2⟩, ⟨b283, [vI m0_0, vI m0_1], 2⟩, ⟨b282, [vI m0_0, vI m0_1, vI m0_2, vI m0_3], 4⟩, ⟨g281, [vI (mx (mx m0_0 m0_0) m0_2), vI (mx (mx m0_1 m0_1) m0_3)], 2⟩, ⟨g280, [vI (mn (mn m0_0 m0_0) m0_2), vI (mn (mn m0_1 m0_1) m0_3)], 2⟩, ⟨b279, [vI 0, vI 0], 2⟩, ⟨b278, [vI 0, vI 0], 2⟩, ⟨B0, [vI m0_0, vI m0_1, vI m0_2, vI m0_3], 4⟩] : List Own) := by
   refine hstep [5, 14] _ _ _ (by kernel_rfl) (List.cons_ne_nil _ _) ⟨?_, ?_, trivial⟩
   ·show T _ _ _ _ _ _ _ _
    refine t_v (.ld1 rfl rfl rfl (.at 4 rfl rfl)) ?_
    exact t_fin [4, 5, 71, 73, 74, 80, 81, 83] hg_be7f (by kernel_rfl)
   ·show T _ _ _ _ _ _ _ _
    refine t_v (.ld1 rfl rfl rfl (.at 3 rfl rfl)) ?_
    exact t_fin [4, 5, 71, 72, 74, 80, 82, 83] hg_fe5f (by kernel_rfl)
  have hg_aaff : G [true, true, true, true, true, true, true, true, false, true, false, true, false, true, false, true, false, false, false, false, false] [(4, vP b278 0), (5, vP b279 0), (71, vI (wr64 ((mn (mn m0_0 m0_0) m0_2) - (wr64 (Int.tdiv (wr64 (w1 + 1)) 2))))), (75, vI (wr64 ((mn (mn m0_1 m0_1) m0_3) - (wr64 (Int.tdiv (wr64 (w1 + 1)) 2))))), (77, vP g281 0), (79, vI (wr64 (Int.tdiv (wr64 (w1 + 1)) 2))), (81, vP g281 1), (83, vI (wr64 (Int.tdiv (wr64 (w1 + 1)) 2)))] ([⟨b284, [vI m0_2, vI m0_3], 2⟩, ⟨b283, [vI m0_0, vI m0_1], 2⟩, ⟨b282, [vI m0_0, vI m0_1, vI m0_2, vI m0_3], 4⟩, ⟨g281, [vI (mx (mx m0_0 m0_0) m0_2), vI (mx (mx m0_1 m0_1) m0_3)], 2⟩, ⟨g280, [vI (mn (mn m0_0 m0_0) m0_2), vI (mn (mn m0_1 m0_1) m0_3)], 2⟩, ⟨b279, [vI 0, vI 0], 2⟩, ⟨b278, [vI 0, vI 0], 2⟩, ⟨B0, [vI m0_0, vI m0_1, vI m0_2, vI m0_3], 4⟩] : List Own) := by
   exact hqf 8 [4, 5, 76, 77, 79, 81, 83] _ _ _ _ (by kernel_rfl) (by kernel_rfl) hg_abff
  have hg_1fe55 : G [true, false, true, false, true, false, true, false, false, true, true, true, true, true, true, true, true, false, false, false, false] [(4, vP b278 0), (5, vP b279 0), (68, vP g280 0), (70, vI (wr64 (Int.tdiv (wr64 (w1 + 1)) 2))), (72, vP g280 1), (74, vI (wr64 (Int.tdiv (wr64 (w1 + 1)) 2))), (80, vI (wr64 ((mx (mx m0_0 m0_0) m0_2) + (wr64 (Int.tdiv (wr64 (w1 + 1)) 2))))), (84, vI (wr64 ((mx (mx m0_1 m0_1) m0_3) + (wr64 (Int.tdiv (wr64 (w1 + 1)) 2)))))] ([⟨b284, [vI m0_2, vI m0_3], 2⟩, ⟨b283, [vI m0_0, vI m0_1], 2⟩, ⟨b282, [vI m0_0, vI m0_1, vI m0_2, vI m0_3], 4⟩, ⟨g281, [vI (mx (mx m0_0 m0_0) m0_2), vI (mx (mx m0_1 m0_1) m0_3)], 2⟩, ⟨g280, [vI (mn (mn m0_0 m0_0) m0_2), vI (mn (mn m0_1 m0_1) m0_3)], 2⟩, ⟨b279, [vI 0, vI 0], 2⟩, ⟨b278, [vI 0, vI 0], 2⟩, ⟨B0, [vI m0_0, vI m0_1, vI m0_2, vI m0_3], 4⟩] : List Own) := by
   exact hqf 17 [4, 5, 68, 70, 72, 74, 85] _ _ _ _ (by kernel_rfl) (by kernel_rfl) hg_3fe55
  have hg_1ea5f : G [true, true, true, true, true, false, true, false, false, true, false, true, false, true, true, true, true, false, false, false, false] [(4, vP b278 0), (5, vP b279 0), (71, vI (wr64 ((mn (mn m0_0 m0_0) m0_2) - (wr64 (Int.tdiv (wr64 (w1 + 1)) 2))))), (72, vP g280 1), (74, vI (wr64 (Int.tdiv (wr64 (w1 + 1)) 2))), (77, vP g281 0), (79, vI (wr64 (Int.tdiv (wr64 (w1 + 1)) 2))), (84, vI (wr64 ((mx (mx m0_1 m0_1) m0_3) + (wr64 (Int.tdiv (wr64 (w1 + 1)) 2)))))] ([⟨b284, [vI m0_2, vI m0_3], 2⟩, ⟨b283, [vI m0_0, vI m0_1], 2⟩, ⟨b282, [vI m0_0, vI m0_1, vI m0_2, vI m0_3], 4⟩, ⟨g281, [vI (mx (mx m0_0 m0_0) m0_2), vI (mx (mx m0_1 m0_1) m0_3)], 2⟩, ⟨g280, [vI (mn (mn m0_0 m0_0) m0_2), vI (mn (mn m0_1 m0_1) m0_3)], 2⟩, ⟨b279, [vI 0, vI 0], 2⟩, ⟨b278, [vI 0, vI 0], 2⟩, ⟨B0, [vI m0_0, vI m0_1, vI m0_2, vI m0_3], 4⟩] : List Own) := by
   refine hstep [5, 10] _ _ _ (by kernel_rfl) (List.cons_ne_nil _ _) ⟨?_, ?_, trivial⟩
   ·show T _ _ _ _ _ _ _ _
    refine t_v (.ld1 rfl rfl rfl (.at 4 rfl rfl)) ?_
    exact t_fin [4, 5, 71, 73, 74, 77, 79, 84] hg_1ea7f (by kernel_rfl)
   ·show T _ _ _ _ _ _ _ _
    refine t_v (.ld1 rfl rfl rfl (.at 3 rfl rfl)) ?_
    exact t_fin [4, 5, 71, 72, 74, 78, 79, 84] hg_1ee5f (by kernel_rfl)
  have hg_1eaf5 : G [true, false, true, false, true, true, true, true, false, true, false, true, false, true, true, true, true, false, false, false, false] [(4, vP b278 0), (5, vP b279 0), (68, vP g280 0), (70, vI (wr64 (Int.tdiv (wr64 (w1 + 1)) 2))), (75, vI (wr64 ((mn (mn m0_1 m0_1) m0_3) - (wr64 (Int.tdiv (wr64 (w1 + 1)) 2))))), (77, vP g281 0), (79, vI (wr64 (Int.tdiv (wr64 (w1 + 1)) 2))), (84, vI (wr64 ((mx (mx m0_1 m0_1) m0_3) + (wr64 (Int.tdiv (wr64 (w1 + 1)) 2)))))] ([⟨b284, [vI m0_2, vI m0_3], 2⟩, ⟨b283, [vI m0_0, vI m0_1], 2⟩, ⟨b282, [vI m0_0, vI m0_1, vI m0_2, vI m0_3], 4⟩, ⟨g281, [vI (mx (mx m0_0 m0_0) m0_2), vI (mx (mx m0_1 m0_1) m0_3)], 2⟩, ⟨g280, [vI (mn (mn m0_0 m0_0) m0_2), vI (mn (mn m0_1 m0_1) m0_3)], 2⟩, ⟨b279, [vI 0, vI 0], 2⟩, ⟨b278, [vI 0, vI 0], 2⟩, ⟨B0, [vI m0_0, vI m0_1, vI m0_2, vI m0_3], 4⟩] : List Own) := by
   refine hstep [1, 10] _ _ _ (by kernel_rfl) (List.cons_ne_nil _ _) ⟨?_, ?_, trivial⟩
   ·show T _ _ _ _ _ _ _ _
    refine t_v (.ld1 rfl rfl rfl (.at 4 rfl rfl)) ?_
    exact t_fin [4, 5, 69, 70, 75, 77, 79, 84] hg_1eaf7 (by kernel_rfl)
   ·show T _ _ _ _ _ _ _ _
    refine t_v (.ld1 rfl rfl rfl (.at 3 rfl rfl)) ?_
    exact t_fin [4, 5, 68, 70, 75, 78, 79, 84] hg_1eef5 (by kernel_rfl)
  have hg_fe55 : G [true, false, true, false, true, false, true, false, false, true, true, true, true, true, true, true, false, false, false, false, false] [(4, vP b278 0), (5, vP b279 0), (68, vP g280 0), (70, vI (wr64 (Int.tdiv (wr64 (w1 + 1)) 2))), (72, vP g280 1), (74, vI (wr64 (Int.tdiv (wr64 (w1 + 1)) 2))), (80, vI (wr64 ((mx (mx m0_0 m0_0) m0_2) + (wr64 (Int.tdiv (wr64 (w1 + 1)) 2))))), (82, vI (mx (mx m0_1 m0_1) m0_3)), (83, vI (wr64 (Int.tdiv (wr64 (w1 + 1)) 2)))] ([⟨b284, [vI m0_2, vI m0_3], 2⟩, ⟨b283, [vI m0_0, vI m0_1], 2⟩, ⟨b282, [vI m0_0, vI m0_1, vI m0_2, vI m0_3], 4⟩, ⟨g281, [vI (mx (mx m0_0 m0_0) m0_2), vI (mx (mx m0_1 m0_1) m0_3)], 2⟩, ⟨g280, [vI (mn (mn m0_0 m0_0) m0_2), vI (mn (mn m0_1 m0_1) m0_3)], 2⟩, ⟨b279, [vI 0, vI 0], 2⟩, ⟨b278, [vI 0, vI 0], 2⟩, ⟨B0, [vI m0_0, vI m0_1, vI m0_2, vI m0_3], 4⟩] : List Own) := by
   exact hqf 16 [4, 5, 68, 70, 72, 74, 80, 84] _ _ _ _ (by kernel_rfl) (by kernel_rfl) hg_1fe55
  have hg_eaf5 : G [true, false, true, false, true, true, true, true, false, true, false, true, false, true, true, true, false, false, false, false, false] [(4, vP b278 0), (5, vP b279 0), (68, vP g280 0), (70, vI (wr64 (Int.tdiv (wr64 (w1 + 1)) 2))), (75, vI (wr64 ((mn (mn m0_1 m0_1) m0_3) - (wr64 (Int.tdiv (wr64 (w1 + 1)) 2))))), (77, vP g281 0), (79, vI (wr64 (Int.tdiv (wr64 (w1 + 1)) 2))), (82, vI (mx (mx m0_1 m0_1) m0_3)), (83, vI (wr64 (Int.tdiv (wr64 (w1 + 1)) 2)))] ([⟨b284, [vI m0_2, vI m0_3], 2⟩, ⟨b283, [vI m0_0, vI m0_1], 2⟩, ⟨b282, [vI m0_0, vI m0_1, vI m0_2, vI m0_3], 4⟩, ⟨g281, [vI (mx (mx m0_0 m0_0) m0_2), vI (mx (mx m0_1 m0_1) m0_3)], 2⟩, ⟨g280, [vI (mn (mn m0_0 m0_0) m0_2), vI (mn (mn m0_1 m0_1) m0_3)], 2⟩, ⟨b279, [vI 0, vI 0], 2⟩, ⟨b278, [vI 0, vI 0], 2⟩, ⟨B0, [vI m0_0, vI m0_1, vI m0_2, vI m0_3], 4⟩] : List Own) := by
   exact hqf 16 [4, 5, 68, 70, 75, 77, 79, 84] _ _ _ _ (by kernel_rfl) (by kernel_rfl) hg_1eaf5
  have hg_be57 : G [true, true, true, false, true, false, true, false, false, true, true, true, true, true, false, true, false, false, false, false, false] [(4, vP b278 0), (5, vP b279 0), (69, vI (mn (mn m0_0 m0_0) m0_2)), (70, vI (wr64 (Int.tdiv (wr64 (w1 + 1)) 2))), (72, vP g280 1), (74, vI (wr64 (Int.tdiv (wr64 (w1 + 1)) 2))), (80, vI (wr64 ((mx (mx m0_0 m0_0) m0_2) + (wr64 (Int.tdiv (wr64 (w1 + 1)) 2))))), (81, vP g281 1), (83, vI (wr64 (Int.tdiv (wr64 (w1 + 1)) 2)))] ([⟨b284, [vI m0_2, vI m0_3], 2⟩, ⟨b283, [vI m0_0, vI m0_1], 2⟩, ⟨b282, [vI m0_0, vI m0_1, vI m0_2, vI m0_3], 4⟩, ⟨g281, [vI (mx (mx m0_0 m0_0) m0_2), vI (mx (mx m0_1 m0_1) m0_3)], 2⟩, ⟨g280, [vI (mn (mn m0_0 m0_0) m0_2), vI (mn (mn m0_1 m0_1) m0_3)], 2⟩, ⟨b279, [vI 0, vI 0], 2⟩, ⟨b278, [vI 0, vI 0], 2⟩, ⟨B0, [vI m0_0, vI m0_1, vI m0_2, vI m0_3], 4⟩] : List Own) := by
   exact hqf 3 [4, 5, 71, 72, 74, 80, 81, 83] _ _ _ _ (by kernel_rfl) (by kernel_rfl) hg_be5f
  have hg_aaf7 : G [true, true, true, false, true, true, true, true, false, true, false, true, false, true, false, true, false, false, false, false, false] [(4, vP b278 0), (5, vP b279 0), (69, vI (mn (mn m0_0 m0_0) m0_2)), (70, vI (wr64 (Int.tdiv (wr64 (w1 + 1)) 2))), (75, vI (wr64 ((mn (mn m0_1 m0_1) m0_3) - (wr64 (Int.tdiv (wr64 (w1 + 1)) 2))))), (77, vP g281 0), (79, vI (wr64 (Int.tdiv (wr64 (w1 + 1)) 2))), (81, vP g281 1), (83, vI (wr64 (Int.tdiv (wr64 (w1 + 1)) 2)))] ([⟨b284, [vI m0_2, vI m0_3], 2⟩, ⟨b283, [vI m0_0, vI m0_1], 2⟩, ⟨b282, [vI m0_0, vI m0_1, vI m0_2, vI m0_3], 4⟩, ⟨g281, [vI (mx (mx m0_0 m0_0) m0_2), vI (mx (mx m0_1 m0_1) m0_3)], 2⟩, ⟨g280, [vI (mn (mn m0_0 m0_0) m0_2), vI (mn (mn m0_1 m0_1) m0_3)], 2⟩, ⟨b279, [vI 0, vI 0], 2⟩, ⟨b278, [vI 0, vI 0], 2⟩, ⟨B0, [vI m0_0, vI m0_1, vI m0_2, vI m0_3], 4⟩] : List Own) := by
   exact hqf 3 [4, 5, 71, 75, 77, 79, 81, 83] _ _ _ _ (by kernel_rfl) (by kernel_rfl) hg_aaff
  have hg_ea5f : G [true, true, true, true, true, false, true, false, false, true, false, true, false, true, true, true, false, false, false, false, false] [(4, vP b278 0), (5, vP b279 0), (71, vI (wr64 ((mn (mn m0_0 m0_0) m0_2) - (wr64 (Int.tdiv (wr64 (w1 + 1)) 2))))), (72, vP g280 1), (74, vI (wr64 (Int.tdiv (wr64 (w1 + 1)) 2))), (77, vP g281 0), (79, vI (wr64 (Int.tdiv (wr64 (w1 + 1)) 2))), (82, vI (mx (mx m0_1 m0_1) m0_3)), (83, vI (wr64 (Int.tdiv (wr64 (w1 + 1)) 2)))] ([⟨b284, [vI m0_2, vI m0_3], 2⟩, ⟨b283, [vI m0_0, vI m0_1], 2⟩, ⟨b282, [vI m0_0, vI m0_1, vI m0_2, vI m0_3], 4⟩, ⟨g281, [vI (mx (mx m0_0 m0_0) m0_2), vI (mx (mx m0_1 m0_1) m0_3)], 2⟩, ⟨g280, [vI (mn (mn m0_0 m0_0) m0_2), vI (mn (mn m0_1 m0_1) m0_3)], 2⟩, ⟨b279, [vI 0, vI 0], 2⟩, ⟨b278, [vI 0, vI 0], 2⟩, ⟨B0, [vI m0_0, vI m0_1, vI m0_2, vI m0_3], 4⟩] : List Own) := by
   exact hqf 16 [4, 5, 71, 72, 74, 77, 79, 84] _ _ _ _ (by kernel_rfl) (by kernel_rfl) hg_1ea5f
  have hg_ae5f : G [true, true, true, true, true, false, true, false, false, true, true, true, false, true, false, true, false, false, false, false, false] [(4, vP b278 0), (5, vP b279 0), (71, vI (wr64 ((mn (mn m0_0 m0_0) m0_2) - (wr64 (Int.tdiv (wr64 (w1 + 1)) 2))))), (72, vP g280 1), (74, vI (wr64 (Int.tdiv (wr64 (w1 + 1)) 2))), (78, vI (mx (mx m0_0 m0_0) m0_2)), (79, vI (wr64 (Int.tdiv (wr64 (w1 + 1)) 2))), (81, vP g281 1), (83, vI (wr64 (Int.tdiv (wr64 (w1 + 1)) 2)))] ([⟨b284, [vI m0_2, vI m0_3], 2⟩, ⟨b283, [vI m0_0, vI m0_1], 2⟩, ⟨b282, [vI m0_0, vI m0_1, vI m0_2, vI m0_3], 4⟩, ⟨g281, [vI (mx (mx m0_0 m0_0) m0_2), vI (mx (mx m0_1 m0_1) m0_3)], 2⟩, ⟨g280, [vI (mn (mn m0_0 m0_0) m0_2), vI (mn (mn m0_1 m0_1) m0_3)], 2⟩, ⟨b279, [vI 0, vI 0], 2⟩, ⟨b278, [vI 0, vI 0], 2⟩, ⟨B0, [vI m0_0, vI m0_1, vI m0_2, vI m0_3], 4⟩] : List Own) := by
   exact hqf 12 [4, 5, 71, 72, 74, 80, 81, 83] _ _ _ _ (by kernel_rfl) (by kernel_rfl) hg_be5f
  have hg_aef5 : G [true, false, true, false, true, true, true, true, false, true, true, true, false, true, false, true, false, false, false, false, false] [(4, vP b278 0), (5, vP b279 0), (68, vP g280 0), (70, vI (wr64 (Int.tdiv (wr64 (w1 + 1)) 2))), (75, vI (wr64 ((mn (mn m0_1 m0_1) m0_3) - (wr64 (Int.tdiv (wr64 (w1 + 1)) 2))))), (78, vI (mx (mx m0_0 m0_0) m0_2)), (79, vI (wr64 (Int.tdiv (wr64 (w1 + 1)) 2))), (81, vP g281 1), (83, vI (wr64 (Int.tdiv (wr64 (w1 + 1)) 2)))] ([⟨b284, [vI m0_2, vI m0_3], 2⟩, ⟨b283, [vI m0_0, vI m0_1], 2⟩, ⟨b282, [vI m0_0, vI m0_1, vI m0_2, vI m0_3], 4⟩, ⟨g281, [vI (mx (mx m0_0 m0_0) m0_2), vI (mx (mx m0_1 m0_1) m0_3)], 2⟩, ⟨g280, [vI (mn (mn m0_0 m0_0) m0_2), vI (mn (mn m0_1 m0_1) m0_3)], 2⟩, ⟨b279, [vI 0, vI 0], 2⟩, ⟨b278, [vI 0, vI 0], 2⟩, ⟨B0, [vI m0_0, vI m0_1, vI m0_2, vI m0_3], 4⟩] : List Own) := by
   exact hqf 12 [4, 5, 68, 70, 75, 80, 81, 83] _ _ _ _ (by kernel_rfl) (by kernel_rfl) hg_bef5
  have hg_aa7f : G [true, true, true, true, true, true, true, false, false, true, false, true, false, true, false, true, false, false, false, false, false] [(4, vP b278 0), (5, vP b279 0), (71, vI (wr64 ((mn (mn m0_0 m0_0) m0_2) - (wr64 (Int.tdiv (wr64 (w1 + 1)) 2))))), (73, vI (mn (mn m0_1 m0_1) m0_3)), (74, vI (wr64 (Int.tdiv (wr64 (w1 + 1)) 2))), (77, vP g281 0), (79, vI (wr64 (Int.tdiv (wr64 (w1 + 1)) 2))), (81, vP g281 1), (83, vI (wr64 (Int.tdiv (wr64 (w1 + 1)) 2)))] ([⟨b284, [vI m0_2, vI m0_3], 2⟩, ⟨b283, [vI m0_0, vI m0_1], 2⟩, ⟨b282, [vI m0_0, vI m0_1, vI m0_2, vI m0_3], 4⟩, ⟨g281, [vI (mx (mx m0_0 m0_0) m0_2), vI (mx (mx m0_1 m0_1) m0_3)], 2⟩, ⟨g280, [vI (mn (mn m0_0 m0_0) m0_2), vI (mn (mn m0_1 m0_1) m0_3)], 2⟩, ⟨b279, [vI 0, vI 0], 2⟩, ⟨b278, [vI 0, vI 0], 2⟩, ⟨B0, [vI m0_0, vI m0_1, vI m0_2, vI m0_3], 4⟩] : List Own) := by
   exact hqf 7 [4, 5, 71, 75, 77, 79, 81, 83] _ _ _ _ (by kernel_rfl) (by kernel_rfl) hg_aaff
  have hg_1ee55 : G [true, false, true, false, true, false, true, false, false, true, true, true, false, true, true, true, true, false, false, false, false] [(4, vP b278 0), (5, vP b279 0), (68, vP g280 0), (70, vI (wr64 (Int.tdiv (wr64 (w1 + 1)) 2))), (72, vP g280 1), (74, vI (wr64 (Int.tdiv (wr64 (w1 + 1)) 2))), (78, vI (mx (mx m0_0 m0_0) m0_2)), (79, vI (wr64 (Int.tdiv (wr64 (w1 + 1)) 2))), (84, vI (wr64 ((mx (mx m0_1 m0_1) m0_3) + (wr64 (Int.tdiv (wr64 (w1 + 1)) 2)))))] ([⟨b284, [vI m0_2, vI m0_3], 2⟩, ⟨b283, [vI m0_0, vI m0_1], 2⟩, ⟨b282, [vI m0_0, vI m0_1, vI m0_2, vI m0_3], 4⟩, ⟨g281, [vI (mx (mx m0_0 m0_0) m0_2), vI (mx (mx m0_1 m0_1) m0_3)], 2⟩, ⟨g280, [vI (mn (mn m0_0 m0_0) m0_2), vI (mn (mn m0_1 m0_1) m0_3)], 2⟩, ⟨b279, [vI 0, vI 0], 2⟩, ⟨b278, [vI 0, vI 0], 2⟩, ⟨B0, [vI m0_0, vI m0_1, vI m0_2, vI m0_3], 4⟩] : List Own) := by
   exact hqf 12 [4, 5, 68, 70, 72, 74, 80, 84] _ _ _ _ (by kernel_rfl) (by kernel_rfl) hg_1fe55
  have hg_1ea57 : G [true, true, true, false, true, false, true, false, false, true, false, true, false, true, true, true, true, false, false, false, false] [(4, vP b278 0), (5, vP b279 0), (69, vI (mn (mn m0_0 m0_0) m0_2)), (70, vI (wr64 (Int.tdiv (wr64 (w1 + 1)) 2))), (72, vP g280 1), (74, vI (wr64 (Int.tdiv (wr64 (w1 + 1)) 2))), (77, vP g281 0), (79, vI (wr64 (Int.tdiv (wr64 (w1 + 1)) 2))), (84, vI (wr64 ((mx (mx m0_1 m0_1) m0_3) + (wr64 (Int.tdiv (wr64 (w1 + 1)) 2)))))] ([⟨b284, [vI m0_2, vI m0_3], 2⟩, ⟨b283, [vI m0_0, vI m0_1], 2⟩, ⟨b282, [vI m0_0, vI m0_1, vI m0_2, vI m0_3], 4⟩, ⟨g281, [vI (mx (mx m0_0 m0_0) m0_2), vI (mx (mx m0_1 m0_1) m0_3)], 2⟩, ⟨g280, [vI (mn (mn m0_0 m0_0) m0_2), vI (mn (mn m0_1 m0_1) m0_3)], 2⟩, ⟨b279, [vI 0, vI 0], 2⟩, ⟨b278, [vI 0, vI 0], 2⟩, ⟨B0, [vI m0_0, vI m0_1, vI m0_2, vI m0_3], 4⟩] : List Own) := by
   exact hqf 3 [4, 5, 71, 72, 74, 77, 79, 84] _ _ _ _ (by kernel_rfl) (by kernel_rfl) hg_1ea5f
  have hg_1ea75 : G [true, false, true, false, true, true, true, false, false, true, false, true, false, true, true, true, true, false, false, false, false] [(4, vP b278 0), (5, vP b279 0), (68, vP g280 0), (70, vI (wr64 (Int.tdiv (wr64 (w1 + 1)) 2))), (73, vI (mn (mn m0_1 m0_1) m0_3)), (74, vI (wr64 (Int.tdiv (wr64 (w1 + 1)) 2))), (77, vP g281 0), (79, vI (wr64 (Int.tdiv (wr64 (w1 + 1)) 2))), (84, vI (wr64 ((mx (mx m0_1 m0_1) m0_3) + (wr64 (Int.tdiv (wr64 (w1 + 1)) 2)))))] ([⟨b284, [vI m0_2, vI m0_3], 2⟩, ⟨b283, [vI m0_0, vI m0_1], 2⟩, ⟨b282, [vI m0_0, vI m0_1, vI m0_2, vI m0_3], 4⟩, ⟨g281, [vI (mx (mx m0_0 m0_0) m0_2), vI (mx (mx m0_1 m0_1) m0_3)], 2⟩, ⟨g280, [vI (mn (mn m0_0 m0_0) m0_2), vI (mn (mn m0_1 m0_1) m0_3)], 2⟩, ⟨b279, [vI 0, vI 0], 2⟩, ⟨b278, [vI 0, vI 0], 2⟩, ⟨B0, [vI m0_0, vI m0_1, vI m0_2, vI m0_3], 4⟩] : List Own) := by
   exact hqf 7 [4, 5, 68, 70, 75, 77, 79, 84] _ _ _ _ (by kernel_rfl) (by kernel_rfl) hg_1eaf5
  have hg_be75 : G [true, false, true, false, true, true, true, false, false, true, true, true, true, true, false, true, false, false, false, false, false] [(4, vP b278 0), (5, vP b279 0), (68, vP g280 0), (70, vI (wr64 (Int.tdiv (wr64 (w1 + 1)) 2))), (73, vI (mn (mn m0_1 m0_1) m0_3)), (74, vI (wr64 (Int.tdiv (wr64 (w1 + 1)) 2))), (80, vI (wr64 ((mx (mx m0_0 m0_0) m0_2) + (wr64 (Int.tdiv (wr64 (w1 + 1)) 2))))), (81, vP g281 1), (83, vI (wr64 (Int.tdiv (wr64 (w1 + 1)) 2)))] ([⟨b284, [vI m0_2, vI m0_3], 2⟩, ⟨b283, [vI m0_0, vI m0_1], 2⟩, ⟨b282, [vI m0_0, vI m0_1, vI m0_2, vI m0_3], 4⟩, ⟨g281, [vI (mx (mx m0_0 m0_0) m0_2), vI (mx (mx m0_1 m0_1) m0_3)], 2⟩, ⟨g280, [vI (mn (mn m0_0 m0_0) m0_2), vI (mn (mn m0_1 m0_1) m0_3)], 2⟩, ⟨b279, [vI 0, vI 0], 2⟩, ⟨b278, [vI 0, vI 0], 2⟩, ⟨B0, [vI m0_0, vI m0_1, vI m0_2, vI m0_3], 4⟩] : List Own) := by
   exact hqf 7 [4, 5, 68, 70, 75, 80, 81, 83] _ _ _ _ (by kernel_rfl) (by kernel_rfl) hg_bef5
  have hg_be55 : G [true, false, true, false, true, false, true, false, false, true, true, true, true, true, false, true, false, false, false, false, false] [(4, vP b278 0), (5, vP b279 0), (68, vP g280 0), (70, vI (wr64 (Int.tdiv (wr64 (w1 + 1)) 2))), (72, vP g280 1), (74, vI (wr64 (Int.tdiv (wr64 (w1 + 1)) 2))), (80, vI (wr64 ((mx (mx m0_0 m0_0) m0_2) + (wr64 (Int.tdiv (wr64 (w1 + 1)) 2))))), (81, vP g281 1), (83, vI (wr64 (Int.tdiv (wr64 (w1 + 1)) 2)))] ([⟨b284, [vI m0_2, vI m0_3], 2⟩, ⟨b283, [vI m0_0, vI m0_1], 2⟩, ⟨b282, [vI m0_0, vI m0_1, vI m0_2, vI m0_3], 4⟩, ⟨g281, [vI (mx (mx m0_0 m0_0) m0_2), vI (mx (mx m0_1 m0_1) m0_3)], 2⟩, ⟨g280, [vI (mn (mn m0_0 m0_0) m0_2), vI (mn (mn m0_1 m0_1) m0_3)], 2⟩, ⟨b279, [vI 0, vI 0], 2⟩, ⟨b278, [vI 0, vI 0], 2⟩, ⟨B0, [vI m0_0, vI m0_1, vI m0_2, vI m0_3], 4⟩] : List Own) := by
   refine hstep [1, 5, 14] _ _ _ (by kernel_rfl) (List.cons_ne_nil _ _) ⟨?_, ?_, ?_, trivial⟩
   ·show T _ _ _ _ _ _ _ _
    refine t_v (.ld1 rfl rfl rfl (.at 4 rfl rfl)) ?_
    exact t_fin [4, 5, 69, 70, 72, 74, 80, 81, 83] hg_be57 (by kernel_rfl)
   ·show T _ _ _ _ _ _ _ _
    refine t_v (.ld1 rfl rfl rfl (.at 4 rfl rfl)) ?_
    exact t_fin [4, 5, 68, 70, 73, 74, 80, 81, 83] hg_be75 (by kernel_rfl)
   ·show T _ _ _ _ _ _ _ _
    refine t_v (.ld1 rfl rfl rfl (.at 3 rfl rfl)) ?_
    exact t_fin [4, 5, 68, 70, 72, 74, 80, 82, 83] hg_fe55 (by kernel_rfl)
  have hg_aaf5 : G [true, false, true, false, true, true, true, true, false, true, false, true, false, true, false, true, false, false, false, false, false] [(4, vP b278 0), (5, vP b279 0), (68, vP g280 0), (70, vI (wr64 (Int.tdiv (wr64 (w1 + 1)) 2))), (75, vI (wr64 ((mn (mn m0_1 m0_1) m0_3) - (wr64 (Int.tdiv (wr64 (w1 + 1)) 2))))), (77, vP g281 0), (79, vI (wr64 (Int.tdiv (wr64 (w1 + 1)) 2))), (81, vP g281 1), (83, vI (wr64 (Int.tdiv (wr64 (w1 + 1)) 2)))] ([⟨b284, [vI m0_2, vI m0_3], 2⟩, ⟨b283, [vI m0_0, vI m0_1], 2⟩, ⟨b282, [vI m0_0, vI m0_1, vI m0_2, vI m0_3], 4⟩, ⟨g281, [vI (mx (mx m0_0 m0_0) m0_2), vI (mx (mx m0_1 m0_1) m0_3)], 2⟩, ⟨g280, [vI (mn (mn m0_0 m0_0) m0_2), vI (mn (mn m0_1 m0_1) m0_3)], 2⟩, ⟨b279, [vI 0, vI 0], 2⟩, ⟨b278, [vI 0, vI 0], 2⟩, ⟨B0, [vI m0_0, vI m0_1, vI m0_2, vI m0_3], 4⟩] : List Own) := by
   refine hstep [1, 10, 14] _ _ _ (by kernel_rfl) (List.cons_ne_nil _ _) ⟨?_, ?_, ?_, trivial⟩
   ·show T _ _ _ _ _ _ _ _
    refine t_v (.ld1 rfl rfl rfl (.at 4 rfl rfl)) ?_
    exact t_fin [4, 5, 69, 70, 75, 77, 79, 81, 83] hg_aaf7 (by kernel_rfl)
   ·show T _ _ _ _ _ _ _ _
    refine t_v (.ld1 rfl rfl rfl (.at 3 rfl rfl)) ?_
    exact t_fin [4, 5, 68, 70, 75, 78, 79, 81, 83] hg_aef5 (by kernel_rfl)
   ·show T _ _ _ _ _ _ _ _
    refine t_v (.ld1 rfl rfl rfl (.at 3 rfl rfl)) ?_
    exact t_fin [4, 5, 68, 70, 75, 77, 79, 82, 83] hg_eaf5 (by kernel_rfl)
  have hg_aa5f : G [true, true, true, true, true, false, true, false, false, true, false, true, false, true, false, true, false, false, false, false, false] [(4, vP b278 0), (5, vP b279 0), (71, vI (wr64 ((mn (mn m0_0 m0_0) m0_2) - (wr64 (Int.tdiv (wr64 (w1 + 1)) 2))))), (72, vP g280 1), (74, vI (wr64 (Int.tdiv (wr64 (w1 + 1)) 2))), (77, vP g281 0), (79, vI (wr64 (Int.tdiv (wr64 (w1 + 1)) 2))), (81, vP g281 1), (83, vI (wr64 (Int.tdiv (wr64 (w1 + 1)) 2)))] ([⟨b284, [vI m0_2, vI m0_3], 2⟩, ⟨b283, [vI m0_0, vI m0_1], 2⟩, ⟨b282, [vI m0_0, vI m0_1, vI m0_2, vI m0_3], 4⟩, ⟨g281, [vI (mx (mx m0_0 m0_0) m0_2), vI (mx (mx m0_1 m0_1) m0_3)], 2⟩, ⟨g280, [vI (mn (mn m0_0 m0_0) m0_2), vI (mn (mn m0_1 m0_1) m0_3)], 2⟩, ⟨b279, [vI 0, vI 0], 2⟩, ⟨b278, [vI 0, vI 0], 2⟩, ⟨B0, [vI m0_0, vI m0_1, vI m0_2, vI m0_3], 4⟩] : List Own) := by
   refine hstep [5, 10, 14] _ _ _ (by kernel_rfl) (List.cons_ne_nil _ _) ⟨?_, ?_, ?_, trivial⟩
   ·show T _ _ _ _ _ _ _ _
    refine t_v (.ld1 rfl rfl rfl (.at 4 rfl rfl)) ?_
    exact t_fin [4, 5, 71, 73, 74, 77, 79, 81, 83] hg_aa7f (by kernel_rfl)
   ·show T _ _ _ _ _ _ _ _
    refine t_v (.ld1 rfl rfl rfl (.at 3 rfl rfl)) ?_
    exact t_fin [4, 5, 71, 72, 74, 78, 79, 81, 83] hg_ae5f (by kernel_rfl)
   ·show T _ _ _ _ _ _ _ _
    refine t_v (.ld1 rfl rfl rfl (.at 3 rfl rfl)) ?_
    exact t_fin [4, 5, 71, 72, 74, 77, 79, 82, 83] hg_ea5f (by kernel_rfl)
  have hg_1ea55 : G [true, false, true, false, true, false, true, false, false, true, false, true, false, true, true, true, true, false, false, false, false] [(4, vP b278 0), (5, vP b279 0), (68, vP g280 0), (70, vI (wr64 (Int.tdiv (wr64 (w1 + 1)) 2))), (72, vP g280 1), (74, vI (wr64 (Int.tdiv (wr64 (w1 + 1)) 2))), (77, vP g281 0), (79, vI (wr64 (Int.tdiv (wr64 (w1 + 1)) 2))), (84, vI (wr64 ((mx (mx m0_1 m0_1) m0_3) + (wr64 (Int.tdiv (wr64 (w1 + 1)) 2)))))] ([⟨b284, [vI m0_2, vI m0_3], 2⟩, ⟨b283, [vI m0_0, vI m0_1], 2⟩, ⟨b282, [vI m0_0, vI m0_1, vI m0_2, vI m0_3], 4⟩, ⟨g281, [vI (mx (mx m0_0 m0_0) m0_2), vI (mx (mx m0_1 m0_1) m0_3)], 2⟩, ⟨g280, [vI (mn (mn m0_0 m0_0) m0_2), vI (mn (mn m0_1 m0_1) m0_3)], 2⟩, ⟨b279, [vI 0, vI 0], 2⟩, ⟨b278, [vI 0, vI 0], 2⟩, ⟨B0, [vI m0_0, vI m0_1, vI m0_2, vI m0_3], 4⟩] : List Own) := by
   refine hstep [1, 5, 10] _ _ _ (by kernel_rfl) (List.cons_ne_nil _ _) ⟨?_, ?_, ?_, trivial⟩
   ·show T _ _ _ _ _ _ _ _
    refine t_v (.ld1 rfl rfl rfl (.at 4 rfl rfl)) ?_
    exact t_fin [4, 5, 69, 70, 72, 74, 77, 79, 84] hg_1ea57 (by kernel_rfl)
   ·show T _ _ _ _ _ _ _ _
    refine t_v (.ld1 rfl rfl rfl (.at 4 rfl rfl)) ?_
    exact t_fin [4, 5, 68, 70, 73, 74, 77, 79, 84] hg_1ea75 (by kernel_rfl)
   ·show T _ _ _ _ _ _ _ _
    refine t_v (.ld1 rfl rfl rfl (.at 3 rfl rfl)) ?_
    exact t_fin [4, 5, 68, 70, 72, 74, 78, 79, 84] hg_1ee55 (by kernel_rfl)
  have hg_ae55 : G [true, false, true, false, true, false, true, false, false, true, true, true, false, true, false, true, false, false, false, false, false] [(4, vP b278 0), (5, vP b279 0), (68, vP g280 0), (70, vI (wr64 (Int.tdiv (wr64 (w1 + 1)) 2))), (72, vP g280 1), (74, vI (wr64 (Int.tdiv (wr64 (w1 + 1)) 2))), (78, vI (mx (mx m0_0 m0_0) m0_2)), (79, vI (wr64 (Int.tdiv (wr64 (w1 + 1)) 2))), (81, vP g281 1), (83, vI (wr64 (Int.tdiv (wr64 (w1 + 1)) 2)))] ([⟨b284, [vI m0_2, vI m0_3], 2⟩, ⟨b283, [vI m0_0, vI m0_1], 2⟩, ⟨b282, [vI m0_0, vI m0_1, vI m0_2, vI m0_3], 4⟩, ⟨g281, [vI (mx (mx m0_0 m0_0) m0_2), vI (mx (mx m0_1 m0_1) m0_3)], 2⟩, ⟨g280, [vI (mn (mn m0_0 m0_0) m0_2), vI (mn (mn m0_1 m0_1) m0_3)], 2⟩, ⟨b279, [vI 0, vI 0], 2⟩, ⟨b278, [vI 0, vI 0], 2⟩, ⟨B0, [vI m0_0, vI m0_1, vI m0_2, vI m0_3], 4⟩] : List Own) := by
   exact hqf 12 [4, 5, 68, 70, 72, 74, 80, 81, 83] _ _ _ _ (by kernel_rfl) (by kernel_rfl) hg_be55
  have hg_aa57 : G [true, true, true, false, true, false, true, false, false, true, false, true, false, true, false, true, false, false, false, false, false] [(4, vP b278 0), (5, vP b279 0), (69, vI (mn (mn m0_0 m0_0) m0_2)), (70, vI (wr64 (Int.tdiv (wr64 (w1 + 1)) 2))), (72, vP g280 1), (74, vI (wr64 (Int.tdiv (wr64 (w1 + 1)) 2))), (77, vP g281 0), (79, vI (wr64 (Int.tdiv (wr64 (w1 + 1)) 2))), (81, vP g281 1), (83, vI (wr64 (Int.tdiv (wr64 (w1 + 1)) 2)))] ([⟨b284, [vI m0_2, vI m0_3], 2⟩, ⟨b283, [vI m0_0, vI m0_1], 2⟩, ⟨b282, [vI m0_0, vI m0_1, vI m0_2, vI m0_3], 4⟩, ⟨g281, [vI (mx (mx m0_0 m0_0) m0_2), vI (mx (mx m0_1 m0_1) m0_3)], 2⟩, ⟨g280, [vI (mn (mn m0_0 m0_0) m0_2), vI (mn (mn m0_1 m0_1) m0_3)], 2⟩, ⟨b279, [vI 0, vI 0], 2⟩, ⟨b278, [vI 0, vI 0], 2⟩, ⟨B0, [vI m0_0, vI m0_1, vI m0_2, vI m0_3], 4⟩] : List Own) := by
   exact hqf 3 [4, 5, 71, 72, 74, 77, 79, 81, 83] _ _ _ _ (by kernel_rfl) (by kernel_rfl) hg_aa5f
  have hg_aa75 : G [true, false, true, false, true, true, true, false, false, true, false, true, false, true, false, true, false, false, false, false, false] [(4, vP b278 0), (5, vP b279 0), (68, vP g280 0), (70, vI (wr64 (Int.tdiv (wr64 (w1 + 1)) 2))), (73, vI (mn (mn m0_1 m0_1) m0_3)), (74, vI (wr64 (Int.tdiv (wr64 (w1 + 1)) 2))), (77, vP g281 0), (79, vI (wr64 (Int.tdiv (wr64 (w1 + 1)) 2))), (81, vP g281 1), (83, vI (wr64 (Int.tdiv (wr64 (w1 + 1)) 2)))] ([⟨b284, [vI m0_2, vI m0_3], 2⟩, ⟨b283, [vI m0_0, vI m0_1], 2⟩, ⟨b282, [vI m0_0, vI m0_1, vI m0_2, vI m0_3], 4⟩, ⟨g281, [vI (mx (mx m0_0 m0_0) m0_2), vI (mx (mx m0_1 m0_1) m0_3)], 2⟩, ⟨g280, [vI (mn (mn m0_0 m0_0) m0_2), vI (mn (mn m0_1 m0_1) m0_3)], 2⟩, ⟨b279, [vI 0, vI 0], 2⟩, ⟨b278, [vI 0, vI 0], 2⟩, ⟨B0, [vI m0_0, vI m0_1, vI m0_2, vI m0_3], 4⟩] : List Own) := by
   exact hqf 7 [4, 5, 68, 70, 75, 77, 79, 81, 83] _ _ _ _ (by kernel_rfl) (by kernel_rfl) hg_aaf5
  have hg_ea55 : G [true, false, true, false, true, false, true, false, false, true, false, true, false, true, true, true, false, false, false, false, false] [(4, vP b278 0), (5, vP b279 0), (68, vP g280 0), (70, vI (wr64 (Int.tdiv (wr64 (w1 + 1)) 2))), (72, vP g280 1), (74, vI (wr64 (Int.tdiv (wr64 (w1 + 1)) 2))), (77, vP g281 0), (79, vI (wr64 (Int.tdiv (wr64 (w1 + 1)) 2))), (82, vI (mx (mx m0_1 m0_1) m0_3)), (83, vI (wr64 (Int.tdiv (wr64 (w1 + 1)) 2)))] ([⟨b284, [vI m0_2, vI m0_3], 2⟩, ⟨b283, [vI m0_0, vI m0_1], 2⟩, ⟨b282, [vI m0_0, vI m0_1, vI m0_2, vI m0_3], 4⟩, ⟨g281, [vI (mx (mx m0_0 m0_0) m0_2), vI (mx (mx m0_1 m0_1) m0_3)], 2⟩, ⟨g280, [vI (mn (mn m0_0 m0_0) m0_2), vI (mn (mn m0_1 m0_1) m0_3)], 2⟩, ⟨b279, [vI 0, vI 0], 2⟩, ⟨b278, [vI 0, vI 0], 2⟩, ⟨B0, [vI m0_0, vI m0_1, vI m0_2, vI m0_3], 4⟩] : List Own) := by
   exact hqf 16 [4, 5, 68, 70, 72, 74, 77, 79, 84] _ _ _ _ (by kernel_rfl) (by kernel_rfl) hg_1ea55
  have hg_aa55 : G [true, false, true, false, true, false, true, false, false, true, false, true, false, true, false, true, false, false, false, false, false] [(4, vP b278 0), (5, vP b279 0), (68, vP g280 0), (70, vI (wr64 (Int.tdiv (wr64 (w1 + 1)) 2))), (72, vP g280 1), (74, vI (wr64 (Int.tdiv (wr64 (w1 + 1)) 2))), (77, vP g281 0), (79, vI (wr64 (Int.tdiv (wr64 (w1 + 1)) 2))), (81, vP g281 1), (83, vI (wr64 (Int.tdiv (wr64 (w1 + 1)) 2)))] ([⟨b284, [vI m0_2, vI m0_3], 2⟩, ⟨b283, [vI m0_0, vI m0_1], 2⟩, ⟨b282, [vI m0_0, vI m0_1, vI m0_2, vI m0_3], 4⟩, ⟨g281, [vI (mx (mx m0_0 m0_0) m0_2), vI (mx (mx m0_1 m0_1) m0_3)], 2⟩, ⟨g280, [vI (mn (mn m0_0 m0_0) m0_2), vI (mn (mn m0_1 m0_1) m0_3)], 2⟩, ⟨b279, [vI 0, vI 0], 2⟩, ⟨b278, [vI 0, vI 0], 2⟩, ⟨B0, [vI m0_0, vI m0_1, vI m0_2, vI m0_3], 4⟩] : List Own) := by
   refine hstep [1, 5, 10, 14] _ _ _ (by kernel_rfl) (List.cons_ne_nil _ _) ⟨?_, ?_, ?_, ?_, trivial⟩
   ·show T _ _ _ _ _ _ _ _
    refine t_v (.ld1 rfl rfl rfl (.at 4 rfl rfl)) ?_
    exact t_fin [4, 5, 69, 70, 72, 74, 77, 79, 81, 83] hg_aa57 (by kernel_rfl)
   ·show T _ _ _ _ _ _ _ _
    refine t_v (.ld1 rfl rfl rfl (.at 4 rfl rfl)) ?_
    exact t_fin [4, 5, 68, 70, 73, 74, 77, 79, 81, 83] hg_aa75 (by kernel_rfl)
   ·show T _ _ _ _ _ _ _ _
    refine t_v (.ld1 rfl rfl rfl (.at 3 rfl rfl)) ?_
    exact t_fin [4, 5, 68, 70, 72, 74, 78, 79, 81, 83] hg_ae55 (by kernel_rfl)
   ·show T _ _ _ _ _ _ _ _
    refine t_v (.ld1 rfl rfl rfl (.at 3 rfl rfl)) ?_
    exact t_fin [4, 5, 68, 70, 72, 74, 77, 79, 82, 83] hg_ea55 (by kernel_rfl)
  have hg_2a55 : G [true, false, true, false, true, false, true, false, false, true, false, true, false, true, false, false, false, false, false, false, false] [(4, vP b278 0), (5, vP b279 0), (13, vI (wr64 (Int.tdiv (wr64 (w1 + 1)) 2))), (68, vP g280 0), (70, vI (wr64 (Int.tdiv (wr64 (w1 + 1)) 2))), (72, vP g280 1), (74, vI (wr64 (Int.tdiv (wr64 (w1 + 1)) 2))), (77, vP g281 0), (79, vI (wr64 (Int.tdiv (wr64 (w1 + 1)) 2))), (81, vP g281 1)] ([⟨b284, [vI m0_2, vI m0_3], 2⟩, ⟨b283, [vI m0_0, vI m0_1], 2⟩, ⟨b282, [vI m0_0, vI m0_1, vI m0_2, vI m0_3], 4⟩, ⟨g281, [vI (mx (mx m0_0 m0_0) m0_2), vI (mx (mx m0_1 m0_1) m0_3)], 2⟩, ⟨g280, [vI (mn (mn m0_0 m0_0) m0_2), vI (mn (mn m0_1 m0_1) m0_3)], 2⟩, ⟨b279, [vI 0, vI 0], 2⟩, ⟨b278, [vI 0, vI 0], 2⟩, ⟨B0, [vI m0_0, vI m0_1, vI m0_2, vI m0_3], 4⟩] : List Own) := by
   exact hqf 15 [4, 5, 68, 70, 72, 74, 77, 79, 81, 83] _ _ _ _ (by kernel_rfl) (by kernel_rfl) hg_aa55
  have hg_a55 : G [true, false, true, false, true, false, true, false, false, true, false, true, false, false, false, false, false, false, false, false, false] [(4, vP b278 0), (5, vP b279 0), (8, vP g281 0), (13, vI (wr64 (Int.tdiv (wr64 (w1 + 1)) 2))), (68, vP g280 0), (70, vI (wr64 (Int.tdiv (wr64 (w1 + 1)) 2))), (72, vP g280 1), (74, vI (wr64 (Int.tdiv (wr64 (w1 + 1)) 2))), (77, vP g281 0), (79, vI (wr64 (Int.tdiv (wr64 (w1 + 1)) 2)))] ([⟨b284, [vI m0_2, vI m0_3], 2⟩, ⟨b283, [vI m0_0, vI m0_1], 2⟩, ⟨b282, [vI m0_0, vI m0_1, vI m0_2, vI m0_3], 4⟩, ⟨g281, [vI (mx (mx m0_0 m0_0) m0_2), vI (mx (mx m0_1 m0_1) m0_3)], 2⟩, ⟨g280, [vI (mn (mn m0_0 m0_0) m0_2), vI (mn (mn m0_1 m0_1) m0_3)], 2⟩, ⟨b279, [vI 0, vI 0], 2⟩, ⟨b278, [vI 0, vI 0], 2⟩, ⟨B0, [vI m0_0, vI m0_1, vI m0_2, vI m0_3], 4⟩] : List Own) := by
   exact hqf 13 [4, 5, 13, 68, 70, 72, 74, 77, 79, 81] _ _ _ _ (by kernel_rfl) (by kernel_rfl) hg_2a55
  have hg_255 : G [true, false, true, false, true, false, true, false, false, true, false, false, false, false, false, false, false, false, false, false, false] [(4, vP b278 0), (5, vP b279 0), (8, vP g281 0), (13, vI (wr64 (Int.tdiv (wr64 (w1 + 1)) 2))), (68, vP g280 0), (70, vI (wr64 (Int.tdiv (wr64 (w1 + 1)) 2))), (72, vP g280 1), (74, vI (wr64 (Int.tdiv (wr64 (w1 + 1)) 2))), (77, vP g281 0)] ([⟨b284, [vI m0_2, vI m0_3], 2⟩, ⟨b283, [vI m0_0, vI m0_1], 2⟩, ⟨b282, [vI m0_0, vI m0_1, vI m0_2, vI m0_3], 4⟩, ⟨g281, [vI (mx (mx m0_0 m0_0) m0_2), vI (mx (mx m0_1 m0_1) m0_3)], 2⟩, ⟨g280, [vI (mn (mn m0_0 m0_0) m0_2), vI (mn (mn m0_1 m0_1) m0_3)], 2⟩, ⟨b279, [vI 0, vI 0], 2⟩, ⟨b278, [vI 0, vI 0], 2⟩, ⟨B0, [vI m0_0, vI m0_1, vI m0_2, vI m0_3], 4⟩] : List Own) := by
   exact hqf 11 [4, 5, 8, 13, 68, 70, 72, 74, 77, 79] _ _ _ _ (by kernel_rfl) (by kernel_rfl) hg_a55
  have hg_55 : G [true, false, true, false, true, false, true, false, false, false, false, false, false, false, false, false, false, false, false, false, false] [(4, vP b278 0), (5, vP b279 0), (8, vP g281 0), (13, vI (wr64 (Int.tdiv (wr64 (w1 + 1)) 2))), (68, vP g280 0), (70, vI (wr64 (Int.tdiv (wr64 (w1 + 1)) 2))), (72, vP g280 1), (74, vI (wr64 (Int.tdiv (wr64 (w1 + 1)) 2)))] ([⟨b284, [vI m0_2, vI m0_3], 2⟩, ⟨b283, [vI m0_0, vI m0_1], 2⟩, ⟨b282, [vI m0_0, vI m0_1, vI m0_2, vI m0_3], 4⟩, ⟨g281, [vI (mx (mx m0_0 m0_0) m0_2), vI (mx (mx m0_1 m0_1) m0_3)], 2⟩, ⟨g280, [vI (mn (mn m0_0 m0_0) m0_2), vI (mn (mn m0_1 m0_1) m0_3)], 2⟩, ⟨b279, [vI 0, vI 0], 2⟩, ⟨b278, [vI 0, vI 0], 2⟩, ⟨B0, [vI m0_0, vI m0_1, vI m0_2, vI m0_3], 4⟩] : List Own) := by
   exact hqf 9 [4, 5, 8, 13, 68, 70, 72, 74, 77] _ _ _ _ (by kernel_rfl) (by kernel_rfl) hg_255
  have hg_15 : G [true, false, true, false, true, false, false, false, false, false, false, false, false, false, false, false, false, false, false, false, false] [(4, vP b278 0), (5, vP b279 0), (8, vP g281 0), (13, vI (wr64 (Int.tdiv (wr64 (w1 + 1)) 2))), (68, vP g280 0), (70, vI (wr64 (Int.tdiv (wr64 (w1 + 1)) 2))), (72, vP g280 1)] ([⟨b284, [vI m0_2, vI m0_3], 2⟩, ⟨b283, [vI m0_0, vI m0_1], 2⟩, ⟨b282, [vI m0_0, vI m0_1, vI m0_2, vI m0_3], 4⟩, ⟨g281, [vI (mx (mx m0_0 m0_0) m0_2), vI (mx (mx m0_1 m0_1) m0_3)], 2⟩, ⟨g280, [vI (mn (mn m0_0 m0_0) m0_2), vI (mn (mn m0_1 m0_1) m0_3)], 2⟩, ⟨b279, [vI 0, vI 0], 2⟩, ⟨b278, [vI 0, vI 0], 2⟩, ⟨B0, [vI m0_0, vI m0_1, vI m0_2, vI m0_3], 4⟩] : List Own) := by
   exact hqf 6 [4, 5, 8, 13, 68, 70, 72, 74] _ _ _ _ (by kernel_rfl) (by kernel_rfl) hg_55
  have hg_5 : G [true, false, true, false, false, false, false, false, false, false, false, false, false, false, false, false, false, false, false, false, false] [(4, vP b278 0), (5, vP b279 0), (7, vP g280 0), (8, vP g281 0), (13, vI (wr64 (Int.tdiv (wr64 (w1 + 1)) 2))), (68, vP g280 0), (70, vI (wr64 (Int.tdiv (wr64 (w1 + 1)) 2)))] ([⟨b284, [vI m0_2, vI m0_3], 2⟩, ⟨b283, [vI m0_0, vI m0_1], 2⟩, ⟨b282, [vI m0_0, vI m0_1, vI m0_2, vI m0_3], 4⟩, ⟨g281, [vI (mx (mx m0_0 m0_0) m0_2), vI (mx (mx m0_1 m0_1) m0_3)], 2⟩, ⟨g280, [vI (mn (mn m0_0 m0_0) m0_2), vI (mn (mn m0_1 m0_1) m0_3)], 2⟩, ⟨b279, [vI 0, vI 0], 2⟩, ⟨b278, [vI 0, vI 0], 2⟩, ⟨B0, [vI m0_0, vI m0_1, vI m0_2, vI m0_3], 4⟩] : List Own) := by
   exact hqf 4 [4, 5, 8, 13, 68, 70, 72] _ _ _ _ (by kernel_rfl) (by kernel_rfl) hg_15
  have hg_1 : G [true, false, false, false, false, false, false, false, false, false, false, false, false, false, false, false, false, false, false, false, false] [(4, vP b278 0), (5, vP b279 0), (7, vP g280 0), (8, vP g281 0), (13, vI (wr64 (Int.tdiv (wr64 (w1 + 1)) 2))), (68, vP g280 0)] ([⟨b284, [vI m0_2, vI m0_3], 2⟩, ⟨b283, [vI m0_0, vI m0_1], 2⟩, ⟨b282, [vI m0_0, vI m0_1, vI m0_2, vI m0_3], 4⟩, ⟨g281, [vI (mx (mx m0_0 m0_0) m0_2), vI (mx (mx m0_1 m0_1) m0_3)], 2⟩, ⟨g280, [vI (mn (mn m0_0 m0_0) m0_2), vI (mn (mn m0_1 m0_1) m0_3)], 2⟩, ⟨b279, [vI 0, vI 0], 2⟩, ⟨b278, [vI 0, vI 0], 2⟩, ⟨B0, [vI m0_0, vI m0_1, vI m0_2, vI m0_3], 4⟩] : List Own) := by
   exact hqf 2 [4, 5, 7, 8, 13, 68, 70] _ _ _ _ (by kernel_rfl) (by kernel_rfl) hg_5
  have hg_0 : G [false, false, false, false, false, false, false, false, false, false, false, false, false, false, false, false, false, false, false, false, false] [(4, vP b278 0), (5, vP b279 0), (7, vP g280 0), (8, vP g281 0), (13, vI (wr64 (Int.tdiv (wr64 (w1 + 1)) 2)))] ([⟨b284, [vI m0_2, vI m0_3], 2⟩, ⟨b283, [vI m0_0, vI m0_1], 2⟩, ⟨b282, [vI m0_0, vI m0_1, vI m0_2, vI m0_3], 4⟩, ⟨g281, [vI (mx (mx m0_0 m0_0) m0_2), vI (mx (mx m0_1 m0_1) m0_3)], 2⟩, ⟨g280, [vI (mn (mn m0_0 m0_0) m0_2), vI (mn (mn m0_1 m0_1) m0_3)], 2⟩, ⟨b279, [vI 0, vI 0], 2⟩, ⟨b278, [vI 0, vI 0], 2⟩, ⟨B0, [vI m0_0, vI m0_1, vI m0_2, vI m0_3], 4⟩] : List Own) := by
   exact hqf 0 [4, 5, 7, 8, 13, 68] _ _ _ _ (by kernel_rfl) (by kernel_rfl) hg_1
  exact hg_0
 have hg_7ff : ∀ (g281 : Nat) (g280 : Nat), G [true, true, true, true, true, true, true, true, true, true, true, false] [(0, .slice (some ⟨B0, 0, none⟩) 1 1), (1, vI w1), (4, vP b278 0), (5, vP b279 0), (7, vP g280 0), (8, vP g281 0), (26, .agg #[vI m0_0, vI m0_1])] ([⟨g281, [vI 0, vI 0], 2⟩, ⟨g280, [vI m0_0, vI m0_1], 2⟩, ⟨b279, [vI 0, vI 0], 2⟩, ⟨b278, [vI 0, vI 0], 2⟩, ⟨B0, [vI m0_0, vI m0_1, vI m0_2, vI m0_3], 4⟩] : List Own) := by
  intro g281 g280
  refine hstep [11] _ _ _ (by kernel_rfl) (List.cons_ne_nil _ _) ⟨?_, trivial⟩
  ·show T _ _ _ _ _ _ _ _
   refine t_sti 0 (cs := [vI m0_0, vI m0_1]) rfl rfl rfl rfl rfl rfl rfl rfl rfl ?_
   exact t_fin [0, 1, 4, 5, 7, 8] (hg_fff g281 g280) (by kernel_rfl)
 have hg_77f : ∀ (g281 : Nat) (g280 : Nat), G [true, true, true, true, true, true, true, false, true, true, true, false] [(0, .slice (some ⟨B0, 0, none⟩) 1 1), (1, vI w1), (4, vP b278 0), (5, vP b279 0), (7, vP g280 0), (8, vP g281 0), (25, vP B0 0)] ([⟨g281, [vI 0, vI 0], 2⟩, ⟨g280, [vI m0_0, vI m0_1], 2⟩, ⟨b279, [vI 0, vI 0], 2⟩, ⟨b278, [vI 0, vI 0], 2⟩, ⟨B0, [vI m0_0, vI m0_1, vI m0_2, vI m0_3], 4⟩] : List Own) := by
  intro g281 g280
  refine hstep [7] _ _ _ (by kernel_rfl) (List.cons_ne_nil _ _) ⟨?_, trivial⟩
  ·show T _ _ _ _ _ _ _ _
   refine t_v (.ldn rfl rfl rfl (.at 4 rfl rfl)) ?_
   exact t_fin [0, 1, 4, 5, 7, 8, 26] (hg_7ff g281 g280) (by kernel_rfl)
 have hg_3ff : ∀ (g281 : Nat) (g280 : Nat), G [true, true, true, true, true, true, true, true, true, true, false, false] [(0, .slice (some ⟨B0, 0, none⟩) 1 1), (1, vI w1), (4, vP b278 0), (5, vP b279 0), (7, vP g280 0), (8, vP g281 0), (22, .agg #[vI m0_0, vI m0_1]), (26, .agg #[vI m0_0, vI m0_1])] ([⟨g281, [vI 0, vI 0], 2⟩, ⟨g280, [vI 0, vI 0], 2⟩, ⟨b279, [vI 0, vI 0], 2⟩, ⟨b278, [vI 0, vI 0], 2⟩, ⟨B0, [vI m0_0, vI m0_1, vI m0_2, vI m0_3], 4⟩] : List Own) := by
  intro g281 g280
  refine hstep [10] _ _ _ (by kernel_rfl) (List.cons_ne_nil _ _) ⟨?_, trivial⟩
  ·show T _ _ _ _ _ _ _ _
   refine t_sti 1 (cs := [vI m0_0, vI m0_1]) rfl rfl rfl rfl rfl rfl rfl rfl rfl ?_
   exact t_fin [0, 1, 4, 5, 7, 8, 26] (hg_7ff g281 g280) (by kernel_rfl)
 have hg_1ff : ∀ (g280 : Nat), G [true, true, true, true, true, true, true, true, true, false, false, false] [(0, .slice (some ⟨B0, 0, none⟩) 1 1), (1, vI w1), (4, vP b278 0), (5, vP b279 0), (7, vP g280 0), (22, .agg #[vI m0_0, vI m0_1]), (26, .agg #[vI m0_0, vI m0_1])] ([⟨g280, [vI 0, vI 0], 2⟩, ⟨b279, [vI 0, vI 0], 2⟩, ⟨b278, [vI 0, vI 0], 2⟩, ⟨B0, [vI m0_0, vI m0_1, vI m0_2, vI m0_3], 4⟩] : List Own) := by
  intro g280
  refine hstep [9] _ _ _ (by kernel_rfl) (List.cons_ne_nil _ _) ⟨?_, trivial⟩
  ·show T _ _ _ _ _ _ _ _
   refine t_a (.new rfl rfl) fun g281 fg281 sg281 => ?_
   exact t_fin [0, 1, 4, 5, 7, 8, 22, 26] (hg_3ff g281 g280) (by kernel_rfl)
 have hg_2ff : ∀ (g281 : Nat), G [true, true, true, true, true, true, true, true, false, true, false, false] [(0, .slice (some ⟨B0, 0, none⟩) 1 1), (1, vI w1), (4, vP b278 0), (5, vP b279 0), (8, vP g281 0), (22, .agg #[vI m0_0, vI m0_1]), (26, .agg #[vI m0_0, vI m0_1])] ([⟨g281, [vI 0, vI 0], 2⟩, ⟨b279, [vI 0, vI 0], 2⟩, ⟨b278, [vI 0, vI 0], 2⟩, ⟨B0, [vI m0_0, vI m0_1, vI m0_2, vI m0_3], 4⟩] : List Own) := by
  intro g281
  refine hstep [8] _ _ _ (by kernel_rfl) (List.cons_ne_nil _ _) ⟨?_, trivial⟩
  ·show T _ _ _ _ _ _ _ _
   refine t_a (.new rfl rfl) fun g280 fg280 sg280 => ?_
   refine t_vs (H' := ([⟨g281, [vI 0, vI 0], 2⟩, ⟨g280, [vI 0, vI 0], 2⟩, ⟨b279, [vI 0, vI 0], 2⟩, ⟨b278, [vI 0, vI 0], 2⟩, ⟨B0, [vI m0_0, vI m0_1, vI m0_2, vI m0_3], 4⟩] : List Own)) (S' := S) (VS.sel [1, 0, 0, 0, 0] (by kernel_rfl)) ?_
   exact t_fin [0, 1, 4, 5, 7, 8, 22, 26] (hg_3ff g281 g280) (by kernel_rfl)
 have hg_37f : ∀ (g281 : Nat) (g280 : Nat), G [true, true, true, true, true, true, true, false, true, true, false, false] [(0, .slice (some ⟨B0, 0, none⟩) 1 1), (1, vI w1), (4, vP b278 0), (5, vP b279 0), (7, vP g280 0), (8, vP g281 0), (22, .agg #[vI m0_0, vI m0_1]), (25, vP B0 0)] ([⟨g281, [vI 0, vI 0], 2⟩, ⟨g280, [vI 0, vI 0], 2⟩, ⟨b279, [vI 0, vI 0], 2⟩, ⟨b278, [vI 0, vI 0], 2⟩, ⟨B0, [vI m0_0, vI m0_1, vI m0_2, vI m0_3], 4⟩] : List Own) := by
  intro g281 g280
  refine hstep [7, 10] _ _ _ (by kernel_rfl) (List.cons_ne_nil _ _) ⟨?_, ?_, trivial⟩
  ·show T _ _ _ _ _ _ _ _
   refine t_v (.ldn rfl rfl rfl (.at 4 rfl rfl)) ?_
   exact t_fin [0, 1, 4, 5, 7, 8, 22, 26] (hg_3ff g281 g280) (by kernel_rfl)
  ·show T _ _ _ _ _ _ _ _
   refine t_sti 1 (cs := [vI m0_0, vI m0_1]) rfl rfl rfl rfl rfl rfl rfl rfl rfl ?_
   exact t_fin [0, 1, 4, 5, 7, 8, 25] (hg_77f g281 g280) (by kernel_rfl)
 have hg_3f7 : ∀ (g281 : Nat) (g280 : Nat), G [true, true, true, false, true, true, true, true, true, true, false, false] [(0, .slice (some ⟨B0, 0, none⟩) 1 1), (1, vI w1), (4, vP b278 0), (5, vP b279 0), (7, vP g280 0), (8, vP g281 0), (21, vP B0 0), (26, .agg #[vI m0_0, vI m0_1])] ([⟨g281, [vI 0, vI 0], 2⟩, ⟨g280, [vI 0, vI 0], 2⟩, ⟨b279, [vI 0, vI 0], 2⟩, ⟨b278, [vI 0, vI 0], 2⟩, ⟨B0, [vI m0_0, vI m0_1, vI m0_2, vI m0_3], 4⟩] : List Own) := by
  intro g281 g280
  refine hstep [3] _ _ _ (by kernel_rfl) (List.cons_ne_nil _ _) ⟨?_, trivial⟩
  ·show T _ _ _ _ _ _ _ _
   refine t_v (.ldn rfl rfl rfl (.at 4 rfl rfl)) ?_
   exact t_fin [0, 1, 4, 5, 7, 8, 22, 26] (hg_3ff g281 g280) (by kernel_rfl)
 have hg_ff : G [true, true, true, true, true, true, true, true, false, false, false, false] [(0, .slice (some ⟨B0, 0, none⟩) 1 1), (1, vI w1), (4, vP b278 0), (5, vP b279 0), (22, .agg #[vI m0_0, vI m0_1]), (26, .agg #[vI m0_0, vI m0_1])] ([⟨b279, [vI 0, vI 0], 2⟩, ⟨b278, [vI 0, vI 0], 2⟩, ⟨B0, [vI m0_0, vI m0_1, vI m0_2, vI m0_3], 4⟩] : List Own) := by
  refine hstep [8, 9] _ _ _ (by kernel_rfl) (List.cons_ne_nil _ _) ⟨?_, ?_, trivial⟩
  ·show T _ _ _ _ _ _ _ _
   refine t_a (.new rfl rfl) fun g280 fg280 sg280 => ?_
   exact t_fin [0, 1, 4, 5, 7, 22, 26] (hg_1ff g280) (by kernel_rfl)
  ·show T _ _ _ _ _ _ _ _
   refine t_a (.new rfl rfl) fun g281 fg281 sg281 => ?_
   exact t_fin [0, 1, 4, 5, 8, 22, 26] (hg_2ff g281) (by kernel_rfl)
 have hg_17f : ∀ (g280 : Nat), G [true, true, true, true, true, true, true, false, true, false, false, false] [(0, .slice (some ⟨B0, 0, none⟩) 1 1), (1, vI w1), (4, vP b278 0), (5, vP b279 0), (7, vP g280 0), (22, .agg #[vI m0_0, vI m0_1]), (25, vP B0 0)] ([⟨g280, [vI 0, vI 0], 2⟩, ⟨b279, [vI 0, vI 0], 2⟩, ⟨b278, [vI 0, vI 0], 2⟩, ⟨B0, [vI m0_0, vI m0_1, vI m0_2, vI m0_3], 4⟩] : List Own) := by
  intro g280
  refine hstep [7, 9] _ _ _ (by kernel_rfl) (List.cons_ne_nil _ _) ⟨?_, ?_, trivial⟩
  ·show T _ _ _ _ _ _ _ _
   refine t_v (.ldn rfl rfl rfl (.at 3 rfl rfl)) ?_
   exact t_fin [0, 1, 4, 5, 7, 22, 26] (hg_1ff g280) (by kernel_rfl)
  ·show T _ _ _ _ _ _ _ _
   refine t_a (.new rfl rfl) fun g281 fg281 sg281 => ?_
   exact t_fin [0, 1, 4, 5, 7, 8, 22, 25] (hg_37f g281 g280) (by kernel_rfl)
 have hg_27f : ∀ (g281 : Nat), G [true, true, true, true, true, true, true, false, false, true, false, false] [(0, .slice (some ⟨B0, 0, none⟩) 1 1), (1, vI w1), (4, vP b278 0), (5, vP b279 0), (8, vP g281 0), (22, .agg #[vI m0_0, vI m0_1]), (25, vP B0 0)] ([⟨g281, [vI 0, vI 0], 2⟩, ⟨b279, [vI 0, vI 0], 2⟩, ⟨b278, [vI 0, vI 0], 2⟩, ⟨B0, [vI m0_0, vI m0_1, vI m0_2, vI m0_3], 4⟩] : List Own) := by
  intro g281
  refine hstep [7, 8] _ _ _ (by kernel_rfl) (List.cons_ne_nil _ _) ⟨?_, ?_, trivial⟩
  ·show T _ _ _ _ _ _ _ _
   refine t_v (.ldn rfl rfl rfl (.at 3 rfl rfl)) ?_
   exact t_fin [0, 1, 4, 5, 8, 22, 26] (hg_2ff g281) (by kernel_rfl)
  ·show T _ _ _ _ _ _ _ _
   refine t_a (.new rfl rfl) fun g280 fg280 sg280 => ?_
   refine t_vs (H' := ([⟨g281, [vI 0, vI 0], 2⟩, ⟨g280, [vI 0, vI 0], 2⟩, ⟨b279, [vI 0, vI 0], 2⟩, ⟨b278, [vI 0, vI 0], 2⟩, ⟨B0, [vI m0_0, vI m0_1, vI m0_2, vI m0_3], 4⟩] : List Own)) (S' := S) (VS.sel [1, 0, 0, 0, 0] (by kernel_rfl)) ?_
   exact t_fin [0, 1, 4, 5, 7, 8, 22, 25] (hg_37f g281 g280) (by kernel_rfl)
 have hg_1f7 : ∀ (g280 : Nat), G [true, true, true, false, true, true, true, true, true, false, false, false] [(0, .slice (some ⟨B0, 0, none⟩) 1 1), (1, vI w1), (4, vP b278 0), (5, vP b279 0), (7, vP g280 0), (21, vP B0 0), (26, .agg #[vI m0_0, vI m0_1])] ([⟨g280, [vI 0, vI 0], 2⟩, ⟨b279, [vI 0, vI 0], 2⟩, ⟨b278, [vI 0, vI 0], 2⟩, ⟨B0, [vI m0_0, vI m0_1, vI m0_2, vI m0_3], 4⟩] : List Own) := by
  intro g280
  refine hstep [3, 9] _ _ _ (by kernel_rfl) (List.cons_ne_nil _ _) ⟨?_, ?_, trivial⟩
  ·show T _ _ _ _ _ _ _ _
   refine t_v (.ldn rfl rfl rfl (.at 3 rfl rfl)) ?_
   exact t_fin [0, 1, 4, 5, 7, 22, 26] (hg_1ff g280) (by kernel_rfl)
  ·show T _ _ _ _ _ _ _ _
   refine t_a (.new rfl rfl) fun g281 fg281 sg281 => ?_
   exact t_fin [0, 1, 4, 5, 7, 8, 21, 26] (hg_3f7 g281 g280) (by kernel_rfl)
 have hg_2f7 : ∀ (g281 : Nat), G [true, true, true, false, true, true, true, true, false, true, false, false] [(0, .slice (some ⟨B0, 0, none⟩) 1 1), (1, vI w1), (4, vP b278 0), (5, vP b279 0), (8, vP g281 0), (21, vP B0 0), (26, .agg #[vI m0_0, vI m0_1])] ([⟨g281, [vI 0, vI 0], 2⟩, ⟨b279, [vI 0, vI 0], 2⟩, ⟨b278, [vI 0, vI 0], 2⟩, ⟨B0, [vI m0_0, vI m0_1, vI m0_2, vI m0_3], 4⟩] : List Own) := by
  intro g281
  refine hstep [3, 8] _ _ _ (by kernel_rfl) (List.cons_ne_nil _ _) ⟨?_, ?_, trivial⟩
  ·show T _ _ _ _ _ _ _ _
   refine t_v (.ldn rfl rfl rfl (.at 3 rfl rfl)) ?_
   exact t_fin [0, 1, 4, 5, 8, 22, 26] (hg_2ff g281) (by kernel_rfl)
  ·show T _ _ _ _ _ _ _ _
   refine t_a (.new rfl rfl) fun g280 fg280 sg280 => ?_
   refine t_vs (H' := ([⟨g281, [vI 0, vI 0], 2⟩, ⟨g280, [vI 0, vI 0], 2⟩, ⟨b279, [vI 0, vI 0], 2⟩, ⟨b278, [vI 0, vI 0], 2⟩, ⟨B0, [vI m0_0, vI m0_1, vI m0_2, vI m0_3], 4⟩] : List Own)) (S' := S) (VS.sel [1, 0, 0, 0, 0] (by kernel_rfl)) ?_
   exact t_fin [0, 1, 4, 5, 7, 8, 21, 26] (hg_3f7 g281 g280) (by kernel_rfl)
 have hg_377 : ∀ (g281 : Nat) (g280 : Nat), G [true, true, true, false, true, true, true, false, true, true, false, false] [(0, .slice (some ⟨B0, 0, none⟩) 1 1), (1, vI w1), (4, vP b278 0), (5, vP b279 0), (7, vP g280 0), (8, vP g281 0), (21, vP B0 0), (25, vP B0 0)] ([⟨g281, [vI 0, vI 0], 2⟩, ⟨g280, [vI 0, vI 0], 2⟩, ⟨b279, [vI 0, vI 0], 2⟩, ⟨b278, [vI 0, vI 0], 2⟩, ⟨B0, [vI m0_0, vI m0_1, vI m0_2, vI m0_3], 4⟩] : List Own) := by
  intro g281 g280
  refine hstep [3, 7] _ _ _ (by kernel_rfl) (List.cons_ne_nil _ _) ⟨?_, ?_, trivial⟩
  ·show T _ _ _ _ _ _ _ _
   refine t_v (.ldn rfl rfl rfl (.at 4 rfl rfl)) ?_
   exact t_fin [0, 1, 4, 5, 7, 8, 22, 25] (hg_37f g281 g280) (by kernel_rfl)
  ·show T _ _ _ _ _ _ _ _
   refine t_v (.ldn rfl rfl rfl (.at 4 rfl rfl)) ?_
   exact t_fin [0, 1, 4, 5, 7, 8, 21, 26] (hg_3f7 g281 g280) (by kernel_rfl)
 have hg_f7 : G [true, true, true, false, true, true, true, true, false, false, false, false] [(0, .slice (some ⟨B0, 0, none⟩) 1 1), (1, vI w1), (4, vP b278 0), (5, vP b279 0), (21, vP B0 0), (26, .agg #[vI m0_0, vI m0_1])] ([⟨b279, [vI 0, vI 0], 2⟩, ⟨b278, [vI 0, vI 0], 2⟩, ⟨B0, [vI m0_0, vI m0_1, vI m0_2, vI m0_3], 4⟩] : List Own) := by
  refine hstep [3, 8, 9] _ _ _ (by kernel_rfl) (List.cons_ne_nil _ _) ⟨?_, ?_, ?_, trivial⟩
  ·show T _ _ _ _ _ _ _ _
   refine t_v (.ldn rfl rfl rfl (.at 2 rfl rfl)) ?_
   exact t_fin [0, 1, 4, 5, 22, 26] hg_ff (by kernel_rfl)
  ·show T _ _ _ _ _ _ _ _
   refine t_a (.new rfl rfl) fun g280 fg280 sg280 => ?_
   exact t_fin [0, 1, 4, 5, 7, 21, 26] (hg_1f7 g280) (by kernel_rfl)
  ·show T _ _ _ _ _ _ _ _
   refine t_a (.new rfl rfl) fun g281 fg281 sg281 => ?_
   exact t_fin [0, 1, 4, 5, 8, 21, 26] (hg_2f7 g281) (by kernel_rfl)
 have hg_177 : ∀ (g280 : Nat), G [true, true, true, false, true, true, true, false, true, false, false, false] [(0, .slice (some ⟨B0, 0, none⟩) 1 1), (1, vI w1), (4, vP b278 0), (5, vP b279 0), (7, vP g280 0), (21, vP B0 0), (25, vP B0 0)] ([⟨g280, [vI 0, vI 0], 2⟩, ⟨b279, [vI 0, vI 0], 2⟩, ⟨b278, [vI 0, vI 0], 2⟩, ⟨B0, [vI m0_0, vI m0_1, vI m0_2, vI m0_3], 4⟩] : List Own) := by
  intro g280
  refine hstep [3, 7, 9] _ _ _ (by kernel_rfl) (List.cons_ne_nil _ _) ⟨?_, ?_, ?_, trivial⟩
  ·show T _ _ _ _ _ _ _ _
   refine t_v (.ldn rfl rfl rfl (.at 3 rfl rfl)) ?_
   exact t_fin [0, 1, 4, 5, 7, 22, 25] (hg_17f g280) (by kernel_rfl)
  ·show T _ _ _ _ _ _ _ _
   refine t_v (.ldn rfl rfl rfl (.at 3 rfl rfl)) ?_
   exact t_fin [0, 1, 4, 5, 7, 21, 26] (hg_1f7 g280) (by kernel_rfl)
  ·show T _ _ _ _ _ _ _ _
   refine t_a (.new rfl rfl) fun g281 fg281 sg281 => ?_
   exact t_fin [0, 1, 4, 5, 7, 8, 21, 25] (hg_377 g281 g280) (by kernel_rfl)
 have hg_277 : ∀ (g281 : Nat), G [true, true, true, false, true, true, true, false, false, true, false, false] [(0, .slice (some ⟨B0, 0, none⟩) 1 1), (1, vI w1), (4, vP b278 0), (5, vP b279 0), (8, vP g281 0), (21, vP B0 0), (25, vP B0 0)] ([⟨g281, [vI 0, vI 0], 2⟩, ⟨b279, [vI 0, vI 0], 2⟩, ⟨b278, [vI 0, vI 0], 2⟩, ⟨B0, [vI m0_0, vI m0_1, vI m0_2, vI m0_3], 4⟩] : List Own) := by
  intro g281
  refine hstep [3, 7, 8] _ _ _ (by kernel_rfl) (List.cons_ne_nil _ _) ⟨?_, ?_, ?_, trivial⟩
  ·show T _ _ _ _ _ _ _ _
   refine t_v (.ldn rfl rfl rfl (.at 3 rfl rfl)) ?_
   exact t_fin [0, 1, 4, 5, 8, 22, 25] (hg_27f g281) (by kernel_rfl)
  ·show T _ _ _ _ _ _ _ _
   refine t_v (.ldn rfl rfl rfl (.at 3 rfl rfl)) ?_
   exact t_fin [0, 1, 4, 5, 8, 21, 26] (hg_2f7 g281) (by kernel_rfl)
  ·show T _ _ _ _ _ _ _ _
   refine t_a (.new rfl rfl) fun g280 fg280 sg280 => ?_
   refine t_vs (H' := ([⟨g281, [vI 0, vI 0], 2⟩, ⟨g280, [vI 0, vI 0], 2⟩, ⟨b279, [vI 0, vI 0], 2⟩, ⟨b278, [vI 0, vI 0], 2⟩, ⟨B0, [vI m0_0, vI m0_1, vI m0_2, vI m0_3], 4⟩] : List Own)) (S' := S) (VS.sel [1, 0, 0, 0, 0] (by kernel_rfl)) ?_
   exact t_fin [0, 1, 4, 5, 7, 8, 21, 25] (hg_377 g281 g280) (by kernel_rfl)
 have hg_7f : G [true, true, true, true, true, true, true, false, false, false, false, false] [(0, .slice (some ⟨B0, 0, none⟩) 1 1), (1, vI w1), (4, vP b278 0), (5, vP b279 0), (22, .agg #[vI m0_0, vI m0_1]), (25, vP B0 0)] ([⟨b279, [vI 0, vI 0], 2⟩, ⟨b278, [vI 0, vI 0], 2⟩, ⟨B0, [vI m0_0, vI m0_1, vI m0_2, vI m0_3], 4⟩] : List Own) := by
  refine hstep [7, 8, 9] _ _ _ (by kernel_rfl) (List.cons_ne_nil _ _) ⟨?_, ?_, ?_, trivial⟩
  ·show T _ _ _ _ _ _ _ _
   refine t_v (.ldn rfl rfl rfl (.at 2 rfl rfl)) ?_
   exact t_fin [0, 1, 4, 5, 22, 26] hg_ff (by kernel_rfl)
  ·show T _ _ _ _ _ _ _ _
   refine t_a (.new rfl rfl) fun g280 fg280 sg280 => ?_
   exact t_fin [0, 1, 4, 5, 7, 22, 25] (hg_17f g280) (by kernel_rfl)
  ·show T _ _ _ _ _ _ _ _
   refine t_a (.new rfl rfl) fun g281 fg281 sg281 => ?_
   exact t_fin [0, 1, 4, 5, 8, 22, 25] (hg_27f g281) (by kernel_rfl)
 have hg_77 : G [true, true, true, false, true, true, true, false, false, false, false, false] [(0, .slice (some ⟨B0, 0, none⟩) 1 1), (1, vI w1), (4, vP b278 0), (5, vP b279 0), (21, vP B0 0), (25, vP B0 0)] ([⟨b279, [vI 0, vI 0], 2⟩, ⟨b278, [vI 0, vI 0], 2⟩, ⟨B0, [vI m0_0, vI m0_1, vI m0_2, vI m0_3], 4⟩] : List Own) := by
  refine hstep [3, 7, 8, 9] _ _ _ (by kernel_rfl) (List.cons_ne_nil _ _) ⟨?_, ?_, ?_, ?_, trivial⟩
  ·show T _ _ _ _ _ _ _ _
   refine t_v (.ldn rfl rfl rfl (.at 2 rfl rfl)) ?_
   exact t_fin [0, 1, 4, 5, 22, 25] hg_7f (by kernel_rfl)
  ·show T _ _ _ _ _ _ _ _
   refine t_v (.ldn rfl rfl rfl (.at 2 rfl rfl)) ?_
   exact t_fin [0, 1, 4, 5, 21, 26] hg_f7 (by kernel_rfl)
  ·show T _ _ _ _ _ _ _ _
   refine t_a (.new rfl rfl) fun g280 fg280 sg280 => ?_
   exact t_fin [0, 1, 4, 5, 7, 21, 25] (hg_177 g280) (by kernel_rfl)
  ·show T _ _ _ _ _ _ _ _
   refine t_a (.new rfl rfl) fun g281 fg281 sg281 => ?_
   exact t_fin [0, 1, 4, 5, 8, 21, 25] (hg_277 g281) (by kernel_rfl)
 have hg_37 : G [true, true, true, false, true, true, false, false, false, false, false, false] [(0, .slice (some ⟨B0, 0, none⟩) 1 1), (1, vI w1), (4, vP b278 0), (5, vP b279 0), (21, vP B0 0), (24, vP B0 0)] ([⟨b279, [vI 0, vI 0], 2⟩, ⟨b278, [vI 0, vI 0], 2⟩, ⟨B0, [vI m0_0, vI m0_1, vI m0_2, vI m0_3], 4⟩] : List Own) := by
  exact hqf 6 [0, 1, 4, 5, 21, 25] _ _ _ _ (by kernel_rfl) (by kernel_rfl) hg_77
 have hg_17 : G [true, true, true, false, true, false, false, false, false, false, false, false] [(0, .slice (some ⟨B0, 0, none⟩) 1 1), (1, vI w1), (4, vP b278 0), (5, vP b279 0), (21, vP B0 0), (23, .slice (some ⟨B0, 0, none⟩) 1 1)] ([⟨b279, [vI 0, vI 0], 2⟩, ⟨b278, [vI 0, vI 0], 2⟩, ⟨B0, [vI m0_0, vI m0_1, vI m0_2, vI m0_3], 4⟩] : List Own) := by
  exact hqf 5 [0, 1, 4, 5, 21, 24] _ _ _ _ (by kernel_rfl) (by kernel_rfl) hg_37
 have hg_7 : G [true, true, true, false, false, false, false, false, false, false, false, false] [(0, .slice (some ⟨B0, 0, none⟩) 1 1), (1, vI w1), (4, vP b278 0), (5, vP b279 0), (21, vP B0 0)] ([⟨b279, [vI 0, vI 0], 2⟩, ⟨b278, [vI 0, vI 0], 2⟩, ⟨B0, [vI m0_0, vI m0_1, vI m0_2, vI m0_3], 4⟩] : List Own) := by
  exact hqf 4 [0, 1, 4, 5, 21, 23] _ _ _ _ (by kernel_rfl) (by kernel_rfl) hg_17
 have hg_3 : G [true, true, false, false, false, false, false, false, false, false, false, false] [(0, .slice (some ⟨B0, 0, none⟩) 1 1), (1, vI w1), (4, vP b278 0), (5, vP b279 0), (20, vP B0 0)] ([⟨b279, [vI 0, vI 0], 2⟩, ⟨b278, [vI 0, vI 0], 2⟩, ⟨B0, [vI m0_0, vI m0_1, vI m0_2, vI m0_3], 4⟩] : List Own) := by
  exact hqf 2 [0, 1, 4, 5, 21] _ _ _ _ (by kernel_rfl) (by kernel_rfl) hg_7
 have hg_1 : G [true, false, false, false, false, false, false, false, false, false, false, false] [(0, .slice (some ⟨B0, 0, none⟩) 1 1), (1, vI w1), (4, vP b278 0), (5, vP b279 0), (19, .slice (some ⟨B0, 0, none⟩) 1 1)] ([⟨b279, [vI 0, vI 0], 2⟩, ⟨b278, [vI 0, vI 0], 2⟩, ⟨B0, [vI m0_0, vI m0_1, vI m0_2, vI m0_3], 4⟩] : List Own) := by
  exact hqf 1 [0, 1, 4, 5, 20] _ _ _ _ (by kernel_rfl) (by kernel_rfl) hg_3
 have hg_0 : G [false, false, false, false, false, false, false, false, false, false, false, false] [(0, .slice (some ⟨B0, 0, none⟩) 1 1), (1, vI w1), (4, vP b278 0), (5, vP b279 0)] ([⟨b279, [vI 0, vI 0], 2⟩, ⟨b278, [vI 0, vI 0], 2⟩, ⟨B0, [vI m0_0, vI m0_1, vI m0_2, vI m0_3], 4⟩] : List Own) := by
  exact hqf 0 [0, 1, 4, 5, 19] _ _ _ _ (by kernel_rfl) (by kernel_rfl) hg_1
 exact hg_0
end Go.Proofs.YtobjaddicodiaaaDoor.QRenderWhole
