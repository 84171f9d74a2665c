/- The law's row out of its call, and its card. Own work, after the pattern of the kit's print. -/
import Derived.Test.YtobjaddicodiaaaDoorRows
import Derived.Test.YtobjaddicodiaaaDoorQRenderWholex3
import Derived.Test.YtobjaddicodiaaaDoorQPureRenderWhole
import Derived.Test.YtobjaddicodiaaaDoorCards
import Derived.Test.YtobjaddicodiaaaDoorTie
import Derived.SevenTiedAt
import Derived.LaidMore
import Derived.LaidLaws
import Derived.Stop.Joined
import Derived.WalkKit
import Derived.ProofKit
import Derived.OpenShut
import Derived.ShutString
import Derived.ChangeOld
import Derived.Below
import Derived.SizedLaws
import Derived.Lib.SmallJoins
import Derived.Carry
import Derived.ChangeSlices
namespace Go.Proofs.YtobjaddicodiaaaDoor.renderWhole
open Go.ChangeShapes Go.WideShapes Go.ChangeAt Go.RowKit Go.Joins
open Go.ChangeMaps (open_string shut_string)
open Go.Proofs.YtobjaddicodiaaaDoorE (Seal HOK SlI hok0 sealW ints_W open_flat EO LS ST eo_laid)
set_option linter.unusedVariables false
theorem laidOut : laidOutB Tryd.prog = true := by kernel_rfl
theorem own : ownKnob Tryd.prog.godebug = none := by kernel_rfl
theorem g2 : Tryd.prog.globalNamed "glyphic/api.ErrWidth" = some 2 := by kernel_rfl
theorem ty2 : (Tryd.prog.globals[2]?).map (·.type) = some 29 := by kernel_rfl
theorem g1 : Tryd.prog.globalNamed "glyphic/api.ErrBudget" = some 1 := by kernel_rfl
theorem ty1 : (Tryd.prog.globals[1]?).map (·.type) = some 29 := by kernel_rfl
theorem star : "*" ++ "errors.errorString" = "*errors.errorString" := by decide
theorem typeRow (u : TypeId) (h : Tryd.prog.typeName? 3 u = some "*errors.errorString") : u = 157 :=
  typeName_ptr_named (nm := "errors.errorString") (by rw [star]; kernel_rfl) (by kernel_rfl) (by decide) u (by rw [star]; exact h)
theorem sent : ST Tryd.prog 29 157 "*errors.errorString" := ⟨_, _, _, _, Tryd.underlying29, typeRow, Tryd.underlying157, Tryd.underlying175, rfl, rfl, Tryd.underlying9, by kernel_rfl, by kernel_rfl⟩
theorem listed : LS Tryd.prog 29 "*errors.errorString" [2, 1] Rows.renderWholeRow.laid := (.cons g2 ty2 (.cons g1 ty1 .nil))
theorem door_met (os : Os) (args : Array Value) : laidMetH Tryd.prog Rows.renderWholeRow.laid ((World.doorLaid Tryd.prog 4000 os).forCall (fun _ _ => 0) ⟨#[], args, []⟩).memory :=
  laidMetH_of_parts3 (fuel := 8) (laidMet_of_run' 8 (by kernel_rfl) (by kernel_rfl)) (by kernel_rfl) (by kernel_rfl)
set_option maxRecDepth 100000 in
theorem lifted (os : Os) (started : os.Started) (H : Type) (enc : TypeId × Value → H) :
    ReturnsInHanded {} Tryd.checked os 3 .any (fun w args => (Rows.renderWholeSpec.pre enc Tryd.prog Tryd.f3 [] false w args ∧ laidMetH Tryd.prog Rows.renderWholeRow.laid w) ∧ sizedMet enc Tryd.prog Tryd.f3 (OpenSpec.ofChange Rows.renderWholeSpec) false w args) (Rows.renderWholeSpec.post enc Tryd.prog Tryd.f3 false true false false) := by
  refine returnsInHanded_of_change_and (C := Tryd.checked) (X := fun w _ => laidMetH Tryd.prog Rows.renderWholeRow.laid w) (fun _ _ _ hh h => h.of_heap hh) own started (by kernel_rfl) Tryd.func3
    (ChangeSpec.witness_shaped (enc := enc) (C := Tryd.checked) (os := os) (X := fun w _ => laidMetH Tryd.prog Rows.renderWholeRow.laid w) false (World.doorLaid Tryd.prog 4000 os) #[.agg #[.int .u8 0, .int .u8 0, .int .u8 0, .int .u8 0], .int .i64 0, .int .i64 0] 8 rfl (World.shaped_of_RefB (by kernel_rfl) (by kernel_rfl)) (by kernel_rfl) (by kernel_rfl) (by kernel_rfl) (door_met os _)) ?_
  intro W base args ds gs before hval0 hW _ _ hL _
  have hval : ∀ (j : Nat) t v, Tryd.f3.params[j]? = some t → args[j]? = some v → Value.okWide Tryd.prog W .any base t v := hval0
  have hW' := hW
  obtain ⟨p, q, hA0, hV, rfl, hfz, hnd⟩ := hW
  have hA : DataW.TrodAll enc Tryd.prog W 0 (fun _ => true) true Tryd.f3.params.toList args.toList ds p := hA0
  rw [Tryd.params3] at hA hval
  obtain ⟨v0, vs0, d0, ds0, p0, q0, hargs, rfl, rfl, h0, r0⟩ := trodAll_cons hA
  obtain ⟨v1, vs1, d1, ds1, p1, q1, rfl, rfl, rfl, h1, r1⟩ := trodAll_cons r0
  obtain ⟨v2, vs2, d2, ds2, p2, q2, rfl, rfl, rfl, h2, r2⟩ := trodAll_cons r1
  obtain ⟨rfl, rfl, rfl⟩ := trodAll_nil r2
  obtain rfl : args = #[v0, v1, v2] := by cases args; simp_all
  obtain ⟨rfl, rfl⟩ := trodVars_none hV
  obtain ⟨pl, A, hS, hE⟩ := eo_laid sent listed (by rw [← MakeChecks.laidMetH_plain _ _ _ (by kernel_rfl)]; exact hL)
  have k0 := h0
  have lt0 : ∀ x ∈ p0, x.block < W.heap.size := by obtain ⟨m, hm⟩ := k0; exact DataW.trod_lt m _ _ _ hm
  obtain ⟨cs0, rfl, a0_0, _, rfl, w0_0, a0_1, _, rfl, w0_1, a0_2, _, rfl, w0_2, a0_3, _, rfl, w0_3, hn0⟩ := open_flat (ks := [some .u8, some .u8, some .u8, some .u8]) Tryd.underlying23 (by kernel_rfl) (hval 0 23 v0 rfl rfl) h0
  obtain rfl := hn0
  obtain ⟨a1, rfl, rfl, rfl, w1⟩ := open_int Tryd.underlying3 (hval 1 3 v1 rfl rfl) h1
  obtain ⟨a2, rfl, rfl, rfl, w2⟩ := open_int Tryd.underlying3 (hval 2 3 v2 rfl rfl) h2
  clear hA0 hval0
  refine (QRenderWhole.glyphiclaw27_RenderWhole.walk Pure.RenderWhole a0_0 a0_1 a0_2 a0_3 a1 a2 W hS hE w0_0 w0_1 w0_2 w0_3 w1 w2).mono fun e W' ⟨he, bel⟩ => ?_
  subst he
  exact ⟨_, rfl, _, _, _, [], _, [], hW', trodAll_mk1 (shut_bool Tryd.underlying4 _), (trodAll_cons_mk (Below.trod laidOut (by kernel_rfl) (of_decide_eq_true (by kernel_rfl)) k0 bel lt0) (trodAll_cons_mk (shut_int Tryd.underlying3 w1) (trodAll_cons_mk (shut_int Tryd.underlying3 w2) trodAll_mk0))), rfl, bel.frame _, fun h => by cases h⟩
theorem over : Rows.renderWholeRow.holds Tryd.pinned (OpenSpec.ofChange Rows.renderWholeSpec) :=
  OpenClaim.holds_of_wide 3 Tryd.f3 rfl rfl rfl rfl rfl rfl rfl ⟨rfl, rfl, rfl, rfl, rfl⟩ rfl rfl rfl rfl rfl (by kernel_rfl) Tryd.func3 (by kernel_rfl)
    (of_decide_eq_true (by kernel_rfl)) (by unfold Func.isWrapper; first | (rw [if_pos (by decide +kernel)]; kernel_rfl) | (rw [if_neg (by decide +kernel)]; exact ⟨rfl, rfl⟩))
    (fun os started H enc _ => lifted os started H enc)
theorem proved : Rows.RenderWholeCardSaid :=
  Claim7.holds_tied_plain_at .later [] [.sentinel, .sentinel] true (true, "78e072a88d6d42ffcf26d38993b24d91dbba405c61328073ab6be877a418f9c7") true
    over (fun _ h => by cases h) (by kernel_rfl) (fun _ h => by cases h) renderWhole_row_tie rfl ⟨rfl, rfl⟩ (by kernel_rfl) rfl
    (fun f fn hf hfn => by
      obtain rfl : f = 3 := Option.some.inj ((show Tryd.prog.funcNamed "glyphic/glyphiclaw27.RenderWhole" = some 3 by kernel_rfl).symm.trans hf) |>.symm
      obtain rfl : fn = Tryd.f3 := (Option.some.inj (Tryd.func3.symm.trans hfn)).symm
      exact ⟨by kernel_rfl, fun j t ht => by
        rw [Tryd.params3] at ht
        have h3 : t = 3 ∨ t = 23 := by
          rcases j with _ | _ | _ | j <;> simp at ht <;> (subst ht; decide)
        rcases h3 with rfl | rfl
        · exact (show Tryd.prog.wantsStandIn 3 = false by kernel_rfl)
        · exact (show Tryd.prog.wantsStandIn 23 = false by kernel_rfl)⟩)
    (by kernel_rfl)
#print axioms proved
end Go.Proofs.YtobjaddicodiaaaDoor.renderWhole
namespace Go.Proofs.YtobjaddicodiaaaDoor
/-- The card, under a short name, for the claim. -/
theorem renderWhole_holds : Rows.RenderWholeCardSaid := renderWhole.proved
end Go.Proofs.YtobjaddicodiaaaDoor
