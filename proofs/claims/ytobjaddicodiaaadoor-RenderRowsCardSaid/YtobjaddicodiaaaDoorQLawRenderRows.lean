/- The law's row out of its call, and its card. Own work, after the pattern of the kit's print. -/
import Derived.Test.YtobjaddicodiaaaDoorRows
import Derived.Test.YtobjaddicodiaaaDoorQRenderRowsx2
import Derived.Test.YtobjaddicodiaaaDoorQPureRenderRows
import Derived.Test.YtobjaddicodiaaaDoorCards
import Derived.Test.YtobjaddicodiaaaDoorTie
import Derived.SevenTiedAt
import Derived.LaidMore
import Derived.LaidLaws
import Derived.Stop.Joined
import Derived.WalkKit
import Derived.ProofKit
import Derived.OpenShut
import Derived.ShutString
import Derived.ChangeOld
import Derived.Below
import Derived.SizedLaws
import Derived.Lib.SmallJoins
import Derived.Carry
import Derived.ChangeSlices
namespace Go.Proofs.YtobjaddicodiaaaDoor.renderRows
open Go.ChangeShapes Go.WideShapes Go.ChangeAt Go.RowKit Go.Joins
open Go.ChangeMaps (open_string shut_string)
open Go.Proofs.YtobjaddicodiaaaDoorE (Seal HOK SlI hok0 sealW ints_W open_flat EO LS ST eo_laid)
set_option linter.unusedVariables false
theorem laidOut : laidOutB Tryd.prog = true := by kernel_rfl
theorem own : ownKnob Tryd.prog.godebug = none := by kernel_rfl
theorem g3 : Tryd.prog.globalNamed "glyphic/api.ErrText" = some 3 := by kernel_rfl
theorem ty3 : (Tryd.prog.globals[3]?).map (·.type) = some 29 := by kernel_rfl
theorem g4 : Tryd.prog.globalNamed "glyphic/api.ErrName" = some 4 := by kernel_rfl
theorem ty4 : (Tryd.prog.globals[4]?).map (·.type) = some 29 := by kernel_rfl
theorem g5 : Tryd.prog.globalNamed "glyphic/api.ErrTwice" = some 5 := by kernel_rfl
theorem ty5 : (Tryd.prog.globals[5]?).map (·.type) = some 29 := by kernel_rfl
theorem g6 : Tryd.prog.globalNamed "glyphic/api.ErrPath" = some 6 := by kernel_rfl
theorem ty6 : (Tryd.prog.globals[6]?).map (·.type) = some 29 := by kernel_rfl
theorem g0 : Tryd.prog.globalNamed "glyphic/api.ErrRange" = some 0 := by kernel_rfl
theorem ty0 : (Tryd.prog.globals[0]?).map (·.type) = some 29 := by kernel_rfl
theorem g7 : Tryd.prog.globalNamed "glyphic/api.ErrLimit" = some 7 := by kernel_rfl
theorem ty7 : (Tryd.prog.globals[7]?).map (·.type) = some 29 := by kernel_rfl
theorem g8 : Tryd.prog.globalNamed "glyphic/api.ErrShort" = some 8 := by kernel_rfl
theorem ty8 : (Tryd.prog.globals[8]?).map (·.type) = some 29 := by kernel_rfl
theorem g9 : Tryd.prog.globalNamed "glyphic/api.ErrMagic" = some 9 := by kernel_rfl
theorem ty9 : (Tryd.prog.globals[9]?).map (·.type) = some 29 := by kernel_rfl
theorem g10 : Tryd.prog.globalNamed "glyphic/api.ErrVarint" = some 10 := by kernel_rfl
theorem ty10 : (Tryd.prog.globals[10]?).map (·.type) = some 29 := by kernel_rfl
theorem g11 : Tryd.prog.globalNamed "glyphic/api.ErrCanon" = some 11 := by kernel_rfl
theorem ty11 : (Tryd.prog.globals[11]?).map (·.type) = some 29 := by kernel_rfl
theorem g12 : Tryd.prog.globalNamed "glyphic/api.ErrTrail" = some 12 := by kernel_rfl
theorem ty12 : (Tryd.prog.globals[12]?).map (·.type) = some 29 := by kernel_rfl
theorem g2 : Tryd.prog.globalNamed "glyphic/api.ErrWidth" = some 2 := by kernel_rfl
theorem ty2 : (Tryd.prog.globals[2]?).map (·.type) = some 29 := by kernel_rfl
theorem g1 : Tryd.prog.globalNamed "glyphic/api.ErrBudget" = some 1 := by kernel_rfl
theorem ty1 : (Tryd.prog.globals[1]?).map (·.type) = some 29 := by kernel_rfl
theorem star : "*" ++ "errors.errorString" = "*errors.errorString" := by decide
theorem typeRow (u : TypeId) (h : Tryd.prog.typeName? 3 u = some "*errors.errorString") : u = 157 :=
  typeName_ptr_named (nm := "errors.errorString") (by rw [star]; kernel_rfl) (by kernel_rfl) (by decide) u (by rw [star]; exact h)
theorem sent : ST Tryd.prog 29 157 "*errors.errorString" := ⟨_, _, _, _, Tryd.underlying29, typeRow, Tryd.underlying157, Tryd.underlying175, rfl, rfl, Tryd.underlying9, by kernel_rfl, by kernel_rfl⟩
theorem listed : LS Tryd.prog 29 "*errors.errorString" [3, 4, 5, 6, 0, 7, 8, 9, 10, 11, 12, 2, 1] Rows.renderRowsRow.laid := (.cons g3 ty3 (.cons g4 ty4 (.cons g5 ty5 (.cons g6 ty6 (.cons g0 ty0 (.cons g7 ty7 (.cons g8 ty8 (.cons g9 ty9 (.cons g10 ty10 (.cons g11 ty11 (.cons g12 ty12 (.cons g2 ty2 (.cons g1 ty1 .nil)))))))))))))
theorem door_met (os : Os) (args : Array Value) : laidMetH Tryd.prog Rows.renderRowsRow.laid ((World.doorLaid Tryd.prog 4000 os).forCall (fun _ _ => 0) ⟨#[], args, []⟩).memory :=
  laidMetH_of_parts3 (fuel := 8) (laidMet_of_run' 8 (by kernel_rfl) (by kernel_rfl)) (by kernel_rfl) (by kernel_rfl)
set_option maxRecDepth 100000 in
theorem lifted (os : Os) (started : os.Started) (H : Type) (enc : TypeId × Value → H) :
    ReturnsInHanded {} Tryd.checked os 5 .any (fun w args => (Rows.renderRowsSpec.pre enc Tryd.prog Tryd.f5 [] false w args ∧ laidMetH Tryd.prog Rows.renderRowsRow.laid w) ∧ sizedMet enc Tryd.prog Tryd.f5 (OpenSpec.ofChange Rows.renderRowsSpec) false w args) (Rows.renderRowsSpec.post enc Tryd.prog Tryd.f5 false true false false) := by
  refine returnsInHanded_of_change_and (C := Tryd.checked) (X := fun w _ => laidMetH Tryd.prog Rows.renderRowsRow.laid w) (fun _ _ _ hh h => h.of_heap hh) own started (by kernel_rfl) Tryd.func5
    (ChangeSpec.witness_shaped (enc := enc) (C := Tryd.checked) (os := os) (X := fun w _ => laidMetH Tryd.prog Rows.renderRowsRow.laid w) false (World.doorLaid Tryd.prog 4000 os) #[.slice none 0 0, .int .i64 0] 8 rfl (World.shaped_of_RefB (by kernel_rfl) (by kernel_rfl)) (by kernel_rfl) (by kernel_rfl) (by kernel_rfl) (door_met os _)) ?_
  intro W base args ds gs before hval0 hW _ _ hL _
  have hval : ∀ (j : Nat) t v, Tryd.f5.params[j]? = some t → args[j]? = some v → Value.okWide Tryd.prog W .any base t v := hval0
  have hW' := hW
  obtain ⟨p, q, hA0, hV, rfl, hfz, hnd⟩ := hW
  have hA : DataW.TrodAll enc Tryd.prog W 0 (fun _ => true) true Tryd.f5.params.toList args.toList ds p := hA0
  rw [Tryd.params5] at hA hval
  obtain ⟨v0, vs0, d0, ds0, p0, q0, hargs, rfl, rfl, h0, r0⟩ := trodAll_cons hA
  obtain ⟨v1, vs1, d1, ds1, p1, q1, rfl, rfl, rfl, h1, r1⟩ := trodAll_cons r0
  obtain ⟨rfl, rfl, rfl⟩ := trodAll_nil r1
  obtain rfl : args = #[v0, v1] := by cases args; simp_all
  obtain ⟨rfl, rfl⟩ := trodVars_none hV
  obtain ⟨pl, A, hS, hE⟩ := eo_laid sent listed (by rw [← MakeChecks.laidMetH_plain _ _ _ (by kernel_rfl)]; exact hL)
  obtain ⟨a0, len0, cap0, rfl⟩ := okWide_slice Tryd.underlying39 (hval 0 39 v0 rfl rfl)
  have k0 := h0
  have lt0 : ∀ x ∈ p0, x.block < W.heap.size := by obtain ⟨m, hm⟩ := k0; exact DataW.trod_lt m _ _ _ hm
  obtain ⟨L0, hsl0, hlen0⟩ : ∃ L : List Int, SlI (sealW W pl) .i64 L a0 ∧ L.length = len0 := by
    obtain ⟨fuel, hf⟩ := h0
    rcases open_ints Tryd.underlying39 Tryd.underlying3 (by kernel_rfl) hf with ⟨hcs, _⟩ | ⟨x, l, c, zs, hcs, _, hl, hm, hz, _, hcell, hwz⟩
    · simp [Value.cells] at hcs
      obtain ⟨rfl, rfl, rfl⟩ := hcs
      exact ⟨[], Or.inl rfl, rfl⟩
    · simp [Value.cells] at hcs
      obtain ⟨rfl, rfl, rfl⟩ := hcs
      have hz2 : zs.length = cap0 := by simpa using hz
      exact ⟨zs.take len0, ints_W (len := len0) (by omega) hcell, by simp; omega⟩
  subst hlen0
  obtain ⟨a1, rfl, rfl, rfl, w1⟩ := open_int Tryd.underlying3 (hval 1 3 v1 rfl rfl) h1
  clear hA0 hval0
  refine (QRenderRows.glyphiclaw27_RenderRows.walk Pure.RenderRows L0 a1 W hS hE hsl0 w1).mono fun e W' ⟨he, bel⟩ => ?_
  subst he
  exact ⟨_, rfl, _, _, _, [], _, [], hW', trodAll_mk1 (shut_bool Tryd.underlying4 _), (trodAll_cons_mk (Below.trod laidOut (by kernel_rfl) (of_decide_eq_true (by kernel_rfl)) k0 bel lt0) (trodAll_cons_mk (shut_int Tryd.underlying3 w1) trodAll_mk0)), rfl, bel.frame _, fun h => by cases h⟩
theorem over : Rows.renderRowsRow.holds Tryd.pinned (OpenSpec.ofChange Rows.renderRowsSpec) :=
  OpenClaim.holds_of_wide 5 Tryd.f5 rfl rfl rfl rfl rfl rfl rfl ⟨rfl, rfl, rfl, rfl, rfl⟩ rfl rfl rfl rfl rfl (by kernel_rfl) Tryd.func5 (by kernel_rfl)
    (of_decide_eq_true (by kernel_rfl)) (by unfold Func.isWrapper; first | (rw [if_pos (by decide +kernel)]; kernel_rfl) | (rw [if_neg (by decide +kernel)]; exact ⟨rfl, rfl⟩))
    (fun os started H enc _ => lifted os started H enc)
theorem proved : Rows.RenderRowsCardSaid :=
  Claim7.holds_tied_plain_at .later [] [.sentinel, .sentinel, .sentinel, .sentinel, .sentinel, .sentinel, .sentinel, .sentinel, .sentinel, .sentinel, .sentinel, .sentinel, .sentinel] true (true, "78e072a88d6d42ffcf26d38993b24d91dbba405c61328073ab6be877a418f9c7") true
    over (fun _ h => by cases h) (by kernel_rfl) (fun _ h => by cases h) renderRows_row_tie rfl ⟨rfl, rfl⟩ (by kernel_rfl) rfl
    (fun f fn hf hfn => by
      obtain rfl : f = 5 := Option.some.inj ((show Tryd.prog.funcNamed "glyphic/glyphiclaw27.RenderRows" = some 5 by kernel_rfl).symm.trans hf) |>.symm
      obtain rfl : fn = Tryd.f5 := (Option.some.inj (Tryd.func5.symm.trans hfn)).symm
      exact ⟨by kernel_rfl, fun j t ht => by
        rw [Tryd.params5] at ht
        have h3 : t = 3 ∨ t = 39 := by
          rcases j with _ | _ | j <;> simp at ht <;> (subst ht; decide)
        rcases h3 with rfl | rfl
        · exact (show Tryd.prog.wantsStandIn 3 = false by kernel_rfl)
        · exact (show Tryd.prog.wantsStandIn 39 = false by kernel_rfl)⟩)
    (by kernel_rfl)
#print axioms proved
end Go.Proofs.YtobjaddicodiaaaDoor.renderRows
namespace Go.Proofs.YtobjaddicodiaaaDoor
/-- The card, under a short name, for the claim. -/
theorem renderRows_holds : Rows.RenderRowsCardSaid := renderRows.proved
end Go.Proofs.YtobjaddicodiaaaDoor
