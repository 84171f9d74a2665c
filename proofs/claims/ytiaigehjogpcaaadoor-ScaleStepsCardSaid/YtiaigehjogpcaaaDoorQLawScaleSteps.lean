/- The law's row out of its call. Own work, after the pattern of the kit's print. -/
import Derived.Test.YtiaigehjogpcaaaDoorRows
import Derived.Test.YtiaigehjogpcaaaDoorQScaleStepsx0
import Derived.Test.YtiaigehjogpcaaaDoorQPureScaleSteps
import Derived.Test.YtiaigehjogpcaaaDoorCards
import Derived.Test.YtiaigehjogpcaaaDoorTie
import Derived.SevenTiedAt
import Derived.LaidMore
import Derived.LaidLaws
import Derived.Stop.Joined
import Derived.WalkKit
import Derived.ProofKit
import Derived.OpenShut
import Derived.ShutString
import Derived.ChangeOld
import Derived.Below
import Derived.SizedLaws
import Derived.Lib.SmallJoins
import Derived.Carry
import Derived.ChangeSlices
namespace Go.Proofs.YtiaigehjogpcaaaDoor.scaleSteps
open Go.ChangeShapes Go.WideShapes Go.ChangeAt Go.RowKit Go.Joins
open Go.ChangeMaps (open_string shut_string)
open Go.Proofs.YtiaigehjogpcaaaDoorE (Seal HOK SlI hok0 hok_ints open_flat EO)
set_option linter.unusedVariables false
theorem laidOut : laidOutB Tryd.prog = true := by kernel_rfl
theorem own : ownKnob Tryd.prog.godebug = none := by kernel_rfl
theorem g0 : Tryd.prog.globalNamed "glyphic/api.ErrWidth" = some 0 := by kernel_rfl
theorem g1 : Tryd.prog.globalNamed "glyphic/api.ErrBudget" = some 1 := by kernel_rfl
theorem ty0 : (Tryd.prog.globals[0]?).map (·.type) = some 38 := by kernel_rfl
theorem ty1 : (Tryd.prog.globals[1]?).map (·.type) = some 38 := by kernel_rfl
theorem door_met (os : Os) (args : Array Value) : laidMetH Tryd.prog Rows.scaleStepsRow.laid ((World.doorLaid Tryd.prog 4000 os).forCall (fun _ _ => 0) ⟨#[], args, []⟩).memory :=
  laidMetH_of_parts3 (fuel := 8) (laidMet_of_run' 8 (by kernel_rfl) (by kernel_rfl)) (by kernel_rfl) (by kernel_rfl)
theorem of_laid {W : World} (h : laidMetH Tryd.prog Rows.scaleStepsRow.laid W) : ∃ u0 v0 u1 v1, W.cell? ⟨0, 0, none⟩ = some (.iface u0 v0) ∧ W.cell? ⟨1, 0, none⟩ = some (.iface u1 v1) := by
  rw [MakeChecks.laidMetH_plain _ _ _ (by kernel_rfl)] at h
  obtain ⟨ps, ⟨k0, t0, cs0, f0, p0, q0, hg0, ht0, hv0, hd0, ⟨k1, t1, cs1, f1, p1, q1, hg1, ht1, hv1, hd1, _, _⟩, _⟩, _, _⟩ := h
  obtain rfl := Option.some.inj (g0.symm.trans hg0)
  obtain rfl := Option.some.inj (g1.symm.trans hg1)
  obtain rfl := Option.some.inj (ty0.symm.trans ht0)
  obtain rfl := Option.some.inj (ty1.symm.trans ht1)
  obtain ⟨l0⟩ := cs0
  obtain ⟨l1⟩ := cs1
  obtain ⟨_, u0, v0, e0, _⟩ := iface_of_trod Tryd.underlying38 hd0
  obtain ⟨_, u1, v1, e1, _⟩ := iface_of_trod Tryd.underlying38 hd1
  dsimp only at e0 e1
  subst e0
  subst e1
  exact ⟨u0, v0, u1, v1, by simpa using World.var?_cell hg0 hv0 0, by simpa using World.var?_cell hg1 hv1 0⟩
theorem blk {w : World} {b : Nat} {v : Value} (h : w.cell? ⟨b, 0, none⟩ = some v) : ∃ (arr : Array Value) (T : TypeId) (z : Nat × Nat), w.heap[b]? = some (.cells arr T z) ∧ ∀ (i : Nat) (x : Value), [v][i]? = some x → arr[i]? = some x := by
  unfold World.cell? at h
  cases hb : w.heap[b]? with
  | none => simp [hb] at h
  | some o =>
    cases o with
    | cells c T z =>
      refine ⟨c, T, z, rfl, fun i x hx => ?_⟩
      cases i with
      | zero => simp at hx; subst hx; simpa [hb] using h
      | succ i => simp at hx
    | _ => simp [hb] at h
theorem seal_of {W : World} (h : laidMetH Tryd.prog Rows.scaleStepsRow.laid W) : ∃ (S : Seal) (E : Int → Value), HOK [] S W ∧ EO [0, 1] S E := by
  obtain ⟨u0, v0, u1, v1, h0, h1⟩ := of_laid h
  refine ⟨fun b => if b = 0 then some [.iface u0 v0] else if b = 1 then some [.iface u1 v1] else none, fun c => if c = 0 then .nilIface else if c = 1 then .iface u0 v0 else .iface u1 v1, ⟨fun e he => by simp at he, by simp [Go.Proofs.YtiaigehjogpcaaaDoorE.bs], fun b hb => by simp [Go.Proofs.YtiaigehjogpcaaaDoorE.bs] at hb, fun b l hl => ?_⟩, ⟨rfl, fun c hc => ?_, fun g hg => ?_⟩⟩
  · split at hl
    · rename_i hb; subst hb; obtain rfl := Option.some.inj hl; exact blk h0
    · split at hl
      · rename_i hb; subst hb; obtain rfl := Option.some.inj hl; exact blk h1
      · cases hl
  · rw [if_neg hc]
    split
    · exact ⟨_, _, rfl⟩
    · exact ⟨_, _, rfl⟩
  · simp at hg
    rcases hg with rfl | rfl <;> rfl
set_option maxRecDepth 100000 in
theorem lifted (os : Os) (started : os.Started) (H : Type) (enc : TypeId × Value → H) :
    ReturnsInHanded {} Tryd.checked os 3 .any (fun w args => (Rows.scaleStepsSpec.pre enc Tryd.prog Tryd.f3 [] false w args ∧ laidMetH Tryd.prog Rows.scaleStepsRow.laid w) ∧ sizedMet enc Tryd.prog Tryd.f3 (OpenSpec.ofChange Rows.scaleStepsSpec) false w args) (Rows.scaleStepsSpec.post enc Tryd.prog Tryd.f3 false true false false) := by
  refine returnsInHanded_of_change_and (C := Tryd.checked) (X := fun w _ => laidMetH Tryd.prog Rows.scaleStepsRow.laid w) (fun _ _ _ hh h => h.of_heap hh) own started (by kernel_rfl) Tryd.func3
    (ChangeSpec.witness_shaped (enc := enc) (C := Tryd.checked) (os := os) (X := fun w _ => laidMetH Tryd.prog Rows.scaleStepsRow.laid w) false (World.doorLaid Tryd.prog 4000 os) #[.int .i64 0, .int .i64 0, .int .i64 0] 8 rfl (World.shaped_of_RefB (by kernel_rfl) (by kernel_rfl)) (by kernel_rfl) (by kernel_rfl) (by kernel_rfl) (door_met os _)) ?_
  intro W base args ds gs before hval0 hW _ _ hL _
  have hval : ∀ (j : Nat) t v, Tryd.f3.params[j]? = some t → args[j]? = some v → Value.okWide Tryd.prog W .any base t v := hval0
  have hW' := hW
  obtain ⟨p, q, hA0, hV, rfl, hfz, hnd⟩ := hW
  have hA : DataW.TrodAll enc Tryd.prog W 0 (fun _ => true) true Tryd.f3.params.toList args.toList ds p := hA0
  rw [Tryd.params3] at hA hval
  obtain ⟨v0, vs0, d0, ds0, p0, q0, hargs, rfl, rfl, h0, r0⟩ := trodAll_cons hA
  obtain ⟨v1, vs1, d1, ds1, p1, q1, rfl, rfl, rfl, h1, r1⟩ := trodAll_cons r0
  obtain ⟨v2, vs2, d2, ds2, p2, q2, rfl, rfl, rfl, h2, r2⟩ := trodAll_cons r1
  obtain ⟨rfl, rfl, rfl⟩ := trodAll_nil r2
  obtain rfl : args = #[v0, v1, v2] := by cases args; simp_all
  obtain ⟨rfl, rfl⟩ := trodVars_none hV
  obtain ⟨a0, rfl, rfl, rfl, w0⟩ := open_int Tryd.underlying3 (hval 0 3 v0 rfl rfl) h0
  obtain ⟨a1, rfl, rfl, rfl, w1⟩ := open_int Tryd.underlying3 (hval 1 3 v1 rfl rfl) h1
  obtain ⟨a2, rfl, rfl, rfl, w2⟩ := open_int Tryd.underlying2 (hval 2 2 v2 rfl rfl) h2
  clear hA0 hval0
  obtain ⟨S, E, hS, hE⟩ := seal_of hL
  refine (QScaleSteps.glyphiclaw20_ScaleSteps.walk Pure.ScaleSteps a0 a1 a2 W hS hE w0 w1 w2).mono fun e W' ⟨he, bel⟩ => ?_
  subst he
  exact ⟨_, rfl, _, _, _, [], _, [], hW', trodAll_mk1 (shut_bool Tryd.underlying4 _), (trodAll_cons_mk (shut_int Tryd.underlying3 w0) (trodAll_cons_mk (shut_int Tryd.underlying3 w1) (trodAll_cons_mk (shut_int Tryd.underlying2 w2) trodAll_mk0))), rfl, bel.frame _, fun h => by cases h⟩
theorem over : Rows.scaleStepsRow.holds Tryd.pinned (OpenSpec.ofChange Rows.scaleStepsSpec) :=
  OpenClaim.holds_of_wide 3 Tryd.f3 rfl rfl rfl rfl rfl rfl rfl ⟨rfl, rfl, rfl, rfl, rfl⟩ rfl rfl rfl rfl rfl (by kernel_rfl) Tryd.func3 (by kernel_rfl)
    (of_decide_eq_true (by kernel_rfl)) (by unfold Func.isWrapper; first | (rw [if_pos (by decide +kernel)]; kernel_rfl) | (rw [if_neg (by decide +kernel)]; exact ⟨rfl, rfl⟩))
    (fun os started H enc _ => lifted os started H enc)
theorem proved : Rows.ScaleStepsCardSaid :=
  Claim7.holds_tied_plain_at .later [] [.sentinel, .sentinel] true (true, "766b9f928ce677f579b194b36428713a2a9d80a2430577fd49814a3c3512c4cf") true
    over (fun _ h => by cases h) (by kernel_rfl) (fun _ h => by cases h) scaleSteps_row_tie rfl ⟨rfl, rfl⟩ (by kernel_rfl) rfl
    (fun f fn hf hfn => by
      obtain rfl : f = 3 := Option.some.inj ((show Tryd.prog.funcNamed "glyphic/glyphiclaw20.ScaleSteps" = some 3 by kernel_rfl).symm.trans hf) |>.symm
      obtain rfl : fn = Tryd.f3 := (Option.some.inj (Tryd.func3.symm.trans hfn)).symm
      exact ⟨by kernel_rfl, fun j t ht => by
        rw [Tryd.params3] at ht
        have h3 : t = 3 ∨ t = 2 := by
          rcases j with _ | _ | _ | j <;> simp at ht <;> first | exact Or.inl ht.symm | exact Or.inr ht.symm
        rcases h3 with rfl | rfl
        · exact (show Tryd.prog.wantsStandIn 3 = false by kernel_rfl)
        · exact (show Tryd.prog.wantsStandIn 2 = false by kernel_rfl)⟩)
    (by kernel_rfl)
#print axioms proved
end Go.Proofs.YtiaigehjogpcaaaDoor.scaleSteps
namespace Go.Proofs.YtiaigehjogpcaaaDoor
/-- The card, under a short name, for the claim. -/
theorem scaleSteps_holds : Rows.ScaleStepsCardSaid := scaleSteps.proved
end Go.Proofs.YtiaigehjogpcaaaDoor
