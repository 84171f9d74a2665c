/- The law's row out of its call, and its card. Own work, after the pattern of the kit's print. -/
import Derived.Test.YtiaigehjogpcaaaDoorRows
import Derived.Test.YtiaigehjogpcaaaDoorQScaleSaysx4
import Derived.Test.YtiaigehjogpcaaaDoorQPureScaleSays
import Derived.Test.YtiaigehjogpcaaaDoorCards
import Derived.Test.YtiaigehjogpcaaaDoorTie
import Derived.SevenTiedAt
import Derived.LaidMore
import Derived.LaidLaws
import Derived.Stop.Joined
import Derived.WalkKit
import Derived.ProofKit
import Derived.OpenShut
import Derived.ShutString
import Derived.ChangeOld
import Derived.Below
import Derived.SizedLaws
import Derived.Lib.SmallJoins
import Derived.Carry
import Derived.ChangeSlices
namespace Go.Proofs.YtiaigehjogpcaaaDoor.scaleSays
open Go.ChangeShapes Go.WideShapes Go.ChangeAt Go.RowKit Go.Joins
open Go.ChangeMaps (open_string shut_string)
open Go.Proofs.YtiaigehjogpcaaaDoorE (Seal HOK SlI hok0 sealW ints_W open_flat EO LS ST eo_laid)
set_option linter.unusedVariables false
theorem laidOut : laidOutB Tryd.prog = true := by kernel_rfl
theorem own : ownKnob Tryd.prog.godebug = none := by kernel_rfl
theorem g2 : Tryd.prog.globalNamed "glyphic/api.ErrText" = some 2 := by kernel_rfl
theorem ty2 : (Tryd.prog.globals[2]?).map (·.type) = some 38 := by kernel_rfl
theorem g3 : Tryd.prog.globalNamed "glyphic/api.ErrName" = some 3 := by kernel_rfl
theorem ty3 : (Tryd.prog.globals[3]?).map (·.type) = some 38 := by kernel_rfl
theorem g4 : Tryd.prog.globalNamed "glyphic/api.ErrTwice" = some 4 := by kernel_rfl
theorem ty4 : (Tryd.prog.globals[4]?).map (·.type) = some 38 := by kernel_rfl
theorem g5 : Tryd.prog.globalNamed "glyphic/api.ErrPath" = some 5 := by kernel_rfl
theorem ty5 : (Tryd.prog.globals[5]?).map (·.type) = some 38 := by kernel_rfl
theorem g6 : Tryd.prog.globalNamed "glyphic/api.ErrRange" = some 6 := by kernel_rfl
theorem ty6 : (Tryd.prog.globals[6]?).map (·.type) = some 38 := by kernel_rfl
theorem g7 : Tryd.prog.globalNamed "glyphic/api.ErrLimit" = some 7 := by kernel_rfl
theorem ty7 : (Tryd.prog.globals[7]?).map (·.type) = some 38 := by kernel_rfl
theorem g8 : Tryd.prog.globalNamed "glyphic/api.ErrShort" = some 8 := by kernel_rfl
theorem ty8 : (Tryd.prog.globals[8]?).map (·.type) = some 38 := by kernel_rfl
theorem g9 : Tryd.prog.globalNamed "glyphic/api.ErrMagic" = some 9 := by kernel_rfl
theorem ty9 : (Tryd.prog.globals[9]?).map (·.type) = some 38 := by kernel_rfl
theorem g10 : Tryd.prog.globalNamed "glyphic/api.ErrVarint" = some 10 := by kernel_rfl
theorem ty10 : (Tryd.prog.globals[10]?).map (·.type) = some 38 := by kernel_rfl
theorem g11 : Tryd.prog.globalNamed "glyphic/api.ErrCanon" = some 11 := by kernel_rfl
theorem ty11 : (Tryd.prog.globals[11]?).map (·.type) = some 38 := by kernel_rfl
theorem g12 : Tryd.prog.globalNamed "glyphic/api.ErrTrail" = some 12 := by kernel_rfl
theorem ty12 : (Tryd.prog.globals[12]?).map (·.type) = some 38 := by kernel_rfl
theorem g0 : Tryd.prog.globalNamed "glyphic/api.ErrWidth" = some 0 := by kernel_rfl
theorem ty0 : (Tryd.prog.globals[0]?).map (·.type) = some 38 := by kernel_rfl
theorem g1 : Tryd.prog.globalNamed "glyphic/api.ErrBudget" = some 1 := by kernel_rfl
theorem ty1 : (Tryd.prog.globals[1]?).map (·.type) = some 38 := by kernel_rfl
theorem star : "*" ++ "errors.errorString" = "*errors.errorString" := by decide
theorem typeRow (u : TypeId) (h : Tryd.prog.typeName? 3 u = some "*errors.errorString") : u = 94 :=
  typeName_ptr_named (nm := "errors.errorString") (by rw [star]; kernel_rfl) (by kernel_rfl) (by decide) u (by rw [star]; exact h)
theorem sent : ST Tryd.prog 38 94 "*errors.errorString" := ⟨_, _, _, _, Tryd.underlying38, typeRow, Tryd.underlying94, Tryd.underlying112, rfl, rfl, Tryd.underlying9, by kernel_rfl, by kernel_rfl⟩
theorem listed : LS Tryd.prog 38 "*errors.errorString" [2, 3, 4, 5, 6, 7, 8, 9, 10, 11, 12, 0, 1] Rows.scaleSaysRow.laid := (.cons g2 ty2 (.cons g3 ty3 (.cons g4 ty4 (.cons g5 ty5 (.cons g6 ty6 (.cons g7 ty7 (.cons g8 ty8 (.cons g9 ty9 (.cons g10 ty10 (.cons g11 ty11 (.cons g12 ty12 (.cons g0 ty0 (.cons g1 ty1 .nil)))))))))))))
theorem door_met (os : Os) (args : Array Value) : laidMetH Tryd.prog Rows.scaleSaysRow.laid ((World.doorLaid Tryd.prog 4000 os).forCall (fun _ _ => 0) ⟨#[], args, []⟩).memory :=
  laidMetH_of_parts3 (fuel := 8) (laidMet_of_run' 8 (by kernel_rfl) (by kernel_rfl)) (by kernel_rfl) (by kernel_rfl)
set_option maxRecDepth 100000 in
theorem lifted (os : Os) (started : os.Started) (H : Type) (enc : TypeId × Value → H) :
    ReturnsInHanded {} Tryd.checked os 4 .any (fun w args => (Rows.scaleSaysSpec.pre enc Tryd.prog Tryd.f4 [] false w args ∧ laidMetH Tryd.prog Rows.scaleSaysRow.laid w) ∧ sizedMet enc Tryd.prog Tryd.f4 (OpenSpec.ofChange Rows.scaleSaysSpec) false w args) (Rows.scaleSaysSpec.post enc Tryd.prog Tryd.f4 false true false false) := by
  refine returnsInHanded_of_change_and (C := Tryd.checked) (X := fun w _ => laidMetH Tryd.prog Rows.scaleSaysRow.laid w) (fun _ _ _ hh h => h.of_heap hh) own started (by kernel_rfl) Tryd.func4
    (ChangeSpec.witness_shaped (enc := enc) (C := Tryd.checked) (os := os) (X := fun w _ => laidMetH Tryd.prog Rows.scaleSaysRow.laid w) false (World.doorLaid Tryd.prog 4000 os) #[.slice none 0 0, .int .i64 0, .int .i64 0, .int .i64 0] 8 rfl (World.shaped_of_RefB (by kernel_rfl) (by kernel_rfl)) (by kernel_rfl) (by kernel_rfl) (by kernel_rfl) (door_met os _)) ?_
  intro W base args ds gs before hval0 hW _ _ hL _
  have hval : ∀ (j : Nat) t v, Tryd.f4.params[j]? = some t → args[j]? = some v → Value.okWide Tryd.prog W .any base t v := hval0
  have hW' := hW
  obtain ⟨p, q, hA0, hV, rfl, hfz, hnd⟩ := hW
  have hA : DataW.TrodAll enc Tryd.prog W 0 (fun _ => true) true Tryd.f4.params.toList args.toList ds p := hA0
  rw [Tryd.params4] at hA hval
  obtain ⟨v0, vs0, d0, ds0, p0, q0, hargs, rfl, rfl, h0, r0⟩ := trodAll_cons hA
  obtain ⟨v1, vs1, d1, ds1, p1, q1, rfl, rfl, rfl, h1, r1⟩ := trodAll_cons r0
  obtain ⟨v2, vs2, d2, ds2, p2, q2, rfl, rfl, rfl, h2, r2⟩ := trodAll_cons r1
  obtain ⟨v3, vs3, d3, ds3, p3, q3, rfl, rfl, rfl, h3, r3⟩ := trodAll_cons r2
  obtain ⟨rfl, rfl, rfl⟩ := trodAll_nil r3
  obtain rfl : args = #[v0, v1, v2, v3] := by cases args; simp_all
  obtain ⟨rfl, rfl⟩ := trodVars_none hV
  obtain ⟨pl, A, hS, hE⟩ := eo_laid sent listed (by rw [← MakeChecks.laidMetH_plain _ _ _ (by kernel_rfl)]; exact hL)
  obtain ⟨a0, len0, cap0, rfl⟩ := okWide_slice Tryd.underlying31 (hval 0 31 v0 rfl rfl)
  have k0 := h0
  have lt0 : ∀ x ∈ p0, x.block < W.heap.size := by obtain ⟨m, hm⟩ := k0; exact DataW.trod_lt m _ _ _ hm
  obtain ⟨L0, hsl0, hlen0⟩ : ∃ L : List Int, SlI (sealW W pl) .i64 L a0 ∧ L.length = len0 := by
    obtain ⟨fuel, hf⟩ := h0
    rcases open_ints Tryd.underlying31 Tryd.underlying3 (by kernel_rfl) hf with ⟨hcs, _⟩ | ⟨x, l, c, zs, hcs, _, hl, hm, hz, _, hcell, hwz⟩
    · simp [Value.cells] at hcs
      obtain ⟨rfl, rfl, rfl⟩ := hcs
      exact ⟨[], Or.inl rfl, rfl⟩
    · simp [Value.cells] at hcs
      obtain ⟨rfl, rfl, rfl⟩ := hcs
      have hz2 : zs.length = cap0 := by simpa using hz
      exact ⟨zs.take len0, ints_W (len := len0) (by omega) hcell, by simp; omega⟩
  subst hlen0
  obtain ⟨a1, rfl, rfl, rfl, w1⟩ := open_int Tryd.underlying3 (hval 1 3 v1 rfl rfl) h1
  obtain ⟨a2, rfl, rfl, rfl, w2⟩ := open_int Tryd.underlying3 (hval 2 3 v2 rfl rfl) h2
  obtain ⟨a3, rfl, rfl, rfl, w3⟩ := open_int Tryd.underlying2 (hval 3 2 v3 rfl rfl) h3
  clear hA0 hval0
  refine (QScaleSays.glyphiclaw20_ScaleSays.walk Pure.ScaleSays L0 a1 a2 a3 W hS hE hsl0 w1 w2 w3).mono fun e W' ⟨he, bel⟩ => ?_
  subst he
  exact ⟨_, rfl, _, _, _, [], _, [], hW', trodAll_mk1 (shut_bool Tryd.underlying4 _), (trodAll_cons_mk (Below.trod laidOut (by kernel_rfl) (of_decide_eq_true (by kernel_rfl)) k0 bel lt0) (trodAll_cons_mk (shut_int Tryd.underlying3 w1) (trodAll_cons_mk (shut_int Tryd.underlying3 w2) (trodAll_cons_mk (shut_int Tryd.underlying2 w3) trodAll_mk0)))), rfl, bel.frame _, fun h => by cases h⟩
theorem over : Rows.scaleSaysRow.holds Tryd.pinned (OpenSpec.ofChange Rows.scaleSaysSpec) :=
  OpenClaim.holds_of_wide 4 Tryd.f4 rfl rfl rfl rfl rfl rfl rfl ⟨rfl, rfl, rfl, rfl, rfl⟩ rfl rfl rfl rfl rfl (by kernel_rfl) Tryd.func4 (by kernel_rfl)
    (of_decide_eq_true (by kernel_rfl)) (by unfold Func.isWrapper; first | (rw [if_pos (by decide +kernel)]; kernel_rfl) | (rw [if_neg (by decide +kernel)]; exact ⟨rfl, rfl⟩))
    (fun os started H enc _ => lifted os started H enc)
theorem proved : Rows.ScaleSaysCardSaid :=
  Claim7.holds_tied_plain_at .later [] [.sentinel, .sentinel, .sentinel, .sentinel, .sentinel, .sentinel, .sentinel, .sentinel, .sentinel, .sentinel, .sentinel, .sentinel, .sentinel] true (true, "766b9f928ce677f579b194b36428713a2a9d80a2430577fd49814a3c3512c4cf") true
    over (fun _ h => by cases h) (by kernel_rfl) (fun _ h => by cases h) scaleSays_row_tie rfl ⟨rfl, rfl⟩ (by kernel_rfl) rfl
    (fun f fn hf hfn => by
      obtain rfl : f = 4 := Option.some.inj ((show Tryd.prog.funcNamed "glyphic/glyphiclaw20.ScaleSays" = some 4 by kernel_rfl).symm.trans hf) |>.symm
      obtain rfl : fn = Tryd.f4 := (Option.some.inj (Tryd.func4.symm.trans hfn)).symm
      exact ⟨by kernel_rfl, fun j t ht => by
        rw [Tryd.params4] at ht
        have h3 : t = 2 ∨ t = 3 ∨ t = 31 := by
          rcases j with _ | _ | _ | _ | j <;> simp at ht <;> (subst ht; decide)
        rcases h3 with rfl | rfl | rfl
        · exact (show Tryd.prog.wantsStandIn 2 = false by kernel_rfl)
        · exact (show Tryd.prog.wantsStandIn 3 = false by kernel_rfl)
        · exact (show Tryd.prog.wantsStandIn 31 = false by kernel_rfl)⟩)
    (by kernel_rfl)
#print axioms proved
end Go.Proofs.YtiaigehjogpcaaaDoor.scaleSays
namespace Go.Proofs.YtiaigehjogpcaaaDoor
/-- The card, under a short name, for the claim. -/
theorem scaleSays_holds : Rows.ScaleSaysCardSaid := scaleSays.proved
end Go.Proofs.YtiaigehjogpcaaaDoor
