/- Functions of a Go program as Lean functions, each with its walk, or the row of a law. Written by a program of this session after the pattern of the print. -/
import Derived.Test.YtmbcokndaaelaaaRows
import Derived.Test.YtmbcokndaaelaaaQPaintMixesx0
import Derived.Test.YtmbcokndaaelaaaQPurePaintMixes
import Derived.WalkKit
import Derived.ProofKit
import Derived.OpenShut
import Derived.ShutString
import Derived.ChangeOld
import Derived.Below
import Derived.SizedLaws
import Derived.Lib.SmallJoins
namespace Go.Proofs.Ytmbcokndaaelaaa.paintMixes
open Go.ChangeShapes Go.WideShapes Go.ChangeAt Go.RowKit Go.Joins
open Go.ChangeMaps (open_string shut_string)
set_option linter.unusedVariables false
theorem own : ownKnob Try.prog.godebug = none := by kernel_rfl
set_option maxRecDepth 100000 in
theorem lifted (os : Os) (started : os.Started) (H : Type) (enc : TypeId × Value → H) :
    ReturnsInHanded {} Try.checked os 12 .any (Rows.paintMixesSpec.pre6 enc Try.prog Try.f12 Rows.paintMixesRow.domain false) (Rows.paintMixesSpec.post enc Try.prog Try.f12 false true false false) := by
  refine returnsInHanded_of_change_sized (C := Try.checked) own started (by kernel_rfl) Try.func12
    (ChangeSpec.witness6 (enc := enc) (C := Try.checked) false ⟨#[], #[.agg #[.int .u8 0, .int .u8 0, .int .u8 0, .int .u8 0], .agg #[.int .u8 0, .int .u8 0, .int .u8 0, .int .u8 0], .int .i64 0], []⟩ 8 (by kernel_rfl) (by kernel_rfl) (by kernel_rfl) (by kernel_rfl)) ?_
  intro W base args ds gs before hval0 hW hcnd hsz0 _
  have hsz : (DataW.weightsEach Try.prog (Try.f12.params.toList ++ Rows.paintMixesSpec.plain.varTypes Try.prog) (ds ++ gs)).all (· ≤ reachBytes) = true := hsz0
  have hval : ∀ (j : Nat) t v, Try.f12.params[j]? = some t → args[j]? = some v → Value.okWide Try.prog W .any base t v := hval0
  have hW' := hW
  obtain ⟨p, q, hA0, hV, rfl, hfz, hnd⟩ := hW
  have hA : DataW.TrodAll enc Try.prog W 0 (fun _ => true) true Try.f12.params.toList args.toList ds p := hA0
  rw [Try.params12] at hA hval hsz
  obtain ⟨v0, vs0, d0, ds0, p0, q0, hargs, rfl, rfl, h0, r0⟩ := trodAll_cons hA
  obtain ⟨v1, vs1, d1, ds1, p1, q1, rfl, rfl, rfl, h1, r1⟩ := trodAll_cons r0
  obtain ⟨v2, vs2, d2, ds2, p2, q2, rfl, rfl, rfl, h2, r2⟩ := trodAll_cons r1
  obtain ⟨rfl, rfl, rfl⟩ := trodAll_nil r2
  obtain rfl : args = #[v0, v1, v2] := by cases args; simp_all
  obtain ⟨rfl, rfl⟩ := trodVars_none hV
  obtain ⟨c0_0, c0_1, c0_2, c0_3, y0_0, y0_1, y0_2, y0_3, m0, rfl, rfl, rfl, hy0_0, hy0_1, hy0_2, hy0_3⟩ := open_agg4 Try.underlying46 (by kernel_rfl) (by kernel_rfl) (hval 0 46 v0 rfl rfl) h0
  obtain ⟨a0_0, e0_0, rfl, w0_0⟩ := DataW.trod_int Try.underlying5 hy0_0
  simp at e0_0
  subst e0_0
  obtain ⟨a0_1, e0_1, rfl, w0_1⟩ := DataW.trod_int Try.underlying5 hy0_1
  simp at e0_1
  subst e0_1
  obtain ⟨a0_2, e0_2, rfl, w0_2⟩ := DataW.trod_int Try.underlying5 hy0_2
  simp at e0_2
  subst e0_2
  obtain ⟨a0_3, e0_3, rfl, w0_3⟩ := DataW.trod_int Try.underlying5 hy0_3
  simp at e0_3
  subst e0_3
  obtain ⟨c1_0, c1_1, c1_2, c1_3, y1_0, y1_1, y1_2, y1_3, m1, rfl, rfl, rfl, hy1_0, hy1_1, hy1_2, hy1_3⟩ := open_agg4 Try.underlying46 (by kernel_rfl) (by kernel_rfl) (hval 1 46 v1 rfl rfl) h1
  obtain ⟨a1_0, e1_0, rfl, w1_0⟩ := DataW.trod_int Try.underlying5 hy1_0
  simp at e1_0
  subst e1_0
  obtain ⟨a1_1, e1_1, rfl, w1_1⟩ := DataW.trod_int Try.underlying5 hy1_1
  simp at e1_1
  subst e1_1
  obtain ⟨a1_2, e1_2, rfl, w1_2⟩ := DataW.trod_int Try.underlying5 hy1_2
  simp at e1_2
  subst e1_2
  obtain ⟨a1_3, e1_3, rfl, w1_3⟩ := DataW.trod_int Try.underlying5 hy1_3
  simp at e1_3
  subst e1_3
  obtain ⟨a2, rfl, rfl, rfl, w2⟩ := open_int Try.underlying2 (hval 2 2 v2 rfl rfl) h2
  clear hA0 hval0 hsz0 hsz
  refine (QPaintMixes.glyphiclaw25_PaintMixes.walk Pure.PaintMixes a0_0 a0_1 a0_2 a0_3 a1_0 a1_1 a1_2 a1_3 a2 W w0_0 w0_1 w0_2 w0_3 w1_0 w1_1 w1_2 w1_3 w2).mono fun e W' ⟨he, bel⟩ => ?_
  subst he
  exact ⟨_, rfl, _, _, _, [], _, [], hW', trodAll_mk1 (shut_bool Try.underlying4 _), (trodAll_cons_mk (shut_agg4 (y0 := (.lit (.int .u8 a0_0), [])) (y1 := (.lit (.int .u8 a0_1), [])) (y2 := (.lit (.int .u8 a0_2), [])) (y3 := (.lit (.int .u8 a0_3), [])) Try.underlying46 (by kernel_rfl) (by kernel_rfl) (shut_int Try.underlying5 w0_0) (shut_int Try.underlying5 w0_1) (shut_int Try.underlying5 w0_2) (shut_int Try.underlying5 w0_3)) (trodAll_cons_mk (shut_agg4 (y0 := (.lit (.int .u8 a1_0), [])) (y1 := (.lit (.int .u8 a1_1), [])) (y2 := (.lit (.int .u8 a1_2), [])) (y3 := (.lit (.int .u8 a1_3), [])) Try.underlying46 (by kernel_rfl) (by kernel_rfl) (shut_int Try.underlying5 w1_0) (shut_int Try.underlying5 w1_1) (shut_int Try.underlying5 w1_2) (shut_int Try.underlying5 w1_3)) (trodAll_cons_mk (shut_int Try.underlying2 w2) trodAll_mk0))), rfl, bel.frame _, fun h => by cases h⟩
theorem over : Rows.paintMixesRow.holds Try.pinned (OpenSpec.ofChange Rows.paintMixesSpec) :=
  OpenClaim.holds_of_wide 12 Try.f12 rfl rfl rfl rfl rfl rfl rfl ⟨rfl, rfl, rfl, rfl, rfl⟩ rfl rfl rfl rfl rfl (by kernel_rfl) Try.func12 (by kernel_rfl)
    (of_decide_eq_true (by kernel_rfl)) (by unfold Func.isWrapper; first | (rw [if_pos (by decide +kernel)]; kernel_rfl) | (rw [if_neg (by decide +kernel)]; exact ⟨rfl, rfl⟩))
    (fun os started H enc _ => lifted os started H enc)
theorem proved : Rows.PaintMixesSaid := over
#print axioms proved
end Go.Proofs.Ytmbcokndaaelaaa.paintMixes
namespace Go.Proofs.Ytmbcokndaaelaaa
/-- The row, under a short name, for the claim. -/
theorem paintMixes_holds : Rows.PaintMixesSaid := paintMixes.proved
end Go.Proofs.Ytmbcokndaaelaaa
