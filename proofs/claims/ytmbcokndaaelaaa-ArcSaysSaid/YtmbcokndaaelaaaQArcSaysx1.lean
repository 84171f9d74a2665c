/- Functions of a Go program as Lean functions, each with its walk, or the row of a law. Written by a program of this session after the pattern of the print. -/
import Derived.Test.YtmbcokndaaelaaaQArcSaysx0
namespace Go.Proofs.Ytmbcokndaaelaaa.QArcSays
open Go.RowKit Go.Proofs.YtmbcokndaaelaaaW.PrintWords Go.Proofs.YtmbcokndaaelaaaW.PrintLast Go.Proofs.YtmbcokndaaelaaaW.PrintMore
attribute [local go_sem] max2_int min2_int max_two min_two max_three min_three max_four min_four   -- for this text's walks alone
set_option linter.unusedVariables false
set_option linter.unusedSimpArgs false

theorem eqA24 (d : Nat) (w : World) (x0 y0 : Int) (x1 y1 : Int) :
    (Op.equalIn (d + 2) 24 (.agg #[.int .i64 x0, .int .i64 x1]) (.agg #[.int .i64 y0, .int .i64 y1])).run Try.prog w = .ok (x0 == y0 && (x1 == y1)) w := by
  refine eqA_of Try.underlying24 (by kernel_rfl) ?_
  refine eqf_cons (by rfl) (by go_simp; rfl) (by go_simp; rfl) (by go_simp) ?_
  exact eqf_last (by rfl) (by go_simp; rfl) (by go_simp; rfl) (by go_simp)
theorem eqA25 (d : Nat) (w : World) (x0 y0 : Int) (x1 y1 : Int) (x2 y2 : Int) (x3 y3 : Int) :
    (Op.equalIn (d + 3) 25 (.agg #[.int .i64 x0, .int .i64 x1, .int .i64 x2, .int .i64 x3]) (.agg #[.int .i64 y0, .int .i64 y1, .int .i64 y2, .int .i64 y3])).run Try.prog w = .ok ((x0 == y0 && (x1 == y1)) && ((x2 == y2 && (x3 == y3)))) w := by
  have hs : (Try.prog.info? 24).isSome = true := by kernel_rfl
  obtain ⟨i, hi⟩ := Option.isSome_iff_exists.mp hs
  rw [run_equalIn_array _ (d + 2) _ _ Try.underlying25 hi, show Try.prog.cellsOf 24 = 2 from by kernel_rfl]
  have z2 := eqItems_nil Try.prog (d + 2) 24 2 #[.int .i64 x0, .int .i64 x1, .int .i64 x2, .int .i64 x3] #[.int .i64 y0, .int .i64 y1, .int .i64 y2, .int .i64 y3] w
  have z1 := eqItems_cons Try.prog (d + 2) 24 2 #[.int .i64 x0, .int .i64 x1, .int .i64 x2, .int .i64 x3] #[.int .i64 y0, .int .i64 y1, .int .i64 y2, .int .i64 y3] 1 [] w (.agg #[.int .i64 x2, .int .i64 x3]) (.agg #[.int .i64 y2, .int .i64 y3]) ((x2 == y2 && (x3 == y3))) (by first | (go_simp; done) | (go_simp; rfl) | kernel_rfl) (by first | (go_simp; done) | (go_simp; rfl) | kernel_rfl) (eqA24 d w _ _ _ _) z2
  have z0 := eqItems_cons Try.prog (d + 2) 24 2 #[.int .i64 x0, .int .i64 x1, .int .i64 x2, .int .i64 x3] #[.int .i64 y0, .int .i64 y1, .int .i64 y2, .int .i64 y3] 0 [1] w (.agg #[.int .i64 x0, .int .i64 x1]) (.agg #[.int .i64 y0, .int .i64 y1]) ((x0 == y0 && (x1 == y1))) (by first | (go_simp; done) | (go_simp; rfl) | kernel_rfl) (by first | (go_simp; done) | (go_simp; rfl) | kernel_rfl) (eqA24 d w _ _ _ _) z1
  have e : (((x0 == y0 && (x1 == y1))) && (((x2 == y2 && (x3 == y3))) && (true))) = ((x0 == y0 && (x1 == y1)) && ((x2 == y2 && (x3 == y3)))) := by simp [Bool.and_assoc]
  rw [← e]
  exact z0
end Go.Proofs.Ytmbcokndaaelaaa.QArcSays
