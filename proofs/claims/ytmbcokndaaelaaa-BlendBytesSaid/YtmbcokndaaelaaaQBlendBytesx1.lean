/- Functions of a Go program as Lean functions, each with its walk, or the row of a law. Written by a program of this session after the pattern of the print. -/
import Derived.Test.YtmbcokndaaelaaaQBlendBytesx0
namespace Go.Proofs.Ytmbcokndaaelaaa.QBlendBytes
open Go.RowKit Go.Proofs.YtmbcokndaaelaaaW.PrintWords Go.Proofs.YtmbcokndaaelaaaW.PrintLast Go.Proofs.YtmbcokndaaelaaaW.PrintMore
attribute [local go_sem] max2_int min2_int max_two min_two max_three min_three max_four min_four   -- for this text's walks alone
set_option linter.unusedVariables false
set_option linter.unusedSimpArgs false

theorem eqA31 (d : Nat) (w : World) (x0 y0 : Int) (x1 y1 : Int) (x2 y2 : Int) (x3 y3 : Int) :
    (Op.equalIn (d + 2) 31 (.agg #[.int .i64 x0, .int .i64 x1, .int .i64 x2, .int .i64 x3]) (.agg #[.int .i64 y0, .int .i64 y1, .int .i64 y2, .int .i64 y3])).run Try.prog w = .ok (x0 == y0 && (x1 == y1 && (x2 == y2 && (x3 == y3)))) w := by
  have hs : (Try.prog.info? 2).isSome = true := by kernel_rfl
  obtain ⟨i, hi⟩ := Option.isSome_iff_exists.mp hs
  rw [run_equalIn_array _ (d + 1) _ _ Try.underlying31 hi, show Try.prog.cellsOf 2 = 1 from by kernel_rfl]
  have z4 := eqItems_nil Try.prog (d + 1) 2 1 #[.int .i64 x0, .int .i64 x1, .int .i64 x2, .int .i64 x3] #[.int .i64 y0, .int .i64 y1, .int .i64 y2, .int .i64 y3] w
  have z3 := eqItems_cons Try.prog (d + 1) 2 1 #[.int .i64 x0, .int .i64 x1, .int .i64 x2, .int .i64 x3] #[.int .i64 y0, .int .i64 y1, .int .i64 y2, .int .i64 y3] 3 [] w (.int .i64 x3) (.int .i64 y3) (x3 == y3) (by first | (go_simp; done) | (go_simp; rfl) | kernel_rfl) (by first | (go_simp; done) | (go_simp; rfl) | kernel_rfl) (by first | (go_simp; done) | (go_simp; rfl)) z4
  have z2 := eqItems_cons Try.prog (d + 1) 2 1 #[.int .i64 x0, .int .i64 x1, .int .i64 x2, .int .i64 x3] #[.int .i64 y0, .int .i64 y1, .int .i64 y2, .int .i64 y3] 2 [3] w (.int .i64 x2) (.int .i64 y2) (x2 == y2) (by first | (go_simp; done) | (go_simp; rfl) | kernel_rfl) (by first | (go_simp; done) | (go_simp; rfl) | kernel_rfl) (by first | (go_simp; done) | (go_simp; rfl)) z3
  have z1 := eqItems_cons Try.prog (d + 1) 2 1 #[.int .i64 x0, .int .i64 x1, .int .i64 x2, .int .i64 x3] #[.int .i64 y0, .int .i64 y1, .int .i64 y2, .int .i64 y3] 1 [2, 3] w (.int .i64 x1) (.int .i64 y1) (x1 == y1) (by first | (go_simp; done) | (go_simp; rfl) | kernel_rfl) (by first | (go_simp; done) | (go_simp; rfl) | kernel_rfl) (by first | (go_simp; done) | (go_simp; rfl)) z2
  have z0 := eqItems_cons Try.prog (d + 1) 2 1 #[.int .i64 x0, .int .i64 x1, .int .i64 x2, .int .i64 x3] #[.int .i64 y0, .int .i64 y1, .int .i64 y2, .int .i64 y3] 0 [1, 2, 3] w (.int .i64 x0) (.int .i64 y0) (x0 == y0) (by first | (go_simp; done) | (go_simp; rfl) | kernel_rfl) (by first | (go_simp; done) | (go_simp; rfl) | kernel_rfl) (by first | (go_simp; done) | (go_simp; rfl)) z1
  have e : ((x0 == y0) && ((x1 == y1) && ((x2 == y2) && ((x3 == y3) && (true))))) = (x0 == y0 && (x1 == y1 && (x2 == y2 && (x3 == y3)))) := by simp [Bool.and_assoc]
  rw [← e]
  exact z0
end Go.Proofs.Ytmbcokndaaelaaa.QBlendBytes
