/- The frame of the rows: what all laws share. -/
import Derived.Test.YtedcdjlpogpgbaaRows
import Derived.Test.YtedcdjlpogpgbaaBase
import Derived.ProofKit
import Derived.SliceStrings
set_option linter.unusedVariables false
namespace Go.Proofs.Ytedcdjlpogpgbaa
open Go.ChangeShapes Go.WideShapes Go.ChangeAt Go.RowKit

theorem row_own : ownKnob Try.prog.godebug = none := by kernel_rfl
theorem row_laid : laidOutB Try.prog = true := by kernel_rfl
theorem row_cells9 : Try.prog.cellsOf 9 = 1 := by kernel_rfl
/-- A slice of strings that was there ahead of block B. -/
def Strs (A : Option Addr) (n : Nat) (f : Nat → ByteArray) (B : Nat) (w : World) : Prop := ∀ j, j < n → ∃ b o, A = some ⟨b, o, none⟩ ∧ b < B ∧ w.cell? ⟨b, o + j, none⟩ = some (.string (f j))

end Go.Proofs.Ytedcdjlpogpgbaa
