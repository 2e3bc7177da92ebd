/- The comparing of structs. -/
import Derived.Test.YtedcdjlpogpgbaaData
import Derived.Deep.RegionHeld3
set_option linter.unusedVariables false
set_option linter.unusedSimpArgs false
namespace Go.Proofs.Ytedcdjlpogpgbaa
open Go.RowKit

def posEq (a b c d : Int) : Bool := (a == c) && (b == d)
theorem eqIn_pos (a b c d : Int) (n : Nat) (w : World) : (Op.equalIn (n + 2) 33 (.agg #[.int .i64 a, .int .i64 b]) (.agg #[.int .i64 c, .int .i64 d])).run Try.prog w = .ok (posEq a b c d) w := by
  rw [run_equalIn_struct w (n + 1) 33 _ _ (by kernel_rfl) (by kernel_rfl)]
  by_cases h1 : a = c <;> by_cases h2 : b = d <;> simp [go_sem, h1, h2, posEq]
theorem neq_pos (a b c d : Int) (w : World) : (binOp .neq 33 (.agg #[.int .i64 a, .int .i64 b]) (.agg #[.int .i64 c, .int .i64 d])).run Try.prog w = .ok (.bool (!posEq a b c d)) w := by
  rw [run_neq_struct, show (10000 : Nat) = 9998 + 2 from rfl, eqIn_pos]; rfl
theorem eql_pos (a b c d : Int) (w : World) : (binOp .eql 33 (.agg #[.int .i64 a, .int .i64 b]) (.agg #[.int .i64 c, .int .i64 d])).run Try.prog w = .ok (.bool (posEq a b c d)) w := by
  rw [run_eql_struct, show (10000 : Nat) = 9998 + 2 from rfl, eqIn_pos]; rfl

theorem wp_abs {P : Program} {c : Code} {Q : Exit → Act → World → Prop} {a : Act} {W : World} (h : ∀ w1, w1 = W → c.wp P Q a w1) : c.wp P Q a W := h W rfl

def IntRes (n : Int) (w : World) (e : Ending) (w' : World) : Prop := e = .returned (.int .i64 n) ∧ Below w.heap.size w w'

end Go.Proofs.Ytedcdjlpogpgbaa
