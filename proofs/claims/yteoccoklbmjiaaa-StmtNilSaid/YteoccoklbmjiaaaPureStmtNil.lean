/- Of a cursor that is none nothing is read. -/
import Derived.Test.YteoccoklbmjiaaaPStnx10
import Derived.Test.YteoccoklbmjiaaaPStnx7
import Derived.OpenShut
import Derived.Laws.BitsLemmas
import Derived.Laws.BitsAllLaws
import Derived.Laws.Bits64b
import Derived.Lib.TrailingZeros
import Derived.Lib.Bytes
import Derived.Test.YteoccoklbmjiaaaWSized
set_option linter.unusedVariables false
set_option linter.unusedSimpArgs false
namespace Go.Proofs.Yteoccoklbmjiaaa.Pure
open Go.RowKit Go.Proofs.Yteoccoklbmjiaaa.PStn Go.Proofs.YteoccoklbmjiaaaW.PrintWords Go.Proofs.YteoccoklbmjiaaaW.PrintLast

theorem awake_tells (k : Nat) : blazonlaw09_awake.f (k + 200) = some true := by kernel_rfl
theorem StmtNil : blazonlaw09_StmtNil.Pure := by
  intro a _
  refine ⟨200, ?_⟩
  simp only [blazonlaw09_StmtNil.f, stmt_Type_nil.f, stmt_Mark_nil.f, stmt_Stmt_nil.f, stmt_Row_nil.f, Option.bind_some, if_true]
  rw [show (200 : Nat) = 0 + 200 from rfl, awake_tells]; rfl

end Go.Proofs.Yteoccoklbmjiaaa.Pure
