/- Irreducibles that are none have nothing, in the plain functions. -/
import Derived.Test.YtpfepkkpbampkaaDoorPIrnx8
import Derived.Test.YtpfepkkpbampkaaDoorPIrnx9
import Derived.OpenShut
import Derived.Laws.BitsLemmas
import Derived.Laws.BitsAllLaws
import Derived.Lib.Bytes
import Derived.Test.YtpfepkkpbampkaaDoorWSized
set_option linter.unusedVariables false
set_option linter.unusedSimpArgs false
namespace Go.Proofs.YtpfepkkpbampkaaDoor.Pure
open Go.RowKit Go.Proofs.YtpfepkkpbampkaaDoor.PIrn Go.Proofs.YtpfepkkpbampkaaDoorW.PrintWords Go.Proofs.YtpfepkkpbampkaaDoorW.PrintLast

theorem awake_all : blazonlaw15_awake.f 300 = some true := by kernel_rfl
theorem elem_none (a : Int) : irred_Irred_Elem.f (none : Option S118) a = some (-1) := by
  unfold irred_Irred_Elem.f
  by_cases h : a < 0
  · rw [if_pos h]; rfl
  · rw [if_neg h]
    show irred_Irred_Elem.j0 a none (decide (a ≥ 0)) = some (-1)
    rw [decide_eq_true (by omega)]; rfl
theorem IrredNil : blazonlaw15_IrredNil.Pure := by
  intro a0 a1 a2 _ _ _
  refine ⟨300, ?_⟩
  have h : blazonlaw15_IrredNil.f 300 a0 a1 a2 = (irred_Irred_Elem.f (none : Option S118) a0).bind (fun t => if t = (-1) then (blazonlaw15_awake.f 300).bind (fun t => some t) else some false) := rfl
  rw [h, elem_none, awake_all]
  rfl

end Go.Proofs.YtpfepkkpbampkaaDoor.Pure
