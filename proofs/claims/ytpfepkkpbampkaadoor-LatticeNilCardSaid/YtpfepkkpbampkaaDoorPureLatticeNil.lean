/- A lattice that is none has nothing, in the plain functions. -/
import Derived.Test.YtpfepkkpbampkaaDoorPLanx5
import Derived.Test.YtpfepkkpbampkaaDoorPLanx6
import Derived.OpenShut
import Derived.Laws.BitsLemmas
import Derived.Laws.BitsAllLaws
import Derived.Lib.Bytes
import Derived.Test.YtpfepkkpbampkaaDoorWSized
set_option linter.unusedVariables false
set_option linter.unusedSimpArgs false
namespace Go.Proofs.YtpfepkkpbampkaaDoor.Pure
open Go.RowKit Go.Proofs.YtpfepkkpbampkaaDoor.PLan Go.Proofs.YtpfepkkpbampkaaDoorW.PrintWords Go.Proofs.YtpfepkkpbampkaaDoorW.PrintLast

theorem awake_all : blazonlaw14_awake.f 300 = some true := by kernel_rfl
theorem LatticeNil : blazonlaw14_LatticeNil.Pure := by
  intro a0 a1 _ _
  refine ⟨300, ?_⟩
  have h : blazonlaw14_LatticeNil.f 300 a0 a1 = (blazonlaw14_awake.f 300).bind fun t => some t := rfl
  rw [h, awake_all]
  rfl

end Go.Proofs.YtpfepkkpbampkaaDoor.Pure
