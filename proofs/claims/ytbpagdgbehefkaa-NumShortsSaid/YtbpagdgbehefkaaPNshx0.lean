-- By cprint.py, a program of this work. Lean checks it.
import Derived.Test.YtbpagdgbehefkaaProg
import Derived.Test.YtbpagdgbehefkaaBinLaws
import Derived.Test.YtbpagdgbehefkaaCArr
import Derived.Test.YtbpagdgbehefkaaCOpens
import Derived.Test.YtbpagdgbehefkaaCOwnG
namespace Go.Proofs.Ytbpagdgbehefkaa.PNsh
open Go.RowKit Go.Proofs.YtbpagdgbehefkaaW.PrintWords Go.Proofs.YtbpagdgbehefkaaW.PrintLast Go.Proofs.YtbpagdgbehefkaaW.PrintMore
set_option linter.unusedVariables false
set_option linter.unusedSimpArgs false

theorem info5 : (Try.prog.info? 5).map (fun i => (i.zero, i.size, i.bytes)) = some (some (.int .u8 0), 1, 1) := by kernel_rfl


end Go.Proofs.Ytbpagdgbehefkaa.PNsh
