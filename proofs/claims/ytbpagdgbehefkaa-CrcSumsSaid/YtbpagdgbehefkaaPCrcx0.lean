-- By xprint.py, a program of this work, over the kit's printer. Lean checks it.
import Derived.Test.YtbpagdgbehefkaaProg
import Derived.Below
import Derived.Deep.Draws
import Derived.Deep.AppendLies
import Derived.Maps.AppendAt
import Derived.OwnWalk
import Derived.Laws.BytesArg
import Derived.Laws.MakeOwn
import Derived.Laws.OwnMore
import Derived.Deep.OwnRows
import Derived.Tactics
import Derived.Lib.ConvBytes
import Derived.Laws.Slices
import Derived.WalkKit
import Derived.KernelRfl
import Derived.RowKit3
import Derived.Deep.LoopGhost
import Derived.Deep.QuietTactic
import Derived.BigQuiet
import Derived.WideLaws
import Derived.Deep.DeepCutAuto
import Derived.Deep.CutBlock
import Derived.Deep.RegionHeld3
import Derived.Laws.Rows
import Derived.Lib.AppendStr
import Derived.ArgAppend
import Derived.Laws.IdiomCopy
import Derived.OrdersHeld
import Derived.Laws.BitsLemmas
import Derived.RowKit
import Derived.Test.YtbpagdgbehefkaaWWords
import Derived.Test.YtbpagdgbehefkaaWLast
import Derived.Test.YtbpagdgbehefkaaWTab
import Derived.Test.YtbpagdgbehefkaaWFour
import Derived.Test.YtbpagdgbehefkaaWQPut
import Derived.Test.YtbpagdgbehefkaaWApart
import Derived.Test.YtbpagdgbehefkaaWArr
import Derived.Test.YtbpagdgbehefkaaWZeros
import Derived.Test.YtbpagdgbehefkaaWFoot
import Derived.Test.YtbpagdgbehefkaaWKept
import Derived.Test.YtbpagdgbehefkaaWShare
import Derived.Test.YtbpagdgbehefkaaWN
import Derived.Test.YtbpagdgbehefkaaWFootNe
import Derived.Test.YtbpagdgbehefkaaWAt
import Derived.Test.YtbpagdgbehefkaaWEqStruct
import Derived.Test.YtbpagdgbehefkaaWRepsOne
import Derived.Test.YtbpagdgbehefkaaWInv
import Derived.Test.YtbpagdgbehefkaaWInvWords
import Derived.Test.YtbpagdgbehefkaaWGuard
import Derived.Test.YtbpagdgbehefkaaWNEv
import Derived.Test.YtbpagdgbehefkaaWMore
import Derived.Test.YtbpagdgbehefkaaXWords
import Derived.Test.YtbpagdgbehefkaaShelf
import Derived.Test.YtbpagdgbehefkaaState
namespace Go.Proofs.Ytbpagdgbehefkaa.PCrc
open Go.RowKit Go.Proofs.YtbpagdgbehefkaaW.PrintWords Go.Proofs.YtbpagdgbehefkaaW.PrintLast Go.Proofs.YtbpagdgbehefkaaW.PrintMore
attribute [local go_sem] x_isSome max2_int min2_int max_two min_two max_three min_three max_four min_four   -- for this text's walks alone
set_option linter.unusedVariables false
set_option linter.unusedSimpArgs false



def errW : Option Int → Value
  | none => .nilIface
  | some c => .iface 0 (.int .i64 c)
theorem errW_none : errW none = .nilIface := rfl
theorem errW_some (c : Int) : errW (some c) = .iface 0 (.int .i64 c) := rfl

theorem info5 : (Try.prog.info? 5).map (fun i => (i.zero, i.size, i.bytes)) = some (some (.int .u8 0), 1, 1) := by kernel_rfl
-- the values' own types

end Go.Proofs.Ytbpagdgbehefkaa.PCrc
