import Derived.Test.YtdkbmchbkkhpoaaWWords
import Derived.Test.YtdkbmchbkkhpoaaWLast
import Derived.Test.YtdkbmchbkkhpoaaWShare
import Derived.Test.YtdkbmchbkkhpoaaWMore
import Derived.Lib.ConvBytes
import Derived.Lib.SlBytesConst
import Derived.Laws.AppendOwn
import Derived.IntWalk
set_option linter.unusedVariables false
set_option linter.unusedSimpArgs false
namespace Go.Proofs.YtdkbmchbkkhpoaaW.PrintWords
open Go.RowKit Go.Proofs.YtdkbmchbkkhpoaaW.PrintWords Go.Proofs.YtdkbmchbkkhpoaaW.PrintLast Go.Proofs.YtdkbmchbkkhpoaaW.PrintMore
namespace Kd
def L (d : Kd Int) (_e : Nat) (W : World) (_base : Nat) (ok : Nat → Prop) (v : Value) (xs : List Int) : Prop := ∃ A c, v = .slice A xs.length c ∧ xs.length + 3 ≤ c ∧ F d W ok A (xs ++ [77, 78, 79]).length (xs ++ [77, 78, 79])
section
variable {d : Kd Int} {e base base' n m c g N' lo hi : Nat} {ok ok' S : Nat → Prop} {w W w1 : World} {A : Option Addr} {ad : Addr} {u v v1 : Value} {xs : List Int}
end
section
variable {P : Program} {ops : Array Oper} {rest : List Oper} {o : Oper} {a : Act} {Q : Exit → Act → World → Prop}
end
end Kd
end Go.Proofs.YtdkbmchbkkhpoaaW.PrintWords
