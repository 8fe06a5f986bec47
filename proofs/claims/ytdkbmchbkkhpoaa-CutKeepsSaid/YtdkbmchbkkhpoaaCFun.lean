import Derived.Test.YtdkbmchbkkhpoaaCMap
import Derived.Test.YtdkbmchbkkhpoaaCSync
set_option linter.unusedVariables false
set_option linter.unusedSimpArgs false
namespace Go.Proofs.YtdkbmchbkkhpoaaW.PrintWords
open Go.RowKit Go.Proofs.YtdkbmchbkkhpoaaW.PrintLast Go.Proofs.YtdkbmchbkkhpoaaW.PrintMore
namespace Kd
section
variable {α : Type} {a : Kd α} {W : World} {ok : Nat → Prop} {cs : List Value}
end
end Kd
section
variable {α : Type} {d : Kd α} {C : Nat → Nat} {n t : Nat} {Z : List Nat} {W : World}
end
end Go.Proofs.YtdkbmchbkkhpoaaW.PrintWords
