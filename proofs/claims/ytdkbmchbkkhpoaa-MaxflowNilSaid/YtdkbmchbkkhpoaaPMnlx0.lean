-- By cprint.py, a program of this work. Lean checks it.
import Derived.Test.YtdkbmchbkkhpoaaProg
import Derived.Test.YtdkbmchbkkhpoaaBinLaws
import Derived.Test.YtdkbmchbkkhpoaaCArr
import Derived.Test.YtdkbmchbkkhpoaaCOpens
import Derived.Test.YtdkbmchbkkhpoaaCSync
import Derived.Test.YtdkbmchbkkhpoaaCFun
import Derived.Test.YtdkbmchbkkhpoaaCOwnG
import Derived.Test.YtdkbmchbkkhpoaaCRows
import Derived.Test.YtdkbmchbkkhpoaaNetC
namespace Go.Proofs.Ytdkbmchbkkhpoaa.PMnl
open Go.RowKit Go.Proofs.YtdkbmchbkkhpoaaW.PrintWords Go.Proofs.YtdkbmchbkkhpoaaW.PrintLast Go.Proofs.YtdkbmchbkkhpoaaW.PrintMore
set_option linter.unusedVariables false
set_option linter.unusedSimpArgs false



end Go.Proofs.Ytdkbmchbkkhpoaa.PMnl
