import Derived.SizedLaws
import Derived.ChangeSlices
namespace Go.Proofs.YtdkbmchbkkhpoaaW.PrintWords
open Go.ChangeShapes Go.WideShapes
end Go.Proofs.YtdkbmchbkkhpoaaW.PrintWords
