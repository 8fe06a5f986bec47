import Derived.SizedLaws
import Derived.ChangeSlices
namespace Go.Proofs.YtpfepkkpbampkaaDoorW.PrintWords
open Go.ChangeShapes Go.WideShapes
end Go.Proofs.YtpfepkkpbampkaaDoorW.PrintWords
