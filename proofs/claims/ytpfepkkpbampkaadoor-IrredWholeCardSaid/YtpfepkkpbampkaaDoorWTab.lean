import Derived.Test.YtpfepkkpbampkaaDoorWLast
import Derived.Test.YtpfepkkpbampkaaDoorWWords
namespace Go.Proofs.YtpfepkkpbampkaaDoorW.PrintLast
open Go.Proofs.YtpfepkkpbampkaaDoorW.PrintWords (wQ)
section
variable {md : Region.Mode} {ops : Array Oper} {T : Bool × List (List Nat × List Nat)} {l l' li lj lk : Array Bool} {ds : List Nat} {i j k : Nat}
end
end Go.Proofs.YtpfepkkpbampkaaDoorW.PrintLast
