import Derived.Test.YteoccoklbmjiaaaWLast
import Derived.Test.YteoccoklbmjiaaaWWords
namespace Go.Proofs.YteoccoklbmjiaaaW.PrintLast
open Go.Proofs.YteoccoklbmjiaaaW.PrintWords (Iq)
section
variable {md : Region.Mode} {ops : Array Oper} {T : Bool × List (List Nat × List Nat)} {l l' li lj lk : Array Bool} {ds : List Nat} {i j k : Nat}
end
end Go.Proofs.YteoccoklbmjiaaaW.PrintLast
