import Derived.Test.YtdkbmchbkkhpoaaWLast
import Derived.Test.YtdkbmchbkkhpoaaWWords
namespace Go.Proofs.YtdkbmchbkkhpoaaW.PrintLast
open Go.Proofs.YtdkbmchbkkhpoaaW.PrintWords (DC)
section
variable {md : Region.Mode} {ops : Array Oper} {T : Bool × List (List Nat × List Nat)} {l l' li lj lk : Array Bool} {ds : List Nat} {i j k : Nat}
theorem gd (l : Array Bool) (j : Nat) (b : Bool) : l.getD j b = l.toList.getD j b := by simp [Array.getD_eq_getD_getElem?, List.getD_eq_getElem?_getD]
end
end Go.Proofs.YtdkbmchbkkhpoaaW.PrintLast
