/-
  No cell of these rows narrows 'for every input' (looked for: loops, veiled, ifaces, maps, wideKeys, modest, calm, conditions, laid).
  DERIVED. THE GIVEN ROWS OF THIS SEAT. 4 by the template 'for every input the law returns true; each argument reads behind the call as it read before'; 0 by the template 'total and deterministic' (their statements: YtpfepkkpbampkaaTotals.lean).
  GIVEN WITH THE SEED: the statements are not yours to turn. If you find one false, say at which input.
  Laid BY PROGRAM, IN A SANDBOX (cutbox-rows.mjs): the forced cells as the released guide's own fill.sh prints them over the translation a13fb6ddafe62278… (all of the seat's roots in one cut). By AI agents, Wed Nov 11 2026. No macro, syntax, notation, axiom, sorry.
-/
import Derived.Test.YtpfepkkpbampkaaChecked
import GoSem.Claim
import GoSem.ClaimJoined
import GoSem.ClaimMapViews
import Derived.JoinedTies
import Derived.KernelRfl
namespace Go.Proofs.Ytpfepkkpbampkaa
/- THE CELL 'sum', in the pinned program and in every row, IS THE sha256 OF THE DUMP (.gsa) THAT YtpfepkkpbampkaaProg.lean LOADS. Nothing in Lean hashes anything: it is a label: what it is worth is what the hold of that sum in a sandbox is worth. -/
noncomputable def Try.pinned : Pinned := { name := "ytpfepkkpbampkaa", sum := "a13fb6ddafe62278cd2ebb74289f9f440ad9a4e081f436645f7aac13436cfac0", checked := Try.checked }
namespace Rows
def none {H : Type} : Left H := { results := [], args := [] }

/-- 'blazonlaw13.OrderFull': WHATEVER THE INPUT: true; the input reads as it did. -/
def orderFullSpec : ChangeSpec := { name := "orderFull", fn := fun _ => fun
  | [d1, d2] => { results := [.lit (.bool true)], args := [d1, d2] }
  | _ => none }
def orderFullRow : OpenClaim := { program := "ytpfepkkpbampkaa", sum := "a13fb6ddafe62278cd2ebb74289f9f440ad9a4e081f436645f7aac13436cfac0", func := "blazon/blazonlaw13.OrderFull", spec := "orderFull", unfollowed := true, recurses := true, apart := false }
def OrderFullSaid : Prop := orderFullRow.holds Try.pinned (OpenSpec.ofChange orderFullSpec)

/-- ITS FALSE NEIGHBOUR: 'it returns false'. Refute it at one input. -/
def orderFullWrong : ChangeSpec := { name := "orderFull", fn := fun _ => fun
  | [d1, d2] => { results := [.lit (.bool false)], args := [d1, d2] }
  | _ => none }
def OrderFullWrongFalsely : Prop := orderFullRow.holds Try.pinned (OpenSpec.ofChange orderFullWrong)

/-- 'blazonlaw13.OrderTurned': WHATEVER THE INPUT: true; the input reads as it did. -/
def orderTurnedSpec : ChangeSpec := { name := "orderTurned", fn := fun _ => fun
  | [d] => { results := [.lit (.bool true)], args := [d] }
  | _ => none }
def orderTurnedRow : OpenClaim := { program := "ytpfepkkpbampkaa", sum := "a13fb6ddafe62278cd2ebb74289f9f440ad9a4e081f436645f7aac13436cfac0", func := "blazon/blazonlaw13.OrderTurned", spec := "orderTurned", unfollowed := true, recurses := true, apart := false }
def OrderTurnedSaid : Prop := orderTurnedRow.holds Try.pinned (OpenSpec.ofChange orderTurnedSpec)

/-- ITS FALSE NEIGHBOUR: 'it returns false'. Refute it at one input. -/
def orderTurnedWrong : ChangeSpec := { name := "orderTurned", fn := fun _ => fun
  | [d] => { results := [.lit (.bool false)], args := [d] }
  | _ => none }
def OrderTurnedWrongFalsely : Prop := orderTurnedRow.holds Try.pinned (OpenSpec.ofChange orderTurnedWrong)

/-- 'blazonlaw13.OrderSorts': WHATEVER THE INPUT: true; the input reads as it did. -/
def orderSortsSpec : ChangeSpec := { name := "orderSorts", fn := fun _ => fun
  | [d] => { results := [.lit (.bool true)], args := [d] }
  | _ => none }
def orderSortsRow : OpenClaim := { program := "ytpfepkkpbampkaa", sum := "a13fb6ddafe62278cd2ebb74289f9f440ad9a4e081f436645f7aac13436cfac0", func := "blazon/blazonlaw13.OrderSorts", spec := "orderSorts", unfollowed := true, recurses := true, apart := false }
def OrderSortsSaid : Prop := orderSortsRow.holds Try.pinned (OpenSpec.ofChange orderSortsSpec)

/-- ITS FALSE NEIGHBOUR: 'it returns false'. Refute it at one input. -/
def orderSortsWrong : ChangeSpec := { name := "orderSorts", fn := fun _ => fun
  | [d] => { results := [.lit (.bool false)], args := [d] }
  | _ => none }
def OrderSortsWrongFalsely : Prop := orderSortsRow.holds Try.pinned (OpenSpec.ofChange orderSortsWrong)

/-- 'blazonlaw13.OrderNil': WHATEVER THE INPUT: true; the input reads as it did. -/
def orderNilSpec : ChangeSpec := { name := "orderNil", fn := fun _ => fun
  | [d1, d2] => { results := [.lit (.bool true)], args := [d1, d2] }
  | _ => none }
def orderNilRow : OpenClaim := { program := "ytpfepkkpbampkaa", sum := "a13fb6ddafe62278cd2ebb74289f9f440ad9a4e081f436645f7aac13436cfac0", func := "blazon/blazonlaw13.OrderNil", spec := "orderNil", unfollowed := true, recurses := true, apart := false }
def OrderNilSaid : Prop := orderNilRow.holds Try.pinned (OpenSpec.ofChange orderNilSpec)

/-- ITS FALSE NEIGHBOUR: 'it returns false'. Refute it at one input. -/
def orderNilWrong : ChangeSpec := { name := "orderNil", fn := fun _ => fun
  | [d1, d2] => { results := [.lit (.bool false)], args := [d1, d2] }
  | _ => none }
def OrderNilWrongFalsely : Prop := orderNilRow.holds Try.pinned (OpenSpec.ofChange orderNilWrong)

/- THE SECOND FORM. 'bulk': how many values and letters a reading holds, each counted each time it is reached (what is shared counts as often as it is met; a slice's spare places count too). A statement '..UptoSaid' is the law's where the arguments, and the package variables that the reading takes, are together of bulk at most 1048576: NARROWER than '..Said'. Prove '..Said' where nothing that the law and all that it calls make is longer than what came in: it says more and counts as full. Else prove '..UptoSaid'. A law counts once. -/
mutual
def uptoBulk {H : Type} : DataW H → Nat
  | .lit (.string bytes) => bytes.length + 1
  | .lit _ => 1
  | .nil => 1
  | .ptr d => uptoBulk d + 1
  | .slice elems spare => uptoBulkAll elems + uptoBulkAll spare + 1
  | .agg parts => uptoBulkAll parts + 1
  | .iface _ d => uptoBulk d + 1
  | .map entries => uptoBulkEntries entries + 1
  | .held _ => 1
def uptoBulkAll {H : Type} : List (DataW H) → Nat
  | [] => 0
  | d :: r => uptoBulk d + uptoBulkAll r
def uptoBulkEntries {H : Type} : List (Lit × DataW H) → Nat
  | [] => 0
  | x :: r => uptoBulkEntry x + uptoBulkEntries r
def uptoBulkEntry {H : Type} : Lit × DataW H → Nat
  | (.string bytes, d) => bytes.length + uptoBulk d + 1
  | (_, d) => uptoBulk d + 1
 end
def uptoSmall : (H : Type) → List (DataW H) → Bool := fun _ ds => decide (uptoBulkAll ds ≤ 1048576)
def OpenSpec.upto (s : _root_.Go.ChangeSpec) : _root_.Go.OpenSpec := { _root_.Go.OpenSpec.ofChange s with cond := some uptoSmall }

/-- 'blazonlaw13.OrderFull', WHERE WHAT IT READS IS OF BULK AT MOST 1048576: true; the input reads as it did. -/
def orderFullUptoRow : OpenClaim := { program := "ytpfepkkpbampkaa", sum := "a13fb6ddafe62278cd2ebb74289f9f440ad9a4e081f436645f7aac13436cfac0", func := "blazon/blazonlaw13.OrderFull", spec := "orderFull", unfollowed := true, recurses := true, apart := false, narrowed := true }
def OrderFullUptoSaid : Prop := orderFullUptoRow.holds Try.pinned (OpenSpec.upto orderFullSpec)

/-- 'blazonlaw13.OrderTurned', WHERE WHAT IT READS IS OF BULK AT MOST 1048576: true; the input reads as it did. -/
def orderTurnedUptoRow : OpenClaim := { program := "ytpfepkkpbampkaa", sum := "a13fb6ddafe62278cd2ebb74289f9f440ad9a4e081f436645f7aac13436cfac0", func := "blazon/blazonlaw13.OrderTurned", spec := "orderTurned", unfollowed := true, recurses := true, apart := false, narrowed := true }
def OrderTurnedUptoSaid : Prop := orderTurnedUptoRow.holds Try.pinned (OpenSpec.upto orderTurnedSpec)

/-- 'blazonlaw13.OrderSorts', WHERE WHAT IT READS IS OF BULK AT MOST 1048576: true; the input reads as it did. -/
def orderSortsUptoRow : OpenClaim := { program := "ytpfepkkpbampkaa", sum := "a13fb6ddafe62278cd2ebb74289f9f440ad9a4e081f436645f7aac13436cfac0", func := "blazon/blazonlaw13.OrderSorts", spec := "orderSorts", unfollowed := true, recurses := true, apart := false, narrowed := true }
def OrderSortsUptoSaid : Prop := orderSortsUptoRow.holds Try.pinned (OpenSpec.upto orderSortsSpec)

/-- 'blazonlaw13.OrderNil', WHERE WHAT IT READS IS OF BULK AT MOST 1048576: true; the input reads as it did. -/
def orderNilUptoRow : OpenClaim := { program := "ytpfepkkpbampkaa", sum := "a13fb6ddafe62278cd2ebb74289f9f440ad9a4e081f436645f7aac13436cfac0", func := "blazon/blazonlaw13.OrderNil", spec := "orderNil", unfollowed := true, recurses := true, apart := false, narrowed := true }
def OrderNilUptoSaid : Prop := orderNilUptoRow.holds Try.pinned (OpenSpec.upto orderNilSpec)

end Rows
end Go.Proofs.Ytpfepkkpbampkaa
