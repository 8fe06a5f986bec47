/-
  NARROWER THAN 'FOR EVERY INPUT', by the rows' own cells (each row's printed sentence says how): TypingOf: loops · TypingMay: loops.
  DERIVED. THE GIVEN ROWS OF THIS SEAT. 9 by the template 'for every input the law returns true; each argument reads behind the call as it read before'; 0 by the template 'total and deterministic' (their statements: YtnhcpdepjpfcfaaTotals.lean).
  GIVEN WITH THE SEED: the statements are not yours to turn. If you find one false, say at which input.
  Laid BY PROGRAM, IN A SANDBOX (cutbox-rows.mjs): the forced cells as the released guide's own fill.sh prints them over the translation 0d962b8ffdf44eb5… (all of the seat's roots in one cut). By AI agents, Wed Nov 11 2026. No macro, syntax, notation, axiom, sorry.
-/
import Derived.Test.YtnhcpdepjpfcfaaChecked
import GoSem.Claim
import GoSem.ClaimJoined
import GoSem.ClaimMapViews
import Derived.JoinedTies
import Derived.KernelRfl
namespace Go.Proofs.Ytnhcpdepjpfcfaa
/- THE CELL 'sum', in the pinned program and in every row, IS THE sha256 OF THE DUMP (.gsa) THAT YtnhcpdepjpfcfaaProg.lean LOADS. Nothing in Lean hashes anything: it is a label: what it is worth is what the hold of that sum in a sandbox is worth. -/
noncomputable def Try.pinned : Pinned := { name := "ytnhcpdepjpfcfaa", sum := "0d962b8ffdf44eb56fdbccb99599a411f745456a11ceee1c2ddcc3af3bddddf6", checked := Try.checked }
namespace Rows
def none {H : Type} : Left H := { results := [], args := [] }

/-- 'blazonlaw16.RowFull': WHATEVER THE INPUT: true; the input reads as it did. -/
def rowFullSpec : ChangeSpec := { name := "rowFull", fn := fun _ => fun
  | [d] => { results := [.lit (.bool true)], args := [d] }
  | _ => none }
def rowFullRow : OpenClaim := { program := "ytnhcpdepjpfcfaa", sum := "0d962b8ffdf44eb56fdbccb99599a411f745456a11ceee1c2ddcc3af3bddddf6", func := "blazon/blazonlaw16.RowFull", spec := "rowFull", unfollowed := true, recurses := true, plainKeys := false, apart := false }
def RowFullSaid : Prop := rowFullRow.holds Try.pinned (OpenSpec.ofChange rowFullSpec)

/-- ITS FALSE NEIGHBOUR: 'it returns false'. Refute it at one input. -/
def rowFullWrong : ChangeSpec := { name := "rowFull", fn := fun _ => fun
  | [d] => { results := [.lit (.bool false)], args := [d] }
  | _ => none }
def RowFullWrongFalsely : Prop := rowFullRow.holds Try.pinned (OpenSpec.ofChange rowFullWrong)

/-- 'blazonlaw16.RowBack': WHATEVER THE INPUT: true; the input reads as it did. -/
def rowBackSpec : ChangeSpec := { name := "rowBack", fn := fun _ => fun
  | [d1, d2] => { results := [.lit (.bool true)], args := [d1, d2] }
  | _ => none }
def rowBackRow : OpenClaim := { program := "ytnhcpdepjpfcfaa", sum := "0d962b8ffdf44eb56fdbccb99599a411f745456a11ceee1c2ddcc3af3bddddf6", func := "blazon/blazonlaw16.RowBack", spec := "rowBack", unfollowed := true, recurses := true, plainKeys := false, apart := false }
def RowBackSaid : Prop := rowBackRow.holds Try.pinned (OpenSpec.ofChange rowBackSpec)

/-- ITS FALSE NEIGHBOUR: 'it returns false'. Refute it at one input. -/
def rowBackWrong : ChangeSpec := { name := "rowBack", fn := fun _ => fun
  | [d1, d2] => { results := [.lit (.bool false)], args := [d1, d2] }
  | _ => none }
def RowBackWrongFalsely : Prop := rowBackRow.holds Try.pinned (OpenSpec.ofChange rowBackWrong)

/-- 'blazonlaw16.RowWithin': WHATEVER THE INPUT: true; the input reads as it did. -/
def rowWithinSpec : ChangeSpec := { name := "rowWithin", fn := fun _ => fun
  | [d1, d2] => { results := [.lit (.bool true)], args := [d1, d2] }
  | _ => none }
def rowWithinRow : OpenClaim := { program := "ytnhcpdepjpfcfaa", sum := "0d962b8ffdf44eb56fdbccb99599a411f745456a11ceee1c2ddcc3af3bddddf6", func := "blazon/blazonlaw16.RowWithin", spec := "rowWithin", unfollowed := true, recurses := true, plainKeys := false, apart := false }
def RowWithinSaid : Prop := rowWithinRow.holds Try.pinned (OpenSpec.ofChange rowWithinSpec)

/-- ITS FALSE NEIGHBOUR: 'it returns false'. Refute it at one input. -/
def rowWithinWrong : ChangeSpec := { name := "rowWithin", fn := fun _ => fun
  | [d1, d2] => { results := [.lit (.bool false)], args := [d1, d2] }
  | _ => none }
def RowWithinWrongFalsely : Prop := rowWithinRow.holds Try.pinned (OpenSpec.ofChange rowWithinWrong)

/-- 'blazonlaw16.RowBoth': WHATEVER THE INPUT: true; the input reads as it did. -/
def rowBothSpec : ChangeSpec := { name := "rowBoth", fn := fun _ => fun
  | [d1, d2, d3] => { results := [.lit (.bool true)], args := [d1, d2, d3] }
  | _ => none }
def rowBothRow : OpenClaim := { program := "ytnhcpdepjpfcfaa", sum := "0d962b8ffdf44eb56fdbccb99599a411f745456a11ceee1c2ddcc3af3bddddf6", func := "blazon/blazonlaw16.RowBoth", spec := "rowBoth", unfollowed := true, recurses := true, plainKeys := false, apart := false }
def RowBothSaid : Prop := rowBothRow.holds Try.pinned (OpenSpec.ofChange rowBothSpec)

/-- ITS FALSE NEIGHBOUR: 'it returns false'. Refute it at one input. -/
def rowBothWrong : ChangeSpec := { name := "rowBoth", fn := fun _ => fun
  | [d1, d2, d3] => { results := [.lit (.bool false)], args := [d1, d2, d3] }
  | _ => none }
def RowBothWrongFalsely : Prop := rowBothRow.holds Try.pinned (OpenSpec.ofChange rowBothWrong)

/-- 'blazonlaw19.TypingOf': WHATEVER THE INPUT: true; the input reads as it did. -/
def typingOfSpec : ChangeSpec := { name := "typingOf", fn := fun _ => fun
  | [d1, d2] => { results := [.lit (.bool true)], args := [d1, d2] }
  | _ => none }
def typingOfRow : OpenClaim := { program := "ytnhcpdepjpfcfaa", sum := "0d962b8ffdf44eb56fdbccb99599a411f745456a11ceee1c2ddcc3af3bddddf6", func := "blazon/blazonlaw19.TypingOf", spec := "typingOf", unfollowed := true, recurses := true, loops := true, plainKeys := false, apart := false }
def TypingOfSaid : Prop := typingOfRow.holds Try.pinned (OpenSpec.ofChange typingOfSpec)

/-- ITS FALSE NEIGHBOUR: 'it returns false'. Refute it at one input. -/
def typingOfWrong : ChangeSpec := { name := "typingOf", fn := fun _ => fun
  | [d1, d2] => { results := [.lit (.bool false)], args := [d1, d2] }
  | _ => none }
def TypingOfWrongFalsely : Prop := typingOfRow.holds Try.pinned (OpenSpec.ofChange typingOfWrong)

/-- 'blazonlaw17.ScopeOrders': WHATEVER THE INPUT: true; the input reads as it did. -/
def scopeOrdersSpec : ChangeSpec := { name := "scopeOrders", fn := fun _ => fun
  | [d1, d2] => { results := [.lit (.bool true)], args := [d1, d2] }
  | _ => none }
def scopeOrdersRow : OpenClaim := { program := "ytnhcpdepjpfcfaa", sum := "0d962b8ffdf44eb56fdbccb99599a411f745456a11ceee1c2ddcc3af3bddddf6", func := "blazon/blazonlaw17.ScopeOrders", spec := "scopeOrders", unfollowed := true, recurses := true, plainKeys := false, apart := false }
def ScopeOrdersSaid : Prop := scopeOrdersRow.holds Try.pinned (OpenSpec.ofChange scopeOrdersSpec)

/-- ITS FALSE NEIGHBOUR: 'it returns false'. Refute it at one input. -/
def scopeOrdersWrong : ChangeSpec := { name := "scopeOrders", fn := fun _ => fun
  | [d1, d2] => { results := [.lit (.bool false)], args := [d1, d2] }
  | _ => none }
def ScopeOrdersWrongFalsely : Prop := scopeOrdersRow.holds Try.pinned (OpenSpec.ofChange scopeOrdersWrong)

/-- 'blazonlaw19.TypingMay': WHATEVER THE INPUT: true; the input reads as it did. -/
def typingMaySpec : ChangeSpec := { name := "typingMay", fn := fun _ => fun
  | [d] => { results := [.lit (.bool true)], args := [d] }
  | _ => none }
def typingMayRow : OpenClaim := { program := "ytnhcpdepjpfcfaa", sum := "0d962b8ffdf44eb56fdbccb99599a411f745456a11ceee1c2ddcc3af3bddddf6", func := "blazon/blazonlaw19.TypingMay", spec := "typingMay", unfollowed := true, recurses := true, loops := true, plainKeys := false, apart := false }
def TypingMaySaid : Prop := typingMayRow.holds Try.pinned (OpenSpec.ofChange typingMaySpec)

/-- ITS FALSE NEIGHBOUR: 'it returns false'. Refute it at one input. -/
def typingMayWrong : ChangeSpec := { name := "typingMay", fn := fun _ => fun
  | [d] => { results := [.lit (.bool false)], args := [d] }
  | _ => none }
def TypingMayWrongFalsely : Prop := typingMayRow.holds Try.pinned (OpenSpec.ofChange typingMayWrong)

/-- 'blazonlaw17.ScopeNews': WHATEVER THE INPUT: true; the input reads as it did. -/
def scopeNewsSpec : ChangeSpec := { name := "scopeNews", fn := fun _ => fun
  | [d1, d2, d3, d4] => { results := [.lit (.bool true)], args := [d1, d2, d3, d4] }
  | _ => none }
def scopeNewsRow : OpenClaim := { program := "ytnhcpdepjpfcfaa", sum := "0d962b8ffdf44eb56fdbccb99599a411f745456a11ceee1c2ddcc3af3bddddf6", func := "blazon/blazonlaw17.ScopeNews", spec := "scopeNews", inPlace := ["internal/bytealg.IndexByteString", "internal/bytealg.IndexString"], unfollowed := true, recurses := true, named := ["internal/bytealg.MaxLen"], plainKeys := false, apart := false }
def ScopeNewsSaid : Prop := scopeNewsRow.holds Try.pinned (OpenSpec.ofChange scopeNewsSpec)

/-- ITS FALSE NEIGHBOUR: 'it returns false'. Refute it at one input. -/
def scopeNewsWrong : ChangeSpec := { name := "scopeNews", fn := fun _ => fun
  | [d1, d2, d3, d4] => { results := [.lit (.bool false)], args := [d1, d2, d3, d4] }
  | _ => none }
def ScopeNewsWrongFalsely : Prop := scopeNewsRow.holds Try.pinned (OpenSpec.ofChange scopeNewsWrong)

/-- 'blazonlaw17.ScopeNil': WHATEVER THE INPUT: true; the input reads as it did. -/
def scopeNilSpec : ChangeSpec := { name := "scopeNil", fn := fun _ => fun
  | [d1, d2] => { results := [.lit (.bool true)], args := [d1, d2] }
  | _ => none }
def scopeNilRow : OpenClaim := { program := "ytnhcpdepjpfcfaa", sum := "0d962b8ffdf44eb56fdbccb99599a411f745456a11ceee1c2ddcc3af3bddddf6", func := "blazon/blazonlaw17.ScopeNil", spec := "scopeNil", inPlace := ["internal/bytealg.IndexByteString", "internal/bytealg.IndexString"], unfollowed := true, recurses := true, named := ["internal/bytealg.MaxLen"], plainKeys := false, apart := false }
def ScopeNilSaid : Prop := scopeNilRow.holds Try.pinned (OpenSpec.ofChange scopeNilSpec)

/-- ITS FALSE NEIGHBOUR: 'it returns false'. Refute it at one input. -/
def scopeNilWrong : ChangeSpec := { name := "scopeNil", fn := fun _ => fun
  | [d1, d2] => { results := [.lit (.bool false)], args := [d1, d2] }
  | _ => none }
def ScopeNilWrongFalsely : Prop := scopeNilRow.holds Try.pinned (OpenSpec.ofChange scopeNilWrong)

/- THE SECOND FORM. 'bulk': how many values and letters a reading holds, each counted each time it is reached (what is shared counts as often as it is met; a slice's spare places count too). A statement '..UptoSaid' is the law's where the arguments, and the package variables that the reading takes, are together of bulk at most 1048576: NARROWER than '..Said'. Prove '..Said' where nothing that the law and all that it calls make is longer than what came in: it says more and counts as full. Else prove '..UptoSaid'. A law counts once. -/
mutual
def uptoBulk {H : Type} : DataW H → Nat
  | .lit (.string bytes) => bytes.length + 1
  | .lit _ => 1
  | .nil => 1
  | .ptr d => uptoBulk d + 1
  | .slice elems spare => uptoBulkAll elems + uptoBulkAll spare + 1
  | .agg parts => uptoBulkAll parts + 1
  | .iface _ d => uptoBulk d + 1
  | .map entries => uptoBulkEntries entries + 1
  | .held _ => 1
def uptoBulkAll {H : Type} : List (DataW H) → Nat
  | [] => 0
  | d :: r => uptoBulk d + uptoBulkAll r
def uptoBulkEntries {H : Type} : List (Lit × DataW H) → Nat
  | [] => 0
  | x :: r => uptoBulkEntry x + uptoBulkEntries r
def uptoBulkEntry {H : Type} : Lit × DataW H → Nat
  | (.string bytes, d) => bytes.length + uptoBulk d + 1
  | (_, d) => uptoBulk d + 1
 end
def uptoSmall : (H : Type) → List (DataW H) → Bool := fun _ ds => decide (uptoBulkAll ds ≤ 1048576)
def OpenSpec.upto (s : _root_.Go.ChangeSpec) : _root_.Go.OpenSpec := { _root_.Go.OpenSpec.ofChange s with cond := some uptoSmall }

/-- 'blazonlaw16.RowFull', WHERE WHAT IT READS IS OF BULK AT MOST 1048576: true; the input reads as it did. -/
def rowFullUptoRow : OpenClaim := { program := "ytnhcpdepjpfcfaa", sum := "0d962b8ffdf44eb56fdbccb99599a411f745456a11ceee1c2ddcc3af3bddddf6", func := "blazon/blazonlaw16.RowFull", spec := "rowFull", unfollowed := true, recurses := true, plainKeys := false, apart := false, narrowed := true }
def RowFullUptoSaid : Prop := rowFullUptoRow.holds Try.pinned (OpenSpec.upto rowFullSpec)

/-- 'blazonlaw16.RowBack', WHERE WHAT IT READS IS OF BULK AT MOST 1048576: true; the input reads as it did. -/
def rowBackUptoRow : OpenClaim := { program := "ytnhcpdepjpfcfaa", sum := "0d962b8ffdf44eb56fdbccb99599a411f745456a11ceee1c2ddcc3af3bddddf6", func := "blazon/blazonlaw16.RowBack", spec := "rowBack", unfollowed := true, recurses := true, plainKeys := false, apart := false, narrowed := true }
def RowBackUptoSaid : Prop := rowBackUptoRow.holds Try.pinned (OpenSpec.upto rowBackSpec)

/-- 'blazonlaw16.RowWithin', WHERE WHAT IT READS IS OF BULK AT MOST 1048576: true; the input reads as it did. -/
def rowWithinUptoRow : OpenClaim := { program := "ytnhcpdepjpfcfaa", sum := "0d962b8ffdf44eb56fdbccb99599a411f745456a11ceee1c2ddcc3af3bddddf6", func := "blazon/blazonlaw16.RowWithin", spec := "rowWithin", unfollowed := true, recurses := true, plainKeys := false, apart := false, narrowed := true }
def RowWithinUptoSaid : Prop := rowWithinUptoRow.holds Try.pinned (OpenSpec.upto rowWithinSpec)

/-- 'blazonlaw16.RowBoth', WHERE WHAT IT READS IS OF BULK AT MOST 1048576: true; the input reads as it did. -/
def rowBothUptoRow : OpenClaim := { program := "ytnhcpdepjpfcfaa", sum := "0d962b8ffdf44eb56fdbccb99599a411f745456a11ceee1c2ddcc3af3bddddf6", func := "blazon/blazonlaw16.RowBoth", spec := "rowBoth", unfollowed := true, recurses := true, plainKeys := false, apart := false, narrowed := true }
def RowBothUptoSaid : Prop := rowBothUptoRow.holds Try.pinned (OpenSpec.upto rowBothSpec)

/-- 'blazonlaw19.TypingOf', WHERE WHAT IT READS IS OF BULK AT MOST 1048576: true; the input reads as it did. -/
def typingOfUptoRow : OpenClaim := { program := "ytnhcpdepjpfcfaa", sum := "0d962b8ffdf44eb56fdbccb99599a411f745456a11ceee1c2ddcc3af3bddddf6", func := "blazon/blazonlaw19.TypingOf", spec := "typingOf", unfollowed := true, recurses := true, loops := true, plainKeys := false, apart := false, narrowed := true }
def TypingOfUptoSaid : Prop := typingOfUptoRow.holds Try.pinned (OpenSpec.upto typingOfSpec)

/-- 'blazonlaw17.ScopeOrders', WHERE WHAT IT READS IS OF BULK AT MOST 1048576: true; the input reads as it did. -/
def scopeOrdersUptoRow : OpenClaim := { program := "ytnhcpdepjpfcfaa", sum := "0d962b8ffdf44eb56fdbccb99599a411f745456a11ceee1c2ddcc3af3bddddf6", func := "blazon/blazonlaw17.ScopeOrders", spec := "scopeOrders", unfollowed := true, recurses := true, plainKeys := false, apart := false, narrowed := true }
def ScopeOrdersUptoSaid : Prop := scopeOrdersUptoRow.holds Try.pinned (OpenSpec.upto scopeOrdersSpec)

/-- 'blazonlaw19.TypingMay', WHERE WHAT IT READS IS OF BULK AT MOST 1048576: true; the input reads as it did. -/
def typingMayUptoRow : OpenClaim := { program := "ytnhcpdepjpfcfaa", sum := "0d962b8ffdf44eb56fdbccb99599a411f745456a11ceee1c2ddcc3af3bddddf6", func := "blazon/blazonlaw19.TypingMay", spec := "typingMay", unfollowed := true, recurses := true, loops := true, plainKeys := false, apart := false, narrowed := true }
def TypingMayUptoSaid : Prop := typingMayUptoRow.holds Try.pinned (OpenSpec.upto typingMaySpec)

/-- 'blazonlaw17.ScopeNews', WHERE WHAT IT READS IS OF BULK AT MOST 1048576: true; the input reads as it did. -/
def scopeNewsUptoRow : OpenClaim := { program := "ytnhcpdepjpfcfaa", sum := "0d962b8ffdf44eb56fdbccb99599a411f745456a11ceee1c2ddcc3af3bddddf6", func := "blazon/blazonlaw17.ScopeNews", spec := "scopeNews", inPlace := ["internal/bytealg.IndexByteString", "internal/bytealg.IndexString"], unfollowed := true, recurses := true, named := ["internal/bytealg.MaxLen"], plainKeys := false, apart := false, narrowed := true }
def ScopeNewsUptoSaid : Prop := scopeNewsUptoRow.holds Try.pinned (OpenSpec.upto scopeNewsSpec)

/-- 'blazonlaw17.ScopeNil', WHERE WHAT IT READS IS OF BULK AT MOST 1048576: true; the input reads as it did. -/
def scopeNilUptoRow : OpenClaim := { program := "ytnhcpdepjpfcfaa", sum := "0d962b8ffdf44eb56fdbccb99599a411f745456a11ceee1c2ddcc3af3bddddf6", func := "blazon/blazonlaw17.ScopeNil", spec := "scopeNil", inPlace := ["internal/bytealg.IndexByteString", "internal/bytealg.IndexString"], unfollowed := true, recurses := true, named := ["internal/bytealg.MaxLen"], plainKeys := false, apart := false, narrowed := true }
def ScopeNilUptoSaid : Prop := scopeNilUptoRow.holds Try.pinned (OpenSpec.upto scopeNilSpec)

end Rows
end Go.Proofs.Ytnhcpdepjpfcfaa
