/-
  No cell of these rows narrows 'for every input' (looked for: loops, veiled, ifaces, maps, wideKeys, modest, calm, conditions, laid).
  DERIVED. THE GIVEN ROWS OF THIS SEAT. 11 by the template 'for every input the law returns true; each argument reads behind the call as it read before'; 0 by the template 'total and deterministic' (their statements: YtdkbmchbkkhpoaaTotals.lean).
  GIVEN WITH THE SEED: the statements are not yours to turn. If you find one false, say at which input.
  Laid BY PROGRAM, IN A SANDBOX (cutbox-rows.mjs): the forced cells as the released guide's own fill.sh prints them over the translation 2dcd8cbe891de067… (all of the seat's roots in one cut). By AI agents, Wed Nov 11 2026. No macro, syntax, notation, axiom, sorry.
-/
import Derived.Test.YtdkbmchbkkhpoaaChecked
import GoSem.Claim
import GoSem.ClaimJoined
import GoSem.ClaimMapViews
import Derived.JoinedTies
import Derived.KernelRfl
namespace Go.Proofs.Ytdkbmchbkkhpoaa
/- THE CELL 'sum', in the pinned program and in every row, IS THE sha256 OF THE DUMP (.gsa) THAT YtdkbmchbkkhpoaaProg.lean LOADS. Nothing in Lean hashes anything: it is a label: what it is worth is what the hold of that sum in a sandbox is worth. -/
noncomputable def Try.pinned : Pinned := { name := "ytdkbmchbkkhpoaa", sum := "2dcd8cbe891de067b1597535c8140af83d025b2bae26e20ed2f5178171c73e47", checked := Try.checked }
namespace Rows
def none {H : Type} : Left H := { results := [], args := [] }

/-- 'blazonlaw25.MaxflowLeast': WHATEVER THE INPUT: true; the input reads as it did. -/
def maxflowLeastSpec : ChangeSpec := { name := "maxflowLeast", fn := fun _ => fun
  | [d1, d2, d3, d4] => { results := [.lit (.bool true)], args := [d1, d2, d3, d4] }
  | _ => none }
def maxflowLeastRow : OpenClaim := { program := "ytdkbmchbkkhpoaa", sum := "2dcd8cbe891de067b1597535c8140af83d025b2bae26e20ed2f5178171c73e47", func := "blazon/blazonlaw25.MaxflowLeast", spec := "maxflowLeast", inPlace := ["sync/atomic.AddInt64"], unfollowed := true, recurses := true, apart := false }
def MaxflowLeastSaid : Prop := maxflowLeastRow.holds Try.pinned (OpenSpec.ofChange maxflowLeastSpec)

/-- ITS FALSE NEIGHBOUR: 'it returns false'. Refute it at one input. -/
def maxflowLeastWrong : ChangeSpec := { name := "maxflowLeast", fn := fun _ => fun
  | [d1, d2, d3, d4] => { results := [.lit (.bool false)], args := [d1, d2, d3, d4] }
  | _ => none }
def MaxflowLeastWrongFalsely : Prop := maxflowLeastRow.holds Try.pinned (OpenSpec.ofChange maxflowLeastWrong)

/-- 'blazonlaw25.MaxflowMore': WHATEVER THE INPUT: true; the input reads as it did. -/
def maxflowMoreSpec : ChangeSpec := { name := "maxflowMore", fn := fun _ => fun
  | [d1, d2, d3, d4, d5] => { results := [.lit (.bool true)], args := [d1, d2, d3, d4, d5] }
  | _ => none }
def maxflowMoreRow : OpenClaim := { program := "ytdkbmchbkkhpoaa", sum := "2dcd8cbe891de067b1597535c8140af83d025b2bae26e20ed2f5178171c73e47", func := "blazon/blazonlaw25.MaxflowMore", spec := "maxflowMore", inPlace := ["sync/atomic.AddInt64"], unfollowed := true, recurses := true, apart := false }
def MaxflowMoreSaid : Prop := maxflowMoreRow.holds Try.pinned (OpenSpec.ofChange maxflowMoreSpec)

/-- ITS FALSE NEIGHBOUR: 'it returns false'. Refute it at one input. -/
def maxflowMoreWrong : ChangeSpec := { name := "maxflowMore", fn := fun _ => fun
  | [d1, d2, d3, d4, d5] => { results := [.lit (.bool false)], args := [d1, d2, d3, d4, d5] }
  | _ => none }
def MaxflowMoreWrongFalsely : Prop := maxflowMoreRow.holds Try.pinned (OpenSpec.ofChange maxflowMoreWrong)

/-- 'blazonlaw25.MaxflowTurned': WHATEVER THE INPUT: true; the input reads as it did. -/
def maxflowTurnedSpec : ChangeSpec := { name := "maxflowTurned", fn := fun _ => fun
  | [d1, d2, d3, d4] => { results := [.lit (.bool true)], args := [d1, d2, d3, d4] }
  | _ => none }
def maxflowTurnedRow : OpenClaim := { program := "ytdkbmchbkkhpoaa", sum := "2dcd8cbe891de067b1597535c8140af83d025b2bae26e20ed2f5178171c73e47", func := "blazon/blazonlaw25.MaxflowTurned", spec := "maxflowTurned", inPlace := ["sync/atomic.AddInt64"], unfollowed := true, recurses := true, apart := false }
def MaxflowTurnedSaid : Prop := maxflowTurnedRow.holds Try.pinned (OpenSpec.ofChange maxflowTurnedSpec)

/-- ITS FALSE NEIGHBOUR: 'it returns false'. Refute it at one input. -/
def maxflowTurnedWrong : ChangeSpec := { name := "maxflowTurned", fn := fun _ => fun
  | [d1, d2, d3, d4] => { results := [.lit (.bool false)], args := [d1, d2, d3, d4] }
  | _ => none }
def MaxflowTurnedWrongFalsely : Prop := maxflowTurnedRow.holds Try.pinned (OpenSpec.ofChange maxflowTurnedWrong)

/-- 'blazonlaw25.MaxflowParts': WHATEVER THE INPUT: true; the input reads as it did. -/
def maxflowPartsSpec : ChangeSpec := { name := "maxflowParts", fn := fun _ => fun
  | [d1, d2, d3, d4, d5, d6] => { results := [.lit (.bool true)], args := [d1, d2, d3, d4, d5, d6] }
  | _ => none }
def maxflowPartsRow : OpenClaim := { program := "ytdkbmchbkkhpoaa", sum := "2dcd8cbe891de067b1597535c8140af83d025b2bae26e20ed2f5178171c73e47", func := "blazon/blazonlaw25.MaxflowParts", spec := "maxflowParts", inPlace := ["sync/atomic.AddInt64"], unfollowed := true, recurses := true, apart := false }
def MaxflowPartsSaid : Prop := maxflowPartsRow.holds Try.pinned (OpenSpec.ofChange maxflowPartsSpec)

/-- ITS FALSE NEIGHBOUR: 'it returns false'. Refute it at one input. -/
def maxflowPartsWrong : ChangeSpec := { name := "maxflowParts", fn := fun _ => fun
  | [d1, d2, d3, d4, d5, d6] => { results := [.lit (.bool false)], args := [d1, d2, d3, d4, d5, d6] }
  | _ => none }
def MaxflowPartsWrongFalsely : Prop := maxflowPartsRow.holds Try.pinned (OpenSpec.ofChange maxflowPartsWrong)

/-- 'blazonlaw25.MaxflowRight': WHATEVER THE INPUT: true; the input reads as it did. -/
def maxflowRightSpec : ChangeSpec := { name := "maxflowRight", fn := fun _ => fun
  | [d1, d2, d3, d4] => { results := [.lit (.bool true)], args := [d1, d2, d3, d4] }
  | _ => none }
def maxflowRightRow : OpenClaim := { program := "ytdkbmchbkkhpoaa", sum := "2dcd8cbe891de067b1597535c8140af83d025b2bae26e20ed2f5178171c73e47", func := "blazon/blazonlaw25.MaxflowRight", spec := "maxflowRight", inPlace := ["sync/atomic.AddInt64", "sync/atomic.LoadInt64"], unfollowed := true, recurses := true, apart := false }
def MaxflowRightSaid : Prop := maxflowRightRow.holds Try.pinned (OpenSpec.ofChange maxflowRightSpec)

/-- ITS FALSE NEIGHBOUR: 'it returns false'. Refute it at one input. -/
def maxflowRightWrong : ChangeSpec := { name := "maxflowRight", fn := fun _ => fun
  | [d1, d2, d3, d4] => { results := [.lit (.bool false)], args := [d1, d2, d3, d4] }
  | _ => none }
def MaxflowRightWrongFalsely : Prop := maxflowRightRow.holds Try.pinned (OpenSpec.ofChange maxflowRightWrong)

/-- 'blazonlaw25.MaxflowNil': WHATEVER THE INPUT: true; the input reads as it did. -/
def maxflowNilSpec : ChangeSpec := { name := "maxflowNil", fn := fun _ => fun
  | [d1, d2, d3] => { results := [.lit (.bool true)], args := [d1, d2, d3] }
  | _ => none }
def maxflowNilRow : OpenClaim := { program := "ytdkbmchbkkhpoaa", sum := "2dcd8cbe891de067b1597535c8140af83d025b2bae26e20ed2f5178171c73e47", func := "blazon/blazonlaw25.MaxflowNil", spec := "maxflowNil", inPlace := ["sync/atomic.AddInt64", "sync/atomic.LoadInt64"], unfollowed := true, recurses := true, apart := false }
def MaxflowNilSaid : Prop := maxflowNilRow.holds Try.pinned (OpenSpec.ofChange maxflowNilSpec)

/-- ITS FALSE NEIGHBOUR: 'it returns false'. Refute it at one input. -/
def maxflowNilWrong : ChangeSpec := { name := "maxflowNil", fn := fun _ => fun
  | [d1, d2, d3] => { results := [.lit (.bool false)], args := [d1, d2, d3] }
  | _ => none }
def MaxflowNilWrongFalsely : Prop := maxflowNilRow.holds Try.pinned (OpenSpec.ofChange maxflowNilWrong)

/-- 'blazonlaw26.CutLeast': WHATEVER THE INPUT: true; the input reads as it did. -/
def cutLeastSpec : ChangeSpec := { name := "cutLeast", fn := fun _ => fun
  | [d] => { results := [.lit (.bool true)], args := [d] }
  | _ => none }
def cutLeastRow : OpenClaim := { program := "ytdkbmchbkkhpoaa", sum := "2dcd8cbe891de067b1597535c8140af83d025b2bae26e20ed2f5178171c73e47", func := "blazon/blazonlaw26.CutLeast", spec := "cutLeast", inPlace := ["sync/atomic.AddInt64"], unfollowed := true, recurses := true, apart := false }
def CutLeastSaid : Prop := cutLeastRow.holds Try.pinned (OpenSpec.ofChange cutLeastSpec)

/-- ITS FALSE NEIGHBOUR: 'it returns false'. Refute it at one input. -/
def cutLeastWrong : ChangeSpec := { name := "cutLeast", fn := fun _ => fun
  | [d] => { results := [.lit (.bool false)], args := [d] }
  | _ => none }
def CutLeastWrongFalsely : Prop := cutLeastRow.holds Try.pinned (OpenSpec.ofChange cutLeastWrong)

/-- 'blazonlaw26.CutKeeps': WHATEVER THE INPUT: true; the input reads as it did. -/
def cutKeepsSpec : ChangeSpec := { name := "cutKeeps", fn := fun _ => fun
  | [d1, d2] => { results := [.lit (.bool true)], args := [d1, d2] }
  | _ => none }
def cutKeepsRow : OpenClaim := { program := "ytdkbmchbkkhpoaa", sum := "2dcd8cbe891de067b1597535c8140af83d025b2bae26e20ed2f5178171c73e47", func := "blazon/blazonlaw26.CutKeeps", spec := "cutKeeps", inPlace := ["sync/atomic.AddInt64"], unfollowed := true, recurses := true, apart := false }
def CutKeepsSaid : Prop := cutKeepsRow.holds Try.pinned (OpenSpec.ofChange cutKeepsSpec)

/-- ITS FALSE NEIGHBOUR: 'it returns false'. Refute it at one input. -/
def cutKeepsWrong : ChangeSpec := { name := "cutKeeps", fn := fun _ => fun
  | [d1, d2] => { results := [.lit (.bool false)], args := [d1, d2] }
  | _ => none }
def CutKeepsWrongFalsely : Prop := cutKeepsRow.holds Try.pinned (OpenSpec.ofChange cutKeepsWrong)

/-- 'blazonlaw26.CutScaled': WHATEVER THE INPUT: true; the input reads as it did. -/
def cutScaledSpec : ChangeSpec := { name := "cutScaled", fn := fun _ => fun
  | [d1, d2] => { results := [.lit (.bool true)], args := [d1, d2] }
  | _ => none }
def cutScaledRow : OpenClaim := { program := "ytdkbmchbkkhpoaa", sum := "2dcd8cbe891de067b1597535c8140af83d025b2bae26e20ed2f5178171c73e47", func := "blazon/blazonlaw26.CutScaled", spec := "cutScaled", inPlace := ["sync/atomic.AddInt64"], unfollowed := true, recurses := true, apart := false }
def CutScaledSaid : Prop := cutScaledRow.holds Try.pinned (OpenSpec.ofChange cutScaledSpec)

/-- ITS FALSE NEIGHBOUR: 'it returns false'. Refute it at one input. -/
def cutScaledWrong : ChangeSpec := { name := "cutScaled", fn := fun _ => fun
  | [d1, d2] => { results := [.lit (.bool false)], args := [d1, d2] }
  | _ => none }
def CutScaledWrongFalsely : Prop := cutScaledRow.holds Try.pinned (OpenSpec.ofChange cutScaledWrong)

/-- 'blazonlaw26.CutTurned': WHATEVER THE INPUT: true; the input reads as it did. -/
def cutTurnedSpec : ChangeSpec := { name := "cutTurned", fn := fun _ => fun
  | [d] => { results := [.lit (.bool true)], args := [d] }
  | _ => none }
def cutTurnedRow : OpenClaim := { program := "ytdkbmchbkkhpoaa", sum := "2dcd8cbe891de067b1597535c8140af83d025b2bae26e20ed2f5178171c73e47", func := "blazon/blazonlaw26.CutTurned", spec := "cutTurned", inPlace := ["sync/atomic.AddInt64"], unfollowed := true, recurses := true, apart := false }
def CutTurnedSaid : Prop := cutTurnedRow.holds Try.pinned (OpenSpec.ofChange cutTurnedSpec)

/-- ITS FALSE NEIGHBOUR: 'it returns false'. Refute it at one input. -/
def cutTurnedWrong : ChangeSpec := { name := "cutTurned", fn := fun _ => fun
  | [d] => { results := [.lit (.bool false)], args := [d] }
  | _ => none }
def CutTurnedWrongFalsely : Prop := cutTurnedRow.holds Try.pinned (OpenSpec.ofChange cutTurnedWrong)

/-- 'blazonlaw26.CutFree': WHATEVER THE INPUT: true; the input reads as it did. -/
def cutFreeSpec : ChangeSpec := { name := "cutFree", fn := fun _ => fun
  | [d1, d2] => { results := [.lit (.bool true)], args := [d1, d2] }
  | _ => none }
def cutFreeRow : OpenClaim := { program := "ytdkbmchbkkhpoaa", sum := "2dcd8cbe891de067b1597535c8140af83d025b2bae26e20ed2f5178171c73e47", func := "blazon/blazonlaw26.CutFree", spec := "cutFree", inPlace := ["sync/atomic.AddInt64"], unfollowed := true, recurses := true, apart := false }
def CutFreeSaid : Prop := cutFreeRow.holds Try.pinned (OpenSpec.ofChange cutFreeSpec)

/-- ITS FALSE NEIGHBOUR: 'it returns false'. Refute it at one input. -/
def cutFreeWrong : ChangeSpec := { name := "cutFree", fn := fun _ => fun
  | [d1, d2] => { results := [.lit (.bool false)], args := [d1, d2] }
  | _ => none }
def CutFreeWrongFalsely : Prop := cutFreeRow.holds Try.pinned (OpenSpec.ofChange cutFreeWrong)

/- THE SECOND FORM. 'bulk': how many values and letters a reading holds, each counted each time it is reached (what is shared counts as often as it is met; a slice's spare places count too). A statement '..UptoSaid' is the law's where the arguments, and the package variables that the reading takes, are together of bulk at most 1048576: NARROWER than '..Said'. Prove '..Said' where nothing that the law and all that it calls make is longer than what came in: it says more and counts as full. Else prove '..UptoSaid'. A law counts once. -/
mutual
def uptoBulk {H : Type} : DataW H → Nat
  | .lit (.string bytes) => bytes.length + 1
  | .lit _ => 1
  | .nil => 1
  | .ptr d => uptoBulk d + 1
  | .slice elems spare => uptoBulkAll elems + uptoBulkAll spare + 1
  | .agg parts => uptoBulkAll parts + 1
  | .iface _ d => uptoBulk d + 1
  | .map entries => uptoBulkEntries entries + 1
  | .held _ => 1
def uptoBulkAll {H : Type} : List (DataW H) → Nat
  | [] => 0
  | d :: r => uptoBulk d + uptoBulkAll r
def uptoBulkEntries {H : Type} : List (Lit × DataW H) → Nat
  | [] => 0
  | x :: r => uptoBulkEntry x + uptoBulkEntries r
def uptoBulkEntry {H : Type} : Lit × DataW H → Nat
  | (.string bytes, d) => bytes.length + uptoBulk d + 1
  | (_, d) => uptoBulk d + 1
 end
def uptoSmall : (H : Type) → List (DataW H) → Bool := fun _ ds => decide (uptoBulkAll ds ≤ 1048576)
def OpenSpec.upto (s : _root_.Go.ChangeSpec) : _root_.Go.OpenSpec := { _root_.Go.OpenSpec.ofChange s with cond := some uptoSmall }

/-- 'blazonlaw25.MaxflowLeast', WHERE WHAT IT READS IS OF BULK AT MOST 1048576: true; the input reads as it did. -/
def maxflowLeastUptoRow : OpenClaim := { program := "ytdkbmchbkkhpoaa", sum := "2dcd8cbe891de067b1597535c8140af83d025b2bae26e20ed2f5178171c73e47", func := "blazon/blazonlaw25.MaxflowLeast", spec := "maxflowLeast", inPlace := ["sync/atomic.AddInt64"], unfollowed := true, recurses := true, apart := false, narrowed := true }
def MaxflowLeastUptoSaid : Prop := maxflowLeastUptoRow.holds Try.pinned (OpenSpec.upto maxflowLeastSpec)

/-- 'blazonlaw25.MaxflowMore', WHERE WHAT IT READS IS OF BULK AT MOST 1048576: true; the input reads as it did. -/
def maxflowMoreUptoRow : OpenClaim := { program := "ytdkbmchbkkhpoaa", sum := "2dcd8cbe891de067b1597535c8140af83d025b2bae26e20ed2f5178171c73e47", func := "blazon/blazonlaw25.MaxflowMore", spec := "maxflowMore", inPlace := ["sync/atomic.AddInt64"], unfollowed := true, recurses := true, apart := false, narrowed := true }
def MaxflowMoreUptoSaid : Prop := maxflowMoreUptoRow.holds Try.pinned (OpenSpec.upto maxflowMoreSpec)

/-- 'blazonlaw25.MaxflowTurned', WHERE WHAT IT READS IS OF BULK AT MOST 1048576: true; the input reads as it did. -/
def maxflowTurnedUptoRow : OpenClaim := { program := "ytdkbmchbkkhpoaa", sum := "2dcd8cbe891de067b1597535c8140af83d025b2bae26e20ed2f5178171c73e47", func := "blazon/blazonlaw25.MaxflowTurned", spec := "maxflowTurned", inPlace := ["sync/atomic.AddInt64"], unfollowed := true, recurses := true, apart := false, narrowed := true }
def MaxflowTurnedUptoSaid : Prop := maxflowTurnedUptoRow.holds Try.pinned (OpenSpec.upto maxflowTurnedSpec)

/-- 'blazonlaw25.MaxflowParts', WHERE WHAT IT READS IS OF BULK AT MOST 1048576: true; the input reads as it did. -/
def maxflowPartsUptoRow : OpenClaim := { program := "ytdkbmchbkkhpoaa", sum := "2dcd8cbe891de067b1597535c8140af83d025b2bae26e20ed2f5178171c73e47", func := "blazon/blazonlaw25.MaxflowParts", spec := "maxflowParts", inPlace := ["sync/atomic.AddInt64"], unfollowed := true, recurses := true, apart := false, narrowed := true }
def MaxflowPartsUptoSaid : Prop := maxflowPartsUptoRow.holds Try.pinned (OpenSpec.upto maxflowPartsSpec)

/-- 'blazonlaw25.MaxflowRight', WHERE WHAT IT READS IS OF BULK AT MOST 1048576: true; the input reads as it did. -/
def maxflowRightUptoRow : OpenClaim := { program := "ytdkbmchbkkhpoaa", sum := "2dcd8cbe891de067b1597535c8140af83d025b2bae26e20ed2f5178171c73e47", func := "blazon/blazonlaw25.MaxflowRight", spec := "maxflowRight", inPlace := ["sync/atomic.AddInt64", "sync/atomic.LoadInt64"], unfollowed := true, recurses := true, apart := false, narrowed := true }
def MaxflowRightUptoSaid : Prop := maxflowRightUptoRow.holds Try.pinned (OpenSpec.upto maxflowRightSpec)

/-- 'blazonlaw25.MaxflowNil', WHERE WHAT IT READS IS OF BULK AT MOST 1048576: true; the input reads as it did. -/
def maxflowNilUptoRow : OpenClaim := { program := "ytdkbmchbkkhpoaa", sum := "2dcd8cbe891de067b1597535c8140af83d025b2bae26e20ed2f5178171c73e47", func := "blazon/blazonlaw25.MaxflowNil", spec := "maxflowNil", inPlace := ["sync/atomic.AddInt64", "sync/atomic.LoadInt64"], unfollowed := true, recurses := true, apart := false, narrowed := true }
def MaxflowNilUptoSaid : Prop := maxflowNilUptoRow.holds Try.pinned (OpenSpec.upto maxflowNilSpec)

/-- 'blazonlaw26.CutLeast', WHERE WHAT IT READS IS OF BULK AT MOST 1048576: true; the input reads as it did. -/
def cutLeastUptoRow : OpenClaim := { program := "ytdkbmchbkkhpoaa", sum := "2dcd8cbe891de067b1597535c8140af83d025b2bae26e20ed2f5178171c73e47", func := "blazon/blazonlaw26.CutLeast", spec := "cutLeast", inPlace := ["sync/atomic.AddInt64"], unfollowed := true, recurses := true, apart := false, narrowed := true }
def CutLeastUptoSaid : Prop := cutLeastUptoRow.holds Try.pinned (OpenSpec.upto cutLeastSpec)

/-- 'blazonlaw26.CutKeeps', WHERE WHAT IT READS IS OF BULK AT MOST 1048576: true; the input reads as it did. -/
def cutKeepsUptoRow : OpenClaim := { program := "ytdkbmchbkkhpoaa", sum := "2dcd8cbe891de067b1597535c8140af83d025b2bae26e20ed2f5178171c73e47", func := "blazon/blazonlaw26.CutKeeps", spec := "cutKeeps", inPlace := ["sync/atomic.AddInt64"], unfollowed := true, recurses := true, apart := false, narrowed := true }
def CutKeepsUptoSaid : Prop := cutKeepsUptoRow.holds Try.pinned (OpenSpec.upto cutKeepsSpec)

/-- 'blazonlaw26.CutScaled', WHERE WHAT IT READS IS OF BULK AT MOST 1048576: true; the input reads as it did. -/
def cutScaledUptoRow : OpenClaim := { program := "ytdkbmchbkkhpoaa", sum := "2dcd8cbe891de067b1597535c8140af83d025b2bae26e20ed2f5178171c73e47", func := "blazon/blazonlaw26.CutScaled", spec := "cutScaled", inPlace := ["sync/atomic.AddInt64"], unfollowed := true, recurses := true, apart := false, narrowed := true }
def CutScaledUptoSaid : Prop := cutScaledUptoRow.holds Try.pinned (OpenSpec.upto cutScaledSpec)

/-- 'blazonlaw26.CutTurned', WHERE WHAT IT READS IS OF BULK AT MOST 1048576: true; the input reads as it did. -/
def cutTurnedUptoRow : OpenClaim := { program := "ytdkbmchbkkhpoaa", sum := "2dcd8cbe891de067b1597535c8140af83d025b2bae26e20ed2f5178171c73e47", func := "blazon/blazonlaw26.CutTurned", spec := "cutTurned", inPlace := ["sync/atomic.AddInt64"], unfollowed := true, recurses := true, apart := false, narrowed := true }
def CutTurnedUptoSaid : Prop := cutTurnedUptoRow.holds Try.pinned (OpenSpec.upto cutTurnedSpec)

/-- 'blazonlaw26.CutFree', WHERE WHAT IT READS IS OF BULK AT MOST 1048576: true; the input reads as it did. -/
def cutFreeUptoRow : OpenClaim := { program := "ytdkbmchbkkhpoaa", sum := "2dcd8cbe891de067b1597535c8140af83d025b2bae26e20ed2f5178171c73e47", func := "blazon/blazonlaw26.CutFree", spec := "cutFree", inPlace := ["sync/atomic.AddInt64"], unfollowed := true, recurses := true, apart := false, narrowed := true }
def CutFreeUptoSaid : Prop := cutFreeUptoRow.holds Try.pinned (OpenSpec.upto cutFreeSpec)

end Rows
end Go.Proofs.Ytdkbmchbkkhpoaa
