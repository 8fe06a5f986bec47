/-
  No cell of these rows narrows 'for every input' (looked for: loops, veiled, ifaces, maps, wideKeys, modest, calm, conditions, laid).
  DERIVED. THE GIVEN ROWS OF THIS SEAT. 14 by the template 'for every input the law returns true; each argument reads behind the call as it read before'; 0 by the template 'total and deterministic' (their statements: YteoccoklbmjiaaaTotals.lean).
  GIVEN WITH THE SEED: the statements are not yours to turn. If you find one false, say at which input.
  Laid BY PROGRAM, IN A SANDBOX (cutbox-rows.mjs): the forced cells as the released guide's own fill.sh prints them over the translation c5512a751cb7ad43… (all of the seat's roots in one cut). By AI agents, Wed Nov 11 2026. No macro, syntax, notation, axiom, sorry.
-/
import Derived.Test.YteoccoklbmjiaaaChecked
import GoSem.Claim
import GoSem.ClaimJoined
import GoSem.ClaimMapViews
import Derived.JoinedTies
import Derived.KernelRfl
namespace Go.Proofs.Yteoccoklbmjiaaa
/- THE CELL 'sum', in the pinned program and in every row, IS THE sha256 OF THE DUMP (.gsa) THAT YteoccoklbmjiaaaProg.lean LOADS. Nothing in Lean hashes anything: it is a label: what it is worth is what the hold of that sum in a sandbox is worth. -/
noncomputable def Try.pinned : Pinned := { name := "yteoccoklbmjiaaa", sum := "c5512a751cb7ad433d3ec62986e122f549dfa36744b5d89bdef6ae594ba8b5c5", checked := Try.checked }
namespace Rows
def none {H : Type} : Left H := { results := [], args := [] }

/-- 'blazonlaw06.LexWhole': WHATEVER THE INPUT: true; the input reads as it did. -/
def lexWholeSpec : ChangeSpec := { name := "lexWhole", fn := fun _ => fun
  | [d] => { results := [.lit (.bool true)], args := [d] }
  | _ => none }
def lexWholeRow : OpenClaim := { program := "yteoccoklbmjiaaa", sum := "c5512a751cb7ad433d3ec62986e122f549dfa36744b5d89bdef6ae594ba8b5c5", func := "blazon/blazonlaw06.LexWhole", spec := "lexWhole", inPlace := ["internal/bytealg.IndexByteString"], unfollowed := true, recurses := true, apart := false }
def LexWholeSaid : Prop := lexWholeRow.holds Try.pinned (OpenSpec.ofChange lexWholeSpec)

/-- ITS FALSE NEIGHBOUR: 'it returns false'. Refute it at one input. -/
def lexWholeWrong : ChangeSpec := { name := "lexWhole", fn := fun _ => fun
  | [d] => { results := [.lit (.bool false)], args := [d] }
  | _ => none }
def LexWholeWrongFalsely : Prop := lexWholeRow.holds Try.pinned (OpenSpec.ofChange lexWholeWrong)

/-- 'blazonlaw06.LexReads': WHATEVER THE INPUT: true; the input reads as it did. -/
def lexReadsSpec : ChangeSpec := { name := "lexReads", fn := fun _ => fun
  | [d] => { results := [.lit (.bool true)], args := [d] }
  | _ => none }
def lexReadsRow : OpenClaim := { program := "yteoccoklbmjiaaa", sum := "c5512a751cb7ad433d3ec62986e122f549dfa36744b5d89bdef6ae594ba8b5c5", func := "blazon/blazonlaw06.LexReads", spec := "lexReads", inPlace := ["internal/bytealg.IndexByteString"], unfollowed := true, recurses := true, apart := false }
def LexReadsSaid : Prop := lexReadsRow.holds Try.pinned (OpenSpec.ofChange lexReadsSpec)

/-- ITS FALSE NEIGHBOUR: 'it returns false'. Refute it at one input. -/
def lexReadsWrong : ChangeSpec := { name := "lexReads", fn := fun _ => fun
  | [d] => { results := [.lit (.bool false)], args := [d] }
  | _ => none }
def LexReadsWrongFalsely : Prop := lexReadsRow.holds Try.pinned (OpenSpec.ofChange lexReadsWrong)

/-- 'blazonlaw06.LexJoins': WHATEVER THE INPUT: true; the input reads as it did. -/
def lexJoinsSpec : ChangeSpec := { name := "lexJoins", fn := fun _ => fun
  | [d1, d2] => { results := [.lit (.bool true)], args := [d1, d2] }
  | _ => none }
def lexJoinsRow : OpenClaim := { program := "yteoccoklbmjiaaa", sum := "c5512a751cb7ad433d3ec62986e122f549dfa36744b5d89bdef6ae594ba8b5c5", func := "blazon/blazonlaw06.LexJoins", spec := "lexJoins", inPlace := ["internal/bytealg.IndexByteString"], unfollowed := true, recurses := true, apart := false }
def LexJoinsSaid : Prop := lexJoinsRow.holds Try.pinned (OpenSpec.ofChange lexJoinsSpec)

/-- ITS FALSE NEIGHBOUR: 'it returns false'. Refute it at one input. -/
def lexJoinsWrong : ChangeSpec := { name := "lexJoins", fn := fun _ => fun
  | [d1, d2] => { results := [.lit (.bool false)], args := [d1, d2] }
  | _ => none }
def LexJoinsWrongFalsely : Prop := lexJoinsRow.holds Try.pinned (OpenSpec.ofChange lexJoinsWrong)

/-- 'blazonlaw06.LexWords': WHATEVER THE INPUT: true; the input reads as it did. -/
def lexWordsSpec : ChangeSpec := { name := "lexWords", fn := fun _ => fun
  | [d1, d2] => { results := [.lit (.bool true)], args := [d1, d2] }
  | _ => none }
def lexWordsRow : OpenClaim := { program := "yteoccoklbmjiaaa", sum := "c5512a751cb7ad433d3ec62986e122f549dfa36744b5d89bdef6ae594ba8b5c5", func := "blazon/blazonlaw06.LexWords", spec := "lexWords", inPlace := ["internal/bytealg.IndexByteString"], unfollowed := true, recurses := true, apart := false }
def LexWordsSaid : Prop := lexWordsRow.holds Try.pinned (OpenSpec.ofChange lexWordsSpec)

/-- ITS FALSE NEIGHBOUR: 'it returns false'. Refute it at one input. -/
def lexWordsWrong : ChangeSpec := { name := "lexWords", fn := fun _ => fun
  | [d1, d2] => { results := [.lit (.bool false)], args := [d1, d2] }
  | _ => none }
def LexWordsWrongFalsely : Prop := lexWordsRow.holds Try.pinned (OpenSpec.ofChange lexWordsWrong)

/-- 'blazonlaw06.LexLines': WHATEVER THE INPUT: true; the input reads as it did. -/
def lexLinesSpec : ChangeSpec := { name := "lexLines", fn := fun _ => fun
  | [d1, d2] => { results := [.lit (.bool true)], args := [d1, d2] }
  | _ => none }
def lexLinesRow : OpenClaim := { program := "yteoccoklbmjiaaa", sum := "c5512a751cb7ad433d3ec62986e122f549dfa36744b5d89bdef6ae594ba8b5c5", func := "blazon/blazonlaw06.LexLines", spec := "lexLines", inPlace := ["internal/bytealg.IndexByteString", "internal/bytealg.Count", "internal/bytealg.IndexByte", "internal/bytealg.Index"], unfollowed := true, recurses := true, named := ["internal/bytealg.MaxLen"], apart := false }
def LexLinesSaid : Prop := lexLinesRow.holds Try.pinned (OpenSpec.ofChange lexLinesSpec)

/-- ITS FALSE NEIGHBOUR: 'it returns false'. Refute it at one input. -/
def lexLinesWrong : ChangeSpec := { name := "lexLines", fn := fun _ => fun
  | [d1, d2] => { results := [.lit (.bool false)], args := [d1, d2] }
  | _ => none }
def LexLinesWrongFalsely : Prop := lexLinesRow.holds Try.pinned (OpenSpec.ofChange lexLinesWrong)

/-- 'blazonlaw08.ExprParses': WHATEVER THE INPUT: true; the input reads as it did. -/
def exprParsesSpec : ChangeSpec := { name := "exprParses", fn := fun _ => fun
  | [d] => { results := [.lit (.bool true)], args := [d] }
  | _ => none }
def exprParsesRow : OpenClaim := { program := "yteoccoklbmjiaaa", sum := "c5512a751cb7ad433d3ec62986e122f549dfa36744b5d89bdef6ae594ba8b5c5", func := "blazon/blazonlaw08.ExprParses", spec := "exprParses", inPlace := ["internal/bytealg.IndexByteString"], unfollowed := true, recurses := true, apart := false }
def ExprParsesSaid : Prop := exprParsesRow.holds Try.pinned (OpenSpec.ofChange exprParsesSpec)

/-- ITS FALSE NEIGHBOUR: 'it returns false'. Refute it at one input. -/
def exprParsesWrong : ChangeSpec := { name := "exprParses", fn := fun _ => fun
  | [d] => { results := [.lit (.bool false)], args := [d] }
  | _ => none }
def ExprParsesWrongFalsely : Prop := exprParsesRow.holds Try.pinned (OpenSpec.ofChange exprParsesWrong)

/-- 'blazonlaw08.ExprBrackets': WHATEVER THE INPUT: true; the input reads as it did. -/
def exprBracketsSpec : ChangeSpec := { name := "exprBrackets", fn := fun _ => fun
  | [d] => { results := [.lit (.bool true)], args := [d] }
  | _ => none }
def exprBracketsRow : OpenClaim := { program := "yteoccoklbmjiaaa", sum := "c5512a751cb7ad433d3ec62986e122f549dfa36744b5d89bdef6ae594ba8b5c5", func := "blazon/blazonlaw08.ExprBrackets", spec := "exprBrackets", inPlace := ["internal/bytealg.IndexByteString"], unfollowed := true, recurses := true, apart := false }
def ExprBracketsSaid : Prop := exprBracketsRow.holds Try.pinned (OpenSpec.ofChange exprBracketsSpec)

/-- ITS FALSE NEIGHBOUR: 'it returns false'. Refute it at one input. -/
def exprBracketsWrong : ChangeSpec := { name := "exprBrackets", fn := fun _ => fun
  | [d] => { results := [.lit (.bool false)], args := [d] }
  | _ => none }
def ExprBracketsWrongFalsely : Prop := exprBracketsRow.holds Try.pinned (OpenSpec.ofChange exprBracketsWrong)

/-- 'blazonlaw08.ExprLater': WHATEVER THE INPUT: true; the input reads as it did. -/
def exprLaterSpec : ChangeSpec := { name := "exprLater", fn := fun _ => fun
  | [d1, d2] => { results := [.lit (.bool true)], args := [d1, d2] }
  | _ => none }
def exprLaterRow : OpenClaim := { program := "yteoccoklbmjiaaa", sum := "c5512a751cb7ad433d3ec62986e122f549dfa36744b5d89bdef6ae594ba8b5c5", func := "blazon/blazonlaw08.ExprLater", spec := "exprLater", inPlace := ["internal/bytealg.IndexByteString"], unfollowed := true, recurses := true, apart := false }
def ExprLaterSaid : Prop := exprLaterRow.holds Try.pinned (OpenSpec.ofChange exprLaterSpec)

/-- ITS FALSE NEIGHBOUR: 'it returns false'. Refute it at one input. -/
def exprLaterWrong : ChangeSpec := { name := "exprLater", fn := fun _ => fun
  | [d1, d2] => { results := [.lit (.bool false)], args := [d1, d2] }
  | _ => none }
def ExprLaterWrongFalsely : Prop := exprLaterRow.holds Try.pinned (OpenSpec.ofChange exprLaterWrong)

/-- 'blazonlaw08.ExprGoes': WHATEVER THE INPUT: true; the input reads as it did. -/
def exprGoesSpec : ChangeSpec := { name := "exprGoes", fn := fun _ => fun
  | [d1, d2] => { results := [.lit (.bool true)], args := [d1, d2] }
  | _ => none }
def exprGoesRow : OpenClaim := { program := "yteoccoklbmjiaaa", sum := "c5512a751cb7ad433d3ec62986e122f549dfa36744b5d89bdef6ae594ba8b5c5", func := "blazon/blazonlaw08.ExprGoes", spec := "exprGoes", inPlace := ["internal/bytealg.IndexByteString"], unfollowed := true, recurses := true, apart := false }
def ExprGoesSaid : Prop := exprGoesRow.holds Try.pinned (OpenSpec.ofChange exprGoesSpec)

/-- ITS FALSE NEIGHBOUR: 'it returns false'. Refute it at one input. -/
def exprGoesWrong : ChangeSpec := { name := "exprGoes", fn := fun _ => fun
  | [d1, d2] => { results := [.lit (.bool false)], args := [d1, d2] }
  | _ => none }
def ExprGoesWrongFalsely : Prop := exprGoesRow.holds Try.pinned (OpenSpec.ofChange exprGoesWrong)

/-- 'blazonlaw08.ExprInside': WHATEVER THE INPUT: true; the input reads as it did. -/
def exprInsideSpec : ChangeSpec := { name := "exprInside", fn := fun _ => fun
  | [d] => { results := [.lit (.bool true)], args := [d] }
  | _ => none }
def exprInsideRow : OpenClaim := { program := "yteoccoklbmjiaaa", sum := "c5512a751cb7ad433d3ec62986e122f549dfa36744b5d89bdef6ae594ba8b5c5", func := "blazon/blazonlaw08.ExprInside", spec := "exprInside", inPlace := ["internal/bytealg.IndexByteString"], unfollowed := true, recurses := true, apart := false }
def ExprInsideSaid : Prop := exprInsideRow.holds Try.pinned (OpenSpec.ofChange exprInsideSpec)

/-- ITS FALSE NEIGHBOUR: 'it returns false'. Refute it at one input. -/
def exprInsideWrong : ChangeSpec := { name := "exprInside", fn := fun _ => fun
  | [d] => { results := [.lit (.bool false)], args := [d] }
  | _ => none }
def ExprInsideWrongFalsely : Prop := exprInsideRow.holds Try.pinned (OpenSpec.ofChange exprInsideWrong)

/-- 'blazonlaw09.StmtParses': WHATEVER THE INPUT: true; the input reads as it did. -/
def stmtParsesSpec : ChangeSpec := { name := "stmtParses", fn := fun _ => fun
  | [d] => { results := [.lit (.bool true)], args := [d] }
  | _ => none }
def stmtParsesRow : OpenClaim := { program := "yteoccoklbmjiaaa", sum := "c5512a751cb7ad433d3ec62986e122f549dfa36744b5d89bdef6ae594ba8b5c5", func := "blazon/blazonlaw09.StmtParses", spec := "stmtParses", inPlace := ["internal/bytealg.IndexByteString"], unfollowed := true, recurses := true, apart := false }
def StmtParsesSaid : Prop := stmtParsesRow.holds Try.pinned (OpenSpec.ofChange stmtParsesSpec)

/-- ITS FALSE NEIGHBOUR: 'it returns false'. Refute it at one input. -/
def stmtParsesWrong : ChangeSpec := { name := "stmtParses", fn := fun _ => fun
  | [d] => { results := [.lit (.bool false)], args := [d] }
  | _ => none }
def StmtParsesWrongFalsely : Prop := stmtParsesRow.holds Try.pinned (OpenSpec.ofChange stmtParsesWrong)

/-- 'blazonlaw09.StmtGoes': WHATEVER THE INPUT: true; the input reads as it did. -/
def stmtGoesSpec : ChangeSpec := { name := "stmtGoes", fn := fun _ => fun
  | [d1, d2, d3, d4] => { results := [.lit (.bool true)], args := [d1, d2, d3, d4] }
  | _ => none }
def stmtGoesRow : OpenClaim := { program := "yteoccoklbmjiaaa", sum := "c5512a751cb7ad433d3ec62986e122f549dfa36744b5d89bdef6ae594ba8b5c5", func := "blazon/blazonlaw09.StmtGoes", spec := "stmtGoes", inPlace := ["internal/bytealg.IndexByteString"], unfollowed := true, recurses := true, apart := false }
def StmtGoesSaid : Prop := stmtGoesRow.holds Try.pinned (OpenSpec.ofChange stmtGoesSpec)

/-- ITS FALSE NEIGHBOUR: 'it returns false'. Refute it at one input. -/
def stmtGoesWrong : ChangeSpec := { name := "stmtGoes", fn := fun _ => fun
  | [d1, d2, d3, d4] => { results := [.lit (.bool false)], args := [d1, d2, d3, d4] }
  | _ => none }
def StmtGoesWrongFalsely : Prop := stmtGoesRow.holds Try.pinned (OpenSpec.ofChange stmtGoesWrong)

/-- 'blazonlaw09.StmtDeep': WHATEVER THE INPUT: true; the input reads as it did. -/
def stmtDeepSpec : ChangeSpec := { name := "stmtDeep", fn := fun _ => fun
  | [d1, d2] => { results := [.lit (.bool true)], args := [d1, d2] }
  | _ => none }
def stmtDeepRow : OpenClaim := { program := "yteoccoklbmjiaaa", sum := "c5512a751cb7ad433d3ec62986e122f549dfa36744b5d89bdef6ae594ba8b5c5", func := "blazon/blazonlaw09.StmtDeep", spec := "stmtDeep", inPlace := ["internal/bytealg.IndexByteString"], unfollowed := true, recurses := true, apart := false }
def StmtDeepSaid : Prop := stmtDeepRow.holds Try.pinned (OpenSpec.ofChange stmtDeepSpec)

/-- ITS FALSE NEIGHBOUR: 'it returns false'. Refute it at one input. -/
def stmtDeepWrong : ChangeSpec := { name := "stmtDeep", fn := fun _ => fun
  | [d1, d2] => { results := [.lit (.bool false)], args := [d1, d2] }
  | _ => none }
def StmtDeepWrongFalsely : Prop := stmtDeepRow.holds Try.pinned (OpenSpec.ofChange stmtDeepWrong)

/-- 'blazonlaw09.StmtNil': WHATEVER THE INPUT: true; the input reads as it did. -/
def stmtNilSpec : ChangeSpec := { name := "stmtNil", fn := fun _ => fun
  | [d] => { results := [.lit (.bool true)], args := [d] }
  | _ => none }
def stmtNilRow : OpenClaim := { program := "yteoccoklbmjiaaa", sum := "c5512a751cb7ad433d3ec62986e122f549dfa36744b5d89bdef6ae594ba8b5c5", func := "blazon/blazonlaw09.StmtNil", spec := "stmtNil", inPlace := ["internal/bytealg.IndexByteString"], unfollowed := true, recurses := true, apart := false }
def StmtNilSaid : Prop := stmtNilRow.holds Try.pinned (OpenSpec.ofChange stmtNilSpec)

/-- ITS FALSE NEIGHBOUR: 'it returns false'. Refute it at one input. -/
def stmtNilWrong : ChangeSpec := { name := "stmtNil", fn := fun _ => fun
  | [d] => { results := [.lit (.bool false)], args := [d] }
  | _ => none }
def StmtNilWrongFalsely : Prop := stmtNilRow.holds Try.pinned (OpenSpec.ofChange stmtNilWrong)

/- THE SECOND FORM. 'bulk': how many values and letters a reading holds, each counted each time it is reached (what is shared counts as often as it is met; a slice's spare places count too). A statement '..UptoSaid' is the law's where the arguments, and the package variables that the reading takes, are together of bulk at most 1048576: NARROWER than '..Said'. Prove '..Said' where nothing that the law and all that it calls make is longer than what came in: it says more and counts as full. Else prove '..UptoSaid'. A law counts once. -/
mutual
def uptoBulk {H : Type} : DataW H → Nat
  | .lit (.string bytes) => bytes.length + 1
  | .lit _ => 1
  | .nil => 1
  | .ptr d => uptoBulk d + 1
  | .slice elems spare => uptoBulkAll elems + uptoBulkAll spare + 1
  | .agg parts => uptoBulkAll parts + 1
  | .iface _ d => uptoBulk d + 1
  | .map entries => uptoBulkEntries entries + 1
  | .held _ => 1
def uptoBulkAll {H : Type} : List (DataW H) → Nat
  | [] => 0
  | d :: r => uptoBulk d + uptoBulkAll r
def uptoBulkEntries {H : Type} : List (Lit × DataW H) → Nat
  | [] => 0
  | x :: r => uptoBulkEntry x + uptoBulkEntries r
def uptoBulkEntry {H : Type} : Lit × DataW H → Nat
  | (.string bytes, d) => bytes.length + uptoBulk d + 1
  | (_, d) => uptoBulk d + 1
 end
def uptoSmall : (H : Type) → List (DataW H) → Bool := fun _ ds => decide (uptoBulkAll ds ≤ 1048576)
def OpenSpec.upto (s : _root_.Go.ChangeSpec) : _root_.Go.OpenSpec := { _root_.Go.OpenSpec.ofChange s with cond := some uptoSmall }

/-- 'blazonlaw06.LexWhole', WHERE WHAT IT READS IS OF BULK AT MOST 1048576: true; the input reads as it did. -/
def lexWholeUptoRow : OpenClaim := { program := "yteoccoklbmjiaaa", sum := "c5512a751cb7ad433d3ec62986e122f549dfa36744b5d89bdef6ae594ba8b5c5", func := "blazon/blazonlaw06.LexWhole", spec := "lexWhole", inPlace := ["internal/bytealg.IndexByteString"], unfollowed := true, recurses := true, apart := false, narrowed := true }
def LexWholeUptoSaid : Prop := lexWholeUptoRow.holds Try.pinned (OpenSpec.upto lexWholeSpec)

/-- 'blazonlaw06.LexReads', WHERE WHAT IT READS IS OF BULK AT MOST 1048576: true; the input reads as it did. -/
def lexReadsUptoRow : OpenClaim := { program := "yteoccoklbmjiaaa", sum := "c5512a751cb7ad433d3ec62986e122f549dfa36744b5d89bdef6ae594ba8b5c5", func := "blazon/blazonlaw06.LexReads", spec := "lexReads", inPlace := ["internal/bytealg.IndexByteString"], unfollowed := true, recurses := true, apart := false, narrowed := true }
def LexReadsUptoSaid : Prop := lexReadsUptoRow.holds Try.pinned (OpenSpec.upto lexReadsSpec)

/-- 'blazonlaw06.LexJoins', WHERE WHAT IT READS IS OF BULK AT MOST 1048576: true; the input reads as it did. -/
def lexJoinsUptoRow : OpenClaim := { program := "yteoccoklbmjiaaa", sum := "c5512a751cb7ad433d3ec62986e122f549dfa36744b5d89bdef6ae594ba8b5c5", func := "blazon/blazonlaw06.LexJoins", spec := "lexJoins", inPlace := ["internal/bytealg.IndexByteString"], unfollowed := true, recurses := true, apart := false, narrowed := true }
def LexJoinsUptoSaid : Prop := lexJoinsUptoRow.holds Try.pinned (OpenSpec.upto lexJoinsSpec)

/-- 'blazonlaw06.LexWords', WHERE WHAT IT READS IS OF BULK AT MOST 1048576: true; the input reads as it did. -/
def lexWordsUptoRow : OpenClaim := { program := "yteoccoklbmjiaaa", sum := "c5512a751cb7ad433d3ec62986e122f549dfa36744b5d89bdef6ae594ba8b5c5", func := "blazon/blazonlaw06.LexWords", spec := "lexWords", inPlace := ["internal/bytealg.IndexByteString"], unfollowed := true, recurses := true, apart := false, narrowed := true }
def LexWordsUptoSaid : Prop := lexWordsUptoRow.holds Try.pinned (OpenSpec.upto lexWordsSpec)

/-- 'blazonlaw06.LexLines', WHERE WHAT IT READS IS OF BULK AT MOST 1048576: true; the input reads as it did. -/
def lexLinesUptoRow : OpenClaim := { program := "yteoccoklbmjiaaa", sum := "c5512a751cb7ad433d3ec62986e122f549dfa36744b5d89bdef6ae594ba8b5c5", func := "blazon/blazonlaw06.LexLines", spec := "lexLines", inPlace := ["internal/bytealg.IndexByteString", "internal/bytealg.Count", "internal/bytealg.IndexByte", "internal/bytealg.Index"], unfollowed := true, recurses := true, named := ["internal/bytealg.MaxLen"], apart := false, narrowed := true }
def LexLinesUptoSaid : Prop := lexLinesUptoRow.holds Try.pinned (OpenSpec.upto lexLinesSpec)

/-- 'blazonlaw08.ExprParses', WHERE WHAT IT READS IS OF BULK AT MOST 1048576: true; the input reads as it did. -/
def exprParsesUptoRow : OpenClaim := { program := "yteoccoklbmjiaaa", sum := "c5512a751cb7ad433d3ec62986e122f549dfa36744b5d89bdef6ae594ba8b5c5", func := "blazon/blazonlaw08.ExprParses", spec := "exprParses", inPlace := ["internal/bytealg.IndexByteString"], unfollowed := true, recurses := true, apart := false, narrowed := true }
def ExprParsesUptoSaid : Prop := exprParsesUptoRow.holds Try.pinned (OpenSpec.upto exprParsesSpec)

/-- 'blazonlaw08.ExprBrackets', WHERE WHAT IT READS IS OF BULK AT MOST 1048576: true; the input reads as it did. -/
def exprBracketsUptoRow : OpenClaim := { program := "yteoccoklbmjiaaa", sum := "c5512a751cb7ad433d3ec62986e122f549dfa36744b5d89bdef6ae594ba8b5c5", func := "blazon/blazonlaw08.ExprBrackets", spec := "exprBrackets", inPlace := ["internal/bytealg.IndexByteString"], unfollowed := true, recurses := true, apart := false, narrowed := true }
def ExprBracketsUptoSaid : Prop := exprBracketsUptoRow.holds Try.pinned (OpenSpec.upto exprBracketsSpec)

/-- 'blazonlaw08.ExprLater', WHERE WHAT IT READS IS OF BULK AT MOST 1048576: true; the input reads as it did. -/
def exprLaterUptoRow : OpenClaim := { program := "yteoccoklbmjiaaa", sum := "c5512a751cb7ad433d3ec62986e122f549dfa36744b5d89bdef6ae594ba8b5c5", func := "blazon/blazonlaw08.ExprLater", spec := "exprLater", inPlace := ["internal/bytealg.IndexByteString"], unfollowed := true, recurses := true, apart := false, narrowed := true }
def ExprLaterUptoSaid : Prop := exprLaterUptoRow.holds Try.pinned (OpenSpec.upto exprLaterSpec)

/-- 'blazonlaw08.ExprGoes', WHERE WHAT IT READS IS OF BULK AT MOST 1048576: true; the input reads as it did. -/
def exprGoesUptoRow : OpenClaim := { program := "yteoccoklbmjiaaa", sum := "c5512a751cb7ad433d3ec62986e122f549dfa36744b5d89bdef6ae594ba8b5c5", func := "blazon/blazonlaw08.ExprGoes", spec := "exprGoes", inPlace := ["internal/bytealg.IndexByteString"], unfollowed := true, recurses := true, apart := false, narrowed := true }
def ExprGoesUptoSaid : Prop := exprGoesUptoRow.holds Try.pinned (OpenSpec.upto exprGoesSpec)

/-- 'blazonlaw08.ExprInside', WHERE WHAT IT READS IS OF BULK AT MOST 1048576: true; the input reads as it did. -/
def exprInsideUptoRow : OpenClaim := { program := "yteoccoklbmjiaaa", sum := "c5512a751cb7ad433d3ec62986e122f549dfa36744b5d89bdef6ae594ba8b5c5", func := "blazon/blazonlaw08.ExprInside", spec := "exprInside", inPlace := ["internal/bytealg.IndexByteString"], unfollowed := true, recurses := true, apart := false, narrowed := true }
def ExprInsideUptoSaid : Prop := exprInsideUptoRow.holds Try.pinned (OpenSpec.upto exprInsideSpec)

/-- 'blazonlaw09.StmtParses', WHERE WHAT IT READS IS OF BULK AT MOST 1048576: true; the input reads as it did. -/
def stmtParsesUptoRow : OpenClaim := { program := "yteoccoklbmjiaaa", sum := "c5512a751cb7ad433d3ec62986e122f549dfa36744b5d89bdef6ae594ba8b5c5", func := "blazon/blazonlaw09.StmtParses", spec := "stmtParses", inPlace := ["internal/bytealg.IndexByteString"], unfollowed := true, recurses := true, apart := false, narrowed := true }
def StmtParsesUptoSaid : Prop := stmtParsesUptoRow.holds Try.pinned (OpenSpec.upto stmtParsesSpec)

/-- 'blazonlaw09.StmtGoes', WHERE WHAT IT READS IS OF BULK AT MOST 1048576: true; the input reads as it did. -/
def stmtGoesUptoRow : OpenClaim := { program := "yteoccoklbmjiaaa", sum := "c5512a751cb7ad433d3ec62986e122f549dfa36744b5d89bdef6ae594ba8b5c5", func := "blazon/blazonlaw09.StmtGoes", spec := "stmtGoes", inPlace := ["internal/bytealg.IndexByteString"], unfollowed := true, recurses := true, apart := false, narrowed := true }
def StmtGoesUptoSaid : Prop := stmtGoesUptoRow.holds Try.pinned (OpenSpec.upto stmtGoesSpec)

/-- 'blazonlaw09.StmtDeep', WHERE WHAT IT READS IS OF BULK AT MOST 1048576: true; the input reads as it did. -/
def stmtDeepUptoRow : OpenClaim := { program := "yteoccoklbmjiaaa", sum := "c5512a751cb7ad433d3ec62986e122f549dfa36744b5d89bdef6ae594ba8b5c5", func := "blazon/blazonlaw09.StmtDeep", spec := "stmtDeep", inPlace := ["internal/bytealg.IndexByteString"], unfollowed := true, recurses := true, apart := false, narrowed := true }
def StmtDeepUptoSaid : Prop := stmtDeepUptoRow.holds Try.pinned (OpenSpec.upto stmtDeepSpec)

/-- 'blazonlaw09.StmtNil', WHERE WHAT IT READS IS OF BULK AT MOST 1048576: true; the input reads as it did. -/
def stmtNilUptoRow : OpenClaim := { program := "yteoccoklbmjiaaa", sum := "c5512a751cb7ad433d3ec62986e122f549dfa36744b5d89bdef6ae594ba8b5c5", func := "blazon/blazonlaw09.StmtNil", spec := "stmtNil", inPlace := ["internal/bytealg.IndexByteString"], unfollowed := true, recurses := true, apart := false, narrowed := true }
def StmtNilUptoSaid : Prop := stmtNilUptoRow.holds Try.pinned (OpenSpec.upto stmtNilSpec)

end Rows
end Go.Proofs.Yteoccoklbmjiaaa
