-- PRINTED WORDS (module Derived/Print/More.lean): go-gate-2's additions: an AI agent of Go's test side, Tue Nov 17 2026; no person has read it. Lean checks it.
import Derived.Test.YtnhcpdepjpfcfaaWWords
import Derived.Test.YtnhcpdepjpfcfaaWLast
import Derived.Test.YtnhcpdepjpfcfaaWQPut
import Derived.Test.YtnhcpdepjpfcfaaWApart
import Derived.Test.YtnhcpdepjpfcfaaWZeros
import Derived.Test.YtnhcpdepjpfcfaaWFoot
import Derived.Test.YtnhcpdepjpfcfaaWKept
import Derived.Test.YtnhcpdepjpfcfaaWNEv
namespace Go.Proofs.YtnhcpdepjpfcfaaW.PrintMore
open Go.RowKit Go.Proofs.YtnhcpdepjpfcfaaW.PrintWords
namespace Kd
open Go.Proofs.YtnhcpdepjpfcfaaW.PrintWords.Kd
end Kd
namespace Kd
open Go.Proofs.YtnhcpdepjpfcfaaW.PrintWords.Kd
section
variable {α : Type} {d : Kd α} {e base g N : Nat} {ok : Nat → Prop} {W w1 : World} {u v : Value} {xs : List α}
end
end Kd
end Go.Proofs.YtnhcpdepjpfcfaaW.PrintMore
namespace Go.Proofs.YtnhcpdepjpfcfaaW.PrintWords
open Go.RowKit
section
variable {P : Program} {ops : Array Oper} {rest : List Oper} {o : Oper} {a : Act} {Q : Exit → Act → World → Prop} {W : World}
end
/-- The smaller of two whole numbers, as Go's min tells it. -/
def mn (a b : Int) : Int := if b < a then b else a
namespace Kd
section
variable {α : Type} {d : Kd α} {e base : Nat} {ok : Nat → Prop} {W w1 : World} {v : Value} {xs : List α}
end
section
variable {α : Type} {d : Kd α} {e base g n cap : Nat} {ok oki okp : Nat → Prop} {W : World} {xs : List α} {i : Int} {c : List Value}
end
section
variable {α : Type} {d : Kd α} {e base b b' g N : Nat} {ok ok1 : Nat → Prop} {W W2 w1 : World} {u v : Value} {xs ys : List α} {S : Nat → Prop}
end
end Kd
end Go.Proofs.YtnhcpdepjpfcfaaW.PrintWords
namespace Go.Proofs.YtnhcpdepjpfcfaaW.PrintWords
open Go.RowKit
namespace Kd
section
variable {α β : Type} {d : Kd α} {e base base' n m c g N' lo hi : Nat} {ok ok' S : Nat → Prop} {w W w1 : World} {A : Option Addr} {ad : Addr} {u v v1 : Value} {xs : List α}
end
end Kd
end Go.Proofs.YtnhcpdepjpfcfaaW.PrintWords
