import Derived.Test.YteoccoklbmjiaaaWWords
import Derived.Test.YteoccoklbmjiaaaWLast
import Derived.Test.YteoccoklbmjiaaaWQPut
import Derived.Test.YteoccoklbmjiaaaWApart
import Derived.Test.YteoccoklbmjiaaaWZeros
import Derived.Test.YteoccoklbmjiaaaWFoot
import Derived.Test.YteoccoklbmjiaaaWKept
import Derived.Test.YteoccoklbmjiaaaWNEv
namespace Go.Proofs.YteoccoklbmjiaaaW.PrintMore
open Go.RowKit Go.Proofs.YteoccoklbmjiaaaW.PrintWords
namespace Kd
open Go.Proofs.YteoccoklbmjiaaaW.PrintWords.Kd
end Kd
namespace Kd
open Go.Proofs.YteoccoklbmjiaaaW.PrintWords.Kd
section
variable {α : Type} {d : Kd α} {e base g N : Nat} {ok : Nat → Prop} {W w1 : World} {u v : Value} {xs : List α}
end
end Kd
end Go.Proofs.YteoccoklbmjiaaaW.PrintMore
namespace Go.Proofs.YteoccoklbmjiaaaW.PrintWords
open Go.RowKit
section
variable {P : Program} {ops : Array Oper} {rest : List Oper} {o : Oper} {a : Act} {Q : Exit → Act → World → Prop} {W : World}
end
def mx (a b : Int) : Int := if a < b then b else a
def mn (a b : Int) : Int := if b < a then b else a
namespace Kd
section
variable {α : Type} {d : Kd α} {e base : Nat} {ok : Nat → Prop} {W w1 : World} {v : Value} {xs : List α}
end
section
variable {α : Type} {d : Kd α} {e base g n cap : Nat} {ok oki okp : Nat → Prop} {W : World} {xs : List α} {i : Int} {c : List Value}
end
section
variable {α : Type} {d : Kd α} {e base b b' g N : Nat} {ok ok1 : Nat → Prop} {W W2 w1 : World} {u v : Value} {xs ys : List α} {S : Nat → Prop}
end
end Kd
end Go.Proofs.YteoccoklbmjiaaaW.PrintWords
namespace Go.Proofs.YteoccoklbmjiaaaW.PrintWords
open Go.RowKit
namespace Kd
def V {α : Type} (d : Kd α) (_e : Nat) (W : World) (_base : Nat) (ok : Nat → Prop) (v : Value) (xs : List α) : Prop := ∃ A c, v = .slice A xs.length c ∧ xs.length ≤ c ∧ F d W ok A xs.length xs
section
variable {α β : Type} {d : Kd α} {e base base' n m c g N' lo hi : Nat} {ok ok' S : Nat → Prop} {w W w1 : World} {A : Option Addr} {ad : Addr} {u v v1 : Value} {xs : List α}
theorem Gn (h : F d W ok A xs.length xs) (hm : m ≤ xs.length) : F d W ok A (xs.take m).length (xs.take m) := Hf h (fun _ hC => Gl hC hm)
theorem JC (h : F d W ok A xs.length xs) (hm : m ≤ xs.length) (hc : xs.length ≤ c) : F d W ok (if c = m then A else A.map (·.add (m * d.sz))) (xs.drop m).length (xs.drop m) := Hf h (fun _ hC => Gm hC hm hc)
theorem JD (h : F d W ok A xs.length xs) (h1 : lo ≤ hi) (h2 : hi ≤ xs.length) (hc : xs.length ≤ c) : F d W ok (if c = lo then A else A.map (·.add (lo * d.sz))) ((xs.take hi).drop lo).length ((xs.take hi).drop lo) := Hf h (fun _ hC => Jz hC h1 h2 hc)
end
end Kd
end Go.Proofs.YteoccoklbmjiaaaW.PrintWords
