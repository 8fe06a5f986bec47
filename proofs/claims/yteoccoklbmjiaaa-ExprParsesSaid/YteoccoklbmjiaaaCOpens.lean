import Derived.Test.YteoccoklbmjiaaaCWords
import Derived.OpenShut
import Derived.SizedLaws
set_option linter.unusedVariables false
set_option linter.unusedSimpArgs false
namespace Go.Proofs.YteoccoklbmjiaaaW.PrintWords
open Go.RowKit Go.Proofs.YteoccoklbmjiaaaW.PrintLast Go.Proofs.YteoccoklbmjiaaaW.PrintMore
def J5 {H : Type} (P : Program) (t : TypeId) (D : DataW H) : Prop := ∀ n ∈ D.weights P t, n ≤ 140737488351232
structure Cj {α : Type} (P : Program) (M : Nat) (t : TypeId) (d : Kd α) (Ok : α → Prop) : Prop where
  out : ∀ {H : Type} {enc : TypeId × Value → H} {w : World} {base : Nat} {spare : Nat → Bool} {held : Bool} {m : Nat} {cs : List Value} {x : DataW H × List MemPlace}, m ≤ M → DataW.trod enc P w base spare held m t cs = some x → J5 P t x.1 → ∃ y, d.K w y cs ∧ Ok y
structure JG {α : Type} (P : Program) (M : Nat) (fs : List Field) (o : Nat) (d : Kd α) (Ok : α → Prop) : Prop where
  out : ∀ {H : Type} {enc : TypeId × Value → H} {w : World} {base : Nat} {spare : Nat → Bool} {held : Bool} {m : Nat} {cs : List Value} {xs : List (DataW H × List MemPlace)}, m ≤ M →
    (∀ (i : Nat) (f : Field), fs[i]? = some f → DataW.trod enc P w base spare held m f.type ((cs.drop f.offset).take (P.cellsOf f.type)) = xs[i]?) → xs.length = fs.length → (∀ n ∈ DataW.weightsEach P (fs.map (fun f => f.type)) (xs.map (·.1)), n ≤ 140737488351232) → cs.length = o + d.sz →
    ∃ y, d.K w y (cs.drop o) ∧ Ok y
section
variable {α β : Type} {P : Program} {M : Nat} {t e : TypeId} {d : Kd α} {d' : Kd β} {Ok : α → Prop} {Ok' : β → Prop}
theorem Cj.imp (h : Cj P M t d Ok) {Ok2 : α → Prop} (hi : ∀ x, Ok x → Ok2 x) : Cj P M t d Ok2 := ⟨fun hm ht hw => by
  obtain ⟨y, h1, h2⟩ := h.out hm ht hw
  exact ⟨y, h1, hi y h2⟩⟩
end
end Go.Proofs.YteoccoklbmjiaaaW.PrintWords
