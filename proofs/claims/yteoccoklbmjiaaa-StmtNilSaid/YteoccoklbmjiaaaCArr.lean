/- Words of this work: arrays of scalars in a struct of one's own. -/
import Derived.Test.YteoccoklbmjiaaaCMap
set_option linter.unusedVariables false
set_option linter.unusedSimpArgs false
namespace Go.Proofs.YteoccoklbmjiaaaW.PrintWords
open Go.RowKit Go.Proofs.YteoccoklbmjiaaaW.PrintLast Go.Proofs.YteoccoklbmjiaaaW.PrintMore
theorem bx_field2 {P : Program} {W : World} {t : TypeId} {fs : Array Field} {f : Field} {g o o' : Nat} {j : Nat} (ht : P.underlying t = some (.struct fs)) (hf : fs[j]? = some f) (ho : o + f.offset = o') (hi : ((P.info? f.type).map fun i => decide (i.size ≠ 0)) = some true) : (Instr.fieldAt t (.pointer (some ⟨g, o, none⟩)) j).run P W = .ok (.pointer (some ⟨g, o', none⟩)) W := by
  have := field_at2 (P := P) (W := W) (a := ⟨g, o, none⟩) ht hf rfl hi
  rw [add_base2] at this
  rw [this, ho]
section
variable {α : Type} {P : Program} {ops : Array Oper} {rest : List Oper} {o : Oper} {l : List Value} {ds : List Deferred} {Q : Exit → Act → World → Prop} {Kc : Act → World → Prop} {W : World} {C : Nat → Nat} {enc : α → Value}
end
end Go.Proofs.YteoccoklbmjiaaaW.PrintWords
