import Derived.Test.YtdkbmchbkkhpoaaCMap
set_option linter.unusedVariables false
set_option linter.unusedSimpArgs false
namespace Go.Proofs.YtdkbmchbkkhpoaaW.PrintWords
open Go.RowKit Go.Proofs.YtdkbmchbkkhpoaaW.PrintLast Go.Proofs.YtdkbmchbkkhpoaaW.PrintMore
theorem iF {P : Program} {W : World} {t : TypeId} {fs : Array Field} {f : Field} {g o o' : Nat} {j : Nat} (ht : P.underlying t = some (.struct fs)) (hf : fs[j]? = some f) (ho : o + f.offset = o') (hi : ((P.info? f.type).map fun i => decide (i.size ≠ 0)) = some true) : (Instr.fieldAt t (.pointer (some ⟨g, o, none⟩)) j).run P W = .ok (.pointer (some ⟨g, o', none⟩)) W := by
  have := kX (P := P) (W := W) (a := ⟨g, o, none⟩) ht hf rfl hi
  rw [pX] at this
  rw [this, ho]
theorem jZ {P : Program} {W : World} {t e : TypeId} {n : Nat} (ht : P.underlying t = some (.array n e)) {sz : Nat} (hi : (P.info? e).map (·.size) = some sz) {k : IntKind} {g o : Nat} {j : Int} (h0 : 0 ≤ j) (h1 : j < (n : Int)) {m : Nat} (hm : o + j.toNat * sz = m) :
    (Instr.indexAt t (.pointer (some ⟨g, o, none⟩)) (.int k j)).run P W = .ok (.pointer (some ⟨g, m, none⟩)) W := by
  subst hm
  obtain ⟨i, hi0, hsz⟩ := Option.map_eq_some_iff.mp hi
  have e1 := pX g o (j.toNat * sz)
  simp [Instr.indexAt, asIntOf, run_underlying ht, Instr.sureAddr, h0, h1, sizeOf, typeInfo, hi0, hsz, Result.andThen, e1]
theorem y8 {pre post L : List Value} {v : Value} {o : Nat} (hL : L = pre ++ (v :: post)) (ho : pre.length = o) : L[o]? = some v := by
  subst hL; subst ho
  rw [List.getElem?_append_right (Nat.le_refl _), Nat.sub_self]
  rfl
theorem Cm {pre post L : List Value} {v u : Value} {o : Nat} (hL : L = pre ++ (v :: post)) (ho : pre.length = o) : CG L o [u] = pre ++ (u :: post) := by
  subst hL; subst ho
  rw [CG, CG, List.set_append_right _ _ (Nat.le_refl _), Nat.sub_self]
  rfl
section
variable {α : Type} {P : Program} {ops : Array Oper} {rest : List Oper} {o : Oper} {l : List Value} {ds : List Deferred} {Q : Exit → Act → World → Prop} {Kc : Act → World → Prop} {W : World} {C : Nat → Nat} {enc : α → Value}
end
end Go.Proofs.YtdkbmchbkkhpoaaW.PrintWords
