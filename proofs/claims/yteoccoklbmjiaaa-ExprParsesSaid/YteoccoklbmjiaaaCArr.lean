import Derived.Test.YteoccoklbmjiaaaCMap
set_option linter.unusedVariables false
set_option linter.unusedSimpArgs false
namespace Go.Proofs.YteoccoklbmjiaaaW.PrintWords
open Go.RowKit Go.Proofs.YteoccoklbmjiaaaW.PrintLast Go.Proofs.YteoccoklbmjiaaaW.PrintMore
theorem rJ {P : Program} {W : World} {t : TypeId} {fs : Array Field} {f : Field} {g o o' : Nat} {j : Nat} (ht : P.underlying t = some (.struct fs)) (hf : fs[j]? = some f) (ho : o + f.offset = o') (hi : ((P.info? f.type).map fun i => decide (i.size ≠ 0)) = some true) : (Instr.fieldAt t (.pointer (some ⟨g, o, none⟩)) j).run P W = .ok (.pointer (some ⟨g, o', none⟩)) W := by
  have := uP (P := P) (W := W) (a := ⟨g, o, none⟩) ht hf rfl hi
  rw [Bf] at this
  rw [this, ho]
section
variable {α : Type} {P : Program} {ops : Array Oper} {rest : List Oper} {o : Oper} {l : List Value} {ds : List Deferred} {Q : Exit → Act → World → Prop} {Kc : Act → World → Prop} {W : World} {C : Nat → Nat} {enc : α → Value}
end
theorem DW {P : Program} {W : World} {t : TypeId} (ht : P.underlying t = some .string) {s : ByteArray} {kl kh : IntKind} {l h : Int} (h0 : 0 ≤ l) (h1 : l ≤ h) (h2 : h ≤ (s.size : Int)) :
    (Instr.sliceAt t (.string s) (some (.int kl l)) (some (.int kh h)) none).run P W = .ok (.string (s.extract l.toNat h.toNat)) W := by
  have eh : (h.toNat : Int) = h := Int.toNat_of_nonneg (by omega)
  simp [run_sliceAt_string _ _ _ _ _ _ ht, Instr.slice, run_underlying ht, Instr.sliceBounds, run_sliceBound, h0, h1, h2, eh, (by omega : 0 ≤ h), Result.andThen]
theorem EH {P : Program} {W : World} {t : TypeId} (ht : P.underlying t = some .string) {s : ByteArray} {kh : IntKind} {h : Int} (h0 : 0 ≤ h) (h2 : h ≤ (s.size : Int)) :
    (Instr.sliceAt t (.string s) none (some (.int kh h)) none).run P W = .ok (.string (s.extract 0 h.toNat)) W := by
  simp [run_sliceAt_string _ _ _ _ _ _ ht, Instr.slice, run_underlying ht, Instr.sliceBounds, run_sliceBound, h0, h2, Result.andThen]
theorem EI {P : Program} {W : World} {t : TypeId} (ht : P.underlying t = some .string) {s : ByteArray} {kl : IntKind} {l : Int} (h0 : 0 ≤ l) (h2 : l ≤ (s.size : Int)) :
    (Instr.sliceAt t (.string s) (some (.int kl l)) none none).run P W = .ok (.string (s.extract l.toNat s.size)) W := by
  simp [run_sliceAt_string _ _ _ _ _ _ ht, Instr.slice, run_underlying ht, Instr.sliceBounds, run_sliceBound, h0, h2, Result.andThen]
end Go.Proofs.YteoccoklbmjiaaaW.PrintWords
