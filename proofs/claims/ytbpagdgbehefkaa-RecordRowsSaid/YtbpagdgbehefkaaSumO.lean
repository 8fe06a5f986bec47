/- A Summer as an object of cprint: what its block holds hangs on that block alone. -/
import Derived.Test.YtbpagdgbehefkaaState
import Derived.Test.YtbpagdgbehefkaaCWalk
set_option linter.unusedVariables false
set_option linter.unusedSimpArgs false
namespace Go.Proofs.Ytbpagdgbehefkaa.Crc
open Go.RowKit Go.Proofs.YtbpagdgbehefkaaW.PrintWords Go.Proofs.YtbpagdgbehefkaaW.PrintLast Go.Proofs.YtbpagdgbehefkaaW.PrintMore
/-- A Summer of so many calls, or none. -/
def SumO (w : World) (v : Value) (x : Option Int) : Prop :=
  match x with
  | none => v = .pointer none
  | some n => ∃ g cs, v = .pointer (some ⟨g, 0, none⟩) ∧ w.heap[g]? = some (.cells cs 97 (0, 0)) ∧ Inv97 cs n
theorem SumO.nil (C : Nat → Nat) (Z : List Nat) (W : World) : Ft C Z W (fun w => SumO w (.pointer none) none) := fun _ _ => rfl
theorem SumO.ft {C : Nat → Nat} {z : Nat} {w : World} {g : Nat} {cs : Array Value} {n : Int} (hb : w.heap[g]? = some (.cells cs 97 (0, 0))) (hv : Inv97 cs n) (hC : C g = z) : Ft C [z] w (fun w => SumO w (.pointer (some ⟨g, 0, none⟩)) (some n)) :=
  fun W' hW => ⟨g, cs, rfl, (hW g (by simp [hC]) (blk_lt hb)).trans hb, hv⟩
theorem SumO.open {C : Nat → Nat} {Z : List Nat} {w : World} {v : Value} {n : Int} (h : Ft C Z w (fun w => SumO w v (some n))) : ∃ g cs, v = .pointer (some ⟨g, 0, none⟩) ∧ w.heap[g]? = some (.cells cs 97 (0, 0)) ∧ Inv97 cs n ∧ C g ∈ Z := by
  obtain ⟨g, cs, rfl, hb, hv⟩ := h.now
  refine ⟨g, cs, rfl, hb, hv, ?_⟩
  by_cases hz : C g ∈ Z
  · exact hz
  · exfalso
    have hlt := blk_lt hb
    obtain ⟨g', cs', e, hb', _⟩ := h { w with heap := w.heap.set g (.cells #[] 0 (0, 0)) hlt } (fun k hk hkl => by
      have : g ≠ k := fun e => hz (e ▸ hk)
      simp [Array.getElem?_set, this])
    injection e with e
    injection e with e
    injection e with e
    subst e
    simp at hb'
theorem Step.only {c : Nat → Nat} {w w' : World} {g : Nat} (h : Only g w w') {i : Nat} (hi : c g = i) : Step c w c w' [i] :=
  ⟨h.os, h.tape, h.output, Nat.le_of_eq h.size.symm, fun _ _ => rfl, fun k _ hn => h.block k (fun e => hn (by rw [e, hi]; simp))⟩
/-- A row that is only read, behind a call of a Summer. -/
theorem read_only {c : Nat → Nat} {w : World} {g i : Nat} (hg : c g = i) (hi : i ≠ 0) {P : World → Prop} (h : Ft c [0] w P) (w' : World) (ho : Only g w w') : P w' :=
  h w' (fun k hk _ => ho.block k (fun e => by subst e; simp at hk; omega))
end Go.Proofs.Ytbpagdgbehefkaa.Crc
