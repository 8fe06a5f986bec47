/- A Summer as a state of the printer: what its block holds; the methods' contracts in the printed form. -/
import Derived.Test.YtbpagdgbehefkaaNew
set_option linter.unusedVariables false
set_option linter.unusedSimpArgs false
namespace Go.Proofs.Ytbpagdgbehefkaa.Crc
open Go.RowKit Go.Proofs.YtbpagdgbehefkaaW.PrintWords
/-- A Summer's cells, of so many calls. -/
def Inv97 (cs : Array Value) (n : Int) : Prop := cs[1]? = some (.int .i32 0) ∧ cs[259]? = some (.int .i64 n) ∧
  ((cs[0]? = some (.int .u32 0) ∧ ∀ j, j < 256 → ∃ x, cs[3 + j]? = some (.int .u32 x)) ∨ (cs[0]? = some (.int .u32 1) ∧ ∀ j, j < 256 → cs[3 + j]? = some (.int .u32 (bits 8 j))))
theorem sum_of {w : World} {g : Nat} {cs : Array Value} {n : Int} (hb : w.heap[g]? = some (.cells cs 97 (0, 0))) (hv : Inv97 cs n) : IsSum w g n := by
  obtain ⟨h1, h2, h3⟩ := hv
  refine ⟨blk_lt hb, fun j => blk_frozen hb j, (blk_cell hb 1).trans h1, (blk_cell hb 259).trans h2, ?_⟩
  rcases h3 with ⟨h0, hc⟩ | ⟨h0, hc⟩
  · exact .inl ⟨(blk_cell hb 0).trans h0, fun j hj => by obtain ⟨x, hx⟩ := hc j hj; exact ⟨x, (blk_cell hb _).trans hx⟩⟩
  · exact .inr ⟨(blk_cell hb 0).trans h0, fun j hj => (blk_cell hb _).trans (hc j hj)⟩
theorem inv_of {w : World} {g : Nat} {cs : Array Value} {n : Int} (hb : w.heap[g]? = some (.cells cs 97 (0, 0))) (hs : IsSum w g n) : Inv97 cs n := by
  refine ⟨(blk_cell hb 1).symm.trans hs.state, (blk_cell hb 259).symm.trans hs.calls, ?_⟩
  rcases hs.table with ⟨h0, hc⟩ | ⟨h0, hc⟩
  · exact .inl ⟨(blk_cell hb 0).symm.trans h0, fun j hj => by obtain ⟨x, hx⟩ := hc j hj; exact ⟨x, (blk_cell hb _).symm.trans hx⟩⟩
  · exact .inr ⟨(blk_cell hb 0).symm.trans h0, fun j hj => (blk_cell hb _).symm.trans (hc j hj)⟩
theorem Only.keep {b : Nat} {w w' : World} (h : Only b w w') : KeepBut w w' b none := ⟨Nat.le_of_eq h.size.symm, fun i _ hi _ => h.block i hi⟩
theorem Only.trans {b : Nat} {w w1 w2 : World} (h : Only b w w1) (k : Only b w1 w2) : Only b w w2 :=
  ⟨k.os.trans h.os, k.tape.trans h.tape, k.output.trans h.output, k.size.trans h.size, fun i hi => (k.block i hi).trans (h.block i hi), fun cs hc => by obtain ⟨c1, h1⟩ := h.kept cs hc; exact k.kept c1 h1⟩
end Go.Proofs.Ytbpagdgbehefkaa.Crc
