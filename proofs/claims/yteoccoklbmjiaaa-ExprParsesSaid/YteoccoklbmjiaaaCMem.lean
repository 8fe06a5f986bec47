import Derived.Test.YteoccoklbmjiaaaCBox
set_option linter.unusedVariables false
set_option linter.unusedSimpArgs false
namespace Go.Proofs.YteoccoklbmjiaaaW.PrintWords
open Go.RowKit Go.Proofs.YteoccoklbmjiaaaW.PrintLast Go.Proofs.YteoccoklbmjiaaaW.PrintMore
theorem Ft.elem {α : Type} {dk : Kd α} {C : Nat → Nat} {Z : List Nat} {W : World} {ad : Addr} {A : Option Addr} {n : Nat} {xs : List α} (h : Ft C Z W (fun w => dk.C w A n xs)) (hA : A = some ad) (z : α) (i : Int) (h0 : 0 ≤ i) (h1 : i < n) (hs : 0 < dk.sz) :
    ∃ cs, cs.length = dk.sz ∧ Kd.FK dk W (fun k => C k ∈ Z) (xs.getD i.toNat z) cs ∧ (∀ j u, cs[j]? = some u → W.cell? ((ad.add (i.toNat * dk.sz)).add j) = some u) ∧ C ad.block ∈ Z := by
  obtain ⟨ad', c, he, h2, h3, h4, h5⟩ := Kd.IU h z i h0 h1
  rw [hA] at he
  injection he with he
  subst he
  exact ⟨c, h2, h3, fun j u hu => by rw [add_add]; exact h4 j u hu, h5 hs⟩
theorem Ft.same (C : Nat → Nat) (Z : List Nat) (W : World) : Ft C Z W (fun w_ => ∀ k, C k ∈ Z → k < W.heap.size → w_.heap[k]? = W.heap[k]?) := fun W' hW k hk hlt => hW k hk hlt
theorem BD {C : Nat → Nat} {Z : List Nat} {W w' : World} {ad a : Addr} {v : Value} (hS : ∀ k, C k ∈ Z → k < W.heap.size → w'.heap[k]? = W.heap[k]?) (hin : C ad.block ∈ Z) (ha : a.block = ad.block) (h : W.cell? a = some v) : w'.cell? a = some v := by
  have h6 := World.block_lt_of_cell? W _ h
  have hb := hS a.block (by rw [ha]; exact hin) h6
  simp [World.cell?, hb] at h ⊢
  exact h
theorem Ag (ad : Addr) (i j : Nat) : ((ad.add i).add j).block = ad.block := by rw [add_add, add_block]
theorem uP {P : Program} {W : World} {t : TypeId} {fs : Array Field} {f : Field} {a : Addr} {j o' : Nat} (ht : P.underlying t = some (.struct fs)) (hf : fs[j]? = some f) (ho : f.offset = o') (hi : ((P.info? f.type).map fun i => decide (i.size ≠ 0)) = some true) : (Instr.fieldAt t (.pointer (some a)) j).run P W = .ok (.pointer (some (a.add o'))) W := by
  subst ho
  cases h : P.info? f.type with
  | none => rw [h] at hi; cases hi
  | some i =>
    rw [h] at hi
    exact Fe ht hf h (by simpa using hi)
end Go.Proofs.YteoccoklbmjiaaaW.PrintWords
