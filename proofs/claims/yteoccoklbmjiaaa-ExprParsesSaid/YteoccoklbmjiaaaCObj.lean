import Derived.Test.YteoccoklbmjiaaaCMem
import Derived.Maps.Keyed
set_option linter.unusedVariables false
set_option linter.unusedSimpArgs false
namespace Go.Proofs.YteoccoklbmjiaaaW.PrintWords
open Go.RowKit Go.Proofs.YteoccoklbmjiaaaW.PrintLast Go.Proofs.YteoccoklbmjiaaaW.PrintMore
theorem Af {w w1 : World} (hb : Below w.heap.size w w1) {g : Nat} {o : Obj} (h : w.heap[g]? = some o) : w1.heap[g]? = some o := by
  have hlt : g < w.heap.size := (Array.getElem?_eq_some_iff.1 h).1
  exact (hb.block g hlt).trans h
namespace Kd
def J4 {α : Type} (T : Nat) (d : Kd α) (w : World) : Option α → List Value → Prop
  | none, cs => cs = [.pointer none]
  | some a, cs => ∃ g c, cs = [.pointer (some ⟨g, 0, none⟩)] ∧ w.heap[g]? = some (.cells (List.toArray c) T (0, 0)) ∧ d.K w a c
def ptr {α : Type} (T : Nat) (d : Kd α) : Kd (Option α) where
  sz := 1
  E := []
  K := J4 T d
  M := fun _ _ _ _ _ => False
  K_len := by
    intro w x cs h
    cases x with
    | none => rw [show cs = _ from h]; rfl
    | some a => obtain ⟨g, c, rfl, _⟩ := h; rfl
  K_one := by
    intro w x cs h u hu
    cases x with
    | none => rw [show cs = _ from h] at hu; rw [List.mem_singleton.1 hu]; rfl
    | some a => obtain ⟨g, c, rfl, _⟩ := h; rw [List.mem_singleton.1 hu]; rfl
  K_below := by
    intro w w1 x cs hb h
    cases x with
    | none => exact h
    | some a => obtain ⟨g, c, rfl, h1, h2⟩ := h; exact ⟨g, c, rfl, Af hb h1, d.K_below hb h2⟩
  K_of_M := fun h => h.elim
  M_mono := fun _ h => h
  M_bound := fun h => h.elim
  M_move := fun _ h => h
  M_lower := fun _ h => h
def IX {κ ν : Type} (ek : κ → Value) (ev : ν → Value) (w : World) (b : Nat) (l : List (κ × ν)) : Prop :=
  ∃ es clock, w.heap[b]? = some (.map es clock) ∧ es.toList.map (fun e => (e.key, e.val)) = l.map (fun p => (ek p.1, ev p.2))
def mp {κ ν : Type} (ek : κ → Value) (ev : ν → Value) : Kd (List (κ × ν)) where
  sz := 1
  E := []
  K := fun w l cs => (cs = [.map none] ∧ l = []) ∨ ∃ b, cs = [.map (some b)] ∧ IX ek ev w b l
  M := fun _ _ _ _ _ => False
  K_len := by
    rintro w x cs (⟨rfl, _⟩ | ⟨b, rfl, _⟩) <;> rfl
  K_one := by
    rintro w x cs (⟨rfl, _⟩ | ⟨b, rfl, _⟩) u hu <;> (rw [List.mem_singleton.1 hu]; rfl)
  K_below := by
    rintro w w1 x cs hb (⟨rfl, h⟩ | ⟨b, rfl, es, clock, h1, h2⟩)
    · exact .inl ⟨rfl, h⟩
    · exact .inr ⟨b, rfl, es, clock, Af hb h1, h2⟩
  K_of_M := fun h => h.elim
  M_mono := fun _ h => h
  M_bound := fun h => h.elim
  M_move := fun _ h => h
  M_lower := fun _ h => h
section
variable {α β : Type} {a : Kd α} {b : Kd β} {W : World} {ok : Nat → Prop} {cs : List Value}
end
end Kd
theorem mapped (W : World) (g : Nat) (hg : g < W.heap.size) : ∃ W' : World, (∀ k, k ≠ g → W'.heap[k]? = W.heap[k]?) ∧ W'.heap[g]? = some (.map #[] 0) :=
  ⟨{ W with heap := W.heap.setIfInBounds g (.map #[] 0) }, fun k hk => by simp [Ne.symm hk], by simp [hg]⟩
section
variable {α : Type} {d : Kd α} {C c' : Nat → Nat} {z g t : Nat} {Z : List Nat} {W w' : World} {l : List Value} {S : List Nat}
theorem Bx.ft (h : Bx C z W g t l) : Ft C [z] W (fun w_ => w_.heap[g]? = some (.cells l.toArray t (0, 0))) := fun W' hW => (hW g (by simp [h.1]) (Dn h.2)).trans h.2
theorem Bx.recolor (h : Bx C z W g t l) {b : Nat} : Bx (PrintWords.recol C z b) b W g t l := ⟨by unfold PrintWords.recol; rw [if_pos h.1], h.2⟩
theorem uI {a : α} (h : Ft C Z W (fun w_ => w_.heap[g]? = some (.cells l.toArray t (0, 0)))) (hK : Kd.FK d W (fun k => C k ∈ Z) a l) : Ft C Z W (fun w_ => (Kd.ptr t d).K w_ (some a) [.pointer (some ⟨g, 0, none⟩)]) :=
  fun W' hW => ⟨g, l, rfl, h W' hW, hK W' hW⟩
theorem zx {v : Value} (h : Ft C Z W (fun w_ => (Kd.ptr t d).K w_ none [v])) : v = .pointer none := by
  have : [v] = [.pointer none] := Ft.now h
  simpa using this
theorem zy {v : Value} {a : α} (h : Ft C Z W (fun w_ => (Kd.ptr t d).K w_ (some a) [v])) : ∃ g c, v = .pointer (some ⟨g, 0, none⟩) ∧ Ft C Z W (fun w_ => w_.heap[g]? = some (.cells c.toArray t (0, 0))) ∧ Kd.FK d W (fun k => C k ∈ Z) a c := by
  obtain ⟨g, c, he, h1, h2⟩ := Ft.now h
  have he' : v = .pointer (some ⟨g, 0, none⟩) := by simpa using he
  subst he'
  have key : ∀ W', (∀ k, C k ∈ Z → k < W.heap.size → W'.heap[k]? = W.heap[k]?) → W'.heap[g]? = some (.cells c.toArray t (0, 0)) ∧ d.K W' a c := fun W' hW => by
    obtain ⟨g', c', he', h1', h2'⟩ := h W' hW
    simp at he'
    subst he'
    have hin : C g ∈ Z := by
      by_cases hk : C g ∈ Z
      · exact hk
      · obtain ⟨W2, e2, e3⟩ := mapped W g (Array.getElem?_eq_some_iff.1 h1).1
        obtain ⟨g2, c2, he2, h12, _⟩ := h W2 (fun k hk' _ => e2 k (fun e => hk (e ▸ hk')))
        simp at he2
        subst he2
        rw [e3] at h12
        cases h12
    have hb : W'.heap[g]? = W.heap[g]? := hW g hin (Array.getElem?_eq_some_iff.1 h1).1
    rw [hb, h1] at h1'
    simp at h1'
    subst h1'
    exact ⟨hb.trans h1, h2'⟩
  exact ⟨g, c, rfl, fun W' hW => (key W' hW).1, fun W' hW => (key W' hW).2⟩
end
end Go.Proofs.YteoccoklbmjiaaaW.PrintWords
