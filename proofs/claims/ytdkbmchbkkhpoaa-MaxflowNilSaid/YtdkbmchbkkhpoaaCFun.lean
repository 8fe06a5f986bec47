/- Words of this work: function values that lead to a struct, as a kind; calls of them. -/
import Derived.Test.YtdkbmchbkkhpoaaCMap
import Derived.Test.YtdkbmchbkkhpoaaCSync
set_option linter.unusedVariables false
set_option linter.unusedSimpArgs false
namespace Go.Proofs.YtdkbmchbkkhpoaaW.PrintWords
open Go.RowKit Go.Proofs.YtdkbmchbkkhpoaaW.PrintLast Go.Proofs.YtdkbmchbkkhpoaaW.PrintMore
namespace Kd
/-- A function value that holds one pointer, to a struct that is only read; or none. -/
def fpK {α : Type} (n T : Nat) (d : Kd α) (w : World) : Option α → List Value → Prop
  | none, cs => cs = [.nilFunc]
  | some a, cs => ∃ v, cs = [.func (.func n) #[] #[v]] ∧ ptrK T d w (some a) [v]
def fp {α : Type} (n T : Nat) (d : Kd α) : Kd (Option α) where
  sz := 1
  E := []
  K := fpK n T d
  M := fun _ _ _ _ _ => False
  K_len := by
    intro w x cs h
    cases x with
    | none => rw [show cs = _ from h]; rfl
    | some a => obtain ⟨g, rfl, _⟩ := h; rfl
  K_one := by
    intro w x cs h u hu
    cases x with
    | none => rw [show cs = _ from h] at hu; rw [List.mem_singleton.1 hu]; rfl
    | some a => obtain ⟨g, rfl, _⟩ := h; rw [List.mem_singleton.1 hu]; rfl
  K_below := by
    intro w w1 x cs hb h
    cases x with
    | none => exact h
    | some a => obtain ⟨g, rfl, h1⟩ := h; exact ⟨g, rfl, (ptr T d).K_below (x := some a) (cs := [g]) hb h1⟩
  K_of_M := fun h => h.elim
  M_mono := fun _ h => h
  M_bound := fun h => h.elim
  M_move := fun _ h => h
  M_lower := fun _ h => h
theorem heap_fp {α : Type} (n T : Nat) {d : Kd α} (hd : Heap d) : Heap (fp n T d) := ⟨by
  intro w w1 x cs hb h
  cases x with
  | none => exact h
  | some a =>
    obtain ⟨g, rfl, h1⟩ := h
    exact ⟨g, rfl, (heap_ptr T hd).K (x := some a) (cs := [g]) hb h1⟩⟩
section
variable {α : Type} {a : Kd α} {W : World} {ok : Nat → Prop} {cs : List Value}
theorem fp_openF {n T : Nat} {x : Option α} (h : FK (fp n T a) W ok x cs) : ∃ v, cs = [v] ∧ FK (fp n T a) W ok x [v] := by
  have hl := (fp n T a).K_len (FK_now h)
  match cs, hl with
  | [v], _ => exact ⟨v, rfl, h⟩
end
end Kd
section
variable {α : Type} {d : Kd α} {C : Nat → Nat} {n t : Nat} {Z : List Nat} {W : World}
theorem fp_mk {a : α} {v : Value} (h : Ft C Z W (fun w_ => (Kd.ptr t d).K w_ (some a) [v])) : Ft C Z W (fun w_ => (Kd.fp n t d).K w_ (some a) [.func (.func n) #[] #[v]]) := fun W' hW => ⟨v, rfl, h W' hW⟩
theorem fp_nil (C : Nat → Nat) (Z : List Nat) (W : World) (n T : Nat) (d : Kd α) : Ft C Z W (fun w_ => (Kd.fp n T d).K w_ none [.nilFunc]) := fun _ _ => rfl
theorem fp_some {v : Value} {a : α} (h : Ft C Z W (fun w_ => (Kd.fp n t d).K w_ (some a) [v])) : ∃ v', v = .func (.func n) #[] #[v'] ∧ Ft C Z W (fun w_ => (Kd.ptr t d).K w_ (some a) [v']) := by
  obtain ⟨v', he, h1⟩ := Ft.now h
  have he' : v = .func (.func n) #[] #[v'] := by simpa using he
  subst he'
  refine ⟨v', rfl, fun W' hW => ?_⟩
  obtain ⟨v2, he2, h2⟩ := h W' hW
  have : v2 = v' := by simp at he2; exact he2.symm
  rw [this] at h2
  exact h2
end
theorem fp_some' {α : Type} {d : Kd α} {C : Nat → Nat} {n t : Nat} {Z : List Nat} {W : World} {v : Value} {x : Option α} {a : α} (e : x = some a) (h : Ft C Z W (fun w_ => (Kd.fp n t d).K w_ x [v])) : ∃ v', v = .func (.func n) #[] #[v'] ∧ Ft C Z W (fun w_ => (Kd.ptr t d).K w_ (some a) [v']) := by
  subst e; exact fp_some h
theorem onOpt_some {α β : Type} {x : Option α} {f : α → Option β} {r : β} (h : onOpt x none f = some r) : ∃ a, x = some a ∧ f a = some r := by
  cases x with
  | none => cases h
  | some a => exact ⟨a, rfl, h⟩
theorem field_at3 {P : Program} {W : World} {t : TypeId} {fs : Array Field} {f : Field} {a : Addr} {j o o' : Nat} (ht : P.underlying t = some (.struct fs)) (hf : fs[j]? = some f) (ho : f.offset = o') (hi : ((P.info? f.type).map fun i => decide (i.size ≠ 0)) = some true) : (Instr.fieldAt t (.pointer (some (a.add o))) j).run P W = .ok (.pointer (some (a.add (o + o')))) W := by
  rw [← add_add]; exact field_at2 ht hf ho hi
end Go.Proofs.YtdkbmchbkkhpoaaW.PrintWords
