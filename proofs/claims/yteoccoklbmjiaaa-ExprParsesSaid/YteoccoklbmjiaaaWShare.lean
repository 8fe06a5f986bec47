import Derived.Test.YteoccoklbmjiaaaWKept
namespace Go.Proofs.YteoccoklbmjiaaaW.PrintWords
open Go.RowKit
def xY (P : World → Prop) (W : World) (ok : Nat → Prop) : Prop := ∀ W' : World, (∀ k, ok k → k < W.heap.size → W'.heap[k]? = W.heap[k]?) → P W'
theorem He {W W1 : World} {k : Nat} (h : W1.heap[k]? = W.heap[k]?) (hlt : k < W.heap.size) : k < W1.heap.size := by
  rw [Array.getElem?_eq_getElem hlt] at h
  exact (Array.getElem?_eq_some_iff.1 h).1
namespace xY
variable {P Q : World → Prop} {W W1 : World} {ok ok' : Nat → Prop}
theorem now (h : xY P W ok) : P W := h W (fun _ _ _ => rfl)
theorem mono (h : xY P W ok) (hok : ∀ k, ok k → ok' k) : xY P W ok' := fun W' hW => h W' (fun k hk hlt => hW k (hok k hk) hlt)
theorem bound (h : xY P W ok) : xY P W (fun k => ok k ∧ k < W.heap.size) := fun W' hW => h W' (fun k hk hlt => hW k ⟨hk, hlt⟩ hlt)
theorem step (h : xY P W ok) (hm : ∀ k, ok k → k < W.heap.size → W1.heap[k]? = W.heap[k]?) : xY P W1 ok := fun W' hW => h W' (fun k hk hlt => (hW k hk (He (hm k hk hlt) hlt)).trans (hm k hk hlt))
theorem imp (h : xY P W ok) (hi : ∀ W', P W' → Q W') : xY Q W ok := fun W' hW => hi W' (h W' hW)
end xY
namespace Kd
def F {α : Type} (d : Kd α) (W : World) (ok : Nat → Prop) (A : Option Addr) (n : Nat) (xs : List α) : Prop := xY (fun W => d.C W A n xs) W ok
def FK {α : Type} (d : Kd α) (W : World) (ok : Nat → Prop) (x : α) (c : List Value) : Prop := xY (fun W => d.K W x c) W ok
section
variable {α β : Type} {d : Kd α} {e base n n' cc g N : Nat} {ok ok' okp S : Nat → Prop} {w w0 w1 W W1 : World} {A A' : Option Addr} {u v v1 : Value} {xs : List α} {xs' : List β} {d' : Kd β} {x : α} {c : List Value}
theorem IQ (h : F d W ok A n xs) : d.C W A n xs := xY.now h
theorem vU (h : F d W ok A n xs) (hok : ∀ k, ok k → ok' k) : F d W ok' A n xs := xY.mono h hok
theorem Hf (h : F d W ok A n xs) (hi : ∀ W', d.C W' A n xs → d'.C W' A' n' xs') : F d' W ok A' n' xs' := xY.imp h hi
theorem sW (d : Kd α) (W : World) (ok : Nat → Prop) : F d W ok none ([] : List α).length [] := fun W' _ => Jv d W'
theorem C_F (hd : Heap d) (h : d.C w A n xs) : F d w (fun k => k < w.heap.size) A n xs := fun _ hW => hd.C (fun k hlt => hW k hlt hlt) h
theorem yx (h : FK d W ok x c) : d.K W x c := xY.now h
theorem y8 (h : FK d W ok x c) (hok : ∀ k, ok k → ok' k) : FK d W ok' x c := xY.mono h hok
theorem zu (h : FK d W ok x c) : FK d W (fun k => ok k ∧ k < W.heap.size) x c := xY.bound h
theorem zJ (h : FK d W ok x c) (hm : ∀ k, ok k → k < W.heap.size → W1.heap[k]? = W.heap[k]?) : FK d W1 ok x c := xY.step h hm
theorem Hg (h : d.M W base ok x c) : FK d W ok x c := fun _ hW => d.K_of_M (Gg h hW)
theorem emptied (W : World) (g : Nat) : ∃ W' : World, (∀ k, k ≠ g → W'.heap[k]? = W.heap[k]?) ∧ ∀ a : Addr, a.block = g → W'.cell? a = none := by
  refine ⟨{ W with heap := W.heap.setIfInBounds g (.cells #[] 0) }, fun k hk => by simp [Ne.symm hk], fun a ha => ?_⟩
  subst ha
  by_cases hlt : a.block < W.heap.size
  · simp [World.cell?, hlt]
  · simp [World.cell?, hlt]
end
end Kd
end Go.Proofs.YteoccoklbmjiaaaW.PrintWords
