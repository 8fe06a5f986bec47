import Derived.Test.YtpfepkkpbampkaaDoorWKept
namespace Go.Proofs.YtpfepkkpbampkaaDoorW.PrintWords
open Go.RowKit
def Bv (P : World → Prop) (W : World) (ok : Nat → Prop) : Prop := ∀ W' : World, (∀ k, ok k → k < W.heap.size → W'.heap[k]? = W.heap[k]?) → P W'
theorem Lm {W W1 : World} {k : Nat} (h : W1.heap[k]? = W.heap[k]?) (hlt : k < W.heap.size) : k < W1.heap.size := by
  rw [Array.getElem?_eq_getElem hlt] at h
  exact (Array.getElem?_eq_some_iff.1 h).1
namespace Bv
variable {P Q : World → Prop} {W W1 : World} {ok ok' : Nat → Prop}
theorem now (h : Bv P W ok) : P W := h W (fun _ _ _ => rfl)
theorem mono (h : Bv P W ok) (hok : ∀ k, ok k → ok' k) : Bv P W ok' := fun W' hW => h W' (fun k hk hlt => hW k (hok k hk) hlt)
theorem bound (h : Bv P W ok) : Bv P W (fun k => ok k ∧ k < W.heap.size) := fun W' hW => h W' (fun k hk hlt => hW k ⟨hk, hlt⟩ hlt)
theorem step (h : Bv P W ok) (hm : ∀ k, ok k → k < W.heap.size → W1.heap[k]? = W.heap[k]?) : Bv P W1 ok := fun W' hW => h W' (fun k hk hlt => (hW k hk (Lm (hm k hk hlt) hlt)).trans (hm k hk hlt))
theorem imp (h : Bv P W ok) (hi : ∀ W', P W' → Q W') : Bv Q W ok := fun W' hW => hi W' (h W' hW)
end Bv
namespace Kd
def F {α : Type} (d : Kd α) (W : World) (ok : Nat → Prop) (A : Option Addr) (n : Nat) (xs : List α) : Prop := Bv (fun W => d.C W A n xs) W ok
def FK {α : Type} (d : Kd α) (W : World) (ok : Nat → Prop) (x : α) (c : List Value) : Prop := Bv (fun W => d.K W x c) W ok
section
variable {α β : Type} {d : Kd α} {e base n n' cc g N : Nat} {ok ok' okp S : Nat → Prop} {w w0 w1 W W1 : World} {A A' : Option Addr} {u v v1 : Value} {xs : List α} {xs' : List β} {d' : Kd β} {x : α} {c : List Value}
theorem MS (h : F d W ok A n xs) : d.C W A n xs := Bv.now h
theorem NM (h : F d W ok A n xs) (hi : ∀ W', d.C W' A n xs → d'.C W' A' n' xs') : F d' W ok A' n' xs' := Bv.imp h hi
theorem um (d : Kd α) (W : World) (ok : Nat → Prop) : F d W ok none ([] : List α).length [] := fun W' _ => NH d W'
theorem C_F (hd : Heap d) (h : d.C w A n xs) : F d w (fun k => k < w.heap.size) A n xs := fun _ hW => hd.C (fun k hlt => hW k hlt hlt) h
theorem yA (h : FK d W ok x c) : d.K W x c := Bv.now h
theorem BN (h : FK d W ok x c) (hok : ∀ k, ok k → ok' k) : FK d W ok' x c := Bv.mono h hok
theorem Ei (h : FK d W ok x c) : FK d W (fun k => ok k ∧ k < W.heap.size) x c := Bv.bound h
theorem EM (h : FK d W ok x c) (hm : ∀ k, ok k → k < W.heap.size → W1.heap[k]? = W.heap[k]?) : FK d W1 ok x c := Bv.step h hm
theorem Lp (h : d.M W base ok x c) : FK d W ok x c := fun _ hW => d.K_of_M (KI h hW)
theorem emptied (W : World) (g : Nat) : ∃ W' : World, (∀ k, k ≠ g → W'.heap[k]? = W.heap[k]?) ∧ ∀ a : Addr, a.block = g → W'.cell? a = none := by
  refine ⟨{ W with heap := W.heap.setIfInBounds g (.cells #[] 0) }, fun k hk => by simp [Ne.symm hk], fun a ha => ?_⟩
  subst ha
  by_cases hlt : a.block < W.heap.size
  · simp [World.cell?, hlt]
  · simp [World.cell?, hlt]
end
end Kd
end Go.Proofs.YtpfepkkpbampkaaDoorW.PrintWords
