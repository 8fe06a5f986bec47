import Derived.Test.YteoccoklbmjiaaaXWords
import Derived.Test.YteoccoklbmjiaaaWNEv
import Derived.Test.YteoccoklbmjiaaaWFoot
set_option linter.unusedVariables false
set_option linter.unusedSimpArgs false
namespace Go.Proofs.YteoccoklbmjiaaaW.PrintWords
open Go.RowKit Go.Proofs.YteoccoklbmjiaaaW.PrintLast Go.Proofs.YteoccoklbmjiaaaW.PrintMore
theorem ls0 {α : Type} {a b : α} {l : List α} : (a :: l).set 0 b = b :: l := rfl
theorem ls1 {α : Type} {a b : α} {l : List α} {i : Nat} : (a :: l).set (i + 1) b = a :: l.set i b := rfl
theorem mp_ {α β : Type} {xs : Array α} {f : α → β} {l : List β} (h : xs.toList.map f = l) : xs.map f = l.toArray := by subst h; cases xs; simp
theorem qh {α : Type} {p : Prop} {i : Decidable p} {x : Option α} {r : α} (h : (if p then x else none) = some r) : p ∧ x = some r := by
  by_cases c : p
  · rw [if_pos c] at h; exact ⟨c, h⟩
  · rw [if_neg c] at h; cases h
theorem yZ {α : Type} {p : Prop} {i : Decidable p} {x : Option α} {r : α} (h : (if p then none else x) = some r) : ¬ p ∧ x = some r := by
  by_cases c : p
  · rw [if_pos c] at h; cases h
  · rw [if_neg c] at h; exact ⟨c, h⟩
theorem bnd {α β : Type} {x : Option α} {f : α → Option β} {b : β} (h : x.bind f = some b) : ∃ a, x = some a ∧ f a = some b := Option.bind_eq_some_iff.mp h
theorem jmp {K : Act → World → Prop} {l : List Value} {ds : List Deferred} {w : World} {m : (Nat → Value) → List Value} (h : ∀ g, K ⟨(m g).toArray, ds⟩ w) (e : m (fun q => l.getD q undef) = l) : K ⟨l.toArray, ds⟩ w := by
  have := h (fun q => l.getD q undef)
  rw [e] at this; exact this
theorem uX {G : Act → World → Prop} {R : Act → Prop} {l : List Value} {ds : List Deferred} {w : World} {m : (Nat → Value) → List Value} (hG : ∀ a, R a → G a w) (h : ∀ g, R ⟨(m g).toArray, ds⟩) (e : m (fun q => l.getD q undef) = l) : G ⟨l.toArray, ds⟩ w := by
  have := hG _ (h (fun q => l.getD q undef))
  rw [e] at this; exact this
def lb (n m : Nat) : Array Bool := ((List.range n).map fun i => m.testBit i).toArray
structure WL (P : Program) (ops : Array Oper) (Q : Exit → Act → World → Prop) (l : List Oper) (a : Act) (w : World) : Prop where
  out : wpList P ops Q l a w
theorem lq {P : Program} {ops : Array Oper} {Q : Exit → Act → World → Prop} {a : Act} {w : World} {id : Nat} (h : WL P ops Q ops.toList a w) : (Code.region id ops false).wp P Q a w := wp_region_list h.out
theorem nX {P : Program} {ops : Array Oper} {Q : Exit → Act → World → Prop} {a : Act} {w : World} (h : Q .normal a w) : WL P ops Q [] a w := ⟨h⟩
structure Step (c : Nat → Nat) (w : World) (c' : Nat → Nat) (w' : World) (S : List Nat) : Prop where
  os : w'.os = w.os
  tape : w'.tape = w.tape
  output : w'.output = w.output
  size : w.heap.size ≤ w'.heap.size
  col : ∀ k, k < w.heap.size → c' k = c k
  keep : ∀ k, k < w.heap.size → c k ∉ S → w'.heap[k]? = w.heap[k]?
def pal (L : List (Nat × Nat)) (z : Nat) : Nat := match L.find? (fun p => p.1 == z) with | some p => p.2 | none => 9
def ext (C : Nat → Nat) (n j : Nat) (k : Nat) : Nat := if k < n then C k else j
def up (C c'' : Nat → Nat) (n : Nat) (U : List (Nat × Nat)) (k : Nat) : Nat := if k < n then C k else pal U (c'' k)
def recol (C : Nat → Nat) (a b : Nat) (k : Nat) : Nat := if C k = a then b else C k
theorem oV {L : List (Nat × Nat)} (h : (L.all fun p => decide (p.2 < 10)) = true) (z : Nat) : pal L z < 10 := by
  unfold pal
  cases hf : L.find? (fun p => p.1 == z) with
  | none => simp
  | some p => exact of_decide_eq_true (List.all_eq_true.1 h p (List.mem_of_find?_eq_some hf))
theorem y5 {L : List (Nat × Nat)} {z a : Nat} (h : pal L z = a) (ha : a ≠ 9) : (z, a) ∈ L := by
  unfold pal at h
  cases hf : L.find? (fun p => p.1 == z) with
  | none => rw [hf] at h; exact absurd h.symm ha
  | some p =>
    rw [hf] at h
    have h1 := List.mem_of_find?_eq_some hf
    have h2 := List.find?_some hf
    simp at h2 h
    rw [← h2, ← h]
    exact h1
namespace Step
variable {c C c' c1 c'' : Nat → Nat} {w W w' w1 w0 : World} {S T S0 : List Nat}
theorem refl (c : Nat → Nat) (w : World) (S : List Nat) : Step c w c w S := ⟨rfl, rfl, rfl, Nat.le_refl _, fun _ _ => rfl, fun _ _ _ => rfl⟩
theorem trans (h1 : Step c w0 C W S0) (h2 : Step C W c' w' S) (hc : ∀ k, c k < 10) (hS : (S.all fun z => S0.contains z || decide (10 ≤ z)) = true) : Step c w0 c' w' S0 := by
  refine ⟨h2.os.trans h1.os, h2.tape.trans h1.tape, h2.output.trans h1.output, Nat.le_trans h1.size h2.size, fun k hk => ?_, fun k hk hn => ?_⟩
  · exact (h2.col k (Nat.lt_of_lt_of_le hk h1.size)).trans (h1.col k hk)
  · refine (h2.keep k (Nat.lt_of_lt_of_le hk h1.size) (fun hm => ?_)).trans (h1.keep k hk hn)
    rw [h1.col k hk] at hm
    have := List.all_eq_true.1 hS _ hm
    simp at this
    rcases this with h | h
    · exact hn h
    · have := hc k; omega
theorem below (h : Step c w c' w' S) (hc : ∀ k, c k ∉ S) : Below w.heap.size w w' := ⟨h.os, h.tape, h.output, h.size, fun k hk => h.keep k hk (hc k)⟩
theorem GL (c : Nat → Nat) (hb : Below w.heap.size w w') (j : Nat) : Step c w (ext c w.heap.size j) w' [] :=
  ⟨hb.os, hb.tape, hb.output, hb.size, fun k hk => by simp [ext, hk], fun k hk _ => hb.block k hk⟩
theorem grown (c : Nat → Nat) {row : Option Nat} (hg : w.grownBy w' row) {i : Nat} (hr : ∀ k, row = some k → c k = i) (j : Nat) : Step c w (ext c w.heap.size j) w' [i] :=
  ⟨hg.os, hg.tape, hg.output, hg.size, fun k hk => by simp [ext, hk], fun k hk hn => hg.block k hk (fun e => hn (by rw [hr k e.symm]; simp))⟩
theorem vG (h : Step c w0 C W S) : Step c w0 C W.drew S := ⟨h.os, h.tape, h.output, h.size, h.col, h.keep⟩
theorem lift {L U : List (Nat × Nat)} (h : Step (fun k => pal L (C k)) w c'' w' T) (S : List Nat) (hS : (L.all fun p => !T.contains p.2 || S.contains p.1) = true) (h9 : T.contains 9 = false) : Step C w (up C c'' w.heap.size U) w' S := by
  refine ⟨h.os, h.tape, h.output, h.size, fun k hk => by simp [up, hk], fun k hk hn => h.keep k hk (fun hm => hn ?_)⟩
  have hz := y5 (L := L) (z := C k) rfl (fun e => by rw [e] at hm; simp at h9; exact h9 hm)
  have := List.all_eq_true.1 hS _ hz
  simp at this
  rcases this with h | h
  · exact absurd hm h
  · exact h
theorem recol (h : Step c w0 C W S) (hc : ∀ k, c k < 10) {a b : Nat} (ha : 10 ≤ a) : Step c w0 (recol C a b) W S :=
  ⟨h.os, h.tape, h.output, h.size, fun k hk => by
    have h1 := h.col k hk
    have := hc k
    unfold PrintWords.recol
    rw [if_neg (by omega)]; exact h1, h.keep⟩
end Step
def Ft (C : Nat → Nat) (Z : List Nat) (W : World) (P : World → Prop) : Prop := xY P W (fun k => C k ∈ Z)
namespace Ft
variable {c C c' c1 c'' : Nat → Nat} {w W w' w1 w0 : World} {S T Z Z' : List Nat} {P Q : World → Prop}
theorem now (h : Ft C Z W P) : P W := xY.now h
theorem imp (h : Ft C Z W P) (hi : ∀ W', P W' → Q W') : Ft C Z W Q := xY.imp h hi
theorem more (h : Ft C Z W P) (hZ : (Z.all fun z => Z'.contains z) = true) : Ft C Z' W P := xY.mono h (fun k hk => by simpa using List.all_eq_true.1 hZ _ hk)
theorem below (h : Ft C Z W P) (hb : Below W.heap.size W w') : Ft C Z w' P := xY.step h (fun k _ hlt => hb.block k hlt)
theorem alloc (h : Ft C Z W P) (o : Obj) : Ft C Z (W.alloc o) P := h.below (below_alloc (Below.refl _ _) o)
theorem drew (h : Ft C Z W P) : Ft C Z W.drew P := h.below (below_drew (Below.refl _ _))
theorem drewN (h : Ft C Z W P) (m : Nat) : Ft C Z (W.drewN m) P := h.below (vZ (Below.refl _ _) m)
theorem og (h : Ft C Z W P) (s : Step C W c' w' S) (hZ : (Z.all fun z => !S.contains z) = true) : Ft c' Z w' P := by
  have h1 : xY P w' (fun k => C k ∈ Z ∧ k < W.heap.size) := xY.step (xY.bound h) (fun k hk hlt => s.keep k hlt (by simpa using List.all_eq_true.1 hZ _ hk.1))
  refine xY.mono h1 (fun k hk => ?_)
  show c' k ∈ Z
  rw [s.col k hk.2]; exact hk.1
theorem arg {L : List (Nat × Nat)} (h : Ft C Z W P) (hZ : (Z.all fun z => Z'.contains (pal L z)) = true) : Ft (fun k => pal L (C k)) Z' W P := xY.mono h (fun k hk => by simpa using List.all_eq_true.1 hZ _ hk)
theorem res {L U : List (Nat × Nat)} (h : Ft c'' Z w' P) (s : Step (fun k => pal L (C k)) W c'' w' T) (Z' : List Nat) (hL : (L.all fun p => !Z.contains p.2 || Z'.contains p.1) = true) (h9 : Z.contains 9 = false) (hU : (Z.all fun z => Z'.contains (pal U z)) = true) :
    Ft (up C c'' W.heap.size U) Z' w' P := by
  refine xY.mono h (fun k hk => ?_)
  show up C c'' W.heap.size U k ∈ Z'
  unfold up
  by_cases hlt : k < W.heap.size
  · rw [if_pos hlt]
    have e := s.col k hlt
    rw [e] at hk
    have hz := y5 (L := L) (z := C k) rfl (fun e => by rw [e] at hk; simp at h9; exact h9 hk)
    have := List.all_eq_true.1 hL _ hz
    simp at this
    rcases this with h | h
    · exact absurd hk h
    · exact h
  · rw [if_neg hlt]
    simpa using List.all_eq_true.1 hU _ hk
theorem recol (h : Ft C Z W P) {a b : Nat} (hZ : Z.contains a = false ∨ Z.contains b = true) : Ft (recol C a b) Z W P := xY.mono h (fun k hk => by
  show PrintWords.recol C a b k ∈ Z
  unfold PrintWords.recol
  by_cases e : C k = a
  · rw [if_pos e]
    rcases hZ with h | h
    · rw [e] at hk; simp at h; exact absurd hk h
    · simpa using h
  · rw [if_neg e]; exact hk)
theorem recolor (h : Ft C Z W P) {a b : Nat} (Z' : List Nat) (hZ : (Z.all fun z => if z = a then Z'.contains b else Z'.contains z) = true) : Ft (PrintWords.recol C a b) Z' W P := xY.mono h (fun k hk => by
  show PrintWords.recol C a b k ∈ Z'
  have := List.all_eq_true.1 hZ _ hk
  unfold PrintWords.recol
  by_cases e : C k = a
  · rw [if_pos e] at this ⊢; simpa using this
  · rw [if_neg e] at this ⊢; simpa using this)
end Ft
def Own {α : Type} (C : Nat → Nat) (i : Nat) (W : World) (d : Kd α) (e : Nat) (v : Value) (xs : List α) : Prop :=
  (∀ k, v.ownBlock = some k → C k = i) ∧ Kd.N d e W 0 (fun k => C k = i ∨ C k = 0) v xs
namespace Own
section
variable {α : Type} {d : Kd α} {e : Nat} {c C c' c1 c'' : Nat → Nat} {i : Nat} {w W w' w1 w0 : World} {S T Z Z' : List Nat} {v : Value} {xs : List α}
theorem nil (C : Nat → Nat) (i : Nat) (W : World) (d : Kd α) (e : Nat) : Own C i W d e (.slice none 0 0) [] := ⟨fun k hk => by simp [Value.ownBlock] at hk, Kd.JF _ _ _ _ _⟩
theorem move (h : Own C i W d e v xs) (hc : ∀ k, k < W.heap.size → c' k = C k) (hm : ∀ k, k < W.heap.size → (C k = i ∨ C k = 0) → w'.heap[k]? = W.heap[k]?) : Own c' i w' d e v xs := by
  refine ⟨fun k hk => (hc k (Kd.JR h.2 k hk)).trans (h.1 k hk), Kd.BA (Kd.Gs (Kd.Hq h.2) (fun k hk hlt => hm k hlt hk.1)) (fun k hk => ?_)⟩
  rw [hc k hk.2]; exact hk.1
theorem below (h : Own C i W d e v xs) (hb : Below W.heap.size W w') : Own C i w' d e v xs := h.move (fun _ _ => rfl) (fun k hk _ => hb.block k hk)
theorem alloc (h : Own C i W d e v xs) (o : Obj) : Own C i (W.alloc o) d e v xs := h.below (below_alloc (Below.refl _ _) o)
theorem drew (h : Own C i W d e v xs) : Own C i W.drew d e v xs := h.below (below_drew (Below.refl _ _))
theorem drewN (h : Own C i W d e v xs) (m : Nat) : Own C i (W.drewN m) d e v xs := h.below (vZ (Below.refl _ _) m)
theorem og (h : Own C i W d e v xs) (s : Step C W c' w' S) (hZ : (!S.contains i && !S.contains 0) = true) : Own c' i w' d e v xs := by
  simp at hZ
  refine h.move s.col (fun k hk ho => s.keep k hk (fun hm => ?_))
  rcases ho with ho | ho <;> rw [ho] at hm
  · exact hZ.1 hm
  · exact hZ.2 hm
theorem slice (h : Own C i W d e v xs) : ∃ A c, v = .slice A xs.length c := Kd.zM h.2
theorem at_ {A : Option Addr} {n c : Nat} (h : Own C i W d e (.slice A n c) xs) : n = xs.length ∧ n ≤ c ∧ d.C W A xs.length xs := Kd.Dp h.2
theorem ft {A : Option Addr} {n c : Nat} (h : Own C i W d e (.slice A n c) xs) : Ft C [i, 0] W (fun W => d.C W A n xs) := xY.mono (Kd.N_F h.2) (fun k hk => by simpa using hk)
theorem recol (h : Own C i W d e v xs) {a b : Nat} (ha : i ≠ a) (h0 : 0 ≠ a) : Own (recol C a b) i W d e v xs := by
  refine ⟨fun k hk => ?_, Kd.BA h.2 (fun k hk => ?_)⟩
  · have := h.1 k hk
    unfold PrintWords.recol
    rw [if_neg (by omega)]; exact this
  · show PrintWords.recol C a b k = i ∨ PrintWords.recol C a b k = 0
    unfold PrintWords.recol
    rw [if_neg (by rcases hk with hk | hk <;> omega)]; exact hk
theorem recolor (h : Own C i W d e v xs) {b : Nat} (h0 : 0 ≠ i) : Own (PrintWords.recol C i b) b W d e v xs := by
  refine ⟨fun k hk => ?_, Kd.BA h.2 (fun k hk => ?_)⟩
  · have := h.1 k hk
    unfold PrintWords.recol
    rw [if_pos this]
  · show PrintWords.recol C i b k = b ∨ PrintWords.recol C i b k = 0
    unfold PrintWords.recol
    rcases hk with hk | hk
    · rw [if_pos hk]; exact .inl rfl
    · rw [if_neg (by omega)]; exact .inr hk
theorem arg {L : List (Nat × Nat)} {j : Nat} (h : Own C i W d e v xs) (hj : pal L i = j) (h0 : pal L 0 = 0) : Own (fun k => pal L (C k)) j W d e v xs := by
  refine ⟨fun k hk => ?_, Kd.BA h.2 (fun k hk => ?_)⟩
  · show pal L (C k) = j
    rw [h.1 k hk]; exact hj
  · show pal L (C k) = j ∨ pal L (C k) = 0
    rcases hk with hk | hk <;> rw [hk]
    · exact .inl hj
    · exact .inr h0
theorem res {L U : List (Nat × Nat)} {j : Nat} (h : Own c'' i w' d e v xs) (s : Step (fun k => pal L (C k)) W c'' w' T) (hL : (L.all fun p => (p.2 != i || p.1 == j) && (p.2 != 0 || p.1 == 0)) = true) (h9 : i ≠ 9) (hU : pal U i = j) (hU0 : pal U 0 = 0) :
    Own (up C c'' W.heap.size U) j w' d e v xs := by
  have key : ∀ k, (c'' k = i → up C c'' W.heap.size U k = j) ∧ (c'' k = 0 → up C c'' W.heap.size U k = 0) := by
    intro k
    unfold up
    by_cases hlt : k < W.heap.size
    · rw [if_pos hlt]
      have e := s.col k hlt
      constructor
      · intro hk
        rw [e] at hk
        have := List.all_eq_true.1 hL _ (y5 hk h9)
        simp at this
        exact this.1
      · intro hk
        rw [e] at hk
        have := List.all_eq_true.1 hL _ (y5 hk (by decide))
        simp at this
        exact this.2
    · rw [if_neg hlt]
      exact ⟨fun hk => by rw [hk]; exact hU, fun hk => by rw [hk]; exact hU0⟩
  exact ⟨fun k hk => (key k).1 (h.1 k hk), Kd.BA h.2 (fun k hk => hk.elim (fun h => .inl ((key k).1 h)) (fun h => .inr ((key k).2 h)))⟩
end
end Own
end Go.Proofs.YteoccoklbmjiaaaW.PrintWords
