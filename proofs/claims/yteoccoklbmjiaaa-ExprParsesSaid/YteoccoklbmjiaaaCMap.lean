import Derived.Test.YteoccoklbmjiaaaCObj
import Derived.MapKept
import Derived.Carry
set_option linter.unusedVariables false
set_option linter.unusedSimpArgs false
namespace Go.Proofs.YteoccoklbmjiaaaW.PrintWords
open Go.RowKit Go.Proofs.YteoccoklbmjiaaaW.PrintLast Go.Proofs.YteoccoklbmjiaaaW.PrintMore
section
variable {κ ν : Type} [DecidableEq κ]
end
structure J7 {κ : Type} [DecidableEq κ] (P : Program) (k : TypeId) (dt : TypeDesc) (ek : κ → Value) : Prop where
  under : P.underlying k = some dt
  isKey : ∀ a, MapKept.IsKey dt (ek a)
  same : ∀ a b, Instr.sameNow dt (ek a) (ek b) = some (decide (a = b))
section
variable {κ ν : Type} [DecidableEq κ] {P : Program} {W : World} {k e t : TypeId} {dt : TypeDesc} {ek : κ → Value} {ev : ν → Value} {b : Nat} {l : List (κ × ν)} {key : κ} {z : ν}
end
def Mp {κ ν : Type} (ek : κ → Value) (ev : ν → Value) (C : Nat → Nat) (z : Nat) (W : World) (b : Nat) (l : List (κ × ν)) : Prop := C b = z ∧ Kd.IX ek ev W b l
namespace Mp
variable {κ ν : Type} {ek : κ → Value} {ev : ν → Value} {C c' c'' : Nat → Nat} {z b : Nat} {W w' : World} {S T : List Nat} {l : List (κ × ν)}
theorem lt (h : Mp ek ev C z W b l) : b < W.heap.size := by
  obtain ⟨_, es, clock, hb, _⟩ := h
  exact (Array.getElem?_eq_some_iff.1 hb).1
theorem move (h : Mp ek ev C z W b l) (hc : c' b = C b) (hm : w'.heap[b]? = W.heap[b]?) : Mp ek ev c' z w' b l := by
  obtain ⟨h0, es, clock, hb, he⟩ := h
  exact ⟨hc.trans h0, es, clock, hm.trans hb, he⟩
theorem og (h : Mp ek ev C z W b l) (s : Step C W c' w' S) (hZ : S.contains z = false) : Mp ek ev c' z w' b l :=
  h.move (s.col b h.lt) (s.keep b h.lt (fun hm => by rw [h.1] at hm; simp at hZ; exact hZ hm))
theorem below (h : Mp ek ev C z W b l) (hb : Below W.heap.size W w') : Mp ek ev C z w' b l := h.move rfl (hb.block b h.lt)
theorem drew (h : Mp ek ev C z W b l) : Mp ek ev C z W.drew b l := h.below (below_drew (Below.refl _ _))
theorem drewN (h : Mp ek ev C z W b l) (m : Nat) : Mp ek ev C z (W.drewN m) b l := h.below (vZ (Below.refl _ _) m)
theorem alloc (h : Mp ek ev C z W b l) (o : Obj) : Mp ek ev C z (W.alloc o) b l := h.below (below_alloc (Below.refl _ _) o)
theorem recol (h : Mp ek ev C z W b l) {x y : Nat} (hz : z ≠ x) : Mp ek ev (recol C x y) z W b l := ⟨by unfold PrintWords.recol; rw [if_neg (by rw [h.1]; exact hz)]; exact h.1, h.2⟩
theorem recolor (h : Mp ek ev C z W b l) {y : Nat} : Mp ek ev (PrintWords.recol C z y) y W b l := ⟨by unfold PrintWords.recol; rw [if_pos h.1], h.2⟩
theorem ft (h : Mp ek ev C z W b l) : Ft C [z] W (fun w_ => (Kd.mp ek ev).K w_ l [.map (some b)]) := fun W' hW => by
  obtain ⟨h0, es, clock, hb, he⟩ := h
  exact .inr ⟨b, rfl, es, clock, (hW b (by simp [h0]) (Array.getElem?_eq_some_iff.1 hb).1).trans hb, he⟩
theorem arg {L : List (Nat × Nat)} {j : Nat} (h : Mp ek ev C z W b l) (hj : pal L z = j) : Mp ek ev (fun k => pal L (C k)) j W b l := ⟨by show pal L (C b) = j; rw [h.1]; exact hj, h.2⟩
theorem res {L U : List (Nat × Nat)} {j i : Nat} {w1 : World} (h : Mp ek ev c'' i w1 b l) (s : Step (fun k => pal L (C k)) W c'' w1 T) (hL : (L.all fun p => (p.2 != i || p.1 == j)) = true) (h9 : i ≠ 9) (hU : pal U i = j) : Mp ek ev (up C c'' W.heap.size U) j w1 b l := by
  refine ⟨?_, h.2⟩
  unfold up
  by_cases hlt : b < W.heap.size
  · rw [if_pos hlt]
    have e := s.col b hlt
    rw [h.1] at e
    have := List.all_eq_true.1 hL _ (y5 e.symm h9)
    simpa using this
  · rw [if_neg hlt, h.1]; exact hU
end Mp
namespace Bx
variable {C c'' : Nat → Nat} {z i g t : Nat} {W : World} {T : List Nat} {l : List Value}
theorem arg {L : List (Nat × Nat)} {j : Nat} (h : Bx C z W g t l) (hj : pal L z = j) : Bx (fun k => pal L (C k)) j W g t l := ⟨by show pal L (C g) = j; rw [h.1]; exact hj, h.2⟩
theorem res {L U : List (Nat × Nat)} {j : Nat} {w1 : World} (h : Bx c'' i w1 g t l) (s : Step (fun k => pal L (C k)) W c'' w1 T) (hL : (L.all fun p => (p.2 != i || p.1 == j)) = true) (h9 : i ≠ 9) (hU : pal U i = j) : Bx (up C c'' W.heap.size U) j w1 g t l := by
  refine ⟨?_, h.2⟩
  unfold up
  by_cases hlt : g < W.heap.size
  · rw [if_pos hlt]
    have e := s.col g hlt
    rw [h.1] at e
    have := List.all_eq_true.1 hL _ (y5 e.symm h9)
    simpa using this
  · rw [if_neg hlt, h.1]; exact hU
end Bx
section
variable {κ ν : Type} {W : World} {C : Nat → Nat} {ek : κ → Value} {ev : ν → Value}
end
section
variable {κ ν : Type} {P : Program} {ops : Array Oper} {rest : List Oper} {o : Oper} {l : List Value} {ds : List Deferred} {Q : Exit → Act → World → Prop} {Kc : Act → World → Prop} {W : World} {C : Nat → Nat} {ek : κ → Value} {ev : ν → Value}
def yG {α β : Type} (x : Option α) (n : Option β) (f : α → Option β) : Option β := match x with | none => n | some a => f a
theorem sU {x : Operand} (a : Addr) (ho : o.op = .nilCheck x) (hx : PrintWords.ev l x = .pointer (some a)) : (execOp (⟨l.toArray, ds⟩ : Act).eval o).run P W = .ok (.value (.pointer (some a))) W := by
  unfold execOp
  simp only [ho, uS, show PrintWords.ev l x = _ from hx]
  rfl
theorem EJ {f : FuncId} {fn : Func} {x : Operand} {as : Array Operand} {ts : Array TypeId} {vs cap : Array Value} (hf : P.funcs[f]? = some fn) (hname : (fn.name == "runtime.NumGoroutine") = false) (hb : fn.body.isSome = true) (ho : o.op = .call { callee := .value x, args := as, argTypes := ts }) (hx : PrintWords.ev l x = .func (.func f) #[] cap) (hargs : as.map (PrintWords.ev l) = vs) :
    (execOp (⟨l.toArray, ds⟩ : Act).eval o).run P W = .ok (.enter f (vs ++ cap)) W := by
  have he := Ce (P := P) hf hname hb (vs ++ cap) W
  have hx2 : (⟨l.toArray, ds⟩ : Act).eval x = .func (.func f) #[] cap := by rw [uS]; exact hx
  have ha2 : as.map (⟨l.toArray, ds⟩ : Act).eval = vs := by rw [Df]; exact hargs
  unfold execOp
  simp [ho, resolve, Deferred.ofValue, invoke, hx2, ha2, he]
theorem yF {d : Tmp} {f : FuncId} {fn : Func} {x : Operand} {as : Array Operand} {ts : Array TypeId} (vs cap all : Array Value) (hg : o.guard = none) (hd : o.dst = some d) (hf : P.funcs[f]? = some fn) (hname : (fn.name == "runtime.NumGoroutine") = false) (hb : fn.body.isSome = true)
    (ho : o.op = .call { callee := .value x, args := as, argTypes := ts }) (hx : PrintWords.ev l x = .func (.func f) #[] cap) (hargs : as.map (PrintWords.ev l) = vs) (hall : vs ++ cap = all) (h : Calls P f all W fun e w' => ∃ v, e = .returned v ∧ WL P ops Q rest ⟨(l.set d v).toArray, ds⟩ w') : WL P ops Q (o :: rest) ⟨l.toArray, ds⟩ W := by
  subst hall
  refine ⟨wpList_plain hg fun K hK => ?_⟩
  unfold Oper.wp
  rw [EJ hf hname hb ho hx hargs, Oper.upon_enter]
  refine h.mono fun e w'' hh => ?_
  obtain ⟨v, rfl, hk⟩ := hh
  refine hK _ _ ?_
  rw [hd, yN]
  exact hk.out
end
end Go.Proofs.YteoccoklbmjiaaaW.PrintWords
