import Derived.Test.YtdkbmchbkkhpoaaCArr
import Derived.Test.YtdkbmchbkkhpoaaProg
import Derived.Laws.LoneSync
import Derived.Defers
import Derived.RegionCalls
import Derived.Laws.NewBlocks
import Derived.Laws.Pointers
import Derived.RegionTactic
import Derived.ChangeAlike
import Derived.IntWalk
import Derived.Laws.BitsLemmas
import Derived.Tactics2
set_option linter.unusedVariables false
set_option linter.unusedSimpArgs false
namespace Go.Proofs.YtdkbmchbkkhpoaaW.PrintWords
open Go.RowKit Go.Proofs.YtdkbmchbkkhpoaaW.PrintLast Go.Proofs.YtdkbmchbkkhpoaaW.PrintMore
section
variable {P : Program} {ops : Array Oper} {rest : List Oper} {o : Oper} {l : List Value} {ds : List Deferred} {Q : Exit → Act → World → Prop} {Kc : Act → World → Prop} {W : World}
theorem mX {fn : Fn} {first cap : Array Operand} (vf vc : Array Value) (ho : o.op = .makeFunc fn first cap) (hf : first.map (ev l) = vf) (hc : cap.map (ev l) = vc) :
    (execOp (⟨l.toArray, ds⟩ : Act).eval o).run P W = .ok (.value (.func fn vf vc)) W := by
  unfold execOp
  simp only [ho, sZ, hf, hc]
  rfl
theorem zx {f : FuncId} {fn : Func} {x : Operand} {av : Array Operand} {ts : Array TypeId} {vs first cap : Array Value} (hf : P.funcs[f]? = some fn) (hname : (fn.name == "runtime.NumGoroutine") = false) (hb : fn.body.isSome = true) (ho : o.op = .call { callee := .value x, args := av, argTypes := ts }) (hx : ev l x = .func (.func f) first cap) (hargs : av.map (ev l) = vs) :
    (execOp (⟨l.toArray, ds⟩ : Act).eval o).run P W = .ok (.enter f (first ++ vs ++ cap)) W := by
  have he := uz (P := P) hf hname hb (first ++ vs ++ cap) W
  have hx2 : (⟨l.toArray, ds⟩ : Act).eval x = .func (.func f) first cap := by rw [lG]; exact hx
  have ha2 : av.map (⟨l.toArray, ds⟩ : Act).eval = vs := by rw [sZ]; exact hargs
  rw [Array.append_assoc] at he ⊢
  unfold execOp
  simp only [ho]
  unfold resolve
  simp [Deferred.ofValue, invoke, hx2, ha2, he]
theorem oN {d : Tmp} {f : FuncId} {fn : Func} {x : Operand} {av : Array Operand} {ts : Array TypeId} (vs first cap all : Array Value) (hg : o.guard = none) (hd : o.dst = some d) (hf : P.funcs[f]? = some fn) (hname : (fn.name == "runtime.NumGoroutine") = false) (hb : fn.body.isSome = true)
    (ho : o.op = .call { callee := .value x, args := av, argTypes := ts }) (hx : ev l x = .func (.func f) first cap) (hargs : av.map (ev l) = vs) (hall : first ++ vs ++ cap = all) (h : Calls P f all W fun e w' => ∃ v, e = .returned v ∧ WL P ops Q rest ⟨(l.set d v).toArray, ds⟩ w') : WL P ops Q (o :: rest) ⟨l.toArray, ds⟩ W := by
  subst hall
  refine ⟨wpList_plain hg fun K hK => ?_⟩
  unfold Oper.wp
  rw [zx hf hname hb ho hx hargs, Oper.upon_enter]
  refine h.mono fun e w'' hh => ?_
  obtain ⟨v, rfl, hk⟩ := hh
  refine hK _ _ ?_
  rw [hd, pV]
  exact hk.out
end
section
variable {P : Program} {ops : Array Oper} {rest : List Oper} {o : Oper} {l : List Value} {ds : List Deferred} {Q : Exit → Act → World → Prop} {W : World}
end
def deB : List Int := [0, 1, 56, 2, 57, 49, 28, 3, 61, 58, 42, 50, 38, 29, 17, 4, 62, 47, 59, 36, 45, 43, 51, 22, 53, 39, 33, 30, 24, 18, 12, 5, 63, 55, 48, 27, 60, 41, 37, 16, 46, 35, 44, 21, 52, 32, 23, 11, 54, 26, 40, 15, 34, 20, 31, 10, 25, 14, 19, 9, 13, 8, 7, 6]
def Fh (w : World) : Prop := ∀ i, i < 64 → w.cell? ⟨0, i, none⟩ = some (.int .u8 (List.getD deB i 0))
theorem Fh.ft {C : Nat → Nat} {W : World} (h : Fh W) (h0 : C 0 = 0) : Ft C [0] W Fh := by
  intro W' hW i hi
  have hc := h i hi
  have hlt : 0 < W.heap.size := by
    rcases Nat.eq_zero_or_pos W.heap.size with e | e
    · exfalso
      have : W.cell? ⟨0, i, none⟩ = none := by simp [World.cell?, Array.getElem?_eq_none (by omega : W.heap.size ≤ 0)]
      rw [this] at hc; cases hc
    · exact e
  have hb : W'.heap[0]? = W.heap[0]? := hW 0 (by simp [h0]) hlt
  rw [← hc]
  simp [World.cell?, hb]
section
variable {P : Program} {W : World} {C : Nat → Nat} {z g tb o : Nat} {pre post xs : List Value}
theorem Eh (HB : Bx C z W g tb xs) {u v : Value} (hL : xs = pre ++ (u :: post)) (ho : pre.length = o) {xs' : List Value} (hE : pre ++ (v :: post) = xs') : Bx C z (W.setCell ⟨g, o, none⟩ v) g tb xs' ∧ Step C W C (W.setCell ⟨g, o, none⟩ v) [z] := by
  obtain ⟨k1, k2, k3, k4, k5⟩ := o8 (g := g) [v] o W
  refine ⟨⟨HB.1, ?_⟩, ⟨k1, k2, k3, Nat.le_of_eq k4.symm, fun _ _ => rfl, fun k _ hn => k5 k (fun e => hn (by rw [e, HB.1]; simp))⟩⟩
  have := ql (W := W) [v] xs o W HB.2
  rw [Cm hL ho, hE] at this
  exact this
theorem zy (h : W.heap[g]? = some (.cells xs.toArray tb (0, 0))) (j : Nat) : W.frozen? ⟨g, j, none⟩ = false := by
  simp [World.frozen?, h]
end
def oO {α : Type} (C : Nat → Nat) (z : Nat) (W : World) (T : Nat) (d : Kd α) (v : Value) (x : Option α) : Prop :=
  match x with
  | none => v = .pointer none
  | some a => ∃ g cs, v = .pointer (some ⟨g, 0, none⟩) ∧ Bx C z W g T cs ∧ Ft C [0] W (fun w_ => d.K w_ a cs)
namespace oO
section
variable {α : Type} {d : Kd α} {C c' c'' : Nat → Nat} {z T : Nat} {W w' : World} {v : Value} {x : Option α} {S : List Nat}
theorem iE (h : oO C z W T d v x) (s : Step C W c' w' S) (hZ : (!S.contains z && !S.contains 0) = true) : oO c' z w' T d v x := by
  simp only [Bool.and_eq_true, Bool.not_eq_true'] at hZ
  cases x with
  | none => exact h
  | some a =>
    obtain ⟨g, cs, e, hb, hf⟩ := h
    exact ⟨g, cs, e, hb.iE s hZ.1, hf.iE s (by simpa using hZ.2)⟩
theorem drew (h : oO C z W T d v x) : oO C z W.drew T d v x := by
  cases x with
  | none => exact h
  | some a =>
    obtain ⟨g, cs, e, hb, hf⟩ := h
    exact ⟨g, cs, e, hb.drew, hf.drew⟩
theorem recol (h : oO C z W T d v x) {a b : Nat} (hz : z ≠ a) (h0 : 0 ≠ a) : oO (PrintWords.recol C a b) z W T d v x := by
  cases x with
  | none => exact h
  | some y =>
    obtain ⟨g, cs, e, hb, hf⟩ := h
    exact ⟨g, cs, e, hb.recol hz, hf.recol (.inl (by simpa using fun e => h0 e.symm))⟩
theorem recolor (h : oO C z W T d v x) {b : Nat} (h0 : 0 ≠ z) : oO (PrintWords.recol C z b) b W T d v x := by
  cases x with
  | none => exact h
  | some y =>
    obtain ⟨g, cs, e, hb, hf⟩ := h
    exact ⟨g, cs, e, hb.recolor, hf.recol (.inl (by simpa using fun e => h0 e.symm))⟩
theorem ft (h : oO C z W T d v x) : Ft C [z, 0] W (fun w_ => (Kd.ptr T d).K w_ x [v]) := by
  cases x with
  | none => intro W' _; show [v] = _; rw [show v = _ from h]
  | some a =>
    obtain ⟨g, cs, rfl, hb, hf⟩ := h
    exact fun W' hW => ⟨g, cs, rfl, (hb.ft.more (Z' := [z, 0]) (by simp)) W' hW, (hf.more (Z' := [z, 0]) (by simp)) W' hW⟩
theorem res {L U : List (Nat × Nat)} {i j : Nat} {w1 : World} (h : oO c'' i w1 T d v x) (s : Step (fun k => pal L (C k)) W c'' w1 S) (hL : (L.all fun p => (p.2 != i || p.1 == j)) = true) (hL0 : (L.all fun p => ![0].contains p.2 || [0].contains p.1) = true) (h9 : i ≠ 9) (hU : pal U i = j) (hU0 : pal U 0 = 0) : oO (up C c'' W.heap.size U) j w1 T d v x := by
  cases x with
  | none => exact h
  | some a =>
    obtain ⟨g, cs, e, hb, hf⟩ := h
    exact ⟨g, cs, e, hb.res s hL h9 hU, hf.res s [0] hL0 rfl (by simp [hU0])⟩
theorem arg {L : List (Nat × Nat)} {j : Nat} (h : oO C z W T d v x) (hj : pal L z = j) (h0 : pal L 0 = 0) : oO (fun k => pal L (C k)) j W T d v x := by
  cases x with
  | none => exact h
  | some a =>
    obtain ⟨g, cs, e, hb, hf⟩ := h
    exact ⟨g, cs, e, hb.arg hj, hf.arg (by simp [h0])⟩
theorem isNone (h : oO C z W T d v none) : v = .pointer none := h
theorem isSome {a : α} (h : oO C z W T d v (some a)) : ∃ g cs, v = .pointer (some ⟨g, 0, none⟩) ∧ Bx C z W g T cs ∧ Kd.FK d W (fun k => C k ∈ [0]) a cs := h
theorem nil (C : Nat → Nat) (z : Nat) (W : World) (T : Nat) (d : Kd α) : oO C z W T d (.pointer none) none := rfl
theorem mk {g : Nat} {cs : List Value} {a : α} (hb : Bx C z W g T cs) (hf : Kd.FK d W (fun k => C k ∈ [0]) a cs) : oO C z W T d (.pointer (some ⟨g, 0, none⟩)) (some a) := ⟨g, cs, rfl, hb, hf⟩
end
end oO
end Go.Proofs.YtdkbmchbkkhpoaaW.PrintWords
