import Derived.Test.YtpfepkkpbampkaaDoorCEv
import Derived.Test.YtpfepkkpbampkaaDoorWGuard
import Derived.Test.YtpfepkkpbampkaaDoorWTab
set_option linter.unusedVariables false
set_option linter.unusedSimpArgs false
namespace Go.Proofs.YtpfepkkpbampkaaDoorW.PrintWords
open Go.RowKit Go.Proofs.YtpfepkkpbampkaaDoorW.PrintLast Go.Proofs.YtpfepkkpbampkaaDoorW.PrintMore
section
variable {P : Program} {ops : Array Oper} {rest : List Oper} {o : Oper} {l : List Value} {ds : List Deferred} {Q : Exit → Act → World → Prop} {W : World}
def ev (l : List Value) : Operand → Value
  | .tmp t => l.getD t undef
  | x => (⟨l.toArray, []⟩ : Act).eval x
theorem sU (l : List Value) (ds : List Deferred) (x : Operand) : (⟨l.toArray, ds⟩ : Act).eval x = ev l x := by
  cases x <;> first | rfl | (simp [ev, Act.eval, Frame.eval, List.getD_eq_getElem?_getD])
theorem Dp (l : List Value) (ds : List Deferred) (d : Tmp) (v : Value) : (⟨l.toArray, ds⟩ : Act).put (some d) v = ⟨(l.set d v).toArray, ds⟩ := by simp [Act.put]
theorem FN (l : List Value) (ds : List Deferred) (xs : Array Operand) : xs.map (⟨l.toArray, ds⟩ : Act).eval = xs.map (ev l) := by
  congr 1
  funext x
  exact sU l ds x
theorem uQ {xs : Array Operand} {vs : List Value} (h : xs.toList.map (ev l) = vs) : xs.map (⟨l.toArray, ds⟩ : Act).eval = vs.toArray := by rw [FN]; exact mp_ h
theorem st {d : Tmp} (v : Value) (hg : o.guard = none) (hd : o.dst = some d) (hr : (execOp (⟨l.toArray, ds⟩ : Act).eval o).run P W = .ok (.value v) W) (h : WL P ops Q rest ⟨(l.set d v).toArray, ds⟩ W) : WL P ops Q (o :: rest) ⟨l.toArray, ds⟩ W :=
  ⟨Kd.Dv hg hr (by rw [hd, Dp]; exact h.out)⟩
theorem mv_ {d t : Tmp} {v : Value} (h : (o.guard, o.dst, o.op, l[t]?) = (none, some d, Op.move (.tmp t), some v)) (k : WL P ops Q rest ⟨(l.set d v).toArray, ds⟩ W) : WL P ops Q (o :: rest) ⟨l.toArray, ds⟩ W := by
  simp only [Prod.mk.injEq] at h
  obtain ⟨h1, h2, h3, h4⟩ := h
  refine st v h1 h2 ?_ k
  simp [execOp, h3, Act.eval, Frame.eval, h4]
theorem as_ {d t : Tmp} {v : Value} (h : (o.guard, o.dst, o.op, l[t]?) = (none, some d, Op.assign (.tmp t), some v)) (k : WL P ops Q rest ⟨(l.set d v).toArray, ds⟩ W) : WL P ops Q (o :: rest) ⟨l.toArray, ds⟩ W := by
  simp only [Prod.mk.injEq] at h
  obtain ⟨h1, h2, h3, h4⟩ := h
  refine st v h1 h2 ?_ k
  simp [execOp, h3, Act.eval, Frame.eval, h4]
theorem qO {w1 : World} (v : Value) (hg : o.guard = none) {d : Tmp} (hd : o.dst = some d) (hr : (execOp (⟨l.toArray, ds⟩ : Act).eval o).run P W = .ok (.value v) w1) (h : WL P ops Q rest ⟨(l.set d v).toArray, ds⟩ w1) : WL P ops Q (o :: rest) ⟨l.toArray, ds⟩ W := ⟨Kd.Dv hg hr (by rw [hd, Dp]; exact h.out)⟩
theorem oC {x : Operand} (v : Value) (ho : o.op = .move x) (hv : ev l x = v) : (execOp (⟨l.toArray, ds⟩ : Act).eval o).run P W = .ok (.value v) W := by
  simp [execOp, ho, sU, hv]
theorem jC {x : Operand} (v : Value) (ho : o.op = .assign x) (hv : ev l x = v) : (execOp (⟨l.toArray, ds⟩ : Act).eval o).run P W = .ok (.value v) W := by
  simp [execOp, ho, sU, hv]
theorem jQ {c x y : Operand} (b : Bool) (v : Value) (ho : o.op = .pick c x y) (hc : ev l c = .bool b) (hv : (if b then ev l x else ev l y) = v) : (execOp (⟨l.toArray, ds⟩ : Act).eval o).run P W = .ok (.value v) W := by
  subst hv
  cases b <;> simp [execOp, ho, sU, hc, asBool] <;> rfl
theorem jF {b : BinOp} {t t2 : TypeId} {x y : Operand} (vx vy v : Value) (ho : o.op = .binOp b t x y t2) (hx : ev l x = vx) (hy : ev l y = vy)
    (hr : ((do eqGuard b t x y vx vy; Go.binOp b t vx vy : Sem Value)).run P W = .ok v W) : (execOp (⟨l.toArray, ds⟩ : Act).eval o).run P W = .ok (.value v) W := by
  unfold execOp
  simp only [ho, sU, hx, hy]
  rw [Sem.run_bind, hr]
  rfl
theorem pX {u : UnOp} {t : TypeId} {x : Operand} (vx v : Value) (ho : o.op = .unOp u t x) (hx : ev l x = vx)
    (hr : (Op.unary u vx).run P W = .ok v W) : (execOp (⟨l.toArray, ds⟩ : Act).eval o).run P W = .ok (.value v) W := by
  unfold execOp
  simp only [ho, sU, hx]
  rw [Sem.run_bind, hr]
  rfl
theorem pF {s t : TypeId} {x : Operand} (vx v : Value) (ho : o.op = .convert s t x) (hx : ev l x = vx)
    (hr : (Go.convert s t vx).run P W = .ok v W) : (execOp (⟨l.toArray, ds⟩ : Act).eval o).run P W = .ok (.value v) W := by
  unfold execOp
  simp only [ho, sU, hx]
  rw [Sem.run_bind, hr]
  rfl
theorem kZ {j : Nat} {x : Operand} (vx v : Value) (ho : o.op = .extract x j) (hx : ev l x = vx)
    (hr : (Instr.extract vx j).run P W = .ok v W) : (execOp (⟨l.toArray, ds⟩ : Act).eval o).run P W = .ok (.value v) W := by
  unfold execOp
  simp only [ho, sU, hx]
  rw [Sem.run_bind, hr]
  rfl
theorem jD {t : TypeId} {x y : Operand} (vx vy v : Value) (ho : o.op = .indexAddr t x y) (hx : ev l x = vx) (hy : ev l y = vy)
    (hr : (Instr.indexAt t vx vy).run P W = .ok v W) : (execOp (⟨l.toArray, ds⟩ : Act).eval o).run P W = .ok (.value v) W := by
  unfold execOp
  simp only [ho, sU, hx, hy]
  rw [Sem.run_bind, hr]
  rfl
theorem wS {t : TypeId} {x y : Operand} (vx vy v : Value) (ho : o.op = .index t x y) (hx : ev l x = vx) (hy : ev l y = vy)
    (hr : (Instr.index t vx vy).run P W = .ok v W) : (execOp (⟨l.toArray, ds⟩ : Act).eval o).run P W = .ok (.value v) W := by
  unfold execOp
  simp only [ho, sU, hx, hy]
  rw [Sem.run_bind, hr]
  rfl
theorem jB {t : TypeId} {j : Nat} {x : Operand} (vx v : Value) (ho : o.op = .fieldAddr t x j) (hx : ev l x = vx)
    (hr : (Instr.fieldAt t vx j).run P W = .ok v W) : (execOp (⟨l.toArray, ds⟩ : Act).eval o).run P W = .ok (.value v) W := by
  unfold execOp
  simp only [ho, sU, hx]
  rw [Sem.run_bind, hr]
  rfl
theorem jH {t : TypeId} {x : Operand} (vx v : Value) (ho : o.op = .load t x) (hx : ev l x = vx)
    (hr : (Instr.loadAt t vx).run P W = .ok v W) : (execOp (⟨l.toArray, ds⟩ : Act).eval o).run P W = .ok (.value v) W := by
  unfold execOp
  simp only [ho, sU, hx]
  rw [Sem.run_bind, hr]
  rfl
theorem oG {t : TypeId} {ps : Array (Nat × Operand)} (vs : Array (Nat × Value)) (v : Value) (ho : o.op = .build t ps) (hx : (ps.map fun (i, x) => (i, ev l x)) = vs)
    (hr : (Instr.build t vs).run P W = .ok v W) : (execOp (⟨l.toArray, ds⟩ : Act).eval o).run P W = .ok (.value v) W := by
  unfold execOp
  simp only [ho, sU, hx]
  rw [Sem.run_bind, hr]
  rfl
theorem KU (l : List Value) (ds : List Deferred) (x : Option Operand) : x.map (⟨l.toArray, ds⟩ : Act).eval = x.map (ev l) := by
  cases x with
  | none => rfl
  | some x => simp [sU]
theorem Ef {t : TypeId} {x : Operand} {lo hi mx : Option Operand} (vx : Value) (vl vh vm : Option Value) (v : Value) (ho : o.op = .slice t x lo hi mx) (hx : ev l x = vx) (hl : lo.map (ev l) = vl) (hh : hi.map (ev l) = vh) (hm : mx.map (ev l) = vm)
    (hr : (Instr.sliceAt t vx vl vh vm).run P W = .ok v W) : (execOp (⟨l.toArray, ds⟩ : Act).eval o).run P W = .ok (.value v) W := by
  unfold execOp
  simp only [ho, sU, KU, hx, hl, hh, hm]
  rw [Sem.run_bind, hr]
  rfl
theorem kP {b : Builtin} {xs : Array Operand} {ts : Array TypeId} (vs : Array Value) (v : Value) (ho : o.op = .call { callee := .builtin b, args := xs, argTypes := ts }) (hx : xs.map (ev l) = vs)
    (hr : (invoke (.builtin b ts o.type (xs.map fun | .const _ => true | _ => false)) vs).run P W = .ok (.value v) W) : (execOp (⟨l.toArray, ds⟩ : Act).eval o).run P W = .ok (.value v) W := by
  unfold execOp
  simp only [ho]
  unfold resolve
  simp only [FN, hx]
  exact hr
theorem jA (hw : Region.wanted o (yielded ops l.toArray) = true) (h : WL P ops Q ({ o with guard := none } :: rest) ⟨l.toArray, ds⟩ W) : WL P ops Q (o :: rest) ⟨l.toArray, ds⟩ W := ⟨Jb hw h.out⟩
theorem jw (j : Nat) (b : Bool) (t : Tmp) (hg : o.guard = some (j, b)) (hd : (ops[j]?).bind (·.dst) = some t) (hv : l[t]? = some (.bool b)) : Region.wanted o (yielded ops l.toArray) = true := by
  simp [Region.wanted, hg, yielded, hd, hv]
theorem jr (j : Nat) (b : Bool) (t : Tmp) (hg : o.guard = some (j, b)) (hd : (ops[j]?).bind (·.dst) = some t) (b' : Bool) (hne : b' ≠ b) (hv : l[t]? = some (.bool b')) : Region.wanted o (yielded ops l.toArray) = false := by
  simp [Region.wanted, hg, yielded, hd, hv, hne]
theorem mW (j : Nat) (b : Bool) (t : Tmp) (hg : o.guard = some (j, b)) (hd : (ops[j]?).bind (·.dst) = some t) (hv : l[t]? = some undef) : Region.wanted o (yielded ops l.toArray) = false := by
  simp [Region.wanted, hg, yielded, hd, hv, undef]
theorem jv (hw : Region.wanted o (yielded ops l.toArray) = false) {d : Tmp} (hd : o.dst = some d) (h : WL P ops Q rest ⟨(l.set d undef).toArray, ds⟩ W) : WL P ops Q (o :: rest) ⟨l.toArray, ds⟩ W := ⟨Jc hw (by rw [hd, Dp]; exact h.out)⟩
end
structure AL (P : Program) (ops : Array Oper) (Q : Exit → Act → World → Prop) (S : World → Prop) (D : List Nat) (n : Nat) (l : Array Bool) (a : Act) (w : World) : Prop where
  out : qG P .any ops Q S D n l a w
section
variable {P : Program} {ops : Array Oper} {o : Oper} {l : List Value} {ds : List Deferred} {Q : Exit → Act → World → Prop} {S : World → Prop} {D : List Nat} {w : World} {n : Nat} {L : Array Bool}
theorem nY {id : Nat} {a : Act} (L : Array Bool) (hm : P.follows .mixedOrders = true) (hn : ops.size = n) (hl : Array.replicate n false = L) (S : World → Prop) (hS : S w.drew) (D : List Nat) (h : AL P ops Q S D n L a w.drew) : (Code.region id ops true).wp P Q a w := MP (S := S) (ds := D) L hm hn hl hS (fun _ => h.out)
theorem oW {a : Act} (hr : (Region.ready .any ops L == []) = true) (h : Q .normal a w) : AL P ops Q S D n L a w := ⟨NK hr h⟩
theorem toL {i : Nat} (hi : ops.toList[i]? = some o) : ops[i]? = some o := by rw [← Array.getElem?_toList]; exact hi
theorem jR (i : Nat) (d : Tmp) (v : Value) (L' : Array Bool) (hi : ops.toList[i]? = some o) (hd : o.dst = some d) (hc : Md .any ops L L' i = true) (hQ : ∀ c a w, Q (.panic c) (a.put o.dst v) w → Q (.panic c) a w) (hw : Region.wanted o (yielded ops l.toArray) = true)
    (hr : ∀ w', (execOp (⟨l.toArray, ds⟩ : Act).eval o).run P w' = .ok (.value v) w') (h : AL P ops Q S D n L' ⟨(l.set d v).toArray, ds⟩ w) : AL P ops Q S D (n + 1) L ⟨l.toArray, ds⟩ w :=
  ⟨MQ (N := some d) (v := v) L' (toL hi) hd hc hQ (.inl ⟨hw, hr⟩) (Dp l ds d v) h.out⟩
theorem lX (i : Nat) {d t : Tmp} {v : Value} (L' : Array Bool) (hi : ops.toList[i]? = some o) (hs : (o.dst, o.op, l[t]?) = (some d, Op.move (.tmp t), some v)) (hc : Md .any ops L L' i = true) (hQ : ∀ c a w, Q (.panic c) (a.put o.dst v) w → Q (.panic c) a w) (hw : Region.wanted o (yielded ops l.toArray) = true)
    (h : AL P ops Q S D n L' ⟨(l.set d v).toArray, ds⟩ w) : AL P ops Q S D (n + 1) L ⟨l.toArray, ds⟩ w := by
  simp only [Prod.mk.injEq] at hs
  obtain ⟨h2, h3, h4⟩ := hs
  exact jR i d v L' hi h2 hc hQ hw (fun w' => by simp [execOp, h3, Act.eval, Frame.eval, h4]) h
theorem yw (i : Nat) {d t : Tmp} {v : Value} (L' : Array Bool) (hi : ops.toList[i]? = some o) (hs : (o.dst, o.op, l[t]?) = (some d, Op.assign (.tmp t), some v)) (hc : Md .any ops L L' i = true) (hQ : ∀ c a w, Q (.panic c) (a.put o.dst v) w → Q (.panic c) a w) (hw : Region.wanted o (yielded ops l.toArray) = true)
    (h : AL P ops Q S D n L' ⟨(l.set d v).toArray, ds⟩ w) : AL P ops Q S D (n + 1) L ⟨l.toArray, ds⟩ w := by
  simp only [Prod.mk.injEq] at hs
  obtain ⟨h2, h3, h4⟩ := hs
  exact jR i d v L' hi h2 hc hQ hw (fun w' => by simp [execOp, h3, Act.eval, Frame.eval, h4]) h
theorem lI (i : Nat) (d : Tmp) (L' : Array Bool) (hi : ops.toList[i]? = some o) (hd : o.dst = some d) (hc : Md .any ops L L' i = true) (hQ : ∀ c a w, Q (.panic c) (a.put o.dst undef) w → Q (.panic c) a w) (hw : Region.wanted o (yielded ops l.toArray) = false)
    (h : AL P ops Q S D n L' ⟨(l.set d undef).toArray, ds⟩ w) : AL P ops Q S D (n + 1) L ⟨l.toArray, ds⟩ w :=
  ⟨MQ (N := some d) (v := undef) L' (toL hi) hd hc hQ (.inr ⟨hw, rfl⟩) (Dp l ds d undef) h.out⟩
theorem lD (i : Nat) (d : Tmp) (v : Value) (L' : Array Bool) (hi : ops.toList[i]? = some o) (hd : o.dst = some d) (hc : takeB .any ops D L L' i = true) (hQ : ∀ c a w, Q (.panic c) (a.put o.dst v) w → Q (.panic c) a w) (hw : Region.wanted o (yielded ops l.toArray) = true)
    (hr : ∀ w', S w' → (execOp (⟨l.toArray, ds⟩ : Act).eval o).run P w' = .ok (.value v) w') (hS : S w) (h : AL P ops Q S D n L' ⟨(l.set d v).toArray, ds⟩ w) : AL P ops Q S D (n + 1) L ⟨l.toArray, ds⟩ w :=
  ⟨KY (N := some d) (v := v) L' (toL hi) hd hc hQ (.inl ⟨hw, hr⟩) hS (Dp l ds d v) h.out⟩
theorem oM (i : Nat) {N : Option Tmp} (L' : Array Bool) {a : Act} (hi : ops.toList[i]? = some o) (hd : o.dst = N) (hc : FT .any ops L L' i = true) (hn : D.contains i = false)
    (h : ∀ K : Act → World → Prop, (∀ a' w', S w' → AL P ops Q S D n L' a' w' → K a' w') → if Region.wanted o (yielded ops a.tmps) = true then Oper.wp P o a w K Q else K (a.put N undef) w) : AL P ops Q S D (n + 1) L a w :=
  ⟨Ob (N := N) L' (toL hi) hd hc (by simpa using hn) (fun K hK => h K (fun a' w' hS hA => hK.out a' w' hS (fun _ => hA.out)))⟩
theorem rD (i : Nat) {N : Option Tmp} (L' : Array Bool) {a : Act} (hi : ops.toList[i]? = some o) (hd : o.dst = N) (hc : FT .any ops L L' i = true) (hn : D.contains i = true)
    (h : ∀ K : Act → World → Prop, (∀ a' w', AL P ops Q S D n L' a' w' → K a' w') → if Region.wanted o (yielded ops a.tmps) = true then Oper.wp P o a w K Q else K (a.put N undef) w) : AL P ops Q S D (n + 1) L a w :=
  ⟨NJ (N := N) L' (toL hi) hd hc (by simpa using hn) (fun K hK => h K (fun a' w' hA => hK.out a' w' hA.out))⟩
end
def BI (P : Program) (c : Code) (Q : Exit → Act → World → Prop) (a : Act) (w : World) : Prop :=
  ∀ (b : Frame) (k : List Item) (cs : List Frame), ∃ e a' w', Q e a' w' ∧ Arrives P (lone (b.at a (.code c :: .inLoop c :: k)) cs w) b k cs e a' w'
theorem kT {P : Program} {c : Code} {Q : Exit → Act → World → Prop} {a : Act} {w : World} (h : BI P c Q a w) : (Code.loop c).wp P Q a w := by
  intro b k cs
  obtain ⟨e, a', w', hq, harr⟩ := h b k cs
  exact ⟨e, a', w', hq, .of_steps (.one step_loop) harr⟩
theorem ku {P : Program} {c : Code} {Q : Exit → Act → World → Prop} {a : Act} {w : World} (h : c.wp P (Exit.then (BI P c Q) Q) a w) : BI P c Q a w := by
  intro b k cs
  obtain ⟨e, a₁, w₁, hq, harr⟩ := h b (.inLoop c :: k) cs
  cases e with
  | normal =>
    obtain ⟨e₂, a₂, w₂, hq₂, harr₂⟩ := hq b k cs
    exact ⟨e₂, a₂, w₂, hq₂, .of_steps (Steps.trans harr (.one step_inLoop)) harr₂⟩
  | exit id => exact ⟨_, a₁, w₁, hq, .pass (x := .inLoop c) rfl (fun _ _ => .inl (by simp)) harr⟩
  | goto l => exact ⟨_, a₁, w₁, hq, .pass (x := .inLoop c) rfl (fun _ _ => .inl (by simp)) harr⟩
  | ret => exact ⟨_, a₁, w₁, hq, .pass (x := .inLoop c) rfl (fun _ _ => .inl (by simp)) harr⟩
  | panic ch => exact ⟨_, a₁, w₁, hq, .pass (x := .inLoop c) rfl (fun _ _ => .inl (by simp)) harr⟩
  | outgrown => exact ⟨_, a₁, w₁, hq, .pass (x := .inLoop c) rfl (fun _ _ => .inl (by simp)) harr⟩
end Go.Proofs.YtpfepkkpbampkaaDoorW.PrintWords
