import Derived.Test.YteoccoklbmjiaaaCEv
import Derived.Test.YteoccoklbmjiaaaWGuard
import Derived.Test.YteoccoklbmjiaaaWTab
set_option linter.unusedVariables false
set_option linter.unusedSimpArgs false
namespace Go.Proofs.YteoccoklbmjiaaaW.PrintWords
open Go.RowKit Go.Proofs.YteoccoklbmjiaaaW.PrintLast Go.Proofs.YteoccoklbmjiaaaW.PrintMore
section
variable {P : Program} {ops : Array Oper} {rest : List Oper} {o : Oper} {l : List Value} {ds : List Deferred} {Q : Exit → Act → World → Prop} {W : World}
def ev (l : List Value) : Operand → Value
  | .tmp t => l.getD t undef
  | x => (⟨l.toArray, []⟩ : Act).eval x
theorem uS (l : List Value) (ds : List Deferred) (x : Operand) : (⟨l.toArray, ds⟩ : Act).eval x = ev l x := by
  cases x <;> first | rfl | (simp [ev, Act.eval, Frame.eval, List.getD_eq_getElem?_getD])
theorem yN (l : List Value) (ds : List Deferred) (d : Tmp) (v : Value) : (⟨l.toArray, ds⟩ : Act).put (some d) v = ⟨(l.set d v).toArray, ds⟩ := by simp [Act.put]
theorem Df (l : List Value) (ds : List Deferred) (xs : Array Operand) : xs.map (⟨l.toArray, ds⟩ : Act).eval = xs.map (ev l) := by
  congr 1
  funext x
  exact uS l ds x
theorem yX {xs : Array Operand} {vs : List Value} (h : xs.toList.map (ev l) = vs) : xs.map (⟨l.toArray, ds⟩ : Act).eval = vs.toArray := by rw [Df]; exact mp_ h
theorem st {d : Tmp} (v : Value) (hg : o.guard = none) (hd : o.dst = some d) (hr : (execOp (⟨l.toArray, ds⟩ : Act).eval o).run P W = .ok (.value v) W) (h : WL P ops Q rest ⟨(l.set d v).toArray, ds⟩ W) : WL P ops Q (o :: rest) ⟨l.toArray, ds⟩ W :=
  ⟨Kd.xA hg hr (by rw [hd, yN]; exact h.out)⟩
theorem mv_ {d t : Tmp} {v : Value} (h : (o.guard, o.dst, o.op, l[t]?) = (none, some d, Op.move (.tmp t), some v)) (k : WL P ops Q rest ⟨(l.set d v).toArray, ds⟩ W) : WL P ops Q (o :: rest) ⟨l.toArray, ds⟩ W := by
  simp only [Prod.mk.injEq] at h
  obtain ⟨h1, h2, h3, h4⟩ := h
  refine st v h1 h2 ?_ k
  simp [execOp, h3, Act.eval, Frame.eval, h4]
theorem as_ {d t : Tmp} {v : Value} (h : (o.guard, o.dst, o.op, l[t]?) = (none, some d, Op.assign (.tmp t), some v)) (k : WL P ops Q rest ⟨(l.set d v).toArray, ds⟩ W) : WL P ops Q (o :: rest) ⟨l.toArray, ds⟩ W := by
  simp only [Prod.mk.injEq] at h
  obtain ⟨h1, h2, h3, h4⟩ := h
  refine st v h1 h2 ?_ k
  simp [execOp, h3, Act.eval, Frame.eval, h4]
theorem yI {w1 : World} (v : Value) (hg : o.guard = none) {d : Tmp} (hd : o.dst = some d) (hr : (execOp (⟨l.toArray, ds⟩ : Act).eval o).run P W = .ok (.value v) w1) (h : WL P ops Q rest ⟨(l.set d v).toArray, ds⟩ w1) : WL P ops Q (o :: rest) ⟨l.toArray, ds⟩ W := ⟨Kd.xA hg hr (by rw [hd, yN]; exact h.out)⟩
theorem wP {x : Operand} (v : Value) (ho : o.op = .move x) (hv : ev l x = v) : (execOp (⟨l.toArray, ds⟩ : Act).eval o).run P W = .ok (.value v) W := by
  simp [execOp, ho, uS, hv]
theorem vT {x : Operand} (v : Value) (ho : o.op = .assign x) (hv : ev l x = v) : (execOp (⟨l.toArray, ds⟩ : Act).eval o).run P W = .ok (.value v) W := by
  simp [execOp, ho, uS, hv]
theorem tC {c x y : Operand} (b : Bool) (v : Value) (ho : o.op = .pick c x y) (hc : ev l c = .bool b) (hv : (if b then ev l x else ev l y) = v) : (execOp (⟨l.toArray, ds⟩ : Act).eval o).run P W = .ok (.value v) W := by
  subst hv
  cases b <;> simp [execOp, ho, uS, hc, asBool] <;> rfl
theorem uM {b : BinOp} {t t2 : TypeId} {x y : Operand} (vx vy v : Value) (ho : o.op = .binOp b t x y t2) (hx : ev l x = vx) (hy : ev l y = vy)
    (hr : ((do eqGuard b t x y vx vy; Go.binOp b t vx vy : Sem Value)).run P W = .ok v W) : (execOp (⟨l.toArray, ds⟩ : Act).eval o).run P W = .ok (.value v) W := by
  unfold execOp
  simp only [ho, uS, hx, hy]
  rw [Sem.run_bind, hr]
  rfl
theorem Io {u : UnOp} {t : TypeId} {x : Operand} (vx v : Value) (ho : o.op = .unOp u t x) (hx : ev l x = vx)
    (hr : (Op.unary u vx).run P W = .ok v W) : (execOp (⟨l.toArray, ds⟩ : Act).eval o).run P W = .ok (.value v) W := by
  unfold execOp
  simp only [ho, uS, hx]
  rw [Sem.run_bind, hr]
  rfl
theorem zB {s t : TypeId} {x : Operand} (vx v : Value) (ho : o.op = .convert s t x) (hx : ev l x = vx)
    (hr : (Go.convert s t vx).run P W = .ok v W) : (execOp (⟨l.toArray, ds⟩ : Act).eval o).run P W = .ok (.value v) W := by
  unfold execOp
  simp only [ho, uS, hx]
  rw [Sem.run_bind, hr]
  rfl
theorem oZ {j : Nat} {x : Operand} (vx v : Value) (ho : o.op = .extract x j) (hx : ev l x = vx)
    (hr : (Instr.extract vx j).run P W = .ok v W) : (execOp (⟨l.toArray, ds⟩ : Act).eval o).run P W = .ok (.value v) W := by
  unfold execOp
  simp only [ho, uS, hx]
  rw [Sem.run_bind, hr]
  rfl
theorem qm {t : TypeId} {x y : Operand} (vx vy v : Value) (ho : o.op = .indexAddr t x y) (hx : ev l x = vx) (hy : ev l y = vy)
    (hr : (Instr.indexAt t vx vy).run P W = .ok v W) : (execOp (⟨l.toArray, ds⟩ : Act).eval o).run P W = .ok (.value v) W := by
  unfold execOp
  simp only [ho, uS, hx, hy]
  rw [Sem.run_bind, hr]
  rfl
theorem uJ {t : TypeId} {x y : Operand} (vx vy v : Value) (ho : o.op = .index t x y) (hx : ev l x = vx) (hy : ev l y = vy)
    (hr : (Instr.index t vx vy).run P W = .ok v W) : (execOp (⟨l.toArray, ds⟩ : Act).eval o).run P W = .ok (.value v) W := by
  unfold execOp
  simp only [ho, uS, hx, hy]
  rw [Sem.run_bind, hr]
  rfl
theorem qc {t : TypeId} {j : Nat} {x : Operand} (vx v : Value) (ho : o.op = .fieldAddr t x j) (hx : ev l x = vx)
    (hr : (Instr.fieldAt t vx j).run P W = .ok v W) : (execOp (⟨l.toArray, ds⟩ : Act).eval o).run P W = .ok (.value v) W := by
  unfold execOp
  simp only [ho, uS, hx]
  rw [Sem.run_bind, hr]
  rfl
theorem qH {t : TypeId} {x : Operand} (vx v : Value) (ho : o.op = .load t x) (hx : ev l x = vx)
    (hr : (Instr.loadAt t vx).run P W = .ok v W) : (execOp (⟨l.toArray, ds⟩ : Act).eval o).run P W = .ok (.value v) W := by
  unfold execOp
  simp only [ho, uS, hx]
  rw [Sem.run_bind, hr]
  rfl
theorem vg {t : TypeId} {ps : Array (Nat × Operand)} (vs : Array (Nat × Value)) (v : Value) (ho : o.op = .build t ps) (hx : (ps.map fun (i, x) => (i, ev l x)) = vs)
    (hr : (Instr.build t vs).run P W = .ok v W) : (execOp (⟨l.toArray, ds⟩ : Act).eval o).run P W = .ok (.value v) W := by
  unfold execOp
  simp only [ho, uS, hx]
  rw [Sem.run_bind, hr]
  rfl
theorem GH (l : List Value) (ds : List Deferred) (x : Option Operand) : x.map (⟨l.toArray, ds⟩ : Act).eval = x.map (ev l) := by
  cases x with
  | none => rfl
  | some x => simp [uS]
theorem wG {t : TypeId} {x : Operand} {lo hi mx : Option Operand} (vx : Value) (vl vh vm : Option Value) (v : Value) (ho : o.op = .slice t x lo hi mx) (hx : ev l x = vx) (hl : lo.map (ev l) = vl) (hh : hi.map (ev l) = vh) (hm : mx.map (ev l) = vm)
    (hr : (Instr.sliceAt t vx vl vh vm).run P W = .ok v W) : (execOp (⟨l.toArray, ds⟩ : Act).eval o).run P W = .ok (.value v) W := by
  unfold execOp
  simp only [ho, uS, GH, hx, hl, hh, hm]
  rw [Sem.run_bind, hr]
  rfl
theorem xq {b : Builtin} {xs : Array Operand} {ts : Array TypeId} (vs : Array Value) (v : Value) (ho : o.op = .call { callee := .builtin b, args := xs, argTypes := ts }) (hx : xs.map (ev l) = vs)
    (hr : (invoke (.builtin b ts o.type (xs.map fun | .const _ => true | _ => false)) vs).run P W = .ok (.value v) W) : (execOp (⟨l.toArray, ds⟩ : Act).eval o).run P W = .ok (.value v) W := by
  unfold execOp
  simp only [ho]
  unfold resolve
  simp only [Df, hx]
  exact hr
theorem Fg (hw : Region.wanted o (yielded ops l.toArray) = true) (h : WL P ops Q ({ o with guard := none } :: rest) ⟨l.toArray, ds⟩ W) : WL P ops Q (o :: rest) ⟨l.toArray, ds⟩ W := ⟨DU hw h.out⟩
theorem ru (j : Nat) (b : Bool) (t : Tmp) (hg : o.guard = some (j, b)) (hd : (ops[j]?).bind (·.dst) = some t) (hv : l[t]? = some (.bool b)) : Region.wanted o (yielded ops l.toArray) = true := by
  simp [Region.wanted, hg, yielded, hd, hv]
theorem pW (j : Nat) (b : Bool) (t : Tmp) (hg : o.guard = some (j, b)) (hd : (ops[j]?).bind (·.dst) = some t) (b' : Bool) (hne : b' ≠ b) (hv : l[t]? = some (.bool b')) : Region.wanted o (yielded ops l.toArray) = false := by
  simp [Region.wanted, hg, yielded, hd, hv, hne]
theorem Ee (j : Nat) (b : Bool) (t : Tmp) (hg : o.guard = some (j, b)) (hd : (ops[j]?).bind (·.dst) = some t) (hv : l[t]? = some undef) : Region.wanted o (yielded ops l.toArray) = false := by
  simp [Region.wanted, hg, yielded, hd, hv, undef]
theorem Dh (hw : Region.wanted o (yielded ops l.toArray) = false) {d : Tmp} (hd : o.dst = some d) (h : WL P ops Q rest ⟨(l.set d undef).toArray, ds⟩ W) : WL P ops Q (o :: rest) ⟨l.toArray, ds⟩ W := ⟨DV hw (by rw [hd, yN]; exact h.out)⟩
end
structure AL (P : Program) (ops : Array Oper) (Q : Exit → Act → World → Prop) (S : World → Prop) (D : List Nat) (n : Nat) (l : Array Bool) (a : Act) (w : World) : Prop where
  out : rU P .any ops Q S D n l a w
section
variable {P : Program} {ops : Array Oper} {o : Oper} {l : List Value} {ds : List Deferred} {Q : Exit → Act → World → Prop} {S : World → Prop} {D : List Nat} {w : World} {n : Nat} {L : Array Bool}
theorem tH {id : Nat} {a : Act} (L : Array Bool) (hm : P.follows .mixedOrders = true) (hn : ops.size = n) (hl : Array.replicate n false = L) (S : World → Prop) (hS : S w.drew) (D : List Nat) (h : AL P ops Q S D n L a w.drew) : (Code.region id ops true).wp P Q a w := II (S := S) (ds := D) L hm hn hl hS (fun _ => h.out)
theorem tX {a : Act} (hr : (Region.ready .any ops L == []) = true) (h : Q .normal a w) : AL P ops Q S D n L a w := ⟨JB hr h⟩
theorem toL {i : Nat} (hi : ops.toList[i]? = some o) : ops[i]? = some o := by rw [← Array.getElem?_toList]; exact hi
theorem pq (i : Nat) (d : Tmp) (v : Value) (L' : Array Bool) (hi : ops.toList[i]? = some o) (hd : o.dst = some d) (hc : H9 .any ops L L' i = true) (hQ : ∀ c a w, Q (.panic c) (a.put o.dst v) w → Q (.panic c) a w) (hw : Region.wanted o (yielded ops l.toArray) = true)
    (hr : ∀ w', (execOp (⟨l.toArray, ds⟩ : Act).eval o).run P w' = .ok (.value v) w') (h : AL P ops Q S D n L' ⟨(l.set d v).toArray, ds⟩ w) : AL P ops Q S D (n + 1) L ⟨l.toArray, ds⟩ w :=
  ⟨IJ (N := some d) (v := v) L' (toL hi) hd hc hQ (.inl ⟨hw, hr⟩) (yN l ds d v) h.out⟩
theorem sD (i : Nat) {d t : Tmp} {v : Value} (L' : Array Bool) (hi : ops.toList[i]? = some o) (hs : (o.dst, o.op, l[t]?) = (some d, Op.move (.tmp t), some v)) (hc : H9 .any ops L L' i = true) (hQ : ∀ c a w, Q (.panic c) (a.put o.dst v) w → Q (.panic c) a w) (hw : Region.wanted o (yielded ops l.toArray) = true)
    (h : AL P ops Q S D n L' ⟨(l.set d v).toArray, ds⟩ w) : AL P ops Q S D (n + 1) L ⟨l.toArray, ds⟩ w := by
  simp only [Prod.mk.injEq] at hs
  obtain ⟨h2, h3, h4⟩ := hs
  exact pq i d v L' hi h2 hc hQ hw (fun w' => by simp [execOp, h3, Act.eval, Frame.eval, h4]) h
theorem wH (i : Nat) {d t : Tmp} {v : Value} (L' : Array Bool) (hi : ops.toList[i]? = some o) (hs : (o.dst, o.op, l[t]?) = (some d, Op.assign (.tmp t), some v)) (hc : H9 .any ops L L' i = true) (hQ : ∀ c a w, Q (.panic c) (a.put o.dst v) w → Q (.panic c) a w) (hw : Region.wanted o (yielded ops l.toArray) = true)
    (h : AL P ops Q S D n L' ⟨(l.set d v).toArray, ds⟩ w) : AL P ops Q S D (n + 1) L ⟨l.toArray, ds⟩ w := by
  simp only [Prod.mk.injEq] at hs
  obtain ⟨h2, h3, h4⟩ := hs
  exact pq i d v L' hi h2 hc hQ hw (fun w' => by simp [execOp, h3, Act.eval, Frame.eval, h4]) h
theorem rF (i : Nat) (d : Tmp) (L' : Array Bool) (hi : ops.toList[i]? = some o) (hd : o.dst = some d) (hc : H9 .any ops L L' i = true) (hQ : ∀ c a w, Q (.panic c) (a.put o.dst undef) w → Q (.panic c) a w) (hw : Region.wanted o (yielded ops l.toArray) = false)
    (h : AL P ops Q S D n L' ⟨(l.set d undef).toArray, ds⟩ w) : AL P ops Q S D (n + 1) L ⟨l.toArray, ds⟩ w :=
  ⟨IJ (N := some d) (v := undef) L' (toL hi) hd hc hQ (.inr ⟨hw, rfl⟩) (yN l ds d undef) h.out⟩
def GI (ops : Array Oper) (i d : Nat) : Bool := match ops[d]? with
  | some o => o.after.any fun e => Region.binds .any e && e.on == i
  | none => false
def takeD (ops : Array Oper) (ds : List Nat) (l l' : Array Bool) (i : Nat) : Bool :=
  Region.noSelect ops && Region.free .any ops l i && (Region.ready .any ops l).contains i && Region.Au .any ops l && (ds.all fun d => l.getD d true || (GI ops i d || Region.xB .any ops i ops.size d)) && (l.setIfInBounds i true == l')
theorem Dy {ops : Array Oper} {i d : Nat} (h : GI ops i d = true) : Region.xB .any ops i ops.size d = true := by
  unfold GI at h
  cases ho : ops[d]? with
  | none => rw [ho] at h; cases h
  | some o =>
    rw [ho] at h
    have hlt : d < ops.size := (Array.getElem?_eq_some_iff.1 ho).1
    obtain ⟨n, hn⟩ : ∃ n, ops.size = n + 1 := ⟨ops.size - 1, by omega⟩
    rw [hn]
    unfold Region.xB
    rw [ho]
    dsimp only at h ⊢
    rw [Array.any_eq_true] at h ⊢
    obtain ⟨j, hj, hh⟩ := h
    refine ⟨j, hj, ?_⟩
    simp only [Bool.and_eq_true, Bool.or_eq_true] at hh ⊢
    exact ⟨hh.1, .inl hh.2⟩
theorem GK {ops : Array Oper} {ds : List Nat} {l l' : Array Bool} {i : Nat} (h : takeD ops ds l l' i = true) : takeB .any ops ds l l' i = true := by
  unfold takeD at h
  unfold takeB Region.lastB
  simp only [Bool.and_eq_true] at h ⊢
  obtain ⟨⟨⟨⟨⟨h1, h2⟩, h3⟩, h4⟩, h5⟩, h6⟩ := h
  refine ⟨⟨⟨⟨⟨h1, h2⟩, h3⟩, h4⟩, ?_⟩, h6⟩
  rw [List.all_eq_true] at h5 ⊢
  intro d hd
  have h7 := h5 d hd
  simp only [Bool.or_eq_true] at h7 ⊢
  rcases h7 with h7 | h7 | h7
  · exact .inl h7
  · exact .inr (Dy h7)
  · exact .inr h7
theorem rD (i : Nat) (d : Tmp) (v : Value) (L' : Array Bool) (hi : ops.toList[i]? = some o) (hd : o.dst = some d) (hc : takeD ops D L L' i = true) (hQ : ∀ c a w, Q (.panic c) (a.put o.dst v) w → Q (.panic c) a w) (hw : Region.wanted o (yielded ops l.toArray) = true)
    (hr : ∀ w', S w' → (execOp (⟨l.toArray, ds⟩ : Act).eval o).run P w' = .ok (.value v) w') (hS : S w) (h : AL P ops Q S D n L' ⟨(l.set d v).toArray, ds⟩ w) : AL P ops Q S D (n + 1) L ⟨l.toArray, ds⟩ w :=
  ⟨xk (N := some d) (v := v) L' (toL hi) hd (GK hc) hQ (.inl ⟨hw, hr⟩) hS (yN l ds d v) h.out⟩
theorem uo (i : Nat) {N : Option Tmp} (L' : Array Bool) {a : Act} (hi : ops.toList[i]? = some o) (hd : o.dst = N) (hc : Ad .any ops L L' i = true) (hn : D.contains i = false)
    (h : ∀ K : Act → World → Prop, (∀ a' w', S w' → AL P ops Q S D n L' a' w' → K a' w') → if Region.wanted o (yielded ops a.tmps) = true then Oper.wp P o a w K Q else K (a.put N undef) w) : AL P ops Q S D (n + 1) L a w :=
  ⟨J3 (N := N) L' (toL hi) hd hc (by simpa using hn) (fun K hK => h K (fun a' w' hS hA => hK.out a' w' hS (fun _ => hA.out)))⟩
theorem wQ (i : Nat) {N : Option Tmp} (L' : Array Bool) {a : Act} (hi : ops.toList[i]? = some o) (hd : o.dst = N) (hc : Ad .any ops L L' i = true) (hn : D.contains i = true)
    (h : ∀ K : Act → World → Prop, (∀ a' w', AL P ops Q S D n L' a' w' → K a' w') → if Region.wanted o (yielded ops a.tmps) = true then Oper.wp P o a w K Q else K (a.put N undef) w) : AL P ops Q S D (n + 1) L a w :=
  ⟨JA (N := N) L' (toL hi) hd hc (by simpa using hn) (fun K hK => h K (fun a' w' hA => hK.out a' w' hA.out))⟩
def Ef (ops : Array Oper) (l l1 l2 : Array Bool) (i j : Nat) : Bool := (Region.ready .any ops l == [i, j]) && ((l.setIfInBounds i true == l1) && (l.setIfInBounds j true == l2))
theorem Bd (i j : Nat) {N N2 : Option Tmp} {o2 : Oper} (L1 L2 : Array Bool) {a : Act} (hi : ops.toList[i]? = some o) (hj : ops.toList[j]? = some o2) (hd : o.dst = N) (hd2 : o2.dst = N2) (hc : Ef ops L L1 L2 i j = true) (hn : D.contains i = false) (hn2 : D.contains j = false)
    (h : ∀ K : Act → World → Prop, (∀ a' w', S w' → AL P ops Q S D n L1 a' w' → K a' w') → if Region.wanted o (yielded ops a.tmps) = true then Oper.wp P o a w K Q else K (a.put N undef) w)
    (h2 : ∀ K : Act → World → Prop, (∀ a' w', S w' → AL P ops Q S D n L2 a' w' → K a' w') → if Region.wanted o2 (yielded ops a.tmps) = true then Oper.wp P o2 a w K Q else K (a.put N2 undef) w) : AL P ops Q S D (n + 1) L a w := by
  subst hd; subst hd2
  simp only [Ef, Bool.and_eq_true, beq_iff_eq] at hc
  obtain ⟨h1, h3, h4⟩ := hc
  subst h3; subst h4
  exact ⟨wU h1 (by simp) (tY.cons (toL hi) (by simpa using hn) (fun K hK => h K (fun a' w' hS hA => hK.out a' w' hS (fun _ => hA.out))) (tY.cons (toL hj) (by simpa using hn2) (fun K hK => h2 K (fun a' w' hS hA => hK.out a' w' hS (fun _ => hA.out))) tY.nil))⟩
end
def yt (P : Program) (c : Code) (Q : Exit → Act → World → Prop) (a : Act) (w : World) : Prop :=
  ∀ (b : Frame) (k : List Item) (cs : List Frame), ∃ e a' w', Q e a' w' ∧ Arrives P (lone (b.at a (.code c :: .inLoop c :: k)) cs w) b k cs e a' w'
theorem rC {P : Program} {c : Code} {Q : Exit → Act → World → Prop} {a : Act} {w : World} (h : yt P c Q a w) : (Code.loop c).wp P Q a w := by
  intro b k cs
  obtain ⟨e, a', w', hq, harr⟩ := h b k cs
  exact ⟨e, a', w', hq, .of_steps (.one step_loop) harr⟩
theorem qy {P : Program} {c : Code} {Q : Exit → Act → World → Prop} {a : Act} {w : World} (h : c.wp P (Exit.then (yt P c Q) Q) a w) : yt P c Q a w := by
  intro b k cs
  obtain ⟨e, a₁, w₁, hq, harr⟩ := h b (.inLoop c :: k) cs
  cases e with
  | normal =>
    obtain ⟨e₂, a₂, w₂, hq₂, harr₂⟩ := hq b k cs
    exact ⟨e₂, a₂, w₂, hq₂, .of_steps (Steps.trans harr (.one step_inLoop)) harr₂⟩
  | exit id => exact ⟨_, a₁, w₁, hq, .pass (x := .inLoop c) rfl (fun _ _ => .inl (by simp)) harr⟩
  | goto l => exact ⟨_, a₁, w₁, hq, .pass (x := .inLoop c) rfl (fun _ _ => .inl (by simp)) harr⟩
  | ret => exact ⟨_, a₁, w₁, hq, .pass (x := .inLoop c) rfl (fun _ _ => .inl (by simp)) harr⟩
  | panic ch => exact ⟨_, a₁, w₁, hq, .pass (x := .inLoop c) rfl (fun _ _ => .inl (by simp)) harr⟩
  | outgrown => exact ⟨_, a₁, w₁, hq, .pass (x := .inLoop c) rfl (fun _ _ => .inl (by simp)) harr⟩
end Go.Proofs.YteoccoklbmjiaaaW.PrintWords
