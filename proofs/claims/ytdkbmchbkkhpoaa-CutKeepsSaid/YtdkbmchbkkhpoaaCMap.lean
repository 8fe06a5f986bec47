import Derived.Test.YtdkbmchbkkhpoaaCObj
import Derived.MapKept
import Derived.Carry
set_option linter.unusedVariables false
set_option linter.unusedSimpArgs false
namespace Go.Proofs.YtdkbmchbkkhpoaaW.PrintWords
open Go.RowKit Go.Proofs.YtdkbmchbkkhpoaaW.PrintLast Go.Proofs.YtdkbmchbkkhpoaaW.PrintMore
section
variable {κ ν : Type} [DecidableEq κ]
def nU : List (κ × ν) → κ → Bool
  | [], _ => false
  | p :: l, k => if p.1 = k then true else nU l k
def oV (z : ν) : List (κ × ν) → κ → ν
  | [], _ => z
  | p :: l, k => if p.1 = k then p.2 else oV z l k
def qV : List (κ × ν) → κ → ν → List (κ × ν)
  | [], k, v => [(k, v)]
  | p :: l, k, v => if p.1 = k then (k, v) :: l else p :: qV l k v
end
structure Am {κ : Type} [DecidableEq κ] (P : Program) (k : TypeId) (dt : TypeDesc) (ek : κ → Value) : Prop where
  under : P.underlying k = some dt
  isKey : ∀ a, MapKept.IsKey dt (ek a)
  same : ∀ a b, Instr.sameNow dt (ek a) (ek b) = some (decide (a = b))
theorem CB {κ : Type} [DecidableEq κ] {P : Program} {k : TypeId} {dt : TypeDesc} {ek : κ → Value} (hu : P.underlying k = some dt) (hi : ∀ a, MapKept.IsKey dt (ek a)) (hj : ∀ a b, ek a = ek b → a = b) : Am P k dt ek :=
  ⟨hu, hi, fun a b => by
    obtain ⟨r, hr, hiff⟩ := MapKept.sameNow_of_keys (hi a) (hi b)
    rw [hr]
    congr 1
    rw [Bool.eq_iff_iff, hiff, decide_eq_true_iff]
    exact ⟨hj a b, fun e => by rw [e]⟩⟩
theorem nV {P : Program} {k : TypeId} {q : IntKind} (h : P.underlying k = some (.int q)) : Am P k (.int q) (Value.int q) := CB h (fun _ => rfl) (fun a b e => by injection e)
section
variable {κ ν : Type} [DecidableEq κ] {P : Program} {W : World} {k e t : TypeId} {dt : TypeDesc} {ek : κ → Value} {ev : ν → Value} {b : Nat} {l : List (κ × ν)} {key : κ} {z : ν}
theorem uH (K : Am P k dt ek) (key : κ) : ∀ (es : List MapEntry) (l : List (κ × ν)) (i : Nat), es.map (fun e => (e.key, e.val)) = l.map (fun p => (ek p.1, ev p.2)) → nU l key = false → Instr.findNow dt (ek key) es i = some none
  | [], [], i, _, _ => rfl
  | x :: es, p :: l, i, h, hn => by
    simp only [List.map_cons, List.cons.injEq, Prod.mk.injEq] at h
    obtain ⟨⟨h1, h2⟩, h3⟩ := h
    unfold nU at hn
    by_cases hp : p.1 = key
    · rw [if_pos hp] at hn; cases hn
    · rw [if_neg hp] at hn
      rw [Instr.findNow, h1, K.same, decide_eq_false (fun e => hp e.symm)]
      exact uH K key es l (i + 1) h3 hn
theorem uI (K : Am P k dt ek) (key : κ) (z : ν) : ∀ (es : List MapEntry) (l : List (κ × ν)) (i : Nat), es.map (fun e => (e.key, e.val)) = l.map (fun p => (ek p.1, ev p.2)) → nU l key = true →
    ∃ j x, Instr.findNow dt (ek key) es i = some (some (i + j, ev (oV z l key))) ∧ es[j]? = some x ∧ x.key = ek key ∧ ∀ v, (es.modify j (fun e => { e with key := ek key, val := ev v })).map (fun e => (e.key, e.val)) = (qV l key v).map (fun p => (ek p.1, ev p.2))
  | [], [], i, _, hn => by simp [nU] at hn
  | x :: es, p :: l, i, h, hn => by
    simp only [List.map_cons, List.cons.injEq, Prod.mk.injEq] at h
    obtain ⟨⟨h1, h2⟩, h3⟩ := h
    unfold nU at hn
    by_cases hp : p.1 = key
    · refine ⟨0, x, ?_, rfl, by rw [h1, hp], fun v => ?_⟩
      · rw [Instr.findNow, h1, K.same, decide_eq_true hp.symm, h2, oV, if_pos hp]; rfl
      · rw [qV, if_pos hp]
        simp [h3]
    · rw [if_neg hp] at hn
      obtain ⟨j, y, e1, e2, e3, e4⟩ := uI K key z es l (i + 1) h3 hn
      refine ⟨j + 1, y, ?_, by simpa using e2, e3, fun v => ?_⟩
      · rw [Instr.findNow, h1, K.same, decide_eq_false (fun e => hp e.symm), oV, if_neg hp]
        simp only
        rw [e1, show i + 1 + j = i + (j + 1) by omega]
      · rw [qV, if_neg hp]
        simp only [List.modify_succ_cons, List.map_cons, h1, h2]
        rw [e4 v]
theorem Ap (h : nU l key = false) : oV z l key = z := by
  induction l with
  | nil => rfl
  | cons p l ih =>
    unfold nU at h
    by_cases hp : p.1 = key
    · rw [if_pos hp] at h; cases h
    · rw [if_neg hp] at h; rw [oV, if_neg hp]; exact ih h
theorem Aq (h : nU l key = false) (v : ν) : qV l key v = l ++ [(key, v)] := by
  induction l with
  | nil => rfl
  | cons p l ih =>
    unfold nU at h
    by_cases hp : p.1 = key
    · rw [if_pos hp] at h; cases h
    · rw [if_neg hp] at h; rw [qV, if_neg hp, ih h]; rfl
theorem xJ {zv : Value} {sz by_ : Nat} (hi : (P.info? e).map (fun i => (i.zero, i.size, i.bytes)) = some (some zv, sz, by_)) : (zeroValue e).run P W = .ok zv W := by
  obtain ⟨i, hi0, hz, _⟩ := info_parts hi
  simp [zeroValue, typeInfo, hi0, hz, Result.andThen]
theorem uJ (K : Am P k dt ek) (ht : P.underlying t = some (.map k e)) {sz by_ : Nat} (hi : (P.info? e).map (fun i => (i.zero, i.size, i.bytes)) = some (some (ev z), sz, by_)) (h : Kd.zl ek ev W b l) (key : κ) (c : Bool) :
    (Instr.lookup t (.map (some b)) (ek key) c).run P W = .ok (if c then .tuple #[ev (oV z l key), .bool (nU l key)] else ev (oV z l key)) W := by
  obtain ⟨es, clock, hb, he⟩ := h
  have hck : ∀ q, (Instr.checkKey q 10000 k (ek key)).run P W = .ok () W := fun q => MapKept.run_checkKey K.under (K.isKey key) q 9999
  cases hm : nU l key with
  | false =>
    have h1 := uH K key es.toList l 0 he hm
    simp [Instr.lookup, run_underlying ht, MapKept.run_getObj_map hb, hck, MapKept.run_findKey K.under h1, xJ hi, Result.andThen, Ap hm]
  | true =>
    obtain ⟨j, x, h1, _⟩ := uI K key z es.toList l 0 he hm
    simp [Instr.lookup, run_underlying ht, MapKept.run_getObj_map hb, hck, MapKept.run_findKey K.under h1, Result.andThen]
theorem y9 (K : Am P k dt ek) (ht : P.underlying t = some (.map k e)) {sz by_ : Nat} (hi : (P.info? e).map (fun i => (i.zero, i.size, i.bytes)) = some (some (ev z), sz, by_)) (key : κ) (c : Bool) :
    (Instr.lookup t (.map none) (ek key) c).run P W = .ok (if c then .tuple #[ev (oV z [] key), .bool (nU ([] : List (κ × ν)) key)] else ev (oV z [] key)) W := by
  have hck : ∀ q, (Instr.checkKey q 10000 k (ek key)).run P W = .ok () W := fun q => MapKept.run_checkKey K.under (K.isKey key) q 9999
  have h1 : Instr.findNow dt (ek key) ([] : List MapEntry) 0 = some none := rfl
  simp [Instr.lookup, run_underlying ht, hck, MapKept.run_findKey K.under h1, xJ hi, Result.andThen, oV, nU]
theorem zf (K : Am P k dt ek) (ht : P.underlying t = some (.map k e)) {sz by_ : Nat} (hi : (P.info? e).map (fun i => (i.zero, i.size, i.bytes)) = some (some (ev z), sz, by_)) {v : Value} (h : (Kd.mp ek ev).K W l [v]) (key : κ) (c : Bool) :
    (Instr.lookup t v (ek key) c).run P W = .ok (if c then .tuple #[ev (oV z l key), .bool (nU l key)] else ev (oV z l key)) W := by
  rcases h with ⟨hv, rfl⟩ | ⟨b, hv, h⟩
  · have : v = .map none := by simpa using hv
    subst this
    exact y9 K ht hi key c
  · have : v = .map (some b) := by simpa using hv
    subst this
    exact uJ K ht hi h key c
def mY (W : World) (b : Nat) (o : Obj) : World := { W with heap := W.heap.setIfInBounds b o }
theorem zh (K : Am P k dt ek) (ht : P.underlying t = some (.map k e)) (h : Kd.zl ek ev W b l) (key : κ) (v : ν) :
    ∃ o, (Instr.mapUpdate t (.map (some b)) (ek key) (ev v)).run P W = .ok () (mY W b o) ∧ Kd.zl ek ev (mY W b o) b (qV l key v) := by
  obtain ⟨es, clock, hb, he⟩ := h
  have hlt : b < W.heap.size := (Array.getElem?_eq_some_iff.1 hb).1
  have hck : ∀ q, (Instr.checkKey q 10000 k (ek key)).run P W = .ok () W := fun q => MapKept.run_checkKey K.under (K.isKey key) q 9999
  cases hm : nU l key with
  | false =>
    have h1 := uH K key es.toList l 0 he hm
    refine ⟨.map (es.push { key := ek key, val := ev v, born := clock }) (clock + 1), ?_, es.push { key := ek key, val := ev v, born := clock }, clock + 1, by unfold mY; simp [hlt], ?_⟩
    · simp [Instr.mapUpdate, run_underlying ht, MapKept.run_getObj_map hb, hck, MapKept.run_findKey K.under h1, MapKept.run_setObj_map _ hb, Result.andThen, mY]
    · rw [Aq hm]
      simp [he]
  | true =>
    obtain ⟨j, x, h1, h2, h3, h4⟩ := uI K key v es.toList l 0 he hm
    have h2' : es[j]? = some x := by rw [← Array.getElem?_toList]; exact h2
    refine ⟨.map (es.modify j fun e => { e with key := ek key, val := ev v }) clock, ?_, es.modify j fun e => { e with key := ek key, val := ev v }, clock, by unfold mY; simp [hlt], ?_⟩
    · simp [Instr.mapUpdate, run_underlying ht, MapKept.run_getObj_map hb, hck, MapKept.run_findKey K.under h1, h2', h3, MapKept.run_keyThatStays (K.isKey key), MapKept.run_setObj_map _ hb, Result.andThen, mY]
    · rw [Array.toList_modify]
      exact h4 v
end
def Mp {κ ν : Type} (ek : κ → Value) (ev : ν → Value) (C : Nat → Nat) (z : Nat) (W : World) (b : Nat) (l : List (κ × ν)) : Prop := C b = z ∧ Kd.zl ek ev W b l
namespace Mp
variable {κ ν : Type} {ek : κ → Value} {ev : ν → Value} {C c' c'' : Nat → Nat} {z b : Nat} {W w' : World} {S T : List Nat} {l : List (κ × ν)}
theorem lt (h : Mp ek ev C z W b l) : b < W.heap.size := by
  obtain ⟨_, es, clock, hb, _⟩ := h
  exact (Array.getElem?_eq_some_iff.1 hb).1
theorem move (h : Mp ek ev C z W b l) (hc : c' b = C b) (hm : w'.heap[b]? = W.heap[b]?) : Mp ek ev c' z w' b l := by
  obtain ⟨h0, es, clock, hb, he⟩ := h
  exact ⟨hc.trans h0, es, clock, hm.trans hb, he⟩
theorem iE (h : Mp ek ev C z W b l) (s : Step C W c' w' S) (hZ : S.contains z = false) : Mp ek ev c' z w' b l :=
  h.move (s.col b h.lt) (s.keep b h.lt (fun hm => by rw [h.1] at hm; simp at hZ; exact hZ hm))
theorem below (h : Mp ek ev C z W b l) (hb : Below W.heap.size W w') : Mp ek ev C z w' b l := h.move rfl (hb.block b h.lt)
theorem drew (h : Mp ek ev C z W b l) : Mp ek ev C z W.drew b l := h.below (below_drew (Below.refl _ _))
theorem drewN (h : Mp ek ev C z W b l) (m : Nat) : Mp ek ev C z (W.drewN m) b l := h.below (lD (Below.refl _ _) m)
theorem alloc (h : Mp ek ev C z W b l) (o : Obj) : Mp ek ev C z (W.alloc o) b l := h.below (below_alloc (Below.refl _ _) o)
theorem recol (h : Mp ek ev C z W b l) {x y : Nat} (hz : z ≠ x) : Mp ek ev (recol C x y) z W b l := ⟨by unfold PrintWords.recol; rw [if_neg (by rw [h.1]; exact hz)]; exact h.1, h.2⟩
theorem recolor (h : Mp ek ev C z W b l) {y : Nat} : Mp ek ev (PrintWords.recol C z y) y W b l := ⟨by unfold PrintWords.recol; rw [if_pos h.1], h.2⟩
theorem ft (h : Mp ek ev C z W b l) : Ft C [z] W (fun w_ => (Kd.mp ek ev).K w_ l [.map (some b)]) := fun W' hW => by
  obtain ⟨h0, es, clock, hb, he⟩ := h
  exact .inr ⟨b, rfl, es, clock, (hW b (by simp [h0]) (Array.getElem?_eq_some_iff.1 hb).1).trans hb, he⟩
theorem arg {L : List (Nat × Nat)} {j : Nat} (h : Mp ek ev C z W b l) (hj : pal L z = j) : Mp ek ev (fun k => pal L (C k)) j W b l := ⟨by show pal L (C b) = j; rw [h.1]; exact hj, h.2⟩
theorem res {L U : List (Nat × Nat)} {j i : Nat} {w1 : World} (h : Mp ek ev c'' i w1 b l) (s : Step (fun k => pal L (C k)) W c'' w1 T) (hL : (L.all fun p => (p.2 != i || p.1 == j)) = true) (h9 : i ≠ 9) (hU : pal U i = j) : Mp ek ev (up C c'' W.heap.size U) j w1 b l := by
  refine ⟨?_, h.2⟩
  unfold up
  by_cases hlt : b < W.heap.size
  · rw [if_pos hlt]
    have e := s.col b hlt
    rw [h.1] at e
    have := List.all_eq_true.1 hL _ (oI e.symm h9)
    simpa using this
  · rw [if_neg hlt, h.1]; exact hU
end Mp
namespace Bx
variable {C c'' : Nat → Nat} {z i g t : Nat} {W : World} {T : List Nat} {l : List Value}
theorem arg {L : List (Nat × Nat)} {j : Nat} (h : Bx C z W g t l) (hj : pal L z = j) : Bx (fun k => pal L (C k)) j W g t l := ⟨by show pal L (C g) = j; rw [h.1]; exact hj, h.2⟩
theorem res {L U : List (Nat × Nat)} {j : Nat} {w1 : World} (h : Bx c'' i w1 g t l) (s : Step (fun k => pal L (C k)) W c'' w1 T) (hL : (L.all fun p => (p.2 != i || p.1 == j)) = true) (h9 : i ≠ 9) (hU : pal U i = j) : Bx (up C c'' W.heap.size U) j w1 g t l := by
  refine ⟨?_, h.2⟩
  unfold up
  by_cases hlt : g < W.heap.size
  · rw [if_pos hlt]
    have e := s.col g hlt
    rw [h.1] at e
    have := List.all_eq_true.1 hL _ (oI e.symm h9)
    simpa using this
  · rw [if_neg hlt, h.1]; exact hU
end Bx
section
variable {κ ν : Type} {W : World} {C : Nat → Nat} {ek : κ → Value} {ev : ν → Value}
theorem zi (z : Nat) : Mp ek ev (ext C W.heap.size z) z (W.alloc (.map #[] 0)) W.heap.size ([] : List (κ × ν)) ∧ Step C W (ext C W.heap.size z) (W.alloc (.map #[] 0)) [] :=
  ⟨⟨nP C (Nat.le_refl _), #[], 0, heap_alloc_new W _, rfl⟩, Step.yL C (below_alloc (Below.refl _ _) _) z⟩
theorem wO {b : Nat} {z : Nat} {lm : List (κ × ν)} {o' : Obj} (HB : Mp ek ev C z W b lm) : Step C W C (mY W b o') [z] :=
  ⟨rfl, rfl, rfl, by simp [mY], fun _ _ => rfl, fun k hk hn => by
    have hne : k ≠ b := fun e => hn (by rw [e, HB.1]; simp)
    simp [mY, Ne.symm hne]⟩
end
section
variable {κ ν : Type} {P : Program} {ops : Array Oper} {rest : List Oper} {o : Oper} {l : List Value} {ds : List Deferred} {Q : Exit → Act → World → Prop} {Kc : Act → World → Prop} {W : World} {C : Nat → Nat} {ek : κ → Value} {ev : ν → Value}
theorem yj {t : TypeId} (ho : o.op = .makeMap t none) : (execOp (⟨l.toArray, ds⟩ : Act).eval o).run P W = .ok (.value (.map (some W.heap.size))) (W.alloc (.map #[] 0)) := by
  unfold execOp
  simp only [ho, Option.map_none]
  rw [Sem.run_bind, run_makeMap]
  rfl
theorem Bd {d : Tmp} {t : TypeId} (ek : κ → Value) (ev : ν → Value) (z : Nat) (hg : o.guard = none) (hd : o.dst = some d) (ho : o.op = .makeMap t none)
    (h : ∀ b w1 C1, Mp ek ev C1 z w1 b [] → Step C W C1 w1 [] → WL P ops Q rest ⟨(l.set d (.map (some b))).toArray, ds⟩ w1) : WL P ops Q (o :: rest) ⟨l.toArray, ds⟩ W :=
  og _ hg hd (yj ho) (h _ _ _ (zi z).1 (zi (ek := ek) (ev := ev) z).2)
theorem qj {t : TypeId} {x y : Operand} {c : Bool} (vx vy v : Value) (ho : o.op = .lookup t x y c) (hx : PrintWords.ev l x = vx) (hy : PrintWords.ev l y = vy) (hr : (Instr.lookup t vx vy c).run P W = .ok v W) : (execOp (⟨l.toArray, ds⟩ : Act).eval o).run P W = .ok (.value v) W := by
  unfold execOp
  simp only [ho, lG, show PrintWords.ev l x = vx from hx, show PrintWords.ev l y = vy from hy]
  rw [Sem.run_bind, hr]
  rfl
theorem qW [DecidableEq κ] {t k e : TypeId} {dt : TypeDesc} {m x y : Operand} {z b : Nat} {lm : List (κ × ν)} (key : κ) (v : ν) (K : Am P k dt ek) (ht : P.underlying t = some (.map k e)) (hN : o.dst = none) (hg : o.guard = none) (ho : o.op = .mapUpdate t m x y) (hm : PrintWords.ev l m = .map (some b)) (hx : PrintWords.ev l x = ek key) (hy : PrintWords.ev l y = ev v)
    (HB : Mp ek ev C z W b lm) {l' : List (κ × ν)} (hl : qV lm key v = l') (h : ∀ w1, Mp ek ev C z w1 b l' → Step C W C w1 [z] → WL P ops Q rest ⟨l.toArray, ds⟩ w1) : WL P ops Q (o :: rest) ⟨l.toArray, ds⟩ W := by
  subst hl
  obtain ⟨o', hr, hM⟩ := zh K ht HB.2 key v
  have hrun : (execOp (⟨l.toArray, ds⟩ : Act).eval o).run P W = .ok .skip (mY W b o') := by
    unfold execOp
    simp only [ho, lG, show PrintWords.ev l m = _ from hm, show PrintWords.ev l x = _ from hx, show PrintWords.ev l y = _ from hy]
    rw [Sem.run_bind, hr]
    rfl
  refine ⟨wpList_plain hg fun K hK => ?_⟩
  unfold Oper.wp
  rw [hrun]
  unfold Oper.upon
  have := hK ⟨l.toArray, ds⟩ _ (h _ ⟨HB.1, hM⟩ (wO HB)).out
  simpa [hN, Act.put] using this
def nY {α β : Type} (x : Option α) (n : Option β) (f : α → Option β) : Option β := match x with | none => n | some a => f a
theorem jf {x : Operand} (a : Addr) (ho : o.op = .nilCheck x) (hx : PrintWords.ev l x = .pointer (some a)) : (execOp (⟨l.toArray, ds⟩ : Act).eval o).run P W = .ok (.value (.pointer (some a))) W := by
  unfold execOp
  simp only [ho, lG, show PrintWords.ev l x = _ from hx]
  rfl
theorem zk {f : FuncId} {fn : Func} {x : Operand} {as : Array Operand} {ts : Array TypeId} {vs cap : Array Value} (hf : P.funcs[f]? = some fn) (hname : (fn.name == "runtime.NumGoroutine") = false) (hb : fn.body.isSome = true) (ho : o.op = .call { callee := .value x, args := as, argTypes := ts }) (hx : PrintWords.ev l x = .func (.func f) #[] cap) (hargs : as.map (PrintWords.ev l) = vs) :
    (execOp (⟨l.toArray, ds⟩ : Act).eval o).run P W = .ok (.enter f (vs ++ cap)) W := by
  have he := uz (P := P) hf hname hb (vs ++ cap) W
  have hx2 : (⟨l.toArray, ds⟩ : Act).eval x = .func (.func f) #[] cap := by rw [lG]; exact hx
  have ha2 : as.map (⟨l.toArray, ds⟩ : Act).eval = vs := by rw [sZ]; exact hargs
  unfold execOp
  simp [ho, resolve, Deferred.ofValue, invoke, hx2, ha2, he]
theorem Ar {d : Tmp} {f : FuncId} {fn : Func} {x : Operand} {as : Array Operand} {ts : Array TypeId} (vs cap all : Array Value) (hg : o.guard = none) (hd : o.dst = some d) (hf : P.funcs[f]? = some fn) (hname : (fn.name == "runtime.NumGoroutine") = false) (hb : fn.body.isSome = true)
    (ho : o.op = .call { callee := .value x, args := as, argTypes := ts }) (hx : PrintWords.ev l x = .func (.func f) #[] cap) (hargs : as.map (PrintWords.ev l) = vs) (hall : vs ++ cap = all) (h : Calls P f all W fun e w' => ∃ v, e = .returned v ∧ WL P ops Q rest ⟨(l.set d v).toArray, ds⟩ w') : WL P ops Q (o :: rest) ⟨l.toArray, ds⟩ W := by
  subst hall
  refine ⟨wpList_plain hg fun K hK => ?_⟩
  unfold Oper.wp
  rw [zk hf hname hb ho hx hargs, Oper.upon_enter]
  refine h.mono fun e w'' hh => ?_
  obtain ⟨v, rfl, hk⟩ := hh
  refine hK _ _ ?_
  rw [hd, pV]
  exact hk.out
end
end Go.Proofs.YtdkbmchbkkhpoaaW.PrintWords
