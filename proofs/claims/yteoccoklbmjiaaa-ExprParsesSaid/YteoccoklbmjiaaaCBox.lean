import Derived.Test.YteoccoklbmjiaaaCWalk
set_option linter.unusedVariables false
set_option linter.unusedSimpArgs false
namespace Go.Proofs.YteoccoklbmjiaaaW.PrintWords
open Go.RowKit Go.Proofs.YteoccoklbmjiaaaW.PrintLast Go.Proofs.YteoccoklbmjiaaaW.PrintMore
def FH : List Value → Nat → List Value → List Value
  | l, _, [] => l
  | l, j, v :: r => FH (l.set j v) (j + 1) r
def Bx (C : Nat → Nat) (z : Nat) (W : World) (g t : Nat) (l : List Value) : Prop := C g = z ∧ W.heap[g]? = some (.cells l.toArray t (0, 0))
namespace Bx
variable {C c' : Nat → Nat} {z g t : Nat} {W w' : World} {S : List Nat} {l : List Value}
theorem og (h : Bx C z W g t l) (s : Step C W c' w' S) (hZ : S.contains z = false) : Bx c' z w' g t l := by
  have hlt := Dn h.2
  refine ⟨(s.col g hlt).trans h.1, (s.keep g hlt (fun hm => ?_)).trans h.2⟩
  rw [h.1] at hm
  simp at hZ
  exact hZ hm
theorem below (h : Bx C z W g t l) (hb : Below W.heap.size W w') : Bx C z w' g t l := ⟨h.1, (hb.block g (Dn h.2)).trans h.2⟩
theorem drew (h : Bx C z W g t l) : Bx C z W.drew g t l := h.below (below_drew (Below.refl _ _))
theorem drewN (h : Bx C z W g t l) (m : Nat) : Bx C z (W.drewN m) g t l := h.below (vZ (Below.refl _ _) m)
theorem alloc (h : Bx C z W g t l) (o : Obj) : Bx C z (W.alloc o) g t l := h.below (below_alloc (Below.refl _ _) o)
theorem recol (h : Bx C z W g t l) {a b : Nat} (hz : z ≠ a) : Bx (recol C a b) z W g t l := ⟨by unfold PrintWords.recol; rw [if_neg (by rw [h.1]; exact hz)]; exact h.1, h.2⟩
end Bx
theorem pK {W : World} {g t : Nat} {l : List Value} (h : W.heap[g]? = some (.cells l.toArray t (0, 0))) (j : Nat) {v : Value} (hv : l[j]? = some v) : W.cell? ⟨g, j, none⟩ = some v := by
  rw [Fj h j]
  simpa using hv
theorem oH {W : World} {g t : Nat} {l : List Value} (h : W.heap[g]? = some (.cells l.toArray t (0, 0))) (o : Nat) {cs : List Value} (hv : (l.drop o).take cs.length = cs) : ∀ j u, cs[j]? = some u → W.cell? ((⟨g, o, none⟩ : Addr).add j) = some u := by
  intro j u hu
  rw [Bf]
  refine pK h (o + j) ?_
  rw [← hv, List.getElem?_take] at hu
  split at hu
  · rw [List.getElem?_drop] at hu; exact hu
  · cases hu
theorem AP {W : World} {g t : Nat} : ∀ (seg : List Value) (l : List Value) (j : Nat) (W : World), W.heap[g]? = some (.cells l.toArray t (0, 0)) → (W.setCells g j seg).heap[g]? = some (.cells (FH l j seg).toArray t (0, 0))
  | [], _, _, _, h => h
  | v :: r, l, j, W, h => by
    have := En h j v
    rw [List.setIfInBounds_toArray] at this
    exact AP (W := W) r (l.set j v) (j + 1) _ this
theorem zN {g : Nat} : ∀ (seg : List Value) (j : Nat) (W : World), (W.setCells g j seg).os = W.os ∧ (W.setCells g j seg).tape = W.tape ∧ (W.setCells g j seg).output = W.output ∧ (W.setCells g j seg).heap.size = W.heap.size ∧ ∀ k, k ≠ g → (W.setCells g j seg).heap[k]? = W.heap[k]?
  | [], _, _ => ⟨rfl, rfl, rfl, rfl, fun _ _ => rfl⟩
  | v :: r, j, W => by
    obtain ⟨h1, h2, h3, h4, h5⟩ := zN (g := g) r (j + 1) (W.setCell ⟨g, j, none⟩ v)
    exact ⟨h1, h2, h3, h4.trans (by simp [World.setCell]), fun k hk => (h5 k hk).trans (Below.heap_setCell _ _ _ _ hk)⟩
section
variable {P : Program} {ops : Array Oper} {rest : List Oper} {o : Oper} {l : List Value} {ds : List Deferred} {Q : Exit → Act → World → Prop} {Kc : Act → World → Prop} {W : World} {C : Nat → Nat}
theorem AQ (z : Nat) (t : Nat) (xs : List Value) : Bx (ext C W.heap.size z) z (W.alloc (.cells xs.toArray t)) W.heap.size t xs ∧ Step C W (ext C W.heap.size z) (W.alloc (.cells xs.toArray t)) [] :=
  ⟨⟨yO C (Nat.le_refl _), heap_alloc_new W _⟩, Step.GL C (below_alloc (Below.refl _ _) _) z⟩
theorem qZ {d : Tmp} (t : Nat) (xs : List Value) (z : Nat) (hg : o.guard = none) (hd : o.dst = some d) (hrun : (execOp (⟨l.toArray, ds⟩ : Act).eval o).run P W = .ok (.value (.pointer (some ⟨W.heap.size, 0, none⟩))) (W.alloc (.cells xs.toArray t)))
    (h : ∀ g w1 C1, Bx C1 z w1 g t xs → Step C W C1 w1 [] → WL P ops Q rest ⟨(l.set d (.pointer (some ⟨g, 0, none⟩))).toArray, ds⟩ w1) : WL P ops Q (o :: rest) ⟨l.toArray, ds⟩ W :=
  yI _ hg hd hrun (h _ _ _ (AQ z t xs).1 (AQ z t xs).2)
theorem xI {d : Tmp} (t : Nat) (xs : List Value) (z : Nat) (hw : Region.wanted o (yielded ops l.toArray) = true) (hd : o.dst = some d) (hrun : (execOp (⟨l.toArray, ds⟩ : Act).eval o).run P W = .ok (.value (.pointer (some ⟨W.heap.size, 0, none⟩))) (W.alloc (.cells xs.toArray t)))
    (h : ∀ g w1 C1, Bx C1 z w1 g t xs → Step C W C1 w1 [] → Kc ⟨(l.set d (.pointer (some ⟨g, 0, none⟩))).toArray, ds⟩ w1) : if Region.wanted o (yielded ops l.toArray) = true then Oper.wp P o ⟨l.toArray, ds⟩ W Kc Q else Kc ((⟨l.toArray, ds⟩ : Act).put o.dst undef) W :=
  by
  rw [hd]
  exact IL hw hd hrun (by rw [yN]; exact h _ _ _ (AQ z t xs).1 (AQ z t xs).2)
theorem zn {t : TypeId} {p x : Operand} {u : Value} {g j : Nat} {seg : List Value} {tb : Nat} {xs : List Value} (ho : o.op = .store t p x) (haddr : ev l p = .pointer (some ⟨g, j, none⟩)) (hx : ev l x = u) (hu : u.cells.toList = seg) (ht : (P.info? t).map (·.size) = some seg.length) (h1 : ∀ q ∈ seg, q.oneCell' = true)
    (hh : W.heap[g]? = some (.cells xs.toArray tb (0, 0))) (hj : j + seg.length ≤ xs.length) : (execOp (⟨l.toArray, ds⟩ : Act).eval o).run P W = .ok .skip (W.setCells g j seg) := by
  unfold execOp
  simp only [ho, uS, haddr, hx]
  rw [Sem.run_bind, yS t u seg hh hu ht (by simpa using hj) h1]
  rfl
theorem AU {t : TypeId} {p x : Operand} {u : Value} {z g j tb : Nat} {seg xs : List Value} (hN : o.dst = none) (hg : o.guard = none) (ho : o.op = .store t p x) (haddr : ev l p = .pointer (some ⟨g, j, none⟩)) (hx : ev l x = u) (hu : u.cells.toList = seg) (ht : (P.info? t).map (·.size) = some seg.length) (h1 : ∀ q ∈ seg, q.oneCell' = true)
    (HB : Bx C z W g tb xs) (hj : j + seg.length ≤ xs.length) {xs' : List Value} (hl : FH xs j seg = xs') (h : ∀ w1, Bx C z w1 g tb xs' → Step C W C w1 [z] → WL P ops Q rest ⟨l.toArray, ds⟩ w1) : WL P ops Q (o :: rest) ⟨l.toArray, ds⟩ W := by
  subst hl
  obtain ⟨k1, k2, k3, k4, k5⟩ := zN (g := g) seg j W
  have hr := zn (P := P) (ds := ds) ho haddr hx hu ht h1 HB.2 hj
  refine ⟨wpList_plain hg fun K hK => ?_⟩
  unfold Oper.wp
  rw [hr]
  unfold Oper.upon
  have := hK ⟨l.toArray, ds⟩ (W.setCells g j seg) (h _ ⟨HB.1, AP (W := W) seg xs j W HB.2⟩ ⟨k1, k2, k3, Nat.le_of_eq k4.symm, fun _ _ => rfl, fun k _ hn => k5 k (fun e => hn (by rw [e, HB.1]; simp))⟩).out
  simpa [hN, Act.put] using this
theorem sS {t : TypeId} {p x : Operand} {u : Value} {z g j tb : Nat} {seg xs : List Value} (hN : o.dst = none) (hg : Region.wanted o (yielded ops l.toArray) = true) (ho : o.op = .store t p x) (haddr : ev l p = .pointer (some ⟨g, j, none⟩)) (hx : ev l x = u) (hu : u.cells.toList = seg) (ht : (P.info? t).map (·.size) = some seg.length) (h1 : ∀ q ∈ seg, q.oneCell' = true)
    (HB : Bx C z W g tb xs) (hj : j + seg.length ≤ xs.length) {xs' : List Value} (hl : FH xs j seg = xs') (h : ∀ w1, Bx C z w1 g tb xs' → Step C W C w1 [z] → Kc ⟨l.toArray, ds⟩ w1) : if Region.wanted o (yielded ops l.toArray) = true then Oper.wp P o ⟨l.toArray, ds⟩ W Kc Q else Kc ((⟨l.toArray, ds⟩ : Act).put o.dst undef) W := by
  subst hl
  obtain ⟨k1, k2, k3, k4, k5⟩ := zN (g := g) seg j W
  have hr := zn (P := P) (ds := ds) ho haddr hx hu ht h1 HB.2 hj
  rw [if_pos hg]
  unfold Oper.wp
  rw [hr]
  unfold Oper.upon
  have := h (W.setCells g j seg) ⟨HB.1, AP (W := W) seg xs j W HB.2⟩ ⟨k1, k2, k3, Nat.le_of_eq k4.symm, fun _ _ => rfl, fun k _ hn => k5 k (fun e => hn (by rw [e, HB.1]; simp))⟩
  simpa [hN, Act.put] using this
end
section
variable {fn : Func} {tmps : Array Value} {P : Program} {w : World} {p q u v : Tmp} {t t' : TypeId} {a a' : Addr} {x x' : Value}
theorem uV (h : fn.results = #[.cell p t]) (hp : tmps.getD p undef = .pointer (some a)) (hl : (loadVar t a).run P w = .ok x w) : (results fn tmps).run P w = .ok x w := by
  have ha : (asAddr (tmps.getD p undef)).run P w = .ok a w := by rw [hp]; rfl
  simp only [Array.getD_eq_getD_getElem?] at ha ⊢
  simp only [results, h]
  simp [Sem.run_bind, Result.andThen, ha, hl]
theorem rW (h : fn.results = #[.cell p t, .tmp u]) (hp : tmps.getD p undef = .pointer (some a)) (hl : (loadVar t a).run P w = .ok x w) : (results fn tmps).run P w = .ok (.tuple #[x, tmps.getD u undef]) w := by
  have ha : (asAddr (tmps.getD p undef)).run P w = .ok a w := by rw [hp]; rfl
  simp only [Array.getD_eq_getD_getElem?] at ha ⊢
  simp only [results, h]
  simp [Sem.run_bind, Result.andThen, ha, hl]
theorem yK (h : fn.results = #[.cell p t, .tmp u, .tmp v]) (hp : tmps.getD p undef = .pointer (some a)) (hl : (loadVar t a).run P w = .ok x w) : (results fn tmps).run P w = .ok (.tuple #[x, tmps.getD u undef, tmps.getD v undef]) w := by
  have ha : (asAddr (tmps.getD p undef)).run P w = .ok a w := by rw [hp]; rfl
  simp only [Array.getD_eq_getD_getElem?] at ha ⊢
  simp only [results, h]
  simp [Sem.run_bind, Result.andThen, ha, hl]
theorem pX {t : TypeId} {a : Addr} {x : Value} (h : (Instr.loadAt t (.pointer (some a))).run P w = .ok x w) : (loadVar t a).run P w = .ok x w := by
  simpa [Instr.loadAt, Instr.sureAddr] using h
end
end Go.Proofs.YteoccoklbmjiaaaW.PrintWords
