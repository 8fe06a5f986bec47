import Derived.Test.YtpfepkkpbampkaaDoorCMap
set_option linter.unusedVariables false
set_option linter.unusedSimpArgs false
namespace Go.Proofs.YtpfepkkpbampkaaDoorW.PrintWords
open Go.RowKit Go.Proofs.YtpfepkkpbampkaaDoorW.PrintLast Go.Proofs.YtpfepkkpbampkaaDoorW.PrintMore
theorem jK {P : Program} {W : World} {t : TypeId} {fs : Array Field} {f : Field} {g o o' : Nat} {j : Nat} (ht : P.underlying t = some (.struct fs)) (hf : fs[j]? = some f) (ho : o + f.offset = o') (hi : ((P.info? f.type).map fun i => decide (i.size ≠ 0)) = some true) : (Instr.fieldAt t (.pointer (some ⟨g, o, none⟩)) j).run P W = .ok (.pointer (some ⟨g, o', none⟩)) W := by
  have := nP (P := P) (W := W) (a := ⟨g, o, none⟩) ht hf rfl hi
  rw [EG] at this
  rw [this, ho]
theorem lN {P : Program} {W : World} {t e : TypeId} {n : Nat} (ht : P.underlying t = some (.array n e)) {sz : Nat} (hi : (P.info? e).map (·.size) = some sz) {k : IntKind} {g o : Nat} {j : Int} (h0 : 0 ≤ j) (h1 : j < (n : Int)) {m : Nat} (hm : o + j.toNat * sz = m) :
    (Instr.indexAt t (.pointer (some ⟨g, o, none⟩)) (.int k j)).run P W = .ok (.pointer (some ⟨g, m, none⟩)) W := by
  subst hm
  obtain ⟨i, hi0, hsz⟩ := Option.map_eq_some_iff.mp hi
  have e1 := EG g o (j.toNat * sz)
  simp [Instr.indexAt, asIntOf, run_underlying ht, Instr.sureAddr, h0, h1, sizeOf, typeInfo, hi0, hsz, Result.andThen, e1]
theorem JF {α : Type} {enc : α → Value} {pre post L : List Value} {l : List α} {i N : Nat} (z : α) (hL : L = pre ++ (l.map enc ++ post)) (hl : l.length = N) (hi : i < N) : L[pre.length + i]? = some (enc (l.getD i z)) := by
  subst hL
  rw [List.getElem?_append_right (by omega), Nat.add_sub_cancel_left, List.getElem?_append_left (by simp; omega), List.getElem?_map, List.getElem?_eq_getElem (by omega), List.getD_eq_getElem?_getD, List.getElem?_eq_getElem (by omega)]
  rfl
theorem Hw {α : Type} {enc : α → Value} {pre post L : List Value} {l : List α} {i N : Nat} (v : α) (hL : L = pre ++ (l.map enc ++ post)) (hl : l.length = N) (hi : i < N) : L.set (pre.length + i) (enc v) = pre ++ ((l.set i v).map enc ++ post) := by
  subst hL
  rw [List.set_append_right _ _ (by omega), Nat.add_sub_cancel_left, List.set_append_left _ _ (by simp; omega), List.map_set]
theorem LC {pre post L : List Value} {v u : Value} {o : Nat} (hL : L = pre ++ (v :: post)) (ho : pre.length = o) : JL L o [u] = pre ++ (u :: post) := by
  subst hL; subst ho
  rw [JL, JL, List.set_append_right _ _ (Nat.le_refl _), Nat.sub_self]
  rfl
theorem nS {α : Type} {P : Program} {W : World} {t : TypeId} {d : TypeDesc} {g tb o i m N : Nat} {enc : α → Value} {pre post L : List Value} {l : List α} (z : α) (ht : P.underlying t = some d) (hd : ED d = false) (h : W.heap[g]? = some (.cells L.toArray tb (0, 0))) (hL : L = pre ++ (l.map enc ++ post)) (ho : pre.length = o) (hl : l.length = N) (hi : i < N) (hm : o + i = m) :
    (Instr.loadAt t (.pointer (some ⟨g, m, none⟩))).run P W = .ok (enc (l.getD i z)) W := by
  subst hm; subst ho
  exact jJ ht hd (kN h _ (JF z hL hl hi))
section
variable {α : Type} {P : Program} {ops : Array Oper} {rest : List Oper} {o : Oper} {l : List Value} {ds : List Deferred} {Q : Exit → Act → World → Prop} {Kc : Act → World → Prop} {W : World} {C : Nat → Nat} {enc : α → Value}
theorem Dz {t : TypeId} {p x : Operand} {z g tb of i m N : Nat} {pre post xs : List Value} {l0 : List α} (v : α) (hN : o.dst = none) (hg : o.guard = none) (ho : o.op = .store t p x) (haddr : ev l p = .pointer (some ⟨g, m, none⟩)) (hx : ev l x = enc v) (hu : (enc v).cells.toList = [enc v]) (ht : (P.info? t).map (·.size) = some 1) (h1 : (enc v).oneCell' = true)
    (HB : Bx C z W g tb xs) (hL : xs = pre ++ (l0.map enc ++ post)) (hof : pre.length = of) (hl : l0.length = N) (hi : i < N) (hm : of + i = m) {y : List α} (hy : l0.set i v = y) {xs' : List Value} (hE : pre ++ (y.map enc ++ post) = xs')
    (h : ∀ w1, Bx C z w1 g tb xs' → y.length = N → Step C W C w1 [z] → WL P ops Q rest ⟨l.toArray, ds⟩ w1) : WL P ops Q (o :: rest) ⟨l.toArray, ds⟩ W := by
  subst hy; subst hm; subst hof; subst hE
  refine nC (j := pre.length + i) (seg := [enc v]) hN hg ho haddr hx hu (by simpa using ht) (by simpa using h1) HB ?_ ?_ (fun w1 hb hs => h w1 hb (by simpa using hl) hs)
  · subst hL; simp; omega
  · rw [JL, JL]; exact Hw v hL hl hi
theorem pJ {t : TypeId} {p x : Operand} {z g tb of i m N : Nat} {pre post xs : List Value} {l0 : List α} (v : α) (hN : o.dst = none) (hg : Region.wanted o (yielded ops l.toArray) = true) (ho : o.op = .store t p x) (haddr : ev l p = .pointer (some ⟨g, m, none⟩)) (hx : ev l x = enc v) (hu : (enc v).cells.toList = [enc v]) (ht : (P.info? t).map (·.size) = some 1) (h1 : (enc v).oneCell' = true)
    (HB : Bx C z W g tb xs) (hL : xs = pre ++ (l0.map enc ++ post)) (hof : pre.length = of) (hl : l0.length = N) (hi : i < N) (hm : of + i = m) {y : List α} (hy : l0.set i v = y) {xs' : List Value} (hE : pre ++ (y.map enc ++ post) = xs')
    (h : ∀ w1, Bx C z w1 g tb xs' → y.length = N → Step C W C w1 [z] → Kc ⟨l.toArray, ds⟩ w1) : if Region.wanted o (yielded ops l.toArray) = true then Oper.wp P o ⟨l.toArray, ds⟩ W Kc Q else Kc ((⟨l.toArray, ds⟩ : Act).put o.dst undef) W := by
  subst hy; subst hm; subst hof; subst hE
  refine qX (j := pre.length + i) (seg := [enc v]) hN hg ho haddr hx hu (by simpa using ht) (by simpa using h1) HB ?_ ?_ (fun w1 hb hs => h w1 hb (by simpa using hl) hs)
  · subst hL; simp; omega
  · rw [JL, JL]; exact Hw v hL hl hi
end
end Go.Proofs.YtpfepkkpbampkaaDoorW.PrintWords
