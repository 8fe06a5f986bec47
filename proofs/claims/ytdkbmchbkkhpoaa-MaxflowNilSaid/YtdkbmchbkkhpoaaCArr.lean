/- Words of this work: arrays of scalars in a struct of one's own. -/
import Derived.Test.YtdkbmchbkkhpoaaCMap
set_option linter.unusedVariables false
set_option linter.unusedSimpArgs false
namespace Go.Proofs.YtdkbmchbkkhpoaaW.PrintWords
open Go.RowKit Go.Proofs.YtdkbmchbkkhpoaaW.PrintLast Go.Proofs.YtdkbmchbkkhpoaaW.PrintMore
theorem bx_field2 {P : Program} {W : World} {t : TypeId} {fs : Array Field} {f : Field} {g o o' : Nat} {j : Nat} (ht : P.underlying t = some (.struct fs)) (hf : fs[j]? = some f) (ho : o + f.offset = o') (hi : ((P.info? f.type).map fun i => decide (i.size ≠ 0)) = some true) : (Instr.fieldAt t (.pointer (some ⟨g, o, none⟩)) j).run P W = .ok (.pointer (some ⟨g, o', none⟩)) W := by
  have := field_at2 (P := P) (W := W) (a := ⟨g, o, none⟩) ht hf rfl hi
  rw [add_base2] at this
  rw [this, ho]
/-- A cell of an array. -/
theorem arr_index {P : Program} {W : World} {t e : TypeId} {n : Nat} (ht : P.underlying t = some (.array n e)) {sz : Nat} (hi : (P.info? e).map (·.size) = some sz) {k : IntKind} {g o : Nat} {j : Int} (h0 : 0 ≤ j) (h1 : j < (n : Int)) {m : Nat} (hm : o + j.toNat * sz = m) :
    (Instr.indexAt t (.pointer (some ⟨g, o, none⟩)) (.int k j)).run P W = .ok (.pointer (some ⟨g, m, none⟩)) W := by
  subst hm
  obtain ⟨i, hi0, hsz⟩ := Option.map_eq_some_iff.mp hi
  have e1 := add_base2 g o (j.toNat * sz)
  simp [Instr.indexAt, asIntOf, run_underlying ht, Instr.sureAddr, h0, h1, sizeOf, typeInfo, hi0, hsz, Result.andThen, e1]
theorem arr_get {α : Type} {enc : α → Value} {pre post L : List Value} {l : List α} {i N : Nat} (z : α) (hL : L = pre ++ (l.map enc ++ post)) (hl : l.length = N) (hi : i < N) : L[pre.length + i]? = some (enc (l.getD i z)) := by
  subst hL
  rw [List.getElem?_append_right (by omega), Nat.add_sub_cancel_left, List.getElem?_append_left (by simp; omega), List.getElem?_map, List.getElem?_eq_getElem (by omega), List.getD_eq_getElem?_getD, List.getElem?_eq_getElem (by omega)]
  rfl
theorem arr_set {α : Type} {enc : α → Value} {pre post L : List Value} {l : List α} {i N : Nat} (v : α) (hL : L = pre ++ (l.map enc ++ post)) (hl : l.length = N) (hi : i < N) : L.set (pre.length + i) (enc v) = pre ++ ((l.set i v).map enc ++ post) := by
  subst hL
  rw [List.set_append_right _ _ (by omega), Nat.add_sub_cancel_left, List.set_append_left _ _ (by simp; omega), List.map_set]
/-- A cell behind some others. -/
theorem at_get_ {pre post L : List Value} {v : Value} {o : Nat} (hL : L = pre ++ (v :: post)) (ho : pre.length = o) : L[o]? = some v := by
  subst hL; subst ho
  rw [List.getElem?_append_right (Nat.le_refl _), Nat.sub_self]
  rfl
theorem at_set_ {pre post L : List Value} {v u : Value} {o : Nat} (hL : L = pre ++ (v :: post)) (ho : pre.length = o) : setL L o [u] = pre ++ (u :: post) := by
  subst hL; subst ho
  rw [setL, setL, List.set_append_right _ _ (Nat.le_refl _), Nat.sub_self]
  rfl
theorem arr_load {α : Type} {P : Program} {W : World} {t : TypeId} {d : TypeDesc} {g tb o i m N : Nat} {enc : α → Value} {pre post L : List Value} {l : List α} (z : α) (ht : P.underlying t = some d) (hd : isAggB d = false) (h : W.heap[g]? = some (.cells L.toArray tb (0, 0))) (hL : L = pre ++ (l.map enc ++ post)) (ho : pre.length = o) (hl : l.length = N) (hi : i < N) (hm : o + i = m) :
    (Instr.loadAt t (.pointer (some ⟨g, m, none⟩))).run P W = .ok (enc (l.getD i z)) W := by
  subst hm; subst ho
  exact load_cell ht hd (bx_cell h _ (arr_get z hL hl hi))
theorem fld_load {P : Program} {W : World} {t : TypeId} {d : TypeDesc} {g tb o : Nat} {pre post L : List Value} {v : Value} (ht : P.underlying t = some d) (hd : isAggB d = false) (h : W.heap[g]? = some (.cells L.toArray tb (0, 0))) (hL : L = pre ++ (v :: post)) (ho : pre.length = o) :
    (Instr.loadAt t (.pointer (some ⟨g, o, none⟩))).run P W = .ok v W := load_cell ht hd (bx_cell h _ (at_get_ hL ho))
section
variable {α : Type} {P : Program} {ops : Array Oper} {rest : List Oper} {o : Oper} {l : List Value} {ds : List Deferred} {Q : Exit → Act → World → Prop} {Kc : Act → World → Prop} {W : World} {C : Nat → Nat} {enc : α → Value}
theorem arr_store {t : TypeId} {p x : Operand} {z g tb of i m N : Nat} {pre post xs : List Value} {l0 : List α} (v : α) (hN : o.dst = none) (hg : o.guard = none) (ho : o.op = .store t p x) (haddr : ev l p = .pointer (some ⟨g, m, none⟩)) (hx : ev l x = enc v) (hu : (enc v).cells.toList = [enc v]) (ht : (P.info? t).map (·.size) = some 1) (h1 : (enc v).oneCell' = true)
    (HB : Bx C z W g tb xs) (hL : xs = pre ++ (l0.map enc ++ post)) (hof : pre.length = of) (hl : l0.length = N) (hi : i < N) (hm : of + i = m) {y : List α} (hy : l0.set i v = y) {xs' : List Value} (hE : pre ++ (y.map enc ++ post) = xs')
    (h : ∀ w1, Bx C z w1 g tb xs' → y.length = N → Step C W C w1 [z] → WL P ops Q rest ⟨l.toArray, ds⟩ w1) : WL P ops Q (o :: rest) ⟨l.toArray, ds⟩ W := by
  subst hy; subst hm; subst hof; subst hE
  refine bx_store (j := pre.length + i) (seg := [enc v]) hN hg ho haddr hx hu (by simpa using ht) (by simpa using h1) HB ?_ ?_ (fun w1 hb hs => h w1 hb (by simpa using hl) hs)
  · subst hL; simp; omega
  · rw [setL, setL]; exact arr_set v hL hl hi
theorem arr_store_step {t : TypeId} {p x : Operand} {z g tb of i m N : Nat} {pre post xs : List Value} {l0 : List α} (v : α) (hN : o.dst = none) (hg : Region.wanted o (yielded ops l.toArray) = true) (ho : o.op = .store t p x) (haddr : ev l p = .pointer (some ⟨g, m, none⟩)) (hx : ev l x = enc v) (hu : (enc v).cells.toList = [enc v]) (ht : (P.info? t).map (·.size) = some 1) (h1 : (enc v).oneCell' = true)
    (HB : Bx C z W g tb xs) (hL : xs = pre ++ (l0.map enc ++ post)) (hof : pre.length = of) (hl : l0.length = N) (hi : i < N) (hm : of + i = m) {y : List α} (hy : l0.set i v = y) {xs' : List Value} (hE : pre ++ (y.map enc ++ post) = xs')
    (h : ∀ w1, Bx C z w1 g tb xs' → y.length = N → Step C W C w1 [z] → Kc ⟨l.toArray, ds⟩ w1) : if Region.wanted o (yielded ops l.toArray) = true then Oper.wp P o ⟨l.toArray, ds⟩ W Kc Q else Kc ((⟨l.toArray, ds⟩ : Act).put o.dst undef) W := by
  subst hy; subst hm; subst hof; subst hE
  refine bx_store_step (j := pre.length + i) (seg := [enc v]) hN hg ho haddr hx hu (by simpa using ht) (by simpa using h1) HB ?_ ?_ (fun w1 hb hs => h w1 hb (by simpa using hl) hs)
  · subst hL; simp; omega
  · rw [setL, setL]; exact arr_set v hL hl hi
end
/-- Cuts of a string. -/
theorem cut_str_lh {P : Program} {W : World} {t : TypeId} (ht : P.underlying t = some .string) {s : ByteArray} {kl kh : IntKind} {l h : Int} (h0 : 0 ≤ l) (h1 : l ≤ h) (h2 : h ≤ (s.size : Int)) :
    (Instr.sliceAt t (.string s) (some (.int kl l)) (some (.int kh h)) none).run P W = .ok (.string (s.extract l.toNat h.toNat)) W := by
  have eh : (h.toNat : Int) = h := Int.toNat_of_nonneg (by omega)
  simp [run_sliceAt_string _ _ _ _ _ _ ht, Instr.slice, run_underlying ht, Instr.sliceBounds, run_sliceBound, h0, h1, h2, eh, (by omega : 0 ≤ h), Result.andThen]
theorem cut_str_h {P : Program} {W : World} {t : TypeId} (ht : P.underlying t = some .string) {s : ByteArray} {kh : IntKind} {h : Int} (h0 : 0 ≤ h) (h2 : h ≤ (s.size : Int)) :
    (Instr.sliceAt t (.string s) none (some (.int kh h)) none).run P W = .ok (.string (s.extract 0 h.toNat)) W := by
  simp [run_sliceAt_string _ _ _ _ _ _ ht, Instr.slice, run_underlying ht, Instr.sliceBounds, run_sliceBound, h0, h2, Result.andThen]
theorem cut_str_l {P : Program} {W : World} {t : TypeId} (ht : P.underlying t = some .string) {s : ByteArray} {kl : IntKind} {l : Int} (h0 : 0 ≤ l) (h2 : l ≤ (s.size : Int)) :
    (Instr.sliceAt t (.string s) (some (.int kl l)) none none).run P W = .ok (.string (s.extract l.toNat s.size)) W := by
  simp [run_sliceAt_string _ _ _ _ _ _ ht, Instr.slice, run_underlying ht, Instr.sliceBounds, run_sliceBound, h0, h2, Result.andThen]
end Go.Proofs.YtdkbmchbkkhpoaaW.PrintWords
