/- Words of this work: rows that may grow though they are no whole rows of one's own: what is left of one behind a cut, or a row that is only read and has no room. -/
import Derived.Test.YtbpagdgbehefkaaCMem
import Derived.Laws.AppendOwn
set_option linter.unusedVariables false
set_option linter.unusedSimpArgs false
namespace Go.Proofs.YtbpagdgbehefkaaW.PrintWords
open Go.RowKit Go.Proofs.YtbpagdgbehefkaaW.PrintLast Go.Proofs.YtbpagdgbehefkaaW.PrintMore
theorem run_append_room_at {P : Program} (w : World) (t ty e : TypeId) (i : TypeInfo) (ht : P.underlying t = some (.slice e)) (hi : P.info? e = some i)
    (g off sLen sCap : Nat) (cur : Array Value) (hg : w.heap[g]? = some (.cells cur e (0, 0)))
    (a : Addr) (m c : Nat) (news : List Value) (hl : news.length = m * i.size) (hnews : ∀ j u, news[j]? = some u → w.cell? (a.add j) = some u) (h1 : ∀ u ∈ news, u.oneCell' = true)
    (hroom : sLen + m ≤ sCap) (hfit : off + sLen * i.size + news.length ≤ cur.size) :
    (Builtin.append_ #[t, t] ty #[.slice (some ⟨g, off, none⟩) sLen sCap, .slice (some a) m c]).run P w =
      .ok (.slice (some ⟨g, off, none⟩) (sLen + m) sCap) (w.setRow g (cur.toList.take (off + sLen * i.size) ++ news ++ cur.toList.drop (off + sLen * i.size + news.length)).toArray) := by
  have hf := run_firstCells_some (P := P) w i.size m a m c news hl hnews
  have hst := run_storeCells_at P g (off + sLen * i.size) e news 0 cur w hg (by simpa using hfit) h1
  simp only [Nat.add_zero] at hst
  simp [Builtin.append_, run_underlying ht, sizeOf, typeInfo, hi, Builtin.lenOf, hroom, hf, Addr.add_lit, hst]
theorem cutFull {α : Type} (dk : Kd α) {P : Program} {W : World} {C : Nat → Nat} {Z : List Nat} {t : TypeId} (e : TypeId) {i : TypeInfo} (kh km : IntKind) {A : Option Addr} {n c : Nat} {j : Int} {xs : List α}
    (ht : P.underlying t = some (.slice e)) (hi : P.info? e = some i) (hF : Ft C Z W (fun w => dk.C w A n xs)) (hc : n ≤ c) (h1 : 0 ≤ j) (h2 : j ≤ n) {y : List α} (hy : xs.take j.toNat = y) :
    (∀ w, (Instr.sliceAt t (.slice A n c) none (some (.int kh j)) (some (.int km j))).run P w = .ok (.slice A y.length y.length) w) ∧ Ft C Z W (fun w => dk.C w A y.length y) := by
  have hn : xs.length = n := hF.now.1
  subst hn; subst hy
  have hl : (xs.take j.toNat).length = j.toNat := by rw [List.length_take]; omega
  refine ⟨fun w => ?_, Kd.F_take (m := j.toNat) (d := dk) hF (by omega)⟩
  have hel : P.elem t = e := by simp [Program.elem, ht]
  have hu : P.underlying t = some (.slice (P.elem t)) := by rw [hel]; exact ht
  have ha : (A.map fun x => x.add 0) = A := by cases A <;> simp [Addr.add]
  rw [run_sliceAt_slice _ _ _ _ _ _ (by simp [Program.elem, ht]), run_slice_hm w t A xs.length c hu kh km j j h1 (Int.le_refl _) (by omega), hel, hl]
  simp [sizeOf, typeInfo, hi, sliced, Result.andThen, ha]
/-- A row of numbers that may grow. -/
def OwnG (C : Nat → Nat) (i : Nat) (W : World) (κ : IntKind) (e : Nat) (v : Value) (xs : List Int) : Prop :=
  (∃ g off cap cur, v = .slice (some ⟨g, off, none⟩) xs.length cap ∧ C g = i ∧ W.heap[g]? = some (.cells cur e (0, 0)) ∧ cur.size = off + cap ∧ xs.length ≤ cap ∧ cap ≤ maxLen ∧ (cur.toList.drop off).take xs.length = xs.map (.int κ)) ∨
  (∃ A, v = .slice A xs.length xs.length ∧ Ft C [0] W (fun w => (Kd.int κ).C w A xs.length xs))
theorem c_int {κ : IntKind} {w : World} {A : Option Addr} {n : Nat} {xs : List Int} (h : (Kd.int κ).C w A n xs) (hp : 0 < n) : ∃ a, A = some a ∧ ∀ j u, (xs.map (Value.int κ))[j]? = some u → w.cell? (a.add j) = some u := by
  obtain ⟨hn, _, h3⟩ := h
  obtain ⟨a, e, hc⟩ := h3 hp
  refine ⟨a, e, fun j u hu => ?_⟩
  rw [List.getElem?_map] at hu
  cases hx : xs[j]? with
  | none => rw [hx] at hu; cases hu
  | some x =>
    rw [hx] at hu
    obtain ⟨c, hcl, hK, hcc⟩ := hc j x hx
    have hK' : c = [.int κ x] := hK
    subst hK'
    have := hcc 0 _ rfl
    simp only [Option.map_some, Option.some.injEq] at hu
    rw [← hu]
    simpa [Kd.int, Kd.scalar] using this
theorem int_c {κ : IntKind} {w : World} {a : Addr} {xs : List Int} (hm : xs.length ≤ 9223372036854775807) (h : ∀ j u, (xs.map (Value.int κ))[j]? = some u → w.cell? (a.add j) = some u) : (Kd.int κ).C w (some a) xs.length xs := by
  refine ⟨rfl, hm, fun _ => ⟨a, rfl, fun j x hx => ⟨[.int κ x], rfl, rfl, fun q u hu => ?_⟩⟩⟩
  cases q with
  | succ q => simp at hu
  | zero =>
    simp only [List.getElem?_cons_zero, Option.some.injEq] at hu
    rw [← hu]
    have := h j (.int κ x) (by rw [List.getElem?_map, hx]; rfl)
    simpa [Kd.int, Kd.scalar] using this
namespace OwnG
variable {C c' c'' : Nat → Nat} {i e : Nat} {W w' : World} {κ : IntKind} {S T : List Nat} {v : Value} {xs : List Int}
theorem full {A : Option Addr} {n : Nat} (h : Ft C [0] W (fun w => (Kd.int κ).C w A n xs)) : OwnG C i W κ e (.slice A n n) xs := by
  have hn : xs.length = n := h.now.1
  subst hn
  exact .inr ⟨A, rfl, h⟩
theorem move (h : OwnG C i W κ e v xs) (hc : ∀ k, k < W.heap.size → c' k = C k) (hm : ∀ k, k < W.heap.size → (C k = i ∨ C k = 0) → w'.heap[k]? = W.heap[k]?) : OwnG c' i w' κ e v xs := by
  rcases h with ⟨g, off, cap, cur, rfl, hi, hh, r⟩ | ⟨A, rfl, h⟩
  · have hlt := blk_lt hh
    exact .inl ⟨g, off, cap, cur, rfl, (hc g hlt).trans hi, (hm g hlt (.inl hi)).trans hh, r⟩
  · refine .inr ⟨A, rfl, Foot.mono (Foot.step (Foot.bound h) (fun k hk hlt => hm k hlt (.inr (by simpa using hk.1)))) (fun k hk => ?_)⟩
    show c' k ∈ [0]
    rw [hc k hk.2]; exact hk.1
theorem below (h : OwnG C i W κ e v xs) (hb : Below W.heap.size W w') : OwnG C i w' κ e v xs := h.move (fun _ _ => rfl) (fun k hk _ => hb.block k hk)
theorem alloc (h : OwnG C i W κ e v xs) (o : Obj) : OwnG C i (W.alloc o) κ e v xs := h.below (below_alloc (Below.refl _ _) o)
theorem drew (h : OwnG C i W κ e v xs) : OwnG C i W.drew κ e v xs := h.below (below_drew (Below.refl _ _))
theorem drewN (h : OwnG C i W κ e v xs) (m : Nat) : OwnG C i (W.drewN m) κ e v xs := h.below (pw_below_drewN (Below.refl _ _) m)
theorem thru (h : OwnG C i W κ e v xs) (s : Step C W c' w' S) (hZ : (!S.contains i && !S.contains 0) = true) : OwnG c' i w' κ e v xs := by
  simp at hZ
  refine h.move s.col (fun k hk ho => s.keep k hk (fun hm => ?_))
  rcases ho with ho | ho <;> rw [ho] at hm
  · exact hZ.1 hm
  · exact hZ.2 hm
theorem ft {A : Option Addr} {n c : Nat} (h : OwnG C i W κ e (.slice A n c) xs) : Ft C [i, 0] W (fun W => (Kd.int κ).C W A n xs) := by
  rcases h with ⟨g, off, cap, cur, he, hi, hh, hs, hn, hm, hx⟩ | ⟨A', he, h⟩
  · injection he with e1 e2 e3
    subst e1; subst e2; subst e3
    intro W' hW
    refine int_c (by simp only [maxLen] at hm; omega) (fun j u hu => ?_)
    rw [Addr.add_lit, cell_of_row W' g (off + j) cur e (0, 0) ((hW g (by show C g ∈ [i, 0]; rw [hi]; simp) (blk_lt hh)).trans hh)]
    rw [← hx, List.getElem?_take] at hu
    split at hu
    · rw [List.getElem?_drop] at hu; simpa using hu
    · cases hu
  · injection he with e1 e2 e3
    subst e1; subst e2
    exact h.more (by simp)
theorem at_ {A : Option Addr} {n c : Nat} (h : OwnG C i W κ e (.slice A n c) xs) : n = xs.length ∧ n ≤ c := by
  rcases h with ⟨g, off, cap, cur, he, hi, hh, hs, hn, hm, hx⟩ | ⟨A', he, h⟩
  · injection he with e1 e2 e3
    subst e2; subst e3
    exact ⟨rfl, hn⟩
  · injection he with e1 e2 e3
    subst e2; subst e3
    exact ⟨rfl, Nat.le_refl _⟩
theorem recol (h : OwnG C i W κ e v xs) {a b : Nat} (ha : i ≠ a) (h0 : 0 ≠ a) : OwnG (recol C a b) i W κ e v xs := by
  rcases h with ⟨g, off, cap, cur, rfl, hi, r⟩ | ⟨A, rfl, h⟩
  · exact .inl ⟨g, off, cap, cur, rfl, by unfold PrintWords.recol; rw [if_neg (by omega)]; exact hi, r⟩
  · exact .inr ⟨A, rfl, h.recol (.inl (by simpa using fun e => h0 e.symm))⟩
theorem recolor (h : OwnG C i W κ e v xs) {b : Nat} (h0 : 0 ≠ i) : OwnG (PrintWords.recol C i b) b W κ e v xs := by
  rcases h with ⟨g, off, cap, cur, rfl, hi, r⟩ | ⟨A, rfl, h⟩
  · exact .inl ⟨g, off, cap, cur, rfl, by unfold PrintWords.recol; rw [if_pos hi], r⟩
  · exact .inr ⟨A, rfl, h.recol (.inl (by simpa using fun e => h0 e.symm))⟩
theorem of (h : Own C i W (Kd.int κ) e v xs) : OwnG C i W κ e v xs := by
  obtain ⟨h1, h2, rows, hl, hR, hf⟩ := h
  obtain ⟨_, inner, ho, hr⟩ := hR
  have hin : inner = xs.map (.int κ) := by
    apply List.ext_getElem?
    intro j
    by_cases hj : j < xs.length
    · have hk := Kd.FK_now (hf j xs[j] (rows[j]'(by omega)) (List.getElem?_eq_getElem hj) (List.getElem?_eq_getElem (by omega)))
      have hk' : rows[j]'(by omega) = [.int κ xs[j]] := hk
      have h4 := (hr.2 j (rows[j]'(by omega)) (List.getElem?_eq_getElem (by omega))).1
      rw [hk'] at h4
      have h5 := congrArg (fun l => l[0]?) h4
      simp [Kd.raw, Kd.int, Kd.scalar, List.getElem?_take] at h5
      rw [h5, List.getElem?_map, List.getElem?_eq_getElem hj]; rfl
    · have h6 := hr.1
      simp [Kd.raw, Kd.int, Kd.scalar] at h6
      rw [List.getElem?_eq_none (by omega), List.getElem?_eq_none (by simp; omega)]
  rw [hl] at ho
  rcases ho.2 with ⟨rfl, hn⟩ | ⟨g, cap, cur, rfl, _, hh, hc, hm, hs, ht⟩
  · have : xs = [] := List.eq_nil_of_length_eq_zero hn
    subst this
    exact .inr ⟨none, rfl, Kd.F_nil _ _ _⟩
  · have hs' : cur.size = cap := by simpa [Kd.raw, Kd.int, Kd.scalar] using hs
    refine .inl ⟨g, 0, cap, cur, rfl, h1 g rfl, hh, by omega, hc, hm, ?_⟩
    rw [List.drop_zero, ← hin, ← ht]
    simp [Kd.raw, Kd.int, Kd.scalar]
section
variable {P : Program}
theorem appendR (t ty : TypeId) {e : TypeId} {inf : TypeInfo} (ht : P.underlying t = some (.slice e)) (hinf : P.info? e = some inf) (hz : inf.zero = some (.int κ 0)) (hs1 : inf.size = 1) (h : OwnG C i W κ e v xs) (hi : i ≠ 0) (p : Int) (hb : (xs.length + 1) * inf.bytes ≤ 140737488355328) (hb0 : 0 < inf.bytes) :
    ∃ A c w1, (Builtin.append_ #[t, t] ty #[v, .slice (some ⟨W.heap.size, 0, none⟩) 1 1]).run P (W.alloc (.cells #[.int κ p] e)) = .ok (.slice A (xs ++ [p]).length c) w1 ∧ OwnG (ext C W.heap.size i) i w1 κ e (.slice A (xs ++ [p]).length c) (xs ++ [p]) ∧ (xs ++ [p]).length ≤ c ∧ Step C W (ext C W.heap.size i) w1 [i] := by
  have hlen : xs.length + 1 ≤ 140737488355328 := Nat.le_trans (Nat.le_mul_of_pos_right _ hb0) hb
  have hnew : ∀ j u, [Value.int κ p][j]? = some u → (W.alloc (.cells #[.int κ p] e)).cell? ((⟨W.heap.size, 0, none⟩ : Addr).add j) = some u := by
    intro j u hu
    rw [add_base, cell_of_row _ _ j #[.int κ p] e (0, 0) (heap_alloc_new W _)]
    simpa using hu
  have hg0 : W.grownBy (W.alloc (.cells #[.int κ p] e)) none := World.grownBy_alloc W _ none
  have fresh : ∀ (old : Nat) (olds : List Value), olds = xs.map (.int κ) → old < xs.length + 1 → ∀ w1, w1 = (W.alloc (.cells #[.int κ p] e)).drew.alloc (.cells (olds.toArray ++ [Value.int κ p].toArray ++ Builtin.zeroCells (Value.int κ 0).cells (grownCap (W.alloc (.cells #[.int κ p] e)) (xs.length + 1) old e - (xs.length + 1))) e) →
      OwnG (ext C W.heap.size i) i w1 κ e (.slice (some ⟨(W.alloc (.cells #[.int κ p] e)).heap.size, 0, none⟩) (xs ++ [p]).length (grownCap (W.alloc (.cells #[.int κ p] e)) (xs.length + 1) old e)) (xs ++ [p]) ∧ (xs ++ [p]).length ≤ grownCap (W.alloc (.cells #[.int κ p] e)) (xs.length + 1) old e ∧ Step C W (ext C W.heap.size i) w1 [i] := by
    intro old olds ho hlt w1 hw1
    subst hw1; subst ho
    have hge := grownCap_ge (W.alloc (.cells #[.int κ p] e)) (xs.length + 1) old e
    have hcm := grownCap_le_maxLen (W.alloc (.cells #[.int κ p] e)) (xs.length + 1) old e (by simp only [maxLen]; omega)
    have hb1 : Below W.heap.size W ((W.alloc (.cells #[.int κ p] e)).drew.alloc (.cells ((xs.map (Value.int κ)).toArray ++ [Value.int κ p].toArray ++ Builtin.zeroCells (Value.int κ 0).cells (grownCap (W.alloc (.cells #[.int κ p] e)) (xs.length + 1) old e - (xs.length + 1))) e)) := below_alloc (below_drew (below_alloc (Below.refl _ _) _)) _
    refine ⟨.inl ⟨(W.alloc (.cells #[.int κ p] e)).heap.size, 0, _, _, rfl, ext_ge C (by simp), heap_alloc_new (W.alloc (.cells #[.int κ p] e)).drew _, ?_, by simpa using hge, hcm, ?_⟩, by simpa using hge, ⟨hb1.os, hb1.tape, hb1.output, hb1.size, fun k hk => ext_lt C hk, fun k hk _ => hb1.block k hk⟩⟩
    · have : (Value.int κ 0).cells.size = 1 := rfl
      simp only [Array.size_append, List.size_toArray, size_zeroCells, List.length_map, this, List.length_cons, List.length_nil, List.length_append] at hge ⊢
      omega
    · simp only [List.drop_zero, Array.toList_append, List.map_append, List.map_cons, List.map_nil]
      rw [show (xs ++ [p]).length = (xs.map (Value.int κ) ++ [Value.int κ p]).length by simp]
      exact List.take_left
  rcases h with ⟨g, off, cap, cur, rfl, hg, hh, hs, hn, hm, hx⟩ | ⟨A, rfl, h⟩
  · have hlt := blk_lt hh
    have hh1 : (W.alloc (.cells #[.int κ p] e)).heap[g]? = some (.cells cur e (0, 0)) := ((below_alloc (Below.refl _ _) _).block g hlt).trans hh
    by_cases hroom : xs.length + 1 ≤ cap
    · have hr := run_append_room_at (P := P) (W.alloc (.cells #[.int κ p] e)) t ty e inf ht hinf g off xs.length cap cur hh1 ⟨W.heap.size, 0, none⟩ 1 1 [.int κ p] (by rw [hs1]; rfl) hnew (by simp [Value.oneCell']) hroom (by rw [hs1]; simp; omega)
      refine ⟨some ⟨g, off, none⟩, cap, _, by simpa using hr, .inl ⟨g, off, cap, _, rfl, (ext_lt C hlt).trans hg, setRow_heap _ g cur _ e _ hh1, ?_, by simpa using hroom, hm, ?_⟩, by simpa using hroom, ⟨rfl, rfl, rfl, by simp, fun k hk => ext_lt C hk, fun k hk hne => ?_⟩⟩
      · simp only [List.size_toArray, List.length_append, List.length_take, List.length_drop, Array.length_toList, hs1, List.length_cons, List.length_nil]
        omega
      · simp only [hs1, Nat.mul_one, List.map_append, List.map_cons, List.map_nil, ← hx, List.length_append, List.length_cons, List.length_nil]
        have hl1 : (cur.toList.take (off + xs.length)).length = off + xs.length := by simp; omega
        rw [List.drop_append_of_le_length (by omega), List.drop_take, show off + xs.length - off = xs.length by omega]
        have hl2 : ((cur.toList.drop off).take xs.length).length = xs.length := by simp; omega
        rw [List.take_append, hl2, show xs.length + 1 - xs.length = 1 by omega, List.take_of_length_le (by omega)]
        simp
      · exact (setRow_other _ g k _ (fun e => hne (by rw [e, hg]; simp))).trans ((below_alloc (Below.refl _ _) _).block k hk)
    · have holds : ∀ j u, (xs.map (Value.int κ))[j]? = some u → (W.alloc (.cells #[.int κ p] e)).cell? ((⟨g, off, none⟩ : Addr).add j) = some u := by
        intro j u hu
        rw [Addr.add_lit, cell_of_row _ g (off + j) cur e (0, 0) hh1]
        rw [← hx, List.getElem?_take] at hu
        split at hu
        · rw [List.getElem?_drop] at hu; simpa using hu
        · cases hu
      have hr := run_append_grow (P := P) (W.alloc (.cells #[.int κ p] e)) t ty e inf (.int κ 0) ht hinf hz ⟨g, off, none⟩ xs.length cap (xs.map (.int κ)) (by rw [hs1]; simp) holds ⟨W.heap.size, 0, none⟩ 1 1 [.int κ p] (by rw [hs1]; rfl) hnew (by omega) (by omega) (growslice_fits (by omega) hb)
      have hf := fresh cap _ rfl (by omega) _ rfl
      exact ⟨_, _, _, by simpa using hr, hf⟩
  · by_cases hp : 0 < xs.length
    · obtain ⟨a, rfl, hc⟩ := c_int h.now hp
      have holds : ∀ j u, (xs.map (Value.int κ))[j]? = some u → (W.alloc (.cells #[.int κ p] e)).cell? (a.add j) = some u := fun j u hu => by
        have h6 := World.block_lt_of_cell? W _ (hc j u hu)
        have h7 := (below_alloc (Below.refl W.heap.size W) (.cells #[.int κ p] e)).block _ h6
        have h8 := hc j u hu
        simp only [World.cell?, h7] at h8 ⊢
        exact h8
      have hr := run_append_grow (P := P) (W.alloc (.cells #[.int κ p] e)) t ty e inf (.int κ 0) ht hinf hz a xs.length xs.length (xs.map (.int κ)) (by rw [hs1]; simp) holds ⟨W.heap.size, 0, none⟩ 1 1 [.int κ p] (by rw [hs1]; rfl) hnew (by omega) (by omega) (growslice_fits (by omega) hb)
      have hf := fresh xs.length _ rfl (by omega) _ rfl
      exact ⟨_, _, _, by simpa using hr, hf⟩
    · have hx : xs = [] := List.eq_nil_of_length_eq_zero (by omega)
      subst hx
      cases A with
      | none =>
        have hr := run_append_nil (P := P) (W.alloc (.cells #[.int κ p] e)) t ty e inf (.int κ 0) ht hinf hz ⟨W.heap.size, 0, none⟩ 1 1 [.int κ p] (by rw [hs1]; rfl) hnew (by omega) (by omega) (by simp at hb; omega)
        have hf := fresh 0 _ rfl (by simp) _ rfl
        exact ⟨_, _, _, by simpa using hr, by simpa using hf⟩
      | some a =>
        have hr := run_append_grow (P := P) (W.alloc (.cells #[.int κ p] e)) t ty e inf (.int κ 0) ht hinf hz a 0 0 [] (by simp) (fun j u hu => by simp at hu) ⟨W.heap.size, 0, none⟩ 1 1 [.int κ p] (by rw [hs1]; rfl) hnew (by omega) (by omega) (growslice_fits (by omega) (by simpa using hb))
        have hf := fresh 0 _ rfl (by simp) _ rfl
        exact ⟨_, _, _, by simpa using hr, by simpa using hf⟩
end
section
variable {P : Program} {ops : Array Oper} {rest : List Oper} {o : Oper} {a : Act} {Q : Exit → Act → World → Prop} {Kc : Act → World → Prop}
theorem runs {s x : Operand} {t : TypeId} (ho : o.op = .call { callee := .builtin .append, args := #[s, x], argTypes := #[t, t] }) {u v1 : Value} {w1 : World} (hs : a.eval s = v) (hx : a.eval x = u) (hr : (Builtin.append_ #[t, t] o.type #[v, u]).run P W = .ok v1 w1) : (execOp a.eval o).run P W = .ok (.value v1) w1 := by
  unfold execOp
  simp only [ho, resolve, invoke, builtin, Sem.run_bind, Sem.run_pure, Result.andThen_ok, List.map_toArray, List.map_cons, List.map_nil, hs, hx, hr]
theorem append (κ : IntKind) {C : Nat → Nat} {i : Nat} (hgd : o.guard = none) (s x : Operand) (t e : TypeId) (bytes : Nat) (ho : o.op = .call { callee := .builtin .append, args := #[s, x], argTypes := #[t, t] }) (ht : P.underlying t = some (.slice e)) (hinfo : (P.info? e).map (fun i => (i.zero, i.size, i.bytes)) = some (some (.int κ 0), 1, bytes)) (hb0 : 0 < bytes) (v : Value) (xs : List Int) (p : Int) (hs : a.eval s = v) (hx : a.eval x = .slice (some ⟨W.heap.size, 0, none⟩) 1 1) (HO : OwnG C i W κ e v xs) (hi : i ≠ 0) (hl : (xs.length + 1) * bytes ≤ 140737488355328) {y : List Int} (hy : xs ++ [p] = y)
    (h : ∀ A c w1 C1, OwnG C1 i w1 κ e (.slice A y.length c) y → y.length ≤ c → Step C W C1 w1 [i] → WL P ops Q rest (a.put o.dst (.slice A y.length c)) w1) : WL P ops Q (o :: rest) a (W.alloc (.cells #[.int κ p] e)) := by
  subst hy
  obtain ⟨inf, h0, hz, hsz, hby⟩ := info_parts hinfo
  obtain ⟨A, c, w1, hr, hg, hc, hst⟩ := appendR (P := P) t o.type ht h0 hz hsz HO hi p (by rw [hby]; exact hl) (by rw [hby]; exact hb0)
  exact ⟨Kd.event_run hgd (runs ho hs hx hr) (h A c w1 _ hg hc hst).out⟩
theorem append_step (κ : IntKind) {C : Nat → Nat} {i : Nat} (hw : Region.wanted o (yielded ops a.tmps) = true) (s x : Operand) (t e : TypeId) (bytes : Nat) (ho : o.op = .call { callee := .builtin .append, args := #[s, x], argTypes := #[t, t] }) (ht : P.underlying t = some (.slice e)) (hinfo : (P.info? e).map (fun i => (i.zero, i.size, i.bytes)) = some (some (.int κ 0), 1, bytes)) (hb0 : 0 < bytes) (v : Value) (xs : List Int) (p : Int) (hs : a.eval s = v) (hx : a.eval x = .slice (some ⟨W.heap.size, 0, none⟩) 1 1) (HO : OwnG C i W κ e v xs) (hi : i ≠ 0) (hl : (xs.length + 1) * bytes ≤ 140737488355328) {y : List Int} (hy : xs ++ [p] = y)
    (h : ∀ A c w1 C1, OwnG C1 i w1 κ e (.slice A y.length c) y → y.length ≤ c → Step C W C1 w1 [i] → Kc (a.put o.dst (.slice A y.length c)) w1) : if Region.wanted o (yielded ops a.tmps) = true then Oper.wp P o a (W.alloc (.cells #[.int κ p] e)) Kc Q else Kc (a.put o.dst undef) (W.alloc (.cells #[.int κ p] e)) := by
  subst hy
  obtain ⟨inf, h0, hz, hsz, hby⟩ := info_parts hinfo
  obtain ⟨A, c, w1, hr, hg, hc, hst⟩ := appendR (P := P) t o.type ht h0 hz hsz HO hi p (by rw [hby]; exact hl) (by rw [hby]; exact hb0)
  exact value_ hw rfl (runs ho hs hx hr) (h A c w1 _ hg hc hst)
end
end OwnG
end Go.Proofs.YtbpagdgbehefkaaW.PrintWords
