import Derived.Test.YtdkbmchbkkhpoaaCMem
import Derived.Laws.AppendOwn
set_option linter.unusedVariables false
set_option linter.unusedSimpArgs false
namespace Go.Proofs.YtdkbmchbkkhpoaaW.PrintWords
open Go.RowKit Go.Proofs.YtdkbmchbkkhpoaaW.PrintLast Go.Proofs.YtdkbmchbkkhpoaaW.PrintMore
theorem nX {P : Program} (w : World) (t ty e : TypeId) (i : TypeInfo) (ht : P.underlying t = some (.slice e)) (hi : P.info? e = some i)
    (g off sLen sCap : Nat) (cur : Array Value) (hg : w.heap[g]? = some (.cells cur e (0, 0)))
    (a : Addr) (m c : Nat) (news : List Value) (hl : news.length = m * i.size) (hnews : ∀ j u, news[j]? = some u → w.cell? (a.add j) = some u) (h1 : ∀ u ∈ news, u.oneCell' = true)
    (hroom : sLen + m ≤ sCap) (hfit : off + sLen * i.size + news.length ≤ cur.size) :
    (Builtin.append_ #[t, t] ty #[.slice (some ⟨g, off, none⟩) sLen sCap, .slice (some a) m c]).run P w =
      .ok (.slice (some ⟨g, off, none⟩) (sLen + m) sCap) (w.setRow g (cur.toList.take (off + sLen * i.size) ++ news ++ cur.toList.drop (off + sLen * i.size + news.length)).toArray) := by
  have hf := run_firstCells_some (P := P) w i.size m a m c news hl hnews
  have hst := run_storeCells_at P g (off + sLen * i.size) e news 0 cur w hg (by simpa using hfit) h1
  simp only [Nat.add_zero] at hst
  simp [Builtin.append_, run_underlying ht, sizeOf, typeInfo, hi, Builtin.lenOf, hroom, hf, Addr.add_lit, hst]
theorem zA {α : Type} {xs : List α} {A : Option Addr} (h : 0 < (xs.length : Int)) : xs = [] → A = none := fun e => by rw [e] at h; simp at h
def kH (u : Bool) (C : Nat → Nat) (i : Nat) (W : World) (κ : IntKind) (e : Nat) (v : Value) (xs : List Int) : Prop :=
  (∃ g off cap cur, v = .slice (some ⟨g, off, none⟩) xs.length cap ∧ C g = i ∧ W.heap[g]? = some (.cells cur e (0, 0)) ∧ cur.size = off + cap ∧ xs.length ≤ cap ∧ cap ≤ maxLen ∧ (cur.toList.drop off).take xs.length = xs.map (.int κ)) ∨
  (∃ A, v = .slice A xs.length xs.length ∧ Ft C [0] W (fun w => (Kd.int κ).C w A xs.length xs) ∧ (u = true ∨ xs = []))
theorem Ei {κ : IntKind} {w : World} {A : Option Addr} {n : Nat} {xs : List Int} (h : (Kd.int κ).C w A n xs) (hp : 0 < n) : ∃ a, A = some a ∧ ∀ j u, (xs.map (Value.int κ))[j]? = some u → w.cell? (a.add j) = some u := by
  obtain ⟨hn, _, h3⟩ := h
  obtain ⟨a, e, hc⟩ := h3 hp
  refine ⟨a, e, fun j u hu => ?_⟩
  rw [List.getElem?_map] at hu
  cases hx : xs[j]? with
  | none => rw [hx] at hu; cases hu
  | some x =>
    rw [hx] at hu
    obtain ⟨c, hcl, hK, hcc⟩ := hc j x hx
    have hK' : c = [.int κ x] := hK
    subst hK'
    have := hcc 0 _ rfl
    simp only [Option.map_some, Option.some.injEq] at hu
    rw [← hu]
    simpa [Kd.int, Kd.scalar] using this
theorem Fj {κ : IntKind} {w : World} {a : Addr} {xs : List Int} (hm : xs.length ≤ 9223372036854775807) (h : ∀ j u, (xs.map (Value.int κ))[j]? = some u → w.cell? (a.add j) = some u) : (Kd.int κ).C w (some a) xs.length xs := by
  refine ⟨rfl, hm, fun _ => ⟨a, rfl, fun j x hx => ⟨[.int κ x], rfl, rfl, fun q u hu => ?_⟩⟩⟩
  cases q with
  | succ q => simp at hu
  | zero =>
    simp only [List.getElem?_cons_zero, Option.some.injEq] at hu
    rw [← hu]
    have := h j (.int κ x) (by rw [List.getElem?_map, hx]; rfl)
    simpa [Kd.int, Kd.scalar] using this
namespace kH
variable {u : Bool} {C c' c'' : Nat → Nat} {i e : Nat} {W w' : World} {κ : IntKind} {S T : List Nat} {v : Value} {xs : List Int}
theorem move (h : kH u C i W κ e v xs) (hc : ∀ k, k < W.heap.size → c' k = C k) (hm : ∀ k, k < W.heap.size → (C k = i ∨ C k = 0) → w'.heap[k]? = W.heap[k]?) : kH u c' i w' κ e v xs := by
  rcases h with ⟨g, off, cap, cur, rfl, hi, hh, r⟩ | ⟨A, rfl, h, hb⟩
  · have hlt := lu hh
    exact .inl ⟨g, off, cap, cur, rfl, (hc g hlt).trans hi, (hm g hlt (.inl hi)).trans hh, r⟩
  · refine .inr ⟨A, rfl, nI.mono (nI.step (nI.bound h) (fun k hk hlt => hm k hlt (.inr (by simpa using hk.1)))) (fun k hk => ?_), hb⟩
    show c' k ∈ [0]
    rw [hc k hk.2]; exact hk.1
theorem below (h : kH u C i W κ e v xs) (hb : Below W.heap.size W w') : kH u C i w' κ e v xs := h.move (fun _ _ => rfl) (fun k hk _ => hb.block k hk)
theorem alloc (h : kH u C i W κ e v xs) (o : Obj) : kH u C i (W.alloc o) κ e v xs := h.below (below_alloc (Below.refl _ _) o)
theorem drew (h : kH u C i W κ e v xs) : kH u C i W.drew κ e v xs := h.below (below_drew (Below.refl _ _))
theorem drewN (h : kH u C i W κ e v xs) (m : Nat) : kH u C i (W.drewN m) κ e v xs := h.below (lD (Below.refl _ _) m)
theorem iE (h : kH u C i W κ e v xs) (s : Step C W c' w' S) (hZ : (!S.contains i && !S.contains 0) = true) : kH u c' i w' κ e v xs := by
  simp at hZ
  refine h.move s.col (fun k hk ho => s.keep k hk (fun hm => ?_))
  rcases ho with ho | ho <;> rw [ho] at hm
  · exact hZ.1 hm
  · exact hZ.2 hm
theorem ft {A : Option Addr} {n c : Nat} (h : kH u C i W κ e (.slice A n c) xs) : Ft C [i, 0] W (fun W => (Kd.int κ).C W A n xs) := by
  rcases h with ⟨g, off, cap, cur, he, hi, hh, hs, hn, hm, hx⟩ | ⟨A', he, h, hb⟩
  · injection he with e1 e2 e3
    subst e1; subst e2; subst e3
    intro W' hW
    refine Fj (by simp only [maxLen] at hm; omega) (fun j u hu => ?_)
    rw [Addr.add_lit, cell_of_row W' g (off + j) cur e (0, 0) ((hW g (by show C g ∈ [i, 0]; rw [hi]; simp) (lu hh)).trans hh)]
    rw [← hx, List.getElem?_take] at hu
    split at hu
    · rw [List.getElem?_drop] at hu; simpa using hu
    · cases hu
  · injection he with e1 e2 e3
    subst e1; subst e2
    exact h.more (by simp)
theorem at_ {A : Option Addr} {n c : Nat} (h : kH u C i W κ e (.slice A n c) xs) : n = xs.length ∧ n ≤ c := by
  rcases h with ⟨g, off, cap, cur, he, hi, hh, hs, hn, hm, hx⟩ | ⟨A', he, h, hb⟩
  · injection he with e1 e2 e3
    subst e2; subst e3
    exact ⟨rfl, hn⟩
  · injection he with e1 e2 e3
    subst e2; subst e3
    exact ⟨rfl, Nat.le_refl _⟩
theorem recol (h : kH u C i W κ e v xs) {a b : Nat} (ha : i ≠ a) (h0 : 0 ≠ a) : kH u (recol C a b) i W κ e v xs := by
  rcases h with ⟨g, off, cap, cur, rfl, hi, r⟩ | ⟨A, rfl, h, hb⟩
  · exact .inl ⟨g, off, cap, cur, rfl, by unfold PrintWords.recol; rw [if_neg (by omega)]; exact hi, r⟩
  · exact .inr ⟨A, rfl, h.recol (.inl (by simpa using fun e => h0 e.symm)), hb⟩
theorem recolor (h : kH u C i W κ e v xs) {b : Nat} (h0 : 0 ≠ i) : kH u (PrintWords.recol C i b) b W κ e v xs := by
  rcases h with ⟨g, off, cap, cur, rfl, hi, r⟩ | ⟨A, rfl, h, hb⟩
  · exact .inl ⟨g, off, cap, cur, rfl, by unfold PrintWords.recol; rw [if_pos hi], r⟩
  · exact .inr ⟨A, rfl, h.recol (.inl (by simpa using fun e => h0 e.symm)), hb⟩
theorem of (h : Own C i W (Kd.int κ) e v xs) : kH u C i W κ e v xs := by
  obtain ⟨h1, h2, rows, hl, hR, hf⟩ := h
  obtain ⟨_, inner, ho, hr⟩ := hR
  have hin : inner = xs.map (.int κ) := by
    apply List.ext_getElem?
    intro j
    by_cases hj : j < xs.length
    · have hk := Kd.ng (hf j xs[j] (rows[j]'(by omega)) (List.getElem?_eq_getElem hj) (List.getElem?_eq_getElem (by omega)))
      have hk' : rows[j]'(by omega) = [.int κ xs[j]] := hk
      have h4 := (hr.2 j (rows[j]'(by omega)) (List.getElem?_eq_getElem (by omega))).1
      rw [hk'] at h4
      have h5 := congrArg (fun l => l[0]?) h4
      simp [Kd.raw, Kd.int, Kd.scalar, List.getElem?_take] at h5
      rw [h5, List.getElem?_map, List.getElem?_eq_getElem hj]; rfl
    · have h6 := hr.1
      simp [Kd.raw, Kd.int, Kd.scalar] at h6
      rw [List.getElem?_eq_none (by omega), List.getElem?_eq_none (by simp; omega)]
  rw [hl] at ho
  rcases ho.2 with ⟨rfl, hn⟩ | ⟨g, cap, cur, rfl, _, hh, hc, hm, hs, ht⟩
  · have : xs = [] := List.eq_nil_of_length_eq_zero hn
    subst this
    exact .inr ⟨none, rfl, Kd.D6 _ _ _, .inr rfl⟩
  · have hs' : cur.size = cap := by simpa [Kd.raw, Kd.int, Kd.scalar] using hs
    refine .inl ⟨g, 0, cap, cur, rfl, h1 g rfl, hh, by omega, hc, hm, ?_⟩
    rw [List.drop_zero, ← hin, ← ht]
    simp [Kd.raw, Kd.int, Kd.scalar]
theorem cutFrom {P : Program} {t : TypeId} (el : TypeId) {inf : TypeInfo} (kl : IntKind) {A : Option Addr} {n c : Nat} {j : Int}
    (ht : P.underlying t = some (.slice el)) (hi : P.info? el = some inf) (hsz : inf.size = 1) (h : kH u C i W κ e (.slice A n c) xs) (h1 : 0 ≤ j) (h2 : j ≤ n) {y : List Int} (hy : xs.drop j.toNat = y) :
    ∃ A' c', (∀ w, (Instr.sliceAt t (.slice A n c) (some (.int kl j)) none none).run P w = .ok (.slice A' y.length c') w) ∧ kH u C i W κ e (.slice A' y.length c') y ∧ y.length ≤ c' := by
  have hn := h.at_
  obtain ⟨rfl, hc⟩ := hn
  subst hy
  have hl : (xs.drop j.toNat).length = xs.length - j.toNat := List.length_drop
  refine ⟨if c = j.toNat then A else A.map (·.add (j.toNat * 1)), c - j.toNat, fun w => ?_, ?_, by omega⟩
  · have hr := xG (P := P) t el kl ht hi 1 hsz A xs.length c j h1 h2 w
    rw [← hl] at hr
    rw [run_sliceAt_slice _ _ _ _ _ _ (by simp [Program.elem, ht])]
    exact hr
  · rcases h with ⟨g, off, cap, cur, he, hg, hh, hs, hn, hm, hx⟩ | ⟨A', he, h, hb⟩
    · injection he with e1 e2 e3
      subst e1; subst e3
      by_cases hcm : c = j.toNat
      · rw [if_pos hcm]
        have : xs.drop j.toNat = [] := List.drop_eq_nil_of_le (by omega)
        rw [this]
        refine .inr ⟨some ⟨g, off, none⟩, by rw [show c - j.toNat = 0 by omega]; rfl, ?_, .inr rfl⟩
        intro W' _
        exact ⟨rfl, by simp, fun h => absurd h (by simp)⟩
      · rw [if_neg hcm]
        refine .inl ⟨g, off + j.toNat * 1, c - j.toNat, cur, by rw [Option.map_some, Addr.add_lit], hg, hh, by omega, by omega, by omega, ?_⟩
        rw [Nat.mul_one, ← List.drop_drop, hl, ← List.drop_take]
        rw [show (cur.toList.drop off).take xs.length = xs.map (.int κ) from hx, List.map_drop]
    · injection he with e1 e2 e3
      subst e1
      have h3 := Kd.D9 (m := j.toNat) (d := Kd.int κ) (c := c) h (by omega) hc
      subst e3
      refine .inr ⟨_, by rw [hl], ?_, hb.imp id (fun e => by rw [e]; simp)⟩
      simpa [Ft, Kd.F, Kd.int, Kd.scalar, hl] using h3
theorem take {P : Program} {t : TypeId} (el : TypeId) {inf : TypeInfo} (kh : IntKind) {A : Option Addr} {n c : Nat} {j : Int}
    (ht : P.underlying t = some (.slice el)) (hi : P.info? el = some inf) (h : kH false C i W κ e (.slice A n c) xs) (h1 : 0 ≤ j) (h2 : j ≤ n) {y : List Int} (hy : xs.take j.toNat = y) :
    (∀ w, (Instr.sliceAt t (.slice A n c) none (some (.int kh j)) none).run P w = .ok (.slice A y.length c) w) ∧ kH false C i W κ e (.slice A y.length c) y ∧ y.length ≤ c := by
  obtain ⟨rfl, hc⟩ := h.at_
  subst hy
  have hl : (xs.take j.toNat).length = j.toNat := by rw [List.length_take]; omega
  refine ⟨fun w => ?_, ?_, by omega⟩
  · have hr := DU (P := P) t el kh ht hi A xs.length c j h1 h2 hc w
    rw [← hl] at hr
    rw [run_sliceAt_slice _ _ _ _ _ _ (by simp [Program.elem, ht])]
    exact hr
  · rcases h with ⟨g, off, cap, cur, he, hg, hh, hs, hn, hm, hx⟩ | ⟨A', he, h, hb⟩
    · injection he with e1 e2 e3
      subst e1; subst e3
      refine .inl ⟨g, off, c, cur, rfl, hg, hh, hs, by omega, hm, ?_⟩
      rw [hl, List.map_take, ← hx, List.take_take, show min j.toNat xs.length = j.toNat by omega]
    · rcases hb with hb | hb
      · cases hb
      · subst hb
        injection he with e1 e2 e3
        subst e1; subst e3
        have : j.toNat = 0 := by simp at h2; omega
        refine .inr ⟨A, by simp, ?_, .inr (by simp)⟩
        intro W' _
        exact ⟨rfl, by simp, fun h => absurd h (by simp)⟩
section
variable {P : Program}
theorem zB (t ty : TypeId) {e : TypeId} {inf : TypeInfo} (ht : P.underlying t = some (.slice e)) (hinf : P.info? e = some inf) (hz : inf.zero = some (.int κ 0)) (hs1 : inf.size = 1) (h : kH u C i W κ e v xs) (hi : i ≠ 0) (p : Int) (hb : (xs.length + 1) * inf.bytes ≤ 140737488355328) (hb0 : 0 < inf.bytes) :
    ∃ A c w1, (Builtin.append_ #[t, t] ty #[v, .slice (some ⟨W.heap.size, 0, none⟩) 1 1]).run P (W.alloc (.cells #[.int κ p] e)) = .ok (.slice A (xs ++ [p]).length c) w1 ∧ kH u (ext C W.heap.size i) i w1 κ e (.slice A (xs ++ [p]).length c) (xs ++ [p]) ∧ (xs ++ [p]).length ≤ c ∧ Step C W (ext C W.heap.size i) w1 [i] := by
  have hlen : xs.length + 1 ≤ 140737488355328 := Nat.le_trans (Nat.le_mul_of_pos_right _ hb0) hb
  have hnew : ∀ j u, [Value.int κ p][j]? = some u → (W.alloc (.cells #[.int κ p] e)).cell? ((⟨W.heap.size, 0, none⟩ : Addr).add j) = some u := by
    intro j u hu
    rw [nR, cell_of_row _ _ j #[.int κ p] e (0, 0) (heap_alloc_new W _)]
    simpa using hu
  have hg0 : W.grownBy (W.alloc (.cells #[.int κ p] e)) none := World.grownBy_alloc W _ none
  have fresh : ∀ (old : Nat) (olds : List Value), olds = xs.map (.int κ) → old < xs.length + 1 → ∀ w1, w1 = (W.alloc (.cells #[.int κ p] e)).drew.alloc (.cells (olds.toArray ++ [Value.int κ p].toArray ++ Builtin.zeroCells (Value.int κ 0).cells (grownCap (W.alloc (.cells #[.int κ p] e)) (xs.length + 1) old e - (xs.length + 1))) e) →
      kH u (ext C W.heap.size i) i w1 κ e (.slice (some ⟨(W.alloc (.cells #[.int κ p] e)).heap.size, 0, none⟩) (xs ++ [p]).length (grownCap (W.alloc (.cells #[.int κ p] e)) (xs.length + 1) old e)) (xs ++ [p]) ∧ (xs ++ [p]).length ≤ grownCap (W.alloc (.cells #[.int κ p] e)) (xs.length + 1) old e ∧ Step C W (ext C W.heap.size i) w1 [i] := by
    intro old olds ho hlt w1 hw1
    subst hw1; subst ho
    have hge := grownCap_ge (W.alloc (.cells #[.int κ p] e)) (xs.length + 1) old e
    have hcm := grownCap_le_maxLen (W.alloc (.cells #[.int κ p] e)) (xs.length + 1) old e (by simp only [maxLen]; omega)
    have hb1 : Below W.heap.size W ((W.alloc (.cells #[.int κ p] e)).drew.alloc (.cells ((xs.map (Value.int κ)).toArray ++ [Value.int κ p].toArray ++ Builtin.zeroCells (Value.int κ 0).cells (grownCap (W.alloc (.cells #[.int κ p] e)) (xs.length + 1) old e - (xs.length + 1))) e)) := below_alloc (below_drew (below_alloc (Below.refl _ _) _)) _
    refine ⟨.inl ⟨(W.alloc (.cells #[.int κ p] e)).heap.size, 0, _, _, rfl, nP C (by simp), heap_alloc_new (W.alloc (.cells #[.int κ p] e)).drew _, ?_, by simpa using hge, hcm, ?_⟩, by simpa using hge, ⟨hb1.os, hb1.tape, hb1.output, hb1.size, fun k hk => lZ C hk, fun k hk _ => hb1.block k hk⟩⟩
    · have : (Value.int κ 0).cells.size = 1 := rfl
      simp only [Array.size_append, List.size_toArray, size_zeroCells, List.length_map, this, List.length_cons, List.length_nil, List.length_append] at hge ⊢
      omega
    · simp only [List.drop_zero, Array.toList_append, List.map_append, List.map_cons, List.map_nil]
      rw [show (xs ++ [p]).length = (xs.map (Value.int κ) ++ [Value.int κ p]).length by simp]
      exact List.take_left
  rcases h with ⟨g, off, cap, cur, rfl, hg, hh, hs, hn, hm, hx⟩ | ⟨A, rfl, h, hb'⟩
  · have hlt := lu hh
    have hh1 : (W.alloc (.cells #[.int κ p] e)).heap[g]? = some (.cells cur e (0, 0)) := ((below_alloc (Below.refl _ _) _).block g hlt).trans hh
    by_cases hroom : xs.length + 1 ≤ cap
    · have hr := nX (P := P) (W.alloc (.cells #[.int κ p] e)) t ty e inf ht hinf g off xs.length cap cur hh1 ⟨W.heap.size, 0, none⟩ 1 1 [.int κ p] (by rw [hs1]; rfl) hnew (by simp [Value.oneCell']) hroom (by rw [hs1]; simp; omega)
      refine ⟨some ⟨g, off, none⟩, cap, _, by simpa using hr, .inl ⟨g, off, cap, _, rfl, (lZ C hlt).trans hg, setRow_heap _ g cur _ e _ hh1, ?_, by simpa using hroom, hm, ?_⟩, by simpa using hroom, ⟨rfl, rfl, rfl, by simp, fun k hk => lZ C hk, fun k hk hne => ?_⟩⟩
      · simp only [List.size_toArray, List.length_append, List.length_take, List.length_drop, Array.length_toList, hs1, List.length_cons, List.length_nil]
        omega
      · simp only [hs1, Nat.mul_one, List.map_append, List.map_cons, List.map_nil, ← hx, List.length_append, List.length_cons, List.length_nil]
        have hl1 : (cur.toList.take (off + xs.length)).length = off + xs.length := by simp; omega
        rw [List.drop_append_of_le_length (by omega), List.drop_take, show off + xs.length - off = xs.length by omega]
        have hl2 : ((cur.toList.drop off).take xs.length).length = xs.length := by simp; omega
        rw [List.take_append, hl2, show xs.length + 1 - xs.length = 1 by omega, List.take_of_length_le (by omega)]
        simp
      · exact (setRow_other _ g k _ (fun e => hne (by rw [e, hg]; simp))).trans ((below_alloc (Below.refl _ _) _).block k hk)
    · have holds : ∀ j u, (xs.map (Value.int κ))[j]? = some u → (W.alloc (.cells #[.int κ p] e)).cell? ((⟨g, off, none⟩ : Addr).add j) = some u := by
        intro j u hu
        rw [Addr.add_lit, cell_of_row _ g (off + j) cur e (0, 0) hh1]
        rw [← hx, List.getElem?_take] at hu
        split at hu
        · rw [List.getElem?_drop] at hu; simpa using hu
        · cases hu
      have hr := run_append_grow (P := P) (W.alloc (.cells #[.int κ p] e)) t ty e inf (.int κ 0) ht hinf hz ⟨g, off, none⟩ xs.length cap (xs.map (.int κ)) (by rw [hs1]; simp) holds ⟨W.heap.size, 0, none⟩ 1 1 [.int κ p] (by rw [hs1]; rfl) hnew (by omega) (by omega) (growslice_fits (by omega) hb)
      have hf := fresh cap _ rfl (by omega) _ rfl
      exact ⟨_, _, _, by simpa using hr, hf⟩
  · by_cases hp : 0 < xs.length
    · obtain ⟨a, rfl, hc⟩ := Ei h.now hp
      have holds : ∀ j u, (xs.map (Value.int κ))[j]? = some u → (W.alloc (.cells #[.int κ p] e)).cell? (a.add j) = some u := fun j u hu => by
        have h6 := World.block_lt_of_cell? W _ (hc j u hu)
        have h7 := (below_alloc (Below.refl W.heap.size W) (.cells #[.int κ p] e)).block _ h6
        have h8 := hc j u hu
        simp only [World.cell?, h7] at h8 ⊢
        exact h8
      have hr := run_append_grow (P := P) (W.alloc (.cells #[.int κ p] e)) t ty e inf (.int κ 0) ht hinf hz a xs.length xs.length (xs.map (.int κ)) (by rw [hs1]; simp) holds ⟨W.heap.size, 0, none⟩ 1 1 [.int κ p] (by rw [hs1]; rfl) hnew (by omega) (by omega) (growslice_fits (by omega) hb)
      have hf := fresh xs.length _ rfl (by omega) _ rfl
      exact ⟨_, _, _, by simpa using hr, hf⟩
    · have hx : xs = [] := List.eq_nil_of_length_eq_zero (by omega)
      subst hx
      cases A with
      | none =>
        have hr := run_append_nil (P := P) (W.alloc (.cells #[.int κ p] e)) t ty e inf (.int κ 0) ht hinf hz ⟨W.heap.size, 0, none⟩ 1 1 [.int κ p] (by rw [hs1]; rfl) hnew (by omega) (by omega) (by simp at hb; omega)
        have hf := fresh 0 _ rfl (by simp) _ rfl
        exact ⟨_, _, _, by simpa using hr, by simpa using hf⟩
      | some a =>
        have hr := run_append_grow (P := P) (W.alloc (.cells #[.int κ p] e)) t ty e inf (.int κ 0) ht hinf hz a 0 0 [] (by simp) (fun j u hu => by simp at hu) ⟨W.heap.size, 0, none⟩ 1 1 [.int κ p] (by rw [hs1]; rfl) hnew (by omega) (by omega) (growslice_fits (by omega) (by simpa using hb))
        have hf := fresh 0 _ rfl (by simp) _ rfl
        exact ⟨_, _, _, by simpa using hr, by simpa using hf⟩
theorem CO (t ty : TypeId) {e : TypeId} {inf : TypeInfo} (ht : P.underlying t = some (.slice e)) (hinf : P.info? e = some inf) (hz : inf.zero = some (.int κ 0)) (hs1 : inf.size = 1) (h : kH u C i W κ e v xs) (hi : i ≠ 0) (p : Int) (hb : (xs.length + 1) * inf.bytes ≤ 140737488355328) (hb0 : 0 < inf.bytes) :
    ∃ A c w1, (Builtin.append_ #[t, t] ty #[v, .slice (some ⟨W.heap.size, 0, none⟩) 1 1]).run P (W.alloc (.cells #[.int κ p] e)) = .ok (.slice A (xs ++ [p]).length c) w1 ∧ kH u (ext C W.heap.size i) i w1 κ e (.slice A (xs ++ [p]).length c) (xs ++ [p]) ∧ (xs ++ [p]).length ≤ c ∧ Step C W (ext C W.heap.size i) w1 [i] ∧ (∀ k, k < W.heap.size → v.ownBlock ≠ some k → w1.heap[k]? = W.heap[k]?) ∧ ((Value.slice A (xs ++ [p]).length c).ownBlock = v.ownBlock ∨ ∃ b, (Value.slice A (xs ++ [p]).length c).ownBlock = some b ∧ W.heap.size ≤ b) := by
  have hlen : xs.length + 1 ≤ 140737488355328 := Nat.le_trans (Nat.le_mul_of_pos_right _ hb0) hb
  have hnew : ∀ j u, [Value.int κ p][j]? = some u → (W.alloc (.cells #[.int κ p] e)).cell? ((⟨W.heap.size, 0, none⟩ : Addr).add j) = some u := by
    intro j u hu
    rw [nR, cell_of_row _ _ j #[.int κ p] e (0, 0) (heap_alloc_new W _)]
    simpa using hu
  have hg0 : W.grownBy (W.alloc (.cells #[.int κ p] e)) none := World.grownBy_alloc W _ none
  have fresh : ∀ (old : Nat) (olds : List Value), olds = xs.map (.int κ) → old < xs.length + 1 → ∀ w1, w1 = (W.alloc (.cells #[.int κ p] e)).drew.alloc (.cells (olds.toArray ++ [Value.int κ p].toArray ++ Builtin.zeroCells (Value.int κ 0).cells (grownCap (W.alloc (.cells #[.int κ p] e)) (xs.length + 1) old e - (xs.length + 1))) e) →
      kH u (ext C W.heap.size i) i w1 κ e (.slice (some ⟨(W.alloc (.cells #[.int κ p] e)).heap.size, 0, none⟩) (xs ++ [p]).length (grownCap (W.alloc (.cells #[.int κ p] e)) (xs.length + 1) old e)) (xs ++ [p]) ∧ (xs ++ [p]).length ≤ grownCap (W.alloc (.cells #[.int κ p] e)) (xs.length + 1) old e ∧ Step C W (ext C W.heap.size i) w1 [i] ∧ ∀ k, k < W.heap.size → w1.heap[k]? = W.heap[k]? := by
    intro old olds ho hlt w1 hw1
    subst hw1; subst ho
    have hge := grownCap_ge (W.alloc (.cells #[.int κ p] e)) (xs.length + 1) old e
    have hcm := grownCap_le_maxLen (W.alloc (.cells #[.int κ p] e)) (xs.length + 1) old e (by simp only [maxLen]; omega)
    have hb1 : Below W.heap.size W ((W.alloc (.cells #[.int κ p] e)).drew.alloc (.cells ((xs.map (Value.int κ)).toArray ++ [Value.int κ p].toArray ++ Builtin.zeroCells (Value.int κ 0).cells (grownCap (W.alloc (.cells #[.int κ p] e)) (xs.length + 1) old e - (xs.length + 1))) e)) := below_alloc (below_drew (below_alloc (Below.refl _ _) _)) _
    refine ⟨.inl ⟨(W.alloc (.cells #[.int κ p] e)).heap.size, 0, _, _, rfl, nP C (by simp), heap_alloc_new (W.alloc (.cells #[.int κ p] e)).drew _, ?_, by simpa using hge, hcm, ?_⟩, by simpa using hge, ⟨hb1.os, hb1.tape, hb1.output, hb1.size, fun k hk => lZ C hk, fun k hk _ => hb1.block k hk⟩, fun k hk => hb1.block k hk⟩
    · have : (Value.int κ 0).cells.size = 1 := rfl
      simp only [Array.size_append, List.size_toArray, size_zeroCells, List.length_map, this, List.length_cons, List.length_nil, List.length_append] at hge ⊢
      omega
    · simp only [List.drop_zero, Array.toList_append, List.map_append, List.map_cons, List.map_nil]
      rw [show (xs ++ [p]).length = (xs.map (Value.int κ) ++ [Value.int κ p]).length by simp]
      exact List.take_left
  rcases h with ⟨g, off, cap, cur, rfl, hg, hh, hs, hn, hm, hx⟩ | ⟨A, rfl, h, hb'⟩
  · have hlt := lu hh
    have hh1 : (W.alloc (.cells #[.int κ p] e)).heap[g]? = some (.cells cur e (0, 0)) := ((below_alloc (Below.refl _ _) _).block g hlt).trans hh
    by_cases hroom : xs.length + 1 ≤ cap
    · have hr := nX (P := P) (W.alloc (.cells #[.int κ p] e)) t ty e inf ht hinf g off xs.length cap cur hh1 ⟨W.heap.size, 0, none⟩ 1 1 [.int κ p] (by rw [hs1]; rfl) hnew (by simp [Value.oneCell']) hroom (by rw [hs1]; simp; omega)
      refine ⟨some ⟨g, off, none⟩, cap, _, by simpa using hr, .inl ⟨g, off, cap, _, rfl, (lZ C hlt).trans hg, setRow_heap _ g cur _ e _ hh1, ?_, by simpa using hroom, hm, ?_⟩, by simpa using hroom, ⟨rfl, rfl, rfl, by simp, fun k hk => lZ C hk, fun k hk hne => ?_⟩, fun k hk hne => (setRow_other _ g k _ (fun e => hne (by rw [e]; rfl))).trans ((below_alloc (Below.refl _ _) _).block k hk), .inl rfl⟩
      · simp only [List.size_toArray, List.length_append, List.length_take, List.length_drop, Array.length_toList, hs1, List.length_cons, List.length_nil]
        omega
      · simp only [hs1, Nat.mul_one, List.map_append, List.map_cons, List.map_nil, ← hx, List.length_append, List.length_cons, List.length_nil]
        have hl1 : (cur.toList.take (off + xs.length)).length = off + xs.length := by simp; omega
        rw [List.drop_append_of_le_length (by omega), List.drop_take, show off + xs.length - off = xs.length by omega]
        have hl2 : ((cur.toList.drop off).take xs.length).length = xs.length := by simp; omega
        rw [List.take_append, hl2, show xs.length + 1 - xs.length = 1 by omega, List.take_of_length_le (by omega)]
        simp
      · exact (setRow_other _ g k _ (fun e => hne (by rw [e, hg]; simp))).trans ((below_alloc (Below.refl _ _) _).block k hk)
    · have holds : ∀ j u, (xs.map (Value.int κ))[j]? = some u → (W.alloc (.cells #[.int κ p] e)).cell? ((⟨g, off, none⟩ : Addr).add j) = some u := by
        intro j u hu
        rw [Addr.add_lit, cell_of_row _ g (off + j) cur e (0, 0) hh1]
        rw [← hx, List.getElem?_take] at hu
        split at hu
        · rw [List.getElem?_drop] at hu; simpa using hu
        · cases hu
      have hr := run_append_grow (P := P) (W.alloc (.cells #[.int κ p] e)) t ty e inf (.int κ 0) ht hinf hz ⟨g, off, none⟩ xs.length cap (xs.map (.int κ)) (by rw [hs1]; simp) holds ⟨W.heap.size, 0, none⟩ 1 1 [.int κ p] (by rw [hs1]; rfl) hnew (by omega) (by omega) (growslice_fits (by omega) hb)
      have hf := fresh cap _ rfl (by omega) _ rfl
      exact ⟨_, _, _, by simpa using hr, hf.1, hf.2.1, hf.2.2.1, fun k hk _ => hf.2.2.2 k hk, .inr ⟨_, rfl, by simp⟩⟩
  · by_cases hp : 0 < xs.length
    · obtain ⟨a, rfl, hc⟩ := Ei h.now hp
      have holds : ∀ j u, (xs.map (Value.int κ))[j]? = some u → (W.alloc (.cells #[.int κ p] e)).cell? (a.add j) = some u := fun j u hu => by
        have h6 := World.block_lt_of_cell? W _ (hc j u hu)
        have h7 := (below_alloc (Below.refl W.heap.size W) (.cells #[.int κ p] e)).block _ h6
        have h8 := hc j u hu
        simp only [World.cell?, h7] at h8 ⊢
        exact h8
      have hr := run_append_grow (P := P) (W.alloc (.cells #[.int κ p] e)) t ty e inf (.int κ 0) ht hinf hz a xs.length xs.length (xs.map (.int κ)) (by rw [hs1]; simp) holds ⟨W.heap.size, 0, none⟩ 1 1 [.int κ p] (by rw [hs1]; rfl) hnew (by omega) (by omega) (growslice_fits (by omega) hb)
      have hf := fresh xs.length _ rfl (by omega) _ rfl
      exact ⟨_, _, _, by simpa using hr, hf.1, hf.2.1, hf.2.2.1, fun k hk _ => hf.2.2.2 k hk, .inr ⟨_, rfl, by simp⟩⟩
    · have hx : xs = [] := List.eq_nil_of_length_eq_zero (by omega)
      subst hx
      cases A with
      | none =>
        have hr := run_append_nil (P := P) (W.alloc (.cells #[.int κ p] e)) t ty e inf (.int κ 0) ht hinf hz ⟨W.heap.size, 0, none⟩ 1 1 [.int κ p] (by rw [hs1]; rfl) hnew (by omega) (by omega) (by simp at hb; omega)
        have hf := fresh 0 _ rfl (by simp) _ rfl
        exact ⟨_, _, _, by simpa using hr, hf.1, hf.2.1, hf.2.2.1, fun k hk _ => hf.2.2.2 k hk, .inr ⟨_, rfl, by simp⟩⟩
      | some a =>
        have hr := run_append_grow (P := P) (W.alloc (.cells #[.int κ p] e)) t ty e inf (.int κ 0) ht hinf hz a 0 0 [] (by simp) (fun j u hu => by simp at hu) ⟨W.heap.size, 0, none⟩ 1 1 [.int κ p] (by rw [hs1]; rfl) hnew (by omega) (by omega) (growslice_fits (by omega) (by simpa using hb))
        have hf := fresh 0 _ rfl (by simp) _ rfl
        exact ⟨_, _, _, by simpa using hr, hf.1, hf.2.1, hf.2.2.1, fun k hk _ => hf.2.2.2 k hk, .inr ⟨_, rfl, by simp⟩⟩
end
section
variable {P : Program} {ops : Array Oper} {rest : List Oper} {o : Oper} {a : Act} {Q : Exit → Act → World → Prop} {Kc : Act → World → Prop}
theorem runs {s x : Operand} {t : TypeId} (ho : o.op = .call { callee := .builtin .append, args := #[s, x], argTypes := #[t, t] }) {u v1 : Value} {w1 : World} (hs : a.eval s = v) (hx : a.eval x = u) (hr : (Builtin.append_ #[t, t] o.type #[v, u]).run P W = .ok v1 w1) : (execOp a.eval o).run P W = .ok (.value v1) w1 := by
  unfold execOp
  simp only [ho, resolve, invoke, builtin, Sem.run_bind, Sem.run_pure, Result.andThen_ok, List.map_toArray, List.map_cons, List.map_nil, hs, hx, hr]
theorem append (κ : IntKind) {C : Nat → Nat} {i : Nat} (hgd : o.guard = none) (s x : Operand) (t e : TypeId) (bytes : Nat) (ho : o.op = .call { callee := .builtin .append, args := #[s, x], argTypes := #[t, t] }) (ht : P.underlying t = some (.slice e)) (hinfo : (P.info? e).map (fun i => (i.zero, i.size, i.bytes)) = some (some (.int κ 0), 1, bytes)) (hb0 : 0 < bytes) (v : Value) (xs : List Int) (p : Int) (hs : a.eval s = v) (hx : a.eval x = .slice (some ⟨W.heap.size, 0, none⟩) 1 1) (HO : kH u C i W κ e v xs) (hi : i ≠ 0) (hl : (xs.length + 1) * bytes ≤ 140737488355328) {y : List Int} (hy : xs ++ [p] = y)
    (h : ∀ A c w1 C1, kH u C1 i w1 κ e (.slice A y.length c) y → y.length ≤ c → Step C W C1 w1 [i] → WL P ops Q rest (a.put o.dst (.slice A y.length c)) w1) : WL P ops Q (o :: rest) a (W.alloc (.cells #[.int κ p] e)) := by
  subst hy
  obtain ⟨inf, h0, hz, hsz, hby⟩ := info_parts hinfo
  obtain ⟨A, c, w1, hr, hg, hc, hst⟩ := zB (P := P) t o.type ht h0 hz hsz HO hi p (by rw [hby]; exact hl) (by rw [hby]; exact hb0)
  exact ⟨Kd.qc hgd (runs ho hs hx hr) (h A c w1 _ hg hc hst).out⟩
theorem rF (κ : IntKind) {C : Nat → Nat} {i : Nat} (hw : Region.wanted o (yielded ops a.tmps) = true) (s x : Operand) (t e : TypeId) (bytes : Nat) (ho : o.op = .call { callee := .builtin .append, args := #[s, x], argTypes := #[t, t] }) (ht : P.underlying t = some (.slice e)) (hinfo : (P.info? e).map (fun i => (i.zero, i.size, i.bytes)) = some (some (.int κ 0), 1, bytes)) (hb0 : 0 < bytes) (v : Value) (xs : List Int) (p : Int) (hs : a.eval s = v) (hx : a.eval x = .slice (some ⟨W.heap.size, 0, none⟩) 1 1) (HO : kH u C i W κ e v xs) (hi : i ≠ 0) (hl : (xs.length + 1) * bytes ≤ 140737488355328) {y : List Int} (hy : xs ++ [p] = y)
    (h : ∀ A c w1 C1, kH u C1 i w1 κ e (.slice A y.length c) y → y.length ≤ c → Step C W C1 w1 [i] → Kc (a.put o.dst (.slice A y.length c)) w1) : if Region.wanted o (yielded ops a.tmps) = true then Oper.wp P o a (W.alloc (.cells #[.int κ p] e)) Kc Q else Kc (a.put o.dst undef) (W.alloc (.cells #[.int κ p] e)) := by
  subst hy
  obtain ⟨inf, h0, hz, hsz, hby⟩ := info_parts hinfo
  obtain ⟨A, c, w1, hr, hg, hc, hst⟩ := zB (P := P) t o.type ht h0 hz hsz HO hi p (by rw [hby]; exact hl) (by rw [hby]; exact hb0)
  exact tH hw rfl (runs ho hs hx hr) (h A c w1 _ hg hc hst)
end
end kH
theorem Own.qX {α : Type} {d : Kd α} {e : Nat} {C c'' : Nat → Nat} {i j : Nat} {W w' : World} {T : List Nat} {v : Value} {xs : List α} {L U : List (Nat × Nat)} (hf : ∀ W W' x c, d.K W x c → d.K W' x c) (h : Own c'' i w' d e v xs) (s : Step (fun k => pal L (C k)) W c'' w' T) (hL : (L.all fun p => p.2 != i || p.1 == j) = true) (h9 : i ≠ 9) (hU : pal U i = j) :
    Own (up C c'' W.heap.size U) j w' d e v xs := by
  have key : ∀ k, c'' k = i → up C c'' W.heap.size U k = j := by
    intro k hk
    unfold up
    by_cases hlt : k < W.heap.size
    · rw [if_pos hlt]
      rw [s.col k hlt] at hk
      have := List.all_eq_true.1 hL _ (oI hk h9)
      simpa using this
    · rw [if_neg hlt, hk]; exact hU
  obtain ⟨h1, h2, rows, hl, hR, hk⟩ := h
  exact ⟨fun k hk => key k (h1 k hk), fun k hk => .inl (key k (h1 k hk)), rows, hl, hR, fun j x c hx hc => fun W' _ => hf _ _ _ _ (Kd.ng (hk j x c hx hc))⟩
theorem kH.res {κ : IntKind} {e : Nat} {C c'' : Nat → Nat} {i j : Nat} {W w' : World} {T : List Nat} {v : Value} {xs : List Int} {L U : List (Nat × Nat)} (h : kH false c'' i w' κ e v xs) (s : Step (fun k => pal L (C k)) W c'' w' T) (hL : (L.all fun p => p.2 != i || p.1 == j) = true) (h9 : i ≠ 9) (hU : pal U i = j) :
    kH false (up C c'' W.heap.size U) j w' κ e v xs := by
  rcases h with ⟨g, off, cap, cur, rfl, hg, r⟩ | ⟨A, rfl, h, hb⟩
  · refine .inl ⟨g, off, cap, cur, rfl, ?_, r⟩
    unfold up
    by_cases hlt : g < W.heap.size
    · rw [if_pos hlt]
      rw [s.col g hlt] at hg
      have := List.all_eq_true.1 hL _ (oI hg h9)
      simpa using this
    · rw [if_neg hlt, hg]; exact hU
  · rcases hb with hb | rfl
    · cases hb
    · exact .inr ⟨A, rfl, fun W' _ => ⟨rfl, by simp, fun h => absurd h (by simp)⟩, .inr rfl⟩
section
variable {P : Program} {ops : Array Oper} {o : Oper} {a : Act} {Q : Exit → Act → World → Prop} {Kc : Act → World → Prop}
theorem vT {W : World} {t : TypeId} {p x : Operand} (hgd : o.guard = none) (ho : o.op = .store t p x) (R : World → Prop) (h : WL P ops (fun e a' w' => e = .normal ∧ R w') [o] a W) : ∃ w1, (execOp a.eval o).run P W = .ok .skip w1 ∧ R w1 := by
  have h1 := h.out
  unfold wpList at h1
  have hw : Region.wanted o (yielded ops a.tmps) = true := by simp [Region.wanted, hgd]
  rw [if_pos hw] at h1
  rcases h1 with h1 | h1
  · unfold Oper.wp at h1
    unfold execOp at h1 ⊢
    simp only [ho] at h1 ⊢
    rw [Sem.run_bind] at h1 ⊢
    cases hr : (Instr.storeAt t (a.eval p) (a.eval x)).run P W with
    | ok u w1 =>
      rw [hr] at h1
      exact ⟨w1, rfl, h1.2⟩
    | halt hh w2 =>
      rw [hr] at h1
      cases hh <;> first | exact h1.elim | cases h1.1
  · exact absurd h1.2 (by simp [LetsOut])
theorem uN {W w1 : World} (hN : o.dst = none) (hgd : o.guard = none) (hr : (execOp a.eval o).run P W = .ok .skip w1) (h : Kc a w1) : if Region.wanted o (yielded ops a.tmps) = true then Oper.wp P o a W Kc Q else Kc (a.put o.dst undef) W := by
  rw [if_pos (by simp [Region.wanted, hgd])]
  unfold Oper.wp
  rw [hr]
  unfold Oper.upon
  simpa [hN, Act.put] using h
theorem Own.CP {α : Type} (d : Kd α) {C : Nat → Nat} {i : Nat} {W : World} (hN : o.dst = none) (hgd : o.guard = none) (t : TypeId) (p x : Operand) (ho : o.op = .store t p x) (e : TypeId) {g n cap : Nat} (sz : Nat) (q : Int) (xs : List α) (x' : α) (u : Value) (seg : List Value) {A : Option Addr} (hA : A = some ⟨g, 0, none⟩) (hsz : d.sz = sz)
    (haddr : a.eval p = .pointer (some ((⟨g, 0, none⟩ : Addr).add (q.toNat * sz)))) (hx : a.eval x = u) (hu : u.cells.toList = seg) (ht : (P.info? t).map (·.size) = some seg.length) (h1 : ∀ q ∈ seg, q.oneCell' = true) (hl : seg.length = sz)
    (HO : Own C i W d e (.slice A n cap) xs) (hi : i ≠ 0) (h0 : 0 ≤ q) (hq : q < n) (hM : Kd.FK d W (fun k => C k = 0) x' seg) {y : List α} (hy : xs.set q.toNat x' = y)
    (h : ∀ w1 C1, Own C1 i w1 d e (.slice A y.length cap) y → y.length ≤ cap → Step C W C1 w1 [i] → Kc a w1) : if Region.wanted o (yielded ops a.tmps) = true then Oper.wp P o a W Kc Q else Kc (a.put o.dst undef) W := by
  obtain ⟨w1, hr, C1, f0, f1, f2⟩ := vT (ops := ops) hgd ho (fun w1 => ∃ C1, Own C1 i w1 d e (.slice A y.length cap) y ∧ y.length ≤ cap ∧ Step C W C1 w1 [i]) (Own.store1 d hN hgd t p x ho e sz q xs x' u seg hA hsz haddr hx hu ht h1 hl HO hi h0 hq hM hy (fun w1 C1 g0 g1 g2 => gK ⟨rfl, C1, g0, g1, g2⟩))
  exact uN hN hgd hr (h w1 C1 f0 f1 f2)
theorem Own.rW {α : Type} (d : Kd α) {C : Nat → Nat} {i : Nat} {W : World} (hN : o.dst = none) (hgd : o.guard = none) (t : TypeId) (p x : Operand) (ho : o.op = .store t p x) (e : TypeId) {g n cap : Nat} (sz : Nat) (q : Int) (j : Nat) (xs : List α) (x' : α) (u : Value) (seg c : List Value) (z : α) {A : Option Addr} (hA : A = some ⟨g, 0, none⟩) (hsz : d.sz = sz)
    (haddr : a.eval p = .pointer (some (((⟨g, 0, none⟩ : Addr).add (q.toNat * sz)).add j))) (hx : a.eval x = u) (hu : u.cells.toList = seg) (ht : (P.info? t).map (·.size) = some seg.length) (h1 : ∀ q ∈ seg, q.oneCell' = true) (hopen : ∀ cs, d.K W (xs.getD q.toNat z) cs → cs = c) (hj : j + seg.length ≤ sz)
    (HO : Own C i W d e (.slice A n cap) xs) (hi : i ≠ 0) (h0 : 0 ≤ q) (hq : q < n) (hM : Kd.FK d W (fun k => C k = 0) x' (c.take j ++ seg ++ c.drop (j + seg.length))) {y : List α} (hy : xs.set q.toNat x' = y)
    (h : ∀ w1 C1, Own C1 i w1 d e (.slice A y.length cap) y → y.length ≤ cap → Step C W C1 w1 [i] → Kc a w1) : if Region.wanted o (yielded ops a.tmps) = true then Oper.wp P o a W Kc Q else Kc (a.put o.dst undef) W := by
  obtain ⟨w1, hr, C1, f0, f1, f2⟩ := vT (ops := ops) hgd ho (fun w1 => ∃ C1, Own C1 i w1 d e (.slice A y.length cap) y ∧ y.length ≤ cap ∧ Step C W C1 w1 [i]) (Own.yK d hN hgd t p x ho e sz q j xs x' u seg c z hA hsz haddr hx hu ht h1 hopen hj HO hi h0 hq hM hy (fun w1 C1 g0 g1 g2 => gK ⟨rfl, C1, g0, g1, g2⟩))
  exact uN hN hgd hr (h w1 C1 f0 f1 f2)
end
end Go.Proofs.YtdkbmchbkkhpoaaW.PrintWords
