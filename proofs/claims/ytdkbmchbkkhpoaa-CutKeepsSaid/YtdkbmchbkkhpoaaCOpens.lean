import Derived.Test.YtdkbmchbkkhpoaaCWords
import Derived.OpenShut
import Derived.SizedLaws
set_option linter.unusedVariables false
set_option linter.unusedSimpArgs false
namespace Go.Proofs.YtdkbmchbkkhpoaaW.PrintWords
open Go.RowKit Go.Proofs.YtdkbmchbkkhpoaaW.PrintLast Go.Proofs.YtdkbmchbkkhpoaaW.PrintMore
def F6 {H : Type} (P : Program) (t : TypeId) (D : DataW H) : Prop := ∀ n ∈ D.weights P t, n ≤ 140737488351232
structure kY {α : Type} (P : Program) (M : Nat) (t : TypeId) (d : Kd α) (Ok : α → Prop) : Prop where
  out : ∀ {H : Type} {enc : TypeId × Value → H} {w : World} {base : Nat} {spare : Nat → Bool} {held : Bool} {m : Nat} {cs : List Value} {x : DataW H × List MemPlace}, m ≤ M → DataW.trod enc P w base spare held m t cs = some x → F6 P t x.1 → ∃ y, d.K w y cs ∧ Ok y
structure uM {α : Type} (P : Program) (M : Nat) (fs : List Field) (o : Nat) (d : Kd α) (Ok : α → Prop) : Prop where
  out : ∀ {H : Type} {enc : TypeId × Value → H} {w : World} {base : Nat} {spare : Nat → Bool} {held : Bool} {m : Nat} {cs : List Value} {xs : List (DataW H × List MemPlace)}, m ≤ M →
    (∀ (i : Nat) (f : Field), fs[i]? = some f → DataW.trod enc P w base spare held m f.type ((cs.drop f.offset).take (P.cellsOf f.type)) = xs[i]?) → xs.length = fs.length → (∀ n ∈ DataW.weightsEach P (fs.map (fun f => f.type)) (xs.map (·.1)), n ≤ 140737488351232) → cs.length = o + d.sz →
    ∃ y, d.K w y (cs.drop o) ∧ Ok y
section
variable {α β : Type} {P : Program} {M : Nat} {t e : TypeId} {d : Kd α} {d' : Kd β} {Ok : α → Prop} {Ok' : β → Prop}
theorem kY.less (h : kY P M t d Ok) {M' : Nat} (hM : M' ≤ M) : kY P M' t d Ok := ⟨fun hm ht hw => h.out (Nat.le_trans hm hM) ht hw⟩
theorem kY.imp (h : kY P M t d Ok) {Ok2 : α → Prop} (hi : ∀ x, Ok x → Ok2 x) : kY P M t d Ok2 := ⟨fun hm ht hw => by
  obtain ⟨y, h1, h2⟩ := h.out hm ht hw
  exact ⟨y, h1, hi y h2⟩⟩
theorem oD {k : IntKind} (ht : P.underlying t = some (.int k)) : kY P M t (Kd.int k) (fun x => (Lit.int k x).wf = true) := ⟨fun _ h _ => by
  obtain ⟨n, rfl, _, hw⟩ := DataW.trod_int ht h
  exact ⟨n, rfl, hw⟩⟩
theorem yt (ht : P.underlying t = some .bool) : kY P M t Kd.bool (fun _ => True) := ⟨fun _ h _ => by
  obtain ⟨n, rfl, _⟩ := DataW.trod_bool ht h
  exact ⟨n, rfl, trivial⟩⟩
theorem zq {w : World} {base : Nat} {a : Addr} {n : Nat} {c : List Value} (h : w.cells? base a n = some c) : c.length = n ∧ ∀ i u, c[i]? = some u → w.cell? (a.add i) = some u := by
  unfold World.cells? at h
  split at h
  · have hl := mapM_some_length h
    simp at hl
    refine ⟨hl, fun i u hu => ?_⟩
    have hi : i < n := by rw [← hl]; exact (List.getElem?_eq_some_iff.1 hu).1
    have := mapM_some_get h i i (by simp [hi])
    rw [this, hu]
  · cases h
theorem rU {H : Type} {e : TypeId} : ∀ {l : List (DataW H)} {D : DataW H}, D ∈ l → ∀ n ∈ D.weights P e, n ∈ DataW.weightsAll P e l
  | y :: r, D, h, n, hn => by
    simp only [DataW.weightsAll, List.mem_append]
    rcases List.mem_cons.1 h with rfl | h
    · exact .inl hn
    · exact .inr (rU h n hn)
theorem zu {γ : Type} {Q : Nat → γ → Prop} : ∀ n, (∀ i, i < n → ∃ y, Q i y) → ∃ l : List γ, l.length = n ∧ ∀ i y, l[i]? = some y → Q i y
  | 0, _ => ⟨[], rfl, fun i y h => by simp at h⟩
  | n + 1, h => by
    obtain ⟨l, hl, hq⟩ := zu n (fun i hi => h i (by omega))
    obtain ⟨y, hy⟩ := h n (by omega)
    refine ⟨l ++ [y], by simp [hl], fun i z hz => ?_⟩
    rcases Nat.lt_or_ge i n with hi | hi
    · rw [List.getElem?_append_left (by omega)] at hz
      exact hq i z hz
    · rw [List.getElem?_append_right (by omega)] at hz
      rcases Nat.eq_or_lt_of_le hi with hi' | hi'
      · subst hi'
        simp [hl] at hz
        subst hz; exact hy
      · simp [hl] at hz
        rw [List.getElem?_eq_none (by simp; omega)] at hz
        cases hz
theorem lS (h : kY P M e d Ok) (ht : P.underlying t = some (.slice e)) (hc : P.cellsOf e = d.sz) {B : Nat} (hB : P.bytesOf e = B) : kY P M t (Kd.slice e d) (fun xs => xs.length ≤ maxLen ∧ xs.length * B ≤ 140737488351232 ∧ ∀ x ∈ xs, Ok x) := by
  refine ⟨?_⟩
  intro H enc w base spare held m cs x hm htr hw
  rcases DataW.trod_slice ht htr with ⟨rfl, rfl⟩ | ⟨a, len, cap, elems, rest, n, rfl, rfl, rfl, hb, hl, hcap, hlen, hel, hsp, hns⟩
  · exact ⟨[], ⟨none, 0, rfl, Nat.le_refl _, rfl, by simp, fun h => absurd h (Nat.lt_irrefl 0)⟩, by simp, by simp, fun x h => by simp at h⟩
  · have hwt : ∀ q ∈ DataW.weights P t (.slice (elems.map (·.1)) (rest.map (·.1))), q ≤ 140737488351232 := hw
    simp only [DataW.weights, ht] at hwt
    obtain ⟨ys, hyl, hys⟩ := zu (Q := fun i y => ∃ c, w.cells? base (a.add (i * P.cellsOf e)) (P.cellsOf e) = some c ∧ d.K w y c ∧ Ok y) len (fun i hi => by
      have h1 := hel i hi
      have h2 : elems[i]? = some elems[i] := List.getElem?_eq_getElem (by omega)
      rw [h2] at h1
      obtain ⟨c, hc1, hc2⟩ := Option.bind_eq_some_iff.1 h1
      obtain ⟨y, hy1, hy2⟩ := h.out (m := n) (by omega) hc2 (fun q hq => hwt q (by
        refine List.mem_cons_of_mem _ (List.mem_append_left _ (rU (D := elems[i].1) ?_ q hq))
        exact List.mem_map_of_mem (List.getElem_mem _)))
      exact ⟨y, c, hc1, hy1, hy2⟩)
    subst hyl
    have hmx : ys.length ≤ maxLen := Nat.le_trans hl hcap
    refine ⟨ys, ⟨some a, cap, rfl, hl, rfl, ?_, fun _ => ⟨a, rfl, fun j p hj => ?_⟩⟩, hmx, ?_, fun x hx => ?_⟩
    · exact hmx
    · obtain ⟨c, h1, h2, _⟩ := hys j p hj
      obtain ⟨h3, h4⟩ := zq h1
      refine ⟨c, by rw [h3, hc], h2, fun i u hu => ?_⟩
      have := h4 i u hu
      rw [add_add, hc] at this
      exact this
    · have := hwt _ List.mem_cons_self
      rw [hB] at this
      simp only [List.length_map, hlen] at this
      exact Nat.le_trans (Nat.mul_le_mul_right _ (Nat.le_add_right _ _)) this
    · obtain ⟨i, hi⟩ := List.getElem?_of_mem hx
      obtain ⟨_, _, _, h3⟩ := hys i x hi
      exact h3
theorem vS {f : Field} {o : Nat} (h : kY P M f.type d Ok) (ho : f.offset = o) (hc : P.cellsOf f.type = d.sz) : uM P M [f] o d Ok := by
  refine ⟨?_⟩
  intro H enc w base spare held m cs xs hm hx hl hw hcs
  match xs, hl with
  | [x], _ =>
    have h0 := hx 0 f rfl
    rw [ho, hc, List.take_of_length_le (by simp; omega)] at h0
    exact h.out hm h0 (fun n hn => hw n (by simp [DataW.weightsEach]; exact hn))
theorem nJ {f : Field} {fs : List Field} {o : Nat} (h : kY P M f.type d Ok) (ho : f.offset = o) (hc : P.cellsOf f.type = d.sz) (hr : uM P M fs (o + d.sz) d' Ok') : uM P M (f :: fs) o (Kd.pair d d') (fun p => Ok p.1 ∧ Ok' p.2) := by
  refine ⟨?_⟩
  intro H enc w base spare held m cs xs hm hx hl hw hcs
  match xs, hl with
  | x :: xs, hl =>
    have h0 := hx 0 f rfl
    rw [ho, hc] at h0
    have hsz : (Kd.pair d d').sz = d.sz + d'.sz := rfl
    obtain ⟨y, hy1, hy2⟩ := h.out hm h0 (fun n hn => hw n (by simp [DataW.weightsEach]; exact .inl hn))
    obtain ⟨z, hz1, hz2⟩ := hr.out (xs := xs) hm (fun i g hg => by simpa using hx (i + 1) g (by simpa using hg)) (by simpa using hl) (fun n hn => hw n (by simp [DataW.weightsEach]; exact .inr (by simpa using hn))) (by omega)
    refine ⟨(y, z), ⟨_, _, ?_, hy1, hz1⟩, hy2, hz2⟩
    rw [← List.drop_drop, List.take_append_drop]
theorem qN {fs : Array Field} {f : β → α} (g : α → β) (hg : ∀ p, f (g p) = p) {Ok2 : β → Prop} (hOk : ∀ p, Ok p → Ok2 (g p)) (ht : P.underlying t = some (.struct fs)) (hc : P.cellsOf t = d.sz) {l : List Field} (hl : fs.toList = l) (h : uM P M l 0 d Ok) : kY P (M + 1) t (Kd.iso d f) Ok2 := by
  subst hl
  refine ⟨?_⟩
  intro H enc w base spare held m cs x hm htr hw
  obtain ⟨xs, n, rfl, rfl, hcs, hlen, hx⟩ := DataW.trod_struct ht htr
  have hwt : ∀ q ∈ DataW.weights P t (.agg (xs.map (·.1))), q ≤ 140737488351232 := hw
  simp only [DataW.weights, ht] at hwt
  obtain ⟨y, h1, h2⟩ := h.out (m := n) (by omega) (fun i f hf => hx i f (by simpa using hf)) (by simpa using hlen) hwt (by omega)
  refine ⟨g y, ?_, hOk y h2⟩
  show d.K w (f (g y)) cs
  rw [hg]
  simpa using h1
theorem rV {H : Type} {enc : TypeId × Value → H} {w : World} {base : Nat} {spare : Nat → Bool} {held : Bool} {v : Value} {D : DataW H} {ps : List MemPlace} {ts : List TypeId} {ds : List (DataW H)} {j : Nat} (h : ∀ M, kY P M t d Ok)
    (hsz : (DataW.weightsEach P ts ds).all (· ≤ reachBytes) = true) (ht : ts[j]? = some t) (hd : ds[j]? = some D) (hv : DataW.Trod enc P w base spare held t v D ps) : ∃ y, d.K w y v.cells.toList ∧ Ok y := by
  obtain ⟨fuel, hf⟩ := hv
  refine (h fuel).out (Nat.le_refl _) hf (fun n hn => ?_)
  have := List.all_eq_true.1 hsz n (DataW.weights_mem_each ht hd n hn)
  exact of_decide_eq_true this
end
end Go.Proofs.YtdkbmchbkkhpoaaW.PrintWords
