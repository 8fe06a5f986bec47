import Derived.Test.YtdkbmchbkkhpoaaCOwnG
set_option linter.unusedVariables false
set_option linter.unusedSimpArgs false
namespace Go.Proofs.YtdkbmchbkkhpoaaW.PrintWords
open Go.RowKit Go.Proofs.YtdkbmchbkkhpoaaW.PrintLast Go.Proofs.YtdkbmchbkkhpoaaW.PrintMore
namespace kH
variable {C c' : Nat → Nat} {i e : Nat} {W w' : World} {κ : IntKind} {v : Value} {xs : List Int}
theorem keep {j : Nat} (h : kH false C i W κ e v xs) (hc : ∀ k, v.ownBlock = some k → k < W.heap.size → C k = i → c' k = j) (hk : ∀ k, v.ownBlock = some k → k < W.heap.size → w'.heap[k]? = W.heap[k]?) : kH false c' j w' κ e v xs := by
  rcases h with ⟨g, off, cap, cur, rfl, hi, hh, r⟩ | ⟨A, rfl, h, hb⟩
  · have hlt := lu hh
    exact .inl ⟨g, off, cap, cur, rfl, hc g rfl hlt hi, (hk g rfl hlt).trans hh, r⟩
  · rcases hb with hb | rfl
    · cases hb
    · exact .inr ⟨A, rfl, fun W' _ => ⟨rfl, by simp, fun h => absurd h (by simp)⟩, .inr rfl⟩
theorem slice (h : kH false C i W κ e v xs) : ∃ A c, v = .slice A xs.length c ∧ xs.length ≤ c := by
  rcases h with ⟨g, off, cap, cur, rfl, hi, hh, hs, hn, r⟩ | ⟨A, rfl, h, hb⟩
  · exact ⟨_, cap, rfl, hn⟩
  · exact ⟨A, _, rfl, Nat.le_refl _⟩
theorem reads {A : Option Addr} {n c : Nat} (h : kH false C i W κ e (.slice A n c) xs) (W' : World) (hk : ∀ k, C k = i → k < W.heap.size → W'.heap[k]? = W.heap[k]?) : (Kd.int κ).C W' A n xs := by
  have h1 : kH false C i W' κ e (.slice A n c) xs := by
    rcases h with ⟨g, off, cap, cur, he, hi, hh, r⟩ | ⟨A', he, h, hb⟩
    · exact .inl ⟨g, off, cap, cur, he, hi, (hk g hi (lu hh)).trans hh, r⟩
    · rcases hb with hb | rfl
      · cases hb
      · exact .inr ⟨A', he, fun W' _ => ⟨rfl, by simp, fun h => absurd h (by simp)⟩, .inr rfl⟩
  exact h1.ft.now
end kH
def Ty (C : Nat → Nat) (z : Nat) (W : World) (e : Nat) (v : Value) : Prop := ∀ k, v.ownBlock = some k → C k = z ∧ ∃ cells, W.heap[k]? = some (.cells cells e (0, 0))
theorem Ty.lt {C : Nat → Nat} {z e : Nat} {W : World} {v : Value} (h : Ty C z W e v) {k : Nat} (hk : v.ownBlock = some k) : k < W.heap.size := by
  obtain ⟨_, cells, hc⟩ := h k hk
  exact lu hc
theorem Ty.keep {C c' : Nat → Nat} {z j e : Nat} {W w' : World} {v : Value} (h : Ty C z W e v) (hc : ∀ k, v.ownBlock = some k → k < W.heap.size → C k = z → c' k = j) (hk : ∀ k, v.ownBlock = some k → k < W.heap.size → w'.heap[k]? = W.heap[k]?) : Ty c' j w' e v := fun k hv => by
  obtain ⟨h1, cells, h2⟩ := h k hv
  exact ⟨hc k hv (lu h2) h1, cells, (hk k hv (lu h2)).trans h2⟩
theorem kH.ty {C : Nat → Nat} {z e : Nat} {W : World} {κ : IntKind} {v : Value} {xs : List Int} (h : kH false C z W κ e v xs) (hp : xs ≠ []) : Ty C z W e v := by
  rcases h with ⟨g, off, cap, cur, rfl, hi, hh, r⟩ | ⟨A, rfl, h, hb⟩
  · intro k hk
    have : g = k := by simpa [Value.ownBlock] using hk
    rw [← this]
    exact ⟨hi, cur, hh⟩
  · rcases hb with hb | hb
    · cases hb
    · exact absurd hb hp
def sQ (C : Nat → Nat) (z : Nat) (W : World) (κ : IntKind) (e : Nat) (g : Nat) (vs : List Value) (rows : List (List Int)) : Prop :=
  ∀ i v xs, vs[i]? = some v → rows[i]? = some xs → kH false C z W κ e v xs ∧ v.ownBlock ≠ some g ∧ Ty C z W e v ∧ ∀ j v', j < rows.length → j ≠ i → vs[j]? = some v' → ∀ k, v.ownBlock = some k → v'.ownBlock ≠ some k
def RR (C : Nat → Nat) (z : Nat) (W : World) (κ : IntKind) (e1 e2 : Nat) (v : Value) (rows : List (List Int)) : Prop :=
  ∃ g vs c, v = .slice (some ⟨g, 0, none⟩) rows.length c ∧ rows.length ≤ c ∧ rows.length ≤ 9223372036854775807 ∧ Bx C z W g e1 vs ∧ rows.length ≤ vs.length ∧ sQ C z W κ e2 g vs rows
namespace sQ
variable {C c' : Nat → Nat} {z e g : Nat} {W w' : World} {κ : IntKind} {vs : List Value} {rows : List (List Int)}
theorem move {j : Nat} (h : sQ C z W κ e g vs rows) (hs : W.heap.size ≤ w'.heap.size) (hc : ∀ k, k < W.heap.size → C k = z → c' k = j) (hm : ∀ k, k < W.heap.size → C k = z → w'.heap[k]? = W.heap[k]?) : sQ c' j w' κ e g vs rows := by
  intro i v xs hv hx
  obtain ⟨h1, h2, h3, h4⟩ := h i v xs hv hx
  refine ⟨?_, h2, h3.keep (fun k _ hlt e => hc k hlt e) (fun k hv hlt => hm k hlt (h3 k hv).1), h4⟩
  rcases h1 with ⟨g', off, cap, cur, rfl, hi, hh, r⟩ | ⟨A, rfl, h, hb⟩
  · exact .inl ⟨g', off, cap, cur, rfl, hc g' (lu hh) hi, (hm g' (lu hh) hi).trans hh, r⟩
  · rcases hb with hb | rfl
    · cases hb
    · exact .inr ⟨A, rfl, fun W' _ => ⟨rfl, by simp, fun h => absurd h (by simp)⟩, .inr rfl⟩
theorem get (h : sQ C z W κ e g vs rows) (hl : rows.length ≤ vs.length) {j : Int} (h0 : 0 ≤ j) (h1 : j < (rows.length : Int)) : ∃ A c, vs[j.toNat]? = some (.slice A (rows.getD j.toNat []).length c) ∧ kH false C z W κ e (.slice A (rows.getD j.toNat []).length c) (rows.getD j.toNat []) ∧ (rows.getD j.toNat []).length ≤ c := by
  have hj : j.toNat < rows.length := by omega
  have hv : vs[j.toNat]? = some (vs[j.toNat]'(by omega)) := List.getElem?_eq_getElem _
  have hx : rows[j.toNat]? = some (rows.getD j.toNat []) := by rw [List.getD_eq_getElem?_getD, List.getElem?_eq_getElem hj]; rfl
  have h2 := (h _ _ _ hv hx).1
  obtain ⟨A, c, he, hc⟩ := h2.slice
  rw [he] at hv h2
  exact ⟨A, c, hv, h2, hc⟩
end sQ
namespace RR
variable {C c' c'' : Nat → Nat} {z e1 e2 : Nat} {W w' : World} {κ : IntKind} {S T : List Nat} {v : Value} {rows : List (List Int)}
theorem move {j : Nat} (h : RR C z W κ e1 e2 v rows) (hs : W.heap.size ≤ w'.heap.size) (hc : ∀ k, k < W.heap.size → C k = z → c' k = j) (hm : ∀ k, k < W.heap.size → C k = z → w'.heap[k]? = W.heap[k]?) : RR c' j w' κ e1 e2 v rows := by
  obtain ⟨g, vs, c, hv, hl, hm', hb, hle, hi⟩ := h
  have hlt := lu hb.2
  exact ⟨g, vs, c, hv, hl, hm', ⟨hc g hlt hb.1, (hm g hlt hb.1).trans hb.2⟩, hle, hi.move hs hc hm⟩
theorem below (h : RR C z W κ e1 e2 v rows) (hb : Below W.heap.size W w') : RR C z w' κ e1 e2 v rows := h.move hb.size (fun _ _ h => h) (fun k hk _ => hb.block k hk)
theorem alloc (h : RR C z W κ e1 e2 v rows) (o : Obj) : RR C z (W.alloc o) κ e1 e2 v rows := h.below (below_alloc (Below.refl _ _) o)
theorem drew (h : RR C z W κ e1 e2 v rows) : RR C z W.drew κ e1 e2 v rows := h.below (below_drew (Below.refl _ _))
theorem drewN (h : RR C z W κ e1 e2 v rows) (m : Nat) : RR C z (W.drewN m) κ e1 e2 v rows := h.below (lD (Below.refl _ _) m)
theorem iE (h : RR C z W κ e1 e2 v rows) (s : Step C W c' w' S) (hZ : (!S.contains z) = true) : RR c' z w' κ e1 e2 v rows := by
  simp at hZ
  exact h.move s.size (fun k hk e => (s.col k hk).trans e) (fun k hk e => s.keep k hk (by rw [e]; exact hZ))
theorem recol (h : RR C z W κ e1 e2 v rows) {a b : Nat} (ha : z ≠ a) (_h0 : 0 ≠ a) : RR (recol C a b) z W κ e1 e2 v rows := h.move (Nat.le_refl _) (fun k _ e => by unfold PrintWords.recol; rw [if_neg (by omega)]; exact e) (fun _ _ _ => rfl)
theorem recolor (h : RR C z W κ e1 e2 v rows) {b : Nat} (_h0 : 0 ≠ z) : RR (PrintWords.recol C z b) b W κ e1 e2 v rows := h.move (Nat.le_refl _) (fun k _ e => by unfold PrintWords.recol; rw [if_pos e]) (fun _ _ _ => rfl)
theorem arg {L : List (Nat × Nat)} {j : Nat} (h : RR C z W κ e1 e2 v rows) (hj : pal L z = j) (_h0 : pal L 0 = 0) : RR (fun k => pal L (C k)) j W κ e1 e2 v rows := h.move (Nat.le_refl _) (fun k _ e => by show pal L (C k) = j; rw [e]; exact hj) (fun _ _ _ => rfl)
theorem at_ {A : Option Addr} {n c : Nat} (h : RR C z W κ e1 e2 (.slice A n c) rows) : n = rows.length ∧ n ≤ c := by
  obtain ⟨g, vs, c', hv, hl, _⟩ := h
  injection hv with h1 h2 h3
  subst h2; subst h3
  exact ⟨rfl, hl⟩
theorem res {L U : List (Nat × Nat)} {j : Nat} (h : RR c'' z w' κ e1 e2 v rows) (s : Step (fun k => pal L (C k)) W c'' w' T) (hL : (L.all fun p => p.2 != z || p.1 == j) = true) (h9 : z ≠ 9) (hU : pal U z = j) : RR (up C c'' W.heap.size U) j w' κ e1 e2 v rows := by
  refine h.move (Nat.le_refl _) (fun k _ hk => ?_) (fun _ _ _ => rfl)
  unfold up
  by_cases hlt : k < W.heap.size
  · rw [if_pos hlt]
    rw [s.col k hlt] at hk
    have := List.all_eq_true.1 hL _ (oI hk h9)
    simpa using this
  · rw [if_neg hlt, hk]; exact hU
theorem ft {A : Option Addr} {n c : Nat} (h : RR C z W κ e1 e2 (.slice A n c) rows) : Ft C [z, 0] W (fun w => (Kd.slice e2 (Kd.int κ)).C w A n rows) := by
  obtain ⟨g, vs, c', hv, hl, hm, hb, hle, hi⟩ := h
  injection hv with h1 h2 h3
  subst h1; subst h2; subst h3
  intro W' hW
  have hW' : ∀ k, C k = z → k < W.heap.size → W'.heap[k]? = W.heap[k]? := fun k hk hlt => hW k (by show C k ∈ [z, 0]; rw [hk]; simp) hlt
  refine ⟨rfl, hm, fun _ => ⟨_, rfl, fun j x hx => ?_⟩⟩
  have hj : j < rows.length := (List.getElem?_eq_some_iff.1 hx).1
  have hvj : vs[j]? = some (vs[j]'(by omega)) := List.getElem?_eq_getElem _
  have h2 := (hi j _ _ hvj hx).1
  obtain ⟨A', c', he, hc⟩ := h2.slice
  rw [he] at hvj h2
  refine ⟨[.slice A' x.length c'], rfl, ⟨A', c', rfl, hc, h2.reads W' hW'⟩, fun q u hu => ?_⟩
  cases q with
  | succ q => simp at hu
  | zero =>
    simp only [List.getElem?_cons_zero, Option.some.injEq] at hu
    subst hu
    rw [Addr.add_lit, cell_of_row W' g _ vs.toArray e1 (0, 0) ((hW' g hb.1 (lu hb.2)).trans hb.2)]
    simpa [Kd.slice] using hvj
theorem open_ {A : Option Addr} {n c : Nat} (h : RR C z W κ e1 e2 (.slice A n c) rows) : ∃ g vs, A = some ⟨g, 0, none⟩ ∧ Bx C z W g e1 vs ∧ rows.length ≤ vs.length ∧ sQ C z W κ e2 g vs rows ∧ rows.length ≤ 9223372036854775807 := by
  obtain ⟨g, vs, c', hv, hl, hm, hb, hle, hi⟩ := h
  injection hv with h1 h2 h3
  exact ⟨g, vs, h1, hb, hle, hi, hm⟩
end RR
theorem uO {W : World} {g e1 : Nat} {vs : List Value} {v : Value} {j : Int} (h : W.heap[g]? = some (.cells vs.toArray e1 (0, 0))) (hv : vs[j.toNat]? = some v) : W.cell? ((⟨g, 0, none⟩ : Addr).add (j.toNat * 1)) = some v := by
  rw [nR, Nat.mul_one, cell_of_row W g _ vs.toArray e1 (0, 0) h]
  simpa using hv
theorem xK {rows : List (List Int)} {j : Int} (h0 : 0 ≤ j) (h1 : j < (rows.length : Int)) : rows[j.toNat]? = some (rows.getD j.toNat []) := by rw [List.getD_eq_getElem?_getD, List.getElem?_eq_getElem (show j.toNat < rows.length by omega)]; rfl
theorem sQ.drew {C : Nat → Nat} {z e g : Nat} {W : World} {κ : IntKind} {vs : List Value} {rows : List (List Int)} (h : sQ C z W κ e g vs rows) : sQ C z W.drew κ e g vs rows := h.move (Nat.le_refl _) (fun _ _ h => h) (fun _ _ _ => rfl)
def RRh (C : Nat → Nat) (z : Nat) (W : World) (κ : IntKind) (e : Nat) (g : Nat) (vs : List Value) (rows : List (List Int)) (i : Nat) (v1 : Value) (y : List Int) : Prop :=
  (∀ j v xs, j ≠ i → vs[j]? = some v → rows[j]? = some xs → kH false C z W κ e v xs ∧ v.ownBlock ≠ some g ∧ (Ty C z W e v ∧ ∀ k, v.ownBlock = some k → v1.ownBlock ≠ some k) ∧ ∀ j' v', j' < rows.length → j' ≠ j → vs[j']? = some v' → ∀ k, v.ownBlock = some k → v'.ownBlock ≠ some k) ∧
  kH false C z W κ e v1 y ∧ v1.ownBlock ≠ some g ∧ Ty C z W e v1
theorem RR.vU {C : Nat → Nat} {z e1 : Nat} {W : World} (κ : IntKind) (e2 : Nat) {A : Option Addr} {n c m : Nat} (h : Own C z W (Kd.raw 1) e1 (.slice A n c) (List.replicate m [.slice none 0 0])) (hm : 0 < m) (hm' : m ≤ 9223372036854775807) : RR C z W κ e1 e2 (.slice A n c) (List.replicate m ([] : List Int)) := by
  obtain ⟨h1, h2, rows, hl, hR, hf⟩ := h
  obtain ⟨_, inner, ho, hr⟩ := hR
  have hrow : ∀ j, j < m → rows[j]? = some [.slice none 0 0] := by
    intro j hj
    have hjr : j < rows.length := by rw [hl]; simpa using hj
    have hx : (List.replicate m ([.slice none 0 0] : List Value))[j]? = some [.slice none 0 0] := by rw [List.getElem?_replicate, if_pos hj]
    have hk := Kd.ng (hf j _ _ hx (List.getElem?_eq_getElem hjr))
    have hk' : rows[j] = [.slice none 0 0] := hk.1
    rw [List.getElem?_eq_getElem hjr, hk']
  rcases ho.2 with ⟨he, hn⟩ | ⟨g, cap, cur, he, _, hh, hc, hmx, hs, ht⟩
  · rw [hl] at hn
    simp at hn
    omega
  · injection he with e1' e2' e3'
    have hlr : rows.length = m := by rw [hl]; simp
    refine ⟨g, cur.toList, c, ?_, ?_, ?_, ⟨h1 g (by rw [e1']; rfl), by simpa using hh⟩, ?_, ?_⟩
    · rw [e1', e2', hlr]; simp
    · simp only [List.length_replicate]; omega
    · simpa using hm'
    · have : cur.size = cap := by simpa [Kd.raw] using hs
      simp only [List.length_replicate, Array.length_toList]
      omega
    · intro j v xs hv hx
      have hj : j < m := by
        have := (List.getElem?_eq_some_iff.1 hx).1
        simpa using this
      rw [List.getElem?_replicate, if_pos hj] at hx
      injection hx with hx
      subst hx
      have hvv : v = .slice none 0 0 := by
        have h4 := (hr.2 j _ (hrow j hj)).1
        have h5 := congrArg (fun l => l[0]?) h4
        simp [Kd.raw, List.getElem?_take] at h5
        rw [← ht] at h5
        rw [List.getElem?_take, if_pos (show j < rows.length * (Kd.raw (Kd.raw 1).sz).sz by simp [Kd.raw, hlr]; exact hj)] at h5
        rw [h5] at hv
        exact (Option.some.inj hv).symm
      subst hvv
      exact ⟨.inr ⟨none, rfl, Kd.D6 _ _ _, .inr rfl⟩, by simp [Value.ownBlock], fun k hk => by simp [Value.ownBlock] at hk, fun j' v' _ _ _ k hk => by simp [Value.ownBlock] at hk⟩
section
variable {P : Program} {ops : Array Oper} {rest : List Oper} {o : Oper} {a : Act} {Q : Exit → Act → World → Prop} {Kc : Act → World → Prop} {C : Nat → Nat} {W : World} {κ : IntKind}
theorem zC {z e2 g : Nat} {vs : List Value} {rows : List (List Int)} {e1 : Nat} (HB : Bx C z W g e1 vs) (HI : sQ C z W κ e2 g vs rows) {j : Nat} {v : Value} {xs : List Int} (hv : vs[j]? = some v) (hx : rows[j]? = some xs) (hz : z ≠ 0) (t ty : TypeId) {inf : TypeInfo} (ht : P.underlying t = some (.slice e2)) (hinf : P.info? e2 = some inf) (hz0 : inf.zero = some (.int κ 0)) (hs1 : inf.size = 1) (p : Int) (hb : (xs.length + 1) * inf.bytes ≤ 140737488355328) (hb0 : 0 < inf.bytes) :
    ∃ A c w1, (Builtin.append_ #[t, t] ty #[v, .slice (some ⟨W.heap.size, 0, none⟩) 1 1]).run P (W.alloc (.cells #[.int κ p] e2)) = .ok (.slice A (xs ++ [p]).length c) w1 ∧ (xs ++ [p]).length ≤ c ∧ Step C W (ext C W.heap.size z) w1 [z] ∧ Bx (ext C W.heap.size z) z w1 g e1 vs ∧ RRh (ext C W.heap.size z) z w1 κ e2 g vs rows j (.slice A (xs ++ [p]).length c) (xs ++ [p]) := by
  obtain ⟨h1, h2, h3, h4⟩ := HI j v xs hv hx
  obtain ⟨A, c, w1, hr, hg, hc, hst, hex, hnew⟩ := kH.CO (P := P) t ty ht hinf hz0 hs1 h1 hz p hb hb0
  have hgl := lu HB.2
  have hgk : w1.heap[g]? = W.heap[g]? := hex g hgl h2
  refine ⟨A, c, w1, hr, hc, hst, ⟨(lZ C hgl).trans HB.1, hgk.trans HB.2⟩, fun j' v' xs' hne hv' hx' => ?_, hg, ?_, ?_⟩
  · obtain ⟨g1, g2, g3, g4⟩ := HI j' v' xs' hv' hx'
    have hjl : j < rows.length := (List.getElem?_eq_some_iff.1 hx).1
    have hd : ∀ k, v'.ownBlock = some k → v.ownBlock ≠ some k := fun k hk => g4 j v hjl (fun e => hne e.symm) hv k hk
    refine ⟨g1.keep (fun k hk hlt e => (lZ C hlt).trans e) (fun k hk hlt => hex k hlt (hd k hk)), g2, ⟨g3.keep (fun k hk hlt e => (lZ C hlt).trans e) (fun k hk hlt => hex k hlt (hd k hk)), fun k hk => ?_⟩, g4⟩
    rcases hnew with hn | ⟨b, hn, hle⟩
    · rw [hn]; exact hd k hk
    · rw [hn]
      intro e
      injection e with e
      have := g3.lt hk
      omega
  · rcases hnew with hn | ⟨b, hn, hle⟩
    · rw [hn]; exact h2
    · rw [hn]
      intro e
      injection e with e
      omega
  · exact hg.ty (by simp)
theorem RRh.close {z e1 e2 g i c : Nat} {vs : List Value} {rows : List (List Int)} {v1 : Value} {y : List Int} {w1 : World} (HB : Bx C z W g e1 vs) (H : RRh C z W κ e2 g vs rows i v1 y) (hi : i < rows.length) (hle : rows.length ≤ vs.length) (hc : rows.length ≤ c) (hm : rows.length ≤ 9223372036854775807)
    (hg : w1.heap[g]? = some (.cells (vs.set i v1).toArray e1 (0, 0))) (hs : w1.heap.size = W.heap.size) (hk : ∀ k, k ≠ g → w1.heap[k]? = W.heap[k]?) : RR C z w1 κ e1 e2 (.slice (some ⟨g, 0, none⟩) (rows.set i y).length c) (rows.set i y) := by
  obtain ⟨h1, h2, h3, h4⟩ := H
  refine ⟨g, vs.set i v1, c, rfl, by simpa using hc, by simpa using hm, ⟨HB.1, hg⟩, by simpa using hle, fun j v xs hv hx => ?_⟩
  by_cases hj : j = i
  · subst hj
    rw [List.getElem?_set_self (by omega)] at hv hx
    injection hv with hv
    injection hx with hx
    subst hv; subst hx
    refine ⟨h2.keep (fun k _ _ e => e) (fun k hk' _ => hk k (fun e => h3 (e ▸ hk'))), h3, h4.keep (fun k _ _ e => e) (fun k hk' _ => hk k (fun e => h3 (e ▸ hk'))), fun j' v' hj' hne hv' k hk' e => ?_⟩
    rw [List.getElem?_set_ne (fun e => hne e.symm)] at hv'
    have hr : rows[j']? = some (rows[j']'(by simpa using hj')) := List.getElem?_eq_getElem _
    exact (h1 j' v' _ hne hv' hr).2.2.1.2 k e hk'
  · rw [List.getElem?_set_ne (fun e => hj e.symm)] at hv hx
    obtain ⟨g1, g2, g3, g4⟩ := h1 j v xs hj hv hx
    refine ⟨g1.keep (fun k _ _ e => e) (fun k hk' _ => hk k (fun e => g2 (e ▸ hk'))), g2, g3.1.keep (fun k _ _ e => e) (fun k hk' _ => hk k (fun e => g2 (e ▸ hk'))), fun j' v' hj' hne hv' k hk' e => ?_⟩
    by_cases hji : j' = i
    · subst hji
      rw [List.getElem?_set_self (by omega)] at hv'
      injection hv' with hv'
      subst hv'
      exact g3.2 k hk' e
    · rw [List.getElem?_set_ne (fun e => hji e.symm)] at hv'
      exact g4 j' v' (by simpa using hj') hne hv' k hk' e
theorem mZ {e1 : Nat} {z : Nat} (hgd : o.guard = none) (s x : Operand) (t e2 : TypeId) (bytes : Nat) (ho : o.op = .call { callee := .builtin .append, args := #[s, x], argTypes := #[t, t] }) (ht : P.underlying t = some (.slice e2)) (hinfo : (P.info? e2).map (fun i => (i.zero, i.size, i.bytes)) = some (some (.int κ 0), 1, bytes)) (hb0 : 0 < bytes) {g : Nat} {vs : List Value} {rows : List (List Int)} (v : Value) (j : Nat) (xs : List Int) (p : Int) (hs : a.eval s = v) (hx : a.eval x = .slice (some ⟨W.heap.size, 0, none⟩) 1 1) (HB : Bx C z W g e1 vs) (HI : sQ C z W κ e2 g vs rows) (hv : vs[j]? = some v) (hxs : rows[j]? = some xs) (hz : z ≠ 0) (hl : (xs.length + 1) * bytes ≤ 140737488355328) {y : List Int} (hy : xs ++ [p] = y)
    (h : ∀ A c w1 C1, Bx C1 z w1 g e1 vs → RRh C1 z w1 κ e2 g vs rows j (.slice A y.length c) y → y.length ≤ c → Step C W C1 w1 [z] → Kc (a.put o.dst (.slice A y.length c)) w1) : if Region.wanted o (yielded ops a.tmps) = true then Oper.wp P o a (W.alloc (.cells #[.int κ p] e2)) Kc Q else Kc (a.put o.dst undef) (W.alloc (.cells #[.int κ p] e2)) := by
  subst hy
  obtain ⟨inf, h0, hz0, hsz, hby⟩ := info_parts hinfo
  obtain ⟨A, c, w1, hr, hc, hst, hb, hh⟩ := zC (P := P) HB HI hv hxs hz t o.type ht h0 hz0 hsz p (by rw [hby]; exact hl) (by rw [hby]; exact hb0)
  exact tH (by simp [Region.wanted, hgd]) rfl (kH.runs ho hs hx hr) (h A c w1 _ hb hh hc hst)
theorem nG {e1 e2 : Nat} {z : Nat} (hN : o.dst = none) (hgd : o.guard = none) {t : TypeId} {p x : Operand} (ho : o.op = .store t p x) {g c : Nat} {vs : List Value} {rows : List (List Int)} {j : Int} {v1 : Value} {xs : List Int} (haddr : a.eval p = .pointer (some ((⟨g, 0, none⟩ : Addr).add (j.toNat * 1)))) (hx : a.eval x = v1) (ht : (P.info? t).map (·.size) = some 1) (h1 : v1.oneCell' = true) (hv1 : v1.cells.toList = [v1]) (HB : Bx C z W g e1 vs) (H : RRh C z W κ e2 g vs rows j.toNat v1 xs) (h0 : 0 ≤ j) (hj : j < (rows.length : Int)) (hle : rows.length ≤ vs.length) (hc : rows.length ≤ c) (hm : rows.length ≤ 9223372036854775807) {y : List (List Int)} (hy : rows.set j.toNat xs = y)
    (h : ∀ w1, RR C z w1 κ e1 e2 (.slice (some ⟨g, 0, none⟩) y.length c) y → y.length ≤ c → Step C W C w1 [z] → Kc a w1) : if Region.wanted o (yielded ops a.tmps) = true then Oper.wp P o a W Kc Q else Kc (a.put o.dst undef) W := by
  subst hy
  obtain ⟨k1, k2, k3, k4, k5⟩ := o8 (g := g) [v1] j.toNat W
  have hr : (execOp a.eval o).run P W = .ok .skip (W.setCells g j.toNat [v1]) := by
    unfold execOp
    simp only [ho, haddr, hx]
    rw [nR, Nat.mul_one, Sem.run_bind, oK t v1 [v1] HB.2 hv1 (by simpa using ht) (by simp; omega) (by simpa using h1)]
    rfl
  have hb2 := ql (W := W) [v1] vs j.toNat W HB.2
  refine uN hN hgd hr (h _ (H.close HB (by omega) hle hc hm hb2 k4 k5) (by simpa using hc) ⟨k1, k2, k3, Nat.le_of_eq k4.symm, fun _ _ => rfl, fun k _ hn => k5 k (fun e => hn (by rw [e, HB.1]; simp))⟩)
end
end Go.Proofs.YtdkbmchbkkhpoaaW.PrintWords
