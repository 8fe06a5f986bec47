/- How far one comes: by breadth. -/
import Derived.Test.YtdkbmchbkkhpoaaFlA
set_option linter.unusedVariables false
set_option linter.unusedSimpArgs false
namespace Go.Proofs.Ytdkbmchbkkhpoaa.Flow
open Go.RowKit Go.Proofs.Ytdkbmchbkkhpoaa.PMfr Go.Proofs.YtdkbmchbkkhpoaaW.PrintWords Go.Proofs.YtdkbmchbkkhpoaaW.PrintLast Go.Proofs.YtdkbmchbkkhpoaaW.PrintMore
/-- A counter, so many times on. -/
def it : Nat → Int → Int
  | 0, x => x
  | z + 1, x => it z (wrap64 (x + 1))
theorem it_add (a b : Nat) (x : Int) : it b (it a x) = it (a + b) x := by
  induction a generalizing x with
  | zero => rw [Nat.zero_add]; rfl
  | succ a ih => rw [show a + 1 + b = a + b + 1 by omega]; exact ih _
def cnt (L : List Int) : Nat := L.countP (fun x => decide (0 < x))
theorem cnt_le (L : List Int) : cnt L ≤ L.length := List.countP_le_length
theorem cnt_set {L : List Int} {v x : Int} (h0 : 0 ≤ v) (h1 : v < (L.length : Int)) (hv : rd L v = 0) (hx : 0 < x) : cnt (L.set v.toNat x) = cnt L + 1 := by
  unfold cnt;rw [List.countP_set (by omega)];have : L[v.toNat]'(by omega) = 0 := by
    unfold rd at hv
    rwa [List.getD_eq_getElem?_getD, List.getElem?_eq_getElem (by omega)] at hv
  rw [this];simp [hx]
def psR (A : List S78) (j : Int) : Prop := rm A j > 0
def psM (A : List S78) (j : Int) : Prop := j % 2 = 0 ∧ rm A j = Inf
instance (A : List S78) (j : Int) : Decidable (psR A j) := inferInstanceAs (Decidable (_ > _))
instance (A : List S78) (j : Int) : Decidable (psM A j) := inferInstanceAs (Decidable (_ ∧ _))
theorem room_ev {A : List S78} {c : List Int} {T : List (List Int)} {x : Int} {b : Bool} {L N : List Int} {s : S72} {j : Int} (h0 : 0 ≤ j) (h1 : j < (A.length : Int)) : maxflow_Net_room.f (some ⟨A, c, T, x, b, L, N, s⟩) j = some (decide (psR A j)) := by
  show (if 0 ≤ j then (if j < (A.length : Int) then (some (decide (((rd_T78 A j).f1) > 0))) else (none)) else (none)) = _;rw [if_pos h0, if_pos h1]; rfl
theorem max1_ev {A : List S78} {c : List Int} {T : List (List Int)} {x : Int} {b : Bool} {L N : List Int} {s : S72} {j : Int} (h0 : 0 ≤ j) (h1 : j < (A.length : Int)) : maxflow_Net_Max_1.f j (some ⟨some ⟨A, c, T, x, b, L, N, s⟩⟩) = some (decide (psM A j)) := by
  show (if (Int.tmod j 2) = 0 then (if 0 ≤ j then (if j < (A.length : Int) then (some (decide (((rd_T78 A j).f1) = 4611686018427387904))) else (none)) else (none)) else (some false)) = _;have e : Int.tmod j 2 = j % 2 := Int.tmod_eq_emod_of_nonneg h0;rw [e];by_cases h : j % 2 = 0
  · rw [if_pos h, if_pos h0, if_pos h1];refine congrArg some (decide_eq_decide.mpr ?_);exact ⟨fun h' => ⟨h, h'⟩, fun h' => h'.2⟩
  · rw [if_neg h];have : ¬ psM A j := fun h' => h h'.1;rw [decide_eq_false this]
structure BI (n : Int) (E : List Ed) (s : Int) (ps x : Int → Prop) (L q : List Int) : Prop where
  l : (L.length : Int) = n
  s1 : rd L s = 1
  b : ∀ v, 0 ≤ v → v < n → 0 ≤ rd L v ∧ rd L v ≤ cnt L
  o : ∀ v, 0 ≤ v → v < n → rd L v = 1 → v = s
  d : ∀ v, 0 ≤ v → v < n → 0 < rd L v → v ≠ s → ∃ j, 0 ≤ j ∧ j < 2 * (E.length : Int) ∧ ps j ∧ hd E j = v ∧ 0 < rd L (tl E j) ∧ rd L v = rd L (tl E j) + 1
  qq : ∀ v, v ∈ q → 0 ≤ v ∧ v < n ∧ 0 < rd L v
  c : ∀ j, 0 ≤ j → j < 2 * (E.length : Int) → ps j → 0 < rd L (tl E j) → tl E j ∉ q → x j → 0 < rd L (hd E j) ∧ rd L (hd E j) ≤ rd L (tl E j) + 1
  w : q.Pairwise (fun a b => rd L a ≤ rd L b)
  t : ∀ v a, 0 ≤ v → v < n → 0 < rd L v → a ∈ q → rd L v ≤ rd L a + 1
section
variable {n : Int} {E : List Ed} {s : Int} {ps x x' : Int → Prop} {L q : List Int}
theorem BI.weak (h : BI n E s ps x L q) (hx : ∀ j, 0 ≤ j → j < 2 * (E.length : Int) → x' j → x j) : BI n E s ps x' L q := ⟨h.l, h.s1, h.b, h.o, h.d, h.qq, fun j a b c d e f => h.c j a b c d e (hx j a b f), h.w, h.t⟩
theorem BI.set (g : EG n E) (h : BI n E s ps x L q) {i j v : Int} (hi : 0 ≤ i) (hn : i < n) (hL : 0 < rd L i) (hq : ∀ a, a ∈ q → rd L i ≤ rd L a) (ht : ∀ v, 0 ≤ v → v < n → 0 < rd L v → rd L v ≤ rd L i + 1) (hj : 0 ≤ j) (hm : j < 2 * (E.length : Int)) (hp : ps j) (htl : tl E j = i) (hhd : hd E j = v) (hv : rd L v = 0) : BI n E s ps (fun j' => x j' ∨ j' = j) (L.set v.toNat (rd L i + 1)) (q ++ [v]) ∧ 0 ≤ v ∧ v < n ∧ cnt (L.set v.toNat (rd L i + 1)) = cnt L + 1 := by
  obtain ⟨v0, v1, _, _, vne⟩ := g.arc hj hm;rw [hhd] at v0 v1 vne;rw [htl] at vne;have hl := h.l;have hvl : v < (L.length : Int) := by omega
  have hc := cnt_set v0 hvl hv (show 0 < rd L i + 1 by omega);have R : ∀ u, 0 ≤ u → rd (L.set v.toNat (rd L i + 1)) u = if u = v then rd L i + 1 else rd L u := fun u hu => rd_set _ v0 hvl hu
  have Rp : ∀ u, 0 ≤ u → 0 < rd L u → rd (L.set v.toNat (rd L i + 1)) u = rd L u := fun u hu hp => by
    rw [R u hu, if_neg]; rintro rfl; omega
  have hb := h.b i hi hn;have sv : s ≠ v := by rintro rfl; have := h.s1; omega
  refine ⟨⟨by rw [List.length_set]; exact hl, ?_, ?_, ?_, ?_, ?_, ?_, ?_, ?_⟩, v0, v1, hc⟩
  · by_cases hs : 0 ≤ s
    · rw [Rp s hs (by have := h.s1; omega)]; exact h.s1
    · have : rd (L.set v.toNat (rd L i + 1)) s = rd (L.set v.toNat (rd L i + 1)) 0 := by unfold rd; rw [show s.toNat = (0 : Int).toNat by omega]
      have h2 : rd L s = rd L 0 := by unfold rd; rw [show s.toNat = (0 : Int).toNat by omega]
      rw [this, Rp 0 (by omega) (by rw [← h2]; have := h.s1; omega), ← h2]; exact h.s1
  · intro u hu hun;rw [R u hu, hc];have := h.b u hu hun;split <;> omega
  · intro u hu hun h1;rw [R u hu] at h1;split at h1
    · omega
    · exact h.o u hu hun h1
  · intro u hu hun h1 hs;by_cases e : u = v
    · subst e;refine ⟨j, hj, hm, hp, hhd, ?_, ?_⟩
      · rw [htl, Rp i hi hL]; exact hL
      · rw [htl, Rp i hi hL, R u hu, if_pos rfl]
    · rw [R u hu, if_neg e] at h1;obtain ⟨j', a, b, c, d, e', f⟩ := h.d u hu hun h1 hs;have := (g.arc a b).2.2.1;refine ⟨j', a, b, c, d, ?_, ?_⟩
      · rw [Rp _ this e']; exact e'
      · rw [Rp _ this e', R u hu, if_neg e]; exact f
  · intro u hu;rcases List.mem_append.1 hu with hu | hu
    · obtain ⟨a, b, c⟩ := h.qq u hu;exact ⟨a, b, by rw [Rp u a c]; exact c⟩
    · have e : u = v := by simpa using hu
      subst e;exact ⟨v0, v1, by rw [R u v0, if_pos rfl]; omega⟩
  · intro j' a b c d e f;have t0 := (g.arc a b).2.2.1;have h0 := (g.arc a b).1;have tv : tl E j' ≠ v := fun e' => e (by rw [e']; simp);rw [R _ t0, if_neg tv] at d;rcases f with f | f
    · obtain ⟨p, r⟩ := h.c j' a b c d (fun hq => e (List.mem_append_left _ hq)) f;rw [Rp _ h0 p, Rp _ t0 d];exact ⟨p, r⟩
    · subst f;rw [hhd, R v v0, if_pos rfl, htl, Rp i hi hL];omega
  · rw [List.pairwise_append];refine ⟨h.w.imp_of_mem (fun {a b} ha hb hab => ?_), List.pairwise_singleton _ _, fun a ha b hb => ?_⟩
    · rw [Rp a (h.qq a ha).1 (h.qq a ha).2.2, Rp b (h.qq b hb).1 (h.qq b hb).2.2]; exact hab
    · have e : b = v := by simpa using hb
      subst e;rw [Rp a (h.qq a ha).1 (h.qq a ha).2.2, R b v0, if_pos rfl];exact ht a (h.qq a ha).1 (h.qq a ha).2.1 (h.qq a ha).2.2
  · intro u a hu hun h1 ha;have key : rd (L.set v.toNat (rd L i + 1)) u ≤ rd L i + 1 := by
      rw [R u hu] at h1 ⊢;split
      · omega
      · rename_i e
        rw [if_neg e] at h1;exact ht u hu hun h1
    rcases List.mem_append.1 ha with ha | ha
    · rw [Rp a (h.qq a ha).1 (h.qq a ha).2.2];have := hq a ha;omega
    · have e : a = v := by simpa using ha
      subst e;rw [R a v0, if_pos rfl];omega
end
section
variable {n : Int} {E : List Ed} {s : Int} {A : List S78} {T : List (List Int)} {c : List Int} {a3 : Int} {a4 : Bool} {l5 l6 : List Int}
theorem R_inner (g : EG n E) (ga : AG E A) (gt : TG n E T) {q0 : List Int} {i : Int} (hq0 : rd q0 0 = i) (hi : 0 ≤ i) (hn : i < n) {M : Nat} (hMM : M ≤ 1000000) {Q : List Int × Int → Prop} {y : Int}
    (H : ∀ L q, BI n E s (psR A) (fun _ => True) L q → 2 * (n.toNat - cnt L) + q.length < M → Ev (fun k => maxflow_Net_reach_maxflow_Net_room.l1 k a3 a4 A c T l5 l6 L q y) Q) :
    ∀ (z : Nat) (L q : List Int) (p : Int), 0 ≤ p → p + z = ((rd_L4 T i).length : Int) → 0 < rd L i → (∀ a, a ∈ q → rd L i ≤ rd L a) → (∀ v, 0 ≤ v → v < n → 0 < rd L v → rd L v ≤ rd L i + 1) → BI n E s (psR A) (fun j => tl E j ≠ i ∨ ∃ p', 0 ≤ p' ∧ p' < p ∧ rd (rd_L4 T i) p' = j) L q → 2 * (n.toNat - cnt L) + q.length < M → Ev (fun k => maxflow_Net_reach_maxflow_Net_room.l0 k a3 a4 A c T l5 l6 q0 L q p y) Q := by
  intro z
  induction z with
  | zero =>
    intro L q p hp hz hL hq ht hb hM;refine Ev.sub 1 ?_;simp only [maxflow_Net_reach_maxflow_Net_room.l0, hq0];simp only [if_neg (show ¬ p < ((rd_L4 T i).length : Int) by omega)];refine H L q (hb.weak (fun j ja jb _ => ?_)) hM |>.mono (fun _ h => h);by_cases e : tl E j = i
    · obtain ⟨p', a, b, e'⟩ := mem_rd ((gt.i i j hi hn).2 ⟨ja, jb, e⟩);exact .inr ⟨p', a, by omega, e'⟩
    · exact .inl e
  | succ z ih =>
    intro L q p hp hz hL hq ht hb hM;have hpl : p < ((rd_L4 T i).length : Int) := by omega
    obtain ⟨j, hj⟩ : ∃ j, rd (rd_L4 T i) p = j := ⟨_, rfl⟩;have hjm : j ∈ rd_L4 T i := hj ▸ rd_mem hp hpl;obtain ⟨j0, j1, j2⟩ := (gt.i i j hi hn).1 hjm;have hal := ga.l;obtain ⟨v0, v1, _, _, vne⟩ := g.arc j0 j1;have hh := ga.h j j0 j1;have hLl := hb.l;have hlen := gt.c i;have hm := g.m;have hn2 := g.n2;have wp : wrap64 (p + 1) = p + 1 := wr (by omega) (by omega);have hb0 := hb.b i hi hn;have hcl := cnt_le L;have wL : wrap64 (rd L i + 1) = rd L i + 1 := wr (by omega) (by omega);have ext : ∀ j', (tl E j' ≠ i ∨ ∃ p', 0 ≤ p' ∧ p' < p + 1 ∧ rd (rd_L4 T i) p' = j') → (tl E j' ≠ i ∨ ∃ p', 0 ≤ p' ∧ p' < p ∧ rd (rd_L4 T i) p' = j') ∨ j' = j := by
      rintro j' (h | ⟨p', a, b, e⟩)
      · exact .inl (.inl h)
      · by_cases h : p' = p
        · subst h; exact .inr (e.symm.trans hj)
        · exact .inl (.inr ⟨p', a, by omega, e⟩)
    refine Ev.sub 1 ?_;simp only [maxflow_Net_reach_maxflow_Net_room.l0, hq0, hj, hh];simp only [if_pos hpl, if_pos hp, if_pos j0, if_pos (show j < (A.length : Int) by omega), if_pos v0, if_pos (show hd E j < (L.length : Int) by omega)];by_cases h0 : rd L (hd E j) = 0
    · simp only [if_pos h0, room_ev j0 (show j < (A.length : Int) by omega), Option.bind_some];refine Ev.sub 1 ?_;simp only [maxflow_Net_reach_maxflow_Net_room.j0, hq0, hj, hh];by_cases hp' : psR A j
      · simp only [if_pos (show decide (psR A j) = true from decide_eq_true hp'), if_pos hi, if_pos (show i < (L.length : Int) by omega), if_pos v0, if_pos (show hd E j < (L.length : Int) by omega), Option.bind_some, wL, wp];obtain ⟨hb', _, _, hc⟩ := hb.set g hi hn hL hq ht j0 j1 hp' j2 rfl h0;have hql : q.length < 17592186044416 := by
          omega
        simp only [if_pos hql];have Ri : rd (L.set (hd E j).toNat (rd L i + 1)) i = rd L i := by
          rw [rd_set _ v0 (by omega) hi, if_neg]; intro e; rw [← e] at h0; omega
        refine ih _ _ (p + 1) (by omega) (by omega) (by rw [Ri]; exact hL) ?_ ?_ (hb'.weak (fun j' _ _ => ext j')) ?_
        · intro a ha;rw [Ri];rcases List.mem_append.1 ha with ha | ha
          · have := hb.qq a ha;rw [rd_set _ v0 (by omega) this.1];split
            · omega
            · exact hq a ha
          · have e : a = hd E j := by simpa using ha
            rw [e, rd_set _ v0 (by omega) v0, if_pos rfl]; omega
        · intro u hu hun h1;rw [Ri];rw [rd_set _ v0 (by omega) hu] at h1 ⊢;split
          · omega
          · rename_i e
            rw [if_neg e] at h1;exact ht u hu hun h1
        · rw [hc, List.length_append];have := cnt_le (L.set (hd E j).toNat (rd L i + 1));rw [hc, List.length_set] at this;simp only [List.length_singleton];omega
      · simp only [decide_eq_false hp', wp, if_neg (show ¬ false = true by decide)];refine ih L q (p + 1) (by omega) (by omega) hL hq ht ⟨hb.l, hb.s1, hb.b, hb.o, hb.d, hb.qq, fun j' a b c d e f => ?_, hb.w, hb.t⟩ hM;rcases ext j' f with f | f
        · exact hb.c j' a b c d e f
        · subst f; exact absurd c hp'
    · simp only [if_neg h0];refine Ev.sub 1 ?_;simp only [maxflow_Net_reach_maxflow_Net_room.j0, wp, if_neg (show ¬ false = true by decide)];refine ih L q (p + 1) (by omega) (by omega) hL hq ht ⟨hb.l, hb.s1, hb.b, hb.o, hb.d, hb.qq, fun j' a b c d e f => ?_, hb.w, hb.t⟩ hM;rcases ext j' f with f | f
      · exact hb.c j' a b c d e f
      · subst f;have := hb.b _ v0 v1;have hpos : 0 < rd L (hd E j') := by omega
        rw [j2];exact ⟨hpos, ht _ v0 v1 hpos⟩
end
section
variable {n : Int} {E : List Ed} {s : Int} {A : List S78} {T : List (List Int)} {c : List Int} {a3 : Int} {a4 : Bool} {l5 l6 : List Int}
theorem M_inner (g : EG n E) (ga : AG E A) (gt : TG n E T) {q0 : List Int} {i : Int} (hq0 : rd q0 0 = i) (hi : 0 ≤ i) (hn : i < n) {M : Nat} (hMM : M ≤ 1000000) {Q : List Int × Int → Prop} {y : Int}
    (H : ∀ L q, BI n E s (psM A) (fun _ => True) L q → 2 * (n.toNat - cnt L) + q.length < M → Ev (fun k => maxflow_Net_reach_maxflow_Net_Max_1.l1 k a3 a4 A c T l5 l6 L q y) Q) :
    ∀ (z : Nat) (L q : List Int) (p : Int), 0 ≤ p → p + z = ((rd_L4 T i).length : Int) → 0 < rd L i → (∀ a, a ∈ q → rd L i ≤ rd L a) → (∀ v, 0 ≤ v → v < n → 0 < rd L v → rd L v ≤ rd L i + 1) → BI n E s (psM A) (fun j => tl E j ≠ i ∨ ∃ p', 0 ≤ p' ∧ p' < p ∧ rd (rd_L4 T i) p' = j) L q → 2 * (n.toNat - cnt L) + q.length < M → Ev (fun k => maxflow_Net_reach_maxflow_Net_Max_1.l0 k a3 a4 A c T l5 l6 q0 L q p y) Q := by
  intro z
  induction z with
  | zero =>
    intro L q p hp hz hL hq ht hb hM;refine Ev.sub 1 ?_;simp only [maxflow_Net_reach_maxflow_Net_Max_1.l0, hq0];simp only [if_neg (show ¬ p < ((rd_L4 T i).length : Int) by omega)];refine H L q (hb.weak (fun j ja jb _ => ?_)) hM |>.mono (fun _ h => h);by_cases e : tl E j = i
    · obtain ⟨p', a, b, e'⟩ := mem_rd ((gt.i i j hi hn).2 ⟨ja, jb, e⟩);exact .inr ⟨p', a, by omega, e'⟩
    · exact .inl e
  | succ z ih =>
    intro L q p hp hz hL hq ht hb hM;have hpl : p < ((rd_L4 T i).length : Int) := by omega
    obtain ⟨j, hj⟩ : ∃ j, rd (rd_L4 T i) p = j := ⟨_, rfl⟩;have hjm : j ∈ rd_L4 T i := hj ▸ rd_mem hp hpl;obtain ⟨j0, j1, j2⟩ := (gt.i i j hi hn).1 hjm;have hal := ga.l;obtain ⟨v0, v1, _, _, vne⟩ := g.arc j0 j1;have hh := ga.h j j0 j1;have hLl := hb.l;have hlen := gt.c i;have hm := g.m;have hn2 := g.n2;have wp : wrap64 (p + 1) = p + 1 := wr (by omega) (by omega);have hb0 := hb.b i hi hn;have hcl := cnt_le L;have wL : wrap64 (rd L i + 1) = rd L i + 1 := wr (by omega) (by omega);have ext : ∀ j', (tl E j' ≠ i ∨ ∃ p', 0 ≤ p' ∧ p' < p + 1 ∧ rd (rd_L4 T i) p' = j') → (tl E j' ≠ i ∨ ∃ p', 0 ≤ p' ∧ p' < p ∧ rd (rd_L4 T i) p' = j') ∨ j' = j := by
      rintro j' (h | ⟨p', a, b, e⟩)
      · exact .inl (.inl h)
      · by_cases h : p' = p
        · subst h; exact .inr (e.symm.trans hj)
        · exact .inl (.inr ⟨p', a, by omega, e⟩)
    refine Ev.sub 1 ?_;simp only [maxflow_Net_reach_maxflow_Net_Max_1.l0, hq0, hj, hh];simp only [if_pos hpl, if_pos hp, if_pos j0, if_pos (show j < (A.length : Int) by omega), if_pos v0, if_pos (show hd E j < (L.length : Int) by omega)];by_cases h0 : rd L (hd E j) = 0
    · simp only [if_pos h0, max1_ev j0 (show j < (A.length : Int) by omega), Option.bind_some];refine Ev.sub 1 ?_;simp only [maxflow_Net_reach_maxflow_Net_Max_1.j0, hq0, hj, hh];by_cases hp' : psM A j
      · simp only [if_pos (show decide (psM A j) = true from decide_eq_true hp'), if_pos hi, if_pos (show i < (L.length : Int) by omega), if_pos v0, if_pos (show hd E j < (L.length : Int) by omega), Option.bind_some, wL, wp];obtain ⟨hb', _, _, hc⟩ := hb.set g hi hn hL hq ht j0 j1 hp' j2 rfl h0;have hql : q.length < 17592186044416 := by
          omega
        simp only [if_pos hql];have Ri : rd (L.set (hd E j).toNat (rd L i + 1)) i = rd L i := by
          rw [rd_set _ v0 (by omega) hi, if_neg]; intro e; rw [← e] at h0; omega
        refine ih _ _ (p + 1) (by omega) (by omega) (by rw [Ri]; exact hL) ?_ ?_ (hb'.weak (fun j' _ _ => ext j')) ?_
        · intro a ha;rw [Ri];rcases List.mem_append.1 ha with ha | ha
          · have := hb.qq a ha;rw [rd_set _ v0 (by omega) this.1];split
            · omega
            · exact hq a ha
          · have e : a = hd E j := by simpa using ha
            rw [e, rd_set _ v0 (by omega) v0, if_pos rfl]; omega
        · intro u hu hun h1;rw [Ri];rw [rd_set _ v0 (by omega) hu] at h1 ⊢;split
          · omega
          · rename_i e
            rw [if_neg e] at h1;exact ht u hu hun h1
        · rw [hc, List.length_append];have := cnt_le (L.set (hd E j).toNat (rd L i + 1));rw [hc, List.length_set] at this;simp only [List.length_singleton];omega
      · simp only [decide_eq_false hp', wp, if_neg (show ¬ false = true by decide)];refine ih L q (p + 1) (by omega) (by omega) hL hq ht ⟨hb.l, hb.s1, hb.b, hb.o, hb.d, hb.qq, fun j' a b c d e f => ?_, hb.w, hb.t⟩ hM;rcases ext j' f with f | f
        · exact hb.c j' a b c d e f
        · subst f; exact absurd c hp'
    · simp only [if_neg h0];refine Ev.sub 1 ?_;simp only [maxflow_Net_reach_maxflow_Net_Max_1.j0, wp, if_neg (show ¬ false = true by decide)];refine ih L q (p + 1) (by omega) (by omega) hL hq ht ⟨hb.l, hb.s1, hb.b, hb.o, hb.d, hb.qq, fun j' a b c d e f => ?_, hb.w, hb.t⟩ hM;rcases ext j' f with f | f
      · exact hb.c j' a b c d e f
      · subst f;have := hb.b _ v0 v1;have hpos : 0 < rd L (hd E j') := by omega
        rw [j2];exact ⟨hpos, ht _ v0 v1 hpos⟩
end
section
variable {n : Int} {E : List Ed} {s : Int} {A : List S78} {T : List (List Int)} {c : List Int} {a3 : Int} {a4 : Bool} {l5 l6 : List Int}
theorem R_outer (g : EG n E) (ga : AG E A) (gt : TG n E T) :
    ∀ (M : Nat) (L q : List Int) (y : Int), M ≤ 1000000 → BI n E s (psR A) (fun _ => True) L q → 2 * (n.toNat - cnt L) + q.length < M → Ev (fun k => maxflow_Net_reach_maxflow_Net_room.l1 k a3 a4 A c T l5 l6 L q y) (fun r => BI n E s (psR A) (fun _ => True) r.1 [] ∧ ∃ z, z < M ∧ r.2 = it z y) := by
  intro M
  induction M with
  | zero => intro L q y hMM hb hM; omega
  | succ M ih =>
    intro L q y hMM hb hM
    cases q with
    | nil =>
      refine Ev.sub 1 ?_;simp only [maxflow_Net_reach_maxflow_Net_room.l1];simp only [if_neg (show ¬ (([] : List Int).length : Int) > 0 by decide)];exact Ev.ret ⟨hb, 0, by omega, rfl⟩
    | cons i q =>
      obtain ⟨hi, hn, hL⟩ := hb.qq i (List.mem_cons_self ..);have hlen : ((i :: q).length : Int) > 0 := by simp only [List.length_cons]; omega
      have htl := gt.l;have hq := List.pairwise_cons.1 hb.w;refine Ev.sub 1 ?_;simp only [maxflow_Net_reach_maxflow_Net_room.l1];simp only [if_pos hlen, if_pos (show 0 < ((i :: q).length : Int) from hlen), if_pos (show 1 ≤ ((i :: q).length : Int) by omega), Option.bind_some, show rd (i :: q) 0 = i from rfl, if_pos hi, if_pos (show i < (T.length : Int) by omega), show (i :: q).drop (1 : Int).toNat = q from rfl];have hc' : 2 * (n.toNat - cnt L) + q.length < M := by rw [List.length_cons] at hM; omega
      refine R_inner g ga gt (i := i) (q0 := i :: q) rfl hi hn (M := M) (by omega) (fun L' q' hb' hM' => (ih L' q' (wrap64 (y + 1)) (by omega) hb' hM').mono (fun r h => ⟨h.1, ?_⟩)) (rd_L4 T i).length L q 0 (Int.le_refl 0) (by omega) hL hq.1 (fun v a b d => hb.t v i a b d (List.mem_cons_self ..)) ⟨hb.l, hb.s1, hb.b, hb.o, hb.d, fun v hv => hb.qq v (List.mem_cons_of_mem _ hv), fun j a b d e f x => ?_, hq.2, fun v a b d e f => hb.t v a b d e (List.mem_cons_of_mem _ f)⟩ hc'
      · refine hb.c j a b d e (fun hm => ?_) trivial;rcases List.mem_cons.1 hm with hm | hm
        · rcases x with x | ⟨p', p0, p1, _⟩
          · exact x hm
          · omega
        · exact f hm
      · obtain ⟨z, hz, e⟩ := h.2;exact ⟨z + 1, by omega, e⟩
theorem R_reach (g : EG n E) (ga : AG E A) (gt : TG n E T) (h0 : 0 ≤ s) (h1 : s < n) (y : Int) : Ev (fun k => maxflow_Net_reach_maxflow_Net_room.f k A c T a3 a4 l5 l6 y s) (fun r => BI n E s (psR A) (fun _ => True) r.1 [] ∧ ∃ z, z < 2 * n.toNat ∧ r.2 = it z y) := by
  have hl := gt.l;have hn := g.n2;obtain ⟨N, hN⟩ : ∃ N : Nat, n = N := ⟨n.toNat, by omega⟩;have eT : T.length = N := by omega
  simp only [maxflow_Net_reach_maxflow_Net_room.f];simp only [if_pos (show 0 ≤ (T.length : Int) by omega), if_pos (show ((T.length : Int) : Int).toNat * 8 ≤ 281474976710656 by omega), Option.bind_some, if_pos h0, List.length_replicate, if_pos (show s < (((T.length : Int).toNat : Nat) : Int) by omega)];have hz : ∀ v, rd (List.replicate N (0 : Int)) v = 0 := by
    intro v;unfold rd;rw [List.getD_eq_getElem?_getD, List.getElem?_replicate];split <;> rfl
  have hr : (List.replicate N (0 : Int)).length = N := List.length_replicate;have R : ∀ u, 0 ≤ u → rd ((List.replicate N (0 : Int)).set s.toNat 1) u = if u = s then 1 else 0 := fun u hu => by
    rw [rd_set 1 h0 (by omega) hu, hz]
  have hc : cnt ((List.replicate N (0 : Int)).set s.toNat 1) = 1 := by
    rw [cnt_set h0 (by omega) (hz s) (by decide)];have : cnt (List.replicate N (0 : Int)) = 0 := by
      unfold cnt;rw [List.countP_replicate]; simp
    rw [this]
  rw [show ((T.length : Int)).toNat = N by omega];refine R_outer g ga gt (2 * n.toNat) _ _ y (by omega) ⟨by rw [List.length_set, hr]; exact hN.symm, ?_, ?_, ?_, ?_, ?_, ?_, List.pairwise_singleton _ _, ?_⟩ ?_
  · rw [R s h0, if_pos rfl]
  · intro v a b;rw [R v a, hc]; split <;> omega
  · intro v a b e;rw [R v a] at e;split at e
    · assumption
    · omega
  · intro v a b e f;rw [R v a, if_neg f] at e; omega
  · intro v hv;have e : v = s := by simpa using hv
    subst e;exact ⟨h0, h1, by rw [R v h0, if_pos rfl]; decide⟩
  · intro j a b _ e f;rw [R _ (g.arc a b).2.2.1, if_neg (fun e' => f (by rw [e']; simp))] at e;omega
  · intro v a hv0 hv1 e f;have e' : a = s := by simpa using f
    subst e';rw [R v hv0, R a h0, if_pos rfl]; split <;> omega
  · rw [hc, List.length_singleton]; omega
end
section
variable {n : Int} {E : List Ed} {s : Int} {A : List S78} {T : List (List Int)} {c : List Int} {a3 : Int} {a4 : Bool} {l5 l6 : List Int}
theorem M_outer (g : EG n E) (ga : AG E A) (gt : TG n E T) :
    ∀ (M : Nat) (L q : List Int) (y : Int), M ≤ 1000000 → BI n E s (psM A) (fun _ => True) L q → 2 * (n.toNat - cnt L) + q.length < M → Ev (fun k => maxflow_Net_reach_maxflow_Net_Max_1.l1 k a3 a4 A c T l5 l6 L q y) (fun r => BI n E s (psM A) (fun _ => True) r.1 [] ∧ ∃ z, z < M ∧ r.2 = it z y) := by
  intro M
  induction M with
  | zero => intro L q y hMM hb hM; omega
  | succ M ih =>
    intro L q y hMM hb hM
    cases q with
    | nil =>
      refine Ev.sub 1 ?_;simp only [maxflow_Net_reach_maxflow_Net_Max_1.l1];simp only [if_neg (show ¬ (([] : List Int).length : Int) > 0 by decide)];exact Ev.ret ⟨hb, 0, by omega, rfl⟩
    | cons i q =>
      obtain ⟨hi, hn, hL⟩ := hb.qq i (List.mem_cons_self ..);have hlen : ((i :: q).length : Int) > 0 := by simp only [List.length_cons]; omega
      have htl := gt.l;have hq := List.pairwise_cons.1 hb.w;refine Ev.sub 1 ?_;simp only [maxflow_Net_reach_maxflow_Net_Max_1.l1];simp only [if_pos hlen, if_pos (show 0 < ((i :: q).length : Int) from hlen), if_pos (show 1 ≤ ((i :: q).length : Int) by omega), Option.bind_some, show rd (i :: q) 0 = i from rfl, if_pos hi, if_pos (show i < (T.length : Int) by omega), show (i :: q).drop (1 : Int).toNat = q from rfl];have hc' : 2 * (n.toNat - cnt L) + q.length < M := by rw [List.length_cons] at hM; omega
      refine M_inner g ga gt (i := i) (q0 := i :: q) rfl hi hn (M := M) (by omega) (fun L' q' hb' hM' => (ih L' q' (wrap64 (y + 1)) (by omega) hb' hM').mono (fun r h => ⟨h.1, ?_⟩)) (rd_L4 T i).length L q 0 (Int.le_refl 0) (by omega) hL hq.1 (fun v a b d => hb.t v i a b d (List.mem_cons_self ..)) ⟨hb.l, hb.s1, hb.b, hb.o, hb.d, fun v hv => hb.qq v (List.mem_cons_of_mem _ hv), fun j a b d e f x => ?_, hq.2, fun v a b d e f => hb.t v a b d e (List.mem_cons_of_mem _ f)⟩ hc'
      · refine hb.c j a b d e (fun hm => ?_) trivial;rcases List.mem_cons.1 hm with hm | hm
        · rcases x with x | ⟨p', p0, p1, _⟩
          · exact x hm
          · omega
        · exact f hm
      · obtain ⟨z, hz, e⟩ := h.2;exact ⟨z + 1, by omega, e⟩
theorem M_reach (g : EG n E) (ga : AG E A) (gt : TG n E T) (h0 : 0 ≤ s) (h1 : s < n) (y : Int) : Ev (fun k => maxflow_Net_reach_maxflow_Net_Max_1.f k A c T a3 a4 l5 l6 y s) (fun r => BI n E s (psM A) (fun _ => True) r.1 [] ∧ ∃ z, z < 2 * n.toNat ∧ r.2 = it z y) := by
  have hl := gt.l;have hn := g.n2;obtain ⟨N, hN⟩ : ∃ N : Nat, n = N := ⟨n.toNat, by omega⟩;have eT : T.length = N := by omega
  simp only [maxflow_Net_reach_maxflow_Net_Max_1.f];simp only [if_pos (show 0 ≤ (T.length : Int) by omega), if_pos (show ((T.length : Int) : Int).toNat * 8 ≤ 281474976710656 by omega), Option.bind_some, if_pos h0, List.length_replicate, if_pos (show s < (((T.length : Int).toNat : Nat) : Int) by omega)];have hz : ∀ v, rd (List.replicate N (0 : Int)) v = 0 := by
    intro v;unfold rd;rw [List.getD_eq_getElem?_getD, List.getElem?_replicate];split <;> rfl
  have hr : (List.replicate N (0 : Int)).length = N := List.length_replicate;have R : ∀ u, 0 ≤ u → rd ((List.replicate N (0 : Int)).set s.toNat 1) u = if u = s then 1 else 0 := fun u hu => by
    rw [rd_set 1 h0 (by omega) hu, hz]
  have hc : cnt ((List.replicate N (0 : Int)).set s.toNat 1) = 1 := by
    rw [cnt_set h0 (by omega) (hz s) (by decide)];have : cnt (List.replicate N (0 : Int)) = 0 := by
      unfold cnt;rw [List.countP_replicate]; simp
    rw [this]
  rw [show ((T.length : Int)).toNat = N by omega];refine M_outer g ga gt (2 * n.toNat) _ _ y (by omega) ⟨by rw [List.length_set, hr]; exact hN.symm, ?_, ?_, ?_, ?_, ?_, ?_, List.pairwise_singleton _ _, ?_⟩ ?_
  · rw [R s h0, if_pos rfl]
  · intro v a b;rw [R v a, hc]; split <;> omega
  · intro v a b e;rw [R v a] at e;split at e
    · assumption
    · omega
  · intro v a b e f;rw [R v a, if_neg f] at e; omega
  · intro v hv;have e : v = s := by simpa using hv
    subst e;exact ⟨h0, h1, by rw [R v h0, if_pos rfl]; decide⟩
  · intro j a b _ e f;rw [R _ (g.arc a b).2.2.1, if_neg (fun e' => f (by rw [e']; simp))] at e;omega
  · intro v a hv0 hv1 e f;have e' : a = s := by simpa using f
    subst e';rw [R v hv0, R a h0, if_pos rfl]; split <;> omega
  · rw [hc, List.length_singleton]; omega
end
end Go.Proofs.Ytdkbmchbkkhpoaa.Flow
