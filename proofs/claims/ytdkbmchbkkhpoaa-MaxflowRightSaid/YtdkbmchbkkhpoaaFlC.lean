/- Paths along rising levels. -/
import Derived.Test.YtdkbmchbkkhpoaaFlB
set_option linter.unusedVariables false
set_option linter.unusedSimpArgs false
namespace Go.Proofs.Ytdkbmchbkkhpoaa.Flow
open Go.RowKit Go.Proofs.Ytdkbmchbkkhpoaa.PMfr Go.Proofs.YtdkbmchbkkhpoaaW.PrintWords Go.Proofs.YtdkbmchbkkhpoaaW.PrintLast Go.Proofs.YtdkbmchbkkhpoaaW.PrintMore
def AD (E : List Ed) (A : List S78) (L : List Int) (j : Int) : Prop := psR A j ∧ rd L (hd E j) = rd L (tl E j) + 1
structure LV (n s : Int) (L : List Int) : Prop where
  l : (L.length : Int) = n
  b : ∀ v, 0 ≤ v → v < n → 0 ≤ rd L v ∧ rd L v ≤ n
  s1 : rd L s = 1
structure NX (n : Int) (T : List (List Int)) (N : List Int) : Prop where
  l : (N.length : Int) = n
  b : ∀ v, 0 ≤ v → v < n → 0 ≤ rd N v ∧ rd N v ≤ ((rd_L4 T v).length : Int)
def Dead (T : List (List Int)) (t : Int) (N : List Int) (v : Int) : Prop := v ≠ t ∧ rd N v = ((rd_L4 T v).length : Int)
def DI (n : Int) (E : List Ed) (A : List S78) (T : List (List Int)) (L : List Int) (t : Int) (N : List Int) : Prop := ∀ v p, 0 ≤ v → v < n → 0 ≤ p → p < rd N v → ¬ AD E A L (rd (rd_L4 T v) p) ∨ Dead T t N (hd E (rd (rd_L4 T v) p))
inductive Pth (E : List Ed) (A : List S78) (T : List (List Int)) (L : List Int) (s t : Int) (N : List Int) : List Int → Int → Prop
  | nil : Pth E A T L s t N [] s
  | snoc (out : List Int) (j : Int) : Pth E A T L s t N out (tl E j) → 0 ≤ j → j < 2 * (E.length : Int) → AD E A L j → rd (rd_L4 T (tl E j)) (rd N (tl E j)) = j → rd N (tl E j) < ((rd_L4 T (tl E j)).length : Int) → tl E j ≠ t → Pth E A T L s t N (out ++ [j]) (hd E j)
/-- How much is left to look at. -/
def wt (n : Int) (T : List (List Int)) (N : List Int) : Int := Sm (fun v => ((rd_L4 T v).length : Int) - rd N v) n.toNat
section
variable {n s t : Int} {E : List Ed} {A : List S78} {T : List (List Int)} {L N N' out : List Int} {i : Int}
theorem NX.wt (h : NX n T N) : 0 ≤ wt n T N := Sm.nonneg (fun v hv => by have := h.b v (by omega) (by omega); omega)
theorem NX.set (h : NX n T N) {u : Int} (h0 : 0 ≤ u) (h1 : u < n) (hu : rd N u < ((rd_L4 T u).length : Int)) : NX n T (N.set u.toNat (rd N u + 1)) ∧ Flow.wt n T (N.set u.toNat (rd N u + 1)) = Flow.wt n T N - 1 := by
  have hl := h.l;have R : ∀ v, 0 ≤ v → rd (N.set u.toNat (rd N u + 1)) v = if v = u then rd N u + 1 else rd N v := fun v hv => rd_set _ h0 (by omega) hv
  refine ⟨⟨by rw [List.length_set]; exact hl, fun v a b => ?_⟩, ?_⟩
  · have := h.b v a b;rw [R v a];split
    · rename_i e; subst e; omega
    · exact this
  · have := Sm.at (f := fun v => ((rd_L4 T v).length : Int) - rd N v) (g := fun v => ((rd_L4 T v).length : Int) - rd (N.set u.toNat (rd N u + 1)) v) (n := n.toNat) (e := u.toNat) (d := -1) (by omega) (fun v hv hne => by rw [R v (by omega), if_neg (by omega)]) (by rw [show ((u.toNat : Nat) : Int) = u by omega, R u h0, if_pos rfl]; omega);unfold Flow.wt;rw [this]; omega
theorem DI.set (hl : (N.length : Int) = n) (h : DI n E A T L t N) {u : Int} (h0 : 0 ≤ u) (h1 : u < n) (hu : rd N u < ((rd_L4 T u).length : Int)) (hj : ¬ AD E A L (rd (rd_L4 T u) (rd N u)) ∨ Dead T t N (hd E (rd (rd_L4 T u) (rd N u)))) (g : EG n E) (gt : TG n E T) (hp : 0 ≤ rd N u) : DI n E A T L t (N.set u.toNat (rd N u + 1)) := by
  have R : ∀ v, 0 ≤ v → rd (N.set u.toNat (rd N u + 1)) v = if v = u then rd N u + 1 else rd N v := fun v hv => rd_set _ h0 (by omega) hv
  have D : ∀ v, 0 ≤ v → Dead T t N v → Dead T t (N.set u.toNat (rd N u + 1)) v := fun v hv hd => ⟨hd.1, by
    have := hd.2;rw [R v hv, if_neg]
    · exact this
    · rintro rfl; omega⟩
  intro v p a b c d;have hb : ∀ p, 0 ≤ p → p < ((rd_L4 T v).length : Int) → 0 ≤ hd E (rd (rd_L4 T v) p) := fun p p0 p1 => by
    obtain ⟨x, y, _⟩ := (gt.i v _ a b).1 (rd_mem p0 p1);exact (g.arc x y).1
  rw [R v a] at d;split at d
  · rename_i e
    subst e;have hpl : p < ((rd_L4 T v).length : Int) := by omega
    by_cases e : p = rd N v
    · subst e;exact hj.imp id (D _ (hb _ c hpl))
    · exact (h v p a b c (by omega)).imp id (D _ (hb _ c hpl))
  · by_cases hpl : p < ((rd_L4 T v).length : Int)
    · exact (h v p a b c d).imp id (D _ (hb _ c hpl))
    · rcases h v p a b c d with h | h
      · exact .inl h
      · by_cases hh : 0 ≤ hd E (rd (rd_L4 T v) p)
        · exact .inr (D _ hh h)
        · refine .inr ⟨h.1, ?_⟩;have : rd (N.set u.toNat (rd N u + 1)) (hd E (rd (rd_L4 T v) p)) = rd (N.set u.toNat (rd N u + 1)) 0 := by unfold rd; rw [show (hd E (List.getD (rd_L4 T v) p.toNat 0)).toNat = (0 : Int).toNat by unfold rd at hh; omega]
          have h2 : rd N (hd E (rd (rd_L4 T v) p)) = rd N 0 := by unfold rd; rw [show (hd E (List.getD (rd_L4 T v) p.toNat 0)).toNat = (0 : Int).toNat by unfold rd at hh; omega]
          have h3 : rd_L4 T (hd E (rd (rd_L4 T v) p)) = rd_L4 T 0 := by unfold rd_L4; rw [show (hd E (rd (T.getD v.toNat []) p)).toNat = (0 : Int).toNat by unfold rd_L4 at hh; omega]
          have h4 := h.2;rw [h2, h3] at h4;rw [this, h3, R 0 (Int.le_refl 0), if_neg]
          · exact h4
          · rintro rfl; omega
theorem Pth.lvl (hs : rd L s = 1) (h : Pth E A T L s t N out i) : rd L i = out.length + 1 := by
  induction h with
  | nil => rw [hs]; rfl
  | snoc out j _ _ _ had _ _ _ ih => rw [had.2, ih, List.length_append]; simp
theorem Pth.keep (g : EG n E) (hs : rd L s = 1) (h : Pth E A T L s t N out i) (hk : ∀ u, 0 ≤ u → rd L u < rd L i → rd N' u = rd N u) : Pth E A T L s t N' out i := by
  induction h with
  | nil => exact .nil
  | snoc out j hp h0 h1 had hr hl ht ih =>
    have h2 := had.2;have e := hk (tl E j) (g.arc h0 h1).2.2.1 (by omega);exact .snoc out j (ih fun u hu hlt => hk u hu (by omega)) h0 h1 had (by rw [e]; exact hr) (by rw [e]; exact hl) ht
theorem Pth.in (g : EG n E) (h0 : 0 ≤ s) (h1 : s < n) (h : Pth E A T L s t N out i) : 0 ≤ i ∧ i < n := by
  cases h with
  | nil => exact ⟨h0, h1⟩
  | snoc out j _ a b => exact ⟨(g.arc a b).1, (g.arc a b).2.1⟩
theorem rd_last (out : List Int) (j : Int) : rd (out ++ [j]) (((out ++ [j]).length : Int) - 1) = j := by
  unfold rd;rw [List.length_append, List.getD_eq_getElem?_getD, show ((((out.length + [j].length : Nat) : Int) - 1).toNat) = out.length by simp only [List.length_singleton]; omega];simp
end
section
variable {n s t : Int} {E : List Ed} {A : List S78} {T : List (List Int)} {L c : List Int} {a3 : Int} {a4 : Bool}
def PQ (n s t : Int) (E : List Ed) (A : List S78) (T : List (List Int)) (L : List Int) (M : Int) (y : Int) (r : List Int × List Int × Int) : Prop :=
  NX n T r.2.1 ∧ DI n E A T L t r.2.1 ∧ (r.1 = [] → Dead T t r.2.1 s) ∧ (r.1 ≠ [] → Pth E A T L s t r.2.1 r.1 t) ∧ ∃ z : Nat, r.2.2 = it z y ∧ (z : Int) + wt n T r.2.1 * (n + 2) < M
theorem path_walk (g : EG n E) (ga : AG E A) (gt : TG n E T) (lv : LV n s L) (s0 : 0 ≤ s) (s1 : s < n) (hst : s ≠ t) :
    ∀ (M : Nat) (out : List Int) (i : Int) (N : List Int) (y : Int), i ≠ t → NX n T N → DI n E A T L t N → Pth E A T L s t N out i → wt n T N * (n + 2) + (n + 1 - rd L i) < M → Ev (fun k => maxflow_Net_path.l0 k a3 a4 t A c T L out i N y) (PQ n s t E A T L M y) := by
  intro M
  induction M with
  | zero =>
    intro out i N y hi hN hD hP hM;have := hN.wt;have h2 := hP.in g s0 s1;have := (lv.b i h2.1 h2.2).2;have : 0 ≤ wt n T N * (n + 2) := Int.mul_nonneg hN.wt (by omega);omega
  | succ M ih =>
    intro out i N y hi hN hD hP hM;obtain ⟨i0, i1⟩ := hP.in g s0 s1;have hNl := hN.l;have hTl := gt.l;have hLl := lv.l;have hAl := ga.l;have hm := g.m;have hn2 := g.n2;have hlen := gt.c i;have hLb := lv.b i i0 i1;have hNb := hN.b i i0 i1;have hlv := hP.lvl lv.s1;have hwt : 0 ≤ wt n T N * (n + 2) := Int.mul_nonneg hN.wt (by omega)
    -- what one more step costs
    have cost : ∀ {M' : Int} {r : List Int × List Int × Int} {y'}, y' = wrap64 (y + 1) ∨ y' = y → PQ n s t E A T L M y' r → PQ n s t E A T L (M + 1 : Nat) y r := by
      rintro M' r y' hy ⟨a, b, d, e, z, hz, hw⟩;refine ⟨a, b, d, e, ?_⟩;rcases hy with rfl | rfl
      · exact ⟨z + 1, hz, by omega⟩
      · exact ⟨z, hz, by omega⟩
    refine Ev.sub 1 ?_;simp only [maxflow_Net_path.l0, if_pos i0, if_pos (show i < (N.length : Int) by omega), if_pos (show i < (T.length : Int) by omega)];by_cases hp : rd N i < ((rd_L4 T i).length : Int)
    · obtain ⟨j, hj⟩ : ∃ j, rd (rd_L4 T i) (rd N i) = j := ⟨_, rfl⟩;obtain ⟨j0, j1, j2⟩ := (gt.i i j i0 i1).1 (hj ▸ rd_mem hNb.1 hp);obtain ⟨v0, v1, _, _, vne⟩ := g.arc j0 j1;have hh := ga.h j j0 j1;have hvb := lv.b _ v0 v1;have wp : wrap64 (rd N i + 1) = rd N i + 1 := wr (by omega) (by omega);have wL : wrap64 (rd L i + 1) = rd L i + 1 := wr (by omega) (by omega);have next : ¬ AD E A L j → Ev (fun k => maxflow_Net_path.l0 k a3 a4 t A c T L out i (N.set i.toNat (rd N i + 1)) y) (PQ n s t E A T L (M + 1 : Nat) y) := by
        intro hna;obtain ⟨hN', hw⟩ := hN.set i0 i1 hp;refine (ih out i _ y hi hN' (hD.set hNl i0 i1 hp (.inl (hj ▸ hna)) g gt hNb.1) (hP.keep g lv.s1 (fun u hu hlt => ?_)) ?_).mono (fun r h => cost (M' := 0) (.inr rfl) h)
        · rw [rd_set _ i0 (by omega) hu, if_neg]; rintro rfl; omega
        · rw [hw];have : (wt n T N - 1) * (n + 2) = wt n T N * (n + 2) - (n + 2) := by rw [Int.sub_mul]; omega
          rw [this]; omega
      simp only [if_pos hp, hj, if_pos hNb.1, if_pos j0, if_pos (show j < (A.length : Int) by omega), room_ev j0 (show j < (A.length : Int) by omega), Option.bind_some, hh, wp, wL];by_cases hr : psR A j
      · simp only [if_pos (show decide (psR A j) = true from decide_eq_true hr), if_pos v0, if_pos (show hd E j < (L.length : Int) by omega), if_pos (show i < (L.length : Int) by omega)];by_cases he : rd L (hd E j) = rd L i + 1
        · have had : AD E A L j := ⟨hr, by rw [j2]; exact he⟩;simp only [if_pos he, if_pos (show out.length < 17592186044416 by omega)];have hP' : Pth E A T L s t N (out ++ [j]) (hd E j) := .snoc out j (by rw [j2]; exact hP) j0 j1 had (by rw [j2]; exact hj) (by rw [j2]; exact hp) (by rw [j2]; exact hi);refine Ev.sub 1 ?_;simp only [maxflow_Net_path.l1];by_cases ht : hd E j = t
          · simp only [if_pos ht, if_pos (show 0 < (((out ++ [j]).length : Nat) : Int) by simp)];refine Ev.ret ⟨hN, hD, fun h => absurd h (by simp), fun _ => ht ▸ hP', 0, rfl, ?_⟩;dsimp only; omega
          · simp only [if_neg ht, Option.bind_some];refine (ih _ _ N _ ht hN hD hP' ?_).mono (fun r h => cost (M' := 0) (.inl rfl) h);rw [he]; omega
        · simp only [if_neg he];exact next (fun h => he (by rw [← j2]; exact h.2))
      · simp only [decide_eq_false hr, if_neg (show ¬ false = true by decide)];exact next (fun h => hr h.1)
    · have hpe : rd N i = ((rd_L4 T i).length : Int) := by omega
      simp only [if_neg hp]
      cases hP with
      | nil =>
        simp only [if_pos (show ((([] : List Int).length : Nat) : Int) = 0 from rfl)];exact Ev.ret ⟨hN, hD, fun _ => ⟨hst, hpe⟩, fun h => absurd rfl h, 0, rfl, by dsimp only; omega⟩
      | snoc out j hP h0 h1 had hr hlt hne =>
        obtain ⟨v0, v1, u0, u1, _⟩ := g.arc h0 h1;obtain ⟨r0, r1⟩ := rv_in h0 h1;have hol : ((out ++ [j]).length : Int) = out.length + 1 := by simp
        have hlv' := hP.lvl lv.s1;have hLu := lv.b _ u0 u1;have w1 : wrap64 (((out ++ [j]).length : Int) - 1) = ((out ++ [j]).length : Int) - 1 := wr (by omega) (by omega);have hx : Go.bits .xor .i64 j 1 = rv j := xor1 h0 (by omega);have hh := ga.h (rv j) r0 r1;rw [hd_rv] at hh;have hNu := hN.b _ u0 u1;have hcu := gt.c (tl E j);have wp : wrap64 (rd N (tl E j) + 1) = rd N (tl E j) + 1 := wr (by omega) (by omega);have htk : (out ++ [j]).take ((((out ++ [j]).length : Int) - 1).toNat) = out := by
          rw [hol, show ((out.length : Int) + 1 - 1).toNat = out.length by omega]; simp
        simp only [if_neg (show ¬ ((out ++ [j]).length : Int) = 0 by omega), w1, rd_last, hx, htk, if_pos (show 0 ≤ ((out ++ [j]).length : Int) - 1 by omega), if_pos (show ((out ++ [j]).length : Int) - 1 < ((out ++ [j]).length : Int) by omega), if_pos r0, if_pos (show rv j < (A.length : Int) by omega), if_pos (show ((out ++ [j]).length : Int) - 1 ≤ ((out ++ [j]).length : Int) by omega), Option.bind_some, hh, if_pos u0, if_pos (show tl E j < (N.length : Int) by omega), wp];refine Ev.sub 1 ?_;simp only [maxflow_Net_path.l1, if_neg hne, Option.bind_some];obtain ⟨hN', hw⟩ := hN.set u0 u1 hlt;refine (ih out _ _ _ hne hN' (hD.set hNl u0 u1 hlt (.inr (by rw [hr]; exact ⟨hi, hpe⟩)) g gt hNu.1) (hP.keep g lv.s1 (fun u hu hl => ?_)) ?_).mono (fun r h => cost (M' := 0) (.inl rfl) h)
        · rw [rd_set _ u0 (by omega) hu, if_neg]; rintro rfl; omega
        · rw [hw];have : (wt n T N - 1) * (n + 2) = wt n T N * (n + 2) - (n + 2) := by rw [Int.sub_mul]; omega
          have h2 := had.2;rw [this]; omega
theorem path_ev (g : EG n E) (ga : AG E A) (gt : TG n E T) (lv : LV n s L) (s0 : 0 ≤ s) (s1 : s < n) (hst : s ≠ t) {N : List Int} {y : Int} (hN : NX n T N) (hD : DI n E A T L t N) : Ev (fun k => maxflow_Net_path.f k A c T a3 a4 L N y s t) (PQ n s t E A T L (wt n T N * (n + 2) + n + 2) y) := by
  simp only [maxflow_Net_path.f];refine Ev.sub 1 ?_;simp only [maxflow_Net_path.l1, if_neg hst, Option.bind_some];have hwt : 0 ≤ wt n T N * (n + 2) := Int.mul_nonneg hN.wt (by have := g.n1; omega);have hn1 := g.n1;have hs := lv.s1;refine (path_walk g ga gt lv s0 s1 hst (wt n T N * (n + 2) + n + 1).toNat [] s N _ hst hN hD .nil (by omega)).mono ?_;rintro r ⟨a, b, d, e, z, hz, hw⟩;exact ⟨a, b, d, e, z + 1, hz, by omega⟩
/-- Where t has a level, and s isn't dead, there is a way on. -/
theorem not_dead (g : EG n E) (gt : TG n E T) {N : List Int} (s0 : 0 ≤ s) (s1 : s < n) (hD : DI n E A T L t N) (hN : NX n T N) (ho : ∀ v, 0 ≤ v → v < n → rd L v = 1 → v = s) (hd : ∀ v, 0 ≤ v → v < n → 0 < rd L v → v ≠ s → ∃ j, 0 ≤ j ∧ j < 2 * (E.length : Int) ∧ psR A j ∧ hd E j = v ∧ 0 < rd L (tl E j) ∧ rd L v = rd L (tl E j) + 1) : ∀ (z : Nat) (v : Int), 0 ≤ v → v < n → rd L v = (z : Int) + 1 → ¬ Dead T t N v → ¬ Dead T t N s := by
  intro z
  induction z with
  | zero => intro v a b e h; have := ho v a b (by omega); rw [← this]; exact h
  | succ z ih =>
    intro v a b e h;by_cases hs : v = s
    · rw [← hs]; exact h
    obtain ⟨j, j0, j1, p, hv, h0, hl⟩ := hd v a b (by omega) hs;obtain ⟨_, _, u0, u1, _⟩ := g.arc j0 j1;refine ih (tl E j) u0 u1 (by omega) (fun hdu => ?_);obtain ⟨p', p0, p1, hp'⟩ := mem_rd ((gt.i (tl E j) j u0 u1).2 ⟨j0, j1, rfl⟩);rcases hD (tl E j) p' u0 u1 p0 (by rw [hdu.2]; exact p1) with h' | h'
    · exact h' (by rw [hp']; exact ⟨p, by rw [hv]; exact hl⟩)
    · rw [hp', hv] at h'; exact h h'
end
end Go.Proofs.Ytdkbmchbkkhpoaa.Flow
