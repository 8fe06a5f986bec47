/- The greatest flow, and how many points are gone through. -/
import Derived.Test.YtdkbmchbkkhpoaaFlG
set_option linter.unusedVariables false
set_option linter.unusedSimpArgs false
namespace Go.Proofs.Ytdkbmchbkkhpoaa.Flow
open Go.RowKit Go.Proofs.Ytdkbmchbkkhpoaa.PMfr Go.Proofs.YtdkbmchbkkhpoaaW.PrintWords Go.Proofs.YtdkbmchbkkhpoaaW.PrintLast Go.Proofs.YtdkbmchbkkhpoaaW.PrintMore
section
variable {n : Int} {E : List Ed} {s : Int} {A : List S78} {T : List (List Int)} {c : List Int} {a3 : Int} {a4 : Bool} {l5 l6 : List Int}
theorem M_reach1 (g : EG n E) (ga : AG E A) (gt : TG n E T) (h0 : 0 ≤ s) (h1 : s < n) (y : Int) : Ev (fun k => maxflow_Net_reach_maxflow_Net_Max_1.f k A c T a3 a4 l5 l6 y s) (fun r => BI n E s (psM A) (fun _ => True) r.1 [] ∧ ∃ z, 1 ≤ z ∧ z < 2 * n.toNat + 1 ∧ r.2 = it z y) := by
  have hl := gt.l;have hn := g.n2;obtain ⟨N, hN⟩ : ∃ N : Nat, n = N := ⟨n.toNat, by omega⟩;have eT : T.length = N := by omega
  simp only [maxflow_Net_reach_maxflow_Net_Max_1.f];simp only [if_pos (show 0 ≤ (T.length : Int) by omega), if_pos (show ((T.length : Int) : Int).toNat * 8 ≤ 281474976710656 by omega), Option.bind_some, if_pos h0, List.length_replicate, if_pos (show s < (((T.length : Int).toNat : Nat) : Int) by omega)];have hz : ∀ v, rd (List.replicate N (0 : Int)) v = 0 := by
    intro v;unfold rd;rw [List.getD_eq_getElem?_getD, List.getElem?_replicate];split <;> rfl
  have hr : (List.replicate N (0 : Int)).length = N := List.length_replicate;have R : ∀ u, 0 ≤ u → rd ((List.replicate N (0 : Int)).set s.toNat 1) u = if u = s then 1 else 0 := fun u hu => by
    rw [rd_set 1 h0 (by omega) hu, hz]
  have hc : cnt ((List.replicate N (0 : Int)).set s.toNat 1) = 1 := by
    rw [cnt_set h0 (by omega) (hz s) (by decide)];have : cnt (List.replicate N (0 : Int)) = 0 := by
      unfold cnt;rw [List.countP_replicate]; simp
    rw [this]
  rw [show ((T.length : Int)).toNat = N by omega];have hb : BI n E s (psM A) (fun _ => True) ((List.replicate N (0 : Int)).set s.toNat 1) [s] := by
    refine ⟨by rw [List.length_set, hr]; exact hN.symm, ?_, ?_, ?_, ?_, ?_, ?_, List.pairwise_singleton _ _, ?_⟩
    · rw [R s h0, if_pos rfl]
    · intro v a b;rw [R v a, hc]; split <;> omega
    · intro v a b e;rw [R v a] at e;split at e
      · assumption
      · omega
    · intro v a b e f;rw [R v a, if_neg f] at e; omega
    · intro v hv;have e : v = s := by simpa using hv
      subst e;exact ⟨h0, h1, by rw [R v h0, if_pos rfl]; decide⟩
    · intro j a b _ e f;rw [R _ (g.arc a b).2.2.1, if_neg (fun e' => f (by rw [e']; simp))] at e;omega
    · intro v a hv0 hv1 e f;have e' : a = s := by simpa using f
      subst e';rw [R v hv0, R a h0, if_pos rfl]; split <;> omega
  have htl := gt.l;refine Ev.sub 1 ?_;simp only [maxflow_Net_reach_maxflow_Net_Max_1.l1];simp only [if_pos (show (([s] : List Int).length : Int) > 0 by simp), if_pos (show 0 < (([s] : List Int).length : Int) by simp), if_pos (show 1 ≤ (([s] : List Int).length : Int) by simp), Option.bind_some, show rd [s] 0 = s from rfl, if_pos h0, if_pos (show s < (T.length : Int) by omega), show ([s] : List Int).drop (1 : Int).toNat = [] from rfl];refine M_inner g ga gt (i := s) (q0 := [s]) rfl h0 h1 (M := 2 * n.toNat) (by omega) (fun L' q' hb' hM' => (M_outer g ga gt (2 * n.toNat) L' q' (wrap64 (y + 1)) (by omega) hb' hM').mono (fun r h => ⟨h.1, ?_⟩)) (rd_L4 T s).length _ [] 0 (Int.le_refl 0) (by omega) (by rw [hb.s1]; decide) (fun a ha => absurd ha (by simp)) (fun v a b d => hb.t v s a b d (List.mem_singleton.2 rfl)) ⟨hb.l, hb.s1, hb.b, hb.o, hb.d, fun v hv => absurd hv (by simp), fun j a b d e f x => ?_, List.Pairwise.nil, fun v a b d e f => absurd f (by simp)⟩ ?_
  · refine hb.c j a b d e (fun hm => ?_) trivial;have hm := List.mem_singleton.1 hm;rcases x with x | ⟨p', p0, p1, _⟩
    · exact x hm
    · omega
  · rw [hc, List.length_nil]; omega
  · obtain ⟨z, hz, e⟩ := h.2;exact ⟨z + 1, by omega, by omega, e⟩
end
/-- No way with room goes up by more than one. -/
def UP (E : List Ed) (A : List S78) (L : List Int) : Prop := ∀ j, 0 ≤ j → j < 2 * (E.length : Int) → psR A j → 0 < rd L (tl E j) → 0 < rd L (hd E j) ∧ rd L (hd E j) ≤ rd L (tl E j) + 1
open Classical in
/-- How many ways go up. -/
noncomputable def ac (E : List Ed) (A : List S78) (L : List Int) : Int := Sm (fun j => if AD E A L (j : Int) then 1 else 0) (2 * E.length)
section
variable {n s t : Int} {E : List Ed} {T : List (List Int)} {A A' : List S78} {L L' N path : List Int} {m : Int}
theorem ac_nonneg : 0 ≤ ac E A L := by
  classical
  exact Sm.nonneg (fun j _ => by split <;> decide)
theorem ac_le : ac E A L ≤ 2 * (E.length : Int) := by
  classical
  have h := Sm.mono (f := fun j => if AD E A L ((j : Nat) : Int) then (1 : Int) else 0) (g := fun _ => 1) (n := 2 * E.length) (fun j _ => by split <;> decide);have : ∀ z : Nat, Sm (fun _ => 1) z = z := by
    intro z
    induction z with
    | zero => rfl
    | succ z ih => rw [Sm, ih]; omega
  rw [this] at h;unfold ac;omega
theorem Sm.less {f g : Nat → Int} {n e : Nat} (h : ∀ i, i < n → f i ≤ g i) (he : e < n) (h' : f e + 1 ≤ g e) : Sm f n + 1 ≤ Sm g n := by
  induction n with
  | zero => omega
  | succ n ih =>
    rw [Sm, Sm];by_cases hn : e = n
    · subst hn;have := Sm.mono (f := f) (g := g) (n := e) (fun i hi => h i (by omega)); omega
    · have := ih (fun i hi => h i (by omega)) (by omega);have := h n (by omega); omega
theorem push_keeps (m0 : 0 ≤ m) (hp : ∀ p : Int, 0 ≤ p → p < (path.length : Int) → 0 ≤ rd path p ∧ rd path p < 2 * (E.length : Int) ∧ AD E A L (rd path p) ∧ rd L (tl E (rd path p)) = p + 1) (pr : PR E A A' path m path.length) {j : Int} (j0 : 0 ≤ j) (j1 : j < 2 * (E.length : Int)) (h : psR A' j) : psR A j ∨ ∃ q : Int, 0 ≤ q ∧ q < (path.length : Int) ∧ rv j = rd path q := by
  by_cases hr : ∃ q : Int, 0 ≤ q ∧ q < (path.length : Int) ∧ rv j = rd path q
  · exact .inr hr
  · obtain ⟨x, y⟩ := pr j j0 j1 (fun q a b e => hr ⟨q, a, b, e⟩);unfold psR at h ⊢;by_cases hq : ∃ q : Int, 0 ≤ q ∧ q < (path.length : Int) ∧ rd path q = j
    · have := x hq; exact .inl (by omega)
    · have := y (fun q q0 q1 e => hq ⟨q, q0, q1, e⟩); exact .inl (by omega)
theorem UP.push (h : UP E A L) (m0 : 0 ≤ m) (hp : ∀ p : Int, 0 ≤ p → p < (path.length : Int) → 0 ≤ rd path p ∧ rd path p < 2 * (E.length : Int) ∧ AD E A L (rd path p) ∧ rd L (tl E (rd path p)) = p + 1) (pr : PR E A A' path m path.length) : UP E A' L := by
  intro j j0 j1 hj ht;rcases push_keeps m0 hp pr j0 j1 hj with h' | ⟨q, q0, q1, e⟩
  · exact h j j0 j1 h' ht
  · obtain ⟨_, _, h1, h2⟩ := hp q q0 q1;rw [← e, tl_rv] at h2;have h3 := h1.2;rw [← e, hd_rv, tl_rv] at h3;omega
theorem ac_push (m0 : 0 ≤ m) (hp : ∀ p : Int, 0 ≤ p → p < (path.length : Int) → 0 ≤ rd path p ∧ rd path p < 2 * (E.length : Int) ∧ AD E A L (rd path p) ∧ rd L (tl E (rd path p)) = p + 1) (pp : PP E A path) (pr : PR E A A' path m path.length) {q : Int} (q0 : 0 ≤ q) (q1 : q < (path.length : Int)) (hm : m = rm A (rd path q)) : ac E A' L + 1 ≤ ac E A L := by
  classical
  obtain ⟨j0, j1, j2, _⟩ := hp q q0 q1;have sub : ∀ j : Int, 0 ≤ j → j < 2 * (E.length : Int) → AD E A' L j → AD E A L j := fun j a b h => by
    refine ⟨?_, h.2⟩;rcases push_keeps m0 hp pr a b h.1 with h' | ⟨q', a', b', e⟩
    · exact h'
    · have h3 := (hp q' a' b').2.2.1.2;rw [← e, hd_rv, tl_rv] at h3;have := h.2;omega
  have gone : ¬ AD E A' L (rd path q) := fun h => by
    have h1 := (pr (rd path q) j0 j1 (fun q' a b => pp.r q q' q0 q1 a b)).1 ⟨q, q0, q1, rfl⟩;have h2 := h.1;unfold psR at h2;omega
  refine Sm.less (e := (rd path q).toNat) (fun j hj => ?_) (by omega) ?_
  · by_cases h : AD E A' L (j : Int)
    · rw [if_pos h, if_pos (sub _ (by omega) (by omega) h)]; exact Int.le_refl _
    · rw [if_neg h]; split <;> decide
  · rw [show (((rd path q).toNat : Nat) : Int) = rd path q by omega, if_neg gone, if_pos j2]; decide
/-- Behind a phase t is farther away. -/
theorem farther (g : EG n E) (gt : TG n E T) (s0 : 0 ≤ s) (s1 : s < n) (t0 : 0 ≤ t) (t1 : t < n) (hs : rd L s = 1) (up : UP E A L) (hD : DI n E A T L t N) (hdead : Dead T t N s) (bi : BI n E s (psR A) (fun _ => True) L' []) (ht : 0 < rd L' t) : rd L t < rd L' t := by
  have le : ∀ (z : Nat) (v : Int), 0 ≤ v → v < n → rd L' v = (z : Int) + 1 → 0 < rd L v ∧ rd L v ≤ rd L' v := by
    intro z
    induction z with
    | zero => intro v a b e; rw [bi.o v a b (by omega), hs, bi.s1]; decide
    | succ z ih =>
      intro v a b e;by_cases hv : v = s
      · rw [hv, hs, bi.s1]; decide
      obtain ⟨j, j0, j1, p, hj, h0, hl⟩ := bi.d v a b (by omega) hv;obtain ⟨_, _, u0, u1, _⟩ := g.arc j0 j1;have h1 := ih (tl E j) u0 u1 (by omega);have h2 := up j j0 j1 p h1.1;rw [hj] at h2;omega
  have alive : ∀ (z : Nat) (v : Int), 0 ≤ v → v < n → rd L' v = (z : Int) + 1 → rd L v = rd L' v → ¬ Dead T t N v → ¬ Dead T t N s := by
    intro z
    induction z with
    | zero => intro v a b e _ h; rw [← bi.o v a b (by omega)]; exact h
    | succ z ih =>
      intro v a b e e2 h;by_cases hv : v = s
      · rw [← hv]; exact h
      obtain ⟨j, j0, j1, p, hj, h0, hl⟩ := bi.d v a b (by omega) hv;obtain ⟨_, _, u0, u1, _⟩ := g.arc j0 j1;have h1 := le z (tl E j) u0 u1 (by omega);have h2 := up j j0 j1 p h1.1;rw [hj] at h2;refine ih (tl E j) u0 u1 (by omega) (by omega) (fun hdu => ?_);obtain ⟨p', p0, p1, hp'⟩ := mem_rd ((gt.i (tl E j) j u0 u1).2 ⟨j0, j1, rfl⟩);rcases hD (tl E j) p' u0 u1 p0 (by rw [hdu.2]; exact p1) with h' | h'
      · exact h' (by rw [hp']; exact ⟨p, by rw [hj]; omega⟩)
      · rw [hp', hj] at h'; exact h h'
  have h1 := le (rd L' t - 1).toNat t t0 t1 (by omega);refine Classical.byContradiction fun hn => ?_;exact alive (rd L' t - 1).toNat t t0 t1 (by omega) (by omega) (fun h => h.1 rfl) hdead
/-- What a phase may take at most. -/
def kk (n : Int) (E : List Ed) : Int := 2 * n + (n * (2 * (E.length : Int)) + 1 + 2 * (E.length : Int)) * (n + 2)
def MS (n s t : Int) (E : List Ed) (y : Int) (B : Int) (r : Int × Int × List S78 × Bool × List Int × List Int × Int) : Prop := (r.2.1 = 0 ∧ r.2.2.2.1 = true ∧ AG E r.2.2.1 ∧ (∀ X, Ph E r.2.2.1 X = r.1 * (X s - X t)) ∧ IsMax E s t r.1 ∧ BI n E s (psR r.2.2.1) (fun _ => True) r.2.2.2.2.1 [] ∧ rd r.2.2.2.2.1 t = 0) ∧ ∃ z : Nat, r.2.2.2.2.2.2 = it z y ∧ (z : Int) ≤ B
theorem MS.more {n s t : Int} {E : List Ed} {y y' B B' : Int} {r} {z : Nat} (h : MS n s t E y' B r) (hy : y' = it z y) (hB : (z : Int) + B ≤ B') : MS n s t E y B' r := by
  obtain ⟨h, z', e, hz⟩ := h;exact ⟨h, z + z', by rw [e, hy, it_add], by omega⟩
theorem wt_zero (gt : TG n E T) (hz : ∀ v, rd N v = 0) (n0 : 0 ≤ n) : wt n T N ≤ n * (2 * (E.length : Int)) := by
  have h := Sm.mono (f := fun v => ((rd_L4 T ((v : Nat) : Int)).length : Int) - rd N ((v : Nat) : Int)) (g := fun _ => 2 * (E.length : Int)) (n := n.toNat) (fun v _ => by
    have := gt.c v;rw [hz]; omega)
  have : ∀ (z : Nat) (c : Int), Sm (fun _ => c) z = z * c := by
    intro z c
    induction z with
    | zero => simp [Sm]
    | succ z ih => rw [Sm, ih]; rw [show (((z + 1 : Nat) : Int)) = (z : Int) + 1 by omega, Int.add_mul, Int.one_mul]
  rw [this, show ((n.toNat : Nat) : Int) = n by omega] at h;exact h
variable {c : List Int} {a3 : Int}
theorem max_walk2 (g : EG n E) (gt : TG n E T) (s0 : 0 ≤ s) (s1 : s < n) (t0 : 0 ≤ t) (t1 : t < n) (hst : s ≠ t) (hE : ¬ Endl E s t) {b : Bool} : ∀ Z : Nat,
    ∀ (A : List S78) (L N : List Int) (y tot ell : Int), AG E A → (∀ X, Ph E A X = tot * (X s - X t)) → 0 ≤ tot → (∀ L', BI n E s (psR A) (fun _ => True) L' [] → 0 < rd L' t → ell < rd L' t) → n - ell ≤ Z → 0 ≤ ell → Ev (fun k => maxflow_Net_Max.l1 k a3 s t c T b tot A L N y) (MS n s t E y (Z * kk n E + 2 * n)) := by
  obtain ⟨C0, hC0⟩ := cut_of hE g;have bound : ∀ (A : List S78) (tot : Int), AG E A → (∀ X, Ph E A X = tot * (X s - X t)) → tot ≤ fs E := fun A tot ga hk => Int.le_trans ((ga.fl hk).le hC0) (CutV.fs g hC0.2.2);have hfs := g.s;have hI : Inf = 4611686018427387904 := rfl;have hn1 := g.n1;have hn2 := g.n2;intro Z
  induction Z with
  | zero =>
    intro A L N y tot ell ga hk h0 hl hZ hell;have hTl := gt.l;refine Ev.sub 1 ?_;simp only [maxflow_Net_Max.l1];refine (R_reach g ga gt s0 s1 y).bind ?_;rintro ⟨L', y'⟩ ⟨bi, z, hz, hy⟩;dsimp only at bi hy ⊢;have hLl := bi.l;have htb := bi.lv.b t t0 t1;have ht : rd L' t = 0 := by
      refine Classical.byContradiction fun hne => ?_;have := hl L' bi (by omega);omega
    simp only [if_pos t0, if_pos (show t < (L'.length : Int) by omega), if_pos ht];have hcut := ga.cut g hk (C := fun x => decide (0 < rd L' x)) (by rw [bi.s1]; rfl) (by rw [ht]; rfl) (fun j j0 j1 hp hc => decide_eq_true (bi.c j j0 j1 hp (of_decide_eq_true hc) (by simp) trivial).1);have := bound A tot ga hk;exact Ev.ret ⟨⟨rfl, rfl, ga, hk, ⟨⟨_, ga.fl hk⟩, _, hcut.2 (by omega), hcut.1⟩, bi, ht⟩, z, hy, by omega⟩
  | succ Z ih =>
    -- a phase: as long as there are paths
    have step : ∀ (c' : Nat) (A : List S78) (path L N : List Int) (y tot : Int), AG E A → (∀ X, Ph E A X = tot * (X s - X t)) → LV n s L → NX n T N → DI n E A T L t N → UP E A L → (path = [] → Dead T t N s) → (path ≠ [] → Pth E A T L s t N path t) → 0 ≤ tot → n - rd L t ≤ Z → 0 ≤ rd L t → ac E A L ≤ c' → Ev (fun k => maxflow_Net_Max.l0 k a3 s t c T b L tot path A N y) (MS n s t E y (wt n T N * (n + 2) + c' * (n + 2) + (Z * kk n E + 2 * n))) := by
      intro c'
      induction c' with
      | zero =>
        intro A path L N y tot ga hk lv hN hD hU hd hP h0 hZ hell hc;have hwt : 0 ≤ wt n T N * (n + 2) := Int.mul_nonneg hN.wt (by omega);by_cases hne : path = []
        · subst hne;refine Ev.sub 1 ?_;simp only [maxflow_Net_Max.l0, if_neg (show ¬ 0 < ((([] : List Int).length : Nat) : Int) by decide)];exact (ih A L N y tot (rd L t) ga hk h0 (fun L' bi ht => farther g gt s0 s1 t0 t1 lv.s1 hU hD (hd rfl) bi ht) hZ hell).mono (fun r h => h.more (z := 0) rfl (by simp only [Int.natCast_zero, Int.zero_mul]; omega))
        · exfalso;have hP' := hP hne;have hlen : 0 < (path.length : Int) := by
            cases path with
            | nil => exact absurd rfl hne
            | cons => simp only [List.length_cons]; omega
          obtain ⟨j0, j1, j2, _⟩ := hP'.at lv.s1 0 (Int.le_refl 0) hlen
          classical
          have := Sm.one (f := fun j => if AD E A L ((j : Nat) : Int) then (1 : Int) else 0) (n := 2 * E.length) (e := (rd path 0).toNat) (fun i _ => by split <;> decide) (by omega);rw [show (((rd path 0).toNat : Nat) : Int) = rd path 0 by omega, if_pos j2] at this;have h2 : ac E A L = Sm (fun j => if AD E A L ((j : Nat) : Int) then (1 : Int) else 0) (2 * E.length) := by unfold ac; congr
          omega
      | succ c' ihc =>
        intro A path L N y tot ga hk lv hN hD hU hd hP h0 hZ hell hc;have hwt : 0 ≤ wt n T N * (n + 2) := Int.mul_nonneg hN.wt (by omega);have hcc : ((c' + 1 : Nat) : Int) * (n + 2) = c' * (n + 2) + (n + 2) := by rw [show ((c' + 1 : Nat) : Int) = (c' : Int) + 1 by omega, Int.add_mul, Int.one_mul]
        have hcn : 0 ≤ (c' : Int) * (n + 2) := Int.mul_nonneg (by omega) (by omega);by_cases hne : path = []
        · subst hne;refine Ev.sub 1 ?_;simp only [maxflow_Net_Max.l0, if_neg (show ¬ 0 < ((([] : List Int).length : Nat) : Int) by decide)];exact (ih A L N y tot (rd L t) ga hk h0 (fun L' bi ht => farther g gt s0 s1 t0 t1 lv.s1 hU hD (hd rfl) bi ht) hZ hell).mono (fun r h => h.more (z := 0) rfl (by rw [hcc]; omega))
        have hP' := hP hne;have hlen : 0 < (path.length : Int) := by
          cases path with
          | nil => exact absurd rfl hne
          | cons => simp only [List.length_cons]; omega
        refine Ev.sub 1 ?_;simp only [maxflow_Net_Max.l0, if_pos hlen];have pp := hP'.pp g lv s0 s1;have hat := hP'.at lv.s1;refine (push_ev g ga pp).bind ?_;rintro ⟨m, A'⟩ ⟨m0, m1, ga', pr, ph, hmq⟩;dsimp only at m0 m1 ga' pr ph hmq;have hk' : ∀ X, Ph E A' X = (tot + m) * (X s - X t) := fun X => by rw [ph X, hk X, hP'.tele X, Int.add_mul]
        have hD' := hD.push g gt hN (by omega) (fun p a b => (hat p a b).2.2.1) pr;have hU' := hU.push (by omega) hat pr;have hb' := bound A' (tot + m) ga' hk';have hac : ac E A' L + 1 ≤ ac E A L := by
          rcases hmq with h | ⟨q, q0, q1, h⟩
          · omega
          · exact ac_push (by omega) hat pp pr q0 q1 h
        refine (path_ev g ga' gt lv s0 s1 hst hN hD').bind ?_;rintro ⟨path', N', y'⟩ ⟨hN', hD'', hd', hp', z, hy, hz⟩;dsimp only at hN' hD'' hd' hp' hy hz ⊢;rw [wr (x := tot + m) (by omega) (by omega)];exact (ihc A' path' L N' y' (tot + m) ga' hk' lv hN' hD'' hU' hd' hp' (by omega) hZ hell (by omega)).mono (fun r h => h.more hy (by rw [hcc]; omega))
    intro A L N y tot ell ga hk h0 hl hZ hell;have hTl := gt.l;refine Ev.sub 1 ?_;simp only [maxflow_Net_Max.l1];refine (R_reach g ga gt s0 s1 y).bind ?_;rintro ⟨L', y'⟩ ⟨bi, z, hz, hy⟩;dsimp only at bi hy ⊢;have hLl := bi.l;have lv := bi.lv;have htb := lv.b t t0 t1;have hkn : 0 ≤ n * (2 * (E.length : Int)) := Int.mul_nonneg (by omega) (by omega);have hk0 : 0 ≤ (n * (2 * (E.length : Int)) + 1 + 2 * (E.length : Int)) * (n + 2) := Int.mul_nonneg (by omega) (by omega);have hk1 : kk n E = 2 * n + (n * (2 * (E.length : Int)) + 1 + 2 * (E.length : Int)) * (n + 2) := rfl;have hZk : ((Z + 1 : Nat) : Int) * kk n E = Z * kk n E + kk n E := by rw [show ((Z + 1 : Nat) : Int) = (Z : Int) + 1 by omega, Int.add_mul, Int.one_mul]
    have hZ0 : 0 ≤ (Z : Int) * kk n E := Int.mul_nonneg (by omega) (by omega);simp only [if_pos t0, if_pos (show t < (L'.length : Int) by omega), if_pos (show 0 ≤ (T.length : Int) by omega), if_pos (show ((T.length : Int)).toNat * 8 ≤ 281474976710656 by omega), Option.bind_some];by_cases ht : rd L' t = 0
    · simp only [if_pos ht];have hcut := ga.cut g hk (C := fun x => decide (0 < rd L' x)) (by rw [bi.s1]; rfl) (by rw [ht]; rfl) (fun j j0 j1 hp hc => decide_eq_true (bi.c j j0 j1 hp (of_decide_eq_true hc) (by simp) trivial).1);have := bound A tot ga hk;exact Ev.ret ⟨⟨rfl, rfl, ga, hk, ⟨⟨_, ga.fl hk⟩, _, hcut.2 (by omega), hcut.1⟩, bi, ht⟩, z, hy, by omega⟩
    · simp only [if_neg ht];have hlt := hl L' bi (by omega);have hz0 : ∀ v, rd (List.replicate ((T.length : Int)).toNat (0 : Int)) v = 0 := by
        intro v;unfold rd;rw [List.getD_eq_getElem?_getD, List.getElem?_replicate];split <;> rfl
      have hN : NX n T (List.replicate ((T.length : Int)).toNat (0 : Int)) := ⟨by rw [List.length_replicate]; omega, fun v a b => by rw [hz0]; omega⟩;have hD : DI n E A T L' t (List.replicate ((T.length : Int)).toNat (0 : Int)) := fun v p a b p0 p1 => by rw [hz0] at p1; omega
      have hU : UP E A L' := fun j j0 j1 hp hc => bi.c j j0 j1 hp hc (by simp) trivial;have hw := wt_zero gt hz0 (by omega);have hw2 : wt n T (List.replicate ((T.length : Int)).toNat (0 : Int)) * (n + 2) ≤ n * (2 * (E.length : Int)) * (n + 2) := Int.mul_le_mul_of_nonneg_right hw (by omega);refine (path_ev g ga gt lv s0 s1 hst hN hD).bind ?_;rintro ⟨path', N', y''⟩ ⟨hN', hD', hdead, hp', z', hy', hz'⟩;dsimp only at hN' hD' hdead hp' hy' hz' ⊢;refine (step (2 * E.length) A path' L' N' y'' tot ga hk lv hN' hD' hU hdead hp' h0 (by omega) (by omega) (by have := ac_le (E := E) (A := A) (L := L'); omega)).mono (fun r h => h.more (z := z + z') (by rw [hy', hy, it_add]) ?_);rw [hZk, hk1, Int.add_mul, Int.add_mul, Int.one_mul];rw [show (((2 * E.length : Nat) : Int)) = 2 * (E.length : Int) by omega];omega
end
end Go.Proofs.Ytdkbmchbkkhpoaa.Flow
