/- What flows along a path. -/
import Derived.Test.YtdkbmchbkkhpoaaFlC
set_option linter.unusedVariables false
set_option linter.unusedSimpArgs false
namespace Go.Proofs.Ytdkbmchbkkhpoaa.Flow
open Go.RowKit Go.Proofs.Ytdkbmchbkkhpoaa.PMfr Go.Proofs.YtdkbmchbkkhpoaaW.PrintWords Go.Proofs.YtdkbmchbkkhpoaaW.PrintLast Go.Proofs.YtdkbmchbkkhpoaaW.PrintMore
/-- A flow's weight by a potential. -/
def Ph (E : List Ed) (A : List S78) (X : Int → Int) : Int := Sm (fun e => rm A (2 * (e : Int) + 1) * (X (ea E e) - X (eb E e))) E.length
def drop1 (E : List Ed) (X : Int → Int) (path : List Int) (q : Nat) : Int := X (tl E (rd path q)) - X (hd E (rd path q))
section
variable {n s t : Int} {E : List Ed} {A : List S78} {T : List (List Int)} {L N out c : List Int} {i a3 y : Int} {a4 : Bool}
theorem rd_app (out : List Int) (j : Int) {p : Int} (h0 : 0 ≤ p) : rd (out ++ [j]) p = if p < (out.length : Int) then rd out p else if p = out.length then j else 0 := by
  unfold rd;rw [List.getD_eq_getElem?_getD, List.getD_eq_getElem?_getD];by_cases h : p < (out.length : Int)
  · rw [if_pos h, List.getElem?_append_left (by omega)]
  · rw [if_neg h, List.getElem?_append_right (by omega)];by_cases e : p = out.length
    · rw [if_pos e, show p.toNat - out.length = 0 by omega]; rfl
    · rw [if_neg e, List.getElem?_eq_none (by simp; omega)]; rfl
/-- What holds at each place of a path. -/
theorem Pth.at (hs : rd L s = 1) (h : Pth E A T L s t N out i) : ∀ p : Int, 0 ≤ p → p < (out.length : Int) → 0 ≤ rd out p ∧ rd out p < 2 * (E.length : Int) ∧ AD E A L (rd out p) ∧ rd L (tl E (rd out p)) = p + 1 := by
  induction h with
  | nil => intro p h0 h1; simp at h1; omega
  | snoc out j hp h0 h1 had hr hl ht ih =>
    intro p p0 p1;have hll := hp.lvl hs;rw [rd_app out j p0];simp only [List.length_append, List.length_singleton] at p1;by_cases h : p < (out.length : Int)
    · rw [if_pos h]; exact ih p p0 h
    · rw [if_neg h, if_pos (by omega)];exact ⟨h0, h1, had, by omega⟩
theorem Pth.tele (h : Pth E A T L s t N out i) (X : Int → Int) : Sm (drop1 E X out) out.length = X s - X i := by
  induction h with
  | nil => exact (Int.sub_self _).symm
  | snoc out j hp h0 h1 had hr hl ht ih =>
    rw [List.length_append, List.length_singleton, Sm, Sm.congr (g := drop1 E X out), ih]
    · unfold drop1;rw [rd_app _ _ (by omega), if_neg (by omega), if_pos rfl]; omega
    · intro q hq;unfold drop1;rw [rd_app _ _ (by omega), if_pos (by omega)]
/-- A path that may be gone. -/
structure PP (E : List Ed) (A : List S78) (path : List Int) : Prop where
  l : path.length ≤ 100000
  v : ∀ p : Int, 0 ≤ p → p < (path.length : Int) → 0 ≤ rd path p ∧ rd path p < 2 * (E.length : Int) ∧ 0 < rm A (rd path p)
  d : ∀ p q : Int, 0 ≤ p → p < (path.length : Int) → 0 ≤ q → q < (path.length : Int) → rd path p = rd path q → p = q
  r : ∀ p q : Int, 0 ≤ p → p < (path.length : Int) → 0 ≤ q → q < (path.length : Int) → rv (rd path p) ≠ rd path q
theorem Pth.pp (g : EG n E) (lv : LV n s L) (s0 : 0 ≤ s) (s1 : s < n) (h : Pth E A T L s t N out i) : PP E A out := by
  have hl := h.lvl lv.s1;have hb := lv.b i (h.in g s0 s1).1 (h.in g s0 s1).2;have hn := g.n2;have ha := h.at lv.s1;refine ⟨by omega, fun p a b => ⟨(ha p a b).1, (ha p a b).2.1, (ha p a b).2.2.1.1⟩, fun p q a b c d e => ?_, fun p q a b c d e => ?_⟩
  · have h1 := (ha p a b).2.2.2;have h2 := (ha q c d).2.2.2;rw [e] at h1; omega
  · have h1 := (ha p a b).2.2.1.2;have h2 := (ha q c d).2.2.1.2;rw [← e, hd_rv, tl_rv] at h2; omega
variable {path : List Int}
def PR (E : List Ed) (A A' : List S78) (path : List Int) (m p : Int) : Prop :=
  ∀ u, 0 ≤ u → u < 2 * (E.length : Int) → (∀ q : Int, 0 ≤ q → q < (path.length : Int) → rv u ≠ rd path q) → ((∃ q : Int, 0 ≤ q ∧ q < p ∧ rd path q = u) → rm A' u = rm A u - m) ∧ ((∀ q : Int, 0 ≤ q → q < p → rd path q ≠ u) → rm A' u = rm A u)
theorem push_go (g : EG n E) {A0 : List S78} (hp : PP E A0 path) {m : Int} (m0 : 0 ≤ m) (hm : ∀ p : Int, 0 ≤ p → p < (path.length : Int) → m ≤ rm A0 (rd path p)) :
    ∀ (z : Nat) (A : List S78) (p : Int), 0 ≤ p → p + z = (path.length : Int) → AG E A → PR E A0 A path m p → (∀ X, Ph E A X = Ph E A0 X + m * Sm (drop1 E X path) p.toNat) →
    Ev (fun k => maxflow_Net_push.l0 k path m p A) (fun r => r.1 = m ∧ AG E r.2 ∧ PR E A0 r.2 path m path.length ∧ ∀ X, Ph E r.2 X = Ph E A0 X + m * Sm (drop1 E X path) path.length) := by
  intro z
  induction z with
  | zero =>
    intro A p p0 pz ga pr ph;refine Ev.sub 1 ?_;simp only [maxflow_Net_push.l0, if_neg (show ¬ p < (path.length : Int) by omega)];have e : p = path.length := by omega
    subst e;exact Ev.ret ⟨rfl, ga, pr, ph⟩
  | succ z ih =>
    intro A p p0 pz ga pr ph;have pl : p < (path.length : Int) := by omega
    obtain ⟨j, hj⟩ : ∃ j, rd path p = j := ⟨_, rfl⟩;obtain ⟨j0, j1, _⟩ := hp.v p p0 pl;have hmj := hm p p0 pl;rw [hj] at j0 j1 hmj;obtain ⟨r0, r1⟩ := rv_in j0 j1;have hnr : ∀ q : Int, 0 ≤ q → q < (path.length : Int) → rv j ≠ rd path q := fun q a b => hj ▸ hp.r p q p0 pl a b;have hrj : rm A j = rm A0 j := (pr j j0 j1 hnr).2 (fun q a b e => by have := hp.d q p a (by omega) p0 pl (e.trans hj.symm); omega);have hlA := ga.l;have hlE := g.m;have hlp := hp.l;obtain ⟨ra, rb⟩ := ga.r j j0 j1;obtain ⟨ra', rb'⟩ := ga.r (rv j) r0 r1;have hle := ga.le g j0 j1;have hle' := ga.le g r0 r1;have hI : Inf = 4611686018427387904 := rfl;rw [rv_rv, rv_half] at rb';have hcap := g.cap j0 j1;have rrv := rv_ne j;have w1 : wrap64 ((rd_T78 A j).f1 - m) = rm A j - m := wr (by show _ ≤ rm A j - m; omega) (by show rm A j - m ≤ _; omega);have e1 : rd_T78 (A.set j.toNat ⟨(rd_T78 A j).f0, rm A j - m⟩) (rv j) = rd_T78 A (rv j) := by rw [rdA_set _ j0 (by omega) r0, if_neg rrv]
    have w2 : wrap64 ((rd_T78 A (rv j)).f1 + m) = rm A (rv j) + m := wr (by show _ ≤ rm A (rv j) + m; omega) (by show rm A (rv j) + m ≤ _; omega);have wp : wrap64 (p + 1) = p + 1 := wr (by omega) (by omega);have hx : Go.bits .xor .i64 j 1 = rv j := xor1 j0 (by omega);refine Ev.sub 1 ?_;simp only [maxflow_Net_push.l0, if_pos pl, if_pos p0, hj, if_pos j0, if_pos (show j < (A.length : Int) by omega), Option.bind_some, hx, if_pos r0, w1, List.length_set, if_pos (show rv j < (A.length : Int) by omega), e1, w2, wp];obtain ⟨A2, hA2⟩ : ∃ A2, (A.set j.toNat ⟨(rd_T78 A j).f0, rm A j - m⟩).set (rv j).toNat ⟨(rd_T78 A (rv j)).f0, rm A (rv j) + m⟩ = A2 := ⟨_, rfl⟩;rw [hA2];have hl2 : A2.length = A.length := by rw [← hA2, List.length_set, List.length_set]
    have R : ∀ u, 0 ≤ u → rd_T78 A2 u = if u = rv j then ⟨(rd_T78 A (rv j)).f0, rm A (rv j) + m⟩ else if u = j then ⟨(rd_T78 A j).f0, rm A j - m⟩ else rd_T78 A u := fun u hu => by
      rw [← hA2, rdA_set _ r0 (by rw [List.length_set]; omega) hu, rdA_set _ j0 (by omega) hu]
    have Rm : ∀ u, 0 ≤ u → rm A2 u = if u = rv j then rm A (rv j) + m else if u = j then rm A j - m else rm A u := fun u hu => by
      unfold rm;rw [R u hu];split
      · rfl
      · split <;> rfl
    have ga2 : AG E A2 := ⟨by rw [hl2]; exact hlA, fun u u0 u1 => by
        rw [R u u0];split
        · rename_i e; rw [e]; exact ga.h _ r0 r1
        · split
          · rename_i e; rw [e]; exact ga.h _ j0 j1
          · exact ga.h u u0 u1, fun u u0 u1 => by
        obtain ⟨x, y⟩ := ga.r u u0 u1;have ru := rv_in u0 u1;rw [Rm u u0, Rm (rv u) ru.1];by_cases e : u = rv j
        · subst e;rw [if_pos rfl, rv_rv, if_neg (by omega), if_pos rfl];rw [rv_rv] at y;exact ⟨by omega, by omega⟩
        · rw [if_neg e];by_cases e' : u = j
          · subst e';rw [if_pos rfl, if_pos rfl];exact ⟨by omega, by omega⟩
          · rw [if_neg e', if_neg (fun h => e' (by rw [← rv_rv u, h, rv_rv])), if_neg (fun h => e (by rw [← rv_rv u, h]))];exact ⟨x, y⟩⟩
    refine ih A2 (p + 1) (by omega) (by omega) ga2 (fun u u0 u1 hu => ?_) (fun X => ?_)
    · have hne : u ≠ rv j := fun e => hu p p0 pl (by rw [e, rv_rv]; exact hj.symm);rw [Rm u u0, if_neg hne];obtain ⟨x, y⟩ := pr u u0 u1 hu;constructor
      · rintro ⟨q, q0, q1, e⟩;by_cases e' : u = j
        · rw [if_pos e', e', hrj]
        · rw [if_neg e'];exact x ⟨q, q0, by
            have : q ≠ p := fun e2 => e' (by rw [← e, e2]; exact hj);omega, e⟩
      · intro h;rw [if_neg (fun e => h p p0 (by omega) (by rw [e]; exact hj))];exact y (fun q a b => h q a (by omega))
    · have key : Ph E A2 X = Ph E A X + m * (X (tl E j) - X (hd E j)) := by
        unfold Ph;refine Sm.at (e := (j / 2).toNat) (by omega) (fun e he hne => ?_) ?_
        · rw [Rm _ (by omega), if_neg, if_neg]
          · intro h; omega
          · intro h; have := rv_half j; omega
        · by_cases hpar : j % 2 = 0
          · have e2 : 2 * (((j / 2).toNat : Nat) : Int) + 1 = rv j := by unfold rv; rw [if_pos hpar]; omega
            rw [e2, Rm _ r0, if_pos rfl];unfold hd tl;rw [if_pos hpar, if_pos hpar, Int.add_mul]
          · have e2 : 2 * (((j / 2).toNat : Nat) : Int) + 1 = j := by omega
            rw [e2, Rm _ j0, if_neg rrv.symm, if_pos rfl];unfold hd tl;rw [if_neg hpar, if_neg hpar, Int.sub_mul];rw [show X (eb E (j / 2).toNat) - X (ea E (j / 2).toNat) = -(X (ea E (j / 2).toNat) - X (eb E (j / 2).toNat)) by omega, Int.mul_neg];omega
      rw [key, ph X, show (p + 1).toNat = p.toNat + 1 by omega, Sm, Int.mul_add];have : drop1 E X path p.toNat = X (tl E j) - X (hd E j) := by
        unfold drop1;rw [show ((p.toNat : Nat) : Int) = p by omega, hj]
      rw [this];omega
theorem push_min (g : EG n E) (ga : AG E A) (hp : PP E A path) {Q : Int × List S78 → Prop}
    (H : ∀ m : Int, 1 ≤ m → m ≤ Inf → (∀ p : Int, 0 ≤ p → p < (path.length : Int) → m ≤ rm A (rd path p)) → (m = Inf ∨ ∃ q : Int, 0 ≤ q ∧ q < (path.length : Int) ∧ m = rm A (rd path q)) → Ev (fun k => maxflow_Net_push.l0 k path m 0 A) Q) :
    ∀ (z : Nat) (m p : Int), 0 ≤ p → p + z = (path.length : Int) → 1 ≤ m → m ≤ Inf → (∀ q : Int, 0 ≤ q → q < p → m ≤ rm A (rd path q)) → (m = Inf ∨ ∃ q : Int, 0 ≤ q ∧ q < p ∧ m = rm A (rd path q)) →
    Ev (fun k => maxflow_Net_push.l1 k A path m p) Q := by
  intro z
  induction z with
  | zero =>
    intro m p p0 pz m0 m1 hm he;refine Ev.sub 1 ?_;simp only [maxflow_Net_push.l1, if_neg (show ¬ p < (path.length : Int) by omega)];have e : p = path.length := by omega
    subst e;exact H m m0 m1 hm he
  | succ z ih =>
    intro m p p0 pz m0 m1 hm he;have pl : p < (path.length : Int) := by omega
    obtain ⟨j0, j1, j2⟩ := hp.v p p0 pl;have hlA := ga.l;have hlp := hp.l;have wp : wrap64 (p + 1) = p + 1 := wr (by omega) (by omega);refine Ev.sub 1 ?_;simp only [maxflow_Net_push.l1, if_pos pl, if_pos p0, if_pos j0, if_pos (show rd path p < (A.length : Int) by omega), wp];have hmn : mn m (rd_T78 A (rd path p)).f1 = if rm A (rd path p) < m then rm A (rd path p) else m := rfl
    rw [hmn];have hle := ga.le g j0 j1;refine ih _ (p + 1) (by omega) (by omega) (by split <;> omega) (by split <;> omega) (fun q q0 q1 => ?_) ?_
    · by_cases e : q = p
      · subst e; split <;> omega
      · have := hm q q0 (by omega);split <;> omega
    · split
      · exact .inr ⟨p, p0, by omega, rfl⟩
      · exact he.imp id (fun ⟨q, a, b, e⟩ => ⟨q, a, by omega, e⟩)
theorem push_ev (g : EG n E) (ga : AG E A) (hp : PP E A path) : Ev (fun k => maxflow_Net_push.f k A c T a3 a4 L N y path) (fun r => 1 ≤ r.1 ∧ r.1 ≤ Inf ∧ AG E r.2 ∧ PR E A r.2 path r.1 path.length ∧ (∀ X, Ph E r.2 X = Ph E A X + r.1 * Sm (drop1 E X path) path.length) ∧ (r.1 = Inf ∨ ∃ q : Int, 0 ≤ q ∧ q < (path.length : Int) ∧ r.1 = rm A (rd path q))) := by
  simp only [maxflow_Net_push.f];refine push_min g ga hp (fun m m0 m1 hm he => ?_) path.length Inf 0 (Int.le_refl 0) (by omega) (by decide) (Int.le_refl _) (fun q a b => by omega) (.inl rfl);refine (push_go g hp (by omega) hm path.length A 0 (Int.le_refl 0) (by omega) ga (fun u u0 u1 hu => ⟨fun ⟨q, a, b, _⟩ => by omega, fun _ => rfl⟩) (fun X => by simp [Sm])).mono ?_;rintro r ⟨rfl, b, d, e⟩;exact ⟨m0, m1, b, d, e, he⟩
end
end Go.Proofs.Ytdkbmchbkkhpoaa.Flow
