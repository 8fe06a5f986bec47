/- The greatest flow and its steps; the points that are reached. -/
import Derived.Test.YtdkbmchbkkhpoaaFlH
set_option linter.unusedVariables false
set_option linter.unusedSimpArgs false
namespace Go.Proofs.Ytdkbmchbkkhpoaa.Flow
open Go.RowKit Go.Proofs.Ytdkbmchbkkhpoaa.PMfr Go.Proofs.YtdkbmchbkkhpoaaW.PrintWords Go.Proofs.YtdkbmchbkkhpoaaW.PrintLast Go.Proofs.YtdkbmchbkkhpoaaW.PrintMore
section
variable {n s t : Int} {E : List Ed} {S : S74}
/-- What is told of a net and two of its points. -/
def MaxQ2 (n s t : Int) (E : List Ed) (y0 : Int) (r : Int × Int × Option S74) : Prop := ∃ S', r.2.2 = some S' ∧ NetI n E S' ∧
  (badP n s t → r.1 = 0 ∧ r.2.1 = 1 ∧ S'.f4 = false) ∧ (¬ badP n s t → Endl E s t → r.1 = 0 ∧ r.2.1 = 18 ∧ S'.f4 = false) ∧
  (¬ badP n s t → ¬ Endl E s t → r.2.1 = 0 ∧ S'.f4 = true ∧ IsMax E s t r.1 ∧ AG E S'.f0 ∧ (∀ X, Ph E S'.f0 X = r.1 * (X s - X t)) ∧ ∃ L, BI n E s (psR S'.f0) (fun _ => True) L [] ∧ rd L t = 0 ∧ ∃ z : Nat, 1 ≤ z ∧ (z : Int) ≤ n * kk n E + 4 * n + 1 ∧ S'.f7.f0 = it z y0)
theorem max_ev2 (hS : NetI n E S) (s t : Int) : Ev (fun k => Max.o k (some S) s t) (MaxQ2 n s t E S.f7.f0) := by
  have hl := hS.t.l;have hn1 := hS.g.n1;dsimp only [Max.o];simp only [maxflow_Net_Max.f, maxflow_Net_reset.f, hS.c];refine Ev.bind (Q := fun r => AS E r.2.2.1 ∧ (badP n s t → r.1 = 0 ∧ r.2.1 = 1 ∧ r.2.2.2.1 = false) ∧ (¬ badP n s t → Endl E s t → r.1 = 0 ∧ r.2.1 = 18 ∧ r.2.2.2.1 = false) ∧ (¬ badP n s t → ¬ Endl E s t → r.2.1 = 0 ∧ r.2.2.2.1 = true ∧ IsMax E s t r.1 ∧ AG E r.2.2.1 ∧ (∀ X, Ph E r.2.2.1 X = r.1 * (X s - X t)) ∧ ∃ L, BI n E s (psR r.2.2.1) (fun _ => True) L [] ∧ rd L t = 0 ∧ ∃ z : Nat, 1 ≤ z ∧ (z : Int) ≤ n * kk n E + 4 * n + 1 ∧ r.2.2.2.2.2.2 = it z S.f7.f0)) ?_ (fun r h => Ev.ret ⟨_, rfl, ⟨hS.g, h.1, rfl, hS.t, hS.s⟩, h.2⟩);refine (reset_go hS.g E.length S.f0 0 (Int.le_refl 0) (by omega) hS.a (fun e he => by omega)).bind ?_;rintro ⟨A, b⟩ ⟨hb, sA, fr⟩;dsimp only at hb sA fr ⊢;subst hb;obtain ⟨ga, ph0⟩ := fresh hS.g sA fr;simp only [in_ev hl, Option.bind_some];have bad : badP n s t → Ev (fun k => maxflow_Net_Max.j0 k S.f3 S.f7.f0 s t (E.map (·.c)) S.f2 S.f5 S.f6 A false true) (fun r => AS E r.2.2.1 ∧ (badP n s t → r.1 = 0 ∧ r.2.1 = 1 ∧ r.2.2.2.1 = false) ∧ (¬ badP n s t → Endl E s t → r.1 = 0 ∧ r.2.1 = 18 ∧ r.2.2.2.1 = false) ∧ (¬ badP n s t → ¬ Endl E s t → r.2.1 = 0 ∧ r.2.2.2.1 = true ∧ IsMax E s t r.1 ∧ AG E r.2.2.1 ∧ (∀ X, Ph E r.2.2.1 X = r.1 * (X s - X t)) ∧ ∃ L, BI n E s (psR r.2.2.1) (fun _ => True) L [] ∧ rd L t = 0 ∧ ∃ z : Nat, 1 ≤ z ∧ (z : Int) ≤ n * kk n E + 4 * n + 1 ∧ r.2.2.2.2.2.2 = it z S.f7.f0)) := by
    intro hb;refine Ev.sub 1 ?_;simp only [maxflow_Net_Max.j0, if_pos trivial];exact Ev.ret ⟨sA, fun _ => ⟨rfl, rfl, rfl⟩, fun h => absurd hb h, fun h => absurd hb h⟩
  rcases (Classical.em (0 ≤ s ∧ s < n)).symm with h1 | h1
  · simp only [decide_eq_false h1, if_neg (show ¬ false = true by decide)];exact bad (by unfold badP; omega)
  simp only [decide_eq_true h1, if_pos trivial];rcases (Classical.em (0 ≤ t ∧ t < n)).symm with h2 | h2
  · simp only [decide_eq_false h2, if_neg (show ¬ false = true by decide)];exact bad (by unfold badP; omega)
  simp only [decide_eq_true h2, if_pos trivial];by_cases h3 : s = t
  · simp only [decide_eq_true h3];exact bad (by unfold badP; omega)
  simp only [decide_eq_false h3];have nb : ¬ badP n s t := by unfold badP; omega
  refine Ev.sub 1 ?_;simp only [maxflow_Net_Max.j0, if_neg (show ¬ false = true by decide)];refine (M_reach1 hS.g ga hS.t h1.1 h1.2 S.f7.f0).bind ?_;rintro ⟨L, y⟩ ⟨bi, z0, z1, z2, hy⟩;dsimp only at bi hy ⊢;have hLl := bi.l;have endl : 0 < rd L t ↔ Endl E s t := by
    constructor
    · have : ∀ (z : Nat) (v : Int), 0 ≤ v → v < n → rd L v = (z : Int) + 1 → Endl E s v := by
        intro z
        induction z with
        | zero => intro v a b e; rw [bi.o v a b (by omega)]; exact .refl
        | succ z ih =>
          intro v a b e;by_cases hs : v = s
          · rw [hs]; exact .refl
          obtain ⟨j, j0, j1, p, hv, h0, hl'⟩ := bi.d v a b (by omega) hs;obtain ⟨_, _, u0, u1, _⟩ := hS.g.arc j0 j1;refine .step _ _ (ih (tl E j) u0 u1 (by omega)) ⟨(j / 2).toNat, by omega, ?_, ?_, ?_⟩
          · unfold tl; rw [if_pos p.1]
          · rw [← hv]; unfold hd; rw [if_pos p.1]
          · rw [← (fr (j / 2).toNat (by omega)).1, show 2 * (((j / 2).toNat : Nat) : Int) = j by have := p.1; omega]; exact p.2
      intro h;exact this (rd L t - 1).toNat t h2.1 h2.2 (by omega)
    · intro h;have : ∀ v, Rch (EInf E) s v → 0 < rd L v := by
        intro v hv
        induction hv with
        | refl => rw [bi.s1]; decide
        | step u v _ huv ih =>
          obtain ⟨e, he, ha, hb, hi⟩ := huv;have e1 : tl E (2 * (e : Int)) = u := by unfold tl; rw [if_pos (by omega), show (2 * (e : Int) / 2).toNat = e by omega]; exact ha
          have e2 : hd E (2 * (e : Int)) = v := by unfold hd; rw [if_pos (by omega), show (2 * (e : Int) / 2).toNat = e by omega]; exact hb
          rw [← e2];exact (bi.c (2 * (e : Int)) (by omega) (by omega) ⟨by omega, by rw [(fr e he).1]; exact hi⟩ (by rw [e1]; exact ih) (by simp) trivial).1
      exact this t h
  simp only [if_pos h2.1, if_pos (show t < (L.length : Int) by omega)];by_cases he : rd L t > 0
  · simp only [if_pos he];exact Ev.ret ⟨sA, fun h => absurd h nb, fun _ _ => ⟨rfl, rfl, rfl⟩, fun _ h => absurd (endl.1 he) h⟩
  · simp only [if_neg he];have hE : ¬ Endl E s t := fun h => he (endl.2 h);refine ((max_walk2 (c := E.map (·.c)) (a3 := S.f3) hS.g hS.t h1.1 h1.2 h2.1 h2.2 h3 hE (b := false) n.toNat) A S.f5 S.f6 y 0 0 ga (fun X => by rw [ph0, Int.zero_mul]) (Int.le_refl 0) (fun _ _ h => h) (by omega) (Int.le_refl 0)).mono ?_;rintro r ⟨⟨r1, r2, r3, r4, r5, r6, r7⟩, z, hz, hB⟩;rw [show ((n.toNat : Nat) : Int) = n by omega] at hB;exact ⟨⟨r3.l, r3.h⟩, fun h => absurd h nb, fun _ h => absurd h hE, fun _ _ => ⟨r1, r2, r5, r3, r4, _, r6, r7, z0 + z, by omega, by omega, by rw [hz, hy, it_add]⟩⟩
theorem it_val : ∀ (z : Nat) (x : Int), 0 ≤ x → x + z < 9223372036854775808 → it z x = x + z := by
  intro z
  induction z with
  | zero => intro x _ _; simp [it]
  | succ z ih =>
    intro x h0 h1;rw [it, wr (by omega) (by omega), ih (x + 1) (by omega) (by omega)]; omega
theorem side_go (L : List Int) (hl : L.length ≤ 1000000) (y : Int) : ∀ (z : Nat) (acc : List Bool) (p : Int), 0 ≤ p → p + z = (L.length : Int) → (acc.length : Int) = p → Ev (fun k => maxflow_Net_Side.l0 k L y acc p) (fun r => r.1 = acc ++ (L.drop p.toNat).map (fun x => decide (x > 0)) ∧ r.2 = y) := by
  intro z
  induction z with
  | zero =>
    intro acc p p0 pz ha;refine Ev.sub 1 ?_;simp only [maxflow_Net_Side.l0, if_neg (show ¬ p < (L.length : Int) by omega)];refine Ev.ret ⟨?_, rfl⟩;rw [List.drop_eq_nil_of_le (by omega), List.map_nil, List.append_nil]
  | succ z ih =>
    intro acc p p0 pz ha;have w : wrap64 (p + 1) = p + 1 := wr (by omega) (by omega);refine Ev.sub 1 ?_;simp only [maxflow_Net_Side.l0, if_pos (show p < (L.length : Int) by omega), if_pos p0, if_pos (show acc.length < 140737488355328 by omega), Option.bind_some, w];refine (ih (acc ++ [decide (rd L p > 0)]) (p + 1) (by omega) (by omega) (by rw [List.length_append, List.length_singleton]; omega)).mono ?_;rintro r ⟨h1, h2⟩;refine ⟨?_, h2⟩;rw [h1, List.append_assoc];congr 1;rw [List.drop_eq_getElem_cons (show p.toNat < L.length by omega), List.map_cons, show (p + 1).toNat = p.toNat + 1 by omega];unfold rd;rw [List.getD_eq_getElem?_getD, List.getElem?_eq_getElem (by omega)]; rfl
theorem side_ev (hS : NetI n E S) (ga : AG E S.f0) (h0 : 0 ≤ s) (h1 : s < n) : Ev (fun k => Side.o k (some S) s) (fun r => ∃ L, ∃ z : Nat, BI n E s (psR S.f0) (fun _ => True) L [] ∧ r.1 = L.map (fun x => decide (x > 0)) ∧ (z : Int) < 2 * n ∧ r.2 = some ⟨S.f0, S.f1, S.f2, S.f3, S.f4, S.f5, S.f6, ⟨it z S.f7.f0⟩⟩) := by
  have hn := hS.g.n2;dsimp only [Side.o];simp only [maxflow_Net_Side.f, in_ev hS.t.l, Option.bind_some, decide_eq_true (show 0 ≤ s ∧ s < n from ⟨h0, h1⟩), if_pos trivial];refine Ev.bind (Q := fun r => ∃ L, ∃ z : Nat, BI n E s (psR S.f0) (fun _ => True) L [] ∧ r.1 = L.map (fun x => decide (x > 0)) ∧ (z : Int) < 2 * n ∧ r.2 = it z S.f7.f0) ?_ (fun r ⟨L, z, a, b, c, d⟩ => Ev.ret ⟨L, z, a, b, c, by rw [d]⟩);refine (R_reach hS.g ga hS.t h0 h1 S.f7.f0).bind ?_;rintro ⟨L, y⟩ ⟨bi, z, hz, hy⟩;dsimp only at bi hy ⊢;have hl := bi.l;refine (side_go L (by omega) y L.length [] 0 (Int.le_refl 0) (by omega) rfl).mono ?_;rintro r ⟨h1, h2⟩;exact ⟨L, z, bi, by rw [h1]; rfl, by omega, by rw [h2, hy]⟩
theorem side_off (hS : NetI n E S) (k : Nat) : Side.o k (some S) (-1) = some ([], some S) := by
  dsimp only [Side.o];simp only [maxflow_Net_Side.f, in_ev hS.t.l, Option.bind_some, decide_eq_false (show ¬ (0 ≤ (-1 : Int) ∧ (-1 : Int) < n) by omega), if_neg (show ¬ false = true by decide)]
/-- Whoever is reached is in whatever is closed. -/
theorem reach_in {ps : Int → Prop} {L L2 : List Int} (g : EG n E) (bi : BI n E s ps (fun _ => True) L []) (bi2 : BI n E s ps (fun _ => True) L2 []) : ∀ (z : Nat) (v : Int), 0 ≤ v → v < n → rd L2 v = (z : Int) + 1 → 0 < rd L v := by
  intro z
  induction z with
  | zero => intro v a b e; rw [bi2.o v a b (by omega), bi.s1]; decide
  | succ z ih =>
    intro v a b e;by_cases hv : v = s
    · rw [hv, bi.s1]; decide
    obtain ⟨j, j0, j1, p, hj, h0, hl⟩ := bi2.d v a b (by omega) hv;obtain ⟨_, _, u0, u1, _⟩ := g.arc j0 j1;rw [← hj];exact (bi.c j j0 j1 p (ih (tl E j) u0 u1 (by omega)) (by simp) trivial).1
end
end Go.Proofs.Ytdkbmchbkkhpoaa.Flow
