/- The greatest flow. -/
import Derived.Test.YtdkbmchbkkhpoaaFlE
set_option linter.unusedVariables false
set_option linter.unusedSimpArgs false
namespace Go.Proofs.Ytdkbmchbkkhpoaa.Flow
open Go.RowKit Go.Proofs.Ytdkbmchbkkhpoaa.PMfr Go.Proofs.YtdkbmchbkkhpoaaW.PrintWords Go.Proofs.YtdkbmchbkkhpoaaW.PrintLast Go.Proofs.YtdkbmchbkkhpoaaW.PrintMore
section
variable {n s t : Int} {E : List Ed} {T : List (List Int)} {c : List Int} {a3 : Int}
theorem BI.lv {ps x : Int → Prop} {L q : List Int} (h : BI n E s ps x L q) : LV n s L := ⟨h.l, fun v a b => by
  have := h.b v a b;have := cnt_le L;have := h.l;omega, h.s1⟩
theorem DI.push {A A' : List S78} {L N path : List Int} {m : Int} (g : EG n E) (gt : TG n E T) (hN : NX n T N) (h : DI n E A T L t N) (m0 : 0 ≤ m) (hp : ∀ p : Int, 0 ≤ p → p < (path.length : Int) → AD E A L (rd path p)) (pr : PR E A A' path m path.length) : DI n E A' T L t N := by
  intro v p a b p0 p1;refine (h v p a b p0 p1).imp (fun hn had => hn ⟨?_, had.2⟩) id;have hb := (hN.b v a b).2;obtain ⟨j0, j1, j2⟩ := (gt.i v _ a b).1 (rd_mem p0 (by omega));obtain ⟨j, hj⟩ : ∃ j, rd (rd_L4 T v) p = j := ⟨_, rfl⟩;rw [hj] at had j0 j1 j2 ⊢;have hr : ∀ q : Int, 0 ≤ q → q < (path.length : Int) → rv j ≠ rd path q := fun q q0 q1 e => by
    have h1 := (hp q q0 q1).2;rw [← e, hd_rv, tl_rv] at h1;have := had.2;omega
  obtain ⟨x, y⟩ := pr j j0 j1 hr;have h0 := had.1;unfold psR at h0 ⊢;by_cases hq : ∃ q : Int, 0 ≤ q ∧ q < (path.length : Int) ∧ rd path q = j
  · have := x hq; omega
  · have := y (fun q q0 q1 e => hq ⟨q, q0, q1, e⟩); omega
def MQ (n s t : Int) (E : List Ed) (c : List Int) (T : List (List Int)) (r : Int × Int × List S78 × Bool × List Int × List Int × Int) : Prop :=
  r.2.1 = 0 ∧ r.2.2.2.1 = true ∧ AG E r.2.2.1 ∧ (∀ X, Ph E r.2.2.1 X = r.1 * (X s - X t)) ∧ IsMax E s t r.1 ∧ BI n E s (psR r.2.2.1) (fun _ => True) r.2.2.2.2.1 [] ∧ rd r.2.2.2.2.1 t = 0
theorem max_walk (g : EG n E) (gt : TG n E T) (s0 : 0 ≤ s) (s1 : s < n) (t0 : 0 ≤ t) (t1 : t < n) (hst : s ≠ t) (hE : ¬ Endl E s t) {b : Bool} : ∀ M : Nat,
    (∀ (A : List S78) (path L N : List Int) (y tot : Int), AG E A → (∀ X, Ph E A X = tot * (X s - X t)) → LV n s L → NX n T N → DI n E A T L t N → (path ≠ [] → Pth E A T L s t N path t) → 0 ≤ tot → fs E - tot < M → Ev (fun k => maxflow_Net_Max.l0 k a3 s t c T b L tot path A N y) (MQ n s t E c T)) ∧
    (∀ (A : List S78) (L N : List Int) (y tot : Int), AG E A → (∀ X, Ph E A X = tot * (X s - X t)) → 0 ≤ tot → fs E - tot < M → Ev (fun k => maxflow_Net_Max.l1 k a3 s t c T b tot A L N y) (MQ n s t E c T)) := by
  obtain ⟨C0, hC0⟩ := cut_of hE g;have bound : ∀ (A : List S78) (tot : Int), AG E A → (∀ X, Ph E A X = tot * (X s - X t)) → tot ≤ fs E := fun A tot ga hk => Int.le_trans ((ga.fl hk).le hC0) (CutV.fs g hC0.2.2);have hfs := g.s;have hI : Inf = 4611686018427387904 := rfl;intro M
  induction M with
  | zero =>
    refine ⟨fun A path L N y tot ga hk _ _ _ _ _ h => ?_, fun A L N y tot ga hk _ h => ?_⟩ <;>
    · have := bound A tot ga hk;omega
  | succ M ih =>
    have step : ∀ (A : List S78) (path L N : List Int) (y tot : Int), AG E A → (∀ X, Ph E A X = tot * (X s - X t)) → LV n s L → NX n T N → DI n E A T L t N → path ≠ [] → Pth E A T L s t N path t → 0 ≤ tot → fs E - tot < (M + 1 : Nat) → Ev (fun k => maxflow_Net_Max.l0 k a3 s t c T b L tot path A N y) (MQ n s t E c T) := by
      intro A path L N y tot ga hk lv hN hD hne hP h0 hM;have hlen : 0 < (path.length : Int) := by
        cases path with
        | nil => exact absurd rfl hne
        | cons => simp only [List.length_cons]; omega
      refine Ev.sub 1 ?_;simp only [maxflow_Net_Max.l0, if_pos hlen];refine (push_ev g ga (hP.pp g lv s0 s1)).bind ?_;rintro ⟨m, A'⟩ ⟨m0, m1, ga', pr, ph, _⟩;dsimp only at m0 m1 ga' pr ph;have hk' : ∀ X, Ph E A' X = (tot + m) * (X s - X t) := fun X => by rw [ph X, hk X, hP.tele X, Int.add_mul]
      have hD' := hD.push g gt hN (by omega) (fun p a b => (hP.at lv.s1 p a b).2.2.1) pr;have hb' := bound A' (tot + m) ga' hk';refine (path_ev g ga' gt lv s0 s1 hst hN hD').bind ?_;rintro ⟨path', N', y'⟩ ⟨hN', hD'', _, hp', _⟩;dsimp only at hN' hD'' hp' ⊢;rw [wr (x := tot + m) (by omega) (by omega)];exact ih.1 A' path' L N' y' (tot + m) ga' hk' lv hN' hD'' hp' (by omega) (by omega)
    have phase : ∀ (A : List S78) (L N : List Int) (y tot : Int), AG E A → (∀ X, Ph E A X = tot * (X s - X t)) → 0 ≤ tot → fs E - tot < (M + 1 : Nat) → Ev (fun k => maxflow_Net_Max.l1 k a3 s t c T b tot A L N y) (MQ n s t E c T) := by
      intro A L N y tot ga hk h0 hM;have hTl := gt.l;have hn2 := g.n2;refine Ev.sub 1 ?_;simp only [maxflow_Net_Max.l1];refine (R_reach g ga gt s0 s1 y).bind ?_;rintro ⟨L', y'⟩ ⟨bi, _⟩;dsimp only at bi ⊢;have hLl := bi.l;simp only [if_pos t0, if_pos (show t < (L'.length : Int) by omega), if_pos (show 0 ≤ (T.length : Int) by omega), if_pos (show ((T.length : Int)).toNat * 8 ≤ 281474976710656 by omega), Option.bind_some];by_cases ht : rd L' t = 0
      · simp only [if_pos ht];have hcut := ga.cut g hk (C := fun x => decide (0 < rd L' x)) (by rw [bi.s1]; rfl) (by rw [ht]; rfl) (fun j j0 j1 hp hc => decide_eq_true (bi.c j j0 j1 hp (of_decide_eq_true hc) (by simp) trivial).1);have := bound A tot ga hk;exact Ev.ret ⟨rfl, rfl, ga, hk, ⟨⟨_, ga.fl hk⟩, _, hcut.2 (by omega), hcut.1⟩, bi, ht⟩
      · simp only [if_neg ht];have lv := bi.lv;have hz : ∀ v, rd (List.replicate ((T.length : Int)).toNat (0 : Int)) v = 0 := by
          intro v;unfold rd;rw [List.getD_eq_getElem?_getD, List.getElem?_replicate];split <;> rfl
        have hN : NX n T (List.replicate ((T.length : Int)).toNat (0 : Int)) := ⟨by rw [List.length_replicate]; omega, fun v a b => by rw [hz]; omega⟩;have hD : DI n E A T L' t (List.replicate ((T.length : Int)).toNat (0 : Int)) := fun v p a b p0 p1 => by rw [hz] at p1; omega
        refine (path_ev g ga gt lv s0 s1 hst hN hD).bind ?_;rintro ⟨path', N', y''⟩ ⟨hN', hD', hdead, hp', _⟩;dsimp only at hN' hD' hdead hp' ⊢;have htb := bi.b t t0 t1;have hne : path' ≠ [] := fun e => not_dead g gt s0 s1 hD' hN' bi.o bi.d (rd L' t - 1).toNat t t0 t1 (by omega) (fun hd => hd.1 rfl) (hdead e);exact step A path' L' N' y'' tot ga hk lv hN' hD' hne (hp' hne) h0 hM
    refine ⟨fun A path L N y tot ga hk lv hN hD hp h0 hM => ?_, phase⟩;by_cases hne : path = []
    · subst hne;refine Ev.sub 1 ?_;simp only [maxflow_Net_Max.l0, if_neg (show ¬ 0 < ((([] : List Int).length : Nat) : Int) by decide)];exact phase A L N y tot ga hk h0 hM
    · exact step A path L N y tot ga hk lv hN hD hne (hp hne) h0 hM
end
end Go.Proofs.Ytdkbmchbkkhpoaa.Flow
