/- The net's calls: what they answer. -/
import Derived.Test.YtdkbmchbkkhpoaaFlF
set_option linter.unusedVariables false
set_option linter.unusedSimpArgs false
namespace Go.Proofs.Ytdkbmchbkkhpoaa.Flow
open Go.RowKit Go.Proofs.Ytdkbmchbkkhpoaa.PMfr Go.Proofs.YtdkbmchbkkhpoaaW.PrintWords Go.Proofs.YtdkbmchbkkhpoaaW.PrintLast Go.Proofs.YtdkbmchbkkhpoaaW.PrintMore
structure AS (E : List Ed) (A : List S78) : Prop where
  l : (A.length : Int) = 2 * E.length
  h : ∀ j, 0 ≤ j → j < 2 * (E.length : Int) → (rd_T78 A j).f0 = hd E j
structure NetI (n : Int) (E : List Ed) (S : S74) : Prop where
  g : EG n E
  a : AS E S.f0
  c : S.f1 = E.map (·.c)
  t : TG n E S.f2
  s : S.f3 = fs E
section
variable {n s t : Int} {E : List Ed} {S : S74}
theorem caps (e : Int) (he : 0 ≤ e) : rd (E.map (·.c)) e = ec E e.toNat := by
  unfold rd ec;rw [List.getD_eq_getElem?_getD, List.getD_eq_getElem?_getD, List.getElem?_map]
  cases E[e.toNat]? <;> rfl
theorem reset_go (g : EG n E) : ∀ (z : Nat) (A : List S78) (p : Int), 0 ≤ p → p + z = (E.length : Int) → AS E A → (∀ e : Nat, (e : Int) < p → rm A (2 * (e : Int)) = ec E e ∧ rm A (2 * (e : Int) + 1) = 0) →
    Ev (fun k => maxflow_Net_reset.l0 k (E.map (·.c)) p A) (fun r => r.2 = false ∧ AS E r.1 ∧ ∀ e : Nat, e < E.length → rm r.1 (2 * (e : Int)) = ec E e ∧ rm r.1 (2 * (e : Int) + 1) = 0) := by
  intro z
  induction z with
  | zero =>
    intro A p p0 pz ga h;refine Ev.sub 1 ?_;simp only [maxflow_Net_reset.l0, List.length_map, if_neg (show ¬ p < (E.length : Int) by omega)];exact Ev.ret ⟨rfl, ga, fun e he => h e (by omega)⟩
  | succ z ih =>
    intro A p p0 pz ga h;have hl := ga.l;have hm := g.m;have w0 : wrap64 (2 * p) = 2 * p := wr (by omega) (by omega);have w1 : wrap64 (2 * p + 1) = 2 * p + 1 := wr (by omega) (by omega);have w2 : wrap64 (p + 1) = p + 1 := wr (by omega) (by omega);refine Ev.sub 1 ?_;simp only [maxflow_Net_reset.l0, List.length_map, if_pos (show p < (E.length : Int) by omega), if_pos p0, w0, w1, w2, if_pos (show 0 ≤ 2 * p by omega), if_pos (show 2 * p < (A.length : Int) by omega), Option.bind_some, if_pos (show 0 ≤ 2 * p + 1 by omega), List.length_set, if_pos (show 2 * p + 1 < (A.length : Int) by omega), caps p p0];obtain ⟨A2, hA2⟩ : ∃ A2, (A.set (2 * p).toNat ⟨(rd_T78 A (2 * p)).f0, ec E p.toNat⟩).set (2 * p + 1).toNat ⟨(rd_T78 (A.set (2 * p).toNat ⟨(rd_T78 A (2 * p)).f0, ec E p.toNat⟩) (2 * p + 1)).f0, 0⟩ = A2 := ⟨_, rfl⟩;rw [hA2];have hl2 : A2.length = A.length := by rw [← hA2, List.length_set, List.length_set]
    have R : ∀ u, 0 ≤ u → rd_T78 A2 u = if u = 2 * p + 1 then ⟨(rd_T78 A (2 * p + 1)).f0, 0⟩ else if u = 2 * p then ⟨(rd_T78 A (2 * p)).f0, ec E p.toNat⟩ else rd_T78 A u := fun u hu => by
      rw [← hA2, rdA_set _ (by omega) (by rw [List.length_set]; omega) hu, rdA_set _ (by omega) (by omega) hu, rdA_set _ (by omega) (by omega) (by omega), if_neg (show ¬ 2 * p + 1 = 2 * p by omega)]
    refine ih A2 (p + 1) (by omega) (by omega) ⟨by rw [hl2]; exact hl, fun j j0 j1 => ?_⟩ (fun e he => ?_)
    · rw [R j j0];split
      · rename_i e; rw [e]; exact ga.h _ (by omega) (by omega)
      · split
        · rename_i e; rw [e]; exact ga.h _ (by omega) (by omega)
        · exact ga.h j j0 j1
    · unfold rm;rw [R _ (by omega), R _ (by omega)];by_cases hp : (e : Int) = p
      · rw [if_neg (by omega), if_pos (by omega), if_pos (by omega), show p.toNat = e by omega];exact ⟨rfl, rfl⟩
      · rw [if_neg (by omega), if_neg (by omega), if_neg (by omega), if_neg (by omega)];exact h e (by omega)
theorem fresh (g : EG n E) {A : List S78} (ga : AS E A) (h : ∀ e : Nat, e < E.length → rm A (2 * (e : Int)) = ec E e ∧ rm A (2 * (e : Int) + 1) = 0) : AG E A ∧ ∀ X, Ph E A X = 0 := by
  refine ⟨⟨ga.l, ga.h, fun j j0 j1 => ?_⟩, fun X => Sm.zero (fun e he => by rw [(h e he).2, Int.zero_mul])⟩;have hc := g.cap j0 j1;have hj := h (j / 2).toNat (by omega);by_cases hp : j % 2 = 0
  · rw [show 2 * (((j / 2).toNat : Nat) : Int) = j by omega] at hj;have er : rv j = j + 1 := by unfold rv; rw [if_pos hp]
    rw [er];omega
  · rw [show 2 * (((j / 2).toNat : Nat) : Int) = j - 1 by omega, show j - 1 + 1 = j by omega] at hj;have er : rv j = j - 1 := by unfold rv; rw [if_neg hp]
    rw [er];omega
theorem in_ev {A : List S78} {c : List Int} {T : List (List Int)} {x : Int} {b : Bool} {L N : List Int} {z : S72} {a : Int} (hl : (T.length : Int) = n) : maxflow_Net_in.f (some ⟨A, c, T, x, b, L, N, z⟩) a = some (decide (0 ≤ a ∧ a < n)) := by
  show (if a ≥ 0 then some (decide (a < (T.length : Int))) else some false) = _;rw [hl];by_cases h : a ≥ 0
  · rw [if_pos h];exact congrArg some (decide_eq_decide.mpr ⟨fun h' => ⟨h, h'⟩, fun h' => h'.2⟩)
  · rw [if_neg h, decide_eq_false (fun h' => h h'.1)]
theorem ea_app (x : Ed) (e : Nat) : ea (E ++ [x]) e = if e < E.length then ea E e else if e = E.length then x.a else 0 := by
  unfold ea;rw [List.getD_eq_getElem?_getD, List.getD_eq_getElem?_getD];by_cases h : e < E.length
  · rw [if_pos h, List.getElem?_append_left h]
  · rw [if_neg h, List.getElem?_append_right (by omega)];by_cases e' : e = E.length
    · rw [if_pos e', e', Nat.sub_self]; rfl
    · rw [if_neg e', List.getElem?_eq_none (by simp; omega)]; rfl
theorem eb_app (x : Ed) (e : Nat) : eb (E ++ [x]) e = if e < E.length then eb E e else if e = E.length then x.b else 0 := by
  unfold eb;rw [List.getD_eq_getElem?_getD, List.getD_eq_getElem?_getD];by_cases h : e < E.length
  · rw [if_pos h, List.getElem?_append_left h]
  · rw [if_neg h, List.getElem?_append_right (by omega)];by_cases e' : e = E.length
    · rw [if_pos e', e', Nat.sub_self]; rfl
    · rw [if_neg e', List.getElem?_eq_none (by simp; omega)]; rfl
theorem ec_app (x : Ed) (e : Nat) : ec (E ++ [x]) e = if e < E.length then ec E e else if e = E.length then x.c else 0 := by
  unfold ec;rw [List.getD_eq_getElem?_getD, List.getD_eq_getElem?_getD];by_cases h : e < E.length
  · rw [if_pos h, List.getElem?_append_left h]
  · rw [if_neg h, List.getElem?_append_right (by omega)];by_cases e' : e = E.length
    · rw [if_pos e', e', Nat.sub_self]; rfl
    · rw [if_neg e', List.getElem?_eq_none (by simp; omega)]; rfl
theorem fs_app (x : Ed) : fs (E ++ [x]) = fs E + if x.c < Inf then x.c else 0 := by
  unfold fs;rw [List.length_append, List.length_singleton, Sm, ec_app, if_neg (Nat.lt_irrefl _), if_pos rfl];congr 1;exact Sm.congr (fun e he => by rw [ec_app, if_pos he])
def badE (n : Int) (x : Ed) : Prop := x.a < 0 ∨ x.a ≥ n ∨ x.b < 0 ∨ x.b ≥ n ∨ x.a = x.b ∨ x.c < 0 ∨ x.c > Inf
instance (n : Int) (x : Ed) : Decidable (badE n x) := inferInstanceAs (Decidable (_ ∨ _))
def addE (n : Int) (E : List Ed) (x : Ed) : Int := if badE n x then 1 else if x.c = Inf then 0 else if fs E + x.c ≥ Inf then 18 else 0
theorem addE_zero {x : Ed} (g : EG n E) (hm : E.length < 100000) (h : addE n E x = 0) : EG n (E ++ [x]) := by
  unfold addE at h;have hs := g.s;split at h
  · omega
  rename_i hb
  unfold badE at hb;refine ⟨g.n1, g.n2, by rw [List.length_append, List.length_singleton]; omega, fun e he => ?_, ?_⟩
  · rw [List.length_append, List.length_singleton] at he;rw [ea_app, eb_app, ec_app];by_cases h' : e < E.length
    · simp only [if_pos h']; exact g.v e h'
    · simp only [if_neg h', if_pos (show e = E.length by omega)]; omega
  · rw [fs_app];split at h
    · rw [if_neg (by omega)]; omega
    · split at h
      · omega
      · split <;> omega
theorem hd_app (x : Ed) (j : Int) (h0 : 0 ≤ j) (h1 : j < 2 * (E.length : Int)) : hd (E ++ [x]) j = hd E j := by
  unfold hd;rw [ea_app, eb_app, if_pos (show (j / 2).toNat < E.length by omega), if_pos (show (j / 2).toNat < E.length by omega)]
theorem tl_app (x : Ed) (j : Int) (h0 : 0 ≤ j) (h1 : j < 2 * (E.length : Int)) : tl (E ++ [x]) j = tl E j := by
  unfold tl;rw [ea_app, eb_app, if_pos (show (j / 2).toNat < E.length by omega), if_pos (show (j / 2).toNat < E.length by omega)]
theorem hd_new (x : Ed) : hd (E ++ [x]) (2 * (E.length : Int)) = x.b ∧ hd (E ++ [x]) (2 * (E.length : Int) + 1) = x.a ∧ tl (E ++ [x]) (2 * (E.length : Int)) = x.a ∧ tl (E ++ [x]) (2 * (E.length : Int) + 1) = x.b := by
  have e1 : (2 * (E.length : Int) / 2).toNat = E.length := by omega
  have e2 : ((2 * (E.length : Int) + 1) / 2).toNat = E.length := by omega
  unfold hd tl;rw [if_pos (by omega), if_neg (by omega), if_pos (by omega), if_neg (by omega), e1, e2, ea_app, eb_app, if_neg (Nat.lt_irrefl _), if_neg (Nat.lt_irrefl _), if_pos rfl, if_pos rfl];exact ⟨rfl, rfl, rfl, rfl⟩
theorem AS.app {A : List S78} (h : AS E A) (x : Ed) : AS (E ++ [x]) (A ++ [⟨x.b, x.c⟩, ⟨x.a, 0⟩]) := by
  have hl := h.l;refine ⟨by rw [List.length_append, List.length_append]; simp only [List.length_cons, List.length_nil]; omega, fun j j0 j1 => ?_⟩;rw [List.length_append, List.length_singleton] at j1;obtain ⟨n1, n2, _, _⟩ := hd_new (E := E) x;unfold rd_T78;rw [List.getD_eq_getElem?_getD];by_cases h' : j < 2 * (E.length : Int)
  · rw [hd_app x j j0 h', List.getElem?_append_left (by omega), ← List.getD_eq_getElem?_getD];exact h.h j j0 h'
  · rw [List.getElem?_append_right (by omega)];by_cases e : j = 2 * (E.length : Int)
    · rw [e, n1, show (2 * (E.length : Int)).toNat - A.length = 0 by omega]; rfl
    · rw [show j = 2 * (E.length : Int) + 1 by omega, n2, show (2 * (E.length : Int) + 1).toNat - A.length = 1 by omega]; rfl
theorem TG.app {T : List (List Int)} (h : TG n E T) (x : Ed) (ha : 0 ≤ x.a) (ha' : x.a < n) (hb : 0 ≤ x.b) (hb' : x.b < n) (hne : x.a ≠ x.b) : TG n (E ++ [x]) ((T.set x.a.toNat (rd_L4 T x.a ++ [2 * (E.length : Int)])).set x.b.toNat (rd_L4 T x.b ++ [2 * (E.length : Int) + 1])) := by
  have hl := h.l;obtain ⟨_, _, n3, n4⟩ := hd_new (E := E) x;have R : ∀ v, 0 ≤ v → rd_L4 ((T.set x.a.toNat (rd_L4 T x.a ++ [2 * (E.length : Int)])).set x.b.toNat (rd_L4 T x.b ++ [2 * (E.length : Int) + 1])) v = if v = x.b then rd_L4 T x.b ++ [2 * (E.length : Int) + 1] else if v = x.a then rd_L4 T x.a ++ [2 * (E.length : Int)] else rd_L4 T v := fun v hv => by
    rw [rdT_set _ hb (by rw [List.length_set]; omega) hv, rdT_set _ ha (by omega) hv]
  refine ⟨by rw [List.length_set, List.length_set]; exact hl, fun v j v0 v1 => ?_, fun v => ?_⟩
  · rw [R v v0, List.length_append, List.length_singleton];have old := h.i v j v0 v1;have key : (0 ≤ j ∧ j < 2 * ((E.length + 1 : Nat) : Int) ∧ tl (E ++ [x]) j = v) ↔ (j ∈ rd_L4 T v ∨ (j = 2 * (E.length : Int) ∧ v = x.a) ∨ (j = 2 * (E.length : Int) + 1 ∧ v = x.b)) := by
      rw [old];constructor
      · rintro ⟨j0, j1, e⟩;by_cases h' : j < 2 * (E.length : Int)
        · rw [tl_app x j j0 h'] at e; exact .inl ⟨j0, h', e⟩
        · by_cases e' : j = 2 * (E.length : Int)
          · subst e'; exact .inr (.inl ⟨rfl, by rw [← e, n3]⟩)
          · obtain rfl : j = 2 * (E.length : Int) + 1 := by omega
            exact .inr (.inr ⟨rfl, by rw [← e, n4]⟩)
      · rintro (⟨j0, j1, e⟩ | ⟨rfl, rfl⟩ | ⟨rfl, rfl⟩)
        · exact ⟨j0, by omega, by rw [tl_app x j j0 j1]; exact e⟩
        · exact ⟨by omega, by omega, n3⟩
        · exact ⟨by omega, by omega, n4⟩
    rw [key];by_cases e1 : v = x.b
    · subst e1;rw [if_pos rfl, List.mem_append, List.mem_singleton];exact ⟨fun h => h.imp id (fun h => .inr ⟨h, rfl⟩), fun h => h.imp id (fun h => h.elim (fun h => absurd h.2.symm hne) (fun h => h.1))⟩
    · rw [if_neg e1];by_cases e2 : v = x.a
      · subst e2;rw [if_pos rfl, List.mem_append, List.mem_singleton];exact ⟨fun h => h.imp id (fun h => .inl ⟨h, rfl⟩), fun h => h.imp id (fun h => h.elim (fun h => h.1) (fun h => absurd h.2 e1))⟩
      · rw [if_neg e2];exact ⟨.inl, fun h => h.elim id (fun h => h.elim (fun h => absurd h.2 e2) (fun h => absurd h.2 e1))⟩
  · rw [List.length_append, List.length_singleton];by_cases hv : 0 ≤ v
    · rw [R v hv];have := h.c v;have := h.c x.a;have := h.c x.b;split
      · rw [List.length_append, List.length_singleton]; omega
      · split
        · rw [List.length_append, List.length_singleton]; omega
        · omega
    · have e : ∀ T : List (List Int), rd_L4 T v = rd_L4 T 0 := fun T => by unfold rd_L4; rw [show v.toNat = (0 : Int).toNat by omega]
      rw [e, R 0 (Int.le_refl 0)];have := h.c 0;have := h.c x.a;have := h.c x.b;split
      · rw [List.length_append, List.length_singleton]; omega
      · split
        · rw [List.length_append, List.length_singleton]; omega
        · omega
theorem add_ev (hS : NetI n E S) (hm : E.length < 100000) (x : Ed) : Ev (fun k => Add.o k (some S) x.a x.b x.c) (fun r => r.2.1 = addE n E x ∧ (addE n E x = 0 → r.1 = (E.length : Int) ∧ ∃ S', r.2.2 = some S' ∧ NetI n (E ++ [x]) S' ∧ S'.f7 = S.f7) ∧ (addE n E x ≠ 0 → r.1 = 0 ∧ r.2.2 = some S)) := by
  have hl := hS.t.l;have hs := hS.g.s;have hal := hS.a.l;have hI : Inf = 4611686018427387904 := rfl;have hcl : (S.f1.length : Int) = E.length := by rw [hS.c, List.length_map]
  have hf3 := hS.s;have hfs0 : 0 ≤ fs E := Sm.nonneg (fun e he => by
    have := (hS.g.v e he).2.2.2.1;split <;> omega)
  dsimp only [Add.o];refine Ev.bind (Q := fun r => r.2.1 = addE n E x ∧ (addE n E x = 0 → r.1 = (E.length : Int) ∧ NetI n (E ++ [x]) ⟨r.2.2.1, r.2.2.2.1, r.2.2.2.2.1, r.2.2.2.2.2.1, r.2.2.2.2.2.2, S.f5, S.f6, S.f7⟩) ∧ (addE n E x ≠ 0 → r.1 = 0 ∧ r.2.2.1 = S.f0 ∧ r.2.2.2.1 = S.f1 ∧ r.2.2.2.2.1 = S.f2 ∧ r.2.2.2.2.2.1 = S.f3 ∧ r.2.2.2.2.2.2 = S.f4)) ?_ (fun r h => Ev.ret ⟨h.1, fun h0 => ⟨(h.2.1 h0).1, _, rfl, (h.2.1 h0).2, rfl⟩, fun h0 => ⟨(h.2.2 h0).1, by
    obtain ⟨_, a, b, c, d, e⟩ := h.2.2 h0;rw [a, b, c, d, e]⟩⟩)
  simp only [maxflow_Net_Add.f, in_ev hl, Option.bind_some];have bad : badE n x → ∀ {F : Nat → Option (Int × Int × List S78 × List Int × List (List Int) × Int × Bool)}, (∀ k, F (k + 1) = some (0, 1, S.f0, S.f1, S.f2, S.f3, S.f4)) → Ev F (fun r => r.2.1 = addE n E x ∧ (addE n E x = 0 → r.1 = (E.length : Int) ∧ NetI n (E ++ [x]) ⟨r.2.2.1, r.2.2.2.1, r.2.2.2.2.1, r.2.2.2.2.2.1, r.2.2.2.2.2.2, S.f5, S.f6, S.f7⟩) ∧ (addE n E x ≠ 0 → r.1 = 0 ∧ r.2.2.1 = S.f0 ∧ r.2.2.2.1 = S.f1 ∧ r.2.2.2.2.1 = S.f2 ∧ r.2.2.2.2.2.1 = S.f3 ∧ r.2.2.2.2.2.2 = S.f4)) := by
    intro hb F hF;have e : addE n E x = 1 := if_pos hb;refine Ev.sub 1 ?_;simp only [hF];exact Ev.ret ⟨e.symm, fun h => by omega, fun _ => ⟨rfl, rfl, rfl, rfl, rfl, rfl⟩⟩
  have j2t : ∀ k, maxflow_Net_Add.j2 (k + 1) S.f3 S.f4 S.f7.f0 x.a x.b x.c S.f0 S.f1 S.f2 S.f5 S.f6 true = some (0, 1, S.f0, S.f1, S.f2, S.f3, S.f4) := fun k => by rw [maxflow_Net_Add.j2, if_pos rfl]
  rcases (Classical.em (0 ≤ x.a ∧ x.a < n)).symm with h1 | h1
  · simp only [decide_eq_false h1, if_neg (show ¬ false = true by decide)];exact bad (by unfold badE; omega) j2t
  simp only [decide_eq_true h1, if_pos trivial];rcases (Classical.em (0 ≤ x.b ∧ x.b < n)).symm with h2 | h2
  · simp only [decide_eq_false h2, if_neg (show ¬ false = true by decide)];exact bad (by unfold badE; omega) j2t
  simp only [decide_eq_true h2, if_pos trivial];by_cases h3 : x.a = x.b
  · simp only [if_pos h3];exact bad (by unfold badE; omega) j2t
  simp only [if_neg h3];by_cases h4 : x.c < 0
  · simp only [if_pos h4];exact bad (by unfold badE; omega) j2t
  simp only [if_neg h4];by_cases h5 : x.c > 4611686018427387904
  · simp only [decide_eq_true h5];exact bad (by unfold badE; omega) j2t
  simp only [decide_eq_false h5];have nb : ¬ badE n x := by unfold badE; omega
  refine Ev.sub 1 ?_;simp only [maxflow_Net_Add.j2, if_neg (show ¬ false = true by decide), if_neg (show ¬ (S.f1.length : Int) = 1048576 by omega)];have add : ∀ sum, sum = fs (E ++ [x]) → addE n E x = 0 → Ev (fun k => maxflow_Net_Add.j0 k S.f4 S.f7.f0 x.a x.b x.c S.f0 S.f1 S.f2 S.f5 S.f6 sum) (fun r => r.2.1 = addE n E x ∧ (addE n E x = 0 → r.1 = (E.length : Int) ∧ NetI n (E ++ [x]) ⟨r.2.2.1, r.2.2.2.1, r.2.2.2.2.1, r.2.2.2.2.2.1, r.2.2.2.2.2.2, S.f5, S.f6, S.f7⟩) ∧ (addE n E x ≠ 0 → r.1 = 0 ∧ r.2.2.1 = S.f0 ∧ r.2.2.2.1 = S.f1 ∧ r.2.2.2.2.1 = S.f2 ∧ r.2.2.2.2.2.1 = S.f3 ∧ r.2.2.2.2.2.2 = S.f4)) := by
    intro sum hsum h0;have g' := addE_zero hS.g hm h0;have hca := hS.t.c x.a;have hcb := hS.t.c x.b;have w0 : wrap64 (2 * (E.length : Int)) = 2 * (E.length : Int) := wr (by omega) (by omega);have w1 : wrap64 (2 * (E.length : Int) + 1) = 2 * (E.length : Int) + 1 := wr (by omega) (by omega);have e2 : rd_L4 (S.f2.set x.a.toNat (rd_L4 S.f2 x.a ++ [2 * (E.length : Int)])) x.b = rd_L4 S.f2 x.b := by rw [rdT_set _ h1.1 (by omega) h2.1, if_neg (fun h => h3 h.symm)]
    refine Ev.sub 1 ?_;simp only [maxflow_Net_Add.j0, Option.bind_some, hcl, w0, w1, List.length_set, e2, if_pos (show S.f1.length < 17592186044416 by omega), if_pos (show S.f0.length + ([⟨x.b, x.c⟩, ⟨x.a, 0⟩] : List S78).length < 8796093022208 by simp only [List.length_cons, List.length_nil]; omega), if_pos h1.1, if_pos (show x.a < (S.f2.length : Int) by omega), if_pos (show (rd_L4 S.f2 x.a).length < 17592186044416 by omega), if_pos h2.1, if_pos (show x.b < (S.f2.length : Int) by omega), if_pos (show (rd_L4 S.f2 x.b).length < 17592186044416 by omega)];have hc' : S.f1 ++ [x.c] = (E ++ [x]).map (·.c) := by rw [hS.c, List.map_append]; rfl
    rw [hc'];simp only [maxflow_Net_reset.f];refine (reset_go g' (E ++ [x]).length (S.f0 ++ ([⟨x.b, x.c⟩, ⟨x.a, 0⟩] : List S78)) 0 (Int.le_refl 0) (by omega) (hS.a.app x) (fun e he => by omega)).bind (fun r hr => Ev.ret ⟨h0.symm, fun _ => ⟨rfl, ⟨g', hr.2.1, rfl, hS.t.app x h1.1 h1.2 h2.1 h2.2 h3, hsum⟩⟩, fun h => absurd h0 h⟩)
  by_cases h6 : x.c < 4611686018427387904
  · simp only [if_pos h6, num_Add.f];have w : wrap64 (S.f3 + x.c) = S.f3 + x.c := wr (by omega) (by omega);have hd' : decide (S.f3 + x.c > S.f3) = decide (x.c > 0) := decide_eq_decide.mpr (by omega);simp only [w, if_pos hd', Option.bind_some, if_pos (show (0 : Int) = 0 from rfl)];refine Ev.sub 1 ?_;simp only [maxflow_Net_Add.j1];by_cases h7 : S.f3 + x.c ≥ 4611686018427387904
    · simp only [decide_eq_true h7, if_pos trivial];have e : addE n E x = 18 := by unfold addE; rw [if_neg nb, if_neg (by omega), if_pos (by omega)]
      exact Ev.ret ⟨e.symm, fun h => by omega, fun _ => ⟨rfl, rfl, rfl, rfl, rfl, rfl⟩⟩
    · simp only [decide_eq_false h7, if_neg (show ¬ false = true by decide)];exact add _ (by rw [fs_app, if_pos (by omega)]; omega) (by unfold addE; rw [if_neg nb, if_neg (by omega), if_neg (by omega)])
  · simp only [if_neg h6];exact add _ (by rw [fs_app, if_neg (by omega)]; omega) (by unfold addE; rw [if_neg nb, if_pos (by omega)])
def badP (n s t : Int) : Prop := s < 0 ∨ s ≥ n ∨ t < 0 ∨ t ≥ n ∨ s = t
instance (n s t : Int) : Decidable (badP n s t) := inferInstanceAs (Decidable (_ ∨ _))
/-- What is told of a net and two of its points. -/
def MaxQ (n s t : Int) (E : List Ed) (r : Int × Int × Option S74) : Prop := ∃ S', r.2.2 = some S' ∧ NetI n E S' ∧
  (badP n s t → r.1 = 0 ∧ r.2.1 = 1 ∧ S'.f4 = false) ∧ (¬ badP n s t → Endl E s t → r.1 = 0 ∧ r.2.1 = 18 ∧ S'.f4 = false) ∧
  (¬ badP n s t → ¬ Endl E s t → r.2.1 = 0 ∧ S'.f4 = true ∧ IsMax E s t r.1 ∧ AG E S'.f0 ∧ (∀ X, Ph E S'.f0 X = r.1 * (X s - X t)) ∧ ∃ L, BI n E s (psR S'.f0) (fun _ => True) L [] ∧ rd L t = 0)
theorem max_ev (hS : NetI n E S) (s t : Int) : Ev (fun k => Max.o k (some S) s t) (MaxQ n s t E) := by
  have hl := hS.t.l;have hn1 := hS.g.n1;dsimp only [Max.o];simp only [maxflow_Net_Max.f, maxflow_Net_reset.f, hS.c];refine Ev.bind (Q := fun r => AS E r.2.2.1 ∧ (badP n s t → r.1 = 0 ∧ r.2.1 = 1 ∧ r.2.2.2.1 = false) ∧ (¬ badP n s t → Endl E s t → r.1 = 0 ∧ r.2.1 = 18 ∧ r.2.2.2.1 = false) ∧ (¬ badP n s t → ¬ Endl E s t → r.2.1 = 0 ∧ r.2.2.2.1 = true ∧ IsMax E s t r.1 ∧ AG E r.2.2.1 ∧ (∀ X, Ph E r.2.2.1 X = r.1 * (X s - X t)) ∧ ∃ L, BI n E s (psR r.2.2.1) (fun _ => True) L [] ∧ rd L t = 0)) ?_ (fun r h => Ev.ret ⟨_, rfl, ⟨hS.g, h.1, rfl, hS.t, hS.s⟩, h.2⟩);refine (reset_go hS.g E.length S.f0 0 (Int.le_refl 0) (by omega) hS.a (fun e he => by omega)).bind ?_;rintro ⟨A, b⟩ ⟨hb, sA, fr⟩;dsimp only at hb sA fr ⊢;subst hb;obtain ⟨ga, ph0⟩ := fresh hS.g sA fr;simp only [in_ev hl, Option.bind_some];have bad : badP n s t → Ev (fun k => maxflow_Net_Max.j0 k S.f3 S.f7.f0 s t (E.map (·.c)) S.f2 S.f5 S.f6 A false true) (fun r => AS E r.2.2.1 ∧ (badP n s t → r.1 = 0 ∧ r.2.1 = 1 ∧ r.2.2.2.1 = false) ∧ (¬ badP n s t → Endl E s t → r.1 = 0 ∧ r.2.1 = 18 ∧ r.2.2.2.1 = false) ∧ (¬ badP n s t → ¬ Endl E s t → r.2.1 = 0 ∧ r.2.2.2.1 = true ∧ IsMax E s t r.1 ∧ AG E r.2.2.1 ∧ (∀ X, Ph E r.2.2.1 X = r.1 * (X s - X t)) ∧ ∃ L, BI n E s (psR r.2.2.1) (fun _ => True) L [] ∧ rd L t = 0)) := by
    intro hb;refine Ev.sub 1 ?_;simp only [maxflow_Net_Max.j0, if_pos trivial];exact Ev.ret ⟨sA, fun _ => ⟨rfl, rfl, rfl⟩, fun h => absurd hb h, fun h => absurd hb h⟩
  rcases (Classical.em (0 ≤ s ∧ s < n)).symm with h1 | h1
  · simp only [decide_eq_false h1, if_neg (show ¬ false = true by decide)];exact bad (by unfold badP; omega)
  simp only [decide_eq_true h1, if_pos trivial];rcases (Classical.em (0 ≤ t ∧ t < n)).symm with h2 | h2
  · simp only [decide_eq_false h2, if_neg (show ¬ false = true by decide)];exact bad (by unfold badP; omega)
  simp only [decide_eq_true h2, if_pos trivial];by_cases h3 : s = t
  · simp only [decide_eq_true h3];exact bad (by unfold badP; omega)
  simp only [decide_eq_false h3];have nb : ¬ badP n s t := by unfold badP; omega
  refine Ev.sub 1 ?_;simp only [maxflow_Net_Max.j0, if_neg (show ¬ false = true by decide)];refine (M_reach hS.g ga hS.t h1.1 h1.2 S.f7.f0).bind ?_;rintro ⟨L, y⟩ ⟨bi, _⟩;dsimp only at bi ⊢;have hLl := bi.l;have endl : 0 < rd L t ↔ Endl E s t := by
    constructor
    · have : ∀ (z : Nat) (v : Int), 0 ≤ v → v < n → rd L v = (z : Int) + 1 → Endl E s v := by
        intro z
        induction z with
        | zero => intro v a b e; rw [bi.o v a b (by omega)]; exact .refl
        | succ z ih =>
          intro v a b e;by_cases hs : v = s
          · rw [hs]; exact .refl
          obtain ⟨j, j0, j1, p, hv, h0, hl'⟩ := bi.d v a b (by omega) hs;obtain ⟨_, _, u0, u1, _⟩ := hS.g.arc j0 j1;refine .step _ _ (ih (tl E j) u0 u1 (by omega)) ⟨(j / 2).toNat, by omega, ?_, ?_, ?_⟩
          · unfold tl; rw [if_pos p.1]
          · rw [← hv]; unfold hd; rw [if_pos p.1]
          · rw [← (fr (j / 2).toNat (by omega)).1, show 2 * (((j / 2).toNat : Nat) : Int) = j by have := p.1; omega]; exact p.2
      intro h;exact this (rd L t - 1).toNat t h2.1 h2.2 (by omega)
    · intro h;have : ∀ v, Rch (EInf E) s v → 0 < rd L v := by
        intro v hv
        induction hv with
        | refl => rw [bi.s1]; decide
        | step u v _ huv ih =>
          obtain ⟨e, he, ha, hb, hi⟩ := huv;have e1 : tl E (2 * (e : Int)) = u := by unfold tl; rw [if_pos (by omega), show (2 * (e : Int) / 2).toNat = e by omega]; exact ha
          have e2 : hd E (2 * (e : Int)) = v := by unfold hd; rw [if_pos (by omega), show (2 * (e : Int) / 2).toNat = e by omega]; exact hb
          rw [← e2];exact (bi.c (2 * (e : Int)) (by omega) (by omega) ⟨by omega, by rw [(fr e he).1]; exact hi⟩ (by rw [e1]; exact ih) (by simp) trivial).1
      exact this t h
  simp only [if_pos h2.1, if_pos (show t < (L.length : Int) by omega)];by_cases he : rd L t > 0
  · simp only [if_pos he];exact Ev.ret ⟨sA, fun h => absurd h nb, fun _ _ => ⟨rfl, rfl, rfl⟩, fun _ h => absurd (endl.1 he) h⟩
  · simp only [if_neg he];have hE : ¬ Endl E s t := fun h => he (endl.2 h);have hfs0 : 0 ≤ fs E := Sm.nonneg (fun e he => by
      have := (hS.g.v e he).2.2.2.1;split <;> omega)
    refine ((max_walk (c := E.map (·.c)) (a3 := S.f3) hS.g hS.t h1.1 h1.2 h2.1 h2.2 h3 hE (b := false) ((fs E).toNat + 1)).2 A S.f5 S.f6 y 0 ga (fun X => by rw [ph0, Int.zero_mul]) (Int.le_refl 0) (by omega)).mono ?_;rintro r ⟨r1, r2, r3, r4, r5, r6, r7⟩;exact ⟨⟨r3.l, r3.h⟩, fun h => absurd h nb, fun _ h => absurd h hE, fun _ _ => ⟨r1, r2, r5, r3, r4, _, r6, r7⟩⟩
end
end Go.Proofs.Ytdkbmchbkkhpoaa.Flow
