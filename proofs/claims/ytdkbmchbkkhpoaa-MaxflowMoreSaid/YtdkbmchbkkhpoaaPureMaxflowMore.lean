/- One more edge, or more room, never makes the greatest flow less, nor greater than by that room. -/
import Derived.Test.YtdkbmchbkkhpoaaPMmox1
import Derived.Test.YtdkbmchbkkhpoaaPMmox2
import Derived.Test.YtdkbmchbkkhpoaaFlG
import Derived.OpenShut
import Derived.Laws.BitsLemmas
import Derived.Laws.BitsAllLaws
import Derived.Laws.Bits64b
import Derived.Lib.TrailingZeros
import Derived.Lib.Bytes
import Derived.Test.YtdkbmchbkkhpoaaWSized
set_option linter.unusedVariables false
set_option linter.unusedSimpArgs false
namespace Go.Proofs.Ytdkbmchbkkhpoaa.Pure
open Go.RowKit Go.Proofs.Ytdkbmchbkkhpoaa.PMmo Go.Proofs.YtdkbmchbkkhpoaaW.PrintWords Go.Proofs.YtdkbmchbkkhpoaaW.PrintLast

open Go.Proofs.Ytdkbmchbkkhpoaa.Flow
def ed (x : S35) : Ed := ⟨x.f0, x.f1, x.f2⟩
theorem ec_ed (l : List S35) {p : Int} (h : 0 ≤ p) : ec (l.map ed) p.toNat = (rd_T35 l p).f2 := by
  unfold ec rd_T35
  rw [List.getD_eq_getElem?_getD, List.getD_eq_getElem?_getD, List.getElem?_map]
  cases l[p.toNat]? <;> rfl
theorem rd_split (l : List S35) {p : Int} (h0 : 0 ≤ p) (h1 : p < (l.length : Int)) : l.drop p.toNat = rd_T35 l p :: l.drop (p + 1).toNat := by
  rw [show (p + 1).toNat = p.toNat + 1 by omega, List.drop_eq_getElem_cons (by omega)]
  congr 1
  unfold rd_T35
  rw [List.getD_eq_getElem?_getD, List.getElem?_eq_getElem (by omega)]; rfl
theorem ref01_ev {a b : Int} (a0 : 0 ≤ a) (a1 : a < 4611686018427387904) (b0 : 0 ≤ b) (b1 : b < 4611686018427387904) : blazonref01_Add.f a b = some (a + b, true) := by
  have j : blazonref01_Add.j0 a b false = some (a + b, true) := by
    unfold blazonref01_Add.j0
    rw [if_neg (by decide), wr (by omega) (by omega)]
  unfold blazonref01_Add.f
  rw [wr (x := 9223372036854775807 - b) (by omega) (by omega)]
  by_cases h : b > 0
  · rw [if_pos h, if_neg (by omega), if_neg (by omega), j]
  · rw [if_neg h, if_neg (by omega), j]
theorem ref25_go {n c : Int} (had : List S35) (g : EG n (had.map ed)) (c0 : 0 ≤ c) (c1 : c < Inf) : ∀ (z : Nat) (p acc : Int), 0 ≤ p → p + z = (had.length : Int) → acc = c + Sm (fun e => if ec (had.map ed) e < Inf then ec (had.map ed) e else 0) p.toNat → acc < Inf → 0 ≤ acc →
    Ev (fun k => blazonref25_Add.l0 k had acc p) (fun r => r = if fs (had.map ed) + c ≥ Inf then 18 else 0) := by
  have hI : Inf = 4611686018427387904 := rfl
  have hlen := g.m
  rw [List.length_map] at hlen
  intro z
  induction z with
  | zero =>
    intro p acc p0 pz e e1 e2
    refine Ev.sub 1 ?_
    simp only [blazonref25_Add.l0, if_neg (show ¬ p < (had.length : Int) by omega), if_neg (show ¬ acc ≥ 4611686018427387904 by omega)]
    refine Ev.ret ?_
    have hp : p.toNat = (had.map ed).length := by rw [List.length_map]; omega
    rw [hp] at e
    have : acc = c + fs (had.map ed) := e
    rw [if_neg (by omega)]
  | succ z ih =>
    intro p acc p0 pz e e1 e2
    have hv := g.v p.toNat (by rw [List.length_map]; omega)
    have ec' := ec_ed had p0
    have w : wrap64 (p + 1) = p + 1 := wr (by omega) (by omega)
    refine Ev.sub 1 ?_
    simp only [blazonref25_Add.l0, if_pos (show p < (had.length : Int) by omega), if_pos p0, w, ← ec']
    have hS : Sm (fun e => if ec (had.map ed) e < Inf then ec (had.map ed) e else 0) (p + 1).toNat = Sm (fun e => if ec (had.map ed) e < Inf then ec (had.map ed) e else 0) p.toNat + if ec (had.map ed) p.toNat < Inf then ec (had.map ed) p.toNat else 0 := by
      rw [show (p + 1).toNat = p.toNat + 1 by omega]; rfl
    by_cases h : ec (had.map ed) p.toNat < 4611686018427387904
    · rw [if_pos (show ec (had.map ed) p.toNat < Inf by omega)] at hS
      simp only [if_pos h, ref01_ev e2 (by omega) hv.2.2.2.1 h, Option.bind_some, if_pos (show true = true from rfl)]
      refine Ev.sub 1 ?_
      simp only [blazonref25_Add.j0, w]
      by_cases h' : acc + ec (had.map ed) p.toNat ≥ 4611686018427387904
      · simp only [decide_eq_true h', if_pos trivial]
        refine Ev.ret ?_
        have mono : ∀ (m q : Nat), Sm (fun e => if ec (had.map ed) e < Inf then ec (had.map ed) e else 0) q ≤ Sm (fun e => if ec (had.map ed) e < Inf then ec (had.map ed) e else 0) (q + m) := by
          intro m
          induction m with
          | zero => intro q; exact Int.le_refl _
          | succ m ih =>
            intro q
            have := ih q
            have h0 : 0 ≤ (if ec (had.map ed) (q + m) < Inf then ec (had.map ed) (q + m) else 0) := by
              by_cases hq : q + m < (had.map ed).length
              · have := (g.v _ hq).2.2.2.1
                split <;> omega
              · unfold ec
                rw [List.getD_eq_getElem?_getD, List.getElem?_eq_none (by omega)]
                decide
            rw [show q + (m + 1) = (q + m) + 1 by omega, Sm]
            omega
        have h2 := mono ((had.map ed).length - (p + 1).toNat) (p + 1).toNat
        rw [show (p + 1).toNat + ((had.map ed).length - (p + 1).toNat) = (had.map ed).length by rw [List.length_map]; omega, hS] at h2
        have h3 : fs (had.map ed) = Sm (fun e => if ec (had.map ed) e < Inf then ec (had.map ed) e else 0) (had.map ed).length := rfl
        rw [← h3] at h2
        rw [if_pos (by omega)]
      · simp only [decide_eq_false h', if_neg (show ¬ false = true by decide)]
        exact ih (p + 1) _ (by omega) (by omega) (by rw [hS]; omega) (by omega) (by omega)
    · rw [if_neg (show ¬ ec (had.map ed) p.toNat < Inf by omega)] at hS
      simp only [if_neg h]
      exact ih (p + 1) acc (by omega) (by omega) (by rw [hS]; omega) e1 e2
theorem ref25_ev {n : Int} (had : List S35) (g : EG n (had.map ed)) (a b c : Int) : Ev (fun k => blazonref25_Add.f k n had a b c) (fun r => r = addE n (had.map ed) ⟨a, b, c⟩) := by
  have hI : Inf = 4611686018427387904 := rfl
  have bad : badE n ⟨a, b, c⟩ → Ev (fun k => blazonref25_Add.j1 k c had true) (fun r => r = addE n (had.map ed) ⟨a, b, c⟩) := by
    intro hb
    refine Ev.sub 1 ?_
    simp only [blazonref25_Add.j1, if_pos trivial]
    exact Ev.ret (if_pos hb).symm
  simp only [blazonref25_Add.f]
  by_cases h1 : a < 0
  · simp only [if_pos h1]; exact bad (.inl h1)
  simp only [if_neg h1]
  by_cases h2 : b < 0
  · simp only [if_pos h2]; exact bad (by unfold badE; dsimp only; omega)
  simp only [if_neg h2]
  by_cases h3 : a ≥ n
  · simp only [if_pos h3]; exact bad (by unfold badE; dsimp only; omega)
  simp only [if_neg h3]
  by_cases h4 : b ≥ n
  · simp only [if_pos h4]; exact bad (by unfold badE; dsimp only; omega)
  simp only [if_neg h4]
  by_cases h5 : a = b
  · simp only [if_pos h5]; exact bad (by unfold badE; dsimp only; omega)
  simp only [if_neg h5]
  by_cases h6 : c < 0
  · simp only [if_pos h6]; exact bad (by unfold badE; dsimp only; omega)
  simp only [if_neg h6]
  by_cases h7 : c > 4611686018427387904
  · simp only [decide_eq_true h7]; exact bad (by unfold badE; dsimp only; omega)
  simp only [decide_eq_false h7]
  have nb : ¬ badE n ⟨a, b, c⟩ := by unfold badE; dsimp only; omega
  refine Ev.sub 1 ?_
  simp only [blazonref25_Add.j1, if_neg (show ¬ false = true by decide)]
  by_cases h8 : c = 4611686018427387904
  · simp only [if_pos h8]
    refine Ev.ret ?_
    unfold addE
    rw [if_neg nb, if_pos h8]
  · simp only [if_neg h8]
    refine (ref25_go (c := c) had g (by omega) (by omega) had.length 0 c (Int.le_refl 0) (by omega) (by simp [Sm]) (by omega) (by omega)).mono (fun r h => ?_)
    rw [h]
    unfold addE
    rw [if_neg nb, if_neg h8]
def bldE (n : Int) : List Ed → List Ed → List Ed
  | E, [] => E
  | E, x :: l => if addE n E x = 0 then bldE n (E ++ [x]) l else bldE n E l
theorem built_go {n : Int} (l : List S35) (hl : l.length ≤ 1000) : ∀ (z : Nat) (S : Go.Proofs.Ytdkbmchbkkhpoaa.PMfr.S74) (had : List S35) (p : Int), 0 ≤ p → p + z = (l.length : Int) → (had.length : Int) ≤ p → NetI n (had.map ed) S →
    Ev (fun k => blazonlaw25_built.l0 k n l (some S) had p) (fun r => ∃ S', r.1 = some S' ∧ NetI n (r.2.map ed) S' ∧ r.2.map ed = bldE n (had.map ed) ((l.drop p.toNat).map ed) ∧ S'.f7 = S.f7 ∧ r.2.length ≤ l.length) := by
  intro z
  induction z with
  | zero =>
    intro S had p p0 pz hp hS
    refine Ev.sub 1 ?_
    simp only [blazonlaw25_built.l0, if_neg (show ¬ p < (l.length : Int) by omega)]
    have he : maxflow_Net_Edges.f (some S) = some ((had.length : Int), some S) := by
      show some ((S.f1.length : Int), some S) = _
      rw [hS.c, List.length_map, List.length_map]
    simp only [he, Option.bind_some, if_pos (show (had.length : Int) = had.length from rfl)]
    refine Ev.ret ⟨S, rfl, hS, ?_, rfl, by dsimp only; omega⟩
    rw [List.drop_eq_nil_of_le (by omega)]; rfl
  | succ z ih =>
    intro S had p p0 pz hp hS
    have w : wrap64 (p + 1) = p + 1 := wr (by omega) (by omega)
    have pl : p < (l.length : Int) := by omega
    refine Ev.sub 1 ?_
    simp only [blazonlaw25_built.l0, if_pos pl, if_pos p0, w]
    rw [rd_split l p0 pl]
    refine (add_ev hS (by rw [List.length_map]; omega) (ed (rd_T35 l p))).bind ?_
    rintro ⟨i, e, x'⟩ ⟨h1, h2, h3⟩
    dsimp only at h1 h2 h3 ⊢
    refine (ref25_ev had hS.g (rd_T35 l p).f0 (rd_T35 l p).f1 (rd_T35 l p).f2).bind ?_
    rintro r hr
    have hr' : r = addE n (had.map ed) (ed (rd_T35 l p)) := hr
    simp only [if_pos (show e = r by rw [h1, hr'])]
    rw [List.map_cons, bldE]
    by_cases h0 : addE n (had.map ed) (ed (rd_T35 l p)) = 0
    · obtain ⟨hi, S', hx, hS', h7⟩ := h2 h0
      subst hx
      rw [List.length_map] at hi
      rw [if_pos h0]
      simp only [if_pos (show e = 0 by omega), if_pos hi]
      refine Ev.sub 1 ?_
      simp only [blazonlaw25_built.j0, if_neg (show ¬ false = true by decide), if_pos (show e = 0 by omega), if_pos p0, if_pos pl, if_pos (show had.length < 5864062014805 by omega), Option.bind_some, w]
      have hm : (had ++ [(⟨(rd_T35 l p).f0, (rd_T35 l p).f1, (rd_T35 l p).f2⟩ : S35)]).map ed = had.map ed ++ [ed (rd_T35 l p)] := by rw [List.map_append]; rfl
      refine (ih S' (had ++ [⟨(rd_T35 l p).f0, (rd_T35 l p).f1, (rd_T35 l p).f2⟩]) (p + 1) (by omega) (by omega) (by rw [List.length_append, List.length_singleton]; omega) (by rw [hm]; exact hS')).mono ?_
      rintro r ⟨S'', a, b, c, d, e'⟩
      exact ⟨S'', a, b, by rw [c, hm], d.trans h7, e'⟩
    · obtain ⟨hi, hx⟩ := h3 h0
      subst hx
      rw [if_neg h0]
      simp only [if_neg (show ¬ e = 0 by omega), hi, show (!decide ((0 : Int) = 0)) = false by decide]
      refine Ev.sub 1 ?_
      simp only [blazonlaw25_built.j0, if_neg (show ¬ false = true by decide), if_neg (show ¬ e = 0 by omega), w]
      exact ih S had (p + 1) (by omega) (by omega) (by omega) hS
theorem new_ev {n : Int} (h1 : 1 ≤ n) (h2 : n ≤ 65536) : ∃ S, maxflow_New.f n = some (some S) ∧ NetI n [] S ∧ S.f7.f0 = 0 := by
  have e : maxflow_New.f n = some (some ⟨[], [], List.replicate n.toNat [], 0, false, [], [], ⟨0⟩⟩) := by
    unfold maxflow_New.f Go.Proofs.Ytdkbmchbkkhpoaa.PMfr.New.f Go.Proofs.Ytdkbmchbkkhpoaa.PMfr.New.j0
    rw [if_neg (by omega), decide_eq_false (by omega), if_neg (by decide), if_pos (by omega), if_pos (by omega)]
    rfl
  refine ⟨_, e, ⟨⟨h1, h2, by simp, fun e he => absurd he (by simp), by decide⟩, ⟨rfl, fun j a b => by simp at b; omega⟩, rfl, ⟨by rw [List.length_replicate]; omega, fun v j a b => ?_, fun v => ?_⟩, rfl⟩, rfl⟩
  · have : Go.Proofs.Ytdkbmchbkkhpoaa.PMfr.rd_L4 (List.replicate n.toNat []) v = [] := by
      unfold Go.Proofs.Ytdkbmchbkkhpoaa.PMfr.rd_L4
      rw [List.getD_eq_getElem?_getD, List.getElem?_replicate]
      split <;> rfl
    show j ∈ Go.Proofs.Ytdkbmchbkkhpoaa.PMfr.rd_L4 (List.replicate n.toNat []) v ↔ _
    rw [this]
    exact ⟨fun h => absurd h (by simp), fun h => by have := h.2.1; simp at this; omega⟩
  · have : Go.Proofs.Ytdkbmchbkkhpoaa.PMfr.rd_L4 (List.replicate n.toNat []) v = [] := by
      unfold Go.Proofs.Ytdkbmchbkkhpoaa.PMfr.rd_L4
      rw [List.getD_eq_getElem?_getD, List.getElem?_replicate]
      split <;> rfl
    show (Go.Proofs.Ytdkbmchbkkhpoaa.PMfr.rd_L4 (List.replicate n.toNat []) v).length ≤ _
    rw [this]; exact Nat.zero_le _
theorem built_ev {n : Int} (h1 : 1 ≤ n) (h2 : n ≤ 65536) (l : List S35) (hl : l.length ≤ 1000) : Ev (fun k => blazonlaw25_built.f k n l) (fun r => ∃ S', r.1 = some S' ∧ NetI n (r.2.map ed) S' ∧ r.2.map ed = bldE n [] (l.map ed) ∧ S'.f7.f0 = 0 ∧ r.2.length ≤ l.length) := by
  obtain ⟨S, e, hS, h7⟩ := new_ev h1 h2
  simp only [blazonlaw25_built.f, e, Option.bind_some, onOpt]
  refine (built_go l hl l.length S [] 0 (Int.le_refl 0) (by omega) (by simp) hS).mono ?_
  rintro r ⟨S', a, b, c, d, f⟩
  exact ⟨S', a, b, c, by rw [d]; exact h7, f⟩
theorem awake_tells (k : Nat) : blazonlaw25_awake.f (k + 60) = some true := by kernel_rfl
theorem awake_ev : Ev (fun k => blazonlaw25_awake.f k) (fun r => r = true) := Ev.sub 60 ⟨true, rfl, 0, fun k _ => awake_tells k⟩
theorem Ev.okay {F : Nat → Option Bool} (h : Ev F (fun r => r = true)) : ∃ k, F k = some true := by
  obtain ⟨k, r, e, hr⟩ := h.out
  exact ⟨k, by rw [e, hr]⟩
theorem awake_end : Ev (fun k => (blazonlaw25_awake.f k).bind fun t => some t) (fun r => r = true) := awake_ev.bind (fun r h => Ev.ret h)
theorem more {n s t v w a b c : Int} {E : List Ed} (g : EG n E) (g' : EG n (E ++ [⟨a, b, c⟩])) (h : IsMax E s t v) (h' : IsMax (E ++ [⟨a, b, c⟩]) s t w) : v ≤ w ∧ w - v ≤ c := by
  obtain ⟨⟨f, hf⟩, C, hC, hv⟩ := h
  obtain ⟨⟨f', hf'⟩, C', hC', hv'⟩ := h'
  have hlen : (E ++ [(⟨a, b, c⟩ : Ed)]).length = E.length + 1 := by simp
  have hnew := g'.v E.length (by omega)
  rw [ec_app, if_neg (Nat.lt_irrefl _), if_pos rfl] at hnew
  dsimp only at hnew
  constructor
  · have fl : FL (E ++ [⟨a, b, c⟩]) s t (fun e => if e < E.length then f e else 0) v := ⟨fun e he => by
      rw [ec_app]
      by_cases h : e < E.length
      · simp only [if_pos h]; exact hf.b e h
      · simp only [if_neg h, if_pos (show e = E.length by omega)]; omega, fun X => by
      rw [hlen, Sm, if_neg (Nat.lt_irrefl _), Int.zero_mul, Int.add_zero, ← hf.k X]
      exact Sm.congr (fun e he => by rw [if_pos he, ea_app, eb_app, if_pos he, if_pos he])⟩
    rw [← hv']
    exact fl.le hC'
  · by_cases hc : c < Inf
    · have cut : CutOf (E ++ [⟨a, b, c⟩]) s t C := ⟨hC.1, hC.2.1, fun e he h1 h2 => by
        rw [ea_app] at h1
        rw [eb_app] at h2
        rw [ec_app]
        by_cases h : e < E.length
        · rw [if_pos h] at h1 h2 ⊢; exact hC.2.2 e h h1 h2
        · rw [if_neg h, if_pos (show e = E.length by omega)]; exact hc⟩
      have h1 := hf'.le cut
      have h2 : CutV (E ++ [⟨a, b, c⟩]) C ≤ CutV E C + c := by
        unfold CutV
        rw [hlen, Sm]
        have e1 : Sm (fun e => if C (ea (E ++ [(⟨a, b, c⟩ : Ed)]) e) = true ∧ C (eb (E ++ [(⟨a, b, c⟩ : Ed)]) e) = false then ec (E ++ [(⟨a, b, c⟩ : Ed)]) e else 0) E.length = Sm (fun e => if C (ea E e) = true ∧ C (eb E e) = false then ec E e else 0) E.length := Sm.congr (fun e he => by rw [ea_app, eb_app, ec_app, if_pos he, if_pos he, if_pos he])
        rw [e1, ec_app, if_neg (Nat.lt_irrefl _), if_pos rfl]
        dsimp only
        split <;> omega
      omega
    · have w1 : w ≤ fs (E ++ [⟨a, b, c⟩]) := by rw [← hv']; exact CutV.fs g' hC'.2.2
      have v0 : 0 ≤ v := by rw [← hv]; exact CutV.nonneg g
      have := g'.s
      omega
theorem MaxflowMore : blazonlaw25_MaxflowMore.Pure := by
  intro n l s t a b c _ _ _ _ _ _ _ _ _
  refine Ev.okay ?_
  simp only [blazonlaw25_MaxflowMore.f]
  have out : Ev (fun k => blazonlaw25_MaxflowMore.j1 k n s t a b c l true) (fun r => r = true) := by
    refine Ev.sub 1 ?_
    simp only [blazonlaw25_MaxflowMore.j1, if_pos trivial]
    exact awake_end
  by_cases h1 : n < 1
  · simp only [if_pos h1]; exact out
  simp only [if_neg h1]
  by_cases h2 : n > 60
  · simp only [if_pos h2]; exact out
  simp only [if_neg h2]
  by_cases h3 : (l.length : Int) > 200
  · simp only [decide_eq_true h3]; exact out
  simp only [decide_eq_false h3]
  refine Ev.sub 1 ?_
  simp only [blazonlaw25_MaxflowMore.j1, if_neg (show ¬ false = true by decide)]
  refine (built_ev (n := n) (by omega) (by omega) l (by omega)).bind ?_
  rintro ⟨x, had⟩ ⟨S, rfl, hS, _, _, hlen⟩
  dsimp only [onOpt] at hS hlen ⊢
  refine (max_ev hS s t).bind ?_
  rintro ⟨v, e, x'⟩ ⟨S1, hx, hS1, b1, b2, b3⟩
  dsimp only at hx b1 b2 b3
  subst hx
  refine (add_ev hS1 (by rw [List.length_map]; omega) ⟨a, b, c⟩).bind ?_
  rintro ⟨i, f, x''⟩ ⟨d1, d2, d3⟩
  dsimp only at d1 d2 d3 ⊢
  refine (ref25_ev had hS.g a b c).bind ?_
  rintro r hr
  simp only [if_pos (show f = r by rw [d1, hr])]
  have endw : ∀ w, Ev (fun k => blazonlaw25_MaxflowMore.j0 k c v w true) (fun r => r = true) := fun w => by
    refine Ev.sub 1 ?_
    simp only [blazonlaw25_MaxflowMore.j0, if_pos trivial]
    exact awake_end
  by_cases h0 : addE n (had.map ed) ⟨a, b, c⟩ = 0
  · obtain ⟨_, S2, hx, hS2, _⟩ := d2 h0
    subst hx
    refine (max_ev hS2 s t).bind ?_
    rintro ⟨w, g, x3⟩ ⟨S3, hx3, hS3, c1, c2, c3⟩
    dsimp only at hx3 c1 c2 c3 ⊢
    rcases (Classical.em (e = 0)).symm with he | he
    · simp only [if_neg he]; exact endw w
    simp only [if_pos he, if_pos (show f = 0 by omega)]
    by_cases hg : g = 0
    · simp only [decide_eq_true hg, show (!true) = false from rfl]
      refine Ev.sub 1 ?_
      simp only [blazonlaw25_MaxflowMore.j0, if_neg (show ¬ false = true by decide)]
      have nb : ¬ badP n s t := fun h => by have := (b1 h).2.1; omega
      have ne : ¬ Endl (had.map ed) s t := fun h => by have := (b2 nb h).2.1; omega
      have ne' : ¬ Endl (had.map ed ++ [⟨a, b, c⟩]) s t := fun h => by have := (c2 nb h).2.1; omega
      obtain ⟨_, _, m1, _⟩ := b3 nb ne
      obtain ⟨_, _, m2, _⟩ := c3 nb ne'
      have g1 := hS1.g
      have g2 := hS2.g
      obtain ⟨k1, k2⟩ := more g1 g2 m1 m2
      obtain ⟨C, hC, hCv⟩ := m1.2
      obtain ⟨C', hC', hCv'⟩ := m2.2
      have v0 : 0 ≤ v := by rw [← hCv]; exact CutV.nonneg g1
      have w1 : w ≤ fs (had.map ed ++ [⟨a, b, c⟩]) := by rw [← hCv']; exact CutV.fs g2 hC'.2.2
      have hI : Inf = 4611686018427387904 := rfl
      have := g2.s
      simp only [if_pos (show w ≥ v by omega), wr (x := w - v) (by omega) (by omega), if_pos (show w - v ≤ c from k2)]
      exact awake_end
    · simp only [decide_eq_false hg, show (!false) = true from rfl]; exact endw w
  · obtain ⟨_, hx⟩ := d3 h0
    subst hx
    refine (max_ev hS1 s t).bind ?_
    rintro ⟨w, g, x3⟩ _
    simp only [if_neg (show ¬ f = 0 by omega)]
    by_cases he : e = 0
    · simp only [if_pos he]; exact endw w
    · simp only [if_neg he]; exact endw w

end Go.Proofs.Ytdkbmchbkkhpoaa.Pure
