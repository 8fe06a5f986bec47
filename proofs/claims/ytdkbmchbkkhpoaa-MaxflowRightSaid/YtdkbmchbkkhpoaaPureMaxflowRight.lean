/- What is told of a net's edges is a flow of the value that is told, and the points that are told are a cut of that value. -/
import Derived.Test.YtdkbmchbkkhpoaaPMrtx1
import Derived.Test.YtdkbmchbkkhpoaaPMrtx2
import Derived.Test.YtdkbmchbkkhpoaaPMrtx3
import Derived.Test.YtdkbmchbkkhpoaaFlI
import Derived.OpenShut
import Derived.Laws.BitsLemmas
import Derived.Laws.BitsAllLaws
import Derived.Laws.Bits64b
import Derived.Lib.TrailingZeros
import Derived.Lib.Bytes
import Derived.Test.YtdkbmchbkkhpoaaWSized
set_option linter.unusedVariables false
set_option linter.unusedSimpArgs false
namespace Go.Proofs.Ytdkbmchbkkhpoaa.Pure
open Go.RowKit Go.Proofs.Ytdkbmchbkkhpoaa.PMrt Go.Proofs.YtdkbmchbkkhpoaaW.PrintWords Go.Proofs.YtdkbmchbkkhpoaaW.PrintLast

open Go.Proofs.Ytdkbmchbkkhpoaa.Flow
def ed (x : S35) : Ed := ⟨x.f0, x.f1, x.f2⟩
theorem ea_ed (l : List S35) {p : Int} (h : 0 ≤ p) : ea (l.map ed) p.toNat = (rd_T35 l p).f0 := by
  unfold ea rd_T35
  rw [List.getD_eq_getElem?_getD, List.getD_eq_getElem?_getD, List.getElem?_map]
  cases l[p.toNat]? <;> rfl
theorem eb_ed (l : List S35) {p : Int} (h : 0 ≤ p) : eb (l.map ed) p.toNat = (rd_T35 l p).f1 := by
  unfold eb rd_T35
  rw [List.getD_eq_getElem?_getD, List.getD_eq_getElem?_getD, List.getElem?_map]
  cases l[p.toNat]? <;> rfl
theorem ec_ed (l : List S35) {p : Int} (h : 0 ≤ p) : ec (l.map ed) p.toNat = (rd_T35 l p).f2 := by
  unfold ec rd_T35
  rw [List.getD_eq_getElem?_getD, List.getD_eq_getElem?_getD, List.getElem?_map]
  cases l[p.toNat]? <;> rfl
theorem rd_split (l : List S35) {p : Int} (h0 : 0 ≤ p) (h1 : p < (l.length : Int)) : l.drop p.toNat = rd_T35 l p :: l.drop (p + 1).toNat := by
  rw [show (p + 1).toNat = p.toNat + 1 by omega, List.drop_eq_getElem_cons (by omega)]
  congr 1
  unfold rd_T35
  rw [List.getD_eq_getElem?_getD, List.getElem?_eq_getElem (by omega)]; rfl
theorem ref01_ev {a b : Int} (a0 : 0 ≤ a) (a1 : a < 4611686018427387904) (b0 : 0 ≤ b) (b1 : b < 4611686018427387904) : blazonref01_Add.f a b = some (a + b, true) := by
  have j : blazonref01_Add.j0 a b false = some (a + b, true) := by
    unfold blazonref01_Add.j0
    rw [if_neg (by decide), wr (by omega) (by omega)]
  unfold blazonref01_Add.f
  rw [wr (x := 9223372036854775807 - b) (by omega) (by omega)]
  by_cases h : b > 0
  · rw [if_pos h, if_neg (by omega), if_neg (by omega), j]
  · rw [if_neg h, if_neg (by omega), j]
theorem ref25_go {n c : Int} (had : List S35) (g : EG n (had.map ed)) (c0 : 0 ≤ c) (c1 : c < Inf) : ∀ (z : Nat) (p acc : Int), 0 ≤ p → p + z = (had.length : Int) → acc = c + Sm (fun e => if ec (had.map ed) e < Inf then ec (had.map ed) e else 0) p.toNat → acc < Inf → 0 ≤ acc →
    Ev (fun k => blazonref25_Add.l0 k had acc p) (fun r => r = if fs (had.map ed) + c ≥ Inf then 18 else 0) := by
  have hI : Inf = 4611686018427387904 := rfl
  have hlen := g.m
  rw [List.length_map] at hlen
  intro z
  induction z with
  | zero =>
    intro p acc p0 pz e e1 e2
    refine Ev.sub 1 ?_
    simp only [blazonref25_Add.l0, if_neg (show ¬ p < (had.length : Int) by omega), if_neg (show ¬ acc ≥ 4611686018427387904 by omega)]
    refine Ev.ret ?_
    have hp : p.toNat = (had.map ed).length := by rw [List.length_map]; omega
    rw [hp] at e
    have : acc = c + fs (had.map ed) := e
    rw [if_neg (by omega)]
  | succ z ih =>
    intro p acc p0 pz e e1 e2
    have hv := g.v p.toNat (by rw [List.length_map]; omega)
    have ec' := ec_ed had p0
    have w : wrap64 (p + 1) = p + 1 := wr (by omega) (by omega)
    refine Ev.sub 1 ?_
    simp only [blazonref25_Add.l0, if_pos (show p < (had.length : Int) by omega), if_pos p0, w, ← ec']
    have hS : Sm (fun e => if ec (had.map ed) e < Inf then ec (had.map ed) e else 0) (p + 1).toNat = Sm (fun e => if ec (had.map ed) e < Inf then ec (had.map ed) e else 0) p.toNat + if ec (had.map ed) p.toNat < Inf then ec (had.map ed) p.toNat else 0 := by
      rw [show (p + 1).toNat = p.toNat + 1 by omega]; rfl
    by_cases h : ec (had.map ed) p.toNat < 4611686018427387904
    · rw [if_pos (show ec (had.map ed) p.toNat < Inf by omega)] at hS
      simp only [if_pos h, ref01_ev e2 (by omega) hv.2.2.2.1 h, Option.bind_some, if_pos (show true = true from rfl)]
      refine Ev.sub 1 ?_
      simp only [blazonref25_Add.j0, w]
      by_cases h' : acc + ec (had.map ed) p.toNat ≥ 4611686018427387904
      · simp only [decide_eq_true h', if_pos trivial]
        refine Ev.ret ?_
        have mono : ∀ (m q : Nat), Sm (fun e => if ec (had.map ed) e < Inf then ec (had.map ed) e else 0) q ≤ Sm (fun e => if ec (had.map ed) e < Inf then ec (had.map ed) e else 0) (q + m) := by
          intro m
          induction m with
          | zero => intro q; exact Int.le_refl _
          | succ m ih =>
            intro q
            have := ih q
            have h0 : 0 ≤ (if ec (had.map ed) (q + m) < Inf then ec (had.map ed) (q + m) else 0) := by
              by_cases hq : q + m < (had.map ed).length
              · have := (g.v _ hq).2.2.2.1
                split <;> omega
              · unfold ec
                rw [List.getD_eq_getElem?_getD, List.getElem?_eq_none (by omega)]
                decide
            rw [show q + (m + 1) = (q + m) + 1 by omega, Sm]
            omega
        have h2 := mono ((had.map ed).length - (p + 1).toNat) (p + 1).toNat
        rw [show (p + 1).toNat + ((had.map ed).length - (p + 1).toNat) = (had.map ed).length by rw [List.length_map]; omega, hS] at h2
        have h3 : fs (had.map ed) = Sm (fun e => if ec (had.map ed) e < Inf then ec (had.map ed) e else 0) (had.map ed).length := rfl
        rw [← h3] at h2
        rw [if_pos (by omega)]
      · simp only [decide_eq_false h', if_neg (show ¬ false = true by decide)]
        exact ih (p + 1) _ (by omega) (by omega) (by rw [hS]; omega) (by omega) (by omega)
    · rw [if_neg (show ¬ ec (had.map ed) p.toNat < Inf by omega)] at hS
      simp only [if_neg h]
      exact ih (p + 1) acc (by omega) (by omega) (by rw [hS]; omega) e1 e2
theorem ref25_ev {n : Int} (had : List S35) (g : EG n (had.map ed)) (a b c : Int) : Ev (fun k => blazonref25_Add.f k n had a b c) (fun r => r = addE n (had.map ed) ⟨a, b, c⟩) := by
  have hI : Inf = 4611686018427387904 := rfl
  have bad : badE n ⟨a, b, c⟩ → Ev (fun k => blazonref25_Add.j1 k c had true) (fun r => r = addE n (had.map ed) ⟨a, b, c⟩) := by
    intro hb
    refine Ev.sub 1 ?_
    simp only [blazonref25_Add.j1, if_pos trivial]
    exact Ev.ret (if_pos hb).symm
  simp only [blazonref25_Add.f]
  by_cases h1 : a < 0
  · simp only [if_pos h1]; exact bad (.inl h1)
  simp only [if_neg h1]
  by_cases h2 : b < 0
  · simp only [if_pos h2]; exact bad (by unfold badE; dsimp only; omega)
  simp only [if_neg h2]
  by_cases h3 : a ≥ n
  · simp only [if_pos h3]; exact bad (by unfold badE; dsimp only; omega)
  simp only [if_neg h3]
  by_cases h4 : b ≥ n
  · simp only [if_pos h4]; exact bad (by unfold badE; dsimp only; omega)
  simp only [if_neg h4]
  by_cases h5 : a = b
  · simp only [if_pos h5]; exact bad (by unfold badE; dsimp only; omega)
  simp only [if_neg h5]
  by_cases h6 : c < 0
  · simp only [if_pos h6]; exact bad (by unfold badE; dsimp only; omega)
  simp only [if_neg h6]
  by_cases h7 : c > 4611686018427387904
  · simp only [decide_eq_true h7]; exact bad (by unfold badE; dsimp only; omega)
  simp only [decide_eq_false h7]
  have nb : ¬ badE n ⟨a, b, c⟩ := by unfold badE; dsimp only; omega
  refine Ev.sub 1 ?_
  simp only [blazonref25_Add.j1, if_neg (show ¬ false = true by decide)]
  by_cases h8 : c = 4611686018427387904
  · simp only [if_pos h8]
    refine Ev.ret ?_
    unfold addE
    rw [if_neg nb, if_pos h8]
  · simp only [if_neg h8]
    refine (ref25_go (c := c) had g (by omega) (by omega) had.length 0 c (Int.le_refl 0) (by omega) (by simp [Sm]) (by omega) (by omega)).mono (fun r h => ?_)
    rw [h]
    unfold addE
    rw [if_neg nb, if_neg h8]
def bldE (n : Int) : List Ed → List Ed → List Ed
  | E, [] => E
  | E, x :: l => if addE n E x = 0 then bldE n (E ++ [x]) l else bldE n E l
theorem built_go {n : Int} (l : List S35) (hl : l.length ≤ 1000) : ∀ (z : Nat) (S : Go.Proofs.Ytdkbmchbkkhpoaa.PMfr.S74) (had : List S35) (p : Int), 0 ≤ p → p + z = (l.length : Int) → (had.length : Int) ≤ p → NetI n (had.map ed) S →
    Ev (fun k => blazonlaw25_built.l0 k n l (some S) had p) (fun r => ∃ S', r.1 = some S' ∧ NetI n (r.2.map ed) S' ∧ r.2.map ed = bldE n (had.map ed) ((l.drop p.toNat).map ed) ∧ S'.f7 = S.f7 ∧ r.2.length ≤ l.length) := by
  intro z
  induction z with
  | zero =>
    intro S had p p0 pz hp hS
    refine Ev.sub 1 ?_
    simp only [blazonlaw25_built.l0, if_neg (show ¬ p < (l.length : Int) by omega)]
    have he : maxflow_Net_Edges.f (some S) = some ((had.length : Int), some S) := by
      show some ((S.f1.length : Int), some S) = _
      rw [hS.c, List.length_map, List.length_map]
    simp only [he, Option.bind_some, if_pos (show (had.length : Int) = had.length from rfl)]
    refine Ev.ret ⟨S, rfl, hS, ?_, rfl, by dsimp only; omega⟩
    rw [List.drop_eq_nil_of_le (by omega)]; rfl
  | succ z ih =>
    intro S had p p0 pz hp hS
    have w : wrap64 (p + 1) = p + 1 := wr (by omega) (by omega)
    have pl : p < (l.length : Int) := by omega
    refine Ev.sub 1 ?_
    simp only [blazonlaw25_built.l0, if_pos pl, if_pos p0, w]
    rw [rd_split l p0 pl]
    refine (add_ev hS (by rw [List.length_map]; omega) (ed (rd_T35 l p))).bind ?_
    rintro ⟨i, e, x'⟩ ⟨h1, h2, h3⟩
    dsimp only at h1 h2 h3 ⊢
    refine (ref25_ev had hS.g (rd_T35 l p).f0 (rd_T35 l p).f1 (rd_T35 l p).f2).bind ?_
    rintro r hr
    have hr' : r = addE n (had.map ed) (ed (rd_T35 l p)) := hr
    simp only [if_pos (show e = r by rw [h1, hr'])]
    rw [List.map_cons, bldE]
    by_cases h0 : addE n (had.map ed) (ed (rd_T35 l p)) = 0
    · obtain ⟨hi, S', hx, hS', h7⟩ := h2 h0
      subst hx
      rw [List.length_map] at hi
      rw [if_pos h0]
      simp only [if_pos (show e = 0 by omega), if_pos hi]
      refine Ev.sub 1 ?_
      simp only [blazonlaw25_built.j0, if_neg (show ¬ false = true by decide), if_pos (show e = 0 by omega), if_pos p0, if_pos pl, if_pos (show had.length < 5864062014805 by omega), Option.bind_some, w]
      have hm : (had ++ [(⟨(rd_T35 l p).f0, (rd_T35 l p).f1, (rd_T35 l p).f2⟩ : S35)]).map ed = had.map ed ++ [ed (rd_T35 l p)] := by rw [List.map_append]; rfl
      refine (ih S' (had ++ [⟨(rd_T35 l p).f0, (rd_T35 l p).f1, (rd_T35 l p).f2⟩]) (p + 1) (by omega) (by omega) (by rw [List.length_append, List.length_singleton]; omega) (by rw [hm]; exact hS')).mono ?_
      rintro r ⟨S'', a, b, c, d, e'⟩
      exact ⟨S'', a, b, by rw [c, hm], d.trans h7, e'⟩
    · obtain ⟨hi, hx⟩ := h3 h0
      subst hx
      rw [if_neg h0]
      simp only [if_neg (show ¬ e = 0 by omega), hi, show (!decide ((0 : Int) = 0)) = false by decide]
      refine Ev.sub 1 ?_
      simp only [blazonlaw25_built.j0, if_neg (show ¬ false = true by decide), if_neg (show ¬ e = 0 by omega), w]
      exact ih S had (p + 1) (by omega) (by omega) (by omega) hS
theorem new_ev {n : Int} (h1 : 1 ≤ n) (h2 : n ≤ 65536) : ∃ S, maxflow_New.f n = some (some S) ∧ NetI n [] S ∧ S.f7.f0 = 0 := by
  have e : maxflow_New.f n = some (some ⟨[], [], List.replicate n.toNat [], 0, false, [], [], ⟨0⟩⟩) := by
    unfold maxflow_New.f Go.Proofs.Ytdkbmchbkkhpoaa.PMfr.New.f Go.Proofs.Ytdkbmchbkkhpoaa.PMfr.New.j0
    rw [if_neg (by omega), decide_eq_false (by omega), if_neg (by decide), if_pos (by omega), if_pos (by omega)]
    rfl
  refine ⟨_, e, ⟨⟨h1, h2, by simp, fun e he => absurd he (by simp), by decide⟩, ⟨rfl, fun j a b => by simp at b; omega⟩, rfl, ⟨by rw [List.length_replicate]; omega, fun v j a b => ?_, fun v => ?_⟩, rfl⟩, rfl⟩
  · have : Go.Proofs.Ytdkbmchbkkhpoaa.PMfr.rd_L4 (List.replicate n.toNat []) v = [] := by
      unfold Go.Proofs.Ytdkbmchbkkhpoaa.PMfr.rd_L4
      rw [List.getD_eq_getElem?_getD, List.getElem?_replicate]
      split <;> rfl
    show j ∈ Go.Proofs.Ytdkbmchbkkhpoaa.PMfr.rd_L4 (List.replicate n.toNat []) v ↔ _
    rw [this]
    exact ⟨fun h => absurd h (by simp), fun h => by have := h.2.1; simp at this; omega⟩
  · have : Go.Proofs.Ytdkbmchbkkhpoaa.PMfr.rd_L4 (List.replicate n.toNat []) v = [] := by
      unfold Go.Proofs.Ytdkbmchbkkhpoaa.PMfr.rd_L4
      rw [List.getD_eq_getElem?_getD, List.getElem?_replicate]
      split <;> rfl
    show (Go.Proofs.Ytdkbmchbkkhpoaa.PMfr.rd_L4 (List.replicate n.toNat []) v).length ≤ _
    rw [this]; exact Nat.zero_le _
theorem built_ev {n : Int} (h1 : 1 ≤ n) (h2 : n ≤ 65536) (l : List S35) (hl : l.length ≤ 1000) : Ev (fun k => blazonlaw25_built.f k n l) (fun r => ∃ S', r.1 = some S' ∧ NetI n (r.2.map ed) S' ∧ r.2.map ed = bldE n [] (l.map ed) ∧ S'.f7.f0 = 0 ∧ r.2.length ≤ l.length) := by
  obtain ⟨S, e, hS, h7⟩ := new_ev h1 h2
  simp only [blazonlaw25_built.f, e, Option.bind_some, onOpt]
  refine (built_go l hl l.length S [] 0 (Int.le_refl 0) (by omega) (by simp) hS).mono ?_
  rintro r ⟨S', a, b, c, d, f⟩
  exact ⟨S', a, b, c, by rw [d]; exact h7, f⟩
theorem awake_tells (k : Nat) : blazonlaw25_awake.f (k + 60) = some true := by kernel_rfl
theorem awake_ev : Ev (fun k => blazonlaw25_awake.f k) (fun r => r = true) := Ev.sub 60 ⟨true, rfl, 0, fun k _ => awake_tells k⟩
theorem Ev.okay {F : Nat → Option Bool} (h : Ev F (fun r => r = true)) : ∃ k, F k = some true := by
  obtain ⟨k, r, e, hr⟩ := h.out
  exact ⟨k, by rw [e, hr]⟩
theorem awake_end : Ev (fun k => (blazonlaw25_awake.f k).bind fun t => some t) (fun r => r = true) := awake_ev.bind (fun r h => Ev.ret h)
section
variable {n s t : Int} {l : List S35}
theorem cut_go (g : EG n (l.map ed)) {B : List Bool} (hB : (B.length : Int) = n) : ∀ (z : Nat) (p acc : Int), 0 ≤ p → p + z = (l.length : Int) → (∀ e : Nat, (e : Int) < p → rdOf false B (ea (l.map ed) e) = true → rdOf false B (eb (l.map ed) e) = false → ec (l.map ed) e < Inf) → acc = Sm (fun e => if rdOf false B (ea (l.map ed) e) = true ∧ rdOf false B (eb (l.map ed) e) = false then ec (l.map ed) e else 0) p.toNat →
    Ev (fun k => blazonref25_Cut.l0 k l B acc p) (fun r => (Fin1 (l.map ed) (rdOf false B) → r = CutV (l.map ed) (rdOf false B)) ∧ (¬ Fin1 (l.map ed) (rdOf false B) → r = -1)) := by
  have hm := g.m
  rw [List.length_map] at hm
  have hI : Inf = 4611686018427387904 := rfl
  have hs := g.s
  intro z
  induction z with
  | zero =>
    intro p acc p0 pz hf he
    refine Ev.sub 1 ?_
    simp only [blazonref25_Cut.l0, if_neg (show ¬ p < (l.length : Int) by omega)]
    have e : p.toNat = (l.map ed).length := by rw [List.length_map]; omega
    rw [e] at he
    refine Ev.ret ⟨fun _ => he, fun h => absurd (fun e' he' => hf e' (by rw [List.length_map] at he'; omega)) h⟩
  | succ z ih =>
    intro p acc p0 pz hf he
    have pl : p < (l.length : Int) := by omega
    have hv := g.v p.toNat (by rw [List.length_map]; omega)
    have w : wrap64 (p + 1) = p + 1 := wr (by omega) (by omega)
    have hS : Sm (fun e => if rdOf false B (ea (l.map ed) e) = true ∧ rdOf false B (eb (l.map ed) e) = false then ec (l.map ed) e else 0) (p + 1).toNat = Sm (fun e => if rdOf false B (ea (l.map ed) e) = true ∧ rdOf false B (eb (l.map ed) e) = false then ec (l.map ed) e else 0) p.toNat + if rdOf false B (ea (l.map ed) p.toNat) = true ∧ rdOf false B (eb (l.map ed) p.toNat) = false then ec (l.map ed) p.toNat else 0 := by
      rw [show (p + 1).toNat = p.toNat + 1 by omega]; rfl
    refine Ev.sub 1 ?_
    simp only [blazonref25_Cut.l0, if_pos pl, if_pos p0, ← ea_ed l p0, ← eb_ed l p0, if_pos hv.1.1, if_pos (show ea (l.map ed) p.toNat < (B.length : Int) by omega), if_pos hv.2.1.1, if_pos (show eb (l.map ed) p.toNat < (B.length : Int) by omega)]
    have skip : ¬ (rdOf false B (ea (l.map ed) p.toNat) = true ∧ rdOf false B (eb (l.map ed) p.toNat) = false) → Ev (fun k => blazonref25_Cut.j0 k l B acc p false) (fun r => (Fin1 (l.map ed) (rdOf false B) → r = CutV (l.map ed) (rdOf false B)) ∧ (¬ Fin1 (l.map ed) (rdOf false B) → r = -1)) := by
      intro hn
      refine Ev.sub 1 ?_
      simp only [blazonref25_Cut.j0, if_neg (show ¬ false = true by decide), w]
      refine ih (p + 1) acc (by omega) (by omega) (fun e e1 h1 h2 => ?_) (by rw [hS, if_neg hn, Int.add_zero]; exact he)
      by_cases hp : (e : Int) < p
      · exact hf e hp h1 h2
      · rw [show e = p.toNat by omega] at h1 h2; exact absurd ⟨h1, h2⟩ hn
    by_cases h1 : rdOf false B (ea (l.map ed) p.toNat) = true
    · simp only [if_pos h1]
      by_cases h2 : rdOf false B (eb (l.map ed) p.toNat) = true
      · simp only [h2, show (!true) = false from rfl]
        exact skip (fun h => by rw [h2] at h; exact absurd h.2 (by decide))
      · have h2' : rdOf false B (eb (l.map ed) p.toNat) = false := by simpa using h2
        simp only [h2', show (!false) = true from rfl]
        rw [if_pos ⟨h1, h2'⟩] at hS
        refine Ev.sub 1 ?_
        simp only [blazonref25_Cut.j0, if_pos trivial, if_pos p0, if_pos pl, ← ec_ed l p0, w]
        by_cases h3 : ec (l.map ed) p.toNat = 4611686018427387904
        · simp only [if_pos h3]
          refine Ev.ret ⟨fun h => ?_, fun _ => rfl⟩
          have := h p.toNat (by rw [List.length_map]; omega) h1 h2'
          omega
        · simp only [if_neg h3]
          have b0 : 0 ≤ acc := by
            rw [he]
            exact Sm.nonneg (fun e he => by
              have := (g.v e (by rw [List.length_map]; omega)).2.2.2.1
              split <;> omega)
          have b1 : acc ≤ fs (l.map ed) := by
            have mono : ∀ q : Nat, q ≤ (l.map ed).length → (∀ e : Nat, e < q → rdOf false B (ea (l.map ed) e) = true → rdOf false B (eb (l.map ed) e) = false → ec (l.map ed) e < Inf) → Sm (fun e => if rdOf false B (ea (l.map ed) e) = true ∧ rdOf false B (eb (l.map ed) e) = false then ec (l.map ed) e else 0) q ≤ fs (l.map ed) := by
              intro q hq hfq
              have h4 := Sm.mono (f := fun e => if rdOf false B (ea (l.map ed) e) = true ∧ rdOf false B (eb (l.map ed) e) = false ∧ e < q then ec (l.map ed) e else 0) (g := fun e => if ec (l.map ed) e < Inf then ec (l.map ed) e else 0) (n := (l.map ed).length) (fun e he => by
                have h0 := (g.v e he).2.2.2.1
                by_cases hx : rdOf false B (ea (l.map ed) e) = true ∧ rdOf false B (eb (l.map ed) e) = false ∧ e < q
                · rw [if_pos hx, if_pos (hfq e hx.2.2 hx.1 hx.2.1)]; exact Int.le_refl _
                · rw [if_neg hx]; split <;> omega)
              have h5 : ∀ z : Nat, Sm (fun e => if rdOf false B (ea (l.map ed) e) = true ∧ rdOf false B (eb (l.map ed) e) = false ∧ e < q then ec (l.map ed) e else 0) (q + z) = Sm (fun e => if rdOf false B (ea (l.map ed) e) = true ∧ rdOf false B (eb (l.map ed) e) = false then ec (l.map ed) e else 0) q := by
                intro z
                induction z with
                | zero =>
                  refine Sm.congr (fun e he => ?_)
                  by_cases hx : rdOf false B (ea (l.map ed) e) = true ∧ rdOf false B (eb (l.map ed) e) = false
                  · rw [if_pos ⟨hx.1, hx.2, he⟩, if_pos hx]
                  · rw [if_neg (fun h => hx ⟨h.1, h.2.1⟩), if_neg hx]
                | succ z ih => rw [show q + (z + 1) = (q + z) + 1 by omega, Sm, ih, if_neg (fun h => by omega), Int.add_zero]
              have h6 := h5 ((l.map ed).length - q)
              rw [show q + ((l.map ed).length - q) = (l.map ed).length by omega] at h6
              rw [h6] at h4
              exact h4
            rw [he]
            exact mono p.toNat (by rw [List.length_map]; omega) (fun e e1 => hf e (by omega))
          rw [wr (by omega) (by omega)]
          refine ih (p + 1) _ (by omega) (by omega) (fun e e1 h1' h2' => ?_) (by rw [hS, he])
          by_cases hp : (e : Int) < p
          · exact hf e hp h1' h2'
          · rw [show e = p.toNat by omega]; omega
    · have h1' : rdOf false B (ea (l.map ed) p.toNat) = false := by simpa using h1
      simp only [if_neg h1]
      exact skip (fun h => h1 h.1)
end
theorem wr_add (a b : Int) : wrap64 (wrap64 a + b) = wrap64 (a + b) := by unfold wrap64; omega
theorem wr_sub (a b : Int) : wrap64 (wrap64 a - b) = wrap64 (a - b) := by unfold wrap64; omega
def X1 (u x : Int) : Int := if x = u then 1 else 0
def ov (E : List Ed) (f : Nat → Int) (u : Int) (p : Nat) : Int := Sm (fun e => f e * (X1 u (eb E e) - X1 u (ea E e))) p
theorem ov_end {E : List Ed} {s t v : Int} {f : Nat → Int} (hf : FL E s t f v) (u : Int) : ov E f u E.length = v * (X1 u t - X1 u s) := by
  have := hf.k (fun x => - X1 u x)
  rw [show v * (X1 u t - X1 u s) = v * (-X1 u s - -X1 u t) by congr 1; omega, ← this]
  unfold ov
  exact Sm.congr (fun e he => by congr 1; omega)
theorem flow_on {S : Go.Proofs.Ytdkbmchbkkhpoaa.PMfr.S74} {n : Int} {E : List Ed} (hS : NetI n E S) (h4 : S.f4 = true) {p : Int} (p0 : 0 ≤ p) (p1 : p < (E.length : Int)) : maxflow_Net_Flow.f (some S) p = some (rm S.f0 (2 * p + 1), some S) := by
  show ((if S.f4 = true then (if p < 0 then (some 0) else (if p ≥ (S.f1.length : Int) then (some 0) else (if 0 ≤ (wrap64 ((wrap64 (2 * p)) + 1)) then (if (wrap64 ((wrap64 (2 * p)) + 1)) < (S.f0.length : Int) then (some ((Go.Proofs.Ytdkbmchbkkhpoaa.PMfr.rd_T78 S.f0 (wrap64 ((wrap64 (2 * p)) + 1))).f1)) else (none)) else (none)))) else (some 0)) : Option Int).bind (fun r => some (r, some S)) = _
  have hm := hS.g.m
  have hl := hS.a.l
  rw [if_pos h4, if_neg (by omega), if_neg (by rw [hS.c, List.length_map]; omega), wr (x := 2 * p) (by omega) (by omega), wr (x := 2 * p + 1) (by omega) (by omega), if_pos (by omega), if_pos (by omega)]
  rfl
theorem flow_out {S : Go.Proofs.Ytdkbmchbkkhpoaa.PMfr.S74} {n : Int} {E : List Ed} (hS : NetI n E S) {p : Int} (h : p < 0 ∨ p ≥ (E.length : Int)) : maxflow_Net_Flow.f (some S) p = some (0, some S) := by
  show ((if S.f4 = true then (if p < 0 then (some 0) else (if p ≥ (S.f1.length : Int) then (some 0) else (if 0 ≤ (wrap64 ((wrap64 (2 * p)) + 1)) then (if (wrap64 ((wrap64 (2 * p)) + 1)) < (S.f0.length : Int) then (some ((Go.Proofs.Ytdkbmchbkkhpoaa.PMfr.rd_T78 S.f0 (wrap64 ((wrap64 (2 * p)) + 1))).f1)) else (none)) else (none)))) else (some 0)) : Option Int).bind (fun r => some (r, some S)) = _
  by_cases h4 : S.f4 = true
  · rw [if_pos h4]
    by_cases h0 : p < 0
    · rw [if_pos h0]; rfl
    · rw [if_neg h0, if_pos (by rw [hS.c, List.length_map]; omega)]; rfl
  · rw [if_neg h4]; rfl
section
variable {n s t v st : Int} {had : List S35} {S : Go.Proofs.Ytdkbmchbkkhpoaa.PMfr.S74}
theorem right_end (hS : NetI n (had.map ed) S) (h4 : S.f4 = true) (ga : AG (had.map ed) S.f0) (hk : ∀ X, Ph (had.map ed) S.f0 X = v * (X s - X t)) (hlt : v < Inf) (hv0 : 0 ≤ v) (h60 : n ≤ 60) (h200 : had.length ≤ 200) (s0 : 0 ≤ s) (s1 : s < n) (t0 : 0 ≤ t) (t1 : t < n) (hst : s ≠ t) (hL : ∃ L, BI n (had.map ed) s (psR S.f0) (fun _ => True) L [] ∧ rd L t = 0) {zz : Nat} (z1 : 1 ≤ zz) (z2 : (zz : Int) ≤ n * kk n (had.map ed) + 4 * n + 1) (hz : S.f7.f0 = it zz 0) {over : List Int} (ho : (over.length : Int) = n) (hov : ∀ u, 0 ≤ u → u < n → rd over u = wrap64 (ov (had.map ed) (fun e => rm S.f0 (2 * (e : Int) + 1)) u (had.map ed).length)) : ∀ (z : Nat) (i : Int), 0 ≤ i → i + z = n → Ev (fun k => blazonlaw25_MaxflowRight.l0 k n s t had 0 v (some S) over i) (fun r => r = true) := by
  have hI : Inf = 4611686018427387904 := rfl
  have hn1 := hS.g.n1
  have hfl := ga.fl hk
  have val : ∀ u, 0 ≤ u → u < n → rd over u = wrap64 (v * (X1 u t - X1 u s)) := fun u u0 u1 => by rw [hov u u0 u1, ov_end hfl]
  intro z
  induction z with
  | zero =>
    intro i i0 iz
    refine Ev.sub 1 ?_
    simp only [blazonlaw25_MaxflowRight.l0, if_neg (show ¬ i < n by omega)]
    refine (side_ev (S := S) hS ga s0 s1).bind ?_
    rintro ⟨side, x'⟩ ⟨L2, z', bi2, hside, hz', hx'⟩
    dsimp only at hside hx' ⊢
    subst hx'
    obtain ⟨L, bi, hLt⟩ := hL
    have hl2 := bi2.l
    have e1 : rd over t = v := by
      rw [val t t0 t1]; unfold X1
      rw [if_pos rfl, if_neg hst, show v * (1 - 0) = v by omega]; exact wr (by omega) (by omega)
    have e2 : rd over s = -v := by
      rw [val s s0 s1]; unfold X1
      rw [if_pos rfl, if_neg (fun h => hst h.symm), show v * (0 - 1) = -v by omega]; exact wr (by omega) (by omega)
    have hsl : (side.length : Int) = n := by rw [hside, List.length_map]; exact hl2
    have bs : ∀ u, 0 ≤ u → u < n → rdOf false side u = decide (0 < rd L2 u) := fun u u0 u1 => by
      rw [hside]
      unfold rdOf rd
      rw [List.getD_eq_getElem?_getD, List.getElem?_map, List.getElem?_eq_getElem (by omega), List.getD_eq_getElem?_getD, List.getElem?_eq_getElem (by omega)]; rfl
    have f1 : rdOf false side s = true := by rw [bs s s0 s1, bi2.s1]; rfl
    have f2 : rdOf false side t = false := by
      rw [bs t t0 t1]
      refine decide_eq_false (fun h => ?_)
      have := reach_in hS.g bi bi2 (rd L2 t - 1).toNat t t0 t1 (by omega)
      omega
    have hm : (had.map ed).length = had.length := by rw [List.length_map]
    have kb : n * kk n (had.map ed) ≤ 60 * 2000000 := by
      have h1 : n * (2 * ((had.map ed).length : Int)) ≤ 60 * 400 := Int.le_trans (Int.mul_le_mul_of_nonneg_right h60 (by omega)) (Int.mul_le_mul_of_nonneg_left (by omega) (by omega))
      have h2 : (n * (2 * ((had.map ed).length : Int)) + 1 + 2 * ((had.map ed).length : Int)) * (n + 2) ≤ 24401 * 62 := Int.le_trans (Int.mul_le_mul_of_nonneg_right (c := n + 2) (show n * (2 * ((had.map ed).length : Int)) + 1 + 2 * ((had.map ed).length : Int) ≤ 24401 by omega) (by omega)) (Int.mul_le_mul_of_nonneg_left (by omega) (by omega))
      have h3 : kk n (had.map ed) ≤ 2000000 := by unfold kk; omega
      have h0 : 0 ≤ kk n (had.map ed) := by
        have a1 : 0 ≤ n * (2 * ((had.map ed).length : Int)) := Int.mul_nonneg (by omega) (by omega)
        have a2 : 0 ≤ (n * (2 * ((had.map ed).length : Int)) + 1 + 2 * ((had.map ed).length : Int)) * (n + 2) := Int.mul_nonneg (by omega) (by omega)
        unfold kk; omega
      exact Int.le_trans (Int.mul_le_mul_of_nonneg_right h60 h0) (Int.mul_le_mul_of_nonneg_left h3 (by omega))
    have hsteps : it z' S.f7.f0 = (zz : Int) + z' := by
      rw [hz, it_val zz 0 (by omega) (by omega), it_val z' _ (by omega) (by omega)]; omega
    have stp : maxflow_Net_Steps.f (some ⟨S.f0, S.f1, S.f2, S.f3, S.f4, S.f5, S.f6, ⟨(zz : Int) + z'⟩⟩) = some ((zz : Int) + z', some ⟨S.f0, S.f1, S.f2, S.f3, S.f4, S.f5, S.f6, ⟨(zz : Int) + z'⟩⟩) := rfl
    simp only [hsteps]
    simp only [if_pos t0, if_pos (show t < (over.length : Int) by omega), if_pos e1, if_pos s0, if_pos (show s < (over.length : Int) by omega), e2, wr (x := -v) (by omega) (by omega), if_pos (show -v = -v from rfl), if_pos hsl, if_pos (show s < (side.length : Int) by omega), if_pos f1, if_pos (show t < (side.length : Int) by omega), f2, if_neg (show ¬ false = true by decide), stp, Option.bind_some, decide_eq_false (show ¬ (zz : Int) + z' ≤ 0 by omega)]
    refine Ev.sub 1 ?_
    have soff : ∀ k, maxflow_Net_Side.f k (some ⟨S.f0, S.f1, S.f2, S.f3, S.f4, S.f5, S.f6, ⟨(zz : Int) + z'⟩⟩) (-1) = some ([], some ⟨S.f0, S.f1, S.f2, S.f3, S.f4, S.f5, S.f6, ⟨(zz : Int) + z'⟩⟩) := fun k => side_off (S := ⟨S.f0, S.f1, S.f2, S.f3, S.f4, S.f5, S.f6, ⟨(zz : Int) + z'⟩⟩) ⟨hS.g, hS.a, hS.c, hS.t, hS.s⟩ k
    have fo : ∀ p, p < 0 ∨ p ≥ (had.length : Int) → maxflow_Net_Flow.f (some ⟨S.f0, S.f1, S.f2, S.f3, S.f4, S.f5, S.f6, ⟨(zz : Int) + z'⟩⟩) p = some (0, some ⟨S.f0, S.f1, S.f2, S.f3, S.f4, S.f5, S.f6, ⟨(zz : Int) + z'⟩⟩) := fun p hp => flow_out (S := ⟨S.f0, S.f1, S.f2, S.f3, S.f4, S.f5, S.f6, ⟨(zz : Int) + z'⟩⟩) (n := n) (E := had.map ed) ⟨hS.g, hS.a, hS.c, hS.t, hS.s⟩ (by rw [List.length_map]; exact hp)
    simp only [blazonlaw25_MaxflowRight.j3, if_neg (show ¬ false = true by decide), soff, Option.bind_some, if_pos (show (([] : List Bool).length : Int) = 0 from rfl), fo (-1) (.inl (by decide)), if_pos (show (0 : Int) = 0 from rfl), fo (had.length : Int) (.inr (Int.le_refl _)), decide_eq_true (show (0 : Int) = 0 from rfl), show (!true) = false from rfl]
    refine Ev.sub 1 ?_
    simp only [blazonlaw25_MaxflowRight.j2, if_neg (show ¬ false = true by decide), blazonref25_Cut.f]
    refine (cut_go hS.g hsl had.length 0 0 (Int.le_refl 0) (by omega) (fun e he => by omega) rfl).bind ?_
    rintro w ⟨w1, w2⟩
    have hcut := ga.cut hS.g hk (C := rdOf false side) f1 f2 (fun j j0 j1 hp hc => by
      obtain ⟨a, b, c, d, _⟩ := hS.g.arc j0 j1
      rw [bs _ c d] at hc
      rw [bs _ a b]
      exact decide_eq_true (bi2.c j j0 j1 hp (of_decide_eq_true hc) (by simp) trivial).1)
    have hw : w = v := by rw [w1 (hcut.2 hlt).2.2, hcut.1]
    simp only [if_pos hw]
    exact awake_end
  | succ z ih =>
    intro i i0 iz
    have w : wrap64 (i + 1) = i + 1 := wr (by omega) (by omega)
    have next : Ev (fun k => blazonlaw25_MaxflowRight.j1 k n s t had 0 v (some S) over i false) (fun r => r = true) := by
      refine Ev.sub 1 ?_
      simp only [blazonlaw25_MaxflowRight.j1, if_neg (show ¬ false = true by decide), w]
      exact ih (i + 1) (by omega) (by omega)
    refine Ev.sub 1 ?_
    simp only [blazonlaw25_MaxflowRight.l0, if_pos (show i < n by omega)]
    by_cases h1 : i = s
    · simp only [if_pos h1]; exact h1 ▸ next
    simp only [if_neg h1]
    by_cases h2 : i = t
    · simp only [if_pos h2]; exact h2 ▸ next
    have e : rd over i = 0 := by
      rw [val i i0 (by omega)]; unfold X1
      rw [if_neg (fun h => h2 h.symm), if_neg (fun h => h1 h.symm), Int.sub_self, Int.mul_zero]; exact wr (by decide) (by decide)
    simp only [if_neg h2, if_pos i0, if_pos (show i < (over.length : Int) by omega), e, decide_eq_true (show (0 : Int) = 0 from rfl), show (!true) = false from rfl]
    exact next
theorem right_go (hS : NetI n (had.map ed) S) (h4 : S.f4 = true) (ga : AG (had.map ed) S.f0) (hk : ∀ X, Ph (had.map ed) S.f0 X = v * (X s - X t)) {Q : Bool → Prop} (H : ∀ over : List Int, (over.length : Int) = n → (∀ u, 0 ≤ u → u < n → rd over u = wrap64 (ov (had.map ed) (fun e => rm S.f0 (2 * (e : Int) + 1)) u (had.map ed).length)) → Ev (fun k => blazonlaw25_MaxflowRight.l0 k n s t had st v (some S) over 0) Q) : ∀ (z : Nat) (over : List Int) (p : Int), 0 ≤ p → p + z = (had.length : Int) → (over.length : Int) = n → (∀ u, 0 ≤ u → u < n → rd over u = wrap64 (ov (had.map ed) (fun e => rm S.f0 (2 * (e : Int) + 1)) u p.toNat)) → Ev (fun k => blazonlaw25_MaxflowRight.l1 k n s t had st v (some S) over p) Q := by
  have hm : (had.map ed).length = had.length := by rw [List.length_map]
  have hmm := hS.g.m
  intro z
  induction z with
  | zero =>
    intro over p p0 pz ho hov
    refine Ev.sub 1 ?_
    simp only [blazonlaw25_MaxflowRight.l1, if_neg (show ¬ p < (had.length : Int) by omega)]
    exact H over ho (by rw [show (had.map ed).length = p.toNat by omega]; exact hov)
  | succ z ih =>
    intro over p p0 pz ho hov
    have pl : p < (had.length : Int) := by omega
    have hv := hS.g.v p.toNat (by omega)
    have hf := (ga.fl hk).b p.toNat (by omega)
    rw [show ((p.toNat : Nat) : Int) = p by omega] at hf
    have w : wrap64 (p + 1) = p + 1 := wr (by omega) (by omega)
    refine Ev.sub 1 ?_
    simp only [blazonlaw25_MaxflowRight.l1, if_pos pl, flow_on hS h4 p0 (by omega), Option.bind_some, if_neg (show ¬ rm S.f0 (2 * p + 1) < 0 by omega), if_pos p0, ← ec_ed had p0, decide_eq_false (show ¬ rm S.f0 (2 * p + 1) > ec (had.map ed) p.toNat by omega)]
    refine Ev.sub 1 ?_
    simp only [blazonlaw25_MaxflowRight.j0, if_neg (show ¬ false = true by decide), if_pos p0, if_pos pl, ← ea_ed had p0, ← eb_ed had p0, if_pos hv.1.1, if_pos (show ea (had.map ed) p.toNat < (over.length : Int) by omega), Option.bind_some, if_pos hv.2.1.1, List.length_set, if_pos (show eb (had.map ed) p.toNat < (over.length : Int) by omega), w]
    refine ih _ (p + 1) (by omega) (by omega) (by rw [List.length_set, List.length_set]; exact ho) (fun u u0 u1 => ?_)
    have hne := hv.2.2.1
    have hS' : ov (had.map ed) (fun e => rm S.f0 (2 * (e : Int) + 1)) u (p + 1).toNat = ov (had.map ed) (fun e => rm S.f0 (2 * (e : Int) + 1)) u p.toNat + rm S.f0 (2 * p + 1) * (X1 u (eb (had.map ed) p.toNat) - X1 u (ea (had.map ed) p.toNat)) := by
      rw [show (p + 1).toNat = p.toNat + 1 by omega]
      unfold ov
      rw [Sm]
      dsimp only
      rw [show ((p.toNat : Nat) : Int) = p by omega]
    have eb' : rd (over.set (ea (had.map ed) p.toNat).toNat (wrap64 (rd over (ea (had.map ed) p.toNat) - rm S.f0 (2 * p + 1)))) (eb (had.map ed) p.toNat) = rd over (eb (had.map ed) p.toNat) := by
      rw [rd_set _ hv.1.1 (by omega) hv.2.1.1, if_neg (fun h => hne h.symm)]
    rw [eb', hS', rd_set _ hv.2.1.1 (by rw [List.length_set]; omega) u0, rd_set _ hv.1.1 (by omega) u0, hov _ hv.1.1 hv.1.2, hov _ hv.2.1.1 hv.2.1.2, hov u u0 u1]
    unfold X1
    by_cases h1 : u = eb (had.map ed) p.toNat
    · rw [if_pos h1, if_pos h1.symm, if_neg (show ¬ ea (had.map ed) p.toNat = u from fun h => hne (h.trans h1)), ← h1, show rm S.f0 (2 * p + 1) * (1 - 0) = rm S.f0 (2 * p + 1) by omega, wr_add]
    · rw [if_neg h1, if_neg (show ¬ eb (had.map ed) p.toNat = u from fun h => h1 h.symm)]
      by_cases h2 : u = ea (had.map ed) p.toNat
      · rw [if_pos h2, if_pos h2.symm, ← h2, show rm S.f0 (2 * p + 1) * (0 - 1) = -rm S.f0 (2 * p + 1) by omega, wr_sub]; rfl
      · rw [if_neg h2, if_neg (show ¬ ea (had.map ed) p.toNat = u from fun h => h2 h.symm), Int.sub_self, Int.mul_zero, Int.add_zero]
end
theorem MaxflowRight : blazonlaw25_MaxflowRight.Pure := by
  intro n l s t _ _ _ _ _ _
  refine Ev.okay ?_
  simp only [blazonlaw25_MaxflowRight.f]
  have out : Ev (fun k => blazonlaw25_MaxflowRight.j4 k n s t l true) (fun r => r = true) := by
    refine Ev.sub 1 ?_
    simp only [blazonlaw25_MaxflowRight.j4, if_pos trivial]
    exact awake_end
  by_cases h1 : n < 1
  · simp only [if_pos h1]; exact out
  simp only [if_neg h1]
  by_cases h2 : n > 60
  · simp only [if_pos h2]; exact out
  simp only [if_neg h2]
  by_cases h3 : (l.length : Int) > 200
  · simp only [decide_eq_true h3]; exact out
  simp only [decide_eq_false h3]
  refine Ev.sub 1 ?_
  simp only [blazonlaw25_MaxflowRight.j4, if_neg (show ¬ false = true by decide)]
  refine (built_ev (n := n) (by omega) (by omega) l (by omega)).bind ?_
  rintro ⟨x, had⟩ ⟨S, rfl, hS, _, h7, hlen⟩
  dsimp only [onOpt] at hS h7 hlen ⊢
  have hst : maxflow_Net_Steps.f (some S) = some (0, some S) := by
    show some (S.f7.f0, some S) = _
    rw [h7]
  simp only [hst, Option.bind_some]
  refine (max_ev2 hS s t).bind ?_
  rintro ⟨v, e, x'⟩ ⟨S1, hx, hS1, b1, b2, b3⟩
  dsimp only at hx b1 b2 b3 ⊢
  subst hx
  by_cases hb : badP n s t
  · obtain ⟨c1, c2, _⟩ := b1 hb
    simp only [if_neg (show ¬ e = 0 by omega), if_pos c1]
    exact awake_end
  by_cases he : Endl (had.map ed) s t
  · obtain ⟨c1, c2, _⟩ := b2 hb he
    simp only [if_neg (show ¬ e = 0 by omega), if_pos c1]
    exact awake_end
  obtain ⟨c1, c2, m1, ga, hk, L, bi, hLt, zz, z1, z2, hz⟩ := b3 hb he
  have hg := hS.g
  obtain ⟨C, hC, hCv⟩ := m1.2
  have v0 : 0 ≤ v := by rw [← hCv]; exact CutV.nonneg hg
  have v1 : v ≤ fs (had.map ed) := by rw [← hCv]; exact CutV.fs hg hC.2.2
  have hs := hg.s
  have hb' := hb
  unfold badP at hb'
  simp only [if_pos c1, if_pos (show 0 ≤ n by omega), if_pos (show n.toNat * 8 ≤ 281474976710656 by omega)]
  have hrl : (List.replicate n.toNat (0 : Int)).length = n.toNat := List.length_replicate
  refine right_go (s := s) (t := t) hS1 c2 ga hk (fun over ho hov => right_end hS1 c2 ga hk (by omega) v0 (by omega) (by omega) (by omega) (by omega) (by omega) (by omega) (by omega) ⟨L, bi, hLt⟩ z1 z2 (by rw [hz, h7]) ho hov n.toNat 0 (Int.le_refl 0) (by omega)) had.length _ 0 (Int.le_refl 0) (by omega) (by omega) (fun u u0 u1 => ?_)
  have e0 : ov (had.map ed) (fun e => rm S1.f0 (2 * (e : Int) + 1)) u (0 : Int).toNat = 0 := rfl
  rw [e0, wr (x := 0) (by decide) (by decide)]
  unfold rd
  rw [List.getD_eq_getElem?_getD, List.getElem?_replicate]
  split <;> rfl

end Go.Proofs.Ytdkbmchbkkhpoaa.Pure
