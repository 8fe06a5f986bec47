/- The greatest flow of any net of a few points is the least of all cuts; where edges without a bound lead all the way it is refused. -/
import Derived.Test.YtdkbmchbkkhpoaaPMlsx1
import Derived.Test.YtdkbmchbkkhpoaaPMlsx2
import Derived.Test.YtdkbmchbkkhpoaaPMlsx3
import Derived.Test.YtdkbmchbkkhpoaaFlG
import Derived.OpenShut
import Derived.Laws.BitsLemmas
import Derived.Laws.BitsAllLaws
import Derived.Laws.Bits64b
import Derived.Lib.TrailingZeros
import Derived.Lib.Bytes
import Derived.Test.YtdkbmchbkkhpoaaWSized
set_option linter.unusedVariables false
set_option linter.unusedSimpArgs false
namespace Go.Proofs.Ytdkbmchbkkhpoaa.Pure
open Go.RowKit Go.Proofs.Ytdkbmchbkkhpoaa.PMls Go.Proofs.YtdkbmchbkkhpoaaW.PrintWords Go.Proofs.YtdkbmchbkkhpoaaW.PrintLast

open Go.Proofs.Ytdkbmchbkkhpoaa.Flow
def ed (x : S35) : Ed := ⟨x.f0, x.f1, x.f2⟩
theorem ea_ed (l : List S35) {p : Int} (h : 0 ≤ p) : ea (l.map ed) p.toNat = (rd_T35 l p).f0 := by
  unfold ea rd_T35
  rw [List.getD_eq_getElem?_getD, List.getD_eq_getElem?_getD, List.getElem?_map]
  cases l[p.toNat]? <;> rfl
theorem eb_ed (l : List S35) {p : Int} (h : 0 ≤ p) : eb (l.map ed) p.toNat = (rd_T35 l p).f1 := by
  unfold eb rd_T35
  rw [List.getD_eq_getElem?_getD, List.getD_eq_getElem?_getD, List.getElem?_map]
  cases l[p.toNat]? <;> rfl
theorem ec_ed (l : List S35) {p : Int} (h : 0 ≤ p) : ec (l.map ed) p.toNat = (rd_T35 l p).f2 := by
  unfold ec rd_T35
  rw [List.getD_eq_getElem?_getD, List.getD_eq_getElem?_getD, List.getElem?_map]
  cases l[p.toNat]? <;> rfl
theorem rd_split (l : List S35) {p : Int} (h0 : 0 ≤ p) (h1 : p < (l.length : Int)) : l.drop p.toNat = rd_T35 l p :: l.drop (p + 1).toNat := by
  rw [show (p + 1).toNat = p.toNat + 1 by omega, List.drop_eq_getElem_cons (by omega)]
  congr 1
  unfold rd_T35
  rw [List.getD_eq_getElem?_getD, List.getElem?_eq_getElem (by omega)]; rfl
theorem ref01_ev {a b : Int} (a0 : 0 ≤ a) (a1 : a < 4611686018427387904) (b0 : 0 ≤ b) (b1 : b < 4611686018427387904) : blazonref01_Add.f a b = some (a + b, true) := by
  have j : blazonref01_Add.j0 a b false = some (a + b, true) := by
    unfold blazonref01_Add.j0
    rw [if_neg (by decide), wr (by omega) (by omega)]
  unfold blazonref01_Add.f
  rw [wr (x := 9223372036854775807 - b) (by omega) (by omega)]
  by_cases h : b > 0
  · rw [if_pos h, if_neg (by omega), if_neg (by omega), j]
  · rw [if_neg h, if_neg (by omega), j]
theorem ref25_go {n c : Int} (had : List S35) (g : EG n (had.map ed)) (c0 : 0 ≤ c) (c1 : c < Inf) : ∀ (z : Nat) (p acc : Int), 0 ≤ p → p + z = (had.length : Int) → acc = c + Sm (fun e => if ec (had.map ed) e < Inf then ec (had.map ed) e else 0) p.toNat → acc < Inf → 0 ≤ acc →
    Ev (fun k => blazonref25_Add.l0 k had acc p) (fun r => r = if fs (had.map ed) + c ≥ Inf then 18 else 0) := by
  have hI : Inf = 4611686018427387904 := rfl
  have hlen := g.m
  rw [List.length_map] at hlen
  intro z
  induction z with
  | zero =>
    intro p acc p0 pz e e1 e2
    refine Ev.sub 1 ?_
    simp only [blazonref25_Add.l0, if_neg (show ¬ p < (had.length : Int) by omega), if_neg (show ¬ acc ≥ 4611686018427387904 by omega)]
    refine Ev.ret ?_
    have hp : p.toNat = (had.map ed).length := by rw [List.length_map]; omega
    rw [hp] at e
    have : acc = c + fs (had.map ed) := e
    rw [if_neg (by omega)]
  | succ z ih =>
    intro p acc p0 pz e e1 e2
    have hv := g.v p.toNat (by rw [List.length_map]; omega)
    have ec' := ec_ed had p0
    have w : wrap64 (p + 1) = p + 1 := wr (by omega) (by omega)
    refine Ev.sub 1 ?_
    simp only [blazonref25_Add.l0, if_pos (show p < (had.length : Int) by omega), if_pos p0, w, ← ec']
    have hS : Sm (fun e => if ec (had.map ed) e < Inf then ec (had.map ed) e else 0) (p + 1).toNat = Sm (fun e => if ec (had.map ed) e < Inf then ec (had.map ed) e else 0) p.toNat + if ec (had.map ed) p.toNat < Inf then ec (had.map ed) p.toNat else 0 := by
      rw [show (p + 1).toNat = p.toNat + 1 by omega]; rfl
    by_cases h : ec (had.map ed) p.toNat < 4611686018427387904
    · rw [if_pos (show ec (had.map ed) p.toNat < Inf by omega)] at hS
      simp only [if_pos h, ref01_ev e2 (by omega) hv.2.2.2.1 h, Option.bind_some, if_pos (show true = true from rfl)]
      refine Ev.sub 1 ?_
      simp only [blazonref25_Add.j0, w]
      by_cases h' : acc + ec (had.map ed) p.toNat ≥ 4611686018427387904
      · simp only [decide_eq_true h', if_pos trivial]
        refine Ev.ret ?_
        have mono : ∀ (m q : Nat), Sm (fun e => if ec (had.map ed) e < Inf then ec (had.map ed) e else 0) q ≤ Sm (fun e => if ec (had.map ed) e < Inf then ec (had.map ed) e else 0) (q + m) := by
          intro m
          induction m with
          | zero => intro q; exact Int.le_refl _
          | succ m ih =>
            intro q
            have := ih q
            have h0 : 0 ≤ (if ec (had.map ed) (q + m) < Inf then ec (had.map ed) (q + m) else 0) := by
              by_cases hq : q + m < (had.map ed).length
              · have := (g.v _ hq).2.2.2.1
                split <;> omega
              · unfold ec
                rw [List.getD_eq_getElem?_getD, List.getElem?_eq_none (by omega)]
                decide
            rw [show q + (m + 1) = (q + m) + 1 by omega, Sm]
            omega
        have h2 := mono ((had.map ed).length - (p + 1).toNat) (p + 1).toNat
        rw [show (p + 1).toNat + ((had.map ed).length - (p + 1).toNat) = (had.map ed).length by rw [List.length_map]; omega, hS] at h2
        have h3 : fs (had.map ed) = Sm (fun e => if ec (had.map ed) e < Inf then ec (had.map ed) e else 0) (had.map ed).length := rfl
        rw [← h3] at h2
        rw [if_pos (by omega)]
      · simp only [decide_eq_false h', if_neg (show ¬ false = true by decide)]
        exact ih (p + 1) _ (by omega) (by omega) (by rw [hS]; omega) (by omega) (by omega)
    · rw [if_neg (show ¬ ec (had.map ed) p.toNat < Inf by omega)] at hS
      simp only [if_neg h]
      exact ih (p + 1) acc (by omega) (by omega) (by rw [hS]; omega) e1 e2
theorem ref25_ev {n : Int} (had : List S35) (g : EG n (had.map ed)) (a b c : Int) : Ev (fun k => blazonref25_Add.f k n had a b c) (fun r => r = addE n (had.map ed) ⟨a, b, c⟩) := by
  have hI : Inf = 4611686018427387904 := rfl
  have bad : badE n ⟨a, b, c⟩ → Ev (fun k => blazonref25_Add.j1 k c had true) (fun r => r = addE n (had.map ed) ⟨a, b, c⟩) := by
    intro hb
    refine Ev.sub 1 ?_
    simp only [blazonref25_Add.j1, if_pos trivial]
    exact Ev.ret (if_pos hb).symm
  simp only [blazonref25_Add.f]
  by_cases h1 : a < 0
  · simp only [if_pos h1]; exact bad (.inl h1)
  simp only [if_neg h1]
  by_cases h2 : b < 0
  · simp only [if_pos h2]; exact bad (by unfold badE; dsimp only; omega)
  simp only [if_neg h2]
  by_cases h3 : a ≥ n
  · simp only [if_pos h3]; exact bad (by unfold badE; dsimp only; omega)
  simp only [if_neg h3]
  by_cases h4 : b ≥ n
  · simp only [if_pos h4]; exact bad (by unfold badE; dsimp only; omega)
  simp only [if_neg h4]
  by_cases h5 : a = b
  · simp only [if_pos h5]; exact bad (by unfold badE; dsimp only; omega)
  simp only [if_neg h5]
  by_cases h6 : c < 0
  · simp only [if_pos h6]; exact bad (by unfold badE; dsimp only; omega)
  simp only [if_neg h6]
  by_cases h7 : c > 4611686018427387904
  · simp only [decide_eq_true h7]; exact bad (by unfold badE; dsimp only; omega)
  simp only [decide_eq_false h7]
  have nb : ¬ badE n ⟨a, b, c⟩ := by unfold badE; dsimp only; omega
  refine Ev.sub 1 ?_
  simp only [blazonref25_Add.j1, if_neg (show ¬ false = true by decide)]
  by_cases h8 : c = 4611686018427387904
  · simp only [if_pos h8]
    refine Ev.ret ?_
    unfold addE
    rw [if_neg nb, if_pos h8]
  · simp only [if_neg h8]
    refine (ref25_go (c := c) had g (by omega) (by omega) had.length 0 c (Int.le_refl 0) (by omega) (by simp [Sm]) (by omega) (by omega)).mono (fun r h => ?_)
    rw [h]
    unfold addE
    rw [if_neg nb, if_neg h8]
def bldE (n : Int) : List Ed → List Ed → List Ed
  | E, [] => E
  | E, x :: l => if addE n E x = 0 then bldE n (E ++ [x]) l else bldE n E l
theorem built_go {n : Int} (l : List S35) (hl : l.length ≤ 1000) : ∀ (z : Nat) (S : Go.Proofs.Ytdkbmchbkkhpoaa.PMfr.S74) (had : List S35) (p : Int), 0 ≤ p → p + z = (l.length : Int) → (had.length : Int) ≤ p → NetI n (had.map ed) S →
    Ev (fun k => blazonlaw25_built.l0 k n l (some S) had p) (fun r => ∃ S', r.1 = some S' ∧ NetI n (r.2.map ed) S' ∧ r.2.map ed = bldE n (had.map ed) ((l.drop p.toNat).map ed) ∧ S'.f7 = S.f7 ∧ r.2.length ≤ l.length) := by
  intro z
  induction z with
  | zero =>
    intro S had p p0 pz hp hS
    refine Ev.sub 1 ?_
    simp only [blazonlaw25_built.l0, if_neg (show ¬ p < (l.length : Int) by omega)]
    have he : maxflow_Net_Edges.f (some S) = some ((had.length : Int), some S) := by
      show some ((S.f1.length : Int), some S) = _
      rw [hS.c, List.length_map, List.length_map]
    simp only [he, Option.bind_some, if_pos (show (had.length : Int) = had.length from rfl)]
    refine Ev.ret ⟨S, rfl, hS, ?_, rfl, by dsimp only; omega⟩
    rw [List.drop_eq_nil_of_le (by omega)]; rfl
  | succ z ih =>
    intro S had p p0 pz hp hS
    have w : wrap64 (p + 1) = p + 1 := wr (by omega) (by omega)
    have pl : p < (l.length : Int) := by omega
    refine Ev.sub 1 ?_
    simp only [blazonlaw25_built.l0, if_pos pl, if_pos p0, w]
    rw [rd_split l p0 pl]
    refine (add_ev hS (by rw [List.length_map]; omega) (ed (rd_T35 l p))).bind ?_
    rintro ⟨i, e, x'⟩ ⟨h1, h2, h3⟩
    dsimp only at h1 h2 h3 ⊢
    refine (ref25_ev had hS.g (rd_T35 l p).f0 (rd_T35 l p).f1 (rd_T35 l p).f2).bind ?_
    rintro r hr
    have hr' : r = addE n (had.map ed) (ed (rd_T35 l p)) := hr
    simp only [if_pos (show e = r by rw [h1, hr'])]
    rw [List.map_cons, bldE]
    by_cases h0 : addE n (had.map ed) (ed (rd_T35 l p)) = 0
    · obtain ⟨hi, S', hx, hS', h7⟩ := h2 h0
      subst hx
      rw [List.length_map] at hi
      rw [if_pos h0]
      simp only [if_pos (show e = 0 by omega), if_pos hi]
      refine Ev.sub 1 ?_
      simp only [blazonlaw25_built.j0, if_neg (show ¬ false = true by decide), if_pos (show e = 0 by omega), if_pos p0, if_pos pl, if_pos (show had.length < 5864062014805 by omega), Option.bind_some, w]
      have hm : (had ++ [(⟨(rd_T35 l p).f0, (rd_T35 l p).f1, (rd_T35 l p).f2⟩ : S35)]).map ed = had.map ed ++ [ed (rd_T35 l p)] := by rw [List.map_append]; rfl
      refine (ih S' (had ++ [⟨(rd_T35 l p).f0, (rd_T35 l p).f1, (rd_T35 l p).f2⟩]) (p + 1) (by omega) (by omega) (by rw [List.length_append, List.length_singleton]; omega) (by rw [hm]; exact hS')).mono ?_
      rintro r ⟨S'', a, b, c, d, e'⟩
      exact ⟨S'', a, b, by rw [c, hm], d.trans h7, e'⟩
    · obtain ⟨hi, hx⟩ := h3 h0
      subst hx
      rw [if_neg h0]
      simp only [if_neg (show ¬ e = 0 by omega), hi, show (!decide ((0 : Int) = 0)) = false by decide]
      refine Ev.sub 1 ?_
      simp only [blazonlaw25_built.j0, if_neg (show ¬ false = true by decide), if_neg (show ¬ e = 0 by omega), w]
      exact ih S had (p + 1) (by omega) (by omega) (by omega) hS
theorem new_ev {n : Int} (h1 : 1 ≤ n) (h2 : n ≤ 65536) : ∃ S, maxflow_New.f n = some (some S) ∧ NetI n [] S ∧ S.f7.f0 = 0 := by
  have e : maxflow_New.f n = some (some ⟨[], [], List.replicate n.toNat [], 0, false, [], [], ⟨0⟩⟩) := by
    unfold maxflow_New.f Go.Proofs.Ytdkbmchbkkhpoaa.PMfr.New.f Go.Proofs.Ytdkbmchbkkhpoaa.PMfr.New.j0
    rw [if_neg (by omega), decide_eq_false (by omega), if_neg (by decide), if_pos (by omega), if_pos (by omega)]
    rfl
  refine ⟨_, e, ⟨⟨h1, h2, by simp, fun e he => absurd he (by simp), by decide⟩, ⟨rfl, fun j a b => by simp at b; omega⟩, rfl, ⟨by rw [List.length_replicate]; omega, fun v j a b => ?_, fun v => ?_⟩, rfl⟩, rfl⟩
  · have : Go.Proofs.Ytdkbmchbkkhpoaa.PMfr.rd_L4 (List.replicate n.toNat []) v = [] := by
      unfold Go.Proofs.Ytdkbmchbkkhpoaa.PMfr.rd_L4
      rw [List.getD_eq_getElem?_getD, List.getElem?_replicate]
      split <;> rfl
    show j ∈ Go.Proofs.Ytdkbmchbkkhpoaa.PMfr.rd_L4 (List.replicate n.toNat []) v ↔ _
    rw [this]
    exact ⟨fun h => absurd h (by simp), fun h => by have := h.2.1; simp at this; omega⟩
  · have : Go.Proofs.Ytdkbmchbkkhpoaa.PMfr.rd_L4 (List.replicate n.toNat []) v = [] := by
      unfold Go.Proofs.Ytdkbmchbkkhpoaa.PMfr.rd_L4
      rw [List.getD_eq_getElem?_getD, List.getElem?_replicate]
      split <;> rfl
    show (Go.Proofs.Ytdkbmchbkkhpoaa.PMfr.rd_L4 (List.replicate n.toNat []) v).length ≤ _
    rw [this]; exact Nat.zero_le _
theorem built_ev {n : Int} (h1 : 1 ≤ n) (h2 : n ≤ 65536) (l : List S35) (hl : l.length ≤ 1000) : Ev (fun k => blazonlaw25_built.f k n l) (fun r => ∃ S', r.1 = some S' ∧ NetI n (r.2.map ed) S' ∧ r.2.map ed = bldE n [] (l.map ed) ∧ S'.f7.f0 = 0 ∧ r.2.length ≤ l.length) := by
  obtain ⟨S, e, hS, h7⟩ := new_ev h1 h2
  simp only [blazonlaw25_built.f, e, Option.bind_some, onOpt]
  refine (built_go l hl l.length S [] 0 (Int.le_refl 0) (by omega) (by simp) hS).mono ?_
  rintro r ⟨S', a, b, c, d, f⟩
  exact ⟨S', a, b, c, by rw [d]; exact h7, f⟩
theorem awake_tells (k : Nat) : blazonlaw25_awake.f (k + 60) = some true := by kernel_rfl
theorem awake_ev : Ev (fun k => blazonlaw25_awake.f k) (fun r => r = true) := Ev.sub 60 ⟨true, rfl, 0, fun k _ => awake_tells k⟩
theorem Ev.okay {F : Nat → Option Bool} (h : Ev F (fun r => r = true)) : ∃ k, F k = some true := by
  obtain ⟨k, r, e, hr⟩ := h.out
  exact ⟨k, by rw [e, hr]⟩
theorem awake_end : Ev (fun k => (blazonlaw25_awake.f k).bind fun t => some t) (fun r => r = true) := awake_ev.bind (fun r h => Ev.ret h)
theorem rdB_set {l : List Bool} {i : Int} (v : Bool) (hi : 0 ≤ i) (hl : i < (l.length : Int)) {j : Int} (hj : 0 ≤ j) : rdOf false (l.set i.toNat v) j = if j = i then v else rdOf false l j := by
  unfold rdOf
  rw [List.getD_eq_getElem?_getD, List.getD_eq_getElem?_getD, List.getElem?_set]
  by_cases h : j = i
  · subst h
    rw [if_pos rfl, if_pos (by omega), if_pos rfl]; rfl
  · rw [if_neg (by omega), if_neg h]
def cb (l : List Bool) : Nat := l.countP id
theorem cb_le (l : List Bool) : cb l ≤ l.length := List.countP_le_length
theorem cb_set {l : List Bool} {v : Int} (h0 : 0 ≤ v) (h1 : v < (l.length : Int)) (hv : rdOf false l v = false) : cb (l.set v.toNat true) = cb l + 1 := by
  unfold cb
  rw [List.countP_set (by omega)]
  have : l[v.toNat]'(by omega) = false := by
    unfold rdOf at hv
    rwa [List.getD_eq_getElem?_getD, List.getElem?_eq_getElem (by omega)] at hv
  rw [this]
  simp
theorem set_same {l : List Bool} {v : Int} (h0 : 0 ≤ v) (h1 : v < (l.length : Int)) (hv : rdOf false l v = true) : l.set v.toNat true = l := by
  have : l[v.toNat]'(by omega) = true := by
    unfold rdOf at hv
    rwa [List.getD_eq_getElem?_getD, List.getElem?_eq_getElem (by omega)] at hv
  rw [← this, List.set_getElem_self]
section
variable {n s t : Int} {l : List S35}
structure SN (n s : Int) (E : List Ed) (B : List Bool) : Prop where
  l : (B.length : Int) = n
  s1 : rdOf false B s = true
  r : ∀ v, 0 ≤ v → v < n → rdOf false B v = true → Endl E s v
def Clo (E : List Ed) (B : List Bool) (m : Int) (B' : List Bool) : Prop := ∀ e : Nat, (e : Int) < m → e < E.length → ec E e = Inf → rdOf false B (ea E e) = true → rdOf false B' (eb E e) = true
theorem endless_round (g : EG n (l.map ed)) (s0 : 0 ≤ s) (s1 : s < n) (t0 : 0 ≤ t) (t1 : t < n) {x : Int} {Q : Bool → Prop} {B0 : List Bool}
    (H : ∀ B, SN n s (l.map ed) B → Clo (l.map ed) B0 l.length B → (∀ v, 0 ≤ v → rdOf false B0 v = true → rdOf false B v = true) → (B = B0 ∨ cb B0 + 1 ≤ cb B) → Ev (fun k => blazonref25_Endless.l1 k n t l B (wrap64 (x + 1))) Q) :
    ∀ (z : Nat) (B : List Bool) (p : Int), 0 ≤ p → p + z = (l.length : Int) → SN n s (l.map ed) B → Clo (l.map ed) B0 p B → (∀ v, 0 ≤ v → rdOf false B0 v = true → rdOf false B v = true) → (B = B0 ∨ cb B0 + 1 ≤ cb B) → Ev (fun k => blazonref25_Endless.l0 k n t l x B p) Q := by
  have hm := g.m
  rw [List.length_map] at hm
  intro z
  induction z with
  | zero =>
    intro B p p0 pz sn hc hsub hcb
    refine Ev.sub 1 ?_
    simp only [blazonref25_Endless.l0, if_neg (show ¬ p < (l.length : Int) by omega)]
    have e : p = l.length := by omega
    subst e
    exact H B sn hc hsub hcb
  | succ z ih =>
    intro B p p0 pz sn hc hsub hcb
    have pl : p < (l.length : Int) := by omega
    have hv := g.v p.toNat (by rw [List.length_map]; omega)
    have hBl := sn.l
    have w : wrap64 (p + 1) = p + 1 := wr (by omega) (by omega)
    refine Ev.sub 1 ?_
    simp only [blazonref25_Endless.l0, if_pos pl, if_pos p0, ← ec_ed l p0, ← ea_ed l p0, if_pos hv.1.1, if_pos (show ea (l.map ed) p.toNat < (B.length : Int) by omega)]
    have skip : ¬ (ec (l.map ed) p.toNat = Inf ∧ rdOf false B (ea (l.map ed) p.toNat) = true) → Ev (fun k => blazonref25_Endless.j0 k n t l x B p false) Q := by
      intro hn
      refine Ev.sub 1 ?_
      simp only [blazonref25_Endless.j0, if_neg (show ¬ false = true by decide), w]
      refine ih B (p + 1) (by omega) (by omega) sn (fun e he hel hce hse => ?_) hsub hcb
      by_cases hp : (e : Int) < p
      · exact hc e hp hel hce hse
      · have ep : e = p.toNat := by omega
        subst ep
        exact absurd ⟨hce, hsub _ hv.1.1 hse⟩ hn
    by_cases h : ec (l.map ed) p.toNat = 4611686018427387904
    · simp only [if_pos h]
      by_cases hs : rdOf false B (ea (l.map ed) p.toNat) = true
      · simp only [hs]
        refine Ev.sub 1 ?_
        simp only [blazonref25_Endless.j0, if_pos trivial, if_pos p0, if_pos pl, ← eb_ed l p0, if_pos hv.2.1.1, if_pos (show eb (l.map ed) p.toNat < (B.length : Int) by omega), Option.bind_some, w]
        have R : ∀ u, 0 ≤ u → rdOf false (B.set (eb (l.map ed) p.toNat).toNat true) u = if u = eb (l.map ed) p.toNat then true else rdOf false B u := fun u hu => rdB_set true hv.2.1.1 (by omega) hu
        have up : ∀ u, 0 ≤ u → rdOf false B u = true → rdOf false (B.set (eb (l.map ed) p.toNat).toNat true) u = true := fun u hu h' => by
          rw [R u hu]; split
          · rfl
          · exact h'
        refine ih _ (p + 1) (by omega) (by omega) ⟨by rw [List.length_set]; exact hBl, up s s0 sn.s1, fun v v0 v1 hv' => ?_⟩ (fun e he hel hce hse => ?_) (fun v v0 hv' => up v v0 (hsub v v0 hv')) ?_
        · rw [R v v0] at hv'
          split at hv'
          · rename_i e
            subst e
            exact .step _ _ (sn.r _ hv.1.1 hv.1.2 hs) ⟨p.toNat, by rw [List.length_map]; omega, rfl, rfl, h⟩
          · exact sn.r v v0 v1 hv'
        · have hve := g.v e hel
          by_cases hp : (e : Int) < p
          · exact up _ hve.2.1.1 (hc e hp hel hce hse)
          · have ep : e = p.toNat := by omega
            subst ep
            rw [R _ hve.2.1.1, if_pos rfl]
        · by_cases hb : rdOf false B (eb (l.map ed) p.toNat) = true
          · rw [set_same hv.2.1.1 (by omega) hb]; exact hcb
          · have := cb_set (l := B) hv.2.1.1 (by omega) (by simpa using hb)
            rw [this]
            rcases hcb with rfl | h
            · exact .inr (Nat.le_refl _)
            · exact .inr (by omega)
      · have hs' : rdOf false B (ea (l.map ed) p.toNat) = false := by simpa using hs
        simp only [hs']
        exact skip (fun h => hs h.2)
    · simp only [if_neg h]
      exact skip (fun h' => h h'.1)
theorem clo_all {B : List Bool} (sn : SN n s (l.map ed) B) (hc : Clo (l.map ed) B l.length B) : ∀ v, Rch (EInf (l.map ed)) s v → rdOf false B v = true := by
  intro v hv
  induction hv with
  | refl => exact sn.s1
  | step u v _ huv ih =>
    obtain ⟨e, he, rfl, rfl, hi⟩ := huv
    exact hc e (by rw [List.length_map] at he; omega) he hi ih
theorem endless_go (g : EG n (l.map ed)) (s0 : 0 ≤ s) (s1 : s < n) (t0 : 0 ≤ t) (t1 : t < n) : ∀ (z : Nat) (B : List Bool) (x : Int), 0 ≤ x → x + z = n → SN n s (l.map ed) B → (Clo (l.map ed) B l.length B ∨ x + 1 ≤ cb B) → Ev (fun k => blazonref25_Endless.l1 k n t l B x) (fun r => r = true ↔ Endl (l.map ed) s t) := by
  have hn := g.n2
  intro z
  induction z with
  | zero =>
    intro B x x0 xz sn hc
    have hBl := sn.l
    have := cb_le B
    refine Ev.sub 1 ?_
    simp only [blazonref25_Endless.l1, if_neg (show ¬ x < n by omega), if_pos t0, if_pos (show t < (B.length : Int) by omega)]
    rcases hc with hc | hc
    · exact Ev.ret ⟨sn.r t t0 t1, fun h => clo_all sn hc t h⟩
    · omega
  | succ z ih =>
    intro B x x0 xz sn hc
    have w : wrap64 (x + 1) = x + 1 := wr (by omega) (by omega)
    refine Ev.sub 1 ?_
    simp only [blazonref25_Endless.l1, if_pos (show x < n by omega)]
    refine endless_round g s0 s1 t0 t1 (B0 := B) (x := x) (fun B' sn' hc' hsub hcb => ?_) l.length B 0 (Int.le_refl 0) (by omega) sn (fun e he => by omega) (fun v _ h => h) (.inl rfl)
    rw [w]
    refine ih B' (x + 1) (by omega) (by omega) sn' ?_
    rcases hcb with rfl | hcb
    · exact .inl hc'
    · rcases hc with hc | hc
      · refine .inl (fun e he hel hce hse => hsub _ (g.v e hel).2.1.1 ?_)
        exact clo_all sn hc _ (.step _ _ (sn'.r _ (g.v e hel).1.1 (g.v e hel).1.2 hse) ⟨e, hel, rfl, rfl, hce⟩)
      · exact .inr (by omega)
theorem rdB_rep (N : Nat) (v : Int) : rdOf false (List.replicate N false) v = false := by
  unfold rdOf
  rw [List.getD_eq_getElem?_getD, List.getElem?_replicate]
  split <;> rfl
theorem endless_ev (g : EG n (l.map ed)) (s0 : 0 ≤ s) (s1 : s < n) (t0 : 0 ≤ t) (t1 : t < n) : Ev (fun k => blazonref25_Endless.f k n l s t) (fun r => r = true ↔ Endl (l.map ed) s t) := by
  have hn := g.n2
  obtain ⟨N, rfl⟩ : ∃ N : Nat, n = N := ⟨n.toNat, by omega⟩
  simp only [blazonref25_Endless.f, if_pos (show 0 ≤ (N : Int) by omega), Int.toNat_natCast, if_pos (show N * 1 ≤ 281474976710656 by omega), Option.bind_some, if_pos s0, List.length_replicate, if_pos s1]
  have hl : (List.replicate N false).length = N := List.length_replicate
  have R : ∀ u, 0 ≤ u → rdOf false ((List.replicate N false).set s.toNat true) u = if u = s then true else false := fun u hu => by
    rw [rdB_set true s0 (by omega) hu, rdB_rep]
  refine endless_go g s0 s1 t0 t1 N _ 0 (Int.le_refl 0) (by omega) ⟨by rw [List.length_set, hl], by rw [R s s0, if_pos rfl], fun v v0 v1 h => ?_⟩ (.inr ?_)
  · rw [R v v0] at h
    split at h
    · rename_i e; rw [e]; exact .refl
    · exact absurd h (by decide)
  · rw [cb_set s0 (by omega) (rdB_rep N s)]; omega
theorem cut_go (g : EG n (l.map ed)) {B : List Bool} (hB : (B.length : Int) = n) : ∀ (z : Nat) (p acc : Int), 0 ≤ p → p + z = (l.length : Int) → (∀ e : Nat, (e : Int) < p → rdOf false B (ea (l.map ed) e) = true → rdOf false B (eb (l.map ed) e) = false → ec (l.map ed) e < Inf) → acc = Sm (fun e => if rdOf false B (ea (l.map ed) e) = true ∧ rdOf false B (eb (l.map ed) e) = false then ec (l.map ed) e else 0) p.toNat →
    Ev (fun k => blazonref25_Cut.l0 k l B acc p) (fun r => (Fin1 (l.map ed) (rdOf false B) → r = CutV (l.map ed) (rdOf false B)) ∧ (¬ Fin1 (l.map ed) (rdOf false B) → r = -1)) := by
  have hm := g.m
  rw [List.length_map] at hm
  have hI : Inf = 4611686018427387904 := rfl
  have hs := g.s
  intro z
  induction z with
  | zero =>
    intro p acc p0 pz hf he
    refine Ev.sub 1 ?_
    simp only [blazonref25_Cut.l0, if_neg (show ¬ p < (l.length : Int) by omega)]
    have e : p.toNat = (l.map ed).length := by rw [List.length_map]; omega
    rw [e] at he
    refine Ev.ret ⟨fun _ => he, fun h => absurd (fun e' he' => hf e' (by rw [List.length_map] at he'; omega)) h⟩
  | succ z ih =>
    intro p acc p0 pz hf he
    have pl : p < (l.length : Int) := by omega
    have hv := g.v p.toNat (by rw [List.length_map]; omega)
    have w : wrap64 (p + 1) = p + 1 := wr (by omega) (by omega)
    have hS : Sm (fun e => if rdOf false B (ea (l.map ed) e) = true ∧ rdOf false B (eb (l.map ed) e) = false then ec (l.map ed) e else 0) (p + 1).toNat = Sm (fun e => if rdOf false B (ea (l.map ed) e) = true ∧ rdOf false B (eb (l.map ed) e) = false then ec (l.map ed) e else 0) p.toNat + if rdOf false B (ea (l.map ed) p.toNat) = true ∧ rdOf false B (eb (l.map ed) p.toNat) = false then ec (l.map ed) p.toNat else 0 := by
      rw [show (p + 1).toNat = p.toNat + 1 by omega]; rfl
    refine Ev.sub 1 ?_
    simp only [blazonref25_Cut.l0, if_pos pl, if_pos p0, ← ea_ed l p0, ← eb_ed l p0, if_pos hv.1.1, if_pos (show ea (l.map ed) p.toNat < (B.length : Int) by omega), if_pos hv.2.1.1, if_pos (show eb (l.map ed) p.toNat < (B.length : Int) by omega)]
    have skip : ¬ (rdOf false B (ea (l.map ed) p.toNat) = true ∧ rdOf false B (eb (l.map ed) p.toNat) = false) → Ev (fun k => blazonref25_Cut.j0 k l B acc p false) (fun r => (Fin1 (l.map ed) (rdOf false B) → r = CutV (l.map ed) (rdOf false B)) ∧ (¬ Fin1 (l.map ed) (rdOf false B) → r = -1)) := by
      intro hn
      refine Ev.sub 1 ?_
      simp only [blazonref25_Cut.j0, if_neg (show ¬ false = true by decide), w]
      refine ih (p + 1) acc (by omega) (by omega) (fun e e1 h1 h2 => ?_) (by rw [hS, if_neg hn, Int.add_zero]; exact he)
      by_cases hp : (e : Int) < p
      · exact hf e hp h1 h2
      · rw [show e = p.toNat by omega] at h1 h2; exact absurd ⟨h1, h2⟩ hn
    by_cases h1 : rdOf false B (ea (l.map ed) p.toNat) = true
    · simp only [if_pos h1]
      by_cases h2 : rdOf false B (eb (l.map ed) p.toNat) = true
      · simp only [h2, show (!true) = false from rfl]
        exact skip (fun h => by rw [h2] at h; exact absurd h.2 (by decide))
      · have h2' : rdOf false B (eb (l.map ed) p.toNat) = false := by simpa using h2
        simp only [h2', show (!false) = true from rfl]
        rw [if_pos ⟨h1, h2'⟩] at hS
        refine Ev.sub 1 ?_
        simp only [blazonref25_Cut.j0, if_pos trivial, if_pos p0, if_pos pl, ← ec_ed l p0, w]
        by_cases h3 : ec (l.map ed) p.toNat = 4611686018427387904
        · simp only [if_pos h3]
          refine Ev.ret ⟨fun h => ?_, fun _ => rfl⟩
          have := h p.toNat (by rw [List.length_map]; omega) h1 h2'
          omega
        · simp only [if_neg h3]
          have b0 : 0 ≤ acc := by
            rw [he]
            exact Sm.nonneg (fun e he => by
              have := (g.v e (by rw [List.length_map]; omega)).2.2.2.1
              split <;> omega)
          have b1 : acc ≤ fs (l.map ed) := by
            have mono : ∀ q : Nat, q ≤ (l.map ed).length → (∀ e : Nat, e < q → rdOf false B (ea (l.map ed) e) = true → rdOf false B (eb (l.map ed) e) = false → ec (l.map ed) e < Inf) → Sm (fun e => if rdOf false B (ea (l.map ed) e) = true ∧ rdOf false B (eb (l.map ed) e) = false then ec (l.map ed) e else 0) q ≤ fs (l.map ed) := by
              intro q hq hfq
              have h4 := Sm.mono (f := fun e => if rdOf false B (ea (l.map ed) e) = true ∧ rdOf false B (eb (l.map ed) e) = false ∧ e < q then ec (l.map ed) e else 0) (g := fun e => if ec (l.map ed) e < Inf then ec (l.map ed) e else 0) (n := (l.map ed).length) (fun e he => by
                have h0 := (g.v e he).2.2.2.1
                by_cases hx : rdOf false B (ea (l.map ed) e) = true ∧ rdOf false B (eb (l.map ed) e) = false ∧ e < q
                · rw [if_pos hx, if_pos (hfq e hx.2.2 hx.1 hx.2.1)]; exact Int.le_refl _
                · rw [if_neg hx]; split <;> omega)
              have h5 : ∀ z : Nat, Sm (fun e => if rdOf false B (ea (l.map ed) e) = true ∧ rdOf false B (eb (l.map ed) e) = false ∧ e < q then ec (l.map ed) e else 0) (q + z) = Sm (fun e => if rdOf false B (ea (l.map ed) e) = true ∧ rdOf false B (eb (l.map ed) e) = false then ec (l.map ed) e else 0) q := by
                intro z
                induction z with
                | zero =>
                  refine Sm.congr (fun e he => ?_)
                  by_cases hx : rdOf false B (ea (l.map ed) e) = true ∧ rdOf false B (eb (l.map ed) e) = false
                  · rw [if_pos ⟨hx.1, hx.2, he⟩, if_pos hx]
                  · rw [if_neg (fun h => hx ⟨h.1, h.2.1⟩), if_neg hx]
                | succ z ih => rw [show q + (z + 1) = (q + z) + 1 by omega, Sm, ih, if_neg (fun h => by omega), Int.add_zero]
              have h6 := h5 ((l.map ed).length - q)
              rw [show q + ((l.map ed).length - q) = (l.map ed).length by omega] at h6
              rw [h6] at h4
              exact h4
            rw [he]
            exact mono p.toNat (by rw [List.length_map]; omega) (fun e e1 => hf e (by omega))
          rw [wr (by omega) (by omega)]
          refine ih (p + 1) _ (by omega) (by omega) (fun e e1 h1' h2' => ?_) (by rw [hS, he])
          by_cases hp : (e : Int) < p
          · exact hf e hp h1' h2'
          · rw [show e = p.toNat by omega]; omega
    · have h1' : rdOf false B (ea (l.map ed) p.toNat) = false := by simpa using h1
      simp only [if_neg h1]
      exact skip (fun h => h1 h.1)
end
def bits : Nat → Int → List Bool
  | 0, _ => []
  | n + 1, x => decide (x % 2 = 1) :: bits n (x / 2)
def pw : Nat → Int
  | 0 => 1
  | n + 1 => 2 * pw n
theorem pw_le : ∀ N, N ≤ 10 → 1 ≤ pw N ∧ pw N ≤ 1024 := by decide
theorem bits_all : ∀ bs : List Bool, ∃ x, 0 ≤ x ∧ x < pw bs.length ∧ bits bs.length x = bs := by
  intro bs
  induction bs with
  | nil => exact ⟨0, Int.le_refl 0, by decide, rfl⟩
  | cons b bs ih =>
    obtain ⟨x, x0, x1, e⟩ := ih
    refine ⟨(if b = true then 1 else 0) + 2 * x, by split <;> omega, ?_, ?_⟩
    · rw [List.length_cons, pw]; split <;> omega
    · rw [List.length_cons, bits]
      have h1 : ((if b = true then (1 : Int) else 0) + 2 * x) / 2 = x := by split <;> omega
      rw [h1, e]
      cases b
      · rw [if_neg (by decide), decide_eq_false (by omega)]
      · rw [if_pos rfl, decide_eq_true (by omega)]
section
variable {n s t v : Int} {l : List S35} {N : Nat}
theorem least_round (g : EG n (l.map ed)) (hN : n = N) (s0 : 0 ≤ s) (s1 : s < n) (t0 : 0 ≤ t) (t1 : t < n) (hv : 0 ≤ v) (hall : ∀ C, CutOf (l.map ed) s t C → v ≤ CutV (l.map ed) C) {many best kk : Int} {Q : Int → Prop} (hb : best = -1 ∨ v ≤ best)
    (H : ∀ best', (best' = -1 ∨ v ≤ best') → (CutOf (l.map ed) s t (rdOf false (bits N kk)) → CutV (l.map ed) (rdOf false (bits N kk)) = v → best' = v) → (best = v → best' = v) → Ev (fun k => blazonref25_Least.l1 k n s t l many best' (wrap64 (kk + 1))) Q) :
    ∀ (z : Nat) (side : List Bool) (x i : Int), 0 ≤ i → i + z = n → 0 ≤ x → x < 100000 → (side.length : Int) = i → side ++ bits z x = bits N kk → Ev (fun k => blazonref25_Least.l0 k n s t l many best kk side x i) Q := by
  have hn := g.n2
  intro z
  induction z with
  | zero =>
    intro side x i i0 iz x0 x1 hl hs
    have hs' : side = bits N kk := by rw [← hs]; simp [bits]
    have hsl : (side.length : Int) = n := by omega
    refine Ev.sub 1 ?_
    simp only [blazonref25_Least.l0, if_neg (show ¬ i < n by omega), if_pos s0, if_pos (show s < (side.length : Int) by omega), if_pos t0, if_pos (show t < (side.length : Int) by omega)]
    have skip : ¬ CutOf (l.map ed) s t (rdOf false side) → Ev (fun k => blazonref25_Least.j1 k n s t l many best kk side true) Q := by
      intro hn
      refine Ev.sub 1 ?_
      simp only [blazonref25_Least.j1, if_pos trivial]
      exact H best hb (fun h => absurd (by rw [hs']; exact h) hn) id
    rcases (Classical.em (rdOf false side s = true)).symm with h1 | h1
    · simp only [if_neg h1]; exact skip (fun h => h1 h.1)
    simp only [if_pos h1]
    by_cases h2 : rdOf false side t = true
    · simp only [h2]
      exact skip (fun h => by have := h.2.1; rw [h2] at this; exact absurd this (by decide))
    have h2' : rdOf false side t = false := by simpa using h2
    simp only [h2']
    refine Ev.sub 1 ?_
    simp only [blazonref25_Least.j1, if_neg (show ¬ false = true by decide), blazonref25_Cut.f]
    refine (cut_go g hsl l.length 0 0 (Int.le_refl 0) (by omega) (fun e he => by omega) rfl).bind ?_
    rintro w ⟨w1, w2⟩
    have keep : (CutOf (l.map ed) s t (rdOf false side) → CutV (l.map ed) (rdOf false side) = v → best = v) → Ev (fun k => blazonref25_Least.j0 k n s t l w many best kk false) Q := by
      intro h
      refine Ev.sub 1 ?_
      simp only [blazonref25_Least.j0, if_neg (show ¬ false = true by decide)]
      exact H best hb (by rw [← hs']; exact h) id
    by_cases hf : Fin1 (l.map ed) (rdOf false side)
    · have hc : CutOf (l.map ed) s t (rdOf false side) := ⟨h1, h2', hf⟩
      have hw := w1 hf
      have hvw := hall _ hc
      rw [← hw] at hvw
      have take : (best < 0 ∨ w < best) → Ev (fun k => blazonref25_Least.j0 k n s t l w many best kk true) Q := by
        intro h
        refine Ev.sub 1 ?_
        simp only [blazonref25_Least.j0, if_pos trivial]
        exact H w (.inr hvw) (by rw [← hs', ← hw]; exact fun _ h => h) (fun h' => by omega)
      simp only [if_pos (show w ≥ 0 by omega)]
      by_cases h3 : best < 0
      · simp only [if_pos h3]; exact take (.inl h3)
      · simp only [if_neg h3]
        by_cases h4 : w < best
        · simp only [decide_eq_true h4]; exact take (.inr h4)
        · simp only [decide_eq_false h4]
          exact keep (fun _ h => by rw [← hw] at h; omega)
    · simp only [if_neg (show ¬ w ≥ 0 by have := w2 hf; omega)]
      exact keep (fun h => absurd h.2.2 hf)
  | succ z ih =>
    intro side x i i0 iz x0 x1 hl hs
    have w : wrap64 (i + 1) = i + 1 := wr (by omega) (by omega)
    have e1 : Int.tmod x 2 = x % 2 := Int.tmod_eq_emod_of_nonneg x0
    have e2 : Int.tdiv x 2 = x / 2 := Int.tdiv_eq_ediv_of_nonneg x0
    refine Ev.sub 1 ?_
    simp only [blazonref25_Least.l0, if_pos (show i < n by omega), if_pos (show side.length < 140737488355328 by omega), Option.bind_some, e1, e2, w, wr (x := x / 2) (by omega) (by omega)]
    refine ih _ (x / 2) (i + 1) (by omega) (by omega) (by omega) (by omega) (by rw [List.length_append, List.length_singleton]; omega) ?_
    rw [← hs, bits, List.append_assoc]; rfl
theorem least_go (g : EG n (l.map ed)) (hN : n = N) (hN10 : N ≤ 10) (s0 : 0 ≤ s) (s1 : s < n) (t0 : 0 ≤ t) (t1 : t < n) (hv : 0 ≤ v) (hall : ∀ C, CutOf (l.map ed) s t C → v ≤ CutV (l.map ed) C) (hex : ∃ C, CutOf (l.map ed) s t C ∧ CutV (l.map ed) C = v) : ∀ (z : Nat) (best kk : Int), 0 ≤ kk → kk + z = pw N → (best = -1 ∨ v ≤ best) → (∀ k', 0 ≤ k' → k' < kk → CutOf (l.map ed) s t (rdOf false (bits N k')) → CutV (l.map ed) (rdOf false (bits N k')) = v → best = v) → Ev (fun k => blazonref25_Least.l1 k n s t l (pw N) best kk) (fun r => r = v) := by
  have hp := pw_le N hN10
  intro z
  induction z with
  | zero =>
    intro best kk k0 kz hb ha
    refine Ev.sub 1 ?_
    simp only [blazonref25_Least.l1, if_neg (show ¬ kk < pw N by omega)]
    refine Ev.ret ?_
    obtain ⟨C, hC, hCv⟩ := hex
    obtain ⟨x, x0, x1, e⟩ := bits_all ((List.range N).map (fun i : Nat => C (i : Int)))
    rw [List.length_map, List.length_range] at x1 e
    have agree : ∀ u, 0 ≤ u → u < n → rdOf false (bits N x) u = C u := fun u u0 u1 => by
      rw [e]
      unfold rdOf
      rw [List.getD_eq_getElem?_getD, List.getElem?_map, List.getElem?_range (by omega)]
      show C ((u.toNat : Nat) : Int) = _
      rw [show ((u.toNat : Nat) : Int) = u by omega]
    refine ha x x0 (by omega) ⟨by rw [agree s s0 s1]; exact hC.1, by rw [agree t t0 t1]; exact hC.2.1, fun e he h1 h2 => ?_⟩ ?_
    · have hve := g.v e he
      rw [agree _ hve.1.1 hve.1.2] at h1
      rw [agree _ hve.2.1.1 hve.2.1.2] at h2
      exact hC.2.2 e he h1 h2
    · rw [← hCv]
      refine Sm.congr (fun e he => ?_)
      have hve := g.v e he
      rw [agree _ hve.1.1 hve.1.2, agree _ hve.2.1.1 hve.2.1.2]
  | succ z ih =>
    intro best kk k0 kz hb ha
    have w : wrap64 (kk + 1) = kk + 1 := wr (by omega) (by omega)
    refine Ev.sub 1 ?_
    simp only [blazonref25_Least.l1, if_pos (show kk < pw N by omega)]
    refine least_round g hN s0 s1 t0 t1 hv hall hb (fun best' h1 h2 h3 => ?_) N [] kk 0 (Int.le_refl 0) (by omega) k0 (by omega) rfl rfl
    rw [w]
    refine ih best' (kk + 1) (by omega) (by omega) h1 (fun k' a b c d => ?_)
    by_cases h : k' = kk
    · subst h; exact h2 c d
    · exact h3 (ha k' a (by omega) c d)
theorem least_ev (g : EG n (l.map ed)) (hN : n = N) (hN10 : N ≤ 10) (s0 : 0 ≤ s) (s1 : s < n) (t0 : 0 ≤ t) (t1 : t < n) (hv : IsMax (l.map ed) s t v) : Ev (fun k => blazonref25_Least.f k n l s t) (fun r => r = v) := by
  obtain ⟨⟨f, hf⟩, C, hC, hCv⟩ := hv
  have v0 : 0 ≤ v := by rw [← hCv]; exact CutV.nonneg g
  have go : ∀ (z : Nat) (i : Int), 0 ≤ i → i + z = n → Ev (fun k => blazonref25_Least.l2 k n s t l (pw i.toNat) i) (fun r => r = v) := by
    intro z
    induction z with
    | zero =>
      intro i i0 iz
      refine Ev.sub 1 ?_
      simp only [blazonref25_Least.l2, if_neg (show ¬ i < n by omega)]
      rw [show i.toNat = N by omega]
      exact least_go g hN hN10 s0 s1 t0 t1 v0 (fun C hC => hf.le hC) ⟨C, hC, hCv⟩ (pw N).toNat (-1) 0 (Int.le_refl 0) (by have := (pw_le N hN10).1; omega) (.inl rfl) (fun k' a b => by omega)
    | succ z ih =>
      intro i i0 iz
      have hp := pw_le i.toNat (by omega)
      have w : wrap64 (i + 1) = i + 1 := wr (by omega) (by omega)
      refine Ev.sub 1 ?_
      simp only [blazonref25_Least.l2, if_pos (show i < n by omega), w, wr (x := 2 * pw i.toNat) (by omega) (by omega)]
      have := ih (i + 1) (by omega) (by omega)
      rwa [show (i + 1).toNat = i.toNat + 1 by omega, pw] at this
  simp only [blazonref25_Least.f]
  exact go N 0 (Int.le_refl 0) (by omega)
end
theorem flow_off {S : Go.Proofs.Ytdkbmchbkkhpoaa.PMfr.S74} (h : S.f4 = false) (i : Int) : maxflow_Net_Flow.f (some S) i = some (0, some S) := by
  show ((if S.f4 = true then (if i < 0 then (some 0) else (if i ≥ (S.f1.length : Int) then (some 0) else (if 0 ≤ (wrap64 ((wrap64 (2 * i)) + 1)) then (if (wrap64 ((wrap64 (2 * i)) + 1)) < (S.f0.length : Int) then (some ((Go.Proofs.Ytdkbmchbkkhpoaa.PMfr.rd_T78 S.f0 (wrap64 ((wrap64 (2 * i)) + 1))).f1)) else (none)) else (none)))) else (some 0)) : Option Int).bind (fun r => some (r, some S)) = _
  rw [h, if_neg (by decide)]; rfl
theorem MaxflowLeast : blazonlaw25_MaxflowLeast.Pure := by
  intro n l s t _ _ _ _ _ _
  refine Ev.okay ?_
  simp only [blazonlaw25_MaxflowLeast.f]
  have out : Ev (fun k => blazonlaw25_MaxflowLeast.j1 k n s t l true) (fun r => r = true) := by
    refine Ev.sub 1 ?_
    simp only [blazonlaw25_MaxflowLeast.j1, if_pos trivial]
    exact awake_end
  by_cases h1 : n > 10
  · simp only [if_pos h1]; exact out
  simp only [if_neg h1]
  by_cases h3 : (l.length : Int) > 40
  · simp only [decide_eq_true h3]; exact out
  simp only [decide_eq_false h3]
  refine Ev.sub 1 ?_
  simp only [blazonlaw25_MaxflowLeast.j1, if_neg (show ¬ false = true by decide)]
  by_cases h2 : n < 1
  · have e : maxflow_New.f n = some none := by
      unfold maxflow_New.f Go.Proofs.Ytdkbmchbkkhpoaa.PMfr.New.f Go.Proofs.Ytdkbmchbkkhpoaa.PMfr.New.j0
      rw [if_pos h2, if_pos rfl]
    simp only [if_pos h2, e, Option.bind_some, onOpt]
    exact awake_end
  simp only [if_neg h2]
  refine (built_ev (n := n) (by omega) (by omega) l (by omega)).bind ?_
  rintro ⟨x, had⟩ ⟨S, rfl, hS, _, _, hlen⟩
  dsimp only [onOpt] at hS hlen ⊢
  refine (max_ev hS s t).bind ?_
  rintro ⟨v, e, x'⟩ ⟨S1, hx, hS1, b1, b2, b3⟩
  dsimp only at hx b1 b2 b3
  subst hx
  have bad : badP n s t → Ev (fun k => blazonlaw25_MaxflowLeast.j0 k n s t had v e (some S1) true) (fun r => r = true) := by
    intro hb
    obtain ⟨c1, c2, c3⟩ := b1 hb
    refine Ev.sub 1 ?_
    simp only [blazonlaw25_MaxflowLeast.j0, if_pos trivial, if_pos c1, if_pos c2, flow_off c3, Option.bind_some, if_pos (show (0 : Int) = 0 from rfl)]
    exact awake_end
  by_cases p1 : s < 0
  · simp only [if_pos p1]; exact bad (.inl p1)
  simp only [if_neg p1]
  by_cases p2 : t < 0
  · simp only [if_pos p2]; exact bad (by unfold badP; omega)
  simp only [if_neg p2]
  by_cases p3 : s ≥ n
  · simp only [if_pos p3]; exact bad (by unfold badP; omega)
  simp only [if_neg p3]
  by_cases p4 : t ≥ n
  · simp only [if_pos p4]; exact bad (by unfold badP; omega)
  simp only [if_neg p4]
  by_cases p5 : s = t
  · simp only [decide_eq_true p5]; exact bad (by unfold badP; omega)
  simp only [decide_eq_false p5]
  have nb : ¬ badP n s t := by unfold badP; omega
  refine Ev.sub 1 ?_
  simp only [blazonlaw25_MaxflowLeast.j0, if_neg (show ¬ false = true by decide)]
  refine (endless_ev hS.g (by omega) (by omega) (by omega) (by omega)).bind ?_
  intro r hr
  by_cases he : Endl (had.map ed) s t
  · obtain ⟨c1, c2, c3⟩ := b2 nb he
    simp only [if_pos (hr.2 he), if_pos c1, if_pos c2, flow_off c3, Option.bind_some, if_pos (show (0 : Int) = 0 from rfl)]
    exact awake_end
  · simp only [if_neg (show ¬ r = true from fun h => he (hr.1 h))]
    obtain ⟨c1, _, m1, _⟩ := b3 nb he
    refine (max_ev hS1 s t).bind ?_
    rintro ⟨v', e', x''⟩ ⟨S2, hx2, hS2, d1, d2, d3⟩
    dsimp only at hx2 d1 d2 d3
    obtain ⟨e1, _, m2, _⟩ := d3 nb he
    refine (least_ev (N := n.toNat) hS.g (by omega) (by omega) (by omega) (by omega) (by omega) (by omega) m1).bind ?_
    intro w hw
    simp only [if_pos (show v = w from hw.symm), if_pos c1, if_pos (m2.uniq m1), if_pos e1]
    exact awake_end

end Go.Proofs.Ytdkbmchbkkhpoaa.Pure
