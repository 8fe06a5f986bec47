/- Through a net whose edges go the other way about as much flows back. -/
import Derived.Test.YtdkbmchbkkhpoaaPMtux1
import Derived.Test.YtdkbmchbkkhpoaaPMtux2
import Derived.Test.YtdkbmchbkkhpoaaFlG
import Derived.OpenShut
import Derived.Laws.BitsLemmas
import Derived.Laws.BitsAllLaws
import Derived.Laws.Bits64b
import Derived.Lib.TrailingZeros
import Derived.Lib.Bytes
import Derived.Test.YtdkbmchbkkhpoaaWSized
set_option linter.unusedVariables false
set_option linter.unusedSimpArgs false
namespace Go.Proofs.Ytdkbmchbkkhpoaa.Pure
open Go.RowKit Go.Proofs.Ytdkbmchbkkhpoaa.PMtu Go.Proofs.YtdkbmchbkkhpoaaW.PrintWords Go.Proofs.YtdkbmchbkkhpoaaW.PrintLast

open Go.Proofs.Ytdkbmchbkkhpoaa.Flow
def ed (x : S35) : Ed := ⟨x.f0, x.f1, x.f2⟩
theorem ec_ed (l : List S35) {p : Int} (h : 0 ≤ p) : ec (l.map ed) p.toNat = (rd_T35 l p).f2 := by
  unfold ec rd_T35
  rw [List.getD_eq_getElem?_getD, List.getD_eq_getElem?_getD, List.getElem?_map]
  cases l[p.toNat]? <;> rfl
theorem rd_split (l : List S35) {p : Int} (h0 : 0 ≤ p) (h1 : p < (l.length : Int)) : l.drop p.toNat = rd_T35 l p :: l.drop (p + 1).toNat := by
  rw [show (p + 1).toNat = p.toNat + 1 by omega, List.drop_eq_getElem_cons (by omega)]
  congr 1
  unfold rd_T35
  rw [List.getD_eq_getElem?_getD, List.getElem?_eq_getElem (by omega)]; rfl
theorem ref01_ev {a b : Int} (a0 : 0 ≤ a) (a1 : a < 4611686018427387904) (b0 : 0 ≤ b) (b1 : b < 4611686018427387904) : blazonref01_Add.f a b = some (a + b, true) := by
  have j : blazonref01_Add.j0 a b false = some (a + b, true) := by
    unfold blazonref01_Add.j0
    rw [if_neg (by decide), wr (by omega) (by omega)]
  unfold blazonref01_Add.f
  rw [wr (x := 9223372036854775807 - b) (by omega) (by omega)]
  by_cases h : b > 0
  · rw [if_pos h, if_neg (by omega), if_neg (by omega), j]
  · rw [if_neg h, if_neg (by omega), j]
theorem ref25_go {n c : Int} (had : List S35) (g : EG n (had.map ed)) (c0 : 0 ≤ c) (c1 : c < Inf) : ∀ (z : Nat) (p acc : Int), 0 ≤ p → p + z = (had.length : Int) → acc = c + Sm (fun e => if ec (had.map ed) e < Inf then ec (had.map ed) e else 0) p.toNat → acc < Inf → 0 ≤ acc →
    Ev (fun k => blazonref25_Add.l0 k had acc p) (fun r => r = if fs (had.map ed) + c ≥ Inf then 18 else 0) := by
  have hI : Inf = 4611686018427387904 := rfl
  have hlen := g.m
  rw [List.length_map] at hlen
  intro z
  induction z with
  | zero =>
    intro p acc p0 pz e e1 e2
    refine Ev.sub 1 ?_
    simp only [blazonref25_Add.l0, if_neg (show ¬ p < (had.length : Int) by omega), if_neg (show ¬ acc ≥ 4611686018427387904 by omega)]
    refine Ev.ret ?_
    have hp : p.toNat = (had.map ed).length := by rw [List.length_map]; omega
    rw [hp] at e
    have : acc = c + fs (had.map ed) := e
    rw [if_neg (by omega)]
  | succ z ih =>
    intro p acc p0 pz e e1 e2
    have hv := g.v p.toNat (by rw [List.length_map]; omega)
    have ec' := ec_ed had p0
    have w : wrap64 (p + 1) = p + 1 := wr (by omega) (by omega)
    refine Ev.sub 1 ?_
    simp only [blazonref25_Add.l0, if_pos (show p < (had.length : Int) by omega), if_pos p0, w, ← ec']
    have hS : Sm (fun e => if ec (had.map ed) e < Inf then ec (had.map ed) e else 0) (p + 1).toNat = Sm (fun e => if ec (had.map ed) e < Inf then ec (had.map ed) e else 0) p.toNat + if ec (had.map ed) p.toNat < Inf then ec (had.map ed) p.toNat else 0 := by
      rw [show (p + 1).toNat = p.toNat + 1 by omega]; rfl
    by_cases h : ec (had.map ed) p.toNat < 4611686018427387904
    · rw [if_pos (show ec (had.map ed) p.toNat < Inf by omega)] at hS
      simp only [if_pos h, ref01_ev e2 (by omega) hv.2.2.2.1 h, Option.bind_some, if_pos (show true = true from rfl)]
      refine Ev.sub 1 ?_
      simp only [blazonref25_Add.j0, w]
      by_cases h' : acc + ec (had.map ed) p.toNat ≥ 4611686018427387904
      · simp only [decide_eq_true h', if_pos trivial]
        refine Ev.ret ?_
        have mono : ∀ (m q : Nat), Sm (fun e => if ec (had.map ed) e < Inf then ec (had.map ed) e else 0) q ≤ Sm (fun e => if ec (had.map ed) e < Inf then ec (had.map ed) e else 0) (q + m) := by
          intro m
          induction m with
          | zero => intro q; exact Int.le_refl _
          | succ m ih =>
            intro q
            have := ih q
            have h0 : 0 ≤ (if ec (had.map ed) (q + m) < Inf then ec (had.map ed) (q + m) else 0) := by
              by_cases hq : q + m < (had.map ed).length
              · have := (g.v _ hq).2.2.2.1
                split <;> omega
              · unfold ec
                rw [List.getD_eq_getElem?_getD, List.getElem?_eq_none (by omega)]
                decide
            rw [show q + (m + 1) = (q + m) + 1 by omega, Sm]
            omega
        have h2 := mono ((had.map ed).length - (p + 1).toNat) (p + 1).toNat
        rw [show (p + 1).toNat + ((had.map ed).length - (p + 1).toNat) = (had.map ed).length by rw [List.length_map]; omega, hS] at h2
        have h3 : fs (had.map ed) = Sm (fun e => if ec (had.map ed) e < Inf then ec (had.map ed) e else 0) (had.map ed).length := rfl
        rw [← h3] at h2
        rw [if_pos (by omega)]
      · simp only [decide_eq_false h', if_neg (show ¬ false = true by decide)]
        exact ih (p + 1) _ (by omega) (by omega) (by rw [hS]; omega) (by omega) (by omega)
    · rw [if_neg (show ¬ ec (had.map ed) p.toNat < Inf by omega)] at hS
      simp only [if_neg h]
      exact ih (p + 1) acc (by omega) (by omega) (by rw [hS]; omega) e1 e2
theorem ref25_ev {n : Int} (had : List S35) (g : EG n (had.map ed)) (a b c : Int) : Ev (fun k => blazonref25_Add.f k n had a b c) (fun r => r = addE n (had.map ed) ⟨a, b, c⟩) := by
  have hI : Inf = 4611686018427387904 := rfl
  have bad : badE n ⟨a, b, c⟩ → Ev (fun k => blazonref25_Add.j1 k c had true) (fun r => r = addE n (had.map ed) ⟨a, b, c⟩) := by
    intro hb
    refine Ev.sub 1 ?_
    simp only [blazonref25_Add.j1, if_pos trivial]
    exact Ev.ret (if_pos hb).symm
  simp only [blazonref25_Add.f]
  by_cases h1 : a < 0
  · simp only [if_pos h1]; exact bad (.inl h1)
  simp only [if_neg h1]
  by_cases h2 : b < 0
  · simp only [if_pos h2]; exact bad (by unfold badE; dsimp only; omega)
  simp only [if_neg h2]
  by_cases h3 : a ≥ n
  · simp only [if_pos h3]; exact bad (by unfold badE; dsimp only; omega)
  simp only [if_neg h3]
  by_cases h4 : b ≥ n
  · simp only [if_pos h4]; exact bad (by unfold badE; dsimp only; omega)
  simp only [if_neg h4]
  by_cases h5 : a = b
  · simp only [if_pos h5]; exact bad (by unfold badE; dsimp only; omega)
  simp only [if_neg h5]
  by_cases h6 : c < 0
  · simp only [if_pos h6]; exact bad (by unfold badE; dsimp only; omega)
  simp only [if_neg h6]
  by_cases h7 : c > 4611686018427387904
  · simp only [decide_eq_true h7]; exact bad (by unfold badE; dsimp only; omega)
  simp only [decide_eq_false h7]
  have nb : ¬ badE n ⟨a, b, c⟩ := by unfold badE; dsimp only; omega
  refine Ev.sub 1 ?_
  simp only [blazonref25_Add.j1, if_neg (show ¬ false = true by decide)]
  by_cases h8 : c = 4611686018427387904
  · simp only [if_pos h8]
    refine Ev.ret ?_
    unfold addE
    rw [if_neg nb, if_pos h8]
  · simp only [if_neg h8]
    refine (ref25_go (c := c) had g (by omega) (by omega) had.length 0 c (Int.le_refl 0) (by omega) (by simp [Sm]) (by omega) (by omega)).mono (fun r h => ?_)
    rw [h]
    unfold addE
    rw [if_neg nb, if_neg h8]
def bldE (n : Int) : List Ed → List Ed → List Ed
  | E, [] => E
  | E, x :: l => if addE n E x = 0 then bldE n (E ++ [x]) l else bldE n E l
theorem built_go {n : Int} (l : List S35) (hl : l.length ≤ 1000) : ∀ (z : Nat) (S : Go.Proofs.Ytdkbmchbkkhpoaa.PMfr.S74) (had : List S35) (p : Int), 0 ≤ p → p + z = (l.length : Int) → (had.length : Int) ≤ p → NetI n (had.map ed) S →
    Ev (fun k => blazonlaw25_built.l0 k n l (some S) had p) (fun r => ∃ S', r.1 = some S' ∧ NetI n (r.2.map ed) S' ∧ r.2.map ed = bldE n (had.map ed) ((l.drop p.toNat).map ed) ∧ S'.f7 = S.f7 ∧ r.2.length ≤ l.length) := by
  intro z
  induction z with
  | zero =>
    intro S had p p0 pz hp hS
    refine Ev.sub 1 ?_
    simp only [blazonlaw25_built.l0, if_neg (show ¬ p < (l.length : Int) by omega)]
    have he : maxflow_Net_Edges.f (some S) = some ((had.length : Int), some S) := by
      show some ((S.f1.length : Int), some S) = _
      rw [hS.c, List.length_map, List.length_map]
    simp only [he, Option.bind_some, if_pos (show (had.length : Int) = had.length from rfl)]
    refine Ev.ret ⟨S, rfl, hS, ?_, rfl, by dsimp only; omega⟩
    rw [List.drop_eq_nil_of_le (by omega)]; rfl
  | succ z ih =>
    intro S had p p0 pz hp hS
    have w : wrap64 (p + 1) = p + 1 := wr (by omega) (by omega)
    have pl : p < (l.length : Int) := by omega
    refine Ev.sub 1 ?_
    simp only [blazonlaw25_built.l0, if_pos pl, if_pos p0, w]
    rw [rd_split l p0 pl]
    refine (add_ev hS (by rw [List.length_map]; omega) (ed (rd_T35 l p))).bind ?_
    rintro ⟨i, e, x'⟩ ⟨h1, h2, h3⟩
    dsimp only at h1 h2 h3 ⊢
    refine (ref25_ev had hS.g (rd_T35 l p).f0 (rd_T35 l p).f1 (rd_T35 l p).f2).bind ?_
    rintro r hr
    have hr' : r = addE n (had.map ed) (ed (rd_T35 l p)) := hr
    simp only [if_pos (show e = r by rw [h1, hr'])]
    rw [List.map_cons, bldE]
    by_cases h0 : addE n (had.map ed) (ed (rd_T35 l p)) = 0
    · obtain ⟨hi, S', hx, hS', h7⟩ := h2 h0
      subst hx
      rw [List.length_map] at hi
      rw [if_pos h0]
      simp only [if_pos (show e = 0 by omega), if_pos hi]
      refine Ev.sub 1 ?_
      simp only [blazonlaw25_built.j0, if_neg (show ¬ false = true by decide), if_pos (show e = 0 by omega), if_pos p0, if_pos pl, if_pos (show had.length < 5864062014805 by omega), Option.bind_some, w]
      have hm : (had ++ [(⟨(rd_T35 l p).f0, (rd_T35 l p).f1, (rd_T35 l p).f2⟩ : S35)]).map ed = had.map ed ++ [ed (rd_T35 l p)] := by rw [List.map_append]; rfl
      refine (ih S' (had ++ [⟨(rd_T35 l p).f0, (rd_T35 l p).f1, (rd_T35 l p).f2⟩]) (p + 1) (by omega) (by omega) (by rw [List.length_append, List.length_singleton]; omega) (by rw [hm]; exact hS')).mono ?_
      rintro r ⟨S'', a, b, c, d, e'⟩
      exact ⟨S'', a, b, by rw [c, hm], d.trans h7, e'⟩
    · obtain ⟨hi, hx⟩ := h3 h0
      subst hx
      rw [if_neg h0]
      simp only [if_neg (show ¬ e = 0 by omega), hi, show (!decide ((0 : Int) = 0)) = false by decide]
      refine Ev.sub 1 ?_
      simp only [blazonlaw25_built.j0, if_neg (show ¬ false = true by decide), if_neg (show ¬ e = 0 by omega), w]
      exact ih S had (p + 1) (by omega) (by omega) (by omega) hS
theorem new_ev {n : Int} (h1 : 1 ≤ n) (h2 : n ≤ 65536) : ∃ S, maxflow_New.f n = some (some S) ∧ NetI n [] S ∧ S.f7.f0 = 0 := by
  have e : maxflow_New.f n = some (some ⟨[], [], List.replicate n.toNat [], 0, false, [], [], ⟨0⟩⟩) := by
    unfold maxflow_New.f Go.Proofs.Ytdkbmchbkkhpoaa.PMfr.New.f Go.Proofs.Ytdkbmchbkkhpoaa.PMfr.New.j0
    rw [if_neg (by omega), decide_eq_false (by omega), if_neg (by decide), if_pos (by omega), if_pos (by omega)]
    rfl
  refine ⟨_, e, ⟨⟨h1, h2, by simp, fun e he => absurd he (by simp), by decide⟩, ⟨rfl, fun j a b => by simp at b; omega⟩, rfl, ⟨by rw [List.length_replicate]; omega, fun v j a b => ?_, fun v => ?_⟩, rfl⟩, rfl⟩
  · have : Go.Proofs.Ytdkbmchbkkhpoaa.PMfr.rd_L4 (List.replicate n.toNat []) v = [] := by
      unfold Go.Proofs.Ytdkbmchbkkhpoaa.PMfr.rd_L4
      rw [List.getD_eq_getElem?_getD, List.getElem?_replicate]
      split <;> rfl
    show j ∈ Go.Proofs.Ytdkbmchbkkhpoaa.PMfr.rd_L4 (List.replicate n.toNat []) v ↔ _
    rw [this]
    exact ⟨fun h => absurd h (by simp), fun h => by have := h.2.1; simp at this; omega⟩
  · have : Go.Proofs.Ytdkbmchbkkhpoaa.PMfr.rd_L4 (List.replicate n.toNat []) v = [] := by
      unfold Go.Proofs.Ytdkbmchbkkhpoaa.PMfr.rd_L4
      rw [List.getD_eq_getElem?_getD, List.getElem?_replicate]
      split <;> rfl
    show (Go.Proofs.Ytdkbmchbkkhpoaa.PMfr.rd_L4 (List.replicate n.toNat []) v).length ≤ _
    rw [this]; exact Nat.zero_le _
theorem built_ev {n : Int} (h1 : 1 ≤ n) (h2 : n ≤ 65536) (l : List S35) (hl : l.length ≤ 1000) : Ev (fun k => blazonlaw25_built.f k n l) (fun r => ∃ S', r.1 = some S' ∧ NetI n (r.2.map ed) S' ∧ r.2.map ed = bldE n [] (l.map ed) ∧ S'.f7.f0 = 0 ∧ r.2.length ≤ l.length) := by
  obtain ⟨S, e, hS, h7⟩ := new_ev h1 h2
  simp only [blazonlaw25_built.f, e, Option.bind_some, onOpt]
  refine (built_go l hl l.length S [] 0 (Int.le_refl 0) (by omega) (by simp) hS).mono ?_
  rintro r ⟨S', a, b, c, d, f⟩
  exact ⟨S', a, b, c, by rw [d]; exact h7, f⟩
theorem awake_tells (k : Nat) : blazonlaw25_awake.f (k + 60) = some true := by kernel_rfl
theorem awake_ev : Ev (fun k => blazonlaw25_awake.f k) (fun r => r = true) := Ev.sub 60 ⟨true, rfl, 0, fun k _ => awake_tells k⟩
theorem Ev.okay {F : Nat → Option Bool} (h : Ev F (fun r => r = true)) : ∃ k, F k = some true := by
  obtain ⟨k, r, e, hr⟩ := h.out
  exact ⟨k, by rw [e, hr]⟩
theorem awake_end : Ev (fun k => (blazonlaw25_awake.f k).bind fun t => some t) (fun r => r = true) := awake_ev.bind (fun r h => Ev.ret h)
def rev (x : Ed) : Ed := ⟨x.b, x.a, x.c⟩
theorem ea_rev (E : List Ed) (e : Nat) : ea (E.map rev) e = eb E e := by
  unfold ea eb
  rw [List.getD_eq_getElem?_getD, List.getD_eq_getElem?_getD, List.getElem?_map]
  cases E[e]? <;> rfl
theorem eb_rev (E : List Ed) (e : Nat) : eb (E.map rev) e = ea E e := by
  unfold ea eb
  rw [List.getD_eq_getElem?_getD, List.getD_eq_getElem?_getD, List.getElem?_map]
  cases E[e]? <;> rfl
theorem ec_rev (E : List Ed) (e : Nat) : ec (E.map rev) e = ec E e := by
  unfold ec
  rw [List.getD_eq_getElem?_getD, List.getD_eq_getElem?_getD, List.getElem?_map]
  cases E[e]? <;> rfl
theorem fs_rev (E : List Ed) : fs (E.map rev) = fs E := by
  unfold fs
  rw [List.length_map]
  exact Sm.congr (fun e _ => by rw [ec_rev])
theorem addE_rev (n : Int) (E : List Ed) (x : Ed) : addE n (E.map rev) (rev x) = addE n E x := by
  have hb : badE n (rev x) ↔ badE n x := by unfold badE rev; dsimp only; omega
  unfold addE
  rw [fs_rev, show (rev x).c = x.c from rfl]
  by_cases h : badE n x
  · rw [if_pos h, if_pos (hb.2 h)]
  · rw [if_neg h, if_neg (fun h' => h (hb.1 h'))]
theorem bldE_rev (n : Int) : ∀ (l E : List Ed), bldE n (E.map rev) (l.map rev) = (bldE n E l).map rev := by
  intro l
  induction l with
  | nil => intro E; rfl
  | cons x l ih =>
    intro E
    rw [List.map_cons, bldE, bldE, addE_rev]
    by_cases h : addE n E x = 0
    · rw [if_pos h, if_pos h, ← ih, List.map_append]; rfl
    · rw [if_neg h, if_neg h, ih]
theorem endl_rev {E : List Ed} {s t : Int} (h : Endl E s t) : Endl (E.map rev) t s := by
  have front : ∀ {R : Int → Int → Prop} {a b c : Int}, R a b → Rch R b c → Rch R a c := by
    intro R a b c h1 h2
    induction h2 with
    | refl => exact .step _ _ .refl h1
    | step u v _ huv ih => exact .step _ _ ih huv
  unfold Endl at h ⊢
  induction h with
  | refl => exact .refl
  | step u v _ huv ih =>
    obtain ⟨e, he, ha, hb, hc⟩ := huv
    exact front ⟨e, by rw [List.length_map]; exact he, by rw [ea_rev]; exact hb, by rw [eb_rev]; exact ha, by rw [ec_rev]; exact hc⟩ ih
theorem rev_rev (E : List Ed) : (E.map rev).map rev = E := by
  rw [List.map_map]
  exact List.map_id'' (fun _ => rfl) E
theorem max_rev {E : List Ed} {s t v : Int} (h : IsMax E s t v) : IsMax (E.map rev) t s v := by
  obtain ⟨⟨f, hf⟩, C, hC, hv⟩ := h
  refine ⟨⟨f, fun e he => ?_, fun X => ?_⟩, fun x => !C x, ⟨by simp [hC.2.1], by simp [hC.1], fun e he h1 h2 => ?_⟩, ?_⟩
  · rw [List.length_map] at he; rw [ec_rev]; exact hf.b e he
  · have := hf.k (fun x => - X x)
    rw [List.length_map, show v * (X t - X s) = v * (-X s - -X t) by congr 1; omega, ← this]
    exact Sm.congr (fun e he => by rw [ea_rev, eb_rev]; congr 1; omega)
  · rw [List.length_map] at he
    rw [ea_rev] at h1
    rw [eb_rev] at h2
    rw [ec_rev]
    exact hC.2.2 e he (by simpa using h2) (by simpa using h1)
  · rw [← hv]
    unfold CutV
    rw [List.length_map]
    refine Sm.congr (fun e he => ?_)
    rw [ea_rev, eb_rev, ec_rev]
    by_cases h1 : C (ea E e) = true <;> by_cases h2 : C (eb E e) = true <;> simp [h1, h2]
def rv35 (x : S35) : S35 := ⟨x.f1, x.f0, x.f2⟩
theorem ed_rv (l : List S35) : (l.map rv35).map ed = (l.map ed).map rev := by
  rw [List.map_map, List.map_map]
  rfl
theorem turned_go {n s t : Int} (l : List S35) (hl : l.length ≤ 1000) (h1 : 1 ≤ n) (h2 : n ≤ 60) : ∀ (z : Nat) (p : Int), 0 ≤ p → p + z = (l.length : Int) → Ev (fun k => blazonlaw25_MaxflowTurned.l0 k n s t l ((l.take p.toNat).map rv35) p) (fun r => r = true) := by
  intro z
  induction z with
  | zero =>
    intro p p0 pz
    refine Ev.sub 1 ?_
    simp only [blazonlaw25_MaxflowTurned.l0, if_neg (show ¬ p < (l.length : Int) by omega)]
    rw [List.take_of_length_le (by omega)]
    refine (built_ev h1 (by omega) l hl).bind ?_
    rintro ⟨x, had⟩ ⟨S, rfl, hS, hb, _, _⟩
    refine (built_ev h1 (by omega) (l.map rv35) (by rw [List.length_map]; exact hl)).bind ?_
    rintro ⟨x', had'⟩ ⟨S', rfl, hS', hb', _, _⟩
    dsimp only [onOpt] at hS hb hS' hb' ⊢
    have key : had'.map ed = (had.map ed).map rev := by
      rw [hb', hb, ed_rv]
      exact bldE_rev n (l.map ed) []
    rw [key] at hS'
    have hlen : had'.length = had.length := by
      have := congrArg List.length key
      simpa using this
    refine Ev.sub 1 ?_
    simp only [blazonlaw25_MaxflowTurned.j0, if_neg (show ¬ false = true by decide)]
    refine (max_ev hS s t).bind ?_
    rintro ⟨v, e, x1⟩ ⟨S1, hx1, hS1, b1, b2, b3⟩
    refine (max_ev hS' t s).bind ?_
    rintro ⟨w, f, x2⟩ ⟨S2, hx2, hS2, c1, c2, c3⟩
    dsimp only at hx1 b1 b2 b3 hx2 c1 c2 c3 ⊢
    subst hx1 hx2
    have hve : v = w ∧ e = f := by
      by_cases hb : badP n s t
      · have hb' : badP n t s := by unfold badP at hb ⊢; omega
        rw [(b1 hb).1, (b1 hb).2.1, (c1 hb').1, (c1 hb').2.1]
        exact ⟨rfl, rfl⟩
      · have hb' : ¬ badP n t s := by unfold badP at hb ⊢; omega
        by_cases he : Endl (had.map ed) s t
        · have he' := endl_rev he
          rw [(b2 hb he).1, (b2 hb he).2.1, (c2 hb' he').1, (c2 hb' he').2.1]
          exact ⟨rfl, rfl⟩
        · have he' : ¬ Endl ((had.map ed).map rev) t s := fun h => he (by have := endl_rev h; rwa [rev_rev] at this)
          obtain ⟨x1, _, m1, _⟩ := b3 hb he
          obtain ⟨x2, _, m2, _⟩ := c3 hb' he'
          exact ⟨(max_rev m1).uniq m2, x1.trans x2.symm⟩
    have e1 : maxflow_Net_Edges.f (some S1) = some ((had.length : Int), some S1) := by
      show some ((S1.f1.length : Int), some S1) = _
      rw [hS1.c, List.length_map, List.length_map]
    have e2 : maxflow_Net_Edges.f (some S2) = some ((had.length : Int), some S2) := by
      show some ((S2.f1.length : Int), some S2) = _
      rw [hS2.c, List.length_map, List.length_map, List.length_map]
    simp only [if_pos hve.1, if_pos hve.2, e1, e2, Option.bind_some, if_pos (show (had.length : Int) = had.length from rfl)]
    exact awake_end
  | succ z ih =>
    intro p p0 pz
    have w : wrap64 (p + 1) = p + 1 := wr (by omega) (by omega)
    have pl : p < (l.length : Int) := by omega
    refine Ev.sub 1 ?_
    simp only [blazonlaw25_MaxflowTurned.l0, if_pos pl, if_pos p0, w, if_pos (show ((l.take p.toNat).map rv35).length < 5864062014805 by rw [List.length_map, List.length_take]; omega), Option.bind_some]
    have e : (l.take p.toNat).map rv35 ++ [(⟨(rd_T35 l p).f1, (rd_T35 l p).f0, (rd_T35 l p).f2⟩ : S35)] = (l.take (p + 1).toNat).map rv35 := by
      rw [show (p + 1).toNat = p.toNat + 1 by omega, List.take_succ_eq_append_getElem (by omega), List.map_append]
      congr 1
      unfold rd_T35
      rw [List.getD_eq_getElem?_getD, List.getElem?_eq_getElem (by omega)]
      rfl
    rw [e]
    exact ih (p + 1) (by omega) (by omega)
theorem MaxflowTurned : blazonlaw25_MaxflowTurned.Pure := by
  intro n l s t _ _ _ _ _ _
  refine Ev.okay ?_
  simp only [blazonlaw25_MaxflowTurned.f]
  have out : Ev (fun k => blazonlaw25_MaxflowTurned.j1 k n s t l true) (fun r => r = true) := by
    refine Ev.sub 1 ?_
    simp only [blazonlaw25_MaxflowTurned.j1, if_pos trivial]
    exact awake_end
  by_cases h1 : n < 1
  · simp only [if_pos h1]; exact out
  simp only [if_neg h1]
  by_cases h2 : n > 60
  · simp only [if_pos h2]; exact out
  simp only [if_neg h2]
  by_cases h3 : (l.length : Int) > 200
  · simp only [decide_eq_true h3]; exact out
  simp only [decide_eq_false h3]
  refine Ev.sub 1 ?_
  simp only [blazonlaw25_MaxflowTurned.j1, if_neg (show ¬ false = true by decide)]
  have := turned_go (s := s) (t := t) l (by omega) (show 1 ≤ n by omega) (by omega) l.length 0 (Int.le_refl 0) (by omega)
  simpa using this

end Go.Proofs.Ytdkbmchbkkhpoaa.Pure
