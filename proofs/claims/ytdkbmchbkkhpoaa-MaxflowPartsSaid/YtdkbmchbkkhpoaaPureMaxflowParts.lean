/- An edge in two parts, one beside the other, lets as much through as it did. -/
import Derived.Test.YtdkbmchbkkhpoaaPMpax1
import Derived.Test.YtdkbmchbkkhpoaaPMpax2
import Derived.Test.YtdkbmchbkkhpoaaFlG
import Derived.OpenShut
import Derived.Laws.BitsLemmas
import Derived.Laws.BitsAllLaws
import Derived.Laws.Bits64b
import Derived.Lib.TrailingZeros
import Derived.Lib.Bytes
import Derived.Test.YtdkbmchbkkhpoaaWSized
set_option linter.unusedVariables false
set_option linter.unusedSimpArgs false
namespace Go.Proofs.Ytdkbmchbkkhpoaa.Pure
open Go.RowKit Go.Proofs.Ytdkbmchbkkhpoaa.PMpa Go.Proofs.YtdkbmchbkkhpoaaW.PrintWords Go.Proofs.YtdkbmchbkkhpoaaW.PrintLast

open Go.Proofs.Ytdkbmchbkkhpoaa.Flow
def ed (x : S35) : Ed := ⟨x.f0, x.f1, x.f2⟩
theorem ea_ed (l : List S35) {p : Int} (h : 0 ≤ p) : ea (l.map ed) p.toNat = (rd_T35 l p).f0 := by
  unfold ea rd_T35
  rw [List.getD_eq_getElem?_getD, List.getD_eq_getElem?_getD, List.getElem?_map]
  cases l[p.toNat]? <;> rfl
theorem eb_ed (l : List S35) {p : Int} (h : 0 ≤ p) : eb (l.map ed) p.toNat = (rd_T35 l p).f1 := by
  unfold eb rd_T35
  rw [List.getD_eq_getElem?_getD, List.getD_eq_getElem?_getD, List.getElem?_map]
  cases l[p.toNat]? <;> rfl
theorem ec_ed (l : List S35) {p : Int} (h : 0 ≤ p) : ec (l.map ed) p.toNat = (rd_T35 l p).f2 := by
  unfold ec rd_T35
  rw [List.getD_eq_getElem?_getD, List.getD_eq_getElem?_getD, List.getElem?_map]
  cases l[p.toNat]? <;> rfl
theorem rd_split (l : List S35) {p : Int} (h0 : 0 ≤ p) (h1 : p < (l.length : Int)) : l.drop p.toNat = rd_T35 l p :: l.drop (p + 1).toNat := by
  rw [show (p + 1).toNat = p.toNat + 1 by omega, List.drop_eq_getElem_cons (by omega)]
  congr 1
  unfold rd_T35
  rw [List.getD_eq_getElem?_getD, List.getElem?_eq_getElem (by omega)]; rfl
theorem ref01_ev {a b : Int} (a0 : 0 ≤ a) (a1 : a < 4611686018427387904) (b0 : 0 ≤ b) (b1 : b < 4611686018427387904) : blazonref01_Add.f a b = some (a + b, true) := by
  have j : blazonref01_Add.j0 a b false = some (a + b, true) := by
    unfold blazonref01_Add.j0
    rw [if_neg (by decide), wr (by omega) (by omega)]
  unfold blazonref01_Add.f
  rw [wr (x := 9223372036854775807 - b) (by omega) (by omega)]
  by_cases h : b > 0
  · rw [if_pos h, if_neg (by omega), if_neg (by omega), j]
  · rw [if_neg h, if_neg (by omega), j]
theorem ref25_go {n c : Int} (had : List S35) (g : EG n (had.map ed)) (c0 : 0 ≤ c) (c1 : c < Inf) : ∀ (z : Nat) (p acc : Int), 0 ≤ p → p + z = (had.length : Int) → acc = c + Sm (fun e => if ec (had.map ed) e < Inf then ec (had.map ed) e else 0) p.toNat → acc < Inf → 0 ≤ acc →
    Ev (fun k => blazonref25_Add.l0 k had acc p) (fun r => r = if fs (had.map ed) + c ≥ Inf then 18 else 0) := by
  have hI : Inf = 4611686018427387904 := rfl
  have hlen := g.m
  rw [List.length_map] at hlen
  intro z
  induction z with
  | zero =>
    intro p acc p0 pz e e1 e2
    refine Ev.sub 1 ?_
    simp only [blazonref25_Add.l0, if_neg (show ¬ p < (had.length : Int) by omega), if_neg (show ¬ acc ≥ 4611686018427387904 by omega)]
    refine Ev.ret ?_
    have hp : p.toNat = (had.map ed).length := by rw [List.length_map]; omega
    rw [hp] at e
    have : acc = c + fs (had.map ed) := e
    rw [if_neg (by omega)]
  | succ z ih =>
    intro p acc p0 pz e e1 e2
    have hv := g.v p.toNat (by rw [List.length_map]; omega)
    have ec' := ec_ed had p0
    have w : wrap64 (p + 1) = p + 1 := wr (by omega) (by omega)
    refine Ev.sub 1 ?_
    simp only [blazonref25_Add.l0, if_pos (show p < (had.length : Int) by omega), if_pos p0, w, ← ec']
    have hS : Sm (fun e => if ec (had.map ed) e < Inf then ec (had.map ed) e else 0) (p + 1).toNat = Sm (fun e => if ec (had.map ed) e < Inf then ec (had.map ed) e else 0) p.toNat + if ec (had.map ed) p.toNat < Inf then ec (had.map ed) p.toNat else 0 := by
      rw [show (p + 1).toNat = p.toNat + 1 by omega]; rfl
    by_cases h : ec (had.map ed) p.toNat < 4611686018427387904
    · rw [if_pos (show ec (had.map ed) p.toNat < Inf by omega)] at hS
      simp only [if_pos h, ref01_ev e2 (by omega) hv.2.2.2.1 h, Option.bind_some, if_pos (show true = true from rfl)]
      refine Ev.sub 1 ?_
      simp only [blazonref25_Add.j0, w]
      by_cases h' : acc + ec (had.map ed) p.toNat ≥ 4611686018427387904
      · simp only [decide_eq_true h', if_pos trivial]
        refine Ev.ret ?_
        have mono : ∀ (m q : Nat), Sm (fun e => if ec (had.map ed) e < Inf then ec (had.map ed) e else 0) q ≤ Sm (fun e => if ec (had.map ed) e < Inf then ec (had.map ed) e else 0) (q + m) := by
          intro m
          induction m with
          | zero => intro q; exact Int.le_refl _
          | succ m ih =>
            intro q
            have := ih q
            have h0 : 0 ≤ (if ec (had.map ed) (q + m) < Inf then ec (had.map ed) (q + m) else 0) := by
              by_cases hq : q + m < (had.map ed).length
              · have := (g.v _ hq).2.2.2.1
                split <;> omega
              · unfold ec
                rw [List.getD_eq_getElem?_getD, List.getElem?_eq_none (by omega)]
                decide
            rw [show q + (m + 1) = (q + m) + 1 by omega, Sm]
            omega
        have h2 := mono ((had.map ed).length - (p + 1).toNat) (p + 1).toNat
        rw [show (p + 1).toNat + ((had.map ed).length - (p + 1).toNat) = (had.map ed).length by rw [List.length_map]; omega, hS] at h2
        have h3 : fs (had.map ed) = Sm (fun e => if ec (had.map ed) e < Inf then ec (had.map ed) e else 0) (had.map ed).length := rfl
        rw [← h3] at h2
        rw [if_pos (by omega)]
      · simp only [decide_eq_false h', if_neg (show ¬ false = true by decide)]
        exact ih (p + 1) _ (by omega) (by omega) (by rw [hS]; omega) (by omega) (by omega)
    · rw [if_neg (show ¬ ec (had.map ed) p.toNat < Inf by omega)] at hS
      simp only [if_neg h]
      exact ih (p + 1) acc (by omega) (by omega) (by rw [hS]; omega) e1 e2
theorem ref25_ev {n : Int} (had : List S35) (g : EG n (had.map ed)) (a b c : Int) : Ev (fun k => blazonref25_Add.f k n had a b c) (fun r => r = addE n (had.map ed) ⟨a, b, c⟩) := by
  have hI : Inf = 4611686018427387904 := rfl
  have bad : badE n ⟨a, b, c⟩ → Ev (fun k => blazonref25_Add.j1 k c had true) (fun r => r = addE n (had.map ed) ⟨a, b, c⟩) := by
    intro hb
    refine Ev.sub 1 ?_
    simp only [blazonref25_Add.j1, if_pos trivial]
    exact Ev.ret (if_pos hb).symm
  simp only [blazonref25_Add.f]
  by_cases h1 : a < 0
  · simp only [if_pos h1]; exact bad (.inl h1)
  simp only [if_neg h1]
  by_cases h2 : b < 0
  · simp only [if_pos h2]; exact bad (by unfold badE; dsimp only; omega)
  simp only [if_neg h2]
  by_cases h3 : a ≥ n
  · simp only [if_pos h3]; exact bad (by unfold badE; dsimp only; omega)
  simp only [if_neg h3]
  by_cases h4 : b ≥ n
  · simp only [if_pos h4]; exact bad (by unfold badE; dsimp only; omega)
  simp only [if_neg h4]
  by_cases h5 : a = b
  · simp only [if_pos h5]; exact bad (by unfold badE; dsimp only; omega)
  simp only [if_neg h5]
  by_cases h6 : c < 0
  · simp only [if_pos h6]; exact bad (by unfold badE; dsimp only; omega)
  simp only [if_neg h6]
  by_cases h7 : c > 4611686018427387904
  · simp only [decide_eq_true h7]; exact bad (by unfold badE; dsimp only; omega)
  simp only [decide_eq_false h7]
  have nb : ¬ badE n ⟨a, b, c⟩ := by unfold badE; dsimp only; omega
  refine Ev.sub 1 ?_
  simp only [blazonref25_Add.j1, if_neg (show ¬ false = true by decide)]
  by_cases h8 : c = 4611686018427387904
  · simp only [if_pos h8]
    refine Ev.ret ?_
    unfold addE
    rw [if_neg nb, if_pos h8]
  · simp only [if_neg h8]
    refine (ref25_go (c := c) had g (by omega) (by omega) had.length 0 c (Int.le_refl 0) (by omega) (by simp [Sm]) (by omega) (by omega)).mono (fun r h => ?_)
    rw [h]
    unfold addE
    rw [if_neg nb, if_neg h8]
def bldE (n : Int) : List Ed → List Ed → List Ed
  | E, [] => E
  | E, x :: l => if addE n E x = 0 then bldE n (E ++ [x]) l else bldE n E l
theorem built_go {n : Int} (l : List S35) (hl : l.length ≤ 1000) : ∀ (z : Nat) (S : Go.Proofs.Ytdkbmchbkkhpoaa.PMfr.S74) (had : List S35) (p : Int), 0 ≤ p → p + z = (l.length : Int) → (had.length : Int) ≤ p → NetI n (had.map ed) S →
    Ev (fun k => blazonlaw25_built.l0 k n l (some S) had p) (fun r => ∃ S', r.1 = some S' ∧ NetI n (r.2.map ed) S' ∧ r.2.map ed = bldE n (had.map ed) ((l.drop p.toNat).map ed) ∧ S'.f7 = S.f7 ∧ r.2.length ≤ l.length) := by
  intro z
  induction z with
  | zero =>
    intro S had p p0 pz hp hS
    refine Ev.sub 1 ?_
    simp only [blazonlaw25_built.l0, if_neg (show ¬ p < (l.length : Int) by omega)]
    have he : maxflow_Net_Edges.f (some S) = some ((had.length : Int), some S) := by
      show some ((S.f1.length : Int), some S) = _
      rw [hS.c, List.length_map, List.length_map]
    simp only [he, Option.bind_some, if_pos (show (had.length : Int) = had.length from rfl)]
    refine Ev.ret ⟨S, rfl, hS, ?_, rfl, by dsimp only; omega⟩
    rw [List.drop_eq_nil_of_le (by omega)]; rfl
  | succ z ih =>
    intro S had p p0 pz hp hS
    have w : wrap64 (p + 1) = p + 1 := wr (by omega) (by omega)
    have pl : p < (l.length : Int) := by omega
    refine Ev.sub 1 ?_
    simp only [blazonlaw25_built.l0, if_pos pl, if_pos p0, w]
    rw [rd_split l p0 pl]
    refine (add_ev hS (by rw [List.length_map]; omega) (ed (rd_T35 l p))).bind ?_
    rintro ⟨i, e, x'⟩ ⟨h1, h2, h3⟩
    dsimp only at h1 h2 h3 ⊢
    refine (ref25_ev had hS.g (rd_T35 l p).f0 (rd_T35 l p).f1 (rd_T35 l p).f2).bind ?_
    rintro r hr
    have hr' : r = addE n (had.map ed) (ed (rd_T35 l p)) := hr
    simp only [if_pos (show e = r by rw [h1, hr'])]
    rw [List.map_cons, bldE]
    by_cases h0 : addE n (had.map ed) (ed (rd_T35 l p)) = 0
    · obtain ⟨hi, S', hx, hS', h7⟩ := h2 h0
      subst hx
      rw [List.length_map] at hi
      rw [if_pos h0]
      simp only [if_pos (show e = 0 by omega), if_pos hi]
      refine Ev.sub 1 ?_
      simp only [blazonlaw25_built.j0, if_neg (show ¬ false = true by decide), if_pos (show e = 0 by omega), if_pos p0, if_pos pl, if_pos (show had.length < 5864062014805 by omega), Option.bind_some, w]
      have hm : (had ++ [(⟨(rd_T35 l p).f0, (rd_T35 l p).f1, (rd_T35 l p).f2⟩ : S35)]).map ed = had.map ed ++ [ed (rd_T35 l p)] := by rw [List.map_append]; rfl
      refine (ih S' (had ++ [⟨(rd_T35 l p).f0, (rd_T35 l p).f1, (rd_T35 l p).f2⟩]) (p + 1) (by omega) (by omega) (by rw [List.length_append, List.length_singleton]; omega) (by rw [hm]; exact hS')).mono ?_
      rintro r ⟨S'', a, b, c, d, e'⟩
      exact ⟨S'', a, b, by rw [c, hm], d.trans h7, e'⟩
    · obtain ⟨hi, hx⟩ := h3 h0
      subst hx
      rw [if_neg h0]
      simp only [if_neg (show ¬ e = 0 by omega), hi, show (!decide ((0 : Int) = 0)) = false by decide]
      refine Ev.sub 1 ?_
      simp only [blazonlaw25_built.j0, if_neg (show ¬ false = true by decide), if_neg (show ¬ e = 0 by omega), w]
      exact ih S had (p + 1) (by omega) (by omega) (by omega) hS
theorem new_ev {n : Int} (h1 : 1 ≤ n) (h2 : n ≤ 65536) : ∃ S, maxflow_New.f n = some (some S) ∧ NetI n [] S ∧ S.f7.f0 = 0 := by
  have e : maxflow_New.f n = some (some ⟨[], [], List.replicate n.toNat [], 0, false, [], [], ⟨0⟩⟩) := by
    unfold maxflow_New.f Go.Proofs.Ytdkbmchbkkhpoaa.PMfr.New.f Go.Proofs.Ytdkbmchbkkhpoaa.PMfr.New.j0
    rw [if_neg (by omega), decide_eq_false (by omega), if_neg (by decide), if_pos (by omega), if_pos (by omega)]
    rfl
  refine ⟨_, e, ⟨⟨h1, h2, by simp, fun e he => absurd he (by simp), by decide⟩, ⟨rfl, fun j a b => by simp at b; omega⟩, rfl, ⟨by rw [List.length_replicate]; omega, fun v j a b => ?_, fun v => ?_⟩, rfl⟩, rfl⟩
  · have : Go.Proofs.Ytdkbmchbkkhpoaa.PMfr.rd_L4 (List.replicate n.toNat []) v = [] := by
      unfold Go.Proofs.Ytdkbmchbkkhpoaa.PMfr.rd_L4
      rw [List.getD_eq_getElem?_getD, List.getElem?_replicate]
      split <;> rfl
    show j ∈ Go.Proofs.Ytdkbmchbkkhpoaa.PMfr.rd_L4 (List.replicate n.toNat []) v ↔ _
    rw [this]
    exact ⟨fun h => absurd h (by simp), fun h => by have := h.2.1; simp at this; omega⟩
  · have : Go.Proofs.Ytdkbmchbkkhpoaa.PMfr.rd_L4 (List.replicate n.toNat []) v = [] := by
      unfold Go.Proofs.Ytdkbmchbkkhpoaa.PMfr.rd_L4
      rw [List.getD_eq_getElem?_getD, List.getElem?_replicate]
      split <;> rfl
    show (Go.Proofs.Ytdkbmchbkkhpoaa.PMfr.rd_L4 (List.replicate n.toNat []) v).length ≤ _
    rw [this]; exact Nat.zero_le _
theorem built_ev {n : Int} (h1 : 1 ≤ n) (h2 : n ≤ 65536) (l : List S35) (hl : l.length ≤ 1000) : Ev (fun k => blazonlaw25_built.f k n l) (fun r => ∃ S', r.1 = some S' ∧ NetI n (r.2.map ed) S' ∧ r.2.map ed = bldE n [] (l.map ed) ∧ S'.f7.f0 = 0 ∧ r.2.length ≤ l.length) := by
  obtain ⟨S, e, hS, h7⟩ := new_ev h1 h2
  simp only [blazonlaw25_built.f, e, Option.bind_some, onOpt]
  refine (built_go l hl l.length S [] 0 (Int.le_refl 0) (by omega) (by simp) hS).mono ?_
  rintro r ⟨S', a, b, c, d, f⟩
  exact ⟨S', a, b, c, by rw [d]; exact h7, f⟩
theorem awake_tells (k : Nat) : blazonlaw25_awake.f (k + 60) = some true := by kernel_rfl
theorem awake_ev : Ev (fun k => blazonlaw25_awake.f k) (fun r => r = true) := Ev.sub 60 ⟨true, rfl, 0, fun k _ => awake_tells k⟩
theorem Ev.okay {F : Nat → Option Bool} (h : Ev F (fun r => r = true)) : ∃ k, F k = some true := by
  obtain ⟨k, r, e, hr⟩ := h.out
  exact ⟨k, by rw [e, hr]⟩
theorem awake_end : Ev (fun k => (blazonlaw25_awake.f k).bind fun t => some t) (fun r => r = true) := awake_ev.bind (fun r h => Ev.ret h)
theorem bldE_all {n : Int} : ∀ (l E : List Ed), EG n (E ++ l) → bldE n E l = E ++ l := by
  intro l
  induction l with
  | nil => intro E _; rw [List.append_nil]; rfl
  | cons x l ih =>
    intro E g
    have e : E ++ x :: l = (E ++ [x]) ++ l := by simp
    rw [e] at g ⊢
    have pre : ∀ (m : List Ed) (i : Nat), i < (E ++ [x]).length → ea ((E ++ [x]) ++ m) i = ea (E ++ [x]) i ∧ eb ((E ++ [x]) ++ m) i = eb (E ++ [x]) i ∧ ec ((E ++ [x]) ++ m) i = ec (E ++ [x]) i := fun m i hi => by
      unfold ea eb ec
      rw [List.getD_eq_getElem?_getD, List.getElem?_append_left hi, ← List.getD_eq_getElem?_getD]
      exact ⟨rfl, rfl, rfl⟩
    have hfs : ∀ m : List Ed, EG n ((E ++ [x]) ++ m) → fs (E ++ [x]) ≤ fs ((E ++ [x]) ++ m) := fun m gm => by
      have h1 : fs (E ++ [x]) = Sm (fun e => if ec ((E ++ [x]) ++ m) e < Inf then ec ((E ++ [x]) ++ m) e else 0) (E ++ [x]).length := Sm.congr (fun i hi => by rw [(pre m i hi).2.2])
      have mono : ∀ z : Nat, z ≤ m.length → Sm (fun e => if ec ((E ++ [x]) ++ m) e < Inf then ec ((E ++ [x]) ++ m) e else 0) (E ++ [x]).length ≤ Sm (fun e => if ec ((E ++ [x]) ++ m) e < Inf then ec ((E ++ [x]) ++ m) e else 0) ((E ++ [x]).length + z) := by
        intro z
        induction z with
        | zero => intro _; exact Int.le_refl _
        | succ z ih =>
          intro hz
          have := ih (by omega)
          have h0 := (gm.v ((E ++ [x]).length + z) (by have e2 : ((E ++ [x]) ++ m).length = (E ++ [x]).length + m.length := List.length_append; omega)).2.2.2.1
          rw [show (E ++ [x]).length + (z + 1) = ((E ++ [x]).length + z) + 1 by omega, Sm]
          split <;> omega
      have := mono m.length (Nat.le_refl _)
      rw [← List.length_append] at this
      rw [h1]; exact this
    have h0 : addE n E x = 0 := by
      have hx := g.v E.length (by rw [List.length_append, List.length_append, List.length_singleton]; omega)
      obtain ⟨p1, p2, p3⟩ := pre l E.length (by rw [List.length_append, List.length_singleton]; omega)
      rw [p1, p2, p3, ea_app, eb_app, ec_app, if_neg (Nat.lt_irrefl _), if_pos rfl, if_neg (Nat.lt_irrefl _), if_pos rfl, if_neg (Nat.lt_irrefl _), if_pos rfl] at hx
      have hs := g.s
      have := hfs l g
      rw [fs_app] at this
      unfold addE
      rw [if_neg (by unfold badE; omega)]
      split
      · rfl
      · rw [if_pos (by omega)] at this
        rw [if_neg (by omega)]
    rw [bldE, if_pos h0]
    exact ih (E ++ [x]) g
def two (E : List Ed) (k : Nat) (q : Int) : List Ed := E.set k ⟨ea E k, eb E k, ec E k - q⟩ ++ [⟨ea E k, eb E k, q⟩]
section
variable {E : List Ed} {k : Nat} {q : Int}
theorem ea_two (hk : k < E.length) (e : Nat) (he : e < E.length) : ea (two E k q) e = ea E e := by
  unfold two
  rw [ea_app, if_pos (by rw [List.length_set]; exact he)]
  by_cases h : k = e
  · subst h
    conv => lhs; unfold ea
    rw [List.getD_eq_getElem?_getD, List.getElem?_set_self (by simpa using hk)]; rfl
  · unfold ea
    rw [List.getD_eq_getElem?_getD, List.getElem?_set_ne h, ← List.getD_eq_getElem?_getD]
theorem eb_two (hk : k < E.length) (e : Nat) (he : e < E.length) : eb (two E k q) e = eb E e := by
  unfold two
  rw [eb_app, if_pos (by rw [List.length_set]; exact he)]
  by_cases h : k = e
  · subst h
    conv => lhs; unfold eb
    rw [List.getD_eq_getElem?_getD, List.getElem?_set_self (by simpa using hk)]; rfl
  · unfold eb
    rw [List.getD_eq_getElem?_getD, List.getElem?_set_ne h, ← List.getD_eq_getElem?_getD]
theorem ec_two (hk : k < E.length) (e : Nat) (he : e < E.length) : ec (two E k q) e = if e = k then ec E k - q else ec E e := by
  unfold two
  rw [ec_app, if_pos (by rw [List.length_set]; exact he)]
  by_cases h : e = k
  · subst h
    rw [if_pos rfl]
    conv => lhs; unfold ec
    rw [List.getD_eq_getElem?_getD, List.getElem?_set_self (by simpa using hk)]; rfl
  · rw [if_neg h]
    unfold ec
    rw [List.getD_eq_getElem?_getD, List.getElem?_set_ne (fun h' => h h'.symm), ← List.getD_eq_getElem?_getD]
theorem len_two : (two E k q).length = E.length + 1 := by unfold two; rw [List.length_append, List.length_set]; rfl
theorem new_two (hk : k < E.length) : ea (two E k q) E.length = ea E k ∧ eb (two E k q) E.length = eb E k ∧ ec (two E k q) E.length = q := by
  unfold two
  rw [ea_app, eb_app, ec_app, List.length_set, if_neg (Nat.lt_irrefl _), if_pos rfl, if_neg (Nat.lt_irrefl _), if_pos rfl, if_neg (Nat.lt_irrefl _), if_pos rfl]
  exact ⟨rfl, rfl, rfl⟩
theorem two_good {n : Int} (g : EG n E) (hm : E.length < 100000) (hk : k < E.length) (q0 : 0 ≤ q) (hq : q ≤ ec E k) (hc : ec E k < Inf) : EG n (two E k q) := by
  obtain ⟨a1, a2, a3⟩ := new_two (q := q) hk
  have hv := g.v k hk
  refine ⟨g.n1, g.n2, by rw [len_two]; omega, fun e he => ?_, ?_⟩
  · rw [len_two] at he
    by_cases h : e < E.length
    · rw [ea_two hk e h, eb_two hk e h, ec_two hk e h]
      have := g.v e h
      split
      · rename_i h'; subst h'; omega
      · exact this
    · rw [show e = E.length by omega, a1, a2, a3]; omega
  · have hs := g.s
    have : fs (two E k q) = fs E := by
      unfold fs
      rw [len_two, Sm, a3, if_pos (by omega)]
      have := Sm.at (f := fun e => if ec E e < Inf then ec E e else 0) (g := fun e => if ec (two E k q) e < Inf then ec (two E k q) e else 0) (n := E.length) (e := k) (d := -q) hk (fun i hi hne => by rw [ec_two hk i hi, if_neg hne]) (by rw [ec_two hk k hk, if_pos rfl, if_pos (by omega), if_pos hc]; omega)
      rw [this]; omega
    rw [this]; exact hs
theorem two_endl (hk : k < E.length) (q0 : 0 ≤ q) (hq : q ≤ ec E k) (hc : ec E k < Inf) (s t : Int) : Endl (two E k q) s t ↔ Endl E s t := by
  obtain ⟨a1, a2, a3⟩ := new_two (q := q) hk
  have : ∀ u v, EInf (two E k q) u v ↔ EInf E u v := by
    intro u v
    constructor
    · rintro ⟨e, he, h1, h2, h3⟩
      rw [len_two] at he
      by_cases h : e < E.length
      · rw [ea_two hk e h] at h1
        rw [eb_two hk e h] at h2
        rw [ec_two hk e h] at h3
        split at h3
        · omega
        · exact ⟨e, h, h1, h2, h3⟩
      · rw [show e = E.length by omega, a3] at h3; omega
    · rintro ⟨e, h, h1, h2, h3⟩
      have hne : e ≠ k := by rintro rfl; omega
      exact ⟨e, by rw [len_two]; omega, by rw [ea_two hk e h]; exact h1, by rw [eb_two hk e h]; exact h2, by rw [ec_two hk e h, if_neg hne]; exact h3⟩
  have mono : ∀ {R R' : Int → Int → Prop} {x : Int}, (∀ u v, R u v → R' u v) → Rch R s x → Rch R' s x := by
    intro R R' x h h'
    induction h' with
    | refl => exact .refl
    | step u v _ huv ih => exact .step _ _ ih (h _ _ huv)
  exact ⟨mono (fun u v => (this u v).1), mono (fun u v => (this u v).2)⟩
theorem two_max {n s t v : Int} (g : EG n E) (hk : k < E.length) (q0 : 0 ≤ q) (hq : q ≤ ec E k) (hc : ec E k < Inf) (h : IsMax E s t v) : IsMax (two E k q) s t v := by
  obtain ⟨a1, a2, a3⟩ := new_two (q := q) hk
  obtain ⟨⟨f, hf⟩, C, hC, hv⟩ := h
  obtain ⟨d, hd⟩ : ∃ d, d = if f k ≤ q then f k else q := ⟨_, rfl⟩
  have hfk := hf.b k hk
  have hd0 : 0 ≤ d ∧ d ≤ q ∧ 0 ≤ f k - d ∧ f k - d ≤ ec E k - q := by rw [hd]; split <;> omega
  refine ⟨⟨fun e => if e = E.length then d else if e = k then f k - d else f e, fun e he => ?_, fun X => ?_⟩, C, ⟨hC.1, hC.2.1, fun e he h1 h2 => ?_⟩, ?_⟩
  · rw [len_two] at he
    by_cases h : e < E.length
    · rw [ec_two hk e h, if_neg (by omega)]
      split
      · omega
      · exact hf.b e h
    · rw [if_pos (show e = E.length by omega), show e = E.length by omega, a3]; omega
  · rw [len_two, Sm, if_pos rfl, a1, a2, ← hf.k X]
    have := Sm.at (f := fun e => f e * (X (ea E e) - X (eb E e))) (g := fun e => (if e = E.length then d else if e = k then f k - d else f e) * (X (ea (two E k q) e) - X (eb (two E k q) e))) (n := E.length) (e := k) (d := -(d * (X (ea E k) - X (eb E k)))) hk (fun i hi hne => by rw [if_neg (by omega), if_neg hne, ea_two hk i hi, eb_two hk i hi]) (by rw [if_neg (by omega), if_pos rfl, ea_two hk k hk, eb_two hk k hk, Int.sub_mul]; omega)
    rw [this]; omega
  · rw [len_two] at he
    by_cases h : e < E.length
    · rw [ea_two hk e h] at h1
      rw [eb_two hk e h] at h2
      rw [ec_two hk e h]
      have := hC.2.2 e h h1 h2
      split
      · omega
      · exact this
    · rw [show e = E.length by omega, a3]; omega
  · rw [← hv]
    unfold CutV
    rw [len_two, Sm, a1, a2, a3]
    by_cases hx : C (ea E k) = true ∧ C (eb E k) = false
    · rw [if_pos hx]
      have := Sm.at (f := fun e => if C (ea E e) = true ∧ C (eb E e) = false then ec E e else 0) (g := fun e => if C (ea (two E k q) e) = true ∧ C (eb (two E k q) e) = false then ec (two E k q) e else 0) (n := E.length) (e := k) (d := -q) hk (fun i hi hne => by rw [ea_two hk i hi, eb_two hk i hi, ec_two hk i hi, if_neg hne]) (by rw [ea_two hk k hk, eb_two hk k hk, ec_two hk k hk, if_pos hx, if_pos hx, if_pos rfl]; omega)
      rw [this]; omega
    · rw [if_neg hx, Int.add_zero]
      refine Sm.congr (fun e he => ?_)
      rw [ea_two hk e he, eb_two hk e he, ec_two hk e he]
      by_cases h : e = k
      · subst h; rw [if_neg hx, if_neg hx]
      · rw [if_neg h]
end
theorem set_ed (l : List S35) (k : Nat) (x : S35) : (l.set k x).map ed = (l.map ed).set k (ed x) := List.map_set
theorem MaxflowParts : blazonlaw25_MaxflowParts.Pure := by
  intro n l s t at' part _ _ _ _ _ _ hat hpart
  refine Ev.okay ?_
  simp only [blazonlaw25_MaxflowParts.f]
  have out : Ev (fun k => blazonlaw25_MaxflowParts.j2 k n s t at' part l true) (fun r => r = true) := by
    refine Ev.sub 1 ?_
    simp only [blazonlaw25_MaxflowParts.j2, if_pos trivial]
    exact awake_end
  by_cases h1 : n < 1
  · simp only [if_pos h1]; exact out
  simp only [if_neg h1]
  by_cases h2 : n > 60
  · simp only [if_pos h2]; exact out
  simp only [if_neg h2]
  by_cases h3 : (l.length : Int) > 199
  · simp only [if_pos h3]; exact out
  simp only [if_neg h3]
  by_cases h4 : (l.length : Int) = 0
  · simp only [decide_eq_true h4]; exact out
  simp only [decide_eq_false h4]
  have a01 : 0 ≤ at' ∧ at' ≤ 255 := by simpa [Lit.wf, IntKind.min, IntKind.max, IntKind.signed, IntKind.bits] using hat
  have p01 : 0 ≤ part ∧ part ≤ 255 := by simpa [Lit.wf, IntKind.min, IntKind.max, IntKind.signed, IntKind.bits] using hpart
  refine Ev.sub 1 ?_
  simp only [blazonlaw25_MaxflowParts.j2, if_neg (show ¬ false = true by decide)]
  refine (built_ev (n := n) (by omega) (by omega) l (by omega)).bind ?_
  rintro ⟨x, had⟩ ⟨S, rfl, hS, _, _, hlen⟩
  dsimp only [onOpt] at hS hlen ⊢
  by_cases h5 : (had.length : Int) = 0
  · simp only [if_pos h5]; exact awake_end
  simp only [if_neg h5, wr (x := at') (by omega) (by omega), wr (x := part) (by omega) (by omega)]
  obtain ⟨k, hk⟩ : ∃ k, Int.tmod at' (had.length : Int) = k := ⟨_, rfl⟩
  have hk0 : 0 ≤ k := by rw [← hk]; exact Int.tmod_nonneg _ a01.1
  have hk1 : k < (had.length : Int) := by rw [← hk]; exact Int.tmod_lt_of_pos _ (by omega)
  simp only [hk, if_pos hk0, if_pos hk1]
  have out1 : Ev (fun K => blazonlaw25_MaxflowParts.j1 K n s t at' part S had true) (fun r => r = true) := by
    refine Ev.sub 1 ?_
    simp only [blazonlaw25_MaxflowParts.j1, if_pos trivial]
    exact awake_end
  have hec := ec_ed had hk0
  have hlt : k.toNat < (had.map ed).length := by rw [List.length_map]; omega
  have hv := hS.g.v k.toNat hlt
  by_cases h6 : (rd_T35 had k).f2 = 4611686018427387904
  · simp only [if_pos h6]; exact out1
  simp only [if_neg h6]
  by_cases h7 : part > (rd_T35 had k).f2
  · simp only [decide_eq_true h7]; exact out1
  simp only [decide_eq_false h7]
  have hI : Inf = 4611686018427387904 := rfl
  refine Ev.sub 1 ?_
  simp only [blazonlaw25_MaxflowParts.j1, if_neg (show ¬ false = true by decide), Option.bind_some, hk, wr (x := at') (by omega) (by omega), wr (x := part) (by omega) (by omega), List.length_nil, if_pos (show 0 + had.length < 5864062014805 by omega), if_pos hk0, if_pos hk1, if_pos (show k < (((([] : List S35) ++ had).length : Nat) : Int) from hk1), List.length_set, if_pos (show (([] : List S35) ++ had).length < 5864062014805 from (by omega : had.length < 5864062014805)), wr (x := (rd_T35 had k).f2 - part) (by omega) (by omega)]
  generalize htw : (([] : List S35) ++ had).set k.toNat (⟨(rd_T35 ([] ++ had) k).f0, (rd_T35 ([] ++ had) k).f1, (rd_T35 had k).f2 - part⟩ : S35) ++ [(⟨(rd_T35 had k).f0, (rd_T35 had k).f1, part⟩ : S35)] = tw
  rw [List.nil_append] at htw
  have ktw : tw.map ed = two (had.map ed) k.toNat part := by
    rw [← htw, List.map_append, set_ed]
    unfold two
    rw [ea_ed had hk0, eb_ed had hk0, ec_ed had hk0]
    rfl
  have g' : EG n (tw.map ed) := by
    rw [ktw]
    exact two_good hS.g (by rw [List.length_map]; omega) hlt p01.1 (by omega) (by omega)
  have ltw : tw.length = had.length + 1 := by rw [← htw]; simp
  refine (built_ev (n := n) (by omega) (by omega) tw (by omega)).bind ?_
  rintro ⟨y, all⟩ ⟨S', rfl, hS', hb', _, _⟩
  dsimp only at hS' hb' ⊢
  have hall : all.map ed = tw.map ed := by rw [hb']; exact bldE_all _ _ g'
  have hl : all.length = tw.length := by
    have := congrArg List.length hall
    simpa using this
  rw [hall, ktw] at hS'
  simp only [hl, decide_eq_true (show (tw.length : Int) = tw.length from rfl), show (!true) = false from rfl]
  refine Ev.sub 1 ?_
  simp only [blazonlaw25_MaxflowParts.j0, if_neg (show ¬ false = true by decide)]
  refine (max_ev hS s t).bind ?_
  rintro ⟨v, e, x1⟩ ⟨S1, hx1, hS1, b1, b2, b3⟩
  refine (max_ev hS' s t).bind ?_
  rintro ⟨w, f, x2⟩ ⟨S2, hx2, hS2, c1, c2, c3⟩
  dsimp only at hx1 b1 b2 b3 hx2 c1 c2 c3 ⊢
  have hve : v = w ∧ e = f := by
    have hen := two_endl hlt p01.1 (show part ≤ ec (had.map ed) k.toNat by omega) (by omega) s t
    by_cases hb : badP n s t
    · rw [(b1 hb).1, (b1 hb).2.1, (c1 hb).1, (c1 hb).2.1]
      exact ⟨rfl, rfl⟩
    · by_cases he : Endl (had.map ed) s t
      · have he' := hen.2 he
        rw [(b2 hb he).1, (b2 hb he).2.1, (c2 hb he').1, (c2 hb he').2.1]
        exact ⟨rfl, rfl⟩
      · have he' := fun h => he (hen.1 h)
        obtain ⟨y1, _, m1, _⟩ := b3 hb he
        obtain ⟨y2, _, m2, _⟩ := c3 hb he'
        exact ⟨(two_max hS.g hlt p01.1 (by omega) (by omega) m1).uniq m2, y1.trans y2.symm⟩
  simp only [if_pos hve.1, if_pos hve.2]
  exact awake_end

end Go.Proofs.Ytdkbmchbkkhpoaa.Pure
