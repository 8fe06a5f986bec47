/- A law. -/
import Derived.Test.YtdkbmchbkkhpoaaPCkex1
import Derived.Test.YtdkbmchbkkhpoaaPCkex2
import Derived.Test.YtdkbmchbkkhpoaaPCkex3
import Derived.Test.YtdkbmchbkkhpoaaPCkex4
import Derived.Test.YtdkbmchbkkhpoaaPCkex5
import Derived.Test.YtdkbmchbkkhpoaaPCkex6
import Derived.Test.YtdkbmchbkkhpoaaCu
import Derived.OpenShut
import Derived.Laws.BitsLemmas
import Derived.Laws.BitsAllLaws
import Derived.Laws.Bits64b
import Derived.Lib.TrailingZeros
import Derived.Lib.Bytes
import Derived.Test.YtdkbmchbkkhpoaaWSized
set_option linter.unusedVariables false
set_option linter.unusedSimpArgs false
namespace Go.Proofs.Ytdkbmchbkkhpoaa.Pure
open Go.RowKit Go.Proofs.Ytdkbmchbkkhpoaa.PCke Go.Proofs.YtdkbmchbkkhpoaaW.PrintWords Go.Proofs.YtdkbmchbkkhpoaaW.PrintLast
open Go.Proofs.Ytdkbmchbkkhpoaa.Flow
def pb (Y Z M : List Int) (L : List S62) : Pb := ⟨M.length, fun i => rd Y i, fun i => rd Z i, fun i => rd M i, L.map (fun x => (x.f0, x.f1))⟩
theorem pm {Y Z M : List Int} {L : List S62} {i : Int} (h : 0 ≤ i) : (pb Y Z M L).m i.toNat = rd M i := by
  show rd M ((i.toNat : Nat) : Int) = rd M i;rw [show ((i.toNat : Nat) : Int) = i by omega]
theorem tV {Y Z M : List Int} {L : List S62} {x : Int × Int} : x ∈ (pb Y Z M L).L ↔ ∃ i : Int, 0 ≤ i ∧ i < (L.length : Int) ∧ x = ((gX L i).f0, (gX L i).f1) := by
  show x ∈ L.map (fun x => (x.f0, x.f1)) ↔ _;rw [List.mem_map];constructor
  · rintro ⟨s, hs, rfl⟩;obtain ⟨j, hj, e⟩ := List.getElem_of_mem hs;refine ⟨(j : Int), by omega, by omega, ?_⟩;unfold gX;rw [List.getD_eq_getElem?_getD, show ((j : Int)).toNat = j by omega, List.getElem?_eq_getElem hj, e]; rfl
  · rintro ⟨i, h0, h1, rfl⟩;refine ⟨gX L i, ?_, rfl⟩;unfold gX;rw [List.getD_eq_getElem?_getD, List.getElem?_eq_getElem (show i.toNat < L.length by omega)];exact List.getElem_mem _
def rY (Y Z M : List Int) (L : List S62) : Prop := Y.length ≠ M.length ∨ Z.length ≠ M.length ∨ (M.length : Int) > 32768 ∨ (L.length : Int) > 900000 ∨ (∃ i : Int, 0 ≤ i ∧ i < (M.length : Int) ∧ (rd Y i < 0 ∨ rd Z i < 0 ∨ rd M i < -1 ∨ rd M i > 1)) ∨ ∃ i : Int, 0 ≤ i ∧ i < (L.length : Int) ∧ ((gX L i).f0 < 0 ∨ (gX L i).f1 < 0 ∨ (gX L i).f0 ≥ (M.length : Int) ∨ (gX L i).f1 ≥ (M.length : Int))
def tot (Y Z M : List Int) : Int := Sm (fun i => rd Y i + rd Z i) M.length
open Classical in
noncomputable def chk (Y Z M : List Int) (L : List S62) : Int := if rY Y Z M L then 1 else if tot Y Z M ≥ Inf then 18 else 0
theorem mD {Y Z M : List Int} {L : List S62} (h : rY Y Z M L) : chk Y Z M L = 1 := by unfold chk; rw [if_pos h]
theorem nH {Y Z M : List Int} {L : List S62} (h : ¬ rY Y Z M L) : chk Y Z M L = if tot Y Z M ≥ Inf then 18 else 0 := by unfold chk; rw [if_neg h]
theorem Sm.upto {f : Nat → Int} {n q : Nat} (h : ∀ i, i < n → 0 ≤ f i) (hq : q ≤ n) : Sm f q ≤ Sm f n := by
  have : ∀ d, q + d ≤ n → Sm f q ≤ Sm f (q + d) := by
    intro d
    induction d with
    | zero => intro _; exact Int.le_refl _
    | succ d ih =>
      intro hd;have := ih (by omega);have := h (q + d) (by omega);rw [show q + (d + 1) = (q + d) + 1 by omega, Sm]; omega
  have := this (n - q) (by omega);rw [show q + (n - q) = n by omega] at this;exact this
theorem o9 {Y Z M : List Int} {L : List S62} (hM : M.length ≤ 1000) (hL : L.length ≤ 10000) (h : chk Y Z M L = 0) : (pb Y Z M L).V ∧ Y.length = M.length ∧ Z.length = M.length ∧ ¬ rY Y Z M L := by
  have hb : ¬ rY Y Z M L := fun hb => by rw [mD hb] at h; exact absurd h (by decide)
  rw [nH hb] at h;have ht : tot Y Z M < Inf := by
    by_cases ht : tot Y Z M ≥ Inf
    · rw [if_pos ht] at h; exact absurd h (by decide)
    · omega
  have hb' := hb;unfold rY at hb;have e1 : Y.length = M.length := by by_cases e : Y.length = M.length; exact e; exact absurd (.inl e) hb
  have e2 : Z.length = M.length := by by_cases e : Z.length = M.length; exact e; exact absurd (.inr (.inl e)) hb
  have g : ∀ i : Int, 0 ≤ i → i < (M.length : Int) → ¬ (rd Y i < 0 ∨ rd Z i < 0 ∨ rd M i < -1 ∨ rd M i > 1) := fun i h0 h1 h2 => hb (.inr (.inr (.inr (.inr (.inl ⟨i, h0, h1, h2⟩)))));refine ⟨⟨hM, fun i hi => ?_, fun i hi => ?_, fun i hi => ?_, fun x hx => ?_, ?_, ht⟩, e1, e2, hb'⟩
  · have hi : i < M.length := hi;have := g i (by omega) (by omega);show 0 ≤ rd Y i;omega
  · have hi : i < M.length := hi;have := g i (by omega) (by omega);show 0 ≤ rd Z i;omega
  · have hi : i < M.length := hi;have := g i (by omega) (by omega);show rd M i = -1 ∨ rd M i = 0 ∨ rd M i = 1;omega
  · obtain ⟨i, h0, h1, rfl⟩ := tV.1 hx;have : ¬ ((gX L i).f0 < 0 ∨ (gX L i).f1 < 0 ∨ (gX L i).f0 ≥ (M.length : Int) ∨ (gX L i).f1 ≥ (M.length : Int)) := fun h2 => hb (.inr (.inr (.inr (.inr (.inr ⟨i, h0, h1, h2⟩)))));show 0 ≤ (gX L i).f0 ∧ (gX L i).f0 < (M.length : Int) ∧ 0 ≤ (gX L i).f1 ∧ (gX L i).f1 < (M.length : Int);omega
  · show (L.map (fun x => (x.f0, x.f1))).length ≤ 10000;rw [List.length_map]; exact hL
theorem rZ {x : Int} (h : (Lit.int .i64 x).wf = true) : -9223372036854775808 ≤ x ∧ x < 9223372036854775808 := by
  have := bounds_i64 h;omega
theorem uQ {l : List Int} (h : ∀ x_ ∈ l, (Lit.int .i64 x_).wf = true) {i : Int} (h0 : 0 ≤ i) (h1 : i < (l.length : Int)) : rd l i < 9223372036854775808 := (rZ (h _ (qw h0 h1))).2
theorem num_add {a b : Int} (a0 : 0 ≤ a) (a1 : a < 9223372036854775808) (b0 : 0 ≤ b) (b1 : b < 9223372036854775808) : kM.f a b = some (if a + b < 9223372036854775808 then (a + b, 0) else (0, 18)) := by
  unfold kM.f;by_cases h : a + b < 9223372036854775808
  · rw [wr (by omega) (by omega), if_pos h];by_cases hb : b > 0
    · rw [decide_eq_true hb, decide_eq_true (show a + b > a by omega), if_pos rfl]
    · rw [decide_eq_false hb, decide_eq_false (show ¬ a + b > a by omega), if_pos rfl]
  · have hw : wrap64 (a + b) = a + b - 18446744073709551616 := by unfold wrap64; omega
    rw [hw, if_neg h, decide_eq_true (show b > 0 by omega), decide_eq_false (show ¬ a + b - 18446744073709551616 > a by omega), if_neg (by decide)]
theorem vV {l : List Int} (hl : l.length ≤ 1000000) (h : ∀ i : Int, 0 ≤ i → i < (l.length : Int) → 0 ≤ rd l i ∧ rd l i < 9223372036854775808) : ∀ (z : Nat) (acc p : Int), 0 ≤ p → p + z = (l.length : Int) → acc = Sm (fun i => rd l i) p.toNat → acc < 9223372036854775808 →
    Ev (fun k => ku.l0 k l acc p) (fun r => r = if Sm (fun i => rd l i) l.length < 9223372036854775808 then (Sm (fun i => rd l i) l.length, 0) else (0, 18)) := by
  have nn : ∀ i : Nat, i < l.length → 0 ≤ (fun i : Nat => rd l i) i := fun i hi => (h i (by omega) (by omega)).1;intro z
  induction z with
  | zero =>
    intro acc p p0 pz e ha;refine Ev.sub 1 ?_;simp only [ku.l0, if_neg (show ¬ p < (l.length : Int) by omega)];rw [show p.toNat = l.length by omega] at e;exact Ev.ret (by rw [← e, if_pos ha])
  | succ z ih =>
    intro acc p p0 pz e ha;have hp := h p p0 (by omega);have ha0 : 0 ≤ acc := by rw [e]; exact Sm.nonneg (fun i hi => nn i (by omega))
    have hS : Sm (fun i : Nat => rd l i) (p + 1).toNat = acc + rd l p := by
      rw [show (p + 1).toNat = p.toNat + 1 by omega, Sm, ← e, show ((p.toNat : Nat) : Int) = p by omega]
    have up := Sm.upto nn (show (p + 1).toNat ≤ l.length by omega);refine Ev.sub 1 ?_;simp only [ku.l0, if_pos (show p < (l.length : Int) by omega), if_pos p0, num_add ha0 ha hp.1 hp.2, Option.bind_some, wr (x := p + 1) (by omega) (by omega)];by_cases ho : acc + rd l p < 9223372036854775808
    · simp only [if_pos ho, if_true];exact ih _ (p + 1) (by omega) (by omega) hS.symm ho
    · simp only [if_neg ho, if_neg (show ¬ (18 : Int) = 0 by decide)];refine Ev.ret ?_;rw [if_neg (by omega)]
section
variable {Y Z M : List Int} {L : List S62}
theorem wR (hM : M.length ≤ 1000) (hL : L.length ≤ 10000) (e1 : Y.length = M.length) (e2 : Z.length = M.length) (wY : ∀ x_ ∈ Y, (Lit.int .i64 x_).wf = true) (wZ : ∀ x_ ∈ Z, (Lit.int .i64 x_).wf = true) (hg : ∀ i : Int, 0 ≤ i → i < (M.length : Int) → ¬ (rd Y i < 0 ∨ rd Z i < 0 ∨ rd M i < -1 ∨ rd M i > 1)) : ∀ (z : Nat) (p : Int), 0 ≤ p → p + z = (L.length : Int) → (∀ i : Int, 0 ≤ i → i < p → ¬ ((gX L i).f0 < 0 ∨ (gX L i).f1 < 0 ∨ (gX L i).f0 ≥ (M.length : Int) ∨ (gX L i).f1 ≥ (M.length : Int))) →
    Ev (fun k => iT.l0 k Y Z M L p) (fun r => r = chk Y Z M L) := by
  have hI : Inf = 4611686018427387904 := rfl;intro z
  induction z with
  | zero =>
    intro p p0 pz hp;have gd : ¬ rY Y Z M L := by
      rintro (h | h | h | h | ⟨i, i0, i1, h⟩ | ⟨i, i0, i1, h⟩)
      · exact h e1
      · exact h e2
      · omega
      · omega
      · exact hg i i0 i1 h
      · exact hp i i0 (by omega) h
    have ny : ∀ i : Nat, i < M.length → 0 ≤ rd Y i := fun i hi => by have := hg i (by omega) (by omega); omega
    have nz : ∀ i : Nat, i < M.length → 0 ≤ rd Z i := fun i hi => by have := hg i (by omega) (by omega); omega
    have sy : 0 ≤ Sm (fun i => rd Y i) M.length := Sm.nonneg ny;have sz : 0 ≤ Sm (fun i => rd Z i) M.length := Sm.nonneg nz;have st : tot Y Z M = Sm (fun i => rd Y i) M.length + Sm (fun i => rd Z i) M.length := Sm.add;refine Ev.sub 1 ?_;simp only [iT.l0, if_neg (show ¬ p < (L.length : Int) by omega)];refine (vV (by omega) (fun i i0 i1 => ⟨by have := hg i i0 (by omega); omega, uQ wY i0 i1⟩) Y.length 0 0 (Int.le_refl 0) (by omega) rfl (by decide)).bind ?_;rintro r rfl;refine (vV (by omega) (fun i i0 i1 => ⟨by have := hg i i0 (by omega); omega, uQ wZ i0 i1⟩) Z.length 0 0 (Int.le_refl 0) (by omega) rfl (by decide)).bind ?_;rintro r rfl;rw [e1, e2, nH gd, st];generalize Sm (fun i => rd Y i) M.length = a at sy ⊢;generalize Sm (fun i => rd Z i) M.length = b at sz ⊢;have bad : Ev (fun k => iT.j0 k true) (fun r => r = 18) := by
      refine Ev.sub 1 ?_;simp only [iT.j0, if_true];exact Ev.ret rfl
    by_cases h1 : a < 9223372036854775808
    · by_cases h2 : b < 9223372036854775808
      · simp only [if_pos h1, if_pos h2, num_add sy h1 sz h2, Option.bind_some, if_true];by_cases h3 : a + b < 9223372036854775808
        · simp only [if_pos h3, if_true];refine Ev.sub 1 ?_;simp only [iT.j0, decide_eq_true_eq];by_cases h4 : a + b ≥ 4611686018427387904
          · simp only [if_pos h4]; exact Ev.ret (by first | rfl | rw [if_pos (by omega)])
          · simp only [if_neg h4]; exact Ev.ret (by first | rfl | rw [if_neg (by omega)])
        · simp only [if_neg h3, if_neg (show ¬ (18 : Int) = 0 by decide)];rw [if_pos (by omega)]; exact bad
      · simp only [if_pos h1, if_neg h2, if_neg (show ¬ (18 : Int) = 0 by decide), if_true, num_add sy h1 (show (0 : Int) ≤ 0 by decide) (show (0 : Int) < 9223372036854775808 by decide), Option.bind_some];rw [if_pos (show a + b ≥ Inf by omega)]; exact bad
    · by_cases h2 : b < 9223372036854775808
      · simp only [if_neg h1, if_pos h2, if_neg (show ¬ (18 : Int) = 0 by decide), num_add (show (0 : Int) ≤ 0 by decide) (show (0 : Int) < 9223372036854775808 by decide) sz h2, Option.bind_some];rw [if_pos (show a + b ≥ Inf by omega)]; exact bad
      · simp only [if_neg h1, if_neg h2, if_neg (show ¬ (18 : Int) = 0 by decide), num_add (show (0 : Int) ≤ 0 by decide) (show (0 : Int) < 9223372036854775808 by decide) (show (0 : Int) ≤ 0 by decide) (show (0 : Int) < 9223372036854775808 by decide), Option.bind_some];rw [if_pos (show a + b ≥ Inf by omega)]; exact bad
  | succ z ih =>
    intro p p0 pz hp;have pl : p < (L.length : Int) := by omega
    refine Ev.sub 1 ?_;simp only [iT.l0, if_pos pl, if_pos p0, wr (x := p + 1) (by omega) (by omega)];have mnlt : mn (gX L p).f0 (gX L p).f1 < 0 ↔ (gX L p).f0 < 0 ∨ (gX L p).f1 < 0 := by unfold mn; split <;> omega
    have mxge : mx (gX L p).f0 (gX L p).f1 ≥ (M.length : Int) ↔ (gX L p).f0 ≥ (M.length : Int) ∨ (gX L p).f1 ≥ (M.length : Int) := by unfold mx; split <;> omega
    have bad : ((gX L p).f0 < 0 ∨ (gX L p).f1 < 0 ∨ (gX L p).f0 ≥ (M.length : Int) ∨ (gX L p).f1 ≥ (M.length : Int)) → chk Y Z M L = 1 := fun h => mD (.inr (.inr (.inr (.inr (.inr ⟨p, p0, pl, h⟩)))));by_cases h1 : mn (gX L p).f0 (gX L p).f1 < 0
    · simp only [if_pos h1];exact Ev.ret (bad (by have := mnlt.1 h1; omega)).symm
    simp only [if_neg h1];by_cases h2 : mx (gX L p).f0 (gX L p).f1 ≥ (M.length : Int)
    · simp only [if_pos h2];exact Ev.ret (bad (by have := mxge.1 h2; omega)).symm
    simp only [if_neg h2];refine ih (p + 1) (by omega) (by omega) (fun i i0 i1 => ?_);by_cases e : i < p
    · exact hp i i0 e
    · rw [show i = p by omega];rw [mnlt] at h1;rw [mxge] at h2;omega
theorem wS (hM : M.length ≤ 1000) (hL : L.length ≤ 10000) (e1 : Y.length = M.length) (e2 : Z.length = M.length) (wY : ∀ x_ ∈ Y, (Lit.int .i64 x_).wf = true) (wZ : ∀ x_ ∈ Z, (Lit.int .i64 x_).wf = true) : ∀ (z : Nat) (p : Int), 0 ≤ p → p + z = (M.length : Int) → (∀ i : Int, 0 ≤ i → i < p → ¬ (rd Y i < 0 ∨ rd Z i < 0 ∨ rd M i < -1 ∨ rd M i > 1)) →
    Ev (fun k => iT.l1 k Y Z M L p) (fun r => r = chk Y Z M L) := by
  intro z
  induction z with
  | zero =>
    intro p p0 pz hp;refine Ev.sub 1 ?_;simp only [iT.l1, if_neg (show ¬ p < (M.length : Int) by omega)];exact wR hM hL e1 e2 wY wZ (fun i i0 i1 => hp i i0 (by omega)) L.length 0 (Int.le_refl 0) (by omega) (fun i i0 i1 => by omega)
  | succ z ih =>
    intro p p0 pz hp;have pl : p < (M.length : Int) := by omega
    refine Ev.sub 1 ?_;simp only [iT.l1, if_pos pl, if_pos p0, if_pos (show p < (Y.length : Int) by omega), if_pos (show p < (Z.length : Int) by omega), wr (x := p + 1) (by omega) (by omega)];have bad : (rd Y p < 0 ∨ rd Z p < 0 ∨ rd M p < -1 ∨ rd M p > 1) → chk Y Z M L = 1 := fun h => mD (.inr (.inr (.inr (.inr (.inl ⟨p, p0, pl, h⟩)))));by_cases h1 : rd Y p < 0
    · simp only [if_pos h1]; exact Ev.ret (bad (by omega)).symm
    simp only [if_neg h1];by_cases h2 : rd Z p < 0
    · simp only [if_pos h2]; exact Ev.ret (bad (by omega)).symm
    simp only [if_neg h2];by_cases h3 : rd M p < -1
    · simp only [if_pos h3]; exact Ev.ret (bad (by omega)).symm
    simp only [if_neg h3];by_cases h4 : rd M p > 1
    · simp only [if_pos h4]; exact Ev.ret (bad (by omega)).symm
    simp only [if_neg h4];refine ih (p + 1) (by omega) (by omega) (fun i i0 i1 => ?_);by_cases e : i < p
    · exact hp i i0 e
    · rw [show i = p by omega]; omega
theorem qY (hM : M.length ≤ 1000) (hL : L.length ≤ 10000) (wY : ∀ x_ ∈ Y, (Lit.int .i64 x_).wf = true) (wZ : ∀ x_ ∈ Z, (Lit.int .i64 x_).wf = true) : Ev (fun k => iT.f k Y Z M L) (fun r => r = chk Y Z M L) := by
  simp only [iT.f];have bad : rY Y Z M L → Ev (fun k => iT.j1 k Y Z M L true) (fun r => r = chk Y Z M L) := fun h => by
    refine Ev.sub 1 ?_;simp only [iT.j1, if_true];exact Ev.ret (mD h).symm
  by_cases h1 : (Y.length : Int) = (M.length : Int)
  · simp only [if_pos h1];by_cases h2 : (Z.length : Int) = (M.length : Int)
    · simp only [if_pos h2, if_neg (show ¬ (M.length : Int) > 32768 by omega), decide_eq_false (show ¬ (L.length : Int) > 900000 by omega)];refine Ev.sub 1 ?_;simp only [iT.j1, if_neg (show ¬ false = true by decide)];exact wS hM hL (by omega) (by omega) wY wZ M.length 0 (Int.le_refl 0) (by omega) (fun i i0 i1 => by omega)
    · simp only [if_neg h2]; exact bad (.inr (.inl (by omega)))
  · simp only [if_neg h1]; exact bad (.inl (by omega))
def mF (l : List (Int × Int)) (i : Int) : Option Int := if nU l i = true then some (oV 0 l i) else none
theorem nN (p : Int × Int) (l : List (Int × Int)) (i : Int) : mF (p :: l) i = if p.1 = i then some p.2 else mF l i := by
  unfold mF;rw [nU, oV];by_cases h : p.1 = i
  · rw [if_pos h, if_pos h, if_pos h, if_pos rfl]
  · rw [if_neg h, if_neg h, if_neg h]
theorem su (k v : Int) : ∀ l : List (Int × Int), mF (qV l k v) = fun x => if x = k then some v else mF l x := by
  intro l
  induction l with
  | nil =>
    funext x;rw [qV, nN];by_cases h : x = k
    · rw [if_pos h.symm, if_pos h]
    · rw [if_neg (fun e => h e.symm), if_neg h]
  | cons p l ih =>
    funext x;rw [qV];by_cases h : p.1 = k
    · rw [if_pos h, nN, nN];(try dsimp only);by_cases hx : x = k
      · rw [if_pos hx, if_pos hx.symm]
      · rw [if_neg hx, if_neg (fun e => hx e.symm), if_neg (fun e => hx (e.symm.trans h))]
    · rw [if_neg h, nN, ih, nN];(try dsimp only);by_cases hx : x = k
      · rw [if_pos hx, if_neg (fun e => h (e.trans hx)), if_pos hx]
      · rw [if_neg hx, if_neg hx]
theorem vW {l : List (Int × Int)} {i p : Int} (h : mF l i = some p) : oV 0 l i = p := by
  unfold mF at h;split at h
  · injection h
  · exact absurd h (by simp)
theorem vX {l : List (Int × Int)} {i : Int} : nU l i = true ↔ mF l i ≠ none := by
  unfold mF;split <;> simp_all
theorem sD {l : List (List Int)} {i : Int} (v : List Int) (hi : 0 ≤ i) (hl : i < (l.length : Int)) {j : Int} (hj : 0 ≤ j) : jA (l.set i.toNat v) j = if j = i then v else jA l j := by
  unfold jA;rw [List.getD_eq_getElem?_getD, List.getD_eq_getElem?_getD, List.getElem?_set];by_cases h : j = i
  · rw [if_pos (by omega), if_pos h, if_pos (by omega)]; rfl
  · rw [if_neg (by omega), if_neg h]
theorem lC (a : Int) (l : List Int) : rd (a :: l) 0 = a := rfl
theorem kL (a : Int) (l : List Int) {t : Int} (h : 0 ≤ t) : rd (a :: l) (t + 1) = rd l t := by
  unfold rd;rw [show (t + 1).toNat = t.toNat + 1 by omega]; rfl
theorem wU {P : Pb} {l : List (Int × Int)} {lv : Int → Nat} {q : List Int} {ex : Int → Prop} (V : P.V) (h : WI P (mF l) lv q ex) : ∀ (z : Nat) (i : Int) (acc : List Int), mF l i ≠ none → lv i = z + 1 → acc.length + z ≤ 2000 → (acc = [] ∧ P.m i.toNat = 0 ∨ 1 ≤ acc.length ∧ (∀ t : Int, 0 ≤ t → t < (acc.length : Int) → 0 ≤ rd acc t ∧ rd acc t < (P.n : Int)) ∧ P.m (rd acc ((acc.length : Int) - 1)).toNat = 0 ∧ (∀ t : Int, 0 ≤ t → t + 1 < (acc.length : Int) → (rd acc t, rd acc (t + 1)) ∈ P.L) ∧ (i, rd acc 0) ∈ P.L) →
    Ev (fun k => jR.l0 k l i acc) (fun w => Wit P w ∧ w.length = acc.length + lv i) := by
  intro z
  induction z with
  | zero =>
    intro i acc hi hl hlen ha;obtain ⟨p, hp⟩ := mG hi;obtain ⟨i0, i1, _, _, l3 | ⟨_, a2, _, a4⟩⟩ := h.key i p hp
    · obtain ⟨rfl, l31, l32⟩ := l3;refine Ev.sub 1 ?_;simp only [jR.l0, if_pos (show i ≥ 0 by omega), Option.bind_some, List.length_singleton, if_pos (show 1 + acc.length < 17592186044416 by omega), List.singleton_append, vW hp];refine Ev.sub 1 ?_;simp only [jR.l0, if_neg (show ¬ (-1 : Int) ≥ 0 by decide), if_pos (show 0 < ((i :: acc).length : Int) by rw [List.length_cons]; omega)];refine Ev.ret ⟨⟨by rw [List.length_cons]; omega, fun t t0 t1 => ?_, by rw [lC]; exact l32, ?_, fun t t0 t1 => ?_⟩, by rw [List.length_cons]; omega⟩
      · by_cases e : t = 0
        · rw [e, lC]; exact ⟨i0, i1⟩
        · rw [show t = (t - 1) + 1 by omega, kL _ _ (by omega)];rw [List.length_cons] at t1;rcases ha with ⟨rfl, _⟩ | ⟨_, b, _⟩
          · simp at t1; omega
          · exact b (t - 1) (by omega) (by omega)
      · rcases ha with ⟨rfl, hm⟩ | ⟨b0, b, b1, _⟩
        · exact hm
        · rw [List.length_cons, show (((acc.length + 1 : Nat) : Int) - 1) = ((acc.length : Int) - 1) + 1 by omega, kL _ _ (by omega)]; exact b1
      · rcases ha with ⟨rfl, hm⟩ | ⟨b0, b, b1, b2, b3⟩
        · simp at t1; omega
        · rw [List.length_cons] at t1;by_cases e : t = 0
          · rw [e, lC, kL _ _ (Int.le_refl 0)]; exact b3
          · rw [kL _ _ t0, show t = (t - 1) + 1 by omega, kL _ _ (by omega)]; exact b2 (t - 1) (by omega) (by omega)
    · obtain ⟨p', hp'⟩ := mG a2;have := (h.key p p' hp').2.2.1;omega
  | succ z ih =>
    intro i acc hi hl hlen ha;obtain ⟨p, hp⟩ := mG hi;obtain ⟨i0, i1, _, _, l3 | ⟨p0, a2, a3, a4⟩⟩ := h.key i p hp
    · omega
    · refine Ev.sub 1 ?_;simp only [jR.l0, if_pos (show i ≥ 0 by omega), Option.bind_some, List.length_singleton, if_pos (show 1 + acc.length < 17592186044416 by omega), List.singleton_append, vW hp];refine (ih p (i :: acc) a2 (by omega) (by rw [List.length_cons]; omega) (.inr ⟨by rw [List.length_cons]; omega, fun t t0 t1 => ?_, ?_, fun t t0 t1 => ?_, by rw [lC]; exact a3⟩)).mono (fun w hw => ⟨hw.1, by rw [hw.2, List.length_cons]; omega⟩)
      · by_cases e : t = 0
        · rw [e, lC]; exact ⟨i0, i1⟩
        · rw [show t = (t - 1) + 1 by omega, kL _ _ (by omega)];rw [List.length_cons] at t1;rcases ha with ⟨rfl, _⟩ | ⟨_, b, _⟩
          · simp at t1; omega
          · exact b (t - 1) (by omega) (by omega)
      · rcases ha with ⟨rfl, hm⟩ | ⟨b0, b, b1, _⟩
        · exact hm
        · rw [List.length_cons, show (((acc.length + 1 : Nat) : Int) - 1) = ((acc.length : Int) - 1) + 1 by omega, kL _ _ (by omega)]; exact b1
      · rcases ha with ⟨rfl, hm⟩ | ⟨b0, b, b1, b2, b3⟩
        · simp at t1; omega
        · rw [List.length_cons] at t1;by_cases e : t = 0
          · rw [e, lC, kL _ _ (Int.le_refl 0)]; exact b3
          · rw [kL _ _ t0, show t = (t - 1) + 1 by omega, kL _ _ (by omega)]; exact b2 (t - 1) (by omega) (by omega)
structure NXT (P : Pb) (T : List (List Int)) : Prop where
  l : T.length = P.n
  m : ∀ i k : Int, 0 ≤ i → i < (P.n : Int) → (k ∈ jA T i ↔ (i, k) ∈ P.L)
  c : ∀ i : Int, 0 ≤ i → (jA T i).length ≤ 10000
def WQ (P : Pb) (w : List Int) : Prop := (w = [] ∧ ∃ o, P.Keeps o) ∨ (Wit P w ∧ P.Short w.length)
theorem CV (P : Pb) (F : Int → Option Int) : un P F ≤ (P.n : Int) := by
  have h1 := Sm.mono (f := fun i : Nat => if F (i : Int) = none then 1 else 0) (g := fun _ => 1) (n := P.n) (fun i hi => by (try dsimp only); split <;> omega);have h2 : ∀ n : Nat, Sm (fun _ => 1) n = n := fun n => by
    induction n with
    | zero => rfl
    | succ n ih => rw [Sm, ih]; omega
  rw [h2] at h1;exact h1
theorem wV {T : List (List Int)} {q0 : List Int} {i : Int} {z : Int} (V : (pb Y Z M L).V) (hT : NXT (pb Y Z M L) T) (hq0 : rd q0 0 = i) (i0 : 0 ≤ i) (i1 : i < (M.length : Int)) (hm : rd M i ≠ 0) (hzz : z ≤ 100000) (H : ∀ (l : List (Int × Int)) (q : List Int) (lv : Int → Nat), WI (pb Y Z M L) (mF l) lv q (fun _ => False) → un (pb Y Z M L) (mF l) + q.length = z → Ev (fun k => iK.l1 k M T l q) (WQ (pb Y Z M L))) : ∀ (d : Nat) (p : Int) (l : List (Int × Int)) (q : List Int) (lv : Int → Nat), 0 ≤ p → p + d = ((jA T i).length : Int) → WI (pb Y Z M L) (mF l) lv q (fun a => a = i) → mF l i ≠ none → (∀ a, a ∈ q → lv i ≤ lv a) → (∀ a, mF l a ≠ none → lv a ≤ lv i + 1) → (∀ j : Int, 0 ≤ j → j < p → mF l (rd (jA T i) j) ≠ none) → un (pb Y Z M L) (mF l) + q.length = z →
    Ev (fun k => iK.l0 k M T q0 l q p) (WQ (pb Y Z M L)) := by
  have hc := hT.c i i0;intro d
  induction d with
  | zero =>
    intro p l q lv p0 pd h hi hq hd hdone hz;have u00 := un0 (pb Y Z M L) (mF l);refine Ev.sub 1 ?_;simp only [iK.l0, hq0, if_neg (show ¬ p < ((jA T i).length : Int) by omega)];refine H l q lv (h.shut (by rw [pm i0]; exact hm) (fun x hx hxi => ?_)) hz;have hk : x.2 ∈ jA T i := (hT.m i x.2 i0 i1).2 (by rw [← hxi]; exact hx);obtain ⟨j, j0, j1, e⟩ := tY hk;have hf := hdone j j0 (by omega);rw [e] at hf;exact ⟨hf, hd _ hf⟩
  | succ d ih =>
    intro p l q lv p0 pd h hi hq hd hdone hz;have u00 := un0 (pb Y Z M L) (mF l);have pl : p < ((jA T i).length : Int) := by omega
    refine Ev.sub 1 ?_;simp only [iK.l0, hq0, if_pos pl, if_pos p0, wr (x := p + 1) (by omega) (by omega)];have hk := (hT.m i _ i0 i1).1 (qw p0 pl);have step : ∀ l' : List (Int × Int), (∀ a, mF l a ≠ none → mF l' a ≠ none) → mF l' (rd (jA T i) p) ≠ none → ∀ j : Int, 0 ≤ j → j < p + 1 → mF l' (rd (jA T i) j) ≠ none := fun l' h1 h2 j j0 j1 => by
      by_cases e : j < p
      · exact h1 _ (hdone j j0 e)
      · rw [show j = p by omega]; exact h2
    by_cases hh : nU l (rd (jA T i) p) = true
    · simp only [if_pos hh];exact ih (p + 1) l q lv (by omega) (by omega) h hi hq hd (step l (fun _ h => h) (vX.1 hh)) hz
    · simp only [if_neg hh, Option.bind_some, if_pos (show q.length < 17592186044416 by omega)];have hn : mF l (rd (jA T i) p) = none := by
        cases e : mF l (rd (jA T i) p) with
        | none => rfl
        | some v => exact absurd (vX.2 (by rw [e]; simp)) hh
      have hne : i ≠ rd (jA T i) p := fun e => hi (by rw [e]; exact hn);obtain ⟨w1, w2, w3⟩ := h.add V hi hn hk hq hd;have hin := V.l _ hk;have hu := zM (v := i) hn hin.2.2.1 hin.2.2.2;rw [← su] at w1 hu;have u0 := un0 (pb Y Z M L) (mF (qV l (rd (jA T i) p) i));have eput : ∀ a, mF (qV l (rd (jA T i) p) i) a = if a = rd (jA T i) p then some i else mF l a := fun a => by rw [su]
      have keep : ∀ a, mF l a ≠ none → mF (qV l (rd (jA T i) p) i) a ≠ none := fun a ha => by
        rw [eput]; split
        · simp
        · exact ha
      refine ih (p + 1) _ _ (fun x => if x = rd (jA T i) p then lv i + 1 else lv x) (by omega) (by omega) w1 (keep i hi) (fun a ha => ?_) (fun a ha => ?_) (step _ keep (by rw [eput, if_pos rfl]; simp)) (by rw [hu, List.length_append, List.length_singleton]; omega)
      · rw [if_neg hne];exact w3 a ha
      · rw [if_neg hne];rw [eput] at ha;exact w2 a ha
theorem wW {T : List (List Int)} (V : (pb Y Z M L).V) (hT : NXT (pb Y Z M L) T) : ∀ (z : Nat) (l : List (Int × Int)) (q : List Int) (lv : Int → Nat), WI (pb Y Z M L) (mF l) lv q (fun _ => False) → un (pb Y Z M L) (mF l) + q.length = z → z ≤ 100000 → Ev (fun k => iK.l1 k M T l q) (WQ (pb Y Z M L)) := by
  have hTl : T.length = M.length := hT.l;intro z
  induction z with
  | zero =>
    intro l q lv h hz hzz;have := un0 (pb Y Z M L) (mF l);have hq : q = [] := List.eq_nil_of_length_eq_zero (by omega);subst hq;refine Ev.sub 1 ?_;simp only [iK.l1, List.length_nil, if_neg (show ¬ (((0 : Nat) : Int) > 0) by decide)];exact Ev.ret (.inl ⟨rfl, _, h.keeps V⟩)
  | succ z ih =>
    intro l q lv h hz hzz;have u0 := un0 (pb Y Z M L) (mF l)
    cases q with
    | nil =>
      refine Ev.sub 1 ?_;simp only [iK.l1, List.length_nil, if_neg (show ¬ (((0 : Nat) : Int) > 0) by decide)];exact Ev.ret (.inl ⟨rfl, _, h.keeps V⟩)
    | cons i q =>
      obtain ⟨p1, p2, p3, p4⟩ := h.pop;obtain ⟨p, hp⟩ := mG p2;obtain ⟨i0, i1, l1, l2, _⟩ := h.key i p hp;have i1 : i < (M.length : Int) := i1;have hn : M.length ≤ 1000 := V.n2;have l2 : (lv i : Int) ≤ (M.length : Int) - un (pb Y Z M L) (mF l) := l2;rw [List.length_cons] at hz;refine Ev.sub 1 ?_;have c1 : ((i :: q).length : Int) > 0 := by rw [List.length_cons]; omega
      simp only [iK.l1, if_pos c1, if_pos (show 0 < ((i :: q).length : Int) from c1), if_pos (show 1 ≤ ((i :: q).length : Int) from c1), if_pos (show 0 ≤ rd (i :: q) 0 from i0), if_pos (show rd (i :: q) 0 < (M.length : Int) from i1), Option.bind_some];by_cases hm : rd M i = 0
      · simp only [if_pos (show rd M (rd (i :: q) 0) = 0 from hm)];have hm' : (pb Y Z M L).m i.toNat = 0 := by rw [pm i0]; exact hm
        refine Flow.Ev.bind (F := fun k => jR.f k l i) (Q := fun w => Wit (pb Y Z M L) w ∧ w.length = lv i) ?_ (fun w hw => ?_)
        · simp only [jR.f];exact (wU V h (lv i - 1) i [] p2 (by omega) (by simp; omega) (.inl ⟨rfl, hm'⟩)).mono (fun w hw => ⟨hw.1, by rw [hw.2]; simp⟩)
        · simp only [if_pos (show 0 < (w.length : Int) by have := hw.1.l; omega)];exact Ev.ret (.inr ⟨hw.1, by rw [hw.2]; exact h.found hm'⟩)
      · simp only [if_neg (show ¬ rd M (rd (i :: q) 0) = 0 from hm), if_pos (show rd (i :: q) 0 < (T.length : Int) by rw [lC]; omega)];exact wV (z := (z : Int)) V hT (lC i q) i0 i1 hm (by omega) (fun l' q' lv' h' hz' => ih l' q' lv' h' hz' (by omega)) (jA T i).length 0 l q lv (Int.le_refl 0) (by omega) p1 p2 p3 p4 (fun j j0 j1 => by omega) (by omega)
theorem wX {T : List (List Int)} (V : (pb Y Z M L).V) (hT : NXT (pb Y Z M L) T) : ∀ (d : Nat) (p : Int) (l : List (Int × Int)) (q : List Int), 0 ≤ p → p + d = (M.length : Int) → (∀ i v, mF l i = some v ↔ (0 ≤ i ∧ i < p ∧ rd M i = 1) ∧ v = -1) → (∀ i, i ∈ q ↔ 0 ≤ i ∧ i < p ∧ rd M i = 1) → (q.length : Int) ≤ p →
    Ev (fun k => iK.l2 k M T l q p) (WQ (pb Y Z M L)) := by
  have hn : M.length ≤ 1000 := V.n2;intro d
  induction d with
  | zero =>
    intro p l q p0 pd hl hq hlen;have pe : p = (M.length : Int) := by omega
    refine Ev.sub 1 ?_;simp only [iK.l2, if_neg (show ¬ p < (M.length : Int) by omega)];have ul := CV (pb Y Z M L) (mF l);have u0 := un0 (pb Y Z M L) (mF l);have ul : un (pb Y Z M L) (mF l) ≤ (M.length : Int) := ul;refine wW V hT (un (pb Y Z M L) (mF l) + q.length).toNat l q (fun _ => 1) ⟨fun i v hi => ?_, fun i i0 i1 hm => ⟨?_, rfl⟩, fun i hi => ?_, ?_, fun i a _ _ => by (try dsimp only); omega, fun i hi hn _ => ?_⟩ (by omega) (by omega)
    · obtain ⟨⟨a, b, c⟩, e⟩ := (hl i v).1 hi;refine ⟨a, by show i < (M.length : Int); omega, Nat.le_refl _, ?_, .inl ⟨e, rfl, by rw [pm a]; exact c⟩⟩;have := Sm.less (f := fun i : Nat => if mF l (i : Int) = none then 1 else 0) (g := fun _ => 1) (n := (pb Y Z M L).n) (e := i.toNat) (fun i hi => by (try dsimp only); split <;> omega) (show i.toNat < M.length by omega) (by (try dsimp only); rw [show ((i.toNat : Nat) : Int) = i by omega, hi]; simp);have h2 : ∀ n : Nat, Sm (fun _ => 1) n = n := fun n => by
        induction n with
        | zero => rfl
        | succ n ih => rw [Sm, ih]; omega
      rw [h2] at this;have this : un (pb Y Z M L) (mF l) + 1 ≤ ((pb Y Z M L).n : Int) := this;(try dsimp only);omega
    · rw [pm i0] at hm;have := (hl i (-1)).2 ⟨⟨i0, by have : i < (M.length : Int) := i1; omega, hm⟩, rfl⟩;rw [this]; simp
    · rw [(hl i (-1)).2 ⟨(hq i).1 hi, rfl⟩]; simp
    · exact List.pairwise_of_forall (fun _ _ => Nat.le_refl _)
    · obtain ⟨v, hv⟩ := mG hi;exact absurd ((hq i).2 ((hl i v).1 hv).1) hn
  | succ d ih =>
    intro p l q p0 pd hl hq hlen;have pl : p < (M.length : Int) := by omega
    refine Ev.sub 1 ?_;simp only [iK.l2, if_pos pl, if_pos p0, wr (x := p + 1) (by omega) (by omega)];by_cases hm : rd M p = 1
    · simp only [if_pos hm, Option.bind_some, if_pos (show q.length < 17592186044416 by omega)];refine ih (p + 1) _ _ (by omega) (by omega) (fun i v => ?_) (fun i => ?_) (by rw [List.length_append, List.length_singleton]; omega)
      · rw [su];dsimp only;by_cases e : i = p
        · rw [if_pos e, e];constructor
          · intro h; injection h with h; exact ⟨⟨p0, by omega, hm⟩, h.symm⟩
          · rintro ⟨_, h⟩; rw [h]
        · rw [if_neg e, hl];constructor
          · rintro ⟨⟨a, b, c⟩, h⟩; exact ⟨⟨a, by omega, c⟩, h⟩
          · rintro ⟨⟨a, b, c⟩, h⟩; exact ⟨⟨a, by omega, c⟩, h⟩
      · rw [List.mem_append, hq, List.mem_singleton];constructor
        · rintro (⟨a, b, c⟩ | rfl)
          · exact ⟨a, by omega, c⟩
          · exact ⟨p0, by omega, hm⟩
        · rintro ⟨a, b, c⟩;by_cases e : i = p
          · exact .inr e
          · exact .inl ⟨a, by omega, c⟩
    · simp only [if_neg hm];refine ih (p + 1) l q (by omega) (by omega) (fun i v => ?_) (fun i => ?_) (by omega)
      · rw [hl];constructor
        · rintro ⟨⟨a, b, c⟩, h⟩; exact ⟨⟨a, by omega, c⟩, h⟩
        · rintro ⟨⟨a, b, c⟩, h⟩;by_cases e : i = p
          · exact absurd (e ▸ c) hm
          · exact ⟨⟨a, by omega, c⟩, h⟩
      · rw [hq];constructor
        · rintro ⟨a, b, c⟩; exact ⟨a, by omega, c⟩
        · rintro ⟨a, b, c⟩;by_cases e : i = p
          · exact absurd (e ▸ c) hm
          · exact ⟨a, by omega, c⟩
theorem zG (V : (pb Y Z M L).V) (hL : L.length ≤ 10000) : ∀ (d : Nat) (p : Int) (T : List (List Int)), 0 ≤ p → p + d = (L.length : Int) → T.length = M.length → (∀ i k : Int, 0 ≤ i → i < (M.length : Int) → (k ∈ jA T i ↔ ∃ j : Int, 0 ≤ j ∧ j < p ∧ (gX L j).f0 = i ∧ (gX L j).f1 = k)) → (∀ i : Int, 0 ≤ i → ((jA T i).length : Int) ≤ p) →
    Ev (fun k => iK.l3 k M L T p) (WQ (pb Y Z M L)) := by
  have hn : M.length ≤ 1000 := V.n2;intro d
  induction d with
  | zero =>
    intro p T p0 pd hl hm hc;refine Ev.sub 1 ?_;simp only [iK.l3, if_neg (show ¬ p < (L.length : Int) by omega)];refine wX V ⟨hl, fun i k i0 i1 => ?_, fun i i0 => by have := hc i i0; omega⟩ M.length 0 [] [] (Int.le_refl 0) (by omega) (fun i v => ?_) (fun i => ?_) (by simp)
    · rw [hm i k i0 i1, tV];constructor
      · rintro ⟨j, j0, j1, rfl, rfl⟩; exact ⟨j, j0, by omega, rfl⟩
      · rintro ⟨j, j0, j1, e⟩
        injection e with e1 e2
        exact ⟨j, j0, by omega, e1.symm, e2.symm⟩
    · constructor
      · intro h; exact absurd h (by simp [mF, nU])
      · rintro ⟨⟨a, b, _⟩, _⟩; omega
    · constructor
      · intro h; exact absurd h (by simp)
      · rintro ⟨a, b, _⟩; omega
  | succ d ih =>
    intro p T p0 pd hl hm hc;have pl : p < (L.length : Int) := by omega
    have hin := V.l _ (tV.2 ⟨p, p0, pl, rfl⟩);dsimp only at hin;obtain ⟨a0, a1, b0, b1⟩ := hin;have a1 : (gX L p).f0 < (M.length : Int) := a1;have hcl := hc _ a0;refine Ev.sub 1 ?_;simp only [iK.l3, if_pos pl, if_pos p0, wr (x := p + 1) (by omega) (by omega), if_pos (show 0 < (T.length : Int) by omega), if_pos a0, if_pos (show (gX L p).f0 < (T.length : Int) by omega), if_pos (show (jA T (gX L p).f0).length < 17592186044416 by omega), Option.bind_some];refine ih (p + 1) _ (by omega) (by omega) (by rw [List.length_set]; exact hl) (fun i k i0 i1 => ?_) (fun i i0 => ?_)
    · rw [sD _ a0 (by omega) i0];by_cases e : i = (gX L p).f0
      · rw [if_pos e, List.mem_append, hm _ k a0 (by omega), List.mem_singleton];constructor
        · rintro (⟨j, j0, j1, h1, h2⟩ | h)
          · exact ⟨j, j0, by omega, by rw [h1, e], h2⟩
          · exact ⟨p, p0, by omega, e.symm, h.symm⟩
        · rintro ⟨j, j0, j1, h1, h2⟩;by_cases ej : j = p
          · rw [ej] at h2; exact .inr h2.symm
          · exact .inl ⟨j, j0, by omega, by rw [h1, e], h2⟩
      · rw [if_neg e, hm i k i0 i1];constructor
        · rintro ⟨j, j0, j1, h1, h2⟩; exact ⟨j, j0, by omega, h1, h2⟩
        · rintro ⟨j, j0, j1, h1, h2⟩;by_cases ej : j = p
          · rw [ej] at h1; exact absurd h1.symm e
          · exact ⟨j, j0, by omega, h1, h2⟩
    · rw [sD _ a0 (by omega) i0];by_cases e : i = (gX L p).f0
      · rw [if_pos e, List.length_append, List.length_singleton]; omega
      · rw [if_neg e]; have := hc i i0; omega
theorem qH (V : (pb Y Z M L).V) (hL : L.length ≤ 10000) : Ev (fun k => iK.f k Y Z M L) (WQ (pb Y Z M L)) := by
  have hn : M.length ≤ 1000 := V.n2;simp only [iK.f, if_pos (show 0 ≤ (M.length : Int) by omega), Int.toNat_natCast, if_pos (show M.length * 24 ≤ 281474976710656 by omega), Option.bind_some];have e : ∀ i : Int, jA (List.replicate M.length []) i = [] := fun i => by
    unfold jA;rw [List.getD_eq_getElem?_getD, List.getElem?_replicate];split <;> rfl
  refine zG V hL L.length 0 _ (Int.le_refl 0) (by omega) List.length_replicate (fun i k i0 i1 => ?_) (fun i i0 => by rw [e]; simp);rw [e];constructor
  · intro h; exact absurd h (by simp)
  · rintro ⟨j, j0, j1, _⟩; omega
def NS (P : Pb) (x : Option Go.Proofs.Ytdkbmchbkkhpoaa.PMfr.S74) : Prop := ∃ S, x = some S ∧ qQ ((P.n : Int) + 2) P.net S
theorem zH (V : (pb Y Z M L).V) (hL : L.length ≤ 10000) : ∀ (d : Nat) (p : Int) (E : List Ed) (S : Go.Proofs.Ytdkbmchbkkhpoaa.PMfr.S74), 0 ≤ p → p + d = (L.length : Int) → qQ ((M.length : Int) + 2) E S → (E.length : Int) ≤ 2000 + p → ims ((L.drop p.toNat).map (fun x => (x.f0, x.f1))) E = (pb Y Z M L).net →
    Ev (fun k => jm.l0 k L (some S) p) (NS (pb Y Z M L)) := by
  have hI : Inf = 4611686018427387904 := rfl;have hn : M.length ≤ 1000 := V.n2;intro d
  induction d with
  | zero =>
    intro p E S p0 pd hS hE e;refine Ev.sub 1 ?_;simp only [jm.l0, if_neg (show ¬ p < (L.length : Int) by omega)];rw [List.drop_eq_nil_of_le (by omega)] at e;exact Ev.ret ⟨S, rfl, by have e : E = _ := e; rw [← e]; exact hS⟩
  | succ d ih =>
    intro p E S p0 pd hS hE e;have pl : p < (L.length : Int) := by omega
    have hin := V.l _ (tV.2 ⟨p, p0, pl, rfl⟩);dsimp only at hin;obtain ⟨a0, a1, b0, b1⟩ := hin;have a1 : (gX L p).f0 < (M.length : Int) := a1;have b1 : (gX L p).f1 < (M.length : Int) := b1;have hdrop : L.drop p.toNat = gX L p :: L.drop (p + 1).toNat := by
      rw [show (p + 1).toNat = p.toNat + 1 by omega, List.drop_eq_getElem_cons (by omega)];congr 1;unfold gX;rw [List.getD_eq_getElem?_getD, List.getElem?_eq_getElem (by omega)]; rfl
    rw [hdrop, List.map_cons, ims, im1] at e;dsimp only at e;refine Ev.sub 1 ?_;simp only [jm.l0, if_pos pl, if_pos p0, wr (x := p + 1) (by omega) (by omega)];by_cases h : (gX L p).f0 = (gX L p).f1
    · rw [if_neg (fun hh => hh h)] at e;simp only [if_pos h];exact ih (p + 1) E S (by omega) (by omega) hS (by omega) e
    · rw [if_pos h] at e;simp only [if_neg h, wr (x := (gX L p).f0 + 2) (by omega) (by omega), wr (x := (gX L p).f1 + 2) (by omega) (by omega)];refine (tZ hS (by omega) ⟨(gX L p).f0 + 2, (gX L p).f1 + 2, Inf⟩).bind ?_;rintro ⟨r1, r2, r3⟩ ⟨_, h2, _⟩;obtain ⟨_, S', hx, hS', _⟩ := h2 (rD (by unfold wC; dsimp only; omega) (.inl rfl));dsimp only at hx ⊢;subst hx;exact ih (p + 1) _ S' (by omega) (by omega) hS' (by rw [List.length_append, List.length_singleton]; omega) e
theorem uS (V : (pb Y Z M L).V) (hL : L.length ≤ 10000) (e1 : Y.length = M.length) (e2 : Z.length = M.length) : ∀ (d : Nat) (p : Int) (S : Go.Proofs.Ytdkbmchbkkhpoaa.PMfr.S74), 0 ≤ p → p + d = (M.length : Int) → qQ ((M.length : Int) + 2) ((pb Y Z M L).th p.toNat) S →
    Ev (fun k => jm.l1 k Y Z M L (some S) p) (NS (pb Y Z M L)) := by
  have hI : Inf = 4611686018427387904 := rfl;have hn : M.length ≤ 1000 := V.n2;intro d
  induction d with
  | zero =>
    intro p S p0 pd hS;refine Ev.sub 1 ?_;simp only [jm.l1, if_neg (show ¬ p < (M.length : Int) by omega)];have hl := xQ (P := pb Y Z M L) p.toNat;refine zH V hL L.length 0 _ S (Int.le_refl 0) (by omega) hS (by omega) ?_;rw [show p.toNat = (pb Y Z M L).n by show p.toNat = M.length; omega]
    rfl
  | succ d ih =>
    intro p S p0 pd hS;have pl : p < (M.length : Int) := by omega
    have pn : p.toNat < (pb Y Z M L).n := by show p.toNat < M.length; omega
    have pc : ((p.toNat : Nat) : Int) = p := by omega
    have hl := xQ (P := pb Y Z M L) p.toNat;have hl1 := zL (P := pb Y Z M L) p.toNat ((pb Y Z M L).th p.toNat);have zc : (pb Y Z M L).zc p.toNat = if rd M p = 1 then Inf else rd Z p := by
      show (if rd M ((p.toNat : Nat) : Int) = 1 then Inf else rd Z ((p.toNat : Nat) : Int)) = _;rw [pc]
    have yc : (pb Y Z M L).yc p.toNat = if rd M p = 0 then Inf else rd Y p := by
      show (if rd M ((p.toNat : Nat) : Int) = 0 then Inf else rd Y ((p.toNat : Nat) : Int)) = _;rw [pc]
    have two : ∀ S : Go.Proofs.Ytdkbmchbkkhpoaa.PMfr.S74, qQ ((M.length : Int) + 2) ((pb Y Z M L).e1 p.toNat ((pb Y Z M L).th p.toNat)) S → Ev (fun k => jm.j0 k Y Z M L p ((pb Y Z M L).yc p.toNat) (some S)) (NS (pb Y Z M L)) := by
      intro S hS;have next : ∀ S : Go.Proofs.Ytdkbmchbkkhpoaa.PMfr.S74, qQ ((M.length : Int) + 2) ((pb Y Z M L).e2 p.toNat ((pb Y Z M L).e1 p.toNat ((pb Y Z M L).th p.toNat))) S → Ev (fun k => jm.l1 k Y Z M L (some S) (p + 1)) (NS (pb Y Z M L)) := fun S hS => ih (p + 1) S (by omega) (by omega) (by rw [show (p + 1).toNat = p.toNat + 1 by omega, Pb.th]; exact hS);refine Ev.sub 1 ?_;simp only [jm.j0, wr (x := p + 1) (by omega) (by omega), wr (x := p + 2) (by omega) (by omega)];by_cases h : 0 < (pb Y Z M L).yc p.toNat
      · simp only [if_pos (show (pb Y Z M L).yc p.toNat > 0 from h)];have hadd := Bj V pn;rw [pc] at hadd;refine (tZ hS (by omega) ⟨p + 2, 1, (pb Y Z M L).yc p.toNat⟩).bind ?_;rintro ⟨r1, r2, r3⟩ ⟨_, h2, _⟩;obtain ⟨_, S', hx, hS', _⟩ := h2 hadd;dsimp only at hx ⊢;subst hx;refine next S' ?_;unfold Pb.e2;rw [if_pos h, pc]; exact hS'
      · simp only [if_neg (show ¬ (pb Y Z M L).yc p.toNat > 0 from h)];refine next S ?_;unfold Pb.e2;rw [if_neg h]; exact hS
    have one : Ev (fun k => jm.j1 k Y Z M L (some S) p ((pb Y Z M L).yc p.toNat) ((pb Y Z M L).zc p.toNat)) (NS (pb Y Z M L)) := by
      refine Ev.sub 1 ?_;simp only [jm.j1, wr (x := p + 2) (by omega) (by omega)];by_cases h : 0 < (pb Y Z M L).zc p.toNat
      · simp only [if_pos (show (pb Y Z M L).zc p.toNat > 0 from h)];have hadd := Bh V pn;rw [pc] at hadd;refine (tZ hS (by omega) ⟨0, p + 2, (pb Y Z M L).zc p.toNat⟩).bind ?_;rintro ⟨r1, r2, r3⟩ ⟨_, h2, _⟩;obtain ⟨_, S', hx, hS', _⟩ := h2 hadd;dsimp only at hx ⊢;subst hx;refine two S' ?_;unfold Pb.e1;rw [if_pos h, pc]; exact hS'
      · simp only [if_neg (show ¬ (pb Y Z M L).zc p.toNat > 0 from h)];refine two S ?_;unfold Pb.e1;rw [if_neg h]; exact hS
    refine Ev.sub 1 ?_;simp only [jm.l1, if_pos pl, if_pos p0, if_pos (show p < (Y.length : Int) by omega), if_pos (show p < (Z.length : Int) by omega)];by_cases h1 : rd M p = 1
    · rw [if_pos h1] at zc;rw [if_neg (by omega)] at yc;simp only [if_pos h1];rw [← yc, ← hI, ← zc]; exact one
    · rw [if_neg h1] at zc;by_cases h0 : rd M p = 0
      · rw [if_pos h0] at yc;simp only [if_neg h1, if_pos h0];rw [← zc, ← hI, ← yc]; exact one
      · rw [if_neg h0] at yc;simp only [if_neg h1, if_neg h0];rw [← zc, ← yc]; exact one
theorem zI {n : Int} (h1 : 1 ≤ n) (h2 : n ≤ 65536) : ∃ S, kC.f n = some (some S) ∧ qQ n [] S := by
  have e : kC.f n = some (some ⟨[], [], List.replicate n.toNat [], 0, false, [], [], ⟨0⟩⟩) := by
    unfold kC.f Go.Proofs.Ytdkbmchbkkhpoaa.PMfr.New.f Go.Proofs.Ytdkbmchbkkhpoaa.PMfr.New.j0;rw [if_neg (by omega), decide_eq_false (by omega), if_neg (by decide), if_pos (by omega), if_pos (by omega)]
    rfl
  refine ⟨_, e, ⟨⟨h1, h2, by simp, fun e he => absurd he (by simp), by decide⟩, ⟨rfl, fun j a b => by simp at b; omega⟩, rfl, ⟨by rw [List.length_replicate]; omega, fun v j a b => ?_, fun v => ?_⟩, rfl⟩⟩
  · have : Go.Proofs.Ytdkbmchbkkhpoaa.PMfr.iW (List.replicate n.toNat []) v = [] := by
      unfold Go.Proofs.Ytdkbmchbkkhpoaa.PMfr.iW;rw [List.getD_eq_getElem?_getD, List.getElem?_replicate];split <;> rfl
    show j ∈ Go.Proofs.Ytdkbmchbkkhpoaa.PMfr.iW (List.replicate n.toNat []) v ↔ _;rw [this];exact ⟨fun h => absurd h (by simp), fun h => by have := h.2.1; simp at this; omega⟩
  · have : Go.Proofs.Ytdkbmchbkkhpoaa.PMfr.iW (List.replicate n.toNat []) v = [] := by
      unfold Go.Proofs.Ytdkbmchbkkhpoaa.PMfr.iW;rw [List.getD_eq_getElem?_getD, List.getElem?_replicate];split <;> rfl
    show (Go.Proofs.Ytdkbmchbkkhpoaa.PMfr.iW (List.replicate n.toNat []) v).length ≤ _;rw [this]; exact Nat.zero_le _
theorem zJ (V : (pb Y Z M L).V) (hL : L.length ≤ 10000) (e1 : Y.length = M.length) (e2 : Z.length = M.length) : Ev (fun k => jm.f k Y Z M L) (NS (pb Y Z M L)) := by
  have hn : M.length ≤ 1000 := V.n2;obtain ⟨S, e, hS⟩ := zI (n := (M.length : Int) + 2) (by omega) (by omega);simp only [jm.f, wr (x := (M.length : Int) + 2) (by omega) (by omega), e, Option.bind_some];exact uS V hL e1 e2 M.length 0 S (Int.le_refl 0) (by omega) hS
def EO (Y Z M : List Int) (L : List S62) (r : List Bool × Int × List Int × Int) : Prop :=
  (chk Y Z M L ≠ 0 → r = ([], 0, [], chk Y Z M L)) ∧ (chk Y Z M L = 0 → (r.1 = [] ∧ r.2.1 = 0 ∧ r.2.2.2 = 22 ∧ Wit (pb Y Z M L) r.2.2.1 ∧ (pb Y Z M L).Short r.2.2.1.length) ∨ (r.2.2.1 = [] ∧ r.2.2.2 = 0 ∧ r.1.length = M.length ∧ (pb Y Z M L).Least (fun i => jK false r.1 i) r.2.1))
theorem xg (V : (pb Y Z M L).V) (e1 : Y.length = M.length) (e2 : Z.length = M.length) {B : List Bool} (hB : B.length = M.length) : ∀ (d : Nat) (acc p : Int), 0 ≤ p → p + d = (M.length : Int) → acc = Sm (fun i => if jK false B i = true then rd Y i else rd Z i) p.toNat →
    Ev (fun k => jI.l0 k Y Z acc p B) (fun r => r = (B, (pb Y Z M L).cost (fun i => jK false B i), [], 0)) := by
  have hI : Inf = 4611686018427387904 := rfl;have hn : M.length ≤ 1000 := V.n2;have nn : ∀ i : Nat, i < M.length → 0 ≤ (fun i : Nat => if jK false B i = true then rd Y i else rd Z i) i := fun i hi => by
    have a : 0 ≤ rd Y i := V.y0 i hi;have b : 0 ≤ rd Z i := V.z0 i hi
    (try dsimp only); split <;> omega
  have le : (pb Y Z M L).cost (fun i => jK false B i) < Inf := by
    refine Int.lt_of_le_of_lt (Sm.mono (fun i hi => ?_)) V.s;have a := V.y0 i hi;have b := V.z0 i hi
    (try dsimp only); split <;> omega
  have le : Sm (fun i => if jK false B i = true then rd Y i else rd Z i) M.length < Inf := le;intro d
  induction d with
  | zero =>
    intro acc p p0 pd e;refine Ev.sub 1 ?_;simp only [jI.l0, if_neg (show ¬ p < (B.length : Int) by omega)];rw [show p.toNat = M.length by omega] at e;exact Ev.ret (by rw [e]; rfl)
  | succ d ih =>
    intro acc p p0 pd e;have up := Sm.upto nn (show (p + 1).toNat ≤ M.length by omega);have lo := Sm.nonneg (f := fun i : Nat => if jK false B i = true then rd Y i else rd Z i) (n := (p + 1).toNat) (fun i hi => nn i (by omega));have hS : Sm (fun i : Nat => if jK false B i = true then rd Y i else rd Z i) (p + 1).toNat = acc + if jK false B p = true then rd Y p else rd Z p := by
      rw [show (p + 1).toNat = p.toNat + 1 by omega, Sm, ← e];(try dsimp only);rw [show ((p.toNat : Nat) : Int) = p by omega]
    refine Ev.sub 1 ?_;simp only [jI.l0, if_pos (show p < (B.length : Int) by omega), if_pos p0, if_pos (show p < (Y.length : Int) by omega), if_pos (show p < (Z.length : Int) by omega), wr (x := p + 1) (by omega) (by omega)];by_cases h : jK false B p = true
    · rw [if_pos h] at hS;simp only [if_pos h, wr (x := acc + rd Y p) (by omega) (by omega)];exact ih _ (p + 1) (by omega) (by omega) hS.symm
    · rw [if_neg h] at hS;simp only [if_neg h, wr (x := acc + rd Z p) (by omega) (by omega)];exact ih _ (p + 1) (by omega) (by omega) hS.symm
theorem sF {P : Pb} {o o' : Nat → Bool} {c : Int} (h : P.Least o c) (V : P.V) (e : ∀ i, i < P.n → o i = o' i) : P.Least o' c := by
  refine ⟨⟨fun i hi => by rw [← e i hi]; exact h.1.1 i hi, fun x hx => ?_⟩, ?_, fun o2 h2 => ⟨(h.2.2 o2 h2).1, fun hc i hi ho => (h.2.2 o2 h2).2 hc i hi (by rw [e i hi]; exact ho)⟩⟩
  · have := V.l x hx;rw [← e _ (by omega), ← e _ (by omega)]; exact h.1.2 x hx
  · rw [← h.2.1];exact Sm.congr (fun i hi => by rw [e i hi])
theorem uT (hM : M.length ≤ 1000) (hL : L.length ≤ 10000) (wY : ∀ x_ ∈ Y, (Lit.int .i64 x_).wf = true) (wZ : ∀ x_ ∈ Z, (Lit.int .i64 x_).wf = true) : Ev (fun k => jI.f k Y Z M L) (EO Y Z M L) := by
  have hI : Inf = 4611686018427387904 := rfl;simp only [jI.f];refine (qY hM hL wY wZ).bind ?_;rintro c rfl;by_cases hc : chk Y Z M L = 0
  · obtain ⟨V, e1, e2, _⟩ := o9 hM hL hc;simp only [if_pos hc];refine (qH V hL).bind ?_;rintro w (⟨rfl, o, ho⟩ | ⟨hw, hs⟩)
    · simp only [List.length_nil, if_neg (show ¬ 0 < ((0 : Nat) : Int) by decide)];refine (zJ V hL e1 e2).bind ?_;rintro x ⟨S, rfl, hS⟩;have hS : qQ ((M.length : Int) + 2) (pb Y Z M L).net S := hS;refine (Ac hS 0 1).bind ?_;rintro ⟨v, er, x⟩ ⟨S', hx, hS', _, _, b3⟩;have hE : ¬ qP (pb Y Z M L).net 0 1 := fun h => Bo h (sN V ho).1;obtain ⟨r0, _, m1, ga, hk, L1, bi, hL1, _⟩ := b3 (by unfold pq; omega) hE;dsimp only at hx r0 m1 hk ⊢;subst hx r0;simp only [if_true];refine (Ad hS' ga (by omega) (by omega)).bind ?_;rintro ⟨sd, x⟩ ⟨L2, zz, bi2, hsd, _, hx⟩;dsimp only at hsd hx ⊢;subst hsd;have hl2 := bi2.l;have hlen : (L2.map (fun x => decide (x > 0))).length = L2.length := List.length_map _;have htot : v < Inf := by
        obtain ⟨C, hC, e⟩ := m1.2;rw [← e];have := qJ.fs hS.g hC.2.2;have := hS.g.s;omega
      have hleast := tX V hS.g ga hk htot bi hL1 bi2;simp only [Option.bind_some, if_pos (show 2 ≤ ((L2.map (fun x => decide (x > 0))).length : Int) by omega), List.length_nil, List.nil_append, if_pos (show 0 + ((L2.map (fun x => decide (x > 0))).drop (2 : Int).toNat).length < 140737488355328 by rw [List.length_drop]; omega)];have hBl : ((L2.map (fun x => decide (x > 0))).drop (2 : Int).toNat).length = M.length := by rw [List.length_drop]; omega
      refine (xg V e1 e2 hBl M.length 0 0 (Int.le_refl 0) (by omega) rfl).mono ?_;rintro r rfl;refine ⟨fun h => absurd hc h, fun _ => .inr ⟨rfl, rfl, hBl, ?_⟩⟩;(try dsimp only);have ho : ∀ i : Nat, i < M.length → decide (0 < rd L2 ((i : Int) + 2)) = jK false ((L2.map (fun x => decide (x > 0))).drop (2 : Int).toNat) i := fun i hi => by
        unfold jK rd;rw [List.getD_eq_getElem?_getD, List.getD_eq_getElem?_getD, List.getElem?_drop, List.getElem?_map, show (2 : Int).toNat + ((i : Int)).toNat = ((i : Int) + 2).toNat by omega, List.getElem?_eq_getElem (show ((i : Int) + 2).toNat < L2.length by omega)]
        rfl
      have h2 := sF hleast V ho;rw [h2.2.1];exact h2
    · simp only [if_pos (show 0 < (w.length : Int) by have := hw.l; omega)];exact Ev.ret ⟨fun h => absurd hc h, fun _ => .inl ⟨rfl, rfl, rfl, hw, hs⟩⟩
  · simp only [if_neg hc];exact Ev.ret ⟨fun _ => rfl, fun h => absurd h hc⟩
theorem pO (k : Nat) : jg.f (k + 100) = some true := by kernel_rfl
theorem uU : Ev (fun k => jg.f k) (fun r => r = true) := Ev.sub 100 ⟨true, rfl, 0, fun k _ => pO k⟩
theorem Ev.okay {F : Nat → Option Bool} (h : Ev F (fun r => r = true)) : ∃ k, F k = some true := by
  obtain ⟨k, r, e, hr⟩ := h.out;exact ⟨k, by rw [e, hr]⟩
theorem mP : Ev (fun k => (jg.f k).bind fun t => some t) (fun r => r = true) := uU.bind (fun r h => Ev.ret h)
end
theorem qZ {l : List Bool} {i : Int} (v : Bool) (hi : 0 ≤ i) (hl : i < (l.length : Int)) {j : Int} (hj : 0 ≤ j) : jK false (l.set i.toNat v) j = if j = i then v else jK false l j := by
  unfold jK;rw [List.getD_eq_getElem?_getD, List.getD_eq_getElem?_getD, List.getElem?_set];by_cases h : j = i
  · rw [if_pos (by omega), if_pos h, if_pos (by omega)]; rfl
  · rw [if_neg (by omega), if_neg h]
theorem sG {a b : Int} (a0 : 0 ≤ a) (a1 : a < 9223372036854775808) (b0 : 0 ≤ b) (b1 : b < 9223372036854775808) : jd.f a b = some (if a + b < 9223372036854775808 then (a + b, true) else (0, false)) := by
  have e1 : wrap64 (9223372036854775807 - b) = 9223372036854775807 - b := wr (by omega) (by omega);unfold jd.f;rw [e1];unfold jd.j0;by_cases hb : b > 0
  · rw [if_pos hb];by_cases h : a > 9223372036854775807 - b
    · rw [if_pos h, if_pos rfl, if_neg (by omega)]
    · rw [if_neg h, if_neg (show ¬ b < 0 by omega), if_neg (by decide), if_pos (by omega), wr (by omega) (by omega)]
  · rw [if_neg hb, if_neg (show ¬ b < 0 by omega), if_neg (by decide), if_pos (by omega), wr (by omega) (by omega)]
section
variable {Y Z M : List Int} {L : List S62}
theorem uV (hM : M.length ≤ 1000) (e1 : Y.length = M.length) (e2 : Z.length = M.length) (wY : ∀ x_ ∈ Y, (Lit.int .i64 x_).wf = true) (wZ : ∀ x_ ∈ Z, (Lit.int .i64 x_).wf = true) (gd : ¬ rY Y Z M L) : ∀ (z : Nat) (acc p : Int), 0 ≤ p → p + z = (M.length : Int) → acc = Sm (fun i => rd Y i + rd Z i) p.toNat → acc < 9223372036854775808 →
    Ev (fun k => gW.l0 k Y Z M acc p) (fun r => r = chk Y Z M L) := by
  have hI : Inf = 4611686018427387904 := rfl;have hg : ∀ i : Int, 0 ≤ i → i < (M.length : Int) → ¬ (rd Y i < 0 ∨ rd Z i < 0 ∨ rd M i < -1 ∨ rd M i > 1) := fun i h0 h1 h2 => gd (.inr (.inr (.inr (.inr (.inl ⟨i, h0, h1, h2⟩)))));have nn : ∀ i : Nat, i < M.length → 0 ≤ (fun i : Nat => rd Y i + rd Z i) i := fun i hi => by have := hg i (by omega) (by omega); (try dsimp only); omega
  have ht : tot Y Z M = Sm (fun i => rd Y i + rd Z i) M.length := rfl;intro z
  induction z with
  | zero =>
    intro acc p p0 pz e ha;refine Ev.sub 1 ?_;simp only [gW.l0, if_neg (show ¬ p < (M.length : Int) by omega)];rw [nH gd, ht, e, show p.toNat = M.length by omega];by_cases h : Sm (fun i => rd Y i + rd Z i) M.length ≥ 4611686018427387904
    · simp only [if_pos h]; exact Ev.ret (by first | rfl | rw [if_pos (by omega)])
    · simp only [if_neg h]; exact Ev.ret (by first | rfl | rw [if_neg (by omega)])
  | succ z ih =>
    intro acc p p0 pz e ha;have hp := hg p p0 (by omega);have y1 := uQ wY p0 (show p < (Y.length : Int) by omega);have z1 := uQ wZ p0 (show p < (Z.length : Int) by omega);have ha0 : 0 ≤ acc := by rw [e]; exact Sm.nonneg (fun i hi => nn i (by omega))
    have hS : Sm (fun i : Nat => rd Y i + rd Z i) (p + 1).toNat = acc + (rd Y p + rd Z p) := by
      rw [show (p + 1).toNat = p.toNat + 1 by omega, Sm, ← e];(try dsimp only);rw [show ((p.toNat : Nat) : Int) = p by omega]
    have up := Sm.upto nn (show (p + 1).toNat ≤ M.length by omega);have over : acc + (rd Y p + rd Z p) ≥ 9223372036854775808 → chk Y Z M L = 18 := fun h => by rw [nH gd, if_pos (by omega)]
    refine Ev.sub 1 ?_;simp only [gW.l0, if_pos (show p < (M.length : Int) by omega), if_pos p0, if_pos (show p < (Y.length : Int) by omega), if_pos (show p < (Z.length : Int) by omega), sG ha0 ha (show 0 ≤ rd Y p by omega) y1, Option.bind_some, wr (x := p + 1) (by omega) (by omega)];by_cases h1 : acc + rd Y p < 9223372036854775808
    · simp only [if_pos h1, if_true, sG (show 0 ≤ acc + rd Y p by omega) h1 (show 0 ≤ rd Z p by omega) z1, Option.bind_some];by_cases h2 : acc + rd Y p + rd Z p < 9223372036854775808
      · simp only [if_pos h2, if_true];exact ih _ (p + 1) (by omega) (by omega) (by rw [hS]; omega) h2
      · simp only [if_neg h2, if_neg (show ¬ false = true by decide)];exact Ev.ret (over (by omega)).symm
    · simp only [if_neg h1, if_neg (show ¬ false = true by decide)];exact Ev.ret (over (by omega)).symm
theorem uX (hM : M.length ≤ 1000) (hL : L.length ≤ 10000) (e1 : Y.length = M.length) (e2 : Z.length = M.length) (wY : ∀ x_ ∈ Y, (Lit.int .i64 x_).wf = true) (wZ : ∀ x_ ∈ Z, (Lit.int .i64 x_).wf = true) (hg : ∀ i : Int, 0 ≤ i → i < (M.length : Int) → ¬ (rd Y i < 0 ∨ rd Z i < 0 ∨ rd M i < -1 ∨ rd M i > 1)) : ∀ (z : Nat) (p : Int), 0 ≤ p → p + z = (L.length : Int) → (∀ i : Int, 0 ≤ i → i < p → ¬ ((gX L i).f0 < 0 ∨ (gX L i).f1 < 0 ∨ (gX L i).f0 ≥ (M.length : Int) ∨ (gX L i).f1 ≥ (M.length : Int))) →
    Ev (fun k => gW.l1 k Y Z M L p) (fun r => r = chk Y Z M L) := by
  intro z
  induction z with
  | zero =>
    intro p p0 pz hp;have gd : ¬ rY Y Z M L := by
      rintro (h | h | h | h | ⟨i, i0, i1, h⟩ | ⟨i, i0, i1, h⟩)
      · exact h e1
      · exact h e2
      · omega
      · omega
      · exact hg i i0 i1 h
      · exact hp i i0 (by omega) h
    refine Ev.sub 1 ?_;simp only [gW.l1, if_neg (show ¬ p < (L.length : Int) by omega)];exact uV hM e1 e2 wY wZ gd M.length 0 0 (Int.le_refl 0) (by omega) rfl (by decide)
  | succ z ih =>
    intro p p0 pz hp;have pl : p < (L.length : Int) := by omega
    have bad : ((gX L p).f0 < 0 ∨ (gX L p).f1 < 0 ∨ (gX L p).f0 ≥ (M.length : Int) ∨ (gX L p).f1 ≥ (M.length : Int)) → Ev (fun k => gW.j0 k Y Z M L p true) (fun r => r = chk Y Z M L) := fun h => by
      refine Ev.sub 1 ?_;simp only [gW.j0, if_true];exact Ev.ret (mD (.inr (.inr (.inr (.inr (.inr ⟨p, p0, pl, h⟩)))))).symm
    refine Ev.sub 1 ?_;simp only [gW.l1, if_pos pl, if_pos p0];by_cases h1 : (gX L p).f0 < 0
    · simp only [if_pos h1]; exact bad (by omega)
    simp only [if_neg h1];by_cases h2 : (gX L p).f1 < 0
    · simp only [if_pos h2]; exact bad (by omega)
    simp only [if_neg h2];by_cases h3 : (gX L p).f0 ≥ (M.length : Int)
    · simp only [if_pos h3]; exact bad (by omega)
    simp only [if_neg h3];by_cases h4 : (gX L p).f1 ≥ (M.length : Int)
    · simp only [decide_eq_true h4]; exact bad (by omega)
    simp only [decide_eq_false h4];refine Ev.sub 1 ?_;simp only [gW.j0, if_neg (show ¬ false = true by decide), wr (x := p + 1) (by omega) (by omega)];refine ih (p + 1) (by omega) (by omega) (fun i i0 i1 => ?_);by_cases e : i < p
    · exact hp i i0 e
    · rw [show i = p by omega]; omega
theorem uY (hM : M.length ≤ 1000) (hL : L.length ≤ 10000) (e1 : Y.length = M.length) (e2 : Z.length = M.length) (wY : ∀ x_ ∈ Y, (Lit.int .i64 x_).wf = true) (wZ : ∀ x_ ∈ Z, (Lit.int .i64 x_).wf = true) : ∀ (z : Nat) (p : Int), 0 ≤ p → p + z = (M.length : Int) → (∀ i : Int, 0 ≤ i → i < p → ¬ (rd Y i < 0 ∨ rd Z i < 0 ∨ rd M i < -1 ∨ rd M i > 1)) →
    Ev (fun k => gW.l2 k Y Z M L p) (fun r => r = chk Y Z M L) := by
  intro z
  induction z with
  | zero =>
    intro p p0 pz hp;refine Ev.sub 1 ?_;simp only [gW.l2, if_neg (show ¬ p < (M.length : Int) by omega)];exact uX hM hL e1 e2 wY wZ (fun i i0 i1 => hp i i0 (by omega)) L.length 0 (Int.le_refl 0) (by omega) (fun i i0 i1 => by omega)
  | succ z ih =>
    intro p p0 pz hp;have pl : p < (M.length : Int) := by omega
    refine Ev.sub 1 ?_;simp only [gW.l2, if_pos pl, if_pos p0, if_pos (show p < (Y.length : Int) by omega), if_pos (show p < (Z.length : Int) by omega), wr (x := p + 1) (by omega) (by omega)];have bad : (rd Y p < 0 ∨ rd Z p < 0 ∨ rd M p < -1 ∨ rd M p > 1) → chk Y Z M L = 1 := fun h => mD (.inr (.inr (.inr (.inr (.inl ⟨p, p0, pl, h⟩)))));by_cases h1 : rd Y p < 0
    · simp only [if_pos h1]; exact Ev.ret (bad (by omega)).symm
    simp only [if_neg h1];by_cases h2 : rd Z p < 0
    · simp only [if_pos h2]; exact Ev.ret (bad (by omega)).symm
    simp only [if_neg h2];by_cases h3 : rd M p < -1
    · simp only [if_pos h3]; exact Ev.ret (bad (by omega)).symm
    simp only [if_neg h3];by_cases h4 : rd M p > 1
    · simp only [if_pos h4]; exact Ev.ret (bad (by omega)).symm
    simp only [if_neg h4];refine ih (p + 1) (by omega) (by omega) (fun i i0 i1 => ?_);by_cases e : i < p
    · exact hp i i0 e
    · rw [show i = p by omega]; omega
theorem sH (hM : M.length ≤ 1000) (hL : L.length ≤ 10000) (wY : ∀ x_ ∈ Y, (Lit.int .i64 x_).wf = true) (wZ : ∀ x_ ∈ Z, (Lit.int .i64 x_).wf = true) : Ev (fun k => gW.f k Y Z M L) (fun r => r = chk Y Z M L) := by
  simp only [gW.f];have bad : rY Y Z M L → Ev (fun k => gW.j1 k Y Z M L true) (fun r => r = chk Y Z M L) := fun h => by
    refine Ev.sub 1 ?_;simp only [gW.j1, if_true];exact Ev.ret (mD h).symm
  by_cases h1 : (Y.length : Int) = (M.length : Int)
  · simp only [if_pos h1];by_cases h2 : (Z.length : Int) = (M.length : Int)
    · simp only [if_pos h2, if_neg (show ¬ (M.length : Int) > 32768 by omega), decide_eq_false (show ¬ (L.length : Int) > 900000 by omega)];refine Ev.sub 1 ?_;simp only [gW.j1, if_neg (show ¬ false = true by decide)];exact uY hM hL (by omega) (by omega) wY wZ M.length 0 (Int.le_refl 0) (by omega) (fun i i0 i1 => by omega)
    · simp only [if_neg h2]; exact bad (.inr (.inl (by omega)))
  · simp only [if_neg h1]; exact bad (.inl (by omega))
theorem oU (V : (pb Y Z M L).V) {B : List Bool} : (pb Y Z M L).Keeps (fun i => jK false B i) ↔ (∀ i : Int, 0 ≤ i → i < (M.length : Int) → (rd M i = 1 → jK false B i = true) ∧ (rd M i = 0 → jK false B i = false)) ∧ ∀ j : Int, 0 ≤ j → j < (L.length : Int) → jK false B (gX L j).f0 = true → jK false B (gX L j).f1 = true := by
  unfold Pb.Keeps;refine and_congr ⟨fun h i i0 i1 => ?_, fun h i hi => ?_⟩ ⟨fun h j j0 j1 => ?_, fun h x hx => ?_⟩
  · have := h i.toNat (by show i.toNat < M.length; omega);rw [pm i0] at this;dsimp only at this;rw [show ((i.toNat : Nat) : Int) = i by omega] at this;exact this
  · have hi : i < M.length := hi;exact h i (by omega) (by omega)
  · have hm := (tV (Y := Y) (Z := Z) (M := M)).2 ⟨j, j0, j1, rfl⟩;have := V.l _ hm;have h2 := h _ hm;dsimp only at h2 this;rw [show (((gX L j).f0.toNat : Nat) : Int) = (gX L j).f0 by omega, show (((gX L j).f1.toNat : Nat) : Int) = (gX L j).f1 by omega] at h2;exact h2
  · have := V.l x hx;obtain ⟨j, j0, j1, rfl⟩ := tV.1 hx;dsimp only at this ⊢;rw [show (((gX L j).f0.toNat : Nat) : Int) = (gX L j).f0 by omega, show (((gX L j).f1.toNat : Nat) : Int) = (gX L j).f1 by omega];exact h j j0 j1
theorem sJ (V : (pb Y Z M L).V) (hL : L.length ≤ 10000) {B : List Bool} (hB : B.length = M.length) (hmu : ∀ i : Int, 0 ≤ i → i < (M.length : Int) → (rd M i = 1 → jK false B i = true) ∧ (rd M i = 0 → jK false B i = false)) : ∀ (z : Nat) (p : Int), 0 ≤ p → p + z = (L.length : Int) → (∀ j : Int, 0 ≤ j → j < p → jK false B (gX L j).f0 = true → jK false B (gX L j).f1 = true) →
    Ev (fun k => iH.l0 k L B p) (fun r => r = true ↔ (pb Y Z M L).Keeps (fun i => jK false B i)) := by
  intro z
  induction z with
  | zero =>
    intro p p0 pz hp;refine Ev.sub 1 ?_;simp only [iH.l0, if_neg (show ¬ p < (L.length : Int) by omega)];exact Ev.ret ⟨fun _ => (oU V).2 ⟨hmu, fun j j0 j1 => hp j j0 (by omega)⟩, fun _ => rfl⟩
  | succ z ih =>
    intro p p0 pz hp;have pl : p < (L.length : Int) := by omega
    have hin := V.l _ (tV.2 ⟨p, p0, pl, rfl⟩);dsimp only at hin;obtain ⟨a0, a1, b0, b1⟩ := hin;have a1 : (gX L p).f0 < (M.length : Int) := a1;have b1 : (gX L p).f1 < (M.length : Int) := b1;refine Ev.sub 1 ?_;simp only [iH.l0, if_pos pl, if_pos p0, if_pos a0, if_pos b0, if_pos (show (gX L p).f0 < (B.length : Int) by omega), if_pos (show (gX L p).f1 < (B.length : Int) by omega), wr (x := p + 1) (by omega) (by omega)];have next : (jK false B (gX L p).f0 = true → jK false B (gX L p).f1 = true) → Ev (fun k => iH.l0 k L B (p + 1)) (fun r => r = true ↔ (pb Y Z M L).Keeps (fun i => jK false B i)) := fun h => ih (p + 1) (by omega) (by omega) (fun j j0 j1 => by
      by_cases e : j < p
      · exact hp j j0 e
      · rw [show j = p by omega]; exact h)
    by_cases h1 : jK false B (gX L p).f0 = true
    · simp only [if_pos h1];by_cases h2 : jK false B (gX L p).f1 = true
      · simp only [if_pos h2]; exact next (fun _ => h2)
      · simp only [if_neg h2];exact Ev.ret ⟨fun h => absurd h (by decide), fun h => absurd (((oU V).1 h).2 p p0 pl h1) h2⟩
    · simp only [if_neg h1]; exact next (fun h => absurd h h1)
theorem qp (V : (pb Y Z M L).V) (hL : L.length ≤ 10000) {B : List Bool} (hB : B.length = M.length) : Ev (fun k => iH.f k Y Z M L B) (fun r => r = true ↔ (pb Y Z M L).Keeps (fun i => jK false B i)) := by
  have hn : M.length ≤ 1000 := V.n2;have go : ∀ (z : Nat) (p : Int), 0 ≤ p → p + z = (M.length : Int) → (∀ i : Int, 0 ≤ i → i < p → (rd M i = 1 → jK false B i = true) ∧ (rd M i = 0 → jK false B i = false)) → Ev (fun k => iH.l1 k M L B p) (fun r => r = true ↔ (pb Y Z M L).Keeps (fun i => jK false B i)) := by
    intro z
    induction z with
    | zero =>
      intro p p0 pz hp;refine Ev.sub 1 ?_;simp only [iH.l1, if_neg (show ¬ p < (B.length : Int) by omega)];exact sJ V hL hB (fun i i0 i1 => hp i i0 (by omega)) L.length 0 (Int.le_refl 0) (by omega) (fun j j0 j1 => by omega)
    | succ z ih =>
      intro p p0 pz hp;have pl : p < (M.length : Int) := by omega
      refine Ev.sub 1 ?_;simp only [iH.l1, if_pos (show p < (B.length : Int) by omega), if_pos p0, if_pos pl, wr (x := p + 1) (by omega) (by omega)];have next : ((rd M p = 1 → jK false B p = true) ∧ (rd M p = 0 → jK false B p = false)) → Ev (fun k => iH.l1 k M L B (p + 1)) (fun r => r = true ↔ (pb Y Z M L).Keeps (fun i => jK false B i)) := fun h => ih (p + 1) (by omega) (by omega) (fun i i0 i1 => by
        by_cases e : i < p
        · exact hp i i0 e
        · rw [show i = p by omega]; exact h)
      have bad : ¬ ((rd M p = 1 → jK false B p = true) ∧ (rd M p = 0 → jK false B p = false)) → Ev (fun _ => some false) (fun r => r = true ↔ (pb Y Z M L).Keeps (fun i => jK false B i)) := fun h => Ev.ret ⟨fun h => absurd h (by decide), fun hk => absurd (((oU V).1 hk).1 p p0 pl) h⟩;by_cases h1 : rd M p = 1
      · simp only [if_pos h1];by_cases hb : jK false B p = true
        · simp only [if_pos hb, if_neg (show ¬ rd M p = 0 by omega)];exact next ⟨fun _ => hb, fun h => by omega⟩
        · simp only [if_neg hb];exact bad (fun h => hb (h.1 h1))
      · simp only [if_neg h1];by_cases h0 : rd M p = 0
        · simp only [if_pos h0];by_cases hb : jK false B p = true
          · simp only [if_pos hb];exact bad (fun h => by have := h.2 h0; rw [hb] at this; exact absurd this (by decide))
          · simp only [if_neg hb];exact next ⟨fun h => by omega, fun _ => by simpa using hb⟩
        · simp only [if_neg h0];exact next ⟨fun h => absurd h h1, fun h => absurd h h0⟩
  simp only [iH.f];exact go M.length 0 (Int.le_refl 0) (by omega) (fun i i0 i1 => by omega)
theorem rC (V : (pb Y Z M L).V) (e1 : Y.length = M.length) (e2 : Z.length = M.length) {B : List Bool} (hB : B.length = M.length) : Ev (fun k => iY.f k Y Z M L B) (fun r => r = (pb Y Z M L).cost (fun i => jK false B i)) := by
  have hI : Inf = 4611686018427387904 := rfl;have hn : M.length ≤ 1000 := V.n2;have nn : ∀ i : Nat, i < M.length → 0 ≤ (fun i : Nat => if jK false B i = true then rd Y i else rd Z i) i := fun i hi => by
    have a : 0 ≤ rd Y i := V.y0 i hi;have b : 0 ≤ rd Z i := V.z0 i hi
    (try dsimp only); split <;> omega
  have le : (pb Y Z M L).cost (fun i => jK false B i) < Inf := by
    refine Int.lt_of_le_of_lt (Sm.mono (fun i hi => ?_)) V.s;have a := V.y0 i hi;have b := V.z0 i hi
    (try dsimp only); split <;> omega
  have le : Sm (fun i => if jK false B i = true then rd Y i else rd Z i) M.length < Inf := le;have go : ∀ (d : Nat) (acc p : Int), 0 ≤ p → p + d = (M.length : Int) → acc = Sm (fun i => if jK false B i = true then rd Y i else rd Z i) p.toNat → Ev (fun k => iY.l0 k Y Z B acc p) (fun r => r = (pb Y Z M L).cost (fun i => jK false B i)) := by
    intro d
    induction d with
    | zero =>
      intro acc p p0 pd e;refine Ev.sub 1 ?_;simp only [iY.l0, if_neg (show ¬ p < (B.length : Int) by omega)];rw [show p.toNat = M.length by omega] at e;exact Ev.ret (by rw [e]; rfl)
    | succ d ih =>
      intro acc p p0 pd e;have up := Sm.upto nn (show (p + 1).toNat ≤ M.length by omega);have lo := Sm.nonneg (f := fun i : Nat => if jK false B i = true then rd Y i else rd Z i) (n := (p + 1).toNat) (fun i hi => nn i (by omega));have hS : Sm (fun i : Nat => if jK false B i = true then rd Y i else rd Z i) (p + 1).toNat = acc + if jK false B p = true then rd Y p else rd Z p := by
        rw [show (p + 1).toNat = p.toNat + 1 by omega, Sm, ← e];(try dsimp only);rw [show ((p.toNat : Nat) : Int) = p by omega]
      refine Ev.sub 1 ?_;simp only [iY.l0, if_pos (show p < (B.length : Int) by omega), if_pos p0, if_pos (show p < (Y.length : Int) by omega), if_pos (show p < (Z.length : Int) by omega), wr (x := p + 1) (by omega) (by omega)];by_cases h : jK false B p = true
      · rw [if_pos h] at hS;simp only [if_pos h, wr (x := acc + rd Y p) (by omega) (by omega)];exact ih _ (p + 1) (by omega) (by omega) hS.symm
      · rw [if_neg h] at hS;simp only [if_neg h, wr (x := acc + rd Z p) (by omega) (by omega)];exact ih _ (p + 1) (by omega) (by omega) hS.symm
  simp only [iY.f];exact go M.length 0 0 (Int.le_refl 0) (by omega) rfl
end
def RB (P : Pb) (k : Nat) (i : Int) : Prop := ∃ s, s ≤ k ∧ ∃ f : Nat → Int, (0 ≤ f 0 ∧ f 0 < (P.n : Int)) ∧ P.m (f 0).toNat = 1 ∧ f s = i ∧ ∀ t, t < s → (f t, f (t + 1)) ∈ P.L
theorem RB.step {P : Pb} {k : Nat} {i : Int} : RB P (k + 1) i ↔ RB P k i ∨ ∃ a, (a, i) ∈ P.L ∧ RB P k a := by
  constructor
  · rintro ⟨s, hs, f, f0, f1, f2, f3⟩;by_cases h : s ≤ k
    · exact .inl ⟨s, h, f, f0, f1, f2, f3⟩
    · have e : s = k + 1 := by omega
      subst e;refine .inr ⟨f k, ?_, k, Nat.le_refl _, f, f0, f1, rfl, fun t ht => f3 t (by omega)⟩;rw [← f2]; exact f3 k (by omega)
  · rintro (⟨s, hs, h⟩ | ⟨a, ha, s, hs, f, f0, f1, f2, f3⟩)
    · exact ⟨s, by omega, h⟩
    · refine ⟨s + 1, by omega, fun t => if t = s + 1 then i else f t, by simpa using f0, by simpa using f1, by simp, fun t ht => ?_⟩;dsimp only;rw [if_neg (show ¬ t = s + 1 by omega)];by_cases e : t = s
      · rw [if_pos (by omega), e, f2]; exact ha
      · rw [if_neg (by omega)]; exact f3 t (by omega)
theorem RB.zero {P : Pb} {i : Int} : RB P 0 i ↔ (0 ≤ i ∧ i < (P.n : Int)) ∧ P.m i.toNat = 1 := by
  constructor
  · rintro ⟨s, hs, f, f0, f1, f2, f3⟩;have e : s = 0 := by omega
    subst e;rw [← f2]; exact ⟨f0, f1⟩
  · rintro ⟨h, hm⟩;exact ⟨0, Nat.le_refl _, fun _ => i, h, hm, rfl, fun t ht => by omega⟩
section
variable {Y Z M : List Int} {L : List S62}
def ShQ (P : Pb) (r : Int) : Prop := (∀ d, P.Short d → r = d) ∧ ((∀ k, ¬ P.CY k) → r = 0)
def Et (Y Z M : List Int) (L : List S62) (n : Int) (B : List Bool) : Prop := 1 ≤ n ∧ B.length = M.length ∧ (∀ i : Int, 0 ≤ i → i < (M.length : Int) → (jK false B i = true ↔ RB (pb Y Z M L) (n - 1).toNat i)) ∧ ∀ s : Nat, (s : Int) < n - 1 → ¬ (pb Y Z M L).CY s
theorem yu (V : (pb Y Z M L).V) (hL : L.length ≤ 10000) {B : List Bool} {n : Int} (hB : Et Y Z M L n B) (hno : ∀ i : Int, 0 ≤ i → i < (M.length : Int) → ¬ (jK false B i = true ∧ rd M i = 0)) (hn : n ≤ 100000) (H : ∀ B', Et Y Z M L (n + 1) B' → Ev (fun k => iO.l2 k M L B' (n + 1)) (ShQ (pb Y Z M L))) : ∀ (z : Nat) (p : Int) (B' : List Bool), 0 ≤ p → p + z = (L.length : Int) → B'.length = M.length → (∀ i : Int, 0 ≤ i → i < (M.length : Int) → (jK false B' i = true ↔ jK false B i = true ∨ ∃ j : Int, 0 ≤ j ∧ j < p ∧ jK false B (gX L j).f0 = true ∧ (gX L j).f1 = i)) →
    Ev (fun k => iO.l0 k M L B n B' p) (ShQ (pb Y Z M L)) := by
  obtain ⟨n1, hl, hb, hs⟩ := hB;intro z
  induction z with
  | zero =>
    intro p B' p0 pz hl' hb';refine Ev.sub 1 ?_;simp only [iO.l0, if_neg (show ¬ p < (L.length : Int) by omega), wr (x := n + 1) (by omega) (by omega)];refine H B' ⟨by omega, hl', fun i i0 i1 => ?_, fun s hs' => ?_⟩
    · rw [hb' i i0 i1, hb i i0 i1, show (n + 1 - 1).toNat = (n - 1).toNat + 1 by omega, RB.step];refine or_congr Iff.rfl ⟨?_, ?_⟩
      · rintro ⟨j, j0, j1, h1, h2⟩;have hin := V.l _ (tV.2 ⟨j, j0, by omega, rfl⟩);dsimp only at hin;exact ⟨(gX L j).f0, tV.2 ⟨j, j0, by omega, by rw [h2]⟩, (hb _ hin.1 hin.2.1).1 h1⟩
      · rintro ⟨a, ha, hr⟩;have hin := V.l _ ha;dsimp only at hin;obtain ⟨j, j0, j1, e⟩ := tV.1 ha
        injection e with e1 e2
        exact ⟨j, j0, by omega, by rw [← e1]; exact (hb _ hin.1 hin.2.1).2 hr, e2.symm⟩
    · by_cases h : (s : Int) < n - 1
      · exact hs s h
      · rintro ⟨f, f0, f1, f2, f3⟩;have hr : 0 ≤ f s ∧ f s < (M.length : Int) := by
          cases s with
          | zero => exact f0
          | succ s => have := V.l _ (f3 s (by omega)); exact ⟨this.2.2.1, this.2.2.2⟩
        rw [pm hr.1] at f2;exact hno (f s) hr.1 hr.2 ⟨(hb _ hr.1 hr.2).2 ⟨s, by omega, f, f0, f1, rfl, f3⟩, f2⟩
  | succ z ih =>
    intro p B' p0 pz hl' hb';have pl : p < (L.length : Int) := by omega
    have hin := V.l _ (tV.2 ⟨p, p0, pl, rfl⟩);dsimp only at hin;obtain ⟨a0, a1, b0, b1⟩ := hin;have a1 : (gX L p).f0 < (M.length : Int) := a1;have b1 : (gX L p).f1 < (M.length : Int) := b1;refine Ev.sub 1 ?_;simp only [iO.l0, if_pos pl, if_pos p0, if_pos a0, if_pos (show (gX L p).f0 < (B.length : Int) by omega), if_pos b0, if_pos (show (gX L p).f1 < (B'.length : Int) by omega), Option.bind_some, wr (x := p + 1) (by omega) (by omega)];by_cases h : jK false B (gX L p).f0 = true
    · simp only [if_pos h];refine ih (p + 1) _ (by omega) (by omega) (by rw [List.length_set]; exact hl') (fun i i0 i1 => ?_);rw [qZ _ b0 (by omega) i0];by_cases e : i = (gX L p).f1
      · rw [if_pos e];exact ⟨fun _ => .inr ⟨p, p0, by omega, h, e.symm⟩, fun _ => rfl⟩
      · rw [if_neg e, hb' i i0 i1];refine or_congr Iff.rfl ⟨?_, ?_⟩
        · rintro ⟨j, j0, j1, q⟩; exact ⟨j, j0, by omega, q⟩
        · rintro ⟨j, j0, j1, q1, q2⟩;by_cases ej : j = p
          · rw [ej] at q2; exact absurd q2.symm e
          · exact ⟨j, j0, by omega, q1, q2⟩
    · simp only [if_neg h];refine ih (p + 1) _ (by omega) (by omega) hl' (fun i i0 i1 => ?_);rw [hb' i i0 i1];refine or_congr Iff.rfl ⟨?_, ?_⟩
      · rintro ⟨j, j0, j1, q⟩; exact ⟨j, j0, by omega, q⟩
      · rintro ⟨j, j0, j1, q1, q2⟩;by_cases ej : j = p
        · rw [ej] at q1; exact absurd q1 h
        · exact ⟨j, j0, by omega, q1, q2⟩
theorem yw (V : (pb Y Z M L).V) (hL : L.length ≤ 10000) {B : List Bool} {n : Int} (hB : Et Y Z M L n B) (hn : n ≤ (M.length : Int)) (H : ∀ B', Et Y Z M L (n + 1) B' → Ev (fun k => iO.l2 k M L B' (n + 1)) (ShQ (pb Y Z M L))) : ∀ (z : Nat) (p : Int), 0 ≤ p → p + z = (M.length : Int) → (∀ i : Int, 0 ≤ i → i < p → ¬ (jK false B i = true ∧ rd M i = 0)) →
    Ev (fun k => iO.l1 k M L B n p) (ShQ (pb Y Z M L)) := by
  have hn' : M.length ≤ 1000 := V.n2;have hl := hB.2.1;intro z
  induction z with
  | zero =>
    intro p p0 pz hno;refine Ev.sub 1 ?_;simp only [iO.l1, if_neg (show ¬ p < (B.length : Int) by omega), Option.bind_some, List.length_nil, List.nil_append, if_pos (show 0 + B.length < 140737488355328 by omega)];exact yu V hL hB (fun i i0 i1 => hno i i0 (by omega)) (by omega) H L.length 0 B (Int.le_refl 0) (by omega) hl (fun i i0 i1 => ⟨fun h => .inl h, fun h => by
      rcases h with h | ⟨j, j0, j1, _⟩
      · exact h
      · omega⟩)
  | succ z ih =>
    intro p p0 pz hno;have pl : p < (M.length : Int) := by omega
    refine Ev.sub 1 ?_;simp only [iO.l1, if_pos (show p < (B.length : Int) by omega), if_pos p0, if_pos pl, wr (x := p + 1) (by omega) (by omega)];have next : ¬ (jK false B p = true ∧ rd M p = 0) → Ev (fun k => iO.l1 k M L B n (p + 1)) (ShQ (pb Y Z M L)) := fun h => ih (p + 1) (by omega) (by omega) (fun i i0 i1 => by
      by_cases e : i < p
      · exact hno i i0 e
      · rw [show i = p by omega]; exact h)
    by_cases h1 : jK false B p = true
    · simp only [if_pos h1];by_cases h2 : rd M p = 0
      · simp only [if_pos h2];obtain ⟨n1, _, hb, hs⟩ := hB;obtain ⟨s, hsn, f, f0, f1, f2, f3⟩ := (hb p p0 pl).1 h1;have hp : (pb Y Z M L).CY s := ⟨f, f0, f1, by rw [f2, pm p0]; exact h2, f3⟩;have es : (s : Int) = n - 1 := by
          by_cases hh : (s : Int) < n - 1
          · exact absurd hp (hs s hh)
          · omega
        refine Ev.ret ⟨fun d hd => ?_, fun h => absurd hp (h s)⟩;have := hd.2.2.2 s hp;have := hd.1;by_cases hh : ((d - 1 : Nat) : Int) < n - 1
        · exact absurd hd.2.2.1 (hs _ hh)
        · omega
      · simp only [if_neg h2]; exact next (fun h => h2 h.2)
    · simp only [if_neg h1]; exact next (fun h => h1 h.1)
theorem AO (V : (pb Y Z M L).V) (hL : L.length ≤ 10000) : ∀ (z : Nat) (n : Int) (B : List Bool), n + z = (M.length : Int) + 1 → Et Y Z M L n B → Ev (fun k => iO.l2 k M L B n) (ShQ (pb Y Z M L)) := by
  intro z
  induction z with
  | zero =>
    intro n B e hB;refine Ev.sub 1 ?_;simp only [iO.l2, if_neg (show ¬ n ≤ (M.length : Int) by omega)];refine Ev.ret ⟨fun d hd => ?_, fun _ => rfl⟩;have h1 : d ≤ M.length := hd.2.1;have h2 := hd.1;exact absurd hd.2.2.1 (hB.2.2.2 (d - 1) (by omega))
  | succ z ih =>
    intro n B e hB;refine Ev.sub 1 ?_;simp only [iO.l2, if_pos (show n ≤ (M.length : Int) by omega)];exact yw V hL hB (by omega) (fun B' hB' => ih (n + 1) B' (by omega) hB') M.length 0 (Int.le_refl 0) (by omega) (fun i i0 i1 => by omega)
theorem xk (V : (pb Y Z M L).V) (hL : L.length ≤ 10000) : ∀ (z : Nat) (p : Int) (B : List Bool), 0 ≤ p → p + z = (M.length : Int) → B.length = M.length → (∀ i : Int, 0 ≤ i → i < p → jK false B i = decide (rd M i = 1)) →
    Ev (fun k => iO.l3 k M L B p) (ShQ (pb Y Z M L)) := by
  have hn' : M.length ≤ 1000 := V.n2;intro z
  induction z with
  | zero =>
    intro p B p0 pz hl hb;refine Ev.sub 1 ?_;simp only [iO.l3, if_neg (show ¬ p < (M.length : Int) by omega)];refine AO V hL M.length 1 B (by omega) ⟨Int.le_refl 1, hl, fun i i0 i1 => ?_, fun s hs => by omega⟩;rw [hb i i0 (by omega), show ((1 : Int) - 1).toNat = 0 from rfl, RB.zero, pm i0, decide_eq_true_iff];exact ⟨fun h => ⟨⟨i0, i1⟩, h⟩, fun h => h.2⟩
  | succ z ih =>
    intro p B p0 pz hl hb;refine Ev.sub 1 ?_;simp only [iO.l3, if_pos (show p < (M.length : Int) by omega), if_pos p0, if_pos (show p < (B.length : Int) by omega), Option.bind_some, wr (x := p + 1) (by omega) (by omega)];refine ih (p + 1) _ (by omega) (by omega) (by rw [List.length_set]; exact hl) (fun i i0 i1 => ?_);rw [qZ _ p0 (by omega) i0];by_cases e : i = p
    · rw [if_pos e, e]
    · rw [if_neg e]; exact hb i i0 (by omega)
theorem vY (V : (pb Y Z M L).V) (hL : L.length ≤ 10000) : Ev (fun k => iO.f k Y Z M L) (ShQ (pb Y Z M L)) := by
  have hn' : M.length ≤ 1000 := V.n2;simp only [iO.f, if_pos (show 0 ≤ (M.length : Int) by omega), Int.toNat_natCast, if_pos (show M.length * 1 ≤ 281474976710656 by omega), Option.bind_some];exact xk V hL M.length 0 _ (Int.le_refl 0) (by omega) List.length_replicate (fun i i0 i1 => by omega)
theorem CW {w : List Int} {i : Int} (i1 : 1 ≤ i) (hi : i < (w.length : Int)) (hw : w.length ≤ 1000) (hL : L.length ≤ 10000) (H : Ev (fun k => iy.l1 k L w (i + 1)) (fun r => r = true)) : ∀ (z : Nat) (p : Int) (b : Bool), 0 ≤ p → p + z = (L.length : Int) → (b = true ∨ ∃ j : Int, p ≤ j ∧ j < (L.length : Int) ∧ (gX L j).f0 = rd w (i - 1) ∧ (gX L j).f1 = rd w i) →
    Ev (fun k => iy.l0 k L w i b p) (fun r => r = true) := by
  intro z
  induction z with
  | zero =>
    intro p b p0 pz h;have hb : b = true := by
      rcases h with h | ⟨j, j0, j1, _⟩
      · exact h
      · omega
    subst hb;refine Ev.sub 1 ?_;simp only [iy.l0, if_neg (show ¬ p < (L.length : Int) by omega), if_true, wr (x := i + 1) (by omega) (by omega)];exact H
  | succ z ih =>
    intro p b p0 pz h;refine Ev.sub 1 ?_;simp only [iy.l0, if_pos (show p < (L.length : Int) by omega), wr (x := p + 1) (by omega) (by omega)];by_cases hb : b = true
    · simp only [if_pos hb];exact ih (p + 1) true (by omega) (by omega) (.inl rfl)
    · simp only [if_neg hb, wr (x := i - 1) (by omega) (by omega), if_pos (show 0 ≤ i - 1 by omega), if_pos (show i - 1 < (w.length : Int) by omega), if_pos p0, if_pos (show 0 ≤ i by omega), if_pos hi];rcases h with h | ⟨j, j0, j1, q1, q2⟩
      · exact absurd h hb
      by_cases h1 : (gX L p).f0 = rd w (i - 1)
      · simp only [if_pos h1];refine ih (p + 1) _ (by omega) (by omega) ?_;by_cases e : j = p
        · rw [e] at q2; exact .inl (decide_eq_true q2)
        · exact .inr ⟨j, by omega, j1, q1, q2⟩
      · simp only [if_neg h1];refine ih (p + 1) _ (by omega) (by omega) (.inr ⟨j, ?_, j1, q1, q2⟩);by_cases e : j = p
        · rw [e] at q1; exact absurd q1 h1
        · omega
theorem Eu {w : List Int} (hw : Wit (pb Y Z M L) w) (hl : w.length ≤ 1000) (hL : L.length ≤ 10000) : ∀ (z : Nat) (i : Int), 1 ≤ i → i + z = (w.length : Int) → Ev (fun k => iy.l1 k L w i) (fun r => r = true) := by
  intro z
  induction z with
  | zero =>
    intro i i1 e;refine Ev.sub 1 ?_;simp only [iy.l1, if_neg (show ¬ i < (w.length : Int) by omega)];exact mP
  | succ z ih =>
    intro i i1 e;refine Ev.sub 1 ?_;simp only [iy.l1, if_pos (show i < (w.length : Int) by omega)];have hs := hw.s (i - 1) (by omega) (by omega);rw [show i - 1 + 1 = i by omega] at hs;obtain ⟨j, j0, j1, ej⟩ := tV.1 hs
    injection ej with e1 e2
    exact CW i1 (by omega) hl hL (ih (i + 1) (by omega) (by omega)) L.length 0 false (Int.le_refl 0) (by omega) (.inr ⟨j, j0, j1, e1.symm, e2.symm⟩)
theorem vZ {B : List Bool} {o : List Bool} {c : Int} {w : List Int} {e : Int} (hM : M.length ≤ 100) (hL : L.length ≤ 300) (hc : chk Y Z M L = 0) (hr : EO Y Z M L (o, c, w, e)) {x : Bool} (hx : x = true → B.length = M.length ∧ (pb Y Z M L).Keeps (fun i => jK false B i)) :
    Ev (fun k => iy.j2 k Y Z M L B o c w e x) (fun r => r = true) := by
  obtain ⟨V, e1, e2, _⟩ := o9 (by omega) (by omega) hc;refine Ev.sub 1 ?_;rcases hr.2 hc with ⟨h1, h2, h3, hw, hs⟩ | ⟨h1, h2, h3, h4⟩
  · dsimp only at h1 h2 h3 hw hs;subst h1 h2 h3;have wl := hw.l;have wn : w.length ≤ M.length := hs.2.1;have hx0 : x = false := by
      cases x with
      | false => rfl
      | true => exact absurd (hx rfl).2 (fun hk => hs.2.2.1.not hk V)
    subst hx0;have b0 := hw.b 0 (Int.le_refl 0) (by omega);have bl := hw.b ((w.length : Int) - 1) (by omega) (by omega);have b01 : rd w 0 < (M.length : Int) := b0.2;have bl1 : rd w ((w.length : Int) - 1) < (M.length : Int) := bl.2;have m0 := hw.f;rw [pm b0.1] at m0;have ml := hw.e;rw [pm bl.1] at ml;simp only [iy.j2, if_true, if_neg (show ¬ (w.length : Int) = 0 by omega)];refine (vY V (by omega)).bind ?_;rintro r hr;have hr := hr.1 _ hs;simp only [if_pos hr.symm, if_neg (show ¬ false = true by decide), if_pos (show 0 < (w.length : Int) by omega), if_pos b0.1, if_pos b01, if_pos m0, wr (x := (w.length : Int) - 1) (by omega) (by omega), if_pos (show 0 ≤ (w.length : Int) - 1 by omega), if_pos (show (w.length : Int) - 1 < (w.length : Int) by omega), if_pos bl.1, if_pos bl1, decide_eq_true ml, show (!true) = false from rfl];refine Ev.sub 1 ?_;simp only [iy.j0, if_neg (show ¬ false = true by decide)];exact Eu hw (by omega) (by omega) (w.length - 1) 1 (Int.le_refl 1) (by omega)
  · dsimp only at h1 h2 h3 h4;subst h1 h2;simp only [iy.j2, if_neg (show ¬ (0 : Int) = 22 by decide), if_true, if_pos (show (o.length : Int) = (M.length : Int) by omega), List.length_nil, if_pos (show ((0 : Nat) : Int) = 0 from rfl)];refine (qp V (by omega) h3).bind ?_;rintro r hr;simp only [if_pos (hr.2 h4.1)];refine (rC V e1 e2 h3).bind ?_;rintro r2 rfl;simp only [if_pos h4.2.1.symm];refine (vY V (by omega)).bind ?_;rintro r3 hr3;have : r3 = 0 := hr3.2 (fun k hk => hk.not h4.1 V);subst this;simp only [decide_eq_true (show (0 : Int) = 0 from rfl), show (!true) = false from rfl];refine Ev.sub 1 ?_;simp only [iy.j1, if_neg (show ¬ false = true by decide)]
    cases x with
    | false =>
      simp only [if_neg (show ¬ false = true by decide)];exact mP
    | true =>
      simp only [if_true];obtain ⟨k1, k2⟩ := hx rfl;refine (rC V e1 e2 k1).bind ?_;rintro r4 rfl;simp only [if_pos (show (pb Y Z M L).cost (fun i => jK false B i) ≥ c from (h4.2.2 _ k2).1)];exact mP
end
theorem CutKeeps : iy.Pure := by
  intro Y Z M L B _ _ wY _ _ wZ _ _ _ _ _ _ _ _ _;refine Ev.okay ?_;simp only [iy.f];have out : Ev (fun k => iy.j3 k Y Z M L B true) (fun r => r = true) := by
    refine Ev.sub 1 ?_;simp only [iy.j3, if_true];exact mP
  by_cases h1 : (M.length : Int) > 100
  · simp only [if_pos h1]; exact out
  simp only [if_neg h1];by_cases h2 : (Y.length : Int) > 102
  · simp only [if_pos h2]; exact out
  simp only [if_neg h2];by_cases h3 : (Z.length : Int) > 102
  · simp only [if_pos h3]; exact out
  simp only [if_neg h3];by_cases h4 : (L.length : Int) > 300
  · simp only [if_pos h4]; exact out
  simp only [if_neg h4];refine (sH (by omega) (by omega) wY wZ).bind ?_;rintro c rfl;by_cases hc : chk Y Z M L = 0
  · simp only [decide_eq_true hc, show (!true) = false from rfl];refine Ev.sub 1 ?_;simp only [iy.j3, if_neg (show ¬ false = true by decide), jM.f, Option.bind_some];refine (uT (by omega) (by omega) wY wZ).bind ?_;rintro ⟨o, c, w, e⟩ hr;obtain ⟨V, _, _, _⟩ := o9 (by omega) (by omega) hc;by_cases hl : (B.length : Int) = (M.length : Int)
    · simp only [if_pos hl];refine (qp V (by omega) (show B.length = M.length by omega)).bind ?_;rintro x hx;exact vZ (by omega) (by omega) hc hr (fun h => ⟨by omega, hx.1 h⟩)
    · simp only [if_neg hl];exact vZ (by omega) (by omega) hc hr (fun h => absurd h (by decide))
  · simp only [decide_eq_false hc, show (!false) = true from rfl]; exact out
end Go.Proofs.Ytdkbmchbkkhpoaa.Pure
