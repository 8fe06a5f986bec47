/- A law. -/
import Derived.Test.YtdkbmchbkkhpoaaPCscx1
import Derived.Test.YtdkbmchbkkhpoaaPCscx2
import Derived.Test.YtdkbmchbkkhpoaaPCscx3
import Derived.Test.YtdkbmchbkkhpoaaPCscx4
import Derived.Test.YtdkbmchbkkhpoaaPCscx5
import Derived.Test.YtdkbmchbkkhpoaaCu
import Derived.OpenShut
import Derived.Laws.BitsLemmas
import Derived.Laws.BitsAllLaws
import Derived.Laws.Bits64b
import Derived.Lib.TrailingZeros
import Derived.Lib.Bytes
import Derived.Test.YtdkbmchbkkhpoaaWSized
set_option linter.unusedVariables false
set_option linter.unusedSimpArgs false
namespace Go.Proofs.Ytdkbmchbkkhpoaa.Pure
open Go.RowKit Go.Proofs.Ytdkbmchbkkhpoaa.PCsc Go.Proofs.YtdkbmchbkkhpoaaW.PrintWords Go.Proofs.YtdkbmchbkkhpoaaW.PrintLast

open Go.Proofs.Ytdkbmchbkkhpoaa.Flow
def pb (Y Z M : List Int) (L : List S62) : Pb := ⟨M.length, fun i => rd Y i, fun i => rd Z i, fun i => rd M i, L.map (fun x => (x.f0, x.f1))⟩
theorem pm {Y Z M : List Int} {L : List S62} {i : Int} (h : 0 ≤ i) : (pb Y Z M L).m i.toNat = rd M i := by
  show rd M ((i.toNat : Nat) : Int) = rd M i
  rw [show ((i.toNat : Nat) : Int) = i by omega]
theorem pmem {Y Z M : List Int} {L : List S62} {x : Int × Int} : x ∈ (pb Y Z M L).L ↔ ∃ i : Int, 0 ≤ i ∧ i < (L.length : Int) ∧ x = ((rd_T62 L i).f0, (rd_T62 L i).f1) := by
  show x ∈ L.map (fun x => (x.f0, x.f1)) ↔ _
  rw [List.mem_map]
  constructor
  · rintro ⟨s, hs, rfl⟩
    obtain ⟨j, hj, e⟩ := List.getElem_of_mem hs
    refine ⟨(j : Int), by omega, by omega, ?_⟩
    unfold rd_T62
    rw [List.getD_eq_getElem?_getD, show ((j : Int)).toNat = j by omega, List.getElem?_eq_getElem hj, e]; rfl
  · rintro ⟨i, h0, h1, rfl⟩
    refine ⟨rd_T62 L i, ?_, rfl⟩
    unfold rd_T62
    rw [List.getD_eq_getElem?_getD, List.getElem?_eq_getElem (show i.toNat < L.length by omega)]
    exact List.getElem_mem _
def Bad1 (Y Z M : List Int) (L : List S62) : Prop := Y.length ≠ M.length ∨ Z.length ≠ M.length ∨ (M.length : Int) > 32768 ∨ (L.length : Int) > 900000 ∨ (∃ i : Int, 0 ≤ i ∧ i < (M.length : Int) ∧ (rd Y i < 0 ∨ rd Z i < 0 ∨ rd M i < -1 ∨ rd M i > 1)) ∨ ∃ i : Int, 0 ≤ i ∧ i < (L.length : Int) ∧ ((rd_T62 L i).f0 < 0 ∨ (rd_T62 L i).f1 < 0 ∨ (rd_T62 L i).f0 ≥ (M.length : Int) ∨ (rd_T62 L i).f1 ≥ (M.length : Int))
def tot (Y Z M : List Int) : Int := Sm (fun i => rd Y i + rd Z i) M.length
open Classical in
noncomputable def chk (Y Z M : List Int) (L : List S62) : Int := if Bad1 Y Z M L then 1 else if tot Y Z M ≥ Inf then 18 else 0
theorem chk_bad {Y Z M : List Int} {L : List S62} (h : Bad1 Y Z M L) : chk Y Z M L = 1 := by unfold chk; rw [if_pos h]
theorem chk_good {Y Z M : List Int} {L : List S62} (h : ¬ Bad1 Y Z M L) : chk Y Z M L = if tot Y Z M ≥ Inf then 18 else 0 := by unfold chk; rw [if_neg h]
theorem Sm.upto {f : Nat → Int} {n q : Nat} (h : ∀ i, i < n → 0 ≤ f i) (hq : q ≤ n) : Sm f q ≤ Sm f n := by
  have : ∀ d, q + d ≤ n → Sm f q ≤ Sm f (q + d) := by
    intro d
    induction d with
    | zero => intro _; exact Int.le_refl _
    | succ d ih =>
      intro hd
      have := ih (by omega)
      have := h (q + d) (by omega)
      rw [show q + (d + 1) = (q + d) + 1 by omega, Sm]; omega
  have := this (n - q) (by omega)
  rw [show q + (n - q) = n by omega] at this
  exact this
theorem chk_zero {Y Z M : List Int} {L : List S62} (hM : M.length ≤ 1000) (hL : L.length ≤ 10000) (h : chk Y Z M L = 0) : (pb Y Z M L).V ∧ Y.length = M.length ∧ Z.length = M.length ∧ ¬ Bad1 Y Z M L := by
  have hb : ¬ Bad1 Y Z M L := fun hb => by rw [chk_bad hb] at h; exact absurd h (by decide)
  rw [chk_good hb] at h
  have ht : tot Y Z M < Inf := by
    by_cases ht : tot Y Z M ≥ Inf
    · rw [if_pos ht] at h; exact absurd h (by decide)
    · omega
  have hb' := hb
  unfold Bad1 at hb
  have e1 : Y.length = M.length := by by_cases e : Y.length = M.length; exact e; exact absurd (.inl e) hb
  have e2 : Z.length = M.length := by by_cases e : Z.length = M.length; exact e; exact absurd (.inr (.inl e)) hb
  have g : ∀ i : Int, 0 ≤ i → i < (M.length : Int) → ¬ (rd Y i < 0 ∨ rd Z i < 0 ∨ rd M i < -1 ∨ rd M i > 1) := fun i h0 h1 h2 => hb (.inr (.inr (.inr (.inr (.inl ⟨i, h0, h1, h2⟩)))))
  refine ⟨⟨hM, fun i hi => ?_, fun i hi => ?_, fun i hi => ?_, fun x hx => ?_, ?_, ht⟩, e1, e2, hb'⟩
  · have hi : i < M.length := hi
    have := g i (by omega) (by omega)
    show 0 ≤ rd Y i
    omega
  · have hi : i < M.length := hi
    have := g i (by omega) (by omega)
    show 0 ≤ rd Z i
    omega
  · have hi : i < M.length := hi
    have := g i (by omega) (by omega)
    show rd M i = -1 ∨ rd M i = 0 ∨ rd M i = 1
    omega
  · obtain ⟨i, h0, h1, rfl⟩ := pmem.1 hx
    have : ¬ ((rd_T62 L i).f0 < 0 ∨ (rd_T62 L i).f1 < 0 ∨ (rd_T62 L i).f0 ≥ (M.length : Int) ∨ (rd_T62 L i).f1 ≥ (M.length : Int)) := fun h2 => hb (.inr (.inr (.inr (.inr (.inr ⟨i, h0, h1, h2⟩)))))
    show 0 ≤ (rd_T62 L i).f0 ∧ (rd_T62 L i).f0 < (M.length : Int) ∧ 0 ≤ (rd_T62 L i).f1 ∧ (rd_T62 L i).f1 < (M.length : Int)
    omega
  · show (L.map (fun x => (x.f0, x.f1))).length ≤ 10000
    rw [List.length_map]; exact hL
theorem i64_range {x : Int} (h : (Lit.int .i64 x).wf = true) : -9223372036854775808 ≤ x ∧ x < 9223372036854775808 := by
  have := bounds_i64 h
  omega
theorem rd_lt {l : List Int} (h : ∀ x_ ∈ l, (Lit.int .i64 x_).wf = true) {i : Int} (h0 : 0 ≤ i) (h1 : i < (l.length : Int)) : rd l i < 9223372036854775808 := (i64_range (h _ (rd_mem h0 h1))).2
theorem num_add {a b : Int} (a0 : 0 ≤ a) (a1 : a < 9223372036854775808) (b0 : 0 ≤ b) (b1 : b < 9223372036854775808) : num_Add.f a b = some (if a + b < 9223372036854775808 then (a + b, 0) else (0, 18)) := by
  unfold num_Add.f
  by_cases h : a + b < 9223372036854775808
  · rw [wr (by omega) (by omega), if_pos h]
    by_cases hb : b > 0
    · rw [decide_eq_true hb, decide_eq_true (show a + b > a by omega), if_pos rfl]
    · rw [decide_eq_false hb, decide_eq_false (show ¬ a + b > a by omega), if_pos rfl]
  · have hw : wrap64 (a + b) = a + b - 18446744073709551616 := by unfold wrap64; omega
    rw [hw, if_neg h, decide_eq_true (show b > 0 by omega), decide_eq_false (show ¬ a + b - 18446744073709551616 > a by omega), if_neg (by decide)]
theorem sum_go {l : List Int} (hl : l.length ≤ 1000000) (h : ∀ i : Int, 0 ≤ i → i < (l.length : Int) → 0 ≤ rd l i ∧ rd l i < 9223372036854775808) : ∀ (z : Nat) (acc p : Int), 0 ≤ p → p + z = (l.length : Int) → acc = Sm (fun i => rd l i) p.toNat → acc < 9223372036854775808 →
    Ev (fun k => num_Sum.l0 k l acc p) (fun r => r = if Sm (fun i => rd l i) l.length < 9223372036854775808 then (Sm (fun i => rd l i) l.length, 0) else (0, 18)) := by
  have nn : ∀ i : Nat, i < l.length → 0 ≤ (fun i : Nat => rd l i) i := fun i hi => (h i (by omega) (by omega)).1
  intro z
  induction z with
  | zero =>
    intro acc p p0 pz e ha
    refine Ev.sub 1 ?_
    simp only [num_Sum.l0, if_neg (show ¬ p < (l.length : Int) by omega)]
    rw [show p.toNat = l.length by omega] at e
    exact Ev.ret (by rw [← e, if_pos ha])
  | succ z ih =>
    intro acc p p0 pz e ha
    have hp := h p p0 (by omega)
    have ha0 : 0 ≤ acc := by rw [e]; exact Sm.nonneg (fun i hi => nn i (by omega))
    have hS : Sm (fun i : Nat => rd l i) (p + 1).toNat = acc + rd l p := by
      rw [show (p + 1).toNat = p.toNat + 1 by omega, Sm, ← e, show ((p.toNat : Nat) : Int) = p by omega]
    have up := Sm.upto nn (show (p + 1).toNat ≤ l.length by omega)
    refine Ev.sub 1 ?_
    simp only [num_Sum.l0, if_pos (show p < (l.length : Int) by omega), if_pos p0, num_add ha0 ha hp.1 hp.2, Option.bind_some, wr (x := p + 1) (by omega) (by omega)]
    by_cases ho : acc + rd l p < 9223372036854775808
    · simp only [if_pos ho, if_true]
      exact ih _ (p + 1) (by omega) (by omega) hS.symm ho
    · simp only [if_neg ho, if_neg (show ¬ (18 : Int) = 0 by decide)]
      refine Ev.ret ?_
      rw [if_neg (by omega)]
section
variable {Y Z M : List Int} {L : List S62}
theorem chk0_go (hM : M.length ≤ 1000) (hL : L.length ≤ 10000) (e1 : Y.length = M.length) (e2 : Z.length = M.length) (wY : ∀ x_ ∈ Y, (Lit.int .i64 x_).wf = true) (wZ : ∀ x_ ∈ Z, (Lit.int .i64 x_).wf = true) (hg : ∀ i : Int, 0 ≤ i → i < (M.length : Int) → ¬ (rd Y i < 0 ∨ rd Z i < 0 ∨ rd M i < -1 ∨ rd M i > 1)) : ∀ (z : Nat) (p : Int), 0 ≤ p → p + z = (L.length : Int) → (∀ i : Int, 0 ≤ i → i < p → ¬ ((rd_T62 L i).f0 < 0 ∨ (rd_T62 L i).f1 < 0 ∨ (rd_T62 L i).f0 ≥ (M.length : Int) ∨ (rd_T62 L i).f1 ≥ (M.length : Int))) →
    Ev (fun k => cut_Check.l0 k Y Z M L p) (fun r => r = chk Y Z M L) := by
  have hI : Inf = 4611686018427387904 := rfl
  intro z
  induction z with
  | zero =>
    intro p p0 pz hp
    have gd : ¬ Bad1 Y Z M L := by
      rintro (h | h | h | h | ⟨i, i0, i1, h⟩ | ⟨i, i0, i1, h⟩)
      · exact h e1
      · exact h e2
      · omega
      · omega
      · exact hg i i0 i1 h
      · exact hp i i0 (by omega) h
    have ny : ∀ i : Nat, i < M.length → 0 ≤ rd Y i := fun i hi => by have := hg i (by omega) (by omega); omega
    have nz : ∀ i : Nat, i < M.length → 0 ≤ rd Z i := fun i hi => by have := hg i (by omega) (by omega); omega
    have sy : 0 ≤ Sm (fun i => rd Y i) M.length := Sm.nonneg ny
    have sz : 0 ≤ Sm (fun i => rd Z i) M.length := Sm.nonneg nz
    have st : tot Y Z M = Sm (fun i => rd Y i) M.length + Sm (fun i => rd Z i) M.length := Sm.add
    refine Ev.sub 1 ?_
    simp only [cut_Check.l0, if_neg (show ¬ p < (L.length : Int) by omega)]
    refine (sum_go (by omega) (fun i i0 i1 => ⟨by have := hg i i0 (by omega); omega, rd_lt wY i0 i1⟩) Y.length 0 0 (Int.le_refl 0) (by omega) rfl (by decide)).bind ?_
    rintro r rfl
    refine (sum_go (by omega) (fun i i0 i1 => ⟨by have := hg i i0 (by omega); omega, rd_lt wZ i0 i1⟩) Z.length 0 0 (Int.le_refl 0) (by omega) rfl (by decide)).bind ?_
    rintro r rfl
    rw [e1, e2, chk_good gd, st]
    generalize Sm (fun i => rd Y i) M.length = a at sy ⊢
    generalize Sm (fun i => rd Z i) M.length = b at sz ⊢
    have bad : Ev (fun k => cut_Check.j0 k true) (fun r => r = 18) := by
      refine Ev.sub 1 ?_
      simp only [cut_Check.j0, if_true]
      exact Ev.ret rfl
    by_cases h1 : a < 9223372036854775808
    · by_cases h2 : b < 9223372036854775808
      · simp only [if_pos h1, if_pos h2, num_add sy h1 sz h2, Option.bind_some, if_true]
        by_cases h3 : a + b < 9223372036854775808
        · simp only [if_pos h3, if_true]
          refine Ev.sub 1 ?_
          simp only [cut_Check.j0, decide_eq_true_eq]
          by_cases h4 : a + b ≥ 4611686018427387904
          · simp only [if_pos h4]; exact Ev.ret (by first | rfl | rw [if_pos (by omega)])
          · simp only [if_neg h4]; exact Ev.ret (by first | rfl | rw [if_neg (by omega)])
        · simp only [if_neg h3, if_neg (show ¬ (18 : Int) = 0 by decide)]
          rw [if_pos (by omega)]; exact bad
      · simp only [if_pos h1, if_neg h2, if_neg (show ¬ (18 : Int) = 0 by decide), if_true, num_add sy h1 (show (0 : Int) ≤ 0 by decide) (show (0 : Int) < 9223372036854775808 by decide), Option.bind_some]
        rw [if_pos (show a + b ≥ Inf by omega)]; exact bad
    · by_cases h2 : b < 9223372036854775808
      · simp only [if_neg h1, if_pos h2, if_neg (show ¬ (18 : Int) = 0 by decide), num_add (show (0 : Int) ≤ 0 by decide) (show (0 : Int) < 9223372036854775808 by decide) sz h2, Option.bind_some]
        rw [if_pos (show a + b ≥ Inf by omega)]; exact bad
      · simp only [if_neg h1, if_neg h2, if_neg (show ¬ (18 : Int) = 0 by decide), num_add (show (0 : Int) ≤ 0 by decide) (show (0 : Int) < 9223372036854775808 by decide) (show (0 : Int) ≤ 0 by decide) (show (0 : Int) < 9223372036854775808 by decide), Option.bind_some]
        rw [if_pos (show a + b ≥ Inf by omega)]; exact bad
  | succ z ih =>
    intro p p0 pz hp
    have pl : p < (L.length : Int) := by omega
    refine Ev.sub 1 ?_
    simp only [cut_Check.l0, if_pos pl, if_pos p0, wr (x := p + 1) (by omega) (by omega)]
    have mnlt : mn (rd_T62 L p).f0 (rd_T62 L p).f1 < 0 ↔ (rd_T62 L p).f0 < 0 ∨ (rd_T62 L p).f1 < 0 := by unfold mn; split <;> omega
    have mxge : mx (rd_T62 L p).f0 (rd_T62 L p).f1 ≥ (M.length : Int) ↔ (rd_T62 L p).f0 ≥ (M.length : Int) ∨ (rd_T62 L p).f1 ≥ (M.length : Int) := by unfold mx; split <;> omega
    have bad : ((rd_T62 L p).f0 < 0 ∨ (rd_T62 L p).f1 < 0 ∨ (rd_T62 L p).f0 ≥ (M.length : Int) ∨ (rd_T62 L p).f1 ≥ (M.length : Int)) → chk Y Z M L = 1 := fun h => chk_bad (.inr (.inr (.inr (.inr (.inr ⟨p, p0, pl, h⟩)))))
    by_cases h1 : mn (rd_T62 L p).f0 (rd_T62 L p).f1 < 0
    · simp only [if_pos h1]
      exact Ev.ret (bad (by have := mnlt.1 h1; omega)).symm
    simp only [if_neg h1]
    by_cases h2 : mx (rd_T62 L p).f0 (rd_T62 L p).f1 ≥ (M.length : Int)
    · simp only [if_pos h2]
      exact Ev.ret (bad (by have := mxge.1 h2; omega)).symm
    simp only [if_neg h2]
    refine ih (p + 1) (by omega) (by omega) (fun i i0 i1 => ?_)
    by_cases e : i < p
    · exact hp i i0 e
    · rw [show i = p by omega]
      rw [mnlt] at h1
      rw [mxge] at h2
      omega
theorem chk1_go (hM : M.length ≤ 1000) (hL : L.length ≤ 10000) (e1 : Y.length = M.length) (e2 : Z.length = M.length) (wY : ∀ x_ ∈ Y, (Lit.int .i64 x_).wf = true) (wZ : ∀ x_ ∈ Z, (Lit.int .i64 x_).wf = true) : ∀ (z : Nat) (p : Int), 0 ≤ p → p + z = (M.length : Int) → (∀ i : Int, 0 ≤ i → i < p → ¬ (rd Y i < 0 ∨ rd Z i < 0 ∨ rd M i < -1 ∨ rd M i > 1)) →
    Ev (fun k => cut_Check.l1 k Y Z M L p) (fun r => r = chk Y Z M L) := by
  intro z
  induction z with
  | zero =>
    intro p p0 pz hp
    refine Ev.sub 1 ?_
    simp only [cut_Check.l1, if_neg (show ¬ p < (M.length : Int) by omega)]
    exact chk0_go hM hL e1 e2 wY wZ (fun i i0 i1 => hp i i0 (by omega)) L.length 0 (Int.le_refl 0) (by omega) (fun i i0 i1 => by omega)
  | succ z ih =>
    intro p p0 pz hp
    have pl : p < (M.length : Int) := by omega
    refine Ev.sub 1 ?_
    simp only [cut_Check.l1, if_pos pl, if_pos p0, if_pos (show p < (Y.length : Int) by omega), if_pos (show p < (Z.length : Int) by omega), wr (x := p + 1) (by omega) (by omega)]
    have bad : (rd Y p < 0 ∨ rd Z p < 0 ∨ rd M p < -1 ∨ rd M p > 1) → chk Y Z M L = 1 := fun h => chk_bad (.inr (.inr (.inr (.inr (.inl ⟨p, p0, pl, h⟩)))))
    by_cases h1 : rd Y p < 0
    · simp only [if_pos h1]; exact Ev.ret (bad (by omega)).symm
    simp only [if_neg h1]
    by_cases h2 : rd Z p < 0
    · simp only [if_pos h2]; exact Ev.ret (bad (by omega)).symm
    simp only [if_neg h2]
    by_cases h3 : rd M p < -1
    · simp only [if_pos h3]; exact Ev.ret (bad (by omega)).symm
    simp only [if_neg h3]
    by_cases h4 : rd M p > 1
    · simp only [if_pos h4]; exact Ev.ret (bad (by omega)).symm
    simp only [if_neg h4]
    refine ih (p + 1) (by omega) (by omega) (fun i i0 i1 => ?_)
    by_cases e : i < p
    · exact hp i i0 e
    · rw [show i = p by omega]; omega
theorem check_ev (hM : M.length ≤ 1000) (hL : L.length ≤ 10000) (wY : ∀ x_ ∈ Y, (Lit.int .i64 x_).wf = true) (wZ : ∀ x_ ∈ Z, (Lit.int .i64 x_).wf = true) : Ev (fun k => cut_Check.f k Y Z M L) (fun r => r = chk Y Z M L) := by
  simp only [cut_Check.f]
  have bad : Bad1 Y Z M L → Ev (fun k => cut_Check.j1 k Y Z M L true) (fun r => r = chk Y Z M L) := fun h => by
    refine Ev.sub 1 ?_
    simp only [cut_Check.j1, if_true]
    exact Ev.ret (chk_bad h).symm
  by_cases h1 : (Y.length : Int) = (M.length : Int)
  · simp only [if_pos h1]
    by_cases h2 : (Z.length : Int) = (M.length : Int)
    · simp only [if_pos h2, if_neg (show ¬ (M.length : Int) > 32768 by omega), decide_eq_false (show ¬ (L.length : Int) > 900000 by omega)]
      refine Ev.sub 1 ?_
      simp only [cut_Check.j1, if_neg (show ¬ false = true by decide)]
      exact chk1_go hM hL (by omega) (by omega) wY wZ M.length 0 (Int.le_refl 0) (by omega) (fun i i0 i1 => by omega)
    · simp only [if_neg h2]; exact bad (.inr (.inl (by omega)))
  · simp only [if_neg h1]; exact bad (.inl (by omega))
def mF (l : List (Int × Int)) (i : Int) : Option Int := if mhas l i = true then some (mget 0 l i) else none
theorem mF_cons (p : Int × Int) (l : List (Int × Int)) (i : Int) : mF (p :: l) i = if p.1 = i then some p.2 else mF l i := by
  unfold mF
  rw [mhas, mget]
  by_cases h : p.1 = i
  · rw [if_pos h, if_pos h, if_pos h, if_pos rfl]
  · rw [if_neg h, if_neg h, if_neg h]
theorem mF_put (k v : Int) : ∀ l : List (Int × Int), mF (mput l k v) = fun x => if x = k then some v else mF l x := by
  intro l
  induction l with
  | nil =>
    funext x
    rw [mput, mF_cons]
    by_cases h : x = k
    · rw [if_pos h.symm, if_pos h]
    · rw [if_neg (fun e => h e.symm), if_neg h]
  | cons p l ih =>
    funext x
    rw [mput]
    by_cases h : p.1 = k
    · rw [if_pos h, mF_cons, mF_cons]
      (try dsimp only)
      by_cases hx : x = k
      · rw [if_pos hx, if_pos hx.symm]
      · rw [if_neg hx, if_neg (fun e => hx e.symm), if_neg (fun e => hx (e.symm.trans h))]
    · rw [if_neg h, mF_cons, ih, mF_cons]
      (try dsimp only)
      by_cases hx : x = k
      · rw [if_pos hx, if_neg (fun e => h (e.trans hx)), if_pos hx]
      · rw [if_neg hx, if_neg hx]
theorem mF_get {l : List (Int × Int)} {i p : Int} (h : mF l i = some p) : mget 0 l i = p := by
  unfold mF at h
  split at h
  · injection h
  · exact absurd h (by simp)
theorem mF_has {l : List (Int × Int)} {i : Int} : mhas l i = true ↔ mF l i ≠ none := by
  unfold mF
  split <;> simp_all
theorem rd3_set {l : List (List Int)} {i : Int} (v : List Int) (hi : 0 ≤ i) (hl : i < (l.length : Int)) {j : Int} (hj : 0 ≤ j) : rd_L3 (l.set i.toNat v) j = if j = i then v else rd_L3 l j := by
  unfold rd_L3
  rw [List.getD_eq_getElem?_getD, List.getD_eq_getElem?_getD, List.getElem?_set]
  by_cases h : j = i
  · rw [if_pos (by omega), if_pos h, if_pos (by omega)]; rfl
  · rw [if_neg (by omega), if_neg h]
theorem rd_cons0 (a : Int) (l : List Int) : rd (a :: l) 0 = a := rfl
theorem rd_consS (a : Int) (l : List Int) {t : Int} (h : 0 ≤ t) : rd (a :: l) (t + 1) = rd l t := by
  unfold rd
  rw [show (t + 1).toNat = t.toNat + 1 by omega]; rfl
theorem back_go {P : Pb} {l : List (Int × Int)} {lv : Int → Nat} {q : List Int} {ex : Int → Prop} (V : P.V) (h : WI P (mF l) lv q ex) : ∀ (z : Nat) (i : Int) (acc : List Int), mF l i ≠ none → lv i = z + 1 → acc.length + z ≤ 2000 → (acc = [] ∧ P.m i.toNat = 0 ∨ 1 ≤ acc.length ∧ (∀ t : Int, 0 ≤ t → t < (acc.length : Int) → 0 ≤ rd acc t ∧ rd acc t < (P.n : Int)) ∧ P.m (rd acc ((acc.length : Int) - 1)).toNat = 0 ∧ (∀ t : Int, 0 ≤ t → t + 1 < (acc.length : Int) → (rd acc t, rd acc (t + 1)) ∈ P.L) ∧ (i, rd acc 0) ∈ P.L) →
    Ev (fun k => cut_back.l0 k l i acc) (fun w => Wit P w ∧ w.length = acc.length + lv i) := by
  intro z
  induction z with
  | zero =>
    intro i acc hi hl hlen ha
    obtain ⟨p, hp⟩ := some_of hi
    obtain ⟨i0, i1, _, _, l3 | ⟨_, a2, _, a4⟩⟩ := h.key i p hp
    · obtain ⟨rfl, l31, l32⟩ := l3
      refine Ev.sub 1 ?_
      simp only [cut_back.l0, if_pos (show i ≥ 0 by omega), Option.bind_some, List.length_singleton, if_pos (show 1 + acc.length < 17592186044416 by omega), List.singleton_append, mF_get hp]
      refine Ev.sub 1 ?_
      simp only [cut_back.l0, if_neg (show ¬ (-1 : Int) ≥ 0 by decide), if_pos (show 0 < ((i :: acc).length : Int) by rw [List.length_cons]; omega)]
      refine Ev.ret ⟨⟨by rw [List.length_cons]; omega, fun t t0 t1 => ?_, by rw [rd_cons0]; exact l32, ?_, fun t t0 t1 => ?_⟩, by rw [List.length_cons]; omega⟩
      · by_cases e : t = 0
        · rw [e, rd_cons0]; exact ⟨i0, i1⟩
        · rw [show t = (t - 1) + 1 by omega, rd_consS _ _ (by omega)]
          rw [List.length_cons] at t1
          rcases ha with ⟨rfl, _⟩ | ⟨_, b, _⟩
          · simp at t1; omega
          · exact b (t - 1) (by omega) (by omega)
      · rcases ha with ⟨rfl, hm⟩ | ⟨b0, b, b1, _⟩
        · exact hm
        · rw [List.length_cons, show (((acc.length + 1 : Nat) : Int) - 1) = ((acc.length : Int) - 1) + 1 by omega, rd_consS _ _ (by omega)]; exact b1
      · rcases ha with ⟨rfl, hm⟩ | ⟨b0, b, b1, b2, b3⟩
        · simp at t1; omega
        · rw [List.length_cons] at t1
          by_cases e : t = 0
          · rw [e, rd_cons0, rd_consS _ _ (Int.le_refl 0)]; exact b3
          · rw [rd_consS _ _ t0, show t = (t - 1) + 1 by omega, rd_consS _ _ (by omega)]; exact b2 (t - 1) (by omega) (by omega)
    · obtain ⟨p', hp'⟩ := some_of a2
      have := (h.key p p' hp').2.2.1
      omega
  | succ z ih =>
    intro i acc hi hl hlen ha
    obtain ⟨p, hp⟩ := some_of hi
    obtain ⟨i0, i1, _, _, l3 | ⟨p0, a2, a3, a4⟩⟩ := h.key i p hp
    · omega
    · refine Ev.sub 1 ?_
      simp only [cut_back.l0, if_pos (show i ≥ 0 by omega), Option.bind_some, List.length_singleton, if_pos (show 1 + acc.length < 17592186044416 by omega), List.singleton_append, mF_get hp]
      refine (ih p (i :: acc) a2 (by omega) (by rw [List.length_cons]; omega) (.inr ⟨by rw [List.length_cons]; omega, fun t t0 t1 => ?_, ?_, fun t t0 t1 => ?_, by rw [rd_cons0]; exact a3⟩)).mono (fun w hw => ⟨hw.1, by rw [hw.2, List.length_cons]; omega⟩)
      · by_cases e : t = 0
        · rw [e, rd_cons0]; exact ⟨i0, i1⟩
        · rw [show t = (t - 1) + 1 by omega, rd_consS _ _ (by omega)]
          rw [List.length_cons] at t1
          rcases ha with ⟨rfl, _⟩ | ⟨_, b, _⟩
          · simp at t1; omega
          · exact b (t - 1) (by omega) (by omega)
      · rcases ha with ⟨rfl, hm⟩ | ⟨b0, b, b1, _⟩
        · exact hm
        · rw [List.length_cons, show (((acc.length + 1 : Nat) : Int) - 1) = ((acc.length : Int) - 1) + 1 by omega, rd_consS _ _ (by omega)]; exact b1
      · rcases ha with ⟨rfl, hm⟩ | ⟨b0, b, b1, b2, b3⟩
        · simp at t1; omega
        · rw [List.length_cons] at t1
          by_cases e : t = 0
          · rw [e, rd_cons0, rd_consS _ _ (Int.le_refl 0)]; exact b3
          · rw [rd_consS _ _ t0, show t = (t - 1) + 1 by omega, rd_consS _ _ (by omega)]; exact b2 (t - 1) (by omega) (by omega)
structure NXT (P : Pb) (T : List (List Int)) : Prop where
  l : T.length = P.n
  m : ∀ i k : Int, 0 ≤ i → i < (P.n : Int) → (k ∈ rd_L3 T i ↔ (i, k) ∈ P.L)
  c : ∀ i : Int, 0 ≤ i → (rd_L3 T i).length ≤ 10000
def WQ (P : Pb) (w : List Int) : Prop := (w = [] ∧ ∃ o, P.Keeps o) ∨ (Wit P w ∧ P.Short w.length)
theorem un_le (P : Pb) (F : Int → Option Int) : un P F ≤ (P.n : Int) := by
  have h1 := Sm.mono (f := fun i : Nat => if F (i : Int) = none then 1 else 0) (g := fun _ => 1) (n := P.n) (fun i hi => by (try dsimp only); split <;> omega)
  have h2 : ∀ n : Nat, Sm (fun _ => 1) n = n := fun n => by
    induction n with
    | zero => rfl
    | succ n ih => rw [Sm, ih]; omega
  rw [h2] at h1
  exact h1
theorem w_inner {T : List (List Int)} {q0 : List Int} {i : Int} {z : Int} (V : (pb Y Z M L).V) (hT : NXT (pb Y Z M L) T) (hq0 : rd q0 0 = i) (i0 : 0 ≤ i) (i1 : i < (M.length : Int)) (hm : rd M i ≠ 0) (hzz : z ≤ 100000) (H : ∀ (l : List (Int × Int)) (q : List Int) (lv : Int → Nat), WI (pb Y Z M L) (mF l) lv q (fun _ => False) → un (pb Y Z M L) (mF l) + q.length = z → Ev (fun k => cut_witness.l1 k M T l q) (WQ (pb Y Z M L))) : ∀ (d : Nat) (p : Int) (l : List (Int × Int)) (q : List Int) (lv : Int → Nat), 0 ≤ p → p + d = ((rd_L3 T i).length : Int) → WI (pb Y Z M L) (mF l) lv q (fun a => a = i) → mF l i ≠ none → (∀ a, a ∈ q → lv i ≤ lv a) → (∀ a, mF l a ≠ none → lv a ≤ lv i + 1) → (∀ j : Int, 0 ≤ j → j < p → mF l (rd (rd_L3 T i) j) ≠ none) → un (pb Y Z M L) (mF l) + q.length = z →
    Ev (fun k => cut_witness.l0 k M T q0 l q p) (WQ (pb Y Z M L)) := by
  have hc := hT.c i i0
  intro d
  induction d with
  | zero =>
    intro p l q lv p0 pd h hi hq hd hdone hz
    have u00 := un0 (pb Y Z M L) (mF l)
    refine Ev.sub 1 ?_
    simp only [cut_witness.l0, hq0, if_neg (show ¬ p < ((rd_L3 T i).length : Int) by omega)]
    refine H l q lv (h.shut (by rw [pm i0]; exact hm) (fun x hx hxi => ?_)) hz
    have hk : x.2 ∈ rd_L3 T i := (hT.m i x.2 i0 i1).2 (by rw [← hxi]; exact hx)
    obtain ⟨j, j0, j1, e⟩ := mem_rd hk
    have hf := hdone j j0 (by omega)
    rw [e] at hf
    exact ⟨hf, hd _ hf⟩
  | succ d ih =>
    intro p l q lv p0 pd h hi hq hd hdone hz
    have u00 := un0 (pb Y Z M L) (mF l)
    have pl : p < ((rd_L3 T i).length : Int) := by omega
    refine Ev.sub 1 ?_
    simp only [cut_witness.l0, hq0, if_pos pl, if_pos p0, wr (x := p + 1) (by omega) (by omega)]
    have hk := (hT.m i _ i0 i1).1 (rd_mem p0 pl)
    have step : ∀ l' : List (Int × Int), (∀ a, mF l a ≠ none → mF l' a ≠ none) → mF l' (rd (rd_L3 T i) p) ≠ none → ∀ j : Int, 0 ≤ j → j < p + 1 → mF l' (rd (rd_L3 T i) j) ≠ none := fun l' h1 h2 j j0 j1 => by
      by_cases e : j < p
      · exact h1 _ (hdone j j0 e)
      · rw [show j = p by omega]; exact h2
    by_cases hh : mhas l (rd (rd_L3 T i) p) = true
    · simp only [if_pos hh]
      exact ih (p + 1) l q lv (by omega) (by omega) h hi hq hd (step l (fun _ h => h) (mF_has.1 hh)) hz
    · simp only [if_neg hh, Option.bind_some, if_pos (show q.length < 17592186044416 by omega)]
      have hn : mF l (rd (rd_L3 T i) p) = none := by
        cases e : mF l (rd (rd_L3 T i) p) with
        | none => rfl
        | some v => exact absurd (mF_has.2 (by rw [e]; simp)) hh
      have hne : i ≠ rd (rd_L3 T i) p := fun e => hi (by rw [e]; exact hn)
      obtain ⟨w1, w2, w3⟩ := h.add V hi hn hk hq hd
      have hin := V.l _ hk
      have hu := un_set (v := i) hn hin.2.2.1 hin.2.2.2
      rw [← mF_put] at w1 hu
      have u0 := un0 (pb Y Z M L) (mF (mput l (rd (rd_L3 T i) p) i))
      have eput : ∀ a, mF (mput l (rd (rd_L3 T i) p) i) a = if a = rd (rd_L3 T i) p then some i else mF l a := fun a => by rw [mF_put]
      have keep : ∀ a, mF l a ≠ none → mF (mput l (rd (rd_L3 T i) p) i) a ≠ none := fun a ha => by
        rw [eput]; split
        · simp
        · exact ha
      refine ih (p + 1) _ _ (fun x => if x = rd (rd_L3 T i) p then lv i + 1 else lv x) (by omega) (by omega) w1 (keep i hi) (fun a ha => ?_) (fun a ha => ?_) (step _ keep (by rw [eput, if_pos rfl]; simp)) (by rw [hu, List.length_append, List.length_singleton]; omega)
      · rw [if_neg hne]
        exact w3 a ha
      · rw [if_neg hne]
        rw [eput] at ha
        exact w2 a ha
theorem w_outer {T : List (List Int)} (V : (pb Y Z M L).V) (hT : NXT (pb Y Z M L) T) : ∀ (z : Nat) (l : List (Int × Int)) (q : List Int) (lv : Int → Nat), WI (pb Y Z M L) (mF l) lv q (fun _ => False) → un (pb Y Z M L) (mF l) + q.length = z → z ≤ 100000 → Ev (fun k => cut_witness.l1 k M T l q) (WQ (pb Y Z M L)) := by
  have hTl : T.length = M.length := hT.l
  intro z
  induction z with
  | zero =>
    intro l q lv h hz hzz
    have := un0 (pb Y Z M L) (mF l)
    have hq : q = [] := List.eq_nil_of_length_eq_zero (by omega)
    subst hq
    refine Ev.sub 1 ?_
    simp only [cut_witness.l1, List.length_nil, if_neg (show ¬ (((0 : Nat) : Int) > 0) by decide)]
    exact Ev.ret (.inl ⟨rfl, _, h.keeps V⟩)
  | succ z ih =>
    intro l q lv h hz hzz
    have u0 := un0 (pb Y Z M L) (mF l)
    cases q with
    | nil =>
      refine Ev.sub 1 ?_
      simp only [cut_witness.l1, List.length_nil, if_neg (show ¬ (((0 : Nat) : Int) > 0) by decide)]
      exact Ev.ret (.inl ⟨rfl, _, h.keeps V⟩)
    | cons i q =>
      obtain ⟨p1, p2, p3, p4⟩ := h.pop
      obtain ⟨p, hp⟩ := some_of p2
      obtain ⟨i0, i1, l1, l2, _⟩ := h.key i p hp
      have i1 : i < (M.length : Int) := i1
      have hn : M.length ≤ 1000 := V.n2
      have l2 : (lv i : Int) ≤ (M.length : Int) - un (pb Y Z M L) (mF l) := l2
      rw [List.length_cons] at hz
      refine Ev.sub 1 ?_
      have c1 : ((i :: q).length : Int) > 0 := by rw [List.length_cons]; omega
      simp only [cut_witness.l1, if_pos c1, if_pos (show 0 < ((i :: q).length : Int) from c1), if_pos (show 1 ≤ ((i :: q).length : Int) from c1), if_pos (show 0 ≤ rd (i :: q) 0 from i0), if_pos (show rd (i :: q) 0 < (M.length : Int) from i1), Option.bind_some]
      by_cases hm : rd M i = 0
      · simp only [if_pos (show rd M (rd (i :: q) 0) = 0 from hm)]
        have hm' : (pb Y Z M L).m i.toNat = 0 := by rw [pm i0]; exact hm
        refine Flow.Ev.bind (F := fun k => cut_back.f k l i) (Q := fun w => Wit (pb Y Z M L) w ∧ w.length = lv i) ?_ (fun w hw => ?_)
        · simp only [cut_back.f]
          exact (back_go V h (lv i - 1) i [] p2 (by omega) (by simp; omega) (.inl ⟨rfl, hm'⟩)).mono (fun w hw => ⟨hw.1, by rw [hw.2]; simp⟩)
        · simp only [if_pos (show 0 < (w.length : Int) by have := hw.1.l; omega)]
          exact Ev.ret (.inr ⟨hw.1, by rw [hw.2]; exact h.found hm'⟩)
      · simp only [if_neg (show ¬ rd M (rd (i :: q) 0) = 0 from hm), if_pos (show rd (i :: q) 0 < (T.length : Int) by rw [rd_cons0]; omega)]
        exact w_inner (z := (z : Int)) V hT (rd_cons0 i q) i0 i1 hm (by omega) (fun l' q' lv' h' hz' => ih l' q' lv' h' hz' (by omega)) (rd_L3 T i).length 0 l q lv (Int.le_refl 0) (by omega) p1 p2 p3 p4 (fun j j0 j1 => by omega) (by omega)
theorem w_roots {T : List (List Int)} (V : (pb Y Z M L).V) (hT : NXT (pb Y Z M L) T) : ∀ (d : Nat) (p : Int) (l : List (Int × Int)) (q : List Int), 0 ≤ p → p + d = (M.length : Int) → (∀ i v, mF l i = some v ↔ (0 ≤ i ∧ i < p ∧ rd M i = 1) ∧ v = -1) → (∀ i, i ∈ q ↔ 0 ≤ i ∧ i < p ∧ rd M i = 1) → (q.length : Int) ≤ p →
    Ev (fun k => cut_witness.l2 k M T l q p) (WQ (pb Y Z M L)) := by
  have hn : M.length ≤ 1000 := V.n2
  intro d
  induction d with
  | zero =>
    intro p l q p0 pd hl hq hlen
    have pe : p = (M.length : Int) := by omega
    refine Ev.sub 1 ?_
    simp only [cut_witness.l2, if_neg (show ¬ p < (M.length : Int) by omega)]
    have ul := un_le (pb Y Z M L) (mF l)
    have u0 := un0 (pb Y Z M L) (mF l)
    have ul : un (pb Y Z M L) (mF l) ≤ (M.length : Int) := ul
    refine w_outer V hT (un (pb Y Z M L) (mF l) + q.length).toNat l q (fun _ => 1) ⟨fun i v hi => ?_, fun i i0 i1 hm => ⟨?_, rfl⟩, fun i hi => ?_, ?_, fun i a _ _ => by (try dsimp only); omega, fun i hi hn _ => ?_⟩ (by omega) (by omega)
    · obtain ⟨⟨a, b, c⟩, e⟩ := (hl i v).1 hi
      refine ⟨a, by show i < (M.length : Int); omega, Nat.le_refl _, ?_, .inl ⟨e, rfl, by rw [pm a]; exact c⟩⟩
      have := Sm.less (f := fun i : Nat => if mF l (i : Int) = none then 1 else 0) (g := fun _ => 1) (n := (pb Y Z M L).n) (e := i.toNat) (fun i hi => by (try dsimp only); split <;> omega) (show i.toNat < M.length by omega) (by (try dsimp only); rw [show ((i.toNat : Nat) : Int) = i by omega, hi]; simp)
      have h2 : ∀ n : Nat, Sm (fun _ => 1) n = n := fun n => by
        induction n with
        | zero => rfl
        | succ n ih => rw [Sm, ih]; omega
      rw [h2] at this
      have this : un (pb Y Z M L) (mF l) + 1 ≤ ((pb Y Z M L).n : Int) := this
      (try dsimp only)
      omega
    · rw [pm i0] at hm
      have := (hl i (-1)).2 ⟨⟨i0, by have : i < (M.length : Int) := i1; omega, hm⟩, rfl⟩
      rw [this]; simp
    · rw [(hl i (-1)).2 ⟨(hq i).1 hi, rfl⟩]; simp
    · exact List.pairwise_of_forall (fun _ _ => Nat.le_refl _)
    · obtain ⟨v, hv⟩ := some_of hi
      exact absurd ((hq i).2 ((hl i v).1 hv).1) hn
  | succ d ih =>
    intro p l q p0 pd hl hq hlen
    have pl : p < (M.length : Int) := by omega
    refine Ev.sub 1 ?_
    simp only [cut_witness.l2, if_pos pl, if_pos p0, wr (x := p + 1) (by omega) (by omega)]
    by_cases hm : rd M p = 1
    · simp only [if_pos hm, Option.bind_some, if_pos (show q.length < 17592186044416 by omega)]
      refine ih (p + 1) _ _ (by omega) (by omega) (fun i v => ?_) (fun i => ?_) (by rw [List.length_append, List.length_singleton]; omega)
      · rw [mF_put]
        dsimp only
        by_cases e : i = p
        · rw [if_pos e, e]
          constructor
          · intro h; injection h with h; exact ⟨⟨p0, by omega, hm⟩, h.symm⟩
          · rintro ⟨_, h⟩; rw [h]
        · rw [if_neg e, hl]
          constructor
          · rintro ⟨⟨a, b, c⟩, h⟩; exact ⟨⟨a, by omega, c⟩, h⟩
          · rintro ⟨⟨a, b, c⟩, h⟩; exact ⟨⟨a, by omega, c⟩, h⟩
      · rw [List.mem_append, hq, List.mem_singleton]
        constructor
        · rintro (⟨a, b, c⟩ | rfl)
          · exact ⟨a, by omega, c⟩
          · exact ⟨p0, by omega, hm⟩
        · rintro ⟨a, b, c⟩
          by_cases e : i = p
          · exact .inr e
          · exact .inl ⟨a, by omega, c⟩
    · simp only [if_neg hm]
      refine ih (p + 1) l q (by omega) (by omega) (fun i v => ?_) (fun i => ?_) (by omega)
      · rw [hl]
        constructor
        · rintro ⟨⟨a, b, c⟩, h⟩; exact ⟨⟨a, by omega, c⟩, h⟩
        · rintro ⟨⟨a, b, c⟩, h⟩
          by_cases e : i = p
          · exact absurd (e ▸ c) hm
          · exact ⟨⟨a, by omega, c⟩, h⟩
      · rw [hq]
        constructor
        · rintro ⟨a, b, c⟩; exact ⟨a, by omega, c⟩
        · rintro ⟨a, b, c⟩
          by_cases e : i = p
          · exact absurd (e ▸ c) hm
          · exact ⟨a, by omega, c⟩
theorem w_next (V : (pb Y Z M L).V) (hL : L.length ≤ 10000) : ∀ (d : Nat) (p : Int) (T : List (List Int)), 0 ≤ p → p + d = (L.length : Int) → T.length = M.length → (∀ i k : Int, 0 ≤ i → i < (M.length : Int) → (k ∈ rd_L3 T i ↔ ∃ j : Int, 0 ≤ j ∧ j < p ∧ (rd_T62 L j).f0 = i ∧ (rd_T62 L j).f1 = k)) → (∀ i : Int, 0 ≤ i → ((rd_L3 T i).length : Int) ≤ p) →
    Ev (fun k => cut_witness.l3 k M L T p) (WQ (pb Y Z M L)) := by
  have hn : M.length ≤ 1000 := V.n2
  intro d
  induction d with
  | zero =>
    intro p T p0 pd hl hm hc
    refine Ev.sub 1 ?_
    simp only [cut_witness.l3, if_neg (show ¬ p < (L.length : Int) by omega)]
    refine w_roots V ⟨hl, fun i k i0 i1 => ?_, fun i i0 => by have := hc i i0; omega⟩ M.length 0 [] [] (Int.le_refl 0) (by omega) (fun i v => ?_) (fun i => ?_) (by simp)
    · rw [hm i k i0 i1, pmem]
      constructor
      · rintro ⟨j, j0, j1, rfl, rfl⟩; exact ⟨j, j0, by omega, rfl⟩
      · rintro ⟨j, j0, j1, e⟩
        injection e with e1 e2
        exact ⟨j, j0, by omega, e1.symm, e2.symm⟩
    · constructor
      · intro h; exact absurd h (by simp [mF, mhas])
      · rintro ⟨⟨a, b, _⟩, _⟩; omega
    · constructor
      · intro h; exact absurd h (by simp)
      · rintro ⟨a, b, _⟩; omega
  | succ d ih =>
    intro p T p0 pd hl hm hc
    have pl : p < (L.length : Int) := by omega
    have hin := V.l _ (pmem.2 ⟨p, p0, pl, rfl⟩)
    dsimp only at hin
    obtain ⟨a0, a1, b0, b1⟩ := hin
    have a1 : (rd_T62 L p).f0 < (M.length : Int) := a1
    have hcl := hc _ a0
    refine Ev.sub 1 ?_
    simp only [cut_witness.l3, if_pos pl, if_pos p0, wr (x := p + 1) (by omega) (by omega), if_pos (show 0 < (T.length : Int) by omega), if_pos a0, if_pos (show (rd_T62 L p).f0 < (T.length : Int) by omega), if_pos (show (rd_L3 T (rd_T62 L p).f0).length < 17592186044416 by omega), Option.bind_some]
    refine ih (p + 1) _ (by omega) (by omega) (by rw [List.length_set]; exact hl) (fun i k i0 i1 => ?_) (fun i i0 => ?_)
    · rw [rd3_set _ a0 (by omega) i0]
      by_cases e : i = (rd_T62 L p).f0
      · rw [if_pos e, List.mem_append, hm _ k a0 (by omega), List.mem_singleton]
        constructor
        · rintro (⟨j, j0, j1, h1, h2⟩ | h)
          · exact ⟨j, j0, by omega, by rw [h1, e], h2⟩
          · exact ⟨p, p0, by omega, e.symm, h.symm⟩
        · rintro ⟨j, j0, j1, h1, h2⟩
          by_cases ej : j = p
          · rw [ej] at h2; exact .inr h2.symm
          · exact .inl ⟨j, j0, by omega, by rw [h1, e], h2⟩
      · rw [if_neg e, hm i k i0 i1]
        constructor
        · rintro ⟨j, j0, j1, h1, h2⟩; exact ⟨j, j0, by omega, h1, h2⟩
        · rintro ⟨j, j0, j1, h1, h2⟩
          by_cases ej : j = p
          · rw [ej] at h1; exact absurd h1.symm e
          · exact ⟨j, j0, by omega, h1, h2⟩
    · rw [rd3_set _ a0 (by omega) i0]
      by_cases e : i = (rd_T62 L p).f0
      · rw [if_pos e, List.length_append, List.length_singleton]; omega
      · rw [if_neg e]; have := hc i i0; omega
theorem witness_ev (V : (pb Y Z M L).V) (hL : L.length ≤ 10000) : Ev (fun k => cut_witness.f k Y Z M L) (WQ (pb Y Z M L)) := by
  have hn : M.length ≤ 1000 := V.n2
  simp only [cut_witness.f, if_pos (show 0 ≤ (M.length : Int) by omega), Int.toNat_natCast, if_pos (show M.length * 24 ≤ 281474976710656 by omega), Option.bind_some]
  have e : ∀ i : Int, rd_L3 (List.replicate M.length []) i = [] := fun i => by
    unfold rd_L3
    rw [List.getD_eq_getElem?_getD, List.getElem?_replicate]
    split <;> rfl
  refine w_next V hL L.length 0 _ (Int.le_refl 0) (by omega) List.length_replicate (fun i k i0 i1 => ?_) (fun i i0 => by rw [e]; simp)
  rw [e]
  constructor
  · intro h; exact absurd h (by simp)
  · rintro ⟨j, j0, j1, _⟩; omega
def NS (P : Pb) (x : Option Go.Proofs.Ytdkbmchbkkhpoaa.PMfr.S74) : Prop := ∃ S, x = some S ∧ NetI ((P.n : Int) + 2) P.net S
theorem n_imps (V : (pb Y Z M L).V) (hL : L.length ≤ 10000) : ∀ (d : Nat) (p : Int) (E : List Ed) (S : Go.Proofs.Ytdkbmchbkkhpoaa.PMfr.S74), 0 ≤ p → p + d = (L.length : Int) → NetI ((M.length : Int) + 2) E S → (E.length : Int) ≤ 2000 + p → ims ((L.drop p.toNat).map (fun x => (x.f0, x.f1))) E = (pb Y Z M L).net →
    Ev (fun k => cut_net.l0 k L (some S) p) (NS (pb Y Z M L)) := by
  have hI : Inf = 4611686018427387904 := rfl
  have hn : M.length ≤ 1000 := V.n2
  intro d
  induction d with
  | zero =>
    intro p E S p0 pd hS hE e
    refine Ev.sub 1 ?_
    simp only [cut_net.l0, if_neg (show ¬ p < (L.length : Int) by omega)]
    rw [List.drop_eq_nil_of_le (by omega)] at e
    exact Ev.ret ⟨S, rfl, by have e : E = _ := e; rw [← e]; exact hS⟩
  | succ d ih =>
    intro p E S p0 pd hS hE e
    have pl : p < (L.length : Int) := by omega
    have hin := V.l _ (pmem.2 ⟨p, p0, pl, rfl⟩)
    dsimp only at hin
    obtain ⟨a0, a1, b0, b1⟩ := hin
    have a1 : (rd_T62 L p).f0 < (M.length : Int) := a1
    have b1 : (rd_T62 L p).f1 < (M.length : Int) := b1
    have hdrop : L.drop p.toNat = rd_T62 L p :: L.drop (p + 1).toNat := by
      rw [show (p + 1).toNat = p.toNat + 1 by omega, List.drop_eq_getElem_cons (by omega)]
      congr 1
      unfold rd_T62
      rw [List.getD_eq_getElem?_getD, List.getElem?_eq_getElem (by omega)]; rfl
    rw [hdrop, List.map_cons, ims, im1] at e
    dsimp only at e
    refine Ev.sub 1 ?_
    simp only [cut_net.l0, if_pos pl, if_pos p0, wr (x := p + 1) (by omega) (by omega)]
    by_cases h : (rd_T62 L p).f0 = (rd_T62 L p).f1
    · rw [if_neg (fun hh => hh h)] at e
      simp only [if_pos h]
      exact ih (p + 1) E S (by omega) (by omega) hS (by omega) e
    · rw [if_pos h] at e
      simp only [if_neg h, wr (x := (rd_T62 L p).f0 + 2) (by omega) (by omega), wr (x := (rd_T62 L p).f1 + 2) (by omega) (by omega)]
      refine (add_ev hS (by omega) ⟨(rd_T62 L p).f0 + 2, (rd_T62 L p).f1 + 2, Inf⟩).bind ?_
      rintro ⟨r1, r2, r3⟩ ⟨_, h2, _⟩
      obtain ⟨_, S', hx, hS', _⟩ := h2 (addE_fin (by unfold badE; dsimp only; omega) (.inl rfl))
      dsimp only at hx ⊢
      subst hx
      exact ih (p + 1) _ S' (by omega) (by omega) hS' (by rw [List.length_append, List.length_singleton]; omega) e
theorem n_things (V : (pb Y Z M L).V) (hL : L.length ≤ 10000) (e1 : Y.length = M.length) (e2 : Z.length = M.length) : ∀ (d : Nat) (p : Int) (S : Go.Proofs.Ytdkbmchbkkhpoaa.PMfr.S74), 0 ≤ p → p + d = (M.length : Int) → NetI ((M.length : Int) + 2) ((pb Y Z M L).th p.toNat) S →
    Ev (fun k => cut_net.l1 k Y Z M L (some S) p) (NS (pb Y Z M L)) := by
  have hI : Inf = 4611686018427387904 := rfl
  have hn : M.length ≤ 1000 := V.n2
  intro d
  induction d with
  | zero =>
    intro p S p0 pd hS
    refine Ev.sub 1 ?_
    simp only [cut_net.l1, if_neg (show ¬ p < (M.length : Int) by omega)]
    have hl := len_th (P := pb Y Z M L) p.toNat
    refine n_imps V hL L.length 0 _ S (Int.le_refl 0) (by omega) hS (by omega) ?_
    rw [show p.toNat = (pb Y Z M L).n by show p.toNat = M.length; omega]
    rfl
  | succ d ih =>
    intro p S p0 pd hS
    have pl : p < (M.length : Int) := by omega
    have pn : p.toNat < (pb Y Z M L).n := by show p.toNat < M.length; omega
    have pc : ((p.toNat : Nat) : Int) = p := by omega
    have hl := len_th (P := pb Y Z M L) p.toNat
    have hl1 := len_e1 (P := pb Y Z M L) p.toNat ((pb Y Z M L).th p.toNat)
    have zc : (pb Y Z M L).zc p.toNat = if rd M p = 1 then Inf else rd Z p := by
      show (if rd M ((p.toNat : Nat) : Int) = 1 then Inf else rd Z ((p.toNat : Nat) : Int)) = _
      rw [pc]
    have yc : (pb Y Z M L).yc p.toNat = if rd M p = 0 then Inf else rd Y p := by
      show (if rd M ((p.toNat : Nat) : Int) = 0 then Inf else rd Y ((p.toNat : Nat) : Int)) = _
      rw [pc]
    have two : ∀ S : Go.Proofs.Ytdkbmchbkkhpoaa.PMfr.S74, NetI ((M.length : Int) + 2) ((pb Y Z M L).e1 p.toNat ((pb Y Z M L).th p.toNat)) S → Ev (fun k => cut_net.j0 k Y Z M L p ((pb Y Z M L).yc p.toNat) (some S)) (NS (pb Y Z M L)) := by
      intro S hS
      have next : ∀ S : Go.Proofs.Ytdkbmchbkkhpoaa.PMfr.S74, NetI ((M.length : Int) + 2) ((pb Y Z M L).e2 p.toNat ((pb Y Z M L).e1 p.toNat ((pb Y Z M L).th p.toNat))) S → Ev (fun k => cut_net.l1 k Y Z M L (some S) (p + 1)) (NS (pb Y Z M L)) := fun S hS => ih (p + 1) S (by omega) (by omega) (by rw [show (p + 1).toNat = p.toNat + 1 by omega, Pb.th]; exact hS)
      refine Ev.sub 1 ?_
      simp only [cut_net.j0, wr (x := p + 1) (by omega) (by omega), wr (x := p + 2) (by omega) (by omega)]
      by_cases h : 0 < (pb Y Z M L).yc p.toNat
      · simp only [if_pos (show (pb Y Z M L).yc p.toNat > 0 from h)]
        have hadd := add_e2 V pn
        rw [pc] at hadd
        refine (add_ev hS (by omega) ⟨p + 2, 1, (pb Y Z M L).yc p.toNat⟩).bind ?_
        rintro ⟨r1, r2, r3⟩ ⟨_, h2, _⟩
        obtain ⟨_, S', hx, hS', _⟩ := h2 hadd
        dsimp only at hx ⊢
        subst hx
        refine next S' ?_
        unfold Pb.e2
        rw [if_pos h, pc]; exact hS'
      · simp only [if_neg (show ¬ (pb Y Z M L).yc p.toNat > 0 from h)]
        refine next S ?_
        unfold Pb.e2
        rw [if_neg h]; exact hS
    have one : Ev (fun k => cut_net.j1 k Y Z M L (some S) p ((pb Y Z M L).yc p.toNat) ((pb Y Z M L).zc p.toNat)) (NS (pb Y Z M L)) := by
      refine Ev.sub 1 ?_
      simp only [cut_net.j1, wr (x := p + 2) (by omega) (by omega)]
      by_cases h : 0 < (pb Y Z M L).zc p.toNat
      · simp only [if_pos (show (pb Y Z M L).zc p.toNat > 0 from h)]
        have hadd := add_e1 V pn
        rw [pc] at hadd
        refine (add_ev hS (by omega) ⟨0, p + 2, (pb Y Z M L).zc p.toNat⟩).bind ?_
        rintro ⟨r1, r2, r3⟩ ⟨_, h2, _⟩
        obtain ⟨_, S', hx, hS', _⟩ := h2 hadd
        dsimp only at hx ⊢
        subst hx
        refine two S' ?_
        unfold Pb.e1
        rw [if_pos h, pc]; exact hS'
      · simp only [if_neg (show ¬ (pb Y Z M L).zc p.toNat > 0 from h)]
        refine two S ?_
        unfold Pb.e1
        rw [if_neg h]; exact hS
    refine Ev.sub 1 ?_
    simp only [cut_net.l1, if_pos pl, if_pos p0, if_pos (show p < (Y.length : Int) by omega), if_pos (show p < (Z.length : Int) by omega)]
    by_cases h1 : rd M p = 1
    · rw [if_pos h1] at zc
      rw [if_neg (by omega)] at yc
      simp only [if_pos h1]
      rw [← yc, ← hI, ← zc]; exact one
    · rw [if_neg h1] at zc
      by_cases h0 : rd M p = 0
      · rw [if_pos h0] at yc
        simp only [if_neg h1, if_pos h0]
        rw [← zc, ← hI, ← yc]; exact one
      · rw [if_neg h0] at yc
        simp only [if_neg h1, if_neg h0]
        rw [← zc, ← yc]; exact one
theorem new_ev {n : Int} (h1 : 1 ≤ n) (h2 : n ≤ 65536) : ∃ S, maxflow_New.f n = some (some S) ∧ NetI n [] S := by
  have e : maxflow_New.f n = some (some ⟨[], [], List.replicate n.toNat [], 0, false, [], [], ⟨0⟩⟩) := by
    unfold maxflow_New.f Go.Proofs.Ytdkbmchbkkhpoaa.PMfr.New.f Go.Proofs.Ytdkbmchbkkhpoaa.PMfr.New.j0
    rw [if_neg (by omega), decide_eq_false (by omega), if_neg (by decide), if_pos (by omega), if_pos (by omega)]
    rfl
  refine ⟨_, e, ⟨⟨h1, h2, by simp, fun e he => absurd he (by simp), by decide⟩, ⟨rfl, fun j a b => by simp at b; omega⟩, rfl, ⟨by rw [List.length_replicate]; omega, fun v j a b => ?_, fun v => ?_⟩, rfl⟩⟩
  · have : Go.Proofs.Ytdkbmchbkkhpoaa.PMfr.rd_L4 (List.replicate n.toNat []) v = [] := by
      unfold Go.Proofs.Ytdkbmchbkkhpoaa.PMfr.rd_L4
      rw [List.getD_eq_getElem?_getD, List.getElem?_replicate]
      split <;> rfl
    show j ∈ Go.Proofs.Ytdkbmchbkkhpoaa.PMfr.rd_L4 (List.replicate n.toNat []) v ↔ _
    rw [this]
    exact ⟨fun h => absurd h (by simp), fun h => by have := h.2.1; simp at this; omega⟩
  · have : Go.Proofs.Ytdkbmchbkkhpoaa.PMfr.rd_L4 (List.replicate n.toNat []) v = [] := by
      unfold Go.Proofs.Ytdkbmchbkkhpoaa.PMfr.rd_L4
      rw [List.getD_eq_getElem?_getD, List.getElem?_replicate]
      split <;> rfl
    show (Go.Proofs.Ytdkbmchbkkhpoaa.PMfr.rd_L4 (List.replicate n.toNat []) v).length ≤ _
    rw [this]; exact Nat.zero_le _
theorem net_ev (V : (pb Y Z M L).V) (hL : L.length ≤ 10000) (e1 : Y.length = M.length) (e2 : Z.length = M.length) : Ev (fun k => cut_net.f k Y Z M L) (NS (pb Y Z M L)) := by
  have hn : M.length ≤ 1000 := V.n2
  obtain ⟨S, e, hS⟩ := new_ev (n := (M.length : Int) + 2) (by omega) (by omega)
  simp only [cut_net.f, wr (x := (M.length : Int) + 2) (by omega) (by omega), e, Option.bind_some]
  exact n_things V hL e1 e2 M.length 0 S (Int.le_refl 0) (by omega) hS
def SolQ (Y Z M : List Int) (L : List S62) (r : List Bool × Int × List Int × Int) : Prop :=
  (chk Y Z M L ≠ 0 → r = ([], 0, [], chk Y Z M L)) ∧ (chk Y Z M L = 0 → (r.1 = [] ∧ r.2.1 = 0 ∧ r.2.2.2 = 22 ∧ Wit (pb Y Z M L) r.2.2.1 ∧ (pb Y Z M L).Short r.2.2.1.length) ∨ (r.2.2.1 = [] ∧ r.2.2.2 = 0 ∧ r.1.length = M.length ∧ (pb Y Z M L).Least (fun i => rdOf false r.1 i) r.2.1))
theorem cost_go (V : (pb Y Z M L).V) (e1 : Y.length = M.length) (e2 : Z.length = M.length) {B : List Bool} (hB : B.length = M.length) : ∀ (d : Nat) (acc p : Int), 0 ≤ p → p + d = (M.length : Int) → acc = Sm (fun i => if rdOf false B i = true then rd Y i else rd Z i) p.toNat →
    Ev (fun k => cut_Solve.l0 k Y Z acc p B) (fun r => r = (B, (pb Y Z M L).cost (fun i => rdOf false B i), [], 0)) := by
  have hI : Inf = 4611686018427387904 := rfl
  have hn : M.length ≤ 1000 := V.n2
  have nn : ∀ i : Nat, i < M.length → 0 ≤ (fun i : Nat => if rdOf false B i = true then rd Y i else rd Z i) i := fun i hi => by
    have a : 0 ≤ rd Y i := V.y0 i hi
    have b : 0 ≤ rd Z i := V.z0 i hi
    (try dsimp only); split <;> omega
  have le : (pb Y Z M L).cost (fun i => rdOf false B i) < Inf := by
    refine Int.lt_of_le_of_lt (Sm.mono (fun i hi => ?_)) V.s
    have a := V.y0 i hi
    have b := V.z0 i hi
    (try dsimp only); split <;> omega
  have le : Sm (fun i => if rdOf false B i = true then rd Y i else rd Z i) M.length < Inf := le
  intro d
  induction d with
  | zero =>
    intro acc p p0 pd e
    refine Ev.sub 1 ?_
    simp only [cut_Solve.l0, if_neg (show ¬ p < (B.length : Int) by omega)]
    rw [show p.toNat = M.length by omega] at e
    exact Ev.ret (by rw [e]; rfl)
  | succ d ih =>
    intro acc p p0 pd e
    have up := Sm.upto nn (show (p + 1).toNat ≤ M.length by omega)
    have lo := Sm.nonneg (f := fun i : Nat => if rdOf false B i = true then rd Y i else rd Z i) (n := (p + 1).toNat) (fun i hi => nn i (by omega))
    have hS : Sm (fun i : Nat => if rdOf false B i = true then rd Y i else rd Z i) (p + 1).toNat = acc + if rdOf false B p = true then rd Y p else rd Z p := by
      rw [show (p + 1).toNat = p.toNat + 1 by omega, Sm, ← e]
      (try dsimp only)
      rw [show ((p.toNat : Nat) : Int) = p by omega]
    refine Ev.sub 1 ?_
    simp only [cut_Solve.l0, if_pos (show p < (B.length : Int) by omega), if_pos p0, if_pos (show p < (Y.length : Int) by omega), if_pos (show p < (Z.length : Int) by omega), wr (x := p + 1) (by omega) (by omega)]
    by_cases h : rdOf false B p = true
    · rw [if_pos h] at hS
      simp only [if_pos h, wr (x := acc + rd Y p) (by omega) (by omega)]
      exact ih _ (p + 1) (by omega) (by omega) hS.symm
    · rw [if_neg h] at hS
      simp only [if_neg h, wr (x := acc + rd Z p) (by omega) (by omega)]
      exact ih _ (p + 1) (by omega) (by omega) hS.symm
theorem least_ext {P : Pb} {o o' : Nat → Bool} {c : Int} (h : P.Least o c) (V : P.V) (e : ∀ i, i < P.n → o i = o' i) : P.Least o' c := by
  refine ⟨⟨fun i hi => by rw [← e i hi]; exact h.1.1 i hi, fun x hx => ?_⟩, ?_, fun o2 h2 => ⟨(h.2.2 o2 h2).1, fun hc i hi ho => (h.2.2 o2 h2).2 hc i hi (by rw [e i hi]; exact ho)⟩⟩
  · have := V.l x hx
    rw [← e _ (by omega), ← e _ (by omega)]; exact h.1.2 x hx
  · rw [← h.2.1]
    exact Sm.congr (fun i hi => by rw [e i hi])
theorem solve_ev (hM : M.length ≤ 1000) (hL : L.length ≤ 10000) (wY : ∀ x_ ∈ Y, (Lit.int .i64 x_).wf = true) (wZ : ∀ x_ ∈ Z, (Lit.int .i64 x_).wf = true) : Ev (fun k => cut_Solve.f k Y Z M L) (SolQ Y Z M L) := by
  have hI : Inf = 4611686018427387904 := rfl
  simp only [cut_Solve.f]
  refine (check_ev hM hL wY wZ).bind ?_
  rintro c rfl
  by_cases hc : chk Y Z M L = 0
  · obtain ⟨V, e1, e2, _⟩ := chk_zero hM hL hc
    simp only [if_pos hc]
    refine (witness_ev V hL).bind ?_
    rintro w (⟨rfl, o, ho⟩ | ⟨hw, hs⟩)
    · simp only [List.length_nil, if_neg (show ¬ 0 < ((0 : Nat) : Int) by decide)]
      refine (net_ev V hL e1 e2).bind ?_
      rintro x ⟨S, rfl, hS⟩
      have hS : NetI ((M.length : Int) + 2) (pb Y Z M L).net S := hS
      refine (max_ev2 hS 0 1).bind ?_
      rintro ⟨v, er, x⟩ ⟨S', hx, hS', _, _, b3⟩
      have hE : ¬ Endl (pb Y Z M L).net 0 1 := fun h => no_cut h (keeps_cut V ho).1
      obtain ⟨r0, _, m1, ga, hk, L1, bi, hL1, _⟩ := b3 (by unfold badP; omega) hE
      dsimp only at hx r0 m1 hk ⊢
      subst hx r0
      simp only [if_true]
      refine (side_ev hS' ga (by omega) (by omega)).bind ?_
      rintro ⟨sd, x⟩ ⟨L2, zz, bi2, hsd, _, hx⟩
      dsimp only at hsd hx ⊢
      subst hsd
      have hl2 := bi2.l
      have hlen : (L2.map (fun x => decide (x > 0))).length = L2.length := List.length_map _
      have htot : v < Inf := by
        obtain ⟨C, hC, e⟩ := m1.2
        rw [← e]
        have := CutV.fs hS.g hC.2.2
        have := hS.g.s
        omega
      have hleast := side_least V hS.g ga hk htot bi hL1 bi2
      simp only [Option.bind_some, if_pos (show 2 ≤ ((L2.map (fun x => decide (x > 0))).length : Int) by omega), List.length_nil, List.nil_append, if_pos (show 0 + ((L2.map (fun x => decide (x > 0))).drop (2 : Int).toNat).length < 140737488355328 by rw [List.length_drop]; omega)]
      have hBl : ((L2.map (fun x => decide (x > 0))).drop (2 : Int).toNat).length = M.length := by rw [List.length_drop]; omega
      refine (cost_go V e1 e2 hBl M.length 0 0 (Int.le_refl 0) (by omega) rfl).mono ?_
      rintro r rfl
      refine ⟨fun h => absurd hc h, fun _ => .inr ⟨rfl, rfl, hBl, ?_⟩⟩
      (try dsimp only)
      have ho : ∀ i : Nat, i < M.length → decide (0 < rd L2 ((i : Int) + 2)) = rdOf false ((L2.map (fun x => decide (x > 0))).drop (2 : Int).toNat) i := fun i hi => by
        unfold rdOf rd
        rw [List.getD_eq_getElem?_getD, List.getD_eq_getElem?_getD, List.getElem?_drop, List.getElem?_map, show (2 : Int).toNat + ((i : Int)).toNat = ((i : Int) + 2).toNat by omega, List.getElem?_eq_getElem (show ((i : Int) + 2).toNat < L2.length by omega)]
        rfl
      have h2 := least_ext hleast V ho
      rw [h2.2.1]
      exact h2
    · simp only [if_pos (show 0 < (w.length : Int) by have := hw.l; omega)]
      exact Ev.ret ⟨fun h => absurd hc h, fun _ => .inl ⟨rfl, rfl, rfl, hw, hs⟩⟩
  · simp only [if_neg hc]
    exact Ev.ret ⟨fun _ => rfl, fun h => absurd h hc⟩
theorem awake_tells (k : Nat) : blazonlaw26_awake.f (k + 100) = some true := by kernel_rfl
theorem awake_ev : Ev (fun k => blazonlaw26_awake.f k) (fun r => r = true) := Ev.sub 100 ⟨true, rfl, 0, fun k _ => awake_tells k⟩
theorem Ev.okay {F : Nat → Option Bool} (h : Ev F (fun r => r = true)) : ∃ k, F k = some true := by
  obtain ⟨k, r, e, hr⟩ := h.out
  exact ⟨k, by rw [e, hr]⟩
theorem awake_end : Ev (fun k => (blazonlaw26_awake.f k).bind fun t => some t) (fun r => r = true) := awake_ev.bind (fun r h => Ev.ret h)
end
theorem ref_add {a b : Int} (a0 : 0 ≤ a) (a1 : a < 9223372036854775808) (b0 : 0 ≤ b) (b1 : b < 9223372036854775808) : blazonref01_Add.f a b = some (if a + b < 9223372036854775808 then (a + b, true) else (0, false)) := by
  have e1 : wrap64 (9223372036854775807 - b) = 9223372036854775807 - b := wr (by omega) (by omega)
  unfold blazonref01_Add.f
  rw [e1]
  unfold blazonref01_Add.j0
  by_cases hb : b > 0
  · rw [if_pos hb]
    by_cases h : a > 9223372036854775807 - b
    · rw [if_pos h, if_pos rfl, if_neg (by omega)]
    · rw [if_neg h, if_neg (show ¬ b < 0 by omega), if_neg (by decide), if_pos (by omega), wr (by omega) (by omega)]
  · rw [if_neg hb, if_neg (show ¬ b < 0 by omega), if_neg (by decide), if_pos (by omega), wr (by omega) (by omega)]
section
variable {Y Z M : List Int} {L : List S62}
theorem rchk0_go (hM : M.length ≤ 1000) (e1 : Y.length = M.length) (e2 : Z.length = M.length) (wY : ∀ x_ ∈ Y, (Lit.int .i64 x_).wf = true) (wZ : ∀ x_ ∈ Z, (Lit.int .i64 x_).wf = true) (gd : ¬ Bad1 Y Z M L) : ∀ (z : Nat) (acc p : Int), 0 ≤ p → p + z = (M.length : Int) → acc = Sm (fun i => rd Y i + rd Z i) p.toNat → acc < 9223372036854775808 →
    Ev (fun k => blazonref26_Check.l0 k Y Z M acc p) (fun r => r = chk Y Z M L) := by
  have hI : Inf = 4611686018427387904 := rfl
  have hg : ∀ i : Int, 0 ≤ i → i < (M.length : Int) → ¬ (rd Y i < 0 ∨ rd Z i < 0 ∨ rd M i < -1 ∨ rd M i > 1) := fun i h0 h1 h2 => gd (.inr (.inr (.inr (.inr (.inl ⟨i, h0, h1, h2⟩)))))
  have nn : ∀ i : Nat, i < M.length → 0 ≤ (fun i : Nat => rd Y i + rd Z i) i := fun i hi => by have := hg i (by omega) (by omega); (try dsimp only); omega
  have ht : tot Y Z M = Sm (fun i => rd Y i + rd Z i) M.length := rfl
  intro z
  induction z with
  | zero =>
    intro acc p p0 pz e ha
    refine Ev.sub 1 ?_
    simp only [blazonref26_Check.l0, if_neg (show ¬ p < (M.length : Int) by omega)]
    rw [chk_good gd, ht, e, show p.toNat = M.length by omega]
    by_cases h : Sm (fun i => rd Y i + rd Z i) M.length ≥ 4611686018427387904
    · simp only [if_pos h]; exact Ev.ret (by first | rfl | rw [if_pos (by omega)])
    · simp only [if_neg h]; exact Ev.ret (by first | rfl | rw [if_neg (by omega)])
  | succ z ih =>
    intro acc p p0 pz e ha
    have hp := hg p p0 (by omega)
    have y1 := rd_lt wY p0 (show p < (Y.length : Int) by omega)
    have z1 := rd_lt wZ p0 (show p < (Z.length : Int) by omega)
    have ha0 : 0 ≤ acc := by rw [e]; exact Sm.nonneg (fun i hi => nn i (by omega))
    have hS : Sm (fun i : Nat => rd Y i + rd Z i) (p + 1).toNat = acc + (rd Y p + rd Z p) := by
      rw [show (p + 1).toNat = p.toNat + 1 by omega, Sm, ← e]
      (try dsimp only)
      rw [show ((p.toNat : Nat) : Int) = p by omega]
    have up := Sm.upto nn (show (p + 1).toNat ≤ M.length by omega)
    have over : acc + (rd Y p + rd Z p) ≥ 9223372036854775808 → chk Y Z M L = 18 := fun h => by rw [chk_good gd, if_pos (by omega)]
    refine Ev.sub 1 ?_
    simp only [blazonref26_Check.l0, if_pos (show p < (M.length : Int) by omega), if_pos p0, if_pos (show p < (Y.length : Int) by omega), if_pos (show p < (Z.length : Int) by omega), ref_add ha0 ha (show 0 ≤ rd Y p by omega) y1, Option.bind_some, wr (x := p + 1) (by omega) (by omega)]
    by_cases h1 : acc + rd Y p < 9223372036854775808
    · simp only [if_pos h1, if_true, ref_add (show 0 ≤ acc + rd Y p by omega) h1 (show 0 ≤ rd Z p by omega) z1, Option.bind_some]
      by_cases h2 : acc + rd Y p + rd Z p < 9223372036854775808
      · simp only [if_pos h2, if_true]
        exact ih _ (p + 1) (by omega) (by omega) (by rw [hS]; omega) h2
      · simp only [if_neg h2, if_neg (show ¬ false = true by decide)]
        exact Ev.ret (over (by omega)).symm
    · simp only [if_neg h1, if_neg (show ¬ false = true by decide)]
      exact Ev.ret (over (by omega)).symm
theorem rchk1_go (hM : M.length ≤ 1000) (hL : L.length ≤ 10000) (e1 : Y.length = M.length) (e2 : Z.length = M.length) (wY : ∀ x_ ∈ Y, (Lit.int .i64 x_).wf = true) (wZ : ∀ x_ ∈ Z, (Lit.int .i64 x_).wf = true) (hg : ∀ i : Int, 0 ≤ i → i < (M.length : Int) → ¬ (rd Y i < 0 ∨ rd Z i < 0 ∨ rd M i < -1 ∨ rd M i > 1)) : ∀ (z : Nat) (p : Int), 0 ≤ p → p + z = (L.length : Int) → (∀ i : Int, 0 ≤ i → i < p → ¬ ((rd_T62 L i).f0 < 0 ∨ (rd_T62 L i).f1 < 0 ∨ (rd_T62 L i).f0 ≥ (M.length : Int) ∨ (rd_T62 L i).f1 ≥ (M.length : Int))) →
    Ev (fun k => blazonref26_Check.l1 k Y Z M L p) (fun r => r = chk Y Z M L) := by
  intro z
  induction z with
  | zero =>
    intro p p0 pz hp
    have gd : ¬ Bad1 Y Z M L := by
      rintro (h | h | h | h | ⟨i, i0, i1, h⟩ | ⟨i, i0, i1, h⟩)
      · exact h e1
      · exact h e2
      · omega
      · omega
      · exact hg i i0 i1 h
      · exact hp i i0 (by omega) h
    refine Ev.sub 1 ?_
    simp only [blazonref26_Check.l1, if_neg (show ¬ p < (L.length : Int) by omega)]
    exact rchk0_go hM e1 e2 wY wZ gd M.length 0 0 (Int.le_refl 0) (by omega) rfl (by decide)
  | succ z ih =>
    intro p p0 pz hp
    have pl : p < (L.length : Int) := by omega
    have bad : ((rd_T62 L p).f0 < 0 ∨ (rd_T62 L p).f1 < 0 ∨ (rd_T62 L p).f0 ≥ (M.length : Int) ∨ (rd_T62 L p).f1 ≥ (M.length : Int)) → Ev (fun k => blazonref26_Check.j0 k Y Z M L p true) (fun r => r = chk Y Z M L) := fun h => by
      refine Ev.sub 1 ?_
      simp only [blazonref26_Check.j0, if_true]
      exact Ev.ret (chk_bad (.inr (.inr (.inr (.inr (.inr ⟨p, p0, pl, h⟩)))))).symm
    refine Ev.sub 1 ?_
    simp only [blazonref26_Check.l1, if_pos pl, if_pos p0]
    by_cases h1 : (rd_T62 L p).f0 < 0
    · simp only [if_pos h1]; exact bad (by omega)
    simp only [if_neg h1]
    by_cases h2 : (rd_T62 L p).f1 < 0
    · simp only [if_pos h2]; exact bad (by omega)
    simp only [if_neg h2]
    by_cases h3 : (rd_T62 L p).f0 ≥ (M.length : Int)
    · simp only [if_pos h3]; exact bad (by omega)
    simp only [if_neg h3]
    by_cases h4 : (rd_T62 L p).f1 ≥ (M.length : Int)
    · simp only [decide_eq_true h4]; exact bad (by omega)
    simp only [decide_eq_false h4]
    refine Ev.sub 1 ?_
    simp only [blazonref26_Check.j0, if_neg (show ¬ false = true by decide), wr (x := p + 1) (by omega) (by omega)]
    refine ih (p + 1) (by omega) (by omega) (fun i i0 i1 => ?_)
    by_cases e : i < p
    · exact hp i i0 e
    · rw [show i = p by omega]; omega
theorem rchk2_go (hM : M.length ≤ 1000) (hL : L.length ≤ 10000) (e1 : Y.length = M.length) (e2 : Z.length = M.length) (wY : ∀ x_ ∈ Y, (Lit.int .i64 x_).wf = true) (wZ : ∀ x_ ∈ Z, (Lit.int .i64 x_).wf = true) : ∀ (z : Nat) (p : Int), 0 ≤ p → p + z = (M.length : Int) → (∀ i : Int, 0 ≤ i → i < p → ¬ (rd Y i < 0 ∨ rd Z i < 0 ∨ rd M i < -1 ∨ rd M i > 1)) →
    Ev (fun k => blazonref26_Check.l2 k Y Z M L p) (fun r => r = chk Y Z M L) := by
  intro z
  induction z with
  | zero =>
    intro p p0 pz hp
    refine Ev.sub 1 ?_
    simp only [blazonref26_Check.l2, if_neg (show ¬ p < (M.length : Int) by omega)]
    exact rchk1_go hM hL e1 e2 wY wZ (fun i i0 i1 => hp i i0 (by omega)) L.length 0 (Int.le_refl 0) (by omega) (fun i i0 i1 => by omega)
  | succ z ih =>
    intro p p0 pz hp
    have pl : p < (M.length : Int) := by omega
    refine Ev.sub 1 ?_
    simp only [blazonref26_Check.l2, if_pos pl, if_pos p0, if_pos (show p < (Y.length : Int) by omega), if_pos (show p < (Z.length : Int) by omega), wr (x := p + 1) (by omega) (by omega)]
    have bad : (rd Y p < 0 ∨ rd Z p < 0 ∨ rd M p < -1 ∨ rd M p > 1) → chk Y Z M L = 1 := fun h => chk_bad (.inr (.inr (.inr (.inr (.inl ⟨p, p0, pl, h⟩)))))
    by_cases h1 : rd Y p < 0
    · simp only [if_pos h1]; exact Ev.ret (bad (by omega)).symm
    simp only [if_neg h1]
    by_cases h2 : rd Z p < 0
    · simp only [if_pos h2]; exact Ev.ret (bad (by omega)).symm
    simp only [if_neg h2]
    by_cases h3 : rd M p < -1
    · simp only [if_pos h3]; exact Ev.ret (bad (by omega)).symm
    simp only [if_neg h3]
    by_cases h4 : rd M p > 1
    · simp only [if_pos h4]; exact Ev.ret (bad (by omega)).symm
    simp only [if_neg h4]
    refine ih (p + 1) (by omega) (by omega) (fun i i0 i1 => ?_)
    by_cases e : i < p
    · exact hp i i0 e
    · rw [show i = p by omega]; omega
theorem ref_check (hM : M.length ≤ 1000) (hL : L.length ≤ 10000) (wY : ∀ x_ ∈ Y, (Lit.int .i64 x_).wf = true) (wZ : ∀ x_ ∈ Z, (Lit.int .i64 x_).wf = true) : Ev (fun k => blazonref26_Check.f k Y Z M L) (fun r => r = chk Y Z M L) := by
  simp only [blazonref26_Check.f]
  have bad : Bad1 Y Z M L → Ev (fun k => blazonref26_Check.j1 k Y Z M L true) (fun r => r = chk Y Z M L) := fun h => by
    refine Ev.sub 1 ?_
    simp only [blazonref26_Check.j1, if_true]
    exact Ev.ret (chk_bad h).symm
  by_cases h1 : (Y.length : Int) = (M.length : Int)
  · simp only [if_pos h1]
    by_cases h2 : (Z.length : Int) = (M.length : Int)
    · simp only [if_pos h2, if_neg (show ¬ (M.length : Int) > 32768 by omega), decide_eq_false (show ¬ (L.length : Int) > 900000 by omega)]
      refine Ev.sub 1 ?_
      simp only [blazonref26_Check.j1, if_neg (show ¬ false = true by decide)]
      exact rchk2_go hM hL (by omega) (by omega) wY wZ M.length 0 (Int.le_refl 0) (by omega) (fun i i0 i1 => by omega)
    · simp only [if_neg h2]; exact bad (.inr (.inl (by omega)))
  · simp only [if_neg h1]; exact bad (.inl (by omega))
end
section
variable {Y Z M : List Int} {L : List S62}
theorem scaled_eq : ∀ {B C : List Bool}, B.length = C.length → B.length ≤ 1000 → (∀ i : Nat, i < B.length → rdOf false B i = rdOf false C i) → ∀ (d : Nat) (p : Int), 0 ≤ p → p + d = (B.length : Int) → Ev (fun k => blazonlaw26_CutScaled.l0 k B C p) (fun r => r = true) := by
  intro B C hl hn hbc d
  induction d with
  | zero =>
    intro p p0 pd
    refine Ev.sub 1 ?_
    simp only [blazonlaw26_CutScaled.l0, if_neg (show ¬ p < (B.length : Int) by omega)]
    exact awake_end
  | succ d ih =>
    intro p p0 pd
    have e := hbc p.toNat (by omega)
    rw [show ((p.toNat : Nat) : Int) = p by omega] at e
    refine Ev.sub 1 ?_
    simp only [blazonlaw26_CutScaled.l0, if_pos (show p < (B.length : Int) by omega), if_pos p0, if_pos (show p < (C.length : Int) by omega), if_pos e, wr (x := p + 1) (by omega) (by omega)]
    exact ih (p + 1) (by omega) (by omega)
theorem Sm.times {f : Nat → Int} {a : Int} : ∀ n, Sm (fun i => f i * a) n = Sm f n * a := by
  intro n
  induction n with
  | zero => simp [Sm]
  | succ n ih => rw [Sm, Sm, ih, Int.add_mul]
theorem rd_map {a : Int} (l : List Int) (i : Int) : rd (l.map (fun x => x * a)) i = rd l i * a := by
  unfold rd
  rw [List.getD_eq_getElem?_getD, List.getD_eq_getElem?_getD, List.getElem?_map]
  cases l[i.toNat]? <;> simp
theorem scaled_end {a : Int} (hM : M.length ≤ 100) (hL : L.length ≤ 300) (wY : ∀ x_ ∈ Y, (Lit.int .i64 x_).wf = true) (wZ : ∀ x_ ∈ Z, (Lit.int .i64 x_).wf = true) (hc : chk Y Z M L = 0) (a1 : 1 ≤ a) (a2 : a < 256) (hY : ∀ i : Int, 0 ≤ i → i < (M.length : Int) → rd Y i ≤ 1099511627776) (hZ : ∀ i : Int, 0 ≤ i → i < (M.length : Int) → rd Z i ≤ 1099511627776) :
    Ev (fun k => blazonlaw26_CutScaled.l1 k a Y Z M L (M.length : Int) (Y.map (fun x => x * a)) (Z.map (fun x => x * a))) (fun r => r = true) := by
  have hI : Inf = 4611686018427387904 := rfl
  obtain ⟨V, e1, e2, gd⟩ := chk_zero (by omega) (by omega) hc
  have ny : ∀ i : Int, 0 ≤ i → i < (M.length : Int) → 0 ≤ rd Y i := fun i i0 i1 => by
    have h := V.y0 i.toNat (by show i.toNat < M.length; omega)
    have h : 0 ≤ rd Y ((i.toNat : Nat) : Int) := h
    rwa [show ((i.toNat : Nat) : Int) = i by omega] at h
  have nz : ∀ i : Int, 0 ≤ i → i < (M.length : Int) → 0 ≤ rd Z i := fun i i0 i1 => by
    have h := V.z0 i.toNat (by show i.toNat < M.length; omega)
    have h : 0 ≤ rd Z ((i.toNat : Nat) : Int) := h
    rwa [show ((i.toNat : Nat) : Int) = i by omega] at h
  have bnd : ∀ x : Int, 0 ≤ x → x ≤ 1099511627776 → 0 ≤ x * a ∧ x * a ≤ 1099511627776 * 255 := fun x x0 x1 => ⟨Int.mul_nonneg x0 (by omega), Int.mul_le_mul x1 (by omega) (by omega) (by omega)⟩
  have wf_ : ∀ x : Int, 0 ≤ x → x ≤ 1099511627776 * 255 → (Lit.int .i64 x).wf = true := fun x x0 x1 => by
    simp [Lit.wf, IntKind.min, IntKind.max, IntKind.signed, IntKind.bits]
    omega
  have wY' : ∀ x_ ∈ Y.map (fun x => x * a), (Lit.int .i64 x_).wf = true := fun x hx => by
    obtain ⟨y, hy, rfl⟩ := List.mem_map.1 hx
    obtain ⟨i, i0, i1, rfl⟩ := mem_rd hy
    have := bnd _ (ny i i0 (by omega)) (hY i i0 (by omega))
    exact wf_ _ this.1 this.2
  have wZ' : ∀ x_ ∈ Z.map (fun x => x * a), (Lit.int .i64 x_).wf = true := fun x hx => by
    obtain ⟨y, hy, rfl⟩ := List.mem_map.1 hx
    obtain ⟨i, i0, i1, rfl⟩ := mem_rd hy
    have := bnd _ (nz i i0 (by omega)) (hZ i i0 (by omega))
    exact wf_ _ this.1 this.2
  have hc' : chk (Y.map (fun x => x * a)) (Z.map (fun x => x * a)) M L = 0 := by
    have gd' : ¬ Bad1 (Y.map (fun x => x * a)) (Z.map (fun x => x * a)) M L := by
      rintro (h | h | h | h | ⟨i, i0, i1, h⟩ | h)
      · exact h (by rw [List.length_map]; exact e1)
      · exact h (by rw [List.length_map]; exact e2)
      · exact gd (.inr (.inr (.inl h)))
      · exact gd (.inr (.inr (.inr (.inl h))))
      · rw [rd_map, rd_map] at h
        have b1 := bnd _ (ny i i0 i1) (hY i i0 i1)
        have b2 := bnd _ (nz i i0 i1) (hZ i i0 i1)
        exact gd (.inr (.inr (.inr (.inr (.inl ⟨i, i0, i1, by omega⟩)))))
      · exact gd (.inr (.inr (.inr (.inr (.inr h)))))
    rw [chk_good gd', if_neg]
    have h1 : tot (Y.map (fun x => x * a)) (Z.map (fun x => x * a)) M ≤ Sm (fun _ => 2 * (1099511627776 * 255)) M.length := Sm.mono (fun i hi => by
      rw [rd_map, rd_map]
      have b1 := bnd _ (ny i (by omega) (by omega)) (hY i (by omega) (by omega))
      have b2 := bnd _ (nz i (by omega) (by omega)) (hZ i (by omega) (by omega))
      omega)
    have h2 : ∀ n : Nat, Sm (fun _ => 2 * (1099511627776 * 255)) n = n * (2 * (1099511627776 * 255)) := fun n => by
      induction n with
      | zero => rfl
      | succ n ih => rw [Sm, ih]; omega
    rw [h2] at h1
    omega
  refine Ev.sub 1 ?_
  simp only [blazonlaw26_CutScaled.l1, blazonlaw26_same.f, Option.bind_some, if_neg (show ¬ (M.length : Int) < (Y.length : Int) by omega)]
  refine (solve_ev (by omega) (by omega) wY wZ).bind ?_
  rintro ⟨o, c, w, e⟩ ⟨_, hr⟩
  refine (solve_ev (by omega) (by omega) wY' wZ').bind ?_
  rintro ⟨o', c', w', e'⟩ ⟨_, hr'⟩
  have V' := (chk_zero (by omega) (by omega) hc').1
  have hcost : ∀ q, (pb (Y.map (fun x => x * a)) (Z.map (fun x => x * a)) M L).cost q = (pb Y Z M L).cost q * a := fun q => by
    unfold Pb.cost
    rw [← Sm.times]
    exact Sm.congr (fun i hi => by
      show (if q i = true then rd (Y.map (fun x => x * a)) i else rd (Z.map (fun x => x * a)) i) = (if q i = true then rd Y i else rd Z i) * a
      rw [rd_map, rd_map]; split <;> rfl)
  have wa : wrap64 a = a := wr (by omega) (by omega)
  rcases hr hc with ⟨rfl, rfl, rfl, hw, hs⟩ | ⟨rfl, rfl, h3, h4⟩ <;> rcases hr' hc' with ⟨rfl, rfl, rfl, hw', hs'⟩ | ⟨rfl, rfl, h3', h4'⟩
  · dsimp only
    rw [wa, Int.zero_mul]
    simp only [if_true, wr (x := 0) (by decide) (by decide), decide_eq_true (show (0 : Int) = 0 from rfl), show (!true) = false from rfl]
    refine Ev.sub 1 ?_
    simp only [blazonlaw26_CutScaled.j0, if_neg (show ¬ false = true by decide)]
    exact scaled_eq rfl (by simp) (fun i hi => rfl) 0 0 (Int.le_refl 0) (by simp)
  · exact absurd h4'.1 (fun hk => hs.2.2.1.not hk V)
  · exact absurd h4.1 (fun hk => hs'.2.2.1.not hk V')
  · dsimp only at h3 h4 h3' h4' ⊢
    have h5 : (pb Y Z M L).Least (fun i => rdOf false o' i) c := by
      have k1 := h4'.1
      have m1 := h4.2.2 _ k1
      have m2 := h4'.2.2 _ h4.1
      rw [hcost, h4.2.1] at m2
      have q1 := h4'.2.1
      rw [hcost] at q1
      have : (pb Y Z M L).cost (fun i => rdOf false o' i) * a ≤ c * a := by omega
      have := Int.le_of_mul_le_mul_right this (by omega)
      refine ⟨k1, by omega, fun q hq => ⟨(h4.2.2 q hq).1, fun hqc i hi ho => ?_⟩⟩
      exact (h4'.2.2 q hq).2 (by rw [hcost, hqc, ← q1]; congr 1; omega) i hi ho
    have hu := (h4.uniq h5).2
    have hcc : c' = c * a := by rw [← h4'.2.1, hcost, h5.2.1]
    have c0 : 0 ≤ c := by
      rw [← h4.2.1]
      exact Sm.nonneg (fun i hi => by
        have a := V.y0 i hi
        have b := V.z0 i hi
        (try dsimp only); split <;> omega)
    have c1 : c' < Inf := by
      rw [← h4'.2.1]
      refine Int.lt_of_le_of_lt (Sm.mono (fun i hi => ?_)) V'.s
      have a := V'.y0 i hi
      have b := V'.z0 i hi
      (try dsimp only); split <;> omega
    have c2 : 0 ≤ c * a := Int.mul_nonneg c0 (by omega)
    rw [wa, wr (x := c * a) (by omega) (by omega)]
    simp only [if_true, if_pos (show (o.length : Int) = (o'.length : Int) by omega), decide_eq_true hcc, show (!true) = false from rfl]
    refine Ev.sub 1 ?_
    simp only [blazonlaw26_CutScaled.j0, if_neg (show ¬ false = true by decide)]
    exact scaled_eq (by omega) (by omega) (fun i hi => hu i (by show i < M.length; omega)) o.length 0 (Int.le_refl 0) (by omega)
theorem scaled_go {a : Int} (hM : M.length ≤ 100) (hL : L.length ≤ 300) (wY : ∀ x_ ∈ Y, (Lit.int .i64 x_).wf = true) (wZ : ∀ x_ ∈ Z, (Lit.int .i64 x_).wf = true) (hc : chk Y Z M L = 0) (a1 : 1 ≤ a) (a2 : a < 256) : ∀ (d : Nat) (p : Int), 0 ≤ p → p + d = (M.length : Int) → (∀ i : Int, 0 ≤ i → i < p → rd Y i ≤ 1099511627776 ∧ rd Z i ≤ 1099511627776) →
    Ev (fun k => blazonlaw26_CutScaled.l1 k a Y Z M L p ((Y.take p.toNat).map (fun x => x * a)) ((Z.take p.toNat).map (fun x => x * a))) (fun r => r = true) := by
  obtain ⟨V, e1, e2, gd⟩ := chk_zero (by omega) (by omega) hc
  intro d
  induction d with
  | zero =>
    intro p p0 pd h
    rw [show p = (M.length : Int) by omega, show ((M.length : Int)).toNat = M.length by omega, List.take_of_length_le (by omega), List.take_of_length_le (by omega)]
    exact scaled_end hM hL wY wZ hc a1 a2 (fun i i0 i1 => (h i i0 (by omega)).1) (fun i i0 i1 => (h i i0 (by omega)).2)
  | succ d ih =>
    intro p p0 pd h
    have pl : p < (M.length : Int) := by omega
    have y0 : 0 ≤ rd Y p := by
      have h := V.y0 p.toNat (by show p.toNat < M.length; omega)
      have h : 0 ≤ rd Y ((p.toNat : Nat) : Int) := h
      rwa [show ((p.toNat : Nat) : Int) = p by omega] at h
    have z0 : 0 ≤ rd Z p := by
      have h := V.z0 p.toNat (by show p.toNat < M.length; omega)
      have h : 0 ≤ rd Z ((p.toNat : Nat) : Int) := h
      rwa [show ((p.toNat : Nat) : Int) = p by omega] at h
    refine Ev.sub 1 ?_
    simp only [blazonlaw26_CutScaled.l1, if_pos (show p < (Y.length : Int) by omega), if_pos p0, if_pos (show p < (Z.length : Int) by omega), List.length_map, if_pos (show (Y.take p.toNat).length < 17592186044416 by rw [List.length_take]; omega), if_pos (show (Z.take p.toNat).length < 17592186044416 by rw [List.length_take]; omega), Option.bind_some, wr (x := a) (by omega) (by omega), wr (x := p + 1) (by omega) (by omega)]
    by_cases h1 : rd Y p > 1099511627776
    · simp only [if_pos h1]; exact awake_end
    simp only [if_neg h1]
    by_cases h2 : rd Z p > 1099511627776
    · simp only [if_pos h2]; exact awake_end
    simp only [if_neg h2]
    have b1 : 0 ≤ rd Y p * a ∧ rd Y p * a ≤ 1099511627776 * 255 := ⟨Int.mul_nonneg y0 (by omega), Int.mul_le_mul (by omega) (by omega) (by omega) (by omega)⟩
    have b2 : 0 ≤ rd Z p * a ∧ rd Z p * a ≤ 1099511627776 * 255 := ⟨Int.mul_nonneg z0 (by omega), Int.mul_le_mul (by omega) (by omega) (by omega) (by omega)⟩
    rw [wr (x := rd Y p * a) (by omega) (by omega), wr (x := rd Z p * a) (by omega) (by omega)]
    have tk : ∀ l : List Int, p < (l.length : Int) → (l.take p.toNat).map (fun x => x * a) ++ [rd l p * a] = (l.take (p + 1).toNat).map (fun x => x * a) := fun l hl => by
      rw [show (p + 1).toNat = p.toNat + 1 by omega, List.take_succ_eq_append_getElem (by omega), List.map_append]
      congr 1
      unfold rd
      rw [List.getD_eq_getElem?_getD, List.getElem?_eq_getElem (by omega)]
      rfl
    rw [tk Y (by omega), tk Z (by omega)]
    refine ih (p + 1) (by omega) (by omega) (fun i i0 i1 => ?_)
    by_cases e : i < p
    · exact h i i0 e
    · rw [show i = p by omega]; omega
end
theorem CutScaled : blazonlaw26_CutScaled.Pure := by
  intro Y Z M L a _ _ wY _ _ wZ _ _ _ _ _ _ ha
  refine Ev.okay ?_
  simp only [blazonlaw26_CutScaled.f]
  have out : Ev (fun k => blazonlaw26_CutScaled.j1 k a Y Z M L true) (fun r => r = true) := by
    refine Ev.sub 1 ?_
    simp only [blazonlaw26_CutScaled.j1, if_true]
    exact awake_end
  by_cases h1 : (M.length : Int) > 100
  · simp only [if_pos h1]; exact out
  simp only [if_neg h1]
  by_cases h2 : (Y.length : Int) > 102
  · simp only [if_pos h2]; exact out
  simp only [if_neg h2]
  by_cases h3 : (Z.length : Int) > 102
  · simp only [if_pos h3]; exact out
  simp only [if_neg h3]
  by_cases h4 : (L.length : Int) > 300
  · simp only [if_pos h4]; exact out
  simp only [if_neg h4]
  refine (ref_check (by omega) (by omega) wY wZ).bind ?_
  rintro c rfl
  by_cases hc : chk Y Z M L = 0
  · simp only [if_pos hc]
    have hb := bounds_u8 ha
    by_cases h0 : a = 0
    · simp only [decide_eq_true h0]; exact out
    simp only [decide_eq_false h0]
    refine Ev.sub 1 ?_
    simp only [blazonlaw26_CutScaled.j1, if_neg (show ¬ false = true by decide)]
    exact scaled_go (by omega) (by omega) wY wZ hc (by omega) (by omega) M.length 0 (Int.le_refl 0) (by omega) (fun i i0 i1 => by omega)
  · simp only [if_neg hc]; exact out

end Go.Proofs.Ytdkbmchbkkhpoaa.Pure
