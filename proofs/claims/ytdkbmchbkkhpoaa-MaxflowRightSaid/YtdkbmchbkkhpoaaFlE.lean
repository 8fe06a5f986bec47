/- Flows and cuts. -/
import Derived.Test.YtdkbmchbkkhpoaaFlD
set_option linter.unusedVariables false
set_option linter.unusedSimpArgs false
namespace Go.Proofs.Ytdkbmchbkkhpoaa.Flow
open Go.RowKit Go.Proofs.Ytdkbmchbkkhpoaa.PMfr Go.Proofs.YtdkbmchbkkhpoaaW.PrintWords Go.Proofs.YtdkbmchbkkhpoaaW.PrintLast Go.Proofs.YtdkbmchbkkhpoaaW.PrintMore
inductive Rch (R : Int → Int → Prop) (s : Int) : Int → Prop
  | refl : Rch R s s
  | step (u v : Int) : Rch R s u → R u v → Rch R s v
def EInf (E : List Ed) (u v : Int) : Prop := ∃ e, e < E.length ∧ ea E e = u ∧ eb E e = v ∧ ec E e = Inf
def Endl (E : List Ed) (s t : Int) : Prop := Rch (EInf E) s t
def CutV (E : List Ed) (C : Int → Bool) : Int := Sm (fun e => if C (ea E e) = true ∧ C (eb E e) = false then ec E e else 0) E.length
def Fin1 (E : List Ed) (C : Int → Bool) : Prop := ∀ e, e < E.length → C (ea E e) = true → C (eb E e) = false → ec E e < Inf
structure FL (E : List Ed) (s t : Int) (f : Nat → Int) (v : Int) : Prop where
  b : ∀ e, e < E.length → 0 ≤ f e ∧ f e ≤ ec E e
  k : ∀ X : Int → Int, Sm (fun e => f e * (X (ea E e) - X (eb E e))) E.length = v * (X s - X t)
def CutOf (E : List Ed) (s t : Int) (C : Int → Bool) : Prop := C s = true ∧ C t = false ∧ Fin1 E C
def IsMax (E : List Ed) (s t v : Int) : Prop := (∃ f, FL E s t f v) ∧ ∃ C, CutOf E s t C ∧ CutV E C = v
def ind (C : Int → Bool) (x : Int) : Int := if C x = true then 1 else 0
section
variable {n s t v w : Int} {E : List Ed} {A : List S78} {C : Int → Bool} {f : Nat → Int}
theorem FL.le (h : FL E s t f v) (hC : CutOf E s t C) : v ≤ CutV E C := by
  have hk := h.k (ind C);have e : ind C s - ind C t = 1 := by unfold ind; rw [if_pos hC.1, if_neg (by rw [hC.2.1]; decide)]; rfl
  rw [e, Int.mul_one] at hk;rw [← hk];refine Sm.mono (fun e he => ?_);obtain ⟨h0, h1⟩ := h.b e he;unfold ind;by_cases ha : C (ea E e) = true <;> by_cases hb : C (eb E e) = true
  · rw [if_pos ha, if_pos hb, if_neg (fun hh => by rw [hb] at hh; exact absurd hh.2 (by decide))]; omega
  · rw [if_pos ha, if_neg hb, if_pos ⟨ha, by simpa using hb⟩]; omega
  · rw [if_neg ha, if_pos hb, if_neg (fun hh => ha hh.1)]; omega
  · rw [if_neg ha, if_neg hb, if_neg (fun hh => ha hh.1)]; omega
theorem IsMax.uniq (h : IsMax E s t v) (h' : IsMax E s t w) : v = w := by
  obtain ⟨⟨f, hf⟩, C, hC, e⟩ := h;obtain ⟨⟨f', hf'⟩, C', hC', e'⟩ := h';have a := hf.le hC';have b := hf'.le hC;omega
theorem CutV.fs (g : EG n E) (h : Fin1 E C) : CutV E C ≤ fs E := by
  refine Sm.mono (fun e he => ?_);obtain ⟨_, _, _, h0, _⟩ := g.v e he;split
  · rename_i hc
    rw [if_pos (h e he hc.1 hc.2)]; omega
  · split <;> omega
theorem CutV.nonneg (g : EG n E) : 0 ≤ CutV E C := Sm.nonneg (fun e he => by
  obtain ⟨_, _, _, h0, _⟩ := g.v e he;split <;> omega)
/-- The rooms the other way are a flow. -/
theorem AG.fl (ga : AG E A) {tot : Int} (hk : ∀ X, Ph E A X = tot * (X s - X t)) : FL E s t (fun e => rm A (2 * (e : Int) + 1)) tot := ⟨fun e he => by
    obtain ⟨a, b⟩ := ga.r (2 * (e : Int) + 1) (by omega) (by omega);have hr := rv_in (j := 2 * (e : Int) + 1) (m := E.length) (by omega) (by omega);have := (ga.r _ hr.1 hr.2).1;rw [show ((2 * (e : Int) + 1) / 2).toNat = e by omega] at b;exact ⟨a, by omega⟩, hk⟩
/-- Where no way on is left, what is reached is a cut of the flow's value. -/
theorem AG.cut (g : EG n E) (ga : AG E A) {tot : Int} (hk : ∀ X, Ph E A X = tot * (X s - X t)) (hs : C s = true) (ht : C t = false) (hc : ∀ j, 0 ≤ j → j < 2 * (E.length : Int) → psR A j → C (tl E j) = true → C (hd E j) = true) : CutV E C = tot ∧ (tot < Inf → CutOf E s t C) := by
  have e1 : ∀ e : Nat, e < E.length → C (ea E e) = true → C (eb E e) = false → rm A (2 * (e : Int) + 1) = ec E e := fun e he a b => by
    have h := hc (2 * (e : Int)) (by omega) (by omega);unfold hd tl at h;rw [if_pos (by omega), if_pos (by omega), show (2 * (e : Int) / 2).toNat = e by omega] at h;obtain ⟨x, y⟩ := ga.r (2 * (e : Int)) (by omega) (by omega);have er : rv (2 * (e : Int)) = 2 * (e : Int) + 1 := by unfold rv; rw [if_pos (by omega)]
    rw [er, show (2 * (e : Int) / 2).toNat = e by omega] at y;have : ¬ psR A (2 * (e : Int)) := fun hp => by have := h hp a; rw [b] at this; exact absurd this (by decide)
    unfold psR at this;omega
  have e2 : ∀ e : Nat, e < E.length → C (ea E e) = false → C (eb E e) = true → rm A (2 * (e : Int) + 1) = 0 := fun e he a b => by
    have h := hc (2 * (e : Int) + 1) (by omega) (by omega);unfold hd tl at h;rw [if_neg (by omega), if_neg (by omega), show ((2 * (e : Int) + 1) / 2).toNat = e by omega] at h;obtain ⟨x, y⟩ := ga.r (2 * (e : Int) + 1) (by omega) (by omega);have : ¬ psR A (2 * (e : Int) + 1) := fun hp => by have := h hp b; rw [a] at this; exact absurd this (by decide)
    unfold psR at this;omega
  have hv : CutV E C = tot := by
    have hk := hk (ind C);have e : ind C s - ind C t = 1 := by unfold ind; rw [if_pos hs, if_neg (by rw [ht]; decide)]; rfl
    rw [e, Int.mul_one] at hk;rw [← hk];refine Sm.congr (fun e he => ?_);unfold ind;by_cases ha : C (ea E e) = true <;> by_cases hb : C (eb E e) = true
    · rw [if_pos ha, if_pos hb, if_neg (fun hh => by rw [hb] at hh; exact absurd hh.2 (by decide))]; omega
    · rw [if_pos ha, if_neg hb, if_pos ⟨ha, by simpa using hb⟩, e1 e he ha (by simpa using hb)]; omega
    · rw [if_neg ha, if_pos hb, if_neg (fun hh => ha hh.1), e2 e he (by simpa using ha) hb]; omega
    · rw [if_neg ha, if_neg hb, if_neg (fun hh => ha hh.1)]; omega
  refine ⟨hv, fun hlt => ⟨hs, ht, fun e he a b => ?_⟩⟩;have := Sm.one (f := fun e => if C (ea E e) = true ∧ C (eb E e) = false then ec E e else 0) (n := E.length) (fun i hi => by
    obtain ⟨_, _, _, h0, _⟩ := g.v i hi;split <;> omega) he
  rw [if_pos ⟨a, b⟩] at this;unfold CutV at hv;omega
/-- Where one doesn't come by endless edges there is a cut. -/
theorem cut_of (h : ¬ Endl E s t) (g : EG n E) : ∃ C, CutOf E s t C := by
  classical
  refine ⟨fun x => decide (Endl E s x), decide_eq_true .refl, decide_eq_false h, fun e he a b => ?_⟩;have := (g.v e he).2.2.2.2;refine Classical.byContradiction fun hn => ?_;exact absurd (Rch.step _ _ (of_decide_eq_true a) ⟨e, he, rfl, rfl, by omega⟩) (of_decide_eq_false b)
theorem no_cut (h : Endl E s t) (hC : CutOf E s t C) : False := by
  have : ∀ x, Rch (EInf E) s x → C x = true := by
    intro x hx
    induction hx with
    | refl => exact hC.1
    | step u v _ huv ih =>
      obtain ⟨e, he, rfl, rfl, hi⟩ := huv;refine Classical.byContradiction fun hn => ?_;have := hC.2.2 e he ih (by simpa using hn);omega
  have := this t h;rw [hC.2.1] at this;exact absurd this (by decide)
end
end Go.Proofs.Ytdkbmchbkkhpoaa.Flow
