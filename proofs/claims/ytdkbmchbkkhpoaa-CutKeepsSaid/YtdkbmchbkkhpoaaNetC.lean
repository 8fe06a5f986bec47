import Derived.Test.YtdkbmchbkkhpoaaNetO
import Derived.Test.YtdkbmchbkkhpoaaPMfrx1
import Derived.Test.YtdkbmchbkkhpoaaPMfrx2
import Derived.Test.YtdkbmchbkkhpoaaPMfrx3
import Derived.Test.YtdkbmchbkkhpoaaPMfrx4
set_option linter.unusedVariables false
set_option linter.unusedSimpArgs false
set_option maxHeartbeats 8000000
set_option maxRecDepth 100000
namespace Go.Proofs.Ytdkbmchbkkhpoaa.PMfr
open Go.RowKit Go.Proofs.YtdkbmchbkkhpoaaW.PrintWords Go.Proofs.YtdkbmchbkkhpoaaW.PrintLast Go.Proofs.YtdkbmchbkkhpoaaW.PrintMore
def pG (a b c d e f : Nat) (i : Nat) : Nat := match i with | 1 => a | 2 => b | 3 => c | 4 => d | 5 => e | 6 => f | _ => 0
section
variable {I C c' : Nat → Nat} {W w' : World} {S : S74}
theorem Ej {P : World → Prop} {Z : List Nat} (h : Ft I Z W P) {C' : Nat → Nat} (hz : ∀ k, I k ∈ Z → C' k = 0) : Ft C' [0] W P := nI.mono h (fun k hk => by show C' k ∈ [0]; rw [hz k hk]; simp)
end
def Max.o (k : Nat) (x : Option S74) (s t : Int) : Option (Int × Int × Option S74) := match x with
  | none => (kZ.f k s t).bind fun r => some (r.1, r.2, none)
  | some S => (iP.f k S.f0 S.f1 S.f2 S.f3 S.f4 S.f5 S.f6 S.f7.f0 s t).bind fun r => some (r.1, r.2.1, some ⟨r.2.2.1, S.f1, S.f2, S.f3, r.2.2.2.1, r.2.2.2.2.1, r.2.2.2.2.2.1, ⟨r.2.2.2.2.2.2⟩⟩)
theorem Max.oc (k : Nat) (v : Value) (x : Option S74) (a1 a2 r1 r2 : Int) (x' : Option S74) (c : Nat → Nat) (w : World) (hc : ∀ k, c k < 10) (HP0 : Ft c [1] w (fun w_ => l9 w_ v x)) (H : Max.o k x a1 a2 = some (r1, r2, x')) :
    Calls Try.prog 17 #[v, .int .i64 a1, .int .i64 a2] w fun e w' => ∃ (c' : Nat → Nat), e = .returned (.tuple #[.int .i64 r1, .int .i64 r2]) ∧ Step c w c' w' [1] ∧ Ft c' [1] w' (fun w_ => l9 w_ v x') := by
  cases x with
  | none =>
    obtain rfl : v = .pointer none := HP0.now;dsimp only [Max.o] at H;obtain ⟨⟨q1, q2⟩, A, H⟩ := bnd H;simp only [Option.some.injEq, Prod.mk.injEq] at H;obtain ⟨rfl, rfl, rfl⟩ := H;refine (kZ.calls k a1 a2 q1 q2 c w hc A).mono ?_;rintro e w' ⟨c', he, hs⟩;exact ⟨c', he, ⟨hs.os, hs.tape, hs.output, hs.size, hs.col, fun k hk hn => hs.keep k hk (by simp)⟩, l9.nil _ _ _⟩
  | some S =>
    obtain ⟨I, h7, hI, g, A0, c0, A1, c1, A2, c2, A5, c5, A6, c6, hv, hb, h0, h1, h2, h5, h6⟩ := l9.open_ HP0;subst hv;dsimp only [Max.o] at H;obtain ⟨⟨q1, q2, q3, q4, q5, q6, q7⟩, A, H⟩ := bnd H;simp only [Option.some.injEq, Prod.mk.injEq] at H;obtain ⟨rfl, rfl, rfl⟩ := H;have cr : ∀ i j, I i = j → pG 1 2 0 0 3 4 (I i) = pG 1 2 0 0 3 4 j := fun i j e => by rw [e]
    refine (iP.calls k g A0 c0 S.f0 A1 c1 S.f1 A2 c2 S.f2 S.f3 S.f4 A5 c5 S.f5 A6 c6 S.f6 S.f7.f0 a1 a2 q1 q2 q3 q4 q5 q6 q7 (fun k => pG 1 2 0 0 3 4 (I k)) w (fun k => by
        have : ∀ i, i < 7 → pG 1 2 0 0 3 4 i < 10 := by decide
        exact this _ (h7 k))
      ⟨cr g 1 hb.1, hb.2⟩ (h0.1.move (fun k _ e => cr k 2 e) (fun _ _ _ => rfl)).own h0.2 (h1.1.ft (fun k _ e => cr k 3 e)) h1.2 (Ej h2.1.ft (fun k hk => by
        have : I k = 4 ∨ I k = 0 := by simpa using hk
        rcases this with e | e <;> exact cr k _ e)) h2.2 (h5.1.move (fun k _ e => cr k 5 e) (fun _ _ _ => rfl)).own h5.2 (h6.1.move (fun k _ e => cr k 6 e) (fun _ _ _ => rfl)).own h6.2 A).mono ?_
    rintro e w' ⟨c', B0, d0, B5, d5, B6, d6, he, hs, o0, l0, o5, l5, o6, l6, hb'⟩;have hcol : ∀ k, k < w.heap.size → c' k = pG 1 2 0 0 3 4 (I k) := fun k hk => hs.col k hk;have hg := lu hb.2
    let I' : Nat → Nat := fun k => if k < w.heap.size then I k else pG 0 2 5 6 0 0 (c' k)
    have old : ∀ k, k < w.heap.size → I' k = I k := fun k hk => if_pos hk;have new : ∀ k, ¬ k < w.heap.size → I' k = pG 0 2 5 6 0 0 (c' k) := fun k hk => if_neg hk;have kept : ∀ k, k < w.heap.size → pG 1 2 0 0 3 4 (I k) = 0 → w'.heap[k]? = w.heap[k]? := fun k hk e => hs.keep k hk (by show pG 1 2 0 0 3 4 (I k) ∉ [1, 2, 3, 4]; rw [e]; simp);have own' : ∀ (a b : Nat), (∀ i, i < 7 → pG 1 2 0 0 3 4 i = a → i = b) → pG 0 2 5 6 0 0 a = b → ∀ k, k < w'.heap.size → c' k = a → I' k = b := fun a b h1 h2 k _ e => by
      by_cases hk : k < w.heap.size
      · rw [old k hk]; exact h1 _ (h7 k) ((hcol k hk).symm.trans e)
      · rw [new k hk, e]; exact h2
    obtain ⟨st, ft⟩ := l9.close (C := c) (m := 1) (I' := I') (S' := ⟨q3, S.f1, S.f2, S.f3, q4, q5, q6, ⟨q7⟩⟩) (v' := .pointer (some ⟨g, 0, none⟩)) hs.os hs.tape hs.output hs.size (fun k => by
        by_cases hk : k < w.heap.size
        · rw [old k hk]; exact h7 k
        · rw [new k hk]; unfold pG; split <;> decide) (fun k hk h => (hI k (by rw [← old k hk]; exact h)).2) (fun k hk hn => kept k hk (by
        have : I k = 0 := Classical.byContradiction fun h => hn (hI k h).2;rw [this]; rfl))
      ⟨rfl, ⟨(old g hg).trans hb.1, hb'.2⟩, ⟨(rX.of (fun _ _ _ _ h_ => h_) o0).move (own' 2 2 (by decide) rfl) (fun _ _ _ => rfl), l0⟩, ⟨h1.1.move (fun k hk e => (old k hk).trans e) (fun k hk e => kept k hk (by rw [e]; rfl)), h1.2⟩, ⟨h2.1.move hs.size (fun k hk e => (old k hk).trans e) (fun k hk e => kept k hk (by rw [e]; rfl)), h2.2⟩, ⟨(rX.of (fun _ _ _ _ h_ => h_) o5).move (own' 3 5 (by decide) rfl) (fun _ _ _ => rfl), l5⟩, ⟨(rX.of (fun _ _ _ _ h_ => h_) o6).move (own' 4 6 (by decide) rfl) (fun _ _ _ => rfl), l6⟩⟩
    exact ⟨_, he, st, ft⟩
def Side.o (k : Nat) (x : Option S74) (s : Int) : Option (List Bool × Option S74) := match x with
  | none => (jO.f k s).bind fun r => some (r, none)
  | some S => (jv.f k S.f0 S.f1 S.f2 S.f3 S.f4 S.f5 S.f6 S.f7.f0 s).bind fun r => some (r.1, some ⟨S.f0, S.f1, S.f2, S.f3, S.f4, S.f5, S.f6, ⟨r.2⟩⟩)
theorem Side.oc (k : Nat) (v : Value) (x : Option S74) (a1 : Int) (r1 : List Bool) (x' : Option S74) (c : Nat → Nat) (w : World) (hc : ∀ k, c k < 10) (HP0 : Ft c [1] w (fun w_ => l9 w_ v x)) (H : Side.o k x a1 = some (r1, x')) :
    Calls Try.prog 25 #[v, .int .i64 a1] w fun e w' => ∃ (c' : Nat → Nat) (A_r : Option Addr) (c_r : Nat), e = .returned (.slice A_r r1.length c_r) ∧ Step c w c' w' [1] ∧ Own c' 5 w' Kd.bool 4 (.slice A_r r1.length c_r) r1 ∧ r1.length ≤ c_r ∧ Ft c' [1] w' (fun w_ => l9 w_ v x') := by
  cases x with
  | none =>
    obtain rfl : v = .pointer none := HP0.now;dsimp only [Side.o] at H;obtain ⟨q1, A, H⟩ := bnd H;simp only [Option.some.injEq, Prod.mk.injEq] at H;obtain ⟨rfl, rfl⟩ := H;refine (jO.calls k a1 q1 c w hc A).mono ?_;rintro e w' ⟨c', A_r, c_r, he, hs, ho, hl⟩;exact ⟨c', A_r, c_r, he, ⟨hs.os, hs.tape, hs.output, hs.size, hs.col, fun k hk hn => hs.keep k hk (by simp)⟩, ho, hl, l9.nil _ _ _⟩
  | some S =>
    obtain ⟨I, h7, hI, g, A0, c0, A1, c1, A2, c2, A5, c5, A6, c6, hv, hb, h0, h1, h2, h5, h6⟩ := l9.open_ HP0;subst hv;dsimp only [Side.o] at H;obtain ⟨⟨q1, q2⟩, A, H⟩ := bnd H;simp only [Option.some.injEq, Prod.mk.injEq] at H;obtain ⟨rfl, rfl⟩ := H;have cr : ∀ i j, I i = j → pG 1 0 0 0 0 0 (I i) = pG 1 0 0 0 0 0 j := fun i j e => by rw [e]
    refine (jv.calls k g A0 c0 S.f0 A1 c1 S.f1 A2 c2 S.f2 S.f3 S.f4 A5 c5 S.f5 A6 c6 S.f6 S.f7.f0 a1 q1 q2 (fun k => pG 1 0 0 0 0 0 (I k)) w (fun k => by
        have : ∀ i, i < 7 → pG 1 0 0 0 0 0 i < 10 := by decide
        exact this _ (h7 k))
      ⟨cr g 1 hb.1, hb.2⟩ (h0.1.ft (fun k _ e => cr k 2 e)) h0.2 (h1.1.ft (fun k _ e => cr k 3 e)) h1.2 (Ej h2.1.ft (fun k hk => by
        have : I k = 4 ∨ I k = 0 := by simpa using hk
        rcases this with e | e <;> exact cr k _ e)) h2.2 (h5.1.ft (fun k _ e => cr k 5 e)) h5.2 (h6.1.ft (fun k _ e => cr k 6 e)) h6.2 A).mono ?_
    rintro e w' ⟨c', A_r, c_r, he, hs, ho, hl, hb'⟩;have hcol : ∀ k, k < w.heap.size → c' k = pG 1 0 0 0 0 0 (I k) := fun k hk => hs.col k hk;have hg := lu hb.2
    let I' : Nat → Nat := fun k => if k < w.heap.size then I k else 0
    have old : ∀ k, k < w.heap.size → I' k = I k := fun k hk => if_pos hk;have new : ∀ k, ¬ k < w.heap.size → I' k = 0 := fun k hk => if_neg hk;have kept : ∀ k, k < w.heap.size → pG 1 0 0 0 0 0 (I k) = 0 → w'.heap[k]? = w.heap[k]? := fun k hk e => hs.keep k hk (by show pG 1 0 0 0 0 0 (I k) ∉ [1]; rw [e]; simp);obtain ⟨st, ft⟩ := l9.close (C := c) (m := 1) (I' := I') (S' := ⟨S.f0, S.f1, S.f2, S.f3, S.f4, S.f5, S.f6, ⟨q2⟩⟩) (v' := .pointer (some ⟨g, 0, none⟩)) hs.os hs.tape hs.output hs.size (fun k => by
        by_cases hk : k < w.heap.size
        · rw [old k hk]; exact h7 k
        · rw [new k hk]; decide) (fun k hk h => (hI k (by rw [← old k hk]; exact h)).2) (fun k hk hn => kept k hk (by
        have : I k = 0 := Classical.byContradiction fun h => hn (hI k h).2;rw [this]; rfl))
      ⟨rfl, ⟨(old g hg).trans hb.1, hb'.2⟩, ⟨h0.1.move (fun k hk e => (old k hk).trans e) (fun k hk e => kept k hk (by rw [e]; rfl)), h0.2⟩, ⟨h1.1.move (fun k hk e => (old k hk).trans e) (fun k hk e => kept k hk (by rw [e]; rfl)), h1.2⟩, ⟨h2.1.move hs.size (fun k hk e => (old k hk).trans e) (fun k hk e => kept k hk (by rw [e]; rfl)), h2.2⟩, ⟨h5.1.move (fun k hk e => (old k hk).trans e) (fun k hk e => kept k hk (by rw [e]; rfl)), h5.2⟩, ⟨h6.1.move (fun k hk e => (old k hk).trans e) (fun k hk e => kept k hk (by rw [e]; rfl)), h6.2⟩⟩
    have key : ∀ k, c' k = 5 → ¬ k < w.heap.size := fun k e hk => by
      have := (hcol k hk).symm.trans e;have h5' : ∀ i, i < 7 → pG 1 0 0 0 0 0 i ≠ 5 := by decide
      exact h5' _ (h7 k) this
    let D : Nat → Nat := fun k => if k < w.heap.size then c k else if c' k = 5 then 5 else 1
    have hD : ∀ k, ext c w.heap.size 1 k = 1 → I' k ≠ 0 → D k = 1 := fun k e hk => by
      by_cases hl' : k < w.heap.size
      · show (if _ then _ else _) = 1;rw [if_pos hl', ← lZ c (j := 1) hl']; exact e
      · exact absurd (new k hl') hk
    refine ⟨D, A_r, c_r, he, ⟨st.os, st.tape, st.output, st.size, fun k hk => if_pos hk, st.keep⟩, ?_, hl, ?_⟩
    · have hf := rX.of (fun _ _ _ _ h_ => h_) ho;exact (hf.move (c' := D) (j := 5) (fun k _ e => by show (if _ then _ else _) = 5; rw [if_neg (key k e), if_pos e]) (fun _ _ _ => rfl)).own
    · exact (l9.close (C := D) (W := w') (w' := w') (m := 1) (I' := I') (S' := ⟨S.f0, S.f1, S.f2, S.f3, S.f4, S.f5, S.f6, ⟨q2⟩⟩) rfl rfl rfl (Nat.le_refl _) (fun k => by
        by_cases hk : k < w.heap.size
        · rw [old k hk]; exact h7 k
        · rw [new k hk]; decide) (fun k hk h => hD k (by
          by_cases hl' : k < w.heap.size
          · rw [lZ c hl']; exact (hI k (by rw [← old k hl']; exact h)).2
          · exact nP c (by omega)) h) (fun _ _ _ => rfl)
      ⟨rfl, ⟨(old g hg).trans hb.1, hb'.2⟩, ⟨h0.1.move (fun k hk e => (old k hk).trans e) (fun k hk e => kept k hk (by rw [e]; rfl)), h0.2⟩, ⟨h1.1.move (fun k hk e => (old k hk).trans e) (fun k hk e => kept k hk (by rw [e]; rfl)), h1.2⟩, ⟨h2.1.move hs.size (fun k hk e => (old k hk).trans e) (fun k hk e => kept k hk (by rw [e]; rfl)), h2.2⟩, ⟨h5.1.move (fun k hk e => (old k hk).trans e) (fun k hk e => kept k hk (by rw [e]; rfl)), h5.2⟩, ⟨h6.1.move (fun k hk e => (old k hk).trans e) (fun k hk e => kept k hk (by rw [e]; rfl)), h6.2⟩⟩).2 |> fun h => nI.mono (nI.bound h) (fun k hk => by
          have := hk.1;show D k ∈ [1];rw [← lZ (j := 1) D hk.2]; exact this)
def Add.o (k : Nat) (x : Option S74) (a b cp : Int) : Option (Int × Int × Option S74) := match x with
  | none => (jH.f k a b cp).bind fun r => some (r.1, r.2, none)
  | some S => (iR.f k S.f0 S.f1 S.f2 S.f3 S.f4 S.f5 S.f6 S.f7.f0 a b cp).bind fun r => some (r.1, r.2.1, some ⟨r.2.2.1, r.2.2.2.1, r.2.2.2.2.1, r.2.2.2.2.2.1, r.2.2.2.2.2.2, S.f5, S.f6, S.f7⟩)
theorem Add.oc (k : Nat) (v : Value) (x : Option S74) (a1 a2 a3 r1 r2 : Int) (x' : Option S74) (c : Nat → Nat) (w : World) (hc : ∀ k, c k < 10) (HP0 : Ft c [1] w (fun w_ => l9 w_ v x)) (H : Add.o k x a1 a2 a3 = some (r1, r2, x')) :
    Calls Try.prog 21 #[v, .int .i64 a1, .int .i64 a2, .int .i64 a3] w fun e w' => ∃ (c' : Nat → Nat), e = .returned (.tuple #[.int .i64 r1, .int .i64 r2]) ∧ Step c w c' w' [1] ∧ Ft c' [1] w' (fun w_ => l9 w_ v x') := by
  cases x with
  | none =>
    obtain rfl : v = .pointer none := HP0.now;dsimp only [Add.o] at H;obtain ⟨⟨q1, q2⟩, A, H⟩ := bnd H;simp only [Option.some.injEq, Prod.mk.injEq] at H;obtain ⟨rfl, rfl, rfl⟩ := H;refine (jH.calls k a1 a2 a3 q1 q2 c w hc A).mono ?_;rintro e w' ⟨c', he, hs⟩;exact ⟨c', he, ⟨hs.os, hs.tape, hs.output, hs.size, hs.col, fun k hk hn => hs.keep k hk (by simp)⟩, l9.nil _ _ _⟩
  | some S =>
    obtain ⟨I, h7, hI, g, A0, c0, A1, c1, A2, c2, A5, c5, A6, c6, hv, hb, h0, h1, h2, h5, h6⟩ := l9.open_ HP0;subst hv;dsimp only [Add.o] at H;obtain ⟨⟨q1, q2, q3, q4, q5, q6, q7⟩, A, H⟩ := bnd H;simp only [Option.some.injEq, Prod.mk.injEq] at H;obtain ⟨rfl, rfl, rfl⟩ := H;have cr : ∀ i j, I i = j → pG 1 3 2 4 0 0 (I i) = pG 1 3 2 4 0 0 j := fun i j e => by rw [e]
    refine (iR.calls k g A0 c0 S.f0 A1 c1 S.f1 A2 c2 S.f2 S.f3 S.f4 A5 c5 S.f5 A6 c6 S.f6 S.f7.f0 a1 a2 a3 q1 q2 q3 q4 q5 q6 q7 (fun k => pG 1 3 2 4 0 0 (I k)) w (fun k => by
        have : ∀ i, i < 7 → pG 1 3 2 4 0 0 i < 10 := by decide
        exact this _ (h7 k))
      ⟨cr g 1 hb.1, hb.2⟩ (h0.1.move (fun k _ e => cr k 2 e) (fun _ _ _ => rfl)).own h0.2 (h1.1.move (fun k _ e => cr k 3 e) (fun _ _ _ => rfl)).own h1.2 (h2.1.move (Nat.le_refl _) (fun k _ e => cr k 4 e) (fun _ _ _ => rfl)) h2.2 (h5.1.ft (fun k _ e => cr k 5 e)) h5.2 (h6.1.ft (fun k _ e => cr k 6 e)) h6.2 A).mono ?_
    rintro e w' ⟨c', B0, d0, B1, d1, B2, d2, he, hs, o0, l0, o1, l1, o2, l2, hb'⟩;have hcol : ∀ k, k < w.heap.size → c' k = pG 1 3 2 4 0 0 (I k) := fun k hk => hs.col k hk;have hg := lu hb.2
    let I' : Nat → Nat := fun k => if k < w.heap.size then I k else pG 0 3 2 4 0 0 (c' k)
    have old : ∀ k, k < w.heap.size → I' k = I k := fun k hk => if_pos hk;have new : ∀ k, ¬ k < w.heap.size → I' k = pG 0 3 2 4 0 0 (c' k) := fun k hk => if_neg hk;have kept : ∀ k, k < w.heap.size → pG 1 3 2 4 0 0 (I k) = 0 → w'.heap[k]? = w.heap[k]? := fun k hk e => hs.keep k hk (by show pG 1 3 2 4 0 0 (I k) ∉ [1, 2, 3, 4]; rw [e]; simp);have own' : ∀ (a b : Nat), (∀ i, i < 7 → pG 1 3 2 4 0 0 i = a → i = b) → pG 0 3 2 4 0 0 a = b → ∀ k, k < w'.heap.size → c' k = a → I' k = b := fun a b h1 h2 k _ e => by
      by_cases hk : k < w.heap.size
      · rw [old k hk]; exact h1 _ (h7 k) ((hcol k hk).symm.trans e)
      · rw [new k hk, e]; exact h2
    obtain ⟨st, ft⟩ := l9.close (C := c) (m := 1) (I' := I') (S' := ⟨q3, q4, q5, q6, q7, S.f5, S.f6, S.f7⟩) (v' := .pointer (some ⟨g, 0, none⟩)) hs.os hs.tape hs.output hs.size (fun k => by
        by_cases hk : k < w.heap.size
        · rw [old k hk]; exact h7 k
        · rw [new k hk]; unfold pG; split <;> decide) (fun k hk h => (hI k (by rw [← old k hk]; exact h)).2) (fun k hk hn => kept k hk (by
        have : I k = 0 := Classical.byContradiction fun h => hn (hI k h).2;rw [this]; rfl))
      ⟨rfl, ⟨(old g hg).trans hb.1, hb'.2⟩, ⟨(rX.of (fun _ _ _ _ h_ => h_) o0).move (own' 3 2 (by decide) rfl) (fun _ _ _ => rfl), l0⟩, ⟨(rX.of (fun _ _ _ _ h_ => h_) o1).move (own' 2 3 (by decide) rfl) (fun _ _ _ => rfl), l1⟩, ⟨o2.move (Nat.le_refl _) (own' 4 4 (by decide) rfl) (fun _ _ _ => rfl), l2⟩, ⟨h5.1.move (fun k hk e => (old k hk).trans e) (fun k hk e => kept k hk (by rw [e]; rfl)), h5.2⟩, ⟨h6.1.move (fun k hk e => (old k hk).trans e) (fun k hk e => kept k hk (by rw [e]; rfl)), h6.2⟩⟩
    exact ⟨_, he, st, ft⟩
theorem l9.ptr {C : Nat → Nat} {W : World} {v : Value} {x : Option S74} (h : Ft C [1] W (fun w => l9 w v x)) : Ft (fun k => if C k = 1 then 0 else 9) [0] W (fun w_ => (Kd.ptr 74 k74).K w_ x [v]) := by
  cases x with
  | none =>
    obtain rfl : v = .pointer none := h.now;exact uK _ _ _ _ _
  | some S =>
    obtain ⟨I, h7, hI, g, A0, c0, A1, c1, A2, c2, A5, c5, A6, c6, hv, hb, h0, h1, h2, h5, h6⟩ := l9.open_ h;subst hv;have z : ∀ k i, i ≠ 0 → I k = i → (if C k = 1 then 0 else 9) = 0 := fun k i hi e => if_pos (hI k (by rw [e]; exact hi)).2;have hbx : Bx (fun k => if C k = 1 then 0 else 9) 0 W g 74 _ := ⟨z g 1 (by decide) hb.1, hb.2⟩;refine pF (hbx.ft.more rfl) (oQ _ _ S h0.2 (h0.1.ft (fun k _ e => z k 2 (by decide) e)) h1.2 (h1.1.ft (fun k _ e => z k 3 (by decide) e)) h2.2 ?_ h5.2 (h5.1.ft (fun k _ e => z k 5 (by decide) e)) h6.2 (h6.1.ft (fun k _ e => z k 6 (by decide) e)));obtain ⟨g2, vs, c, hv2, hl2, hm2, hb2, hle2, hin⟩ := h2.1;have h2' : RR (fun k => if C k = 1 then 0 else 9) 0 W .i64 47 3 (.slice A2 S.f2.length c2) S.f2 := h2.1.move (Nat.le_refl _) (fun k _ e => z k 4 (by decide) e) (fun _ _ _ => rfl);exact nI.mono h2'.ft (fun k hk => by simpa using hk)
def Flow.o (x : Option S74) (a1 : Int) : Option (Int × Option S74) := (lV.f x a1).bind fun r => some (r, x)
theorem Flow.oc (v : Value) (x : Option S74) (a1 : Int) (r : Int) (x' : Option S74) (c : Nat → Nat) (w : World) (hc : ∀ k, c k < 10) (HP0 : Ft c [1] w (fun w_ => l9 w_ v x)) (H : Flow.o x a1 = some (r, x')) :
    Calls Try.prog 18 #[v, .int .i64 a1] w fun e w' => ∃ (c' : Nat → Nat), e = .returned (.int .i64 r) ∧ Step c w c' w' [1] ∧ Ft c' [1] w' (fun w_ => l9 w_ v x') := by
  unfold Flow.o at H;obtain ⟨q, A, H⟩ := bnd  H;simp only [Option.some.injEq, Prod.mk.injEq] at H;obtain ⟨rfl, rfl⟩ := H;refine (lV.calls v x a1 q (fun k => if c k = 1 then 0 else 9) w (fun k => by split <;> decide) (l9.ptr HP0) A).mono ?_;rintro e w' ⟨c', he, hs⟩;have st : Step c w (ext c w.heap.size 9) w' [] := ⟨hs.os, hs.tape, hs.output, hs.size, fun k hk => lZ c hk, fun k hk hn => hs.keep k hk (by simp)⟩;exact ⟨_, he, ⟨st.os, st.tape, st.output, st.size, st.col, fun k hk hn => st.keep k hk (by simp)⟩, HP0.iE st rfl⟩
def CQ.o (x : Option S74) : Option (Int × Option S74) := (lJ.f x).bind fun r => some (r, x)
theorem CQ.oc (v : Value) (x : Option S74) (r : Int) (x' : Option S74) (c : Nat → Nat) (w : World) (hc : ∀ k, c k < 10) (HP0 : Ft c [1] w (fun w_ => l9 w_ v x)) (H : CQ.o x = some (r, x')) :
    Calls Try.prog 23 #[v] w fun e w' => ∃ (c' : Nat → Nat), e = .returned (.int .i64 r) ∧ Step c w c' w' [1] ∧ Ft c' [1] w' (fun w_ => l9 w_ v x') := by
  unfold CQ.o at H;obtain ⟨q, A, H⟩ := bnd  H;simp only [Option.some.injEq, Prod.mk.injEq] at H;obtain ⟨rfl, rfl⟩ := H;refine (lJ.calls v x q (fun k => if c k = 1 then 0 else 9) w (fun k => by split <;> decide) (l9.ptr HP0) A).mono ?_;rintro e w' ⟨c', he, hs⟩;have st : Step c w (ext c w.heap.size 9) w' [] := ⟨hs.os, hs.tape, hs.output, hs.size, fun k hk => lZ c hk, fun k hk hn => hs.keep k hk (by simp)⟩;exact ⟨_, he, ⟨st.os, st.tape, st.output, st.size, st.col, fun k hk hn => st.keep k hk (by simp)⟩, HP0.iE st rfl⟩
def Steps.o (x : Option S74) : Option (Int × Option S74) := (lK.f x).bind fun r => some (r, x)
theorem Steps.oc (v : Value) (x : Option S74) (r : Int) (x' : Option S74) (c : Nat → Nat) (w : World) (hc : ∀ k, c k < 10) (HP0 : Ft c [1] w (fun w_ => l9 w_ v x)) (H : Steps.o x = some (r, x')) :
    Calls Try.prog 24 #[v] w fun e w' => ∃ (c' : Nat → Nat), e = .returned (.int .i64 r) ∧ Step c w c' w' [1] ∧ Ft c' [1] w' (fun w_ => l9 w_ v x') := by
  unfold Steps.o at H;obtain ⟨q, A, H⟩ := bnd  H;simp only [Option.some.injEq, Prod.mk.injEq] at H;obtain ⟨rfl, rfl⟩ := H;refine (lK.calls v x q (fun k => if c k = 1 then 0 else 9) w (fun k => by split <;> decide) (l9.ptr HP0) A).mono ?_;rintro e w' ⟨c', he, hs⟩;have st : Step c w (ext c w.heap.size 9) w' [] := ⟨hs.os, hs.tape, hs.output, hs.size, fun k hk => lZ c hk, fun k hk hn => hs.keep k hk (by simp)⟩;exact ⟨_, he, ⟨st.os, st.tape, st.output, st.size, st.col, fun k hk hn => st.keep k hk (by simp)⟩, HP0.iE st rfl⟩
def New.j0 (a0 : Int) (x42 : Bool) : Option ((Option S74)) := if x42 = true then (some (none : Option S74)) else (if 0 < a0 then (if (a0 : Int).toNat * 24 ≤ 281474976710656 then ((some (List.replicate (a0 : Int).toNat [] : List (List Int))).bind fun y50 => (some (some (⟨([] : List (S78)), ([] : List Int), y50, 0, false, ([] : List Int), ([] : List Int), (⟨0⟩ : S72)⟩ : S74) : Option S74))) else (none)) else (none))
def New.f (a0 : Int) : Option ((Option S74)) := if a0 < 1 then (New.j0 a0 true) else (New.j0 a0 (decide (a0 > 65536)))
theorem New.oc (a0 : Int) (r : Option S74) (c : Nat → Nat) (w : World) (hc : ∀ k, c k < 10)  (H : New.f a0 = some r) :
    Calls Try.prog 15 #[.int .i64 a0] w fun e w' => ∃ (c' : Nat → Nat) (v_r : Value), e = .returned (v_r) ∧ Step c w c' w' [] ∧ Ft c' [5] w' (fun w_ => l9 w_ v_r r) := by
 unfold New.f at H;have HS := Step.refl c w []
 go_enter Try.func15, Try.ntmps15
 refine wp_seq_k fun K34 hK34 => ?_;refine gG ?_;refine st (.pointer none) rfl rfl (iq _ rfl rfl) ?_;refine gK ?_;(try simp only [ls0, ls1]);refine hK34 _ _ ?_;(try clear hK34 K34);refine wp_seq_k fun K35 hK35 => ?_;refine wp_seq_k fun K36 hK36 => ?_;have hj38 : ∀ (C39 : Nat → Nat) (w40 : World) (x42 : Bool) (g_ : Nat → Value), Step c w C39 w40 [] → New.j0 a0 x42 = some r → K36 ⟨#[.int .i64 a0, (g_ 1), (g_ 2), (g_ 3), (g_ 4), (g_ 5), (g_ 6), (g_ 7), .bool x42, (g_ 9), (g_ 10), (g_ 11), (g_ 12)], []⟩ w40 := by
  intro C39 w40 x42 g_ HS41  H;unfold New.j0 at H;refine hK36 _ _ ?_;(try clear hK36);by_cases c45 : x42 = true
  ·rw [if_pos c45] at H;(try rw [c45]);refine wp_cond_true rfl ?_;refine wp_seq_k fun K46 hK46 => ?_;refine gG ?_;refine st (.pointer none) rfl rfl (iq _ rfl rfl) ?_;refine gK ?_;(try simp only [ls0, ls1]);refine hK46 _ _ ?_;(try clear hK46 K46);refine wp_ret ?_;(try simp only [Exit.inBlock, Exit.then, Exit.noGoto]);(try simp only [ls0, ls1]);obtain rfl := Option.some.inj H;refine bodyPost_ret (results_tmp rfl _ _ _) rfl ?_;exact ⟨_, (.pointer none), rfl, HS41, l9.nil _ _ _⟩
  rw [if_neg c45] at H;(try rw [(Bool.eq_false_iff.mpr c45)]);refine wp_cond_false rfl ?_;refine wp_skip ?_;(try simp only [ls0, ls1]);refine hK35 _ _ ?_;(try clear hK35 K35);refine wp_seq_k fun K47 hK47 => ?_;refine gG ?_;refine mv_ rfl ?_;obtain ⟨c48, H⟩ := iG H;obtain ⟨c49, H⟩ := iG H;obtain ⟨y50, A51, H⟩ := bnd H;refine Own.make (Kd.raw 1) (C := C39) (i := 11) rfl 47 rfl 66 _ _ rfl a0 rfl rfl Try.underlying66 (.slice none 0 0) 24 mM rfl (by decide) (by decide) [.slice none 0 0] (fun _ _ => ⟨rfl, rfl, fun u_ hu_ => (show u_ = .slice none 0 0 by simpa [Value.cells] using hu_) ▸ rfl⟩) (by first | decide | assumption | omega) (by first | decide | assumption | omega) rfl ?_;intro A52 cp53 w54 C55 HO56 HC57 hs58;have HR59 := RR.vU .i64 3 HO56 (by omega) (by omega);have hn60 : (List.replicate (a0 : Int).toNat ([.slice none 0 0] : List Value)).length = y50.length := by rw [← Option.some.inj A51, List.length_replicate, List.length_replicate]
  rw [hn60] at HR59 HC57 ⊢;rw [Option.some.inj A51] at HR59;clear HO56;replace HS41 := HS41.trans hs58 hc rfl;(try simp only [Act.put, List.setIfInBounds_toArray, ls0, ls1]);refine st (.agg #[.slice none 0 0, .slice none 0 0, .slice A52 y50.length cp53, .int .i64 0, .bool false, .slice none 0 0, .slice none 0 0, .int .i64 0]) rfl rfl (mg #[(2, .slice A52 y50.length cp53)] (.agg #[.slice none 0 0, .slice none 0 0, .slice A52 y50.length cp53, .int .i64 0, .bool false, .slice none 0 0, .slice none 0 0, .int .i64 0]) rfl (mp_ rfl) (by first | rfl | (go_simp; done) | (go_simp; rfl) | (go_simp; exact jB _) | (go_simp; exact jC _))) ?_;refine kP (C := C55) 74 ([.slice none 0 0, .slice none 0 0, .slice A52 y50.length cp53, .int .i64 0, .bool false, .slice none 0 0, .slice none 0 0, .int .i64 0]) 12 rfl rfl (by first | (go_simp; done) | (go_simp; rfl)) ?_;intro g61 w62 C63 HX64 hs65;replace HR59 := HR59.iE hs65 rfl;replace HS41 := HS41.trans hs65 hc rfl;(try simp only [Act.put, List.setIfInBounds_toArray, ls0, ls1]);refine as_ rfl ?_;refine gK ?_;(try simp only [ls0, ls1]);refine hK47 _ _ ?_;(try clear hK47 K47);refine wp_ret ?_;(try simp only [Exit.inBlock, Exit.then, Exit.noGoto]);(try simp only [ls0, ls1]);obtain rfl := Option.some.inj H;refine bodyPost_ret (results_tmp rfl _ _ _) rfl ?_;have hgn : ∀ k, k < w.heap.size → k ≠ g61 := fun k hk e => by
    have h1 := HS41.col k hk;have h2 := hc k;rw [e, HX64.1] at h1;rw [← e] at h1;omega
  have hne : ∀ k, C63 k = 11 → k ≠ g61 := fun k h e => by
    rw [e, HX64.1] at h
    cases h
  have hld : ∀ k, k < w.heap.size → C63 k ≠ 11 := fun k hk e => by
    have h1 := HS41.col k hk;have h2 := hc k;omega
  let I : Nat → Nat := fun k => if k = g61 then 1 else if C63 k = 11 then 4 else 0
  have hI0 : ∀ k, k < w.heap.size → I k = 0 := fun k hk => by
    show (if _ then _ else _) = 0;rw [if_neg (hgn k hk), if_neg (hld k hk)]
  obtain ⟨_, ft⟩ := l9.close (C := c) (m := 5) (W := w) (w' := w62) (I' := I) (S' := (⟨([] : List (S78)), ([] : List Int), y50, 0, false, ([] : List Int), ([] : List Int), (⟨0⟩ : S72)⟩ : S74)) (v' := .pointer (some ⟨g61, 0, none⟩)) (g := g61) (A0 := none) (c0 := 0) (A1 := none) (c1 := 0) (A2 := A52) (c2 := cp53) (A5 := none) (c5 := 0) (A6 := none) (c6 := 0) HS41.os HS41.tape HS41.output HS41.size (fun k => by
      show (if _ then _ else _) < 7;split
      · decide
      · split <;> decide) (fun k hk h => absurd (hI0 k hk) h) (fun k hk _ => HS41.keep k hk (by simp))
    ⟨rfl, ⟨if_pos rfl, HX64.2⟩, ⟨⟨fun k hk => by simp [Value.ownBlock] at hk, Kd.yZ _ _ _ _ _⟩, Nat.le_refl 0⟩, ⟨⟨fun k hk => by simp [Value.ownBlock] at hk, Kd.yZ _ _ _ _ _⟩, Nat.le_refl 0⟩, ⟨HR59.move (Nat.le_refl _) (fun k _ e => by show (if _ then _ else _) = 4; rw [if_neg (hne k e), if_pos e]) (fun _ _ _ => rfl), HC57⟩, ⟨⟨fun k hk => by simp [Value.ownBlock] at hk, Kd.yZ _ _ _ _ _⟩, Nat.le_refl 0⟩, ⟨⟨fun k hk => by simp [Value.ownBlock] at hk, Kd.yZ _ _ _ _ _⟩, Nat.le_refl 0⟩⟩
  exact ⟨ext c w.heap.size 5, (.pointer (some ⟨g61, 0, none⟩)), rfl, ⟨HS41.os, HS41.tape, HS41.output, HS41.size, fun k hk => lZ c hk, HS41.keep⟩, ft⟩
 refine gG ?_;refine mv_ rfl ?_;refine st (.bool (decide (a0 < 1))) rfl rfl (iD _ _ _ rfl rfl rfl (B.jw _ _)) ?_;refine mv_ rfl ?_;by_cases c69 : a0 < 1
 ·rw [if_pos c69] at H;(try rw [(decide_eq_true c69)]);refine gI (gB 2 false 5 rfl rfl true (by decide) rfl) rfl ?_;simp only [ls0, ls1];refine gI (gB 2 false 5 rfl rfl true (by decide) rfl) rfl ?_;refine st (.bool true) rfl rfl (ig true _ rfl rfl rfl) ?_;refine gK ?_;(try simp only [ls0, ls1]);exact jmp (fun g_ => hj38 _ _ (true) g_ HS H) rfl
 rw [if_neg c69] at H;(try rw [(decide_eq_false c69)]);refine gQ (gJ 2 false 5 rfl rfl rfl) ?_;refine mv_ rfl ?_;refine gQ (gJ 2 false 5 rfl rfl rfl) ?_;refine st (.bool (decide (a0 > 65536))) rfl rfl (iD _ _ _ rfl rfl rfl (B.jQ _ _)) ?_;refine st (.bool (decide (a0 > 65536))) rfl rfl (ig false _ rfl rfl rfl) ?_;refine gK ?_;(try simp only [ls0, ls1]);exact jmp (fun g_ => hj38 _ _ (decide (a0 > 65536)) g_ HS H) rfl
theorem l9.isNone {C : Nat → Nat} {Z : List Nat} {W : World} {v : Value} (h : Ft C Z W (fun w => l9 w v none)) : v = .pointer none := h.now
theorem l9.isSome {C : Nat → Nat} {Z : List Nat} {W : World} {v : Value} {S : S74} (h : Ft C Z W (fun w => l9 w v (some S))) : ∃ g, v = .pointer (some ⟨g, 0, none⟩) := by
  obtain ⟨I, _, g, A0, c0, A1, c1, A2, c2, A5, c5, A6, c6, hv, _⟩ := h.now;exact ⟨g, hv⟩
end Go.Proofs.Ytdkbmchbkkhpoaa.PMfr
