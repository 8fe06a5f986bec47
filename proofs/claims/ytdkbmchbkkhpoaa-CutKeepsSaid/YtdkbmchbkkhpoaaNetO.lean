import Derived.Test.YtdkbmchbkkhpoaaPMfrx0
import Derived.Test.YtdkbmchbkkhpoaaCRows
set_option linter.unusedVariables false
set_option linter.unusedSimpArgs false
namespace Go.Proofs.Ytdkbmchbkkhpoaa.PMfr
open Go.RowKit Go.Proofs.YtdkbmchbkkhpoaaW.PrintWords Go.Proofs.YtdkbmchbkkhpoaaW.PrintLast Go.Proofs.YtdkbmchbkkhpoaaW.PrintMore
def rX {α : Type} (C : Nat → Nat) (i : Nat) (W : World) (d : Kd α) (e : Nat) (v : Value) (xs : List α) : Prop := (∀ k, v.ownBlock = some k → C k = i) ∧ Kd.N d e W 0 (fun k => C k = i) v xs
namespace rX
variable {α : Type} {d : Kd α} {e : Nat} {C c' : Nat → Nat} {i j : Nat} {W w' : World} {v : Value} {xs : List α}
theorem own (h : rX C i W d e v xs) : Own C i W d e v xs := ⟨h.1, Kd.rQ h.2 (fun k hk => .inl hk)⟩
theorem of (hf : ∀ W W' x c, d.K W x c → d.K W' x c) (h : Own C i W d e v xs) : rX C i W d e v xs := by
  obtain ⟨h1, h2, rows, hl, hR, hk⟩ := h;exact ⟨h1, h1, rows, hl, hR, fun j x c hx hc => fun W' _ => hf _ _ _ _ (Kd.ng (hk j x c hx hc))⟩
theorem move (h : rX C i W d e v xs) (hc : ∀ k, k < W.heap.size → C k = i → c' k = j) (hm : ∀ k, k < W.heap.size → C k = i → w'.heap[k]? = W.heap[k]?) : rX c' j w' d e v xs := by
  have hlt := Kd.Ee h.2;exact ⟨fun k hk => hc k (hlt k hk) (h.1 k hk), Kd.rQ (Kd.y7 (Kd.y5 h.2) (fun k hk hl => hm k hk.2 hk.1)) (fun k hk => hc k hk.2 hk.1)⟩
theorem typed {k : Nat} (h : rX C i W d e v xs) (hk : v.ownBlock = some k) : ∃ cells, W.heap[k]? = some (.cells cells e (0, 0)) := by
  obtain ⟨_, rows, _, ⟨_, inner, ho, _⟩, _⟩ := h.2;rcases ho.2 with ⟨rfl, _⟩ | ⟨g, cap, cur, rfl, _, hh, _⟩
  · simp [Value.ownBlock] at hk
  · have : g = k := by simpa [Value.ownBlock] using hk
    rw [← this]; exact ⟨cur, hh⟩
theorem lt (h : rX C i W d e v xs) {k : Nat} (hk : v.ownBlock = some k) : k < W.heap.size := Kd.Ee h.2 k hk
theorem ft {A : Option Addr} {n c : Nat} (h : rX C i W d e (.slice A n c) xs) {C' : Nat → Nat} {z : Nat} (hz : ∀ k, k < W.heap.size → C k = i → C' k = z) : Ft C' [z] W (fun w => d.C w A n xs) := by
  have h1 : nI (fun w => d.C w A n xs) W (fun k => C k = i ∧ k < W.heap.size) := nI.bound (Kd.N_F h.2);exact nI.mono h1 (fun k hk => by show C' k ∈ [z]; rw [hz k hk.2 hk.1]; simp)
end rX
def Bf (I : Nat → Nat) (W : World) (v : Value) (S : S74) (g : Nat) (A0 : Option Addr) (c0 : Nat) (A1 : Option Addr) (c1 : Nat) (A2 : Option Addr) (c2 : Nat) (A5 : Option Addr) (c5 : Nat) (A6 : Option Addr) (c6 : Nat) : Prop :=
  v = .pointer (some ⟨g, 0, none⟩) ∧ Bx I 1 W g 74 ([.slice A0 S.f0.length c0, .slice A1 S.f1.length c1, .slice A2 S.f2.length c2, .int .i64 S.f3, .bool S.f4, .slice A5 S.f5.length c5, .slice A6 S.f6.length c6, .int .i64 S.f7.f0]) ∧
  (rX I 2 W k78 78 (.slice A0 S.f0.length c0) S.f0 ∧ S.f0.length ≤ c0) ∧ (rX I 3 W (Kd.int .i64) 2 (.slice A1 S.f1.length c1) S.f1 ∧ S.f1.length ≤ c1) ∧ (RR I 4 W .i64 47 3 (.slice A2 S.f2.length c2) S.f2 ∧ S.f2.length ≤ c2) ∧
  (rX I 5 W (Kd.int .i64) 3 (.slice A5 S.f5.length c5) S.f5 ∧ S.f5.length ≤ c5) ∧ (rX I 6 W (Kd.int .i64) 3 (.slice A6 S.f6.length c6) S.f6 ∧ S.f6.length ≤ c6)
def l9 (W : World) (v : Value) (x : Option S74) : Prop :=
  match x with
  | none => v = .pointer none
  | some S => ∃ I, (∀ k, I k < 7) ∧ ∃ g A0 c0 A1 c1 A2 c2 A5 c5 A6 c6, Bf I W v S g A0 c0 A1 c1 A2 c2 A5 c5 A6 c6
theorem l9.nil (C : Nat → Nat) (Z : List Nat) (W : World) : Ft C Z W (fun w => l9 w (.pointer none) none) := fun _ _ => rfl
section
variable {I I' C : Nat → Nat} {W w' : World} {v : Value} {S : S74} {g : Nat} {A0 A1 A2 A5 A6 : Option Addr} {c0 c1 c2 c5 c6 m : Nat}
theorem Bf.move (h : Bf I W v S g A0 c0 A1 c1 A2 c2 A5 c5 A6 c6) (hs : W.heap.size ≤ w'.heap.size) (hc : ∀ k, k < W.heap.size → I k ≠ 0 → I' k = I k) (hm : ∀ k, k < W.heap.size → I k ≠ 0 → w'.heap[k]? = W.heap[k]?) : Bf I' w' v S g A0 c0 A1 c1 A2 c2 A5 c5 A6 c6 := by
  obtain ⟨hv, hb, h0, h1, h2, h5, h6⟩ := h;have hc' : ∀ (i : Nat), i ≠ 0 → ∀ k, k < W.heap.size → I k = i → I' k = i := fun i hi k hk e => (hc k hk (by rw [e]; exact hi)).trans e;have hm' : ∀ (i : Nat), i ≠ 0 → ∀ k, k < W.heap.size → I k = i → w'.heap[k]? = W.heap[k]? := fun i hi k hk e => hm k hk (by rw [e]; exact hi);have hlt := lu hb.2;exact ⟨hv, ⟨hc' 1 (by decide) g hlt hb.1, (hm' 1 (by decide) g hlt hb.1).trans hb.2⟩, ⟨h0.1.move (hc' 2 (by decide)) (hm' 2 (by decide)), h0.2⟩, ⟨h1.1.move (hc' 3 (by decide)) (hm' 3 (by decide)), h1.2⟩, ⟨h2.1.move hs (hc' 4 (by decide)) (hm' 4 (by decide)), h2.2⟩, ⟨h5.1.move (hc' 5 (by decide)) (hm' 5 (by decide)), h5.2⟩, ⟨h6.1.move (hc' 6 (by decide)) (hm' 6 (by decide)), h6.2⟩⟩
def weird (W : World) (b : Nat) : World := { W with heap := W.heap.setIfInBounds b (.cells #[] 0 (1, 1)) }
theorem uP {b k : Nat} (h : k ≠ b) : (weird W b).heap[k]? = W.heap[k]? := by
  unfold weird;simp only [Array.getElem?_setIfInBounds];rw [if_neg (fun e => h e.symm)]
theorem qo {b e : Nat} {cells : Array Value} : (weird W b).heap[b]? ≠ some (.cells cells e (0, 0)) := by
  unfold weird;simp only [Array.getElem?_setIfInBounds, if_true];split
  · intro h; injection h with h; injection h with _ _ h; injection h with h _; cases h
  · intro h; cases h
theorem l9.open_ (h : Ft C [m] W (fun w => l9 w v (some S))) : ∃ I, (∀ k, I k < 7) ∧ (∀ k, I k ≠ 0 → k < W.heap.size ∧ C k = m) ∧ ∃ g A0 c0 A1 c1 A2 c2 A5 c5 A6 c6, Bf I W v S g A0 c0 A1 c1 A2 c2 A5 c5 A6 c6 := by
  obtain ⟨I, hI, g, A0, c0, A1, c1, A2, c2, A5, c5, A6, c6, hp⟩ := h.now;have other : ∀ b, C b ≠ m → ∃ I' g' A0' c0' A1' c1' A2' c2' A5' c5' A6' c6', Bf I' (weird W b) v S g' A0' c0' A1' c1' A2' c2' A5' c5' A6' c6' := by
    intro b hb;obtain ⟨I', _, r⟩ := h (weird W b) (fun k hk _ => uP (fun e => hb (by rw [← e]; simpa using hk)));exact ⟨I', r⟩
  obtain ⟨hv, hb, h0, h1, h2, h5, h6⟩ := hp;have gm : C g = m := Classical.byContradiction fun hne => by
    obtain ⟨I', g', A0', c0', A1', c1', A2', c2', A5', c5', A6', c6', hv', hb', _⟩ := other g hne;rw [hv] at hv'
    injection hv' with hv'
    injection hv' with hv'
    injection hv' with hv' _ _
    rw [← hv'] at hb';exact qo hb'.2
  have same : ∀ b, C b ≠ m → ∃ I', Bf I' (weird W b) v S g A0 c0 A1 c1 A2 c2 A5 c5 A6 c6 := by
    intro b hne;obtain ⟨I', g', A0', c0', A1', c1', A2', c2', A5', c5', A6', c6', hv', hb', r⟩ := other b hne;have hgb : g ≠ b := fun e => hne (e ▸ gm);have e1 : g' = g := by
      rw [hv] at hv'
      injection hv' with hv'
      injection hv' with hv'
      injection hv' with hv' _ _
      exact hv'.symm
    subst e1;have e2 := hb'.2;rw [uP hgb, hb.2] at e2
    injection e2 with e2
    injection e2 with e2 _ _
    have e2 := List.toArray_inj e2;simp only [List.cons.injEq, Value.slice.injEq, true_and, and_true] at e2;obtain ⟨⟨rfl, rfl⟩, ⟨rfl, rfl⟩, ⟨rfl, rfl⟩, ⟨rfl, rfl⟩, ⟨rfl, rfl⟩⟩ := e2;exact ⟨I', hv', hb', r⟩
  have col : ∀ {α : Type} {d : Kd α} {e i : Nat} {u : Value} {xs : List α}, rX I i W d e u xs → (∀ b, C b ≠ m → ∃ I' i', rX I' i' (weird W b) d e u xs) → ∀ k, u.ownBlock = some k → C k = m := by
    intro α d e i u xs ho hw k hk;refine Classical.byContradiction fun hne => ?_;obtain ⟨I', i', ho'⟩ := hw k hne;obtain ⟨cells, hc⟩ := ho'.typed hk;exact qo hc
  have m0 := col h0.1 (fun b hne => by obtain ⟨I', _, _, r, _⟩ := same b hne; exact ⟨I', _, r.1⟩);have m1 := col h1.1 (fun b hne => by obtain ⟨I', _, _, _, r, _⟩ := same b hne; exact ⟨I', _, r.1⟩);have m5 := col h5.1 (fun b hne => by obtain ⟨I', _, _, _, _, _, r, _⟩ := same b hne; exact ⟨I', _, r.1⟩);have m6 := col h6.1 (fun b hne => by obtain ⟨I', _, _, _, _, _, _, r⟩ := same b hne; exact ⟨I', _, r.1⟩)
  let J : Nat → Nat := fun k => if k < W.heap.size ∧ C k = m then I k else 0
  have hJ : ∀ k, k < W.heap.size → C k = m → J k = I k := fun k hk hm => if_pos ⟨hk, hm⟩;have own : ∀ {α : Type} {d : Kd α} {e i : Nat} {u : Value} {xs : List α} (hf : ∀ W W' x c, d.K W x c → d.K W' x c), rX I i W d e u xs → (∀ k, u.ownBlock = some k → C k = m) → rX J i W d e u xs := by
    intro α d e i u xs hf ho hm;obtain ⟨n1, n2, rows, hl, hR, hk⟩ := ho;have q : ∀ k, u.ownBlock = some k → J k = i := fun k hk' => (hJ k (Kd.Ee ⟨n2, rows, hl, hR, hk⟩ k hk') (hm k hk')).trans (n1 k hk');exact ⟨q, q, rows, hl, hR, fun j x c hx hc => fun W' _ => hf _ _ _ _ (Kd.ng (hk j x c hx hc))⟩
  refine ⟨J, fun k => by show (if _ then _ else _) < 7; split; exact hI k; decide, fun k hk => ?_, g, A0, c0, A1, c1, A2, c2, A5, c5, A6, c6, hv, ⟨(hJ g (lu hb.2) gm).trans hb.1, hb.2⟩, ⟨own (fun _ _ _ _ h_ => h_) h0.1 m0, h0.2⟩, ⟨own (fun _ _ _ _ h_ => h_) h1.1 m1, h1.2⟩, ⟨?_, h2.2⟩, ⟨own (fun _ _ _ _ h_ => h_) h5.1 m5, h5.2⟩, ⟨own (fun _ _ _ _ h_ => h_) h6.1 m6, h6.2⟩⟩
  · refine Classical.byContradiction fun hn => hk ?_;show (if _ then _ else _) = 0;rw [if_neg hn]
  · obtain ⟨g2, vs, c, hv2, hl2, hm2, hb2, hle2, hin⟩ := h2.1;have rrw : ∀ b, C b ≠ m → b ≠ g2 → ∃ I', sQ I' 4 (weird W b) .i64 3 g2 vs S.f2 := by
      intro b hne hbg;obtain ⟨I', _, _, _, _, ⟨r, _⟩, _⟩ := same b hne;obtain ⟨g2', vs', c', hv2', hl2', hm2', hb2', hle2', hin'⟩ := r;rw [hv2] at hv2'
      injection hv2' with hv2' _ _
      injection hv2' with hv2'
      injection hv2' with hv2' _ _
      subst hv2';have e2 := hb2'.2;rw [uP (fun e => hbg e.symm), hb2.2] at e2
      injection e2 with e2
      injection e2 with e2 _ _
      have e3 := List.toArray_inj e2;subst e3;exact ⟨I', hin'⟩
    have g2m : C g2 = m := Classical.byContradiction fun hne => by
      obtain ⟨I', _, _, _, _, ⟨r, _⟩, _⟩ := same g2 hne;obtain ⟨g2', vs', c', hv2', _, _, hb2', _⟩ := r;rw [hv2] at hv2'
      injection hv2' with hv2' _ _
      injection hv2' with hv2'
      injection hv2' with hv2' _ _
      subst hv2';exact qo hb2'.2
    refine ⟨g2, vs, c, hv2, hl2, hm2, ⟨(hJ g2 (lu hb2.2) g2m).trans hb2.1, hb2.2⟩, hle2, fun i u xs hu hx => ?_⟩;obtain ⟨r1, r2, r3, r4⟩ := hin i u xs hu hx;have ty : ∀ k, u.ownBlock = some k → C k = m := fun k hk => Classical.byContradiction fun hne => by
      obtain ⟨I', hin'⟩ := rrw k hne (fun e => r2 (by rw [hk, e]));obtain ⟨_, cells, hc⟩ := (hin' i u xs hu hx).2.2.1 k hk;exact qo hc
    refine ⟨?_, r2, fun k hk => ⟨(hJ k (r3.lt hk) (ty k hk)).trans (r3 k hk).1, (r3 k hk).2⟩, r4⟩;rcases r1 with ⟨g', off, cap, cur, he, hi, hh, r⟩ | r
    · by_cases hgm : C g' = m
      · exact .inl ⟨g', off, cap, cur, he, (hJ g' (lu hh) hgm).trans hi, hh, r⟩
      · obtain ⟨I', hin'⟩ := rrw g' hgm (fun e => r2 (by rw [he, ← e]; rfl));rcases (hin' i u xs hu hx).1 with ⟨g'', off', cap', cur', he', _, hh', _⟩ | ⟨A, he', _, hbb⟩
        · rw [he] at he'
          injection he' with he' _ _
          injection he' with he'
          injection he' with he' _ _
          subst he';exact absurd hh' qo
        · rcases hbb with hbb | rfl
          · cases hbb
          · exact .inr ⟨A, he', fun W' _ => ⟨rfl, by simp, fun h => absurd h (by simp)⟩, .inr rfl⟩
    · obtain ⟨A, he, _, hbb⟩ := r;rcases hbb with hbb | rfl
      · cases hbb
      · exact .inr ⟨A, he, fun W' _ => ⟨rfl, by simp, fun h => absurd h (by simp)⟩, .inr rfl⟩
theorem l9.close {S' : S74} {v' : Value} (hos : w'.os = W.os) (htape : w'.tape = W.tape) (hout : w'.output = W.output) (hs : W.heap.size ≤ w'.heap.size) (h7 : ∀ k, I' k < 7) (hI : ∀ k, k < W.heap.size → I' k ≠ 0 → C k = m) (hk : ∀ k, k < W.heap.size → C k ≠ m → w'.heap[k]? = W.heap[k]?) (hp : Bf I' w' v' S' g A0 c0 A1 c1 A2 c2 A5 c5 A6 c6) :
    Step C W (ext C W.heap.size m) w' [m] ∧ Ft (ext C W.heap.size m) [m] w' (fun w => l9 w v' (some S')) := by
  refine ⟨⟨hos, htape, hout, hs, fun k hk' => lZ C hk', fun k hk' hn => hk k hk' (by simpa using hn)⟩, fun W' hW => ⟨fun k => if k < w'.heap.size then I' k else 0, fun k => ?_, g, A0, c0, A1, c1, A2, c2, A5, c5, A6, c6, ?_⟩⟩
  · show (if _ then _ else _) < 7;split
    · exact h7 k
    · decide
  · have hb : ∀ k, I' k ≠ 0 → k < w'.heap.size → W'.heap[k]? = w'.heap[k]? := fun k h0 hlt => hW k (by
      show ext C W.heap.size m k ∈ [m];by_cases hk' : k < W.heap.size
      · rw [lZ C hk', hI k hk' h0]; simp
      · rw [nP C (by omega)]; simp) hlt
    obtain ⟨hv, hbx, h0, h1, h2, h5, h6⟩ := hp;have hc' : ∀ (i : Nat), i ≠ 0 → ∀ k, k < w'.heap.size → I' k = i → (fun k => if k < w'.heap.size then I' k else 0) k = i := fun i _ k hk' e => by show (if _ then _ else _) = i; rw [if_pos hk']; exact e
    have hm' : ∀ (i : Nat), i ≠ 0 → ∀ k, k < w'.heap.size → I' k = i → W'.heap[k]? = w'.heap[k]? := fun i hi k hk' e => hb k (by rw [e]; exact hi) hk';have hlt := lu hbx.2;refine ⟨hv, ⟨hc' 1 (by decide) g hlt hbx.1, (hm' 1 (by decide) g hlt hbx.1).trans hbx.2⟩, ⟨h0.1.move (hc' 2 (by decide)) (hm' 2 (by decide)), h0.2⟩, ⟨h1.1.move (hc' 3 (by decide)) (hm' 3 (by decide)), h1.2⟩, ⟨?_, h2.2⟩, ⟨h5.1.move (hc' 5 (by decide)) (hm' 5 (by decide)), h5.2⟩, ⟨h6.1.move (hc' 6 (by decide)) (hm' 6 (by decide)), h6.2⟩⟩;obtain ⟨g2, vs, c, hv2, hl2, hm2, hb2, hle2, hin⟩ := h2.1;have hlt2 := lu hb2.2;refine ⟨g2, vs, c, hv2, hl2, hm2, ⟨hc' 4 (by decide) g2 hlt2 hb2.1, (hm' 4 (by decide) g2 hlt2 hb2.1).trans hb2.2⟩, hle2, fun i u xs hu hx => ?_⟩;obtain ⟨r1, r2, r3, r4⟩ := hin i u xs hu hx;refine ⟨?_, r2, r3.keep (fun k _ hlt e => hc' 4 (by decide) k hlt e) (fun k hv hlt => hm' 4 (by decide) k hlt (r3 k hv).1), r4⟩;rcases r1 with ⟨g', off, cap, cur, he, hi, hh, r⟩ | ⟨A, he, _, hbb⟩
    · exact .inl ⟨g', off, cap, cur, he, hc' 4 (by decide) g' (lu hh) hi, (hm' 4 (by decide) g' (lu hh) hi).trans hh, r⟩
    · rcases hbb with hbb | rfl
      · cases hbb
      · exact .inr ⟨A, he, fun W' _ => ⟨rfl, by simp, fun h => absurd h (by simp)⟩, .inr rfl⟩
end
end Go.Proofs.Ytdkbmchbkkhpoaa.PMfr
