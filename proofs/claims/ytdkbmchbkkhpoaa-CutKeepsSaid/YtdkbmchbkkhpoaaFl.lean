import Derived.Test.YtdkbmchbkkhpoaaNetC
import Derived.Laws.BitsLemmas
import Derived.Laws.BitsAllLaws
set_option linter.unusedVariables false
set_option linter.unusedSimpArgs false
namespace Go.Proofs.Ytdkbmchbkkhpoaa.Flow
open Go.RowKit Go.Proofs.Ytdkbmchbkkhpoaa.PMfr Go.Proofs.YtdkbmchbkkhpoaaW.PrintWords Go.Proofs.YtdkbmchbkkhpoaaW.PrintLast Go.Proofs.YtdkbmchbkkhpoaaW.PrintMore
theorem wr {x : Int} (h0 : -9223372036854775808 ≤ x) (h1 : x ≤ 9223372036854775807) : wrap64 x = x := by unfold wrap64; omega
def Ev {α : Type} (F : Nat → Option α) (Q : α → Prop) : Prop := ∃ r, Q r ∧ ∃ n, ∀ k, n ≤ k → F k = some r
section
variable {α β : Type} {F : Nat → Option α} {Q : α → Prop} {R : β → Prop}
theorem Ev.sub (m : Nat) (h : Ev (fun k => F (k + m)) Q) : Ev F Q := by
  obtain ⟨r, q, n, h⟩ := h;refine ⟨r, q, n + m, fun k hk => ?_⟩;have := h (k - m) (by omega);dsimp only at this
  rwa [show k - m + m = k by omega] at this
theorem Ev.add (m : Nat) (h : Ev F Q) : Ev (fun k => F (k + m)) Q := by
  obtain ⟨r, q, n, h⟩ := h;exact ⟨r, q, n, fun k hk => h (k + m) (by omega)⟩
theorem Ev.ret {a : α} (h : Q a) : Ev (fun _ => some a) Q := ⟨a, h, 0, fun _ _ => rfl⟩
theorem Ev.bind {G : α → Nat → Option β} (h : Ev F Q) (g : ∀ a, Q a → Ev (G a) R) : Ev (fun k => (F k).bind fun x => G x k) R := by
  obtain ⟨r, q, n, h⟩ := h;obtain ⟨r', q', m, g⟩ := g r q;exact ⟨r', q', n + m, fun k hk => by dsimp only; rw [h k (by omega)]; exact g k (by omega)⟩
theorem Ev.mono {Q' : α → Prop} (h : Ev F Q) (g : ∀ a, Q a → Q' a) : Ev F Q' := by
  obtain ⟨r, q, n, h⟩ := h;exact ⟨r, g r q, n, h⟩
theorem Ev.of {f : Option α} {a : α} (h : f = some a) (q : Q a) : Ev (fun _ => f) Q := ⟨a, q, 0, fun _ _ => h⟩
theorem Ev.out (h : Ev F Q) : ∃ k r, F k = some r ∧ Q r := by
  obtain ⟨r, q, n, h⟩ := h;exact ⟨n, r, h n (Nat.le_refl n), q⟩
end
def Sm (f : Nat → Int) : Nat → Int
  | 0 => 0
  | n + 1 => Sm f n + f n
theorem Sm.congr {f g : Nat → Int} {n : Nat} (h : ∀ i, i < n → f i = g i) : Sm f n = Sm g n := by
  induction n with
  | zero => rfl
  | succ n ih => rw [Sm, Sm, ih (fun i hi => h i (by omega)), h n (by omega)]
theorem Sm.mono {f g : Nat → Int} {n : Nat} (h : ∀ i, i < n → f i ≤ g i) : Sm f n ≤ Sm g n := by
  induction n with
  | zero => exact Int.le_refl _
  | succ n ih => have := ih (fun i hi => h i (by omega)); have := h n (by omega); rw [Sm, Sm]; omega
theorem Sm.at {f g : Nat → Int} {n e : Nat} {d : Int} (he : e < n) (h : ∀ i, i < n → i ≠ e → g i = f i) (h' : g e = f e + d) : Sm g n = Sm f n + d := by
  induction n with
  | zero => omega
  | succ n ih =>
    rw [Sm, Sm];by_cases hn : e = n
    · subst hn;rw [Sm.congr (fun i hi => h i (by omega) (by omega)), h']; omega
    · rw [ih (by omega) (fun i hi => h i (by omega)), h n (by omega) (by omega)]; omega
theorem Sm.zero {f : Nat → Int} {n : Nat} (h : ∀ i, i < n → f i = 0) : Sm f n = 0 := by
  induction n with
  | zero => rfl
  | succ n ih => rw [Sm, ih (fun i hi => h i (by omega)), h n (by omega)]; rfl
theorem Sm.add {f g : Nat → Int} {n : Nat} : Sm (fun i => f i + g i) n = Sm f n + Sm g n := by
  induction n with
  | zero => rfl
  | succ n ih => rw [Sm, Sm, Sm, ih]; omega
theorem Sm.nonneg {f : Nat → Int} {n : Nat} (h : ∀ i, i < n → 0 ≤ f i) : 0 ≤ Sm f n := by
  have := Sm.mono (f := fun _ => 0) (g := f) h;rw [Sm.zero (fun _ _ => rfl)] at this;exact this
theorem Sm.one {f : Nat → Int} {n e : Nat} (h : ∀ i, i < n → 0 ≤ f i) (he : e < n) : f e ≤ Sm f n := by
  induction n with
  | zero => omega
  | succ n ih =>
    have h0 := Sm.nonneg (f := f) (n := n) (fun i hi => h i (by omega));have h1 := h n (by omega);rw [Sm];by_cases hn : e = n
    · subst hn; omega
    · have := ih (fun i hi => h i (by omega)) (by omega); omega
structure Ed where
  a : Int
  b : Int
  c : Int
abbrev Inf : Int := 4611686018427387904
def ea (E : List Ed) (e : Nat) : Int := (E.getD e ⟨0, 0, 0⟩).a
def eb (E : List Ed) (e : Nat) : Int := (E.getD e ⟨0, 0, 0⟩).b
def ec (E : List Ed) (e : Nat) : Int := (E.getD e ⟨0, 0, 0⟩).c
def hd (E : List Ed) (j : Int) : Int := if j % 2 = 0 then eb E (j / 2).toNat else ea E (j / 2).toNat
def tl (E : List Ed) (j : Int) : Int := if j % 2 = 0 then ea E (j / 2).toNat else eb E (j / 2).toNat
def rv (j : Int) : Int := if j % 2 = 0 then j + 1 else j - 1
theorem xq (j : Int) : rv j / 2 = j / 2 := by unfold rv; split <;> omega
theorem EF (j : Int) : rv j % 2 = 1 - j % 2 := by unfold rv; split <;> omega
theorem wo (j : Int) : rv (rv j) = j := by unfold rv; split <;> split <;> omega
theorem yx {j m : Int} (h : 0 ≤ j) (hj : j < 2 * m) : 0 ≤ rv j ∧ rv j < 2 * m := by unfold rv; split <;> omega
theorem FB (j : Int) : rv j ≠ j := by unfold rv; split <;> omega
theorem yA (E : List Ed) (j : Int) : hd E (rv j) = tl E j := by
  unfold hd tl; rw [xq, EF];by_cases h : j % 2 = 0
  · rw [if_pos h, if_neg (by omega)]
  · rw [if_neg h, if_pos (by omega)]
theorem zN (E : List Ed) (j : Int) : tl E (rv j) = hd E j := by rw [← yA, wo]
def fs (E : List Ed) : Int := Sm (fun e => if ec E e < Inf then ec E e else 0) E.length
structure EG (n : Int) (E : List Ed) : Prop where
  n1 : 1 ≤ n
  n2 : n ≤ 65536
  m : E.length ≤ 100000
  v : ∀ e, e < E.length → (0 ≤ ea E e ∧ ea E e < n) ∧ (0 ≤ eb E e ∧ eb E e < n) ∧ ea E e ≠ eb E e ∧ 0 ≤ ec E e ∧ ec E e ≤ Inf
  s : fs E < Inf
def rm (A : List S78) (j : Int) : Int := (iZ A j).f1
structure AG (E : List Ed) (A : List S78) : Prop where
  l : (A.length : Int) = 2 * E.length
  h : ∀ j, 0 ≤ j → j < 2 * (E.length : Int) → (iZ A j).f0 = hd E j
  r : ∀ j, 0 ≤ j → j < 2 * (E.length : Int) → 0 ≤ rm A j ∧ rm A j + rm A (rv j) = ec E (j / 2).toNat
structure TG (n : Int) (E : List Ed) (T : List (List Int)) : Prop where
  l : (T.length : Int) = n
  i : ∀ v j, 0 ≤ v → v < n → (j ∈ iW T v ↔ 0 ≤ j ∧ j < 2 * (E.length : Int) ∧ tl E j = v)
  c : ∀ v, (iW T v).length ≤ 2 * E.length
theorem EG.arc {n : Int} {E : List Ed} (h : EG n E) {j : Int} (h0 : 0 ≤ j) (h1 : j < 2 * (E.length : Int)) : 0 ≤ hd E j ∧ hd E j < n ∧ 0 ≤ tl E j ∧ tl E j < n ∧ hd E j ≠ tl E j := by
  obtain ⟨⟨a, b⟩, ⟨c, d⟩, e, _⟩ := h.v (j / 2).toNat (by omega);unfold hd tl;split
  · exact ⟨c, d, a, b, fun h => e h.symm⟩
  · exact ⟨a, b, c, d, e⟩
theorem EG.cap {n : Int} {E : List Ed} (h : EG n E) {j : Int} (h0 : 0 ≤ j) (h1 : j < 2 * (E.length : Int)) : 0 ≤ ec E (j / 2).toNat ∧ ec E (j / 2).toNat ≤ Inf := (h.v (j / 2).toNat (by omega)).2.2.2
theorem AG.le {n : Int} {E : List Ed} {A : List S78} (g : EG n E) (h : AG E A) {j : Int} (h0 : 0 ≤ j) (h1 : j < 2 * (E.length : Int)) : rm A j ≤ Inf := by
  have := h.r j h0 h1;have := (h.r (rv j) (yx h0 h1).1 (yx h0 h1).2).1;have := (g.cap h0 h1).2;omega
theorem nD {l : List Int} {i : Int} (v : Int) (hi : 0 ≤ i) (hl : i < (l.length : Int)) {j : Int} (hj : 0 ≤ j) : rd (l.set i.toNat v) j = if j = i then v else rd l j := by
  unfold rd;rw [List.getD_eq_getElem?_getD, List.getD_eq_getElem?_getD, List.getElem?_set];by_cases h : j = i
  · subst h;rw [if_pos rfl, if_pos (by omega), if_pos rfl]; rfl
  · rw [if_neg (by omega), if_neg h]
theorem qI {l : List S78} {i : Int} (v : S78) (hi : 0 ≤ i) (hl : i < (l.length : Int)) {j : Int} (hj : 0 ≤ j) : iZ (l.set i.toNat v) j = if j = i then v else iZ l j := by
  unfold iZ;rw [List.getD_eq_getElem?_getD, List.getD_eq_getElem?_getD, List.getElem?_set];by_cases h : j = i
  · subst h;rw [if_pos rfl, if_pos (by omega), if_pos rfl]; rfl
  · rw [if_neg (by omega), if_neg h]
theorem xu {l : List (List Int)} {i : Int} (v : List Int) (hi : 0 ≤ i) (hl : i < (l.length : Int)) {j : Int} (hj : 0 ≤ j) : iW (l.set i.toNat v) j = if j = i then v else iW l j := by
  unfold iW;rw [List.getD_eq_getElem?_getD, List.getD_eq_getElem?_getD, List.getElem?_set];by_cases h : j = i
  · subst h;rw [if_pos rfl, if_pos (by omega), if_pos rfl]; rfl
  · rw [if_neg (by omega), if_neg h]
theorem qw {l : List Int} {i : Int} (hi : 0 ≤ i) (hl : i < (l.length : Int)) : rd l i ∈ l := by
  unfold rd;rw [List.getD_eq_getElem?_getD, List.getElem?_eq_getElem (by omega)];exact List.getElem_mem _
theorem tY {l : List Int} {x : Int} (h : x ∈ l) : ∃ i : Int, 0 ≤ i ∧ i < (l.length : Int) ∧ rd l i = x := by
  obtain ⟨i, hi, e⟩ := List.getElem_of_mem h;refine ⟨(i : Int), by omega, by omega, ?_⟩;unfold rd;rw [List.getD_eq_getElem?_getD, Int.toNat_natCast, List.getElem?_eq_getElem hi]; exact e
theorem FQ {j : Int} (h0 : 0 ≤ j) (h1 : j < 1000000) : Go.bits .xor .i64 j 1 = rv j := by
  obtain ⟨n, rfl⟩ : ∃ n : Nat, j = n := ⟨j.toNat, by omega⟩;have hx : n ^^^ 1 < 2 ^ 62 := Nat.xor_lt_two_pow (by omega) (by omega);have h2 : (n ^^^ 1) / 2 = n / 2 := by rw [Nat.xor_div_two]; simp
  have h3 : (n ^^^ 1) % 2 = 1 ↔ ¬(n % 2 = 1 ↔ 1 % 2 = 1) := Nat.xor_mod_two_eq_one;have e : Go.bits .xor .i64 (n : Int) 1 = ((n ^^^ 1 : Nat) : Int) := by
    show IntKind.i64.wrap ((BitVec.ofInt 64 (n : Int) ^^^ BitVec.ofInt 64 ((1 : Nat) : Int)).toNat : Int) = _;rw [BitVec.toNat_xor, ofInt_u64 n (by omega), ofInt_u64 1 (by omega)];simp [IntKind.wrap, IntKind.bits, IntKind.signed];omega
  rw [e];unfold rv;split <;> omega
end Go.Proofs.Ytdkbmchbkkhpoaa.Flow
set_option linter.unusedVariables false
set_option linter.unusedSimpArgs false
namespace Go.Proofs.Ytdkbmchbkkhpoaa.Flow
open Go.RowKit Go.Proofs.Ytdkbmchbkkhpoaa.PMfr Go.Proofs.YtdkbmchbkkhpoaaW.PrintWords Go.Proofs.YtdkbmchbkkhpoaaW.PrintLast Go.Proofs.YtdkbmchbkkhpoaaW.PrintMore
def it : Nat → Int → Int
  | 0, x => x
  | z + 1, x => it z (wrap64 (x + 1))
theorem zO (a b : Nat) (x : Int) : it b (it a x) = it (a + b) x := by
  induction a generalizing x with
  | zero => rw [Nat.zero_add]; rfl
  | succ a ih => rw [show a + 1 + b = a + b + 1 by omega]; exact ih _
def cnt (L : List Int) : Nat := L.countP (fun x => decide (0 < x))
theorem cnt_le (L : List Int) : cnt L ≤ L.length := List.countP_le_length
theorem vk {L : List Int} {v x : Int} (h0 : 0 ≤ v) (h1 : v < (L.length : Int)) (hv : rd L v = 0) (hx : 0 < x) : cnt (L.set v.toNat x) = cnt L + 1 := by
  unfold cnt;rw [List.countP_set (by omega)];have : L[v.toNat]'(by omega) = 0 := by
    unfold rd at hv
    rwa [List.getD_eq_getElem?_getD, List.getElem?_eq_getElem (by omega)] at hv
  rw [this];simp [hx]
def psR (A : List S78) (j : Int) : Prop := rm A j > 0
def psM (A : List S78) (j : Int) : Prop := j % 2 = 0 ∧ rm A j = Inf
instance (A : List S78) (j : Int) : Decidable (psR A j) := inferInstanceAs (Decidable (_ > _))
instance (A : List S78) (j : Int) : Decidable (psM A j) := inferInstanceAs (Decidable (_ ∧ _))
theorem zQ {A : List S78} {c : List Int} {T : List (List Int)} {x : Int} {b : Bool} {L N : List Int} {s : S72} {j : Int} (h0 : 0 ≤ j) (h1 : j < (A.length : Int)) : kJ.f (some ⟨A, c, T, x, b, L, N, s⟩) j = some (decide (psR A j)) := by
  show (if 0 ≤ j then (if j < (A.length : Int) then (some (decide (((iZ A j).f1) > 0))) else (none)) else (none)) = _;rw [if_pos h0, if_pos h1]; rfl
theorem CZ {A : List S78} {c : List Int} {T : List (List Int)} {x : Int} {b : Bool} {L N : List Int} {s : S72} {j : Int} (h0 : 0 ≤ j) (h1 : j < (A.length : Int)) : kW.f j (some ⟨some ⟨A, c, T, x, b, L, N, s⟩⟩) = some (decide (psM A j)) := by
  show (if (Int.tmod j 2) = 0 then (if 0 ≤ j then (if j < (A.length : Int) then (some (decide (((iZ A j).f1) = 4611686018427387904))) else (none)) else (none)) else (some false)) = _;have e : Int.tmod j 2 = j % 2 := Int.tmod_eq_emod_of_nonneg h0;rw [e];by_cases h : j % 2 = 0
  · rw [if_pos h, if_pos h0, if_pos h1];refine congrArg some (decide_eq_decide.mpr ?_);exact ⟨fun h' => ⟨h, h'⟩, fun h' => h'.2⟩
  · rw [if_neg h];have : ¬ psM A j := fun h' => h h'.1;rw [decide_eq_false this]
structure BI (n : Int) (E : List Ed) (s : Int) (ps x : Int → Prop) (L q : List Int) : Prop where
  l : (L.length : Int) = n
  s1 : rd L s = 1
  b : ∀ v, 0 ≤ v → v < n → 0 ≤ rd L v ∧ rd L v ≤ cnt L
  o : ∀ v, 0 ≤ v → v < n → rd L v = 1 → v = s
  d : ∀ v, 0 ≤ v → v < n → 0 < rd L v → v ≠ s → ∃ j, 0 ≤ j ∧ j < 2 * (E.length : Int) ∧ ps j ∧ hd E j = v ∧ 0 < rd L (tl E j) ∧ rd L v = rd L (tl E j) + 1
  qq : ∀ v, v ∈ q → 0 ≤ v ∧ v < n ∧ 0 < rd L v
  c : ∀ j, 0 ≤ j → j < 2 * (E.length : Int) → ps j → 0 < rd L (tl E j) → tl E j ∉ q → x j → 0 < rd L (hd E j) ∧ rd L (hd E j) ≤ rd L (tl E j) + 1
  w : q.Pairwise (fun a b => rd L a ≤ rd L b)
  t : ∀ v a, 0 ≤ v → v < n → 0 < rd L v → a ∈ q → rd L v ≤ rd L a + 1
section
variable {n : Int} {E : List Ed} {s : Int} {ps x x' : Int → Prop} {L q : List Int}
theorem BI.weak (h : BI n E s ps x L q) (hx : ∀ j, 0 ≤ j → j < 2 * (E.length : Int) → x' j → x j) : BI n E s ps x' L q := ⟨h.l, h.s1, h.b, h.o, h.d, h.qq, fun j a b c d e f => h.c j a b c d e (hx j a b f), h.w, h.t⟩
theorem BI.set (g : EG n E) (h : BI n E s ps x L q) {i j v : Int} (hi : 0 ≤ i) (hn : i < n) (hL : 0 < rd L i) (hq : ∀ a, a ∈ q → rd L i ≤ rd L a) (ht : ∀ v, 0 ≤ v → v < n → 0 < rd L v → rd L v ≤ rd L i + 1) (hj : 0 ≤ j) (hm : j < 2 * (E.length : Int)) (hp : ps j) (htl : tl E j = i) (hhd : hd E j = v) (hv : rd L v = 0) : BI n E s ps (fun j' => x j' ∨ j' = j) (L.set v.toNat (rd L i + 1)) (q ++ [v]) ∧ 0 ≤ v ∧ v < n ∧ cnt (L.set v.toNat (rd L i + 1)) = cnt L + 1 := by
  obtain ⟨v0, v1, _, _, vne⟩ := g.arc hj hm;rw [hhd] at v0 v1 vne;rw [htl] at vne;have hl := h.l;have hvl : v < (L.length : Int) := by omega
  have hc := vk v0 hvl hv (show 0 < rd L i + 1 by omega);have R : ∀ u, 0 ≤ u → rd (L.set v.toNat (rd L i + 1)) u = if u = v then rd L i + 1 else rd L u := fun u hu => nD _ v0 hvl hu
  have Rp : ∀ u, 0 ≤ u → 0 < rd L u → rd (L.set v.toNat (rd L i + 1)) u = rd L u := fun u hu hp => by
    rw [R u hu, if_neg]; rintro rfl; omega
  have hb := h.b i hi hn;have sv : s ≠ v := by rintro rfl; have := h.s1; omega
  refine ⟨⟨by rw [List.length_set]; exact hl, ?_, ?_, ?_, ?_, ?_, ?_, ?_, ?_⟩, v0, v1, hc⟩
  · by_cases hs : 0 ≤ s
    · rw [Rp s hs (by have := h.s1; omega)]; exact h.s1
    · have : rd (L.set v.toNat (rd L i + 1)) s = rd (L.set v.toNat (rd L i + 1)) 0 := by unfold rd; rw [show s.toNat = (0 : Int).toNat by omega]
      have h2 : rd L s = rd L 0 := by unfold rd; rw [show s.toNat = (0 : Int).toNat by omega]
      rw [this, Rp 0 (by omega) (by rw [← h2]; have := h.s1; omega), ← h2]; exact h.s1
  · intro u hu hun;rw [R u hu, hc];have := h.b u hu hun;split <;> omega
  · intro u hu hun h1;rw [R u hu] at h1;split at h1
    · omega
    · exact h.o u hu hun h1
  · intro u hu hun h1 hs;by_cases e : u = v
    · subst e;refine ⟨j, hj, hm, hp, hhd, ?_, ?_⟩
      · rw [htl, Rp i hi hL]; exact hL
      · rw [htl, Rp i hi hL, R u hu, if_pos rfl]
    · rw [R u hu, if_neg e] at h1;obtain ⟨j', a, b, c, d, e', f⟩ := h.d u hu hun h1 hs;have := (g.arc a b).2.2.1;refine ⟨j', a, b, c, d, ?_, ?_⟩
      · rw [Rp _ this e']; exact e'
      · rw [Rp _ this e', R u hu, if_neg e]; exact f
  · intro u hu;rcases List.mem_append.1 hu with hu | hu
    · obtain ⟨a, b, c⟩ := h.qq u hu;exact ⟨a, b, by rw [Rp u a c]; exact c⟩
    · have e : u = v := by simpa using hu
      subst e;exact ⟨v0, v1, by rw [R u v0, if_pos rfl]; omega⟩
  · intro j' a b c d e f;have t0 := (g.arc a b).2.2.1;have h0 := (g.arc a b).1;have tv : tl E j' ≠ v := fun e' => e (by rw [e']; simp);rw [R _ t0, if_neg tv] at d;rcases f with f | f
    · obtain ⟨p, r⟩ := h.c j' a b c d (fun hq => e (List.mem_append_left _ hq)) f;rw [Rp _ h0 p, Rp _ t0 d];exact ⟨p, r⟩
    · subst f;rw [hhd, R v v0, if_pos rfl, htl, Rp i hi hL];omega
  · rw [List.pairwise_append];refine ⟨h.w.imp_of_mem (fun {a b} ha hb hab => ?_), List.pairwise_singleton _ _, fun a ha b hb => ?_⟩
    · rw [Rp a (h.qq a ha).1 (h.qq a ha).2.2, Rp b (h.qq b hb).1 (h.qq b hb).2.2]; exact hab
    · have e : b = v := by simpa using hb
      subst e;rw [Rp a (h.qq a ha).1 (h.qq a ha).2.2, R b v0, if_pos rfl];exact ht a (h.qq a ha).1 (h.qq a ha).2.1 (h.qq a ha).2.2
  · intro u a hu hun h1 ha;have key : rd (L.set v.toNat (rd L i + 1)) u ≤ rd L i + 1 := by
      rw [R u hu] at h1 ⊢;split
      · omega
      · rename_i e
        rw [if_neg e] at h1;exact ht u hu hun h1
    rcases List.mem_append.1 ha with ha | ha
    · rw [Rp a (h.qq a ha).1 (h.qq a ha).2.2];have := hq a ha;omega
    · have e : a = v := by simpa using ha
      subst e;rw [R a v0, if_pos rfl];omega
end
section
variable {n : Int} {E : List Ed} {s : Int} {A : List S78} {T : List (List Int)} {c : List Int} {a3 : Int} {a4 : Bool} {l5 l6 : List Int}
theorem C9 (g : EG n E) (ga : AG E A) (gt : TG n E T) {q0 : List Int} {i : Int} (hq0 : rd q0 0 = i) (hi : 0 ≤ i) (hn : i < n) {M : Nat} (hMM : M ≤ 1000000) {Q : List Int × Int → Prop} {y : Int}
    (H : ∀ L q, BI n E s (psR A) (fun _ => True) L q → 2 * (n.toNat - cnt L) + q.length < M → Ev (fun k => iC.l1 k a3 a4 A c T l5 l6 L q y) Q) :
    ∀ (z : Nat) (L q : List Int) (p : Int), 0 ≤ p → p + z = ((iW T i).length : Int) → 0 < rd L i → (∀ a, a ∈ q → rd L i ≤ rd L a) → (∀ v, 0 ≤ v → v < n → 0 < rd L v → rd L v ≤ rd L i + 1) → BI n E s (psR A) (fun j => tl E j ≠ i ∨ ∃ p', 0 ≤ p' ∧ p' < p ∧ rd (iW T i) p' = j) L q → 2 * (n.toNat - cnt L) + q.length < M → Ev (fun k => iC.l0 k a3 a4 A c T l5 l6 q0 L q p y) Q := by
  intro z
  induction z with
  | zero =>
    intro L q p hp hz hL hq ht hb hM;refine Ev.sub 1 ?_;simp only [iC.l0, hq0];simp only [if_neg (show ¬ p < ((iW T i).length : Int) by omega)];refine H L q (hb.weak (fun j ja jb _ => ?_)) hM |>.mono (fun _ h => h);by_cases e : tl E j = i
    · obtain ⟨p', a, b, e'⟩ := tY ((gt.i i j hi hn).2 ⟨ja, jb, e⟩);exact .inr ⟨p', a, by omega, e'⟩
    · exact .inl e
  | succ z ih =>
    intro L q p hp hz hL hq ht hb hM;have hpl : p < ((iW T i).length : Int) := by omega
    obtain ⟨j, hj⟩ : ∃ j, rd (iW T i) p = j := ⟨_, rfl⟩;have hjm : j ∈ iW T i := hj ▸ qw hp hpl;obtain ⟨j0, j1, j2⟩ := (gt.i i j hi hn).1 hjm;have hal := ga.l;obtain ⟨v0, v1, _, _, vne⟩ := g.arc j0 j1;have hh := ga.h j j0 j1;have hLl := hb.l;have hlen := gt.c i;have hm := g.m;have hn2 := g.n2;have wp : wrap64 (p + 1) = p + 1 := wr (by omega) (by omega);have hb0 := hb.b i hi hn;have hcl := cnt_le L;have wL : wrap64 (rd L i + 1) = rd L i + 1 := wr (by omega) (by omega);have ext : ∀ j', (tl E j' ≠ i ∨ ∃ p', 0 ≤ p' ∧ p' < p + 1 ∧ rd (iW T i) p' = j') → (tl E j' ≠ i ∨ ∃ p', 0 ≤ p' ∧ p' < p ∧ rd (iW T i) p' = j') ∨ j' = j := by
      rintro j' (h | ⟨p', a, b, e⟩)
      · exact .inl (.inl h)
      · by_cases h : p' = p
        · subst h; exact .inr (e.symm.trans hj)
        · exact .inl (.inr ⟨p', a, by omega, e⟩)
    refine Ev.sub 1 ?_;simp only [iC.l0, hq0, hj, hh];simp only [if_pos hpl, if_pos hp, if_pos j0, if_pos (show j < (A.length : Int) by omega), if_pos v0, if_pos (show hd E j < (L.length : Int) by omega)];by_cases h0 : rd L (hd E j) = 0
    · simp only [if_pos h0, zQ j0 (show j < (A.length : Int) by omega), Option.bind_some];refine Ev.sub 1 ?_;simp only [iC.j0, hq0, hj, hh];by_cases hp' : psR A j
      · simp only [if_pos (show decide (psR A j) = true from decide_eq_true hp'), if_pos hi, if_pos (show i < (L.length : Int) by omega), if_pos v0, if_pos (show hd E j < (L.length : Int) by omega), Option.bind_some, wL, wp];obtain ⟨hb', _, _, hc⟩ := hb.set g hi hn hL hq ht j0 j1 hp' j2 rfl h0;have hql : q.length < 17592186044416 := by
          omega
        simp only [if_pos hql];have Ri : rd (L.set (hd E j).toNat (rd L i + 1)) i = rd L i := by
          rw [nD _ v0 (by omega) hi, if_neg]; intro e; rw [← e] at h0; omega
        refine ih _ _ (p + 1) (by omega) (by omega) (by rw [Ri]; exact hL) ?_ ?_ (hb'.weak (fun j' _ _ => ext j')) ?_
        · intro a ha;rw [Ri];rcases List.mem_append.1 ha with ha | ha
          · have := hb.qq a ha;rw [nD _ v0 (by omega) this.1];split
            · omega
            · exact hq a ha
          · have e : a = hd E j := by simpa using ha
            rw [e, nD _ v0 (by omega) v0, if_pos rfl]; omega
        · intro u hu hun h1;rw [Ri];rw [nD _ v0 (by omega) hu] at h1 ⊢;split
          · omega
          · rename_i e
            rw [if_neg e] at h1;exact ht u hu hun h1
        · rw [hc, List.length_append];have := cnt_le (L.set (hd E j).toNat (rd L i + 1));rw [hc, List.length_set] at this;simp only [List.length_singleton];omega
      · simp only [decide_eq_false hp', wp, if_neg (show ¬ false = true by decide)];refine ih L q (p + 1) (by omega) (by omega) hL hq ht ⟨hb.l, hb.s1, hb.b, hb.o, hb.d, hb.qq, fun j' a b c d e f => ?_, hb.w, hb.t⟩ hM;rcases ext j' f with f | f
        · exact hb.c j' a b c d e f
        · subst f; exact absurd c hp'
    · simp only [if_neg h0];refine Ev.sub 1 ?_;simp only [iC.j0, wp, if_neg (show ¬ false = true by decide)];refine ih L q (p + 1) (by omega) (by omega) hL hq ht ⟨hb.l, hb.s1, hb.b, hb.o, hb.d, hb.qq, fun j' a b c d e f => ?_, hb.w, hb.t⟩ hM;rcases ext j' f with f | f
      · exact hb.c j' a b c d e f
      · subst f;have := hb.b _ v0 v1;have hpos : 0 < rd L (hd E j') := by omega
        rw [j2];exact ⟨hpos, ht _ v0 v1 hpos⟩
end
section
variable {n : Int} {E : List Ed} {s : Int} {A : List S78} {T : List (List Int)} {c : List Int} {a3 : Int} {a4 : Bool} {l5 l6 : List Int}
theorem zS (g : EG n E) (ga : AG E A) (gt : TG n E T) {q0 : List Int} {i : Int} (hq0 : rd q0 0 = i) (hi : 0 ≤ i) (hn : i < n) {M : Nat} (hMM : M ≤ 1000000) {Q : List Int × Int → Prop} {y : Int}
    (H : ∀ L q, BI n E s (psM A) (fun _ => True) L q → 2 * (n.toNat - cnt L) + q.length < M → Ev (fun k => iw.l1 k a3 a4 A c T l5 l6 L q y) Q) :
    ∀ (z : Nat) (L q : List Int) (p : Int), 0 ≤ p → p + z = ((iW T i).length : Int) → 0 < rd L i → (∀ a, a ∈ q → rd L i ≤ rd L a) → (∀ v, 0 ≤ v → v < n → 0 < rd L v → rd L v ≤ rd L i + 1) → BI n E s (psM A) (fun j => tl E j ≠ i ∨ ∃ p', 0 ≤ p' ∧ p' < p ∧ rd (iW T i) p' = j) L q → 2 * (n.toNat - cnt L) + q.length < M → Ev (fun k => iw.l0 k a3 a4 A c T l5 l6 q0 L q p y) Q := by
  intro z
  induction z with
  | zero =>
    intro L q p hp hz hL hq ht hb hM;refine Ev.sub 1 ?_;simp only [iw.l0, hq0];simp only [if_neg (show ¬ p < ((iW T i).length : Int) by omega)];refine H L q (hb.weak (fun j ja jb _ => ?_)) hM |>.mono (fun _ h => h);by_cases e : tl E j = i
    · obtain ⟨p', a, b, e'⟩ := tY ((gt.i i j hi hn).2 ⟨ja, jb, e⟩);exact .inr ⟨p', a, by omega, e'⟩
    · exact .inl e
  | succ z ih =>
    intro L q p hp hz hL hq ht hb hM;have hpl : p < ((iW T i).length : Int) := by omega
    obtain ⟨j, hj⟩ : ∃ j, rd (iW T i) p = j := ⟨_, rfl⟩;have hjm : j ∈ iW T i := hj ▸ qw hp hpl;obtain ⟨j0, j1, j2⟩ := (gt.i i j hi hn).1 hjm;have hal := ga.l;obtain ⟨v0, v1, _, _, vne⟩ := g.arc j0 j1;have hh := ga.h j j0 j1;have hLl := hb.l;have hlen := gt.c i;have hm := g.m;have hn2 := g.n2;have wp : wrap64 (p + 1) = p + 1 := wr (by omega) (by omega);have hb0 := hb.b i hi hn;have hcl := cnt_le L;have wL : wrap64 (rd L i + 1) = rd L i + 1 := wr (by omega) (by omega);have ext : ∀ j', (tl E j' ≠ i ∨ ∃ p', 0 ≤ p' ∧ p' < p + 1 ∧ rd (iW T i) p' = j') → (tl E j' ≠ i ∨ ∃ p', 0 ≤ p' ∧ p' < p ∧ rd (iW T i) p' = j') ∨ j' = j := by
      rintro j' (h | ⟨p', a, b, e⟩)
      · exact .inl (.inl h)
      · by_cases h : p' = p
        · subst h; exact .inr (e.symm.trans hj)
        · exact .inl (.inr ⟨p', a, by omega, e⟩)
    refine Ev.sub 1 ?_;simp only [iw.l0, hq0, hj, hh];simp only [if_pos hpl, if_pos hp, if_pos j0, if_pos (show j < (A.length : Int) by omega), if_pos v0, if_pos (show hd E j < (L.length : Int) by omega)];by_cases h0 : rd L (hd E j) = 0
    · simp only [if_pos h0, CZ j0 (show j < (A.length : Int) by omega), Option.bind_some];refine Ev.sub 1 ?_;simp only [iw.j0, hq0, hj, hh];by_cases hp' : psM A j
      · simp only [if_pos (show decide (psM A j) = true from decide_eq_true hp'), if_pos hi, if_pos (show i < (L.length : Int) by omega), if_pos v0, if_pos (show hd E j < (L.length : Int) by omega), Option.bind_some, wL, wp];obtain ⟨hb', _, _, hc⟩ := hb.set g hi hn hL hq ht j0 j1 hp' j2 rfl h0;have hql : q.length < 17592186044416 := by
          omega
        simp only [if_pos hql];have Ri : rd (L.set (hd E j).toNat (rd L i + 1)) i = rd L i := by
          rw [nD _ v0 (by omega) hi, if_neg]; intro e; rw [← e] at h0; omega
        refine ih _ _ (p + 1) (by omega) (by omega) (by rw [Ri]; exact hL) ?_ ?_ (hb'.weak (fun j' _ _ => ext j')) ?_
        · intro a ha;rw [Ri];rcases List.mem_append.1 ha with ha | ha
          · have := hb.qq a ha;rw [nD _ v0 (by omega) this.1];split
            · omega
            · exact hq a ha
          · have e : a = hd E j := by simpa using ha
            rw [e, nD _ v0 (by omega) v0, if_pos rfl]; omega
        · intro u hu hun h1;rw [Ri];rw [nD _ v0 (by omega) hu] at h1 ⊢;split
          · omega
          · rename_i e
            rw [if_neg e] at h1;exact ht u hu hun h1
        · rw [hc, List.length_append];have := cnt_le (L.set (hd E j).toNat (rd L i + 1));rw [hc, List.length_set] at this;simp only [List.length_singleton];omega
      · simp only [decide_eq_false hp', wp, if_neg (show ¬ false = true by decide)];refine ih L q (p + 1) (by omega) (by omega) hL hq ht ⟨hb.l, hb.s1, hb.b, hb.o, hb.d, hb.qq, fun j' a b c d e f => ?_, hb.w, hb.t⟩ hM;rcases ext j' f with f | f
        · exact hb.c j' a b c d e f
        · subst f; exact absurd c hp'
    · simp only [if_neg h0];refine Ev.sub 1 ?_;simp only [iw.j0, wp, if_neg (show ¬ false = true by decide)];refine ih L q (p + 1) (by omega) (by omega) hL hq ht ⟨hb.l, hb.s1, hb.b, hb.o, hb.d, hb.qq, fun j' a b c d e f => ?_, hb.w, hb.t⟩ hM;rcases ext j' f with f | f
      · exact hb.c j' a b c d e f
      · subst f;have := hb.b _ v0 v1;have hpos : 0 < rd L (hd E j') := by omega
        rw [j2];exact ⟨hpos, ht _ v0 v1 hpos⟩
end
section
variable {n : Int} {E : List Ed} {s : Int} {A : List S78} {T : List (List Int)} {c : List Int} {a3 : Int} {a4 : Bool} {l5 l6 : List Int}
theorem Dc (g : EG n E) (ga : AG E A) (gt : TG n E T) :
    ∀ (M : Nat) (L q : List Int) (y : Int), M ≤ 1000000 → BI n E s (psR A) (fun _ => True) L q → 2 * (n.toNat - cnt L) + q.length < M → Ev (fun k => iC.l1 k a3 a4 A c T l5 l6 L q y) (fun r => BI n E s (psR A) (fun _ => True) r.1 [] ∧ ∃ z, z < M ∧ r.2 = it z y) := by
  intro M
  induction M with
  | zero => intro L q y hMM hb hM; omega
  | succ M ih =>
    intro L q y hMM hb hM
    cases q with
    | nil =>
      refine Ev.sub 1 ?_;simp only [iC.l1];simp only [if_neg (show ¬ (([] : List Int).length : Int) > 0 by decide)];exact Ev.ret ⟨hb, 0, by omega, rfl⟩
    | cons i q =>
      obtain ⟨hi, hn, hL⟩ := hb.qq i (List.mem_cons_self ..);have hlen : ((i :: q).length : Int) > 0 := by simp only [List.length_cons]; omega
      have htl := gt.l;have hq := List.pairwise_cons.1 hb.w;refine Ev.sub 1 ?_;simp only [iC.l1];simp only [if_pos hlen, if_pos (show 0 < ((i :: q).length : Int) from hlen), if_pos (show 1 ≤ ((i :: q).length : Int) by omega), Option.bind_some, show rd (i :: q) 0 = i from rfl, if_pos hi, if_pos (show i < (T.length : Int) by omega), show (i :: q).drop (1 : Int).toNat = q from rfl];have hc' : 2 * (n.toNat - cnt L) + q.length < M := by rw [List.length_cons] at hM; omega
      refine C9 g ga gt (i := i) (q0 := i :: q) rfl hi hn (M := M) (by omega) (fun L' q' hb' hM' => (ih L' q' (wrap64 (y + 1)) (by omega) hb' hM').mono (fun r h => ⟨h.1, ?_⟩)) (iW T i).length L q 0 (Int.le_refl 0) (by omega) hL hq.1 (fun v a b d => hb.t v i a b d (List.mem_cons_self ..)) ⟨hb.l, hb.s1, hb.b, hb.o, hb.d, fun v hv => hb.qq v (List.mem_cons_of_mem _ hv), fun j a b d e f x => ?_, hq.2, fun v a b d e f => hb.t v a b d e (List.mem_cons_of_mem _ f)⟩ hc'
      · refine hb.c j a b d e (fun hm => ?_) trivial;rcases List.mem_cons.1 hm with hm | hm
        · rcases x with x | ⟨p', p0, p1, _⟩
          · exact x hm
          · omega
        · exact f hm
      · obtain ⟨z, hz, e⟩ := h.2;exact ⟨z + 1, by omega, e⟩
theorem vw (g : EG n E) (ga : AG E A) (gt : TG n E T) (h0 : 0 ≤ s) (h1 : s < n) (y : Int) : Ev (fun k => iC.f k A c T a3 a4 l5 l6 y s) (fun r => BI n E s (psR A) (fun _ => True) r.1 [] ∧ ∃ z, z < 2 * n.toNat ∧ r.2 = it z y) := by
  have hl := gt.l;have hn := g.n2;obtain ⟨N, hN⟩ : ∃ N : Nat, n = N := ⟨n.toNat, by omega⟩;have eT : T.length = N := by omega
  simp only [iC.f];simp only [if_pos (show 0 ≤ (T.length : Int) by omega), if_pos (show ((T.length : Int) : Int).toNat * 8 ≤ 281474976710656 by omega), Option.bind_some, if_pos h0, List.length_replicate, if_pos (show s < (((T.length : Int).toNat : Nat) : Int) by omega)];have hz : ∀ v, rd (List.replicate N (0 : Int)) v = 0 := by
    intro v;unfold rd;rw [List.getD_eq_getElem?_getD, List.getElem?_replicate];split <;> rfl
  have hr : (List.replicate N (0 : Int)).length = N := List.length_replicate;have R : ∀ u, 0 ≤ u → rd ((List.replicate N (0 : Int)).set s.toNat 1) u = if u = s then 1 else 0 := fun u hu => by
    rw [nD 1 h0 (by omega) hu, hz]
  have hc : cnt ((List.replicate N (0 : Int)).set s.toNat 1) = 1 := by
    rw [vk h0 (by omega) (hz s) (by decide)];have : cnt (List.replicate N (0 : Int)) = 0 := by
      unfold cnt;rw [List.countP_replicate]; simp
    rw [this]
  rw [show ((T.length : Int)).toNat = N by omega];refine Dc g ga gt (2 * n.toNat) _ _ y (by omega) ⟨by rw [List.length_set, hr]; exact hN.symm, ?_, ?_, ?_, ?_, ?_, ?_, List.pairwise_singleton _ _, ?_⟩ ?_
  · rw [R s h0, if_pos rfl]
  · intro v a b;rw [R v a, hc]; split <;> omega
  · intro v a b e;rw [R v a] at e;split at e
    · assumption
    · omega
  · intro v a b e f;rw [R v a, if_neg f] at e; omega
  · intro v hv;have e : v = s := by simpa using hv
    subst e;exact ⟨h0, h1, by rw [R v h0, if_pos rfl]; decide⟩
  · intro j a b _ e f;rw [R _ (g.arc a b).2.2.1, if_neg (fun e' => f (by rw [e']; simp))] at e;omega
  · intro v a hv0 hv1 e f;have e' : a = s := by simpa using f
    subst e';rw [R v hv0, R a h0, if_pos rfl]; split <;> omega
  · rw [hc, List.length_singleton]; omega
end
section
variable {n : Int} {E : List Ed} {s : Int} {A : List S78} {T : List (List Int)} {c : List Int} {a3 : Int} {a4 : Bool} {l5 l6 : List Int}
theorem zT (g : EG n E) (ga : AG E A) (gt : TG n E T) :
    ∀ (M : Nat) (L q : List Int) (y : Int), M ≤ 1000000 → BI n E s (psM A) (fun _ => True) L q → 2 * (n.toNat - cnt L) + q.length < M → Ev (fun k => iw.l1 k a3 a4 A c T l5 l6 L q y) (fun r => BI n E s (psM A) (fun _ => True) r.1 [] ∧ ∃ z, z < M ∧ r.2 = it z y) := by
  intro M
  induction M with
  | zero => intro L q y hMM hb hM; omega
  | succ M ih =>
    intro L q y hMM hb hM
    cases q with
    | nil =>
      refine Ev.sub 1 ?_;simp only [iw.l1];simp only [if_neg (show ¬ (([] : List Int).length : Int) > 0 by decide)];exact Ev.ret ⟨hb, 0, by omega, rfl⟩
    | cons i q =>
      obtain ⟨hi, hn, hL⟩ := hb.qq i (List.mem_cons_self ..);have hlen : ((i :: q).length : Int) > 0 := by simp only [List.length_cons]; omega
      have htl := gt.l;have hq := List.pairwise_cons.1 hb.w;refine Ev.sub 1 ?_;simp only [iw.l1];simp only [if_pos hlen, if_pos (show 0 < ((i :: q).length : Int) from hlen), if_pos (show 1 ≤ ((i :: q).length : Int) by omega), Option.bind_some, show rd (i :: q) 0 = i from rfl, if_pos hi, if_pos (show i < (T.length : Int) by omega), show (i :: q).drop (1 : Int).toNat = q from rfl];have hc' : 2 * (n.toNat - cnt L) + q.length < M := by rw [List.length_cons] at hM; omega
      refine zS g ga gt (i := i) (q0 := i :: q) rfl hi hn (M := M) (by omega) (fun L' q' hb' hM' => (ih L' q' (wrap64 (y + 1)) (by omega) hb' hM').mono (fun r h => ⟨h.1, ?_⟩)) (iW T i).length L q 0 (Int.le_refl 0) (by omega) hL hq.1 (fun v a b d => hb.t v i a b d (List.mem_cons_self ..)) ⟨hb.l, hb.s1, hb.b, hb.o, hb.d, fun v hv => hb.qq v (List.mem_cons_of_mem _ hv), fun j a b d e f x => ?_, hq.2, fun v a b d e f => hb.t v a b d e (List.mem_cons_of_mem _ f)⟩ hc'
      · refine hb.c j a b d e (fun hm => ?_) trivial;rcases List.mem_cons.1 hm with hm | hm
        · rcases x with x | ⟨p', p0, p1, _⟩
          · exact x hm
          · omega
        · exact f hm
      · obtain ⟨z, hz, e⟩ := h.2;exact ⟨z + 1, by omega, e⟩
theorem Df (g : EG n E) (ga : AG E A) (gt : TG n E T) (h0 : 0 ≤ s) (h1 : s < n) (y : Int) : Ev (fun k => iw.f k A c T a3 a4 l5 l6 y s) (fun r => BI n E s (psM A) (fun _ => True) r.1 [] ∧ ∃ z, z < 2 * n.toNat ∧ r.2 = it z y) := by
  have hl := gt.l;have hn := g.n2;obtain ⟨N, hN⟩ : ∃ N : Nat, n = N := ⟨n.toNat, by omega⟩;have eT : T.length = N := by omega
  simp only [iw.f];simp only [if_pos (show 0 ≤ (T.length : Int) by omega), if_pos (show ((T.length : Int) : Int).toNat * 8 ≤ 281474976710656 by omega), Option.bind_some, if_pos h0, List.length_replicate, if_pos (show s < (((T.length : Int).toNat : Nat) : Int) by omega)];have hz : ∀ v, rd (List.replicate N (0 : Int)) v = 0 := by
    intro v;unfold rd;rw [List.getD_eq_getElem?_getD, List.getElem?_replicate];split <;> rfl
  have hr : (List.replicate N (0 : Int)).length = N := List.length_replicate;have R : ∀ u, 0 ≤ u → rd ((List.replicate N (0 : Int)).set s.toNat 1) u = if u = s then 1 else 0 := fun u hu => by
    rw [nD 1 h0 (by omega) hu, hz]
  have hc : cnt ((List.replicate N (0 : Int)).set s.toNat 1) = 1 := by
    rw [vk h0 (by omega) (hz s) (by decide)];have : cnt (List.replicate N (0 : Int)) = 0 := by
      unfold cnt;rw [List.countP_replicate]; simp
    rw [this]
  rw [show ((T.length : Int)).toNat = N by omega];refine zT g ga gt (2 * n.toNat) _ _ y (by omega) ⟨by rw [List.length_set, hr]; exact hN.symm, ?_, ?_, ?_, ?_, ?_, ?_, List.pairwise_singleton _ _, ?_⟩ ?_
  · rw [R s h0, if_pos rfl]
  · intro v a b;rw [R v a, hc]; split <;> omega
  · intro v a b e;rw [R v a] at e;split at e
    · assumption
    · omega
  · intro v a b e f;rw [R v a, if_neg f] at e; omega
  · intro v hv;have e : v = s := by simpa using hv
    subst e;exact ⟨h0, h1, by rw [R v h0, if_pos rfl]; decide⟩
  · intro j a b _ e f;rw [R _ (g.arc a b).2.2.1, if_neg (fun e' => f (by rw [e']; simp))] at e;omega
  · intro v a hv0 hv1 e f;have e' : a = s := by simpa using f
    subst e';rw [R v hv0, R a h0, if_pos rfl]; split <;> omega
  · rw [hc, List.length_singleton]; omega
end
end Go.Proofs.Ytdkbmchbkkhpoaa.Flow
set_option linter.unusedVariables false
set_option linter.unusedSimpArgs false
namespace Go.Proofs.Ytdkbmchbkkhpoaa.Flow
open Go.RowKit Go.Proofs.Ytdkbmchbkkhpoaa.PMfr Go.Proofs.YtdkbmchbkkhpoaaW.PrintWords Go.Proofs.YtdkbmchbkkhpoaaW.PrintLast Go.Proofs.YtdkbmchbkkhpoaaW.PrintMore
def AD (E : List Ed) (A : List S78) (L : List Int) (j : Int) : Prop := psR A j ∧ rd L (hd E j) = rd L (tl E j) + 1
structure LV (n s : Int) (L : List Int) : Prop where
  l : (L.length : Int) = n
  b : ∀ v, 0 ≤ v → v < n → 0 ≤ rd L v ∧ rd L v ≤ n
  s1 : rd L s = 1
structure NX (n : Int) (T : List (List Int)) (N : List Int) : Prop where
  l : (N.length : Int) = n
  b : ∀ v, 0 ≤ v → v < n → 0 ≤ rd N v ∧ rd N v ≤ ((iW T v).length : Int)
def Dead (T : List (List Int)) (t : Int) (N : List Int) (v : Int) : Prop := v ≠ t ∧ rd N v = ((iW T v).length : Int)
def DI (n : Int) (E : List Ed) (A : List S78) (T : List (List Int)) (L : List Int) (t : Int) (N : List Int) : Prop := ∀ v p, 0 ≤ v → v < n → 0 ≤ p → p < rd N v → ¬ AD E A L (rd (iW T v) p) ∨ Dead T t N (hd E (rd (iW T v) p))
inductive Pth (E : List Ed) (A : List S78) (T : List (List Int)) (L : List Int) (s t : Int) (N : List Int) : List Int → Int → Prop
  | nil : Pth E A T L s t N [] s
  | snoc (out : List Int) (j : Int) : Pth E A T L s t N out (tl E j) → 0 ≤ j → j < 2 * (E.length : Int) → AD E A L j → rd (iW T (tl E j)) (rd N (tl E j)) = j → rd N (tl E j) < ((iW T (tl E j)).length : Int) → tl E j ≠ t → Pth E A T L s t N (out ++ [j]) (hd E j)
def wt (n : Int) (T : List (List Int)) (N : List Int) : Int := Sm (fun v => ((iW T v).length : Int) - rd N v) n.toNat
section
variable {n s t : Int} {E : List Ed} {A : List S78} {T : List (List Int)} {L N N' out : List Int} {i : Int}
theorem NX.wt (h : NX n T N) : 0 ≤ wt n T N := Sm.nonneg (fun v hv => by have := h.b v (by omega) (by omega); omega)
theorem NX.set (h : NX n T N) {u : Int} (h0 : 0 ≤ u) (h1 : u < n) (hu : rd N u < ((iW T u).length : Int)) : NX n T (N.set u.toNat (rd N u + 1)) ∧ Flow.wt n T (N.set u.toNat (rd N u + 1)) = Flow.wt n T N - 1 := by
  have hl := h.l;have R : ∀ v, 0 ≤ v → rd (N.set u.toNat (rd N u + 1)) v = if v = u then rd N u + 1 else rd N v := fun v hv => nD _ h0 (by omega) hv
  refine ⟨⟨by rw [List.length_set]; exact hl, fun v a b => ?_⟩, ?_⟩
  · have := h.b v a b;rw [R v a];split
    · rename_i e; subst e; omega
    · exact this
  · have := Sm.at (f := fun v => ((iW T v).length : Int) - rd N v) (g := fun v => ((iW T v).length : Int) - rd (N.set u.toNat (rd N u + 1)) v) (n := n.toNat) (e := u.toNat) (d := -1) (by omega) (fun v hv hne => by rw [R v (by omega), if_neg (by omega)]) (by rw [show ((u.toNat : Nat) : Int) = u by omega, R u h0, if_pos rfl]; omega);unfold Flow.wt;rw [this]; omega
theorem DI.set (hl : (N.length : Int) = n) (h : DI n E A T L t N) {u : Int} (h0 : 0 ≤ u) (h1 : u < n) (hu : rd N u < ((iW T u).length : Int)) (hj : ¬ AD E A L (rd (iW T u) (rd N u)) ∨ Dead T t N (hd E (rd (iW T u) (rd N u)))) (g : EG n E) (gt : TG n E T) (hp : 0 ≤ rd N u) : DI n E A T L t (N.set u.toNat (rd N u + 1)) := by
  have R : ∀ v, 0 ≤ v → rd (N.set u.toNat (rd N u + 1)) v = if v = u then rd N u + 1 else rd N v := fun v hv => nD _ h0 (by omega) hv
  have D : ∀ v, 0 ≤ v → Dead T t N v → Dead T t (N.set u.toNat (rd N u + 1)) v := fun v hv hd => ⟨hd.1, by
    have := hd.2;rw [R v hv, if_neg]
    · exact this
    · rintro rfl; omega⟩
  intro v p a b c d;have hb : ∀ p, 0 ≤ p → p < ((iW T v).length : Int) → 0 ≤ hd E (rd (iW T v) p) := fun p p0 p1 => by
    obtain ⟨x, y, _⟩ := (gt.i v _ a b).1 (qw p0 p1);exact (g.arc x y).1
  rw [R v a] at d;split at d
  · rename_i e
    subst e;have hpl : p < ((iW T v).length : Int) := by omega
    by_cases e : p = rd N v
    · subst e;exact hj.imp id (D _ (hb _ c hpl))
    · exact (h v p a b c (by omega)).imp id (D _ (hb _ c hpl))
  · by_cases hpl : p < ((iW T v).length : Int)
    · exact (h v p a b c d).imp id (D _ (hb _ c hpl))
    · rcases h v p a b c d with h | h
      · exact .inl h
      · by_cases hh : 0 ≤ hd E (rd (iW T v) p)
        · exact .inr (D _ hh h)
        · refine .inr ⟨h.1, ?_⟩;have : rd (N.set u.toNat (rd N u + 1)) (hd E (rd (iW T v) p)) = rd (N.set u.toNat (rd N u + 1)) 0 := by unfold rd; rw [show (hd E (List.getD (iW T v) p.toNat 0)).toNat = (0 : Int).toNat by unfold rd at hh; omega]
          have h2 : rd N (hd E (rd (iW T v) p)) = rd N 0 := by unfold rd; rw [show (hd E (List.getD (iW T v) p.toNat 0)).toNat = (0 : Int).toNat by unfold rd at hh; omega]
          have h3 : iW T (hd E (rd (iW T v) p)) = iW T 0 := by unfold iW; rw [show (hd E (rd (T.getD v.toNat []) p)).toNat = (0 : Int).toNat by unfold iW at hh; omega]
          have h4 := h.2;rw [h2, h3] at h4;rw [this, h3, R 0 (Int.le_refl 0), if_neg]
          · exact h4
          · rintro rfl; omega
theorem Pth.lvl (hs : rd L s = 1) (h : Pth E A T L s t N out i) : rd L i = out.length + 1 := by
  induction h with
  | nil => rw [hs]; rfl
  | snoc out j _ _ _ had _ _ _ ih => rw [had.2, ih, List.length_append]; simp
theorem Pth.keep (g : EG n E) (hs : rd L s = 1) (h : Pth E A T L s t N out i) (hk : ∀ u, 0 ≤ u → rd L u < rd L i → rd N' u = rd N u) : Pth E A T L s t N' out i := by
  induction h with
  | nil => exact .nil
  | snoc out j hp h0 h1 had hr hl ht ih =>
    have h2 := had.2;have e := hk (tl E j) (g.arc h0 h1).2.2.1 (by omega);exact .snoc out j (ih fun u hu hlt => hk u hu (by omega)) h0 h1 had (by rw [e]; exact hr) (by rw [e]; exact hl) ht
theorem Pth.in (g : EG n E) (h0 : 0 ≤ s) (h1 : s < n) (h : Pth E A T L s t N out i) : 0 ≤ i ∧ i < n := by
  cases h with
  | nil => exact ⟨h0, h1⟩
  | snoc out j _ a b => exact ⟨(g.arc a b).1, (g.arc a b).2.1⟩
theorem Dh (out : List Int) (j : Int) : rd (out ++ [j]) (((out ++ [j]).length : Int) - 1) = j := by
  unfold rd;rw [List.length_append, List.getD_eq_getElem?_getD, show ((((out.length + [j].length : Nat) : Int) - 1).toNat) = out.length by simp only [List.length_singleton]; omega];simp
end
section
variable {n s t : Int} {E : List Ed} {A : List S78} {T : List (List Int)} {L c : List Int} {a3 : Int} {a4 : Bool}
def PQ (n s t : Int) (E : List Ed) (A : List S78) (T : List (List Int)) (L : List Int) (M : Int) (y : Int) (r : List Int × List Int × Int) : Prop :=
  NX n T r.2.1 ∧ DI n E A T L t r.2.1 ∧ (r.1 = [] → Dead T t r.2.1 s) ∧ (r.1 ≠ [] → Pth E A T L s t r.2.1 r.1 t) ∧ ∃ z : Nat, r.2.2 = it z y ∧ (z : Int) + wt n T r.2.1 * (n + 2) < M
theorem zU (g : EG n E) (ga : AG E A) (gt : TG n E T) (lv : LV n s L) (s0 : 0 ≤ s) (s1 : s < n) (hst : s ≠ t) :
    ∀ (M : Nat) (out : List Int) (i : Int) (N : List Int) (y : Int), i ≠ t → NX n T N → DI n E A T L t N → Pth E A T L s t N out i → wt n T N * (n + 2) + (n + 1 - rd L i) < M → Ev (fun k => jk.l0 k a3 a4 t A c T L out i N y) (PQ n s t E A T L M y) := by
  intro M
  induction M with
  | zero =>
    intro out i N y hi hN hD hP hM;have := hN.wt;have h2 := hP.in g s0 s1;have := (lv.b i h2.1 h2.2).2;have : 0 ≤ wt n T N * (n + 2) := Int.mul_nonneg hN.wt (by omega);omega
  | succ M ih =>
    intro out i N y hi hN hD hP hM;obtain ⟨i0, i1⟩ := hP.in g s0 s1;have hNl := hN.l;have hTl := gt.l;have hLl := lv.l;have hAl := ga.l;have hm := g.m;have hn2 := g.n2;have hlen := gt.c i;have hLb := lv.b i i0 i1;have hNb := hN.b i i0 i1;have hlv := hP.lvl lv.s1;have hwt : 0 ≤ wt n T N * (n + 2) := Int.mul_nonneg hN.wt (by omega)
    have cost : ∀ {M' : Int} {r : List Int × List Int × Int} {y'}, y' = wrap64 (y + 1) ∨ y' = y → PQ n s t E A T L M y' r → PQ n s t E A T L (M + 1 : Nat) y r := by
      rintro M' r y' hy ⟨a, b, d, e, z, hz, hw⟩;refine ⟨a, b, d, e, ?_⟩;rcases hy with rfl | rfl
      · exact ⟨z + 1, hz, by omega⟩
      · exact ⟨z, hz, by omega⟩
    refine Ev.sub 1 ?_;simp only [jk.l0, if_pos i0, if_pos (show i < (N.length : Int) by omega), if_pos (show i < (T.length : Int) by omega)];by_cases hp : rd N i < ((iW T i).length : Int)
    · obtain ⟨j, hj⟩ : ∃ j, rd (iW T i) (rd N i) = j := ⟨_, rfl⟩;obtain ⟨j0, j1, j2⟩ := (gt.i i j i0 i1).1 (hj ▸ qw hNb.1 hp);obtain ⟨v0, v1, _, _, vne⟩ := g.arc j0 j1;have hh := ga.h j j0 j1;have hvb := lv.b _ v0 v1;have wp : wrap64 (rd N i + 1) = rd N i + 1 := wr (by omega) (by omega);have wL : wrap64 (rd L i + 1) = rd L i + 1 := wr (by omega) (by omega);have next : ¬ AD E A L j → Ev (fun k => jk.l0 k a3 a4 t A c T L out i (N.set i.toNat (rd N i + 1)) y) (PQ n s t E A T L (M + 1 : Nat) y) := by
        intro hna;obtain ⟨hN', hw⟩ := hN.set i0 i1 hp;refine (ih out i _ y hi hN' (hD.set hNl i0 i1 hp (.inl (hj ▸ hna)) g gt hNb.1) (hP.keep g lv.s1 (fun u hu hlt => ?_)) ?_).mono (fun r h => cost (M' := 0) (.inr rfl) h)
        · rw [nD _ i0 (by omega) hu, if_neg]; rintro rfl; omega
        · rw [hw];have : (wt n T N - 1) * (n + 2) = wt n T N * (n + 2) - (n + 2) := by rw [Int.sub_mul]; omega
          rw [this]; omega
      simp only [if_pos hp, hj, if_pos hNb.1, if_pos j0, if_pos (show j < (A.length : Int) by omega), zQ j0 (show j < (A.length : Int) by omega), Option.bind_some, hh, wp, wL];by_cases hr : psR A j
      · simp only [if_pos (show decide (psR A j) = true from decide_eq_true hr), if_pos v0, if_pos (show hd E j < (L.length : Int) by omega), if_pos (show i < (L.length : Int) by omega)];by_cases he : rd L (hd E j) = rd L i + 1
        · have had : AD E A L j := ⟨hr, by rw [j2]; exact he⟩;simp only [if_pos he, if_pos (show out.length < 17592186044416 by omega)];have hP' : Pth E A T L s t N (out ++ [j]) (hd E j) := .snoc out j (by rw [j2]; exact hP) j0 j1 had (by rw [j2]; exact hj) (by rw [j2]; exact hp) (by rw [j2]; exact hi);refine Ev.sub 1 ?_;simp only [jk.l1];by_cases ht : hd E j = t
          · simp only [if_pos ht, if_pos (show 0 < (((out ++ [j]).length : Nat) : Int) by simp)];refine Ev.ret ⟨hN, hD, fun h => absurd h (by simp), fun _ => ht ▸ hP', 0, rfl, ?_⟩;dsimp only; omega
          · simp only [if_neg ht, Option.bind_some];refine (ih _ _ N _ ht hN hD hP' ?_).mono (fun r h => cost (M' := 0) (.inl rfl) h);rw [he]; omega
        · simp only [if_neg he];exact next (fun h => he (by rw [← j2]; exact h.2))
      · simp only [decide_eq_false hr, if_neg (show ¬ false = true by decide)];exact next (fun h => hr h.1)
    · have hpe : rd N i = ((iW T i).length : Int) := by omega
      simp only [if_neg hp]
      cases hP with
      | nil =>
        simp only [if_pos (show ((([] : List Int).length : Nat) : Int) = 0 from rfl)];exact Ev.ret ⟨hN, hD, fun _ => ⟨hst, hpe⟩, fun h => absurd rfl h, 0, rfl, by dsimp only; omega⟩
      | snoc out j hP h0 h1 had hr hlt hne =>
        obtain ⟨v0, v1, u0, u1, _⟩ := g.arc h0 h1;obtain ⟨r0, r1⟩ := yx h0 h1;have hol : ((out ++ [j]).length : Int) = out.length + 1 := by simp
        have hlv' := hP.lvl lv.s1;have hLu := lv.b _ u0 u1;have w1 : wrap64 (((out ++ [j]).length : Int) - 1) = ((out ++ [j]).length : Int) - 1 := wr (by omega) (by omega);have hx : Go.bits .xor .i64 j 1 = rv j := FQ h0 (by omega);have hh := ga.h (rv j) r0 r1;rw [yA] at hh;have hNu := hN.b _ u0 u1;have hcu := gt.c (tl E j);have wp : wrap64 (rd N (tl E j) + 1) = rd N (tl E j) + 1 := wr (by omega) (by omega);have htk : (out ++ [j]).take ((((out ++ [j]).length : Int) - 1).toNat) = out := by
          rw [hol, show ((out.length : Int) + 1 - 1).toNat = out.length by omega]; simp
        simp only [if_neg (show ¬ ((out ++ [j]).length : Int) = 0 by omega), w1, Dh, hx, htk, if_pos (show 0 ≤ ((out ++ [j]).length : Int) - 1 by omega), if_pos (show ((out ++ [j]).length : Int) - 1 < ((out ++ [j]).length : Int) by omega), if_pos r0, if_pos (show rv j < (A.length : Int) by omega), if_pos (show ((out ++ [j]).length : Int) - 1 ≤ ((out ++ [j]).length : Int) by omega), Option.bind_some, hh, if_pos u0, if_pos (show tl E j < (N.length : Int) by omega), wp];refine Ev.sub 1 ?_;simp only [jk.l1, if_neg hne, Option.bind_some];obtain ⟨hN', hw⟩ := hN.set u0 u1 hlt;refine (ih out _ _ _ hne hN' (hD.set hNl u0 u1 hlt (.inr (by rw [hr]; exact ⟨hi, hpe⟩)) g gt hNu.1) (hP.keep g lv.s1 (fun u hu hl => ?_)) ?_).mono (fun r h => cost (M' := 0) (.inl rfl) h)
        · rw [nD _ u0 (by omega) hu, if_neg]; rintro rfl; omega
        · rw [hw];have : (wt n T N - 1) * (n + 2) = wt n T N * (n + 2) - (n + 2) := by rw [Int.sub_mul]; omega
          have h2 := had.2;rw [this]; omega
theorem vC (g : EG n E) (ga : AG E A) (gt : TG n E T) (lv : LV n s L) (s0 : 0 ≤ s) (s1 : s < n) (hst : s ≠ t) {N : List Int} {y : Int} (hN : NX n T N) (hD : DI n E A T L t N) : Ev (fun k => jk.f k A c T a3 a4 L N y s t) (PQ n s t E A T L (wt n T N * (n + 2) + n + 2) y) := by
  simp only [jk.f];refine Ev.sub 1 ?_;simp only [jk.l1, if_neg hst, Option.bind_some];have hwt : 0 ≤ wt n T N * (n + 2) := Int.mul_nonneg hN.wt (by have := g.n1; omega);have hn1 := g.n1;have hs := lv.s1;refine (zU g ga gt lv s0 s1 hst (wt n T N * (n + 2) + n + 1).toNat [] s N _ hst hN hD .nil (by omega)).mono ?_;rintro r ⟨a, b, d, e, z, hz, hw⟩;exact ⟨a, b, d, e, z + 1, hz, by omega⟩
theorem AP (g : EG n E) (gt : TG n E T) {N : List Int} (s0 : 0 ≤ s) (s1 : s < n) (hD : DI n E A T L t N) (hN : NX n T N) (ho : ∀ v, 0 ≤ v → v < n → rd L v = 1 → v = s) (hd : ∀ v, 0 ≤ v → v < n → 0 < rd L v → v ≠ s → ∃ j, 0 ≤ j ∧ j < 2 * (E.length : Int) ∧ psR A j ∧ hd E j = v ∧ 0 < rd L (tl E j) ∧ rd L v = rd L (tl E j) + 1) : ∀ (z : Nat) (v : Int), 0 ≤ v → v < n → rd L v = (z : Int) + 1 → ¬ Dead T t N v → ¬ Dead T t N s := by
  intro z
  induction z with
  | zero => intro v a b e h; have := ho v a b (by omega); rw [← this]; exact h
  | succ z ih =>
    intro v a b e h;by_cases hs : v = s
    · rw [← hs]; exact h
    obtain ⟨j, j0, j1, p, hv, h0, hl⟩ := hd v a b (by omega) hs;obtain ⟨_, _, u0, u1, _⟩ := g.arc j0 j1;refine ih (tl E j) u0 u1 (by omega) (fun hdu => ?_);obtain ⟨p', p0, p1, hp'⟩ := tY ((gt.i (tl E j) j u0 u1).2 ⟨j0, j1, rfl⟩);rcases hD (tl E j) p' u0 u1 p0 (by rw [hdu.2]; exact p1) with h' | h'
    · exact h' (by rw [hp']; exact ⟨p, by rw [hv]; exact hl⟩)
    · rw [hp', hv] at h'; exact h h'
end
end Go.Proofs.Ytdkbmchbkkhpoaa.Flow
set_option linter.unusedVariables false
set_option linter.unusedSimpArgs false
namespace Go.Proofs.Ytdkbmchbkkhpoaa.Flow
open Go.RowKit Go.Proofs.Ytdkbmchbkkhpoaa.PMfr Go.Proofs.YtdkbmchbkkhpoaaW.PrintWords Go.Proofs.YtdkbmchbkkhpoaaW.PrintLast Go.Proofs.YtdkbmchbkkhpoaaW.PrintMore
def Ph (E : List Ed) (A : List S78) (X : Int → Int) : Int := Sm (fun e => rm A (2 * (e : Int) + 1) * (X (ea E e) - X (eb E e))) E.length
def drop1 (E : List Ed) (X : Int → Int) (path : List Int) (q : Nat) : Int := X (tl E (rd path q)) - X (hd E (rd path q))
section
variable {n s t : Int} {E : List Ed} {A : List S78} {T : List (List Int)} {L N out c : List Int} {i a3 y : Int} {a4 : Bool}
theorem zV (out : List Int) (j : Int) {p : Int} (h0 : 0 ≤ p) : rd (out ++ [j]) p = if p < (out.length : Int) then rd out p else if p = out.length then j else 0 := by
  unfold rd;rw [List.getD_eq_getElem?_getD, List.getD_eq_getElem?_getD];by_cases h : p < (out.length : Int)
  · rw [if_pos h, List.getElem?_append_left (by omega)]
  · rw [if_neg h, List.getElem?_append_right (by omega)];by_cases e : p = out.length
    · rw [if_pos e, show p.toNat - out.length = 0 by omega]; rfl
    · rw [if_neg e, List.getElem?_eq_none (by simp; omega)]; rfl
theorem Pth.at (hs : rd L s = 1) (h : Pth E A T L s t N out i) : ∀ p : Int, 0 ≤ p → p < (out.length : Int) → 0 ≤ rd out p ∧ rd out p < 2 * (E.length : Int) ∧ AD E A L (rd out p) ∧ rd L (tl E (rd out p)) = p + 1 := by
  induction h with
  | nil => intro p h0 h1; simp at h1; omega
  | snoc out j hp h0 h1 had hr hl ht ih =>
    intro p p0 p1;have hll := hp.lvl hs;rw [zV out j p0];simp only [List.length_append, List.length_singleton] at p1;by_cases h : p < (out.length : Int)
    · rw [if_pos h]; exact ih p p0 h
    · rw [if_neg h, if_pos (by omega)];exact ⟨h0, h1, had, by omega⟩
theorem Pth.FT (h : Pth E A T L s t N out i) (X : Int → Int) : Sm (drop1 E X out) out.length = X s - X i := by
  induction h with
  | nil => exact (Int.sub_self _).symm
  | snoc out j hp h0 h1 had hr hl ht ih =>
    rw [List.length_append, List.length_singleton, Sm, Sm.congr (g := drop1 E X out), ih]
    · unfold drop1;rw [zV _ _ (by omega), if_neg (by omega), if_pos rfl]; omega
    · intro q hq;unfold drop1;rw [zV _ _ (by omega), if_pos (by omega)]
structure PP (E : List Ed) (A : List S78) (path : List Int) : Prop where
  l : path.length ≤ 100000
  v : ∀ p : Int, 0 ≤ p → p < (path.length : Int) → 0 ≤ rd path p ∧ rd path p < 2 * (E.length : Int) ∧ 0 < rm A (rd path p)
  d : ∀ p q : Int, 0 ≤ p → p < (path.length : Int) → 0 ≤ q → q < (path.length : Int) → rd path p = rd path q → p = q
  r : ∀ p q : Int, 0 ≤ p → p < (path.length : Int) → 0 ≤ q → q < (path.length : Int) → rv (rd path p) ≠ rd path q
theorem Pth.pp (g : EG n E) (lv : LV n s L) (s0 : 0 ≤ s) (s1 : s < n) (h : Pth E A T L s t N out i) : PP E A out := by
  have hl := h.lvl lv.s1;have hb := lv.b i (h.in g s0 s1).1 (h.in g s0 s1).2;have hn := g.n2;have ha := h.at lv.s1;refine ⟨by omega, fun p a b => ⟨(ha p a b).1, (ha p a b).2.1, (ha p a b).2.2.1.1⟩, fun p q a b c d e => ?_, fun p q a b c d e => ?_⟩
  · have h1 := (ha p a b).2.2.2;have h2 := (ha q c d).2.2.2;rw [e] at h1; omega
  · have h1 := (ha p a b).2.2.1.2;have h2 := (ha q c d).2.2.1.2;rw [← e, yA, zN] at h2; omega
variable {path : List Int}
def PR (E : List Ed) (A A' : List S78) (path : List Int) (m p : Int) : Prop :=
  ∀ u, 0 ≤ u → u < 2 * (E.length : Int) → (∀ q : Int, 0 ≤ q → q < (path.length : Int) → rv u ≠ rd path q) → ((∃ q : Int, 0 ≤ q ∧ q < p ∧ rd path q = u) → rm A' u = rm A u - m) ∧ ((∀ q : Int, 0 ≤ q → q < p → rd path q ≠ u) → rm A' u = rm A u)
theorem Di (g : EG n E) {A0 : List S78} (hp : PP E A0 path) {m : Int} (m0 : 0 ≤ m) (hm : ∀ p : Int, 0 ≤ p → p < (path.length : Int) → m ≤ rm A0 (rd path p)) :
    ∀ (z : Nat) (A : List S78) (p : Int), 0 ≤ p → p + z = (path.length : Int) → AG E A → PR E A0 A path m p → (∀ X, Ph E A X = Ph E A0 X + m * Sm (drop1 E X path) p.toNat) →
    Ev (fun k => jr.l0 k path m p A) (fun r => r.1 = m ∧ AG E r.2 ∧ PR E A0 r.2 path m path.length ∧ ∀ X, Ph E r.2 X = Ph E A0 X + m * Sm (drop1 E X path) path.length) := by
  intro z
  induction z with
  | zero =>
    intro A p p0 pz ga pr ph;refine Ev.sub 1 ?_;simp only [jr.l0, if_neg (show ¬ p < (path.length : Int) by omega)];have e : p = path.length := by omega
    subst e;exact Ev.ret ⟨rfl, ga, pr, ph⟩
  | succ z ih =>
    intro A p p0 pz ga pr ph;have pl : p < (path.length : Int) := by omega
    obtain ⟨j, hj⟩ : ∃ j, rd path p = j := ⟨_, rfl⟩;obtain ⟨j0, j1, _⟩ := hp.v p p0 pl;have hmj := hm p p0 pl;rw [hj] at j0 j1 hmj;obtain ⟨r0, r1⟩ := yx j0 j1;have hnr : ∀ q : Int, 0 ≤ q → q < (path.length : Int) → rv j ≠ rd path q := fun q a b => hj ▸ hp.r p q p0 pl a b;have hrj : rm A j = rm A0 j := (pr j j0 j1 hnr).2 (fun q a b e => by have := hp.d q p a (by omega) p0 pl (e.trans hj.symm); omega);have hlA := ga.l;have hlE := g.m;have hlp := hp.l;obtain ⟨ra, rb⟩ := ga.r j j0 j1;obtain ⟨ra', rb'⟩ := ga.r (rv j) r0 r1;have hle := ga.le g j0 j1;have hle' := ga.le g r0 r1;have hI : Inf = 4611686018427387904 := rfl;rw [wo, xq] at rb';have hcap := g.cap j0 j1;have rrv := FB j;have w1 : wrap64 ((iZ A j).f1 - m) = rm A j - m := wr (by show _ ≤ rm A j - m; omega) (by show rm A j - m ≤ _; omega);have e1 : iZ (A.set j.toNat ⟨(iZ A j).f0, rm A j - m⟩) (rv j) = iZ A (rv j) := by rw [qI _ j0 (by omega) r0, if_neg rrv]
    have w2 : wrap64 ((iZ A (rv j)).f1 + m) = rm A (rv j) + m := wr (by show _ ≤ rm A (rv j) + m; omega) (by show rm A (rv j) + m ≤ _; omega);have wp : wrap64 (p + 1) = p + 1 := wr (by omega) (by omega);have hx : Go.bits .xor .i64 j 1 = rv j := FQ j0 (by omega);refine Ev.sub 1 ?_;simp only [jr.l0, if_pos pl, if_pos p0, hj, if_pos j0, if_pos (show j < (A.length : Int) by omega), Option.bind_some, hx, if_pos r0, w1, List.length_set, if_pos (show rv j < (A.length : Int) by omega), e1, w2, wp];obtain ⟨A2, hA2⟩ : ∃ A2, (A.set j.toNat ⟨(iZ A j).f0, rm A j - m⟩).set (rv j).toNat ⟨(iZ A (rv j)).f0, rm A (rv j) + m⟩ = A2 := ⟨_, rfl⟩;rw [hA2];have hl2 : A2.length = A.length := by rw [← hA2, List.length_set, List.length_set]
    have R : ∀ u, 0 ≤ u → iZ A2 u = if u = rv j then ⟨(iZ A (rv j)).f0, rm A (rv j) + m⟩ else if u = j then ⟨(iZ A j).f0, rm A j - m⟩ else iZ A u := fun u hu => by
      rw [← hA2, qI _ r0 (by rw [List.length_set]; omega) hu, qI _ j0 (by omega) hu]
    have Rm : ∀ u, 0 ≤ u → rm A2 u = if u = rv j then rm A (rv j) + m else if u = j then rm A j - m else rm A u := fun u hu => by
      unfold rm;rw [R u hu];split
      · rfl
      · split <;> rfl
    have ga2 : AG E A2 := ⟨by rw [hl2]; exact hlA, fun u u0 u1 => by
        rw [R u u0];split
        · rename_i e; rw [e]; exact ga.h _ r0 r1
        · split
          · rename_i e; rw [e]; exact ga.h _ j0 j1
          · exact ga.h u u0 u1, fun u u0 u1 => by
        obtain ⟨x, y⟩ := ga.r u u0 u1;have ru := yx u0 u1;rw [Rm u u0, Rm (rv u) ru.1];by_cases e : u = rv j
        · subst e;rw [if_pos rfl, wo, if_neg (by omega), if_pos rfl];rw [wo] at y;exact ⟨by omega, by omega⟩
        · rw [if_neg e];by_cases e' : u = j
          · subst e';rw [if_pos rfl, if_pos rfl];exact ⟨by omega, by omega⟩
          · rw [if_neg e', if_neg (fun h => e' (by rw [← wo u, h, wo])), if_neg (fun h => e (by rw [← wo u, h]))];exact ⟨x, y⟩⟩
    refine ih A2 (p + 1) (by omega) (by omega) ga2 (fun u u0 u1 hu => ?_) (fun X => ?_)
    · have hne : u ≠ rv j := fun e => hu p p0 pl (by rw [e, wo]; exact hj.symm);rw [Rm u u0, if_neg hne];obtain ⟨x, y⟩ := pr u u0 u1 hu;constructor
      · rintro ⟨q, q0, q1, e⟩;by_cases e' : u = j
        · rw [if_pos e', e', hrj]
        · rw [if_neg e'];exact x ⟨q, q0, by
            have : q ≠ p := fun e2 => e' (by rw [← e, e2]; exact hj);omega, e⟩
      · intro h;rw [if_neg (fun e => h p p0 (by omega) (by rw [e]; exact hj))];exact y (fun q a b => h q a (by omega))
    · have key : Ph E A2 X = Ph E A X + m * (X (tl E j) - X (hd E j)) := by
        unfold Ph;refine Sm.at (e := (j / 2).toNat) (by omega) (fun e he hne => ?_) ?_
        · rw [Rm _ (by omega), if_neg, if_neg]
          · intro h; omega
          · intro h; have := xq j; omega
        · by_cases hpar : j % 2 = 0
          · have e2 : 2 * (((j / 2).toNat : Nat) : Int) + 1 = rv j := by unfold rv; rw [if_pos hpar]; omega
            rw [e2, Rm _ r0, if_pos rfl];unfold hd tl;rw [if_pos hpar, if_pos hpar, Int.add_mul]
          · have e2 : 2 * (((j / 2).toNat : Nat) : Int) + 1 = j := by omega
            rw [e2, Rm _ j0, if_neg rrv.symm, if_pos rfl];unfold hd tl;rw [if_neg hpar, if_neg hpar, Int.sub_mul];rw [show X (eb E (j / 2).toNat) - X (ea E (j / 2).toNat) = -(X (ea E (j / 2).toNat) - X (eb E (j / 2).toNat)) by omega, Int.mul_neg];omega
      rw [key, ph X, show (p + 1).toNat = p.toNat + 1 by omega, Sm, Int.mul_add];have : drop1 E X path p.toNat = X (tl E j) - X (hd E j) := by
        unfold drop1;rw [show ((p.toNat : Nat) : Int) = p by omega, hj]
      rw [this];omega
theorem AQ (g : EG n E) (ga : AG E A) (hp : PP E A path) {Q : Int × List S78 → Prop}
    (H : ∀ m : Int, 1 ≤ m → m ≤ Inf → (∀ p : Int, 0 ≤ p → p < (path.length : Int) → m ≤ rm A (rd path p)) → (m = Inf ∨ ∃ q : Int, 0 ≤ q ∧ q < (path.length : Int) ∧ m = rm A (rd path q)) → Ev (fun k => jr.l0 k path m 0 A) Q) :
    ∀ (z : Nat) (m p : Int), 0 ≤ p → p + z = (path.length : Int) → 1 ≤ m → m ≤ Inf → (∀ q : Int, 0 ≤ q → q < p → m ≤ rm A (rd path q)) → (m = Inf ∨ ∃ q : Int, 0 ≤ q ∧ q < p ∧ m = rm A (rd path q)) →
    Ev (fun k => jr.l1 k A path m p) Q := by
  intro z
  induction z with
  | zero =>
    intro m p p0 pz m0 m1 hm he;refine Ev.sub 1 ?_;simp only [jr.l1, if_neg (show ¬ p < (path.length : Int) by omega)];have e : p = path.length := by omega
    subst e;exact H m m0 m1 hm he
  | succ z ih =>
    intro m p p0 pz m0 m1 hm he;have pl : p < (path.length : Int) := by omega
    obtain ⟨j0, j1, j2⟩ := hp.v p p0 pl;have hlA := ga.l;have hlp := hp.l;have wp : wrap64 (p + 1) = p + 1 := wr (by omega) (by omega);refine Ev.sub 1 ?_;simp only [jr.l1, if_pos pl, if_pos p0, if_pos j0, if_pos (show rd path p < (A.length : Int) by omega), wp];have hmn : mn m (iZ A (rd path p)).f1 = if rm A (rd path p) < m then rm A (rd path p) else m := rfl
    rw [hmn];have hle := ga.le g j0 j1;refine ih _ (p + 1) (by omega) (by omega) (by split <;> omega) (by split <;> omega) (fun q q0 q1 => ?_) ?_
    · by_cases e : q = p
      · subst e; split <;> omega
      · have := hm q q0 (by omega);split <;> omega
    · split
      · exact .inr ⟨p, p0, by omega, rfl⟩
      · exact he.imp id (fun ⟨q, a, b, e⟩ => ⟨q, a, by omega, e⟩)
theorem zW (g : EG n E) (ga : AG E A) (hp : PP E A path) : Ev (fun k => jr.f k A c T a3 a4 L N y path) (fun r => 1 ≤ r.1 ∧ r.1 ≤ Inf ∧ AG E r.2 ∧ PR E A r.2 path r.1 path.length ∧ (∀ X, Ph E r.2 X = Ph E A X + r.1 * Sm (drop1 E X path) path.length) ∧ (r.1 = Inf ∨ ∃ q : Int, 0 ≤ q ∧ q < (path.length : Int) ∧ r.1 = rm A (rd path q))) := by
  simp only [jr.f];refine AQ g ga hp (fun m m0 m1 hm he => ?_) path.length Inf 0 (Int.le_refl 0) (by omega) (by decide) (Int.le_refl _) (fun q a b => by omega) (.inl rfl);refine (Di g hp (by omega) hm path.length A 0 (Int.le_refl 0) (by omega) ga (fun u u0 u1 hu => ⟨fun ⟨q, a, b, _⟩ => by omega, fun _ => rfl⟩) (fun X => by simp [Sm])).mono ?_;rintro r ⟨rfl, b, d, e⟩;exact ⟨m0, m1, b, d, e, he⟩
end
end Go.Proofs.Ytdkbmchbkkhpoaa.Flow
set_option linter.unusedVariables false
set_option linter.unusedSimpArgs false
namespace Go.Proofs.Ytdkbmchbkkhpoaa.Flow
open Go.RowKit Go.Proofs.Ytdkbmchbkkhpoaa.PMfr Go.Proofs.YtdkbmchbkkhpoaaW.PrintWords Go.Proofs.YtdkbmchbkkhpoaaW.PrintLast Go.Proofs.YtdkbmchbkkhpoaaW.PrintMore
inductive Rch (R : Int → Int → Prop) (s : Int) : Int → Prop
  | refl : Rch R s s
  | step (u v : Int) : Rch R s u → R u v → Rch R s v
def EP (E : List Ed) (u v : Int) : Prop := ∃ e, e < E.length ∧ ea E e = u ∧ eb E e = v ∧ ec E e = Inf
def qP (E : List Ed) (s t : Int) : Prop := Rch (EP E) s t
def qJ (E : List Ed) (C : Int → Bool) : Int := Sm (fun e => if C (ea E e) = true ∧ C (eb E e) = false then ec E e else 0) E.length
def Fin1 (E : List Ed) (C : Int → Bool) : Prop := ∀ e, e < E.length → C (ea E e) = true → C (eb E e) = false → ec E e < Inf
structure FL (E : List Ed) (s t : Int) (f : Nat → Int) (v : Int) : Prop where
  b : ∀ e, e < E.length → 0 ≤ f e ∧ f e ≤ ec E e
  k : ∀ X : Int → Int, Sm (fun e => f e * (X (ea E e) - X (eb E e))) E.length = v * (X s - X t)
def xw (E : List Ed) (s t : Int) (C : Int → Bool) : Prop := C s = true ∧ C t = false ∧ Fin1 E C
def sO (E : List Ed) (s t v : Int) : Prop := (∃ f, FL E s t f v) ∧ ∃ C, xw E s t C ∧ qJ E C = v
def ind (C : Int → Bool) (x : Int) : Int := if C x = true then 1 else 0
section
variable {n s t v w : Int} {E : List Ed} {A : List S78} {C : Int → Bool} {f : Nat → Int}
theorem FL.le (h : FL E s t f v) (hC : xw E s t C) : v ≤ qJ E C := by
  have hk := h.k (ind C);have e : ind C s - ind C t = 1 := by unfold ind; rw [if_pos hC.1, if_neg (by rw [hC.2.1]; decide)]; rfl
  rw [e, Int.mul_one] at hk;rw [← hk];refine Sm.mono (fun e he => ?_);obtain ⟨h0, h1⟩ := h.b e he;unfold ind;by_cases ha : C (ea E e) = true <;> by_cases hb : C (eb E e) = true
  · rw [if_pos ha, if_pos hb, if_neg (fun hh => by rw [hb] at hh; exact absurd hh.2 (by decide))]; omega
  · rw [if_pos ha, if_neg hb, if_pos ⟨ha, by simpa using hb⟩]; omega
  · rw [if_neg ha, if_pos hb, if_neg (fun hh => ha hh.1)]; omega
  · rw [if_neg ha, if_neg hb, if_neg (fun hh => ha hh.1)]; omega
theorem sO.uniq (h : sO E s t v) (h' : sO E s t w) : v = w := by
  obtain ⟨⟨f, hf⟩, C, hC, e⟩ := h;obtain ⟨⟨f', hf'⟩, C', hC', e'⟩ := h';have a := hf.le hC';have b := hf'.le hC;omega
theorem qJ.fs (g : EG n E) (h : Fin1 E C) : qJ E C ≤ fs E := by
  refine Sm.mono (fun e he => ?_);obtain ⟨_, _, _, h0, _⟩ := g.v e he;split
  · rename_i hc
    rw [if_pos (h e he hc.1 hc.2)]; omega
  · split <;> omega
theorem qJ.nonneg (g : EG n E) : 0 ≤ qJ E C := Sm.nonneg (fun e he => by
  obtain ⟨_, _, _, h0, _⟩ := g.v e he;split <;> omega)
theorem AG.fl (ga : AG E A) {tot : Int} (hk : ∀ X, Ph E A X = tot * (X s - X t)) : FL E s t (fun e => rm A (2 * (e : Int) + 1)) tot := ⟨fun e he => by
    obtain ⟨a, b⟩ := ga.r (2 * (e : Int) + 1) (by omega) (by omega);have hr := yx (j := 2 * (e : Int) + 1) (m := E.length) (by omega) (by omega);have := (ga.r _ hr.1 hr.2).1;rw [show ((2 * (e : Int) + 1) / 2).toNat = e by omega] at b;exact ⟨a, by omega⟩, hk⟩
theorem AG.cut (g : EG n E) (ga : AG E A) {tot : Int} (hk : ∀ X, Ph E A X = tot * (X s - X t)) (hs : C s = true) (ht : C t = false) (hc : ∀ j, 0 ≤ j → j < 2 * (E.length : Int) → psR A j → C (tl E j) = true → C (hd E j) = true) : qJ E C = tot ∧ (tot < Inf → xw E s t C) := by
  have e1 : ∀ e : Nat, e < E.length → C (ea E e) = true → C (eb E e) = false → rm A (2 * (e : Int) + 1) = ec E e := fun e he a b => by
    have h := hc (2 * (e : Int)) (by omega) (by omega);unfold hd tl at h;rw [if_pos (by omega), if_pos (by omega), show (2 * (e : Int) / 2).toNat = e by omega] at h;obtain ⟨x, y⟩ := ga.r (2 * (e : Int)) (by omega) (by omega);have er : rv (2 * (e : Int)) = 2 * (e : Int) + 1 := by unfold rv; rw [if_pos (by omega)]
    rw [er, show (2 * (e : Int) / 2).toNat = e by omega] at y;have : ¬ psR A (2 * (e : Int)) := fun hp => by have := h hp a; rw [b] at this; exact absurd this (by decide)
    unfold psR at this;omega
  have e2 : ∀ e : Nat, e < E.length → C (ea E e) = false → C (eb E e) = true → rm A (2 * (e : Int) + 1) = 0 := fun e he a b => by
    have h := hc (2 * (e : Int) + 1) (by omega) (by omega);unfold hd tl at h;rw [if_neg (by omega), if_neg (by omega), show ((2 * (e : Int) + 1) / 2).toNat = e by omega] at h;obtain ⟨x, y⟩ := ga.r (2 * (e : Int) + 1) (by omega) (by omega);have : ¬ psR A (2 * (e : Int) + 1) := fun hp => by have := h hp b; rw [a] at this; exact absurd this (by decide)
    unfold psR at this;omega
  have hv : qJ E C = tot := by
    have hk := hk (ind C);have e : ind C s - ind C t = 1 := by unfold ind; rw [if_pos hs, if_neg (by rw [ht]; decide)]; rfl
    rw [e, Int.mul_one] at hk;rw [← hk];refine Sm.congr (fun e he => ?_);unfold ind;by_cases ha : C (ea E e) = true <;> by_cases hb : C (eb E e) = true
    · rw [if_pos ha, if_pos hb, if_neg (fun hh => by rw [hb] at hh; exact absurd hh.2 (by decide))]; omega
    · rw [if_pos ha, if_neg hb, if_pos ⟨ha, by simpa using hb⟩, e1 e he ha (by simpa using hb)]; omega
    · rw [if_neg ha, if_pos hb, if_neg (fun hh => ha hh.1), e2 e he (by simpa using ha) hb]; omega
    · rw [if_neg ha, if_neg hb, if_neg (fun hh => ha hh.1)]; omega
  refine ⟨hv, fun hlt => ⟨hs, ht, fun e he a b => ?_⟩⟩;have := Sm.one (f := fun e => if C (ea E e) = true ∧ C (eb E e) = false then ec E e else 0) (n := E.length) (fun i hi => by
    obtain ⟨_, _, _, h0, _⟩ := g.v i hi;split <;> omega) he
  rw [if_pos ⟨a, b⟩] at this;unfold qJ at hv;omega
theorem Bl (h : ¬ qP E s t) (g : EG n E) : ∃ C, xw E s t C := by
  classical
  refine ⟨fun x => decide (qP E s x), decide_eq_true .refl, decide_eq_false h, fun e he a b => ?_⟩;have := (g.v e he).2.2.2.2;refine Classical.byContradiction fun hn => ?_;exact absurd (Rch.step _ _ (of_decide_eq_true a) ⟨e, he, rfl, rfl, by omega⟩) (of_decide_eq_false b)
theorem Bo (h : qP E s t) (hC : xw E s t C) : False := by
  have : ∀ x, Rch (EP E) s x → C x = true := by
    intro x hx
    induction hx with
    | refl => exact hC.1
    | step u v _ huv ih =>
      obtain ⟨e, he, rfl, rfl, hi⟩ := huv;refine Classical.byContradiction fun hn => ?_;have := hC.2.2 e he ih (by simpa using hn);omega
  have := this t h;rw [hC.2.1] at this;exact absurd this (by decide)
end
end Go.Proofs.Ytdkbmchbkkhpoaa.Flow
set_option linter.unusedVariables false
set_option linter.unusedSimpArgs false
namespace Go.Proofs.Ytdkbmchbkkhpoaa.Flow
open Go.RowKit Go.Proofs.Ytdkbmchbkkhpoaa.PMfr Go.Proofs.YtdkbmchbkkhpoaaW.PrintWords Go.Proofs.YtdkbmchbkkhpoaaW.PrintLast Go.Proofs.YtdkbmchbkkhpoaaW.PrintMore
section
variable {n s t : Int} {E : List Ed} {T : List (List Int)} {c : List Int} {a3 : Int}
theorem BI.lv {ps x : Int → Prop} {L q : List Int} (h : BI n E s ps x L q) : LV n s L := ⟨h.l, fun v a b => by
  have := h.b v a b;have := cnt_le L;have := h.l;omega, h.s1⟩
theorem DI.push {A A' : List S78} {L N path : List Int} {m : Int} (g : EG n E) (gt : TG n E T) (hN : NX n T N) (h : DI n E A T L t N) (m0 : 0 ≤ m) (hp : ∀ p : Int, 0 ≤ p → p < (path.length : Int) → AD E A L (rd path p)) (pr : PR E A A' path m path.length) : DI n E A' T L t N := by
  intro v p a b p0 p1;refine (h v p a b p0 p1).imp (fun hn had => hn ⟨?_, had.2⟩) id;have hb := (hN.b v a b).2;obtain ⟨j0, j1, j2⟩ := (gt.i v _ a b).1 (qw p0 (by omega));obtain ⟨j, hj⟩ : ∃ j, rd (iW T v) p = j := ⟨_, rfl⟩;rw [hj] at had j0 j1 j2 ⊢;have hr : ∀ q : Int, 0 ≤ q → q < (path.length : Int) → rv j ≠ rd path q := fun q q0 q1 e => by
    have h1 := (hp q q0 q1).2;rw [← e, yA, zN] at h1;have := had.2;omega
  obtain ⟨x, y⟩ := pr j j0 j1 hr;have h0 := had.1;unfold psR at h0 ⊢;by_cases hq : ∃ q : Int, 0 ≤ q ∧ q < (path.length : Int) ∧ rd path q = j
  · have := x hq; omega
  · have := y (fun q q0 q1 e => hq ⟨q, q0, q1, e⟩); omega
def MQ (n s t : Int) (E : List Ed) (c : List Int) (T : List (List Int)) (r : Int × Int × List S78 × Bool × List Int × List Int × Int) : Prop :=
  r.2.1 = 0 ∧ r.2.2.2.1 = true ∧ AG E r.2.2.1 ∧ (∀ X, Ph E r.2.2.1 X = r.1 * (X s - X t)) ∧ sO E s t r.1 ∧ BI n E s (psR r.2.2.1) (fun _ => True) r.2.2.2.2.1 [] ∧ rd r.2.2.2.2.1 t = 0
theorem AU (g : EG n E) (gt : TG n E T) (s0 : 0 ≤ s) (s1 : s < n) (t0 : 0 ≤ t) (t1 : t < n) (hst : s ≠ t) (hE : ¬ qP E s t) {b : Bool} : ∀ M : Nat,
    (∀ (A : List S78) (path L N : List Int) (y tot : Int), AG E A → (∀ X, Ph E A X = tot * (X s - X t)) → LV n s L → NX n T N → DI n E A T L t N → (path ≠ [] → Pth E A T L s t N path t) → 0 ≤ tot → fs E - tot < M → Ev (fun k => iP.l0 k a3 s t c T b L tot path A N y) (MQ n s t E c T)) ∧
    (∀ (A : List S78) (L N : List Int) (y tot : Int), AG E A → (∀ X, Ph E A X = tot * (X s - X t)) → 0 ≤ tot → fs E - tot < M → Ev (fun k => iP.l1 k a3 s t c T b tot A L N y) (MQ n s t E c T)) := by
  obtain ⟨C0, hC0⟩ := Bl hE g;have bound : ∀ (A : List S78) (tot : Int), AG E A → (∀ X, Ph E A X = tot * (X s - X t)) → tot ≤ fs E := fun A tot ga hk => Int.le_trans ((ga.fl hk).le hC0) (qJ.fs g hC0.2.2);have hfs := g.s;have hI : Inf = 4611686018427387904 := rfl;intro M
  induction M with
  | zero =>
    refine ⟨fun A path L N y tot ga hk _ _ _ _ _ h => ?_, fun A L N y tot ga hk _ h => ?_⟩ <;>
    · have := bound A tot ga hk;omega
  | succ M ih =>
    have step : ∀ (A : List S78) (path L N : List Int) (y tot : Int), AG E A → (∀ X, Ph E A X = tot * (X s - X t)) → LV n s L → NX n T N → DI n E A T L t N → path ≠ [] → Pth E A T L s t N path t → 0 ≤ tot → fs E - tot < (M + 1 : Nat) → Ev (fun k => iP.l0 k a3 s t c T b L tot path A N y) (MQ n s t E c T) := by
      intro A path L N y tot ga hk lv hN hD hne hP h0 hM;have hlen : 0 < (path.length : Int) := by
        cases path with
        | nil => exact absurd rfl hne
        | cons => simp only [List.length_cons]; omega
      refine Ev.sub 1 ?_;simp only [iP.l0, if_pos hlen];refine (zW g ga (hP.pp g lv s0 s1)).bind ?_;rintro ⟨m, A'⟩ ⟨m0, m1, ga', pr, ph, _⟩;dsimp only at m0 m1 ga' pr ph;have hk' : ∀ X, Ph E A' X = (tot + m) * (X s - X t) := fun X => by rw [ph X, hk X, hP.FT X, Int.add_mul]
      have hD' := hD.push g gt hN (by omega) (fun p a b => (hP.at lv.s1 p a b).2.2.1) pr;have hb' := bound A' (tot + m) ga' hk';refine (vC g ga' gt lv s0 s1 hst hN hD').bind ?_;rintro ⟨path', N', y'⟩ ⟨hN', hD'', _, hp', _⟩;dsimp only at hN' hD'' hp' ⊢;rw [wr (x := tot + m) (by omega) (by omega)];exact ih.1 A' path' L N' y' (tot + m) ga' hk' lv hN' hD'' hp' (by omega) (by omega)
    have phase : ∀ (A : List S78) (L N : List Int) (y tot : Int), AG E A → (∀ X, Ph E A X = tot * (X s - X t)) → 0 ≤ tot → fs E - tot < (M + 1 : Nat) → Ev (fun k => iP.l1 k a3 s t c T b tot A L N y) (MQ n s t E c T) := by
      intro A L N y tot ga hk h0 hM;have hTl := gt.l;have hn2 := g.n2;refine Ev.sub 1 ?_;simp only [iP.l1];refine (vw g ga gt s0 s1 y).bind ?_;rintro ⟨L', y'⟩ ⟨bi, _⟩;dsimp only at bi ⊢;have hLl := bi.l;simp only [if_pos t0, if_pos (show t < (L'.length : Int) by omega), if_pos (show 0 ≤ (T.length : Int) by omega), if_pos (show ((T.length : Int)).toNat * 8 ≤ 281474976710656 by omega), Option.bind_some];by_cases ht : rd L' t = 0
      · simp only [if_pos ht];have hcut := ga.cut g hk (C := fun x => decide (0 < rd L' x)) (by rw [bi.s1]; rfl) (by rw [ht]; rfl) (fun j j0 j1 hp hc => decide_eq_true (bi.c j j0 j1 hp (of_decide_eq_true hc) (by simp) trivial).1);have := bound A tot ga hk;exact Ev.ret ⟨rfl, rfl, ga, hk, ⟨⟨_, ga.fl hk⟩, _, hcut.2 (by omega), hcut.1⟩, bi, ht⟩
      · simp only [if_neg ht];have lv := bi.lv;have hz : ∀ v, rd (List.replicate ((T.length : Int)).toNat (0 : Int)) v = 0 := by
          intro v;unfold rd;rw [List.getD_eq_getElem?_getD, List.getElem?_replicate];split <;> rfl
        have hN : NX n T (List.replicate ((T.length : Int)).toNat (0 : Int)) := ⟨by rw [List.length_replicate]; omega, fun v a b => by rw [hz]; omega⟩;have hD : DI n E A T L' t (List.replicate ((T.length : Int)).toNat (0 : Int)) := fun v p a b p0 p1 => by rw [hz] at p1; omega
        refine (vC g ga gt lv s0 s1 hst hN hD).bind ?_;rintro ⟨path', N', y''⟩ ⟨hN', hD', hdead, hp', _⟩;dsimp only at hN' hD' hdead hp' ⊢;have htb := bi.b t t0 t1;have hne : path' ≠ [] := fun e => AP g gt s0 s1 hD' hN' bi.o bi.d (rd L' t - 1).toNat t t0 t1 (by omega) (fun hd => hd.1 rfl) (hdead e);exact step A path' L' N' y'' tot ga hk lv hN' hD' hne (hp' hne) h0 hM
    refine ⟨fun A path L N y tot ga hk lv hN hD hp h0 hM => ?_, phase⟩;by_cases hne : path = []
    · subst hne;refine Ev.sub 1 ?_;simp only [iP.l0, if_neg (show ¬ 0 < ((([] : List Int).length : Nat) : Int) by decide)];exact phase A L N y tot ga hk h0 hM
    · exact step A path L N y tot ga hk lv hN hD hne (hp hne) h0 hM
end
end Go.Proofs.Ytdkbmchbkkhpoaa.Flow
set_option linter.unusedVariables false
set_option linter.unusedSimpArgs false
namespace Go.Proofs.Ytdkbmchbkkhpoaa.Flow
open Go.RowKit Go.Proofs.Ytdkbmchbkkhpoaa.PMfr Go.Proofs.YtdkbmchbkkhpoaaW.PrintWords Go.Proofs.YtdkbmchbkkhpoaaW.PrintLast Go.Proofs.YtdkbmchbkkhpoaaW.PrintMore
structure AS (E : List Ed) (A : List S78) : Prop where
  l : (A.length : Int) = 2 * E.length
  h : ∀ j, 0 ≤ j → j < 2 * (E.length : Int) → (iZ A j).f0 = hd E j
structure qQ (n : Int) (E : List Ed) (S : S74) : Prop where
  g : EG n E
  a : AS E S.f0
  c : S.f1 = E.map (·.c)
  t : TG n E S.f2
  s : S.f3 = fs E
section
variable {n s t : Int} {E : List Ed} {S : S74}
theorem caps (e : Int) (he : 0 ≤ e) : rd (E.map (·.c)) e = ec E e.toNat := by
  unfold rd ec;rw [List.getD_eq_getElem?_getD, List.getD_eq_getElem?_getD, List.getElem?_map]
  cases E[e.toNat]? <;> rfl
theorem vF (g : EG n E) : ∀ (z : Nat) (A : List S78) (p : Int), 0 ≤ p → p + z = (E.length : Int) → AS E A → (∀ e : Nat, (e : Int) < p → rm A (2 * (e : Int)) = ec E e ∧ rm A (2 * (e : Int) + 1) = 0) →
    Ev (fun k => jF.l0 k (E.map (·.c)) p A) (fun r => r.2 = false ∧ AS E r.1 ∧ ∀ e : Nat, e < E.length → rm r.1 (2 * (e : Int)) = ec E e ∧ rm r.1 (2 * (e : Int) + 1) = 0) := by
  intro z
  induction z with
  | zero =>
    intro A p p0 pz ga h;refine Ev.sub 1 ?_;simp only [jF.l0, List.length_map, if_neg (show ¬ p < (E.length : Int) by omega)];exact Ev.ret ⟨rfl, ga, fun e he => h e (by omega)⟩
  | succ z ih =>
    intro A p p0 pz ga h;have hl := ga.l;have hm := g.m;have w0 : wrap64 (2 * p) = 2 * p := wr (by omega) (by omega);have w1 : wrap64 (2 * p + 1) = 2 * p + 1 := wr (by omega) (by omega);have w2 : wrap64 (p + 1) = p + 1 := wr (by omega) (by omega);refine Ev.sub 1 ?_;simp only [jF.l0, List.length_map, if_pos (show p < (E.length : Int) by omega), if_pos p0, w0, w1, w2, if_pos (show 0 ≤ 2 * p by omega), if_pos (show 2 * p < (A.length : Int) by omega), Option.bind_some, if_pos (show 0 ≤ 2 * p + 1 by omega), List.length_set, if_pos (show 2 * p + 1 < (A.length : Int) by omega), caps p p0];obtain ⟨A2, hA2⟩ : ∃ A2, (A.set (2 * p).toNat ⟨(iZ A (2 * p)).f0, ec E p.toNat⟩).set (2 * p + 1).toNat ⟨(iZ (A.set (2 * p).toNat ⟨(iZ A (2 * p)).f0, ec E p.toNat⟩) (2 * p + 1)).f0, 0⟩ = A2 := ⟨_, rfl⟩;rw [hA2];have hl2 : A2.length = A.length := by rw [← hA2, List.length_set, List.length_set]
    have R : ∀ u, 0 ≤ u → iZ A2 u = if u = 2 * p + 1 then ⟨(iZ A (2 * p + 1)).f0, 0⟩ else if u = 2 * p then ⟨(iZ A (2 * p)).f0, ec E p.toNat⟩ else iZ A u := fun u hu => by
      rw [← hA2, qI _ (by omega) (by rw [List.length_set]; omega) hu, qI _ (by omega) (by omega) hu, qI _ (by omega) (by omega) (by omega), if_neg (show ¬ 2 * p + 1 = 2 * p by omega)]
    refine ih A2 (p + 1) (by omega) (by omega) ⟨by rw [hl2]; exact hl, fun j j0 j1 => ?_⟩ (fun e he => ?_)
    · rw [R j j0];split
      · rename_i e; rw [e]; exact ga.h _ (by omega) (by omega)
      · split
        · rename_i e; rw [e]; exact ga.h _ (by omega) (by omega)
        · exact ga.h j j0 j1
    · unfold rm;rw [R _ (by omega), R _ (by omega)];by_cases hp : (e : Int) = p
      · rw [if_neg (by omega), if_pos (by omega), if_pos (by omega), show p.toNat = e by omega];exact ⟨rfl, rfl⟩
      · rw [if_neg (by omega), if_neg (by omega), if_neg (by omega), if_neg (by omega)];exact h e (by omega)
theorem fresh (g : EG n E) {A : List S78} (ga : AS E A) (h : ∀ e : Nat, e < E.length → rm A (2 * (e : Int)) = ec E e ∧ rm A (2 * (e : Int) + 1) = 0) : AG E A ∧ ∀ X, Ph E A X = 0 := by
  refine ⟨⟨ga.l, ga.h, fun j j0 j1 => ?_⟩, fun X => Sm.zero (fun e he => by rw [(h e he).2, Int.zero_mul])⟩;have hc := g.cap j0 j1;have hj := h (j / 2).toNat (by omega);by_cases hp : j % 2 = 0
  · rw [show 2 * (((j / 2).toNat : Nat) : Int) = j by omega] at hj;have er : rv j = j + 1 := by unfold rv; rw [if_pos hp]
    rw [er];omega
  · rw [show 2 * (((j / 2).toNat : Nat) : Int) = j - 1 by omega, show j - 1 + 1 = j by omega] at hj;have er : rv j = j - 1 := by unfold rv; rw [if_neg hp]
    rw [er];omega
theorem zX {A : List S78} {c : List Int} {T : List (List Int)} {x : Int} {b : Bool} {L N : List Int} {z : S72} {a : Int} (hl : (T.length : Int) = n) : jJ.f (some ⟨A, c, T, x, b, L, N, z⟩) a = some (decide (0 ≤ a ∧ a < n)) := by
  show (if a ≥ 0 then some (decide (a < (T.length : Int))) else some false) = _;rw [hl];by_cases h : a ≥ 0
  · rw [if_pos h];exact congrArg some (decide_eq_decide.mpr ⟨fun h' => ⟨h, h'⟩, fun h' => h'.2⟩)
  · rw [if_neg h, decide_eq_false (fun h' => h h'.1)]
theorem qx (x : Ed) (e : Nat) : ea (E ++ [x]) e = if e < E.length then ea E e else if e = E.length then x.a else 0 := by
  unfold ea;rw [List.getD_eq_getElem?_getD, List.getD_eq_getElem?_getD];by_cases h : e < E.length
  · rw [if_pos h, List.getElem?_append_left h]
  · rw [if_neg h, List.getElem?_append_right (by omega)];by_cases e' : e = E.length
    · rw [if_pos e', e', Nat.sub_self]; rfl
    · rw [if_neg e', List.getElem?_eq_none (by simp; omega)]; rfl
theorem qy (x : Ed) (e : Nat) : eb (E ++ [x]) e = if e < E.length then eb E e else if e = E.length then x.b else 0 := by
  unfold eb;rw [List.getD_eq_getElem?_getD, List.getD_eq_getElem?_getD];by_cases h : e < E.length
  · rw [if_pos h, List.getElem?_append_left h]
  · rw [if_neg h, List.getElem?_append_right (by omega)];by_cases e' : e = E.length
    · rw [if_pos e', e', Nat.sub_self]; rfl
    · rw [if_neg e', List.getElem?_eq_none (by simp; omega)]; rfl
theorem qO (x : Ed) (e : Nat) : ec (E ++ [x]) e = if e < E.length then ec E e else if e = E.length then x.c else 0 := by
  unfold ec;rw [List.getD_eq_getElem?_getD, List.getD_eq_getElem?_getD];by_cases h : e < E.length
  · rw [if_pos h, List.getElem?_append_left h]
  · rw [if_neg h, List.getElem?_append_right (by omega)];by_cases e' : e = E.length
    · rw [if_pos e', e', Nat.sub_self]; rfl
    · rw [if_neg e', List.getElem?_eq_none (by simp; omega)]; rfl
theorem wu (x : Ed) : fs (E ++ [x]) = fs E + if x.c < Inf then x.c else 0 := by
  unfold fs;rw [List.length_append, List.length_singleton, Sm, qO, if_neg (Nat.lt_irrefl _), if_pos rfl];congr 1;exact Sm.congr (fun e he => by rw [qO, if_pos he])
def wC (n : Int) (x : Ed) : Prop := x.a < 0 ∨ x.a ≥ n ∨ x.b < 0 ∨ x.b ≥ n ∨ x.a = x.b ∨ x.c < 0 ∨ x.c > Inf
instance (n : Int) (x : Ed) : Decidable (wC n x) := inferInstanceAs (Decidable (_ ∨ _))
def rE (n : Int) (E : List Ed) (x : Ed) : Int := if wC n x then 1 else if x.c = Inf then 0 else if fs E + x.c ≥ Inf then 18 else 0
theorem zY {x : Ed} (g : EG n E) (hm : E.length < 100000) (h : rE n E x = 0) : EG n (E ++ [x]) := by
  unfold rE at h;have hs := g.s;split at h
  · omega
  rename_i hb
  unfold wC at hb;refine ⟨g.n1, g.n2, by rw [List.length_append, List.length_singleton]; omega, fun e he => ?_, ?_⟩
  · rw [List.length_append, List.length_singleton] at he;rw [qx, qy, qO];by_cases h' : e < E.length
    · simp only [if_pos h']; exact g.v e h'
    · simp only [if_neg h', if_pos (show e = E.length by omega)]; omega
  · rw [wu];split at h
    · rw [if_neg (by omega)]; omega
    · split at h
      · omega
      · split <;> omega
theorem EH (x : Ed) (j : Int) (h0 : 0 ≤ j) (h1 : j < 2 * (E.length : Int)) : hd (E ++ [x]) j = hd E j := by
  unfold hd;rw [qx, qy, if_pos (show (j / 2).toNat < E.length by omega), if_pos (show (j / 2).toNat < E.length by omega)]
theorem Bq (x : Ed) (j : Int) (h0 : 0 ≤ j) (h1 : j < 2 * (E.length : Int)) : tl (E ++ [x]) j = tl E j := by
  unfold tl;rw [qx, qy, if_pos (show (j / 2).toNat < E.length by omega), if_pos (show (j / 2).toNat < E.length by omega)]
theorem Bv (x : Ed) : hd (E ++ [x]) (2 * (E.length : Int)) = x.b ∧ hd (E ++ [x]) (2 * (E.length : Int) + 1) = x.a ∧ tl (E ++ [x]) (2 * (E.length : Int)) = x.a ∧ tl (E ++ [x]) (2 * (E.length : Int) + 1) = x.b := by
  have e1 : (2 * (E.length : Int) / 2).toNat = E.length := by omega
  have e2 : ((2 * (E.length : Int) + 1) / 2).toNat = E.length := by omega
  unfold hd tl;rw [if_pos (by omega), if_neg (by omega), if_pos (by omega), if_neg (by omega), e1, e2, qx, qy, if_neg (Nat.lt_irrefl _), if_neg (Nat.lt_irrefl _), if_pos rfl, if_pos rfl];exact ⟨rfl, rfl, rfl, rfl⟩
theorem AS.app {A : List S78} (h : AS E A) (x : Ed) : AS (E ++ [x]) (A ++ [⟨x.b, x.c⟩, ⟨x.a, 0⟩]) := by
  have hl := h.l;refine ⟨by rw [List.length_append, List.length_append]; simp only [List.length_cons, List.length_nil]; omega, fun j j0 j1 => ?_⟩;rw [List.length_append, List.length_singleton] at j1;obtain ⟨n1, n2, _, _⟩ := Bv (E := E) x;unfold iZ;rw [List.getD_eq_getElem?_getD];by_cases h' : j < 2 * (E.length : Int)
  · rw [EH x j j0 h', List.getElem?_append_left (by omega), ← List.getD_eq_getElem?_getD];exact h.h j j0 h'
  · rw [List.getElem?_append_right (by omega)];by_cases e : j = 2 * (E.length : Int)
    · rw [e, n1, show (2 * (E.length : Int)).toNat - A.length = 0 by omega]; rfl
    · rw [show j = 2 * (E.length : Int) + 1 by omega, n2, show (2 * (E.length : Int) + 1).toNat - A.length = 1 by omega]; rfl
theorem TG.app {T : List (List Int)} (h : TG n E T) (x : Ed) (ha : 0 ≤ x.a) (ha' : x.a < n) (hb : 0 ≤ x.b) (hb' : x.b < n) (hne : x.a ≠ x.b) : TG n (E ++ [x]) ((T.set x.a.toNat (iW T x.a ++ [2 * (E.length : Int)])).set x.b.toNat (iW T x.b ++ [2 * (E.length : Int) + 1])) := by
  have hl := h.l;obtain ⟨_, _, n3, n4⟩ := Bv (E := E) x;have R : ∀ v, 0 ≤ v → iW ((T.set x.a.toNat (iW T x.a ++ [2 * (E.length : Int)])).set x.b.toNat (iW T x.b ++ [2 * (E.length : Int) + 1])) v = if v = x.b then iW T x.b ++ [2 * (E.length : Int) + 1] else if v = x.a then iW T x.a ++ [2 * (E.length : Int)] else iW T v := fun v hv => by
    rw [xu _ hb (by rw [List.length_set]; omega) hv, xu _ ha (by omega) hv]
  refine ⟨by rw [List.length_set, List.length_set]; exact hl, fun v j v0 v1 => ?_, fun v => ?_⟩
  · rw [R v v0, List.length_append, List.length_singleton];have old := h.i v j v0 v1;have key : (0 ≤ j ∧ j < 2 * ((E.length + 1 : Nat) : Int) ∧ tl (E ++ [x]) j = v) ↔ (j ∈ iW T v ∨ (j = 2 * (E.length : Int) ∧ v = x.a) ∨ (j = 2 * (E.length : Int) + 1 ∧ v = x.b)) := by
      rw [old];constructor
      · rintro ⟨j0, j1, e⟩;by_cases h' : j < 2 * (E.length : Int)
        · rw [Bq x j j0 h'] at e; exact .inl ⟨j0, h', e⟩
        · by_cases e' : j = 2 * (E.length : Int)
          · subst e'; exact .inr (.inl ⟨rfl, by rw [← e, n3]⟩)
          · obtain rfl : j = 2 * (E.length : Int) + 1 := by omega
            exact .inr (.inr ⟨rfl, by rw [← e, n4]⟩)
      · rintro (⟨j0, j1, e⟩ | ⟨rfl, rfl⟩ | ⟨rfl, rfl⟩)
        · exact ⟨j0, by omega, by rw [Bq x j j0 j1]; exact e⟩
        · exact ⟨by omega, by omega, n3⟩
        · exact ⟨by omega, by omega, n4⟩
    rw [key];by_cases e1 : v = x.b
    · subst e1;rw [if_pos rfl, List.mem_append, List.mem_singleton];exact ⟨fun h => h.imp id (fun h => .inr ⟨h, rfl⟩), fun h => h.imp id (fun h => h.elim (fun h => absurd h.2.symm hne) (fun h => h.1))⟩
    · rw [if_neg e1];by_cases e2 : v = x.a
      · subst e2;rw [if_pos rfl, List.mem_append, List.mem_singleton];exact ⟨fun h => h.imp id (fun h => .inl ⟨h, rfl⟩), fun h => h.imp id (fun h => h.elim (fun h => h.1) (fun h => absurd h.2 e1))⟩
      · rw [if_neg e2];exact ⟨.inl, fun h => h.elim id (fun h => h.elim (fun h => absurd h.2 e2) (fun h => absurd h.2 e1))⟩
  · rw [List.length_append, List.length_singleton];by_cases hv : 0 ≤ v
    · rw [R v hv];have := h.c v;have := h.c x.a;have := h.c x.b;split
      · rw [List.length_append, List.length_singleton]; omega
      · split
        · rw [List.length_append, List.length_singleton]; omega
        · omega
    · have e : ∀ T : List (List Int), iW T v = iW T 0 := fun T => by unfold iW; rw [show v.toNat = (0 : Int).toNat by omega]
      rw [e, R 0 (Int.le_refl 0)];have := h.c 0;have := h.c x.a;have := h.c x.b;split
      · rw [List.length_append, List.length_singleton]; omega
      · split
        · rw [List.length_append, List.length_singleton]; omega
        · omega
theorem tZ (hS : qQ n E S) (hm : E.length < 100000) (x : Ed) : Ev (fun k => Add.o k (some S) x.a x.b x.c) (fun r => r.2.1 = rE n E x ∧ (rE n E x = 0 → r.1 = (E.length : Int) ∧ ∃ S', r.2.2 = some S' ∧ qQ n (E ++ [x]) S' ∧ S'.f7 = S.f7) ∧ (rE n E x ≠ 0 → r.1 = 0 ∧ r.2.2 = some S)) := by
  have hl := hS.t.l;have hs := hS.g.s;have hal := hS.a.l;have hI : Inf = 4611686018427387904 := rfl;have hcl : (S.f1.length : Int) = E.length := by rw [hS.c, List.length_map]
  have hf3 := hS.s;have hfs0 : 0 ≤ fs E := Sm.nonneg (fun e he => by
    have := (hS.g.v e he).2.2.2.1;split <;> omega)
  dsimp only [Add.o];refine Ev.bind (Q := fun r => r.2.1 = rE n E x ∧ (rE n E x = 0 → r.1 = (E.length : Int) ∧ qQ n (E ++ [x]) ⟨r.2.2.1, r.2.2.2.1, r.2.2.2.2.1, r.2.2.2.2.2.1, r.2.2.2.2.2.2, S.f5, S.f6, S.f7⟩) ∧ (rE n E x ≠ 0 → r.1 = 0 ∧ r.2.2.1 = S.f0 ∧ r.2.2.2.1 = S.f1 ∧ r.2.2.2.2.1 = S.f2 ∧ r.2.2.2.2.2.1 = S.f3 ∧ r.2.2.2.2.2.2 = S.f4)) ?_ (fun r h => Ev.ret ⟨h.1, fun h0 => ⟨(h.2.1 h0).1, _, rfl, (h.2.1 h0).2, rfl⟩, fun h0 => ⟨(h.2.2 h0).1, by
    obtain ⟨_, a, b, c, d, e⟩ := h.2.2 h0;rw [a, b, c, d, e]⟩⟩)
  simp only [iR.f, zX hl, Option.bind_some];have bad : wC n x → ∀ {F : Nat → Option (Int × Int × List S78 × List Int × List (List Int) × Int × Bool)}, (∀ k, F (k + 1) = some (0, 1, S.f0, S.f1, S.f2, S.f3, S.f4)) → Ev F (fun r => r.2.1 = rE n E x ∧ (rE n E x = 0 → r.1 = (E.length : Int) ∧ qQ n (E ++ [x]) ⟨r.2.2.1, r.2.2.2.1, r.2.2.2.2.1, r.2.2.2.2.2.1, r.2.2.2.2.2.2, S.f5, S.f6, S.f7⟩) ∧ (rE n E x ≠ 0 → r.1 = 0 ∧ r.2.2.1 = S.f0 ∧ r.2.2.2.1 = S.f1 ∧ r.2.2.2.2.1 = S.f2 ∧ r.2.2.2.2.2.1 = S.f3 ∧ r.2.2.2.2.2.2 = S.f4)) := by
    intro hb F hF;have e : rE n E x = 1 := if_pos hb;refine Ev.sub 1 ?_;simp only [hF];exact Ev.ret ⟨e.symm, fun h => by omega, fun _ => ⟨rfl, rfl, rfl, rfl, rfl, rfl⟩⟩
  have j2t : ∀ k, iR.j2 (k + 1) S.f3 S.f4 S.f7.f0 x.a x.b x.c S.f0 S.f1 S.f2 S.f5 S.f6 true = some (0, 1, S.f0, S.f1, S.f2, S.f3, S.f4) := fun k => by rw [iR.j2, if_pos rfl]
  rcases (Classical.em (0 ≤ x.a ∧ x.a < n)).symm with h1 | h1
  · simp only [decide_eq_false h1, if_neg (show ¬ false = true by decide)];exact bad (by unfold wC; omega) j2t
  simp only [decide_eq_true h1, if_pos trivial];rcases (Classical.em (0 ≤ x.b ∧ x.b < n)).symm with h2 | h2
  · simp only [decide_eq_false h2, if_neg (show ¬ false = true by decide)];exact bad (by unfold wC; omega) j2t
  simp only [decide_eq_true h2, if_pos trivial];by_cases h3 : x.a = x.b
  · simp only [if_pos h3];exact bad (by unfold wC; omega) j2t
  simp only [if_neg h3];by_cases h4 : x.c < 0
  · simp only [if_pos h4];exact bad (by unfold wC; omega) j2t
  simp only [if_neg h4];by_cases h5 : x.c > 4611686018427387904
  · simp only [decide_eq_true h5];exact bad (by unfold wC; omega) j2t
  simp only [decide_eq_false h5];have nb : ¬ wC n x := by unfold wC; omega
  refine Ev.sub 1 ?_;simp only [iR.j2, if_neg (show ¬ false = true by decide), if_neg (show ¬ (S.f1.length : Int) = 1048576 by omega)];have add : ∀ sum, sum = fs (E ++ [x]) → rE n E x = 0 → Ev (fun k => iR.j0 k S.f4 S.f7.f0 x.a x.b x.c S.f0 S.f1 S.f2 S.f5 S.f6 sum) (fun r => r.2.1 = rE n E x ∧ (rE n E x = 0 → r.1 = (E.length : Int) ∧ qQ n (E ++ [x]) ⟨r.2.2.1, r.2.2.2.1, r.2.2.2.2.1, r.2.2.2.2.2.1, r.2.2.2.2.2.2, S.f5, S.f6, S.f7⟩) ∧ (rE n E x ≠ 0 → r.1 = 0 ∧ r.2.2.1 = S.f0 ∧ r.2.2.2.1 = S.f1 ∧ r.2.2.2.2.1 = S.f2 ∧ r.2.2.2.2.2.1 = S.f3 ∧ r.2.2.2.2.2.2 = S.f4)) := by
    intro sum hsum h0;have g' := zY hS.g hm h0;have hca := hS.t.c x.a;have hcb := hS.t.c x.b;have w0 : wrap64 (2 * (E.length : Int)) = 2 * (E.length : Int) := wr (by omega) (by omega);have w1 : wrap64 (2 * (E.length : Int) + 1) = 2 * (E.length : Int) + 1 := wr (by omega) (by omega);have e2 : iW (S.f2.set x.a.toNat (iW S.f2 x.a ++ [2 * (E.length : Int)])) x.b = iW S.f2 x.b := by rw [xu _ h1.1 (by omega) h2.1, if_neg (fun h => h3 h.symm)]
    refine Ev.sub 1 ?_;simp only [iR.j0, Option.bind_some, hcl, w0, w1, List.length_set, e2, if_pos (show S.f1.length < 17592186044416 by omega), if_pos (show S.f0.length + ([⟨x.b, x.c⟩, ⟨x.a, 0⟩] : List S78).length < 8796093022208 by simp only [List.length_cons, List.length_nil]; omega), if_pos h1.1, if_pos (show x.a < (S.f2.length : Int) by omega), if_pos (show (iW S.f2 x.a).length < 17592186044416 by omega), if_pos h2.1, if_pos (show x.b < (S.f2.length : Int) by omega), if_pos (show (iW S.f2 x.b).length < 17592186044416 by omega)];have hc' : S.f1 ++ [x.c] = (E ++ [x]).map (·.c) := by rw [hS.c, List.map_append]; rfl
    rw [hc'];simp only [jF.f];refine (vF g' (E ++ [x]).length (S.f0 ++ ([⟨x.b, x.c⟩, ⟨x.a, 0⟩] : List S78)) 0 (Int.le_refl 0) (by omega) (hS.a.app x) (fun e he => by omega)).bind (fun r hr => Ev.ret ⟨h0.symm, fun _ => ⟨rfl, ⟨g', hr.2.1, rfl, hS.t.app x h1.1 h1.2 h2.1 h2.2 h3, hsum⟩⟩, fun h => absurd h0 h⟩)
  by_cases h6 : x.c < 4611686018427387904
  · simp only [if_pos h6, kM.f];have w : wrap64 (S.f3 + x.c) = S.f3 + x.c := wr (by omega) (by omega);have hd' : decide (S.f3 + x.c > S.f3) = decide (x.c > 0) := decide_eq_decide.mpr (by omega);simp only [w, if_pos hd', Option.bind_some, if_pos (show (0 : Int) = 0 from rfl)];refine Ev.sub 1 ?_;simp only [iR.j1];by_cases h7 : S.f3 + x.c ≥ 4611686018427387904
    · simp only [decide_eq_true h7, if_pos trivial];have e : rE n E x = 18 := by unfold rE; rw [if_neg nb, if_neg (by omega), if_pos (by omega)]
      exact Ev.ret ⟨e.symm, fun h => by omega, fun _ => ⟨rfl, rfl, rfl, rfl, rfl, rfl⟩⟩
    · simp only [decide_eq_false h7, if_neg (show ¬ false = true by decide)];exact add _ (by rw [wu, if_pos (by omega)]; omega) (by unfold rE; rw [if_neg nb, if_neg (by omega), if_neg (by omega)])
  · simp only [if_neg h6];exact add _ (by rw [wu, if_neg (by omega)]; omega) (by unfold rE; rw [if_neg nb, if_pos (by omega)])
def pq (n s t : Int) : Prop := s < 0 ∨ s ≥ n ∨ t < 0 ∨ t ≥ n ∨ s = t
instance (n s t : Int) : Decidable (pq n s t) := inferInstanceAs (Decidable (_ ∨ _))
def F9 (n s t : Int) (E : List Ed) (r : Int × Int × Option S74) : Prop := ∃ S', r.2.2 = some S' ∧ qQ n E S' ∧
  (pq n s t → r.1 = 0 ∧ r.2.1 = 1 ∧ S'.f4 = false) ∧ (¬ pq n s t → qP E s t → r.1 = 0 ∧ r.2.1 = 18 ∧ S'.f4 = false) ∧
  (¬ pq n s t → ¬ qP E s t → r.2.1 = 0 ∧ S'.f4 = true ∧ sO E s t r.1 ∧ AG E S'.f0 ∧ (∀ X, Ph E S'.f0 X = r.1 * (X s - X t)) ∧ ∃ L, BI n E s (psR S'.f0) (fun _ => True) L [] ∧ rd L t = 0)
theorem FU (hS : qQ n E S) (s t : Int) : Ev (fun k => Max.o k (some S) s t) (F9 n s t E) := by
  have hl := hS.t.l;have hn1 := hS.g.n1;dsimp only [Max.o];simp only [iP.f, jF.f, hS.c];refine Ev.bind (Q := fun r => AS E r.2.2.1 ∧ (pq n s t → r.1 = 0 ∧ r.2.1 = 1 ∧ r.2.2.2.1 = false) ∧ (¬ pq n s t → qP E s t → r.1 = 0 ∧ r.2.1 = 18 ∧ r.2.2.2.1 = false) ∧ (¬ pq n s t → ¬ qP E s t → r.2.1 = 0 ∧ r.2.2.2.1 = true ∧ sO E s t r.1 ∧ AG E r.2.2.1 ∧ (∀ X, Ph E r.2.2.1 X = r.1 * (X s - X t)) ∧ ∃ L, BI n E s (psR r.2.2.1) (fun _ => True) L [] ∧ rd L t = 0)) ?_ (fun r h => Ev.ret ⟨_, rfl, ⟨hS.g, h.1, rfl, hS.t, hS.s⟩, h.2⟩);refine (vF hS.g E.length S.f0 0 (Int.le_refl 0) (by omega) hS.a (fun e he => by omega)).bind ?_;rintro ⟨A, b⟩ ⟨hb, sA, fr⟩;dsimp only at hb sA fr ⊢;subst hb;obtain ⟨ga, ph0⟩ := fresh hS.g sA fr;simp only [zX hl, Option.bind_some];have bad : pq n s t → Ev (fun k => iP.j0 k S.f3 S.f7.f0 s t (E.map (·.c)) S.f2 S.f5 S.f6 A false true) (fun r => AS E r.2.2.1 ∧ (pq n s t → r.1 = 0 ∧ r.2.1 = 1 ∧ r.2.2.2.1 = false) ∧ (¬ pq n s t → qP E s t → r.1 = 0 ∧ r.2.1 = 18 ∧ r.2.2.2.1 = false) ∧ (¬ pq n s t → ¬ qP E s t → r.2.1 = 0 ∧ r.2.2.2.1 = true ∧ sO E s t r.1 ∧ AG E r.2.2.1 ∧ (∀ X, Ph E r.2.2.1 X = r.1 * (X s - X t)) ∧ ∃ L, BI n E s (psR r.2.2.1) (fun _ => True) L [] ∧ rd L t = 0)) := by
    intro hb;refine Ev.sub 1 ?_;simp only [iP.j0, if_pos trivial];exact Ev.ret ⟨sA, fun _ => ⟨rfl, rfl, rfl⟩, fun h => absurd hb h, fun h => absurd hb h⟩
  rcases (Classical.em (0 ≤ s ∧ s < n)).symm with h1 | h1
  · simp only [decide_eq_false h1, if_neg (show ¬ false = true by decide)];exact bad (by unfold pq; omega)
  simp only [decide_eq_true h1, if_pos trivial];rcases (Classical.em (0 ≤ t ∧ t < n)).symm with h2 | h2
  · simp only [decide_eq_false h2, if_neg (show ¬ false = true by decide)];exact bad (by unfold pq; omega)
  simp only [decide_eq_true h2, if_pos trivial];by_cases h3 : s = t
  · simp only [decide_eq_true h3];exact bad (by unfold pq; omega)
  simp only [decide_eq_false h3];have nb : ¬ pq n s t := by unfold pq; omega
  refine Ev.sub 1 ?_;simp only [iP.j0, if_neg (show ¬ false = true by decide)];refine (Df hS.g ga hS.t h1.1 h1.2 S.f7.f0).bind ?_;rintro ⟨L, y⟩ ⟨bi, _⟩;dsimp only at bi ⊢;have hLl := bi.l;have endl : 0 < rd L t ↔ qP E s t := by
    constructor
    · have : ∀ (z : Nat) (v : Int), 0 ≤ v → v < n → rd L v = (z : Int) + 1 → qP E s v := by
        intro z
        induction z with
        | zero => intro v a b e; rw [bi.o v a b (by omega)]; exact .refl
        | succ z ih =>
          intro v a b e;by_cases hs : v = s
          · rw [hs]; exact .refl
          obtain ⟨j, j0, j1, p, hv, h0, hl'⟩ := bi.d v a b (by omega) hs;obtain ⟨_, _, u0, u1, _⟩ := hS.g.arc j0 j1;refine .step _ _ (ih (tl E j) u0 u1 (by omega)) ⟨(j / 2).toNat, by omega, ?_, ?_, ?_⟩
          · unfold tl; rw [if_pos p.1]
          · rw [← hv]; unfold hd; rw [if_pos p.1]
          · rw [← (fr (j / 2).toNat (by omega)).1, show 2 * (((j / 2).toNat : Nat) : Int) = j by have := p.1; omega]; exact p.2
      intro h;exact this (rd L t - 1).toNat t h2.1 h2.2 (by omega)
    · intro h;have : ∀ v, Rch (EP E) s v → 0 < rd L v := by
        intro v hv
        induction hv with
        | refl => rw [bi.s1]; decide
        | step u v _ huv ih =>
          obtain ⟨e, he, ha, hb, hi⟩ := huv;have e1 : tl E (2 * (e : Int)) = u := by unfold tl; rw [if_pos (by omega), show (2 * (e : Int) / 2).toNat = e by omega]; exact ha
          have e2 : hd E (2 * (e : Int)) = v := by unfold hd; rw [if_pos (by omega), show (2 * (e : Int) / 2).toNat = e by omega]; exact hb
          rw [← e2];exact (bi.c (2 * (e : Int)) (by omega) (by omega) ⟨by omega, by rw [(fr e he).1]; exact hi⟩ (by rw [e1]; exact ih) (by simp) trivial).1
      exact this t h
  simp only [if_pos h2.1, if_pos (show t < (L.length : Int) by omega)];by_cases he : rd L t > 0
  · simp only [if_pos he];exact Ev.ret ⟨sA, fun h => absurd h nb, fun _ _ => ⟨rfl, rfl, rfl⟩, fun _ h => absurd (endl.1 he) h⟩
  · simp only [if_neg he];have hE : ¬ qP E s t := fun h => he (endl.2 h);have hfs0 : 0 ≤ fs E := Sm.nonneg (fun e he => by
      have := (hS.g.v e he).2.2.2.1;split <;> omega)
    refine ((AU (c := E.map (·.c)) (a3 := S.f3) hS.g hS.t h1.1 h1.2 h2.1 h2.2 h3 hE (b := false) ((fs E).toNat + 1)).2 A S.f5 S.f6 y 0 ga (fun X => by rw [ph0, Int.zero_mul]) (Int.le_refl 0) (by omega)).mono ?_;rintro r ⟨r1, r2, r3, r4, r5, r6, r7⟩;exact ⟨⟨r3.l, r3.h⟩, fun h => absurd h nb, fun _ h => absurd h hE, fun _ _ => ⟨r1, r2, r5, r3, r4, _, r6, r7⟩⟩
end
end Go.Proofs.Ytdkbmchbkkhpoaa.Flow
set_option linter.unusedVariables false
set_option linter.unusedSimpArgs false
namespace Go.Proofs.Ytdkbmchbkkhpoaa.Flow
open Go.RowKit Go.Proofs.Ytdkbmchbkkhpoaa.PMfr Go.Proofs.YtdkbmchbkkhpoaaW.PrintWords Go.Proofs.YtdkbmchbkkhpoaaW.PrintLast Go.Proofs.YtdkbmchbkkhpoaaW.PrintMore
section
variable {n : Int} {E : List Ed} {s : Int} {A : List S78} {T : List (List Int)} {c : List Int} {a3 : Int} {a4 : Bool} {l5 l6 : List Int}
theorem AV (g : EG n E) (ga : AG E A) (gt : TG n E T) (h0 : 0 ≤ s) (h1 : s < n) (y : Int) : Ev (fun k => iw.f k A c T a3 a4 l5 l6 y s) (fun r => BI n E s (psM A) (fun _ => True) r.1 [] ∧ ∃ z, 1 ≤ z ∧ z < 2 * n.toNat + 1 ∧ r.2 = it z y) := by
  have hl := gt.l;have hn := g.n2;obtain ⟨N, hN⟩ : ∃ N : Nat, n = N := ⟨n.toNat, by omega⟩;have eT : T.length = N := by omega
  simp only [iw.f];simp only [if_pos (show 0 ≤ (T.length : Int) by omega), if_pos (show ((T.length : Int) : Int).toNat * 8 ≤ 281474976710656 by omega), Option.bind_some, if_pos h0, List.length_replicate, if_pos (show s < (((T.length : Int).toNat : Nat) : Int) by omega)];have hz : ∀ v, rd (List.replicate N (0 : Int)) v = 0 := by
    intro v;unfold rd;rw [List.getD_eq_getElem?_getD, List.getElem?_replicate];split <;> rfl
  have hr : (List.replicate N (0 : Int)).length = N := List.length_replicate;have R : ∀ u, 0 ≤ u → rd ((List.replicate N (0 : Int)).set s.toNat 1) u = if u = s then 1 else 0 := fun u hu => by
    rw [nD 1 h0 (by omega) hu, hz]
  have hc : cnt ((List.replicate N (0 : Int)).set s.toNat 1) = 1 := by
    rw [vk h0 (by omega) (hz s) (by decide)];have : cnt (List.replicate N (0 : Int)) = 0 := by
      unfold cnt;rw [List.countP_replicate]; simp
    rw [this]
  rw [show ((T.length : Int)).toNat = N by omega];have hb : BI n E s (psM A) (fun _ => True) ((List.replicate N (0 : Int)).set s.toNat 1) [s] := by
    refine ⟨by rw [List.length_set, hr]; exact hN.symm, ?_, ?_, ?_, ?_, ?_, ?_, List.pairwise_singleton _ _, ?_⟩
    · rw [R s h0, if_pos rfl]
    · intro v a b;rw [R v a, hc]; split <;> omega
    · intro v a b e;rw [R v a] at e;split at e
      · assumption
      · omega
    · intro v a b e f;rw [R v a, if_neg f] at e; omega
    · intro v hv;have e : v = s := by simpa using hv
      subst e;exact ⟨h0, h1, by rw [R v h0, if_pos rfl]; decide⟩
    · intro j a b _ e f;rw [R _ (g.arc a b).2.2.1, if_neg (fun e' => f (by rw [e']; simp))] at e;omega
    · intro v a hv0 hv1 e f;have e' : a = s := by simpa using f
      subst e';rw [R v hv0, R a h0, if_pos rfl]; split <;> omega
  have htl := gt.l;refine Ev.sub 1 ?_;simp only [iw.l1];simp only [if_pos (show (([s] : List Int).length : Int) > 0 by simp), if_pos (show 0 < (([s] : List Int).length : Int) by simp), if_pos (show 1 ≤ (([s] : List Int).length : Int) by simp), Option.bind_some, show rd [s] 0 = s from rfl, if_pos h0, if_pos (show s < (T.length : Int) by omega), show ([s] : List Int).drop (1 : Int).toNat = [] from rfl];refine zS g ga gt (i := s) (q0 := [s]) rfl h0 h1 (M := 2 * n.toNat) (by omega) (fun L' q' hb' hM' => (zT g ga gt (2 * n.toNat) L' q' (wrap64 (y + 1)) (by omega) hb' hM').mono (fun r h => ⟨h.1, ?_⟩)) (iW T s).length _ [] 0 (Int.le_refl 0) (by omega) (by rw [hb.s1]; decide) (fun a ha => absurd ha (by simp)) (fun v a b d => hb.t v s a b d (List.mem_singleton.2 rfl)) ⟨hb.l, hb.s1, hb.b, hb.o, hb.d, fun v hv => absurd hv (by simp), fun j a b d e f x => ?_, List.Pairwise.nil, fun v a b d e f => absurd f (by simp)⟩ ?_
  · refine hb.c j a b d e (fun hm => ?_) trivial;have hm := List.mem_singleton.1 hm;rcases x with x | ⟨p', p0, p1, _⟩
    · exact x hm
    · omega
  · rw [hc, List.length_nil]; omega
  · obtain ⟨z, hz, e⟩ := h.2;exact ⟨z + 1, by omega, by omega, e⟩
end
def UP (E : List Ed) (A : List S78) (L : List Int) : Prop := ∀ j, 0 ≤ j → j < 2 * (E.length : Int) → psR A j → 0 < rd L (tl E j) → 0 < rd L (hd E j) ∧ rd L (hd E j) ≤ rd L (tl E j) + 1
open Classical in
noncomputable def ac (E : List Ed) (A : List S78) (L : List Int) : Int := Sm (fun j => if AD E A L (j : Int) then 1 else 0) (2 * E.length)
section
variable {n s t : Int} {E : List Ed} {T : List (List Int)} {A A' : List S78} {L L' N path : List Int} {m : Int}
theorem EI : 0 ≤ ac E A L := by
  classical
  exact Sm.nonneg (fun j _ => by split <;> decide)
theorem FC : ac E A L ≤ 2 * (E.length : Int) := by
  classical
  have h := Sm.mono (f := fun j => if AD E A L ((j : Nat) : Int) then (1 : Int) else 0) (g := fun _ => 1) (n := 2 * E.length) (fun j _ => by split <;> decide);have : ∀ z : Nat, Sm (fun _ => 1) z = z := by
    intro z
    induction z with
    | zero => rfl
    | succ z ih => rw [Sm, ih]; omega
  rw [this] at h;unfold ac;omega
theorem Sm.less {f g : Nat → Int} {n e : Nat} (h : ∀ i, i < n → f i ≤ g i) (he : e < n) (h' : f e + 1 ≤ g e) : Sm f n + 1 ≤ Sm g n := by
  induction n with
  | zero => omega
  | succ n ih =>
    rw [Sm, Sm];by_cases hn : e = n
    · subst hn;have := Sm.mono (f := f) (g := g) (n := e) (fun i hi => h i (by omega)); omega
    · have := ih (fun i hi => h i (by omega)) (by omega);have := h n (by omega); omega
theorem uf (m0 : 0 ≤ m) (hp : ∀ p : Int, 0 ≤ p → p < (path.length : Int) → 0 ≤ rd path p ∧ rd path p < 2 * (E.length : Int) ∧ AD E A L (rd path p) ∧ rd L (tl E (rd path p)) = p + 1) (pr : PR E A A' path m path.length) {j : Int} (j0 : 0 ≤ j) (j1 : j < 2 * (E.length : Int)) (h : psR A' j) : psR A j ∨ ∃ q : Int, 0 ≤ q ∧ q < (path.length : Int) ∧ rv j = rd path q := by
  by_cases hr : ∃ q : Int, 0 ≤ q ∧ q < (path.length : Int) ∧ rv j = rd path q
  · exact .inr hr
  · obtain ⟨x, y⟩ := pr j j0 j1 (fun q a b e => hr ⟨q, a, b, e⟩);unfold psR at h ⊢;by_cases hq : ∃ q : Int, 0 ≤ q ∧ q < (path.length : Int) ∧ rd path q = j
    · have := x hq; exact .inl (by omega)
    · have := y (fun q q0 q1 e => hq ⟨q, q0, q1, e⟩); exact .inl (by omega)
theorem UP.push (h : UP E A L) (m0 : 0 ≤ m) (hp : ∀ p : Int, 0 ≤ p → p < (path.length : Int) → 0 ≤ rd path p ∧ rd path p < 2 * (E.length : Int) ∧ AD E A L (rd path p) ∧ rd L (tl E (rd path p)) = p + 1) (pr : PR E A A' path m path.length) : UP E A' L := by
  intro j j0 j1 hj ht;rcases uf m0 hp pr j0 j1 hj with h' | ⟨q, q0, q1, e⟩
  · exact h j j0 j1 h' ht
  · obtain ⟨_, _, h1, h2⟩ := hp q q0 q1;rw [← e, zN] at h2;have h3 := h1.2;rw [← e, yA, zN] at h3;omega
theorem Dj (m0 : 0 ≤ m) (hp : ∀ p : Int, 0 ≤ p → p < (path.length : Int) → 0 ≤ rd path p ∧ rd path p < 2 * (E.length : Int) ∧ AD E A L (rd path p) ∧ rd L (tl E (rd path p)) = p + 1) (pp : PP E A path) (pr : PR E A A' path m path.length) {q : Int} (q0 : 0 ≤ q) (q1 : q < (path.length : Int)) (hm : m = rm A (rd path q)) : ac E A' L + 1 ≤ ac E A L := by
  classical
  obtain ⟨j0, j1, j2, _⟩ := hp q q0 q1;have sub : ∀ j : Int, 0 ≤ j → j < 2 * (E.length : Int) → AD E A' L j → AD E A L j := fun j a b h => by
    refine ⟨?_, h.2⟩;rcases uf m0 hp pr a b h.1 with h' | ⟨q', a', b', e⟩
    · exact h'
    · have h3 := (hp q' a' b').2.2.1.2;rw [← e, yA, zN] at h3;have := h.2;omega
  have gone : ¬ AD E A' L (rd path q) := fun h => by
    have h1 := (pr (rd path q) j0 j1 (fun q' a b => pp.r q q' q0 q1 a b)).1 ⟨q, q0, q1, rfl⟩;have h2 := h.1;unfold psR at h2;omega
  refine Sm.less (e := (rd path q).toNat) (fun j hj => ?_) (by omega) ?_
  · by_cases h : AD E A' L (j : Int)
    · rw [if_pos h, if_pos (sub _ (by omega) (by omega) h)]; exact Int.le_refl _
    · rw [if_neg h]; split <;> decide
  · rw [show (((rd path q).toNat : Nat) : Int) = rd path q by omega, if_neg gone, if_pos j2]; decide
theorem zZ (g : EG n E) (gt : TG n E T) (s0 : 0 ≤ s) (s1 : s < n) (t0 : 0 ≤ t) (t1 : t < n) (hs : rd L s = 1) (up : UP E A L) (hD : DI n E A T L t N) (hdead : Dead T t N s) (bi : BI n E s (psR A) (fun _ => True) L' []) (ht : 0 < rd L' t) : rd L t < rd L' t := by
  have le : ∀ (z : Nat) (v : Int), 0 ≤ v → v < n → rd L' v = (z : Int) + 1 → 0 < rd L v ∧ rd L v ≤ rd L' v := by
    intro z
    induction z with
    | zero => intro v a b e; rw [bi.o v a b (by omega), hs, bi.s1]; decide
    | succ z ih =>
      intro v a b e;by_cases hv : v = s
      · rw [hv, hs, bi.s1]; decide
      obtain ⟨j, j0, j1, p, hj, h0, hl⟩ := bi.d v a b (by omega) hv;obtain ⟨_, _, u0, u1, _⟩ := g.arc j0 j1;have h1 := ih (tl E j) u0 u1 (by omega);have h2 := up j j0 j1 p h1.1;rw [hj] at h2;omega
  have alive : ∀ (z : Nat) (v : Int), 0 ≤ v → v < n → rd L' v = (z : Int) + 1 → rd L v = rd L' v → ¬ Dead T t N v → ¬ Dead T t N s := by
    intro z
    induction z with
    | zero => intro v a b e _ h; rw [← bi.o v a b (by omega)]; exact h
    | succ z ih =>
      intro v a b e e2 h;by_cases hv : v = s
      · rw [← hv]; exact h
      obtain ⟨j, j0, j1, p, hj, h0, hl⟩ := bi.d v a b (by omega) hv;obtain ⟨_, _, u0, u1, _⟩ := g.arc j0 j1;have h1 := le z (tl E j) u0 u1 (by omega);have h2 := up j j0 j1 p h1.1;rw [hj] at h2;refine ih (tl E j) u0 u1 (by omega) (by omega) (fun hdu => ?_);obtain ⟨p', p0, p1, hp'⟩ := tY ((gt.i (tl E j) j u0 u1).2 ⟨j0, j1, rfl⟩);rcases hD (tl E j) p' u0 u1 p0 (by rw [hdu.2]; exact p1) with h' | h'
      · exact h' (by rw [hp']; exact ⟨p, by rw [hj]; omega⟩)
      · rw [hp', hj] at h'; exact h h'
  have h1 := le (rd L' t - 1).toNat t t0 t1 (by omega);refine Classical.byContradiction fun hn => ?_;exact alive (rd L' t - 1).toNat t t0 t1 (by omega) (by omega) (fun h => h.1 rfl) hdead
def kk (n : Int) (E : List Ed) : Int := 2 * n + (n * (2 * (E.length : Int)) + 1 + 2 * (E.length : Int)) * (n + 2)
def MS (n s t : Int) (E : List Ed) (y : Int) (B : Int) (r : Int × Int × List S78 × Bool × List Int × List Int × Int) : Prop := (r.2.1 = 0 ∧ r.2.2.2.1 = true ∧ AG E r.2.2.1 ∧ (∀ X, Ph E r.2.2.1 X = r.1 * (X s - X t)) ∧ sO E s t r.1 ∧ BI n E s (psR r.2.2.1) (fun _ => True) r.2.2.2.2.1 [] ∧ rd r.2.2.2.2.1 t = 0) ∧ ∃ z : Nat, r.2.2.2.2.2.2 = it z y ∧ (z : Int) ≤ B
theorem MS.more {n s t : Int} {E : List Ed} {y y' B B' : Int} {r} {z : Nat} (h : MS n s t E y' B r) (hy : y' = it z y) (hB : (z : Int) + B ≤ B') : MS n s t E y B' r := by
  obtain ⟨h, z', e, hz⟩ := h;exact ⟨h, z + z', by rw [e, hy, zO], by omega⟩
theorem Dk (gt : TG n E T) (hz : ∀ v, rd N v = 0) (n0 : 0 ≤ n) : wt n T N ≤ n * (2 * (E.length : Int)) := by
  have h := Sm.mono (f := fun v => ((iW T ((v : Nat) : Int)).length : Int) - rd N ((v : Nat) : Int)) (g := fun _ => 2 * (E.length : Int)) (n := n.toNat) (fun v _ => by
    have := gt.c v;rw [hz]; omega)
  have : ∀ (z : Nat) (c : Int), Sm (fun _ => c) z = z * c := by
    intro z c
    induction z with
    | zero => simp [Sm]
    | succ z ih => rw [Sm, ih]; rw [show (((z + 1 : Nat) : Int)) = (z : Int) + 1 by omega, Int.add_mul, Int.one_mul]
  rw [this, show ((n.toNat : Nat) : Int) = n by omega] at h;exact h
variable {c : List Int} {a3 : Int}
theorem Aa (g : EG n E) (gt : TG n E T) (s0 : 0 ≤ s) (s1 : s < n) (t0 : 0 ≤ t) (t1 : t < n) (hst : s ≠ t) (hE : ¬ qP E s t) {b : Bool} : ∀ Z : Nat,
    ∀ (A : List S78) (L N : List Int) (y tot ell : Int), AG E A → (∀ X, Ph E A X = tot * (X s - X t)) → 0 ≤ tot → (∀ L', BI n E s (psR A) (fun _ => True) L' [] → 0 < rd L' t → ell < rd L' t) → n - ell ≤ Z → 0 ≤ ell → Ev (fun k => iP.l1 k a3 s t c T b tot A L N y) (MS n s t E y (Z * kk n E + 2 * n)) := by
  obtain ⟨C0, hC0⟩ := Bl hE g;have bound : ∀ (A : List S78) (tot : Int), AG E A → (∀ X, Ph E A X = tot * (X s - X t)) → tot ≤ fs E := fun A tot ga hk => Int.le_trans ((ga.fl hk).le hC0) (qJ.fs g hC0.2.2);have hfs := g.s;have hI : Inf = 4611686018427387904 := rfl;have hn1 := g.n1;have hn2 := g.n2;intro Z
  induction Z with
  | zero =>
    intro A L N y tot ell ga hk h0 hl hZ hell;have hTl := gt.l;refine Ev.sub 1 ?_;simp only [iP.l1];refine (vw g ga gt s0 s1 y).bind ?_;rintro ⟨L', y'⟩ ⟨bi, z, hz, hy⟩;dsimp only at bi hy ⊢;have hLl := bi.l;have htb := bi.lv.b t t0 t1;have ht : rd L' t = 0 := by
      refine Classical.byContradiction fun hne => ?_;have := hl L' bi (by omega);omega
    simp only [if_pos t0, if_pos (show t < (L'.length : Int) by omega), if_pos ht];have hcut := ga.cut g hk (C := fun x => decide (0 < rd L' x)) (by rw [bi.s1]; rfl) (by rw [ht]; rfl) (fun j j0 j1 hp hc => decide_eq_true (bi.c j j0 j1 hp (of_decide_eq_true hc) (by simp) trivial).1);have := bound A tot ga hk;exact Ev.ret ⟨⟨rfl, rfl, ga, hk, ⟨⟨_, ga.fl hk⟩, _, hcut.2 (by omega), hcut.1⟩, bi, ht⟩, z, hy, by omega⟩
  | succ Z ih =>
    have step : ∀ (c' : Nat) (A : List S78) (path L N : List Int) (y tot : Int), AG E A → (∀ X, Ph E A X = tot * (X s - X t)) → LV n s L → NX n T N → DI n E A T L t N → UP E A L → (path = [] → Dead T t N s) → (path ≠ [] → Pth E A T L s t N path t) → 0 ≤ tot → n - rd L t ≤ Z → 0 ≤ rd L t → ac E A L ≤ c' → Ev (fun k => iP.l0 k a3 s t c T b L tot path A N y) (MS n s t E y (wt n T N * (n + 2) + c' * (n + 2) + (Z * kk n E + 2 * n))) := by
      intro c'
      induction c' with
      | zero =>
        intro A path L N y tot ga hk lv hN hD hU hd hP h0 hZ hell hc;have hwt : 0 ≤ wt n T N * (n + 2) := Int.mul_nonneg hN.wt (by omega);by_cases hne : path = []
        · subst hne;refine Ev.sub 1 ?_;simp only [iP.l0, if_neg (show ¬ 0 < ((([] : List Int).length : Nat) : Int) by decide)];exact (ih A L N y tot (rd L t) ga hk h0 (fun L' bi ht => zZ g gt s0 s1 t0 t1 lv.s1 hU hD (hd rfl) bi ht) hZ hell).mono (fun r h => h.more (z := 0) rfl (by simp only [Int.natCast_zero, Int.zero_mul]; omega))
        · exfalso;have hP' := hP hne;have hlen : 0 < (path.length : Int) := by
            cases path with
            | nil => exact absurd rfl hne
            | cons => simp only [List.length_cons]; omega
          obtain ⟨j0, j1, j2, _⟩ := hP'.at lv.s1 0 (Int.le_refl 0) hlen
          classical
          have := Sm.one (f := fun j => if AD E A L ((j : Nat) : Int) then (1 : Int) else 0) (n := 2 * E.length) (e := (rd path 0).toNat) (fun i _ => by split <;> decide) (by omega);rw [show (((rd path 0).toNat : Nat) : Int) = rd path 0 by omega, if_pos j2] at this;have h2 : ac E A L = Sm (fun j => if AD E A L ((j : Nat) : Int) then (1 : Int) else 0) (2 * E.length) := by unfold ac; congr
          omega
      | succ c' ihc =>
        intro A path L N y tot ga hk lv hN hD hU hd hP h0 hZ hell hc;have hwt : 0 ≤ wt n T N * (n + 2) := Int.mul_nonneg hN.wt (by omega);have hcc : ((c' + 1 : Nat) : Int) * (n + 2) = c' * (n + 2) + (n + 2) := by rw [show ((c' + 1 : Nat) : Int) = (c' : Int) + 1 by omega, Int.add_mul, Int.one_mul]
        have hcn : 0 ≤ (c' : Int) * (n + 2) := Int.mul_nonneg (by omega) (by omega);by_cases hne : path = []
        · subst hne;refine Ev.sub 1 ?_;simp only [iP.l0, if_neg (show ¬ 0 < ((([] : List Int).length : Nat) : Int) by decide)];exact (ih A L N y tot (rd L t) ga hk h0 (fun L' bi ht => zZ g gt s0 s1 t0 t1 lv.s1 hU hD (hd rfl) bi ht) hZ hell).mono (fun r h => h.more (z := 0) rfl (by rw [hcc]; omega))
        have hP' := hP hne;have hlen : 0 < (path.length : Int) := by
          cases path with
          | nil => exact absurd rfl hne
          | cons => simp only [List.length_cons]; omega
        refine Ev.sub 1 ?_;simp only [iP.l0, if_pos hlen];have pp := hP'.pp g lv s0 s1;have hat := hP'.at lv.s1;refine (zW g ga pp).bind ?_;rintro ⟨m, A'⟩ ⟨m0, m1, ga', pr, ph, hmq⟩;dsimp only at m0 m1 ga' pr ph hmq;have hk' : ∀ X, Ph E A' X = (tot + m) * (X s - X t) := fun X => by rw [ph X, hk X, hP'.FT X, Int.add_mul]
        have hD' := hD.push g gt hN (by omega) (fun p a b => (hat p a b).2.2.1) pr;have hU' := hU.push (by omega) hat pr;have hb' := bound A' (tot + m) ga' hk';have hac : ac E A' L + 1 ≤ ac E A L := by
          rcases hmq with h | ⟨q, q0, q1, h⟩
          · omega
          · exact Dj (by omega) hat pp pr q0 q1 h
        refine (vC g ga' gt lv s0 s1 hst hN hD').bind ?_;rintro ⟨path', N', y'⟩ ⟨hN', hD'', hd', hp', z, hy, hz⟩;dsimp only at hN' hD'' hd' hp' hy hz ⊢;rw [wr (x := tot + m) (by omega) (by omega)];exact (ihc A' path' L N' y' (tot + m) ga' hk' lv hN' hD'' hU' hd' hp' (by omega) hZ hell (by omega)).mono (fun r h => h.more hy (by rw [hcc]; omega))
    intro A L N y tot ell ga hk h0 hl hZ hell;have hTl := gt.l;refine Ev.sub 1 ?_;simp only [iP.l1];refine (vw g ga gt s0 s1 y).bind ?_;rintro ⟨L', y'⟩ ⟨bi, z, hz, hy⟩;dsimp only at bi hy ⊢;have hLl := bi.l;have lv := bi.lv;have htb := lv.b t t0 t1;have hkn : 0 ≤ n * (2 * (E.length : Int)) := Int.mul_nonneg (by omega) (by omega);have hk0 : 0 ≤ (n * (2 * (E.length : Int)) + 1 + 2 * (E.length : Int)) * (n + 2) := Int.mul_nonneg (by omega) (by omega);have hk1 : kk n E = 2 * n + (n * (2 * (E.length : Int)) + 1 + 2 * (E.length : Int)) * (n + 2) := rfl;have hZk : ((Z + 1 : Nat) : Int) * kk n E = Z * kk n E + kk n E := by rw [show ((Z + 1 : Nat) : Int) = (Z : Int) + 1 by omega, Int.add_mul, Int.one_mul]
    have hZ0 : 0 ≤ (Z : Int) * kk n E := Int.mul_nonneg (by omega) (by omega);simp only [if_pos t0, if_pos (show t < (L'.length : Int) by omega), if_pos (show 0 ≤ (T.length : Int) by omega), if_pos (show ((T.length : Int)).toNat * 8 ≤ 281474976710656 by omega), Option.bind_some];by_cases ht : rd L' t = 0
    · simp only [if_pos ht];have hcut := ga.cut g hk (C := fun x => decide (0 < rd L' x)) (by rw [bi.s1]; rfl) (by rw [ht]; rfl) (fun j j0 j1 hp hc => decide_eq_true (bi.c j j0 j1 hp (of_decide_eq_true hc) (by simp) trivial).1);have := bound A tot ga hk;exact Ev.ret ⟨⟨rfl, rfl, ga, hk, ⟨⟨_, ga.fl hk⟩, _, hcut.2 (by omega), hcut.1⟩, bi, ht⟩, z, hy, by omega⟩
    · simp only [if_neg ht];have hlt := hl L' bi (by omega);have hz0 : ∀ v, rd (List.replicate ((T.length : Int)).toNat (0 : Int)) v = 0 := by
        intro v;unfold rd;rw [List.getD_eq_getElem?_getD, List.getElem?_replicate];split <;> rfl
      have hN : NX n T (List.replicate ((T.length : Int)).toNat (0 : Int)) := ⟨by rw [List.length_replicate]; omega, fun v a b => by rw [hz0]; omega⟩;have hD : DI n E A T L' t (List.replicate ((T.length : Int)).toNat (0 : Int)) := fun v p a b p0 p1 => by rw [hz0] at p1; omega
      have hU : UP E A L' := fun j j0 j1 hp hc => bi.c j j0 j1 hp hc (by simp) trivial;have hw := Dk gt hz0 (by omega);have hw2 : wt n T (List.replicate ((T.length : Int)).toNat (0 : Int)) * (n + 2) ≤ n * (2 * (E.length : Int)) * (n + 2) := Int.mul_le_mul_of_nonneg_right hw (by omega);refine (vC g ga gt lv s0 s1 hst hN hD).bind ?_;rintro ⟨path', N', y''⟩ ⟨hN', hD', hdead, hp', z', hy', hz'⟩;dsimp only at hN' hD' hdead hp' hy' hz' ⊢;refine (step (2 * E.length) A path' L' N' y'' tot ga hk lv hN' hD' hU hdead hp' h0 (by omega) (by omega) (by have := FC (E := E) (A := A) (L := L'); omega)).mono (fun r h => h.more (z := z + z') (by rw [hy', hy, zO]) ?_);rw [hZk, hk1, Int.add_mul, Int.add_mul, Int.one_mul];rw [show (((2 * E.length : Nat) : Int)) = 2 * (E.length : Int) by omega];omega
end
end Go.Proofs.Ytdkbmchbkkhpoaa.Flow
set_option linter.unusedVariables false
set_option linter.unusedSimpArgs false
namespace Go.Proofs.Ytdkbmchbkkhpoaa.Flow
open Go.RowKit Go.Proofs.Ytdkbmchbkkhpoaa.PMfr Go.Proofs.YtdkbmchbkkhpoaaW.PrintWords Go.Proofs.YtdkbmchbkkhpoaaW.PrintLast Go.Proofs.YtdkbmchbkkhpoaaW.PrintMore
section
variable {n s t : Int} {E : List Ed} {S : S74}
def FD (n s t : Int) (E : List Ed) (y0 : Int) (r : Int × Int × Option S74) : Prop := ∃ S', r.2.2 = some S' ∧ qQ n E S' ∧
  (pq n s t → r.1 = 0 ∧ r.2.1 = 1 ∧ S'.f4 = false) ∧ (¬ pq n s t → qP E s t → r.1 = 0 ∧ r.2.1 = 18 ∧ S'.f4 = false) ∧
  (¬ pq n s t → ¬ qP E s t → r.2.1 = 0 ∧ S'.f4 = true ∧ sO E s t r.1 ∧ AG E S'.f0 ∧ (∀ X, Ph E S'.f0 X = r.1 * (X s - X t)) ∧ ∃ L, BI n E s (psR S'.f0) (fun _ => True) L [] ∧ rd L t = 0 ∧ ∃ z : Nat, 1 ≤ z ∧ (z : Int) ≤ n * kk n E + 4 * n + 1 ∧ S'.f7.f0 = it z y0)
theorem Ac (hS : qQ n E S) (s t : Int) : Ev (fun k => Max.o k (some S) s t) (FD n s t E S.f7.f0) := by
  have hl := hS.t.l;have hn1 := hS.g.n1;dsimp only [Max.o];simp only [iP.f, jF.f, hS.c];refine Ev.bind (Q := fun r => AS E r.2.2.1 ∧ (pq n s t → r.1 = 0 ∧ r.2.1 = 1 ∧ r.2.2.2.1 = false) ∧ (¬ pq n s t → qP E s t → r.1 = 0 ∧ r.2.1 = 18 ∧ r.2.2.2.1 = false) ∧ (¬ pq n s t → ¬ qP E s t → r.2.1 = 0 ∧ r.2.2.2.1 = true ∧ sO E s t r.1 ∧ AG E r.2.2.1 ∧ (∀ X, Ph E r.2.2.1 X = r.1 * (X s - X t)) ∧ ∃ L, BI n E s (psR r.2.2.1) (fun _ => True) L [] ∧ rd L t = 0 ∧ ∃ z : Nat, 1 ≤ z ∧ (z : Int) ≤ n * kk n E + 4 * n + 1 ∧ r.2.2.2.2.2.2 = it z S.f7.f0)) ?_ (fun r h => Ev.ret ⟨_, rfl, ⟨hS.g, h.1, rfl, hS.t, hS.s⟩, h.2⟩);refine (vF hS.g E.length S.f0 0 (Int.le_refl 0) (by omega) hS.a (fun e he => by omega)).bind ?_;rintro ⟨A, b⟩ ⟨hb, sA, fr⟩;dsimp only at hb sA fr ⊢;subst hb;obtain ⟨ga, ph0⟩ := fresh hS.g sA fr;simp only [zX hl, Option.bind_some];have bad : pq n s t → Ev (fun k => iP.j0 k S.f3 S.f7.f0 s t (E.map (·.c)) S.f2 S.f5 S.f6 A false true) (fun r => AS E r.2.2.1 ∧ (pq n s t → r.1 = 0 ∧ r.2.1 = 1 ∧ r.2.2.2.1 = false) ∧ (¬ pq n s t → qP E s t → r.1 = 0 ∧ r.2.1 = 18 ∧ r.2.2.2.1 = false) ∧ (¬ pq n s t → ¬ qP E s t → r.2.1 = 0 ∧ r.2.2.2.1 = true ∧ sO E s t r.1 ∧ AG E r.2.2.1 ∧ (∀ X, Ph E r.2.2.1 X = r.1 * (X s - X t)) ∧ ∃ L, BI n E s (psR r.2.2.1) (fun _ => True) L [] ∧ rd L t = 0 ∧ ∃ z : Nat, 1 ≤ z ∧ (z : Int) ≤ n * kk n E + 4 * n + 1 ∧ r.2.2.2.2.2.2 = it z S.f7.f0)) := by
    intro hb;refine Ev.sub 1 ?_;simp only [iP.j0, if_pos trivial];exact Ev.ret ⟨sA, fun _ => ⟨rfl, rfl, rfl⟩, fun h => absurd hb h, fun h => absurd hb h⟩
  rcases (Classical.em (0 ≤ s ∧ s < n)).symm with h1 | h1
  · simp only [decide_eq_false h1, if_neg (show ¬ false = true by decide)];exact bad (by unfold pq; omega)
  simp only [decide_eq_true h1, if_pos trivial];rcases (Classical.em (0 ≤ t ∧ t < n)).symm with h2 | h2
  · simp only [decide_eq_false h2, if_neg (show ¬ false = true by decide)];exact bad (by unfold pq; omega)
  simp only [decide_eq_true h2, if_pos trivial];by_cases h3 : s = t
  · simp only [decide_eq_true h3];exact bad (by unfold pq; omega)
  simp only [decide_eq_false h3];have nb : ¬ pq n s t := by unfold pq; omega
  refine Ev.sub 1 ?_;simp only [iP.j0, if_neg (show ¬ false = true by decide)];refine (AV hS.g ga hS.t h1.1 h1.2 S.f7.f0).bind ?_;rintro ⟨L, y⟩ ⟨bi, z0, z1, z2, hy⟩;dsimp only at bi hy ⊢;have hLl := bi.l;have endl : 0 < rd L t ↔ qP E s t := by
    constructor
    · have : ∀ (z : Nat) (v : Int), 0 ≤ v → v < n → rd L v = (z : Int) + 1 → qP E s v := by
        intro z
        induction z with
        | zero => intro v a b e; rw [bi.o v a b (by omega)]; exact .refl
        | succ z ih =>
          intro v a b e;by_cases hs : v = s
          · rw [hs]; exact .refl
          obtain ⟨j, j0, j1, p, hv, h0, hl'⟩ := bi.d v a b (by omega) hs;obtain ⟨_, _, u0, u1, _⟩ := hS.g.arc j0 j1;refine .step _ _ (ih (tl E j) u0 u1 (by omega)) ⟨(j / 2).toNat, by omega, ?_, ?_, ?_⟩
          · unfold tl; rw [if_pos p.1]
          · rw [← hv]; unfold hd; rw [if_pos p.1]
          · rw [← (fr (j / 2).toNat (by omega)).1, show 2 * (((j / 2).toNat : Nat) : Int) = j by have := p.1; omega]; exact p.2
      intro h;exact this (rd L t - 1).toNat t h2.1 h2.2 (by omega)
    · intro h;have : ∀ v, Rch (EP E) s v → 0 < rd L v := by
        intro v hv
        induction hv with
        | refl => rw [bi.s1]; decide
        | step u v _ huv ih =>
          obtain ⟨e, he, ha, hb, hi⟩ := huv;have e1 : tl E (2 * (e : Int)) = u := by unfold tl; rw [if_pos (by omega), show (2 * (e : Int) / 2).toNat = e by omega]; exact ha
          have e2 : hd E (2 * (e : Int)) = v := by unfold hd; rw [if_pos (by omega), show (2 * (e : Int) / 2).toNat = e by omega]; exact hb
          rw [← e2];exact (bi.c (2 * (e : Int)) (by omega) (by omega) ⟨by omega, by rw [(fr e he).1]; exact hi⟩ (by rw [e1]; exact ih) (by simp) trivial).1
      exact this t h
  simp only [if_pos h2.1, if_pos (show t < (L.length : Int) by omega)];by_cases he : rd L t > 0
  · simp only [if_pos he];exact Ev.ret ⟨sA, fun h => absurd h nb, fun _ _ => ⟨rfl, rfl, rfl⟩, fun _ h => absurd (endl.1 he) h⟩
  · simp only [if_neg he];have hE : ¬ qP E s t := fun h => he (endl.2 h);refine ((Aa (c := E.map (·.c)) (a3 := S.f3) hS.g hS.t h1.1 h1.2 h2.1 h2.2 h3 hE (b := false) n.toNat) A S.f5 S.f6 y 0 0 ga (fun X => by rw [ph0, Int.zero_mul]) (Int.le_refl 0) (fun _ _ h => h) (by omega) (Int.le_refl 0)).mono ?_;rintro r ⟨⟨r1, r2, r3, r4, r5, r6, r7⟩, z, hz, hB⟩;rw [show ((n.toNat : Nat) : Int) = n by omega] at hB;exact ⟨⟨r3.l, r3.h⟩, fun h => absurd h nb, fun _ h => absurd h hE, fun _ _ => ⟨r1, r2, r5, r3, r4, _, r6, r7, z0 + z, by omega, by omega, by rw [hz, hy, zO]⟩⟩
theorem FV : ∀ (z : Nat) (x : Int), 0 ≤ x → x + z < 9223372036854775808 → it z x = x + z := by
  intro z
  induction z with
  | zero => intro x _ _; simp [it]
  | succ z ih =>
    intro x h0 h1;rw [it, wr (by omega) (by omega), ih (x + 1) (by omega) (by omega)]; omega
theorem Dl (L : List Int) (hl : L.length ≤ 1000000) (y : Int) : ∀ (z : Nat) (acc : List Bool) (p : Int), 0 ≤ p → p + z = (L.length : Int) → (acc.length : Int) = p → Ev (fun k => jv.l0 k L y acc p) (fun r => r.1 = acc ++ (L.drop p.toNat).map (fun x => decide (x > 0)) ∧ r.2 = y) := by
  intro z
  induction z with
  | zero =>
    intro acc p p0 pz ha;refine Ev.sub 1 ?_;simp only [jv.l0, if_neg (show ¬ p < (L.length : Int) by omega)];refine Ev.ret ⟨?_, rfl⟩;rw [List.drop_eq_nil_of_le (by omega), List.map_nil, List.append_nil]
  | succ z ih =>
    intro acc p p0 pz ha;have w : wrap64 (p + 1) = p + 1 := wr (by omega) (by omega);refine Ev.sub 1 ?_;simp only [jv.l0, if_pos (show p < (L.length : Int) by omega), if_pos p0, if_pos (show acc.length < 140737488355328 by omega), Option.bind_some, w];refine (ih (acc ++ [decide (rd L p > 0)]) (p + 1) (by omega) (by omega) (by rw [List.length_append, List.length_singleton]; omega)).mono ?_;rintro r ⟨h1, h2⟩;refine ⟨?_, h2⟩;rw [h1, List.append_assoc];congr 1;rw [List.drop_eq_getElem_cons (show p.toNat < L.length by omega), List.map_cons, show (p + 1).toNat = p.toNat + 1 by omega];unfold rd;rw [List.getD_eq_getElem?_getD, List.getElem?_eq_getElem (by omega)]; rfl
theorem Ad (hS : qQ n E S) (ga : AG E S.f0) (h0 : 0 ≤ s) (h1 : s < n) : Ev (fun k => Side.o k (some S) s) (fun r => ∃ L, ∃ z : Nat, BI n E s (psR S.f0) (fun _ => True) L [] ∧ r.1 = L.map (fun x => decide (x > 0)) ∧ (z : Int) < 2 * n ∧ r.2 = some ⟨S.f0, S.f1, S.f2, S.f3, S.f4, S.f5, S.f6, ⟨it z S.f7.f0⟩⟩) := by
  have hn := hS.g.n2;dsimp only [Side.o];simp only [jv.f, zX hS.t.l, Option.bind_some, decide_eq_true (show 0 ≤ s ∧ s < n from ⟨h0, h1⟩), if_pos trivial];refine Ev.bind (Q := fun r => ∃ L, ∃ z : Nat, BI n E s (psR S.f0) (fun _ => True) L [] ∧ r.1 = L.map (fun x => decide (x > 0)) ∧ (z : Int) < 2 * n ∧ r.2 = it z S.f7.f0) ?_ (fun r ⟨L, z, a, b, c, d⟩ => Ev.ret ⟨L, z, a, b, c, by rw [d]⟩);refine (vw hS.g ga hS.t h0 h1 S.f7.f0).bind ?_;rintro ⟨L, y⟩ ⟨bi, z, hz, hy⟩;dsimp only at bi hy ⊢;have hl := bi.l;refine (Dl L (by omega) y L.length [] 0 (Int.le_refl 0) (by omega) rfl).mono ?_;rintro r ⟨h1, h2⟩;exact ⟨L, z, bi, by rw [h1]; rfl, by omega, by rw [h2, hy]⟩
theorem ER (hS : qQ n E S) (k : Nat) : Side.o k (some S) (-1) = some ([], some S) := by
  dsimp only [Side.o];simp only [jv.f, zX hS.t.l, Option.bind_some, decide_eq_false (show ¬ (0 ≤ (-1 : Int) ∧ (-1 : Int) < n) by omega), if_neg (show ¬ false = true by decide)]
theorem AX {ps : Int → Prop} {L L2 : List Int} (g : EG n E) (bi : BI n E s ps (fun _ => True) L []) (bi2 : BI n E s ps (fun _ => True) L2 []) : ∀ (z : Nat) (v : Int), 0 ≤ v → v < n → rd L2 v = (z : Int) + 1 → 0 < rd L v := by
  intro z
  induction z with
  | zero => intro v a b e; rw [bi2.o v a b (by omega), bi.s1]; decide
  | succ z ih =>
    intro v a b e;by_cases hv : v = s
    · rw [hv, bi.s1]; decide
    obtain ⟨j, j0, j1, p, hj, h0, hl⟩ := bi2.d v a b (by omega) hv;obtain ⟨_, _, u0, u1, _⟩ := g.arc j0 j1;rw [← hj];exact (bi.c j j0 j1 p (ih (tl E j) u0 u1 (by omega)) (by simp) trivial).1
end
end Go.Proofs.Ytdkbmchbkkhpoaa.Flow
