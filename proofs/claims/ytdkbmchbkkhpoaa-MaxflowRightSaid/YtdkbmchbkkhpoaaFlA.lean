/- Plain facts about nets: sums, arcs, tables. -/
import Derived.Test.YtdkbmchbkkhpoaaNetC
import Derived.Laws.BitsLemmas
import Derived.Laws.BitsAllLaws
set_option linter.unusedVariables false
set_option linter.unusedSimpArgs false
namespace Go.Proofs.Ytdkbmchbkkhpoaa.Flow
open Go.RowKit Go.Proofs.Ytdkbmchbkkhpoaa.PMfr Go.Proofs.YtdkbmchbkkhpoaaW.PrintWords Go.Proofs.YtdkbmchbkkhpoaaW.PrintLast Go.Proofs.YtdkbmchbkkhpoaaW.PrintMore
theorem wr {x : Int} (h0 : -9223372036854775808 ≤ x) (h1 : x ≤ 9223372036854775807) : wrap64 x = x := by unfold wrap64; omega
def Ev {α : Type} (F : Nat → Option α) (Q : α → Prop) : Prop := ∃ r, Q r ∧ ∃ n, ∀ k, n ≤ k → F k = some r
section
variable {α β : Type} {F : Nat → Option α} {Q : α → Prop} {R : β → Prop}
theorem Ev.sub (m : Nat) (h : Ev (fun k => F (k + m)) Q) : Ev F Q := by
  obtain ⟨r, q, n, h⟩ := h;refine ⟨r, q, n + m, fun k hk => ?_⟩;have := h (k - m) (by omega);dsimp only at this
  rwa [show k - m + m = k by omega] at this
theorem Ev.add (m : Nat) (h : Ev F Q) : Ev (fun k => F (k + m)) Q := by
  obtain ⟨r, q, n, h⟩ := h;exact ⟨r, q, n, fun k hk => h (k + m) (by omega)⟩
theorem Ev.ret {a : α} (h : Q a) : Ev (fun _ => some a) Q := ⟨a, h, 0, fun _ _ => rfl⟩
theorem Ev.bind {G : α → Nat → Option β} (h : Ev F Q) (g : ∀ a, Q a → Ev (G a) R) : Ev (fun k => (F k).bind fun x => G x k) R := by
  obtain ⟨r, q, n, h⟩ := h;obtain ⟨r', q', m, g⟩ := g r q;exact ⟨r', q', n + m, fun k hk => by dsimp only; rw [h k (by omega)]; exact g k (by omega)⟩
theorem Ev.mono {Q' : α → Prop} (h : Ev F Q) (g : ∀ a, Q a → Q' a) : Ev F Q' := by
  obtain ⟨r, q, n, h⟩ := h;exact ⟨r, g r q, n, h⟩
theorem Ev.of {f : Option α} {a : α} (h : f = some a) (q : Q a) : Ev (fun _ => f) Q := ⟨a, q, 0, fun _ _ => h⟩
theorem Ev.out (h : Ev F Q) : ∃ k r, F k = some r ∧ Q r := by
  obtain ⟨r, q, n, h⟩ := h;exact ⟨n, r, h n (Nat.le_refl n), q⟩
end
/-- Sums of the first ones. -/
def Sm (f : Nat → Int) : Nat → Int
  | 0 => 0
  | n + 1 => Sm f n + f n
theorem Sm.congr {f g : Nat → Int} {n : Nat} (h : ∀ i, i < n → f i = g i) : Sm f n = Sm g n := by
  induction n with
  | zero => rfl
  | succ n ih => rw [Sm, Sm, ih (fun i hi => h i (by omega)), h n (by omega)]
theorem Sm.mono {f g : Nat → Int} {n : Nat} (h : ∀ i, i < n → f i ≤ g i) : Sm f n ≤ Sm g n := by
  induction n with
  | zero => exact Int.le_refl _
  | succ n ih => have := ih (fun i hi => h i (by omega)); have := h n (by omega); rw [Sm, Sm]; omega
theorem Sm.at {f g : Nat → Int} {n e : Nat} {d : Int} (he : e < n) (h : ∀ i, i < n → i ≠ e → g i = f i) (h' : g e = f e + d) : Sm g n = Sm f n + d := by
  induction n with
  | zero => omega
  | succ n ih =>
    rw [Sm, Sm];by_cases hn : e = n
    · subst hn;rw [Sm.congr (fun i hi => h i (by omega) (by omega)), h']; omega
    · rw [ih (by omega) (fun i hi => h i (by omega)), h n (by omega) (by omega)]; omega
theorem Sm.zero {f : Nat → Int} {n : Nat} (h : ∀ i, i < n → f i = 0) : Sm f n = 0 := by
  induction n with
  | zero => rfl
  | succ n ih => rw [Sm, ih (fun i hi => h i (by omega)), h n (by omega)]; rfl
theorem Sm.add {f g : Nat → Int} {n : Nat} : Sm (fun i => f i + g i) n = Sm f n + Sm g n := by
  induction n with
  | zero => rfl
  | succ n ih => rw [Sm, Sm, Sm, ih]; omega
theorem Sm.nonneg {f : Nat → Int} {n : Nat} (h : ∀ i, i < n → 0 ≤ f i) : 0 ≤ Sm f n := by
  have := Sm.mono (f := fun _ => 0) (g := f) h;rw [Sm.zero (fun _ _ => rfl)] at this;exact this
theorem Sm.one {f : Nat → Int} {n e : Nat} (h : ∀ i, i < n → 0 ≤ f i) (he : e < n) : f e ≤ Sm f n := by
  induction n with
  | zero => omega
  | succ n ih =>
    have h0 := Sm.nonneg (f := f) (n := n) (fun i hi => h i (by omega));have h1 := h n (by omega);rw [Sm];by_cases hn : e = n
    · subst hn; omega
    · have := ih (fun i hi => h i (by omega)) (by omega); omega
/-- An edge. -/
structure Ed where
  a : Int
  b : Int
  c : Int
abbrev Inf : Int := 4611686018427387904
def ea (E : List Ed) (e : Nat) : Int := (E.getD e ⟨0, 0, 0⟩).a
def eb (E : List Ed) (e : Nat) : Int := (E.getD e ⟨0, 0, 0⟩).b
def ec (E : List Ed) (e : Nat) : Int := (E.getD e ⟨0, 0, 0⟩).c
def hd (E : List Ed) (j : Int) : Int := if j % 2 = 0 then eb E (j / 2).toNat else ea E (j / 2).toNat
def tl (E : List Ed) (j : Int) : Int := if j % 2 = 0 then ea E (j / 2).toNat else eb E (j / 2).toNat
def rv (j : Int) : Int := if j % 2 = 0 then j + 1 else j - 1
theorem rv_half (j : Int) : rv j / 2 = j / 2 := by unfold rv; split <;> omega
theorem rv_par (j : Int) : rv j % 2 = 1 - j % 2 := by unfold rv; split <;> omega
theorem rv_rv (j : Int) : rv (rv j) = j := by unfold rv; split <;> split <;> omega
theorem rv_in {j m : Int} (h : 0 ≤ j) (hj : j < 2 * m) : 0 ≤ rv j ∧ rv j < 2 * m := by unfold rv; split <;> omega
theorem rv_ne (j : Int) : rv j ≠ j := by unfold rv; split <;> omega
theorem hd_rv (E : List Ed) (j : Int) : hd E (rv j) = tl E j := by
  unfold hd tl; rw [rv_half, rv_par];by_cases h : j % 2 = 0
  · rw [if_pos h, if_neg (by omega)]
  · rw [if_neg h, if_pos (by omega)]
theorem tl_rv (E : List Ed) (j : Int) : tl E (rv j) = hd E j := by rw [← hd_rv, rv_rv]
/-- All capacities below the endless one. -/
def fs (E : List Ed) : Int := Sm (fun e => if ec E e < Inf then ec E e else 0) E.length
structure EG (n : Int) (E : List Ed) : Prop where
  n1 : 1 ≤ n
  n2 : n ≤ 65536
  m : E.length ≤ 100000
  v : ∀ e, e < E.length → (0 ≤ ea E e ∧ ea E e < n) ∧ (0 ≤ eb E e ∧ eb E e < n) ∧ ea E e ≠ eb E e ∧ 0 ≤ ec E e ∧ ec E e ≤ Inf
  s : fs E < Inf
def rm (A : List S78) (j : Int) : Int := (rd_T78 A j).f1
structure AG (E : List Ed) (A : List S78) : Prop where
  l : (A.length : Int) = 2 * E.length
  h : ∀ j, 0 ≤ j → j < 2 * (E.length : Int) → (rd_T78 A j).f0 = hd E j
  r : ∀ j, 0 ≤ j → j < 2 * (E.length : Int) → 0 ≤ rm A j ∧ rm A j + rm A (rv j) = ec E (j / 2).toNat
structure TG (n : Int) (E : List Ed) (T : List (List Int)) : Prop where
  l : (T.length : Int) = n
  i : ∀ v j, 0 ≤ v → v < n → (j ∈ rd_L4 T v ↔ 0 ≤ j ∧ j < 2 * (E.length : Int) ∧ tl E j = v)
  c : ∀ v, (rd_L4 T v).length ≤ 2 * E.length
theorem EG.arc {n : Int} {E : List Ed} (h : EG n E) {j : Int} (h0 : 0 ≤ j) (h1 : j < 2 * (E.length : Int)) : 0 ≤ hd E j ∧ hd E j < n ∧ 0 ≤ tl E j ∧ tl E j < n ∧ hd E j ≠ tl E j := by
  obtain ⟨⟨a, b⟩, ⟨c, d⟩, e, _⟩ := h.v (j / 2).toNat (by omega);unfold hd tl;split
  · exact ⟨c, d, a, b, fun h => e h.symm⟩
  · exact ⟨a, b, c, d, e⟩
theorem EG.cap {n : Int} {E : List Ed} (h : EG n E) {j : Int} (h0 : 0 ≤ j) (h1 : j < 2 * (E.length : Int)) : 0 ≤ ec E (j / 2).toNat ∧ ec E (j / 2).toNat ≤ Inf := (h.v (j / 2).toNat (by omega)).2.2.2
theorem AG.le {n : Int} {E : List Ed} {A : List S78} (g : EG n E) (h : AG E A) {j : Int} (h0 : 0 ≤ j) (h1 : j < 2 * (E.length : Int)) : rm A j ≤ Inf := by
  have := h.r j h0 h1;have := (h.r (rv j) (rv_in h0 h1).1 (rv_in h0 h1).2).1;have := (g.cap h0 h1).2;omega
theorem rd_set {l : List Int} {i : Int} (v : Int) (hi : 0 ≤ i) (hl : i < (l.length : Int)) {j : Int} (hj : 0 ≤ j) : rd (l.set i.toNat v) j = if j = i then v else rd l j := by
  unfold rd;rw [List.getD_eq_getElem?_getD, List.getD_eq_getElem?_getD, List.getElem?_set];by_cases h : j = i
  · subst h;rw [if_pos rfl, if_pos (by omega), if_pos rfl]; rfl
  · rw [if_neg (by omega), if_neg h]
theorem rdA_set {l : List S78} {i : Int} (v : S78) (hi : 0 ≤ i) (hl : i < (l.length : Int)) {j : Int} (hj : 0 ≤ j) : rd_T78 (l.set i.toNat v) j = if j = i then v else rd_T78 l j := by
  unfold rd_T78;rw [List.getD_eq_getElem?_getD, List.getD_eq_getElem?_getD, List.getElem?_set];by_cases h : j = i
  · subst h;rw [if_pos rfl, if_pos (by omega), if_pos rfl]; rfl
  · rw [if_neg (by omega), if_neg h]
theorem rdT_set {l : List (List Int)} {i : Int} (v : List Int) (hi : 0 ≤ i) (hl : i < (l.length : Int)) {j : Int} (hj : 0 ≤ j) : rd_L4 (l.set i.toNat v) j = if j = i then v else rd_L4 l j := by
  unfold rd_L4;rw [List.getD_eq_getElem?_getD, List.getD_eq_getElem?_getD, List.getElem?_set];by_cases h : j = i
  · subst h;rw [if_pos rfl, if_pos (by omega), if_pos rfl]; rfl
  · rw [if_neg (by omega), if_neg h]
theorem rd_mem {l : List Int} {i : Int} (hi : 0 ≤ i) (hl : i < (l.length : Int)) : rd l i ∈ l := by
  unfold rd;rw [List.getD_eq_getElem?_getD, List.getElem?_eq_getElem (by omega)];exact List.getElem_mem _
theorem mem_rd {l : List Int} {x : Int} (h : x ∈ l) : ∃ i : Int, 0 ≤ i ∧ i < (l.length : Int) ∧ rd l i = x := by
  obtain ⟨i, hi, e⟩ := List.getElem_of_mem h;refine ⟨(i : Int), by omega, by omega, ?_⟩;unfold rd;rw [List.getD_eq_getElem?_getD, Int.toNat_natCast, List.getElem?_eq_getElem hi]; exact e
theorem xor1 {j : Int} (h0 : 0 ≤ j) (h1 : j < 1000000) : Go.bits .xor .i64 j 1 = rv j := by
  obtain ⟨n, rfl⟩ : ∃ n : Nat, j = n := ⟨j.toNat, by omega⟩;have hx : n ^^^ 1 < 2 ^ 62 := Nat.xor_lt_two_pow (by omega) (by omega);have h2 : (n ^^^ 1) / 2 = n / 2 := by rw [Nat.xor_div_two]; simp
  have h3 : (n ^^^ 1) % 2 = 1 ↔ ¬(n % 2 = 1 ↔ 1 % 2 = 1) := Nat.xor_mod_two_eq_one;have e : Go.bits .xor .i64 (n : Int) 1 = ((n ^^^ 1 : Nat) : Int) := by
    show IntKind.i64.wrap ((BitVec.ofInt 64 (n : Int) ^^^ BitVec.ofInt 64 ((1 : Nat) : Int)).toNat : Int) = _;rw [BitVec.toNat_xor, ofInt_u64 n (by omega), ofInt_u64 1 (by omega)];simp [IntKind.wrap, IntKind.bits, IntKind.signed];omega
  rw [e];unfold rv;split <;> omega
end Go.Proofs.Ytdkbmchbkkhpoaa.Flow
