import Derived.Test.YtdkbmchbkkhpoaaFl
set_option linter.unusedVariables false
set_option linter.unusedSimpArgs false
namespace Go.Proofs.Ytdkbmchbkkhpoaa.Flow
open Go.RowKit Go.Proofs.Ytdkbmchbkkhpoaa.PMfr Go.Proofs.YtdkbmchbkkhpoaaW.PrintWords Go.Proofs.YtdkbmchbkkhpoaaW.PrintLast Go.Proofs.YtdkbmchbkkhpoaaW.PrintMore
structure Pb where
  n : Nat
  y : Nat → Int
  z : Nat → Int
  m : Nat → Int
  L : List (Int × Int)
structure Pb.V (P : Pb) : Prop where
  n2 : P.n ≤ 1000
  y0 : ∀ i, i < P.n → 0 ≤ P.y i
  z0 : ∀ i, i < P.n → 0 ≤ P.z i
  m3 : ∀ i, i < P.n → P.m i = -1 ∨ P.m i = 0 ∨ P.m i = 1
  l : ∀ x, x ∈ P.L → 0 ≤ x.1 ∧ x.1 < (P.n : Int) ∧ 0 ≤ x.2 ∧ x.2 < (P.n : Int)
  l2 : P.L.length ≤ 10000
  s : Sm (fun i => P.y i + P.z i) P.n < Inf
def Pb.yc (P : Pb) (i : Nat) : Int := if P.m i = 0 then Inf else P.y i
def Pb.zc (P : Pb) (i : Nat) : Int := if P.m i = 1 then Inf else P.z i
def Pb.e1 (P : Pb) (i : Nat) (E : List Ed) : List Ed := if 0 < P.zc i then E ++ [⟨0, (i : Int) + 2, P.zc i⟩] else E
def Pb.e2 (P : Pb) (i : Nat) (E : List Ed) : List Ed := if 0 < P.yc i then E ++ [⟨(i : Int) + 2, 1, P.yc i⟩] else E
def Pb.th (P : Pb) : Nat → List Ed
  | 0 => []
  | i + 1 => P.e2 i (P.e1 i (P.th i))
def im1 (x : Int × Int) (E : List Ed) : List Ed := if x.1 ≠ x.2 then E ++ [⟨x.1 + 2, x.2 + 2, Inf⟩] else E
def ims : List (Int × Int) → List Ed → List Ed
  | [], E => E
  | x :: l, E => ims l (im1 x E)
def Pb.net (P : Pb) : List Ed := ims P.L (P.th P.n)
def Pb.Keeps (P : Pb) (o : Nat → Bool) : Prop := (∀ i, i < P.n → (P.m i = 1 → o i = true) ∧ (P.m i = 0 → o i = false)) ∧ ∀ x, x ∈ P.L → o x.1.toNat = true → o x.2.toNat = true
def Pb.cost (P : Pb) (o : Nat → Bool) : Int := Sm (fun i => if o i = true then P.y i else P.z i) P.n
def Pb.Least (P : Pb) (o : Nat → Bool) (c : Int) : Prop := P.Keeps o ∧ P.cost o = c ∧ ∀ o', P.Keeps o' → c ≤ P.cost o' ∧ (P.cost o' = c → ∀ i, i < P.n → o i = true → o' i = true)
def Co (o : Nat → Bool) (v : Int) : Bool := if v = 0 then true else if v = 1 then false else o (v - 2).toNat
theorem xO (o : Nat → Bool) (i : Nat) : Co o ((i : Int) + 2) = o i := by
  unfold Co;rw [if_neg (by omega), if_neg (by omega)];congr 1; omega
section
variable {E : List Ed} {C : Int → Bool} {P : Pb}
theorem uZ (x : Ed) : qJ (E ++ [x]) C = qJ E C + if C x.a = true ∧ C x.b = false then x.c else 0 := by
  unfold qJ;rw [List.length_append, List.length_singleton, Sm];congr 1
  · exact Sm.congr (fun e he => by rw [qx, qy, qO, if_pos he, if_pos he, if_pos he])
  · rw [qx, qy, qO];simp only [Nat.lt_irrefl, if_false, if_true]
theorem vg (x : Ed) : Fin1 (E ++ [x]) C ↔ Fin1 E C ∧ (C x.a = true → C x.b = false → x.c < Inf) := by
  constructor
  · intro h;refine ⟨fun e he h1 h2 => ?_, fun h1 h2 => ?_⟩
    · have := h e (by rw [List.length_append, List.length_singleton]; omega);rw [qx, qy, qO, if_pos he, if_pos he, if_pos he] at this;exact this h1 h2
    · have := h E.length (by rw [List.length_append, List.length_singleton]; omega);rw [qx, qy, qO] at this;simp only [Nat.lt_irrefl, if_false, if_true] at this;exact this h1 h2
  · rintro ⟨h, h'⟩ e he;rw [List.length_append, List.length_singleton] at he;rw [qx, qy, qO];by_cases h1 : e < E.length
    · rw [if_pos h1, if_pos h1, if_pos h1]; exact h e h1
    · rw [if_neg h1, if_neg h1, if_neg h1, if_pos (by omega), if_pos (by omega), if_pos (by omega)]; exact h'
theorem Pb.V.zc0 (V : P.V) {i : Nat} (hi : i < P.n) : 0 ≤ P.zc i := by
  have hI : Inf = 4611686018427387904 := rfl;unfold Pb.zc; have := V.z0 i hi; split <;> omega
theorem Pb.V.yc0 (V : P.V) {i : Nat} (hi : i < P.n) : 0 ≤ P.yc i := by
  have hI : Inf = 4611686018427387904 := rfl;unfold Pb.yc; have := V.y0 i hi; split <;> omega
theorem Pb.V.part (V : P.V) {k : Nat} (hk : k < P.n) : Sm (fun i => P.y i + P.z i) k + P.y k + P.z k < Inf := by
  have h : ∀ d q, q + d ≤ P.n → Sm (fun i => P.y i + P.z i) q ≤ Sm (fun i => P.y i + P.z i) (q + d) := by
    intro d
    induction d with
    | zero => intro q _; exact Int.le_refl _
    | succ d ih =>
      intro q h;have := ih q (by omega);have h1 := V.y0 (q + d) (by omega);have h2 := V.z0 (q + d) (by omega);rw [show q + (d + 1) = (q + d) + 1 by omega, Sm]; omega
  have := h (P.n - (k + 1)) (k + 1) (by omega);rw [show k + 1 + (P.n - (k + 1)) = P.n by omega, Sm] at this;have := V.s;omega
theorem Pb.V.zlt (V : P.V) {i : Nat} (hi : i < P.n) : P.z i < Inf := by
  have := V.part hi;have := V.y0 i hi;have := Sm.nonneg (f := fun i => P.y i + P.z i) (n := i) (fun j hj => by have := V.y0 j (by omega); have := V.z0 j (by omega); omega);omega
theorem Pb.V.ylt (V : P.V) {i : Nat} (hi : i < P.n) : P.y i < Inf := by
  have := V.part hi;have := V.z0 i hi;have := Sm.nonneg (f := fun i => P.y i + P.z i) (n := i) (fun j hj => by have := V.y0 j (by omega); have := V.z0 j (by omega); omega);omega
theorem Ew (V : P.V) (c0 : C 0 = true) (c1 : C 1 = false) : ∀ k, k ≤ P.n → qJ (P.th k) C = Sm (fun i => if C ((i : Int) + 2) = true then P.yc i else P.zc i) k := by
  intro k
  induction k with
  | zero => intro _; rfl
  | succ k ih =>
    intro hk;have hz := V.zc0 (i := k) (by omega);have hy := V.yc0 (i := k) (by omega);rw [Pb.th, Sm, ← ih (by omega)];have a1 : qJ (P.e1 k (P.th k)) C = qJ (P.th k) C + if C ((k : Int) + 2) = true then 0 else P.zc k := by
      unfold Pb.e1;split
      · rw [uZ]; dsimp only; rw [c0]
        cases C ((k : Int) + 2) <;> simp
      · split <;> omega
    have a2 : ∀ E, qJ (P.e2 k E) C = qJ E C + if C ((k : Int) + 2) = true then P.yc k else 0 := by
      intro E;unfold Pb.e2;split
      · rw [uZ]; dsimp only; rw [c1]
        cases C ((k : Int) + 2) <;> simp
      · split <;> omega
    rw [a2, a1];split <;> omega
theorem Ey (c0 : C 0 = true) (c1 : C 1 = false) : ∀ k, Fin1 (P.th k) C ↔ ∀ i, i < k → (C ((i : Int) + 2) = false → P.zc i < Inf) ∧ (C ((i : Int) + 2) = true → P.yc i < Inf) := by
  have hI : Inf = 4611686018427387904 := rfl;intro k
  induction k with
  | zero => exact ⟨fun _ i hi => absurd hi (by omega), fun _ e he => absurd he (by simp [Pb.th])⟩
  | succ k ih =>
    have a1 : Fin1 (P.e1 k (P.th k)) C ↔ Fin1 (P.th k) C ∧ (C ((k : Int) + 2) = false → P.zc k < Inf) := by
      unfold Pb.e1;split
      · rw [vg]; dsimp only;exact ⟨fun h => ⟨h.1, fun h2 => h.2 c0 h2⟩, fun h => ⟨h.1, fun _ h2 => h.2 h2⟩⟩
      · exact ⟨fun h => ⟨h, fun _ => by omega⟩, fun h => h.1⟩
    have a2 : ∀ E, Fin1 (P.e2 k E) C ↔ Fin1 E C ∧ (C ((k : Int) + 2) = true → P.yc k < Inf) := by
      intro E;unfold Pb.e2;split
      · rw [vg]; dsimp only;exact ⟨fun h => ⟨h.1, fun h2 => h.2 h2 c1⟩, fun h => ⟨h.1, fun h2 _ => h.2 h2⟩⟩
      · exact ⟨fun h => ⟨h, fun _ => by omega⟩, fun h => h.1⟩
    rw [Pb.th, a2, a1, ih];constructor
    · rintro ⟨⟨h1, h2⟩, h3⟩ i hi;by_cases hik : i < k
      · exact h1 i hik
      · rw [show i = k by omega]; exact ⟨h2, h3⟩
    · intro h;exact ⟨⟨fun i hi => h i (by omega), (h k (by omega)).1⟩, (h k (by omega)).2⟩
theorem zK : ∀ (l : List (Int × Int)) (E : List Ed), Fin1 (ims l E) C ↔ Fin1 E C ∧ ∀ x, x ∈ l → C (x.1 + 2) = true → C (x.2 + 2) = true := by
  have hI : Inf = 4611686018427387904 := rfl;intro l
  induction l with
  | nil => intro E; exact ⟨fun h => ⟨h, fun x hx => absurd hx (by simp)⟩, fun h => h.1⟩
  | cons x l ih =>
    intro E;rw [ims, ih];have a1 : Fin1 (im1 x E) C ↔ Fin1 E C ∧ (C (x.1 + 2) = true → C (x.2 + 2) = true) := by
      unfold im1;split
      · rw [vg]; dsimp only;refine ⟨fun h => ⟨h.1, fun h1 => ?_⟩, fun h => ⟨h.1, fun h1 h2 => ?_⟩⟩
        · cases hb : C (x.2 + 2) with
          | true => rfl
          | false => have := h.2 h1 hb; omega
        · have := h.2 h1; rw [h2] at this; exact absurd this (by decide)
      · rename_i hx
        have hx : x.1 = x.2 := by omega
        exact ⟨fun h => ⟨h, fun h1 => by rw [← hx]; exact h1⟩, fun h => h.1⟩
    rw [a1];constructor
    · rintro ⟨⟨h1, h2⟩, h3⟩;refine ⟨h1, fun w hw => ?_⟩;rcases List.mem_cons.mp hw with e | hw
      · rw [e]; exact h2
      · exact h3 w hw
    · rintro ⟨h1, h2⟩;exact ⟨⟨h1, h2 x (by simp)⟩, fun w hw => h2 w (by simp [hw])⟩
theorem CX : ∀ (l : List (Int × Int)) (E : List Ed), (∀ x, x ∈ l → C (x.1 + 2) = true → C (x.2 + 2) = true) → qJ (ims l E) C = qJ E C := by
  intro l
  induction l with
  | nil => intro E _; rfl
  | cons x l ih =>
    intro E h;rw [ims, ih _ (fun w hw => h w (by simp [hw]))];unfold im1;split
    · rw [uZ]; dsimp only;rw [if_neg (fun hh => by have := h x (by simp) hh.1; rw [hh.2] at this; exact absurd this (by decide))]; omega
    · rfl
theorem sK (V : P.V) (c0 : C 0 = true) (c1 : C 1 = false) : Fin1 P.net C ↔ P.Keeps (fun i => C ((i : Int) + 2)) := by
  have hI : Inf = 4611686018427387904 := rfl;unfold Pb.net Pb.Keeps;rw [zK, Ey c0 c1];refine and_congr ⟨fun h i hi => ?_, fun h i hi => ?_⟩ ⟨fun h x hx h1 => ?_, fun h x hx h1 => ?_⟩
  · refine ⟨fun hm => ?_, fun hm => ?_⟩
    · dsimp only
      cases hb : C ((i : Int) + 2) with
      | true => rfl
      | false => have := (h i hi).1 hb; unfold Pb.zc at this; rw [if_pos hm] at this; omega
    · dsimp only
      cases hb : C ((i : Int) + 2) with
      | false => rfl
      | true => have := (h i hi).2 hb; unfold Pb.yc at this; rw [if_pos hm] at this; omega
  · refine ⟨fun hb => ?_, fun hb => ?_⟩
    · unfold Pb.zc;rw [if_neg (fun hm => by have := (h i hi).1 hm; dsimp only at this; rw [hb] at this; exact absurd this (by decide))];exact V.zlt hi
    · unfold Pb.yc;rw [if_neg (fun hm => by have := (h i hi).2 hm; dsimp only at this; rw [hb] at this; exact absurd this (by decide))];exact V.ylt hi
  · have hx' := V.l x hx;dsimp only at h1 ⊢;rw [show ((x.2.toNat : Nat) : Int) = x.2 by omega];rw [show ((x.1.toNat : Nat) : Int) = x.1 by omega] at h1;exact h x hx h1
  · have hx' := V.l x hx;have := h x hx;dsimp only at this;rw [show ((x.2.toNat : Nat) : Int) = x.2 by omega, show ((x.1.toNat : Nat) : Int) = x.1 by omega] at this;exact this h1
theorem xP (V : P.V) (c0 : C 0 = true) (c1 : C 1 = false) (hf : Fin1 P.net C) : qJ P.net C = P.cost (fun i => C ((i : Int) + 2)) := by
  have hk := (sK V c0 c1).1 hf;unfold Pb.net at hf ⊢;rw [CX _ _ ((zK _ _).1 hf).2, Ew V c0 c1 _ (Nat.le_refl _)];refine Sm.congr (fun i hi => ?_);have hi' := hk.1 i hi;dsimp only at hi' ⊢;split
  · rename_i hc
    unfold Pb.yc;rw [if_neg (fun hm => by have := hi'.2 hm; rw [hc] at this; exact absurd this (by decide))]
  · rename_i hc
    unfold Pb.zc;rw [if_neg (fun hm => hc (hi'.1 hm))]
theorem sN (V : P.V) {o : Nat → Bool} (h : P.Keeps o) : xw P.net 0 1 (Co o) ∧ qJ P.net (Co o) = P.cost o := by
  have e : (fun i : Nat => Co o ((i : Int) + 2)) = o := funext (xO o);have hf : Fin1 P.net (Co o) := (sK V rfl rfl).2 (by rw [e]; exact h);exact ⟨⟨rfl, rfl, hf⟩, by rw [xP V rfl rfl hf, e]⟩
theorem AG.least {A : List S78} {s t tot : Int} (ga : AG E A) (hk : ∀ X, Ph E A X = tot * (X s - X t)) (hC : xw E s t C) (hv : qJ E C = tot) {j : Int} (j0 : 0 ≤ j) (j1 : j < 2 * (E.length : Int)) (hp : psR A j) (hc : C (tl E j) = true) : C (hd E j) = true := by
  have hfl := ga.fl hk;have hkk := hfl.k (ind C);have e : ind C s - ind C t = 1 := by unfold ind; rw [if_pos hC.1, if_neg (by rw [hC.2.1]; decide)]; rfl
  rw [e, Int.mul_one, ← hv] at hkk;have le : ∀ i, i < E.length → rm A (2 * (i : Int) + 1) * (ind C (ea E i) - ind C (eb E i)) ≤ if C (ea E i) = true ∧ C (eb E i) = false then ec E i else 0 := fun i hi => by
    obtain ⟨h0, h1⟩ := hfl.b i hi;unfold ind;by_cases ha : C (ea E i) = true <;> by_cases hb : C (eb E i) = true
    · rw [if_pos ha, if_pos hb, if_neg (fun hh => by rw [hb] at hh; exact absurd hh.2 (by decide))]; omega
    · rw [if_pos ha, if_neg hb, if_pos ⟨ha, by simpa using hb⟩]; omega
    · rw [if_neg ha, if_pos hb, if_neg (fun hh => ha hh.1)]; omega
    · rw [if_neg ha, if_neg hb, if_neg (fun hh => ha hh.1)]; omega
  have eq : ∀ i, i < E.length → rm A (2 * (i : Int) + 1) * (ind C (ea E i) - ind C (eb E i)) = if C (ea E i) = true ∧ C (eb E i) = false then ec E i else 0 := fun i hi => by
    have h1 := le i hi;by_cases h2 : rm A (2 * (i : Int) + 1) * (ind C (ea E i) - ind C (eb E i)) + 1 ≤ if C (ea E i) = true ∧ C (eb E i) = false then ec E i else 0
    · have := Sm.less le hi h2;unfold qJ at hkk;omega
    · omega
  cases hb : C (hd E j) with
  | true => rfl
  | false =>
    exfalso;have hi : (j / 2).toNat < E.length := by omega
    have q := eq _ hi;have r := (ga.r j j0 j1).2;unfold psR at hp;unfold hd at hb;unfold tl at hc;unfold rv at r;unfold ind at q;by_cases hj : j % 2 = 0
    · rw [if_pos hj] at hb hc r;rw [if_pos hc, if_neg (by rw [hb]; decide), if_pos ⟨hc, hb⟩, show 2 * (((j / 2).toNat : Nat) : Int) + 1 = j + 1 by omega] at q;omega
    · rw [if_neg hj] at hb hc r;rw [if_pos hc, if_neg (by rw [hb]; decide), if_neg (fun hh => by rw [hh.1] at hb; exact absurd hb (by decide)), show 2 * (((j / 2).toNat : Nat) : Int) + 1 = j by omega] at q;omega
theorem BI.inC {n s : Int} {ps : Int → Prop} {L : List Int} (g : EG n E) (bi : BI n E s ps (fun _ => True) L []) (hs : C s = true) (hc : ∀ j, 0 ≤ j → j < 2 * (E.length : Int) → ps j → C (tl E j) = true → C (hd E j) = true) : ∀ (z : Nat) (v : Int), 0 ≤ v → v < n → rd L v = (z : Int) + 1 → C v = true := by
  intro z
  induction z with
  | zero => intro v a b e; rw [bi.o v a b (by omega)]; exact hs
  | succ z ih =>
    intro v a b e;by_cases hv : v = s
    · rw [hv]; exact hs
    obtain ⟨j, j0, j1, p, hj, h0, hl⟩ := bi.d v a b (by omega) hv;obtain ⟨_, _, u0, u1, _⟩ := g.arc j0 j1;rw [← hj];exact hc j j0 j1 p (ih (tl E j) u0 u1 (by omega))
theorem tX (V : P.V) (g : EG ((P.n : Int) + 2) P.net) {A : List S78} {tot : Int} {L L2 : List Int} (ga : AG P.net A) (hk : ∀ X, Ph P.net A X = tot * (X 0 - X 1)) (hi : tot < Inf) (bi : BI ((P.n : Int) + 2) P.net 0 (psR A) (fun _ => True) L []) (hL : rd L 1 = 0) (bi2 : BI ((P.n : Int) + 2) P.net 0 (psR A) (fun _ => True) L2 []) : P.Least (fun i => decide (0 < rd L2 ((i : Int) + 2))) tot := by
  have c0 : (fun v => decide (0 < rd L2 v)) 0 = true := decide_eq_true (by rw [bi2.s1]; decide);have c1 : (fun v => decide (0 < rd L2 v)) 1 = false := decide_eq_false (fun h => by
    have := AX g bi bi2 (rd L2 1 - 1).toNat 1 (by omega) (by omega) (by omega);omega)
  have hcut := ga.cut g hk (C := fun v => decide (0 < rd L2 v)) c0 c1 (fun j j0 j1 hp hc => by
    obtain ⟨a, b, c, d, _⟩ := g.arc j0 j1;exact decide_eq_true (bi2.c j j0 j1 hp (of_decide_eq_true hc) (by simp) trivial).1)
  have hf := (hcut.2 hi).2.2;refine ⟨(sK V c0 c1).1 hf, by rw [← hcut.1]; exact (xP V c0 c1 hf).symm, fun o' ho' => ?_⟩;obtain ⟨h1, h2⟩ := sN V ho';refine ⟨by rw [← h2]; exact (ga.fl hk).le h1, fun e i hin h => ?_⟩;have h3 := of_decide_eq_true h;have := BI.inC (C := Co o') g bi2 rfl (fun j j0 j1 hp hc => ga.least hk h1 (h2.trans e) j0 j1 hp hc) (rd L2 ((i : Int) + 2) - 1).toNat ((i : Int) + 2) (by omega) (by omega) (by omega);rw [xO] at this;exact this
theorem Pb.Least.uniq {o o' : Nat → Bool} {c c' : Int} (h : P.Least o c) (h' : P.Least o' c') : c = c' ∧ ∀ i, i < P.n → o i = o' i := by
  have a := h.2.2 o' h'.1;have b := h'.2.2 o h.1;have e1 := h.2.1;have e2 := h'.2.1;have hc : c = c' := by omega
  refine ⟨hc, fun i hi => ?_⟩;have a' := a.2 (by omega) i hi;have b' := b.2 (by omega) i hi
  cases h1 : o i <;> cases h2 : o' i <;> simp_all
theorem rD {n : Int} {E : List Ed} {x : Ed} (h : ¬ wC n x) (h' : x.c = Inf ∨ fs E + x.c < Inf) : rE n E x = 0 := by
  have hI : Inf = 4611686018427387904 := rfl;unfold rE;rw [if_neg h];split
  · rfl
  · rw [if_neg (by omega)]
theorem Ez (V : P.V) {i : Nat} (hi : i < P.n) (E : List Ed) : fs (P.e1 i E) ≤ fs E + P.z i := by
  have hI : Inf = 4611686018427387904 := rfl;have := V.z0 i hi;unfold Pb.e1;split
  · rw [wu]; dsimp only; unfold Pb.zc; split <;> split <;> omega
  · omega
theorem Fz (V : P.V) {i : Nat} (hi : i < P.n) (E : List Ed) : fs (P.e2 i E) ≤ fs E + P.y i := by
  have hI : Inf = 4611686018427387904 := rfl;have := V.y0 i hi;unfold Pb.e2;split
  · rw [wu]; dsimp only; unfold Pb.yc; split <;> split <;> omega
  · omega
theorem EC (V : P.V) : ∀ k, k ≤ P.n → fs (P.th k) ≤ Sm (fun i => P.y i + P.z i) k := by
  intro k
  induction k with
  | zero => intro _; exact Int.le_refl _
  | succ k ih =>
    intro hk;have := ih (by omega);have := Ez V (i := k) (by omega) (P.th k);have := Fz V (i := k) (by omega) (P.e1 k (P.th k));rw [Pb.th, Sm]; omega
theorem Bh (V : P.V) {i : Nat} (hi : i < P.n) : rE ((P.n : Int) + 2) (P.th i) ⟨0, (i : Int) + 2, P.zc i⟩ = 0 := by
  have hI : Inf = 4611686018427387904 := rfl;have h0 := V.zc0 hi;have h1 := V.zlt hi;have h2 := EC V i (by omega);have h3 := V.part hi;have h4 := V.y0 i hi;have h5 : P.zc i = Inf ∨ P.zc i = P.z i := by unfold Pb.zc; split <;> simp
  refine rD ?_ ?_
  · unfold wC; dsimp only; omega
  · dsimp only; omega
theorem Bj (V : P.V) {i : Nat} (hi : i < P.n) : rE ((P.n : Int) + 2) (P.e1 i (P.th i)) ⟨(i : Int) + 2, 1, P.yc i⟩ = 0 := by
  have hI : Inf = 4611686018427387904 := rfl;have h0 := V.yc0 hi;have h1 := V.ylt hi;have h2 := EC V i (by omega);have h6 := Ez V hi (P.th i);have h3 := V.part hi;have h4 := V.z0 i hi;have h5 : P.yc i = Inf ∨ P.yc i = P.y i := by unfold Pb.yc; split <;> simp
  refine rD ?_ ?_
  · unfold wC; dsimp only; omega
  · dsimp only; omega
theorem zL (i : Nat) (E : List Ed) : (P.e1 i E).length ≤ E.length + 1 := by
  unfold Pb.e1; split
  · rw [List.length_append, List.length_singleton]; omega
  · omega
theorem ED (i : Nat) (E : List Ed) : (P.e2 i E).length ≤ E.length + 1 := by
  unfold Pb.e2; split
  · rw [List.length_append, List.length_singleton]; omega
  · omega
theorem xQ : ∀ k, (P.th k).length ≤ 2 * k := by
  intro k
  induction k with
  | zero => exact Nat.le_refl _
  | succ k ih =>
    have := zL (P := P) k (P.th k);have := ED (P := P) k (P.e1 k (P.th k));rw [Pb.th]; omega
end
end Go.Proofs.Ytdkbmchbkkhpoaa.Flow
set_option linter.unusedVariables false
set_option linter.unusedSimpArgs false
namespace Go.Proofs.Ytdkbmchbkkhpoaa.Flow
open Go.RowKit Go.Proofs.Ytdkbmchbkkhpoaa.PMfr Go.Proofs.YtdkbmchbkkhpoaaW.PrintWords Go.Proofs.YtdkbmchbkkhpoaaW.PrintLast Go.Proofs.YtdkbmchbkkhpoaaW.PrintMore
def Pb.CY (P : Pb) (k : Nat) : Prop := ∃ f : Nat → Int, (0 ≤ f 0 ∧ f 0 < (P.n : Int)) ∧ P.m (f 0).toNat = 1 ∧ P.m (f k).toNat = 0 ∧ ∀ t, t < k → (f t, f (t + 1)) ∈ P.L
def Pb.Short (P : Pb) (d : Nat) : Prop := 1 ≤ d ∧ d ≤ P.n ∧ P.CY (d - 1) ∧ ∀ k, P.CY k → d ≤ k + 1
def un (P : Pb) (F : Int → Option Int) : Int := Sm (fun i => if F (i : Int) = none then 1 else 0) P.n
structure WI (P : Pb) (F : Int → Option Int) (lv : Int → Nat) (q : List Int) (ex : Int → Prop) : Prop where
  key : ∀ i p, F i = some p → 0 ≤ i ∧ i < (P.n : Int) ∧ 1 ≤ lv i ∧ (lv i : Int) ≤ P.n - un P F ∧ ((p = -1 ∧ lv i = 1 ∧ P.m i.toNat = 1) ∨ (0 ≤ p ∧ F p ≠ none ∧ (p, i) ∈ P.L ∧ lv i = lv p + 1))
  root : ∀ i : Int, 0 ≤ i → i < (P.n : Int) → P.m i.toNat = 1 → F i ≠ none ∧ lv i = 1
  qk : ∀ i, i ∈ q → F i ≠ none
  qs : q.Pairwise (fun a b => lv a ≤ lv b)
  qd : ∀ i a, F i ≠ none → a ∈ q → lv i ≤ lv a + 1
  dn : ∀ i, F i ≠ none → i ∉ q → ¬ ex i → P.m i.toNat ≠ 0 ∧ ∀ x, x ∈ P.L → x.1 = i → F x.2 ≠ none ∧ lv x.2 ≤ lv i + 1
section
variable {P : Pb} {F : Int → Option Int} {lv : Int → Nat} {q : List Int} {ex : Int → Prop}
theorem mG {F : Int → Option Int} {i : Int} (h : F i ≠ none) : ∃ p, F i = some p := by
  cases e : F i with
  | none => exact absurd e h
  | some p => exact ⟨p, rfl⟩
theorem un0 (P : Pb) (F : Int → Option Int) : 0 ≤ un P F := Sm.nonneg (fun i _ => by (try dsimp only); split <;> omega)
theorem Pb.CY.not {k : Nat} {o : Nat → Bool} (h : P.CY k) (ho : P.Keeps o) (V : P.V) : False := by
  obtain ⟨f, h0, h1, h2, h3⟩ := h;have in_ : ∀ t, t ≤ k → 0 ≤ f t ∧ f t < (P.n : Int) := by
    intro t
    cases t with
    | zero => intro _; exact h0
    | succ t => intro ht; have := V.l _ (h3 t (by omega)); exact ⟨this.2.2.1, this.2.2.2⟩
  have all : ∀ t, t ≤ k → o (f t).toNat = true := by
    intro t
    induction t with
    | zero => intro _; exact (ho.1 _ (by omega)).1 h1
    | succ t ih => intro ht; exact ho.2 _ (h3 t (by omega)) (ih (by omega))
  have := in_ k (Nat.le_refl _);have e := (ho.1 (f k).toNat (by omega)).2 h2;rw [all k (Nat.le_refl _)] at e;exact absurd e (by decide)
theorem Pb.Short.uniq {d d' : Nat} (h : P.Short d) (h' : P.Short d') : d = d' := by
  have a := h.2.2.2 _ h'.2.2.1;have b := h'.2.2.2 _ h.2.2.1;have := h.1;have := h'.1;omega
theorem zM {k v : Int} (h : F k = none) (k0 : 0 ≤ k) (k1 : k < (P.n : Int)) : un P (fun x => if x = k then some v else F x) = un P F - 1 := by
  refine Sm.at (e := k.toNat) (d := -1) (by omega) (fun i hi hne => ?_) ?_
  · simp only [if_neg (show ¬ (i : Int) = k by omega)]
  · simp only [show ((k.toNat : Nat) : Int) = k by omega, if_true, h];simp
theorem WI.add (V : P.V) (h : WI P F lv q ex) {i k : Int} (hi : F i ≠ none) (hk : F k = none) (hL : (i, k) ∈ P.L) (hq : ∀ a, a ∈ q → lv i ≤ lv a) (hd : ∀ a, F a ≠ none → lv a ≤ lv i + 1) : WI P (fun x => if x = k then some i else F x) (fun x => if x = k then lv i + 1 else lv x) (q ++ [k]) ex ∧ (∀ a, (if a = k then some i else F a) ≠ none → (if a = k then lv i + 1 else lv a) ≤ lv i + 1) ∧ (∀ a, a ∈ q ++ [k] → lv i ≤ if a = k then lv i + 1 else lv a) := by
  have hin := V.l _ hL;dsimp only at hin;have nk : ∀ a, F a ≠ none → a ≠ k := fun a ha e => ha (e ▸ hk);have hu := zM (v := i) hk hin.2.2.1 hin.2.2.2;have hik := nk i hi;refine ⟨⟨?_, ?_, ?_, ?_, ?_, ?_⟩, ?_, ?_⟩
  · intro a p ha;(try dsimp only at ha ⊢);rw [hu];by_cases e : a = k
    · rw [if_pos e] at ha
      injection ha with ha
      obtain ⟨p', hp'⟩ := mG hi;obtain ⟨i0, i1, l1, l2, _⟩ := h.key i p' hp';simp only [if_pos e];refine ⟨by omega, by omega, by omega, by omega, .inr ?_⟩;rw [← ha, if_neg hik, if_neg hik];exact ⟨i0, hi, by rw [e]; exact hL, rfl⟩
    · rw [if_neg e] at ha;obtain ⟨i0, i1, l1, l2, l3⟩ := h.key a p ha;simp only [if_neg e];refine ⟨i0, i1, l1, by omega, ?_⟩;rcases l3 with l3 | ⟨a1, a2, a3, a4⟩
      · exact .inl l3
      · have := nk p a2;exact .inr ⟨a1, by rw [if_neg this]; exact a2, a3, by rw [if_neg this]; exact a4⟩
  · intro a a0 a1 hm;obtain ⟨h1, h2⟩ := h.root a a0 a1 hm;(try dsimp only);rw [if_neg (nk a h1), if_neg (nk a h1)];exact ⟨h1, h2⟩
  · intro a ha;(try dsimp only);rcases List.mem_append.mp ha with ha | ha
    · rw [if_neg (nk a (h.qk a ha))]; exact h.qk a ha
    · rw [if_pos (by simpa using ha)]; simp
  · rw [List.pairwise_append];refine ⟨?_, by simp, ?_⟩
    · refine h.qs.imp_of_mem (fun {a b} ha hb hab => ?_);(try dsimp only);rw [if_neg (nk a (h.qk a ha)), if_neg (nk b (h.qk b hb))]; exact hab
    · intro a ha b hb;(try dsimp only);rw [if_neg (nk a (h.qk a ha)), if_pos (by simpa using hb)];exact hd a (h.qk a ha)
  · intro a b ha hb;(try dsimp only at ha ⊢);have hla : (if a = k then lv i + 1 else lv a) ≤ lv i + 1 := by
      by_cases e : a = k
      · rw [if_pos e]; omega
      · rw [if_neg e] at ha ⊢; exact hd a ha
    have hlb : lv i ≤ if b = k then lv i + 1 else lv b := by
      rcases List.mem_append.mp hb with hb | hb
      · rw [if_neg (nk b (h.qk b hb))]; exact hq b hb
      · rw [if_pos (by simpa using hb)]; omega
    omega
  · intro a ha hn hx;(try dsimp only at ha ⊢);have e : a ≠ k := fun e => hn (by simp [e]);rw [if_neg e] at ha ⊢;obtain ⟨h1, h2⟩ := h.dn a ha (fun hh => hn (by simp [hh])) hx;refine ⟨h1, fun x hx' hxa => ?_⟩;obtain ⟨h3, h4⟩ := h2 x hx' hxa;rw [if_neg (nk _ h3), if_neg (nk _ h3)];exact ⟨h3, h4⟩
  · intro a ha;by_cases e : a = k
    · rw [if_pos e]; omega
    · rw [if_neg e] at ha ⊢; exact hd a ha
  · intro b hb;rcases List.mem_append.mp hb with hb | hb
    · rw [if_neg (nk b (h.qk b hb))]; exact hq b hb
    · rw [if_pos (by simpa using hb)]; omega
theorem WI.pop {i : Int} (h : WI P F lv (i :: q) (fun _ => False)) : WI P F lv q (fun a => a = i) ∧ F i ≠ none ∧ (∀ a, a ∈ q → lv i ≤ lv a) ∧ ∀ a, F a ≠ none → lv a ≤ lv i + 1 := by
  have hs := List.pairwise_cons.mp h.qs;refine ⟨⟨h.key, h.root, fun a ha => h.qk a (by simp [ha]), hs.2, fun a b ha hb => h.qd a b ha (by simp [hb]), fun a ha hn hx => h.dn a ha (fun hh => ?_) (fun hh => hh)⟩, h.qk i (by simp), hs.1, fun a ha => h.qd a i ha (by simp)⟩;rcases List.mem_cons.mp hh with e | hh
  · exact hx e
  · exact hn hh
theorem WI.shut {i : Int} (h : WI P F lv q (fun a => a = i)) (hm : P.m i.toNat ≠ 0) (hL : ∀ x, x ∈ P.L → x.1 = i → F x.2 ≠ none ∧ lv x.2 ≤ lv i + 1) : WI P F lv q (fun _ => False) :=
  ⟨h.key, h.root, h.qk, h.qs, h.qd, fun a ha hn _ => by
    by_cases e : a = i
    · rw [e]; exact ⟨hm, fun x hx hxa => hL x hx hxa⟩
    · exact h.dn a ha hn e⟩
theorem WI.way (h : WI P F lv q ex) : ∀ (z : Nat) (i : Int), F i ≠ none → lv i = z + 1 → ∃ f : Nat → Int, (0 ≤ f 0 ∧ f 0 < (P.n : Int)) ∧ P.m (f 0).toNat = 1 ∧ f z = i ∧ ∀ t, t < z → (f t, f (t + 1)) ∈ P.L := by
  intro z
  induction z with
  | zero =>
    intro i hi hl;obtain ⟨p, hp⟩ := mG hi;obtain ⟨i0, i1, _, _, l | ⟨_, a2, _, a4⟩⟩ := h.key i p hp
    · exact ⟨fun _ => i, ⟨i0, i1⟩, l.2.2, rfl, fun t ht => absurd ht (by omega)⟩
    · obtain ⟨p', hp'⟩ := mG a2;have := (h.key p p' hp').2.2.1;omega
  | succ z ih =>
    intro i hi hl;obtain ⟨p, hp⟩ := mG hi;obtain ⟨i0, i1, _, _, l | ⟨_, a2, a3, a4⟩⟩ := h.key i p hp
    · omega
    · obtain ⟨f, f1, f2, f3, f4⟩ := ih p a2 (by omega);refine ⟨fun t => if t = z + 1 then i else f t, by simpa using f1, by simpa using f2, by simp, fun t ht => ?_⟩;dsimp only;rw [if_neg (show ¬ t = z + 1 by omega)];by_cases e : t = z
      · rw [if_pos (by omega), e, f3]; exact a3
      · rw [if_neg (by omega)]; exact f4 t (by omega)
theorem WI.found {i : Int} (h : WI P F lv (i :: q) (fun _ => False)) (hm : P.m i.toNat = 0) : P.Short (lv i) := by
  have hi := h.qk i (by simp);obtain ⟨p, hp⟩ := mG hi;obtain ⟨i0, i1, l1, l2, _⟩ := h.key i p hp;obtain ⟨f, f1, f2, f3, f4⟩ := h.way (lv i - 1) i hi (by omega);have hs := List.pairwise_cons.mp h.qs;refine ⟨l1, by have := un0 P F; omega, ⟨f, f1, f2, by rw [f3]; exact hm, f4⟩, fun k hk => ?_⟩;by_cases hlt : lv i ≤ k + 1
  · exact hlt
  exfalso;obtain ⟨g, g1, g2, g3, g4⟩ := hk;have notin : ∀ a, lv a < lv i → a ∉ i :: q := fun a ha hh => by
    rcases List.mem_cons.mp hh with e | hh
    · rw [e] at ha; omega
    · have := hs.1 a hh; omega
  have all : ∀ t, t ≤ k → F (g t) ≠ none ∧ lv (g t) ≤ t + 1 := by
    intro t
    induction t with
    | zero => intro _; obtain ⟨a, b⟩ := h.root (g 0) g1.1 g1.2 g2; exact ⟨a, by omega⟩
    | succ t ih =>
      intro ht;obtain ⟨a, b⟩ := ih (by omega);obtain ⟨c, d⟩ := (h.dn (g t) a (notin _ (by omega)) (fun hh => hh)).2 _ (g4 t (by omega)) rfl;exact ⟨c, by dsimp only at d; omega⟩
  obtain ⟨a, b⟩ := all k (Nat.le_refl _);exact (h.dn (g k) a (notin _ (by omega)) (fun hh => hh)).1 g3
theorem WI.keeps (V : P.V) (h : WI P F lv [] (fun _ => False)) : P.Keeps (fun i => decide (F (i : Int) ≠ none)) := by
  refine ⟨fun i hi => ⟨fun hm => ?_, fun hm => ?_⟩, fun x hx ho => ?_⟩
  · exact decide_eq_true (h.root i (by omega) (by omega) (by simpa using hm)).1
  · refine decide_eq_false (fun hf => ?_);exact (h.dn i hf (by simp) (fun hh => hh)).1 (by simpa using hm)
  · have hin := V.l x hx;have ho := of_decide_eq_true ho;rw [show ((x.1.toNat : Nat) : Int) = x.1 by omega] at ho;have := ((h.dn x.1 ho (by simp) (fun hh => hh)).2 x hx rfl).1;refine decide_eq_true ?_;rw [show ((x.2.toNat : Nat) : Int) = x.2 by omega];exact this
structure Wit (P : Pb) (w : List Int) : Prop where
  l : 1 ≤ w.length
  b : ∀ t : Int, 0 ≤ t → t < (w.length : Int) → 0 ≤ rd w t ∧ rd w t < (P.n : Int)
  f : P.m (rd w 0).toNat = 1
  e : P.m (rd w ((w.length : Int) - 1)).toNat = 0
  s : ∀ t : Int, 0 ≤ t → t + 1 < (w.length : Int) → (rd w t, rd w (t + 1)) ∈ P.L
end
end Go.Proofs.Ytdkbmchbkkhpoaa.Flow
