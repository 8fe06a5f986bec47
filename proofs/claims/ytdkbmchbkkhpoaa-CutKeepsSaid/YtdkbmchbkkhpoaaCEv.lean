import Derived.Test.YtdkbmchbkkhpoaaCWords
set_option linter.unusedVariables false
set_option linter.unusedSimpArgs false
namespace Go.Proofs.YtdkbmchbkkhpoaaW.PrintWords
open Go.RowKit Go.Proofs.YtdkbmchbkkhpoaaW.PrintLast Go.Proofs.YtdkbmchbkkhpoaaW.PrintMore
theorem lZ (C : Nat → Nat) {n j k : Nat} (h : k < n) : ext C n j k = C k := by simp [ext, h]
theorem nP (C : Nat → Nat) {n j k : Nat} (h : n ≤ k) : ext C n j k = j := by simp [ext]; omega
theorem Step.yI (c : Nat → Nat) {w w' : World} (hg : w.grownBy w' none) (j : Nat) (S : List Nat) : Step c w (ext c w.heap.size j) w' S :=
  ⟨hg.os, hg.tape, hg.output, hg.size, fun k hk => lZ c hk, fun k hk _ => hg.block k hk (by simp)⟩
theorem Own.ext {α : Type} {d : Kd α} {e : Nat} {C : Nat → Nat} {i : Nat} {W : World} {v : Value} {xs : List α} (h : Own C i W d e v xs) (j : Nat) : Own (ext C W.heap.size j) i W d e v xs := h.move (fun k hk => lZ C hk) (fun _ _ _ => rfl)
theorem Ft.ext {C : Nat → Nat} {Z : List Nat} {W : World} {P : World → Prop} (h : Ft C Z W P) (j : Nat) : Ft (ext C W.heap.size j) Z W P := nI.mono (nI.bound h) (fun k hk => by
  show PrintWords.ext C W.heap.size j k ∈ Z
  rw [lZ C hk.2]; exact hk.1)
theorem pW {α : Type} {d : Kd α} {e : Nat} {C : Nat → Nat} {i : Nat} {W w1 : World} {v v1 : Value} {xs ys : List α} (HO : Own C i W d e v xs)
    (hN : Kd.N d e w1 0 (fun k => ext C W.heap.size i k = i ∨ ext C W.heap.size i k = 0) v1 ys) (hat : v1.ownBlock = v.ownBlock ∨ ∃ b, v1.ownBlock = some b ∧ W.heap.size ≤ b) : Own (ext C W.heap.size i) i w1 d e v1 ys := by
  refine ⟨fun k hk => ?_, hN⟩
  rcases hat with hat | ⟨b, hb, hle⟩
  · exact (HO.ext i).1 k (hat ▸ hk)
  · rw [hb] at hk
    injection hk with hk
    exact nP C (by omega)
theorem wH {α : Type} {d : Kd α} {e : Nat} {C : Nat → Nat} {i : Nat} {W w1 : World} {v1 : Value} {ys : List α}
    (hN : Kd.N d e w1 0 (fun k => ext C W.heap.size i k = i ∨ ext C W.heap.size i k = 0) v1 ys) (hat : ∃ b, v1.ownBlock = some b ∧ W.heap.size ≤ b) : Own (ext C W.heap.size i) i w1 d e v1 ys := by
  refine ⟨fun k hk => ?_, hN⟩
  obtain ⟨b, hb, hle⟩ := hat
  rw [hb] at hk
  injection hk with hk
  exact nP C (by omega)
theorem xE {α : Type} {d : Kd α} {C : Nat → Nat} {W : World} {x : α} {c : List Value} (h : Kd.FK d W (fun k => C k = 0) x c) (j : Nat) : Kd.FK d W (fun k => ext C W.heap.size j k = 0) x c :=
  Kd.qC (Kd.qU h) (fun k hk => by rw [lZ C hk.2]; exact hk.1)
theorem kD {α : Type} {R : α → List Value → Prop} {sz : Nat} {p : α} {ps : List α} {c cs : List Value} (hp : R p c) (hc : c.length = sz) (h : nO R sz ps cs) : nO R sz (p :: ps) (c ++ cs) := by
  refine ⟨by rw [List.length_append, h.1, hc, List.length_cons, Nat.add_mul, Nat.one_mul, Nat.add_comm], fun j q hq => ?_⟩
  cases j with
  | zero =>
    simp only [List.getElem?_cons_zero, Option.some.injEq] at hq
    rw [← hq, Nat.zero_mul, List.drop_zero, ← hc, List.take_left]
    exact hp
  | succ j =>
    simp only [List.getElem?_cons_succ] at hq
    rw [Nat.add_mul, Nat.one_mul, Nat.add_comm, ← List.drop_drop, ← hc, List.drop_left, hc]
    exact h.2 j q hq
theorem nR (g n : Nat) : (⟨g, 0, none⟩ : Addr).add n = ⟨g, n, none⟩ := by
  unfold Addr.add
  split
  · rename_i h; rw [h]
  · simp
theorem pX (g o n : Nat) : (⟨g, o, none⟩ : Addr).add n = ⟨g, o + n, none⟩ := by
  unfold Addr.add
  split
  · rename_i h; rw [h]; rfl
  · rfl
theorem lM (k : IntKind) (W : World) (ok : Nat → Prop) (x : Int) : Kd.FK (Kd.int k) W ok x [.int k x] := fun _ _ => rfl
theorem pJ (W : World) (ok : Nat → Prop) (x : Bool) : Kd.FK Kd.bool W ok x [.bool x] := fun _ _ => rfl
namespace Own
section
variable {P : Program} {ops : Array Oper} {rest : List Oper} {o : Oper} {a : Act} {Q : Exit → Act → World → Prop} {Kc : Act → World → Prop} {α : Type}
theorem append (d : Kd α) {C : Nat → Nat} {i : Nat} {W : World} (hgd : o.guard = none) (s x : Operand) (t e : TypeId) (z : Value) (bytes : Nat) (ho : o.op = .call { callee := .builtin .append, args := #[s, x], argTypes := #[t, t] }) (ht : P.underlying t = some (.slice e)) (hinfo : (P.info? e).map (fun i => (i.zero, i.size, i.bytes)) = some (some z, d.sz, bytes)) (hz : z.cells.size = d.sz) (hs0 : 0 < d.sz) (hb0 : 0 < bytes) (v : Value) (xs : List α) (p : α) (cs : List Value) (hs : a.eval s = v) (hx : a.eval x = .slice (some ⟨W.heap.size, 0, none⟩) 1 1) (hp : Kd.FK d W (fun k => C k = 0) p cs) (HO : Own C i W d e v xs) (hi : i ≠ 0) (hl : (xs.length + 1) * bytes ≤ 140737488355328) {y : List α} (hy : xs ++ [p] = y)
    (h : ∀ A c w1 C1, Own C1 i w1 d e (.slice A y.length c) y → y.length ≤ c → Step C W C1 w1 [i] → WL P ops Q rest (a.put o.dst (.slice A y.length c)) w1) :
    WL P ops Q (o :: rest) a (W.alloc (.cells cs.toArray e)) := by
  subst hy
  refine ⟨?_⟩
  refine Kd.Ak d (w0 := W) 0 hgd s x t e z bytes ho ht hinfo hz hs0 hb0 v xs p cs (fun k => PrintWords.ext C W.heap.size i k = i ∨ PrintWords.ext C W.heap.size i k = 0) (fun k => PrintWords.ext C W.heap.size i k = 0) hs hx (xE hp i) (fun k hk => ⟨.inr hk, fun e => by have := (HO.ext i).1 k e.symm; omega⟩) (fun k hk => .inl (nP C hk)) (HO.ext i).2 (Below.refl _ _) (Nat.zero_le _) hl ?_
  intro v1 w1 hN _ hg hat
  obtain ⟨A, cc, rfl⟩ := Kd.pK hN
  have HO' := pW HO hN hat
  exact (h A cc w1 _ HO' HO'.at_.2.1 (Step.grown C hg (fun k hk => HO.1 k hk) i)).out
theorem rF (d : Kd α) {C : Nat → Nat} {i : Nat} {W : World} (hw : Region.wanted o (yielded ops a.tmps) = true) (s x : Operand) (t e : TypeId) (z : Value) (bytes : Nat) (ho : o.op = .call { callee := .builtin .append, args := #[s, x], argTypes := #[t, t] }) (ht : P.underlying t = some (.slice e)) (hinfo : (P.info? e).map (fun i => (i.zero, i.size, i.bytes)) = some (some z, d.sz, bytes)) (hz : z.cells.size = d.sz) (hs0 : 0 < d.sz) (hb0 : 0 < bytes) (v : Value) (xs : List α) (p : α) (cs : List Value) (hs : a.eval s = v) (hx : a.eval x = .slice (some ⟨W.heap.size, 0, none⟩) 1 1) (hp : Kd.FK d W (fun k => C k = 0) p cs) (HO : Own C i W d e v xs) (hi : i ≠ 0) (hl : (xs.length + 1) * bytes ≤ 140737488355328) {y : List α} (hy : xs ++ [p] = y)
    (h : ∀ A c w1 C1, Own C1 i w1 d e (.slice A y.length c) y → y.length ≤ c → Step C W C1 w1 [i] → Kc (a.put o.dst (.slice A y.length c)) w1) :
    if Region.wanted o (yielded ops a.tmps) = true then Oper.wp P o a (W.alloc (.cells cs.toArray e)) Kc Q else Kc (a.put o.dst undef) (W.alloc (.cells cs.toArray e)) := by
  subst hy
  refine Kd.uD d (w0 := W) 0 hw s x t e z bytes ho ht hinfo hz hs0 hb0 v xs p cs (fun k => PrintWords.ext C W.heap.size i k = i ∨ PrintWords.ext C W.heap.size i k = 0) (fun k => PrintWords.ext C W.heap.size i k = 0) hs hx (xE hp i) (fun k hk => ⟨.inr hk, fun e => by have := (HO.ext i).1 k e.symm; omega⟩) (fun k hk => .inl (nP C hk)) (HO.ext i).2 (Below.refl _ _) (Nat.zero_le _) hl ?_
  intro v1 w1 hN _ hg hat
  obtain ⟨A, cc, rfl⟩ := Kd.pK hN
  have HO' := pW HO hN hat
  exact h A cc w1 _ HO' HO'.at_.2.1 (Step.grown C hg (fun k hk => HO.1 k hk) i)
theorem mV (d : Kd α) {C : Nat → Nat} {i : Nat} {W : World} (hgd : o.guard = none) (s x : Operand) (t e : TypeId) (z : Value) (bytes : Nat) (ho : o.op = .call { callee := .builtin .append, args := #[s, x], argTypes := #[t, t] }) (ht : P.underlying t = some (.slice e)) (hinfo : (P.info? e).map (fun i => (i.zero, i.size, i.bytes)) = some (some z, d.sz, bytes)) (hz : z.cells.size = d.sz) (hs0 : 0 < d.sz) (hb0 : 0 < bytes) (v : Value) (xs ys : List α) (A : Option Addr) (m c : Nat) (hs : a.eval s = v) (hx : a.eval x = .slice A m c) (HO : Own C i W d e v xs) (HR : Ft C [0] W (fun W => d.C W A m ys)) (hi : i ≠ 0) (hl : (xs.length + m) * bytes ≤ 140737488355328) {y : List α} (hy : xs ++ ys = y)
    (h : ∀ A c w1 C1, Own C1 i w1 d e (.slice A y.length c) y → y.length ≤ c → Step C W C1 w1 [i] → WL P ops Q rest (a.put o.dst (.slice A y.length c)) w1) :
    WL P ops Q (o :: rest) a (W) := by
  subst hy
  refine ⟨?_⟩
  refine Kd.uF d (w0 := W) 0 hgd s x t e z bytes ho ht hinfo hz hs0 hb0 v xs ys A m c (fun k => PrintWords.ext C W.heap.size i k = i ∨ PrintWords.ext C W.heap.size i k = 0) (fun k => PrintWords.ext C W.heap.size i k = 0) hs hx (HO.ext i).2 (Kd.D5 (d := d) (HR.ext i) (fun k hk => by simpa using hk)) (fun k hk => ⟨.inr hk, fun e => by have := (HO.ext i).1 k e.symm; omega⟩) (fun k hk => .inl (nP C hk)) (Below.refl _ _) (Nat.zero_le _) hl ?_
  intro v1 w1 hN _ hg hat
  obtain ⟨A, cc, rfl⟩ := Kd.pK hN
  have HO' := pW HO hN hat
  exact (h A cc w1 _ HO' HO'.at_.2.1 (Step.grown C hg (fun k hk => HO.1 k hk) i)).out
theorem lit (d : Kd α) {C : Nat → Nat} {i : Nat} {W : World} (hgd : o.guard = none) (e : Nat) {N' : Tmp} (hd : o.dst = some N') {xs : List α} {inner : List Value} (hrun : (execOp a.eval o).run P W = .ok (.value (.slice (some ⟨W.heap.size, 0, none⟩) xs.length xs.length)) (W.alloc (.cells inner.toArray e))) (hrep : nO (Kd.FK d W (fun k => C k = 0)) d.sz xs inner) (hm : xs.length ≤ 9223372036854775807) {y : List α} (hy : xs = y)
    (h : ∀ A c w1 C1, Own C1 i w1 d e (.slice A y.length c) y → y.length ≤ c → Step C W C1 w1 [] → WL P ops Q rest (a.put o.dst (.slice A y.length c)) w1) :
    WL P ops Q (o :: rest) a (W) := by
  subst hy
  refine ⟨?_⟩
  refine Kd.Fg d (w0 := W) 0 e hgd hd (ok := (fun k => PrintWords.ext C W.heap.size i k = i ∨ PrintWords.ext C W.heap.size i k = 0)) (okp := fun k => PrintWords.ext C W.heap.size i k = 0) hrun (hrep.vH (fun x c hx => xE hx i)) (fun k hk => .inr hk) (.inl (nP C (Nat.le_refl _))) (Below.refl _ _) (Nat.zero_le _) hm ?_
  intro v1 w1 hN _ hg hat
  obtain ⟨A, cc, rfl⟩ := Kd.pK hN
  have HO' := wH hN hat
  exact (h A cc w1 _ HO' HO'.at_.2.1 (Step.yI C hg i [])).out
theorem make (d : Kd α) {C : Nat → Nat} {i : Nat} {W : World} (hgd : o.guard = none) (e : Nat) {N' : Tmp} (hd : o.dst = some N') (t : TypeId) (x y0 : Operand) (ho : o.op = .makeSlice t x y0) (n : Int) (hx : a.eval x = .int .i64 n) (hy0 : a.eval y0 = .int .i64 n) (ht : P.underlying t = some (.slice e)) (z : Value) (bytes : Nat) (hinfo : (P.info? e).map (fun i => (i.zero, i.size, i.bytes)) = some (some z, d.sz, bytes)) (hz : z.cells.size = d.sz) (hs0 : 0 < d.sz) (hb0 : 0 < bytes) (z0 : α) (hzero : Kd.FK d W (fun _ => False) z0 z.cells.toList) (h0 : 0 ≤ n) (hl : n.toNat * bytes ≤ 281474976710656) {y : List α} (hy : List.replicate n.toNat z0 = y)
    (h : ∀ A c w1 C1, Own C1 i w1 d e (.slice A y.length c) y → y.length ≤ c → Step C W C1 w1 [] → WL P ops Q rest (a.put o.dst (.slice A y.length c)) w1) :
    WL P ops Q (o :: rest) a (W) := by
  subst hy
  refine ⟨?_⟩
  refine Kd.Ea d (w0 := W) 0 e hgd hd t x y0 ho n hx hy0 ht z bytes hinfo hz hs0 hb0 z0 (ok := (fun k => PrintWords.ext C W.heap.size i k = i ∨ PrintWords.ext C W.heap.size i k = 0)) (okp := fun _ => False) hzero (fun _ hk => hk.elim) (.inl (nP C (Nat.le_refl _))) h0 hl (Below.refl _ _) (Nat.zero_le _) ?_
  intro v1 w1 hN _ hg hat
  obtain ⟨A, cc, rfl⟩ := Kd.pK hN
  have HO' := wH hN hat
  exact (h A cc w1 _ HO' HO'.at_.2.1 (Step.yI C hg i [])).out
theorem yJ (d : Kd α) {C : Nat → Nat} {i : Nat} {W : World} (hw : Region.wanted o (yielded ops a.tmps) = true) (e : Nat) {N' : Tmp} (hd : o.dst = some N') (t : TypeId) (x y0 : Operand) (ho : o.op = .makeSlice t x y0) (n : Int) (hx : a.eval x = .int .i64 n) (hy0 : a.eval y0 = .int .i64 n) (ht : P.underlying t = some (.slice e)) (z : Value) (bytes : Nat) (hinfo : (P.info? e).map (fun i => (i.zero, i.size, i.bytes)) = some (some z, d.sz, bytes)) (hz : z.cells.size = d.sz) (hs0 : 0 < d.sz) (hb0 : 0 < bytes) (z0 : α) (hzero : Kd.FK d W (fun _ => False) z0 z.cells.toList) (h0 : 0 ≤ n) (hl : n.toNat * bytes ≤ 281474976710656) {y : List α} (hy : List.replicate n.toNat z0 = y)
    (h : ∀ A c w1 C1, Own C1 i w1 d e (.slice A y.length c) y → y.length ≤ c → Step C W C1 w1 [] → Kc (a.put o.dst (.slice A y.length c)) w1) :
    if Region.wanted o (yielded ops a.tmps) = true then Oper.wp P o a (W) Kc Q else Kc (a.put o.dst undef) (W) := by
  subst hy
  refine Kd.wM d (w0 := W) 0 e hw hd t x y0 ho n hx hy0 ht z bytes hinfo hz hs0 hb0 z0 (ok := (fun k => PrintWords.ext C W.heap.size i k = i ∨ PrintWords.ext C W.heap.size i k = 0)) (okp := fun _ => False) hzero (fun _ hk => hk.elim) (.inl (nP C (Nat.le_refl _))) h0 hl (Below.refl _ _) (Nat.zero_le _) ?_
  intro v1 w1 hN _ hg hat
  obtain ⟨A, cc, rfl⟩ := Kd.pK hN
  have HO' := wH hN hat
  exact h A cc w1 _ HO' HO'.at_.2.1 (Step.yI C hg i [])
theorem store (d : Kd α) {C : Nat → Nat} {i : Nat} {W : World} (hN : o.dst = none) (hgd : o.guard = none) (t : TypeId) (p x : Operand) (ho : o.op = .store t p x) (e : TypeId) {g n cap o' : Nat} (q : Int) (j : Nat) (xs : List α) (x' : α) (u : Value) (seg c : List Value)
    (haddr : a.eval p = .pointer (some ⟨g, o', none⟩)) (hoff : o' = q.toNat * d.sz + j) (hx : a.eval x = u) (hu : u.cells.toList = seg) (ht : (P.info? t).map (·.size) = some seg.length) (h1 : ∀ q ∈ seg, q.oneCell' = true)
    (HO : Own C i W d e (.slice (some ⟨g, 0, none⟩) n cap) xs) (hi : i ≠ 0) (h0 : 0 ≤ q) (hq : q < n) (hcl : c.length = d.sz) (hcc : ∀ j u, c[j]? = some u → W.cell? ⟨g, q.toNat * d.sz + j, none⟩ = some u)
    (hj : j + seg.length ≤ d.sz) (hM : Kd.FK d W (fun k => C k = 0) x' (c.take j ++ seg ++ c.drop (j + seg.length))) {y : List α} (hy : xs.set q.toNat x' = y)
    (h : ∀ w1 C1, Own C1 i w1 d e (.slice (some ⟨g, 0, none⟩) n cap) y → Step C W C1 w1 [i] → WL P ops Q rest a w1) : WL P ops Q (o :: rest) a W := by
  subst hy
  refine ⟨?_⟩
  refine Kd.Cj d (w0 := W) 0 hN hgd t p x ho e q j xs x' u seg c (fun k => PrintWords.ext C W.heap.size i k = i ∨ PrintWords.ext C W.heap.size i k = 0) (fun k => PrintWords.ext C W.heap.size i k = 0) haddr hoff hx hu ht h1 (HO.ext i).2 h0 hq hcl hcc hj (xE hM i) (fun k hk => ⟨.inr hk, fun e => by
    have := (HO.ext i).1 g (by simp [Value.ownBlock])
    rw [e] at hk; omega⟩) (Below.refl _ _) ?_
  intro w1 hN' _ hg
  have HO' := pW HO hN' (.inl rfl)
  exact (h w1 _ HO' (Step.grown C hg (fun k hk => HO.1 k (by rw [← hk]; simp [Value.ownBlock])) i)).out
theorem form {d : Kd α} {e : Nat} {C : Nat → Nat} {i : Nat} {W : World} {A : Option Addr} {n c : Nat} {xs : List α} (h : Own C i W d e (.slice A n c) xs) (hp : 0 < n) : ∃ g, A = some ⟨g, 0, none⟩ := by
  have e1 := h.at_.1
  obtain ⟨g, cap, e2, _⟩ := Kd.Ef h.2 (by omega)
  injection e2 with e2
  exact ⟨g, e2⟩
theorem get {d : Kd α} {e : Nat} {C : Nat → Nat} {i : Nat} {W : World} {ad : Addr} {n c : Nat} {xs : List α} (h : Own C i W d e (.slice (some ad) n c) xs) (z : α) (q : Int) (h0 : 0 ≤ q) (h1 : q < n) :
    ∃ cs, cs.length = d.sz ∧ d.K W (xs.getD q.toNat z) cs ∧ ∀ j u, cs[j]? = some u → W.cell? (ad.add (q.toNat * d.sz + j)) = some u := by
  obtain ⟨ad', cs, e2, hl, hK, hc⟩ := Kd.kU (Kd.Cc (Kd.N_F h.2)) z q h0 h1
  injection e2 with e2
  subst e2
  exact ⟨cs, hl, hK, hc⟩
theorem store1 (d : Kd α) {C : Nat → Nat} {i : Nat} {W : World} (hN : o.dst = none) (hgd : o.guard = none) (t : TypeId) (p x : Operand) (ho : o.op = .store t p x) (e : TypeId) {g n cap : Nat} (sz : Nat) (q : Int) (xs : List α) (x' : α) (u : Value) (seg : List Value) {A : Option Addr} (hA : A = some ⟨g, 0, none⟩) (hsz : d.sz = sz)
    (haddr : a.eval p = .pointer (some ((⟨g, 0, none⟩ : Addr).add (q.toNat * sz)))) (hx : a.eval x = u) (hu : u.cells.toList = seg) (ht : (P.info? t).map (·.size) = some seg.length) (h1 : ∀ q ∈ seg, q.oneCell' = true) (hl : seg.length = sz)
    (HO : Own C i W d e (.slice A n cap) xs) (hi : i ≠ 0) (h0 : 0 ≤ q) (hq : q < n) (hM : Kd.FK d W (fun k => C k = 0) x' seg) {y : List α} (hy : xs.set q.toNat x' = y)
    (h : ∀ w1 C1, Own C1 i w1 d e (.slice A y.length cap) y → y.length ≤ cap → Step C W C1 w1 [i] → WL P ops Q rest a w1) : WL P ops Q (o :: rest) a W := by
  subst hA hsz
  obtain ⟨c, hcl, _, hcc⟩ := HO.get x' q h0 hq
  refine store (o' := q.toNat * d.sz) d hN hgd t p x ho e q 0 xs x' u seg c (by rw [haddr, nR]) rfl hx hu ht h1 HO hi h0 hq hcl (fun j v hj => by have := hcc j v hj; rwa [nR] at this) (by omega) (by rw [show c.take 0 ++ seg ++ c.drop (0 + seg.length) = seg by rw [List.drop_of_length_le (by omega)]; simp]; exact hM) hy ?_
  intro w1 C1 HO1 hs
  obtain rfl : n = y.length := HO1.at_.1
  exact h w1 C1 HO1 HO1.at_.2.1 hs
theorem yK (d : Kd α) {C : Nat → Nat} {i : Nat} {W : World} (hN : o.dst = none) (hgd : o.guard = none) (t : TypeId) (p x : Operand) (ho : o.op = .store t p x) (e : TypeId) {g n cap : Nat} (sz : Nat) (q : Int) (j : Nat) (xs : List α) (x' : α) (u : Value) (seg c : List Value) (z : α) {A : Option Addr} (hA : A = some ⟨g, 0, none⟩) (hsz : d.sz = sz)
    (haddr : a.eval p = .pointer (some (((⟨g, 0, none⟩ : Addr).add (q.toNat * sz)).add j))) (hx : a.eval x = u) (hu : u.cells.toList = seg) (ht : (P.info? t).map (·.size) = some seg.length) (h1 : ∀ q ∈ seg, q.oneCell' = true) (hopen : ∀ cs, d.K W (xs.getD q.toNat z) cs → cs = c) (hj : j + seg.length ≤ sz)
    (HO : Own C i W d e (.slice A n cap) xs) (hi : i ≠ 0) (h0 : 0 ≤ q) (hq : q < n) (hM : Kd.FK d W (fun k => C k = 0) x' (c.take j ++ seg ++ c.drop (j + seg.length))) {y : List α} (hy : xs.set q.toNat x' = y)
    (h : ∀ w1 C1, Own C1 i w1 d e (.slice A y.length cap) y → y.length ≤ cap → Step C W C1 w1 [i] → WL P ops Q rest a w1) : WL P ops Q (o :: rest) a W := by
  subst hA hsz
  obtain ⟨c', hcl, hK, hcc⟩ := HO.get z q h0 hq
  obtain rfl := hopen c' hK
  refine store (o' := q.toNat * d.sz + j) d hN hgd t p x ho e q j xs x' u seg c' (by rw [haddr, nR, pX]) rfl hx hu ht h1 HO hi h0 hq hcl (fun j v hj => by have := hcc j v hj; rwa [nR] at this) hj hM hy ?_
  intro w1 C1 HO1 hs
  obtain rfl : n = y.length := HO1.at_.1
  exact h w1 C1 HO1 HO1.at_.2.1 hs
end
end Own
section
variable {P : Program} {ops : Array Oper} {rest : List Oper} {o : Oper} {a : Act} {Q : Exit → Act → World → Prop} {Kc : Act → World → Prop}
end
end Go.Proofs.YtdkbmchbkkhpoaaW.PrintWords
