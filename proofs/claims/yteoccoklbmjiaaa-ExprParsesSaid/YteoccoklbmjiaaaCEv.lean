import Derived.Test.YteoccoklbmjiaaaCWords
set_option linter.unusedVariables false
set_option linter.unusedSimpArgs false
namespace Go.Proofs.YteoccoklbmjiaaaW.PrintWords
open Go.RowKit Go.Proofs.YteoccoklbmjiaaaW.PrintLast Go.Proofs.YteoccoklbmjiaaaW.PrintMore
theorem Di (C : Nat → Nat) {n j k : Nat} (h : k < n) : ext C n j k = C k := by simp [ext, h]
theorem yO (C : Nat → Nat) {n j k : Nat} (h : n ≤ k) : ext C n j k = j := by simp [ext]; omega
theorem Step.Dj (c : Nat → Nat) {w w' : World} (hg : w.grownBy w' none) (j : Nat) (S : List Nat) : Step c w (ext c w.heap.size j) w' S :=
  ⟨hg.os, hg.tape, hg.output, hg.size, fun k hk => Di c hk, fun k hk _ => hg.block k hk (by simp)⟩
theorem Own.ext {α : Type} {d : Kd α} {e : Nat} {C : Nat → Nat} {i : Nat} {W : World} {v : Value} {xs : List α} (h : Own C i W d e v xs) (j : Nat) : Own (ext C W.heap.size j) i W d e v xs := h.move (fun k hk => Di C hk) (fun _ _ _ => rfl)
theorem Ft.ext {C : Nat → Nat} {Z : List Nat} {W : World} {P : World → Prop} (h : Ft C Z W P) (j : Nat) : Ft (ext C W.heap.size j) Z W P := xY.mono (xY.bound h) (fun k hk => by
  show PrintWords.ext C W.heap.size j k ∈ Z
  rw [Di C hk.2]; exact hk.1)
theorem zC {α : Type} {d : Kd α} {e : Nat} {C : Nat → Nat} {i : Nat} {W w1 : World} {v v1 : Value} {xs ys : List α} (HO : Own C i W d e v xs)
    (hN : Kd.N d e w1 0 (fun k => ext C W.heap.size i k = i ∨ ext C W.heap.size i k = 0) v1 ys) (hat : v1.ownBlock = v.ownBlock ∨ ∃ b, v1.ownBlock = some b ∧ W.heap.size ≤ b) : Own (ext C W.heap.size i) i w1 d e v1 ys := by
  refine ⟨fun k hk => ?_, hN⟩
  rcases hat with hat | ⟨b, hb, hle⟩
  · exact (HO.ext i).1 k (hat ▸ hk)
  · rw [hb] at hk
    injection hk with hk
    exact yO C (by omega)
theorem Eh {α : Type} {d : Kd α} {e : Nat} {C : Nat → Nat} {i : Nat} {W w1 : World} {v1 : Value} {ys : List α}
    (hN : Kd.N d e w1 0 (fun k => ext C W.heap.size i k = i ∨ ext C W.heap.size i k = 0) v1 ys) (hat : ∃ b, v1.ownBlock = some b ∧ W.heap.size ≤ b) : Own (ext C W.heap.size i) i w1 d e v1 ys := by
  refine ⟨fun k hk => ?_, hN⟩
  obtain ⟨b, hb, hle⟩ := hat
  rw [hb] at hk
  injection hk with hk
  exact yO C (by omega)
theorem Dk {α : Type} {d : Kd α} {C : Nat → Nat} {W : World} {x : α} {c : List Value} (h : Kd.FK d W (fun k => C k = 0) x c) (j : Nat) : Kd.FK d W (fun k => ext C W.heap.size j k = 0) x c :=
  Kd.y8 (Kd.zu h) (fun k hk => by rw [Di C hk.2]; exact hk.1)
theorem qF {α : Type} {R : α → List Value → Prop} {sz : Nat} {p : α} {ps : List α} {c cs : List Value} (hp : R p c) (hc : c.length = sz) (h : wE R sz ps cs) : wE R sz (p :: ps) (c ++ cs) := by
  refine ⟨by rw [List.length_append, h.1, hc, List.length_cons, Nat.add_mul, Nat.one_mul, Nat.add_comm], fun j q hq => ?_⟩
  cases j with
  | zero =>
    simp only [List.getElem?_cons_zero, Option.some.injEq] at hq
    rw [← hq, Nat.zero_mul, List.drop_zero, ← hc, List.take_left]
    exact hp
  | succ j =>
    simp only [List.getElem?_cons_succ] at hq
    rw [Nat.add_mul, Nat.one_mul, Nat.add_comm, ← List.drop_drop, ← hc, List.drop_left, hc]
    exact h.2 j q hq
theorem Bf (g o n : Nat) : (⟨g, o, none⟩ : Addr).add n = ⟨g, o + n, none⟩ := by
  unfold Addr.add
  split
  · rename_i h; rw [h]; rfl
  · rfl
theorem Ei (k : IntKind) (W : World) (ok : Nat → Prop) (x : Int) : Kd.FK (Kd.int k) W ok x [.int k x] := fun _ _ => rfl
theorem uH (W : World) (ok : Nat → Prop) (x : ByteArray) : Kd.FK Kd.string W ok x [.string x] := fun _ _ => rfl
namespace Own
section
variable {P : Program} {ops : Array Oper} {rest : List Oper} {o : Oper} {a : Act} {Q : Exit → Act → World → Prop} {Kc : Act → World → Prop} {α : Type}
theorem append (d : Kd α) {C : Nat → Nat} {i : Nat} {W : World} (hgd : o.guard = none) (s x : Operand) (t e : TypeId) (z : Value) (bytes : Nat) (ho : o.op = .call { callee := .builtin .append, args := #[s, x], argTypes := #[t, t] }) (ht : P.underlying t = some (.slice e)) (hinfo : (P.info? e).map (fun i => (i.zero, i.size, i.bytes)) = some (some z, d.sz, bytes)) (hz : z.cells.size = d.sz) (hs0 : 0 < d.sz) (hb0 : 0 < bytes) (v : Value) (xs : List α) (p : α) (cs : List Value) (hs : a.eval s = v) (hx : a.eval x = .slice (some ⟨W.heap.size, 0, none⟩) 1 1) (hp : Kd.FK d W (fun k => C k = 0) p cs) (HO : Own C i W d e v xs) (hi : i ≠ 0) (hl : (xs.length + 1) * bytes ≤ 140737488355328) {y : List α} (hy : xs ++ [p] = y)
    (h : ∀ A c w1 C1, Own C1 i w1 d e (.slice A y.length c) y → y.length ≤ c → Step C W C1 w1 [i] → WL P ops Q rest (a.put o.dst (.slice A y.length c)) w1) :
    WL P ops Q (o :: rest) a (W.alloc (.cells cs.toArray e)) := by
  subst hy
  refine ⟨?_⟩
  refine Kd.FD d (w0 := W) 0 hgd s x t e z bytes ho ht hinfo hz hs0 hb0 v xs p cs (fun k => PrintWords.ext C W.heap.size i k = i ∨ PrintWords.ext C W.heap.size i k = 0) (fun k => PrintWords.ext C W.heap.size i k = 0) hs hx (Dk hp i) (fun k hk => ⟨.inr hk, fun e => by have := (HO.ext i).1 k e.symm; omega⟩) (fun k hk => .inl (yO C hk)) (HO.ext i).2 (Below.refl _ _) (Nat.zero_le _) hl ?_
  intro v1 w1 hN _ hg hat
  obtain ⟨A, cc, rfl⟩ := Kd.zM hN
  have HO' := zC HO hN hat
  exact (h A cc w1 _ HO' HO'.at_.2.1 (Step.grown C hg (fun k hk => HO.1 k hk) i)).out
theorem yJ (d : Kd α) {C : Nat → Nat} {i : Nat} {W : World} (hgd : o.guard = none) (s x : Operand) (t e : TypeId) (z : Value) (bytes : Nat) (ho : o.op = .call { callee := .builtin .append, args := #[s, x], argTypes := #[t, t] }) (ht : P.underlying t = some (.slice e)) (hinfo : (P.info? e).map (fun i => (i.zero, i.size, i.bytes)) = some (some z, d.sz, bytes)) (hz : z.cells.size = d.sz) (hs0 : 0 < d.sz) (hb0 : 0 < bytes) (v : Value) (xs ys : List α) (A : Option Addr) (m c : Nat) (hs : a.eval s = v) (hx : a.eval x = .slice A m c) (HO : Own C i W d e v xs) (HR : Ft C [0] W (fun W => d.C W A m ys)) (hi : i ≠ 0) (hl : (xs.length + m) * bytes ≤ 140737488355328) {y : List α} (hy : xs ++ ys = y)
    (h : ∀ A c w1 C1, Own C1 i w1 d e (.slice A y.length c) y → y.length ≤ c → Step C W C1 w1 [i] → WL P ops Q rest (a.put o.dst (.slice A y.length c)) w1) :
    WL P ops Q (o :: rest) a (W) := by
  subst hy
  refine ⟨?_⟩
  refine Kd.AB d (w0 := W) 0 hgd s x t e z bytes ho ht hinfo hz hs0 hb0 v xs ys A m c (fun k => PrintWords.ext C W.heap.size i k = i ∨ PrintWords.ext C W.heap.size i k = 0) (fun k => PrintWords.ext C W.heap.size i k = 0) hs hx (HO.ext i).2 (Kd.vU (d := d) (HR.ext i) (fun k hk => by simpa using hk)) (fun k hk => ⟨.inr hk, fun e => by have := (HO.ext i).1 k e.symm; omega⟩) (fun k hk => .inl (yO C hk)) (Below.refl _ _) (Nat.zero_le _) hl ?_
  intro v1 w1 hN _ hg hat
  obtain ⟨A, cc, rfl⟩ := Kd.zM hN
  have HO' := zC HO hN hat
  exact (h A cc w1 _ HO' HO'.at_.2.1 (Step.grown C hg (fun k hk => HO.1 k hk) i)).out
theorem lit (d : Kd α) {C : Nat → Nat} {i : Nat} {W : World} (hgd : o.guard = none) (e : Nat) {N' : Tmp} (hd : o.dst = some N') {xs : List α} {inner : List Value} (hrun : (execOp a.eval o).run P W = .ok (.value (.slice (some ⟨W.heap.size, 0, none⟩) xs.length xs.length)) (W.alloc (.cells inner.toArray e))) (hrep : wE (Kd.FK d W (fun k => C k = 0)) d.sz xs inner) (hm : xs.length ≤ 9223372036854775807) {y : List α} (hy : xs = y)
    (h : ∀ A c w1 C1, Own C1 i w1 d e (.slice A y.length c) y → y.length ≤ c → Step C W C1 w1 [] → WL P ops Q rest (a.put o.dst (.slice A y.length c)) w1) :
    WL P ops Q (o :: rest) a (W) := by
  subst hy
  refine ⟨?_⟩
  refine Kd.JE d (w0 := W) 0 e hgd hd (ok := (fun k => PrintWords.ext C W.heap.size i k = i ∨ PrintWords.ext C W.heap.size i k = 0)) (okp := fun k => PrintWords.ext C W.heap.size i k = 0) hrun (hrep.Ac (fun x c hx => Dk hx i)) (fun k hk => .inr hk) (.inl (yO C (Nat.le_refl _))) (Below.refl _ _) (Nat.zero_le _) hm ?_
  intro v1 w1 hN _ hg hat
  obtain ⟨A, cc, rfl⟩ := Kd.zM hN
  have HO' := Eh hN hat
  exact (h A cc w1 _ HO' HO'.at_.2.1 (Step.Dj C hg i [])).out
theorem yE (d : Kd α) {C : Nat → Nat} {i : Nat} {W : World} (hw : Region.wanted o (yielded ops a.tmps) = true) (e : Nat) {N' : Tmp} (hd : o.dst = some N') {xs : List α} {inner : List Value} (hrun : (execOp a.eval o).run P W = .ok (.value (.slice (some ⟨W.heap.size, 0, none⟩) xs.length xs.length)) (W.alloc (.cells inner.toArray e))) (hrep : wE (Kd.FK d W (fun k => C k = 0)) d.sz xs inner) (hm : xs.length ≤ 9223372036854775807) {y : List α} (hy : xs = y)
    (h : ∀ A c w1 C1, Own C1 i w1 d e (.slice A y.length c) y → y.length ≤ c → Step C W C1 w1 [] → Kc (a.put o.dst (.slice A y.length c)) w1) :
    if Region.wanted o (yielded ops a.tmps) = true then Oper.wp P o a (W) Kc Q else Kc (a.put o.dst undef) (W) := by
  subst hy
  refine Kd.DT d (w0 := W) 0 e hw hd (ok := (fun k => PrintWords.ext C W.heap.size i k = i ∨ PrintWords.ext C W.heap.size i k = 0)) (okp := fun k => PrintWords.ext C W.heap.size i k = 0) hrun (hrep.Ac (fun x c hx => Dk hx i)) (fun k hk => .inr hk) (.inl (yO C (Nat.le_refl _))) (Below.refl _ _) (Nat.zero_le _) hm ?_
  intro v1 w1 hN _ hg hat
  obtain ⟨A, cc, rfl⟩ := Kd.zM hN
  have HO' := Eh hN hat
  exact h A cc w1 _ HO' HO'.at_.2.1 (Step.Dj C hg i [])
theorem store (d : Kd α) {C : Nat → Nat} {i : Nat} {W : World} (hN : o.dst = none) (hgd : o.guard = none) (t : TypeId) (p x : Operand) (ho : o.op = .store t p x) (e : TypeId) {g n cap o' : Nat} (q : Int) (j : Nat) (xs : List α) (x' : α) (u : Value) (seg c : List Value)
    (haddr : a.eval p = .pointer (some ⟨g, o', none⟩)) (hoff : o' = q.toNat * d.sz + j) (hx : a.eval x = u) (hu : u.cells.toList = seg) (ht : (P.info? t).map (·.size) = some seg.length) (h1 : ∀ q ∈ seg, q.oneCell' = true)
    (HO : Own C i W d e (.slice (some ⟨g, 0, none⟩) n cap) xs) (hi : i ≠ 0) (h0 : 0 ≤ q) (hq : q < n) (hcl : c.length = d.sz) (hcc : ∀ j u, c[j]? = some u → W.cell? ⟨g, q.toNat * d.sz + j, none⟩ = some u)
    (hj : j + seg.length ≤ d.sz) (hM : Kd.FK d W (fun k => C k = 0) x' (c.take j ++ seg ++ c.drop (j + seg.length))) {y : List α} (hy : xs.set q.toNat x' = y)
    (h : ∀ w1 C1, Own C1 i w1 d e (.slice (some ⟨g, 0, none⟩) n cap) y → Step C W C1 w1 [i] → WL P ops Q rest a w1) : WL P ops Q (o :: rest) a W := by
  subst hy
  refine ⟨?_⟩
  refine Kd.Ho d (w0 := W) 0 hN hgd t p x ho e q j xs x' u seg c (fun k => PrintWords.ext C W.heap.size i k = i ∨ PrintWords.ext C W.heap.size i k = 0) (fun k => PrintWords.ext C W.heap.size i k = 0) haddr hoff hx hu ht h1 (HO.ext i).2 h0 hq hcl hcc hj (Dk hM i) (fun k hk => ⟨.inr hk, fun e => by
    have := (HO.ext i).1 g (by simp [Value.ownBlock])
    rw [e] at hk; omega⟩) (Below.refl _ _) ?_
  intro w1 hN' _ hg
  have HO' := zC HO hN' (.inl rfl)
  exact (h w1 _ HO' (Step.grown C hg (fun k hk => HO.1 k (by rw [← hk]; simp [Value.ownBlock])) i)).out
theorem form {d : Kd α} {e : Nat} {C : Nat → Nat} {i : Nat} {W : World} {A : Option Addr} {n c : Nat} {xs : List α} (h : Own C i W d e (.slice A n c) xs) (hp : 0 < n) : ∃ g, A = some ⟨g, 0, none⟩ := by
  have e1 := h.at_.1
  obtain ⟨g, cap, e2, _⟩ := Kd.IW h.2 (by omega)
  injection e2 with e2
  exact ⟨g, e2⟩
end
end Own
section
variable {P : Program} {ops : Array Oper} {rest : List Oper} {o : Oper} {a : Act} {Q : Exit → Act → World → Prop} {Kc : Act → World → Prop}
theorem Dl {C : Nat → Nat} {i : Nat} {W : World} (e : Nat) (hgd : o.guard = none) {N : Tmp} (hd : o.dst = some N) (src dst : TypeId) (x : Operand) (ho : o.op = .convert src dst x) (s : ByteArray) (hx : a.eval x = .string s)
    {u : TypeDesc} (hs : P.underlying src = some u) (hds : P.underlying dst = some (.slice e)) (he : P.underlying e = some (.int .u8)) (hsz : s.size ≤ 9223372036854775807) (j : Nat) {y : List Int} (hy : bytesOf s = y)
    (h : ∀ A c w1 C1, Ft C1 [j] w1 (fun w => (Kd.int .u8).C w A y.length y) → y.length ≤ c → Step C W C1 w1 [] → WL P ops Q rest (a.put o.dst (.slice A y.length c)) w1) : WL P ops Q (o :: rest) a W := by
  subst hy
  refine ⟨?_⟩
  refine Kd.Ip (w0 := W) 0 e hgd hd src dst x ho s hx hs hds he hsz (Below.refl _ _) (Nat.zero_le _) ?_
  intro v1 w1 hV _ hg _
  obtain ⟨A, c, rfl, hl, hF⟩ := hV
  refine (h A c w1 (ext C W.heap.size j) (xY.mono hF (fun k hk => ?_)) hl (Step.Dj C hg j [])).out
  show ext C W.heap.size j k ∈ [j]
  rw [yO C hk]; simp
theorem zD {C : Nat → Nat} {W : World} {o2 : Oper} (e : Nat) (hgd : o.guard = none) {N : Tmp} (hd : o.dst = some N) {xs : List Int} {inner : List Value}
    (hrun : (execOp a.eval o).run P W = .ok (.value (.slice (some ⟨W.heap.size, 0, none⟩) xs.length xs.length)) (W.alloc (.cells inner.toArray e)))
    (hin : inner = xs.map fun x => .int .u8 x) (t : TypeId) (hgd2 : o2.guard = none) (x : Operand) (ho2 : o2.op = .convert t t x)
    (hx2 : (a.put o.dst (.slice (some ⟨W.heap.size, 0, none⟩) xs.length xs.length)).eval x = .slice (some ⟨W.heap.size, 0, none⟩) xs.length xs.length)
    (ht : P.underlying t = some (.slice e)) (he : P.underlying e = some (.int .u8)) (hm : xs.length ≤ 9223372036854775807) (j : Nat) {y : List Int} (hy : xs = y)
    (h : ∀ A c w1 C1, Ft C1 [j] w1 (fun w => (Kd.int .u8).C w A y.length y) → y.length ≤ c → Step C W C1 w1 [] → WL P ops Q rest ((a.put o.dst (.slice A y.length c)).put o2.dst (.slice A y.length c)) w1) : WL P ops Q (o :: o2 :: rest) a W := by
  subst hy
  refine ⟨?_⟩
  refine Kd.Ej (w0 := W) 0 e hgd hd hrun hin t hgd2 x ho2 hx2 ht he hm (Below.refl _ _) (Nat.zero_le _) ?_
  intro v1 w1 hV _ hg _
  obtain ⟨A, c, rfl, hl, hF⟩ := hV
  refine (h A c w1 (ext C W.heap.size j) (xY.mono hF (fun k hk => ?_)) hl (Step.Dj C hg j [])).out
  show ext C W.heap.size j k ∈ [j]
  rw [yO C hk]; simp
end
end Go.Proofs.YteoccoklbmjiaaaW.PrintWords
