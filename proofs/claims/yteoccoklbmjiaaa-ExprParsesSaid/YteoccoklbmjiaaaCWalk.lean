import Derived.Test.YteoccoklbmjiaaaSWords
set_option linter.unusedVariables false
set_option linter.unusedSimpArgs false
namespace Go.Proofs.YteoccoklbmjiaaaW.PrintWords
open Go.RowKit Go.Proofs.YteoccoklbmjiaaaW.PrintLast Go.Proofs.YteoccoklbmjiaaaW.PrintMore
section
variable {P : Program} {ops : Array Oper} {rest : List Oper} {o : Oper} {l : List Value} {ds : List Deferred} {Q : Exit → Act → World → Prop} {W : World} {α : Type}
theorem Gy (dk : Kd α) {C : Nat → Nat} {Z : List Nat} {t : TypeId} (e : TypeId) {i : TypeInfo} (kh : IntKind) {A : Option Addr} {n c : Nat} {j : Int} {xs : List α}
    (ht : P.underlying t = some (.slice e)) (hi : P.info? e = some i) (hF : Ft C Z W (fun w => dk.C w A n xs)) (hc : n ≤ c) (h1 : 0 ≤ j) (h2 : j ≤ n) {y : List α} (hy : xs.take j.toNat = y) :
    (∀ w, (Instr.sliceAt t (.slice A n c) none (some (.int kh j)) none).run P w = .ok (.slice A y.length c) w) ∧ Ft C Z W (fun w => dk.C w A y.length y) ∧ y.length ≤ c := by
  have hn : xs.length = n := hF.now.1
  subst hn; subst hy
  have hl : (xs.take j.toNat).length = j.toNat := by rw [List.length_take]; omega
  refine ⟨fun w => ?_, Kd.Gn (m := j.toNat) (d := dk) hF (by omega), by omega⟩
  have hr := IC (P := P) t e kh ht hi A xs.length c j h1 h2 hc w
  rw [← hl] at hr
  rw [run_sliceAt_slice _ _ _ _ _ _ (by simp [Program.elem, ht])]
  exact hr
theorem Gz (dk : Kd α) {C : Nat → Nat} {Z : List Nat} {t : TypeId} (e : TypeId) {i : TypeInfo} (kh : IntKind) {A : Option Addr} {n c n0 : Nat} {j : Int} {xs : List α}
    (ht : P.underlying t = some (.slice e)) (hi : P.info? e = some i) (hF : Ft C Z W (fun w => dk.C w A n xs)) (hc : n ≤ c) (h1 : 0 ≤ j) (h2 : j ≤ n) {y : List α} (hy : xs.take j.toNat = y) :
    (∀ w, (Instr.sliceAt t (.slice A n0 c) none (some (.int kh j)) none).run P w = .ok (.slice A y.length c) w) ∧ Ft C Z W (fun w => dk.C w A y.length y) ∧ y.length ≤ c := by
  have hn : xs.length = n := hF.now.1
  subst hn; subst hy
  have hl : (xs.take j.toNat).length = j.toNat := by rw [List.length_take]; omega
  refine ⟨fun w => ?_, Kd.Gn (m := j.toNat) (d := dk) hF (by omega), by omega⟩
  have hr := Fh (P := P) (W := w) t e kh ht hi A n0 c j.toNat (by omega)
  rw [show ((j.toNat : Nat) : Int) = j by omega, ← hl] at hr
  rw [run_sliceAt_slice _ _ _ _ _ _ (by simp [Program.elem, ht])]
  exact hr
theorem cutFrom (dk : Kd α) {C : Nat → Nat} {Z : List Nat} {t : TypeId} (e : TypeId) {i : TypeInfo} (kl : IntKind) {A : Option Addr} {n c : Nat} {j : Int} {xs : List α}
    (ht : P.underlying t = some (.slice e)) (hi : P.info? e = some i) (hsz : i.size = dk.sz) (hF : Ft C Z W (fun w => dk.C w A n xs)) (hc : n ≤ c) (h1 : 0 ≤ j) (h2 : j ≤ n) {y : List α} (hy : xs.drop j.toNat = y) :
    ∃ A' c', (∀ w, (Instr.sliceAt t (.slice A n c) (some (.int kl j)) none none).run P w = .ok (.slice A' y.length c') w) ∧ Ft C Z W (fun w => dk.C w A' y.length y) ∧ y.length ≤ c' := by
  have hn : xs.length = n := hF.now.1
  subst hn; subst hy
  have hl : (xs.drop j.toNat).length = xs.length - j.toNat := List.length_drop
  refine ⟨_, c - j.toNat, fun w => ?_, Kd.JC (m := j.toNat) (d := dk) hF (by omega) hc, by omega⟩
  have hr := Fz (P := P) t e kl ht hi dk.sz hsz A xs.length c j h1 h2 w
  rw [← hl] at hr
  rw [run_sliceAt_slice _ _ _ _ _ _ (by simp [Program.elem, ht])]
  exact hr
theorem Il (dk : Kd α) {C : Nat → Nat} {Z : List Nat} {t : TypeId} (e : TypeId) {i : TypeInfo} (kl kh : IntKind) {A : Option Addr} {n c : Nat} {j k : Int} {xs : List α}
    (ht : P.underlying t = some (.slice e)) (hi : P.info? e = some i) (hsz : i.size = dk.sz) (hF : Ft C Z W (fun w => dk.C w A n xs)) (hc : n ≤ c) (h1 : 0 ≤ j) (h2 : j ≤ k) (h3 : k ≤ n) {y : List α} (hy : (xs.take k.toNat).drop j.toNat = y) :
    ∃ A' c', (∀ w, (Instr.sliceAt t (.slice A n c) (some (.int kl j)) (some (.int kh k)) none).run P w = .ok (.slice A' y.length c') w) ∧ Ft C Z W (fun w => dk.C w A' y.length y) ∧ y.length ≤ c' := by
  have hn : xs.length = n := hF.now.1
  subst hn; subst hy
  have hl : ((xs.take k.toNat).drop j.toNat).length = k.toNat - j.toNat := by rw [List.length_drop, List.length_take]; omega
  refine ⟨_, c - j.toNat, fun w => ?_, Kd.JD (lo := j.toNat) (hi := k.toNat) (d := dk) hF (by omega) (by omega) hc, by omega⟩
  have hr := G9 (P := P) t e kl kh ht hi dk.sz hsz A xs.length c j k h1 h2 h3 hc w
  rw [← hl] at hr
  rw [run_sliceAt_slice _ _ _ _ _ _ (by simp [Program.elem, ht])]
  exact hr
def Dc : TypeDesc → Bool
  | .struct _ => true
  | .array _ _ => true
  | _ => false
theorem oM {t : TypeId} {d : TypeDesc} {a : Addr} {v : Value} (ht : P.underlying t = some d) (hd : Dc d = false) (h : W.cell? a = some v) : (Instr.loadAt t (.pointer (some a))).run P W = .ok v W := by
  have h1 : (isAgg t).run P W = .ok false W := by
    unfold isAgg
    rw [Sem.run_bind, run_underlying ht]
    cases d <;> first | rfl | cases hd
  simp [Instr.loadAt, Instr.sureAddr, loadVar, h1, h]
theorem oz {t : TypeId} {d : TypeDesc} {a : Addr} {cs : List Value} (ht : P.underlying t = some d) (hd : Dc d = true) (hi : (P.info? t).map (·.size) = some cs.length) (h : ∀ j u, cs[j]? = some u → W.cell? (a.add j) = some u) : (Instr.loadAt t (.pointer (some a))).run P W = .ok (.agg cs.toArray) W := by
  have h1 : (isAgg t).run P W = .ok true W := by
    unfold isAgg
    rw [Sem.run_bind, run_underlying ht]
    cases d <;> first | rfl | cases hd
  have hl := run_loadCells_list (P := P) W a cs h
  obtain ⟨i, hi0, hi1⟩ := Option.map_eq_some_iff.1 hi
  simp [Instr.loadAt, Instr.sureAddr, loadVar, h1, sizeOf, typeInfo, hi0, hi1, hl]
theorem Fe {t : TypeId} {fs : Array Field} {f : Field} {a : Addr} {j : Nat} {i : TypeInfo} (ht : P.underlying t = some (.struct fs)) (hf : fs[j]? = some f) (hi : P.info? f.type = some i) (hs : i.size ≠ 0) : (Instr.fieldAt t (.pointer (some a)) j).run P W = .ok (.pointer (some (a.add f.offset))) W := by
  simp [Instr.fieldAt, Instr.sureAddr, fieldPlace, run_underlying ht, hf, sizeOf, typeInfo, hi, hs]
theorem uZ {k : IntKind} {t : TypeId} {ad : Addr} {n : Nat} {xs : List Int} {j : Int} {d : TypeDesc} (ht : P.underlying t = some d) (hd : Dc d = false) {A : Option Addr} (hA : A = some ad) (h : (Kd.int k).C W A n xs) (h0 : 0 ≤ j) (h1 : j < (n : Int)) : (Instr.loadAt t (.pointer (some (ad.add (j.toNat * 1))))).run P W = .ok (.int k (rd xs j)) W := by
  subst hA
  obtain ⟨_, e, hx⟩ := Kd.IB h j h0 h1
  injection e with e
  subst e
  rw [Nat.mul_one]
  exact oM ht hd hx
theorem zq {t : TypeId} {ad : Addr} {n : Nat} {xs : List ByteArray} {j : Int} {d : TypeDesc} (ht : P.underlying t = some d) (hd : Dc d = false) {A : Option Addr} (hA : A = some ad) (h : Kd.string.C W A n xs) (h0 : 0 ≤ j) (h1 : j < (n : Int)) : (Instr.loadAt t (.pointer (some (ad.add (j.toNat * 1))))).run P W = .ok (.string (xX ByteArray.empty xs j)) W := by
  subst hA
  obtain ⟨_, e, hx⟩ := Kd.Ey h j h0 h1
  injection e with e
  subst e
  rw [Nat.mul_one]
  exact oM ht hd hx
theorem oP {d : Tmp} {f : FuncId} {fn : Func} {as : Array Operand} {ts : Array TypeId} (vs : Array Value) (hg : o.guard = none) (hd : o.dst = some d) (hf : P.funcs[f]? = some fn) (hname : (fn.name == "runtime.NumGoroutine") = false) (hb : fn.body.isSome = true)
    (ho : o.op = .call { callee := .value (.func f), args := as, argTypes := ts }) (hargs : as.map (ev l) = vs) (h : Calls P f vs W fun e w' => ∃ v, e = .returned v ∧ WL P ops Q rest ⟨(l.set d v).toArray, ds⟩ w') : WL P ops Q (o :: rest) ⟨l.toArray, ds⟩ W :=
  ⟨IK (some d) hd hg hf hname hb vs ho (by rw [Df]; exact hargs) (by simp only [yN]; exact h.mono (fun e w' ⟨v, he, hw⟩ => ⟨v, he, hw.out⟩))⟩
end
theorem Ft.of_C {α : Type} {dk : Kd α} (hd : Kd.Heap dk) {w : World} {A : Option Addr} {n : Nat} {xs : List α} (h : dk.C w A n xs) : Ft (fun _ => 0) [0] w (fun w => dk.C w A n xs) := fun W' hW => Kd.C_F hd h W' (fun k hlt hlt2 => hW k (by simp) hlt2)
theorem Dx {P : Program} {c : Code} {Q : Exit → Act → World → Prop} (Rel : Nat → Act → World → Prop) (step : ∀ k, (∀ m, m < k → ∀ a w, Rel m a w → yt P c Q a w) → ∀ a w, Rel k a w → yt P c Q a w) (k : Nat) (a : Act) (w : World) (init : Rel k a w) : yt P c Q a w := by
  induction k using Nat.strongRecOn generalizing a w with
  | _ k ih => exact step k ih a w init
theorem qN {P : Program} {c : Code} {Q : Exit → Act → World → Prop} {a : Act} {w : World} (Rel : Nat → Act → World → Prop) (step : ∀ k, (∀ m, m < k → ∀ a w, Rel m a w → yt P c Q a w) → ∀ a w, Rel k a w → yt P c Q a w) (init : (∀ k a w, Rel k a w → yt P c Q a w) → yt P c Q a w) : yt P c Q a w :=
  init fun k a w h => Dx Rel step k a w h
theorem sZ {j : Int} {n : Nat} (h0 : 0 ≤ j) (h1 : j < (n : Int)) : 0 < n := by omega
theorem tV {α : Type} {dk : Kd α} {w : World} {A : Option Addr} {n : Nat} {xs : List α} (h : dk.C w A n xs) (hn : 0 < n) : ∃ ad, A = some ad := by
  obtain ⟨ad, e, _⟩ := h.2.2 hn
  exact ⟨ad, e⟩
theorem uh {P : Program} {W : World} {t : TypeId} (ht : P.underlying t = some .string) {k : IntKind} {s : ByteArray} {j : Int} (h0 : 0 ≤ j) (h1 : j < (s.size : Int)) : (Instr.index t (.string s) (.int k j)).run P W = .ok (.int .u8 (bt s j)) W := by
  rw [run_index_string _ _ _ _ _ ht, dif_pos ⟨h0, h1⟩]
  have h2 : j.toNat < s.size := by omega
  unfold bt
  rw [dif_pos h2]
theorem rH {P : Program} {W : World} {t e : TypeId} (ht : P.underlying t = some (.slice e)) {z : Value} {sz by_ : Nat} (hi : (P.info? e).map (fun i => (i.zero, i.size, i.bytes)) = some (some z, sz, by_)) {k : IntKind} {ad : Addr} {A : Option Addr} (hA : A = some ad) {n c : Nat} {j : Int} (h0 : 0 ≤ j) (h1 : j < (n : Int)) :
    (Instr.indexAt t (.slice A n c) (.int k j)).run P W = .ok (.pointer (some (ad.add (j.toNat * sz)))) W := by
  subst hA
  obtain ⟨i, hi0, _, hsz, _⟩ := info_parts hi
  have hel : P.elem t = e := by simp [Program.elem, ht]
  rw [run_indexAt_slice _ _ _ _ _ _ _ (by rw [hel]; exact ht), if_pos ⟨h0, h1⟩, hel]
  simp [sizeOf, typeInfo, hi0, hsz, Result.andThen]
end Go.Proofs.YteoccoklbmjiaaaW.PrintWords
