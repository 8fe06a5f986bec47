import Derived.Test.YteoccoklbmjiaaaWWords
import Derived.Test.YteoccoklbmjiaaaWLast
import Derived.Test.YteoccoklbmjiaaaWShare
import Derived.Test.YteoccoklbmjiaaaWMore
import Derived.Lib.ConvBytes
import Derived.Lib.SlBytesConst
import Derived.Laws.AppendOwn
import Derived.IntWalk
set_option linter.unusedVariables false
set_option linter.unusedSimpArgs false
namespace Go.Proofs.YteoccoklbmjiaaaW.PrintWords
open Go.RowKit Go.Proofs.YteoccoklbmjiaaaW.PrintWords Go.Proofs.YteoccoklbmjiaaaW.PrintLast Go.Proofs.YteoccoklbmjiaaaW.PrintMore
theorem Am (W : World) (e : TypeId) (s : ByteArray) : Below W.heap.size W (Lib.bytesWorld W e s) :=
  ⟨by simp [Lib.bytesWorld, World.freeze, World.alloc, World.drew, -World.alloc_eq, -World.drew_eq], by simp [Lib.bytesWorld, World.freeze, World.alloc, World.drew, -World.alloc_eq, -World.drew_eq], by simp [Lib.bytesWorld, World.freeze, World.alloc, World.drew, -World.alloc_eq, -World.drew_eq], by rw [Lib.bytesWorld_size]; omega, fun i hi => Lib.bytesWorld_at_old W e s i hi⟩
theorem Dz (W : World) (n : Nat) (e : TypeId) : n ≤ grownCap W n 0 e := grownCap_ge W n 0 e
theorem Fh {P : Program} (t e : TypeId) (kh : IntKind) {i : TypeInfo} (ht : P.underlying t = some (.slice e)) (hi : P.info? e = some i) (A : Option Addr) (n c m : Nat) (hm : m ≤ c) :
    ∀ W : World, (Instr.slice t (.slice A n c) none (some (.int kh (m : Int))) none).run P W = .ok (.slice A m c) W := by
  intro W
  have hel : P.elem t = e := by simp [Program.elem, ht]
  have hu : P.underlying t = some (.slice (P.elem t)) := by rw [hel]; exact ht
  have ha : (A.map fun x => x.add 0) = A := by cases A <;> simp [Addr.add]
  rw [run_slice_h W t A n c hu kh (m : Int) (by omega) (by omega), hel]
  simp [sizeOf, typeInfo, hi, sliced, Result.andThen, ha]
namespace Kd
def L (d : Kd Int) (_e : Nat) (W : World) (_base : Nat) (ok : Nat → Prop) (v : Value) (xs : List Int) : Prop := ∃ A c, v = .slice A xs.length c ∧ xs.length + 3 ≤ c ∧ F d W ok A (xs ++ [77, 78, 79]).length (xs ++ [77, 78, 79])
section
variable {d : Kd Int} {e base base' n m c g N' lo hi : Nat} {ok ok' S : Nat → Prop} {w W w1 : World} {A : Option Addr} {ad : Addr} {u v v1 : Value} {xs : List Int}
end
section
variable {P : Program} {ops : Array Oper} {rest : List Oper} {o : Oper} {a : Act} {Q : Exit → Act → World → Prop}
theorem Ip {w0 W : World} (base e : Nat) (hgd : o.guard = none) {N : Tmp} (hd : o.dst = some N) (src dst : TypeId) (x : Operand) (ho : o.op = .convert src dst x) (s : ByteArray) (hx : a.eval x = .string s)
    {u : TypeDesc} (hs : P.underlying src = some u) (hds : P.underlying dst = some (.slice e)) (he : P.underlying e = some (.int .u8)) (hsz : s.size ≤ 9223372036854775807) (HB : Below base w0 W) (hbase : base ≤ W.heap.size)
    (h : ∀ v1 w1, Kd.V (Kd.int .u8) e w1 base (fun k => W.heap.size ≤ k) v1 (bytesOf s) → Below base w0 w1 → W.grownBy w1 none → (∃ b, v1.ownBlock = some b ∧ W.heap.size ≤ b) → wpList P ops Q rest (a.put o.dst v1) w1) : wpList P ops Q (o :: rest) a W := by
  have hr := Lib.run_convert_string_bytes (P := P) W src dst e s hs hds he
  have hb := Am W e s
  refine xA hgd (v := .slice (some ⟨W.heap.size, 0, none⟩) s.size (grownCap W s.size 0 e)) (w1 := Lib.bytesWorld W e s) ?_ (h _ _ ?_ ?_ ?_ ⟨W.heap.size, by simp [Value.ownBlock], Nat.le_refl _⟩)
  · simp [execOp, ho, hx, hr]
  · refine ⟨some ⟨W.heap.size, 0, none⟩, grownCap W s.size 0 e, by rw [bytesOf_length], by rw [bytesOf_length]; exact Dz W s.size e, fun W2 hW2 => ?_⟩
    rw [bytesOf_length]
    have hb2 : W2.heap[W.heap.size]? = (Lib.bytesWorld W e s).heap[W.heap.size]? := hW2 _ (Nat.le_refl _) (by rw [Lib.bytesWorld_size]; omega)
    refine y7 (d := (0 : Int)) (h1 := fun _ => rfl) ⟨bytesOf_length s, hsz, fun _ => ⟨_, rfl, fun j hj => ?_⟩⟩
    have hc := (BZ W e s hsz).2.2 (by omega)
    obtain ⟨ad, had, hc⟩ := hc
    obtain rfl := Option.some.inj had
    have := hc j hj
    rw [add_plain] at this ⊢
    simp only [World.cell?] at this ⊢
    rw [hb2]
    exact this
  · exact below_then HB hbase hb
  · exact xg hb none
theorem Ej {w0 W : World} {o2 : Oper} (base e : Nat) (hgd : o.guard = none) {N : Tmp} (_hd : o.dst = some N) {xs : List Int} {inner : List Value}
    (hrun : (execOp a.eval o).run P W = .ok (.value (.slice (some ⟨W.heap.size, 0, none⟩) xs.length xs.length)) (W.alloc (.cells inner.toArray e)))
    (hin : inner = xs.map fun x => .int .u8 x) (t : TypeId) (hgd2 : o2.guard = none) (x : Operand) (ho2 : o2.op = .convert t t x)
    (hx2 : (a.put o.dst (.slice (some ⟨W.heap.size, 0, none⟩) xs.length xs.length)).eval x = .slice (some ⟨W.heap.size, 0, none⟩) xs.length xs.length)
    (ht : P.underlying t = some (.slice e)) (he : P.underlying e = some (.int .u8)) (hm : xs.length ≤ 9223372036854775807) (HB : Below base w0 W) (hbase : base ≤ W.heap.size)
    (h : ∀ v1 w1, Kd.V (Kd.int .u8) e w1 base (fun k => W.heap.size ≤ k) v1 xs → Below base w0 w1 → W.grownBy w1 none → (∃ b, v1.ownBlock = some b ∧ W.heap.size ≤ b) → wpList P ops Q rest ((a.put o.dst v1).put o2.dst v1) w1) : wpList P ops Q (o :: o2 :: rest) a W := by
  have hr2 := Lib.run_convert_bytes_const (P := P) W t e inner.toArray xs.length xs.length ht he
  have hb : Below W.heap.size W (W.alloc (.cells inner.toArray e (inner.toArray.size, inner.toArray.size + 1))) := (Below.refl _ _).alloc (Nat.le_refl _) _
  refine xA hgd hrun (xA hgd2 (v := .slice (some ⟨W.heap.size, 0, none⟩) xs.length xs.length) (w1 := W.alloc (.cells inner.toArray e (inner.toArray.size, inner.toArray.size + 1))) ?_ (h _ _ ?_ ?_ ?_ ⟨W.heap.size, by simp [Value.ownBlock], Nat.le_refl _⟩))
  · unfold execOp
    simp [ho2, hx2, hr2]
  · refine ⟨some ⟨W.heap.size, 0, none⟩, xs.length, rfl, Nat.le_refl _, fun W2 hW2 => ?_⟩
    have hb2 : W2.heap[W.heap.size]? = some (.cells inner.toArray e (inner.toArray.size, inner.toArray.size + 1)) := by
      rw [hW2 _ (Nat.le_refl _) (by simp)]
      show (W.heap.push _)[W.heap.size]? = _
      simp
    refine y7 (d := (0 : Int)) (h1 := fun _ => rfl) ⟨rfl, hm, fun _ => ⟨_, rfl, fun j hj => ?_⟩⟩
    rw [add_plain]
    simp only [World.cell?]
    rw [hb2]
    subst hin
    simp [List.getD_eq_getElem?_getD, hj]
  · exact below_then HB hbase hb
  · exact xg hb none
end
end Kd
end Go.Proofs.YteoccoklbmjiaaaW.PrintWords
