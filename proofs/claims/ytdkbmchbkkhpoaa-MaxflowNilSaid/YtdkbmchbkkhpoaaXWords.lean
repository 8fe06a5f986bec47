/- Words of this work beside the print's: a string's bytes as a row that is only read. -/
import Derived.Test.YtdkbmchbkkhpoaaWWords
import Derived.Test.YtdkbmchbkkhpoaaWLast
import Derived.Test.YtdkbmchbkkhpoaaWShare
import Derived.Test.YtdkbmchbkkhpoaaWMore
import Derived.Lib.ConvBytes
import Derived.Lib.SlBytesConst
import Derived.Laws.AppendOwn
import Derived.IntWalk
set_option linter.unusedVariables false
set_option linter.unusedSimpArgs false
namespace Go.Proofs.YtdkbmchbkkhpoaaW.PrintWords
open Go.RowKit Go.Proofs.YtdkbmchbkkhpoaaW.PrintWords Go.Proofs.YtdkbmchbkkhpoaaW.PrintLast Go.Proofs.YtdkbmchbkkhpoaaW.PrintMore
theorem x_bytes_below (W : World) (e : TypeId) (s : ByteArray) : Below W.heap.size W (Lib.bytesWorld W e s) :=
  ⟨by simp [Lib.bytesWorld, World.freeze, World.alloc, World.drew, -World.alloc_eq, -World.drew_eq], by simp [Lib.bytesWorld, World.freeze, World.alloc, World.drew, -World.alloc_eq, -World.drew_eq], by simp [Lib.bytesWorld, World.freeze, World.alloc, World.drew, -World.alloc_eq, -World.drew_eq], by rw [Lib.bytesWorld_size]; omega, fun i hi => Lib.bytesWorld_at_old W e s i hi⟩
theorem x_far {n m c g : Nat} {A : Option Addr} (hne : some g ≠ (Value.slice A n c).ownBlock) : ∀ ad, A = some ad → 0 < m → ad.block ≠ g := by
  rintro ad rfl _ rfl
  exact hne rfl
theorem x_grown_le (W : World) (n : Nat) (e : TypeId) : n ≤ grownCap W n 0 e := grownCap_ge W n 0 e
theorem x_isSome (W : World) (p q : Addr) (u : Value) : ((W.setCell p u).cell? q).isSome = (W.cell? q).isSome := by
  simp only [World.setCell, World.cell?, Array.getElem?_modify]
  by_cases hb : p.block = q.block
  · simp only [hb, if_true]
    cases hh : W.heap[q.block]? with
    | none => simp
    | some x =>
      cases x with
      | cells c e f =>
        cases hsp : p.spot with
        | some _ => simp
        | none =>
          cases hsq : q.spot with
          | some _ => simp
          | none =>
            simp only [Option.map_some, Option.isSome_none, Bool.false_eq_true, if_false]
            rw [Array.getElem?_setIfInBounds]
            by_cases h1 : p.off = q.off
            · by_cases h2 : p.off < c.size
              · rw [h1] at h2
                simp [h1, h2]
              · rw [h1] at h2
                simp [h1, h2]
            · simp [h1]
      | _ => simp
  · simp [hb]
theorem x_cut_to {P : Program} (t e : TypeId) (kh : IntKind) {i : TypeInfo} (ht : P.underlying t = some (.slice e)) (hi : P.info? e = some i) (A : Option Addr) (n c m : Nat) (hm : m ≤ c) :
    ∀ W : World, (Instr.slice t (.slice A n c) none (some (.int kh (m : Int))) none).run P W = .ok (.slice A m c) W := by
  intro W
  have hel : P.elem t = e := by simp [Program.elem, ht]
  have hu : P.underlying t = some (.slice (P.elem t)) := by rw [hel]; exact ht
  have ha : (A.map fun x => x.add 0) = A := by cases A <;> simp [Addr.add]
  rw [run_slice_h W t A n c hu kh (m : Int) (by omega) (by omega), hel]
  simp [sizeOf, typeInfo, hi, sliced, Result.andThen, ha]
namespace Kd
/-- A row that is only read and lent: three bytes of the lender's stand behind its end. -/
def L (d : Kd Int) (_e : Nat) (W : World) (_base : Nat) (ok : Nat → Prop) (v : Value) (xs : List Int) : Prop := ∃ A c, v = .slice A xs.length c ∧ xs.length + 3 ≤ c ∧ F d W ok A (xs ++ [77, 78, 79]).length (xs ++ [77, 78, 79])
section
variable {d : Kd Int} {e base base' n m c g N' lo hi : Nat} {ok ok' S : Nat → Prop} {w W w1 : World} {A : Option Addr} {ad : Addr} {u v v1 : Value} {xs : List Int}
theorem L_map (h : L d e W base ok v xs) (hF : ∀ A n ys, F d W ok A n ys → F d w1 ok' A n ys) : L d e w1 base' ok' v xs := by
  obtain ⟨A, c, hv, hl, hf⟩ := h
  exact ⟨A, c, hv, hl, hF _ _ _ hf⟩
theorem L_slice (h : L d e W base ok v xs) : ∃ A c, v = .slice A xs.length c := by
  obtain ⟨A, c, hv, _⟩ := h
  exact ⟨A, c, hv⟩
theorem L_V (h : L d e W base ok v xs) : V d e W base' ok v xs := by
  obtain ⟨A, c, hv, hl, hf⟩ := h
  refine ⟨A, c, hv, by omega, F_imp hf (fun W' hC => ?_)⟩
  have := C_take hC (m := xs.length) (by simp)
  simpa using this
theorem L_at (h : L d e W base ok (.slice A n c) xs) : n = xs.length ∧ n ≤ c ∧ F d W ok A xs.length xs := V_at (base := 0) (L_V h)
theorem L_reads' (h : L d e W base ok (.slice A n c) xs) : n = xs.length ∧ n ≤ c ∧ d.C W A xs.length xs := V_reads' (base := 0) (L_V h)
theorem L_F (h : L d e W base ok (.slice A n c) xs) : F d W ok A n xs := V_F (base := 0) (L_V h)
/-- What stands behind the end, too. -/
theorem V_farblk {k : IntKind} {g e base n c : Nat} {ok : Nat → Prop} {W : World} {A : Option Addr} {xs : List Int} (h : V (Kd.int k) e W base ok (.slice A n c) xs) (hng : ok g → False) : ∀ ad, A = some ad → 0 < n → ad.block ≠ g := by
  rintro ad rfl hn rfl
  obtain ⟨A', c', hv, hl, hf⟩ := h
  injection hv with hA hn' hc
  subst hA
  subst hn'
  obtain ⟨ad0, e0, r0⟩ := (Kd.reads_of_C (d := (0 : Int)) (h1 := fun _ => rfl) (F_now hf)).2.2 hn
  have h1 := hf (W.setCell (ad.add 0) (.bool true)) (fun j hj _ => Below.heap_setCell _ _ _ _ (fun e => hng (by rw [add_block] at e; rw [← e]; exact hj)))
  obtain ⟨ad1, e1, r1⟩ := (Kd.reads_of_C (d := (0 : Int)) (h1 := fun _ => rfl) h1).2.2 hn
  injection e0 with e0
  injection e1 with e1
  subst e0
  subst e1
  have c0 := r0 0 hn
  have c1 := r1 0 hn
  rw [World.cell?_setCell_same _ _ _ c0] at c1
  cases c1
theorem L_tail (h : L d e W base ok (.slice A n c) xs) : xs.length + 3 ≤ c ∧ d.C W A (xs ++ [77, 78, 79]).length (xs ++ [77, 78, 79]) := by
  obtain ⟨A', c', hv, hl, hf⟩ := h
  injection hv with ha hn hc
  subst ha; subst hc
  exact ⟨hl, F_now hf⟩
theorem L_mono (h : L d e W base ok v xs) (hok : ∀ k, ok k → ok' k) : L d e W base ok' v xs := L_map h (fun _ _ _ hf => F_mono hf hok)
theorem L_bound (h : L d e W base ok v xs) : L d e W base (fun k => ok k ∧ k < W.heap.size) v xs := L_map h (fun _ _ _ hf => F_bound hf)
theorem L_lower (h : L d e W base ok v xs) (_ : base' ≤ base) : L d e W base' ok v xs := h
theorem L_step (h : L d e W base ok v xs) (hm : ∀ k, ok k → k < W.heap.size → w1.heap[k]? = W.heap[k]?) : L d e w1 base ok v xs := L_map h (fun _ _ _ hf => F_step hf hm)
theorem L_below (h : L d e W base ok v xs) (hb : Below W.heap.size W w1) : L d e w1 base ok v xs := L_map h (fun _ _ _ hf => F_below hf hb)
theorem L_alloc (h : L d e W base ok v xs) (o : Obj) : L d e (W.alloc o) base ok v xs := L_map h (fun _ _ _ hf => F_alloc hf o)
theorem L_drew (h : L d e W base ok v xs) : L d e W.drew base ok v xs := L_map h (fun _ _ _ hf => F_drew hf)
theorem L_drewN (h : L d e W base ok v xs) (m : Nat) : L d e (W.drewN m) base ok v xs := L_map h (fun _ _ _ hf => F_drewN hf m)
theorem L_grown (h : L d e W base ok v xs) {row : Option Nat} (hg : W.grownBy w1 row) (hok : ∀ k, ok k → some k ≠ row) : L d e w1 base ok v xs := L_map h (fun _ _ _ hf => F_grown hf hg hok)
theorem L_far (h : L d e W base ok v xs) {p : Addr} (hok : ∀ k, ok k → k ≠ p.block) (u : Value) : L d e (W.setCell p u) base ok v xs := L_map h (fun _ _ _ hf => F_far hf hok u)
theorem L_keep (h : L d e W base ok v xs) (hk : KeepBut W w1 g none) (hok : ∀ k, ok k → k ≠ g) : L d e w1 base ok v xs := L_map h (fun _ _ _ hf => F_keep hf hk hok)
theorem L_kept (h : L d e W base ok v xs) (hk : Kept W w1 S) (hok : ∀ k, ok k → ¬ S k) : L d e w1 base ok v xs := L_map h (fun _ _ _ hf => F_kept hf hk hok)
theorem L_after (h : L d e W base (fun k => ok k ∧ some k ≠ u.ownBlock) v xs) (hg : W.grownBy w1 u.ownBlock) (hat : v1.ownBlock = u.ownBlock ∨ ∃ b, v1.ownBlock = some b ∧ W.heap.size ≤ b) : L d e w1 base (fun k => ok k ∧ some k ≠ v1.ownBlock) v xs := L_map h (fun _ _ _ hf => F_after hf hg hat)
theorem L_afterv (h : L d e W base (fun k => ok k ∧ some k ≠ v.ownBlock) u xs) (hg : W.grownBy w1 v.ownBlock) (hat : v1.ownBlock = v.ownBlock ∨ ∃ b, v1.ownBlock = some b ∧ W.heap.size ≤ b) : L d e w1 base (fun k => ok k ∧ some k ≠ v1.ownBlock) u xs := L_after h hg hat
theorem L_apart_nil (h : L d e W base ok v xs) : L d e W base (fun k => ok k ∧ some k ≠ (Value.slice none 0 0).ownBlock) v xs := L_map h (fun _ _ _ hf => F_apart_nil hf)
theorem L_elder' (h : L d e W base ok v xs) (hbase : ∀ k, u.ownBlock = some k → W.heap.size ≤ k) (hb : Below W.heap.size W w1) : L d e w1 base (fun k => ok k ∧ some k ≠ u.ownBlock) v xs := L_map h (fun _ _ _ hf => F_elder' hf hbase hb)
theorem L_elderB (h : L d e W base ok v xs) (a : Nat) (ha : W.heap.size ≤ a) : L d e W base (fun k => ok k ∧ k ≠ a) v xs := L_map h (fun _ _ _ hf => F_elderB hf a ha)
theorem L_old (h : L d e W base ok v xs) (hb : Below W.heap.size W w1) : L d e w1 base (fun k => ok k ∧ k < W.heap.size) v xs := L_map h (fun _ _ _ hf => F_old hf hb)
theorem L_told (h : L d e w1 base (fun k => ok k ∧ k < N') v xs) (hbase : ∀ k, u.ownBlock = some k → N' ≤ k) : L d e w1 base (fun k => (ok k ∧ some k ≠ u.ownBlock) ∧ k < N') v xs := L_map h (fun _ _ _ hf => F_told hf hbase)
theorem L_keptB (h : L d e W base ok v xs) (hk : Kept W w1 S) (hne : ∀ k, ok k → ¬ S k) : L d e w1 base (fun k => ok k ∧ (¬ S k ∧ k < W.heap.size)) v xs :=
  L_kept (L_mono (L_bound h) (fun k hk => ⟨hk.1, hne k hk.1, hk.2⟩)) hk (fun _ hk => hk.2.1)
/-- A row of one's own with three bytes more, cut to its begin. -/
theorem L_of_R (h : d.R e W base ok (.slice A n c) (xs ++ [77, 78, 79])) : L d e W base' ok (.slice A xs.length c) xs := by
  have hr := R_reads' h
  refine ⟨A, c, rfl, ?_, ?_⟩
  · have := hr.1; have := hr.2.1; simp at *; omega
  · have := R_F h
    rw [hr.1] at this
    exact this
end
section
variable {P : Program} {ops : Array Oper} {rest : List Oper} {o : Oper} {a : Act} {Q : Exit → Act → World → Prop}
/-- '[]byte(s)': a new row, only read. -/
theorem V_conv {w0 W : World} (base e : Nat) (hgd : o.guard = none) {N : Tmp} (hd : o.dst = some N) (src dst : TypeId) (x : Operand) (ho : o.op = .convert src dst x) (s : ByteArray) (hx : a.eval x = .string s)
    {u : TypeDesc} (hs : P.underlying src = some u) (hds : P.underlying dst = some (.slice e)) (he : P.underlying e = some (.int .u8)) (hsz : s.size ≤ 9223372036854775807) (HB : Below base w0 W) (hbase : base ≤ W.heap.size)
    (h : ∀ v1 w1, Kd.V (Kd.int .u8) e w1 base (fun k => W.heap.size ≤ k) v1 (bytesOf s) → Below base w0 w1 → W.grownBy w1 none → (∃ b, v1.ownBlock = some b ∧ W.heap.size ≤ b) → wpList P ops Q rest (a.put o.dst v1) w1) : wpList P ops Q (o :: rest) a W := by
  have hr := Lib.run_convert_string_bytes (P := P) W src dst e s hs hds he
  have hb := x_bytes_below W e s
  refine event_run hgd (v := .slice (some ⟨W.heap.size, 0, none⟩) s.size (grownCap W s.size 0 e)) (w1 := Lib.bytesWorld W e s) ?_ (h _ _ ?_ ?_ ?_ ⟨W.heap.size, by simp [Value.ownBlock], Nat.le_refl _⟩)
  · simp [execOp, ho, hx, hr]
  · refine ⟨some ⟨W.heap.size, 0, none⟩, grownCap W s.size 0 e, by rw [bytesOf_length], by rw [bytesOf_length]; exact x_grown_le W s.size e, fun W2 hW2 => ?_⟩
    rw [bytesOf_length]
    have hb2 : W2.heap[W.heap.size]? = (Lib.bytesWorld W e s).heap[W.heap.size]? := hW2 _ (Nat.le_refl _) (by rw [Lib.bytesWorld_size]; omega)
    refine C_of_reads (d := (0 : Int)) (h1 := fun _ => rfl) ⟨bytesOf_length s, hsz, fun _ => ⟨_, rfl, fun j hj => ?_⟩⟩
    have hc := (bytes_reads W e s hsz).2.2 (by omega)
    obtain ⟨ad, had, hc⟩ := hc
    obtain rfl := Option.some.inj had
    have := hc j hj
    rw [add_plain] at this ⊢
    simp only [World.cell?] at this ⊢
    rw [hb2]
    exact this
  · exact below_then HB hbase hb
  · exact grown_of_below hb none
/-- '[]byte("constant")': a literal's row, converted to its own type: a new row, only read. -/
theorem V_litconv {w0 W : World} {o2 : Oper} (base e : Nat) (hgd : o.guard = none) {N : Tmp} (_hd : o.dst = some N) {xs : List Int} {inner : List Value}
    (hrun : (execOp a.eval o).run P W = .ok (.value (.slice (some ⟨W.heap.size, 0, none⟩) xs.length xs.length)) (W.alloc (.cells inner.toArray e)))
    (hin : inner = xs.map fun x => .int .u8 x) (t : TypeId) (hgd2 : o2.guard = none) (x : Operand) (ho2 : o2.op = .convert t t x)
    (hx2 : (a.put o.dst (.slice (some ⟨W.heap.size, 0, none⟩) xs.length xs.length)).eval x = .slice (some ⟨W.heap.size, 0, none⟩) xs.length xs.length)
    (ht : P.underlying t = some (.slice e)) (he : P.underlying e = some (.int .u8)) (hm : xs.length ≤ 9223372036854775807) (HB : Below base w0 W) (hbase : base ≤ W.heap.size)
    (h : ∀ v1 w1, Kd.V (Kd.int .u8) e w1 base (fun k => W.heap.size ≤ k) v1 xs → Below base w0 w1 → W.grownBy w1 none → (∃ b, v1.ownBlock = some b ∧ W.heap.size ≤ b) → wpList P ops Q rest ((a.put o.dst v1).put o2.dst v1) w1) : wpList P ops Q (o :: o2 :: rest) a W := by
  have hr2 := Lib.run_convert_bytes_const (P := P) W t e inner.toArray xs.length xs.length ht he
  have hb : Below W.heap.size W (W.alloc (.cells inner.toArray e (inner.toArray.size, inner.toArray.size + 1))) := (Below.refl _ _).alloc (Nat.le_refl _) _
  refine event_run hgd hrun (event_run hgd2 (v := .slice (some ⟨W.heap.size, 0, none⟩) xs.length xs.length) (w1 := W.alloc (.cells inner.toArray e (inner.toArray.size, inner.toArray.size + 1))) ?_ (h _ _ ?_ ?_ ?_ ⟨W.heap.size, by simp [Value.ownBlock], Nat.le_refl _⟩))
  · unfold execOp
    simp [ho2, hx2, hr2]
  · refine ⟨some ⟨W.heap.size, 0, none⟩, xs.length, rfl, Nat.le_refl _, fun W2 hW2 => ?_⟩
    have hb2 : W2.heap[W.heap.size]? = some (.cells inner.toArray e (inner.toArray.size, inner.toArray.size + 1)) := by
      rw [hW2 _ (Nat.le_refl _) (by simp)]
      show (W.heap.push _)[W.heap.size]? = _
      simp
    refine C_of_reads (d := (0 : Int)) (h1 := fun _ => rfl) ⟨rfl, hm, fun _ => ⟨_, rfl, fun j hj => ?_⟩⟩
    rw [add_plain]
    simp only [World.cell?]
    rw [hb2]
    subst hin
    simp [List.getD_eq_getElem?_getD, hj]
  · exact below_then HB hbase hb
  · exact grown_of_below hb none
end
end Kd
end Go.Proofs.YtdkbmchbkkhpoaaW.PrintWords
