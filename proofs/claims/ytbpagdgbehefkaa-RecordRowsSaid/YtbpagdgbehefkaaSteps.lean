/- (*Summer).steps: the sum of bytes. -/
import Derived.Test.YtbpagdgbehefkaaSlow
import Derived.Below
import Derived.IntWalk
import Derived.Laws.BitsLemmas
set_option linter.unusedVariables false
set_option linter.unusedSimpArgs false
namespace Go.Proofs.Ytbpagdgbehefkaa.Crc
open Go.RowKit Go.Proofs.YtbpagdgbehefkaaW.PrintWords
set_option maxRecDepth 100000 in
theorem add_any (a : Addr) (n : Int) (w : World) (hc : w.cell? a = some (.int .i64 n)) (hz : w.frozen? a = false) :
    Calls Try.prog 53 #[.pointer (some a), .int .i64 1] w fun e w' => e = .returned (.int .i64 (wrap64 (n + 1))) ∧ w' = w.setCell a (.int .i64 (wrap64 (n + 1))) := by
  have hadd := run_call_add (P := Try.prog) Try.func57 (by kernel_rfl) (by kernel_rfl) (by kernel_rfl) .i64 (by kernel_rfl) (y := 1) (s := wrap64 (n + 1)) hc hz (by simp [go_sem]; unfold wrap64; exact IntKind.wrap_i64 _)
  go_enter Try.func53, Try.ntmps53
  go_wp2
  go_ret
  exact ⟨rfl, rfl⟩
/-- Only this block may have turned. -/
structure Only (b : Nat) (w w' : World) : Prop where
  os : w'.os = w.os
  tape : w'.tape = w.tape
  output : w'.output = w.output
  size : w'.heap.size = w.heap.size
  block : ∀ k, k ≠ b → w'.heap[k]? = w.heap[k]?
  kept : ∀ cs, w.heap[b]? = some (.cells cs 97 (0, 0)) → ∃ cs', w'.heap[b]? = some (.cells cs' 97 (0, 0))
theorem Only.refl (b : Nat) (w : World) : Only b w w := ⟨rfl, rfl, rfl, rfl, fun _ _ => rfl, fun cs h => ⟨cs, h⟩⟩
theorem Only.set {b : Nat} {w w' : World} (h : Only b w w') (j : Nat) (v : Value) : Only b w (w'.setCell ⟨b, j, none⟩ v) :=
  ⟨h.os, h.tape, h.output, by rw [← h.size]; simp [World.setCell], fun k hk => (Below.heap_setCell _ _ _ _ hk).trans (h.block k hk), fun cs hc => by
    obtain ⟨cs', h'⟩ := h.kept cs hc
    exact ⟨_, blk_set h' j v⟩⟩
theorem Only.drew {b : Nat} {w w' : World} (h : Only b w w') : Only b w w'.drew := ⟨h.os, h.tape, h.output, h.size, h.block, h.kept⟩
theorem Only.fill {b : Nat} {w w' : World} (h : Only b w w') (n : Nat) : Only b w (fillW w' b n) := by
  induction n with
  | zero => exact h
  | succ n ih => exact ih.set _ _
theorem Only.done {b : Nat} {w w' : World} (h : Only b w w') : Only b w (doneW w' b) := ((((h.set 1 _).fill 256).drew.set 0 _).set 1 _)
theorem Only.below {b : Nat} {w w' : World} (h : Only b w w') {B : Nat} (hB : B ≤ b) : Below B w w' := ⟨h.os, h.tape, h.output, Nat.le_of_eq h.size.symm, fun k hk => h.block k (by omega)⟩
/-- A Summer of so many calls lies in this block. -/
structure IsSum (w : World) (b : Nat) (n : Int) : Prop where
  inside : b < w.heap.size
  frozen : ∀ j, w.frozen? ⟨b, j, none⟩ = false
  state : w.cell? ⟨b, 1, none⟩ = some (.int .i32 0)
  calls : w.cell? ⟨b, 259, none⟩ = some (.int .i64 n)
  table : (w.cell? ⟨b, 0, none⟩ = some (.int .u32 0) ∧ ∀ j, j < 256 → ∃ x, w.cell? ⟨b, 3 + j, none⟩ = some (.int .u32 x)) ∨
    (w.cell? ⟨b, 0, none⟩ = some (.int .u32 1) ∧ ∀ j, j < 256 → w.cell? ⟨b, 3 + j, none⟩ = some (.int .u32 (bits 8 j)))
theorem off_ne {b i j : Nat} (h : i ≠ j) : (⟨b, i, none⟩ : Addr) ≠ ⟨b, j, none⟩ := fun e => h (congrArg Addr.off e)
theorem fillW_at (w : World) (b k j : Nat) (hj : j < k) (hc : ∀ j, j < 256 → ∃ x, w.cell? ⟨b, 3 + j, none⟩ = some (.int .u32 x)) (hk : k ≤ 256) : (fillW w b k).cell? ⟨b, 3 + j, none⟩ = some (.int .u32 (bits 8 j)) := by
  induction k with
  | zero => omega
  | succ k ih =>
    simp only [fillW]
    by_cases h : j = k
    · subst h
      obtain ⟨x, hx⟩ := hc j (by omega)
      exact World.cell?_setCell_same _ _ _ ((fillW_above w b j j (Nat.le_refl _)).trans hx)
    · rw [World.cell?_setCell_other _ _ _ _ (off_ne (by omega))]
      exact ih (by omega) (by omega)
/-- Behind Do the table is full. -/
theorem done_full {w : World} {b : Nat} {n : Int} (h : IsSum w b n) (h0 : w.cell? ⟨b, 0, none⟩ = some (.int .u32 0)) (hc : ∀ j, j < 256 → ∃ x, w.cell? ⟨b, 3 + j, none⟩ = some (.int .u32 x)) :
    IsSum (doneW w b) b n ∧ (doneW w b).cell? ⟨b, 0, none⟩ = some (.int .u32 1) ∧ ∀ j, j < 256 → (doneW w b).cell? ⟨b, 3 + j, none⟩ = some (.int .u32 (bits 8 j)) := by
  have hc1 : ∀ j, j < 256 → ∃ x, (w.setCell ⟨b, 1, none⟩ (.int .i32 1)).cell? ⟨b, 3 + j, none⟩ = some (.int .u32 x) := fun j hj => by
    obtain ⟨x, hx⟩ := hc j hj
    exact ⟨x, (World.cell?_setCell_other _ _ _ _ (off_ne (by omega))).trans hx⟩
  have ht : ∀ j, j < 256 → (doneW w b).cell? ⟨b, 3 + j, none⟩ = some (.int .u32 (bits 8 j)) := fun j hj => by
    unfold doneW
    rw [World.cell?_setCell_other _ _ _ _ (off_ne (by omega)), World.cell?_setCell_other _ _ _ _ (off_ne (by omega)), World.cell?_drew]
    exact fillW_at _ b 256 j hj hc1 (Nat.le_refl _)
  have e0 : ((fillW (w.setCell ⟨b, 1, none⟩ (.int .i32 1)) b 256).drew).cell? ⟨b, 0, none⟩ = some (.int .u32 0) := by
    rw [World.cell?_drew]
    exact (fillW_low _ b 256 0 (by omega)).trans ((World.cell?_setCell_other _ _ _ _ (off_ne (by omega))).trans h0)
  have e1 : ((fillW (w.setCell ⟨b, 1, none⟩ (.int .i32 1)) b 256).drew).cell? ⟨b, 1, none⟩ = some (.int .i32 1) := by
    rw [World.cell?_drew]
    exact (fillW_low _ b 256 1 (by omega)).trans (World.cell?_setCell_same w _ _ h.state)
  have e259 : (fillW (w.setCell ⟨b, 1, none⟩ (.int .i32 1)) b 256).cell? ⟨b, 259, none⟩ = some (.int .i64 n) :=
    (fillW_above _ b 256 256 (Nat.le_refl _)).trans ((World.cell?_setCell_other _ _ _ _ (off_ne (by omega))).trans h.calls)
  have ed : (doneW w b).cell? ⟨b, 0, none⟩ = some (.int .u32 1) := by
    unfold doneW
    rw [World.cell?_setCell_other _ _ _ _ (off_ne (by omega))]
    exact World.cell?_setCell_same _ _ _ e0
  refine ⟨⟨?_, ?_, ?_, ?_, .inr ⟨ed, ht⟩⟩, ed, ht⟩
  · have := ((Only.refl b w).done).size
    rw [this]; exact h.inside
  · intro j
    unfold doneW
    have := (fillW_frozen (w.setCell ⟨b, 1, none⟩ (.int .i32 1)) b 256 ⟨b, j, none⟩).trans (by simp [h.frozen] : (w.setCell ⟨b, 1, none⟩ (.int .i32 1)).frozen? ⟨b, j, none⟩ = false)
    simp [this]
  · unfold doneW
    exact World.cell?_setCell_same _ _ _ ((World.cell?_setCell_other _ _ _ _ (off_ne (by omega))).trans e1)
  · unfold doneW
    rw [World.cell?_setCell_other _ _ _ _ (off_ne (by omega)), World.cell?_setCell_other _ _ _ _ (off_ne (by omega)), World.cell?_drew]
    exact e259
/-- One byte's step. -/
def byte1 (c x : Int) : Int := Go.bits .xor .u32 (bits 8 (Go.bits .xor .u8 (c % 256) x)) (c / 256)
def stepsF (c : Int) (l : List Int) : Int := l.foldl byte1 c
theorem stepsF_snoc (c : Int) (l : List Int) (x : Int) : stepsF c (l ++ [x]) = byte1 (stepsF c l) x := by
  unfold stepsF
  rw [List.foldl_append]
  rfl
theorem take_snoc (l : List Int) (i : Nat) (h : i < l.length) : l.take (i + 1) = l.take i ++ [l.getD i 0] := by
  rw [List.take_succ_eq_append_getElem h]
  simp [List.getD_eq_getElem?_getD, h]
theorem bits8_range (b x : Int) : 0 ≤ Go.bits .xor .u8 b x ∧ Go.bits .xor .u8 b x < 256 := by
  unfold Go.bits
  simp only
  rw [IntKind.wrap_u8]
  omega
theorem bits32_range (b x : Int) : 0 ≤ Go.bits .xor .u32 b x ∧ Go.bits .xor .u32 b x < 4294967296 := by
  unfold Go.bits
  simp only [IntKind.wrap, IntKind.bits, IntKind.signed]
  simp
  omega
set_option maxRecDepth 100000 in
set_option maxHeartbeats 1600000 in
theorem steps_calls (b : Nat) (n c : Int) (A : Option Addr) (cap : Nat) (l : List Int) (w : World) (hs : IsSum w b n) (hn : 0 ≤ n ∧ n ≤ 1000000) (hl : l.length ≤ 1000000)
    (hr : ∀ w', Only b w w' → Kd.C (Kd.int .u8) w' A l.length l) :
    Calls Try.prog 47 #[.pointer (some ⟨b, 0, none⟩), .int .u32 c, .slice A l.length cap] w fun e w' => e = .returned (.int .u32 (stepsF c l)) ∧ IsSum w' b (n + 1) ∧ Only b w w' := by
  have hmf : ∀ (fn : Fn) (first cap : Array Value) (w : World), (Instr.makeFunc fn first cap).run Try.prog w = .ok (.func fn first cap) w := fun _ _ _ _ => rfl
  -- the world behind Do, and behind the count
  obtain ⟨w1, hdo, hs1, ho1, hd1, ht1⟩ : ∃ w1, (Calls Try.prog 51 #[.pointer (some ⟨b, 0, none⟩), .func (.func 52) #[.pointer (some ⟨b, 0, none⟩)] #[]] w fun e w' => e = .returned (.tuple #[]) ∧ w' = w1) ∧ IsSum w1 b n ∧ Only b w w1 ∧ w1.cell? ⟨b, 0, none⟩ = some (.int .u32 1) ∧ ∀ j, j < 256 → w1.cell? ⟨b, 3 + j, none⟩ = some (.int .u32 (bits 8 j)) := by
    rcases hs.table with ⟨h0, hc⟩ | ⟨h0, hc⟩
    · have := done_full hs h0 hc
      exact ⟨doneW w b, do_first b w h0 hs.state hc hs.frozen, this.1, (Only.refl b w).done, this.2.1, this.2.2⟩
    · exact ⟨w, do_done ⟨b, 0, none⟩ _ w h0, hs, Only.refl b w, h0, hc⟩
  have hw : wrap64 (n + 1) = n + 1 := by unfold wrap64; omega
  have hadd := add_any ⟨b, 259, none⟩ n w1 hs1.calls (hs1.frozen 259)
  rw [hw] at hadd
  generalize hw2 : w1.setCell ⟨b, 259, none⟩ (.int .i64 (n + 1)) = w2 at hadd
  have ho2 : Only b w w2 := by rw [← hw2]; exact ho1.set _ _
  have ht2 : ∀ j, j < 256 → w2.cell? ⟨b, 3 + j, none⟩ = some (.int .u32 (bits 8 j)) := fun j hj => by
    rw [← hw2, World.cell?_setCell_other _ _ _ _ (off_ne (by omega))]; exact ht1 j hj
  have hs2 : IsSum w2 b (n + 1) := by
    refine ⟨?_, ?_, ?_, ?_, .inr ⟨?_, ht2⟩⟩
    · rw [ho2.size]; exact hs.inside
    · intro j; rw [← hw2]; simp [hs1.frozen]
    · rw [← hw2, World.cell?_setCell_other _ _ _ _ (off_ne (by omega))]; exact hs1.state
    · rw [← hw2]; exact World.cell?_setCell_same _ _ _ hs1.calls
    · rw [← hw2, World.cell?_setCell_other _ _ _ _ (off_ne (by omega))]
      exact hd1
  have HR := Aside0.mk (Kd.reads_of_C (d := (0 : Int)) (h1 := fun _ => rfl) (hr w2 ho2)).2.2
  have HT := Aside0.mk ht2
  have HD := Aside0.mk hdo
  have HA := Aside0.mk hadd
  have HS := Aside0.mk hs2
  have HO := Aside0.mk ho2
  clear hr ht2 hdo hadd hs2 ho2 hw2 ht1 hd1 ho1 hs1 hs hw
  go_enter Try.func47, Try.ntmps47
  go_wp2_with (first | (go_at_call 51; refine HD.out.mono ?_; rintro e w' ⟨rfl, rfl⟩) | (go_at_call 53; refine HA.out.mono ?_; rintro e w' ⟨rfl, rfl⟩))
  go_loop [1, 21] (fun v i => ∃ k : Nat, k ≤ l.length ∧ i = .int .i64 k ∧ v = .int .u32 (stepsF c (l.take k))) (fun _ i => l.length - (intOf i).toNat)
  case atStart => exact ⟨0, by omega, rfl, rfl⟩
  case round =>
    obtain ⟨k, hk, rfl, rfl⟩ := hrel
    by_cases hlt : k < l.length
    · obtain ⟨ad, hA, hcl⟩ := HR.out (by omega)
      subst hA
      have hx := hcl k hlt
      have hr8 := bits8_range (stepsF c (l.take k) % 256) (l.getD k 0)
      have hy := HT.out (Go.bits .xor .u8 (stepsF c (l.take k) % 256) (l.getD k 0)).toNat (by omega)
      have hyi : (((Go.bits .xor .u8 (stepsF c (l.take k) % 256) (l.getD k 0)).toNat : Nat) : Int) = Go.bits .xor .u8 (stepsF c (l.take k) % 256) (l.getD k 0) := by omega
      have e : l.getD k 0 = l[k] := by simp [List.getD_eq_getElem?_getD, hlt]
      rw [hyi] at hy
      rw [e] at hx hr8 hy
      have hsn := take_snoc l k hlt
      rw [e] at hsn
      have HN := Aside0.mk hsn
      clear hcl hyi e hsn
      go_wp2
      refine ⟨⟨k + 1, by omega, by go_num, ?_⟩, by simp [intOf]; omega⟩
      rw [HN.out, stepsF_snoc]
      rfl
    · go_wp2
      go_ret
      obtain rfl : k = l.length := by omega
      rw [List.take_length]
      exact ⟨rfl, HS.out, HO.out⟩
end Go.Proofs.Ytbpagdgbehefkaa.Crc
