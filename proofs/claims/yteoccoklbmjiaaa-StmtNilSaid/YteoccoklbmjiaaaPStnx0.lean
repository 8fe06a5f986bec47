-- By cprint.py, a program of this work. Lean checks it.
import Derived.Test.YteoccoklbmjiaaaProg
import Derived.Test.YteoccoklbmjiaaaBinLaws
import Derived.Test.YteoccoklbmjiaaaCArr
import Derived.Test.YteoccoklbmjiaaaCOpens
import Derived.Test.YteoccoklbmjiaaaShelf
namespace Go.Proofs.Yteoccoklbmjiaaa.PStn
open Go.RowKit Go.Proofs.YteoccoklbmjiaaaW.PrintWords Go.Proofs.YteoccoklbmjiaaaW.PrintLast Go.Proofs.YteoccoklbmjiaaaW.PrintMore
set_option linter.unusedVariables false
set_option linter.unusedSimpArgs false

theorem info5 : (Try.prog.info? 5).map (fun i => (i.zero, i.size, i.bytes)) = some (some (.int .u8 0), 1, 1) := by kernel_rfl
theorem info9 : (Try.prog.info? 9).map (fun i => (i.zero, i.size, i.bytes)) = some (some (.string ⟨#[]⟩), 1, 16) := by kernel_rfl
theorem info28 : (Try.prog.info? 28).map (fun i => (i.zero, i.size, i.bytes)) = some (some (.agg #[(.int .i64 0), (.int .i64 0), (.int .i64 0)]), 3, 24) := by kernel_rfl
theorem info44 : (Try.prog.info? 44).map (fun i => (i.zero, i.size, i.bytes)) = some (some (.agg #[(.int .i64 0), (.int .i64 0), (.int .i64 0), (.string ⟨#[]⟩), (.string ⟨#[]⟩), (.slice none 0 0)]), 6, 80) := by kernel_rfl
theorem info89 : (Try.prog.info? 89).map (fun i => (i.zero, i.size, i.bytes)) = some (some (.agg #[(.int .i64 0), (.int .i64 0), (.string ⟨#[]⟩), (.int .i64 0), (.bool false), (.bool false), (.string ⟨#[]⟩), (.int .i64 0), (.int .i64 0), (.int .i64 0), (.int .i64 0), (.int .i64 0), (.string ⟨#[]⟩), (.string ⟨#[]⟩), (.slice none 0 0), (.slice none 0 0), (.slice none 0 0)]), 17, 208) := by kernel_rfl
/-! #### struct type 28 -/
structure S28 where
  f0 : Int
  f1 : Int
  f2 : Int
def z28 : S28 := ⟨(0 : Int), (0 : Int), (0 : Int)⟩
def k28 : Kd S28 := Kd.iso (Kd.pair (Kd.int .i64) (Kd.pair (Kd.int .i64) (Kd.int .i64))) (fun x : S28 => (x.f0, x.f1, x.f2))
theorem k28_heap : Kd.Heap k28 := Kd.heap_iso _ (Kd.heap_pair (Kd.heap_int .i64) (Kd.heap_pair (Kd.heap_int .i64) (Kd.heap_int .i64)))
theorem k28_open {w : World} {x : S28} {cs : List Value} (h : k28.K w x cs) : cs = [.int .i64 x.f0, .int .i64 x.f1, .int .i64 x.f2] := by
  obtain ⟨_, _, rfl, rfl, ⟨_, _, rfl, rfl, rfl⟩⟩ := h
  exact rfl
theorem k28_openM {w : World} {base : Nat} {ok : Nat → Prop} {x : S28} {cs : List Value} (h : k28.M w base ok x cs) : cs = [.int .i64 x.f0, .int .i64 x.f1, .int .i64 x.f2] := by
  obtain ⟨_, _, rfl, rfl, ⟨_, _, rfl, rfl, rfl⟩⟩ := h
  exact rfl
theorem k28_mk (w : World) (x : S28)  : k28.K w x [.int .i64 x.f0, .int .i64 x.f1, .int .i64 x.f2] := ⟨[.int .i64 x.f0], [.int .i64 x.f1, .int .i64 x.f2], rfl, rfl, ⟨[.int .i64 x.f1], [.int .i64 x.f2], rfl, rfl, rfl⟩⟩
theorem k28_mkM (w : World) (base : Nat) (ok : Nat → Prop) (x : S28)  : k28.M w base ok x [.int .i64 x.f0, .int .i64 x.f1, .int .i64 x.f2] := ⟨[.int .i64 x.f0], [.int .i64 x.f1, .int .i64 x.f2], rfl, rfl, ⟨[.int .i64 x.f1], [.int .i64 x.f2], rfl, rfl, rfl⟩⟩
theorem k28_mkF (W : World) (ok : Nat → Prop) (x : S28) : Kd.FK k28 W ok x [.int .i64 x.f0, .int .i64 x.f1, .int .i64 x.f2] := fun W2 _ => k28_mk W2 x
def rd_T28 (xs : List S28) (i : Int) : S28 := xs.getD i.toNat z28
theorem at_T28 {w : World} {A : Option Addr} {n : Nat} {xs : List S28} (h : Kd.C k28 w A n xs) (i : Int) (h0 : 0 ≤ i) (h1 : i < n) : ∃ ad , A = some ad ∧ w.cell? (ad.add (i.toNat * 3)) = some (.int .i64 (rd_T28 xs i).f0) ∧ w.cell? ⟨(ad.add (i.toNat * 3)).block, (ad.add (i.toNat * 3)).off + 1, none⟩ = some (.int .i64 (rd_T28 xs i).f1) ∧ w.cell? ⟨(ad.add (i.toNat * 3)).block, (ad.add (i.toNat * 3)).off + 2, none⟩ = some (.int .i64 (rd_T28 xs i).f2) := by
  obtain ⟨ad, c, e, _, hK, hc0⟩ := Kd.C_get h z28 i h0 h1
  have hc : ∀ j u, c[j]? = some u → w.cell? (ad.add (i.toNat * 3 + j)) = some u := hc0
  obtain rfl := k28_open hK
  exact ⟨ad, e, hc 0 _ rfl, by rw [← add_field _ _ 1 (by omega)]; exact hc 1 _ rfl, by rw [← add_field _ _ 2 (by omega)]; exact hc 2 _ rfl⟩

def rd_L4 (xs : List (List Int)) (i : Int) : (List Int) := xs.getD i.toNat ([] : List Int)
theorem at_L4 {w : World} {A : Option Addr} {n : Nat} {xs : List (List Int)} (h : Kd.C (Kd.slice 5 (Kd.int .u8)) w A n xs) (i : Int) (h0 : 0 ≤ i) (h1 : i < n) : ∃ ad A0 c0, A = some ad ∧ w.cell? (ad.add i.toNat) = some (.slice A0 (rd_L4 xs i).length c0) ∧ (rd_L4 xs i).length ≤ c0 ∧ (Kd.int .u8).C w A0 (rd_L4 xs i).length (rd_L4 xs i) := by
  obtain ⟨ad, c, e, _, hK, hc0⟩ := Kd.C_get h ([] : List Int) i h0 h1
  have hc : ∀ j u, c[j]? = some u → w.cell? (ad.add (i.toNat * 1 + j)) = some u := hc0
  obtain ⟨A0, c0, rfl, l0, g0⟩ := hK
  exact ⟨ad, A0, c0, e, by have hq := hc 0 _ rfl; rwa [Nat.mul_one, Nat.add_zero] at hq, l0, g0⟩

def rd_L5 (xs : List (List S28)) (i : Int) : (List S28) := xs.getD i.toNat ([] : List S28)
theorem at_L5 {w : World} {A : Option Addr} {n : Nat} {xs : List (List S28)} (h : Kd.C (Kd.slice 28 k28) w A n xs) (i : Int) (h0 : 0 ≤ i) (h1 : i < n) : ∃ ad A0 c0, A = some ad ∧ w.cell? (ad.add i.toNat) = some (.slice A0 (rd_L5 xs i).length c0) ∧ (rd_L5 xs i).length ≤ c0 ∧ k28.C w A0 (rd_L5 xs i).length (rd_L5 xs i) := by
  obtain ⟨ad, c, e, _, hK, hc0⟩ := Kd.C_get h ([] : List S28) i h0 h1
  have hc : ∀ j u, c[j]? = some u → w.cell? (ad.add (i.toNat * 1 + j)) = some u := hc0
  obtain ⟨A0, c0, rfl, l0, g0⟩ := hK
  exact ⟨ad, A0, c0, e, by have hq := hc 0 _ rfl; rwa [Nat.mul_one, Nat.add_zero] at hq, l0, g0⟩

/-! #### struct type 111 -/
structure S111 where
  f0 : (List Int)
  f1 : (List S28)
  f2 : Int
  f3 : Int
def z111 : S111 := ⟨([] : List Int), ([] : List S28), (0 : Int), (0 : Int)⟩
def k111 : Kd S111 := Kd.iso (Kd.pair (Kd.slice 5 (Kd.int .u8)) (Kd.pair (Kd.slice 28 k28) (Kd.pair (Kd.int .i64) (Kd.int .i64)))) (fun x : S111 => (x.f0, x.f1, x.f2, x.f3))
theorem k111_heap : Kd.Heap k111 := Kd.heap_iso _ (Kd.heap_pair (Kd.heap_slice 5 (Kd.heap_int .u8)) (Kd.heap_pair (Kd.heap_slice 28 k28_heap) (Kd.heap_pair (Kd.heap_int .i64) (Kd.heap_int .i64))))
theorem k111_open {w : World} {x : S111} {cs : List Value} (h : k111.K w x cs) : ∃ A0 c0 A1 c1, cs = [.slice A0 x.f0.length c0, .slice A1 x.f1.length c1, .int .i64 x.f2, .int .i64 x.f3] ∧ x.f0.length ≤ c0 ∧ (Kd.int .u8).C w A0 x.f0.length x.f0 ∧ x.f1.length ≤ c1 ∧ k28.C w A1 x.f1.length x.f1 := by
  obtain ⟨_, _, rfl, ⟨A0, c0, rfl, l0, g0⟩, ⟨_, _, rfl, ⟨A1, c1, rfl, l1, g1⟩, ⟨_, _, rfl, rfl, rfl⟩⟩⟩ := h
  exact ⟨A0, c0, A1, c1, rfl, l0, g0, l1, g1⟩
theorem k111_openM {w : World} {base : Nat} {ok : Nat → Prop} {x : S111} {cs : List Value} (h : k111.M w base ok x cs) : ∃ v0 v1, cs = [v0, v1, .int .i64 x.f2, .int .i64 x.f3] ∧ (Kd.int .u8).R 5 w base ok v0 x.f0 ∧ k28.R 28 w base ok v1 x.f1 := by
  obtain ⟨_, _, rfl, ⟨v0, rfl, g0⟩, ⟨_, _, rfl, ⟨v1, rfl, g1⟩, ⟨_, _, rfl, rfl, rfl⟩⟩⟩ := h
  exact ⟨v0, v1, rfl, g0, g1⟩
theorem k111_mk (w : World) (x : S111) {A0 : Option Addr} {c0 : Nat} (l0 : x.f0.length ≤ c0) (g0 : (Kd.int .u8).C w A0 x.f0.length x.f0) {A1 : Option Addr} {c1 : Nat} (l1 : x.f1.length ≤ c1) (g1 : k28.C w A1 x.f1.length x.f1) : k111.K w x [.slice A0 x.f0.length c0, .slice A1 x.f1.length c1, .int .i64 x.f2, .int .i64 x.f3] := ⟨[.slice A0 x.f0.length c0], [.slice A1 x.f1.length c1, .int .i64 x.f2, .int .i64 x.f3], rfl, ⟨A0, c0, rfl, l0, g0⟩, ⟨[.slice A1 x.f1.length c1], [.int .i64 x.f2, .int .i64 x.f3], rfl, ⟨A1, c1, rfl, l1, g1⟩, ⟨[.int .i64 x.f2], [.int .i64 x.f3], rfl, rfl, rfl⟩⟩⟩
theorem k111_mkM (w : World) (base : Nat) (ok : Nat → Prop) (x : S111) {v0 : Value} (g0 : (Kd.int .u8).R 5 w base ok v0 x.f0) {v1 : Value} (g1 : k28.R 28 w base ok v1 x.f1) : k111.M w base ok x [v0, v1, .int .i64 x.f2, .int .i64 x.f3] := ⟨[v0], [v1, .int .i64 x.f2, .int .i64 x.f3], rfl, ⟨v0, rfl, g0⟩, ⟨[v1], [.int .i64 x.f2, .int .i64 x.f3], rfl, ⟨v1, rfl, g1⟩, ⟨[.int .i64 x.f2], [.int .i64 x.f3], rfl, rfl, rfl⟩⟩⟩
theorem k111_openF {W : World} {ok : Nat → Prop} {x : S111} {cs : List Value} (h : Kd.FK k111 W ok x cs) : ∃ A0 c0 A1 c1, cs = [.slice A0 x.f0.length c0, .slice A1 x.f1.length c1, .int .i64 x.f2, .int .i64 x.f3] ∧ x.f0.length ≤ c0 ∧ Kd.F (Kd.int .u8) W ok A0 x.f0.length x.f0 ∧ x.f1.length ≤ c1 ∧ Kd.F k28 W ok A1 x.f1.length x.f1 := by
  obtain ⟨A0, c0, A1, c1, rfl, l0, _, l1, _⟩ := k111_open (Kd.FK_now h)
  exact ⟨A0, c0, A1, c1, rfl, l0, (fun W' hW => by obtain ⟨A0_, c0_, A1_, c1_, he, l0_, g0_, l1_, g1_⟩ := k111_open (h W' hW); injection (Option.some.inj (show some (Value.slice A0 x.f0.length c0) = some (Value.slice A0_ x.f0.length c0_) from congrArg (fun l => l[0]?) he)) with ha_ _ _; rw [ha_]; exact g0_), l1, (fun W' hW => by obtain ⟨A0_, c0_, A1_, c1_, he, l0_, g0_, l1_, g1_⟩ := k111_open (h W' hW); injection (Option.some.inj (show some (Value.slice A1 x.f1.length c1) = some (Value.slice A1_ x.f1.length c1_) from congrArg (fun l => l[1]?) he)) with ha_ _ _; rw [ha_]; exact g1_)⟩
theorem k111_mkF (W : World) (ok : Nat → Prop) (x : S111) {A0 : Option Addr} {c0 : Nat} (l0 : x.f0.length ≤ c0) (g0 : Kd.F (Kd.int .u8) W ok A0 x.f0.length x.f0) {A1 : Option Addr} {c1 : Nat} (l1 : x.f1.length ≤ c1) (g1 : Kd.F k28 W ok A1 x.f1.length x.f1) : Kd.FK k111 W ok x [.slice A0 x.f0.length c0, .slice A1 x.f1.length c1, .int .i64 x.f2, .int .i64 x.f3] := fun W2 hW => k111_mk W2 x l0 (g0 W2 hW) l1 (g1 W2 hW)
def rd_T111 (xs : List S111) (i : Int) : S111 := xs.getD i.toNat z111
theorem at_T111 {w : World} {A : Option Addr} {n : Nat} {xs : List S111} (h : Kd.C k111 w A n xs) (i : Int) (h0 : 0 ≤ i) (h1 : i < n) : ∃ ad A0 c0 A1 c1, A = some ad ∧ w.cell? (ad.add (i.toNat * 4)) = some (.slice A0 (rd_T111 xs i).f0.length c0) ∧ w.cell? ⟨(ad.add (i.toNat * 4)).block, (ad.add (i.toNat * 4)).off + 1, none⟩ = some (.slice A1 (rd_T111 xs i).f1.length c1) ∧ w.cell? ⟨(ad.add (i.toNat * 4)).block, (ad.add (i.toNat * 4)).off + 2, none⟩ = some (.int .i64 (rd_T111 xs i).f2) ∧ w.cell? ⟨(ad.add (i.toNat * 4)).block, (ad.add (i.toNat * 4)).off + 3, none⟩ = some (.int .i64 (rd_T111 xs i).f3) ∧ (rd_T111 xs i).f0.length ≤ c0 ∧ (Kd.int .u8).C w A0 (rd_T111 xs i).f0.length (rd_T111 xs i).f0 ∧ (rd_T111 xs i).f1.length ≤ c1 ∧ k28.C w A1 (rd_T111 xs i).f1.length (rd_T111 xs i).f1 := by
  obtain ⟨ad, c, e, _, hK, hc0⟩ := Kd.C_get h z111 i h0 h1
  have hc : ∀ j u, c[j]? = some u → w.cell? (ad.add (i.toNat * 4 + j)) = some u := hc0
  obtain ⟨A0, c0, A1, c1, rfl, l0, g0, l1, g1⟩ := k111_open hK
  exact ⟨ad, A0, c0, A1, c1, e, hc 0 _ rfl, by rw [← add_field _ _ 1 (by omega)]; exact hc 1 _ rfl, by rw [← add_field _ _ 2 (by omega)]; exact hc 2 _ rfl, by rw [← add_field _ _ 3 (by omega)]; exact hc 3 _ rfl, l0, g0, l1, g1⟩

/-! #### struct type 44, nested in itself -/
structure S44 where
  f0 : Int
  f1 : Int
  f2 : Int
  f3 : ByteArray
  f4 : ByteArray
  f5 : (List S44)
def z44 : S44 := ⟨(0 : Int), (0 : Int), (0 : Int), (⟨#[]⟩ : ByteArray), (⟨#[]⟩ : ByteArray), ([] : List S44)⟩
def F44 (d : Kd S44) : Kd S44 := Kd.iso (Kd.pair (Kd.int .i64) (Kd.pair (Kd.int .i64) (Kd.pair (Kd.int .i64) (Kd.pair Kd.string (Kd.pair Kd.string (Kd.slice 44 d)))))) (fun x : S44 => (x.f0, x.f1, x.f2, x.f3, x.f4, x.f5))
theorem mono44 : Kd.Mono F44 := Kd.mono_iso _ (Kd.mono_pair (Kd.mono_const _) (Kd.mono_pair (Kd.mono_const _) (Kd.mono_pair (Kd.mono_const _) (Kd.mono_pair (Kd.mono_const _) (Kd.mono_pair (Kd.mono_const _) (Kd.mono_slice 44 Kd.mono_id))))))
theorem sub44 : Kd.Sub F44 [44] := Kd.sub_iso _ (Kd.sub_pair (Kd.sub_const _ (by decide)) (Kd.sub_pair (Kd.sub_const _ (by decide)) (Kd.sub_pair (Kd.sub_const _ (by decide)) (Kd.sub_pair (Kd.sub_const _ (by decide)) (Kd.sub_pair (Kd.sub_const _ (by decide)) (Kd.sub_slice 44 (by decide) Kd.sub_id))))))
theorem sz44 : ∀ n, (Kd.upto F44 6 [44] n).sz = 6 := Kd.upto_sz (fun _ => rfl)
def k44 : Kd S44 := Kd.fix F44 6 [44] sz44 (Kd.upto_E sub44)
theorem k44_heap : Kd.Heap k44 := Kd.heap_fix (fun _ h_ => Kd.heap_iso _ (Kd.heap_pair (Kd.heap_int .i64) (Kd.heap_pair (Kd.heap_int .i64) (Kd.heap_pair (Kd.heap_int .i64) (Kd.heap_pair Kd.heap_string (Kd.heap_pair Kd.heap_string (Kd.heap_slice 44 h_)))))))
theorem k44_open {w : World} {x : S44} {cs : List Value} (h : k44.K w x cs) : ∃ A5 c5, cs = [.int .i64 x.f0, .int .i64 x.f1, .int .i64 x.f2, .string x.f3, .string x.f4, .slice A5 x.f5.length c5] ∧ x.f5.length ≤ c5 ∧ k44.C w A5 x.f5.length x.f5 := by
  obtain ⟨n, h⟩ := h
  cases n with
  | zero => exact h.elim
  | succ n =>
    obtain ⟨_, _, rfl, rfl, ⟨_, _, rfl, rfl, ⟨_, _, rfl, rfl, ⟨_, _, rfl, rfl, ⟨_, _, rfl, rfl, ⟨A5, c5, rfl, l5, g5⟩⟩⟩⟩⟩⟩ := h
    exact ⟨A5, c5, rfl, l5, Kd.fix_C g5⟩
theorem k44_openM {w : World} {base : Nat} {ok : Nat → Prop} {x : S44} {cs : List Value} (h : k44.M w base ok x cs) : ∃ v5, cs = [.int .i64 x.f0, .int .i64 x.f1, .int .i64 x.f2, .string x.f3, .string x.f4, v5] ∧ k44.R 44 w base ok v5 x.f5 := by
  obtain ⟨n, h⟩ := h
  cases n with
  | zero => exact h.elim
  | succ n =>
    obtain ⟨_, _, rfl, rfl, ⟨_, _, rfl, rfl, ⟨_, _, rfl, rfl, ⟨_, _, rfl, rfl, ⟨_, _, rfl, rfl, ⟨v5, rfl, g5⟩⟩⟩⟩⟩⟩ := h
    exact ⟨v5, rfl, Kd.fix_R g5⟩
theorem k44_mk (w : World) (x : S44) {A5 : Option Addr} {c5 : Nat} (l5 : x.f5.length ≤ c5) (g5 : k44.C w A5 x.f5.length x.f5) : k44.K w x [.int .i64 x.f0, .int .i64 x.f1, .int .i64 x.f2, .string x.f3, .string x.f4, .slice A5 x.f5.length c5] := by
  obtain ⟨n5, q5⟩ := Kd.fix_C_back mono44 g5
  have r5 := Kd.upto_C_le mono44 sz44 (show n5 ≤ n5 by omega) q5
  exact ⟨n5 + 1, ⟨[.int .i64 x.f0], [.int .i64 x.f1, .int .i64 x.f2, .string x.f3, .string x.f4, .slice A5 x.f5.length c5], rfl, rfl, ⟨[.int .i64 x.f1], [.int .i64 x.f2, .string x.f3, .string x.f4, .slice A5 x.f5.length c5], rfl, rfl, ⟨[.int .i64 x.f2], [.string x.f3, .string x.f4, .slice A5 x.f5.length c5], rfl, rfl, ⟨[.string x.f3], [.string x.f4, .slice A5 x.f5.length c5], rfl, rfl, ⟨[.string x.f4], [.slice A5 x.f5.length c5], rfl, rfl, ⟨A5, c5, rfl, l5, r5⟩⟩⟩⟩⟩⟩⟩
theorem k44_mkM (w : World) (base : Nat) (ok : Nat → Prop) (x : S44) {v5 : Value} (g5 : k44.R 44 w base ok v5 x.f5) : k44.M w base ok x [.int .i64 x.f0, .int .i64 x.f1, .int .i64 x.f2, .string x.f3, .string x.f4, v5] := by
  obtain ⟨n5, q5⟩ := Kd.fix_R_back mono44 g5
  have r5 := Kd.upto_R_le mono44 sz44 (show n5 ≤ n5 by omega) q5
  exact ⟨n5 + 1, ⟨[.int .i64 x.f0], [.int .i64 x.f1, .int .i64 x.f2, .string x.f3, .string x.f4, v5], rfl, rfl, ⟨[.int .i64 x.f1], [.int .i64 x.f2, .string x.f3, .string x.f4, v5], rfl, rfl, ⟨[.int .i64 x.f2], [.string x.f3, .string x.f4, v5], rfl, rfl, ⟨[.string x.f3], [.string x.f4, v5], rfl, rfl, ⟨[.string x.f4], [v5], rfl, rfl, ⟨v5, rfl, r5⟩⟩⟩⟩⟩⟩⟩
theorem k44_openF {W : World} {ok : Nat → Prop} {x : S44} {cs : List Value} (h : Kd.FK k44 W ok x cs) : ∃ A5 c5, cs = [.int .i64 x.f0, .int .i64 x.f1, .int .i64 x.f2, .string x.f3, .string x.f4, .slice A5 x.f5.length c5] ∧ x.f5.length ≤ c5 ∧ Kd.F k44 W ok A5 x.f5.length x.f5 := by
  obtain ⟨A5, c5, rfl, l5, _⟩ := k44_open (Kd.FK_now h)
  exact ⟨A5, c5, rfl, l5, (fun W' hW => by obtain ⟨A5_, c5_, he, l5_, g5_⟩ := k44_open (h W' hW); injection (Option.some.inj (show some (Value.slice A5 x.f5.length c5) = some (Value.slice A5_ x.f5.length c5_) from congrArg (fun l => l[5]?) he)) with ha_ _ _; rw [ha_]; exact g5_)⟩
theorem k44_mkF (W : World) (ok : Nat → Prop) (x : S44) {A5 : Option Addr} {c5 : Nat} (l5 : x.f5.length ≤ c5) (g5 : Kd.F k44 W ok A5 x.f5.length x.f5) : Kd.FK k44 W ok x [.int .i64 x.f0, .int .i64 x.f1, .int .i64 x.f2, .string x.f3, .string x.f4, .slice A5 x.f5.length c5] := fun W2 hW => k44_mk W2 x l5 (g5 W2 hW)
def rd_T44 (xs : List S44) (i : Int) : S44 := xs.getD i.toNat z44
theorem at_T44 {w : World} {A : Option Addr} {n : Nat} {xs : List S44} (h : Kd.C k44 w A n xs) (i : Int) (h0 : 0 ≤ i) (h1 : i < n) : ∃ ad A5 c5, A = some ad ∧ w.cell? (ad.add (i.toNat * 6)) = some (.int .i64 (rd_T44 xs i).f0) ∧ w.cell? ⟨(ad.add (i.toNat * 6)).block, (ad.add (i.toNat * 6)).off + 1, none⟩ = some (.int .i64 (rd_T44 xs i).f1) ∧ w.cell? ⟨(ad.add (i.toNat * 6)).block, (ad.add (i.toNat * 6)).off + 2, none⟩ = some (.int .i64 (rd_T44 xs i).f2) ∧ w.cell? ⟨(ad.add (i.toNat * 6)).block, (ad.add (i.toNat * 6)).off + 3, none⟩ = some (.string (rd_T44 xs i).f3) ∧ w.cell? ⟨(ad.add (i.toNat * 6)).block, (ad.add (i.toNat * 6)).off + 4, none⟩ = some (.string (rd_T44 xs i).f4) ∧ w.cell? ⟨(ad.add (i.toNat * 6)).block, (ad.add (i.toNat * 6)).off + 5, none⟩ = some (.slice A5 (rd_T44 xs i).f5.length c5) ∧ (rd_T44 xs i).f5.length ≤ c5 ∧ k44.C w A5 (rd_T44 xs i).f5.length (rd_T44 xs i).f5 := by
  obtain ⟨ad, c, e, _, hK, hc0⟩ := Kd.C_get h z44 i h0 h1
  have hc : ∀ j u, c[j]? = some u → w.cell? (ad.add (i.toNat * 6 + j)) = some u := hc0
  obtain ⟨A5, c5, rfl, l5, g5⟩ := k44_open hK
  exact ⟨ad, A5, c5, e, hc 0 _ rfl, by rw [← add_field _ _ 1 (by omega)]; exact hc 1 _ rfl, by rw [← add_field _ _ 2 (by omega)]; exact hc 2 _ rfl, by rw [← add_field _ _ 3 (by omega)]; exact hc 3 _ rfl, by rw [← add_field _ _ 4 (by omega)]; exact hc 4 _ rfl, by rw [← add_field _ _ 5 (by omega)]; exact hc 5 _ rfl, l5, g5⟩

/-! #### struct type 82 -/
structure S82 where
  f0 : Bool
  f1 : Bool
  f2 : ByteArray
  f3 : Int
  f4 : Int
def z82 : S82 := ⟨false, false, (⟨#[]⟩ : ByteArray), (0 : Int), (0 : Int)⟩
def k82 : Kd S82 := Kd.iso (Kd.pair Kd.bool (Kd.pair Kd.bool (Kd.pair Kd.string (Kd.pair (Kd.int .i64) (Kd.int .i64))))) (fun x : S82 => (x.f0, x.f1, x.f2, x.f3, x.f4))
theorem k82_heap : Kd.Heap k82 := Kd.heap_iso _ (Kd.heap_pair Kd.heap_bool (Kd.heap_pair Kd.heap_bool (Kd.heap_pair Kd.heap_string (Kd.heap_pair (Kd.heap_int .i64) (Kd.heap_int .i64)))))
theorem k82_open {w : World} {x : S82} {cs : List Value} (h : k82.K w x cs) : cs = [.bool x.f0, .bool x.f1, .string x.f2, .int .i64 x.f3, .int .i64 x.f4] := by
  obtain ⟨_, _, rfl, rfl, ⟨_, _, rfl, rfl, ⟨_, _, rfl, rfl, ⟨_, _, rfl, rfl, rfl⟩⟩⟩⟩ := h
  exact rfl
theorem k82_openM {w : World} {base : Nat} {ok : Nat → Prop} {x : S82} {cs : List Value} (h : k82.M w base ok x cs) : cs = [.bool x.f0, .bool x.f1, .string x.f2, .int .i64 x.f3, .int .i64 x.f4] := by
  obtain ⟨_, _, rfl, rfl, ⟨_, _, rfl, rfl, ⟨_, _, rfl, rfl, ⟨_, _, rfl, rfl, rfl⟩⟩⟩⟩ := h
  exact rfl
theorem k82_mk (w : World) (x : S82)  : k82.K w x [.bool x.f0, .bool x.f1, .string x.f2, .int .i64 x.f3, .int .i64 x.f4] := ⟨[.bool x.f0], [.bool x.f1, .string x.f2, .int .i64 x.f3, .int .i64 x.f4], rfl, rfl, ⟨[.bool x.f1], [.string x.f2, .int .i64 x.f3, .int .i64 x.f4], rfl, rfl, ⟨[.string x.f2], [.int .i64 x.f3, .int .i64 x.f4], rfl, rfl, ⟨[.int .i64 x.f3], [.int .i64 x.f4], rfl, rfl, rfl⟩⟩⟩⟩
theorem k82_mkM (w : World) (base : Nat) (ok : Nat → Prop) (x : S82)  : k82.M w base ok x [.bool x.f0, .bool x.f1, .string x.f2, .int .i64 x.f3, .int .i64 x.f4] := ⟨[.bool x.f0], [.bool x.f1, .string x.f2, .int .i64 x.f3, .int .i64 x.f4], rfl, rfl, ⟨[.bool x.f1], [.string x.f2, .int .i64 x.f3, .int .i64 x.f4], rfl, rfl, ⟨[.string x.f2], [.int .i64 x.f3, .int .i64 x.f4], rfl, rfl, ⟨[.int .i64 x.f3], [.int .i64 x.f4], rfl, rfl, rfl⟩⟩⟩⟩
theorem k82_mkF (W : World) (ok : Nat → Prop) (x : S82) : Kd.FK k82 W ok x [.bool x.f0, .bool x.f1, .string x.f2, .int .i64 x.f3, .int .i64 x.f4] := fun W2 _ => k82_mk W2 x
def rd_T82 (xs : List S82) (i : Int) : S82 := xs.getD i.toNat z82
theorem at_T82 {w : World} {A : Option Addr} {n : Nat} {xs : List S82} (h : Kd.C k82 w A n xs) (i : Int) (h0 : 0 ≤ i) (h1 : i < n) : ∃ ad , A = some ad ∧ w.cell? (ad.add (i.toNat * 5)) = some (.bool (rd_T82 xs i).f0) ∧ w.cell? ⟨(ad.add (i.toNat * 5)).block, (ad.add (i.toNat * 5)).off + 1, none⟩ = some (.bool (rd_T82 xs i).f1) ∧ w.cell? ⟨(ad.add (i.toNat * 5)).block, (ad.add (i.toNat * 5)).off + 2, none⟩ = some (.string (rd_T82 xs i).f2) ∧ w.cell? ⟨(ad.add (i.toNat * 5)).block, (ad.add (i.toNat * 5)).off + 3, none⟩ = some (.int .i64 (rd_T82 xs i).f3) ∧ w.cell? ⟨(ad.add (i.toNat * 5)).block, (ad.add (i.toNat * 5)).off + 4, none⟩ = some (.int .i64 (rd_T82 xs i).f4) := by
  obtain ⟨ad, c, e, _, hK, hc0⟩ := Kd.C_get h z82 i h0 h1
  have hc : ∀ j u, c[j]? = some u → w.cell? (ad.add (i.toNat * 5 + j)) = some u := hc0
  obtain rfl := k82_open hK
  exact ⟨ad, e, hc 0 _ rfl, by rw [← add_field _ _ 1 (by omega)]; exact hc 1 _ rfl, by rw [← add_field _ _ 2 (by omega)]; exact hc 2 _ rfl, by rw [← add_field _ _ 3 (by omega)]; exact hc 3 _ rfl, by rw [← add_field _ _ 4 (by omega)]; exact hc 4 _ rfl⟩

/-! #### struct type 89, nested in itself -/
structure S89 where
  f0 : Int
  f1 : Int
  f2 : ByteArray
  f3 : Int
  f4 : S82
  f5 : S44
  f6 : (List S89)
  f7 : (List S89)
def z89 : S89 := ⟨(0 : Int), (0 : Int), (⟨#[]⟩ : ByteArray), (0 : Int), z82, z44, ([] : List S89), ([] : List S89)⟩
def F89 (d : Kd S89) : Kd S89 := Kd.iso (Kd.pair (Kd.int .i64) (Kd.pair (Kd.int .i64) (Kd.pair Kd.string (Kd.pair (Kd.int .i64) (Kd.pair k82 (Kd.pair k44 (Kd.pair (Kd.slice 89 d) (Kd.slice 89 d)))))))) (fun x : S89 => (x.f0, x.f1, x.f2, x.f3, x.f4, x.f5, x.f6, x.f7))
theorem mono89 : Kd.Mono F89 := Kd.mono_iso _ (Kd.mono_pair (Kd.mono_const _) (Kd.mono_pair (Kd.mono_const _) (Kd.mono_pair (Kd.mono_const _) (Kd.mono_pair (Kd.mono_const _) (Kd.mono_pair (Kd.mono_const _) (Kd.mono_pair (Kd.mono_const _) (Kd.mono_pair (Kd.mono_slice 89 Kd.mono_id) (Kd.mono_slice 89 Kd.mono_id))))))))
theorem sub89 : Kd.Sub F89 [44, 89] := Kd.sub_iso _ (Kd.sub_pair (Kd.sub_const _ (by decide)) (Kd.sub_pair (Kd.sub_const _ (by decide)) (Kd.sub_pair (Kd.sub_const _ (by decide)) (Kd.sub_pair (Kd.sub_const _ (by decide)) (Kd.sub_pair (Kd.sub_const _ (by decide)) (Kd.sub_pair (Kd.sub_const _ (by decide)) (Kd.sub_pair (Kd.sub_slice 89 (by decide) Kd.sub_id) (Kd.sub_slice 89 (by decide) Kd.sub_id))))))))
theorem sz89 : ∀ n, (Kd.upto F89 17 [44, 89] n).sz = 17 := Kd.upto_sz (fun _ => rfl)
def k89 : Kd S89 := Kd.fix F89 17 [44, 89] sz89 (Kd.upto_E sub89)
theorem k89_heap : Kd.Heap k89 := Kd.heap_fix (fun _ h_ => Kd.heap_iso _ (Kd.heap_pair (Kd.heap_int .i64) (Kd.heap_pair (Kd.heap_int .i64) (Kd.heap_pair Kd.heap_string (Kd.heap_pair (Kd.heap_int .i64) (Kd.heap_pair k82_heap (Kd.heap_pair k44_heap (Kd.heap_pair (Kd.heap_slice 89 h_) (Kd.heap_slice 89 h_)))))))))
theorem k89_open {w : World} {x : S89} {cs : List Value} (h : k89.K w x cs) : ∃ A14 c14 A15 c15 A16 c16, cs = [.int .i64 x.f0, .int .i64 x.f1, .string x.f2, .int .i64 x.f3, .bool x.f4.f0, .bool x.f4.f1, .string x.f4.f2, .int .i64 x.f4.f3, .int .i64 x.f4.f4, .int .i64 x.f5.f0, .int .i64 x.f5.f1, .int .i64 x.f5.f2, .string x.f5.f3, .string x.f5.f4, .slice A14 x.f5.f5.length c14, .slice A15 x.f6.length c15, .slice A16 x.f7.length c16] ∧ x.f5.f5.length ≤ c14 ∧ k44.C w A14 x.f5.f5.length x.f5.f5 ∧ x.f6.length ≤ c15 ∧ k89.C w A15 x.f6.length x.f6 ∧ x.f7.length ≤ c16 ∧ k89.C w A16 x.f7.length x.f7 := by
  obtain ⟨n, h⟩ := h
  cases n with
  | zero => exact h.elim
  | succ n =>
    obtain ⟨_, _, rfl, rfl, ⟨_, _, rfl, rfl, ⟨_, _, rfl, rfl, ⟨_, _, rfl, rfl, ⟨_, _, rfl, s4, ⟨_, _, rfl, s9, ⟨_, _, rfl, ⟨A15, c15, rfl, l15, g15⟩, ⟨A16, c16, rfl, l16, g16⟩⟩⟩⟩⟩⟩⟩⟩ := h
    obtain rfl := k82_open s4
    obtain ⟨A14, c14, rfl, l14, g14⟩ := k44_open s9
    exact ⟨A14, c14, A15, c15, A16, c16, rfl, l14, g14, l15, Kd.fix_C g15, l16, Kd.fix_C g16⟩
theorem k89_openM {w : World} {base : Nat} {ok : Nat → Prop} {x : S89} {cs : List Value} (h : k89.M w base ok x cs) : ∃ v14 v15 v16, cs = [.int .i64 x.f0, .int .i64 x.f1, .string x.f2, .int .i64 x.f3, .bool x.f4.f0, .bool x.f4.f1, .string x.f4.f2, .int .i64 x.f4.f3, .int .i64 x.f4.f4, .int .i64 x.f5.f0, .int .i64 x.f5.f1, .int .i64 x.f5.f2, .string x.f5.f3, .string x.f5.f4, v14, v15, v16] ∧ k44.R 44 w base ok v14 x.f5.f5 ∧ k89.R 89 w base ok v15 x.f6 ∧ k89.R 89 w base ok v16 x.f7 := by
  obtain ⟨n, h⟩ := h
  cases n with
  | zero => exact h.elim
  | succ n =>
    obtain ⟨_, _, rfl, rfl, ⟨_, _, rfl, rfl, ⟨_, _, rfl, rfl, ⟨_, _, rfl, rfl, ⟨_, _, rfl, s4, ⟨_, _, rfl, s9, ⟨_, _, rfl, ⟨v15, rfl, g15⟩, ⟨v16, rfl, g16⟩⟩⟩⟩⟩⟩⟩⟩ := h
    obtain rfl := k82_openM s4
    obtain ⟨v14, rfl, g14⟩ := k44_openM s9
    exact ⟨v14, v15, v16, rfl, g14, Kd.fix_R g15, Kd.fix_R g16⟩
theorem k89_mk (w : World) (x : S89) {A14 : Option Addr} {c14 : Nat} (l14 : x.f5.f5.length ≤ c14) (g14 : k44.C w A14 x.f5.f5.length x.f5.f5) {A15 : Option Addr} {c15 : Nat} (l15 : x.f6.length ≤ c15) (g15 : k89.C w A15 x.f6.length x.f6) {A16 : Option Addr} {c16 : Nat} (l16 : x.f7.length ≤ c16) (g16 : k89.C w A16 x.f7.length x.f7) : k89.K w x [.int .i64 x.f0, .int .i64 x.f1, .string x.f2, .int .i64 x.f3, .bool x.f4.f0, .bool x.f4.f1, .string x.f4.f2, .int .i64 x.f4.f3, .int .i64 x.f4.f4, .int .i64 x.f5.f0, .int .i64 x.f5.f1, .int .i64 x.f5.f2, .string x.f5.f3, .string x.f5.f4, .slice A14 x.f5.f5.length c14, .slice A15 x.f6.length c15, .slice A16 x.f7.length c16] := by
  obtain ⟨n15, q15⟩ := Kd.fix_C_back mono89 g15
  obtain ⟨n16, q16⟩ := Kd.fix_C_back mono89 g16
  have r15 := Kd.upto_C_le mono89 sz89 (show n15 ≤ (max n15 n16) by omega) q15
  have r16 := Kd.upto_C_le mono89 sz89 (show n16 ≤ (max n15 n16) by omega) q16
  exact ⟨(max n15 n16) + 1, ⟨[.int .i64 x.f0], [.int .i64 x.f1, .string x.f2, .int .i64 x.f3, .bool x.f4.f0, .bool x.f4.f1, .string x.f4.f2, .int .i64 x.f4.f3, .int .i64 x.f4.f4, .int .i64 x.f5.f0, .int .i64 x.f5.f1, .int .i64 x.f5.f2, .string x.f5.f3, .string x.f5.f4, .slice A14 x.f5.f5.length c14, .slice A15 x.f6.length c15, .slice A16 x.f7.length c16], rfl, rfl, ⟨[.int .i64 x.f1], [.string x.f2, .int .i64 x.f3, .bool x.f4.f0, .bool x.f4.f1, .string x.f4.f2, .int .i64 x.f4.f3, .int .i64 x.f4.f4, .int .i64 x.f5.f0, .int .i64 x.f5.f1, .int .i64 x.f5.f2, .string x.f5.f3, .string x.f5.f4, .slice A14 x.f5.f5.length c14, .slice A15 x.f6.length c15, .slice A16 x.f7.length c16], rfl, rfl, ⟨[.string x.f2], [.int .i64 x.f3, .bool x.f4.f0, .bool x.f4.f1, .string x.f4.f2, .int .i64 x.f4.f3, .int .i64 x.f4.f4, .int .i64 x.f5.f0, .int .i64 x.f5.f1, .int .i64 x.f5.f2, .string x.f5.f3, .string x.f5.f4, .slice A14 x.f5.f5.length c14, .slice A15 x.f6.length c15, .slice A16 x.f7.length c16], rfl, rfl, ⟨[.int .i64 x.f3], [.bool x.f4.f0, .bool x.f4.f1, .string x.f4.f2, .int .i64 x.f4.f3, .int .i64 x.f4.f4, .int .i64 x.f5.f0, .int .i64 x.f5.f1, .int .i64 x.f5.f2, .string x.f5.f3, .string x.f5.f4, .slice A14 x.f5.f5.length c14, .slice A15 x.f6.length c15, .slice A16 x.f7.length c16], rfl, rfl, ⟨[.bool x.f4.f0, .bool x.f4.f1, .string x.f4.f2, .int .i64 x.f4.f3, .int .i64 x.f4.f4], [.int .i64 x.f5.f0, .int .i64 x.f5.f1, .int .i64 x.f5.f2, .string x.f5.f3, .string x.f5.f4, .slice A14 x.f5.f5.length c14, .slice A15 x.f6.length c15, .slice A16 x.f7.length c16], rfl, (k82_mk w x.f4 ), ⟨[.int .i64 x.f5.f0, .int .i64 x.f5.f1, .int .i64 x.f5.f2, .string x.f5.f3, .string x.f5.f4, .slice A14 x.f5.f5.length c14], [.slice A15 x.f6.length c15, .slice A16 x.f7.length c16], rfl, (k44_mk w x.f5 l14 g14), ⟨[.slice A15 x.f6.length c15], [.slice A16 x.f7.length c16], rfl, ⟨A15, c15, rfl, l15, r15⟩, ⟨A16, c16, rfl, l16, r16⟩⟩⟩⟩⟩⟩⟩⟩⟩
theorem k89_mkM (w : World) (base : Nat) (ok : Nat → Prop) (x : S89) {v14 : Value} (g14 : k44.R 44 w base ok v14 x.f5.f5) {v15 : Value} (g15 : k89.R 89 w base ok v15 x.f6) {v16 : Value} (g16 : k89.R 89 w base ok v16 x.f7) : k89.M w base ok x [.int .i64 x.f0, .int .i64 x.f1, .string x.f2, .int .i64 x.f3, .bool x.f4.f0, .bool x.f4.f1, .string x.f4.f2, .int .i64 x.f4.f3, .int .i64 x.f4.f4, .int .i64 x.f5.f0, .int .i64 x.f5.f1, .int .i64 x.f5.f2, .string x.f5.f3, .string x.f5.f4, v14, v15, v16] := by
  obtain ⟨n15, q15⟩ := Kd.fix_R_back mono89 g15
  obtain ⟨n16, q16⟩ := Kd.fix_R_back mono89 g16
  have r15 := Kd.upto_R_le mono89 sz89 (show n15 ≤ (max n15 n16) by omega) q15
  have r16 := Kd.upto_R_le mono89 sz89 (show n16 ≤ (max n15 n16) by omega) q16
  exact ⟨(max n15 n16) + 1, ⟨[.int .i64 x.f0], [.int .i64 x.f1, .string x.f2, .int .i64 x.f3, .bool x.f4.f0, .bool x.f4.f1, .string x.f4.f2, .int .i64 x.f4.f3, .int .i64 x.f4.f4, .int .i64 x.f5.f0, .int .i64 x.f5.f1, .int .i64 x.f5.f2, .string x.f5.f3, .string x.f5.f4, v14, v15, v16], rfl, rfl, ⟨[.int .i64 x.f1], [.string x.f2, .int .i64 x.f3, .bool x.f4.f0, .bool x.f4.f1, .string x.f4.f2, .int .i64 x.f4.f3, .int .i64 x.f4.f4, .int .i64 x.f5.f0, .int .i64 x.f5.f1, .int .i64 x.f5.f2, .string x.f5.f3, .string x.f5.f4, v14, v15, v16], rfl, rfl, ⟨[.string x.f2], [.int .i64 x.f3, .bool x.f4.f0, .bool x.f4.f1, .string x.f4.f2, .int .i64 x.f4.f3, .int .i64 x.f4.f4, .int .i64 x.f5.f0, .int .i64 x.f5.f1, .int .i64 x.f5.f2, .string x.f5.f3, .string x.f5.f4, v14, v15, v16], rfl, rfl, ⟨[.int .i64 x.f3], [.bool x.f4.f0, .bool x.f4.f1, .string x.f4.f2, .int .i64 x.f4.f3, .int .i64 x.f4.f4, .int .i64 x.f5.f0, .int .i64 x.f5.f1, .int .i64 x.f5.f2, .string x.f5.f3, .string x.f5.f4, v14, v15, v16], rfl, rfl, ⟨[.bool x.f4.f0, .bool x.f4.f1, .string x.f4.f2, .int .i64 x.f4.f3, .int .i64 x.f4.f4], [.int .i64 x.f5.f0, .int .i64 x.f5.f1, .int .i64 x.f5.f2, .string x.f5.f3, .string x.f5.f4, v14, v15, v16], rfl, (k82_mkM w base ok x.f4 ), ⟨[.int .i64 x.f5.f0, .int .i64 x.f5.f1, .int .i64 x.f5.f2, .string x.f5.f3, .string x.f5.f4, v14], [v15, v16], rfl, (k44_mkM w base ok x.f5 g14), ⟨[v15], [v16], rfl, ⟨v15, rfl, r15⟩, ⟨v16, rfl, r16⟩⟩⟩⟩⟩⟩⟩⟩⟩
theorem k89_openF {W : World} {ok : Nat → Prop} {x : S89} {cs : List Value} (h : Kd.FK k89 W ok x cs) : ∃ A14 c14 A15 c15 A16 c16, cs = [.int .i64 x.f0, .int .i64 x.f1, .string x.f2, .int .i64 x.f3, .bool x.f4.f0, .bool x.f4.f1, .string x.f4.f2, .int .i64 x.f4.f3, .int .i64 x.f4.f4, .int .i64 x.f5.f0, .int .i64 x.f5.f1, .int .i64 x.f5.f2, .string x.f5.f3, .string x.f5.f4, .slice A14 x.f5.f5.length c14, .slice A15 x.f6.length c15, .slice A16 x.f7.length c16] ∧ x.f5.f5.length ≤ c14 ∧ Kd.F k44 W ok A14 x.f5.f5.length x.f5.f5 ∧ x.f6.length ≤ c15 ∧ Kd.F k89 W ok A15 x.f6.length x.f6 ∧ x.f7.length ≤ c16 ∧ Kd.F k89 W ok A16 x.f7.length x.f7 := by
  obtain ⟨A14, c14, A15, c15, A16, c16, rfl, l14, _, l15, _, l16, _⟩ := k89_open (Kd.FK_now h)
  exact ⟨A14, c14, A15, c15, A16, c16, rfl, l14, (fun W' hW => by obtain ⟨A14_, c14_, A15_, c15_, A16_, c16_, he, l14_, g14_, l15_, g15_, l16_, g16_⟩ := k89_open (h W' hW); injection (Option.some.inj (show some (Value.slice A14 x.f5.f5.length c14) = some (Value.slice A14_ x.f5.f5.length c14_) from congrArg (fun l => l[14]?) he)) with ha_ _ _; rw [ha_]; exact g14_), l15, (fun W' hW => by obtain ⟨A14_, c14_, A15_, c15_, A16_, c16_, he, l14_, g14_, l15_, g15_, l16_, g16_⟩ := k89_open (h W' hW); injection (Option.some.inj (show some (Value.slice A15 x.f6.length c15) = some (Value.slice A15_ x.f6.length c15_) from congrArg (fun l => l[15]?) he)) with ha_ _ _; rw [ha_]; exact g15_), l16, (fun W' hW => by obtain ⟨A14_, c14_, A15_, c15_, A16_, c16_, he, l14_, g14_, l15_, g15_, l16_, g16_⟩ := k89_open (h W' hW); injection (Option.some.inj (show some (Value.slice A16 x.f7.length c16) = some (Value.slice A16_ x.f7.length c16_) from congrArg (fun l => l[16]?) he)) with ha_ _ _; rw [ha_]; exact g16_)⟩
theorem k89_mkF (W : World) (ok : Nat → Prop) (x : S89) {A14 : Option Addr} {c14 : Nat} (l14 : x.f5.f5.length ≤ c14) (g14 : Kd.F k44 W ok A14 x.f5.f5.length x.f5.f5) {A15 : Option Addr} {c15 : Nat} (l15 : x.f6.length ≤ c15) (g15 : Kd.F k89 W ok A15 x.f6.length x.f6) {A16 : Option Addr} {c16 : Nat} (l16 : x.f7.length ≤ c16) (g16 : Kd.F k89 W ok A16 x.f7.length x.f7) : Kd.FK k89 W ok x [.int .i64 x.f0, .int .i64 x.f1, .string x.f2, .int .i64 x.f3, .bool x.f4.f0, .bool x.f4.f1, .string x.f4.f2, .int .i64 x.f4.f3, .int .i64 x.f4.f4, .int .i64 x.f5.f0, .int .i64 x.f5.f1, .int .i64 x.f5.f2, .string x.f5.f3, .string x.f5.f4, .slice A14 x.f5.f5.length c14, .slice A15 x.f6.length c15, .slice A16 x.f7.length c16] := fun W2 hW => k89_mk W2 x l14 (g14 W2 hW) l15 (g15 W2 hW) l16 (g16 W2 hW)
def rd_T89 (xs : List S89) (i : Int) : S89 := xs.getD i.toNat z89
theorem at_T89 {w : World} {A : Option Addr} {n : Nat} {xs : List S89} (h : Kd.C k89 w A n xs) (i : Int) (h0 : 0 ≤ i) (h1 : i < n) : ∃ ad A14 c14 A15 c15 A16 c16, A = some ad ∧ w.cell? (ad.add (i.toNat * 17)) = some (.int .i64 (rd_T89 xs i).f0) ∧ w.cell? ⟨(ad.add (i.toNat * 17)).block, (ad.add (i.toNat * 17)).off + 1, none⟩ = some (.int .i64 (rd_T89 xs i).f1) ∧ w.cell? ⟨(ad.add (i.toNat * 17)).block, (ad.add (i.toNat * 17)).off + 2, none⟩ = some (.string (rd_T89 xs i).f2) ∧ w.cell? ⟨(ad.add (i.toNat * 17)).block, (ad.add (i.toNat * 17)).off + 3, none⟩ = some (.int .i64 (rd_T89 xs i).f3) ∧ w.cell? ⟨(ad.add (i.toNat * 17)).block, (ad.add (i.toNat * 17)).off + 4, none⟩ = some (.bool (rd_T89 xs i).f4.f0) ∧ w.cell? ⟨(ad.add (i.toNat * 17)).block, (ad.add (i.toNat * 17)).off + 5, none⟩ = some (.bool (rd_T89 xs i).f4.f1) ∧ w.cell? ⟨(ad.add (i.toNat * 17)).block, (ad.add (i.toNat * 17)).off + 6, none⟩ = some (.string (rd_T89 xs i).f4.f2) ∧ w.cell? ⟨(ad.add (i.toNat * 17)).block, (ad.add (i.toNat * 17)).off + 7, none⟩ = some (.int .i64 (rd_T89 xs i).f4.f3) ∧ w.cell? ⟨(ad.add (i.toNat * 17)).block, (ad.add (i.toNat * 17)).off + 8, none⟩ = some (.int .i64 (rd_T89 xs i).f4.f4) ∧ w.cell? ⟨(ad.add (i.toNat * 17)).block, (ad.add (i.toNat * 17)).off + 9, none⟩ = some (.int .i64 (rd_T89 xs i).f5.f0) ∧ w.cell? ⟨(ad.add (i.toNat * 17)).block, (ad.add (i.toNat * 17)).off + 10, none⟩ = some (.int .i64 (rd_T89 xs i).f5.f1) ∧ w.cell? ⟨(ad.add (i.toNat * 17)).block, (ad.add (i.toNat * 17)).off + 11, none⟩ = some (.int .i64 (rd_T89 xs i).f5.f2) ∧ w.cell? ⟨(ad.add (i.toNat * 17)).block, (ad.add (i.toNat * 17)).off + 12, none⟩ = some (.string (rd_T89 xs i).f5.f3) ∧ w.cell? ⟨(ad.add (i.toNat * 17)).block, (ad.add (i.toNat * 17)).off + 13, none⟩ = some (.string (rd_T89 xs i).f5.f4) ∧ w.cell? ⟨(ad.add (i.toNat * 17)).block, (ad.add (i.toNat * 17)).off + 14, none⟩ = some (.slice A14 (rd_T89 xs i).f5.f5.length c14) ∧ w.cell? ⟨(ad.add (i.toNat * 17)).block, (ad.add (i.toNat * 17)).off + 15, none⟩ = some (.slice A15 (rd_T89 xs i).f6.length c15) ∧ w.cell? ⟨(ad.add (i.toNat * 17)).block, (ad.add (i.toNat * 17)).off + 16, none⟩ = some (.slice A16 (rd_T89 xs i).f7.length c16) ∧ (rd_T89 xs i).f5.f5.length ≤ c14 ∧ k44.C w A14 (rd_T89 xs i).f5.f5.length (rd_T89 xs i).f5.f5 ∧ (rd_T89 xs i).f6.length ≤ c15 ∧ k89.C w A15 (rd_T89 xs i).f6.length (rd_T89 xs i).f6 ∧ (rd_T89 xs i).f7.length ≤ c16 ∧ k89.C w A16 (rd_T89 xs i).f7.length (rd_T89 xs i).f7 := by
  obtain ⟨ad, c, e, _, hK, hc0⟩ := Kd.C_get h z89 i h0 h1
  have hc : ∀ j u, c[j]? = some u → w.cell? (ad.add (i.toNat * 17 + j)) = some u := hc0
  obtain ⟨A14, c14, A15, c15, A16, c16, rfl, l14, g14, l15, g15, l16, g16⟩ := k89_open hK
  exact ⟨ad, A14, c14, A15, c15, A16, c16, e, hc 0 _ rfl, by rw [← add_field _ _ 1 (by omega)]; exact hc 1 _ rfl, by rw [← add_field _ _ 2 (by omega)]; exact hc 2 _ rfl, by rw [← add_field _ _ 3 (by omega)]; exact hc 3 _ rfl, by rw [← add_field _ _ 4 (by omega)]; exact hc 4 _ rfl, by rw [← add_field _ _ 5 (by omega)]; exact hc 5 _ rfl, by rw [← add_field _ _ 6 (by omega)]; exact hc 6 _ rfl, by rw [← add_field _ _ 7 (by omega)]; exact hc 7 _ rfl, by rw [← add_field _ _ 8 (by omega)]; exact hc 8 _ rfl, by rw [← add_field _ _ 9 (by omega)]; exact hc 9 _ rfl, by rw [← add_field _ _ 10 (by omega)]; exact hc 10 _ rfl, by rw [← add_field _ _ 11 (by omega)]; exact hc 11 _ rfl, by rw [← add_field _ _ 12 (by omega)]; exact hc 12 _ rfl, by rw [← add_field _ _ 13 (by omega)]; exact hc 13 _ rfl, by rw [← add_field _ _ 14 (by omega)]; exact hc 14 _ rfl, by rw [← add_field _ _ 15 (by omega)]; exact hc 15 _ rfl, by rw [← add_field _ _ 16 (by omega)]; exact hc 16 _ rfl, l14, g14, l15, g15, l16, g16⟩


end Go.Proofs.Yteoccoklbmjiaaa.PStn
