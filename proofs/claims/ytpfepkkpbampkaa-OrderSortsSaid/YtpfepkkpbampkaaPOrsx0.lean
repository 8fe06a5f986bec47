-- By cprint.py, a program of this work. Lean checks it.
import Derived.Test.YtpfepkkpbampkaaProg
import Derived.Test.YtpfepkkpbampkaaBinLaws
import Derived.Test.YtpfepkkpbampkaaCArr
import Derived.Test.YtpfepkkpbampkaaCOpens
namespace Go.Proofs.Ytpfepkkpbampkaa.POrs
open Go.RowKit Go.Proofs.YtpfepkkpbampkaaW.PrintWords Go.Proofs.YtpfepkkpbampkaaW.PrintLast Go.Proofs.YtpfepkkpbampkaaW.PrintMore
set_option linter.unusedVariables false
set_option linter.unusedSimpArgs false

theorem info3 : (Try.prog.info? 3).map (fun i => (i.zero, i.size, i.bytes)) = some (some (.int .i64 0), 1, 8) := by kernel_rfl
theorem info5 : (Try.prog.info? 5).map (fun i => (i.zero, i.size, i.bytes)) = some (some (.int .u8 0), 1, 1) := by kernel_rfl
theorem info9 : (Try.prog.info? 9).map (fun i => (i.zero, i.size, i.bytes)) = some (some (.string ⟨#[]⟩), 1, 16) := by kernel_rfl
theorem info25 : (Try.prog.info? 25).map (fun i => (i.zero, i.size, i.bytes)) = some (some (.agg #[(.string ⟨#[]⟩), (.string ⟨#[]⟩), (.int .i64 0)]), 3, 40) := by kernel_rfl
def rd_L1 (xs : List (List ByteArray)) (i : Int) : (List ByteArray) := xs.getD i.toNat ([] : List ByteArray)
theorem at_L1 {w : World} {A : Option Addr} {n : Nat} {xs : List (List ByteArray)} (h : Kd.C (Kd.slice 9 Kd.string) w A n xs) (i : Int) (h0 : 0 ≤ i) (h1 : i < n) : ∃ ad A0 c0, A = some ad ∧ w.cell? (ad.add i.toNat) = some (.slice A0 (rd_L1 xs i).length c0) ∧ (rd_L1 xs i).length ≤ c0 ∧ Kd.string.C w A0 (rd_L1 xs i).length (rd_L1 xs i) := by
  obtain ⟨ad, c, e, _, hK, hc0⟩ := Kd.C_get h ([] : List ByteArray) i h0 h1
  have hc : ∀ j u, c[j]? = some u → w.cell? (ad.add (i.toNat * 1 + j)) = some u := hc0
  obtain ⟨A0, c0, rfl, l0, g0⟩ := hK
  exact ⟨ad, A0, c0, e, by have hq := hc 0 _ rfl; rwa [Nat.mul_one, Nat.add_zero] at hq, l0, g0⟩

/-! #### struct type 47 -/
structure S47 where
  f0 : (List ByteArray)
  f1 : (List (ByteArray × Int))
  f2 : (List Int)
  f3 : (List Int)
def z47 : S47 := ⟨([] : List ByteArray), ([] : List (ByteArray × Int)), (List.replicate 64 0), (List.replicate 64 0)⟩
def k47 : Kd S47 := Kd.iso (Kd.pair (Kd.slice 9 Kd.string) (Kd.pair (Kd.mp Value.string (Value.int .i64)) (Kd.pair (Kd.ar 64 (Value.int .u64) (fun _ => rfl)) (Kd.ar 64 (Value.int .u64) (fun _ => rfl))))) (fun x : S47 => (x.f0, x.f1, x.f2, x.f3))
theorem k47_heap : Kd.Heap k47 := Kd.heap_iso _ (Kd.heap_pair (Kd.heap_slice 9 Kd.heap_string) (Kd.heap_pair (Kd.heap_mp _ _) (Kd.heap_pair (Kd.heap_ar _ _ _) (Kd.heap_ar _ _ _))))
theorem k47_openF {W : World} {ok : Nat → Prop} {x : S47} {cs : List Value} (h : Kd.FK k47 W ok x cs) : ∃ A0 c0 v1, cs = [.slice A0 x.f0.length c0, v1] ++ (List.map (Value.int .u64) x.f2 ++ (List.map (Value.int .u64) x.f3)) ∧ x.f0.length ≤ c0 ∧ Kd.F Kd.string W ok A0 x.f0.length x.f0 ∧ Kd.FK (Kd.mp Value.string (Value.int .i64)) W ok x.f1 [v1] ∧ x.f2.length = 64 ∧ x.f3.length = 64 := by
  replace h : Kd.FK (Kd.pair (Kd.slice 9 Kd.string) (Kd.pair (Kd.mp Value.string (Value.int .i64)) (Kd.pair (Kd.ar 64 (Value.int .u64) (fun _ => rfl)) (Kd.ar 64 (Value.int .u64) (fun _ => rfl))))) W ok ((fun x : S47 => (x.f0, x.f1, x.f2, x.f3)) x) cs := h
  obtain ⟨c_0, r_0, rfl, h_0, hr_0⟩ := Kd.pair_openF (a := (Kd.slice 9 Kd.string)) (b := (Kd.pair (Kd.mp Value.string (Value.int .i64)) (Kd.pair (Kd.ar 64 (Value.int .u64) (fun _ => rfl)) (Kd.ar 64 (Value.int .u64) (fun _ => rfl))))) h
  obtain ⟨A0, c0, rfl, l0, g0⟩ := slice_openF h_0
  obtain ⟨c_1, r_1, rfl, h_1, hr_1⟩ := Kd.pair_openF (a := (Kd.mp Value.string (Value.int .i64))) (b := (Kd.pair (Kd.ar 64 (Value.int .u64) (fun _ => rfl)) (Kd.ar 64 (Value.int .u64) (fun _ => rfl)))) hr_0
  obtain ⟨v1, rfl, g1⟩ := Kd.mp_openF h_1
  obtain ⟨c_2, r_2, rfl, h_2, hr_2⟩ := Kd.pair_openF (a := (Kd.ar 64 (Value.int .u64) (fun _ => rfl))) (b := (Kd.ar 64 (Value.int .u64) (fun _ => rfl))) hr_1
  obtain ⟨g2, rfl⟩ := Kd.ar_openF h_2
  obtain ⟨g3, rfl⟩ := Kd.ar_openF hr_2
  exact ⟨A0, c0, v1, rfl, l0, g0, g1, g2, g3⟩
theorem k47_mkF (W : World) (ok : Nat → Prop) (x : S47) {A0 : Option Addr} {c0 : Nat} (l0 : x.f0.length ≤ c0) (g0 : Kd.F Kd.string W ok A0 x.f0.length x.f0) {v1 : Value} (g1 : Kd.FK (Kd.mp Value.string (Value.int .i64)) W ok x.f1 [v1]) (g2 : x.f2.length = 64) (g3 : x.f3.length = 64) : Kd.FK k47 W ok x ([.slice A0 x.f0.length c0, v1] ++ (List.map (Value.int .u64) x.f2 ++ (List.map (Value.int .u64) x.f3))) := Kd.pair_mkF (a := (Kd.slice 9 Kd.string)) (b := (Kd.pair (Kd.mp Value.string (Value.int .i64)) (Kd.pair (Kd.ar 64 (Value.int .u64) (fun _ => rfl)) (Kd.ar 64 (Value.int .u64) (fun _ => rfl))))) (x := (x.f0, x.f1, x.f2, x.f3)) (c0 := [.slice A0 x.f0.length c0]) (fun W2 hW => ⟨A0, c0, rfl, l0, g0 W2 hW⟩) (Kd.pair_mkF (a := (Kd.mp Value.string (Value.int .i64))) (b := (Kd.pair (Kd.ar 64 (Value.int .u64) (fun _ => rfl)) (Kd.ar 64 (Value.int .u64) (fun _ => rfl)))) (x := (x.f1, x.f2, x.f3)) (c0 := [v1]) g1 (Kd.pair_mkF (a := (Kd.ar 64 (Value.int .u64) (fun _ => rfl))) (b := (Kd.ar 64 (Value.int .u64) (fun _ => rfl))) (x := (x.f2, x.f3)) (c0 := List.map (Value.int .u64) x.f2) (fun _ _ => ⟨g2, rfl⟩) ((fun _ _ => ⟨g3, rfl⟩))))
def rd_T47 (xs : List S47) (i : Int) : S47 := xs.getD i.toNat z47

/-! #### struct type 25 -/
structure S25 where
  f0 : ByteArray
  f1 : ByteArray
  f2 : Int
def z25 : S25 := ⟨(⟨#[]⟩ : ByteArray), (⟨#[]⟩ : ByteArray), (0 : Int)⟩
def k25 : Kd S25 := Kd.iso (Kd.pair Kd.string (Kd.pair Kd.string (Kd.int .i64))) (fun x : S25 => (x.f0, x.f1, x.f2))
theorem k25_heap : Kd.Heap k25 := Kd.heap_iso _ (Kd.heap_pair Kd.heap_string (Kd.heap_pair Kd.heap_string (Kd.heap_int .i64)))
theorem k25_open {w : World} {x : S25} {cs : List Value} (h : k25.K w x cs) : cs = [.string x.f0, .string x.f1, .int .i64 x.f2] := by
  obtain ⟨_, _, rfl, rfl, ⟨_, _, rfl, rfl, rfl⟩⟩ := h
  exact rfl
theorem k25_openM {w : World} {base : Nat} {ok : Nat → Prop} {x : S25} {cs : List Value} (h : k25.M w base ok x cs) : cs = [.string x.f0, .string x.f1, .int .i64 x.f2] := by
  obtain ⟨_, _, rfl, rfl, ⟨_, _, rfl, rfl, rfl⟩⟩ := h
  exact rfl
theorem k25_mk (w : World) (x : S25)  : k25.K w x [.string x.f0, .string x.f1, .int .i64 x.f2] := ⟨[.string x.f0], [.string x.f1, .int .i64 x.f2], rfl, rfl, ⟨[.string x.f1], [.int .i64 x.f2], rfl, rfl, rfl⟩⟩
theorem k25_mkM (w : World) (base : Nat) (ok : Nat → Prop) (x : S25)  : k25.M w base ok x [.string x.f0, .string x.f1, .int .i64 x.f2] := ⟨[.string x.f0], [.string x.f1, .int .i64 x.f2], rfl, rfl, ⟨[.string x.f1], [.int .i64 x.f2], rfl, rfl, rfl⟩⟩
theorem k25_mkF (W : World) (ok : Nat → Prop) (x : S25) : Kd.FK k25 W ok x [.string x.f0, .string x.f1, .int .i64 x.f2] := fun W2 _ => k25_mk W2 x
def rd_T25 (xs : List S25) (i : Int) : S25 := xs.getD i.toNat z25
theorem at_T25 {w : World} {A : Option Addr} {n : Nat} {xs : List S25} (h : Kd.C k25 w A n xs) (i : Int) (h0 : 0 ≤ i) (h1 : i < n) : ∃ ad , A = some ad ∧ w.cell? (ad.add (i.toNat * 3)) = some (.string (rd_T25 xs i).f0) ∧ w.cell? ⟨(ad.add (i.toNat * 3)).block, (ad.add (i.toNat * 3)).off + 1, none⟩ = some (.string (rd_T25 xs i).f1) ∧ w.cell? ⟨(ad.add (i.toNat * 3)).block, (ad.add (i.toNat * 3)).off + 2, none⟩ = some (.int .i64 (rd_T25 xs i).f2) := by
  obtain ⟨ad, c, e, _, hK, hc0⟩ := Kd.C_get h z25 i h0 h1
  have hc : ∀ j u, c[j]? = some u → w.cell? (ad.add (i.toNat * 3 + j)) = some u := hc0
  obtain rfl := k25_open hK
  exact ⟨ad, e, hc 0 _ rfl, by rw [← add_field _ _ 1 (by omega)]; exact hc 1 _ rfl, by rw [← add_field _ _ 2 (by omega)]; exact hc 2 _ rfl⟩

def Ok25 (x : S25) : Prop := (x.f0.size ≤ 140737488351232) ∧ (x.f1.size ≤ 140737488351232) ∧ ((Lit.int .i64 x.f2).wf = true)
theorem opens25 : ∀ M, OpensTo Try.prog M 25 k25 Ok25 := fun M => OpensTo.less (opens_struct (M := M) (f := fun x : S25 => (x.f0, x.f1, x.f2)) (fun p => (⟨p.1, p.2.1, p.2.2⟩ : S25)) (fun _ => rfl) (fun _ h => h) Try.underlying25 (by kernel_rfl) (l := [({ name := "Low", type := 9, offset := 0, embedded := false, tag := "", pkgPath := "", byteOffset := 0 } : Field), ({ name := "High", type := 9, offset := 1, embedded := false, tag := "", pkgPath := "", byteOffset := 16 } : Field), ({ name := "At", type := 3, offset := 2, embedded := false, tag := "", pkgPath := "", byteOffset := 32 } : Field)]) rfl (opens_cons (f := ({ name := "Low", type := 9, offset := 0, embedded := false, tag := "", pkgPath := "", byteOffset := 0 } : Field)) (opens_string Try.underlying9) rfl (by kernel_rfl) (opens_cons (f := ({ name := "High", type := 9, offset := 1, embedded := false, tag := "", pkgPath := "", byteOffset := 16 } : Field)) (opens_string Try.underlying9) rfl (by kernel_rfl) (opens_one (f := ({ name := "At", type := 3, offset := 2, embedded := false, tag := "", pkgPath := "", byteOffset := 32 } : Field)) (opens_int Try.underlying3) rfl (by kernel_rfl))))) (Nat.le_succ M)
end Go.Proofs.Ytpfepkkpbampkaa.POrs
