-- By cprint.py, a program of this work. Lean checks it.
import Derived.Test.YtnhcpdepjpfcfaaProg
import Derived.Test.YtnhcpdepjpfcfaaBinLaws
import Derived.Test.YtnhcpdepjpfcfaaCArr
import Derived.Test.YtnhcpdepjpfcfaaCOpens
namespace Go.Proofs.Ytnhcpdepjpfcfaa.PRow
open Go.RowKit Go.Proofs.YtnhcpdepjpfcfaaW.PrintWords Go.Proofs.YtnhcpdepjpfcfaaW.PrintLast Go.Proofs.YtnhcpdepjpfcfaaW.PrintMore
set_option linter.unusedVariables false
set_option linter.unusedSimpArgs false

theorem info3 : (Try.prog.info? 3).map (fun i => (i.zero, i.size, i.bytes)) = some (some (.int .i64 0), 1, 8) := by kernel_rfl
theorem info5 : (Try.prog.info? 5).map (fun i => (i.zero, i.size, i.bytes)) = some (some (.int .u8 0), 1, 1) := by kernel_rfl
theorem info9 : (Try.prog.info? 9).map (fun i => (i.zero, i.size, i.bytes)) = some (some (.string ⟨#[]⟩), 1, 16) := by kernel_rfl
theorem info25 : (Try.prog.info? 25).map (fun i => (i.zero, i.size, i.bytes)) = some (some (.agg #[(.string ⟨#[]⟩), (.int .i64 0)]), 2, 24) := by kernel_rfl
/-! #### struct type 25 -/
structure S25 where
  f0 : ByteArray
  f1 : Int
def z25 : S25 := ⟨(⟨#[]⟩ : ByteArray), (0 : Int)⟩
def k25 : Kd S25 := Kd.iso (Kd.pair Kd.string (Kd.int .i64)) (fun x : S25 => (x.f0, x.f1))
theorem k25_heap : Kd.Heap k25 := Kd.heap_iso _ (Kd.heap_pair Kd.heap_string (Kd.heap_int .i64))
theorem k25_open {w : World} {x : S25} {cs : List Value} (h : k25.K w x cs) : cs = [.string x.f0, .int .i64 x.f1] := by
  obtain ⟨_, _, rfl, rfl, rfl⟩ := h
  exact rfl
theorem k25_openM {w : World} {base : Nat} {ok : Nat → Prop} {x : S25} {cs : List Value} (h : k25.M w base ok x cs) : cs = [.string x.f0, .int .i64 x.f1] := by
  obtain ⟨_, _, rfl, rfl, rfl⟩ := h
  exact rfl
theorem k25_mk (w : World) (x : S25)  : k25.K w x [.string x.f0, .int .i64 x.f1] := ⟨[.string x.f0], [.int .i64 x.f1], rfl, rfl, rfl⟩
theorem k25_mkM (w : World) (base : Nat) (ok : Nat → Prop) (x : S25)  : k25.M w base ok x [.string x.f0, .int .i64 x.f1] := ⟨[.string x.f0], [.int .i64 x.f1], rfl, rfl, rfl⟩
theorem k25_mkF (W : World) (ok : Nat → Prop) (x : S25) : Kd.FK k25 W ok x [.string x.f0, .int .i64 x.f1] := fun W2 _ => k25_mk W2 x
def rd_T25 (xs : List S25) (i : Int) : S25 := xs.getD i.toNat z25
theorem at_T25 {w : World} {A : Option Addr} {n : Nat} {xs : List S25} (h : Kd.C k25 w A n xs) (i : Int) (h0 : 0 ≤ i) (h1 : i < n) : ∃ ad , A = some ad ∧ w.cell? (ad.add (i.toNat * 2)) = some (.string (rd_T25 xs i).f0) ∧ w.cell? ⟨(ad.add (i.toNat * 2)).block, (ad.add (i.toNat * 2)).off + 1, none⟩ = some (.int .i64 (rd_T25 xs i).f1) := by
  obtain ⟨ad, c, e, _, hK, hc0⟩ := Kd.C_get h z25 i h0 h1
  have hc : ∀ j u, c[j]? = some u → w.cell? (ad.add (i.toNat * 2 + j)) = some u := hc0
  obtain rfl := k25_open hK
  exact ⟨ad, e, hc 0 _ rfl, by rw [← add_field _ _ 1 (by omega)]; exact hc 1 _ rfl⟩

def rd_L4 (xs : List (List ByteArray)) (i : Int) : (List ByteArray) := xs.getD i.toNat ([] : List ByteArray)
theorem at_L4 {w : World} {A : Option Addr} {n : Nat} {xs : List (List ByteArray)} (h : Kd.C (Kd.slice 9 Kd.string) w A n xs) (i : Int) (h0 : 0 ≤ i) (h1 : i < n) : ∃ ad A0 c0, A = some ad ∧ w.cell? (ad.add i.toNat) = some (.slice A0 (rd_L4 xs i).length c0) ∧ (rd_L4 xs i).length ≤ c0 ∧ Kd.string.C w A0 (rd_L4 xs i).length (rd_L4 xs i) := by
  obtain ⟨ad, c, e, _, hK, hc0⟩ := Kd.C_get h ([] : List ByteArray) i h0 h1
  have hc : ∀ j u, c[j]? = some u → w.cell? (ad.add (i.toNat * 1 + j)) = some u := hc0
  obtain ⟨A0, c0, rfl, l0, g0⟩ := hK
  exact ⟨ad, A0, c0, e, by have hq := hc 0 _ rfl; rwa [Nat.mul_one, Nat.add_zero] at hq, l0, g0⟩

/-! #### struct type 91 -/
structure S91 where
  f0 : (List ByteArray)
  f1 : (List (ByteArray × Int))
def z91 : S91 := ⟨([] : List ByteArray), ([] : List (ByteArray × Int))⟩
def k91 : Kd S91 := Kd.iso (Kd.pair (Kd.slice 9 Kd.string) (Kd.mp Value.string (Value.int .i64))) (fun x : S91 => (x.f0, x.f1))
theorem k91_heap : Kd.Heap k91 := Kd.heap_iso _ (Kd.heap_pair (Kd.heap_slice 9 Kd.heap_string) (Kd.heap_mp _ _))
theorem k91_openF {W : World} {ok : Nat → Prop} {x : S91} {cs : List Value} (h : Kd.FK k91 W ok x cs) : ∃ A0 c0 v1, cs = [.slice A0 x.f0.length c0, v1] ∧ x.f0.length ≤ c0 ∧ Kd.F Kd.string W ok A0 x.f0.length x.f0 ∧ Kd.FK (Kd.mp Value.string (Value.int .i64)) W ok x.f1 [v1] := by
  replace h : Kd.FK (Kd.pair (Kd.slice 9 Kd.string) (Kd.mp Value.string (Value.int .i64))) W ok ((fun x : S91 => (x.f0, x.f1)) x) cs := h
  obtain ⟨c_0, r_0, rfl, h_0, hr_0⟩ := Kd.pair_openF (a := (Kd.slice 9 Kd.string)) (b := (Kd.mp Value.string (Value.int .i64))) h
  obtain ⟨A0, c0, rfl, l0, g0⟩ := slice_openF h_0
  obtain ⟨v1, rfl, g1⟩ := Kd.mp_openF hr_0
  exact ⟨A0, c0, v1, rfl, l0, g0, g1⟩
theorem k91_mkF (W : World) (ok : Nat → Prop) (x : S91) {A0 : Option Addr} {c0 : Nat} (l0 : x.f0.length ≤ c0) (g0 : Kd.F Kd.string W ok A0 x.f0.length x.f0) {v1 : Value} (g1 : Kd.FK (Kd.mp Value.string (Value.int .i64)) W ok x.f1 [v1]) : Kd.FK k91 W ok x ([.slice A0 x.f0.length c0, v1]) := Kd.pair_mkF (a := (Kd.slice 9 Kd.string)) (b := (Kd.mp Value.string (Value.int .i64))) (x := (x.f0, x.f1)) (c0 := [.slice A0 x.f0.length c0]) (fun W2 hW => ⟨A0, c0, rfl, l0, g0 W2 hW⟩) (g1)
def rd_T91 (xs : List S91) (i : Int) : S91 := xs.getD i.toNat z91

def Ok25 (x : S25) : Prop := (x.f0.size ≤ 140737488351232) ∧ ((Lit.int .i64 x.f1).wf = true)
theorem opens25 : ∀ M, OpensTo Try.prog M 25 k25 Ok25 := fun M => OpensTo.less (opens_struct (M := M) (f := fun x : S25 => (x.f0, x.f1)) (fun p => (⟨p.1, p.2⟩ : S25)) (fun _ => rfl) (fun _ h => h) Try.underlying25 (by kernel_rfl) (l := [({ name := "Name", type := 9, offset := 0, embedded := false, tag := "", pkgPath := "", byteOffset := 0 } : Field), ({ name := "At", type := 3, offset := 1, embedded := false, tag := "", pkgPath := "", byteOffset := 16 } : Field)]) rfl (opens_cons (f := ({ name := "Name", type := 9, offset := 0, embedded := false, tag := "", pkgPath := "", byteOffset := 0 } : Field)) (opens_string Try.underlying9) rfl (by kernel_rfl) (opens_one (f := ({ name := "At", type := 3, offset := 1, embedded := false, tag := "", pkgPath := "", byteOffset := 16 } : Field)) (opens_int Try.underlying3) rfl (by kernel_rfl)))) (Nat.le_succ M)
end Go.Proofs.Ytnhcpdepjpfcfaa.PRow
