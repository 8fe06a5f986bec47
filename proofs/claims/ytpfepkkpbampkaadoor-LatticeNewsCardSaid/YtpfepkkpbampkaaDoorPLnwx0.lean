-- By cprint.py, a program of this work. Lean checks it.
import Derived.Test.YtpfepkkpbampkaaDoorProg
import Derived.Test.YtpfepkkpbampkaaDoorBinLaws
import Derived.Test.YtpfepkkpbampkaaDoorCArr
import Derived.Test.YtpfepkkpbampkaaDoorCOpens
import Derived.Test.YtpfepkkpbampkaaDoorCSync
namespace Go.Proofs.YtpfepkkpbampkaaDoor.PLnw
open Go.RowKit Go.Proofs.YtpfepkkpbampkaaDoorW.PrintWords Go.Proofs.YtpfepkkpbampkaaDoorW.PrintLast Go.Proofs.YtpfepkkpbampkaaDoorW.PrintMore
set_option linter.unusedVariables false
set_option linter.unusedSimpArgs false

theorem info3 : (Tryd.prog.info? 3).map (fun i => (i.zero, i.size, i.bytes)) = some (some (.int .i64 0), 1, 8) := by kernel_rfl
theorem info4 : (Tryd.prog.info? 4).map (fun i => (i.zero, i.size, i.bytes)) = some (some (.bool false), 1, 1) := by kernel_rfl
theorem info5 : (Tryd.prog.info? 5).map (fun i => (i.zero, i.size, i.bytes)) = some (some (.int .u8 0), 1, 1) := by kernel_rfl
theorem info9 : (Tryd.prog.info? 9).map (fun i => (i.zero, i.size, i.bytes)) = some (some (.string ⟨#[]⟩), 1, 16) := by kernel_rfl
theorem info23 : (Tryd.prog.info? 23).map (fun i => (i.zero, i.size, i.bytes)) = some (some (.slice none 0 0), 1, 24) := by kernel_rfl
theorem info53 : (Tryd.prog.info? 53).map (fun i => (i.zero, i.size, i.bytes)) = some (some (.agg #[(.string ⟨#[]⟩), (.string ⟨#[]⟩), (.int .i64 0)]), 3, 40) := by kernel_rfl
theorem info74 : (Tryd.prog.info? 74).map (fun i => (i.zero, i.size, i.bytes)) = some (some (.slice none 0 0), 1, 24) := by kernel_rfl
/-! #### struct type 53 -/
structure S53 where
  f0 : ByteArray
  f1 : ByteArray
  f2 : Int
def z53 : S53 := ⟨(⟨#[]⟩ : ByteArray), (⟨#[]⟩ : ByteArray), (0 : Int)⟩
def k53 : Kd S53 := Kd.iso (Kd.pair Kd.string (Kd.pair Kd.string (Kd.int .i64))) (fun x : S53 => (x.f0, x.f1, x.f2))
theorem k53_heap : Kd.Heap k53 := Kd.heap_iso _ (Kd.heap_pair Kd.heap_string (Kd.heap_pair Kd.heap_string (Kd.heap_int .i64)))
theorem k53_open {w : World} {x : S53} {cs : List Value} (h : k53.K w x cs) : cs = [.string x.f0, .string x.f1, .int .i64 x.f2] := by
  obtain ⟨_, _, rfl, rfl, ⟨_, _, rfl, rfl, rfl⟩⟩ := h
  exact rfl
theorem k53_openM {w : World} {base : Nat} {ok : Nat → Prop} {x : S53} {cs : List Value} (h : k53.M w base ok x cs) : cs = [.string x.f0, .string x.f1, .int .i64 x.f2] := by
  obtain ⟨_, _, rfl, rfl, ⟨_, _, rfl, rfl, rfl⟩⟩ := h
  exact rfl
theorem k53_mk (w : World) (x : S53)  : k53.K w x [.string x.f0, .string x.f1, .int .i64 x.f2] := ⟨[.string x.f0], [.string x.f1, .int .i64 x.f2], rfl, rfl, ⟨[.string x.f1], [.int .i64 x.f2], rfl, rfl, rfl⟩⟩
theorem k53_mkM (w : World) (base : Nat) (ok : Nat → Prop) (x : S53)  : k53.M w base ok x [.string x.f0, .string x.f1, .int .i64 x.f2] := ⟨[.string x.f0], [.string x.f1, .int .i64 x.f2], rfl, rfl, ⟨[.string x.f1], [.int .i64 x.f2], rfl, rfl, rfl⟩⟩
theorem k53_mkF (W : World) (ok : Nat → Prop) (x : S53) : Kd.FK k53 W ok x [.string x.f0, .string x.f1, .int .i64 x.f2] := fun W2 _ => k53_mk W2 x
def rd_T53 (xs : List S53) (i : Int) : S53 := xs.getD i.toNat z53
theorem at_T53 {w : World} {A : Option Addr} {n : Nat} {xs : List S53} (h : Kd.C k53 w A n xs) (i : Int) (h0 : 0 ≤ i) (h1 : i < n) : ∃ ad , A = some ad ∧ w.cell? (ad.add (i.toNat * 3)) = some (.string (rd_T53 xs i).f0) ∧ w.cell? ⟨(ad.add (i.toNat * 3)).block, (ad.add (i.toNat * 3)).off + 1, none⟩ = some (.string (rd_T53 xs i).f1) ∧ w.cell? ⟨(ad.add (i.toNat * 3)).block, (ad.add (i.toNat * 3)).off + 2, none⟩ = some (.int .i64 (rd_T53 xs i).f2) := by
  obtain ⟨ad, c, e, _, hK, hc0⟩ := Kd.C_get h z53 i h0 h1
  have hc : ∀ j u, c[j]? = some u → w.cell? (ad.add (i.toNat * 3 + j)) = some u := hc0
  obtain rfl := k53_open hK
  exact ⟨ad, e, hc 0 _ rfl, by rw [← add_field _ _ 1 (by omega)]; exact hc 1 _ rfl, by rw [← add_field _ _ 2 (by omega)]; exact hc 2 _ rfl⟩

def rd_L3 (xs : List (List ByteArray)) (i : Int) : (List ByteArray) := xs.getD i.toNat ([] : List ByteArray)
theorem at_L3 {w : World} {A : Option Addr} {n : Nat} {xs : List (List ByteArray)} (h : Kd.C (Kd.slice 9 Kd.string) w A n xs) (i : Int) (h0 : 0 ≤ i) (h1 : i < n) : ∃ ad A0 c0, A = some ad ∧ w.cell? (ad.add i.toNat) = some (.slice A0 (rd_L3 xs i).length c0) ∧ (rd_L3 xs i).length ≤ c0 ∧ Kd.string.C w A0 (rd_L3 xs i).length (rd_L3 xs i) := by
  obtain ⟨ad, c, e, _, hK, hc0⟩ := Kd.C_get h ([] : List ByteArray) i h0 h1
  have hc : ∀ j u, c[j]? = some u → w.cell? (ad.add (i.toNat * 1 + j)) = some u := hc0
  obtain ⟨A0, c0, rfl, l0, g0⟩ := hK
  exact ⟨ad, A0, c0, e, by have hq := hc 0 _ rfl; rwa [Nat.mul_one, Nat.add_zero] at hq, l0, g0⟩

/-! #### struct type 81 -/
structure S81 where
  f0 : (List ByteArray)
  f1 : (List (ByteArray × Int))
  f2 : (List Int)
  f3 : (List Int)
def z81 : S81 := ⟨([] : List ByteArray), ([] : List (ByteArray × Int)), (List.replicate 64 0), (List.replicate 64 0)⟩
def k81 : Kd S81 := Kd.iso (Kd.pair (Kd.slice 9 Kd.string) (Kd.pair (Kd.mp Value.string (Value.int .i64)) (Kd.pair (Kd.ar 64 (Value.int .u64) (fun _ => rfl)) (Kd.ar 64 (Value.int .u64) (fun _ => rfl))))) (fun x : S81 => (x.f0, x.f1, x.f2, x.f3))
theorem k81_heap : Kd.Heap k81 := Kd.heap_iso _ (Kd.heap_pair (Kd.heap_slice 9 Kd.heap_string) (Kd.heap_pair (Kd.heap_mp _ _) (Kd.heap_pair (Kd.heap_ar _ _ _) (Kd.heap_ar _ _ _))))
theorem k81_openF {W : World} {ok : Nat → Prop} {x : S81} {cs : List Value} (h : Kd.FK k81 W ok x cs) : ∃ A0 c0 v1, cs = [.slice A0 x.f0.length c0, v1] ++ (List.map (Value.int .u64) x.f2 ++ (List.map (Value.int .u64) x.f3)) ∧ x.f0.length ≤ c0 ∧ Kd.F Kd.string W ok A0 x.f0.length x.f0 ∧ Kd.FK (Kd.mp Value.string (Value.int .i64)) W ok x.f1 [v1] ∧ x.f2.length = 64 ∧ x.f3.length = 64 := by
  replace h : Kd.FK (Kd.pair (Kd.slice 9 Kd.string) (Kd.pair (Kd.mp Value.string (Value.int .i64)) (Kd.pair (Kd.ar 64 (Value.int .u64) (fun _ => rfl)) (Kd.ar 64 (Value.int .u64) (fun _ => rfl))))) W ok ((fun x : S81 => (x.f0, x.f1, x.f2, x.f3)) x) cs := h
  obtain ⟨c_0, r_0, rfl, h_0, hr_0⟩ := Kd.pair_openF (a := (Kd.slice 9 Kd.string)) (b := (Kd.pair (Kd.mp Value.string (Value.int .i64)) (Kd.pair (Kd.ar 64 (Value.int .u64) (fun _ => rfl)) (Kd.ar 64 (Value.int .u64) (fun _ => rfl))))) h
  obtain ⟨A0, c0, rfl, l0, g0⟩ := slice_openF h_0
  obtain ⟨c_1, r_1, rfl, h_1, hr_1⟩ := Kd.pair_openF (a := (Kd.mp Value.string (Value.int .i64))) (b := (Kd.pair (Kd.ar 64 (Value.int .u64) (fun _ => rfl)) (Kd.ar 64 (Value.int .u64) (fun _ => rfl)))) hr_0
  obtain ⟨v1, rfl, g1⟩ := Kd.mp_openF h_1
  obtain ⟨c_2, r_2, rfl, h_2, hr_2⟩ := Kd.pair_openF (a := (Kd.ar 64 (Value.int .u64) (fun _ => rfl))) (b := (Kd.ar 64 (Value.int .u64) (fun _ => rfl))) hr_1
  obtain ⟨g2, rfl⟩ := Kd.ar_openF h_2
  obtain ⟨g3, rfl⟩ := Kd.ar_openF hr_2
  exact ⟨A0, c0, v1, rfl, l0, g0, g1, g2, g3⟩
theorem k81_mkF (W : World) (ok : Nat → Prop) (x : S81) {A0 : Option Addr} {c0 : Nat} (l0 : x.f0.length ≤ c0) (g0 : Kd.F Kd.string W ok A0 x.f0.length x.f0) {v1 : Value} (g1 : Kd.FK (Kd.mp Value.string (Value.int .i64)) W ok x.f1 [v1]) (g2 : x.f2.length = 64) (g3 : x.f3.length = 64) : Kd.FK k81 W ok x ([.slice A0 x.f0.length c0, v1] ++ (List.map (Value.int .u64) x.f2 ++ (List.map (Value.int .u64) x.f3))) := Kd.pair_mkF (a := (Kd.slice 9 Kd.string)) (b := (Kd.pair (Kd.mp Value.string (Value.int .i64)) (Kd.pair (Kd.ar 64 (Value.int .u64) (fun _ => rfl)) (Kd.ar 64 (Value.int .u64) (fun _ => rfl))))) (x := (x.f0, x.f1, x.f2, x.f3)) (c0 := [.slice A0 x.f0.length c0]) (fun W2 hW => ⟨A0, c0, rfl, l0, g0 W2 hW⟩) (Kd.pair_mkF (a := (Kd.mp Value.string (Value.int .i64))) (b := (Kd.pair (Kd.ar 64 (Value.int .u64) (fun _ => rfl)) (Kd.ar 64 (Value.int .u64) (fun _ => rfl)))) (x := (x.f1, x.f2, x.f3)) (c0 := [v1]) g1 (Kd.pair_mkF (a := (Kd.ar 64 (Value.int .u64) (fun _ => rfl))) (b := (Kd.ar 64 (Value.int .u64) (fun _ => rfl))) (x := (x.f2, x.f3)) (c0 := List.map (Value.int .u64) x.f2) (fun _ _ => ⟨g2, rfl⟩) ((fun _ _ => ⟨g3, rfl⟩))))
def rd_T81 (xs : List S81) (i : Int) : S81 := xs.getD i.toNat z81

/-! #### struct type 92 -/
structure S92 where
  f0 : Int
def z92 : S92 := ⟨(0 : Int)⟩
def k92 : Kd S92 := Kd.iso (Kd.int .u32) (fun x : S92 => x.f0)
theorem k92_heap : Kd.Heap k92 := Kd.heap_iso _ (Kd.heap_int .u32)
theorem k92_open {w : World} {x : S92} {cs : List Value} (h : k92.K w x cs) : cs = [.int .u32 x.f0] := by
  obtain rfl := h
  exact rfl
theorem k92_openM {w : World} {base : Nat} {ok : Nat → Prop} {x : S92} {cs : List Value} (h : k92.M w base ok x cs) : cs = [.int .u32 x.f0] := by
  obtain rfl := h
  exact rfl
theorem k92_mk (w : World) (x : S92)  : k92.K w x [.int .u32 x.f0] := rfl
theorem k92_mkM (w : World) (base : Nat) (ok : Nat → Prop) (x : S92)  : k92.M w base ok x [.int .u32 x.f0] := rfl
theorem k92_mkF (W : World) (ok : Nat → Prop) (x : S92) : Kd.FK k92 W ok x [.int .u32 x.f0] := fun W2 _ => k92_mk W2 x
def rd_T92 (xs : List S92) (i : Int) : S92 := xs.getD i.toNat z92
theorem at_T92 {w : World} {A : Option Addr} {n : Nat} {xs : List S92} (h : Kd.C k92 w A n xs) (i : Int) (h0 : 0 ≤ i) (h1 : i < n) : ∃ ad , A = some ad ∧ w.cell? (ad.add i.toNat) = some (.int .u32 (rd_T92 xs i).f0) := by
  obtain ⟨ad, c, e, _, hK, hc0⟩ := Kd.C_get h z92 i h0 h1
  have hc : ∀ j u, c[j]? = some u → w.cell? (ad.add (i.toNat * 1 + j)) = some u := hc0
  obtain rfl := k92_open hK
  exact ⟨ad, e, by have hq := hc 0 _ rfl; rwa [Nat.mul_one, Nat.add_zero] at hq⟩

/-! #### struct type 94 -/
structure S94 where
  f0 : Int
  f1 : Int
def z94 : S94 := ⟨(0 : Int), (0 : Int)⟩
def k94 : Kd S94 := Kd.iso (Kd.pair (Kd.int .i32) (Kd.int .u32)) (fun x : S94 => (x.f0, x.f1))
theorem k94_heap : Kd.Heap k94 := Kd.heap_iso _ (Kd.heap_pair (Kd.heap_int .i32) (Kd.heap_int .u32))
theorem k94_open {w : World} {x : S94} {cs : List Value} (h : k94.K w x cs) : cs = [.int .i32 x.f0, .int .u32 x.f1] := by
  obtain ⟨_, _, rfl, rfl, rfl⟩ := h
  exact rfl
theorem k94_openM {w : World} {base : Nat} {ok : Nat → Prop} {x : S94} {cs : List Value} (h : k94.M w base ok x cs) : cs = [.int .i32 x.f0, .int .u32 x.f1] := by
  obtain ⟨_, _, rfl, rfl, rfl⟩ := h
  exact rfl
theorem k94_mk (w : World) (x : S94)  : k94.K w x [.int .i32 x.f0, .int .u32 x.f1] := ⟨[.int .i32 x.f0], [.int .u32 x.f1], rfl, rfl, rfl⟩
theorem k94_mkM (w : World) (base : Nat) (ok : Nat → Prop) (x : S94)  : k94.M w base ok x [.int .i32 x.f0, .int .u32 x.f1] := ⟨[.int .i32 x.f0], [.int .u32 x.f1], rfl, rfl, rfl⟩
theorem k94_mkF (W : World) (ok : Nat → Prop) (x : S94) : Kd.FK k94 W ok x [.int .i32 x.f0, .int .u32 x.f1] := fun W2 _ => k94_mk W2 x
def rd_T94 (xs : List S94) (i : Int) : S94 := xs.getD i.toNat z94
theorem at_T94 {w : World} {A : Option Addr} {n : Nat} {xs : List S94} (h : Kd.C k94 w A n xs) (i : Int) (h0 : 0 ≤ i) (h1 : i < n) : ∃ ad , A = some ad ∧ w.cell? (ad.add (i.toNat * 2)) = some (.int .i32 (rd_T94 xs i).f0) ∧ w.cell? ⟨(ad.add (i.toNat * 2)).block, (ad.add (i.toNat * 2)).off + 1, none⟩ = some (.int .u32 (rd_T94 xs i).f1) := by
  obtain ⟨ad, c, e, _, hK, hc0⟩ := Kd.C_get h z94 i h0 h1
  have hc : ∀ j u, c[j]? = some u → w.cell? (ad.add (i.toNat * 2 + j)) = some u := hc0
  obtain rfl := k94_open hK
  exact ⟨ad, e, hc 0 _ rfl, by rw [← add_field _ _ 1 (by omega)]; exact hc 1 _ rfl⟩

/-! #### struct type 96 -/
structure S96 where
  f0 : S94
def z96 : S96 := ⟨z94⟩
def k96 : Kd S96 := Kd.iso k94 (fun x : S96 => x.f0)
theorem k96_heap : Kd.Heap k96 := Kd.heap_iso _ k94_heap
theorem k96_open {w : World} {x : S96} {cs : List Value} (h : k96.K w x cs) : cs = [.int .i32 x.f0.f0, .int .u32 x.f0.f1] := by
  obtain rfl := k94_open (x := x.f0) h
  exact rfl
theorem k96_openM {w : World} {base : Nat} {ok : Nat → Prop} {x : S96} {cs : List Value} (h : k96.M w base ok x cs) : cs = [.int .i32 x.f0.f0, .int .u32 x.f0.f1] := by
  obtain rfl := k94_openM (x := x.f0) h
  exact rfl
theorem k96_mk (w : World) (x : S96)  : k96.K w x [.int .i32 x.f0.f0, .int .u32 x.f0.f1] := (k94_mk w x.f0 )
theorem k96_mkM (w : World) (base : Nat) (ok : Nat → Prop) (x : S96)  : k96.M w base ok x [.int .i32 x.f0.f0, .int .u32 x.f0.f1] := (k94_mkM w base ok x.f0 )
theorem k96_mkF (W : World) (ok : Nat → Prop) (x : S96) : Kd.FK k96 W ok x [.int .i32 x.f0.f0, .int .u32 x.f0.f1] := fun W2 _ => k96_mk W2 x
def rd_T96 (xs : List S96) (i : Int) : S96 := xs.getD i.toNat z96
theorem at_T96 {w : World} {A : Option Addr} {n : Nat} {xs : List S96} (h : Kd.C k96 w A n xs) (i : Int) (h0 : 0 ≤ i) (h1 : i < n) : ∃ ad , A = some ad ∧ w.cell? (ad.add (i.toNat * 2)) = some (.int .i32 (rd_T96 xs i).f0.f0) ∧ w.cell? ⟨(ad.add (i.toNat * 2)).block, (ad.add (i.toNat * 2)).off + 1, none⟩ = some (.int .u32 (rd_T96 xs i).f0.f1) := by
  obtain ⟨ad, c, e, _, hK, hc0⟩ := Kd.C_get h z96 i h0 h1
  have hc : ∀ j u, c[j]? = some u → w.cell? (ad.add (i.toNat * 2 + j)) = some u := hc0
  obtain rfl := k96_open hK
  exact ⟨ad, e, hc 0 _ rfl, by rw [← add_field _ _ 1 (by omega)]; exact hc 1 _ rfl⟩

/-! #### struct type 98 -/
structure S98 where
  f0 : S92
  f1 : S96
def z98 : S98 := ⟨z92, z96⟩
def k98 : Kd S98 := Kd.iso (Kd.pair k92 k96) (fun x : S98 => (x.f0, x.f1))
theorem k98_heap : Kd.Heap k98 := Kd.heap_iso _ (Kd.heap_pair k92_heap k96_heap)
theorem k98_open {w : World} {x : S98} {cs : List Value} (h : k98.K w x cs) : cs = [.int .u32 x.f0.f0, .int .i32 x.f1.f0.f0, .int .u32 x.f1.f0.f1] := by
  obtain ⟨_, _, rfl, s0, s1⟩ := h
  obtain rfl := k92_open s0
  obtain rfl := k96_open s1
  exact rfl
theorem k98_openM {w : World} {base : Nat} {ok : Nat → Prop} {x : S98} {cs : List Value} (h : k98.M w base ok x cs) : cs = [.int .u32 x.f0.f0, .int .i32 x.f1.f0.f0, .int .u32 x.f1.f0.f1] := by
  obtain ⟨_, _, rfl, s0, s1⟩ := h
  obtain rfl := k92_openM s0
  obtain rfl := k96_openM s1
  exact rfl
theorem k98_mk (w : World) (x : S98)  : k98.K w x [.int .u32 x.f0.f0, .int .i32 x.f1.f0.f0, .int .u32 x.f1.f0.f1] := ⟨[.int .u32 x.f0.f0], [.int .i32 x.f1.f0.f0, .int .u32 x.f1.f0.f1], rfl, (k92_mk w x.f0 ), (k96_mk w x.f1 )⟩
theorem k98_mkM (w : World) (base : Nat) (ok : Nat → Prop) (x : S98)  : k98.M w base ok x [.int .u32 x.f0.f0, .int .i32 x.f1.f0.f0, .int .u32 x.f1.f0.f1] := ⟨[.int .u32 x.f0.f0], [.int .i32 x.f1.f0.f0, .int .u32 x.f1.f0.f1], rfl, (k92_mkM w base ok x.f0 ), (k96_mkM w base ok x.f1 )⟩
theorem k98_mkF (W : World) (ok : Nat → Prop) (x : S98) : Kd.FK k98 W ok x [.int .u32 x.f0.f0, .int .i32 x.f1.f0.f0, .int .u32 x.f1.f0.f1] := fun W2 _ => k98_mk W2 x
def rd_T98 (xs : List S98) (i : Int) : S98 := xs.getD i.toNat z98
theorem at_T98 {w : World} {A : Option Addr} {n : Nat} {xs : List S98} (h : Kd.C k98 w A n xs) (i : Int) (h0 : 0 ≤ i) (h1 : i < n) : ∃ ad , A = some ad ∧ w.cell? (ad.add (i.toNat * 3)) = some (.int .u32 (rd_T98 xs i).f0.f0) ∧ w.cell? ⟨(ad.add (i.toNat * 3)).block, (ad.add (i.toNat * 3)).off + 1, none⟩ = some (.int .i32 (rd_T98 xs i).f1.f0.f0) ∧ w.cell? ⟨(ad.add (i.toNat * 3)).block, (ad.add (i.toNat * 3)).off + 2, none⟩ = some (.int .u32 (rd_T98 xs i).f1.f0.f1) := by
  obtain ⟨ad, c, e, _, hK, hc0⟩ := Kd.C_get h z98 i h0 h1
  have hc : ∀ j u, c[j]? = some u → w.cell? (ad.add (i.toNat * 3 + j)) = some u := hc0
  obtain rfl := k98_open hK
  exact ⟨ad, e, hc 0 _ rfl, by rw [← add_field _ _ 1 (by omega)]; exact hc 1 _ rfl, by rw [← add_field _ _ 2 (by omega)]; exact hc 2 _ rfl⟩

/-! #### struct type 105 -/
structure S105 where
  f0 : Int
def z105 : S105 := ⟨(0 : Int)⟩
def k105 : Kd S105 := Kd.iso (Kd.int .i64) (fun x : S105 => x.f0)
theorem k105_heap : Kd.Heap k105 := Kd.heap_iso _ (Kd.heap_int .i64)
theorem k105_open {w : World} {x : S105} {cs : List Value} (h : k105.K w x cs) : cs = [.int .i64 x.f0] := by
  obtain rfl := h
  exact rfl
theorem k105_openM {w : World} {base : Nat} {ok : Nat → Prop} {x : S105} {cs : List Value} (h : k105.M w base ok x cs) : cs = [.int .i64 x.f0] := by
  obtain rfl := h
  exact rfl
theorem k105_mk (w : World) (x : S105)  : k105.K w x [.int .i64 x.f0] := rfl
theorem k105_mkM (w : World) (base : Nat) (ok : Nat → Prop) (x : S105)  : k105.M w base ok x [.int .i64 x.f0] := rfl
theorem k105_mkF (W : World) (ok : Nat → Prop) (x : S105) : Kd.FK k105 W ok x [.int .i64 x.f0] := fun W2 _ => k105_mk W2 x
def rd_T105 (xs : List S105) (i : Int) : S105 := xs.getD i.toNat z105
theorem at_T105 {w : World} {A : Option Addr} {n : Nat} {xs : List S105} (h : Kd.C k105 w A n xs) (i : Int) (h0 : 0 ≤ i) (h1 : i < n) : ∃ ad , A = some ad ∧ w.cell? (ad.add i.toNat) = some (.int .i64 (rd_T105 xs i).f0) := by
  obtain ⟨ad, c, e, _, hK, hc0⟩ := Kd.C_get h z105 i h0 h1
  have hc : ∀ j u, c[j]? = some u → w.cell? (ad.add (i.toNat * 1 + j)) = some u := hc0
  obtain rfl := k105_open hK
  exact ⟨ad, e, by have hq := hc 0 _ rfl; rwa [Nat.mul_one, Nat.add_zero] at hq⟩

/-! #### struct type 107 -/
structure S107 where
  f0 : (Option S81)
  f1 : S98
  f2 : (List Int)
  f3 : (List Int)
  f4 : S105
def z107 : S107 := ⟨(none : Option S81), z98, (List.replicate 4096 0), (List.replicate 4096 0), z105⟩
def k107 : Kd S107 := Kd.iso (Kd.pair (Kd.ptr 81 k81) (Kd.pair k98 (Kd.pair (Kd.ar 4096 (Value.int .i8) (fun _ => rfl)) (Kd.pair (Kd.ar 4096 (Value.int .i8) (fun _ => rfl)) k105)))) (fun x : S107 => (x.f0, x.f1, x.f2, x.f3, x.f4))
theorem k107_heap : Kd.Heap k107 := Kd.heap_iso _ (Kd.heap_pair (Kd.heap_ptr 81 k81_heap) (Kd.heap_pair k98_heap (Kd.heap_pair (Kd.heap_ar _ _ _) (Kd.heap_pair (Kd.heap_ar _ _ _) k105_heap))))
theorem k107_openF {W : World} {ok : Nat → Prop} {x : S107} {cs : List Value} (h : Kd.FK k107 W ok x cs) : ∃ v0, cs = [v0, .int .u32 x.f1.f0.f0, .int .i32 x.f1.f1.f0.f0, .int .u32 x.f1.f1.f0.f1] ++ (List.map (Value.int .i8) x.f2 ++ (List.map (Value.int .i8) x.f3 ++ ([.int .i64 x.f4.f0]))) ∧ Kd.FK (Kd.ptr 81 k81) W ok x.f0 [v0] ∧ x.f2.length = 4096 ∧ x.f3.length = 4096 := by
  replace h : Kd.FK (Kd.pair (Kd.ptr 81 k81) (Kd.pair k98 (Kd.pair (Kd.ar 4096 (Value.int .i8) (fun _ => rfl)) (Kd.pair (Kd.ar 4096 (Value.int .i8) (fun _ => rfl)) k105)))) W ok ((fun x : S107 => (x.f0, x.f1, x.f2, x.f3, x.f4)) x) cs := h
  obtain ⟨c_0, r_0, rfl, h_0, hr_0⟩ := Kd.pair_openF (a := (Kd.ptr 81 k81)) (b := (Kd.pair k98 (Kd.pair (Kd.ar 4096 (Value.int .i8) (fun _ => rfl)) (Kd.pair (Kd.ar 4096 (Value.int .i8) (fun _ => rfl)) k105)))) h
  obtain ⟨v0, rfl, g0⟩ := Kd.ptr_openF h_0
  obtain ⟨c_1, r_1, rfl, h_1, hr_1⟩ := Kd.pair_openF (a := k98) (b := (Kd.pair (Kd.ar 4096 (Value.int .i8) (fun _ => rfl)) (Kd.pair (Kd.ar 4096 (Value.int .i8) (fun _ => rfl)) k105))) hr_0
  obtain rfl := k98_open (Kd.FK_now h_1)
  obtain ⟨c_2, r_2, rfl, h_2, hr_2⟩ := Kd.pair_openF (a := (Kd.ar 4096 (Value.int .i8) (fun _ => rfl))) (b := (Kd.pair (Kd.ar 4096 (Value.int .i8) (fun _ => rfl)) k105)) hr_1
  obtain ⟨g4, rfl⟩ := Kd.ar_openF h_2
  obtain ⟨c_3, r_3, rfl, h_3, hr_3⟩ := Kd.pair_openF (a := (Kd.ar 4096 (Value.int .i8) (fun _ => rfl))) (b := k105) hr_2
  obtain ⟨g5, rfl⟩ := Kd.ar_openF h_3
  obtain rfl := k105_open (Kd.FK_now hr_3)
  exact ⟨v0, rfl, g0, g4, g5⟩
theorem k107_mkF (W : World) (ok : Nat → Prop) (x : S107) {v0 : Value} (g0 : Kd.FK (Kd.ptr 81 k81) W ok x.f0 [v0]) (g4 : x.f2.length = 4096) (g5 : x.f3.length = 4096) : Kd.FK k107 W ok x ([v0, .int .u32 x.f1.f0.f0, .int .i32 x.f1.f1.f0.f0, .int .u32 x.f1.f1.f0.f1] ++ (List.map (Value.int .i8) x.f2 ++ (List.map (Value.int .i8) x.f3 ++ ([.int .i64 x.f4.f0])))) := Kd.pair_mkF (a := (Kd.ptr 81 k81)) (b := (Kd.pair k98 (Kd.pair (Kd.ar 4096 (Value.int .i8) (fun _ => rfl)) (Kd.pair (Kd.ar 4096 (Value.int .i8) (fun _ => rfl)) k105)))) (x := (x.f0, x.f1, x.f2, x.f3, x.f4)) (c0 := [v0]) g0 (Kd.pair_mkF (a := k98) (b := (Kd.pair (Kd.ar 4096 (Value.int .i8) (fun _ => rfl)) (Kd.pair (Kd.ar 4096 (Value.int .i8) (fun _ => rfl)) k105))) (x := (x.f1, x.f2, x.f3, x.f4)) (c0 := [.int .u32 x.f1.f0.f0, .int .i32 x.f1.f1.f0.f0, .int .u32 x.f1.f1.f0.f1]) (k98_mkF W ok x.f1) (Kd.pair_mkF (a := (Kd.ar 4096 (Value.int .i8) (fun _ => rfl))) (b := (Kd.pair (Kd.ar 4096 (Value.int .i8) (fun _ => rfl)) k105)) (x := (x.f2, x.f3, x.f4)) (c0 := List.map (Value.int .i8) x.f2) (fun _ _ => ⟨g4, rfl⟩) (Kd.pair_mkF (a := (Kd.ar 4096 (Value.int .i8) (fun _ => rfl))) (b := k105) (x := (x.f3, x.f4)) (c0 := List.map (Value.int .i8) x.f3) (fun _ _ => ⟨g5, rfl⟩) ((k105_mkF W ok x.f4)))))
def rd_T107 (xs : List S107) (i : Int) : S107 := xs.getD i.toNat z107

def rd_L20 (xs : List (List Bool)) (i : Int) : (List Bool) := xs.getD i.toNat ([] : List Bool)
theorem at_L20 {w : World} {A : Option Addr} {n : Nat} {xs : List (List Bool)} (h : Kd.C (Kd.slice 4 Kd.bool) w A n xs) (i : Int) (h0 : 0 ≤ i) (h1 : i < n) : ∃ ad A0 c0, A = some ad ∧ w.cell? (ad.add i.toNat) = some (.slice A0 (rd_L20 xs i).length c0) ∧ (rd_L20 xs i).length ≤ c0 ∧ Kd.bool.C w A0 (rd_L20 xs i).length (rd_L20 xs i) := by
  obtain ⟨ad, c, e, _, hK, hc0⟩ := Kd.C_get h ([] : List Bool) i h0 h1
  have hc : ∀ j u, c[j]? = some u → w.cell? (ad.add (i.toNat * 1 + j)) = some u := hc0
  obtain ⟨A0, c0, rfl, l0, g0⟩ := hK
  exact ⟨ad, A0, c0, e, by have hq := hc 0 _ rfl; rwa [Nat.mul_one, Nat.add_zero] at hq, l0, g0⟩

def rd_L21 (xs : List (List Int)) (i : Int) : (List Int) := xs.getD i.toNat ([] : List Int)
theorem at_L21 {w : World} {A : Option Addr} {n : Nat} {xs : List (List Int)} (h : Kd.C (Kd.slice 3 (Kd.int .i64)) w A n xs) (i : Int) (h0 : 0 ≤ i) (h1 : i < n) : ∃ ad A0 c0, A = some ad ∧ w.cell? (ad.add i.toNat) = some (.slice A0 (rd_L21 xs i).length c0) ∧ (rd_L21 xs i).length ≤ c0 ∧ (Kd.int .i64).C w A0 (rd_L21 xs i).length (rd_L21 xs i) := by
  obtain ⟨ad, c, e, _, hK, hc0⟩ := Kd.C_get h ([] : List Int) i h0 h1
  have hc : ∀ j u, c[j]? = some u → w.cell? (ad.add (i.toNat * 1 + j)) = some u := hc0
  obtain ⟨A0, c0, rfl, l0, g0⟩ := hK
  exact ⟨ad, A0, c0, e, by have hq := hc 0 _ rfl; rwa [Nat.mul_one, Nat.add_zero] at hq, l0, g0⟩

def Ok53 (x : S53) : Prop := (x.f0.size ≤ 140737488351232) ∧ (x.f1.size ≤ 140737488351232) ∧ ((Lit.int .i64 x.f2).wf = true)
theorem opens53 : ∀ M, OpensTo Tryd.prog M 53 k53 Ok53 := fun M => OpensTo.less (opens_struct (M := M) (f := fun x : S53 => (x.f0, x.f1, x.f2)) (fun p => (⟨p.1, p.2.1, p.2.2⟩ : S53)) (fun _ => rfl) (fun _ h => h) Tryd.underlying53 (by kernel_rfl) (l := [({ name := "Low", type := 9, offset := 0, embedded := false, tag := "", pkgPath := "", byteOffset := 0 } : Field), ({ name := "High", type := 9, offset := 1, embedded := false, tag := "", pkgPath := "", byteOffset := 16 } : Field), ({ name := "At", type := 3, offset := 2, embedded := false, tag := "", pkgPath := "", byteOffset := 32 } : Field)]) rfl (opens_cons (f := ({ name := "Low", type := 9, offset := 0, embedded := false, tag := "", pkgPath := "", byteOffset := 0 } : Field)) (opens_string Tryd.underlying9) rfl (by kernel_rfl) (opens_cons (f := ({ name := "High", type := 9, offset := 1, embedded := false, tag := "", pkgPath := "", byteOffset := 16 } : Field)) (opens_string Tryd.underlying9) rfl (by kernel_rfl) (opens_one (f := ({ name := "At", type := 3, offset := 2, embedded := false, tag := "", pkgPath := "", byteOffset := 32 } : Field)) (opens_int Tryd.underlying3) rfl (by kernel_rfl))))) (Nat.le_succ M)
end Go.Proofs.YtpfepkkpbampkaaDoor.PLnw
