import Derived.Test.YtpfepkkpbampkaaDoorProg
import Derived.Test.YtpfepkkpbampkaaDoorBinLaws
import Derived.Test.YtpfepkkpbampkaaDoorCArr
import Derived.Test.YtpfepkkpbampkaaDoorCOpens
import Derived.Test.YtpfepkkpbampkaaDoorCSync
namespace Go.Proofs.YtpfepkkpbampkaaDoor.PIrw
open Go.RowKit Go.Proofs.YtpfepkkpbampkaaDoorW.PrintWords Go.Proofs.YtpfepkkpbampkaaDoorW.PrintLast Go.Proofs.YtpfepkkpbampkaaDoorW.PrintMore
set_option linter.unusedVariables false
set_option linter.unusedSimpArgs false
theorem info3 : (Tryd.prog.info? 3).map (fun i => (i.zero, i.size, i.bytes)) = some (some (.int .i64 0), 1, 8) := by kernel_rfl
theorem info4 : (Tryd.prog.info? 4).map (fun i => (i.zero, i.size, i.bytes)) = some (some (.bool false), 1, 1) := by kernel_rfl
theorem info5 : (Tryd.prog.info? 5).map (fun i => (i.zero, i.size, i.bytes)) = some (some (.int .u8 0), 1, 1) := by kernel_rfl
theorem info9 : (Tryd.prog.info? 9).map (fun i => (i.zero, i.size, i.bytes)) = some (some (.string ⟨#[]⟩), 1, 16) := by kernel_rfl
theorem info23 : (Tryd.prog.info? 23).map (fun i => (i.zero, i.size, i.bytes)) = some (some (.slice none 0 0), 1, 24) := by kernel_rfl
theorem o9 : (Tryd.prog.info? 53).map (fun i => (i.zero, i.size, i.bytes)) = some (some (.agg #[(.string ⟨#[]⟩), (.string ⟨#[]⟩), (.int .i64 0)]), 3, 40) := by kernel_rfl
theorem xH : (Tryd.prog.info? 58).map (fun i => (i.zero, i.size, i.bytes)) = some (some (.int .u64 0), 1, 8) := by kernel_rfl
theorem qB : (Tryd.prog.info? 74).map (fun i => (i.zero, i.size, i.bytes)) = some (some (.slice none 0 0), 1, 24) := by kernel_rfl
structure S53 where
  f0 : ByteArray
  f1 : ByteArray
  f2 : Int
def z53 : S53 := ⟨(⟨#[]⟩ : ByteArray), (⟨#[]⟩ : ByteArray), (0 : Int)⟩
def k53 : Kd S53 := Kd.iso (Kd.pair Kd.string (Kd.pair Kd.string (Kd.int .i64))) (fun x : S53 => (x.f0, x.f1, x.f2))
theorem Ag : Kd.Heap k53 := Kd.qx _ (Kd.og Kd.sF (Kd.og Kd.sF (Kd.qR .i64)))
theorem nO {w : World} {x : S53} {cs : List Value} (h : k53.K w x cs) : cs = [.string x.f0, .string x.f1, .int .i64 x.f2] := by
  obtain ⟨_, _, rfl, rfl, ⟨_, _, rfl, rfl, rfl⟩⟩ := h;exact rfl
theorem Es {w : World} {base : Nat} {ok : Nat → Prop} {x : S53} {cs : List Value} (h : k53.M w base ok x cs) : cs = [.string x.f0, .string x.f1, .int .i64 x.f2] := by
  obtain ⟨_, _, rfl, rfl, ⟨_, _, rfl, rfl, rfl⟩⟩ := h;exact rfl
theorem Et (w : World) (x : S53)  : k53.K w x [.string x.f0, .string x.f1, .int .i64 x.f2] := ⟨[.string x.f0], [.string x.f1, .int .i64 x.f2], rfl, rfl, ⟨[.string x.f1], [.int .i64 x.f2], rfl, rfl, rfl⟩⟩
theorem GX (w : World) (base : Nat) (ok : Nat → Prop) (x : S53)  : k53.M w base ok x [.string x.f0, .string x.f1, .int .i64 x.f2] := ⟨[.string x.f0], [.string x.f1, .int .i64 x.f2], rfl, rfl, ⟨[.string x.f1], [.int .i64 x.f2], rfl, rfl, rfl⟩⟩
theorem uT (W : World) (ok : Nat → Prop) (x : S53) : Kd.FK k53 W ok x [.string x.f0, .string x.f1, .int .i64 x.f2] := fun W2 _ => Et W2 x
def jY (xs : List S53) (i : Int) : S53 := xs.getD i.toNat z53
theorem Jj {w : World} {A : Option Addr} {n : Nat} {xs : List S53} (h : Kd.C k53 w A n xs) (i : Int) (h0 : 0 ≤ i) (h1 : i < n) : ∃ ad , A = some ad ∧ w.cell? (ad.add (i.toNat * 3)) = some (.string (jY xs i).f0) ∧ w.cell? ⟨(ad.add (i.toNat * 3)).block, (ad.add (i.toNat * 3)).off + 1, none⟩ = some (.string (jY xs i).f1) ∧ w.cell? ⟨(ad.add (i.toNat * 3)).block, (ad.add (i.toNat * 3)).off + 2, none⟩ = some (.int .i64 (jY xs i).f2) := by
  obtain ⟨ad, c, e, _, hK, hc0⟩ := Kd.pG h z53 i h0 h1;have hc : ∀ j u, c[j]? = some u → w.cell? (ad.add (i.toNat * 3 + j)) = some u := hc0;obtain rfl := nO hK;exact ⟨ad, e, hc 0 _ rfl, by rw [← qP _ _ 1 (by omega)]; exact hc 1 _ rfl, by rw [← qP _ _ 2 (by omega)]; exact hc 2 _ rfl⟩
def kX (xs : List (List Bool)) (i : Int) : (List Bool) := xs.getD i.toNat ([] : List Bool)
theorem KP {w : World} {A : Option Addr} {n : Nat} {xs : List (List Bool)} (h : Kd.C (Kd.slice 4 Kd.bool) w A n xs) (i : Int) (h0 : 0 ≤ i) (h1 : i < n) : ∃ ad A0 c0, A = some ad ∧ w.cell? (ad.add i.toNat) = some (.slice A0 (kX xs i).length c0) ∧ (kX xs i).length ≤ c0 ∧ Kd.bool.C w A0 (kX xs i).length (kX xs i) := by
  obtain ⟨ad, c, e, _, hK, hc0⟩ := Kd.pG h ([] : List Bool) i h0 h1;have hc : ∀ j u, c[j]? = some u → w.cell? (ad.add (i.toNat * 1 + j)) = some u := hc0;obtain ⟨A0, c0, rfl, l0, g0⟩ := hK;exact ⟨ad, A0, c0, e, by have hq := hc 0 _ rfl; rwa [Nat.mul_one, Nat.add_zero] at hq, l0, g0⟩
def lC (xs : List (List Int)) (i : Int) : (List Int) := xs.getD i.toNat ([] : List Int)
theorem KQ {w : World} {A : Option Addr} {n : Nat} {xs : List (List Int)} (h : Kd.C (Kd.slice 3 (Kd.int .i64)) w A n xs) (i : Int) (h0 : 0 ≤ i) (h1 : i < n) : ∃ ad A0 c0, A = some ad ∧ w.cell? (ad.add i.toNat) = some (.slice A0 (lC xs i).length c0) ∧ (lC xs i).length ≤ c0 ∧ (Kd.int .i64).C w A0 (lC xs i).length (lC xs i) := by
  obtain ⟨ad, c, e, _, hK, hc0⟩ := Kd.pG h ([] : List Int) i h0 h1;have hc : ∀ j u, c[j]? = some u → w.cell? (ad.add (i.toNat * 1 + j)) = some u := hc0;obtain ⟨A0, c0, rfl, l0, g0⟩ := hK;exact ⟨ad, A0, c0, e, by have hq := hc 0 _ rfl; rwa [Nat.mul_one, Nat.add_zero] at hq, l0, g0⟩
def Ah (xs : List (List ByteArray)) (i : Int) : (List ByteArray) := xs.getD i.toNat ([] : List ByteArray)
theorem KR {w : World} {A : Option Addr} {n : Nat} {xs : List (List ByteArray)} (h : Kd.C (Kd.slice 9 Kd.string) w A n xs) (i : Int) (h0 : 0 ≤ i) (h1 : i < n) : ∃ ad A0 c0, A = some ad ∧ w.cell? (ad.add i.toNat) = some (.slice A0 (Ah xs i).length c0) ∧ (Ah xs i).length ≤ c0 ∧ Kd.string.C w A0 (Ah xs i).length (Ah xs i) := by
  obtain ⟨ad, c, e, _, hK, hc0⟩ := Kd.pG h ([] : List ByteArray) i h0 h1;have hc : ∀ j u, c[j]? = some u → w.cell? (ad.add (i.toNat * 1 + j)) = some u := hc0;obtain ⟨A0, c0, rfl, l0, g0⟩ := hK;exact ⟨ad, A0, c0, e, by have hq := hc 0 _ rfl; rwa [Nat.mul_one, Nat.add_zero] at hq, l0, g0⟩
structure S81 where
  f0 : (List ByteArray)
  f1 : (List (ByteArray × Int))
  f2 : (List Int)
  f3 : (List Int)
def z81 : S81 := ⟨([] : List ByteArray), ([] : List (ByteArray × Int)), (List.replicate 64 0), (List.replicate 64 0)⟩
def k81 : Kd S81 := Kd.iso (Kd.pair (Kd.slice 9 Kd.string) (Kd.pair (Kd.mp Value.string (Value.int .i64)) (Kd.pair (Kd.ar 64 (Value.int .u64) (fun _ => rfl)) (Kd.ar 64 (Value.int .u64) (fun _ => rfl))))) (fun x : S81 => (x.f0, x.f1, x.f2, x.f3))
theorem Ai : Kd.Heap k81 := Kd.qx _ (Kd.og (Kd.uf 9 Kd.sF) (Kd.og (Kd.Gl _ _) (Kd.og (Kd.wM _ _ _) (Kd.wM _ _ _))))
theorem rG {W : World} {ok : Nat → Prop} {x : S81} {cs : List Value} (h : Kd.FK k81 W ok x cs) : ∃ A0 c0 v1, cs = [.slice A0 x.f0.length c0, v1] ++ (List.map (Value.int .u64) x.f2 ++ (List.map (Value.int .u64) x.f3)) ∧ x.f0.length ≤ c0 ∧ Kd.F Kd.string W ok A0 x.f0.length x.f0 ∧ Kd.FK (Kd.mp Value.string (Value.int .i64)) W ok x.f1 [v1] ∧ x.f2.length = 64 ∧ x.f3.length = 64 := by
  replace h : Kd.FK (Kd.pair (Kd.slice 9 Kd.string) (Kd.pair (Kd.mp Value.string (Value.int .i64)) (Kd.pair (Kd.ar 64 (Value.int .u64) (fun _ => rfl)) (Kd.ar 64 (Value.int .u64) (fun _ => rfl))))) W ok ((fun x : S81 => (x.f0, x.f1, x.f2, x.f3)) x) cs := h;obtain ⟨c_0, r_0, rfl, h_0, hr_0⟩ := Kd.oO (a := (Kd.slice 9 Kd.string)) (b := (Kd.pair (Kd.mp Value.string (Value.int .i64)) (Kd.pair (Kd.ar 64 (Value.int .u64) (fun _ => rfl)) (Kd.ar 64 (Value.int .u64) (fun _ => rfl))))) h;obtain ⟨A0, c0, rfl, l0, g0⟩ := lV h_0;obtain ⟨c_1, r_1, rfl, h_1, hr_1⟩ := Kd.oO (a := (Kd.mp Value.string (Value.int .i64))) (b := (Kd.pair (Kd.ar 64 (Value.int .u64) (fun _ => rfl)) (Kd.ar 64 (Value.int .u64) (fun _ => rfl)))) hr_0;obtain ⟨v1, rfl, g1⟩ := Kd.En h_1;obtain ⟨c_2, r_2, rfl, h_2, hr_2⟩ := Kd.oO (a := (Kd.ar 64 (Value.int .u64) (fun _ => rfl))) (b := (Kd.ar 64 (Value.int .u64) (fun _ => rfl))) hr_1;obtain ⟨g2, rfl⟩ := Kd.uz h_2;obtain ⟨g3, rfl⟩ := Kd.uz hr_2;exact ⟨A0, c0, v1, rfl, l0, g0, g1, g2, g3⟩
theorem yU (W : World) (ok : Nat → Prop) (x : S81) {A0 : Option Addr} {c0 : Nat} (l0 : x.f0.length ≤ c0) (g0 : Kd.F Kd.string W ok A0 x.f0.length x.f0) {v1 : Value} (g1 : Kd.FK (Kd.mp Value.string (Value.int .i64)) W ok x.f1 [v1]) (g2 : x.f2.length = 64) (g3 : x.f3.length = 64) : Kd.FK k81 W ok x ([.slice A0 x.f0.length c0, v1] ++ (List.map (Value.int .u64) x.f2 ++ (List.map (Value.int .u64) x.f3))) := Kd.qy (a := (Kd.slice 9 Kd.string)) (b := (Kd.pair (Kd.mp Value.string (Value.int .i64)) (Kd.pair (Kd.ar 64 (Value.int .u64) (fun _ => rfl)) (Kd.ar 64 (Value.int .u64) (fun _ => rfl))))) (x := (x.f0, x.f1, x.f2, x.f3)) (c0 := [.slice A0 x.f0.length c0]) (fun W2 hW => ⟨A0, c0, rfl, l0, g0 W2 hW⟩) (Kd.qy (a := (Kd.mp Value.string (Value.int .i64))) (b := (Kd.pair (Kd.ar 64 (Value.int .u64) (fun _ => rfl)) (Kd.ar 64 (Value.int .u64) (fun _ => rfl)))) (x := (x.f1, x.f2, x.f3)) (c0 := [v1]) g1 (Kd.qy (a := (Kd.ar 64 (Value.int .u64) (fun _ => rfl))) (b := (Kd.ar 64 (Value.int .u64) (fun _ => rfl))) (x := (x.f2, x.f3)) (c0 := List.map (Value.int .u64) x.f2) (fun _ _ => ⟨g2, rfl⟩) ((fun _ _ => ⟨g3, rfl⟩))))
def Jk (xs : List S81) (i : Int) : S81 := xs.getD i.toNat z81
structure S92 where
  f0 : Int
def z92 : S92 := ⟨(0 : Int)⟩
def k92 : Kd S92 := Kd.iso (Kd.int .u32) (fun x : S92 => x.f0)
theorem Aj : Kd.Heap k92 := Kd.qx _ (Kd.qR .u32)
theorem xI {w : World} {x : S92} {cs : List Value} (h : k92.K w x cs) : cs = [.int .u32 x.f0] := by
  obtain rfl := h;exact rfl
theorem yV {w : World} {base : Nat} {ok : Nat → Prop} {x : S92} {cs : List Value} (h : k92.M w base ok x cs) : cs = [.int .u32 x.f0] := by
  obtain rfl := h;exact rfl
theorem Bz (w : World) (x : S92)  : k92.K w x [.int .u32 x.f0] := rfl
theorem CO (w : World) (base : Nat) (ok : Nat → Prop) (x : S92)  : k92.M w base ok x [.int .u32 x.f0] := rfl
theorem GY (W : World) (ok : Nat → Prop) (x : S92) : Kd.FK k92 W ok x [.int .u32 x.f0] := fun W2 _ => Bz W2 x
def Eu (xs : List S92) (i : Int) : S92 := xs.getD i.toNat z92
theorem Jm {w : World} {A : Option Addr} {n : Nat} {xs : List S92} (h : Kd.C k92 w A n xs) (i : Int) (h0 : 0 ≤ i) (h1 : i < n) : ∃ ad , A = some ad ∧ w.cell? (ad.add i.toNat) = some (.int .u32 (Eu xs i).f0) := by
  obtain ⟨ad, c, e, _, hK, hc0⟩ := Kd.pG h z92 i h0 h1;have hc : ∀ j u, c[j]? = some u → w.cell? (ad.add (i.toNat * 1 + j)) = some u := hc0;obtain rfl := xI hK;exact ⟨ad, e, by have hq := hc 0 _ rfl; rwa [Nat.mul_one, Nat.add_zero] at hq⟩
structure S94 where
  f0 : Int
  f1 : Int
def z94 : S94 := ⟨(0 : Int), (0 : Int)⟩
def k94 : Kd S94 := Kd.iso (Kd.pair (Kd.int .i32) (Kd.int .u32)) (fun x : S94 => (x.f0, x.f1))
theorem Ak : Kd.Heap k94 := Kd.qx _ (Kd.og (Kd.qR .i32) (Kd.qR .u32))
theorem xJ {w : World} {x : S94} {cs : List Value} (h : k94.K w x cs) : cs = [.int .i32 x.f0, .int .u32 x.f1] := by
  obtain ⟨_, _, rfl, rfl, rfl⟩ := h;exact rfl
theorem yX {w : World} {base : Nat} {ok : Nat → Prop} {x : S94} {cs : List Value} (h : k94.M w base ok x cs) : cs = [.int .i32 x.f0, .int .u32 x.f1] := by
  obtain ⟨_, _, rfl, rfl, rfl⟩ := h;exact rfl
theorem BA (w : World) (x : S94)  : k94.K w x [.int .i32 x.f0, .int .u32 x.f1] := ⟨[.int .i32 x.f0], [.int .u32 x.f1], rfl, rfl, rfl⟩
theorem CP (w : World) (base : Nat) (ok : Nat → Prop) (x : S94)  : k94.M w base ok x [.int .i32 x.f0, .int .u32 x.f1] := ⟨[.int .i32 x.f0], [.int .u32 x.f1], rfl, rfl, rfl⟩
theorem GZ (W : World) (ok : Nat → Prop) (x : S94) : Kd.FK k94 W ok x [.int .i32 x.f0, .int .u32 x.f1] := fun W2 _ => BA W2 x
def BD (xs : List S94) (i : Int) : S94 := xs.getD i.toNat z94
theorem Jo {w : World} {A : Option Addr} {n : Nat} {xs : List S94} (h : Kd.C k94 w A n xs) (i : Int) (h0 : 0 ≤ i) (h1 : i < n) : ∃ ad , A = some ad ∧ w.cell? (ad.add (i.toNat * 2)) = some (.int .i32 (BD xs i).f0) ∧ w.cell? ⟨(ad.add (i.toNat * 2)).block, (ad.add (i.toNat * 2)).off + 1, none⟩ = some (.int .u32 (BD xs i).f1) := by
  obtain ⟨ad, c, e, _, hK, hc0⟩ := Kd.pG h z94 i h0 h1;have hc : ∀ j u, c[j]? = some u → w.cell? (ad.add (i.toNat * 2 + j)) = some u := hc0;obtain rfl := xJ hK;exact ⟨ad, e, hc 0 _ rfl, by rw [← qP _ _ 1 (by omega)]; exact hc 1 _ rfl⟩
structure S96 where
  f0 : S94
def z96 : S96 := ⟨z94⟩
def k96 : Kd S96 := Kd.iso k94 (fun x : S96 => x.f0)
theorem Am : Kd.Heap k96 := Kd.qx _ Ak
theorem xK {w : World} {x : S96} {cs : List Value} (h : k96.K w x cs) : cs = [.int .i32 x.f0.f0, .int .u32 x.f0.f1] := by
  obtain rfl := xJ (x := x.f0) h;exact rfl
theorem yY {w : World} {base : Nat} {ok : Nat → Prop} {x : S96} {cs : List Value} (h : k96.M w base ok x cs) : cs = [.int .i32 x.f0.f0, .int .u32 x.f0.f1] := by
  obtain rfl := yX (x := x.f0) h;exact rfl
theorem BF (w : World) (x : S96)  : k96.K w x [.int .i32 x.f0.f0, .int .u32 x.f0.f1] := (BA w x.f0 )
theorem CQ (w : World) (base : Nat) (ok : Nat → Prop) (x : S96)  : k96.M w base ok x [.int .i32 x.f0.f0, .int .u32 x.f0.f1] := (CP w base ok x.f0 )
theorem G5 (W : World) (ok : Nat → Prop) (x : S96) : Kd.FK k96 W ok x [.int .i32 x.f0.f0, .int .u32 x.f0.f1] := fun W2 _ => BF W2 x
def BG (xs : List S96) (i : Int) : S96 := xs.getD i.toNat z96
theorem Jp {w : World} {A : Option Addr} {n : Nat} {xs : List S96} (h : Kd.C k96 w A n xs) (i : Int) (h0 : 0 ≤ i) (h1 : i < n) : ∃ ad , A = some ad ∧ w.cell? (ad.add (i.toNat * 2)) = some (.int .i32 (BG xs i).f0.f0) ∧ w.cell? ⟨(ad.add (i.toNat * 2)).block, (ad.add (i.toNat * 2)).off + 1, none⟩ = some (.int .u32 (BG xs i).f0.f1) := by
  obtain ⟨ad, c, e, _, hK, hc0⟩ := Kd.pG h z96 i h0 h1;have hc : ∀ j u, c[j]? = some u → w.cell? (ad.add (i.toNat * 2 + j)) = some u := hc0;obtain rfl := xK hK;exact ⟨ad, e, hc 0 _ rfl, by rw [← qP _ _ 1 (by omega)]; exact hc 1 _ rfl⟩
structure S98 where
  f0 : S92
  f1 : S96
def z98 : S98 := ⟨z92, z96⟩
def k98 : Kd S98 := Kd.iso (Kd.pair k92 k96) (fun x : S98 => (x.f0, x.f1))
theorem Ap : Kd.Heap k98 := Kd.qx _ (Kd.og Aj Am)
theorem xM {w : World} {x : S98} {cs : List Value} (h : k98.K w x cs) : cs = [.int .u32 x.f0.f0, .int .i32 x.f1.f0.f0, .int .u32 x.f1.f0.f1] := by
  obtain ⟨_, _, rfl, s0, s1⟩ := h;obtain rfl := xI s0;obtain rfl := xK s1;exact rfl
theorem Ew {w : World} {base : Nat} {ok : Nat → Prop} {x : S98} {cs : List Value} (h : k98.M w base ok x cs) : cs = [.int .u32 x.f0.f0, .int .i32 x.f1.f0.f0, .int .u32 x.f1.f0.f1] := by
  obtain ⟨_, _, rfl, s0, s1⟩ := h;obtain rfl := yV s0;obtain rfl := yY s1;exact rfl
theorem Ey (w : World) (x : S98)  : k98.K w x [.int .u32 x.f0.f0, .int .i32 x.f1.f0.f0, .int .u32 x.f1.f0.f1] := ⟨[.int .u32 x.f0.f0], [.int .i32 x.f1.f0.f0, .int .u32 x.f1.f0.f1], rfl, (Bz w x.f0 ), (BF w x.f1 )⟩
theorem G6 (w : World) (base : Nat) (ok : Nat → Prop) (x : S98)  : k98.M w base ok x [.int .u32 x.f0.f0, .int .i32 x.f1.f0.f0, .int .u32 x.f1.f0.f1] := ⟨[.int .u32 x.f0.f0], [.int .i32 x.f1.f0.f0, .int .u32 x.f1.f0.f1], rfl, (CO w base ok x.f0 ), (CQ w base ok x.f1 )⟩
theorem CS (W : World) (ok : Nat → Prop) (x : S98) : Kd.FK k98 W ok x [.int .u32 x.f0.f0, .int .i32 x.f1.f0.f0, .int .u32 x.f1.f0.f1] := fun W2 _ => Ey W2 x
def yZ (xs : List S98) (i : Int) : S98 := xs.getD i.toNat z98
theorem Jq {w : World} {A : Option Addr} {n : Nat} {xs : List S98} (h : Kd.C k98 w A n xs) (i : Int) (h0 : 0 ≤ i) (h1 : i < n) : ∃ ad , A = some ad ∧ w.cell? (ad.add (i.toNat * 3)) = some (.int .u32 (yZ xs i).f0.f0) ∧ w.cell? ⟨(ad.add (i.toNat * 3)).block, (ad.add (i.toNat * 3)).off + 1, none⟩ = some (.int .i32 (yZ xs i).f1.f0.f0) ∧ w.cell? ⟨(ad.add (i.toNat * 3)).block, (ad.add (i.toNat * 3)).off + 2, none⟩ = some (.int .u32 (yZ xs i).f1.f0.f1) := by
  obtain ⟨ad, c, e, _, hK, hc0⟩ := Kd.pG h z98 i h0 h1;have hc : ∀ j u, c[j]? = some u → w.cell? (ad.add (i.toNat * 3 + j)) = some u := hc0;obtain rfl := xM hK;exact ⟨ad, e, hc 0 _ rfl, by rw [← qP _ _ 1 (by omega)]; exact hc 1 _ rfl, by rw [← qP _ _ 2 (by omega)]; exact hc 2 _ rfl⟩
structure qA where
  f0 : Int
def z105 : qA := ⟨(0 : Int)⟩
def uU : Kd qA := Kd.iso (Kd.int .i64) (fun x : qA => x.f0)
theorem y5 : Kd.Heap uU := Kd.qx _ (Kd.qR .i64)
theorem vO {w : World} {x : qA} {cs : List Value} (h : uU.K w x cs) : cs = [.int .i64 x.f0] := by
  obtain rfl := h;exact rfl
theorem DU {w : World} {base : Nat} {ok : Nat → Prop} {x : qA} {cs : List Value} (h : uU.M w base ok x cs) : cs = [.int .i64 x.f0] := by
  obtain rfl := h;exact rfl
theorem CU (w : World) (x : qA)  : uU.K w x [.int .i64 x.f0] := rfl
theorem FX (w : World) (base : Nat) (ok : Nat → Prop) (x : qA)  : uU.M w base ok x [.int .i64 x.f0] := rfl
theorem Aq (W : World) (ok : Nat → Prop) (x : qA) : Kd.FK uU W ok x [.int .i64 x.f0] := fun W2 _ => CU W2 x
def CV (xs : List qA) (i : Int) : qA := xs.getD i.toNat z105
theorem G7 {w : World} {A : Option Addr} {n : Nat} {xs : List qA} (h : Kd.C uU w A n xs) (i : Int) (h0 : 0 ≤ i) (h1 : i < n) : ∃ ad , A = some ad ∧ w.cell? (ad.add i.toNat) = some (.int .i64 (CV xs i).f0) := by
  obtain ⟨ad, c, e, _, hK, hc0⟩ := Kd.pG h z105 i h0 h1;have hc : ∀ j u, c[j]? = some u → w.cell? (ad.add (i.toNat * 1 + j)) = some u := hc0;obtain rfl := vO hK;exact ⟨ad, e, by have hq := hc 0 _ rfl; rwa [Nat.mul_one, Nat.add_zero] at hq⟩
structure nK where
  f0 : (Option S81)
  f1 : S98
  f2 : (List Int)
  f3 : (List Int)
  f4 : qA
def z107 : nK := ⟨(none : Option S81), z98, (List.replicate 4096 0), (List.replicate 4096 0), z105⟩
def qN : Kd nK := Kd.iso (Kd.pair (Kd.ptr 81 k81) (Kd.pair k98 (Kd.pair (Kd.ar 4096 (Value.int .i8) (fun _ => rfl)) (Kd.pair (Kd.ar 4096 (Value.int .i8) (fun _ => rfl)) uU)))) (fun x : nK => (x.f0, x.f1, x.f2, x.f3, x.f4))
theorem y7 : Kd.Heap qN := Kd.qx _ (Kd.og (Kd.zU 81 Ai) (Kd.og Ap (Kd.og (Kd.wM _ _ _) (Kd.og (Kd.wM _ _ _) y5))))
theorem pK {W : World} {ok : Nat → Prop} {x : nK} {cs : List Value} (h : Kd.FK qN W ok x cs) : ∃ v0, cs = [v0, .int .u32 x.f1.f0.f0, .int .i32 x.f1.f1.f0.f0, .int .u32 x.f1.f1.f0.f1] ++ (List.map (Value.int .i8) x.f2 ++ (List.map (Value.int .i8) x.f3 ++ ([.int .i64 x.f4.f0]))) ∧ Kd.FK (Kd.ptr 81 k81) W ok x.f0 [v0] ∧ x.f2.length = 4096 ∧ x.f3.length = 4096 := by
  replace h : Kd.FK (Kd.pair (Kd.ptr 81 k81) (Kd.pair k98 (Kd.pair (Kd.ar 4096 (Value.int .i8) (fun _ => rfl)) (Kd.pair (Kd.ar 4096 (Value.int .i8) (fun _ => rfl)) uU)))) W ok ((fun x : nK => (x.f0, x.f1, x.f2, x.f3, x.f4)) x) cs := h;obtain ⟨c_0, r_0, rfl, h_0, hr_0⟩ := Kd.oO (a := (Kd.ptr 81 k81)) (b := (Kd.pair k98 (Kd.pair (Kd.ar 4096 (Value.int .i8) (fun _ => rfl)) (Kd.pair (Kd.ar 4096 (Value.int .i8) (fun _ => rfl)) uU)))) h;obtain ⟨v0, rfl, g0⟩ := Kd.yO h_0;obtain ⟨c_1, r_1, rfl, h_1, hr_1⟩ := Kd.oO (a := k98) (b := (Kd.pair (Kd.ar 4096 (Value.int .i8) (fun _ => rfl)) (Kd.pair (Kd.ar 4096 (Value.int .i8) (fun _ => rfl)) uU))) hr_0;obtain rfl := xM (Kd.yA h_1);obtain ⟨c_2, r_2, rfl, h_2, hr_2⟩ := Kd.oO (a := (Kd.ar 4096 (Value.int .i8) (fun _ => rfl))) (b := (Kd.pair (Kd.ar 4096 (Value.int .i8) (fun _ => rfl)) uU)) hr_1;obtain ⟨g4, rfl⟩ := Kd.uz h_2;obtain ⟨c_3, r_3, rfl, h_3, hr_3⟩ := Kd.oO (a := (Kd.ar 4096 (Value.int .i8) (fun _ => rfl))) (b := uU) hr_2;obtain ⟨g5, rfl⟩ := Kd.uz h_3;obtain rfl := vO (Kd.yA hr_3);exact ⟨v0, rfl, g0, g4, g5⟩
theorem qI (W : World) (ok : Nat → Prop) (x : nK) {v0 : Value} (g0 : Kd.FK (Kd.ptr 81 k81) W ok x.f0 [v0]) (g4 : x.f2.length = 4096) (g5 : x.f3.length = 4096) : Kd.FK qN W ok x ([v0, .int .u32 x.f1.f0.f0, .int .i32 x.f1.f1.f0.f0, .int .u32 x.f1.f1.f0.f1] ++ (List.map (Value.int .i8) x.f2 ++ (List.map (Value.int .i8) x.f3 ++ ([.int .i64 x.f4.f0])))) := Kd.qy (a := (Kd.ptr 81 k81)) (b := (Kd.pair k98 (Kd.pair (Kd.ar 4096 (Value.int .i8) (fun _ => rfl)) (Kd.pair (Kd.ar 4096 (Value.int .i8) (fun _ => rfl)) uU)))) (x := (x.f0, x.f1, x.f2, x.f3, x.f4)) (c0 := [v0]) g0 (Kd.qy (a := k98) (b := (Kd.pair (Kd.ar 4096 (Value.int .i8) (fun _ => rfl)) (Kd.pair (Kd.ar 4096 (Value.int .i8) (fun _ => rfl)) uU))) (x := (x.f1, x.f2, x.f3, x.f4)) (c0 := [.int .u32 x.f1.f0.f0, .int .i32 x.f1.f1.f0.f0, .int .u32 x.f1.f1.f0.f1]) (CS W ok x.f1) (Kd.qy (a := (Kd.ar 4096 (Value.int .i8) (fun _ => rfl))) (b := (Kd.pair (Kd.ar 4096 (Value.int .i8) (fun _ => rfl)) uU)) (x := (x.f2, x.f3, x.f4)) (c0 := List.map (Value.int .i8) x.f2) (fun _ _ => ⟨g4, rfl⟩) (Kd.qy (a := (Kd.ar 4096 (Value.int .i8) (fun _ => rfl))) (b := uU) (x := (x.f3, x.f4)) (c0 := List.map (Value.int .i8) x.f3) (fun _ _ => ⟨g5, rfl⟩) ((Aq W ok x.f4)))))
def G8 (xs : List nK) (i : Int) : nK := xs.getD i.toNat z107
def xO (xs : List (List Int)) (i : Int) : (List Int) := xs.getD i.toNat ([] : List Int)
theorem Jr {w : World} {A : Option Addr} {n : Nat} {xs : List (List Int)} (h : Kd.C (Kd.slice 58 (Kd.int .u64)) w A n xs) (i : Int) (h0 : 0 ≤ i) (h1 : i < n) : ∃ ad A0 c0, A = some ad ∧ w.cell? (ad.add i.toNat) = some (.slice A0 (xO xs i).length c0) ∧ (xO xs i).length ≤ c0 ∧ (Kd.int .u64).C w A0 (xO xs i).length (xO xs i) := by
  obtain ⟨ad, c, e, _, hK, hc0⟩ := Kd.pG h ([] : List Int) i h0 h1;have hc : ∀ j u, c[j]? = some u → w.cell? (ad.add (i.toNat * 1 + j)) = some u := hc0;obtain ⟨A0, c0, rfl, l0, g0⟩ := hK;exact ⟨ad, A0, c0, e, by have hq := hc 0 _ rfl; rwa [Nat.mul_one, Nat.add_zero] at hq, l0, g0⟩
structure oP where
  f0 : (Option nK)
  f1 : (List Int)
  f2 : (List Int)
def KT : oP := ⟨(none : Option nK), ([] : List Int), ([] : List Int)⟩
def uZ : Kd oP := Kd.iso (Kd.pair (Kd.ptr 107 qN) (Kd.pair (Kd.slice 3 (Kd.int .i64)) (Kd.slice 58 (Kd.int .u64)))) (fun x : oP => (x.f0, x.f1, x.f2))
theorem Ez : Kd.Heap uZ := Kd.qx _ (Kd.og (Kd.zU 107 y7) (Kd.og (Kd.uf 3 (Kd.qR .i64)) (Kd.uf 58 (Kd.qR .u64))))
theorem pO {W : World} {ok : Nat → Prop} {x : oP} {cs : List Value} (h : Kd.FK uZ W ok x cs) : ∃ v0 A1 c1 A2 c2, cs = [v0, .slice A1 x.f1.length c1, .slice A2 x.f2.length c2] ∧ Kd.FK (Kd.ptr 107 qN) W ok x.f0 [v0] ∧ x.f1.length ≤ c1 ∧ Kd.F (Kd.int .i64) W ok A1 x.f1.length x.f1 ∧ x.f2.length ≤ c2 ∧ Kd.F (Kd.int .u64) W ok A2 x.f2.length x.f2 := by
  replace h : Kd.FK (Kd.pair (Kd.ptr 107 qN) (Kd.pair (Kd.slice 3 (Kd.int .i64)) (Kd.slice 58 (Kd.int .u64)))) W ok ((fun x : oP => (x.f0, x.f1, x.f2)) x) cs := h;obtain ⟨c_0, r_0, rfl, h_0, hr_0⟩ := Kd.oO (a := (Kd.ptr 107 qN)) (b := (Kd.pair (Kd.slice 3 (Kd.int .i64)) (Kd.slice 58 (Kd.int .u64)))) h;obtain ⟨v0, rfl, g0⟩ := Kd.yO h_0;obtain ⟨c_1, r_1, rfl, h_1, hr_1⟩ := Kd.oO (a := (Kd.slice 3 (Kd.int .i64))) (b := (Kd.slice 58 (Kd.int .u64))) hr_0;obtain ⟨A1, c1, rfl, l1, g1⟩ := lV h_1;obtain ⟨A2, c2, rfl, l2, g2⟩ := lV hr_1;exact ⟨v0, A1, c1, A2, c2, rfl, g0, l1, g1, l2, g2⟩
theorem rP (W : World) (ok : Nat → Prop) (x : oP) {v0 : Value} (g0 : Kd.FK (Kd.ptr 107 qN) W ok x.f0 [v0]) {A1 : Option Addr} {c1 : Nat} (l1 : x.f1.length ≤ c1) (g1 : Kd.F (Kd.int .i64) W ok A1 x.f1.length x.f1) {A2 : Option Addr} {c2 : Nat} (l2 : x.f2.length ≤ c2) (g2 : Kd.F (Kd.int .u64) W ok A2 x.f2.length x.f2) : Kd.FK uZ W ok x ([v0, .slice A1 x.f1.length c1, .slice A2 x.f2.length c2]) := Kd.qy (a := (Kd.ptr 107 qN)) (b := (Kd.pair (Kd.slice 3 (Kd.int .i64)) (Kd.slice 58 (Kd.int .u64)))) (x := (x.f0, x.f1, x.f2)) (c0 := [v0]) g0 (Kd.qy (a := (Kd.slice 3 (Kd.int .i64))) (b := (Kd.slice 58 (Kd.int .u64))) (x := (x.f1, x.f2)) (c0 := [.slice A1 x.f1.length c1]) (fun W2 hW => ⟨A1, c1, rfl, l1, g1 W2 hW⟩) ((fun W2 hW => ⟨A2, c2, rfl, l2, g2 W2 hW⟩)))
def G9 (xs : List oP) (i : Int) : oP := xs.getD i.toNat KT
def He (x : S53) : Prop := (x.f0.size ≤ 140737488351232) ∧ (x.f1.size ≤ 140737488351232) ∧ ((Lit.int .i64 x.f2).wf = true)
theorem CW : ∀ M, tY Tryd.prog M 53 k53 He := fun M => tY.less (zV (M := M) (f := fun x : S53 => (x.f0, x.f1, x.f2)) (fun p => (⟨p.1, p.2.1, p.2.2⟩ : S53)) (fun _ => rfl) (fun _ h => h) Tryd.underlying53 (by kernel_rfl) (l := [({ name := "Low", type := 9, offset := 0, embedded := false, tag := "", pkgPath := "", byteOffset := 0 } : Field), ({ name := "High", type := 9, offset := 1, embedded := false, tag := "", pkgPath := "", byteOffset := 16 } : Field), ({ name := "At", type := 3, offset := 2, embedded := false, tag := "", pkgPath := "", byteOffset := 32 } : Field)]) rfl (xG (f := ({ name := "Low", type := 9, offset := 0, embedded := false, tag := "", pkgPath := "", byteOffset := 0 } : Field)) (uS Tryd.underlying9) rfl (by kernel_rfl) (xG (f := ({ name := "High", type := 9, offset := 1, embedded := false, tag := "", pkgPath := "", byteOffset := 16 } : Field)) (uS Tryd.underlying9) rfl (by kernel_rfl) (DK (f := ({ name := "At", type := 3, offset := 2, embedded := false, tag := "", pkgPath := "", byteOffset := 32 } : Field)) (DJ Tryd.underlying3) rfl (by kernel_rfl))))) (Nat.le_succ M)
end Go.Proofs.YtpfepkkpbampkaaDoor.PIrw
