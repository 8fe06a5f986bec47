import Derived.Test.YtdkbmchbkkhpoaaProg
import Derived.Test.YtdkbmchbkkhpoaaBinLaws
import Derived.Test.YtdkbmchbkkhpoaaCArr
import Derived.Test.YtdkbmchbkkhpoaaCOpens
import Derived.Test.YtdkbmchbkkhpoaaCSync
import Derived.Test.YtdkbmchbkkhpoaaCFun
import Derived.Test.YtdkbmchbkkhpoaaCOwnG
import Derived.Test.YtdkbmchbkkhpoaaCRows
namespace Go.Proofs.Ytdkbmchbkkhpoaa.PMfr
open Go.RowKit Go.Proofs.YtdkbmchbkkhpoaaW.PrintWords Go.Proofs.YtdkbmchbkkhpoaaW.PrintLast Go.Proofs.YtdkbmchbkkhpoaaW.PrintMore
set_option linter.unusedVariables false
set_option linter.unusedSimpArgs false
theorem mJ : (Try.prog.info? 2).map (fun i => (i.zero, i.size, i.bytes)) = some (some (.int .i64 0), 1, 8) := by kernel_rfl
theorem info3 : (Try.prog.info? 3).map (fun i => (i.zero, i.size, i.bytes)) = some (some (.int .i64 0), 1, 8) := by kernel_rfl
theorem info4 : (Try.prog.info? 4).map (fun i => (i.zero, i.size, i.bytes)) = some (some (.bool false), 1, 1) := by kernel_rfl
theorem mM : (Try.prog.info? 47).map (fun i => (i.zero, i.size, i.bytes)) = some (some (.slice none 0 0), 1, 24) := by kernel_rfl
theorem nM : (Try.prog.info? 78).map (fun i => (i.zero, i.size, i.bytes)) = some (some (.agg #[(.int .i64 0), (.int .i64 0)]), 2, 16) := by kernel_rfl
structure S78 where
  f0 : Int
  f1 : Int
def z78 : S78 := ⟨(0 : Int), (0 : Int)⟩
def k78 : Kd S78 := Kd.iso (Kd.pair (Kd.int .i64) (Kd.int .i64)) (fun x : S78 => (x.f0, x.f1))
theorem Aw : Kd.Heap k78 := Kd.nT _ (Kd.kT (Kd.kE .i64) (Kd.kE .i64))
theorem lT {w : World} {x : S78} {cs : List Value} (h : k78.K w x cs) : cs = [.int .i64 x.f0, .int .i64 x.f1] := by
  obtain ⟨_, _, rfl, rfl, rfl⟩ := h;exact rfl
theorem Em {w : World} {base : Nat} {ok : Nat → Prop} {x : S78} {cs : List Value} (h : k78.M w base ok x cs) : cs = [.int .i64 x.f0, .int .i64 x.f1] := by
  obtain ⟨_, _, rfl, rfl, rfl⟩ := h;exact rfl
theorem En (w : World) (x : S78)  : k78.K w x [.int .i64 x.f0, .int .i64 x.f1] := ⟨[.int .i64 x.f0], [.int .i64 x.f1], rfl, rfl, rfl⟩
theorem Fp (w : World) (base : Nat) (ok : Nat → Prop) (x : S78)  : k78.M w base ok x [.int .i64 x.f0, .int .i64 x.f1] := ⟨[.int .i64 x.f0], [.int .i64 x.f1], rfl, rfl, rfl⟩
theorem qF (W : World) (ok : Nat → Prop) (x : S78) : Kd.FK k78 W ok x [.int .i64 x.f0, .int .i64 x.f1] := fun W2 _ => En W2 x
def iZ (xs : List S78) (i : Int) : S78 := xs.getD i.toNat z78
theorem FI {w : World} {A : Option Addr} {n : Nat} {xs : List S78} (h : Kd.C k78 w A n xs) (i : Int) (h0 : 0 ≤ i) (h1 : i < n) : ∃ ad , A = some ad ∧ w.cell? (ad.add (i.toNat * 2)) = some (.int .i64 (iZ xs i).f0) ∧ w.cell? ⟨(ad.add (i.toNat * 2)).block, (ad.add (i.toNat * 2)).off + 1, none⟩ = some (.int .i64 (iZ xs i).f1) := by
  obtain ⟨ad, c, e, _, hK, hc0⟩ := Kd.kU h z78 i h0 h1;have hc : ∀ j u, c[j]? = some u → w.cell? (ad.add (i.toNat * 2 + j)) = some u := hc0;obtain rfl := lT hK;exact ⟨ad, e, hc 0 _ rfl, by rw [← kS _ _ 1 (by omega)]; exact hc 1 _ rfl⟩
def Az (xs : List (List S78)) (i : Int) : (List S78) := xs.getD i.toNat ([] : List S78)
theorem F7 {w : World} {A : Option Addr} {n : Nat} {xs : List (List S78)} (h : Kd.C (Kd.slice 78 k78) w A n xs) (i : Int) (h0 : 0 ≤ i) (h1 : i < n) : ∃ ad A0 c0, A = some ad ∧ w.cell? (ad.add i.toNat) = some (.slice A0 (Az xs i).length c0) ∧ (Az xs i).length ≤ c0 ∧ k78.C w A0 (Az xs i).length (Az xs i) := by
  obtain ⟨ad, c, e, _, hK, hc0⟩ := Kd.kU h ([] : List S78) i h0 h1;have hc : ∀ j u, c[j]? = some u → w.cell? (ad.add (i.toNat * 1 + j)) = some u := hc0;obtain ⟨A0, c0, rfl, l0, g0⟩ := hK;exact ⟨ad, A0, c0, e, by have hq := hc 0 _ rfl; rwa [Nat.mul_one, Nat.add_zero] at hq, l0, g0⟩
def jA (xs : List (List Int)) (i : Int) : (List Int) := xs.getD i.toNat ([] : List Int)
theorem Dv {w : World} {A : Option Addr} {n : Nat} {xs : List (List Int)} (h : Kd.C (Kd.slice 2 (Kd.int .i64)) w A n xs) (i : Int) (h0 : 0 ≤ i) (h1 : i < n) : ∃ ad A0 c0, A = some ad ∧ w.cell? (ad.add i.toNat) = some (.slice A0 (jA xs i).length c0) ∧ (jA xs i).length ≤ c0 ∧ (Kd.int .i64).C w A0 (jA xs i).length (jA xs i) := by
  obtain ⟨ad, c, e, _, hK, hc0⟩ := Kd.kU h ([] : List Int) i h0 h1;have hc : ∀ j u, c[j]? = some u → w.cell? (ad.add (i.toNat * 1 + j)) = some u := hc0;obtain ⟨A0, c0, rfl, l0, g0⟩ := hK;exact ⟨ad, A0, c0, e, by have hq := hc 0 _ rfl; rwa [Nat.mul_one, Nat.add_zero] at hq, l0, g0⟩
def iW (xs : List (List Int)) (i : Int) : (List Int) := xs.getD i.toNat ([] : List Int)
theorem F8 {w : World} {A : Option Addr} {n : Nat} {xs : List (List Int)} (h : Kd.C (Kd.slice 3 (Kd.int .i64)) w A n xs) (i : Int) (h0 : 0 ≤ i) (h1 : i < n) : ∃ ad A0 c0, A = some ad ∧ w.cell? (ad.add i.toNat) = some (.slice A0 (iW xs i).length c0) ∧ (iW xs i).length ≤ c0 ∧ (Kd.int .i64).C w A0 (iW xs i).length (iW xs i) := by
  obtain ⟨ad, c, e, _, hK, hc0⟩ := Kd.kU h ([] : List Int) i h0 h1;have hc : ∀ j u, c[j]? = some u → w.cell? (ad.add (i.toNat * 1 + j)) = some u := hc0;obtain ⟨A0, c0, rfl, l0, g0⟩ := hK;exact ⟨ad, A0, c0, e, by have hq := hc 0 _ rfl; rwa [Nat.mul_one, Nat.add_zero] at hq, l0, g0⟩
def pU (xs : List (List (List Int))) (i : Int) : (List (List Int)) := xs.getD i.toNat ([] : List (List Int))
theorem Dw {w : World} {A : Option Addr} {n : Nat} {xs : List (List (List Int))} (h : Kd.C (Kd.slice 47 (Kd.slice 3 (Kd.int .i64))) w A n xs) (i : Int) (h0 : 0 ≤ i) (h1 : i < n) : ∃ ad A0 c0, A = some ad ∧ w.cell? (ad.add i.toNat) = some (.slice A0 (pU xs i).length c0) ∧ (pU xs i).length ≤ c0 ∧ (Kd.slice 3 (Kd.int .i64)).C w A0 (pU xs i).length (pU xs i) := by
  obtain ⟨ad, c, e, _, hK, hc0⟩ := Kd.kU h ([] : List (List Int)) i h0 h1;have hc : ∀ j u, c[j]? = some u → w.cell? (ad.add (i.toNat * 1 + j)) = some u := hc0;obtain ⟨A0, c0, rfl, l0, g0⟩ := hK;exact ⟨ad, A0, c0, e, by have hq := hc 0 _ rfl; rwa [Nat.mul_one, Nat.add_zero] at hq, l0, g0⟩
structure S72 where
  f0 : Int
def z72 : S72 := ⟨(0 : Int)⟩
def k72 : Kd S72 := Kd.iso (Kd.int .i64) (fun x : S72 => x.f0)
theorem AA : Kd.Heap k72 := Kd.nT _ (Kd.kE .i64)
theorem xM {w : World} {x : S72} {cs : List Value} (h : k72.K w x cs) : cs = [.int .i64 x.f0] := by
  obtain rfl := h;exact rfl
theorem zD {w : World} {base : Nat} {ok : Nat → Prop} {x : S72} {cs : List Value} (h : k72.M w base ok x cs) : cs = [.int .i64 x.f0] := by
  obtain rfl := h;exact rfl
theorem Bg (w : World) (x : S72)  : k72.K w x [.int .i64 x.f0] := rfl
theorem CS (w : World) (base : Nat) (ok : Nat → Prop) (x : S72)  : k72.M w base ok x [.int .i64 x.f0] := rfl
theorem Fq (W : World) (ok : Nat → Prop) (x : S72) : Kd.FK k72 W ok x [.int .i64 x.f0] := fun W2 _ => Bg W2 x
def Eo (xs : List S72) (i : Int) : S72 := xs.getD i.toNat z72
theorem FM {w : World} {A : Option Addr} {n : Nat} {xs : List S72} (h : Kd.C k72 w A n xs) (i : Int) (h0 : 0 ≤ i) (h1 : i < n) : ∃ ad , A = some ad ∧ w.cell? (ad.add i.toNat) = some (.int .i64 (Eo xs i).f0) := by
  obtain ⟨ad, c, e, _, hK, hc0⟩ := Kd.kU h z72 i h0 h1;have hc : ∀ j u, c[j]? = some u → w.cell? (ad.add (i.toNat * 1 + j)) = some u := hc0;obtain rfl := xM hK;exact ⟨ad, e, by have hq := hc 0 _ rfl; rwa [Nat.mul_one, Nat.add_zero] at hq⟩
structure S74 where
  f0 : (List S78)
  f1 : (List Int)
  f2 : (List (List Int))
  f3 : Int
  f4 : Bool
  f5 : (List Int)
  f6 : (List Int)
  f7 : S72
def z74 : S74 := ⟨([] : List S78), ([] : List Int), ([] : List (List Int)), (0 : Int), false, ([] : List Int), ([] : List Int), z72⟩
def k74 : Kd S74 := Kd.iso (Kd.pair (Kd.slice 78 k78) (Kd.pair (Kd.slice 2 (Kd.int .i64)) (Kd.pair (Kd.slice 47 (Kd.slice 3 (Kd.int .i64))) (Kd.pair (Kd.int .i64) (Kd.pair Kd.bool (Kd.pair (Kd.slice 3 (Kd.int .i64)) (Kd.pair (Kd.slice 3 (Kd.int .i64)) k72))))))) (fun x : S74 => (x.f0, x.f1, x.f2, x.f3, x.f4, x.f5, x.f6, x.f7))
theorem AB : Kd.Heap k74 := Kd.nT _ (Kd.kT (Kd.kN 78 Aw) (Kd.kT (Kd.kN 2 (Kd.kE .i64)) (Kd.kT (Kd.kN 47 (Kd.kN 3 (Kd.kE .i64))) (Kd.kT (Kd.kE .i64) (Kd.kT Kd.vN (Kd.kT (Kd.kN 3 (Kd.kE .i64)) (Kd.kT (Kd.kN 3 (Kd.kE .i64)) AA)))))))
theorem oP {w : World} {x : S74} {cs : List Value} (h : k74.K w x cs) : ∃ A0 c0 A1 c1 A2 c2 A5 c5 A6 c6, cs = [.slice A0 x.f0.length c0, .slice A1 x.f1.length c1, .slice A2 x.f2.length c2, .int .i64 x.f3, .bool x.f4, .slice A5 x.f5.length c5, .slice A6 x.f6.length c6, .int .i64 x.f7.f0] ∧ x.f0.length ≤ c0 ∧ k78.C w A0 x.f0.length x.f0 ∧ x.f1.length ≤ c1 ∧ (Kd.int .i64).C w A1 x.f1.length x.f1 ∧ x.f2.length ≤ c2 ∧ (Kd.slice 3 (Kd.int .i64)).C w A2 x.f2.length x.f2 ∧ x.f5.length ≤ c5 ∧ (Kd.int .i64).C w A5 x.f5.length x.f5 ∧ x.f6.length ≤ c6 ∧ (Kd.int .i64).C w A6 x.f6.length x.f6 := by
  obtain ⟨_, _, rfl, ⟨A0, c0, rfl, l0, g0⟩, ⟨_, _, rfl, ⟨A1, c1, rfl, l1, g1⟩, ⟨_, _, rfl, ⟨A2, c2, rfl, l2, g2⟩, ⟨_, _, rfl, rfl, ⟨_, _, rfl, rfl, ⟨_, _, rfl, ⟨A5, c5, rfl, l5, g5⟩, ⟨_, _, rfl, ⟨A6, c6, rfl, l6, g6⟩, s7⟩⟩⟩⟩⟩⟩⟩ := h;obtain rfl := xM s7;exact ⟨A0, c0, A1, c1, A2, c2, A5, c5, A6, c6, rfl, l0, g0, l1, g1, l2, g2, l5, g5, l6, g6⟩
theorem Ep {w : World} {base : Nat} {ok : Nat → Prop} {x : S74} {cs : List Value} (h : k74.M w base ok x cs) : ∃ v0 v1 v2 v5 v6, cs = [v0, v1, v2, .int .i64 x.f3, .bool x.f4, v5, v6, .int .i64 x.f7.f0] ∧ k78.R 78 w base ok v0 x.f0 ∧ (Kd.int .i64).R 2 w base ok v1 x.f1 ∧ (Kd.slice 3 (Kd.int .i64)).R 47 w base ok v2 x.f2 ∧ (Kd.int .i64).R 3 w base ok v5 x.f5 ∧ (Kd.int .i64).R 3 w base ok v6 x.f6 := by
  obtain ⟨_, _, rfl, ⟨v0, rfl, g0⟩, ⟨_, _, rfl, ⟨v1, rfl, g1⟩, ⟨_, _, rfl, ⟨v2, rfl, g2⟩, ⟨_, _, rfl, rfl, ⟨_, _, rfl, rfl, ⟨_, _, rfl, ⟨v5, rfl, g5⟩, ⟨_, _, rfl, ⟨v6, rfl, g6⟩, s7⟩⟩⟩⟩⟩⟩⟩ := h;obtain rfl := zD s7;exact ⟨v0, v1, v2, v5, v6, rfl, g0, g1, g2, g5, g6⟩
theorem Es (w : World) (x : S74) {A0 : Option Addr} {c0 : Nat} (l0 : x.f0.length ≤ c0) (g0 : k78.C w A0 x.f0.length x.f0) {A1 : Option Addr} {c1 : Nat} (l1 : x.f1.length ≤ c1) (g1 : (Kd.int .i64).C w A1 x.f1.length x.f1) {A2 : Option Addr} {c2 : Nat} (l2 : x.f2.length ≤ c2) (g2 : (Kd.slice 3 (Kd.int .i64)).C w A2 x.f2.length x.f2) {A5 : Option Addr} {c5 : Nat} (l5 : x.f5.length ≤ c5) (g5 : (Kd.int .i64).C w A5 x.f5.length x.f5) {A6 : Option Addr} {c6 : Nat} (l6 : x.f6.length ≤ c6) (g6 : (Kd.int .i64).C w A6 x.f6.length x.f6) : k74.K w x [.slice A0 x.f0.length c0, .slice A1 x.f1.length c1, .slice A2 x.f2.length c2, .int .i64 x.f3, .bool x.f4, .slice A5 x.f5.length c5, .slice A6 x.f6.length c6, .int .i64 x.f7.f0] := ⟨[.slice A0 x.f0.length c0], [.slice A1 x.f1.length c1, .slice A2 x.f2.length c2, .int .i64 x.f3, .bool x.f4, .slice A5 x.f5.length c5, .slice A6 x.f6.length c6, .int .i64 x.f7.f0], rfl, ⟨A0, c0, rfl, l0, g0⟩, ⟨[.slice A1 x.f1.length c1], [.slice A2 x.f2.length c2, .int .i64 x.f3, .bool x.f4, .slice A5 x.f5.length c5, .slice A6 x.f6.length c6, .int .i64 x.f7.f0], rfl, ⟨A1, c1, rfl, l1, g1⟩, ⟨[.slice A2 x.f2.length c2], [.int .i64 x.f3, .bool x.f4, .slice A5 x.f5.length c5, .slice A6 x.f6.length c6, .int .i64 x.f7.f0], rfl, ⟨A2, c2, rfl, l2, g2⟩, ⟨[.int .i64 x.f3], [.bool x.f4, .slice A5 x.f5.length c5, .slice A6 x.f6.length c6, .int .i64 x.f7.f0], rfl, rfl, ⟨[.bool x.f4], [.slice A5 x.f5.length c5, .slice A6 x.f6.length c6, .int .i64 x.f7.f0], rfl, rfl, ⟨[.slice A5 x.f5.length c5], [.slice A6 x.f6.length c6, .int .i64 x.f7.f0], rfl, ⟨A5, c5, rfl, l5, g5⟩, ⟨[.slice A6 x.f6.length c6], [.int .i64 x.f7.f0], rfl, ⟨A6, c6, rfl, l6, g6⟩, (Bg w x.f7 )⟩⟩⟩⟩⟩⟩⟩
theorem Fv (w : World) (base : Nat) (ok : Nat → Prop) (x : S74) {v0 : Value} (g0 : k78.R 78 w base ok v0 x.f0) {v1 : Value} (g1 : (Kd.int .i64).R 2 w base ok v1 x.f1) {v2 : Value} (g2 : (Kd.slice 3 (Kd.int .i64)).R 47 w base ok v2 x.f2) {v5 : Value} (g5 : (Kd.int .i64).R 3 w base ok v5 x.f5) {v6 : Value} (g6 : (Kd.int .i64).R 3 w base ok v6 x.f6) : k74.M w base ok x [v0, v1, v2, .int .i64 x.f3, .bool x.f4, v5, v6, .int .i64 x.f7.f0] := ⟨[v0], [v1, v2, .int .i64 x.f3, .bool x.f4, v5, v6, .int .i64 x.f7.f0], rfl, ⟨v0, rfl, g0⟩, ⟨[v1], [v2, .int .i64 x.f3, .bool x.f4, v5, v6, .int .i64 x.f7.f0], rfl, ⟨v1, rfl, g1⟩, ⟨[v2], [.int .i64 x.f3, .bool x.f4, v5, v6, .int .i64 x.f7.f0], rfl, ⟨v2, rfl, g2⟩, ⟨[.int .i64 x.f3], [.bool x.f4, v5, v6, .int .i64 x.f7.f0], rfl, rfl, ⟨[.bool x.f4], [v5, v6, .int .i64 x.f7.f0], rfl, rfl, ⟨[v5], [v6, .int .i64 x.f7.f0], rfl, ⟨v5, rfl, g5⟩, ⟨[v6], [.int .i64 x.f7.f0], rfl, ⟨v6, rfl, g6⟩, (CS w base ok x.f7 )⟩⟩⟩⟩⟩⟩⟩
theorem oG {W : World} {ok : Nat → Prop} {x : S74} {cs : List Value} (h : Kd.FK k74 W ok x cs) : ∃ A0 c0 A1 c1 A2 c2 A5 c5 A6 c6, cs = [.slice A0 x.f0.length c0, .slice A1 x.f1.length c1, .slice A2 x.f2.length c2, .int .i64 x.f3, .bool x.f4, .slice A5 x.f5.length c5, .slice A6 x.f6.length c6, .int .i64 x.f7.f0] ∧ x.f0.length ≤ c0 ∧ Kd.F k78 W ok A0 x.f0.length x.f0 ∧ x.f1.length ≤ c1 ∧ Kd.F (Kd.int .i64) W ok A1 x.f1.length x.f1 ∧ x.f2.length ≤ c2 ∧ Kd.F (Kd.slice 3 (Kd.int .i64)) W ok A2 x.f2.length x.f2 ∧ x.f5.length ≤ c5 ∧ Kd.F (Kd.int .i64) W ok A5 x.f5.length x.f5 ∧ x.f6.length ≤ c6 ∧ Kd.F (Kd.int .i64) W ok A6 x.f6.length x.f6 := by
  obtain ⟨A0, c0, A1, c1, A2, c2, A5, c5, A6, c6, rfl, l0, _, l1, _, l2, _, l5, _, l6, _⟩ := oP (Kd.ng h);exact ⟨A0, c0, A1, c1, A2, c2, A5, c5, A6, c6, rfl, l0, (fun W' hW => by obtain ⟨A0_, c0_, A1_, c1_, A2_, c2_, A5_, c5_, A6_, c6_, he, l0_, g0_, l1_, g1_, l2_, g2_, l5_, g5_, l6_, g6_⟩ := oP (h W' hW); injection (Option.some.inj (show some (Value.slice A0 x.f0.length c0) = some (Value.slice A0_ x.f0.length c0_) from congrArg (fun l => l[0]?) he)) with ha_ _ _; rw [ha_]; exact g0_), l1, (fun W' hW => by obtain ⟨A0_, c0_, A1_, c1_, A2_, c2_, A5_, c5_, A6_, c6_, he, l0_, g0_, l1_, g1_, l2_, g2_, l5_, g5_, l6_, g6_⟩ := oP (h W' hW); injection (Option.some.inj (show some (Value.slice A1 x.f1.length c1) = some (Value.slice A1_ x.f1.length c1_) from congrArg (fun l => l[1]?) he)) with ha_ _ _; rw [ha_]; exact g1_), l2, (fun W' hW => by obtain ⟨A0_, c0_, A1_, c1_, A2_, c2_, A5_, c5_, A6_, c6_, he, l0_, g0_, l1_, g1_, l2_, g2_, l5_, g5_, l6_, g6_⟩ := oP (h W' hW); injection (Option.some.inj (show some (Value.slice A2 x.f2.length c2) = some (Value.slice A2_ x.f2.length c2_) from congrArg (fun l => l[2]?) he)) with ha_ _ _; rw [ha_]; exact g2_), l5, (fun W' hW => by obtain ⟨A0_, c0_, A1_, c1_, A2_, c2_, A5_, c5_, A6_, c6_, he, l0_, g0_, l1_, g1_, l2_, g2_, l5_, g5_, l6_, g6_⟩ := oP (h W' hW); injection (Option.some.inj (show some (Value.slice A5 x.f5.length c5) = some (Value.slice A5_ x.f5.length c5_) from congrArg (fun l => l[5]?) he)) with ha_ _ _; rw [ha_]; exact g5_), l6, (fun W' hW => by obtain ⟨A0_, c0_, A1_, c1_, A2_, c2_, A5_, c5_, A6_, c6_, he, l0_, g0_, l1_, g1_, l2_, g2_, l5_, g5_, l6_, g6_⟩ := oP (h W' hW); injection (Option.some.inj (show some (Value.slice A6 x.f6.length c6) = some (Value.slice A6_ x.f6.length c6_) from congrArg (fun l => l[6]?) he)) with ha_ _ _; rw [ha_]; exact g6_)⟩
theorem oQ (W : World) (ok : Nat → Prop) (x : S74) {A0 : Option Addr} {c0 : Nat} (l0 : x.f0.length ≤ c0) (g0 : Kd.F k78 W ok A0 x.f0.length x.f0) {A1 : Option Addr} {c1 : Nat} (l1 : x.f1.length ≤ c1) (g1 : Kd.F (Kd.int .i64) W ok A1 x.f1.length x.f1) {A2 : Option Addr} {c2 : Nat} (l2 : x.f2.length ≤ c2) (g2 : Kd.F (Kd.slice 3 (Kd.int .i64)) W ok A2 x.f2.length x.f2) {A5 : Option Addr} {c5 : Nat} (l5 : x.f5.length ≤ c5) (g5 : Kd.F (Kd.int .i64) W ok A5 x.f5.length x.f5) {A6 : Option Addr} {c6 : Nat} (l6 : x.f6.length ≤ c6) (g6 : Kd.F (Kd.int .i64) W ok A6 x.f6.length x.f6) : Kd.FK k74 W ok x [.slice A0 x.f0.length c0, .slice A1 x.f1.length c1, .slice A2 x.f2.length c2, .int .i64 x.f3, .bool x.f4, .slice A5 x.f5.length c5, .slice A6 x.f6.length c6, .int .i64 x.f7.f0] := fun W2 hW => Es W2 x l0 (g0 W2 hW) l1 (g1 W2 hW) l2 (g2 W2 hW) l5 (g5 W2 hW) l6 (g6 W2 hW)
def lY (xs : List S74) (i : Int) : S74 := xs.getD i.toNat z74
theorem FN {w : World} {A : Option Addr} {n : Nat} {xs : List S74} (h : Kd.C k74 w A n xs) (i : Int) (h0 : 0 ≤ i) (h1 : i < n) : ∃ ad A0 c0 A1 c1 A2 c2 A5 c5 A6 c6, A = some ad ∧ w.cell? (ad.add (i.toNat * 8)) = some (.slice A0 (lY xs i).f0.length c0) ∧ w.cell? ⟨(ad.add (i.toNat * 8)).block, (ad.add (i.toNat * 8)).off + 1, none⟩ = some (.slice A1 (lY xs i).f1.length c1) ∧ w.cell? ⟨(ad.add (i.toNat * 8)).block, (ad.add (i.toNat * 8)).off + 2, none⟩ = some (.slice A2 (lY xs i).f2.length c2) ∧ w.cell? ⟨(ad.add (i.toNat * 8)).block, (ad.add (i.toNat * 8)).off + 3, none⟩ = some (.int .i64 (lY xs i).f3) ∧ w.cell? ⟨(ad.add (i.toNat * 8)).block, (ad.add (i.toNat * 8)).off + 4, none⟩ = some (.bool (lY xs i).f4) ∧ w.cell? ⟨(ad.add (i.toNat * 8)).block, (ad.add (i.toNat * 8)).off + 5, none⟩ = some (.slice A5 (lY xs i).f5.length c5) ∧ w.cell? ⟨(ad.add (i.toNat * 8)).block, (ad.add (i.toNat * 8)).off + 6, none⟩ = some (.slice A6 (lY xs i).f6.length c6) ∧ w.cell? ⟨(ad.add (i.toNat * 8)).block, (ad.add (i.toNat * 8)).off + 7, none⟩ = some (.int .i64 (lY xs i).f7.f0) ∧ (lY xs i).f0.length ≤ c0 ∧ k78.C w A0 (lY xs i).f0.length (lY xs i).f0 ∧ (lY xs i).f1.length ≤ c1 ∧ (Kd.int .i64).C w A1 (lY xs i).f1.length (lY xs i).f1 ∧ (lY xs i).f2.length ≤ c2 ∧ (Kd.slice 3 (Kd.int .i64)).C w A2 (lY xs i).f2.length (lY xs i).f2 ∧ (lY xs i).f5.length ≤ c5 ∧ (Kd.int .i64).C w A5 (lY xs i).f5.length (lY xs i).f5 ∧ (lY xs i).f6.length ≤ c6 ∧ (Kd.int .i64).C w A6 (lY xs i).f6.length (lY xs i).f6 := by
  obtain ⟨ad, c, e, _, hK, hc0⟩ := Kd.kU h z74 i h0 h1;have hc : ∀ j u, c[j]? = some u → w.cell? (ad.add (i.toNat * 8 + j)) = some u := hc0;obtain ⟨A0, c0, A1, c1, A2, c2, A5, c5, A6, c6, rfl, l0, g0, l1, g1, l2, g2, l5, g5, l6, g6⟩ := oP hK;exact ⟨ad, A0, c0, A1, c1, A2, c2, A5, c5, A6, c6, e, hc 0 _ rfl, by rw [← kS _ _ 1 (by omega)]; exact hc 1 _ rfl, by rw [← kS _ _ 2 (by omega)]; exact hc 2 _ rfl, by rw [← kS _ _ 3 (by omega)]; exact hc 3 _ rfl, by rw [← kS _ _ 4 (by omega)]; exact hc 4 _ rfl, by rw [← kS _ _ 5 (by omega)]; exact hc 5 _ rfl, by rw [← kS _ _ 6 (by omega)]; exact hc 6 _ rfl, by rw [← kS _ _ 7 (by omega)]; exact hc 7 _ rfl, l0, g0, l1, g1, l2, g2, l5, g5, l6, g6⟩
structure S24 where
  f0 : (Option S74)
def z24 : S24 := ⟨(none : Option S74)⟩
def k24 : Kd S24 := Kd.iso (Kd.ptr 74 k74) (fun x : S24 => x.f0)
theorem EN : Kd.Heap k24 := Kd.nT _ (Kd.Au 74 AB)
theorem zF {W : World} {ok : Nat → Prop} {x : S24} {cs : List Value} (h : Kd.FK k24 W ok x cs) : ∃ v0, cs = [v0] ∧ Kd.FK (Kd.ptr 74 k74) W ok x.f0 [v0] := by
  replace h : Kd.FK (Kd.ptr 74 k74) W ok ((fun x : S24 => x.f0) x) cs := h;obtain ⟨v0, rfl, g0⟩ := Kd.zn h;exact ⟨v0, rfl, g0⟩
theorem CU (W : World) (ok : Nat → Prop) (x : S24) {v0 : Value} (g0 : Kd.FK (Kd.ptr 74 k74) W ok x.f0 [v0]) : Kd.FK k24 W ok x ([v0]) := g0
def FP (xs : List S24) (i : Int) : S24 := xs.getD i.toNat z24
end Go.Proofs.Ytdkbmchbkkhpoaa.PMfr
