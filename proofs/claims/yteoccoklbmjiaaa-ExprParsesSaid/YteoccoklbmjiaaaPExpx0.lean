import Derived.Test.YteoccoklbmjiaaaProg
import Derived.Test.YteoccoklbmjiaaaBinLaws
import Derived.Test.YteoccoklbmjiaaaCArr
import Derived.Test.YteoccoklbmjiaaaCOpens
import Derived.Test.YteoccoklbmjiaaaShelf
import Derived.Test.YteoccoklbmjiaaaCSq
namespace Go.Proofs.Yteoccoklbmjiaaa.PExp
open Go.RowKit Go.Proofs.YteoccoklbmjiaaaW.PrintWords Go.Proofs.YteoccoklbmjiaaaW.PrintLast Go.Proofs.YteoccoklbmjiaaaW.PrintMore
set_option linter.unusedVariables false
set_option linter.unusedSimpArgs false
set_option maxHeartbeats 8000000
set_option maxRecDepth 100000
theorem info5 : (Try.prog.info? 5).map (fun i => (i.zero, i.size, i.bytes)) = some (some (.int .u8 0), 1, 1) := by kernel_rfl
theorem info9 : (Try.prog.info? 9).map (fun i => (i.zero, i.size, i.bytes)) = some (some (.string ⟨#[]⟩), 1, 16) := by kernel_rfl
theorem vP : (Try.prog.info? 28).map (fun i => (i.zero, i.size, i.bytes)) = some (some (.agg #[(I6 0), (I6 0), (I6 0)]), 3, 24) := by kernel_rfl
theorem yH : (Try.prog.info? 44).map (fun i => (i.zero, i.size, i.bytes)) = some (some (.agg #[(I6 0), (I6 0), (I6 0), (.string ⟨#[]⟩), (.string ⟨#[]⟩), (.slice none 0 0)]), 6, 80) := by kernel_rfl
structure S28 where
  f0 : Int
  f1 : Int
  f2 : Int
def z28 : S28 := ⟨(0 : Int), (0 : Int), (0 : Int)⟩
def k28 : Kd S28 := Kd.iso (Kd.pair (Kd.int .i64) (Kd.pair (Kd.int .i64) (Kd.int .i64))) (fun x : S28 => (x.f0, x.f1, x.f2))
theorem E8 : Kd.Heap k28 := Kd.AA _ (Kd.vJ (Kd.wo .i64) (Kd.vJ (Kd.wo .i64) (Kd.wo .i64)))
theorem uq {w : World} {x : S28} {cs : List Value} (h : k28.K w x cs) : cs = [I6 x.f0, I6 x.f1, I6 x.f2] := by
  obtain ⟨_, _, rfl, rfl, ⟨_, _, rfl, rfl, rfl⟩⟩ := h;exact rfl
theorem Ia {w : World} {base : Nat} {ok : Nat → Prop} {x : S28} {cs : List Value} (h : k28.M w base ok x cs) : cs = [I6 x.f0, I6 x.f1, I6 x.f2] := by
  obtain ⟨_, _, rfl, rfl, ⟨_, _, rfl, rfl, rfl⟩⟩ := h;exact rfl
theorem Ib (w : World) (x : S28)  : k28.K w x [I6 x.f0, I6 x.f1, I6 x.f2] := ⟨[I6 x.f0], [I6 x.f1, I6 x.f2], rfl, rfl, ⟨[I6 x.f1], [I6 x.f2], rfl, rfl, rfl⟩⟩
theorem Jm (w : World) (base : Nat) (ok : Nat → Prop) (x : S28)  : k28.M w base ok x [I6 x.f0, I6 x.f1, I6 x.f2] := ⟨[I6 x.f0], [I6 x.f1, I6 x.f2], rfl, rfl, ⟨[I6 x.f1], [I6 x.f2], rfl, rfl, rfl⟩⟩
theorem Aj (W : World) (ok : Nat → Prop) (x : S28) : Kd.FK k28 W ok x [I6 x.f0, I6 x.f1, I6 x.f2] := fun W2 _ => Ib W2 x
def oO (xs : List S28) (i : Int) : S28 := xs.getD i.toNat z28
theorem JM {w : World} {A : Option Addr} {n : Nat} {xs : List S28} (h : Kd.C k28 w A n xs) (i : Int) (h0 : 0 ≤ i) (h1 : i < n) : ∃ ad , A = some ad ∧ w.cell? (ad.add (i.toNat * 3)) = some (I6 (oO xs i).f0) ∧ w.cell? ⟨(ad.add (i.toNat * 3)).block, (ad.add (i.toNat * 3)).off + 1, none⟩ = some (I6 (oO xs i).f1) ∧ w.cell? ⟨(ad.add (i.toNat * 3)).block, (ad.add (i.toNat * 3)).off + 2, none⟩ = some (I6 (oO xs i).f2) := by
  obtain ⟨ad, c, e, _, hK, hc0⟩ := Kd.wR h z28 i h0 h1;have hc : ∀ j u, c[j]? = some u → w.cell? (ad.add (i.toNat * 3 + j)) = some u := hc0;obtain rfl := uq hK;exact ⟨ad, e, hc 0 _ rfl, by rw [← vH _ _ 1 (by omega)]; exact hc 1 _ rfl, by rw [← vH _ _ 2 (by omega)]; exact hc 2 _ rfl⟩
def Fa (xs : List (List Int)) (i : Int) : (List Int) := xs.getD i.toNat ([] : List Int)
theorem JV {w : World} {A : Option Addr} {n : Nat} {xs : List (List Int)} (h : Kd.C (Kd.slice 5 (Kd.int .u8)) w A n xs) (i : Int) (h0 : 0 ≤ i) (h1 : i < n) : ∃ ad A0 c0, A = some ad ∧ w.cell? (ad.add i.toNat) = some (.slice A0 (Fa xs i).length c0) ∧ (Fa xs i).length ≤ c0 ∧ (Kd.int .u8).C w A0 (Fa xs i).length (Fa xs i) := by
  obtain ⟨ad, c, e, _, hK, hc0⟩ := Kd.wR h ([] : List Int) i h0 h1;have hc : ∀ j u, c[j]? = some u → w.cell? (ad.add (i.toNat * 1 + j)) = some u := hc0;obtain ⟨A0, c0, rfl, l0, g0⟩ := hK;exact ⟨ad, A0, c0, e, by have hq := hc 0 _ rfl; rwa [Nat.mul_one, Nat.add_zero] at hq, l0, g0⟩
def Fb (xs : List (List S28)) (i : Int) : (List S28) := xs.getD i.toNat ([] : List S28)
theorem JW {w : World} {A : Option Addr} {n : Nat} {xs : List (List S28)} (h : Kd.C (Kd.slice 28 k28) w A n xs) (i : Int) (h0 : 0 ≤ i) (h1 : i < n) : ∃ ad A0 c0, A = some ad ∧ w.cell? (ad.add i.toNat) = some (.slice A0 (Fb xs i).length c0) ∧ (Fb xs i).length ≤ c0 ∧ k28.C w A0 (Fb xs i).length (Fb xs i) := by
  obtain ⟨ad, c, e, _, hK, hc0⟩ := Kd.wR h ([] : List S28) i h0 h1;have hc : ∀ j u, c[j]? = some u → w.cell? (ad.add (i.toNat * 1 + j)) = some u := hc0;obtain ⟨A0, c0, rfl, l0, g0⟩ := hK;exact ⟨ad, A0, c0, e, by have hq := hc 0 _ rfl; rwa [Nat.mul_one, Nat.add_zero] at hq, l0, g0⟩
structure rP where
  f0 : (List Int)
  f1 : (List S28)
  f2 : Int
  f3 : Int
def JO : rP := ⟨([] : List Int), ([] : List S28), (0 : Int), (0 : Int)⟩
def xW : Kd rP := Kd.iso (Kd.pair (Kd.slice 5 (Kd.int .u8)) (Kd.pair (Kd.slice 28 k28) (Kd.pair (Kd.int .i64) (Kd.int .i64)))) (fun x : rP => (x.f0, x.f1, x.f2, x.f3))
theorem Ic : Kd.Heap xW := Kd.AA _ (Kd.vJ (Kd.y9 5 (Kd.wo .u8)) (Kd.vJ (Kd.y9 28 E8) (Kd.vJ (Kd.wo .i64) (Kd.wo .i64))))
theorem yM {w : World} {x : rP} {cs : List Value} (h : xW.K w x cs) : ∃ A0 c0 A1 c1, cs = [.slice A0 x.f0.length c0, .slice A1 x.f1.length c1, I6 x.f2, I6 x.f3] ∧ x.f0.length ≤ c0 ∧ (Kd.int .u8).C w A0 x.f0.length x.f0 ∧ x.f1.length ≤ c1 ∧ k28.C w A1 x.f1.length x.f1 := by
  obtain ⟨_, _, rfl, ⟨A0, c0, rfl, l0, g0⟩, ⟨_, _, rfl, ⟨A1, c1, rfl, l1, g1⟩, ⟨_, _, rfl, rfl, rfl⟩⟩⟩ := h;exact ⟨A0, c0, A1, c1, rfl, l0, g0, l1, g1⟩
theorem H8 {w : World} {base : Nat} {ok : Nat → Prop} {x : rP} {cs : List Value} (h : xW.M w base ok x cs) : ∃ v0 v1, cs = [v0, v1, I6 x.f2, I6 x.f3] ∧ (Kd.int .u8).R 5 w base ok v0 x.f0 ∧ k28.R 28 w base ok v1 x.f1 := by
  obtain ⟨_, _, rfl, ⟨v0, rfl, g0⟩, ⟨_, _, rfl, ⟨v1, rfl, g1⟩, ⟨_, _, rfl, rfl, rfl⟩⟩⟩ := h;exact ⟨v0, v1, rfl, g0, g1⟩
theorem Gw (w : World) (x : rP) {A0 : Option Addr} {c0 : Nat} (l0 : x.f0.length ≤ c0) (g0 : (Kd.int .u8).C w A0 x.f0.length x.f0) {A1 : Option Addr} {c1 : Nat} (l1 : x.f1.length ≤ c1) (g1 : k28.C w A1 x.f1.length x.f1) : xW.K w x [.slice A0 x.f0.length c0, .slice A1 x.f1.length c1, I6 x.f2, I6 x.f3] := ⟨[.slice A0 x.f0.length c0], [.slice A1 x.f1.length c1, I6 x.f2, I6 x.f3], rfl, ⟨A0, c0, rfl, l0, g0⟩, ⟨[.slice A1 x.f1.length c1], [I6 x.f2, I6 x.f3], rfl, ⟨A1, c1, rfl, l1, g1⟩, ⟨[I6 x.f2], [I6 x.f3], rfl, rfl, rfl⟩⟩⟩
theorem Ji (w : World) (base : Nat) (ok : Nat → Prop) (x : rP) {v0 : Value} (g0 : (Kd.int .u8).R 5 w base ok v0 x.f0) {v1 : Value} (g1 : k28.R 28 w base ok v1 x.f1) : xW.M w base ok x [v0, v1, I6 x.f2, I6 x.f3] := ⟨[v0], [v1, I6 x.f2, I6 x.f3], rfl, ⟨v0, rfl, g0⟩, ⟨[v1], [I6 x.f2, I6 x.f3], rfl, ⟨v1, rfl, g1⟩, ⟨[I6 x.f2], [I6 x.f3], rfl, rfl, rfl⟩⟩⟩
theorem yD {W : World} {ok : Nat → Prop} {x : rP} {cs : List Value} (h : Kd.FK xW W ok x cs) : ∃ A0 c0 A1 c1, cs = [.slice A0 x.f0.length c0, .slice A1 x.f1.length c1, I6 x.f2, I6 x.f3] ∧ x.f0.length ≤ c0 ∧ Kd.F (Kd.int .u8) W ok A0 x.f0.length x.f0 ∧ x.f1.length ≤ c1 ∧ Kd.F k28 W ok A1 x.f1.length x.f1 := by
  obtain ⟨A0, c0, A1, c1, rfl, l0, _, l1, _⟩ := yM (Kd.yx h);exact ⟨A0, c0, A1, c1, rfl, l0, (fun W' hW => by obtain ⟨A0_, c0_, A1_, c1_, he, l0_, g0_, l1_, g1_⟩ := yM (h W' hW); injection (Option.some.inj (show some (Value.slice A0 x.f0.length c0) = some (Value.slice A0_ x.f0.length c0_) from congrArg (fun l => l[0]?) he)) with ha_ _ _; rw [ha_]; exact g0_), l1, (fun W' hW => by obtain ⟨A0_, c0_, A1_, c1_, he, l0_, g0_, l1_, g1_⟩ := yM (h W' hW); injection (Option.some.inj (show some (Value.slice A1 x.f1.length c1) = some (Value.slice A1_ x.f1.length c1_) from congrArg (fun l => l[1]?) he)) with ha_ _ _; rw [ha_]; exact g1_)⟩
theorem sK (W : World) (ok : Nat → Prop) (x : rP) {A0 : Option Addr} {c0 : Nat} (l0 : x.f0.length ≤ c0) (g0 : Kd.F (Kd.int .u8) W ok A0 x.f0.length x.f0) {A1 : Option Addr} {c1 : Nat} (l1 : x.f1.length ≤ c1) (g1 : Kd.F k28 W ok A1 x.f1.length x.f1) : Kd.FK xW W ok x [.slice A0 x.f0.length c0, .slice A1 x.f1.length c1, I6 x.f2, I6 x.f3] := fun W2 hW => Gw W2 x l0 (g0 W2 hW) l1 (g1 W2 hW)
def wZ (xs : List rP) (i : Int) : rP := xs.getD i.toNat JO
theorem Jo {w : World} {A : Option Addr} {n : Nat} {xs : List rP} (h : Kd.C xW w A n xs) (i : Int) (h0 : 0 ≤ i) (h1 : i < n) : ∃ ad A0 c0 A1 c1, A = some ad ∧ w.cell? (ad.add (i.toNat * 4)) = some (.slice A0 (wZ xs i).f0.length c0) ∧ w.cell? ⟨(ad.add (i.toNat * 4)).block, (ad.add (i.toNat * 4)).off + 1, none⟩ = some (.slice A1 (wZ xs i).f1.length c1) ∧ w.cell? ⟨(ad.add (i.toNat * 4)).block, (ad.add (i.toNat * 4)).off + 2, none⟩ = some (I6 (wZ xs i).f2) ∧ w.cell? ⟨(ad.add (i.toNat * 4)).block, (ad.add (i.toNat * 4)).off + 3, none⟩ = some (I6 (wZ xs i).f3) ∧ (wZ xs i).f0.length ≤ c0 ∧ (Kd.int .u8).C w A0 (wZ xs i).f0.length (wZ xs i).f0 ∧ (wZ xs i).f1.length ≤ c1 ∧ k28.C w A1 (wZ xs i).f1.length (wZ xs i).f1 := by
  obtain ⟨ad, c, e, _, hK, hc0⟩ := Kd.wR h JO i h0 h1;have hc : ∀ j u, c[j]? = some u → w.cell? (ad.add (i.toNat * 4 + j)) = some u := hc0;obtain ⟨A0, c0, A1, c1, rfl, l0, g0, l1, g1⟩ := yM hK;exact ⟨ad, A0, c0, A1, c1, e, hc 0 _ rfl, by rw [← vH _ _ 1 (by omega)]; exact hc 1 _ rfl, by rw [← vH _ _ 2 (by omega)]; exact hc 2 _ rfl, by rw [← vH _ _ 3 (by omega)]; exact hc 3 _ rfl, l0, g0, l1, g1⟩
structure S44 where
  f0 : Int
  f1 : Int
  f2 : Int
  f3 : ByteArray
  f4 : ByteArray
  f5 : (List S44)
def z44 : S44 := ⟨(0 : Int), (0 : Int), (0 : Int), e0, e0, ([] : List S44)⟩
def F44 (d : Kd S44) : Kd S44 := Kd.iso (Kd.pair (Kd.int .i64) (Kd.pair (Kd.int .i64) (Kd.pair (Kd.int .i64) (Kd.pair Kd.string (Kd.pair Kd.string (Kd.slice 44 d)))))) (fun x : S44 => (x.f0, x.f1, x.f2, x.f3, x.f4, x.f5))
theorem CZ : Kd.A8 F44 := Kd.Fv _ (Kd.yu (Kd.xw _) (Kd.yu (Kd.xw _) (Kd.yu (Kd.xw _) (Kd.yu (Kd.xw _) (Kd.yu (Kd.xw _) (Kd.DJ 44 Kd.GY))))))
theorem Jp : Kd.Sub F44 [44] := Kd.G6 _ (Kd.yQ (Kd.sub_const _ (by decide)) (Kd.yQ (Kd.sub_const _ (by decide)) (Kd.yQ (Kd.sub_const _ (by decide)) (Kd.yQ (Kd.sub_const _ (by decide)) (Kd.yQ (Kd.sub_const _ (by decide)) (Kd.Et 44 (by decide) Kd.Iw))))))
theorem Jq : ∀ n, (Kd.upto F44 6 [44] n).sz = 6 := Kd.G7 (fun _ => rfl)
def k44 : Kd S44 := Kd.fix F44 6 [44] Jq (Kd.Gh Jp)
theorem Jj : Kd.Heap k44 := Kd.FC (fun _ h_ => Kd.AA _ (Kd.vJ (Kd.wo .i64) (Kd.vJ (Kd.wo .i64) (Kd.vJ (Kd.wo .i64) (Kd.vJ Kd.zK (Kd.vJ Kd.zK (Kd.y9 44 h_)))))))
theorem Ak {w : World} {x : S44} {cs : List Value} (h : k44.K w x cs) : ∃ A5 c5, cs = [I6 x.f0, I6 x.f1, I6 x.f2, .string x.f3, .string x.f4, .slice A5 x.f5.length c5] ∧ x.f5.length ≤ c5 ∧ k44.C w A5 x.f5.length x.f5 := by
  obtain ⟨n, h⟩ := h
  cases n with
  | zero => exact h.elim
  | succ n =>
    obtain ⟨_, _, rfl, rfl, ⟨_, _, rfl, rfl, ⟨_, _, rfl, rfl, ⟨_, _, rfl, rfl, ⟨_, _, rfl, rfl, ⟨A5, c5, rfl, l5, g5⟩⟩⟩⟩⟩⟩ := h;exact ⟨A5, c5, rfl, l5, Kd.Jt g5⟩
theorem Ie {w : World} {base : Nat} {ok : Nat → Prop} {x : S44} {cs : List Value} (h : k44.M w base ok x cs) : ∃ v5, cs = [I6 x.f0, I6 x.f1, I6 x.f2, .string x.f3, .string x.f4, v5] ∧ k44.R 44 w base ok v5 x.f5 := by
  obtain ⟨n, h⟩ := h
  cases n with
  | zero => exact h.elim
  | succ n =>
    obtain ⟨_, _, rfl, rfl, ⟨_, _, rfl, rfl, ⟨_, _, rfl, rfl, ⟨_, _, rfl, rfl, ⟨_, _, rfl, rfl, ⟨v5, rfl, g5⟩⟩⟩⟩⟩⟩ := h;exact ⟨v5, rfl, Kd.Ju g5⟩
theorem Ig (w : World) (x : S44) {A5 : Option Addr} {c5 : Nat} (l5 : x.f5.length ≤ c5) (g5 : k44.C w A5 x.f5.length x.f5) : k44.K w x [I6 x.f0, I6 x.f1, I6 x.f2, .string x.f3, .string x.f4, .slice A5 x.f5.length c5] := by
  obtain ⟨n5, q5⟩ := Kd.DL CZ g5;have r5 := Kd.Ew CZ Jq (show n5 ≤ n5 by omega) q5;exact ⟨n5 + 1, ⟨[I6 x.f0], [I6 x.f1, I6 x.f2, .string x.f3, .string x.f4, .slice A5 x.f5.length c5], rfl, rfl, ⟨[I6 x.f1], [I6 x.f2, .string x.f3, .string x.f4, .slice A5 x.f5.length c5], rfl, rfl, ⟨[I6 x.f2], [.string x.f3, .string x.f4, .slice A5 x.f5.length c5], rfl, rfl, ⟨[.string x.f3], [.string x.f4, .slice A5 x.f5.length c5], rfl, rfl, ⟨[.string x.f4], [.slice A5 x.f5.length c5], rfl, rfl, ⟨A5, c5, rfl, l5, r5⟩⟩⟩⟩⟩⟩⟩
theorem Jr (w : World) (base : Nat) (ok : Nat → Prop) (x : S44) {v5 : Value} (g5 : k44.R 44 w base ok v5 x.f5) : k44.M w base ok x [I6 x.f0, I6 x.f1, I6 x.f2, .string x.f3, .string x.f4, v5] := by
  obtain ⟨n5, q5⟩ := Kd.DK CZ g5;have r5 := Kd.Eu CZ Jq (show n5 ≤ n5 by omega) q5;exact ⟨n5 + 1, ⟨[I6 x.f0], [I6 x.f1, I6 x.f2, .string x.f3, .string x.f4, v5], rfl, rfl, ⟨[I6 x.f1], [I6 x.f2, .string x.f3, .string x.f4, v5], rfl, rfl, ⟨[I6 x.f2], [.string x.f3, .string x.f4, v5], rfl, rfl, ⟨[.string x.f3], [.string x.f4, v5], rfl, rfl, ⟨[.string x.f4], [v5], rfl, rfl, ⟨v5, rfl, r5⟩⟩⟩⟩⟩⟩⟩
theorem yh {W : World} {ok : Nat → Prop} {x : S44} {cs : List Value} (h : Kd.FK k44 W ok x cs) : ∃ A5 c5, cs = [I6 x.f0, I6 x.f1, I6 x.f2, .string x.f3, .string x.f4, .slice A5 x.f5.length c5] ∧ x.f5.length ≤ c5 ∧ Kd.F k44 W ok A5 x.f5.length x.f5 := by
  obtain ⟨A5, c5, rfl, l5, _⟩ := Ak (Kd.yx h);exact ⟨A5, c5, rfl, l5, (fun W' hW => by obtain ⟨A5_, c5_, he, l5_, g5_⟩ := Ak (h W' hW); injection (Option.some.inj (show some (Value.slice A5 x.f5.length c5) = some (Value.slice A5_ x.f5.length c5_) from congrArg (fun l => l[5]?) he)) with ha_ _ _; rw [ha_]; exact g5_)⟩
theorem uQ (W : World) (ok : Nat → Prop) (x : S44) {A5 : Option Addr} {c5 : Nat} (l5 : x.f5.length ≤ c5) (g5 : Kd.F k44 W ok A5 x.f5.length x.f5) : Kd.FK k44 W ok x [I6 x.f0, I6 x.f1, I6 x.f2, .string x.f3, .string x.f4, .slice A5 x.f5.length c5] := fun W2 hW => Ig W2 x l5 (g5 W2 hW)
def oU (xs : List S44) (i : Int) : S44 := xs.getD i.toNat z44
theorem JQ {w : World} {A : Option Addr} {n : Nat} {xs : List S44} (h : Kd.C k44 w A n xs) (i : Int) (h0 : 0 ≤ i) (h1 : i < n) : ∃ ad A5 c5, A = some ad ∧ w.cell? (ad.add (i.toNat * 6)) = some (I6 (oU xs i).f0) ∧ w.cell? ⟨(ad.add (i.toNat * 6)).block, (ad.add (i.toNat * 6)).off + 1, none⟩ = some (I6 (oU xs i).f1) ∧ w.cell? ⟨(ad.add (i.toNat * 6)).block, (ad.add (i.toNat * 6)).off + 2, none⟩ = some (I6 (oU xs i).f2) ∧ w.cell? ⟨(ad.add (i.toNat * 6)).block, (ad.add (i.toNat * 6)).off + 3, none⟩ = some (.string (oU xs i).f3) ∧ w.cell? ⟨(ad.add (i.toNat * 6)).block, (ad.add (i.toNat * 6)).off + 4, none⟩ = some (.string (oU xs i).f4) ∧ w.cell? ⟨(ad.add (i.toNat * 6)).block, (ad.add (i.toNat * 6)).off + 5, none⟩ = some (.slice A5 (oU xs i).f5.length c5) ∧ (oU xs i).f5.length ≤ c5 ∧ k44.C w A5 (oU xs i).f5.length (oU xs i).f5 := by
  obtain ⟨ad, c, e, _, hK, hc0⟩ := Kd.wR h z44 i h0 h1;have hc : ∀ j u, c[j]? = some u → w.cell? (ad.add (i.toNat * 6 + j)) = some u := hc0;obtain ⟨A5, c5, rfl, l5, g5⟩ := Ak hK;exact ⟨ad, A5, c5, e, hc 0 _ rfl, by rw [← vH _ _ 1 (by omega)]; exact hc 1 _ rfl, by rw [← vH _ _ 2 (by omega)]; exact hc 2 _ rfl, by rw [← vH _ _ 3 (by omega)]; exact hc 3 _ rfl, by rw [← vH _ _ 4 (by omega)]; exact hc 4 _ rfl, by rw [← vH _ _ 5 (by omega)]; exact hc 5 _ rfl, l5, g5⟩
end Go.Proofs.Yteoccoklbmjiaaa.PExp
