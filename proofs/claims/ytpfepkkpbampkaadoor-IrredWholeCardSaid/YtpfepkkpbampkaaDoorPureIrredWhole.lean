/- A law. -/
import Derived.Test.YtpfepkkpbampkaaDoorPIrwx1
import Derived.Test.YtpfepkkpbampkaaDoorPIrwx10
import Derived.Test.YtpfepkkpbampkaaDoorPIrwx2
import Derived.Test.YtpfepkkpbampkaaDoorPIrwx3
import Derived.Test.YtpfepkkpbampkaaDoorPIrwx4
import Derived.Test.YtpfepkkpbampkaaDoorPIrwx5
import Derived.Test.YtpfepkkpbampkaaDoorPIrwx6
import Derived.Test.YtpfepkkpbampkaaDoorPIrwx7
import Derived.Test.YtpfepkkpbampkaaDoorPIrwx8
import Derived.Test.YtpfepkkpbampkaaDoorPIrwx9
import Derived.OpenShut
import Derived.Laws.BitsLemmas
import Derived.Laws.BitsAllLaws
import Derived.Laws.Bits64b
import Derived.Lib.TrailingZeros
import Derived.Lib.Bytes
import Derived.Test.YtpfepkkpbampkaaDoorWSized
set_option linter.unusedVariables false
set_option linter.unusedSimpArgs false
namespace Go.Proofs.YtpfepkkpbampkaaDoor.Pure
open Go.RowKit Go.Proofs.YtpfepkkpbampkaaDoor.PIrw Go.Proofs.YtpfepkkpbampkaaDoorW.PrintWords Go.Proofs.YtpfepkkpbampkaaDoorW.PrintLast
theorem zS (s : ByteArray) (i : Int) : 0 ≤ bt s i ∧ bt s i < 256 := by
  unfold bt;split
  · rename_i h
    have := (s[i.toNat]'h).toNat_lt;omega
  · omega
theorem kL {x : Int} (h0 : -9223372036854775808 ≤ x) (h1 : x ≤ 9223372036854775807) : wrap64 x = x := by unfold wrap64; omega
theorem pU {x : Int} (h0 : 0 ≤ x) (h1 : x < 18446744073709551616) : IntKind.u64.wrap x = x := by
  simp [IntKind.wrap, IntKind.bits, IntKind.signed]; omega
theorem wL {n : Nat} (h : n < 2 ^ 64) : IntKind.u64.wrap (n : Int) = (n : Int) := pU (by omega) (by omega)
theorem xP (p : Int → Prop) (h : ∀ b : Fin 256, p ((b.val : Nat) : Int)) (c : Int) (h0 : 0 ≤ c) (h1 : c < 256) : p c := by
  have := h ⟨c.toNat, by omega⟩;simp only at this
  rwa [show ((c.toNat : Nat) : Int) = c by omega] at this
def pq (c : Int) : Bool := (decide (97 ≤ c) && decide (c ≤ 122)) || (decide (65 ≤ c) && decide (c ≤ 90)) || c == 95
def sZ (c : Int) : Bool := decide (48 ≤ c) && decide (c ≤ 57)
def sG (c : Int) : Bool := pq c || sZ c
theorem wX (c : Int) : qp.f c = some (sZ c) := by
  unfold qp.f sZ;by_cases h : c ≥ 48
  · simp [h]
  · simp [h]
theorem rY (c : Int) (h0 : 0 ≤ c) (h1 : c < 256) : oJ.f c = some (pq c) :=
  xP (fun c => oJ.f c = some (pq c)) (by decide +kernel) c h0 h1
theorem vU (c : Int) (h0 : 0 ≤ c) (h1 : c < 256) : oQ.f c = some (sG c) := by
  unfold oQ.f sG;rw [rY c h0 h1, wX]
  cases pq c <;> simp
def KW : List ByteArray := [(⟨#[105, 109, 112, 111, 114, 116]⟩ : ByteArray), (⟨#[108, 97, 116, 116, 105, 99, 101]⟩ : ByteArray), (⟨#[101, 102, 102, 101, 99, 116, 115]⟩ : ByteArray), (⟨#[118, 97, 114]⟩ : ByteArray), (⟨#[102, 110]⟩ : ByteArray), (⟨#[108, 101, 116]⟩ : ByteArray), (⟨#[105, 102]⟩ : ByteArray), (⟨#[101, 108, 115, 101]⟩ : ByteArray), (⟨#[119, 104, 105, 108, 101]⟩ : ByteArray), (⟨#[114, 101, 116, 117, 114, 110]⟩ : ByteArray), (⟨#[100, 111]⟩ : ByteArray), (⟨#[116, 114, 117, 101]⟩ : ByteArray), (⟨#[102, 97, 108, 115, 101]⟩ : ByteArray), (⟨#[105, 110, 116]⟩ : ByteArray), (⟨#[98, 111, 111, 108]⟩ : ByteArray), (⟨#[100, 101, 99, 108, 97, 115, 115, 105, 102, 121]⟩ : ByteArray)]
def kw (x : ByteArray) : Bool := KW.any fun y => decide (x = y)
theorem kwj (b : Bool) : lG.j0 b = some b := by cases b <;> rfl
theorem ER {c : Prop} [Decidable c] {X : Option Bool} {b : Bool} (h : X = some b) : (if c then lG.j0 true else X) = some (decide c || b) := by
  by_cases hc : c
  · rw [if_pos hc, decide_eq_true hc]; rfl
  · rw [if_neg hc, decide_eq_false hc, h]; rfl
theorem AB (x : ByteArray) : lG.f x = some (kw x) := by
  unfold lG.f kw KW;simp only [List.any_cons, List.any_nil]
  repeat refine ER ?_
  rw [kwj, Bool.or_false]
theorem zi (l : List Int) (hl : ∀ x ∈ l, 0 ≤ x ∧ x < 256) (hn : l.length ≤ 1000000) (d : Nat) : ∀ (k i : Nat), i ≤ l.length → l.length - i = d → 2 * d + 2 ≤ k →
    kH.l0 k l (i : Int) = some ((i + ((l.drop i).takeWhile sG).length : Nat) : Int) := by
  induction d with
  | zero =>
    intro k i hi hd hk;obtain ⟨k, rfl⟩ : ∃ n, k = n + 2 := ⟨k - 2, by omega⟩;rw [kH.l0, if_neg (by omega), kH.j0, if_neg (by decide), List.drop_eq_nil_of_le (by omega)];simp
  | succ d ih =>
    intro k i hi hd hk;obtain ⟨k, rfl⟩ : ∃ n, k = n + 2 := ⟨k - 2, by omega⟩;have hr : rd l (i : Int) = l[i] := by simp [rd, List.getD_eq_getElem?_getD, show i < l.length by omega]
    have hx := hl l[i] (List.getElem_mem _);rw [kH.l0, if_pos (by omega), if_pos (by omega), hr, vU _ hx.1 hx.2, Option.bind_some, kH.j0, List.drop_eq_getElem_cons (by omega), List.takeWhile_cons];by_cases hw : sG l[i] = true
    · rw [if_pos hw, if_pos hw, kL (by omega) (by omega), show (i : Int) + 1 = ((i + 1 : Nat) : Int) by omega, ih k (i + 1) (by omega) (by omega) (by omega)];simp; omega
    · rw [if_neg hw, if_neg hw];simp
theorem yD (s : ByteArray) : ∀ x ∈ bytesOf s, 0 ≤ x ∧ x < 256 := by
  intro x hx;unfold bytesOf at hx;obtain ⟨b, _, rfl⟩ := List.mem_map.1 hx;have := b.toNat_lt;omega
theorem qw (s : ByteArray) : (bytesOf s).length = s.size := by unfold bytesOf; rw [List.length_map, Array.length_toList]; rfl
theorem ES (x : ByteArray) (i : Int) : 0 ≤ bt x i ∧ bt x i < 256 := by have := zS x i; omega
def oZ (x : ByteArray) : Bool := decide (0 < x.size) && (decide (x.size ≤ 24) && (!kw x && (pq (bt x 0) && (((bytesOf x).takeWhile sG).length == x.size))))
theorem ET (x : ByteArray) : x = (⟨#[]⟩ : ByteArray) ↔ x.size = 0 := by
  constructor
  · rintro rfl; rfl
  · intro h
    cases x with
    | mk a =>
      cases a with
      | mk l =>
        have : l.length = 0 := h;rw [List.length_eq_zero_iff.1 this]
theorem tq (k : Nat) (x : ByteArray) (hk : 60 ≤ k) : mX.f k x = some (oZ x) := by
  obtain ⟨k, rfl⟩ : ∃ n, k = n + 1 := ⟨k - 1, by omega⟩;unfold mX.f oZ;by_cases h0 : x.size = 0
  · rw [if_pos ((ET x).2 h0), mX.j0, if_pos rfl];simp [h0]
  rw [if_neg (fun h => h0 ((ET x).1 h))];by_cases h1 : (x.size : Int) > 24
  · rw [if_pos h1, mX.j0, if_pos rfl];have : ¬ x.size ≤ 24 := by omega
    simp [this]
  rw [if_neg h1, AB, Option.bind_some];have hp : 0 < x.size := by omega
  have hle : x.size ≤ 24 := by omega
  by_cases h2 : kw x = true
  · rw [if_pos h2, mX.j0, if_pos rfl]; simp [h2]
  have hb := ES x 0;rw [if_neg h2, if_pos (by omega), rY _ hb.1 hb.2, Option.bind_some, mX.j0];by_cases h3 : pq (bt x 0) = true
  · rw [if_neg (by simp [h3]), if_pos (by omega), Option.bind_some];have hr := zi (bytesOf x) (yD x) (by rw [qw]; omega) x.size k 0 (by omega) (by rw [qw]; omega) (by omega);unfold kH.f;rw [show ((0 : Nat) : Int) = 0 from rfl] at hr;rw [hr, Option.bind_some];simp only [hp, hle, h2, h3, List.drop_zero, Nat.zero_add, decide_true, Bool.true_and, Bool.not_false];congr 1;rw [Bool.eq_iff_iff]; simp [h2]; omega
  · rw [if_pos (by simp [h3])]; simp [h3]
def Gn (s : ByteArray) : List ByteArray → Bool
  | [] => false
  | t :: T => decide (s = t) || Gn s T
theorem xQ (s : ByteArray) : ∀ T, Gn s T = true ↔ s ∈ T
  | [] => by simp [Gn]
  | t :: T => by simp [Gn, xQ s T]
instance JU (s : ByteArray) (T : List ByteArray) : Decidable (s ∈ T) := decidable_of_iff _ (xQ s T)
def idx (T : List ByteArray) : List (ByteArray × Int) := T.zipIdx.map fun p => (p.1, (p.2 : Int))
def idxFrom (T : List ByteArray) (n : Nat) : List (ByteArray × Int) := (T.zipIdx n).map fun p => (p.1, (p.2 : Int))
theorem wY (T : List ByteArray) (s : ByteArray) : ∀ n, yS (idxFrom T n) s = decide (s ∈ T) := by
  induction T with
  | nil => intro n; rfl
  | cons t T ih =>
    intro n;simp only [idxFrom, List.zipIdx_cons, List.map_cons, yS];by_cases h : t = s
    · rw [if_pos h]; simp [h]
    · rw [if_neg h];have := ih (n + 1);unfold idxFrom at this;rw [this];have h2 : ¬ s = t := fun e => h e.symm;simp [h2]
def at_ : List ByteArray → ByteArray → Nat
  | [], _ => 0
  | t :: T, s => if t = s then 0 else at_ T s + 1
theorem zk (T : List ByteArray) (s : ByteArray) : ∀ n, s ∈ T → uw 0 (idxFrom T n) s = ((n + at_ T s : Nat) : Int) := by
  induction T with
  | nil => intro n h; simp at h
  | cons t T ih =>
    intro n hm;simp only [idxFrom, List.zipIdx_cons, List.map_cons, uw, at_];by_cases h : t = s
    · rw [if_pos h, if_pos h]; rfl
    · rw [if_neg h, if_neg h];have hm' : s ∈ T := by
        rcases List.mem_cons.1 hm with e | e
        · exact absurd e.symm h
        · exact e
      have := ih (n + 1) hm';unfold idxFrom at this;rw [this]; congr 1; omega
theorem rQ (T : List ByteArray) (s : ByteArray) (h : s ∈ T) : at_ T s < T.length := by
  induction T with
  | nil => simp at h
  | cons t T ih =>
    simp only [at_];by_cases e : t = s
    · rw [if_pos e]; simp
    · rw [if_neg e];rcases List.mem_cons.1 h with h | h
      · exact absurd h.symm e
      · have := ih h; simp; omega
theorem CY (T : List ByteArray) (s : ByteArray) (h : s ∉ T) : GV (idx T) s (T.length : Int) = idx (T ++ [s]) := by
  have h1 := wY T s 0;have e : idxFrom T 0 = idx T := rfl;rw [e] at h1;rw [DF (by rw [h1]; simp [h])];simp [idx, List.zipIdx_append]
theorem Gp (n : Nat) (h : n < 64) : shl .u64 1 (n : Int) = ((2 ^ n : Nat) : Int) := by
  unfold shl;have e : min ((n : Int).toNat) IntKind.u64.bits = n := by simp [IntKind.bits]; omega
  have hlt : 2 ^ n < 2 ^ 64 := Nat.pow_lt_pow_right (by decide) h;have e2 : ((2 : Int) ^ n) = ((2 ^ n : Nat) : Int) := by simp
  rw [e, Int.one_mul, e2, wL hlt]
theorem EU (s i : Nat) (hs : s < 2 ^ 64) (hi : i < 64) : Go.bits .and .u64 (shr .u64 (s : Int) (i : Int)) 1 = ((s / 2 ^ i % 2 : Nat) : Int) := by
  have e : shr .u64 (s : Int) (i : Int) = ((s / 2 ^ i : Nat) : Int) := by
    unfold shr;have e : min ((i : Int).toNat) IntKind.u64.bits = i := by simp [IntKind.bits]; omega
    rw [e]; simp
  have hlt : s / 2 ^ i < 18446744073709551616 := Nat.lt_of_le_of_lt (Nat.div_le_self _ _) hs;rw [e];have := u64_and_nat (s / 2 ^ i) 1 hlt (by decide);rw [nat_mask1] at this;exact this
theorem uX (s i : Nat) : s.testBit i = decide (s / 2 ^ i % 2 = 1) := by rw [Nat.testBit_eq_decide_div_mod_eq]
theorem vV (s i : Nat) (hs : s < 2 ^ 64) (hi : i < 64) : (Go.bits .and .u64 (shr .u64 (s : Int) (i : Int)) 1 = 1) ↔ s.testBit i = true := by
  rw [EU s i hs hi, uX, decide_eq_true_iff];generalize s / 2 ^ i % 2 = q;omega
def N (U : List Nat) : List Int := U.map fun n : Nat => (n : Int)
def R (U : List Nat) (i : Nat) : Nat := U.getD i 0
theorem uP (U : List Nat) (i : Nat) : List.getD (N U) ((i : Int)).toNat 0 = ((R U i : Nat) : Int) := by
  simp only [N, R, Int.toNat_natCast, List.getD_eq_getElem?_getD, List.getElem?_map]
  cases U[i]? <;> rfl
theorem AO (U : List Nat) (i v : Nat) : List.set (N U) ((i : Int)).toNat (v : Int) = N (U.set i v) := by
  simp only [N, Int.toNat_natCast, List.map_set]
theorem yR (U : List Nat) (i v : Nat) (hi : i < U.length) (r : Nat) : R (U.set i v) r = if r = i then v else R U r := by
  unfold R;simp only [List.getD_eq_getElem?_getD, List.getElem?_set];by_cases h : i = r
  · subst h; simp [hi]
  · have h' : ¬ r = i := fun e => h e.symm;simp [h, h']
def qM (U : List Nat) : Prop := U.length = 64 ∧ ∀ r, R U r < 2 ^ 64
theorem uH {U : List Nat} (h : qM U) {i v : Nat} (hi : i < 64) (hv : v < 2 ^ 64) : qM (U.set i v) := by
  refine ⟨by rw [List.length_set]; exact h.1, fun r => ?_⟩;rw [yR U i v (by rw [h.1]; exact hi) r];split
  · exact hv
  · exact h.2 r
def pW (k : Nat) : Nat → Nat → List Nat → List Nat
  | 0, _, U => U
  | d + 1, i, U => pW k d (i + 1) (if (R U i).testBit k = true then U.set i (R U i ||| R U k) else U)
def allRows (n : Nat) : Nat → Nat → List Nat → List Nat
  | 0, _, U => U
  | d + 1, k, U => allRows n d (k + 1) (pW k n 0 U)
def qE (U : List Nat) (i : Nat) : Nat → Nat → List Nat → List Nat
  | 0, _, D => D
  | d + 1, k, D => qE U i d (k + 1) (if (R U k).testBit i = true then D.set i (R D i ||| 2 ^ k) else D)
def pV (U : List Nat) (n : Nat) : Nat → Nat → List Nat → List Nat
  | 0, _, D => D
  | d + 1, i, D => pV U n d (i + 1) (qE U i n 0 D)
theorem rE (k : Nat) (hk : k < 64) : ∀ (d i : Nat) (U : List Nat), qM U → i + d ≤ 64 → qM (pW k d i U)
  | 0, _, _, h, _ => h
  | d + 1, i, U, h, hi => by
    rw [pW];refine rE k hk d (i + 1) _ ?_ (by omega);split
    · exact uH h (by omega) (Nat.or_lt_two_pow (h.2 i) (h.2 k))
    · exact h
theorem qJ (U : List Nat) (i : Nat) (hi : i < 64) : ∀ (d k : Nat) (D : List Nat), qM D → k + d ≤ 64 → qM (qE U i d k D)
  | 0, _, _, h, _ => h
  | d + 1, k, D, h, hk => by
    rw [qE];refine qJ U i hi d (k + 1) _ ?_ (by omega);split
    · exact uH h hi (Nat.or_lt_two_pow (h.2 i) (Nat.pow_lt_pow_right (by decide) (by omega)))
    · exact h
theorem uI (U : List Nat) (n : Nat) (hn : n ≤ 64) : ∀ (d i : Nat) (D : List Nat), qM D → i + d ≤ 64 → qM (pV U n d i D)
  | 0, _, _, h, _ => h
  | d + 1, i, D, h, hi => uI U n hn d (i + 1) _ (qJ U i (by omega) n 0 D h (by omega)) (by omega)
theorem AP (T : List ByteArray) (hT : T.length ≤ 64) (dn : List Int) (kk : Nat) (hkk : kk < T.length) (f : Nat) (d : Nat) : ∀ (i : Nat) (U : List Nat), qM U → i + d = T.length →
    jO.l0 (f + d + 1) dn T (kk : Int) (i : Int) (N U) = jO.l3 f dn T ((kk + 1 : Nat) : Int) (N (pW kk d i U)) := by
  induction d with
  | zero =>
    intro i U hU hi;rw [jO.l0, if_neg (by omega), kL (by omega) (by omega)]
    rfl
  | succ d ih =>
    intro i U hU hi;rw [show f + (d + 1) + 1 = (f + d + 1) + 1 by omega, jO.l0, if_pos (by omega), if_pos (by omega), if_pos (by omega), pU (x := (kk : Int)) (by omega) (by omega), if_pos (by omega), uP, uP, pW];have hb := vV (R U i) kk (hU.2 i) (by omega);by_cases h : (R U i).testBit kk = true
    · rw [if_pos (hb.2 h), if_pos (by omega), if_pos (by omega), if_pos h, u64_or_nat _ _ (hU.2 i) (hU.2 kk), AO, Option.bind_some, kL (by omega) (by omega), show (i : Int) + 1 = ((i + 1 : Nat) : Int) by omega];exact ih (i + 1) _ (uH hU (by omega) (Nat.or_lt_two_pow (hU.2 i) (hU.2 kk))) (by omega)
    · rw [if_neg (fun e => h (hb.1 e)), if_neg h, kL (by omega) (by omega), show (i : Int) + 1 = ((i + 1 : Nat) : Int) by omega];exact ih (i + 1) U hU (by omega)
theorem AQ (T : List ByteArray) (hT : T.length ≤ 64) (U : List Nat) (hU : qM U) (i : Nat) (hi : i < T.length) (f : Nat) (d : Nat) : ∀ (k : Nat) (D : List Nat), qM D → k + d = T.length →
    jO.l1 (f + d + 1) T (N U) (i : Int) (k : Int) (N D) = jO.l2 f T (N U) ((i + 1 : Nat) : Int) (N (qE U i d k D)) := by
  induction d with
  | zero =>
    intro k D hD hk;rw [jO.l1, if_neg (by omega), kL (by omega) (by omega)]
    rfl
  | succ d ih =>
    intro k D hD hk;rw [show f + (d + 1) + 1 = (f + d + 1) + 1 by omega, jO.l1, if_pos (by omega), if_pos (by omega), if_pos (by omega), pU (x := (i : Int)) (by omega) (by omega), if_pos (by omega), uP, uP, qE];have hb := vV (R U k) i (hU.2 k) (by omega);have h2 : 2 ^ k < 2 ^ 64 := Nat.pow_lt_pow_right (by decide) (by omega);by_cases h : (R U k).testBit i = true
    · rw [if_pos (hb.2 h), if_pos (by omega), if_pos (by omega), if_pos h, pU (x := (k : Int)) (by omega) (by omega), if_pos (by omega), Gp k (by omega), u64_or_nat _ _ (hD.2 i) h2, AO, Option.bind_some, kL (by omega) (by omega), show (k : Int) + 1 = ((k + 1 : Nat) : Int) by omega];exact ih (k + 1) _ (uH hD (by omega) (Nat.or_lt_two_pow (hD.2 i) h2)) (by omega)
    · rw [if_neg (fun e => h (hb.1 e)), if_neg h, kL (by omega) (by omega), show (k : Int) + 1 = ((k + 1 : Nat) : Int) by omega];exact ih (k + 1) D hD (by omega)
theorem AU (T : List ByteArray) (hT : T.length ≤ 64) (U : List Nat) (hU : qM U) (f : Nat) (d : Nat) : ∀ (i : Nat) (D : List Nat), qM D → i + d = T.length →
    jO.l2 (f + d * (T.length + 2) + 1) T (N U) (i : Int) (N D) = some (N U, N (pV U T.length d i D)) := by
  induction d with
  | zero =>
    intro i D hD hi;rw [jO.l2, if_neg (by omega)]
    rfl
  | succ d ih =>
    intro i D hD hi;rw [jO.l2, if_pos (by omega), show f + (d + 1) * (T.length + 2) = (f + d * (T.length + 2) + 1) + T.length + 1 by rw [Nat.add_mul]; omega];have := AQ T hT U hU i (by omega) (f + d * (T.length + 2) + 1) T.length 0 D hD (by omega);rw [show ((0 : Nat) : Int) = 0 from rfl] at this;rw [this, pV];exact ih (i + 1) _ (qJ U i (by omega) _ 0 D hD (by omega)) (by omega)
theorem AV (T : List ByteArray) (hT : T.length ≤ 64) (D : List Nat) (hD : qM D) (f : Nat) (d : Nat) : ∀ (kk : Nat) (U : List Nat), qM U → kk + d = T.length →
    jO.l3 (f + T.length * (T.length + 2) + 1 + d * (T.length + 2) + 1) (N D) T (kk : Int) (N U) = some (N (allRows T.length d kk U), N (pV (allRows T.length d kk U) T.length T.length 0 D)) := by
  induction d with
  | zero =>
    intro kk U hU hk;rw [jO.l3, if_neg (by omega), Nat.zero_mul, Nat.add_zero];exact AU T hT U hU f T.length 0 D hD (by omega)
  | succ d ih =>
    intro kk U hU hk;rw [jO.l3, if_pos (by omega), show f + T.length * (T.length + 2) + 1 + (d + 1) * (T.length + 2) = (f + T.length * (T.length + 2) + 1 + d * (T.length + 2) + 1) + T.length + 1 by rw [Nat.add_mul d]; omega];have := AP T hT (N D) kk (by omega) (f + T.length * (T.length + 2) + 1 + d * (T.length + 2) + 1) T.length 0 U hU (by omega);rw [show ((0 : Nat) : Int) = 0 from rfl] at this;rw [this, allRows];exact ih (kk + 1) _ (rE kk (by omega) _ 0 U hU (by omega)) (by omega)
theorem wZ (T : List ByteArray) (hT : T.length ≤ 64) (m : List (ByteArray × Int)) (U D : List Nat) (hU : qM U) (hD : qM D) (k : Nat) (hk : 10000 ≤ k) :
    jO.f k T m (N U) (N D) = some (N (allRows T.length T.length 0 U), N (pV (allRows T.length T.length 0 U) T.length T.length 0 D)) := by
  have hb : T.length * (T.length + 2) ≤ 64 * 66 := Nat.mul_le_mul hT (by omega);have := AV T hT D hD (k - 2 - T.length * (T.length + 2) - T.length * (T.length + 2)) T.length 0 U hU (by omega);rw [show k - 2 - T.length * (T.length + 2) - T.length * (T.length + 2) + T.length * (T.length + 2) + 1 + T.length * (T.length + 2) + 1 = k by omega] at this;exact this
def M (U : List Nat) (i j : Nat) : Prop := (R U i).testBit j = true
theorem BO (k : Nat) (U0 : List Nat) : ∀ (d i : Nat) (V : List Nat), V.length = 64 → i + d ≤ 64 → (∀ r, R V r = if r < i ∧ (R U0 r).testBit k = true then R U0 r ||| R U0 k else R U0 r) →
    ∀ r, R (pW k d i V) r = if r < i + d ∧ (R U0 r).testBit k = true then R U0 r ||| R U0 k else R U0 r
  | 0, _, _, _, _, h => h
  | d + 1, i, V, hl, hi, h => by
    have hVi : R V i = R U0 i := by rw [h i, if_neg (by omega)]
    have hVk : R V k = R U0 k := by
      rw [h k];split
      · exact Nat.or_self _
      · rfl
    rw [pW, hVi, hVk];have step : ∀ r, R (if (R U0 i).testBit k = true then V.set i (R U0 i ||| R U0 k) else V) r = if r < i + 1 ∧ (R U0 r).testBit k = true then R U0 r ||| R U0 k else R U0 r := by
      intro r;by_cases hb : (R U0 i).testBit k = true
      · rw [if_pos hb, yR V i _ (by omega) r];by_cases e : r = i
        · subst e; rw [if_pos rfl, if_pos ⟨by omega, hb⟩]
        · rw [if_neg e, h r];by_cases e2 : r < i
          · by_cases e3 : (R U0 r).testBit k = true
            · rw [if_pos ⟨e2, e3⟩, if_pos ⟨by omega, e3⟩]
            · rw [if_neg (fun z => e3 z.2), if_neg (fun z => e3 z.2)]
          · rw [if_neg (fun z => e2 z.1), if_neg (fun z => by omega)]
      · rw [if_neg hb, h r];by_cases e : r = i
        · subst e; rw [if_neg (fun z => hb z.2), if_neg (fun z => hb z.2)]
        · by_cases e2 : r < i
          · by_cases e3 : (R U0 r).testBit k = true
            · rw [if_pos ⟨e2, e3⟩, if_pos ⟨by omega, e3⟩]
            · rw [if_neg (fun z => e3 z.2), if_neg (fun z => e3 z.2)]
          · rw [if_neg (fun z => e2 z.1), if_neg (fun z => by omega)]
    have := BO k U0 d (i + 1) _ (by split <;> simp [hl]) (by omega) step;rw [show i + (d + 1) = i + 1 + d by omega];exact this
theorem EW (k n : Nat) (hn : n ≤ 64) (U : List Nat) (hU : qM U) (i j : Nat) : M (pW k n 0 U) i j ↔ M U i j ∨ (i < n ∧ M U i k ∧ M U k j) := by
  unfold M;rw [BO k U n 0 U hU.1 (by omega) (fun r => by rw [if_neg (by omega)]) i, Nat.zero_add];by_cases h : i < n ∧ (R U i).testBit k = true
  · rw [if_pos h, Nat.testBit_or, Bool.or_eq_true];constructor
    · rintro (a | a)
      · exact .inl a
      · exact .inr ⟨h.1, h.2, a⟩
    · rintro (a | a)
      · exact .inl a
      · exact .inr a.2.2
  · rw [if_neg h];constructor
    · exact .inl
    · rintro (a | a)
      · exact a
      · exact absurd ⟨a.1, a.2.1⟩ h
structure Cl (n : Nat) (U0 U : List Nat) (k : Nat) : Prop where
  ok : qM U
  up : ∀ i j, M U0 i j → M U i j
  le : ∀ S : Nat → Nat → Prop, (∀ a b c, S a b → S b c → S a c) → (∀ i j, M U0 i j → S i j) → ∀ i j, M U i j → S i j
  rf : ∀ i, i < n → M U i i
  bd : ∀ i j, M U i j → i < n ∧ j < n
  tr : ∀ m, m < k → ∀ i j, M U i m → M U m j → M U i j
theorem CZ {n : Nat} (hn : n ≤ 64) {U0 U : List Nat} {k : Nat} (h : Cl n U0 U k) (hk : k < n) : Cl n U0 (pW k n 0 U) (k + 1) := by
  have e := EW k n hn U h.ok;refine ⟨rE k (by omega) n 0 U h.ok (by omega), fun i j a => (e i j).2 (.inl (h.up i j a)), fun S hS h0 i j a => ?_, fun i hi => (e i i).2 (.inl (h.rf i hi)), fun i j a => ?_, fun m hm i j a b => ?_⟩
  · rcases (e i j).1 a with a | a
    · exact h.le S hS h0 i j a
    · exact hS i k j (h.le S hS h0 i k a.2.1) (h.le S hS h0 k j a.2.2)
  · rcases (e i j).1 a with a | a
    · exact h.bd i j a
    · exact ⟨a.1, (h.bd k j a.2.2).2⟩
  · have in_ : ∀ {x y}, M U x y → x < n := fun z => (h.bd _ _ z).1;by_cases hm' : m = k
    · subst hm';have a' : M U i m := by rcases (e i m).1 a with a | a; exact a; exact a.2.1
      have b' : M U m j := by rcases (e m j).1 b with b | b; exact b; exact b.2.2
      exact (e i j).2 (.inr ⟨in_ a', a', b'⟩)
    · have hm2 : m < k := by omega
      rcases (e i m).1 a with a | a <;> rcases (e m j).1 b with b | b
      · exact (e i j).2 (.inl (h.tr m hm2 i j a b))
      · exact (e i j).2 (.inr ⟨in_ a, h.tr m hm2 i k a b.2.1, b.2.2⟩)
      · exact (e i j).2 (.inr ⟨a.1, a.2.1, h.tr m hm2 k j a.2.2 b⟩)
      · exact (e i j).2 (.inr ⟨a.1, a.2.1, b.2.2⟩)
theorem BP {n : Nat} (hn : n ≤ 64) {U0 : List Nat} : ∀ (d k : Nat) (U : List Nat), Cl n U0 U k → k + d = n → Cl n U0 (allRows n d k U) n
  | 0, k, U, h, hk => by have e : k = n := by omega
                         subst e; exact h
  | d + 1, k, U, h, hk => BP hn d (k + 1) _ (CZ hn h (by omega)) (by omega)
theorem closed {n : Nat} (hn : n ≤ 64) {U0 : List Nat} (hU : qM U0) (hr : ∀ i, i < n → M U0 i i) (hb : ∀ i j, M U0 i j → i < n ∧ j < n) : Cl n U0 (allRows n n 0 U0) n :=
  BP hn n 0 U0 ⟨hU, fun _ _ a => a, fun _ _ h0 i j a => h0 i j a, hr, hb, fun m hm => absurd hm (by omega)⟩ (by omega)
theorem vW {n : Nat} {U0 U : List Nat} (h : Cl n U0 U n) {a b c : Nat} (x : M U a b) (y : M U b c) : M U a c := h.tr b (h.bd a b x).2 a c x y
theorem xg (n j : Nat) : (2 ^ n).testBit j = decide (n = j) := Nat.testBit_two_pow
theorem BQ (U : List Nat) (i : Nat) (hi : i < 64) : ∀ (d k : Nat) (D : List Nat), D.length = 64 → ∀ r j, M (qE U i d k D) r j ↔ M D r j ∨ (r = i ∧ k ≤ j ∧ j < k + d ∧ M U j i)
  | 0, k, D, hD, r, j => by
    constructor
    · exact .inl
    · rintro (a | a)
      · exact a
      · omega
  | d + 1, k, D, hD, r, j => by
    rw [qE, BQ U i hi d (k + 1) _ (by split <;> simp [hD]) r j];by_cases h : (R U k).testBit i = true
    · rw [if_pos h];unfold M at *;rw [yR D i _ (by omega) r];by_cases e : r = i
      · subst e;rw [if_pos rfl, Nat.testBit_or, Bool.or_eq_true, xg, decide_eq_true_iff];constructor
        · rintro ((a | a) | a)
          · exact .inl a
          · subst a; exact .inr ⟨rfl, Nat.le_refl _, by omega, h⟩
          · exact .inr ⟨rfl, by omega, by omega, a.2.2.2⟩
        · rintro (a | a)
          · exact .inl (.inl a)
          · by_cases e : k = j
            · exact .inl (.inr e)
            · exact .inr ⟨rfl, by omega, by omega, a.2.2.2⟩
      · rw [if_neg e];constructor
        · rintro (a | a)
          · exact .inl a
          · exact absurd a.1 e
        · rintro (a | a)
          · exact .inl a
          · exact absurd a.1 e
    · rw [if_neg h];constructor
      · rintro (a | a)
        · exact .inl a
        · exact .inr ⟨a.1, by omega, by omega, a.2.2.2⟩
      · rintro (a | a)
        · exact .inl a
        · by_cases e : k = j
          · subst e; exact absurd a.2.2.2 h
          · exact .inr ⟨a.1, by omega, by omega, a.2.2.2⟩
theorem vX (U : List Nat) (n : Nat) (hn : n ≤ 64) : ∀ (d i : Nat) (D : List Nat), qM D → i + d ≤ 64 → ∀ r j, M (pV U n d i D) r j ↔ M D r j ∨ (i ≤ r ∧ r < i + d ∧ j < n ∧ M U j r)
  | 0, i, D, hD, hi, r, j => by
    constructor
    · exact .inl
    · rintro (a | a)
      · exact a
      · omega
  | d + 1, i, D, hD, hi, r, j => by
    rw [pV, vX U n hn d (i + 1) _ (qJ U i (by omega) n 0 D hD (by omega)) (by omega) r j, BQ U i (by omega) n 0 D hD.1 r j];constructor
    · rintro ((a | a) | a)
      · exact .inl a
      · have := a.1; subst this; exact .inr ⟨by omega, by omega, by omega, a.2.2.2⟩
      · exact .inr ⟨by omega, by omega, a.2.2.1, a.2.2.2⟩
    · rintro (a | a)
      · exact .inl (.inl a)
      · by_cases e : r = i
        · subst e; exact .inl (.inr ⟨rfl, by omega, by omega, a.2.2.2⟩)
        · exact .inr ⟨by omega, by omega, a.2.2.1, a.2.2.2⟩
def Z64 : List Nat := List.replicate 64 0
theorem Z_N : N Z64 = List.replicate 64 (0 : Int) := by simp [N, Z64]
theorem Z_R (r : Nat) : R Z64 r = 0 := by
  unfold R Z64;rw [List.getD_eq_getElem?_getD, List.getElem?_replicate];split <;> rfl
theorem EX : qM Z64 := ⟨List.length_replicate, fun r => by rw [Z_R]; decide⟩
theorem Z_M (i j : Nat) : ¬ M Z64 i j := by unfold M; rw [Z_R]; simp
def tu (T : List ByteArray) (U : List Nat) (x : ByteArray) : Option (Nat × List ByteArray × List Nat) := if x ∈ T then some (at_ T x, T, U) else if T.length = 64 then none else some (T.length, T ++ [x], U.set T.length (2 ^ T.length))
theorem vY (T : List ByteArray) (hT : T.length ≤ 64) (U : List Nat) (dn : List Int) (x : ByteArray) : nH.f T (idx T) (N U) dn x = some (match tu T U x with | some r => ((r.1 : Int), true, r.2.1, idx r.2.1, N r.2.2) | none => (0, false, T, idx T, N U)) := by
  have h1 := wY T x 0;have h2 := zk T x 0;have e : idxFrom T 0 = idx T := rfl;rw [e] at h1 h2;unfold nH.f tu;rw [h1];by_cases h : x ∈ T
  · rw [if_pos (by simp [h]), if_pos h, h2 h, Nat.zero_add]
  · rw [if_neg (by simp [h]), if_neg h];by_cases h3 : T.length = 64
    · rw [if_pos (by omega), if_pos h3]
    · rw [if_neg (by omega), if_neg h3, Option.bind_some, if_pos (by omega), Option.bind_some, pU (x := (T.length : Int)) (by omega) (by omega), if_pos (by omega), if_pos (by omega), if_pos (by omega), CY T x h, Gp _ (by omega), AO, Option.bind_some]
def oH (T : List ByteArray) (U : List Nat) (p : S53) : Int × List ByteArray × List Nat :=
  if oZ p.f0 = true ∧ (p.f1 = (⟨#[]⟩ : ByteArray) ∨ oZ p.f1 = true) then
    match tu T U p.f0 with
    | none => (8, T, U)
    | some a => if p.f1 = (⟨#[]⟩ : ByteArray) then (0, a.2) else
      match tu a.2.1 a.2.2 p.f1 with
      | none => (8, a.2)
      | some b => (0, b.2.1, b.2.2.set a.1 (R b.2.2 a.1 ||| 2 ^ b.1))
  else (1, T, U)
theorem qV {T : List ByteArray} {U : List Nat} {x : ByteArray} (hT : T.length ≤ 64) (hU : qM U) {r : Nat × List ByteArray × List Nat} (h : tu T U x = some r) : r.1 < r.2.1.length ∧ r.2.1.length ≤ 64 ∧ qM r.2.2 ∧ T.length ≤ r.2.1.length := by
  unfold tu at h;split at h
  · rename_i hm
    injection h with h; subst h
    exact ⟨rQ T x hm, hT, hU, Nat.le_refl _⟩
  · split at h
    · cases h
    · injection h with h; subst h
      refine ⟨by simp, by simp; omega, uH hU (by omega) (Nat.pow_lt_pow_right (by decide) (by omega)), by simp⟩
theorem yE (k : Nat) (hk : 100 ≤ k) (T : List ByteArray) (hT : T.length ≤ 64) (U : List Nat) (hU : qM U) (dn : List Int) (p : S53) :
    lq.f k T (idx T) (N U) dn p.f0 p.f1 p.f2 = some ((oH T U p).1, (oH T U p).2.1, idx (oH T U p).2.1, N (oH T U p).2.2) := by
  have bad : ∀ k, 1 ≤ k → lq.j0 k (N U) dn p.f0 p.f1 T (idx T) true = some (1, T, idx T, N U) := by
    intro k hk;obtain ⟨k, rfl⟩ : ∃ n, k = n + 1 := ⟨k - 1, by omega⟩;rw [lq.j0, if_pos rfl]
  have good : ∀ k, 1 ≤ k → oZ p.f0 = true ∧ (p.f1 = (⟨#[]⟩ : ByteArray) ∨ oZ p.f1 = true) → lq.j0 k (N U) dn p.f0 p.f1 T (idx T) false = some ((oH T U p).1, (oH T U p).2.1, idx (oH T U p).2.1, N (oH T U p).2.2) := by
    intro k hk hg;obtain ⟨k, rfl⟩ : ∃ n, k = n + 1 := ⟨k - 1, by omega⟩;rw [lq.j0, if_neg (by decide), vY T hT U dn p.f0, Option.bind_some];unfold oH;rw [if_pos hg]
    cases ha : tu T U p.f0 with
    | none => rfl
    | some a =>
      obtain ⟨ai, aT, aU⟩ := a;obtain ⟨q1, q2, q3, q4⟩ := qV hT hU ha;dsimp only at q1 q2 q3 q4 ⊢;rw [if_pos rfl];by_cases h1 : p.f1 = (⟨#[]⟩ : ByteArray)
      · rw [if_pos h1, if_pos h1]
      · rw [if_neg h1, if_neg h1, vY aT q2 aU dn p.f1, Option.bind_some]
        cases hb : tu aT aU p.f1 with
        | none => rfl
        | some b =>
          obtain ⟨bi, bT, bU⟩ := b;obtain ⟨z1, z2, z3, z4⟩ := qV q2 q3 hb;dsimp only at z1 z2 z3 z4 ⊢;have hp : 2 ^ bi < 2 ^ 64 := Nat.pow_lt_pow_right (by decide) (by omega);rw [if_pos rfl, if_pos (by omega), if_pos (by omega), pU (x := (bi : Int)) (by omega) (by omega), if_pos (by omega), uP, Gp _ (by omega), u64_or_nat _ _ (z3.2 ai) hp, AO, Option.bind_some]
  unfold lq.f;rw [tq k _ (by omega), Option.bind_some];by_cases h0 : oZ p.f0 = true
  · rw [if_pos h0];by_cases h1 : p.f1 = (⟨#[]⟩ : ByteArray)
    · rw [if_pos h1]; exact good k (by omega) ⟨h0, .inl h1⟩
    · rw [if_neg h1, tq k _ (by omega), Option.bind_some];by_cases h2 : oZ p.f1 = true
      · rw [h2]; exact good k (by omega) ⟨h0, .inr h2⟩
      · rw [Bool.eq_false_iff.2 h2];have := bad k (by omega);rw [Bool.not_false, this];unfold oH;rw [if_neg (fun z => by rcases z.2 with z | z; exact h1 z; exact h2 z)]
  · rw [if_neg h0, bad k (by omega)];unfold oH;rw [if_neg (fun z => h0 z.1)]
theorem xR {T : List ByteArray} {U : List Nat} {p : S53} (hT : T.length ≤ 64) (hU : qM U) : (oH T U p).2.1.length ≤ 64 ∧ qM (oH T U p).2.2 := by
  unfold oH;split
  · cases ha : tu T U p.f0 with
    | none => exact ⟨hT, hU⟩
    | some a =>
      obtain ⟨ai, aT, aU⟩ := a;obtain ⟨q1, q2, q3, q4⟩ := qV hT hU ha;dsimp only at q1 q2 q3 q4 ⊢;split
      · exact ⟨q2, q3⟩
      · cases hb : tu aT aU p.f1 with
        | none => exact ⟨q2, q3⟩
        | some b =>
          obtain ⟨bi, bT, bU⟩ := b;obtain ⟨z1, z2, z3, z4⟩ := qV q2 q3 hb;dsimp only at z1 z2 z3 z4 ⊢;exact ⟨z2, uH z3 (by omega) (Nat.or_lt_two_pow (z3.2 ai) (Nat.pow_lt_pow_right (by decide) (by omega)))⟩
  · exact ⟨hT, hU⟩
def build : List S53 → Nat → List ByteArray → List Nat → Int × Nat × List ByteArray × List Nat
  | [], _, T, U => (0, 0, T, U)
  | p :: L, i, T, U => if (oH T U p).1 = 0 then build L (i + 1) (oH T U p).2.1 (oH T U p).2.2 else ((oH T U p).1, i, T, U)
instance (U : List Nat) (i j : Nat) : Decidable (M U i j) := by unfold M; exact inferInstance
def turned (T : List ByteArray) (U : List Nat) : List S53 → Nat → Option Nat
  | [], _ => none
  | p :: L, i => if p.f1 = (⟨#[]⟩ : ByteArray) then turned T U L (i + 1) else if M U (at_ T p.f1) (at_ T p.f0) then some i else turned T U L (i + 1)
theorem oz (o : S81) : kQ.f (some o) = some (o.f0.length : Int) := rfl
theorem sQ (o : S81) (a : Nat) : mG.f (some o) (a : Int) = some (decide (a < o.f0.length)) := by
  unfold mG.f;rw [if_pos (by omega), oz, Option.bind_some];congr 1;rw [Bool.eq_iff_iff]; simp
theorem uJ (T : List ByteArray) (hT : T.length ≤ 64) (m : List (ByteArray × Int)) (U : List Nat) (hU : qM U) (D : List Int) (a b : Nat) :
    lF.f (some ⟨T, m, N U, D⟩) (a : Int) (b : Int) = some (decide (a < T.length ∧ b < T.length ∧ M U a b)) := by
  unfold lF.f;rw [sQ, Option.bind_some];dsimp only;by_cases h1 : a < T.length
  · rw [decide_eq_true h1, if_pos rfl, sQ, Option.bind_some];dsimp only;by_cases h2 : b < T.length
    · rw [decide_eq_true h2, if_pos rfl];dsimp only [mV];rw [if_pos (by omega), if_pos (by omega), pU (x := (b : Int)) (by omega) (by omega), if_pos (by omega), uP];congr 1;rw [Bool.eq_iff_iff, decide_eq_true_iff, decide_eq_true_iff, vV _ b (hU.2 a) (by omega)];exact ⟨fun z => ⟨h1, h2, z⟩, fun z => z.2.2⟩
    · rw [decide_eq_false h2, if_neg (by decide), decide_eq_false (fun z => h2 z.2.1)]
  · rw [decide_eq_false h1, if_neg (by decide), decide_eq_false (fun z => h1 z.1)]
theorem AX (L : List S53) (i : Nat) (h : i < L.length) : jY L (i : Int) = L[i] := by simp [jY, List.getD_eq_getElem?_getD, h]
def oI (T : List ByteArray) (U : List Nat) : S81 := ⟨T, idx T, N (allRows T.length T.length 0 U), N (pV (allRows T.length T.length 0 U) T.length T.length 0 Z64)⟩
def newP (L : List S53) : Option S81 × Int × Int :=
  match build L 0 [] Z64 with
  | (e, i, T, U) => if e = 0 then (match turned T (allRows T.length T.length 0 U) L 0 with
    | some j => (none, (j : Int), 16)
    | none => (some (oI T U), 0, 0)) else (none, (i : Int), e)
theorem xU (T : List ByteArray) (x : ByteArray) : uw 0 (idx T) x = if x ∈ T then ((at_ T x : Nat) : Int) else 0 := by
  have h1 := wY T x 0;have h2 := zk T x 0;have e : idxFrom T 0 = idx T := rfl;rw [e] at h1 h2;by_cases h : x ∈ T
  · rw [if_pos h, h2 h, Nat.zero_add]
  · rw [if_neg h, DC (by rw [h1]; simp [h])]
theorem EY (T : List ByteArray) (hT : T.length ≤ 64) (U : List Nat) (hU : qM U) (D : List Int) (L : List S53) (hL : L.length ≤ 1000000) (hm : ∀ p ∈ L, p.f0 ∈ T ∧ (p.f1 ≠ (⟨#[]⟩ : ByteArray) → p.f1 ∈ T)) (hb : ∀ i j, M U i j → i < T.length ∧ j < T.length) (d : Nat) : ∀ (k i : Nat), i ≤ L.length → L.length - i = d → d < k →
    mD.l0 k L (N U) D T (idx T) (i : Int) = some (match turned T U (L.drop i) i with | some j => (none, (j : Int), 16) | none => (some ⟨T, idx T, N U, D⟩, 0, 0)) := by
  induction d with
  | zero =>
    intro k i hi hd hk;obtain ⟨k, rfl⟩ : ∃ n, k = n + 1 := ⟨k - 1, by omega⟩;rw [mD.l0, if_neg (by omega), List.drop_eq_nil_of_le (by omega)]
    rfl
  | succ d ih =>
    intro k i hi hd hk;obtain ⟨k, rfl⟩ : ∃ n, k = n + 1 := ⟨k - 1, by omega⟩;have nx := ih k (i + 1) (by omega) (by omega) (by omega);have hp := hm L[i] (List.getElem_mem _);rw [mD.l0, if_pos (by omega), if_pos (by omega), AX L i (by omega), List.drop_eq_getElem_cons (by omega), turned, kL (by omega) (by omega), show (i : Int) + 1 = ((i + 1 : Nat) : Int) by omega, nx];by_cases h1 : L[i].f1 = (⟨#[]⟩ : ByteArray)
    · rw [if_pos h1, if_pos h1]
    · have h2 := hp.2 h1;rw [if_neg h1, if_neg h1, xU, xU, if_pos h2, if_pos hp.1, uJ T hT _ U hU, Option.bind_some];by_cases h3 : M U (at_ T L[i].f1) (at_ T L[i].f0)
      · rw [decide_eq_true ⟨rQ T _ h2, rQ T _ hp.1, h3⟩, if_pos rfl, if_pos h3]
      · rw [decide_eq_false (fun z => h3 z.2.2), if_neg (by decide), if_neg h3]
structure Inv (P : List S53) (T : List ByteArray) (U : List Nat) : Prop where
  nd : T.Nodup
  le : T.length ≤ 64
  ok : qM U
  mem : ∀ x, x ∈ T ↔ ∃ p ∈ P, p.f0 = x ∨ (p.f1 = x ∧ p.f1 ≠ (⟨#[]⟩ : ByteArray))
  edge : ∀ i j, M U i j ↔ (i < T.length ∧ i = j) ∨ ∃ p ∈ P, p.f1 ≠ (⟨#[]⟩ : ByteArray) ∧ at_ T p.f0 = i ∧ at_ T p.f1 = j
theorem vZ (T : List ByteArray) (x y : ByteArray) (h : y ∈ T) : at_ (T ++ [x]) y = at_ T y := by
  induction T with
  | nil => simp at h
  | cons t T ih =>
    simp only [List.cons_append, at_];by_cases e : t = y
    · rw [if_pos e, if_pos e]
    · rw [if_neg e, if_neg e];rcases List.mem_cons.1 h with h | h
      · exact absurd h.symm e
      · rw [ih h]
theorem at_new (T : List ByteArray) (x : ByteArray) (h : x ∉ T) : at_ (T ++ [x]) x = T.length := by
  induction T with
  | nil => simp [at_]
  | cons t T ih =>
    rw [List.mem_cons, not_or] at h;simp only [List.cons_append, at_, List.length_cons];rw [if_neg (fun e => h.1 e.symm), ih h.2]
theorem zl {E : ByteArray → ByteArray → Prop} {T : List ByteArray} {U : List Nat} {x : ByteArray} (nd : T.Nodup) (hT : T.length ≤ 64) (hU : qM U) (hE : ∀ a b, E a b → a ∈ T ∧ b ∈ T)
    (he : ∀ i j, M U i j ↔ (i < T.length ∧ i = j) ∨ ∃ a b, E a b ∧ at_ T a = i ∧ at_ T b = j) {r : Nat × List ByteArray × List Nat} (h : tu T U x = some r) :
    r.2.1.Nodup ∧ (∀ y, y ∈ r.2.1 ↔ y ∈ T ∨ y = x) ∧ r.1 = at_ r.2.1 x ∧ (∀ i j, M r.2.2 i j ↔ (i < r.2.1.length ∧ i = j) ∨ ∃ a b, E a b ∧ at_ r.2.1 a = i ∧ at_ r.2.1 b = j) := by
  unfold tu at h;split at h
  · rename_i hm
    injection h with h; subst h
    exact ⟨nd, fun y => ⟨.inl, fun z => by rcases z with z | z; exact z; exact z ▸ hm⟩, rfl, he⟩
  · rename_i hm
    split at h
    · cases h
    · rename_i h64
      injection h with h; subst h
      dsimp only;refine ⟨?_, fun y => by simp, (at_new T x hm).symm, fun i j => ?_⟩
      · rw [List.nodup_append];exact ⟨nd, by simp, fun a ha b hb e => by simp at hb; subst hb; exact hm (e ▸ ha)⟩
      · have e2 : (∃ a b, E a b ∧ at_ (T ++ [x]) a = i ∧ at_ (T ++ [x]) b = j) ↔ ∃ a b, E a b ∧ at_ T a = i ∧ at_ T b = j := by
          constructor <;> rintro ⟨a, b, z, z1, z2⟩ <;> refine ⟨a, b, z, ?_⟩
          · rw [vZ _ _ _ (hE a b z).1] at z1; rw [vZ _ _ _ (hE a b z).2] at z2; exact ⟨z1, z2⟩
          · rw [vZ _ _ _ (hE a b z).1, vZ _ _ _ (hE a b z).2]; exact ⟨z1, z2⟩
        rw [e2];unfold M at he ⊢;rw [yR U T.length _ (by rw [hU.1]; omega) i];by_cases e : i = T.length
        · subst e;rw [if_pos rfl, xg, decide_eq_true_iff];constructor
          · intro z; exact .inl ⟨by simp, z⟩
          · rintro (z | ⟨a, b, z, z1, z2⟩)
            · exact z.2
            · have := rQ T a (hE a b z).1; omega
        · rw [if_neg e, he i j];constructor
          · rintro (z | z)
            · exact .inl ⟨by simp; omega, z.2⟩
            · exact .inr z
          · rintro (z | z)
            · exact .inl ⟨by have := z.1; simp at this; omega, z.2⟩
            · exact .inr z
theorem C9 {T : List ByteArray} {U : List Nat} {x : ByteArray} {r : Nat × List ByteArray × List Nat} (h : tu T U x = some r) : ∀ y ∈ T, at_ r.2.1 y = at_ T y := by
  unfold tu at h;split at h
  · injection h with h; subst h; intro y _; rfl
  · split at h
    · cases h
    · injection h with h; subst h
      intro y hy; exact vZ T x y hy
def Edge (P : List S53) (a b : ByteArray) : Prop := ∃ p ∈ P, p.f1 ≠ (⟨#[]⟩ : ByteArray) ∧ p.f0 = a ∧ p.f1 = b
theorem uY (P : List S53) (T : List ByteArray) (i j : Nat) : (∃ p ∈ P, p.f1 ≠ (⟨#[]⟩ : ByteArray) ∧ at_ T p.f0 = i ∧ at_ T p.f1 = j) ↔ ∃ a b, Edge P a b ∧ at_ T a = i ∧ at_ T b = j := by
  constructor
  · rintro ⟨p, hp, h1, h2, h3⟩; exact ⟨p.f0, p.f1, ⟨p, hp, h1, rfl, rfl⟩, h2, h3⟩
  · rintro ⟨a, b, ⟨p, hp, h1, rfl, rfl⟩, h2, h3⟩; exact ⟨p, hp, h1, h2, h3⟩
theorem xW {P : List S53} {T : List ByteArray} {U : List Nat} (h : Inv P T U) (p : S53) (h0 : (oH T U p).1 = 0) : Inv (P ++ [p]) (oH T U p).2.1 (oH T U p).2.2 := by
  have hE : ∀ a b, Edge P a b → a ∈ T ∧ b ∈ T := by
    rintro a b ⟨q, hq, h1, rfl, rfl⟩;exact ⟨(h.mem _).2 ⟨q, hq, .inl rfl⟩, (h.mem _).2 ⟨q, hq, .inr ⟨rfl, h1⟩⟩⟩
  have he : ∀ i j, M U i j ↔ (i < T.length ∧ i = j) ∨ ∃ a b, Edge P a b ∧ at_ T a = i ∧ at_ T b = j := fun i j => by rw [← uY]; exact h.edge i j
  have okp := xR (p := p) h.le h.ok;unfold oH at h0 okp ⊢;split at h0
  · rename_i hid
    rw [if_pos hid] at okp ⊢
    cases ha : tu T U p.f0 with
    | none => rw [ha] at h0; simp at h0
    | some a =>
      obtain ⟨ai, aT, aU⟩ := a;obtain ⟨q1, q2, q3, q4⟩ := qV h.le h.ok ha;obtain ⟨z1, z2, z3, z4⟩ := zl h.nd h.le h.ok hE he ha;rw [ha] at h0 okp;dsimp only at h0 okp q1 q2 q3 q4 z1 z2 z3 z4 ⊢;by_cases h1 : p.f1 = (⟨#[]⟩ : ByteArray)
      · rw [if_pos h1];refine ⟨z1, q2, q3, fun x => ?_, fun i j => ?_⟩
        · dsimp only;rw [z2 x, h.mem x];constructor
          · rintro (⟨q, hq, z⟩ | z)
            · exact ⟨q, by simp [hq], z⟩
            · exact ⟨p, by simp, .inl z.symm⟩
          · rintro ⟨q, hq, z⟩;rw [List.mem_append, List.mem_singleton] at hq;rcases hq with hq | hq
            · exact .inl ⟨q, hq, z⟩
            · subst hq;rcases z with z | z
              · exact .inr z.symm
              · exact absurd h1 z.2
        · dsimp only;rw [z4 i j, ← uY];have : (∃ q ∈ P ++ [p], q.f1 ≠ (⟨#[]⟩ : ByteArray) ∧ at_ aT q.f0 = i ∧ at_ aT q.f1 = j) ↔ ∃ q ∈ P, q.f1 ≠ (⟨#[]⟩ : ByteArray) ∧ at_ aT q.f0 = i ∧ at_ aT q.f1 = j := by
            constructor
            · rintro ⟨q, hq, z⟩;rw [List.mem_append, List.mem_singleton] at hq;rcases hq with hq | hq
              · exact ⟨q, hq, z⟩
              · subst hq; exact absurd h1 z.1
            · rintro ⟨q, hq, z⟩; exact ⟨q, by simp [hq], z⟩
          rw [this]
      · rw [if_neg h1] at h0 okp ⊢;have hE2 : ∀ a b, Edge P a b → a ∈ aT ∧ b ∈ aT := fun a b z => ⟨(z2 a).2 (.inl (hE a b z).1), (z2 b).2 (.inl (hE a b z).2)⟩
        cases hb : tu aT aU p.f1 with
        | none => rw [hb] at h0; simp at h0
        | some b =>
          obtain ⟨bi, bT, bU⟩ := b;obtain ⟨y1, y2, y3, y4⟩ := qV q2 q3 hb;obtain ⟨x1, x2, x3, x4⟩ := zl z1 q2 q3 hE2 z4 hb;have xa := C9 hb;rw [hb] at okp;dsimp only at okp y1 y2 y3 y4 x1 x2 x3 x4 xa ⊢;have e0 : at_ bT p.f0 = ai := by rw [xa p.f0 ((z2 _).2 (.inr rfl)), z3]
          refine ⟨x1, y2, okp.2, fun x => ?_, fun i j => ?_⟩
          · rw [x2 x, z2 x, h.mem x];constructor
            · rintro ((⟨q, hq, z⟩ | z) | z)
              · exact ⟨q, by simp [hq], z⟩
              · exact ⟨p, by simp, .inl z.symm⟩
              · exact ⟨p, by simp, .inr ⟨z.symm, h1⟩⟩
            · rintro ⟨q, hq, z⟩;rw [List.mem_append, List.mem_singleton] at hq;rcases hq with hq | hq
              · exact .inl (.inl ⟨q, hq, z⟩)
              · subst hq;rcases z with z | z
                · exact .inl (.inr z.symm)
                · exact .inr z.1.symm
          · have : (∃ q ∈ P ++ [p], q.f1 ≠ (⟨#[]⟩ : ByteArray) ∧ at_ bT q.f0 = i ∧ at_ bT q.f1 = j) ↔ (∃ q ∈ P, q.f1 ≠ (⟨#[]⟩ : ByteArray) ∧ at_ bT q.f0 = i ∧ at_ bT q.f1 = j) ∨ (i = ai ∧ j = bi) := by
              constructor
              · rintro ⟨q, hq, z⟩;rw [List.mem_append, List.mem_singleton] at hq;rcases hq with hq | hq
                · exact .inl ⟨q, hq, z⟩
                · subst hq; exact .inr ⟨by rw [← z.2.1, e0], by rw [← z.2.2, x3]⟩
              · rintro (⟨q, hq, z⟩ | ⟨rfl, rfl⟩)
                · exact ⟨q, by simp [hq], z⟩
                · exact ⟨p, by simp, h1, e0, x3.symm⟩
            rw [this, uY, ← or_assoc, ← x4 i j];unfold M;rw [yR bU ai _ (by rw [y3.1]; omega) i];by_cases e : i = ai
            · subst e;rw [if_pos rfl, Nat.testBit_or, Bool.or_eq_true, xg, decide_eq_true_iff];constructor
              · rintro (z | z)
                · exact .inl z
                · exact .inr ⟨rfl, z.symm⟩
              · rintro (z | z)
                · exact .inl z
                · exact .inr z.2.symm
            · rw [if_neg e];constructor
              · exact .inl
              · rintro (z | z)
                · exact z
                · exact absurd z.1 e
  · simp at h0
theorem xk : Inv [] [] Z64 := ⟨by simp, by simp, EX, fun x => by simp, fun i j => by simp [Z_M]⟩
theorem wo (L : List S53) : ∀ (P : List S53) (i : Nat) (T : List ByteArray) (U : List Nat), Inv P T U → (build L i T U).1 = 0 → Inv (P ++ L) (build L i T U).2.2.1 (build L i T U).2.2.2 := by
  induction L with
  | nil => intro P i T U h _; rw [List.append_nil]; exact h
  | cons p L ih =>
    intro P i T U h h0;rw [build] at h0 ⊢;by_cases e : (oH T U p).1 = 0
    · rw [if_pos e] at h0 ⊢;have := ih (P ++ [p]) (i + 1) _ _ (xW h p e) h0
      simpa using this
    · rw [if_neg e] at h0; exact absurd h0 e
theorem BR {P : List S53} {T : List ByteArray} {U : List Nat} (h : Inv P T U) (i j : Nat) (m : M U i j) : i < T.length ∧ j < T.length := by
  rcases (h.edge i j).1 m with z | ⟨p, hp, h1, h2, h3⟩
  · exact ⟨z.1, by rw [← z.2]; exact z.1⟩
  · subst h2; subst h3;exact ⟨rQ T _ ((h.mem _).2 ⟨p, hp, .inl rfl⟩), rQ T _ ((h.mem _).2 ⟨p, hp, .inr ⟨rfl, h1⟩⟩)⟩
theorem oK {P : List S53} {T : List ByteArray} {U : List Nat} (h : Inv P T U) : Cl T.length U (allRows T.length T.length 0 U) T.length :=
  closed h.le h.ok (fun i hi => (h.edge i i).2 (.inl ⟨hi, rfl⟩)) (BR h)
theorem EZ (L : List S53) (hL : L.length ≤ 1000000) (d : Nat) : ∀ (k i : Nat) (T : List ByteArray) (U : List Nat), Inv (L.take i) T U → i ≤ L.length → L.length - i = d → 10000 + L.length + d < k →
    mD.l1 k L (i : Int) T (idx T) (N U) = some (match build (L.drop i) i T U with
      | (e, i, T, U) => if e = 0 then (match turned T (allRows T.length T.length 0 U) L 0 with | some j => (none, (j : Int), 16) | none => (some (oI T U), 0, 0)) else (none, (i : Int), e)) := by
  induction d with
  | zero =>
    intro k i T U h hi hd hk;obtain ⟨k, rfl⟩ : ∃ n, k = n + 1 := ⟨k - 1, by omega⟩;have hT := h.le;have hc := oK h;rw [mD.l1, if_neg (by omega), List.drop_eq_nil_of_le (by omega), ← Z_N, wZ T hT _ U Z64 h.ok EX k (by omega), Option.bind_some, build];dsimp only;rw [if_pos rfl];have hm : ∀ p ∈ L, p.f0 ∈ T ∧ (p.f1 ≠ (⟨#[]⟩ : ByteArray) → p.f1 ∈ T) := by
      intro p hp;have hp' : p ∈ L.take i := by rw [List.take_of_length_le (by omega)]; exact hp
      exact ⟨(h.mem _).2 ⟨p, hp', .inl rfl⟩, fun z => (h.mem _).2 ⟨p, hp', .inr ⟨rfl, z⟩⟩⟩
    have := EY T hT (allRows T.length T.length 0 U) hc.ok (N (pV (allRows T.length T.length 0 U) T.length T.length 0 Z64)) L hL hm hc.bd L.length k 0 (by omega) (by omega) (by omega);rw [List.drop_zero] at this;exact this
  | succ d ih =>
    intro k i T U h hi hd hk;obtain ⟨k, rfl⟩ : ∃ n, k = n + 1 := ⟨k - 1, by omega⟩;rw [mD.l1, if_pos (by omega), if_pos (by omega), AX L i (by omega), ← Z_N, yE k (by omega) T h.le U h.ok _ L[i], Option.bind_some, List.drop_eq_getElem_cons (by omega), build];dsimp only;by_cases e : (oH T U L[i]).1 = 0
    · rw [if_pos e, if_pos e, kL (by omega) (by omega), show (i : Int) + 1 = ((i + 1 : Nat) : Int) by omega];refine ih k (i + 1) _ _ ?_ (by omega) (by omega) (by omega);have := xW h L[i] e
      rwa [List.take_append_getElem (by omega)] at this
    · rw [if_neg e, if_neg e];dsimp only;rw [if_neg e]
theorem zn (k : Nat) (L : List S53) (hL : L.length ≤ 1000000) (hk : 10000 + 2 * L.length < k) : mD.f k L = some (newP L) := by
  have := EZ L hL L.length k 0 [] Z64 xk (by omega) (by omega) (by omega);rw [List.drop_zero] at this;unfold mD.f;rw [← Z_N];exact this
theorem zo (T : List ByteArray) (U : List Nat) (p : S53) : (oH T U p).1 = 0 ∨ (oH T U p).1 = 1 ∨ (oH T U p).1 = 8 := by
  unfold oH;split
  · cases tu T U p.f0 with
    | none => exact .inr (.inr rfl)
    | some a =>
      dsimp only;split
      · exact .inl rfl
      · cases tu a.2.1 a.2.2 p.f1 with
        | none => exact .inr (.inr rfl)
        | some b => exact .inl rfl
  · exact .inr (.inl rfl)
theorem yF (L : List S53) : ∀ (i : Nat) (T : List ByteArray) (U : List Nat), (build L i T U).1 = 0 ∨ (build L i T U).1 = 1 ∨ (build L i T U).1 = 8 := by
  induction L with
  | nil => intro i T U; exact .inl rfl
  | cons p L ih =>
    intro i T U;rw [build];split
    · exact ih _ _ _
    · exact zo T U p
def cl (T : List ByteArray) (U : List Nat) : List Nat := allRows T.length T.length 0 U
theorem AY (L : List S53) (m : Int) (hm : m ≤ 1000) (d : Nat) : ∀ (k i : Nat), i ≤ L.length → L.length - i = d → L.length ≤ 10000000000000 → 3 * d + 2 ≤ k → ∃ b, kF.l0 k m L (i : Int) = some b ∧ (b = false → (L.length : Int) ≤ m) := by
  induction d with
  | zero =>
    intro k i hi hd hL hk;obtain ⟨k, rfl⟩ : ∃ n, k = n + 2 := ⟨k - 2, by omega⟩;refine ⟨decide ((L.length : Int) > m), ?_, fun h => by simpa using h⟩;rw [kF.l0, if_neg (by omega), kF.j1, if_neg (by decide)]
  | succ d ih =>
    intro k i hi hd hL hk;obtain ⟨k, rfl⟩ : ∃ n, k = n + 3 := ⟨k - 3, by omega⟩;rw [kF.l0, if_pos (by omega), kF.j1];by_cases h : (i : Int) < m
    · have fin : ∀ b, ∃ r, kF.j0 (k + 1) m L (i : Int) b = some r ∧ (r = false → (L.length : Int) ≤ m) := by
        intro b;rw [kF.j0]
        cases b with
        | true => exact ⟨true, by rw [if_pos rfl], fun h => by cases h⟩
        | false =>
          rw [if_neg (by decide), kL (by omega) (by omega), show (i : Int) + 1 = ((i + 1 : Nat) : Int) by omega];exact ih k (i + 1) (by omega) (by omega) hL (by omega)
      rw [if_pos (by simpa using h), if_pos (by omega), if_pos (by omega)];split
      · exact fin _
      · exact fin _
    · rw [if_neg (by simpa using h)];exact ⟨decide ((L.length : Int) > m), rfl, fun h => by simpa using h⟩
theorem xq (k : Nat) (L : List S53) (m : Int) (hm : m ≤ 1000) (hL : L.length ≤ 10000000000000) (hk : 3 * L.length + 2 ≤ k) : ∃ b, kF.f k L m = some b ∧ (b = false → (L.length : Int) ≤ m) :=
  AY L m hm L.length k 0 (by omega) (by omega) hL hk
theorem H6 {n : Nat} (h : n * 40 ≤ 140737488351232) : n ≤ 3518437208781 := by omega
theorem AZ {L : List S53} (h : (build L 0 [] Z64).1 ≠ 0) : (newP L).1 = none ∧ (newP L).2.2 ≠ 0 ∧ (newP L).2.2 ≠ 16 := by
  have hc := yF L 0 [] Z64;unfold newP;generalize build L 0 [] Z64 = B at *;obtain ⟨e, i, T, U⟩ := B;dsimp only at h hc ⊢;rw [if_neg h];dsimp only;refine ⟨rfl, h, ?_⟩;rcases hc with z | z | z <;> rw [z] <;> decide
theorem A8 {P : List S53} {T : List ByteArray} {U : List Nat} (h : Inv P T U) (a b : Nat) : lF.f (some (oI T U)) (a : Int) (b : Int) = some (decide (M (cl T U) a b)) := by
  have hc := oK h;have := uJ T h.le (idx T) (cl T U) hc.ok (N (pV (allRows T.length T.length 0 U) T.length T.length 0 Z64)) a b;have e : oI T U = ⟨T, idx T, N (cl T U), N (pV (allRows T.length T.length 0 U) T.length T.length 0 Z64)⟩ := rfl;rw [e, this];congr 1;rw [Bool.eq_iff_iff, decide_eq_true_iff, decide_eq_true_iff];exact ⟨fun z => z.2.2, fun z => ⟨(hc.bd _ _ z).1, (hc.bd _ _ z).2, z⟩⟩
theorem rU {T : List ByteArray} {U : List Nat} : ∀ (L : List S53) (i : Nat), turned T U L i = none → ∀ p ∈ L, p.f1 ≠ (⟨#[]⟩ : ByteArray) → ¬ M U (at_ T p.f1) (at_ T p.f0)
  | [], _, _, p, hp, _ => by simp at hp
  | q :: L, i, h, p, hp, h1 => by
    rw [turned] at h;by_cases e : q.f1 = (⟨#[]⟩ : ByteArray)
    · rw [if_pos e] at h;rcases List.mem_cons.1 hp with z | z
      · subst z; exact absurd e h1
      · exact rU L _ h p z h1
    · rw [if_neg e] at h;by_cases m : M U (at_ T q.f1) (at_ T q.f0)
      · rw [if_pos m] at h; cases h
      · rw [if_neg m] at h;rcases List.mem_cons.1 hp with z | z
        · subst z; exact m
        · exact rU L _ h p z h1
theorem anti {P : List S53} {T : List ByteArray} {U : List Nat} (h : Inv P T U) (hn : turned T (cl T U) P 0 = none) {a b : Nat} (m1 : M (cl T U) a b) (m2 : M (cl T U) b a) : a = b := by
  have hc : Cl T.length U (cl T U) T.length := oK h;have key := hc.le (fun i j => M (cl T U) i j ∧ (i = j ∨ ∃ p ∈ P, p.f1 ≠ (⟨#[]⟩ : ByteArray) ∧ at_ T p.f0 = i ∧ M (cl T U) (at_ T p.f1) j))
    (fun x y z u v => ⟨vW hc u.1 v.1, by
      rcases u.2 with e | ⟨p, hp, h1, h2, h3⟩
      · subst e; exact v.2
      · exact .inr ⟨p, hp, h1, h2, vW hc h3 v.1⟩⟩)
    (fun i j z => ⟨hc.up _ _ z, by
      rcases (h.edge i j).1 z with z | ⟨p, hp, h1, h2, h3⟩
      · exact .inl z.2
      · exact .inr ⟨p, hp, h1, h2, by rw [h3]; exact hc.rf _ (BR h _ _ z).2⟩⟩) a b m1
  rcases key.2 with e | ⟨p, hp, h1, h2, h3⟩
  · exact e
  · refine absurd (vW hc h3 m2) ?_;rw [← h2];exact rU P 0 hn p hp h1
theorem xX (b m j : Nat) (hb : b < 2 ^ 64) (hm : m < 2 ^ 64) : (b &&& (18446744073709551615 - m)).testBit j = (b.testBit j && !m.testBit j) := by
  rw [Nat.testBit_and, show 18446744073709551615 - m = 2 ^ 64 - (m + 1) by omega, Nat.testBit_two_pow_sub_succ hm];by_cases hj : j < 64
  · simp [hj]
  · rw [Nat.testBit_lt_two_pow (x := b) (Nat.lt_of_lt_of_le hb (Nat.pow_le_pow_right (by decide) (by omega)))];simp
def tC (T : List ByteArray) (U : List Nat) : List Nat := pV (cl T U) T.length T.length 0 Z64
theorem E5 {P : List S53} {T : List ByteArray} {U : List Nat} (h : Inv P T U) : qM (tC T U) := uI _ _ h.le _ 0 _ EX (by have := h.le; omega)
theorem D5 {P : List S53} {T : List ByteArray} {U : List Nat} (h : Inv P T U) (i j : Nat) : M (tC T U) i j ↔ M (cl T U) j i := by
  have hc : Cl T.length U (cl T U) T.length := oK h;unfold tC;rw [vX _ _ h.le _ 0 Z64 EX (by have := h.le; omega) i j];constructor
  · rintro (z | z)
    · exact absurd z (Z_M i j)
    · exact z.2.2.2
  · intro z;have := hc.bd _ _ z;exact .inr ⟨by omega, by omega, by omega, z⟩
theorem below_tells {P : List S53} {T : List ByteArray} {U : List Nat} (h : Inv P T U) (i : Nat) (hi : i < T.length) : mg.f (some (oI T U)) (i : Int) = some ((R (tC T U) i : Nat) : Int) := by
  have hT := h.le;unfold mg.f;rw [sQ, Option.bind_some, if_pos (decide_eq_true (show i < (oI T U).f0.length from hi))];dsimp only [mV, oI];rw [if_pos (by omega), if_pos (by omega), uP]
  rfl
theorem E8 (i : Nat) : List.getD deB i 0 = ((Lib.deBruijn64tab.getD i 0 : Nat) : Int) := by
  have e : deB = Lib.deBruijn64tab.map (fun n : Nat => (n : Int)) := rfl;rw [e, List.getD_eq_getElem?_getD, List.getD_eq_getElem?_getD, List.getElem?_map]
  cases Lib.deBruijn64tab[i]? <;> rfl
theorem xY (x : Nat) (h0 : x ≠ 0) (h : x < 2 ^ 64) : bits_TrailingZeros64.f (x : Int) = some ((Lib.ctz 64 x : Nat) : Int) := by
  obtain ⟨hlow, hk⟩ := Lib.lowest_bit 64 x h0 h;obtain ⟨hi, htab⟩ := Lib.deBruijn64_at _ hk;have e1 : IntKind.u64.wrap (-(x : Int)) = ((18446744073709551616 - x : Nat) : Int) := by rw [IntKind.wrap_u64]; omega
  have e2 : shr .u64 (IntKind.u64.wrap ((Go.bits .and .u64 (x : Int) (IntKind.u64.wrap (-(x : Int)))) * 285870213051353865)) 58 = ((2 ^ Lib.ctz 64 x * 285870213051353865 % 18446744073709551616 / 288230376151711744 : Nat) : Int) := by
    have hlow' : x &&& (18446744073709551616 - x) = 2 ^ Lib.ctz 64 x := hlow;rw [e1, bits_and_u64_nat x _ h (by omega), hlow', IntKind.wrap_u64];unfold shr;have e : min ((58 : Int).toNat) IntKind.u64.bits = 58 := rfl;rw [e, show ((2 : Int) ^ 58) = ((288230376151711744 : Nat) : Int) from rfl];generalize 2 ^ Lib.ctz 64 x = q;omega
  unfold bits_TrailingZeros64.f;rw [if_neg (by omega), e2, if_pos (by omega), if_pos (by omega), Int.toNat_natCast, E8, htab, kL (by omega) (by omega)]
theorem zq (x : Nat) (h0 : x ≠ 0) (h : x < 2 ^ 64) : x.testBit (Lib.ctz 64 x) = true ∧ (∀ j, j < Lib.ctz 64 x → x.testBit j = false) ∧ ∀ j, (x &&& (x - 1)).testBit j = (x.testBit j && decide (j ≠ Lib.ctz 64 x)) := by
  obtain ⟨m, hm, hk⟩ := Lib.ctzFrom_spec 64 x (by omega) h;have e : Lib.ctz 64 x = Lib.ctzFrom 64 x := by simp [Lib.ctz, h0]
  rw [e];generalize Lib.ctzFrom 64 x = c at hm hk;have hx : ∀ j, x.testBit j = (decide (c ≤ j) && (2 * m + 1).testBit (j - c)) := by
    intro j;rw [hm, Nat.mul_comm, Nat.testBit_mul_two_pow]
  have hx1 : x - 1 = 2 ^ c * (2 * m) + (2 ^ c - 1) := by
    have : 0 < 2 ^ c := Nat.pow_pos (by decide);rw [hm, Nat.mul_add];omega
  have hy : ∀ j, (x - 1).testBit j = if j < c then true else (2 * m).testBit (j - c) := by
    intro j;have hp : 2 ^ c - 1 < 2 ^ c := by have : 0 < 2 ^ c := Nat.pow_pos (by decide); omega
    rw [hx1, Nat.testBit_two_pow_mul_add _ hp];by_cases hj : j < c
    · rw [if_pos hj, if_pos hj, Nat.testBit_two_pow_sub_one]; simp [hj]
    · rw [if_neg hj, if_neg hj]
  refine ⟨?_, fun j hj => ?_, fun j => ?_⟩
  · rw [hx, Nat.sub_self]; simp
  · rw [hx]; simp; omega
  · rw [Nat.testBit_and, hx, hy];by_cases h1 : j < c
    · have : ¬ c ≤ j := by omega
      simp [this]
    · by_cases h2 : j = c
      · subst h2; simp
      · obtain ⟨q, rfl⟩ : ∃ q, j = c + (q + 1) := ⟨j - c - 1, by omega⟩;have e3 : c + (q + 1) - c = q + 1 := by omega
        rw [if_neg h1, e3, Nat.testBit_succ, Nat.testBit_succ];have e4 : (2 * m + 1) / 2 = m := by omega
        have e5 : 2 * m / 2 = m := by omega
        rw [e4, e5]
        cases m.testBit q <;> simp
theorem rF {P : List S53} {T : List ByteArray} {U : List Nat} (h : Inv P T U) (i : Nat) (hi : i < T.length) : l9.f (some (oI T U)) (i : Int) = some ((R (cl T U) i : Nat) : Int) := by
  have hT := h.le;unfold l9.f;rw [sQ, Option.bind_some, if_pos (decide_eq_true (show i < (oI T U).f0.length from hi))];dsimp only [mV, oI];rw [if_pos (by omega), if_pos (by omega), uP]
  rfl
def good (V : List Nat) (s i : Nat) : Prop := s.testBit i = true ∧ ∀ j, s.testBit j = true → M V i j
theorem qK (s v : Nat) (hs : s < 2 ^ 64) (hv : v < 2 ^ 64) : Go.bits .andNot .u64 (s : Int) (v : Int) = 0 ↔ ∀ j, s.testBit j = true → v.testBit j = true := by
  rw [u64_andNot_nat _ _ hs hv];constructor
  · intro h j hj;have e : s &&& (18446744073709551615 - v) = 0 := by omega
    have := xX s v j hs hv;rw [e, Nat.zero_testBit, hj] at this
    cases hb : v.testBit j with
    | true => rfl
    | false => rw [hb] at this; cases this
  · intro h;have e : s &&& (18446744073709551615 - v) = 0 := Nat.eq_of_testBit_eq fun j => by
      rw [xX s v j hs hv, Nat.zero_testBit]
      cases hb : s.testBit j with
      | false => rfl
      | true => rw [h j hb]; rfl
    rw [e]; rfl
theorem Fa (i : Nat) (h : i < 64) : IntKind.i8.wrap ((i : Int)) = (i : Int) := by
  have key : ∀ i : Fin 64, IntKind.i8.wrap ((i.val : Nat) : Int) = ((i.val : Nat) : Int) := by decide +kernel
  exact key ⟨i, h⟩
theorem JV (x : Nat) (h0 : x ≠ 0) (h : x < 2 ^ 64) : IntKind.u64.wrap ((x : Int) - 1) = ((x - 1 : Nat) : Int) := by
  rw [IntKind.wrap_u64]; omega
theorem zu {P : List S53} {T : List ByteArray} {U : List Nat} (h : Inv P T U) (s : Nat) (hs : s < 2 ^ 64) (hn : ∀ j, s.testBit j = true → j < T.length) : ∀ (m c k x : Nat), 64 - c ≤ m → m + 1 ≤ k → x < 2 ^ 64 → (∀ j, x.testBit j = true → c ≤ j ∧ s.testBit j = true) → (∀ i, s.testBit i = true → x.testBit i = false → ¬ good (cl T U) s i) →
    ∃ r, jW.l0 k (s : Int) (some (oI T U)) (x : Int) = some r ∧ ((∃ i, good (cl T U) s i ∧ r = (i : Int)) ∨ (r = -1 ∧ ∀ i, ¬ good (cl T U) s i)) := by
  have hT := h.le;have hok : qM (cl T U) := (oK h).ok;intro m
  induction m with
  | zero =>
    intro c k x hc hk hx hb hg;obtain ⟨k, rfl⟩ : ∃ n, k = n + 1 := ⟨k - 1, by omega⟩;have e : x = 0 := Nat.eq_of_testBit_eq fun j => by
      rw [Nat.zero_testBit]
      cases hj : x.testBit j with
      | false => rfl
      | true =>
        have h1 := hb j hj;have h2 := hn j h1.2;omega
    subst e;refine ⟨-1, by rw [jW.l0, if_pos (by omega)], .inr ⟨rfl, fun i hi => hg i hi.1 (Nat.zero_testBit i) hi⟩⟩
  | succ m ih =>
    intro c k x hc hk hx hb hg;obtain ⟨k, rfl⟩ : ∃ n, k = n + 1 := ⟨k - 1, by omega⟩;by_cases e : x = 0
    · subst e;exact ⟨-1, by rw [jW.l0, if_pos (by omega)], .inr ⟨rfl, fun i hi => hg i hi.1 (Nat.zero_testBit i) hi⟩⟩
    · obtain ⟨l1, l2, l3⟩ := zq x e hx;have ht := xY x e hx;generalize Lib.ctz 64 x = t at l1 l2 l3 ht;have hb1 := hb t l1;have hlt := hn t hb1.2;have hv := hok.2 t;rw [jW.l0, if_neg (by omega), ht, Option.bind_some, rF h t hlt, Option.bind_some];by_cases hz : Go.bits .andNot .u64 (s : Int) ((R (cl T U) t : Nat) : Int) = 0
      · rw [if_pos hz];exact ⟨_, rfl, .inl ⟨t, ⟨hb1.2, (qK s _ hs hv).1 hz⟩, Fa t (by omega)⟩⟩
      · rw [if_neg hz, JV x e hx, bits_and_u64_nat x (x - 1) hx (by omega)];refine ih (t + 1) k (x &&& (x - 1)) (by omega) (by omega) (Nat.lt_of_le_of_lt Nat.and_le_left hx) (fun j hj => ?_) (fun i hi hx0 => ?_)
        · rw [l3, Bool.and_eq_true, decide_eq_true_iff] at hj;refine ⟨?_, (hb j hj.1).2⟩;rcases Nat.lt_trichotomy j t with z | z | z
          · rw [l2 j z] at hj; cases hj.1
          · exact absurd z hj.2
          · exact z
        · by_cases e2 : i = t
          · subst e2;exact fun z => hz ((qK s _ hs hv).2 z.2)
          · rw [l3] at hx0;refine hg i hi ?_
            cases hxi : x.testBit i with
            | false => rfl
            | true => rw [hxi] at hx0; simp [e2] at hx0
theorem zx {P : List S53} {T : List ByteArray} {U : List Nat} (h : Inv P T U) (s : Nat) (hs : s < 2 ^ 64) (hn : ∀ j, s.testBit j = true → j < T.length) : ∀ (m c k x : Nat), 64 - c ≤ m → m + 1 ≤ k → x < 2 ^ 64 → (∀ j, x.testBit j = true → c ≤ j ∧ s.testBit j = true) → (∀ i, s.testBit i = true → x.testBit i = false → ¬ good (tC T U) s i) →
    ∃ r, jX.l0 k (s : Int) (some (oI T U)) (x : Int) = some r ∧ ((∃ i, good (tC T U) s i ∧ r = (i : Int)) ∨ (r = -1 ∧ ∀ i, ¬ good (tC T U) s i)) := by
  have hT := h.le;have hok : qM (tC T U) := E5 h;intro m
  induction m with
  | zero =>
    intro c k x hc hk hx hb hg;obtain ⟨k, rfl⟩ : ∃ n, k = n + 1 := ⟨k - 1, by omega⟩;have e : x = 0 := Nat.eq_of_testBit_eq fun j => by
      rw [Nat.zero_testBit]
      cases hj : x.testBit j with
      | false => rfl
      | true =>
        have h1 := hb j hj;have h2 := hn j h1.2;omega
    subst e;refine ⟨-1, by rw [jX.l0, if_pos (by omega)], .inr ⟨rfl, fun i hi => hg i hi.1 (Nat.zero_testBit i) hi⟩⟩
  | succ m ih =>
    intro c k x hc hk hx hb hg;obtain ⟨k, rfl⟩ : ∃ n, k = n + 1 := ⟨k - 1, by omega⟩;by_cases e : x = 0
    · subst e;exact ⟨-1, by rw [jX.l0, if_pos (by omega)], .inr ⟨rfl, fun i hi => hg i hi.1 (Nat.zero_testBit i) hi⟩⟩
    · obtain ⟨l1, l2, l3⟩ := zq x e hx;have ht := xY x e hx;generalize Lib.ctz 64 x = t at l1 l2 l3 ht;have hb1 := hb t l1;have hlt := hn t hb1.2;have hv := hok.2 t;rw [jX.l0, if_neg (by omega), ht, Option.bind_some, below_tells h t hlt, Option.bind_some];by_cases hz : Go.bits .andNot .u64 (s : Int) ((R (tC T U) t : Nat) : Int) = 0
      · rw [if_pos hz];exact ⟨_, rfl, .inl ⟨t, ⟨hb1.2, (qK s _ hs hv).1 hz⟩, Fa t (by omega)⟩⟩
      · rw [if_neg hz, JV x e hx, bits_and_u64_nat x (x - 1) hx (by omega)];refine ih (t + 1) k (x &&& (x - 1)) (by omega) (by omega) (Nat.lt_of_le_of_lt Nat.and_le_left hx) (fun j hj => ?_) (fun i hi hx0 => ?_)
        · rw [l3, Bool.and_eq_true, decide_eq_true_iff] at hj;refine ⟨?_, (hb j hj.1).2⟩;rcases Nat.lt_trichotomy j t with z | z | z
          · rw [l2 j z] at hj; cases hj.1
          · exact absurd z hj.2
          · exact z
        · by_cases e2 : i = t
          · subst e2;exact fun z => hz ((qK s _ hs hv).2 z.2)
          · rw [l3] at hx0;refine hg i hi ?_
            cases hxi : x.testBit i with
            | false => rfl
            | true => rw [hxi] at hx0; simp [e2] at hx0
def lub (le : Nat → Nat → Prop) (a b i : Nat) : Prop := le a i ∧ le b i ∧ ∀ j, le a j → le b j → le i j
def flp (le : Nat → Nat → Prop) (a b : Nat) : Prop := le b a
open Classical in
noncomputable def jn (n : Nat) (le : Nat → Nat → Prop) (a b : Nat) : Int := match (List.range n).find? (fun i => decide (lub le a b i)) with | some i => (i : Int) | none => -1
structure Po (n : Nat) (le : Nat → Nat → Prop) : Prop where
  rf : ∀ i, i < n → le i i
  tr : ∀ {a b c}, le a b → le b c → le a c
  an : ∀ {a b}, le a b → le b a → a = b
  bd : ∀ {a b}, le a b → a < n ∧ b < n
theorem Po.flp {n : Nat} {le : Nat → Nat → Prop} (h : Po n le) : Po n (flp le) := ⟨h.rf, fun x y => h.tr y x, fun x y => h.an y x, fun x => ⟨(h.bd x).2, (h.bd x).1⟩⟩
theorem rW {n : Nat} {le : Nat → Nat → Prop} (h : Po n le) {a b i j : Nat} (x : lub le a b i) (y : lub le a b j) : i = j := h.an (x.2.2 j y.1 y.2.1) (y.2.2 i x.1 x.2.1)
theorem tH {n : Nat} {le : Nat → Nat → Prop} (h : Po n le) {a b i : Nat} (x : lub le a b i) : jn n le a b = (i : Int) := by
  classical
  unfold jn
  cases hf : (List.range n).find? (fun i => decide (lub le a b i)) with
  | none =>
    have := List.find?_eq_none.1 hf i (List.mem_range.2 (h.bd x.1).2);exact absurd (decide_eq_true x) this
  | some j =>
    have h1 := List.find?_some hf;have : lub le a b j := by simpa using h1
    rw [rW h x this]
theorem rV {n : Nat} {le : Nat → Nat → Prop} {a b : Nat} (x : ∀ i, ¬ lub le a b i) : jn n le a b = -1 := by
  classical
  unfold jn
  cases hf : (List.range n).find? (fun i => decide (lub le a b i)) with
  | none => rfl
  | some j =>
    have h1 := List.find?_some hf;exact absurd (by simpa using h1) (x j)
theorem Ba {n : Nat} {le : Nat → Nat → Prop} (h : Po n le) (a b : Nat) : jn n le a b = -1 ∨ ∃ i, i < n ∧ jn n le a b = (i : Int) ∧ lub le a b i := by
  classical
  by_cases e : ∃ i, lub le a b i
  · obtain ⟨i, hi⟩ := e;exact .inr ⟨i, (h.bd hi.1).2, tH h hi, hi⟩
  · exact .inl (rV fun i hi => e ⟨i, hi⟩)
section
variable {P : List S53} {T : List ByteArray} {U : List Nat}
theorem H7 (h : Inv P T U) (hn : turned T (cl T U) P 0 = none) : Po T.length (M (cl T U)) := by
  have hc := oK h;exact ⟨hc.rf, fun x y => vW hc x y, fun x y => anti h hn x y, fun x => hc.bd _ _ x⟩
theorem H8 (h : Inv P T U) (po : Po T.length (M (cl T U))) (a b : Nat) (ha : a < T.length) (hb : b < T.length) (k : Nat) (hk : 66 ≤ k) :
    jW.f k (Go.bits .and .u64 ((R (cl T U) a : Nat) : Int) ((R (cl T U) b : Nat) : Int)) (some (oI T U)) = some (jn T.length (M (cl T U)) a b) := by
  have hok : qM (cl T U) := (oK h).ok;have hT := h.le;have hs : ∀ j, (R (cl T U) a &&& R (cl T U) b).testBit j = true ↔ M (cl T U) a j ∧ M (cl T U) b j := fun j => by rw [Nat.testBit_and, Bool.and_eq_true]; rfl
  unfold jW.f;rw [bits_and_u64_nat _ _ (hok.2 a) (hok.2 b)];obtain ⟨r, e, hr⟩ := zu h (R (cl T U) a &&& R (cl T U) b) (Nat.lt_of_le_of_lt Nat.and_le_left (hok.2 a)) (fun j hj => (po.bd ((hs j).1 hj).1).2) 64 0 k (R (cl T U) a &&& R (cl T U) b) (by omega) (by omega) (Nat.lt_of_le_of_lt Nat.and_le_left (hok.2 a)) (fun j hj => ⟨by omega, hj⟩) (fun i h1 h2 => by rw [h1] at h2; cases h2);have key : ∀ i, good (cl T U) (R (cl T U) a &&& R (cl T U) b) i ↔ lub (M (cl T U)) a b i := fun i => by
    unfold good lub;rw [hs];exact ⟨fun x => ⟨x.1.1, x.1.2, fun j y z => x.2 j ((hs j).2 ⟨y, z⟩)⟩, fun x => ⟨⟨x.1, x.2.1⟩, fun j y => x.2.2 j ((hs j).1 y).1 ((hs j).1 y).2⟩⟩
  rw [e];rcases hr with ⟨i, gi, rfl⟩ | ⟨rfl, no⟩
  · rw [tH po ((key i).1 gi)]
  · rw [rV fun i hi => no i ((key i).2 hi)]
theorem H9 (h : Inv P T U) (po : Po T.length (M (cl T U))) (a b : Nat) (ha : a < T.length) (hb : b < T.length) (k : Nat) (hk : 66 ≤ k) :
    jX.f k (Go.bits .and .u64 ((R (tC T U) a : Nat) : Int) ((R (tC T U) b : Nat) : Int)) (some (oI T U)) = some (jn T.length (flp (M (cl T U))) a b) := by
  have hok : qM (tC T U) := E5 h;have hT := h.le;have hs : ∀ j, (R (tC T U) a &&& R (tC T U) b).testBit j = true ↔ M (tC T U) a j ∧ M (tC T U) b j := fun j => by rw [Nat.testBit_and, Bool.and_eq_true]; rfl
  unfold jX.f;rw [bits_and_u64_nat _ _ (hok.2 a) (hok.2 b)];obtain ⟨r, e, hr⟩ := zx h (R (tC T U) a &&& R (tC T U) b) (Nat.lt_of_le_of_lt Nat.and_le_left (hok.2 a)) (fun j hj => (po.bd ((D5 h _ _).1 ((hs j).1 hj).1)).1) 64 0 k (R (tC T U) a &&& R (tC T U) b) (by omega) (by omega) (Nat.lt_of_le_of_lt Nat.and_le_left (hok.2 a)) (fun j hj => ⟨by omega, hj⟩) (fun i h1 h2 => by rw [h1] at h2; cases h2);have key : ∀ i, good (tC T U) (R (tC T U) a &&& R (tC T U) b) i ↔ lub (flp (M (cl T U))) a b i := fun i => by
    unfold good lub flp;rw [hs];simp only [D5 h];exact ⟨fun x => ⟨x.1.1, x.1.2, fun j y z => x.2 j ((hs j).2 ⟨(D5 h _ _).2 y, (D5 h _ _).2 z⟩)⟩, fun x => ⟨⟨x.1, x.2.1⟩, fun j y => x.2.2 j ((D5 h _ _).1 ((hs j).1 y).1) ((D5 h _ _).1 ((hs j).1 y).2)⟩⟩
  rw [e];rcases hr with ⟨i, gi, rfl⟩ | ⟨rfl, no⟩
  · rw [tH po.flp ((key i).1 gi)]
  · rw [rV fun i hi => no i ((key i).2 hi)]
theorem xZ {l : List Int} {i j : Nat} {v : Int} (h : i < l.length) : (l.set i v).getD j 0 = if j = i then v else l.getD j 0 := by
  simp only [List.getD_eq_getElem?_getD, List.getElem?_set];by_cases e : i = j
  · subst e; simp [h]
  · have : ¬ j = i := fun z => e z.symm;simp [e, this]
theorem Dc (h : Inv P T U) (po : Po T.length (M (cl T U))) (a : Nat) (ha : a < T.length) (f : Nat) (hf : 66 ≤ f) (d : Nat) : ∀ (b : Nat) (J K : List Int), b + d = T.length → J.length = 4096 → K.length = 4096 →
    ∃ J' K', kE.l0 (f + d + 1) (some (oI T U)) (T.length : Int) (T.length : Int) (a : Int) (b : Int) J K = kE.l1 f (some (oI T U)) (T.length : Int) ((a + 1 : Nat) : Int) J' K' ∧ J'.length = 4096 ∧ K'.length = 4096 ∧
      (∀ x y, x < 64 → y < 64 → J'.getD (x * 64 + y) 0 = if x = a ∧ b ≤ y ∧ y < T.length then jn T.length (M (cl T U)) a y else J.getD (x * 64 + y) 0) ∧ (∀ x y, x < 64 → y < 64 → K'.getD (x * 64 + y) 0 = if x = a ∧ b ≤ y ∧ y < T.length then jn T.length (flp (M (cl T U))) a y else K.getD (x * 64 + y) 0) := by
  have hT := h.le
  induction d with
  | zero =>
    intro b J K hb hJ hK;refine ⟨J, K, ?_, hJ, hK, fun x y _ _ => by rw [if_neg (by omega)], fun x y _ _ => by rw [if_neg (by omega)]⟩;rw [kE.l0, if_neg (by omega), kL (by omega) (by omega)]
    rfl
  | succ d ih =>
    intro b J K hb hJ hK;obtain ⟨J', K', e, l1, l2, g1, g2⟩ := ih (b + 1) (J.set (a * 64 + b) (jn T.length (M (cl T U)) a b)) (K.set (a * 64 + b) (jn T.length (flp (M (cl T U))) a b)) (by omega) (by rw [List.length_set]; exact hJ) (by rw [List.length_set]; exact hK);refine ⟨J', K', ?_, l1, l2, fun x y hx hy => ?_, fun x y hx hy => ?_⟩
    · rw [show f + (d + 1) + 1 = (f + d + 1) + 1 by omega, kE.l0, if_pos (by omega), if_pos (by omega), if_pos (by omega), rF h a ha, Option.bind_some, rF h b (by omega), Option.bind_some, H8 h po a b ha (by omega) _ (by omega), Option.bind_some, if_pos (by omega), if_pos (by omega), Option.bind_some, below_tells h a ha, Option.bind_some, below_tells h b (by omega), Option.bind_some, H9 h po a b ha (by omega) _ (by omega), Option.bind_some, Option.bind_some, kL (by omega) (by omega), show (b : Int) + 1 = ((b + 1 : Nat) : Int) by omega, Int.toNat_natCast, Int.toNat_natCast];exact e
    · rw [g1 x y hx hy, xZ (by omega)];by_cases c1 : x = a ∧ b + 1 ≤ y ∧ y < T.length
      · rw [if_pos c1, if_pos (by omega)]
      · rw [if_neg c1];by_cases c2 : x * 64 + y = a * 64 + b
        · have : x = a := by omega
          have : y = b := by omega
          subst x; subst y;rw [if_pos rfl, if_pos (by omega)]
        · rw [if_neg c2, if_neg (by omega)]
    · rw [g2 x y hx hy, xZ (by omega)];by_cases c1 : x = a ∧ b + 1 ≤ y ∧ y < T.length
      · rw [if_pos c1, if_pos (by omega)]
      · rw [if_neg c1];by_cases c2 : x * 64 + y = a * 64 + b
        · have : x = a := by omega
          have : y = b := by omega
          subst x; subst y;rw [if_pos rfl, if_pos (by omega)]
        · rw [if_neg c2, if_neg (by omega)]
theorem Df (h : Inv P T U) (po : Po T.length (M (cl T U))) (d : Nat) : ∀ (k a : Nat) (J K : List Int), a + d = T.length → 67 + d * 70 ≤ k → J.length = 4096 → K.length = 4096 →
    ∃ J' K', kE.l1 k (some (oI T U)) (T.length : Int) (a : Int) J K = some (J', K') ∧ J'.length = 4096 ∧ K'.length = 4096 ∧
      (∀ x y, x < 64 → y < 64 → J'.getD (x * 64 + y) 0 = if a ≤ x ∧ x < T.length ∧ y < T.length then jn T.length (M (cl T U)) x y else J.getD (x * 64 + y) 0) ∧ (∀ x y, x < 64 → y < 64 → K'.getD (x * 64 + y) 0 = if a ≤ x ∧ x < T.length ∧ y < T.length then jn T.length (flp (M (cl T U))) x y else K.getD (x * 64 + y) 0) := by
  have hT := h.le
  induction d with
  | zero =>
    intro k a J K ha hk hJ hK;obtain ⟨k, rfl⟩ : ∃ n, k = n + 1 := ⟨k - 1, by omega⟩;exact ⟨J, K, by rw [kE.l1, if_neg (by omega)], hJ, hK, fun x y _ _ => by rw [if_neg (by omega)], fun x y _ _ => by rw [if_neg (by omega)]⟩
  | succ d ih =>
    intro k a J K ha hk hJ hK;obtain ⟨k, rfl⟩ : ∃ n, k = n + T.length + 1 + 1 := ⟨k - 2 - T.length, by omega⟩;obtain ⟨J1, K1, e1, l1, l2, g1, g2⟩ := Dc h po a (by omega) k (by omega) T.length 0 J K (by omega) hJ hK;obtain ⟨J2, K2, e2, m1, m2, q1, q2⟩ := ih k (a + 1) J1 K1 (by omega) (by omega) l1 l2;refine ⟨J2, K2, ?_, m1, m2, fun x y hx hy => ?_, fun x y hx hy => ?_⟩
    · rw [show ((0 : Nat) : Int) = 0 from rfl] at e1;rw [kE.l1, if_pos (by omega), oz, Option.bind_some];exact e1.trans e2
    · rw [q1 x y hx hy, g1 x y hx hy];by_cases c1 : a + 1 ≤ x ∧ x < T.length ∧ y < T.length
      · rw [if_pos c1, if_pos (by omega)]
      · rw [if_neg c1];by_cases c2 : x = a ∧ 0 ≤ y ∧ y < T.length
        · rw [if_pos c2, if_pos (by omega), c2.1]
        · rw [if_neg c2, if_neg (by omega)]
    · rw [q2 x y hx hy, g2 x y hx hy];by_cases c1 : a + 1 ≤ x ∧ x < T.length ∧ y < T.length
      · rw [if_pos c1, if_pos (by omega)]
      · rw [if_neg c1];by_cases c2 : x = a ∧ 0 ≤ y ∧ y < T.length
        · rw [if_pos c2, if_pos (by omega), c2.1]
        · rw [if_neg c2, if_neg (by omega)]
end
def wRow (J K : Nat → Nat → Int) (a : Nat) : Nat → Nat → Option Nat
  | 0, _ => none
  | d + 1, b => if J a b = -1 ∨ K a b = -1 then some b else wRow J K a d (b + 1)
def vF (J K : Nat → Nat → Int) (n : Nat) : Nat → Nat → Option (Nat × Nat)
  | 0, _ => none
  | d + 1, a => match wRow J K a (n - a) a with
    | some b => some (a, b)
    | none => vF J K n d (a + 1)
def yG (J K : Nat → Nat → Int) (a b : Nat) : Nat → Nat → Bool
  | 0, _ => false
  | d + 1, c => if K a (J b c).toNat = J (K a b).toNat (K a c).toNat then yG J K a b d (c + 1) else true
def zy (J K : Nat → Nat → Int) (n a : Nat) : Nat → Nat → Option Nat
  | 0, _ => none
  | d + 1, b => if yG J K a b n 0 = true then some b else zy J K n a d (b + 1)
def x9 (J K : Nat → Nat → Int) (n : Nat) : Nat → Nat → Option (Nat × Nat)
  | 0, _ => none
  | d + 1, a => match zy J K n a n 0 with
    | some b => some (a, b)
    | none => x9 J K n d (a + 1)
def Tab (l : List Int) (n : Nat) (J : Nat → Nat → Int) : Prop := ∀ x y, x < n → y < n → l.getD (x * 64 + y) 0 = J x y
theorem Bc (L : nK) (o : S81) (hL : L.f0 = some o) (n : Nat) (hn : o.f0.length = n) (h64 : n ≤ 64) (J K : Nat → Nat → Int) (hJ : Tab L.f2 n J) (hK : Tab L.f3 n K) (a : Nat) (ha : a < n) (f : Nat) (d : Nat) : ∀ b, b + d = n →
    jU.l0 (f + d + 1) L (n : Int) (a : Int) (b : Int) = match wRow J K a d b with
      | some b' => some ((a : Int), (b' : Int), false)
      | none => jU.l1 f L (n : Int) ((a + 1 : Nat) : Int) := by
  induction d with
  | zero =>
    intro b hb;rw [jU.l0, hL, oz, Option.bind_some, if_neg (by omega), kL (by omega) (by omega)]
    rfl
  | succ d ih =>
    intro b hb;rw [show f + (d + 1) + 1 = (f + d + 1) + 1 by omega, jU.l0, hL, oz, Option.bind_some, if_pos (by omega), if_pos (by omega), if_pos (by omega), if_pos (by omega), if_pos (by omega), Int.toNat_natCast, Int.toNat_natCast, hJ a b ha (by omega), hK a b ha (by omega)];by_cases c1 : J a b = -1
    · rw [if_pos c1, wRow, if_pos (.inl c1)]
    · rw [if_neg c1];by_cases c2 : K a b = -1
      · rw [if_pos c2, wRow, if_pos (.inr c2)]
      · have e : wRow J K a (d + 1) b = wRow J K a d (b + 1) := by rw [wRow, if_neg (by intro z; rcases z with z | z; exact c1 z; exact c2 z)]
        rw [if_neg c2, kL (by omega) (by omega), show (b : Int) + 1 = ((b + 1 : Nat) : Int) by omega, ih (b + 1) (by omega), e]
theorem Bd (L : nK) (o : S81) (hL : L.f0 = some o) (n : Nat) (hn : o.f0.length = n) (h64 : n ≤ 64) (J K : Nat → Nat → Int) (hJ : Tab L.f2 n J) (hK : Tab L.f3 n K) (d : Nat) : ∀ k a, a + d = n → 2 + d * 70 ≤ k →
    jU.l1 k L (n : Int) (a : Int) = some (match vF J K n d a with
      | some (x, y) => ((x : Int), (y : Int), false)
      | none => (0, 0, true)) := by
  induction d with
  | zero =>
    intro k a ha hk;obtain ⟨k, rfl⟩ : ∃ n, k = n + 1 := ⟨k - 1, by omega⟩;rw [jU.l1, if_neg (by omega)]
    rfl
  | succ d ih =>
    intro k a ha hk;obtain ⟨k, rfl⟩ : ∃ q, k = q + (n - a) + 1 + 1 := ⟨k - 2 - (n - a), by omega⟩;rw [jU.l1, if_pos (by omega), Bc L o hL n hn h64 J K hJ hK a (by omega) k (n - a) a (by omega), vF]
    cases wRow J K a (n - a) a with
    | some b => rfl
    | none => exact ih k (a + 1) (by omega) (by omega)
theorem Fb (L : nK) (n : Nat) (h64 : n ≤ 64) (J K : Nat → Nat → Int) (hJ : Tab L.f2 n J) (hK : Tab L.f3 n K) (rJ : ∀ x y, x < n → y < n → 0 ≤ J x y ∧ J x y < n) (rK : ∀ x y, x < n → y < n → 0 ≤ K x y ∧ K x y < n) (a b : Nat) (ha : a < n) (hb : b < n) (f : Nat) (d : Nat) : ∀ c, c + d = n →
    jG.l0 (f + d + 1) L (n : Int) (a : Int) (b : Int) (c : Int) = if yG J K a b d c = true then some ((a : Int), (b : Int), false) else jG.l1 f L (n : Int) (a : Int) ((b + 1 : Nat) : Int) := by
  induction d with
  | zero =>
    intro c hc;rw [jG.l0, if_neg (by omega), kL (by omega) (by omega), yG, if_neg (by decide)]
    rfl
  | succ d ih =>
    intro c hc;have hc' : c < n := by omega
    obtain ⟨p1, p2⟩ := rJ b c hb hc';obtain ⟨q1, q2⟩ := rK a b ha hb;obtain ⟨s1, s2⟩ := rK a c ha hc';have j1 : List.getD L.f2 ((b : Int).toNat * 64 + (c : Int).toNat) 0 = J b c := by rw [Int.toNat_natCast, Int.toNat_natCast]; exact hJ b c hb hc'
    have k1 : List.getD L.f3 ((a : Int).toNat * 64 + (b : Int).toNat) 0 = K a b := by rw [Int.toNat_natCast, Int.toNat_natCast]; exact hK a b ha hb
    have k2 : List.getD L.f3 ((a : Int).toNat * 64 + (c : Int).toNat) 0 = K a c := by rw [Int.toNat_natCast, Int.toNat_natCast]; exact hK a c ha hc'
    have e1 : List.getD L.f3 ((a : Int).toNat * 64 + (List.getD L.f2 ((b : Int).toNat * 64 + (c : Int).toNat) 0).toNat) 0 = K a (J b c).toNat := by rw [j1, Int.toNat_natCast]; exact hK a _ ha (by omega)
    have e2 : List.getD L.f2 ((List.getD L.f3 ((a : Int).toNat * 64 + (b : Int).toNat) 0).toNat * 64 + (List.getD L.f3 ((a : Int).toNat * 64 + (c : Int).toNat) 0).toNat) 0 = J (K a b).toNat (K a c).toNat := by rw [k1, k2]; exact hJ _ _ (by omega) (by omega)
    rw [show f + (d + 1) + 1 = (f + d + 1) + 1 by omega, jG.l0, if_pos (by omega), if_pos (by omega), if_pos (by omega), if_pos (by omega), if_pos (by omega), if_pos (by omega), if_pos (by omega), if_pos (by rw [j1]; exact p1), if_pos (by rw [j1]; omega), if_pos (by rw [k1]; exact q1), if_pos (by rw [k1]; omega), if_pos (by rw [k2]; exact s1), if_pos (by rw [k2]; omega), kL (by omega) (by omega), show (c : Int) + 1 = ((c + 1 : Nat) : Int) by omega, ih (c + 1) (by omega), yG];by_cases e : K a (J b c).toNat = J (K a b).toNat (K a c).toNat
    · rw [if_pos (by rw [e1, e2]; exact e), if_pos e]
    · rw [if_neg (by rw [e1, e2]; exact e), if_neg e, if_pos rfl]
theorem Fe (L : nK) (n : Nat) (h64 : n ≤ 64) (J K : Nat → Nat → Int) (hJ : Tab L.f2 n J) (hK : Tab L.f3 n K) (rJ : ∀ x y, x < n → y < n → 0 ≤ J x y ∧ J x y < n) (rK : ∀ x y, x < n → y < n → 0 ≤ K x y ∧ K x y < n) (a : Nat) (ha : a < n) (F : Nat) (d : Nat) : ∀ k b, b + d = n → F + d * 70 + 1 ≤ k →
    ∃ f, F ≤ f ∧ jG.l1 k L (n : Int) (a : Int) (b : Int) = match zy J K n a d b with
      | some y => some ((a : Int), (y : Int), false)
      | none => jG.l2 f L (n : Int) ((a + 1 : Nat) : Int) := by
  induction d with
  | zero =>
    intro k b hb hk;obtain ⟨k, rfl⟩ : ∃ n, k = n + 1 := ⟨k - 1, by omega⟩;refine ⟨k, by omega, ?_⟩;rw [jG.l1, if_neg (by omega), kL (by omega) (by omega)]
    rfl
  | succ d ih =>
    intro k b hb hk;obtain ⟨k, rfl⟩ : ∃ q, k = q + n + 1 + 1 := ⟨k - 2 - n, by omega⟩;obtain ⟨f, h1, h2⟩ := ih k (b + 1) (by omega) (by omega);refine ⟨f, h1, ?_⟩;have e0 := Fb L n h64 J K hJ hK rJ rK a b ha (by omega) k n 0 (by omega);rw [show ((0 : Nat) : Int) = 0 from rfl] at e0;rw [jG.l1, if_pos (by omega), e0, zy];by_cases e : yG J K a b n 0 = true
    · rw [if_pos e, if_pos e]
    · rw [if_neg e, if_neg e]; exact h2
theorem Fg (L : nK) (n : Nat) (h64 : n ≤ 64) (J K : Nat → Nat → Int) (hJ : Tab L.f2 n J) (hK : Tab L.f3 n K) (rJ : ∀ x y, x < n → y < n → 0 ≤ J x y ∧ J x y < n) (rK : ∀ x y, x < n → y < n → 0 ≤ K x y ∧ K x y < n) (d : Nat) : ∀ k a, a + d = n → 1 + d * 4600 ≤ k →
    jG.l2 k L (n : Int) (a : Int) = some (match x9 J K n d a with
      | some (x, y) => ((x : Int), (y : Int), false)
      | none => (0, 0, true)) := by
  induction d with
  | zero =>
    intro k a ha hk;obtain ⟨k, rfl⟩ : ∃ n, k = n + 1 := ⟨k - 1, by omega⟩;rw [jG.l2, if_neg (by omega)]
    rfl
  | succ d ih =>
    intro k a ha hk;obtain ⟨k, rfl⟩ : ∃ q, k = q + 1 := ⟨k - 1, by omega⟩;obtain ⟨f, h1, h2⟩ := Fe L n h64 J K hJ hK rJ rK a (by omega) (1 + d * 4600) n k 0 (by omega) (by omega);rw [show ((0 : Nat) : Int) = 0 from rfl] at h2;rw [jG.l2, if_pos (by omega), h2, x9]
    cases zy J K n a n 0 with
    | some b => rfl
    | none => exact ih f (a + 1) (by omega) h1
theorem wu {J K : Nat → Nat → Int} {a : Nat} : ∀ (d b : Nat), wRow J K a d b = none → ∀ y, b ≤ y → y < b + d → J a y ≠ -1 ∧ K a y ≠ -1
  | 0, _, _, _, _, _ => by omega
  | d + 1, b, h, y, h1, h2 => by
    rw [wRow] at h;by_cases c : J a b = -1 ∨ K a b = -1
    · rw [if_pos c] at h; cases h
    · rw [if_neg c] at h;by_cases e : y = b
      · subst e; exact ⟨fun z => c (.inl z), fun z => c (.inr z)⟩
      · exact wu d (b + 1) h y (by omega) (by omega)
theorem tJ {J K : Nat → Nat → Int} {n : Nat} : ∀ (d a : Nat), vF J K n d a = none → ∀ x y, a ≤ x → x < a + d → x ≤ y → y < n → J x y ≠ -1 ∧ K x y ≠ -1
  | 0, _, _, _, _, _, _, _, _ => by omega
  | d + 1, a, h, x, y, h1, h2, h3, h4 => by
    rw [vF] at h
    cases e : wRow J K a (n - a) a with
    | some b => rw [e] at h; cases h
    | none =>
      rw [e] at h;by_cases z : x = a
      · subst z; exact wu _ _ e y h3 (by omega)
      · exact tJ d (a + 1) h x y (by omega) (by omega) h3 h4
theorem wz {J K : Nat → Nat → Int} {a b : Nat} : ∀ (d c : Nat), yG J K a b d c = false → ∀ z, c ≤ z → z < c + d → K a (J b z).toNat = J (K a b).toNat (K a z).toNat
  | 0, _, _, _, _, _ => by omega
  | d + 1, c, h, z, h1, h2 => by
    rw [yG] at h;by_cases e : K a (J b c).toNat = J (K a b).toNat (K a c).toNat
    · rw [if_pos e] at h;by_cases q : z = c
      · subst q; exact e
      · exact wz d (c + 1) h z (by omega) (by omega)
    · rw [if_neg e] at h; cases h
theorem wB {J K : Nat → Nat → Int} {n a : Nat} : ∀ (d b : Nat), zy J K n a d b = none → ∀ y z, b ≤ y → y < b + d → z < n → K a (J y z).toNat = J (K a y).toNat (K a z).toNat
  | 0, _, _, _, _, _, _, _ => by omega
  | d + 1, b, h, y, z, h1, h2, h3 => by
    rw [zy] at h;by_cases e : yG J K a b n 0 = true
    · rw [if_pos e] at h; cases h
    · rw [if_neg e] at h;by_cases q : y = b
      · subst q; exact wz n 0 (by simpa using e) z (by omega) (by omega)
      · exact wB d (b + 1) h y z (by omega) (by omega) h3
theorem wC {J K : Nat → Nat → Int} {n : Nat} : ∀ (d a : Nat), x9 J K n d a = none → ∀ x y z, a ≤ x → x < a + d → y < n → z < n → K x (J y z).toNat = J (K x y).toNat (K x z).toNat
  | 0, _, _, _, _, _, _, _, _, _ => by omega
  | d + 1, a, h, x, y, z, h1, h2, h3, h4 => by
    rw [x9] at h
    cases e : zy J K n a n 0 with
    | some b => rw [e] at h; cases h
    | none =>
      rw [e] at h;by_cases q : x = a
      · subst q; exact wB n 0 e y z (by omega) (by omega) h4
      · exact wC d (a + 1) h x y z (by omega) (by omega) h3 h4
theorem zA {n : Nat} {le : Nat → Nat → Prop} (h : Po n le) (a b : Nat) : jn n le a b = jn n le b a := by
  rcases Ba h a b with e | ⟨i, _, e, hl⟩
  · rw [e];refine (rV fun i hi => ?_).symm;have := tH h (a := a) (b := b) (i := i) ⟨hi.2.1, hi.1, fun j x y => hi.2.2 j y x⟩;omega
  · rw [e];exact (tH h ⟨hl.2.1, hl.1, fun j x y => hl.2.2 j y x⟩).symm
def mkL (o : S81) (J K : List Int) (c : Int) : nK := ⟨some o, ⟨⟨1⟩, ⟨⟨0, 0⟩⟩⟩, J, K, ⟨c⟩⟩
section
variable {P : List S53} {T : List ByteArray} {U : List Nat}
noncomputable def jj (T : List ByteArray) (U : List Nat) : Nat → Nat → Int := jn T.length (M (cl T U))
noncomputable def kk (T : List ByteArray) (U : List Nat) : Nat → Nat → Int := jn T.length (flp (M (cl T U)))
theorem rg (h : Inv P T U) (po : Po T.length (M (cl T U))) (hw : vF (jj T U) (kk T U) T.length T.length 0 = none) (x y : Nat) (hx : x < T.length) (hy : y < T.length) :
    (∃ i, i < T.length ∧ jj T U x y = (i : Int) ∧ lub (M (cl T U)) x y i) ∧ ∃ i, i < T.length ∧ kk T U x y = (i : Int) ∧ lub (flp (M (cl T U))) x y i := by
  have key : jj T U x y ≠ -1 ∧ kk T U x y ≠ -1 := by
    by_cases c : x ≤ y
    · exact tJ _ _ hw x y (by omega) (by omega) c hy
    · have := tJ _ _ hw y x (by omega) (by omega) (by omega) hx;exact ⟨fun z => this.1 ((zA po y x).trans z), fun z => this.2 ((zA po.flp y x).trans z)⟩
  constructor
  · rcases Ba po x y with e | e
    · exact absurd e key.1
    · exact e
  · rcases Ba po.flp x y with e | e
    · exact absurd e key.2
    · exact e
theorem wE (h : Inv P T U) (po : Po T.length (M (cl T U))) (k : Nat) (hk : 300000 ≤ k) : ∃ Jl Kl, Tab Jl T.length (jj T U) ∧ Tab Kl T.length (kk T U) ∧
    oV.f k (some (oI T U)) = some (if T.length = 0 then ((none, 0, 0, 1) : Option nK × Int × Int × Int) else match vF (jj T U) (kk T U) T.length T.length 0 with
      | some (a, b) => (none, (a : Int), (b : Int), 17)
      | none => match x9 (jj T U) (kk T U) T.length T.length 0 with
        | some (a, b) => (none, (a : Int), (b : Int), 17)
        | none => (some (mkL (oI T U) Jl Kl 0), 0, 0, 0)) := by
  have hT := h.le;obtain ⟨Jl, Kl, e, _, _, g1, g2⟩ := Df h po T.length k 0 (zer 4096 0) (zer 4096 0) (by omega) (by omega) rM rM;rw [show ((0 : Nat) : Int) = 0 from rfl] at e;have hJ : Tab Jl T.length (jj T U) := fun x y hx hy => by rw [g1 x y (by omega) (by omega), if_pos (by omega)]; rfl
  have hK : Tab Kl T.length (kk T U) := fun x y hx hy => by rw [g2 x y (by omega) (by omega), if_pos (by omega)]; rfl
  refine ⟨Jl, Kl, hJ, hK, ?_⟩;have hl : (oI T U).f0.length = T.length := rfl;have hf : kE.f k (some (oI T U)) 0 1 0 (zer 4096 0) (zer 4096 0) 0 = some (Jl, Kl) := by
    unfold kE.f;rw [oz, Option.bind_some, hl];exact e
  have hwf : jU.f k (some (mkL (oI T U) Jl Kl 0)) = some (match vF (jj T U) (kk T U) T.length T.length 0 with
      | some (x, y) => ((x : Int), (y : Int), false)
      | none => (0, 0, true)) := by
    unfold jU.f;show (kQ.f (some (oI T U))).bind (fun t => jU.l1 k (mkL (oI T U) Jl Kl 0) t 0) = _;rw [oz, Option.bind_some, hl];have := Bd (mkL (oI T U) Jl Kl 0) (oI T U) rfl T.length hl hT (jj T U) (kk T U) hJ hK T.length k 0 (by omega) (by omega);rw [show ((0 : Nat) : Int) = 0 from rfl] at this;exact this
  unfold oV.f;rw [oz, Option.bind_some, hl];by_cases h0 : T.length = 0
  · rw [if_pos h0, if_pos (by omega)]
  · rw [if_neg (by omega), if_neg h0, hf, Option.bind_some];show (jU.f k (some (mkL (oI T U) Jl Kl 0))).bind _ = _;rw [hwf, Option.bind_some]
    cases hw : vF (jj T U) (kk T U) T.length T.length 0 with
    | some p => obtain ⟨x, y⟩ := p; rfl
    | none =>
      have hsf : jG.f k (some (mkL (oI T U) Jl Kl 0)) = some (match x9 (jj T U) (kk T U) T.length T.length 0 with
          | some (x, y) => ((x : Int), (y : Int), false)
          | none => (0, 0, true)) := by
        unfold jG.f;show (kQ.f (some (oI T U))).bind (fun t => jG.l2 k (mkL (oI T U) Jl Kl 0) t 0) = _;rw [oz, Option.bind_some, hl];have := Fg (mkL (oI T U) Jl Kl 0) T.length hT (jj T U) (kk T U) hJ hK (fun x y hx hy => by obtain ⟨⟨i, a1, a2, _⟩, _⟩ := rg h po hw x y hx hy; omega) (fun x y hx hy => by obtain ⟨_, ⟨i, a1, a2, _⟩⟩ := rg h po hw x y hx hy; omega) T.length k 0 (by omega) (by omega);rw [show ((0 : Nat) : Int) = 0 from rfl] at this;exact this
      show (if true = true then _ else _) = _;rw [if_pos rfl];show (jG.f k (some (mkL (oI T U) Jl Kl 0))).bind _ = _;rw [hsf, Option.bind_some]
      cases hs : x9 (jj T U) (kk T U) T.length T.length 0 with
      | some p => obtain ⟨x, y⟩ := p; rfl
      | none => rfl
end
structure Lt (n : Nat) (le : Nat → Nat → Prop) (J K : Nat → Nat → Nat) : Prop where
  po : Po n le
  j : ∀ {x y}, x < n → y < n → J x y < n ∧ lub le x y (J x y)
  k : ∀ {x y}, x < n → y < n → K x y < n ∧ lub (flp le) x y (K x y)
  ds : ∀ {x y z}, x < n → y < n → z < n → K x (J y z) = J (K x y) (K x z)
theorem DT {n : Nat} {le : Nat → Nat → Prop} {F : Nat → Nat → Nat} (po : Po n le) (hF : ∀ {x y}, x < n → y < n → F x y < n ∧ lub le x y (F x y)) {x y : Nat} (hx : x < n) (hy : y < n) : F x y = F y x :=
  rW po (hF hx hy).2 ⟨(hF hy hx).2.2.1, (hF hy hx).2.1, fun j a b => (hF hy hx).2.2.2 j b a⟩
theorem BU {n : Nat} {le : Nat → Nat → Prop} {F : Nat → Nat → Nat} (po : Po n le) (hF : ∀ {x y}, x < n → y < n → F x y < n ∧ lub le x y (F x y)) {x y z : Nat} (hx : x < n) (hy : y < n) (hz : z < n) : F (F x y) z = F x (F y z) := by
  have p := (hF hx hy).2;have q := (hF hy hz).2;have r := (hF hx (hF hy hz).1).2;exact rW po (hF (hF hx hy).1 hz).2 ⟨p.2.2 _ r.1 (po.tr q.1 r.2.1), po.tr q.2.1 r.2.1, fun j a b => r.2.2 j (po.tr p.1 a) (q.2.2 j (po.tr p.2.1 a) b)⟩
namespace Lt
variable {n : Nat} {le : Nat → Nat → Prop} {J K : Nat → Nat → Nat} {x y z : Nat}
theorem kc (h : Lt n le J K) (hx : x < n) (hy : y < n) : K x y = K y x := DT h.po.flp h.k hx hy
theorem ja (h : Lt n le J K) (hx : x < n) (hy : y < n) (hz : z < n) : J (J x y) z = J x (J y z) := BU h.po h.j hx hy hz
theorem jk (h : Lt n le J K) (hx : x < n) (hy : y < n) : J x (K x y) = x := rW h.po (h.j hx (h.k hx hy).1).2 ⟨h.po.rf x hx, (h.k hx hy).2.1, fun _ a _ => a⟩
theorem kj (h : Lt n le J K) (hx : x < n) (hy : y < n) : K x (J x y) = x := rW h.po.flp (h.k hx (h.j hx hy).1).2 ⟨h.po.rf x hx, (h.j hx hy).2.1, fun _ a _ => a⟩
theorem d2 (h : Lt n le J K) (hx : x < n) (hy : y < n) (hz : z < n) : J x (K y z) = K (J x y) (J x z) := by
  have hxy := (h.j hx hy).1;have e1 : K (J x y) x = x := (h.kc hxy hx).trans (h.kj hx hy);have e2 : K (J x y) z = J (K z x) (K z y) := (h.kc hxy hz).trans (h.ds hz hx hy);rw [h.ds hxy hx hz, e1, e2, ← h.ja hx (h.k hz hx).1 (h.k hz hy).1, h.kc hz hx, h.jk hx hz, h.kc hz hy]
end Lt
structure IsL (L : nK) (o : S81) (n : Nat) (J K : Nat → Nat → Nat) : Prop where
  o_ : L.f0 = some o
  n_ : o.f0.length = n
  le : n ≤ 64
  dn : L.f1.f0.f0 = 1
  j_ : Tab L.f2 n (fun x y => (J x y : Int))
  k_ : Tab L.f3 n (fun x y => (K x y : Int))
section
variable {L : nK} {o : S81} {n : Nat} {J K : Nat → Nat → Nat} {le : Nat → Nat → Prop}
theorem IsL.more (h : IsL L o n J K) (c : Int) : IsL ⟨L.f0, ⟨⟨L.f1.f0.f0⟩, ⟨⟨L.f1.f1.f0.f0, L.f1.f1.f0.f1⟩⟩⟩, L.f2, L.f3, ⟨c⟩⟩ o n J K := ⟨h.o_, h.n_, h.le, h.dn, h.j_, h.k_⟩
theorem inL (h : IsL L o n J K) (x y : Nat) (hx : x < n) (hy : y < n) : lY.f (some L) (x : Int) (y : Int) = some true := by
  have hn := h.n_;unfold lY.f;dsimp only [mV];have h1 : mn (x : Int) (y : Int) ≥ 0 := by unfold mn; split <;> omega
  have h2 : mx (x : Int) (y : Int) < (o.f0.length : Int) := by unfold mx; split <;> omega
  rw [if_pos h.dn, if_pos h1, h.o_, oz, Option.bind_some, decide_eq_true h2]
end
section
variable {L : nK} {o : S81} {n : Nat} {J K : Nat → Nat → Nat} {le : Nat → Nat → Prop}
theorem Fh (h : IsL L o n J K) (lt : Lt n le J K) (d : Nat) : ∀ (k t i : Nat), i + d = n → d + 1 ≤ k → t < n → (∀ j, j < i → le t j) →
    ∃ r, r < n ∧ (∀ j, j < n → le r j) ∧ kR.l0 k L (n : Int) (t : Int) (i : Int) = some (r : Int) := by
  have hl := h.le
  induction d with
  | zero =>
    intro k t i hi hk ht hj;obtain ⟨k, rfl⟩ : ∃ n, k = n + 1 := ⟨k - 1, by omega⟩;exact ⟨t, ht, fun j z => hj j (by omega), by rw [kR.l0, if_neg (by omega)]⟩
  | succ d ih =>
    intro k t i hi hk ht hj;obtain ⟨k, rfl⟩ : ∃ n, k = n + 1 := ⟨k - 1, by omega⟩;have hii : i < n := by omega
    obtain ⟨q1, q2⟩ := lt.k ht hii;obtain ⟨r, r1, r2, r3⟩ := ih k (K t i) (i + 1) (by omega) (by omega) q1 (fun j z => by
      by_cases e : j = i
      · subst e; exact q2.2.1
      · exact lt.po.tr q2.1 (hj j (by omega)))
    refine ⟨r, r1, r2, ?_⟩;rw [kR.l0, if_pos (by omega), if_pos (by omega), if_pos (by omega), if_pos (by omega), if_pos (by omega), Int.toNat_natCast, Int.toNat_natCast, h.k_ t i ht hii, kL (x := (K t i : Int)) (by omega) (by omega), kL (by omega) (by omega), show (i : Int) + 1 = ((i + 1 : Nat) : Int) by omega];exact r3
theorem JW (h : IsL L o n J K) (lt : Lt n le J K) (h0 : 0 < n) (k : Nat) (hk : 100 ≤ k) : ∃ r, r < n ∧ (∀ j, j < n → le r j) ∧ kR.f k (some L) = some (r : Int) := by
  have hl := h.le;have hn := h.n_;obtain ⟨r, r1, r2, r3⟩ := Fh h lt n k 0 0 (by omega) (by omega) h0 (fun j z => by omega);refine ⟨r, r1, r2, ?_⟩;unfold kR.f;dsimp only [mV];rw [h.o_, oz, Option.bind_some, hn];exact r3
end
section
variable {P : List S53} {T : List ByteArray} {U : List Nat}
theorem Ia (h : Inv P T U) (po : Po T.length (M (cl T U))) (hw : vF (jj T U) (kk T U) T.length T.length 0 = none) (hs : x9 (jj T U) (kk T U) T.length T.length 0 = none) :
    Lt T.length (M (cl T U)) (fun x y => (jj T U x y).toNat) (fun x y => (kk T U x y).toNat) := by
  refine ⟨po, fun {x y} hx hy => ?_, fun {x y} hx hy => ?_, fun {x y z} hx hy hz => ?_⟩
  · obtain ⟨⟨i, a1, a2, a3⟩, _⟩ := rg h po hw x y hx hy;rw [a2, Int.toNat_natCast]; exact ⟨a1, a3⟩
  · obtain ⟨_, ⟨i, a1, a2, a3⟩⟩ := rg h po hw x y hx hy;rw [a2, Int.toNat_natCast]; exact ⟨a1, a3⟩
  · rw [wC _ _ hs x y z (by omega) (by omega) hy hz]
theorem zB (h : Inv P T U) (po : Po T.length (M (cl T U))) (hw : vF (jj T U) (kk T U) T.length T.length 0 = none) {Jl Kl : List Int} (hJ : Tab Jl T.length (jj T U)) (hK : Tab Kl T.length (kk T U)) (c : Int) :
    IsL (mkL (oI T U) Jl Kl c) (oI T U) T.length (fun x y => (jj T U x y).toNat) (fun x y => (kk T U x y).toNat) := by
  refine ⟨rfl, rfl, h.le, rfl, fun x y hx hy => ?_, fun x y hx hy => ?_⟩
  · obtain ⟨⟨i, a1, a2, a3⟩, _⟩ := rg h po hw x y hx hy;show Jl.getD (x * 64 + y) 0 = _;rw [hJ x y hx hy]; dsimp only; rw [a2, Int.toNat_natCast]
  · obtain ⟨_, ⟨i, a1, a2, a3⟩⟩ := rg h po hw x y hx hy;show Kl.getD (x * 64 + y) 0 = _;rw [hK x y hx hy]; dsimp only; rw [a2, Int.toNat_natCast]
end
theorem Bf (k : Nat) : mJ.f (k + 300) = some true := by kernel_rfl
theorem sH (k : Nat) (h : 300 ≤ k) : mJ.f k = some true := by
  obtain ⟨k, rfl⟩ : ∃ n, k = n + 300 := ⟨k - 300, by omega⟩;exact Bf k
theorem Dh (c : Int) (h0 : 0 ≤ c) (h1 : c < 256) : nG.f c = some (pq c) :=
  xP (fun c => nG.f c = some (pq c)) (by decide +kernel) c h0 h1
theorem Fj (c : Int) : nJ.f c = some (sZ c) := by
  unfold nJ.f sZ;by_cases h : c ≥ 48
  · simp [h]
  · simp [h]
theorem zC {α : Type} (z : α) (l : List α) (i : Nat) (h : i < l.length) : oh z l (i : Int) = l[i] := by simp [oh, List.getD_eq_getElem?_getD, h]
theorem Fp (x : ByteArray) (l : List ByteArray) (hl : l.length ≤ 1000) (d : Nat) : ∀ (k i : Nat), i + d = l.length → d + 1 ≤ k → kY.l0 k x (i : Int) l = some ((l.drop i).any fun y => decide (x = y)) := by
  induction d with
  | zero =>
    intro k i hi hk;obtain ⟨k, rfl⟩ : ∃ n, k = n + 1 := ⟨k - 1, by omega⟩;rw [kY.l0, if_neg (by omega), List.drop_eq_nil_of_le (by omega)]
    rfl
  | succ d ih =>
    intro k i hi hk;obtain ⟨k, rfl⟩ : ∃ n, k = n + 1 := ⟨k - 1, by omega⟩;rw [kY.l0, if_pos (by omega), if_pos (by omega), zC _ l i (by omega), List.drop_eq_getElem_cons (by omega), List.any_cons];by_cases e : l[i] = x
    · rw [if_pos e, decide_eq_true e.symm]; rfl
    · rw [if_neg e, decide_eq_false (fun z => e z.symm), Bool.false_or, kL (by omega) (by omega), show (i : Int) + 1 = ((i + 1 : Nat) : Int) by omega];exact ih k (i + 1) (by omega) (by omega)
theorem rkw (k : Nat) (hk : 20 ≤ k) (x : ByteArray) : kY.f k x = some (kw x) := by
  unfold kY.f;rw [Option.bind_some];have := Fp x KW (by decide) KW.length k 0 (by simp) (by have : KW.length = 16 := rfl; omega);rw [List.drop_zero] at this;exact this
def chk (x : ByteArray) (j : Nat) : Bool := if j = 0 then pq (bt x 0) else sG (bt x (j : Int))
theorem zD (x : ByteArray) (hx : x.size ≤ 140737488351232) (d : Nat) : ∀ (k i : Nat), i + d = x.size → 2 * d + 60 ≤ k →
    kG.l0 k x (i : Int) = some (((List.range' i d).all fun j => chk x j) && (decide (0 < x.size) && (decide (x.size ≤ 24) && !kw x))) := by
  induction d with
  | zero =>
    intro k i hi hk;obtain ⟨k, rfl⟩ : ∃ n, k = n + 1 := ⟨k - 1, by omega⟩;rw [kG.l0, if_neg (by omega)];by_cases h0 : 0 < x.size
    · rw [if_pos (by omega), decide_eq_true h0];by_cases h1 : x.size ≤ 24
      · rw [if_pos (by omega), rkw k (by omega), decide_eq_true h1];simp
      · rw [if_neg (by omega), decide_eq_false h1]; simp
    · rw [if_neg (by omega), decide_eq_false h0]; simp
  | succ d ih =>
    intro k i hi hk;obtain ⟨k, rfl⟩ : ∃ n, k = n + 2 := ⟨k - 2, by omega⟩;obtain ⟨b0, b1⟩ := ES x (i : Int);have nx := ih k (i + 1) (by omega) (by omega);have go : kG.j0 (k + 1) x (i : Int) false = kG.l0 k x ((i + 1 : Nat) : Int) := by
      rw [kG.j0, if_neg (by decide), kL (by omega) (by omega), show (i : Int) + 1 = ((i + 1 : Nat) : Int) by omega]
    have no : kG.j0 (k + 1) x (i : Int) true = some false := by rw [kG.j0, if_pos rfl]
    rw [kG.l0, if_pos (by omega), if_pos (by omega), Dh _ b0 b1, Option.bind_some, List.range'_succ, List.all_cons];by_cases hl : pq (bt x (i : Int)) = true
    · have hc : chk x i = true := by
        unfold chk;split
        · rename_i e; subst e; exact hl
        · unfold sG; rw [hl]; rfl
      rw [if_pos hl, go, nx, hc, Bool.true_and]
    · rw [if_neg hl];have hl' : pq (bt x (i : Int)) = false := by simpa using hl
      by_cases e : i = 0
      · subst e;have hc : chk x 0 = false := by unfold chk; rw [if_pos rfl]; exact hl'
        rw [if_pos (show ((0 : Nat) : Int) = 0 from rfl), no, hc]; rfl
      · rw [if_neg (by omega), Fj, Option.bind_some];have hc : chk x i = sZ (bt x (i : Int)) := by unfold chk sG; rw [if_neg e, hl', Bool.false_or]
        rw [hc]
        cases hd : sZ (bt x (i : Int)) with
        | true => rw [Bool.not_true, go, nx, Bool.true_and]
        | false => rw [Bool.not_false, no]; rfl
theorem yc (x : ByteArray) (j : Nat) (h : j < x.size) : (bytesOf x)[j]'(by rw [qw]; exact h) = bt x (j : Int) := by
  unfold bytesOf bt;simp [h]
  rfl
theorem zF {α : Type} (p : α → Bool) : ∀ (l : List α), (l.takeWhile p).length = l.length ↔ ∀ y ∈ l, p y = true
  | [] => by simp
  | a :: l => by
    rw [List.takeWhile_cons];by_cases h : p a = true
    · rw [if_pos h, List.length_cons, List.length_cons];have := zF p l;constructor
      · intro e y hy;rcases List.mem_cons.1 hy with z | z
        · subst z; exact h
        · exact this.1 (by omega) y z
      · intro e;rw [this.2 (fun y hy => e y (List.mem_cons_of_mem _ hy))]
    · rw [if_neg h];constructor
      · intro e; simp at e
      · intro e; exact absurd (e a (List.mem_cons_self ..)) h
theorem BX (x : ByteArray) (hx : x.size ≤ 140737488351232) (k : Nat) (hk : 2 * x.size + 60 ≤ k) : kG.f k x = some (oZ x) := by
  have := zD x hx x.size k 0 (by omega) hk;unfold kG.f;rw [show ((0 : Nat) : Int) = 0 from rfl] at this;rw [this];congr 1;unfold oZ;by_cases h0 : 0 < x.size
  · have key : ((List.range' 0 x.size).all fun j => chk x j) = (pq (bt x 0) && (((bytesOf x).takeWhile sG).length == x.size)) := by
      rw [Bool.eq_iff_iff, List.all_eq_true, Bool.and_eq_true, beq_iff_eq];have hT := zF sG (bytesOf x);rw [qw] at hT;rw [hT];constructor
      · intro h;have c0 : pq (bt x 0) = true := by
          have := h 0 (by simp; omega);unfold chk at this; rwa [if_pos rfl] at this
        refine ⟨c0, fun y hy => ?_⟩;obtain ⟨j, hj, rfl⟩ := List.getElem_of_mem hy;have hj' : j < x.size := by rw [qw] at hj; exact hj
        rw [yc x j hj'];have := h j (by simp; omega);unfold chk at this;split at this
        · rename_i e; subst e; unfold sG; rw [show ((0 : Nat) : Int) = 0 from rfl, c0]; rfl
        · exact this
      · intro h j hj;have hj' : j < x.size := by simp at hj; omega
        unfold chk;split
        · exact h.1
        · rw [← yc x j hj'];exact h.2 _ (List.getElem_mem _)
    rw [key, decide_eq_true h0]
    cases pq (bt x 0) <;> cases (((bytesOf x).takeWhile sG).length == x.size) <;> cases decide (x.size ≤ 24) <;> cases kw x <;> rfl
  · rw [decide_eq_false h0]; simp
theorem Gq (l : List Int) (i : Nat) (h : i < l.length) : rd l (i : Int) = l[i] := by simp [rd, List.getD_eq_getElem?_getD, h]
def Inr (n : Nat) (l : List Int) : Prop := ∀ x ∈ l, 0 ≤ x ∧ x < (n : Int)
section
variable {L : nK} {o : S81} {n : Nat} {J K : Nat → Nat → Nat} {le : Nat → Nat → Prop}
theorem LH (h : IsL L o n J K) (x : Int) (hx : ¬ (0 ≤ x ∧ x < (n : Int))) : lY.f (some L) x x = some false := by
  have hn := h.n_;unfold lY.f;dsimp only [mV];have h1 : mn x x = x := by unfold mn; split <;> omega
  have h2 : mx x x = x := by unfold mx; split <;> omega
  rw [if_pos h.dn, h1, h2];by_cases c : x ≥ 0
  · rw [if_pos c, h.o_, oz, Option.bind_some, decide_eq_false (by omega)]
  · rw [if_neg c]
theorem Ib (h : IsL L o n J K) (hj : ∀ x y, x < n → y < n → J x y < n) (l : List Int) (hl : l.length ≤ 1000) (d : Nat) : ∀ (k t i : Nat), i + d = l.length → d + 1 ≤ k → t < n →
    (Inr n (l.drop i) → jZ.l1 k l L (t : Int) (i : Int) = some (((l.drop i).foldl (fun a x => J a x.toNat) t : Nat) : Int)) ∧
    (¬ Inr n (l.drop i) → jZ.l1 k l L (t : Int) (i : Int) = some (-1)) := by
  have h64 := h.le
  induction d with
  | zero =>
    intro k t i hi hk ht;obtain ⟨k, rfl⟩ : ∃ q, k = q + 1 := ⟨k - 1, by omega⟩;rw [List.drop_eq_nil_of_le (by omega), jZ.l1, if_neg (by omega)];exact ⟨fun _ => rfl, fun z => absurd (fun x hx => by cases hx) z⟩
  | succ d ih =>
    intro k t i hi hk ht;obtain ⟨k, rfl⟩ : ∃ q, k = q + 1 := ⟨k - 1, by omega⟩;have hii : i < l.length := by omega
    rw [List.drop_eq_getElem_cons hii, jZ.l1, if_pos (by omega), if_pos (by omega), Gq l i hii];by_cases c : 0 ≤ l[i] ∧ l[i] < (n : Int)
    · obtain ⟨x, hx⟩ : ∃ x : Nat, l[i] = (x : Int) := ⟨l[i].toNat, by omega⟩;rw [hx] at c ⊢;have hx' : x < n := by omega
      have := hj t x ht hx';rw [inL (h.more _) x x hx' hx', Option.bind_some, if_pos rfl, if_pos (by omega), if_pos (by omega), if_pos (by omega), if_pos (by omega), Int.toNat_natCast, Int.toNat_natCast, h.j_ t x ht hx', kL (x := (J t x : Int)) (by omega) (by omega), kL (by omega) (by omega), show (i : Int) + 1 = ((i + 1 : Nat) : Int) by omega, List.foldl_cons, Int.toNat_natCast];obtain ⟨q1, q2⟩ := ih k (J t x) (i + 1) (by omega) (by omega) this;have e : Inr n ((x : Int) :: l.drop (i + 1)) ↔ Inr n (l.drop (i + 1)) := by
        constructor
        · exact fun z y hy => z y (List.mem_cons_of_mem _ hy)
        · intro z y hy;rcases List.mem_cons.1 hy with hy | hy
          · rw [hy]; exact c
          · exact z y hy
      rw [e];exact ⟨q1, q2⟩
    · rw [LH (h.more _) _ c, Option.bind_some, if_neg (by decide)];exact ⟨fun z => absurd (z _ (List.mem_cons_self ..)) c, fun _ => rfl⟩
end
def mask (p : Nat → Bool) : Nat → Nat
  | 0 => 0
  | m + 1 => mask p m + if p m = true then 2 ^ m else 0
theorem tZ (p : Nat → Bool) : ∀ m, mask p m < 2 ^ m
  | 0 => by simp [mask]
  | m + 1 => by
    have := tZ p m;rw [mask, Nat.pow_succ];split <;> omega
theorem zZ (p : Nat → Bool) (m : Nat) (h : p m = true) : mask p m ||| 2 ^ m = mask p (m + 1) := by
  rw [mask, if_pos h, Nat.add_comm, Nat.or_comm];have := Nat.two_pow_add_eq_or_of_lt (tZ p m) 1;rw [Nat.mul_one] at this;exact this.symm
theorem yN (p : Nat → Bool) : ∀ m i, (mask p m).testBit i = (decide (i < m) && p i)
  | 0, i => by simp [mask]
  | m + 1, i => by
    have ih := yN p m i;by_cases h : p m = true
    · rw [← zZ p m h, Nat.testBit_or, ih, Nat.testBit_two_pow];by_cases e : m = i
      · subst e; simp [h]
      · rw [decide_eq_false e, Bool.or_false];congr 1;rw [decide_eq_decide]; omega
    · rw [mask, if_neg h, Nat.add_zero, ih];by_cases e : m = i
      · subst e; simp [h]
      · congr 1;rw [decide_eq_decide]; omega
section
variable {n : Nat} {J K : Nat → Nat → Nat} {le : Nat → Nat → Prop}
def jo (J : Nat → Nat → Nat) (r : Nat) (l : List Nat) : Nat := l.foldl J r
theorem GU (lt : Lt n le J K) : ∀ (l : List Nat) (t : Nat), t < n → (∀ x ∈ l, x < n) → jo J t l < n ∧ ∀ y, le (jo J t l) y ↔ le t y ∧ ∀ x ∈ l, le x y
  | [], t, ht, _ => ⟨ht, fun y => ⟨fun h => ⟨h, fun x hx => (by cases hx)⟩, fun h => h.1⟩⟩
  | x :: l, t, ht, hl => by
    have hx := hl x (by simp);obtain ⟨j1, j2, j3, j4⟩ := lt.j ht hx;obtain ⟨q1, q2⟩ := GU lt l (J t x) j1 (fun y hy => hl y (by simp [hy]));refine ⟨q1, fun y => (q2 y).trans ?_⟩;constructor
    · rintro ⟨h1, h2⟩;refine ⟨lt.po.tr j2 h1, fun z hz => ?_⟩;rcases List.mem_cons.1 hz with hz | hz
      · rw [hz]; exact lt.po.tr j3 h1
      · exact h2 z hz
    · rintro ⟨h1, h2⟩;exact ⟨j4 y h1 (h2 x (by simp)), fun z hz => h2 z (by simp [hz])⟩
end
section
variable {n : Nat} {J K : Nat → Nat → Nat} {le : Nat → Nat → Prop} {r : Nat} [dl : ∀ x y, Decidable (le x y)]
def blw (le : Nat → Nat → Prop) [∀ x y, Decidable (le x y)] (n c : Nat) : List Nat := (List.range n).filter fun x => decide (x ≠ c ∧ le x c)
theorem rZ (c x : Nat) : x ∈ blw le n c ↔ x < n ∧ x ≠ c ∧ le x c := by simp [blw]
def irr (le : Nat → Nat → Prop) [∀ x y, Decidable (le x y)] (J : Nat → Nat → Nat) (n r c : Nat) : Bool := decide (c ≠ r ∧ jo J r (blw le n c) ≠ c)
def els (le : Nat → Nat → Prop) [∀ x y, Decidable (le x y)] (J : Nat → Nat → Nat) (n r : Nat) : List Nat := (List.range n).filter (irr le J n r)
theorem uK (c : Nat) : c ∈ els le J n r ↔ c < n ∧ c ≠ r ∧ jo J r (blw le n c) ≠ c := by simp [els, irr]
theorem uq : (els le J n r).length ≤ n := by
  have := List.length_filter_le (irr le J n r) (List.range n);rw [List.length_range] at this;exact this
theorem NC (lt : Lt n le J K) (hr : r < n) (hb : ∀ j, j < n → le r j) (c : Nat) (hc : c < n) : jo J r (blw le n c) < n ∧ le (jo J r (blw le n c)) c ∧ ∀ y, y < n → (le (jo J r (blw le n c)) y ↔ ∀ x ∈ blw le n c, le x y) := by
  obtain ⟨q1, q2⟩ := GU lt (blw le n c) r hr (fun x hx => ((rZ c x).1 hx).1);exact ⟨q1, (q2 c).2 ⟨hb c hc, fun x hx => ((rZ c x).1 hx).2.2⟩, fun y hy => (q2 y).trans ⟨fun h => h.2, fun h => ⟨hb y hy, h⟩⟩⟩
theorem prime (lt : Lt n le J K) (hr : r < n) (hb : ∀ j, j < n → le r j) {p : Nat} (hp : p ∈ els le J n r) {a b : Nat} (ha : a < n) (hbb : b < n) (h : le p (J a b)) : le p a ∨ le p b := by
  obtain ⟨p1, p2, p3⟩ := (uK p).1 hp;obtain ⟨k1, k2, k3, _⟩ := lt.k p1 ha;obtain ⟨m1, m2, m3, _⟩ := lt.k p1 hbb;have e : J (K p a) (K p b) = p := by
    rw [← lt.ds p1 ha hbb];exact rW lt.po.flp (lt.k p1 (lt.j ha hbb).1).2 ⟨lt.po.rf p p1, h, fun _ q _ => q⟩
  by_cases c1 : K p a = p
  · left; rw [← c1]; exact k3
  · by_cases c2 : K p b = p
    · right; rw [← c2]; exact m3
    · exfalso;obtain ⟨q1, q2, q3⟩ := NC lt hr hb p p1;have qq := (q3 _ q1).1 (lt.po.rf _ q1);have h1 := qq (K p a) ((rZ p _).2 ⟨k1, c1, k2⟩);have h2 := qq (K p b) ((rZ p _).2 ⟨m1, c2, m2⟩);have h3 := (lt.j k1 m1).2.2.2 _ h1 h2;rw [e] at h3;exact p3 (lt.po.an q2 h3)
theorem I4 (lt : Lt n le J K) (hr : r < n) (hb : ∀ j, j < n → le r j) {p : Nat} (hp : p ∈ els le J n r) : ∀ (l : List Nat) (t : Nat), t < n → (∀ x ∈ l, x < n) → le p (jo J t l) → le p t ∨ ∃ x ∈ l, le p x
  | [], t, _, _, h => .inl h
  | x :: l, t, ht, hl, h => by
    have hx := hl x (by simp);rcases I4 lt hr hb hp l (J t x) (lt.j ht hx).1 (fun y hy => hl y (by simp [hy])) h with h | ⟨y, h1, h2⟩
    · rcases prime lt hr hb hp ht hx h with h | h
      · exact .inl h
      · exact .inr ⟨x, by simp, h⟩
    · exact .inr ⟨y, by simp [h1], h2⟩
theorem IE (lt : Lt n le J K) (hb : ∀ j, j < n → le r j) {p : Nat} (hp : p ∈ els le J n r) : ¬ le p r := fun h => ((uK p).1 hp).2.1 (lt.po.an h (hb p ((uK p).1 hp).1))
theorem KO {α : Type} (p q : α → Bool) (c : α) : ∀ (l : List α), (∀ x ∈ l, p x = true → q x = true) → c ∈ l → q c = true → p c = false → (l.filter p).length < (l.filter q).length
  | [], _, h, _, _ => by cases h
  | x :: l, h, hc, h1, h2 => by
    have le_ : (l.filter p).length ≤ (l.filter q).length := by
      have : ∀ m : List α, (∀ x ∈ m, p x = true → q x = true) → (m.filter p).length ≤ (m.filter q).length := fun m => by
        induction m with
        | nil => intro _; exact Nat.le_refl _
        | cons y m ih =>
          intro hm;have := ih (fun z hz => hm z (by simp [hz]));rw [List.filter_cons, List.filter_cons];by_cases e : p y = true
          · rw [if_pos e, if_pos (hm y (by simp) e)]; simp; exact this
          · rw [if_neg e]; split
            · simp; omega
            · exact this
      exact this l (fun z hz => h z (by simp [hz]))
    rw [List.filter_cons, List.filter_cons];rcases List.mem_cons.1 hc with e | e
    · subst e;rw [if_neg (by rw [h2]; decide), if_pos h1]; simp; omega
    · have ih := KO p q c l (fun z hz => h z (by simp [hz])) e h1 h2;by_cases e : p x = true
      · rw [if_pos e, if_pos (h x (by simp) e)]; simp; exact ih
      · rw [if_neg e]; split
        · simp; omega
        · exact ih
theorem dense (lt : Lt n le J K) (hr : r < n) (hb : ∀ j, j < n → le r j) : ∀ (m c : Nat), ((List.range n).filter fun x => decide (le x c)).length ≤ m → c < n → ∀ y, y < n → (∀ p ∈ els le J n r, le p c → le p y) → le c y
  | 0, c, hm, hc, _, _, _ => by
    have : c ∈ (List.range n).filter fun x => decide (le x c) := by simp [hc, lt.po.rf c hc]
    have := List.length_pos_of_mem this;omega
  | m + 1, c, hm, hc, y, hy, h => by
    by_cases e1 : c = r
    · rw [e1]; exact hb y hy
    · by_cases e2 : jo J r (blw le n c) = c
      · obtain ⟨q1, q2, q3⟩ := NC lt hr hb c hc;have := (q3 y hy).2 (fun x hx => by
          obtain ⟨x1, x2, x3⟩ := (rZ c x).1 hx;refine dense lt hr hb m x ?_ x1 y hy (fun p hp hpx => h p hp (lt.po.tr hpx x3));have := KO (fun z => decide (le z x)) (fun z => decide (le z c)) c (List.range n) (fun z _ hz => by
            rw [decide_eq_true_iff] at hz ⊢;exact lt.po.tr hz x3) (List.mem_range.2 hc) (decide_eq_true (lt.po.rf c hc)) (decide_eq_false (fun z => x2 (lt.po.an x3 z)))
          omega)
        rw [e2] at this;exact this
      · exact h c ((uK c).2 ⟨hc, e1, e2⟩) (lt.po.rf c hc)
def st_ (le : Nat → Nat → Prop) [∀ x y, Decidable (le x y)] (E : List Nat) (c : Nat) : Nat := mask (fun i => decide (le (E.getD i 0) c)) E.length
theorem vM (E : List Nat) (c i : Nat) : (st_ le E c).testBit i = true ↔ i < E.length ∧ le (E.getD i 0) c := by
  unfold st_;rw [yN, Bool.and_eq_true, decide_eq_true_iff, decide_eq_true_iff]
theorem BZ (E : List Nat) (h : E.length ≤ 64) (c : Nat) : st_ le E c < 2 ^ 64 := Nat.lt_of_lt_of_le (tZ _ _) (Nat.pow_le_pow_right (by decide) h)
theorem su (E : List Nat) (i : Nat) (h : i < E.length) : E.getD i 0 ∈ E := by
  rw [List.getD_eq_getElem?_getD, List.getElem?_eq_getElem h];exact List.getElem_mem h
theorem J5 (lt : Lt n le J K) (hr : r < n) (hb : ∀ j, j < n → le r j) (a b : Nat) (ha : a < n) (hbn : b < n) : (∀ i, (st_ le (els le J n r) a).testBit i = true → (st_ le (els le J n r) b).testBit i = true) ↔ le a b := by
  constructor
  · intro h;refine dense lt hr hb _ a (Nat.le_refl _) ha b hbn (fun p hp hpa => ?_);obtain ⟨i, hi, e⟩ := List.getElem_of_mem hp;have e' : (els le J n r).getD i 0 = p := by rw [List.getD_eq_getElem?_getD, List.getElem?_eq_getElem hi]; exact e
    have := ((vM _ b i).1 (h i ((vM _ a i).2 ⟨hi, by rw [e']; exact hpa⟩))).2
    rwa [e'] at this
  · intro h i hi;obtain ⟨h1, h2⟩ := (vM _ a i).1 hi;exact (vM _ b i).2 ⟨h1, lt.po.tr h2 h⟩
theorem J6 (lt : Lt n le J K) (hr : r < n) (hb : ∀ j, j < n → le r j) (a b : Nat) (ha : a < n) (hbn : b < n) (h : st_ le (els le J n r) a = st_ le (els le J n r) b) : a = b :=
  lt.po.an ((J5 lt hr hb a b ha hbn).1 (fun i hi => by rwa [← h])) ((J5 lt hr hb b a hbn ha).1 (fun i hi => by rwa [h]))
def sm (E : List Nat) (s : Nat) : List Nat := ((List.range E.length).filter fun i => s.testBit i).map fun i => E.getD i 0
theorem Fz (E : List Nat) (s x : Nat) : x ∈ sm E s ↔ ∃ i, i < E.length ∧ s.testBit i = true ∧ E.getD i 0 = x := by
  unfold sm;rw [List.mem_map];constructor
  · rintro ⟨i, h1, h2⟩;rw [List.mem_filter, List.mem_range] at h1;exact ⟨i, h1.1, h1.2, h2⟩
  · rintro ⟨i, h1, h2, h3⟩;exact ⟨i, by rw [List.mem_filter, List.mem_range]; exact ⟨h1, h2⟩, h3⟩
theorem Gu (s : Nat) : ∀ x ∈ sm (els le J n r) s, x < n := fun x hx => by
  obtain ⟨i, h1, _, h3⟩ := (Fz _ s x).1 hx;rw [← h3];exact ((uK _).1 (su _ i h1)).1
def dn_ (le : Nat → Nat → Prop) [∀ x y, Decidable (le x y)] (E : List Nat) (s : Nat) : Nat := mask (fun i => (sm E s).any fun x => decide (le (E.getD i 0) x)) E.length
theorem GK (E : List Nat) (s i : Nat) : (dn_ le E s).testBit i = true ↔ i < E.length ∧ ∃ x ∈ sm E s, le (E.getD i 0) x := by
  unfold dn_;rw [yN, Bool.and_eq_true, decide_eq_true_iff, List.any_eq_true];simp only [decide_eq_true_iff]
theorem NV (E : List Nat) (h : E.length ≤ 64) (c : Nat) : dn_ le E c < 2 ^ 64 := Nat.lt_of_lt_of_le (tZ _ _) (Nat.pow_le_pow_right (by decide) h)
theorem Aa {a b : Nat} (h : ∀ i, a.testBit i = true ↔ b.testBit i = true) : a = b := Nat.eq_of_testBit_eq fun i => Bool.eq_iff_iff.2 (h i)
theorem J7 (lt : Lt n le J K) (hr : r < n) (hb : ∀ j, j < n → le r j) (s : Nat) : st_ le (els le J n r) (jo J r (sm (els le J n r) s)) = dn_ le (els le J n r) s := by
  refine Aa fun i => ?_;rw [vM, GK];constructor
  · rintro ⟨h1, h2⟩;have hp := su (els le J n r) i h1;rcases I4 lt hr hb hp (sm (els le J n r) s) r hr (Gu s) h2 with h | h
    · exact absurd h (IE lt hb hp)
    · exact ⟨h1, h⟩
  · rintro ⟨h1, x, h2, h3⟩;obtain ⟨q1, q2⟩ := GU lt (sm (els le J n r) s) r hr (Gu s);exact ⟨h1, lt.po.tr h3 (((q2 _).1 (lt.po.rf _ q1)).2 x h2)⟩
theorem L8 (lt : Lt n le J K) (c : Nat) : dn_ le (els le J n r) (st_ le (els le J n r) c) = st_ le (els le J n r) c := by
  refine Aa fun i => ?_;rw [vM, GK];constructor
  · rintro ⟨h1, x, h2, h3⟩;obtain ⟨q, q1, q2, q3⟩ := (Fz _ _ x).1 h2;have := ((vM _ c q).1 q2).2;rw [q3] at this;exact ⟨h1, lt.po.tr h3 this⟩
  · rintro ⟨h1, h2⟩;refine ⟨h1, _, (Fz _ _ _).2 ⟨i, h1, (vM _ c i).2 ⟨h1, h2⟩, rfl⟩, lt.po.rf _ ((uK _).1 (su _ i h1)).1⟩
theorem Ns (lt : Lt n le J K) (hr : r < n) (hb : ∀ j, j < n → le r j) (s : Nat) : dn_ le (els le J n r) (dn_ le (els le J n r) s) = dn_ le (els le J n r) s := by rw [← J7 lt hr hb s, L8 lt]
theorem KD (lt : Lt n le J K) (hr : r < n) (s : Nat) : jo J r (sm (els le J n r) s) < n := (GU lt _ r hr (Gu s)).1
theorem NW (lt : Lt n le J K) (hr : r < n) (hb : ∀ j, j < n → le r j) (c : Nat) (hc : c < n) : jo J r (sm (els le J n r) (st_ le (els le J n r) c)) = c :=
  J6 lt hr hb _ _ (KD lt hr _) hc (by rw [J7 lt hr hb, L8 lt])
theorem NY (lt : Lt n le J K) (hr : r < n) (hb : ∀ j, j < n → le r j) (s : Nat) : jo J r (sm (els le J n r) (dn_ le (els le J n r) s)) = jo J r (sm (els le J n r) s) :=
  J6 lt hr hb _ _ (KD lt hr _) (KD lt hr _) (by rw [J7 lt hr hb, J7 lt hr hb, Ns lt hr hb])
end
theorem wR {α : Type} (p : α → Bool) (x : α) : [x].filter p = if p x = true then [x] else [] := by
  rw [List.filter_cons, List.filter_nil]
section
variable {L : nK} {o : S81} {n : Nat} {J K : Nat → Nat → Nat} {le : Nat → Nat → Prop} {r : Nat}
theorem Ad (J : Nat → Nat → Nat) : ∀ (l : List Nat) (t : Nat), (N l).foldl (fun a x => J a x.toNat) t = jo J t l
  | [], _ => rfl
  | x :: l, t => by
    show (N l).foldl _ (J t ((x : Int)).toNat) = l.foldl J (J t x);rw [Int.toNat_natCast];exact Ad J l (J t x)
theorem qQ (l : List Nat) : (N l).length = l.length := by unfold N; simp
theorem Gs (l : List Nat) (h : ∀ x ∈ l, x < n) : Inr n (N l) := fun y hy => by
  obtain ⟨x, hx, rfl⟩ := List.mem_map.1 hy;have := h x hx;omega
theorem Gt (l : List Nat) (i : Nat) : rd (N l) (i : Int) = ((l.getD i 0 : Nat) : Int) := uP l i
theorem zO (l : List Nat) (x : Nat) : N l ++ [(x : Int)] = N (l ++ [x]) := by unfold N; simp
theorem jaN (h : IsL L o n J K) (lt : Lt n le J K) (hr : r < n) (hb : ∀ j, j < n → le r j) (l : List Nat) (hl : ∀ x ∈ l, x < n) (hlen : l.length ≤ 900) (k : Nat) (hk : 1200 ≤ k) :
    jZ.f k (some L) (N l) = some ((jo J r l : Nat) : Int) := by
  obtain ⟨r', s1, s2, s3⟩ := JW h lt (by omega) k (by omega);obtain rfl : r' = r := lt.po.an (s2 r hr) (hb r' s1);unfold jZ.f;rw [s3, Option.bind_some];have := (Ib h (fun x y hx hy => (lt.j hx hy).1) (N l) (by rw [qQ]; omega) (N l).length k r' 0 (by omega) (by rw [qQ]; omega) hr).1 (by rw [List.drop_zero]; exact Gs l hl);rw [List.drop_zero, Ad] at this;exact this
end
section
variable {L : nK} {o : S81} {n : Nat} {J K : Nat → Nat → Nat} {le : Nat → Nat → Prop} {r : Nat} [dl : ∀ x y, Decidable (le x y)]
theorem Ic (h : IsL L o n J K) (lt : Lt n le J K) (hr : r < n) (hb : ∀ j, j < n → le r j) (hm : ∀ x y, x < n → y < n → lF.f (some o) (x : Int) (y : Int) = some (decide (le x y))) (c : Nat) (hc : c < n) (E : List Nat) (hE : E.length ≤ 64) (F : Nat) (hF : 1300 ≤ F) (d : Nat) : ∀ (k x : Nat), x + d = n → F + d + 1 ≤ k →
    ∃ k', F ≤ k' ∧ kU.l0 k L (n : Int) (some o) (c : Int) (N E) (N ((List.range x).filter fun y => decide (y ≠ c ∧ le y c))) (x : Int) = kU.l3 k' L (n : Int) (some o) ((c + 1 : Nat) : Int) (N (if irr le J n r c = true then E ++ [c] else E)) := by
  have h64 := h.le
  induction d with
  | zero =>
    intro k x hx hk;obtain ⟨k, rfl⟩ : ∃ q, k = q + 1 := ⟨k - 1, by omega⟩;obtain rfl : x = n := by omega
    refine ⟨k, by omega, ?_⟩;have eb : ((List.range x).filter fun y => decide (y ≠ c ∧ le y c)) = blw le x c := rfl;have e1 : wrap64 ((c : Int) + 1) = ((c + 1 : Nat) : Int) := by rw [kL (by omega) (by omega)]; rfl
    rw [kU.l0, if_neg (by omega), eb, qQ];by_cases cr : c = r
    · have eb2 : blw le x c = [] := by
        cases hbl : blw le x c with
        | nil => rfl
        | cons y t =>
          obtain ⟨q1, q2, q3⟩ := (rZ (le := le) c y).1 (by rw [hbl]; simp : y ∈ blw le x c);exact absurd (lt.po.an q3 (by rw [cr]; exact hb y q1)) q2
      have ei : irr le J x r c = false := by unfold irr; rw [decide_eq_false]; exact fun z => z.1 cr
      rw [eb2, ei, if_neg (by simp), e1]
      rfl
    · have hpos := List.length_pos_of_mem ((rZ (le := le) c r).2 ⟨hr, fun z => cr z.symm, hb c hc⟩);have hlen : (blw le x c).length ≤ 64 := by
        have := List.length_filter_le (fun y => decide (y ≠ c ∧ le y c)) (List.range x);rw [List.length_range] at this;unfold blw; omega
      rw [if_pos (by omega), jaN (h.more _) lt hr hb _ (fun y hy => ((rZ c y).1 hy).1) (by omega) k (by omega), Option.bind_some];by_cases ce : jo J r (blw le x c) = c
      · have ei : irr le J x r c = false := by unfold irr; rw [decide_eq_false]; exact fun z => z.2 ce
        rw [ei, if_pos (by omega), e1]
        rfl
      · have ei : irr le J x r c = true := by unfold irr; rw [decide_eq_true]; exact ⟨cr, ce⟩
        rw [ei, if_neg (by omega), qQ, if_pos (by omega), Option.bind_some, e1, zO]
        rfl
  | succ d ih =>
    intro k x hx hk;obtain ⟨k, rfl⟩ : ∃ q, k = q + 1 := ⟨k - 1, by omega⟩;have hx' : x < n := by omega
    obtain ⟨k', g1, g2⟩ := ih k (x + 1) (by omega) (by omega);refine ⟨k', g1, ?_⟩;rw [List.range_succ, List.filter_append] at g2;have e1 : wrap64 ((x : Int) + 1) = ((x + 1 : Nat) : Int) := by rw [kL (by omega) (by omega)]; rfl
    rw [kU.l0, if_pos (by omega), e1];by_cases q1 : x = c
    · rw [wR, decide_eq_false (fun z => z.1 q1)] at g2;rw [if_pos (by omega)];simp only [Bool.false_eq_true, if_false, List.append_nil] at g2;exact g2
    · rw [if_neg (by omega), hm x c hx' hc, Option.bind_some];by_cases q2 : le x c
      · rw [wR, decide_eq_true ⟨q1, q2⟩] at g2;have hlen : ((List.range x).filter fun y => decide (y ≠ c ∧ le y c)).length ≤ x := by
          have := List.length_filter_le (fun y => decide (y ≠ c ∧ le y c)) (List.range x);rw [List.length_range] at this;exact this
        rw [if_pos (decide_eq_true q2), if_pos (by rw [qQ]; omega), Option.bind_some, zO];exact g2
      · rw [wR, decide_eq_false (fun z => q2 z.2)] at g2;rw [if_neg (by rw [decide_eq_false q2]; decide)];simp only [Bool.false_eq_true, if_false, List.append_nil] at g2;exact g2
theorem Ie (h : IsL L o n J K) (lt : Lt n le J K) (hr : r < n) (hb : ∀ j, j < n → le r j) (hm : ∀ x y, x < n → y < n → lF.f (some o) (x : Int) (y : Int) = some (decide (le x y))) (F : Nat) (hF : 1300 ≤ F) (d : Nat) : ∀ (k c : Nat), c + d = n → F + d * 70 + 1 ≤ k →
    ∃ k', F ≤ k' ∧ kU.l3 k L (n : Int) (some o) (c : Int) (N ((List.range c).filter (irr le J n r))) = kU.l2 k' L (n : Int) (some o) (N (els le J n r)) 0 [] := by
  have h64 := h.le
  induction d with
  | zero =>
    intro k c hc hk;obtain ⟨k, rfl⟩ : ∃ q, k = q + 1 := ⟨k - 1, by omega⟩;obtain rfl : c = n := by omega
    exact ⟨k, by omega, by rw [kU.l3, if_neg (by omega)]; rfl⟩
  | succ d ih =>
    intro k c hc hk;obtain ⟨k, rfl⟩ : ∃ q, k = q + 1 := ⟨k - 1, by omega⟩;have hlen : ((List.range c).filter (irr le J n r)).length ≤ c := by
      have := List.length_filter_le (irr le J n r) (List.range c);rw [List.length_range] at this;exact this
    obtain ⟨k1, g1, g2⟩ := Ic h lt hr hb hm c (by omega) ((List.range c).filter (irr le J n r)) (by omega) (F + d * 70 + 1) (by omega) n k 0 (by omega) (by omega);obtain ⟨k2, g3, g4⟩ := ih k1 (c + 1) (by omega) g1;refine ⟨k2, g3, ?_⟩;rw [kU.l3, if_pos (by omega)];refine (g2.trans ?_).trans g4;congr 1;rw [List.range_succ, List.filter_append, wR];by_cases e : irr le J n r c = true
    · rw [if_pos e, if_pos e]
    · rw [if_neg e, if_neg e, List.append_nil]
def sts (le : Nat → Nat → Prop) [∀ x y, Decidable (le x y)] (E : List Nat) (n : Nat) : List Nat := (List.range n).map (st_ le E)
theorem Ig (h64 : n ≤ 64) (hm : ∀ x y, x < n → y < n → lF.f (some o) (x : Int) (y : Int) = some (decide (le x y))) (E : List Nat) (hE : ∀ x ∈ E, x < n) (hE2 : E.length ≤ 64) (c : Nat) (hc : c < n) (A : List Nat) (hA : A.length ≤ 64) (F : Nat) (d : Nat) : ∀ (k i : Nat), i + d = E.length → F + d + 1 ≤ k →
    ∃ k', F ≤ k' ∧ kU.l1 k L (n : Int) (some o) (N E) (c : Int) (N A) ((mask (fun i => decide (le (E.getD i 0) c)) i : Nat) : Int) (i : Int) = kU.l2 k' L (n : Int) (some o) (N E) ((c + 1 : Nat) : Int) (N (A ++ [st_ le E c])) := by
  induction d with
  | zero =>
    intro k i hi hk;obtain ⟨k, rfl⟩ : ∃ q, k = q + 1 := ⟨k - 1, by omega⟩;obtain rfl : i = E.length := by omega
    refine ⟨k, by omega, ?_⟩;rw [kU.l1, if_neg (by rw [qQ]; omega), if_pos (by rw [qQ]; omega), Option.bind_some, zO, kL (by omega) (by omega)]
    rfl
  | succ d ih =>
    intro k i hi hk;obtain ⟨k, rfl⟩ : ∃ q, k = q + 1 := ⟨k - 1, by omega⟩;have hi' : i < E.length := by omega
    obtain ⟨k', g1, g2⟩ := ih k (i + 1) (by omega) (by omega);refine ⟨k', g1, ?_⟩;have hp : 2 ^ i < 2 ^ 64 := Nat.pow_lt_pow_right (by decide) (by omega);have hq : mask (fun i => decide (le (E.getD i 0) c)) i < 2 ^ 64 := Nat.lt_trans (tZ _ _) hp;rw [kU.l1, if_pos (by rw [qQ]; omega), if_pos (by omega), Gt, hm _ c (hE _ (su E i hi')) hc, Option.bind_some, kL (x := (i : Int) + 1) (by omega) (by omega), show (i : Int) + 1 = ((i + 1 : Nat) : Int) by omega];by_cases e : le (E.getD i 0) c
    · rw [if_pos (decide_eq_true e), pU (x := (i : Int)) (by omega) (by omega), if_pos (by omega), Gp i (by omega), u64_or_nat _ _ hq hp, zZ _ _ (decide_eq_true e)];exact g2
    · rw [if_neg (by rw [decide_eq_false e]; decide)];rw [mask, if_neg (by rw [decide_eq_false e]; decide), Nat.add_zero] at g2;exact g2
theorem Ih (h64 : n ≤ 64) (hm : ∀ x y, x < n → y < n → lF.f (some o) (x : Int) (y : Int) = some (decide (le x y))) (E : List Nat) (hE : ∀ x ∈ E, x < n) (hE2 : E.length ≤ 64) (d : Nat) : ∀ (k c : Nat), c + d = n → d * 70 + 1 ≤ k →
    kU.l2 k L (n : Int) (some o) (N E) (c : Int) (N ((List.range c).map (st_ le E))) = some (some ⟨some L, N E, N (sts le E n)⟩) := by
  induction d with
  | zero =>
    intro k c hc hk;obtain ⟨k, rfl⟩ : ∃ q, k = q + 1 := ⟨k - 1, by omega⟩;obtain rfl : c = n := by omega
    rw [kU.l2, if_neg (by omega)]
    rfl
  | succ d ih =>
    intro k c hc hk;obtain ⟨k, rfl⟩ : ∃ q, k = q + 1 := ⟨k - 1, by omega⟩;obtain ⟨k1, g1, g2⟩ := Ig (L := L) (o := o) (le := le) h64 hm E hE hE2 c (by omega) ((List.range c).map (st_ le E)) (by simp; omega) (d * 70 + 1) E.length k 0 (by omega) (by omega);have g3 := ih k1 (c + 1) (by omega) g1;rw [kU.l2, if_pos (by omega)];refine g2.trans ?_;rw [List.range_succ, List.map_append] at g3;exact g3
theorem LJ (h : IsL L o n J K) (lt : Lt n le J K) (hr : r < n) (hb : ∀ j, j < n → le r j) (hm : ∀ x y, x < n → y < n → lF.f (some o) (x : Int) (y : Int) = some (decide (le x y))) (k : Nat) (hk : 11000 ≤ k) :
    kU.f k (some L) = some (some ⟨some L, N (els le J n r), N (sts le (els le J n r) n)⟩) := by
  have h64 := h.le;obtain ⟨k1, g1, g2⟩ := Ie h lt hr hb hm 5000 (by omega) n k 0 (by omega) (by omega);unfold kU.f;dsimp only [mV];have el : mM.f (some (⟨L.f0, (⟨(⟨L.f1.f0.f0⟩ : S92), (⟨(⟨L.f1.f1.f0.f0, L.f1.f1.f0.f1⟩ : S94)⟩ : S96)⟩ : S98), L.f2, L.f3, (⟨L.f4.f0⟩ : qA)⟩ : nK)) = some (some o) := by
    unfold mM.f;dsimp only [mV];rw [h.o_]
  have len_ : (els le J n r).length ≤ n := uq;rw [el, Option.bind_some, oz, Option.bind_some, h.n_];exact g2.trans (Ih h64 hm _ (fun x hx => ((uK x).1 hx).1) (by omega) n k1 0 (by omega) (by omega))
theorem Ae (E : List Nat) (c : Nat) (hc : c < n) : rd (N (sts le E n)) (c : Int) = ((st_ le E c : Nat) : Int) := by
  rw [Gt];congr 1;unfold sts;rw [List.getD_eq_getElem?_getD, List.getElem?_map, List.getElem?_range hc]
  rfl
theorem wP (E : List Nat) : (N (sts le E n)).length = n := by rw [qQ]; simp [sts]
end
section
variable {L : nK} {o : S81} {n : Nat} {J K : Nat → Nat → Nat} {le : Nat → Nat → Prop} {r : Nat} [dl : ∀ x y, Decidable (le x y)] {E : List Nat}
theorem i_in (a : Int) : nI.f (some ⟨some L, N E, N (sts le E n)⟩) a = some (decide (0 ≤ a ∧ a < (n : Int))) := by
  unfold nI.f;dsimp only [mV];rw [wP];by_cases c : a ≥ 0
  · rw [if_pos c]; congr 1; rw [decide_eq_decide]; omega
  · rw [if_neg c, decide_eq_false (by omega)]
theorem Je (c : Nat) (hc : c < n) : mP.f (some ⟨some L, N E, N (sts le E n)⟩) (c : Int) = some ((st_ le E c : Nat) : Int) := by
  unfold mP.f;rw [i_in, Option.bind_some, if_pos (decide_eq_true (by omega))];dsimp only [mV];rw [if_pos (by omega), if_pos (by rw [wP]; omega), Ae E c hc]
end
theorem Bg (a : ByteArray) (l : List ByteArray) (hl : l.length ≤ 1000000) (d : Nat) : ∀ (k i : Nat), i + d = l.length → d + 1 ≤ k →
    kM.l0 k a l (i : Int) = some (if a ∈ l.drop i then ((i + at_ (l.drop i) a : Nat) : Int) else -1) := by
  induction d with
  | zero =>
    intro k i hi hk;obtain ⟨k, rfl⟩ : ∃ n, k = n + 1 := ⟨k - 1, by omega⟩;rw [kM.l0, if_neg (by omega), List.drop_eq_nil_of_le (by omega), if_neg (by simp)]
  | succ d ih =>
    intro k i hi hk;obtain ⟨k, rfl⟩ : ∃ n, k = n + 1 := ⟨k - 1, by omega⟩;rw [kM.l0, if_pos (by omega), if_pos (by omega), zC _ l i (by omega), List.drop_eq_getElem_cons (by omega), at_];by_cases e : l[i] = a
    · rw [if_pos e, if_pos (by rw [e]; simp), if_pos e]; rfl
    · rw [if_neg e, if_neg e, kL (by omega) (by omega), show (i : Int) + 1 = ((i + 1 : Nat) : Int) by omega, ih k (i + 1) (by omega) (by omega)];have hm : a ∈ l[i] :: l.drop (i + 1) ↔ a ∈ l.drop (i + 1) := ⟨fun z => by
        rcases List.mem_cons.1 z with z | z
        · exact absurd z.symm e
        · exact z, fun z => List.mem_cons_of_mem _ z⟩
      by_cases c : a ∈ l.drop (i + 1)
      · rw [if_pos c, if_pos (hm.2 c)]; congr 2; omega
      · rw [if_neg c, if_neg (fun z => c (hm.1 z))]
theorem yH (a : ByteArray) (l : List ByteArray) (hl : l.length ≤ 1000000) (k : Nat) (hk : l.length + 1 ≤ k) : kM.f k l a = some (if a ∈ l then ((at_ l a : Nat) : Int) else -1) := by
  have := Bg a l hl l.length k 0 (by omega) hk;rw [List.drop_zero, Nat.zero_add] at this;exact this
def ins (T : List ByteArray) (x : ByteArray) : List ByteArray := if x ∈ T then T else T ++ [x]
def yg (T : List ByteArray) (p : S53) : List ByteArray := if p.f1 = (⟨#[]⟩ : ByteArray) then ins T p.f0 else ins (ins T p.f0) p.f1
def nms (T : List ByteArray) (L : List S53) : List ByteArray := L.foldl yg T
theorem Di (T : List ByteArray) (x : ByteArray) : T.length ≤ (ins T x).length ∧ (ins T x).length ≤ T.length + 1 := by
  unfold ins; split
  · omega
  · rw [List.length_append]; simp
theorem zG (L : List S53) (hL : L.length ≤ 1000) (d : Nat) : ∀ (k i : Nat) (T : List ByteArray), i + d = L.length → T.length ≤ 2 * i → 3 * d + 2 * L.length + 10 ≤ k →
    jV.l0 k L T (i : Int) = some (nms T (L.drop i)) := by
  induction d with
  | zero =>
    intro k i T hi hT hk;obtain ⟨k, rfl⟩ : ∃ n, k = n + 1 := ⟨k - 1, by omega⟩;rw [jV.l0, if_neg (by omega), List.drop_eq_nil_of_le (by omega)]
    rfl
  | succ d ih =>
    intro k i T hi hT hk;obtain ⟨k, rfl⟩ : ∃ n, k = n + 3 := ⟨k - 3, by omega⟩;have hii : i < L.length := by omega
    have nx : ∀ T' : List ByteArray, T'.length ≤ 2 * (i + 1) → jV.l0 k L T' (wrap64 ((i : Int) + 1)) = some (nms T' (L.drop (i + 1))) := fun T' h => by
      rw [kL (by omega) (by omega), show (i : Int) + 1 = ((i + 1 : Nat) : Int) by omega];exact ih k (i + 1) T' (by omega) h (by omega)
    have j1 : ∀ T' : List ByteArray, T'.length ≤ 2 * i + 1 → jV.j1 (k + 2) L (i : Int) T' = some (nms (if L[i].f1 = (⟨#[]⟩ : ByteArray) then T' else ins T' L[i].f1) (L.drop (i + 1))) := fun T' h => by
      rw [jV.j1, if_pos (by omega), if_pos (by omega), AX L i hii];by_cases e : L[i].f1 = (⟨#[]⟩ : ByteArray)
      · rw [if_pos e, if_pos e, jV.j0, if_neg (by decide), nx T' (by omega)]
      · rw [if_neg e, if_neg e, yH _ T' (by omega) (k + 1) (by omega), Option.bind_some, jV.j0];unfold ins;by_cases m : L[i].f1 ∈ T'
        · rw [if_pos m, if_pos m, decide_eq_false (by omega), if_neg (by decide), nx T' (by omega)]
        · rw [if_neg m, if_neg m, decide_eq_true (by omega), if_pos rfl, if_pos (by omega), if_pos (by omega), if_pos (by omega), Option.bind_some, AX L i hii, nx _ (by rw [List.length_append]; simp; omega)]
    rw [jV.l0, if_pos (by omega), if_pos (by omega), AX L i hii, yH _ T (by omega) (k + 2) (by omega), Option.bind_some, List.drop_eq_getElem_cons hii];have e2 : nms T (L[i] :: L.drop (i + 1)) = nms (if L[i].f1 = (⟨#[]⟩ : ByteArray) then ins T L[i].f0 else ins (ins T L[i].f0) L[i].f1) (L.drop (i + 1)) := rfl;rw [e2];by_cases m : L[i].f0 ∈ T
    · have ei : ins T L[i].f0 = T := by unfold ins; rw [if_pos m]
      rw [if_pos m, if_neg (by omega), j1 T (by omega), ei]
    · have ei : ins T L[i].f0 = T ++ [L[i].f0] := by unfold ins; rw [if_neg m]
      rw [if_neg m, if_pos (by omega), if_pos (by omega), Option.bind_some, j1 _ (by rw [List.length_append]; simp; omega), ei]
theorem Cb (L : List S53) (hL : L.length ≤ 1000) (k : Nat) (hk : 5 * L.length + 10 ≤ k) : jV.f k L = some (nms [] L) := by
  have := zG L hL L.length k 0 [] (by omega) (by simp) (by omega);rw [List.drop_zero] at this;exact this
theorem sS {T : List ByteArray} {U : List Nat} {x : ByteArray} : (∀ r, tu T U x = some r → r.2.1 = ins T x) ∧ (tu T U x = none → T.length = 64 ∧ (ins T x).length = 65) := by
  unfold tu ins;by_cases m : x ∈ T
  · rw [if_pos m, if_pos m]; exact ⟨fun r h => (by injection h with h; subst h; rfl), fun h => (by cases h)⟩
  · rw [if_neg m, if_neg m];by_cases c : T.length = 64
    · rw [if_pos c]; exact ⟨fun r h => (by cases h), fun _ => ⟨c, by rw [List.length_append]; simp; omega⟩⟩
    · rw [if_neg c]; exact ⟨fun r h => (by injection h with h; subst h; rfl), fun h => (by cases h)⟩
theorem Bh {T : List ByteArray} (hT : T.length ≤ 64) {U : List Nat} (hU : qM U) (p : S53) :
    if oZ p.f0 = true ∧ (p.f1 = (⟨#[]⟩ : ByteArray) ∨ oZ p.f1 = true) then (if (yg T p).length > 64 then (oH T U p).1 = 8 else (oH T U p).1 = 0 ∧ (oH T U p).2.1 = yg T p) else (oH T U p).1 = 1 := by
  unfold oH;by_cases hi : oZ p.f0 = true ∧ (p.f1 = (⟨#[]⟩ : ByteArray) ∨ oZ p.f1 = true)
  · rw [if_pos hi, if_pos hi]
    cases ha : tu T U p.f0 with
    | none =>
      have := (sS.2 ha).2;have l2 := Di (ins T p.f0) p.f1;have : (yg T p).length > 64 := by unfold yg; split <;> omega
      rw [if_pos this]
    | some r =>
      have e := sS.1 r ha;obtain ⟨q1, q2, q3, q4⟩ := qV hT hU ha;dsimp only;by_cases h1 : p.f1 = (⟨#[]⟩ : ByteArray)
      · rw [if_pos h1];have : yg T p = ins T p.f0 := by unfold yg; rw [if_pos h1]
        rw [this, ← e, if_neg (by omega)];exact ⟨rfl, rfl⟩
      · rw [if_neg h1];have e2 : yg T p = ins (ins T p.f0) p.f1 := by unfold yg; rw [if_neg h1]
        cases hb : tu r.2.1 r.2.2 p.f1 with
        | none =>
          have := (sS.2 hb).2;rw [e2, ← e, if_pos (by omega)]
        | some b =>
          have eb := sS.1 b hb;obtain ⟨s1, s2, s3, s4⟩ := qV q2 q3 hb;rw [e2, ← e, ← eb, if_neg (by omega)];exact ⟨rfl, rfl⟩
  · rw [if_neg hi, if_neg hi]
theorem Dj (L : List S53) (hL : L.length ≤ 1000) (B : Nat) (hB : ∀ p ∈ L, p.f0.size ≤ B ∧ p.f1.size ≤ B) (hB2 : B ≤ 140737488351232) (F : Nat) (hF : 2 * B + 5 * L.length + 100 ≤ F) (d : Nat) : ∀ (k i : Nat) (T : List ByteArray) (U : List Nat), i + d = L.length → T = nms [] (L.take i) → T.length ≤ 64 → qM U → F + 2 * d + 1 ≤ k →
    ((build (L.drop i) i T U).1 ≠ 0 → jM.l2 k L (i : Int) = some ([], [], ((build (L.drop i) i T U).2.1 : Int), (build (L.drop i) i T U).1)) ∧
    ((build (L.drop i) i T U).1 = 0 → (build (L.drop i) i T U).2.2.1 = nms [] L ∧ ∃ k', F ≤ k' ∧ jM.l2 k L (i : Int) = jM.l1 k' L (nms [] L) 0 []) := by
  induction d with
  | zero =>
    intro k i T U hi hT hT2 hU hk;obtain ⟨k, rfl⟩ : ∃ n, k = n + 1 := ⟨k - 1, by omega⟩;rw [List.drop_eq_nil_of_le (by omega)];refine ⟨fun h => absurd rfl h, fun _ => ⟨?_, k, by omega, ?_⟩⟩
    · show T = _;rw [hT, List.take_of_length_le (by omega)]
    · rw [jM.l2, if_neg (by omega), Cb L hL k (by omega), Option.bind_some]
  | succ d ih =>
    intro k i T U hi hT hT2 hU hk;obtain ⟨k, rfl⟩ : ∃ n, k = n + 2 := ⟨k - 2, by omega⟩;have hii : i < L.length := by omega
    have hp := hB L[i] (List.getElem_mem hii);have hT3 : yg T L[i] = nms [] (L.take (i + 1)) := by
      rw [← List.take_append_getElem hii];unfold nms at hT ⊢;rw [List.foldl_append, List.foldl_cons, List.foldl_nil, ← hT]
    have pi := Bh hT2 hU L[i];have jt : jM.j0 (k + 1) L (i : Int) true = some ([], [], (i : Int), 1) := by rw [jM.j0, if_pos rfl]
    have jf : jM.j0 (k + 1) L (i : Int) false = if (yg T L[i]).length > 64 then some ([], [], (i : Int), 8) else jM.l2 k L ((i + 1 : Nat) : Int) := by
      rw [jM.j0, if_neg (by decide), kL (by omega) (by omega), show (i : Int) + 1 = ((i + 1 : Nat) : Int) by omega, if_pos (by omega), if_pos (by omega), Option.bind_some, Int.toNat_natCast, Cb _ (by rw [List.length_take]; omega) k (by rw [List.length_take]; omega), Option.bind_some, ← hT3];by_cases c : (yg T L[i]).length > 64
      · rw [if_pos c, if_pos (by omega)]
      · rw [if_neg c, if_neg (by omega)]
    have main : jM.l2 (k + 2) L (i : Int) = if oZ L[i].f0 = true ∧ (L[i].f1 = (⟨#[]⟩ : ByteArray) ∨ oZ L[i].f1 = true) then (if (yg T L[i]).length > 64 then some ([], [], (i : Int), 8) else jM.l2 k L ((i + 1 : Nat) : Int)) else some ([], [], (i : Int), 1) := by
      rw [jM.l2, if_pos (by omega), if_pos (by omega), AX L i hii, BX _ (by omega) (k + 1) (by omega), Option.bind_some];by_cases c0 : oZ L[i].f0 = true
      · rw [if_pos c0];by_cases c1 : L[i].f1 = (⟨#[]⟩ : ByteArray)
        · rw [if_pos c1, jf]; exact (if_pos ⟨c0, .inl c1⟩).symm
        · rw [if_neg c1, BX _ (by omega) (k + 1) (by omega), Option.bind_some]
          cases c2 : oZ L[i].f1 with
          | true => rw [Bool.not_true, jf]; exact (if_pos ⟨c0, .inr rfl⟩).symm
          | false => rw [Bool.not_false, jt]; exact (if_neg (by rintro ⟨_, z | z⟩; exact c1 z; cases z)).symm
      · rw [if_neg c0, jt]; exact (if_neg (fun z => c0 z.1)).symm
    have eb : build (L.drop i) i T U = if (oH T U L[i]).1 = 0 then build (L.drop (i + 1)) (i + 1) (oH T U L[i]).2.1 (oH T U L[i]).2.2 else ((oH T U L[i]).1, i, T, U) := by rw [List.drop_eq_getElem_cons hii, build]
    by_cases hid : oZ L[i].f0 = true ∧ (L[i].f1 = (⟨#[]⟩ : ByteArray) ∨ oZ L[i].f1 = true)
    · rw [if_pos hid] at pi main;by_cases c : (yg T L[i]).length > 64
      · rw [if_pos c] at pi main;rw [if_neg (by rw [pi]; decide), pi] at eb;rw [eb, main];exact ⟨fun _ => rfl, fun h => absurd (show (8 : Int) = 0 from h) (by decide)⟩
      · rw [if_neg c] at pi main;rw [if_pos pi.1, pi.2] at eb;rw [eb, main];have okp := (xR (p := L[i]) hT2 hU).2;exact ih k (i + 1) _ _ (by omega) hT3 (by omega) okp (by omega)
    · rw [if_neg hid] at pi main;rw [if_neg (by rw [pi]; decide), pi] at eb;rw [eb, main];exact ⟨fun _ => rfl, fun h => absurd (show (1 : Int) = 0 from h) (by decide)⟩
def qc (T : List ByteArray) (S : List Bool) (p : S53) : List Bool := if p.f1 = (⟨#[]⟩ : ByteArray) then S else if S.getD (at_ T p.f0) false = true then S.set (at_ T p.f1) true else S
def rC (T : List ByteArray) (L : List S53) (S : List Bool) : List Bool := L.foldl (qc T) S
def qg (T : List ByteArray) (L : List S53) : Nat → List Bool → List Bool
  | 0, S => S
  | d + 1, S => qg T L d (rC T L S)
theorem tK (T : List ByteArray) (S : List Bool) (p : S53) : (qc T S p).length = S.length := by
  unfold qc; split
  · rfl
  · split
    · rw [List.length_set]
    · rfl
theorem rH (T : List ByteArray) (L : List S53) : ∀ S, (rC T L S).length = S.length := by
  induction L with
  | nil => intro S; rfl
  | cons p L ih => intro S; exact (ih (qc T S p)).trans (tK T S p)
theorem qY (T : List ByteArray) (L : List S53) : ∀ d S, (qg T L d S).length = S.length
  | 0, _ => rfl
  | d + 1, S => (qY T L d _).trans (rH T L S)
theorem rdB (S : List Bool) (i : Nat) : oh false S (i : Int) = S.getD i false := rfl
theorem Bj (L : List S53) (hL : L.length ≤ 1000) (T : List ByteArray) (hT : T.length ≤ 64) (hm : ∀ p ∈ L, p.f0 ∈ T ∧ (p.f1 ≠ (⟨#[]⟩ : ByteArray) → p.f1 ∈ T)) (t : Int) (f : Nat) (hf : 70 ≤ f) (d : Nat) : ∀ (i : Nat) (S : List Bool), i + d = L.length → S.length = T.length →
    ∃ f', f ≤ f' ∧ jP.l0 (f + 2 * d + 1) L T t S (i : Int) = jP.l1 f' L T (rC T (L.drop i) S) (wrap64 (t + 1)) := by
  induction d with
  | zero =>
    intro i S hi hS;refine ⟨f, Nat.le_refl _, ?_⟩;rw [jP.l0, if_neg (by omega), List.drop_eq_nil_of_le (by omega)]
    rfl
  | succ d ih =>
    intro i S hi hS;have hii : i < L.length := by omega
    obtain ⟨h0, h1⟩ := hm L[i] (List.getElem_mem hii);have a0 := rQ T _ h0;have nx : ∀ S' : List Bool, S'.length = T.length → ∃ f', f ≤ f' ∧ jP.l0 (f + 2 * d + 1) L T t S' (wrap64 ((i : Int) + 1)) = jP.l1 f' L T (rC T (L.drop (i + 1)) S') (wrap64 (t + 1)) := fun S' h => by
      rw [kL (by omega) (by omega), show (i : Int) + 1 = ((i + 1 : Nat) : Int) by omega];exact ih (i + 1) S' (by omega) h
    have jf : ∀ b, b = false → jP.j0 (f + 2 * d + 1 + 1) L T t S (i : Int) b = jP.l0 (f + 2 * d + 1) L T t S (wrap64 ((i : Int) + 1)) := fun b hb => by
      rw [hb, jP.j0, if_neg (by decide)]
    rw [show f + 2 * (d + 1) + 1 = (f + 2 * d + 1 + 1) + 1 by omega, jP.l0, if_pos (by omega), if_pos (by omega), AX L i hii, List.drop_eq_getElem_cons hii];have e2 : ∀ S', rC T (L[i] :: L.drop (i + 1)) S' = rC T (L.drop (i + 1)) (qc T S' L[i]) := fun S' => rfl;rw [e2];by_cases c : L[i].f1 = (⟨#[]⟩ : ByteArray)
    · have es : qc T S L[i] = S := by unfold qc; rw [if_pos c]
      rw [if_pos c, jf _ rfl, es];exact nx S hS
    · have a1 := rQ T _ (h1 c);rw [if_neg c, yH _ T (by omega) _ (by omega), Option.bind_some, if_pos h0, if_pos (by omega), if_pos (by omega), rdB];by_cases s : S.getD (at_ T L[i].f0) false = true
      · have es : qc T S L[i] = S.set (at_ T L[i].f1) true := by unfold qc; rw [if_neg c, if_pos s]
        rw [s, jP.j0, if_pos rfl, if_pos (by omega), if_pos (by omega), AX L i hii, yH _ T (by omega) _ (by omega), Option.bind_some, if_pos (h1 c), if_pos (by omega), if_pos (by omega), Option.bind_some, Int.toNat_natCast, es];exact nx _ (by rw [List.length_set]; exact hS)
      · have es : qc T S L[i] = S := by unfold qc; rw [if_neg c, if_neg s]
        have s' : S.getD (at_ T L[i].f0) false = false := by simpa using s
        rw [s', jf _ rfl, es];exact nx S hS
theorem Bl (L : List S53) (hL : L.length ≤ 1000) (T : List ByteArray) (hT : T.length ≤ 64) (hm : ∀ p ∈ L, p.f0 ∈ T ∧ (p.f1 ≠ (⟨#[]⟩ : ByteArray) → p.f1 ∈ T)) (d : Nat) : ∀ (k t : Nat) (S : List Bool), t + d = T.length → S.length = T.length → 71 + d * (2 * L.length + 2) ≤ k →
    jP.l1 k L T S (t : Int) = some (qg T L d S) := by
  induction d with
  | zero =>
    intro k t S ht hS hk;obtain ⟨k, rfl⟩ : ∃ n, k = n + 1 := ⟨k - 1, by omega⟩;rw [jP.l1, if_neg (by omega)]
    rfl
  | succ d ih =>
    intro k t S ht hS hk;have hk2 : 71 + d * (2 * L.length + 2) + (2 * L.length + 2) ≤ k := by rw [Nat.succ_mul] at hk; omega
    obtain ⟨k, rfl⟩ : ∃ n, k = n + 2 * L.length + 1 + 1 := ⟨k - 2 - 2 * L.length, by omega⟩;obtain ⟨f', h1, h2⟩ := Bj L hL T hT hm (t : Int) k (by omega) L.length 0 S (by omega) hS;rw [show ((0 : Nat) : Int) = 0 from rfl, List.drop_zero, kL (by omega) (by omega), show (t : Int) + 1 = ((t + 1 : Nat) : Int) by omega] at h2;rw [jP.l1, if_pos (by omega), h2];exact ih f' (t + 1) _ (by omega) ((rH T L S).trans hS) (by omega)
def rowP (T : List ByteArray) (L : List S53) (a : Nat) : List Bool := qg T L T.length ((List.replicate T.length false).set a true)
theorem xu (L : List S53) (hL : L.length ≤ 1000) (T : List ByteArray) (hT : T.length ≤ 64) (hm : ∀ p ∈ L, p.f0 ∈ T ∧ (p.f1 ≠ (⟨#[]⟩ : ByteArray) → p.f1 ∈ T)) (a : Nat) (ha : a < T.length) (k : Nat) (hk : 71 + 64 * (2 * L.length + 2) ≤ k) :
    jP.f k L T (a : Int) = some (rowP T L a) := by
  unfold jP.f;have hk2 : 71 + T.length * (2 * L.length + 2) ≤ k := Nat.le_trans (Nat.add_le_add_left (Nat.mul_le_mul_right _ hT) _) hk;rw [if_pos (by omega), Int.toNat_natCast, if_pos (by omega), Option.bind_some, if_pos (by omega), List.length_replicate, if_pos (by omega), Option.bind_some, Int.toNat_natCast];exact Bl L hL T hT hm T.length k 0 _ (by omega) (by rw [List.length_set, List.length_replicate]) hk2
def cnt (S : List Bool) : Nat := (S.filter id).length
theorem xw : ∀ (S : List Bool) (i : Nat), i < S.length → cnt (S.set i true) = if S.getD i false = true then cnt S else cnt S + 1
  | [], _, h => by simp at h
  | b :: S, 0, _ => by cases b <;> simp [cnt]
  | b :: S, i + 1, h => by
    have ih := xw S i (by simpa using h);have e : (b :: S).getD (i + 1) false = S.getD i false := rfl;rw [List.set_cons_succ, e]
    cases b
    · show cnt (S.set i true) = if _ then cnt S else cnt S + 1
      exact ih
    · show cnt (S.set i true) + 1 = if _ then cnt S + 1 else cnt S + 1 + 1
      rw [ih]; split <;> rfl
theorem cnt_le (S : List Bool) : cnt S ≤ S.length := List.length_filter_le _ _
theorem yh : ∀ (S : List Bool) (i : Nat), S.getD i false = true → S.set i true = S
  | [], _, h => by simp at h
  | b :: S, 0, h => by simp at h; subst h; rfl
  | b :: S, i + 1, h => by rw [List.set_cons_succ, yh S i h]
theorem zH (T : List ByteArray) (S : List Bool) (p : S53) (hp : p.f1 ≠ (⟨#[]⟩ : ByteArray) → at_ T p.f1 < S.length) : qc T S p = S ∨ cnt (qc T S p) = cnt S + 1 := by
  unfold qc;by_cases c : p.f1 = (⟨#[]⟩ : ByteArray)
  · rw [if_pos c]; exact .inl rfl
  · rw [if_neg c];by_cases s : S.getD (at_ T p.f0) false = true
    · rw [if_pos s];by_cases q : S.getD (at_ T p.f1) false = true
      · exact .inl (yh S _ q)
      · refine .inr ?_;rw [xw S _ (hp c), if_neg q]
    · rw [if_neg s]; exact .inl rfl
theorem zI (T : List ByteArray) (L : List S53) : ∀ S : List Bool, (∀ p ∈ L, p.f1 ≠ (⟨#[]⟩ : ByteArray) → at_ T p.f1 < S.length) → cnt S ≤ cnt (rC T L S) ∧ (cnt (rC T L S) = cnt S → rC T L S = S ∧ ∀ p ∈ L, qc T S p = S) := by
  induction L with
  | nil => intro S _; exact ⟨Nat.le_refl _, fun _ => ⟨rfl, by simp⟩⟩
  | cons p L ih =>
    intro S h;have hs := zH T S p (h p (List.mem_cons_self ..));have nx := ih (qc T S p) (fun q hq z => by rw [tK]; exact h q (List.mem_cons_of_mem _ hq) z);have e : rC T (p :: L) S = rC T L (qc T S p) := rfl;rw [e];rcases hs with hs | hs
    · rw [hs] at nx ⊢;refine ⟨nx.1, fun z => ⟨(nx.2 z).1, fun q hq => ?_⟩⟩;rcases List.mem_cons.1 hq with y | y
      · subst y; exact hs
      · exact (nx.2 z).2 q y
    · exact ⟨by omega, fun z => by omega⟩
theorem uM (T : List ByteArray) (L : List S53) : ∀ (d : Nat) (S : List Bool), (∀ p ∈ L, p.f1 ≠ (⟨#[]⟩ : ByteArray) → at_ T p.f1 < S.length) → (∀ p ∈ L, qc T (qg T L d S) p = qg T L d S) ∨ cnt S + d ≤ cnt (qg T L d S)
  | 0, S, h => .inr (Nat.le_refl _)
  | d + 1, S, h => by
    have a := zI T L S h;have b := uM T L d (rC T L S) (by rw [rH]; exact h);by_cases c : cnt (rC T L S) = cnt S
    · have e := a.2 c;left;have key : ∀ d, qg T L d S = S := fun d => by
        induction d with
        | zero => rfl
        | succ d ih => rw [qg, e.1]; exact ih
      rw [key]; exact e.2
    · rcases b with b | b
      · exact .inl b
      · exact .inr (by rw [qg]; omega)
section
variable {P : List S53} {T : List ByteArray} {U : List Nat}
theorem wF (h : Inv P T U) : ∀ p ∈ P, p.f0 ∈ T ∧ (p.f1 ≠ (⟨#[]⟩ : ByteArray) → p.f1 ∈ T) := fun p hp => ⟨(h.mem _).2 ⟨p, hp, .inl rfl⟩, fun z => (h.mem _).2 ⟨p, hp, .inr ⟨rfl, z⟩⟩⟩
theorem qW {l : List Bool} {i j : Nat} {v : Bool} (h : i < l.length) : (l.set i v).getD j false = if j = i then v else l.getD j false := by
  simp only [List.getD_eq_getElem?_getD, List.getElem?_set];by_cases e : i = j
  · subst e; simp [h]
  · have : ¬ j = i := fun z => e z.symm;simp [e, this]
theorem yI (h : Inv P T U) (a : Nat) (p : S53) (hp : p ∈ P) (S : List Bool) (hS : S.length = T.length) (hs : ∀ j, S.getD j false = true → M (cl T U) a j) : ∀ j, (qc T S p).getD j false = true → M (cl T U) a j := by
  unfold qc;by_cases c : p.f1 = (⟨#[]⟩ : ByteArray)
  · rw [if_pos c]; exact hs
  · rw [if_neg c];by_cases s : S.getD (at_ T p.f0) false = true
    · rw [if_pos s];intro j hj;rw [qW (by rw [hS]; exact rQ T _ ((wF h p hp).2 c))] at hj;by_cases e : j = at_ T p.f1
      · subst e;have hc := oK h;exact vW hc (hs _ s) (hc.up _ _ ((h.edge _ _).2 (.inr ⟨p, hp, c, rfl, rfl⟩)))
      · rw [if_neg e] at hj; exact hs j hj
    · rw [if_neg s]; exact hs
theorem uN (h : Inv P T U) (a : Nat) : ∀ (L : List S53), (∀ p ∈ L, p ∈ P) → ∀ S : List Bool, S.length = T.length → (∀ j, S.getD j false = true → M (cl T U) a j) → ∀ j, (rC T L S).getD j false = true → M (cl T U) a j
  | [], _, _, _, hs => hs
  | p :: L, hp, S, hS, hs => uN h a L (fun q hq => hp q (List.mem_cons_of_mem _ hq)) (qc T S p) ((tK T S p).trans hS) (yI h a p (hp p (List.mem_cons_self ..)) S hS hs)
theorem tN (h : Inv P T U) (a : Nat) : ∀ (d : Nat) (S : List Bool), S.length = T.length → (∀ j, S.getD j false = true → M (cl T U) a j) → ∀ j, (qg T P d S).getD j false = true → M (cl T U) a j
  | 0, _, _, hs => hs
  | d + 1, S, hS, hs => tN h a d (rC T P S) ((rH T P S).trans hS) (uN h a P (fun _ z => z) S hS hs)
theorem zJ (S : List Bool) (p : S53) (j : Nat) (hj : S.getD j false = true) : (qc T S p).getD j false = true := by
  unfold qc;split
  · exact hj
  · split
    · by_cases e : at_ T p.f1 < S.length
      · rw [qW e]; split
        · rfl
        · exact hj
      · rw [List.set_eq_of_length_le (by omega)]; exact hj
    · exact hj
theorem wG (j : Nat) : ∀ (L : List S53) (S : List Bool), S.getD j false = true → (rC T L S).getD j false = true
  | [], _, hj => hj
  | p :: L, S, hj => wG j L (qc T S p) (zJ S p j hj)
theorem uO (L : List S53) (j : Nat) : ∀ (d : Nat) (S : List Bool), S.getD j false = true → (qg T L d S).getD j false = true
  | 0, _, hj => hj
  | d + 1, S, hj => uO L j d _ (wG j L S hj)
theorem wH (h : Inv P T U) (a j : Nat) (ha : a < T.length) : (rowP T P a).getD j false = true ↔ M (cl T U) a j := by
  have hc := oK h;have hl : ((List.replicate T.length false).set a true).length = T.length := by rw [List.length_set, List.length_replicate]
  have h0 : ∀ j, ((List.replicate T.length false).set a true).getD j false = true → j = a := fun j hj => by
    rw [qW (by rw [List.length_replicate]; exact ha)] at hj;by_cases e : j = a
    · exact e
    · rw [if_neg e] at hj;simp [List.getD_eq_getElem?_getD, List.getElem?_replicate] at hj;split at hj <;> simp at hj
  have ha0 : ((List.replicate T.length false).set a true).getD a false = true := by rw [qW (by rw [List.length_replicate]; exact ha), if_pos rfl]
  constructor
  · exact tN h a T.length _ hl (fun j hj => by rw [h0 j hj]; exact hc.rf a ha) j
  · intro m;have hcnt : cnt ((List.replicate T.length false).set a true) ≥ 1 := by
      rw [xw _ _ (by rw [List.length_replicate]; exact ha)];split
      · rename_i z
        simp [List.getD_eq_getElem?_getD, List.getElem?_replicate] at z;split at z <;> simp at z
      · omega
    rcases uM T P T.length ((List.replicate T.length false).set a true) (fun p hp z => by rw [hl]; exact rQ T _ ((wF h p hp).2 z)) with c | c
    · have key := hc.le (fun x y => (rowP T P a).getD x false = true → (rowP T P a).getD y false = true) (fun x y z u v w => v (u w)) (fun x y e w => by
        rcases (h.edge x y).1 e with e | ⟨p, hp, e1, e2, e3⟩
        · rw [← e.2]; exact w
        · have := c p hp;have hx : at_ T p.f1 < (rowP T P a).length := by unfold rowP; rw [qY, hl]; exact rQ T _ ((wF h p hp).2 e1)
          unfold qc at this;rw [if_neg e1, e2] at this;have w' : (qg T P T.length ((List.replicate T.length false).set a true)).getD x false = true := w;rw [if_pos w', e3] at this;rw [e3] at hx;show (qg T P T.length ((List.replicate T.length false).set a true)).getD y false = true;have hx' : y < (qg T P T.length ((List.replicate T.length false).set a true)).length := hx;rw [← this, qW hx', if_pos rfl]) a j m
      exact key (uO P a T.length _ ha0)
    · have := cnt_le (qg T P T.length ((List.replicate T.length false).set a true));rw [qY, hl] at this;omega
end
def xA (T : List ByteArray) (L : List S53) : List (List Bool) := (List.range T.length).map (rowP T L)
def Cc (L : List S53) : List ByteArray × List (List Bool) × Int × Int :=
  match build L 0 [] Z64 with
  | (e, i, T, U) => if e = 0 then (match turned T (allRows T.length T.length 0 U) L 0 with
    | some j => ([], [], (j : Int), 16)
    | none => (T, xA T L, 0, 0)) else ([], [], (i : Int), e)
theorem yj (T : List ByteArray) (L : List S53) (a : Nat) : (rowP T L a).length = T.length := by unfold rowP; rw [qY, List.length_set, List.length_replicate]
theorem yt (T : List ByteArray) (L : List S53) : (xA T L).length = T.length := by simp [xA]
theorem xB (T : List ByteArray) (L : List S53) (i : Nat) (hi : i < T.length) : kX (xA T L) (i : Int) = rowP T L i := by
  unfold kX xA;rw [Int.toNat_natCast, List.getD_eq_getElem?_getD, List.getElem?_map, List.getElem?_range hi]
  rfl
theorem Dk (L : List S53) (hL : L.length ≤ 1000) (T : List ByteArray) (hT : T.length ≤ 64) (hm : ∀ p ∈ L, p.f0 ∈ T ∧ (p.f1 ≠ (⟨#[]⟩ : ByteArray) → p.f1 ∈ T)) (F : Nat) (hF : 71 + 64 * (2 * L.length + 2) ≤ F) (d : Nat) : ∀ (k a : Nat), a + d = T.length → F + d + 1 ≤ k →
    ∃ k', F ≤ k' ∧ jM.l1 k L T (a : Int) ((List.range a).map (rowP T L)) = jM.l0 k' L T (xA T L) 0 := by
  induction d with
  | zero =>
    intro k a ha hk;obtain ⟨k, rfl⟩ : ∃ n, k = n + 1 := ⟨k - 1, by omega⟩;obtain rfl : a = T.length := by omega
    refine ⟨k, by omega, ?_⟩;rw [jM.l1, if_neg (by omega)]
    rfl
  | succ d ih =>
    intro k a ha hk;obtain ⟨k, rfl⟩ : ∃ n, k = n + 1 := ⟨k - 1, by omega⟩;obtain ⟨k', h1, h2⟩ := ih k (a + 1) (by omega) (by omega);refine ⟨k', h1, ?_⟩;rw [List.range_succ, List.map_append] at h2;rw [jM.l1, if_pos (by omega), xu L hL T hT hm a (by omega) k (by omega), Option.bind_some, if_pos (by rw [List.length_map, List.length_range]; omega), Option.bind_some, kL (by omega) (by omega), show (a : Int) + 1 = ((a + 1 : Nat) : Int) by omega];exact h2
section
variable {P : List S53} {T : List ByteArray} {U : List Nat}
theorem Dl (h : Inv P T U) (hL : P.length ≤ 1000) (d : Nat) : ∀ (k i : Nat), i + d = P.length → 70 + d ≤ k →
    jM.l0 k P T (xA T P) (i : Int) = some (match turned T (cl T U) (P.drop i) i with
      | some j => ([], [], (j : Int), 16)
      | none => (T, xA T P, 0, 0)) := by
  have hT := h.le
  induction d with
  | zero =>
    intro k i hi hk;obtain ⟨k, rfl⟩ : ∃ n, k = n + 1 := ⟨k - 1, by omega⟩;rw [jM.l0, if_neg (by omega), List.drop_eq_nil_of_le (by omega)]
    rfl
  | succ d ih =>
    intro k i hi hk;obtain ⟨k, rfl⟩ : ∃ n, k = n + 1 := ⟨k - 1, by omega⟩;have hii : i < P.length := by omega
    obtain ⟨h0, h1⟩ := wF h P[i] (List.getElem_mem hii);have a0 := rQ T _ h0;have nx := ih k (i + 1) (by omega) (by omega);rw [jM.l0, if_pos (by omega), if_pos (by omega), AX P i hii, List.drop_eq_getElem_cons hii, turned, kL (by omega) (by omega), show (i : Int) + 1 = ((i + 1 : Nat) : Int) by omega];by_cases c : P[i].f1 = (⟨#[]⟩ : ByteArray)
    · rw [if_pos c, if_pos c]; exact nx
    · have a1 := rQ T _ (h1 c);rw [if_neg c, if_neg c, yH _ T (by omega) _ (by omega), Option.bind_some, if_pos (h1 c), if_pos (by omega), if_pos (by rw [yt]; omega), yH _ T (by omega) _ (by omega), Option.bind_some, if_pos h0, if_pos (by omega), xB T P _ a1, yj, if_pos (by omega), rdB];have key := wH h (at_ T P[i].f1) (at_ T P[i].f0) a1;by_cases m : M (cl T U) (at_ T P[i].f1) (at_ T P[i].f0)
      · rw [if_pos (key.2 m), if_pos m]
      · rw [if_neg (fun z => m (key.1 z)), if_neg m]; exact nx
end
theorem xC (L : List S53) (hL : L.length ≤ 1000) (B : Nat) (hB : ∀ p ∈ L, p.f0.size ≤ B ∧ p.f1.size ≤ B) (hB2 : B ≤ 140737488351232) (k : Nat) (hk : 2 * B + 200000 + 200 * L.length ≤ k) : jM.f k L = some (Cc L) := by
  have hF : 2 * B + 5 * L.length + 100 ≤ k - 2 * L.length - 1 := by omega
  obtain ⟨h1, h2⟩ := Dj L hL B hB hB2 (k - 2 * L.length - 1) hF L.length k 0 [] Z64 (by omega) rfl (by simp) EX (by omega);rw [List.drop_zero, show ((0 : Nat) : Int) = 0 from rfl] at h1 h2;unfold jM.f Cc;by_cases hb : (build L 0 [] Z64).1 = 0
  · obtain ⟨e1, k', e2, e3⟩ := h2 hb;have inv := wo L [] 0 [] Z64 xk hb;rw [List.nil_append] at inv;rw [e3];generalize hr : build L 0 [] Z64 = r at hb e1 inv;obtain ⟨c, i, T, U⟩ := r;dsimp only at hb e1 inv ⊢;rw [if_pos hb, ← e1];obtain ⟨k2, q1, q2⟩ := Dk L hL T inv.le (wF inv) (71 + 64 * (2 * L.length + 2)) (Nat.le_refl _) T.length k' 0 (by omega) (by have := inv.le; omega);have q3 := Dl inv hL L.length k2 0 (by omega) (by omega);rw [show ((0 : Nat) : Int) = 0 from rfl] at q2 q3;rw [List.drop_zero] at q3;exact q2.trans q3
  · rw [h1 hb];generalize build L 0 [] Z64 = r at hb;obtain ⟨c, i, T, U⟩ := r;dsimp only at hb ⊢;rw [if_neg hb]
def Mat (n : Nat) (m : List (List Bool)) (le : Nat → Nat → Prop) : Prop := m.length = n ∧ (∀ i, i < n → (kX m (i : Int)).length = n) ∧ ∀ i j, i < n → j < n → (oh false (kX m (i : Int)) (j : Int) = true ↔ le i j)
section
variable {T : List ByteArray} {n : Nat} {m : List (List Bool)} {le : Nat → Nat → Prop}
theorem Ii (hM : Mat n m le) (hT : T.length = n) (h64 : n ≤ 64) (a b c : Nat) (ha : a < n) (hb : b < n) (hc : c < n) (f : Nat) (d : Nat) : ∀ (j : Nat) (fl : Bool), j + d = n →
    ((fl = true ∧ ∀ i, j ≤ i → i < n → le a i → le b i → le c i) → kC.l0 (f + d + 1) (a : Int) (b : Int) T m (c : Int) fl (j : Int) = some (c : Int)) ∧
    (¬ (fl = true ∧ ∀ i, j ≤ i → i < n → le a i → le b i → le c i) → kC.l0 (f + d + 1) (a : Int) (b : Int) T m (c : Int) fl (j : Int) = kC.l1 f (a : Int) (b : Int) T m ((c + 1 : Nat) : Int)) := by
  obtain ⟨ml, mr, me⟩ := hM
  induction d with
  | zero =>
    intro j fl hj;rw [show f + 0 + 1 = f + 1 from rfl, kC.l0, if_neg (by omega), kL (by omega) (by omega)];constructor
    · rintro ⟨h, _⟩; rw [if_pos h]
    · intro h; rw [if_neg (fun z => h ⟨z, fun i h1 h2 => by omega⟩)]; rfl
  | succ d ih =>
    intro j fl hj;have hj' : j < n := by omega
    have la := mr a ha;have lb := mr b hb;have lc := mr c hc;have lj := mr j hj';have nx : ∀ g : Bool, (g = true ↔ (fl = true ∧ (le a j → le b j → le c j))) →
      ((fl = true ∧ ∀ i, j ≤ i → i < n → le a i → le b i → le c i) → kC.l0 (f + d + 1) (a : Int) (b : Int) T m (c : Int) g (wrap64 ((j : Int) + 1)) = some (c : Int)) ∧
      (¬ (fl = true ∧ ∀ i, j ≤ i → i < n → le a i → le b i → le c i) → kC.l0 (f + d + 1) (a : Int) (b : Int) T m (c : Int) g (wrap64 ((j : Int) + 1)) = kC.l1 f (a : Int) (b : Int) T m ((c + 1 : Nat) : Int)) := fun g hg => by
      rw [kL (by omega) (by omega), show (j : Int) + 1 = ((j + 1 : Nat) : Int) by omega];have key : (g = true ∧ ∀ i, j + 1 ≤ i → i < n → le a i → le b i → le c i) ↔ (fl = true ∧ ∀ i, j ≤ i → i < n → le a i → le b i → le c i) := by
        rw [hg];constructor
        · rintro ⟨⟨h1, h2⟩, h3⟩;refine ⟨h1, fun i q1 q2 => ?_⟩;by_cases e : i = j
          · subst e; exact h2
          · exact h3 i (by omega) q2
        · rintro ⟨h1, h2⟩;exact ⟨⟨h1, h2 j (Nat.le_refl _) hj'⟩, fun i q1 q2 => h2 i (by omega) q2⟩
      have := ih (j + 1) g (by omega);rw [key] at this;exact this
    rw [show f + (d + 1) + 1 = (f + d + 1) + 1 by omega, kC.l0, if_pos (by omega), if_pos (by omega), if_pos (by omega), if_pos (by omega), if_pos (by omega)];by_cases h1 : le a j
    · rw [if_pos ((me _ _ (by omega) (by omega)).2 h1), if_pos (by omega), if_pos (by omega), if_pos (by omega)];by_cases h2 : le b j
      · rw [if_pos ((me _ _ (by omega) (by omega)).2 h2), if_pos (by omega), if_pos (by omega), if_pos (by omega)];by_cases h3 : le c j
        · rw [if_pos ((me _ _ (by omega) (by omega)).2 h3)]; exact nx fl ⟨fun z => ⟨z, fun _ _ => h3⟩, fun z => z.1⟩
        · rw [if_neg (fun z => h3 ((me _ _ (by omega) (by omega)).1 z))]; exact nx false ⟨fun z => (by cases z), fun z => absurd (z.2 h1 h2) h3⟩
      · rw [if_neg (fun z => h2 ((me _ _ (by omega) (by omega)).1 z))]; exact nx fl ⟨fun z => ⟨z, fun _ q => absurd q h2⟩, fun z => z.1⟩
    · rw [if_neg (fun z => h1 ((me _ _ (by omega) (by omega)).1 z))]; exact nx fl ⟨fun z => ⟨z, fun q _ => absurd q h1⟩, fun z => z.1⟩
theorem Ij (hM : Mat n m le) (po : Po n le) (hT : T.length = n) (h64 : n ≤ 64) (a b : Nat) (ha : a < n) (hb : b < n) (d : Nat) : ∀ (k c : Nat), c + d = n → 1 + d * 66 ≤ k → (∀ i, i < c → ¬ lub le a b i) →
    kC.l1 k (a : Int) (b : Int) T m (c : Int) = some (jn n le a b) := by
  have hM' := hM;obtain ⟨ml, mr, me⟩ := hM'
  induction d with
  | zero =>
    intro k c hc hk hno;obtain ⟨k, rfl⟩ : ∃ q, k = q + 1 := ⟨k - 1, by omega⟩;rw [kC.l1, if_neg (by omega), rV fun i hi => hno i (by have := (po.bd hi.1); omega) hi]
  | succ d ih =>
    intro k c hc hk hno;obtain ⟨k, rfl⟩ : ∃ q, k = q + n + 1 + 1 := ⟨k - n - 2, by omega⟩;have hc' : c < n := by omega
    have la := mr a ha;have lb := mr b hb;have lc := mr c hc';have nx : ∀ k', 1 + d * 66 ≤ k' → ¬ lub le a b c → kC.l1 k' (a : Int) (b : Int) T m ((c + 1 : Nat) : Int) = some (jn n le a b) := fun k' hk' h =>
      ih k' (c + 1) (by omega) hk' (fun i hi z => by
        by_cases e : i = c
        · subst e; exact h z
        · exact hno i (by omega) z)
    rw [kC.l1, if_pos (by omega), if_pos (by omega), if_pos (by omega), if_pos (by omega), if_pos (by omega)];by_cases h1 : le a c
    · by_cases h2 : le b c
      · rw [if_pos ((me _ _ (by omega) (by omega)).2 h1), if_pos (by omega), if_pos (by omega), if_pos (by omega), if_pos ((me _ _ (by omega) (by omega)).2 h2)];obtain ⟨t1, t2⟩ := Ii hM hT h64 a b c ha hb hc' k n 0 true (by omega);rw [show ((0 : Nat) : Int) = 0 from rfl] at t1 t2;by_cases e : ∀ i, i < n → le a i → le b i → le c i
        · rw [t1 ⟨rfl, fun i _ q => e i q⟩, tH po ⟨h1, h2, fun j x y => e j (by have := po.bd x; omega) x y⟩]
        · rw [t2 (fun z => e (fun i q => z.2 i (Nat.zero_le _) q))];exact nx k (by omega) (fun z => e (fun i _ => z.2.2 i))
      · rw [if_pos ((me _ _ (by omega) (by omega)).2 h1), if_pos (by omega), if_pos (by omega), if_pos (by omega), if_neg (fun z => h2 ((me _ _ (by omega) (by omega)).1 z)), kL (by omega) (by omega), show (c : Int) + 1 = ((c + 1 : Nat) : Int) by omega];exact nx _ (by omega) (fun z => h2 z.2.1)
    · rw [if_neg (fun z => h1 ((me _ _ (by omega) (by omega)).1 z)), kL (by omega) (by omega), show (c : Int) + 1 = ((c + 1 : Nat) : Int) by omega];exact nx _ (by omega) (fun z => h1 z.1)
theorem LK (hM : Mat n m le) (po : Po n le) (hT : T.length = n) (h64 : n ≤ 64) (a b : Nat) (ha : a < n) (hb : b < n) (k : Nat) (hk : 4300 ≤ k) :
    kC.f k T m (a : Int) (b : Int) = some (jn n le a b) :=
  Ij hM po hT h64 a b ha hb n k 0 (by omega) (by omega) (fun i hi => by omega)
theorem Ik (hM : Mat n m le) (hT : T.length = n) (h64 : n ≤ 64) (a b c : Nat) (ha : a < n) (hb : b < n) (hc : c < n) (f : Nat) (d : Nat) : ∀ (j : Nat) (fl : Bool), j + d = n →
    ((fl = true ∧ ∀ i, j ≤ i → i < n → le i a → le i b → le i c) → kD.l0 (f + d + 1) (a : Int) (b : Int) T m (c : Int) fl (j : Int) = some (c : Int)) ∧
    (¬ (fl = true ∧ ∀ i, j ≤ i → i < n → le i a → le i b → le i c) → kD.l0 (f + d + 1) (a : Int) (b : Int) T m (c : Int) fl (j : Int) = kD.l1 f (a : Int) (b : Int) T m ((c + 1 : Nat) : Int)) := by
  obtain ⟨ml, mr, me⟩ := hM
  induction d with
  | zero =>
    intro j fl hj;rw [show f + 0 + 1 = f + 1 from rfl, kD.l0, if_neg (by omega), kL (by omega) (by omega)];constructor
    · rintro ⟨h, _⟩; rw [if_pos h]
    · intro h; rw [if_neg (fun z => h ⟨z, fun i h1 h2 => by omega⟩)]; rfl
  | succ d ih =>
    intro j fl hj;have hj' : j < n := by omega
    have la := mr a ha;have lb := mr b hb;have lc := mr c hc;have lj := mr j hj';have nx : ∀ g : Bool, (g = true ↔ (fl = true ∧ (le j a → le j b → le j c))) →
      ((fl = true ∧ ∀ i, j ≤ i → i < n → le i a → le i b → le i c) → kD.l0 (f + d + 1) (a : Int) (b : Int) T m (c : Int) g (wrap64 ((j : Int) + 1)) = some (c : Int)) ∧
      (¬ (fl = true ∧ ∀ i, j ≤ i → i < n → le i a → le i b → le i c) → kD.l0 (f + d + 1) (a : Int) (b : Int) T m (c : Int) g (wrap64 ((j : Int) + 1)) = kD.l1 f (a : Int) (b : Int) T m ((c + 1 : Nat) : Int)) := fun g hg => by
      rw [kL (by omega) (by omega), show (j : Int) + 1 = ((j + 1 : Nat) : Int) by omega];have key : (g = true ∧ ∀ i, j + 1 ≤ i → i < n → le i a → le i b → le i c) ↔ (fl = true ∧ ∀ i, j ≤ i → i < n → le i a → le i b → le i c) := by
        rw [hg];constructor
        · rintro ⟨⟨h1, h2⟩, h3⟩;refine ⟨h1, fun i q1 q2 => ?_⟩;by_cases e : i = j
          · subst e; exact h2
          · exact h3 i (by omega) q2
        · rintro ⟨h1, h2⟩;exact ⟨⟨h1, h2 j (Nat.le_refl _) hj'⟩, fun i q1 q2 => h2 i (by omega) q2⟩
      have := ih (j + 1) g (by omega);rw [key] at this;exact this
    rw [show f + (d + 1) + 1 = (f + d + 1) + 1 by omega, kD.l0, if_pos (by omega), if_pos (by omega), if_pos (by omega), if_pos (by omega), if_pos (by omega)];by_cases h1 : le j a
    · rw [if_pos ((me _ _ (by omega) (by omega)).2 h1), if_pos (by omega), if_pos (by omega)];by_cases h2 : le j b
      · rw [if_pos ((me _ _ (by omega) (by omega)).2 h2), if_pos (by omega), if_pos (by omega)];by_cases h3 : le j c
        · rw [if_pos ((me _ _ (by omega) (by omega)).2 h3)]; exact nx fl ⟨fun z => ⟨z, fun _ _ => h3⟩, fun z => z.1⟩
        · rw [if_neg (fun z => h3 ((me _ _ (by omega) (by omega)).1 z))]; exact nx false ⟨fun z => (by cases z), fun z => absurd (z.2 h1 h2) h3⟩
      · rw [if_neg (fun z => h2 ((me _ _ (by omega) (by omega)).1 z))]; exact nx fl ⟨fun z => ⟨z, fun _ q => absurd q h2⟩, fun z => z.1⟩
    · rw [if_neg (fun z => h1 ((me _ _ (by omega) (by omega)).1 z))]; exact nx fl ⟨fun z => ⟨z, fun q _ => absurd q h1⟩, fun z => z.1⟩
theorem Il (hM : Mat n m le) (po : Po n le) (hT : T.length = n) (h64 : n ≤ 64) (a b : Nat) (ha : a < n) (hb : b < n) (d : Nat) : ∀ (k c : Nat), c + d = n → 1 + d * 66 ≤ k → (∀ i, i < c → ¬ lub (flp le) a b i) →
    kD.l1 k (a : Int) (b : Int) T m (c : Int) = some (jn n (flp le) a b) := by
  have hM' := hM;obtain ⟨ml, mr, me⟩ := hM'
  induction d with
  | zero =>
    intro k c hc hk hno;obtain ⟨k, rfl⟩ : ∃ q, k = q + 1 := ⟨k - 1, by omega⟩;rw [kD.l1, if_neg (by omega), rV fun i hi => hno i (by have := (po.bd hi.1); omega) hi]
  | succ d ih =>
    intro k c hc hk hno;obtain ⟨k, rfl⟩ : ∃ q, k = q + n + 1 + 1 := ⟨k - n - 2, by omega⟩;have hc' : c < n := by omega
    have la := mr a ha;have lb := mr b hb;have lc := mr c hc';have nx : ∀ k', 1 + d * 66 ≤ k' → ¬ lub (flp le) a b c → kD.l1 k' (a : Int) (b : Int) T m ((c + 1 : Nat) : Int) = some (jn n (flp le) a b) := fun k' hk' h =>
      ih k' (c + 1) (by omega) hk' (fun i hi z => by
        by_cases e : i = c
        · subst e; exact h z
        · exact hno i (by omega) z)
    rw [kD.l1, if_pos (by omega), if_pos (by omega), if_pos (by omega), if_pos (by omega), if_pos (by omega)];by_cases h1 : le c a
    · by_cases h2 : le c b
      · rw [if_pos ((me _ _ (by omega) (by omega)).2 h1), if_pos (by omega), if_pos (by omega), if_pos ((me _ _ (by omega) (by omega)).2 h2)];obtain ⟨t1, t2⟩ := Ik hM hT h64 a b c ha hb hc' k n 0 true (by omega);rw [show ((0 : Nat) : Int) = 0 from rfl] at t1 t2;by_cases e : ∀ i, i < n → le i a → le i b → le i c
        · rw [t1 ⟨rfl, fun i _ q => e i q⟩, tH po.flp ⟨h1, h2, fun j x y => e j (by have := po.bd x; omega) x y⟩]
        · rw [t2 (fun z => e (fun i q => z.2 i (Nat.zero_le _) q))];exact nx k (by omega) (fun z => e (fun i _ => z.2.2 i))
      · rw [if_pos ((me _ _ (by omega) (by omega)).2 h1), if_pos (by omega), if_pos (by omega), if_neg (fun z => h2 ((me _ _ (by omega) (by omega)).1 z)), kL (by omega) (by omega), show (c : Int) + 1 = ((c + 1 : Nat) : Int) by omega];exact nx _ (by omega) (fun z => h2 z.2.1)
    · rw [if_neg (fun z => h1 ((me _ _ (by omega) (by omega)).1 z)), kL (by omega) (by omega), show (c : Int) + 1 = ((c + 1 : Nat) : Int) by omega];exact nx _ (by omega) (fun z => h1 z.1)
theorem LM (hM : Mat n m le) (po : Po n le) (hT : T.length = n) (h64 : n ≤ 64) (a b : Nat) (ha : a < n) (hb : b < n) (k : Nat) (hk : 4300 ≤ k) :
    kD.f k T m (a : Int) (b : Int) = some (jn n (flp le) a b) :=
  Il hM po hT h64 a b ha hb n k 0 (by omega) (by omega) (fun i hi => by omega)
def tb (n : Nat) (J : Nat → Nat → Int) : List (List Int) := (List.range n).map fun a => (List.range n).map fun b => J a b
theorem wI (n : Nat) (J : Nat → Nat → Int) : (tb n J).length = n := by simp [tb]
theorem Ce (n : Nat) (J : Nat → Nat → Int) (a : Nat) (ha : a < n) : lC (tb n J) (a : Int) = (List.range n).map fun b => J a b := by
  unfold lC tb;rw [Int.toNat_natCast, List.getD_eq_getElem?_getD, List.getElem?_map, List.getElem?_range ha]
  rfl
theorem yJ (n : Nat) (J : Nat → Nat → Int) (a : Nat) (ha : a < n) : (lC (tb n J) (a : Int)).length = n := by rw [Ce n J a ha]; simp
theorem wJ (n : Nat) (J : Nat → Nat → Int) (a b : Nat) (ha : a < n) (hb : b < n) : rd (lC (tb n J) (a : Int)) (b : Int) = J a b := by
  rw [Ce n J a ha];unfold rd;rw [Int.toNat_natCast, List.getD_eq_getElem?_getD, List.getElem?_map, List.getElem?_range hb]
  rfl
theorem Io (hM : Mat n m le) (po : Po n le) (hT : T.length = n) (h64 : n ≤ 64) (F : Nat) (hF : 4300 ≤ F) (a : Nat) (ha : a < n) (A B : List (List Int)) (hA : A.length = a) (hB : B.length = a) (d : Nat) : ∀ (k b : Nat), b + d = n → F + d + 1 ≤ k →
    ∃ k', F ≤ k' ∧ jE.l0 k T m (a : Int) A B ((List.range b).map fun b => jn n le a b) ((List.range b).map fun b => jn n (flp le) a b) (b : Int) = jE.l6 k' T m ((a + 1 : Nat) : Int) (A ++ [(List.range n).map fun b => jn n le a b]) (B ++ [(List.range n).map fun b => jn n (flp le) a b]) := by
  induction d with
  | zero =>
    intro k b hb hk;obtain ⟨k, rfl⟩ : ∃ q, k = q + 1 := ⟨k - 1, by omega⟩;obtain rfl : b = n := by omega
    refine ⟨k, by omega, ?_⟩;rw [jE.l0, if_neg (by omega), if_pos (by omega), Option.bind_some, if_pos (by omega), Option.bind_some, kL (by omega) (by omega)]
    rfl
  | succ d ih =>
    intro k b hb hk;obtain ⟨k, rfl⟩ : ∃ q, k = q + 1 := ⟨k - 1, by omega⟩;obtain ⟨k', h1, h2⟩ := ih k (b + 1) (by omega) (by omega);refine ⟨k', h1, ?_⟩;rw [List.range_succ, List.map_append, List.map_append] at h2;rw [jE.l0, if_pos (by omega), LK hM po hT h64 a b ha (by omega) k (by omega), Option.bind_some, if_pos (by rw [List.length_map, List.length_range]; omega), Option.bind_some, LM hM po hT h64 a b ha (by omega) k (by omega), Option.bind_some, if_pos (by rw [List.length_map, List.length_range]; omega), Option.bind_some, kL (by omega) (by omega), show (b : Int) + 1 = ((b + 1 : Nat) : Int) by omega];exact h2
theorem Ip (hM : Mat n m le) (po : Po n le) (hT : T.length = n) (h64 : n ≤ 64) (F : Nat) (hF : 4300 ≤ F) (d : Nat) : ∀ (k a : Nat), a + d = n → F + d * 70 + 1 ≤ k →
    ∃ k', F ≤ k' ∧ jE.l6 k T m (a : Int) ((List.range a).map fun a => (List.range n).map fun b => jn n le a b) ((List.range a).map fun a => (List.range n).map fun b => jn n (flp le) a b) = jE.l5 k' T m (tb n (jn n le)) (tb n (jn n (flp le))) 0 := by
  induction d with
  | zero =>
    intro k a ha hk;obtain ⟨k, rfl⟩ : ∃ q, k = q + 1 := ⟨k - 1, by omega⟩;obtain rfl : a = n := by omega
    exact ⟨k, by omega, by rw [jE.l6, if_neg (by omega)]; rfl⟩
  | succ d ih =>
    intro k a ha hk;obtain ⟨k, rfl⟩ : ∃ q, k = q + 1 := ⟨k - 1, by omega⟩;obtain ⟨k1, h1, h2⟩ := Io hM po hT h64 (F + d * 70 + 1) (by omega) a (by omega) ((List.range a).map fun a => (List.range n).map fun b => jn n le a b) ((List.range a).map fun a => (List.range n).map fun b => jn n (flp le) a b) (by simp) (by simp) n k 0 (by omega) (by omega);obtain ⟨k2, h3, h4⟩ := ih k1 (a + 1) (by omega) h1;refine ⟨k2, h3, ?_⟩;rw [show ((0 : Nat) : Int) = 0 from rfl] at h2;rw [List.range_succ, List.map_append, List.map_append] at h4;rw [jE.l6, if_pos (by omega)];exact h2.trans h4
theorem Iq (hT : T.length = n) (h64 : n ≤ 64) (J K : Nat → Nat → Int) (gJ : ∀ x y, J x y = -1 ∨ 0 ≤ J x y) (gK : ∀ x y, K x y = -1 ∨ 0 ≤ K x y) (a : Nat) (ha : a < n) (f : Nat) (d : Nat) : ∀ b, b + d = n →
    jE.l1 (f + d + 1) T m (tb n J) (tb n K) (a : Int) (b : Int) = match wRow J K a d b with
      | some b' => some ([], [], [], [], (a : Int), (b' : Int), 17)
      | none => jE.l5 f T m (tb n J) (tb n K) ((a + 1 : Nat) : Int) := by
  have l1 := wI n J;have l2 := wI n K;have l3 := yJ n J a ha;have l4 := yJ n K a ha
  induction d with
  | zero =>
    intro b hb;rw [show f + 0 + 1 = f + 1 from rfl, jE.l1, if_neg (by omega), kL (by omega) (by omega)]
    rfl
  | succ d ih =>
    intro b hb;rw [show f + (d + 1) + 1 = (f + d + 1) + 1 by omega, jE.l1, if_pos (by omega), if_pos (by omega), if_pos (by omega), if_pos (by omega), if_pos (by omega), wJ n J a b ha (by omega)];by_cases c1 : J a b = -1
    · rw [if_pos (by omega), wRow, if_pos (.inl c1)]
    · have := gJ a b;rw [if_neg (by omega), if_pos (by omega), if_pos (by omega), wJ n K a b ha (by omega)];by_cases c2 : K a b = -1
      · rw [if_pos (by omega), wRow, if_pos (.inr c2)]
      · have := gK a b;have e : wRow J K a (d + 1) b = wRow J K a d (b + 1) := by rw [wRow, if_neg (by intro z; rcases z with z | z; exact c1 z; exact c2 z)]
        rw [if_neg (by omega), kL (by omega) (by omega), show (b : Int) + 1 = ((b + 1 : Nat) : Int) by omega, ih (b + 1) (by omega), e]
theorem Ir (hT : T.length = n) (h64 : n ≤ 64) (J K : Nat → Nat → Int) (gJ : ∀ x y, J x y = -1 ∨ 0 ≤ J x y) (gK : ∀ x y, K x y = -1 ∨ 0 ≤ K x y) (F : Nat) (d : Nat) : ∀ k a, a + d = n → F + 2 + d * 70 ≤ k →
    (∀ x y, vF J K n d a = some (x, y) → jE.l5 k T m (tb n J) (tb n K) (a : Int) = some ([], [], [], [], (x : Int), (y : Int), 17)) ∧
    (vF J K n d a = none → ∃ k', F ≤ k' ∧ jE.l5 k T m (tb n J) (tb n K) (a : Int) = jE.l4 k' T m (tb n J) (tb n K) 0) := by
  induction d with
  | zero =>
    intro k a ha hk;obtain ⟨k, rfl⟩ : ∃ n, k = n + 1 := ⟨k - 1, by omega⟩;refine ⟨fun x y h => (by cases h), fun _ => ⟨k, by omega, ?_⟩⟩;rw [jE.l5, if_neg (by omega)]
  | succ d ih =>
    intro k a ha hk;obtain ⟨k, rfl⟩ : ∃ q, k = q + (n - a) + 1 + 1 := ⟨k - 2 - (n - a), by omega⟩;rw [jE.l5, if_pos (by omega), Iq hT h64 J K gJ gK a (by omega) k (n - a) a (by omega), vF]
    cases wRow J K a (n - a) a with
    | some b => exact ⟨fun x y h => (by cases h; rfl), fun h => (by cases h)⟩
    | none => exact ih k (a + 1) (by omega) (by omega)
theorem Iu (hT : T.length = n) (h64 : n ≤ 64) (J K : Nat → Nat → Int) (rJ : ∀ x y, x < n → y < n → 0 ≤ J x y ∧ J x y < n) (rK : ∀ x y, x < n → y < n → 0 ≤ K x y ∧ K x y < n) (a b : Nat) (ha : a < n) (hb : b < n) (f : Nat) (d : Nat) : ∀ c, c + d = n →
    jE.l2 (f + d + 1) T m (tb n J) (tb n K) (a : Int) (b : Int) (c : Int) = if yG J K a b d c = true then some ([], [], [], [], (a : Int), (b : Int), 17) else jE.l3 f T m (tb n J) (tb n K) (a : Int) ((b + 1 : Nat) : Int) := by
  have l1 := wI n J;have l2 := wI n K;have l3 := yJ n K a ha;have l4 := yJ n J b hb
  induction d with
  | zero =>
    intro c hc;rw [show f + 0 + 1 = f + 1 from rfl, jE.l2, if_neg (by omega), kL (by omega) (by omega), yG, if_neg (by decide)]
    rfl
  | succ d ih =>
    intro c hc;have hc' : c < n := by omega
    obtain ⟨p1, p2⟩ := rJ b c hb hc';obtain ⟨q1, q2⟩ := rK a b ha hb;obtain ⟨s1, s2⟩ := rK a c ha hc';have j1 := wJ n J b c hb hc';have k1 := wJ n K a b ha hb;have k2 := wJ n K a c ha hc';have e0 : ((J b c).toNat : Int) = J b c := Int.toNat_of_nonneg p1;have e1 : ((K a b).toNat : Int) = K a b := Int.toNat_of_nonneg q1;have e2 : ((K a c).toNat : Int) = K a c := Int.toNat_of_nonneg s1;have l5 := yJ n J (K a b).toNat (by omega);have t1 := wJ n K a (J b c).toNat ha (by omega);have t2 := wJ n J (K a b).toNat (K a c).toNat (by omega) (by omega);rw [e0] at t1;rw [e1] at l5;rw [e1, e2] at t2;rw [show f + (d + 1) + 1 = (f + d + 1) + 1 by omega, jE.l2, j1, k1, k2, t1, t2, if_pos (by omega), if_pos (by omega), if_pos (by omega), if_pos (by omega), if_pos (by omega), if_pos (by omega), if_pos (by omega), if_pos (by omega), if_pos (by omega), if_pos (by omega), if_pos (by omega), if_pos (by omega), if_pos (by omega), if_pos (by omega), if_pos (by omega), kL (by omega) (by omega), show (c : Int) + 1 = ((c + 1 : Nat) : Int) by omega, ih (c + 1) (by omega), yG];by_cases e : K a (J b c).toNat = J (K a b).toNat (K a c).toNat
    · rw [if_pos e, if_pos e]
    · rw [if_neg e, if_neg e, if_pos rfl]
theorem Iw (hT : T.length = n) (h64 : n ≤ 64) (J K : Nat → Nat → Int) (rJ : ∀ x y, x < n → y < n → 0 ≤ J x y ∧ J x y < n) (rK : ∀ x y, x < n → y < n → 0 ≤ K x y ∧ K x y < n) (a : Nat) (ha : a < n) (F : Nat) (d : Nat) : ∀ k b, b + d = n → F + d * 70 + 1 ≤ k →
    ∃ f, F ≤ f ∧ jE.l3 k T m (tb n J) (tb n K) (a : Int) (b : Int) = match zy J K n a d b with
      | some y => some ([], [], [], [], (a : Int), (y : Int), 17)
      | none => jE.l4 f T m (tb n J) (tb n K) ((a + 1 : Nat) : Int) := by
  induction d with
  | zero =>
    intro k b hb hk;obtain ⟨k, rfl⟩ : ∃ n, k = n + 1 := ⟨k - 1, by omega⟩;refine ⟨k, by omega, ?_⟩;rw [jE.l3, if_neg (by omega), kL (by omega) (by omega)]
    rfl
  | succ d ih =>
    intro k b hb hk;obtain ⟨k, rfl⟩ : ∃ q, k = q + n + 1 + 1 := ⟨k - 2 - n, by omega⟩;obtain ⟨f, h1, h2⟩ := ih k (b + 1) (by omega) (by omega);refine ⟨f, h1, ?_⟩;have e0 := Iu (m := m) hT h64 J K rJ rK a b ha (by omega) k n 0 (by omega);rw [show ((0 : Nat) : Int) = 0 from rfl] at e0;rw [jE.l3, if_pos (by omega), e0, zy];by_cases e : yG J K a b n 0 = true
    · rw [if_pos e, if_pos e]
    · rw [if_neg e, if_neg e]; exact h2
theorem Iy (hT : T.length = n) (h64 : n ≤ 64) (J K : Nat → Nat → Int) (rJ : ∀ x y, x < n → y < n → 0 ≤ J x y ∧ J x y < n) (rK : ∀ x y, x < n → y < n → 0 ≤ K x y ∧ K x y < n) (d : Nat) : ∀ k a, a + d = n → 1 + d * 4600 ≤ k →
    jE.l4 k T m (tb n J) (tb n K) (a : Int) = some (match x9 J K n d a with
      | some (x, y) => ([], [], [], [], (x : Int), (y : Int), 17)
      | none => (T, m, tb n J, tb n K, 0, 0, 0)) := by
  induction d with
  | zero =>
    intro k a ha hk;obtain ⟨k, rfl⟩ : ∃ n, k = n + 1 := ⟨k - 1, by omega⟩;rw [jE.l4, if_neg (by omega)]
    rfl
  | succ d ih =>
    intro k a ha hk;obtain ⟨k, rfl⟩ : ∃ q, k = q + 1 := ⟨k - 1, by omega⟩;obtain ⟨f, h1, h2⟩ := Iw (m := m) hT h64 J K rJ rK a (by omega) (1 + d * 4600) n k 0 (by omega) (by omega);rw [show ((0 : Nat) : Int) = 0 from rfl] at h2;rw [jE.l4, if_pos (by omega), h2, x9]
    cases zy J K n a n 0 with
    | some b => rfl
    | none => exact ih f (a + 1) (by omega) h1
end
section
variable {P : List S53} {T : List ByteArray} {U : List Nat}
theorem Af (h : Inv P T U) : Mat T.length (xA T P) (M (cl T U)) := by
  refine ⟨yt T P, fun i hi => by rw [xB T P i hi, yj], fun i j hi hj => ?_⟩;rw [xB T P i hi, rdB];exact wH h i j hi
theorem zK {n : Nat} {le : Nat → Nat → Prop} (po : Po n le) (x y : Nat) : jn n le x y = -1 ∨ 0 ≤ jn n le x y := by
  rcases Ba po x y with e | ⟨i, _, e, _⟩
  · exact .inl e
  · exact .inr (by rw [e]; omega)
theorem tV (h : Inv P T U) (po : Po T.length (M (cl T U))) (k : Nat) (hk : 400000 ≤ k) :
    jE.f k T (xA T P) = some (if T.length = 0 then (([], [], [], [], 0, 0, 1) : List ByteArray × (List (List Bool)) × (List (List Int)) × (List (List Int)) × Int × Int × Int) else match vF (jj T U) (kk T U) T.length T.length 0 with
      | some (x, y) => ([], [], [], [], (x : Int), (y : Int), 17)
      | none => match x9 (jj T U) (kk T U) T.length T.length 0 with
        | some (x, y) => ([], [], [], [], (x : Int), (y : Int), 17)
        | none => (T, xA T P, tb T.length (jj T U), tb T.length (kk T U), 0, 0, 0)) := by
  have hT := h.le;have hM := Af h;unfold jE.f;by_cases h0 : T.length = 0
  · rw [if_pos (by omega), if_pos h0]
  · rw [if_neg (by omega), if_neg h0];obtain ⟨k1, e1, e2⟩ := Ip hM po rfl hT 300000 (by omega) T.length k 0 (by omega) (by omega);obtain ⟨e3, e4⟩ := Ir (m := xA T P) rfl hT (jj T U) (kk T U) (zK po) (zK po.flp) 295000 T.length k1 0 (by omega) (by omega);refine e2.trans ?_
    cases hw : vF (jj T U) (kk T U) T.length T.length 0 with
    | some p => obtain ⟨x, y⟩ := p; exact e3 x y hw
    | none =>
      obtain ⟨k2, e5, e6⟩ := e4 hw;refine e6.trans ?_;have rJ : ∀ x y, x < T.length → y < T.length → 0 ≤ jj T U x y ∧ jj T U x y < (T.length : Int) := fun x y hx hy => by
        obtain ⟨⟨i, a1, a2, _⟩, _⟩ := rg h po hw x y hx hy;rw [a2]; omega
      have rK : ∀ x y, x < T.length → y < T.length → 0 ≤ kk T U x y ∧ kk T U x y < (T.length : Int) := fun x y hx hy => by
        obtain ⟨_, ⟨i, a1, a2, _⟩⟩ := rg h po hw x y hx hy;rw [a2]; omega
      have e7 := Iy (m := xA T P) rfl hT (jj T U) (kk T U) rJ rK T.length k2 0 (by omega) (by omega);rw [show ((0 : Nat) : Int) = 0 from rfl] at e7;refine e7.trans ?_
      cases x9 (jj T U) (kk T U) T.length T.length 0 with
      | some p => obtain ⟨x, y⟩ := p; rfl
      | none => rfl
theorem wK (k : Nat) : jE.f k [] [] = some ([], [], [], [], 0, 0, 1) := rfl
theorem Bo {L : List S53} (hb : (build L 0 [] Z64).1 ≠ 0) : (Cc L).1 = [] ∧ (Cc L).2.1 = [] ∧ (Cc L).2.2.2 = (newP L).2.2 := by
  unfold Cc newP;generalize build L 0 [] Z64 = r at hb;obtain ⟨c, i, T, U⟩ := r;dsimp only at hb ⊢;rw [if_neg hb, if_neg hb];exact ⟨rfl, rfl, rfl⟩
theorem zL {L : List S53} (hb : (build L 0 [] Z64).1 = 0) : ∃ T U, Inv L T U ∧ (newP L = match turned T (cl T U) L 0 with | some j => (none, (j : Int), 16) | none => (some (oI T U), 0, 0)) ∧ Cc L = match turned T (cl T U) L 0 with | some j => ([], [], (j : Int), 16) | none => (T, xA T L, 0, 0) := by
  have inv := wo L [] 0 [] Z64 xk hb;rw [List.nil_append] at inv;unfold Cc newP;generalize build L 0 [] Z64 = r at hb inv;obtain ⟨c, i, T, U⟩ := r;dsimp only at hb inv ⊢;refine ⟨T, U, inv, ?_, ?_⟩
  · rw [if_pos hb]; rfl
  · rw [if_pos hb]; rfl
end
def val (B : Nat) : List Nat → Nat
  | [] => 0
  | d :: r => d + B * val B r
theorem and_split (k a b c d : Nat) (ha : a < 2 ^ k) (hc : c < 2 ^ k) : (a + 2 ^ k * b) &&& (c + 2 ^ k * d) = (a &&& c) + 2 ^ k * (b &&& d) := by
  have h1 : ((a + 2 ^ k * b) &&& (c + 2 ^ k * d)) % 2 ^ k = a &&& c := by
    rw [Nat.and_mod_two_pow, Nat.add_mul_mod_self_left, Nat.add_mul_mod_self_left, Nat.mod_eq_of_lt ha, Nat.mod_eq_of_lt hc]
  have h2 : ((a + 2 ^ k * b) &&& (c + 2 ^ k * d)) / 2 ^ k = b &&& d := by
    rw [Nat.and_div_two_pow, Nat.add_mul_div_left _ _ (Nat.two_pow_pos k), Nat.add_mul_div_left _ _ (Nat.two_pow_pos k), Nat.div_eq_of_lt ha, Nat.div_eq_of_lt hc, Nat.zero_add, Nat.zero_add]
  rw [← h1, ← h2];exact (Nat.mod_add_div _ _).symm
def two (B : Nat) (ps : List (Nat × Nat)) : List Nat := ps.map fun p => p.1 + B * p.2
def msk (B n : Nat) : Nat := val (B * B) (List.replicate n (B - 1))
theorem sq (w : Nat) : 2 ^ w * 2 ^ w = 2 ^ (w + w) := by rw [← Nat.pow_add]
theorem Eb (w : Nat) : 2 ^ w - 1 < 2 ^ (w + w) := by
  have := Nat.two_pow_pos w;have h2 : 2 ^ w ≤ 2 ^ (w + w) := Nat.pow_le_pow_right (by decide) (by omega);omega
theorem Ec {w a b : Nat} (ha : a < 2 ^ w) (hb : b < 2 ^ w) : a + 2 ^ w * b < 2 ^ (w + w) := by
  rw [← sq];have : 2 ^ w * b ≤ 2 ^ w * (2 ^ w - 1) := Nat.mul_le_mul_left _ (by omega);have h1 : 2 ^ w * (2 ^ w - 1) + 2 ^ w = 2 ^ w * 2 ^ w := by
    have := Nat.two_pow_pos w;rw [← Nat.mul_succ, Nat.succ_eq_add_one, Nat.sub_add_cancel (by omega)]
  omega
theorem zX (w : Nat) : ∀ ps : List (Nat × Nat), (∀ p ∈ ps, p.1 < 2 ^ w ∧ p.2 < 2 ^ w) → val (2 ^ w * 2 ^ w) (two (2 ^ w) ps) &&& msk (2 ^ w) ps.length = val (2 ^ w * 2 ^ w) (ps.map (·.1))
  | [], _ => by simp [two, val, msk]
  | p :: ps, h => by
    have hp := h p (by simp);have ih := zX w ps (fun q hq => h q (by simp [hq]));unfold msk at ih ⊢;simp only [two, List.map_cons, List.length_cons, List.replicate_succ, val];rw [sq] at ih ⊢;rw [and_split _ _ _ _ _ (Ec hp.1 hp.2) (Eb w)];unfold two at ih;rw [ih];congr 1;have : (p.1 + 2 ^ w * p.2) &&& (2 ^ w - 1) = p.1 := by rw [Nat.and_two_pow_sub_one_eq_mod, Nat.add_mul_mod_self_left, Nat.mod_eq_of_lt hp.1]
    exact this
theorem Ci (w : Nat) : ∀ ps : List (Nat × Nat), (∀ p ∈ ps, p.1 < 2 ^ w ∧ p.2 < 2 ^ w) → (val (2 ^ w * 2 ^ w) (two (2 ^ w) ps) / 2 ^ w) &&& msk (2 ^ w) ps.length = val (2 ^ w * 2 ^ w) (ps.map (·.2))
  | [], _ => by simp [two, val, msk]
  | p :: ps, h => by
    have hp := h p (by simp);have ih := Ci w ps (fun q hq => h q (by simp [hq]));unfold msk at ih ⊢;simp only [two, List.map_cons, List.length_cons, List.replicate_succ, val];unfold two at ih;generalize val (2 ^ w * 2 ^ w) (ps.map fun p => p.1 + 2 ^ w * p.2) = R at ih ⊢;have e : (p.1 + 2 ^ w * p.2 + 2 ^ w * 2 ^ w * R) / 2 ^ w = (p.2 + 2 ^ w * (R % 2 ^ w)) + 2 ^ w * 2 ^ w * (R / 2 ^ w) := by
      rw [Nat.mul_assoc, Nat.add_assoc, ← Nat.mul_add, Nat.add_mul_div_left _ _ (Nat.two_pow_pos w), Nat.div_eq_of_lt hp.1, Nat.zero_add];have := Nat.mod_add_div R (2 ^ w);rw [Nat.mul_assoc, Nat.add_assoc, ← Nat.mul_add, this]
    rw [e];rw [sq] at ih ⊢;rw [and_split _ _ _ _ _ (Ec hp.2 (Nat.mod_lt _ (Nat.two_pow_pos w))) (Eb w), ih];congr 1;rw [Nat.and_two_pow_sub_one_eq_mod, Nat.add_mul_mod_self_left, Nat.mod_eq_of_lt hp.2]
def pr : List Nat → List (Nat × Nat)
  | a :: b :: r => (a, b) :: pr r
  | _ => []
theorem Ed (B : Nat) : ∀ (n : Nat) (l : List Nat), l.length = 2 * n → val (B * B) (two B (pr l)) = val B l ∧ (pr l).length = n
  | 0, [], _ => ⟨rfl, rfl⟩
  | n + 1, a :: b :: r, h => by
    obtain ⟨h1, h2⟩ := Ed B n r (by simp at h; omega);constructor
    · simp only [pr, two, List.map_cons, val];unfold two at h1;rw [h1, Nat.mul_add, ← Nat.mul_assoc, Nat.add_assoc]
    · simp [pr, h2]
theorem zY : ∀ (l : List Nat) (p : Nat × Nat), p ∈ pr l → p.1 ∈ l ∧ p.2 ∈ l
  | a :: b :: r, p, h => by
    simp only [pr, List.mem_cons] at h;rcases h with rfl | h
    · simp
    · have := zY r p h;exact ⟨by simp [this.1], by simp [this.2]⟩
def sums (l : List Nat) : List Nat := (pr l).map fun p => p.1 + p.2
theorem vK : ∀ (n : Nat) (l : List Nat), l.length = 2 * n → (sums l).sum = l.sum ∧ (sums l).length = n
  | 0, [], _ => ⟨rfl, rfl⟩
  | n + 1, a :: b :: r, h => by
    obtain ⟨h1, h2⟩ := vK n r (by simp at h; omega);unfold sums at h1 h2 ⊢;constructor
    · simp only [pr, List.map_cons, List.sum_cons, h1]; omega
    · simp only [pr, List.map_cons, List.length_cons, h2]
theorem zM (l : List Nat) (b : Nat) (h : ∀ x ∈ l, x ≤ b) : ∀ x ∈ sums l, x ≤ b + b := by
  intro x hx;obtain ⟨p, hp, rfl⟩ := List.mem_map.1 hx;have := zY l p hp;have h1 := h _ this.1;have h2 := h _ this.2;omega
theorem val_add (B : Nat) : ∀ (ps : List (Nat × Nat)), val B (ps.map (·.2)) + val B (ps.map (·.1)) = val B (ps.map fun p => p.1 + p.2)
  | [] => rfl
  | p :: ps => by
    have ih := val_add B ps;simp only [List.map_cons, val];rw [← ih, Nat.mul_add]; omega
theorem yP (w n : Nat) (l : List Nat) (hl : l.length = 2 * n) (hb : ∀ x ∈ l, x < 2 ^ w) : ((val (2 ^ w) l / 2 ^ w) &&& msk (2 ^ w) n) + (val (2 ^ w) l &&& msk (2 ^ w) n) = val (2 ^ w * 2 ^ w) (sums l) := by
  obtain ⟨h1, h2⟩ := Ed (2 ^ w) n l hl;have hm : ∀ p ∈ pr l, p.1 < 2 ^ w ∧ p.2 < 2 ^ w := fun p hp => ⟨hb _ (zY l p hp).1, hb _ (zY l p hp).2⟩;have e1 := zX w (pr l) hm;have e2 := Ci w (pr l) hm;rw [h1, h2] at e1 e2;rw [e1, e2, val_add]
  rfl
def toD : Nat → Nat → List Nat
  | 0, _ => []
  | n + 1, x => x % 2 :: toD n (x / 2)
theorem Cj : ∀ (n x : Nat), x < 2 ^ n → val 2 (toD n x) = x
  | 0, x, h => by simp at h; simp [toD, val, h]
  | n + 1, x, h => by
    rw [toD, val, Cj n (x / 2) (by rw [Nat.pow_succ] at h; omega)];omega
theorem Cm : ∀ (n x : Nat), (toD n x).length = n
  | 0, _ => rfl
  | n + 1, x => by rw [toD, List.length_cons, Cm n]
theorem CB : ∀ (n x : Nat), ∀ d ∈ toD n x, d ≤ 1
  | n + 1, x, d, h => by
    rw [toD, List.mem_cons] at h;rcases h with rfl | h
    · omega
    · exact CB n _ d h
def pc (x : Nat) : Nat := (toD 64 x).sum
theorem Ee {x lo hi B : Nat} (h : x = lo + B * hi) (hl : lo < B) : x / B = hi := by
  rw [h, Nat.add_mul_div_left _ _ (by omega), Nat.div_eq_of_lt hl, Nat.zero_add]
def JY (x : Nat) : Nat :=
  let s1 := ((x / 2) &&& 6148914691236517205) + (x &&& 6148914691236517205)
  let s2 := ((s1 / 4) &&& 3689348814741910323) + (s1 &&& 3689348814741910323)
  let s3 := ((s2 / 16) + s2) &&& 1085102592571150095
  let s4 := s3 / 256 + s3
  let s5 := s4 / 65536 + s4
  (s5 / 4294967296 + s5) % 128
theorem nib (l : List Nat) (n : Nat) (hl : l.length = 2 * n) (hb : ∀ x ∈ l, x ≤ 4) : ((val 16 l / 16) + val 16 l) &&& msk 16 n = val 256 (sums l) := by
  have key : ∀ (n : Nat) (l : List Nat), l.length = 2 * n → (∀ x ∈ l, x ≤ 4) → ((val 16 l / 16) + val 16 l) &&& msk 16 n = val 256 (sums l) ∧ val 16 l % 16 ≤ 4 := by
    intro n
    induction n with
    | zero =>
      intro l hl hb;have : l = [] := List.length_eq_zero_iff.1 (by omega);subst this;simp [val, sums, pr, msk]
    | succ n ih =>
      intro l hl hb
      match l, hl with
      | a :: b :: r, hl =>
        have ha := hb a (by simp);have hb' := hb b (by simp);obtain ⟨h1, h2⟩ := ih r (by simp at hl; omega) (fun x hx => hb x (by simp [hx]));refine ⟨?_, by simp only [val]; omega⟩;have hs : sums (a :: b :: r) = (a + b) :: sums r := by simp [sums, pr]
        rw [hs];simp only [val];have hm : msk 16 (n + 1) = 15 + 256 * msk 16 n := by simp [msk, List.replicate_succ, val]
        rw [hm, ← h1];generalize val 16 r = R at h2 ⊢;generalize msk 16 n = M;have e : (a + 16 * (b + 16 * R)) / 16 + (a + 16 * (b + 16 * R)) = (a + b + 16 * (b + R % 16)) + 2 ^ 8 * (R / 16 + R) := by omega
        rw [e, show 15 + 256 * M = 15 + 2 ^ 8 * M by omega, and_split 8 _ _ _ _ (by omega) (by decide), show (15 : Nat) = 2 ^ 4 - 1 by rfl, Nat.and_two_pow_sub_one_eq_mod];omega
  exact (key n l hl hb).1
set_option maxHeartbeats 4000000 in
theorem Fq (x : Nat) (hx : x < 2 ^ 64) : JY x = pc x := by
  have h0 := Cj 64 x hx;have l0 := Cm 64 x;have r1 := yP 1 32 (toD 64 x) l0 (fun d hd => by have := CB 64 x d hd; omega);obtain ⟨s1, n1⟩ := vK 32 _ l0;have b1 := zM _ 1 (CB 64 x);generalize hd1 : sums (toD 64 x) = D1 at *;have r2 := yP 2 16 D1 n1 (fun d hd => by have := b1 d hd; omega);obtain ⟨s2, n2⟩ := vK 16 _ n1;have b2 := zM _ 2 b1;generalize hd2 : sums D1 = D2 at *;have r3 := nib D2 8 n2 b2;obtain ⟨s3, n3⟩ := vK 8 _ n2;have b3 := zM _ 4 b2;generalize hd3 : sums D2 = D3 at *;have m1 : msk (2 ^ 1) 32 = 6148914691236517205 := by decide +kernel
  have m2 : msk (2 ^ 2) 16 = 3689348814741910323 := by decide +kernel
  have m3 : msk 16 8 = 1085102592571150095 := by decide +kernel
  rw [m1, show 2 ^ 1 = 2 from rfl, h0] at r1;rw [m2, show 2 ^ 2 = 4 from rfl] at r2;rw [m3] at r3;unfold JY pc;simp only;rw [r1, show 2 * 2 = 4 from rfl, r2, show 4 * 4 = 16 from rfl, r3]
  match D3, n3 with
  | [d0, d1, d2, d3, d4, d5, d6, d7], _ =>
    have q0 := b3 d0 (by simp);have q1 := b3 d1 (by simp);have q2 := b3 d2 (by simp);have q3 := b3 d3 (by simp);have q4 := b3 d4 (by simp);have q5 := b3 d5 (by simp);have q6 := b3 d6 (by simp);have q7 := b3 d7 (by simp);have hs : (toD 64 x).sum = d0 + d1 + d2 + d3 + d4 + d5 + d6 + d7 := by
      rw [← s1, ← s2, ← s3]; simp; omega
    rw [hs];simp only [val, Nat.mul_zero, Nat.add_zero];have e4 : (d0 + 256 * (d1 + 256 * (d2 + 256 * (d3 + 256 * (d4 + 256 * (d5 + 256 * (d6 + 256 * d7))))))) / 256 = d1 + 256 * (d2 + 256 * (d3 + 256 * (d4 + 256 * (d5 + 256 * (d6 + 256 * d7))))) := by omega
    rw [e4];have e5 : (d1 + 256 * (d2 + 256 * (d3 + 256 * (d4 + 256 * (d5 + 256 * (d6 + 256 * d7))))) + (d0 + 256 * (d1 + 256 * (d2 + 256 * (d3 + 256 * (d4 + 256 * (d5 + 256 * (d6 + 256 * d7)))))))) / 65536 = (d2 + d3) + 256 * ((d3 + d4) + 256 * ((d4 + d5) + 256 * ((d5 + d6) + 256 * ((d6 + d7) + 256 * d7)))) := Ee (lo := (d0 + d1) + 256 * (d1 + d2)) (by omega) (by omega);rw [e5];generalize hv : (d2 + d3) + 256 * ((d3 + d4) + 256 * ((d4 + d5) + 256 * ((d5 + d6) + 256 * ((d6 + d7) + 256 * d7)))) + (d1 + 256 * (d2 + 256 * (d3 + 256 * (d4 + 256 * (d5 + 256 * (d6 + 256 * d7))))) + (d0 + 256 * (d1 + 256 * (d2 + 256 * (d3 + 256 * (d4 + 256 * (d5 + 256 * (d6 + 256 * d7)))))))) = V;have hv2 : V = (d0 + d1 + d2 + d3) + 256 * ((d1 + d2 + d3 + d4) + 256 * ((d2 + d3 + d4 + d5) + 256 * ((d3 + d4 + d5 + d6) + 256 * ((d4 + d5 + d6 + d7) + 256 * ((d5 + d6 + d7) + 256 * ((d6 + d7) + 256 * d7)))))) := by omega
    have e6 : V / 4294967296 = (d4 + d5 + d6 + d7) + 256 * ((d5 + d6 + d7) + 256 * ((d6 + d7) + 256 * d7)) := Ee (lo := (d0 + d1 + d2 + d3) + 256 * ((d1 + d2 + d3 + d4) + 256 * ((d2 + d3 + d4 + d5) + 256 * (d3 + d4 + d5 + d6)))) (by omega) (by omega);rw [e6, hv2];generalize hq : (d1 + d2 + d3 + d4) + 256 * ((d2 + d3 + d4 + d5) + 256 * ((d3 + d4 + d5 + d6) + 256 * ((d4 + d5 + d6 + d7) + 256 * ((d5 + d6 + d7) + 256 * ((d6 + d7) + 256 * d7))))) = Q1;generalize hq2 : (d5 + d6 + d7) + 256 * ((d6 + d7) + 256 * d7) = Q2;omega
theorem zN (a : Nat) (h : a < 2 ^ 64) : oq.f (a : Int) = some ((pc a : Nat) : Int) := by
  have h' : a < 18446744073709551616 := h;have sh : ∀ (x : Nat) (c : Int) (k : Nat), 2 ^ min c.toNat IntKind.u64.bits = (k : Int) → shr .u64 (x : Int) c = ((x / k : Nat) : Int) := fun x c k e => by
    unfold shr; rw [e]; omega
  have s1 : shr .u64 (a : Int) 1 = ((a / 2 : Nat) : Int) := sh _ _ 2 (by decide);have a1 : Go.bits .and .u64 ((a / 2 : Nat) : Int) 6148914691236517205 = ((a / 2 &&& 6148914691236517205 : Nat) : Int) := u64_and_nat _ _ (by omega) (by decide);have a2 : Go.bits .and .u64 (a : Int) 6148914691236517205 = ((a &&& 6148914691236517205 : Nat) : Int) := u64_and_nat _ _ h' (by decide);have b1 : a / 2 &&& 6148914691236517205 ≤ 6148914691236517205 := Nat.and_le_right;have b2 : a &&& 6148914691236517205 ≤ 6148914691236517205 := Nat.and_le_right;have key := Fq a h;unfold JY at key;simp only at key;unfold oq.f;simp only [Option.bind_some];rw [s1, a1, a2, pU (x := ((a / 2 &&& 6148914691236517205 : Nat) : Int) + ((a &&& 6148914691236517205 : Nat) : Int)) (by omega) (by omega), show ((a / 2 &&& 6148914691236517205 : Nat) : Int) + ((a &&& 6148914691236517205 : Nat) : Int) = (((a / 2 &&& 6148914691236517205) + (a &&& 6148914691236517205) : Nat) : Int) by omega];generalize hv : (a / 2 &&& 6148914691236517205) + (a &&& 6148914691236517205) = v at *;have hvb : v ≤ 12297829382473034410 := by omega
  have s2 : shr .u64 (v : Int) 2 = ((v / 4 : Nat) : Int) := sh _ _ 4 (by decide);have a3 : Go.bits .and .u64 ((v / 4 : Nat) : Int) 3689348814741910323 = ((v / 4 &&& 3689348814741910323 : Nat) : Int) := u64_and_nat _ _ (by omega) (by decide);have a4 : Go.bits .and .u64 (v : Int) 3689348814741910323 = ((v &&& 3689348814741910323 : Nat) : Int) := u64_and_nat _ _ (by omega) (by decide);have b3 : v / 4 &&& 3689348814741910323 ≤ 3689348814741910323 := Nat.and_le_right;have b4 : v &&& 3689348814741910323 ≤ 3689348814741910323 := Nat.and_le_right;rw [s2, a3, a4, pU (x := ((v / 4 &&& 3689348814741910323 : Nat) : Int) + ((v &&& 3689348814741910323 : Nat) : Int)) (by omega) (by omega), show ((v / 4 &&& 3689348814741910323 : Nat) : Int) + ((v &&& 3689348814741910323 : Nat) : Int) = (((v / 4 &&& 3689348814741910323) + (v &&& 3689348814741910323) : Nat) : Int) by omega];generalize hu : (v / 4 &&& 3689348814741910323) + (v &&& 3689348814741910323) = u at *;have hub : u ≤ 7378697629483820646 := by omega
  have s3 : shr .u64 (u : Int) 4 = ((u / 16 : Nat) : Int) := sh _ _ 16 (by decide);rw [s3, pU (x := ((u / 16 : Nat) : Int) + (u : Int)) (by omega) (by omega), show ((u / 16 : Nat) : Int) + (u : Int) = ((u / 16 + u : Nat) : Int) by omega];have a5 : Go.bits .and .u64 ((u / 16 + u : Nat) : Int) 1085102592571150095 = ((u / 16 + u &&& 1085102592571150095 : Nat) : Int) := u64_and_nat _ _ (by omega) (by decide);have b5 : u / 16 + u &&& 1085102592571150095 ≤ 1085102592571150095 := Nat.and_le_right;rw [a5];generalize ht : u / 16 + u &&& 1085102592571150095 = t at *;have s4 : shr .u64 (t : Int) 8 = ((t / 256 : Nat) : Int) := sh _ _ 256 (by decide);rw [s4, pU (x := (t : Int) + ((t / 256 : Nat) : Int)) (by omega) (by omega), show (t : Int) + ((t / 256 : Nat) : Int) = ((t / 256 + t : Nat) : Int) by omega];generalize hr : t / 256 + t = r at *;have s5 : shr .u64 (r : Int) 16 = ((r / 65536 : Nat) : Int) := sh _ _ 65536 (by decide);rw [s5, pU (x := (r : Int) + ((r / 65536 : Nat) : Int)) (by omega) (by omega), show (r : Int) + ((r / 65536 : Nat) : Int) = ((r / 65536 + r : Nat) : Int) by omega];generalize hq : r / 65536 + r = q at *;have s6 : shr .u64 (q : Int) 32 = ((q / 4294967296 : Nat) : Int) := sh _ _ 4294967296 (by decide);rw [s6, pU (x := (q : Int) + ((q / 4294967296 : Nat) : Int)) (by omega) (by omega), show (q : Int) + ((q / 4294967296 : Nat) : Int) = ((q / 4294967296 + q : Nat) : Int) by omega, kL (by omega) (by omega)];have a6 : Go.bits .and .i64 ((q / 4294967296 + q : Nat) : Int) 127 = (((q / 4294967296 + q) % 128 : Nat) : Int) := by
    have := (bits_nat .i64 63 (by decide) (fun n h0 h1 => by rw [IntKind.wrap_i64]; omega) (q / 4294967296 + q) 127 (by omega) (by decide)).1;rw [nat_mask7] at this;exact this
  rw [a6, key]
theorem yQ : ∀ (n s : Nat), (toD n s).sum = ((List.range n).filter fun i => s.testBit i).length
  | 0, _ => rfl
  | n + 1, s => by
    have ih := yQ n (s / 2);rw [List.range_succ_eq_map, List.filter_cons, List.filter_map];have e : (fun i => s.testBit i) ∘ Nat.succ = fun i => (s / 2).testBit i := by
      funext i;show s.testBit (i + 1) = _;rw [Nat.testBit_succ]
    rw [e];simp only [toD, List.sum_cons, ih];rw [Nat.testBit_zero];by_cases h : s % 2 = 1
    · simp [h]; omega
    · have h0 : s % 2 = 0 := by omega
      simp [h0]
section
variable {L : nK} {o : S81} {n : Nat} {J K : Nat → Nat → Nat} {le : Nat → Nat → Prop} {r : Nat} [dl : ∀ x y, Decidable (le x y)] {E : List Nat}
theorem L6 (S : List Int) : mO.f (some ⟨some L, N E, S⟩) = some (E.length : Int) := by
  unfold mO.f;dsimp only [mV];rw [qQ]
theorem IB (S : List Int) (hE : E.length ≤ 64) (s : Nat) (hs : s < 2 ^ 64) (d : Nat) : ∀ (k i : Nat), i + d = E.length → d + 1 ≤ k →
    l7.l1 k (s : Int) ⟨some L, N E, S⟩ (E.length : Int) (N (((List.range i).filter fun i => s.testBit i).map fun i => E.getD i 0)) (i : Int) = some (N (sm E s)) := by
  induction d with
  | zero =>
    intro k i hi hk;obtain ⟨k, rfl⟩ : ∃ q, k = q + 1 := ⟨k - 1, by omega⟩;obtain rfl : i = E.length := by omega
    rw [l7.l1, if_neg (by omega)]
    rfl
  | succ d ih =>
    intro k i hi hk;obtain ⟨k, rfl⟩ : ∃ q, k = q + 1 := ⟨k - 1, by omega⟩;have g := ih k (i + 1) (by omega) (by omega);rw [List.range_succ, List.filter_append, List.map_append, wR] at g;have b := vV s i hs (by omega);have hlen : (((List.range i).filter fun i => s.testBit i).map fun i => E.getD i 0).length ≤ i := by
      rw [List.length_map];have := List.length_filter_le (fun i => s.testBit i) (List.range i);rw [List.length_range] at this;exact this
    rw [l7.l1, if_pos (by omega), pU (x := (i : Int)) (by omega) (by omega), if_pos (by omega), kL (x := (i : Int) + 1) (by omega) (by omega), show (i : Int) + 1 = ((i + 1 : Nat) : Int) by omega];by_cases c : s.testBit i = true
    · rw [if_pos (b.2 c), if_pos (by omega), if_pos (by show (i : Int) < ((N E).length : Int); rw [qQ]; omega), if_pos (by rw [qQ]; omega), Option.bind_some];dsimp only;rw [Gt, zO];rw [if_pos c] at g;exact g
    · rw [if_neg (fun z => c (b.1 z))];rw [if_neg c, List.map_nil, List.append_nil] at g;exact g
theorem GL (S : List Int) (hE : E.length ≤ 64) (s : Nat) (hs : s < 2 ^ 64) (k : Nat) (hk : 100 ≤ k) : l7.f k (some ⟨some L, N E, S⟩) (s : Int) = some (N (sm E s)) := by
  unfold l7.f;rw [L6, Option.bind_some];exact IB S hE s hs E.length k 0 (by omega) (by omega)
theorem FW (s : Nat) : (sm E s).length ≤ E.length := by
  unfold sm;rw [List.length_map];have := List.length_filter_le (fun i => s.testBit i) (List.range E.length);rw [List.length_range] at this;exact this
theorem Nl (h : IsL L o n J K) (lt : Lt n le J K) (hr : r < n) (hb : ∀ j, j < n → le r j) (S : List Int) (s : Nat) (hs : s < 2 ^ 64) (k : Nat) (hk : 1200 ≤ k) :
    o7.f k (some ⟨some L, N (els le J n r), S⟩) (s : Int) = some ((jo J r (sm (els le J n r) s) : Nat) : Int) := by
  have h64 := h.le;have l1 : (els le J n r).length ≤ n := uq;have l2 := FW (E := els le J n r) s;unfold o7.f;dsimp only [mV];rw [GL S (by omega) s hs k (by omega), Option.bind_some, jaN h lt hr hb _ (Gu s) (by omega) k (by omega), Option.bind_some]
theorem FB (le : Nat → Nat → Prop) [∀ x y, Decidable (le x y)] (E : List Nat) (i : Nat) : ∀ (l : List Nat) (t : Nat), (l.foldl (fun a x => a ||| st_ le E x) t).testBit i = true ↔ t.testBit i = true ∨ ∃ x ∈ l, (st_ le E x).testBit i = true
  | [], t => ⟨fun h => .inl h, fun h => by rcases h with h | ⟨x, hx, _⟩; exact h; cases hx⟩
  | x :: l, t => by
    rw [List.foldl_cons, FB le E i l, Nat.testBit_or, Bool.or_eq_true];constructor
    · rintro ((h | h) | ⟨y, h1, h2⟩)
      · exact .inl h
      · exact .inr ⟨x, by simp, h⟩
      · exact .inr ⟨y, by simp [h1], h2⟩
    · rintro (h | ⟨y, h1, h2⟩)
      · exact .inl (.inl h)
      · rcases List.mem_cons.1 h1 with e | e
        · subst e; exact .inl (.inr h2)
        · exact .inr ⟨y, e, h2⟩
theorem J4 (E : List Nat) (s : Nat) : (sm E s).foldl (fun a x => a ||| st_ le E x) 0 = dn_ le E s := by
  refine Aa fun i => ?_;rw [FB, GK, Nat.zero_testBit];constructor
  · rintro (h | ⟨x, h1, h2⟩)
    · cases h
    · exact ⟨((vM E x i).1 h2).1, x, h1, ((vM E x i).1 h2).2⟩
  · rintro ⟨h1, x, h2, h3⟩;exact .inr ⟨x, h2, (vM E x i).2 ⟨h1, h3⟩⟩
theorem IC (hE : E.length ≤ 64) (l : List Nat) (hl : ∀ x ∈ l, x < n) (hl2 : l.length ≤ 1000) (d : Nat) : ∀ (k i t : Nat), i + d = l.length → d + 1 ≤ k → t < 2 ^ 64 →
    ny.l0 k ⟨some L, N E, N (sts le E n)⟩ (N l) (t : Int) (i : Int) = some (((l.drop i).foldl (fun a x => a ||| st_ le E x) t : Nat) : Int) := by
  induction d with
  | zero =>
    intro k i t hi hk ht;obtain ⟨k, rfl⟩ : ∃ q, k = q + 1 := ⟨k - 1, by omega⟩;rw [ny.l0, if_neg (by rw [qQ]; omega), List.drop_eq_nil_of_le (by omega)]
    rfl
  | succ d ih =>
    intro k i t hi hk ht;obtain ⟨k, rfl⟩ : ∃ q, k = q + 1 := ⟨k - 1, by omega⟩;have hi' : i < l.length := by omega
    have e : l.getD i 0 = l[i] := by rw [List.getD_eq_getElem?_getD, List.getElem?_eq_getElem hi']; rfl
    have hx := hl l[i] (List.getElem_mem hi');rw [ny.l0, if_pos (by rw [qQ]; omega), if_pos (by omega), Gt, e];dsimp only;rw [if_pos (by omega), if_pos (by rw [wP]; omega), Ae E _ hx, u64_or_nat _ _ ht (BZ E hE _), kL (x := (i : Int) + 1) (by omega) (by omega), show (i : Int) + 1 = ((i + 1 : Nat) : Int) by omega, List.drop_eq_getElem_cons hi', List.foldl_cons];exact ih k (i + 1) _ (by omega) (by omega) (Nat.or_lt_two_pow ht (BZ E hE _))
theorem GN (hn : n ≤ 64) (s : Nat) (hs : s < 2 ^ 64) (k : Nat) (hk : 1200 ≤ k) :
    ny.f k (some ⟨some L, N (els le J n r), N (sts le (els le J n r) n)⟩) (s : Int) = some ((dn_ le (els le J n r) s : Nat) : Int) := by
  have l1 : (els le J n r).length ≤ n := uq;have l2 := FW (E := els le J n r) s;unfold ny.f;dsimp only [mV];rw [GL _ (by omega) s hs k (by omega), Option.bind_some];have := IC (L := L) (n := n) (le := le) (E := els le J n r) (by omega) (sm (els le J n r) s) (Gu s) (by omega) (sm (els le J n r) s).length k 0 0 (by omega) (by omega) (by decide);rw [List.drop_zero, J4] at this;exact this
theorem Nz (hn : n ≤ 64) (s : Nat) (hs : s < 2 ^ 64) (k : Nat) (hk : 1200 ≤ k) :
    qm.f k (some ⟨some L, N (els le J n r), N (sts le (els le J n r) n)⟩) (s : Int) = some (decide (dn_ le (els le J n r) s = s)) := by
  unfold qm.f;dsimp only [mV];rw [GN hn s hs k hk, Option.bind_some];congr 1;rw [decide_eq_decide]; omega
end
section
variable {L : nK} {o : S81} {n : Nat} {J K : Nat → Nat → Nat} {le : Nat → Nat → Prop} {r : Nat} [dl : ∀ x y, Decidable (le x y)] {E : List Nat}
theorem Fv (hE : E.length ≤ 64) (a b : Nat) (ha : a < n) (hb : b < n) : lU.f (some ⟨some L, N E, N (sts le E n)⟩) (a : Int) (b : Int) = some ((pc (st_ le E a ^^^ st_ le E b) : Nat) : Int) := by
  have h1 := BZ (le := le) E hE a;have h2 := BZ (le := le) E hE b;unfold lU.f;rw [i_in, Option.bind_some, if_pos (decide_eq_true (by omega)), i_in, Option.bind_some, decide_eq_true (by omega), Bool.not_true];unfold lU.j0;dsimp only [mV];rw [if_neg (by decide), if_pos (by omega), if_pos (by rw [wP]; omega), if_pos (by omega), if_pos (by rw [wP]; omega), Ae E a ha, Ae E b hb, bits_xor_u64_nat _ _ h1 h2, zN _ (Nat.xor_lt_two_pow h1 h2), Option.bind_some]
theorem yu (x : Nat) : pc x = ((List.range 64).filter fun i => x.testBit i).length := yQ 64 x
theorem L9 (x : Nat) (h : x < 2 ^ 64) : pc x = 0 ↔ x = 0 := by
  constructor
  · intro z;rw [yu] at z;have := List.eq_nil_of_length_eq_zero z;refine Nat.eq_of_testBit_eq fun i => ?_;rw [Nat.zero_testBit];by_cases hi : i < 64
    · have q := List.filter_eq_nil_iff.1 this i (List.mem_range.2 hi)
      simpa using q
    · exact Nat.testBit_lt_two_pow (Nat.lt_of_lt_of_le h (Nat.pow_le_pow_right (by decide) (by omega)))
  · rintro rfl; rfl
end
theorem GR {a : Int} (h : (Lit.int .u64 a).wf = true) : 0 ≤ a ∧ a < 18446744073709551616 := by
  simp [Lit.wf, IntKind.min, IntKind.max, IntKind.bits, IntKind.signed] at h;omega
section
structure Made (L : List S53) (T : List ByteArray) (U : List Nat) (r : Nat) : Prop where
  inv : Inv L T U
  po : Po T.length (M (cl T U))
  hw : vF (jj T U) (kk T U) T.length T.length 0 = none
  lt : Lt T.length (M (cl T U)) (fun x y => (jj T U x y).toNat) (fun x y => (kk T U x y).toNat)
  hr : r < T.length
  hb : ∀ j, j < T.length → M (cl T U) r j
theorem Dn (L : List S53) (h12 : L.length ≤ 12) (hx : ∀ x ∈ L, He x) (k : Nat) (hk : 281474976710656 * 10 ≤ k) :
    ni.f k L = some false ∨ ∃ T U r, Made L T U r ∧ ni.f k L = some true ∧ ∀ k', 281474976710656 * 9 ≤ k' → ∃ S, IsL S (oI T U) T.length (fun x y => (jj T U x y).toNat) (fun x y => (kk T U x y).toNat) ∧ lJ.f k' L = some (some ⟨some S, N (els (M (cl T U)) (fun x y => (jj T U x y).toNat) T.length r), N (sts (M (cl T U)) (els (M (cl T U)) (fun x y => (jj T U x y).toNat) T.length r) T.length)⟩, T, xA T L, tb T.length (jj T U), tb T.length (kk T U)) := by
  have h13 := fun k' (hk' : 281474976710656 * 9 ≤ k') => xC L (by omega) 140737488351232 (fun p hp => ⟨(hx p hp).1, (hx p hp).2.1⟩) (by omega) k' (by omega);unfold ni.f;rw [h13 k (by omega), Option.bind_some];by_cases hbd : (build L 0 [] Z64).1 = 0
  · obtain ⟨T, U, inv, e, e2⟩ := zL hbd;have hT := inv.le
    cases ht : turned T (cl T U) L 0 with
    | some j =>
      rw [ht] at e2;rw [e2];dsimp only;rw [wK, Option.bind_some, if_neg (by decide)];exact .inl rfl
    | none =>
      rw [ht] at e2 e;dsimp only at e2 e;have po := H7 inv ht;rw [e2];dsimp only;rw [tV inv po k (by omega), Option.bind_some, if_pos rfl];by_cases h0 : T.length = 0
      · rw [if_pos h0];exact .inl rfl
      · rw [if_neg h0]
        cases hw : vF (jj T U) (kk T U) T.length T.length 0 with
        | some p => obtain ⟨x, y⟩ := p; exact .inl rfl
        | none =>
          dsimp only
          cases hs : x9 (jj T U) (kk T U) T.length T.length 0 with
          | some p => obtain ⟨x, y⟩ := p; exact .inl rfl
          | none =>
            dsimp only;right;obtain ⟨Jl, Kl, hJ, hK, _⟩ := wE inv po 300000 (by omega);have lt := Ia inv po hw hs;have hL0 := zB inv po hw hJ hK 0;obtain ⟨r, r1, r2, _⟩ := JW hL0 lt (by omega) 5000 (by omega);refine ⟨T, U, r, ⟨inv, po, hw, lt, r1, r2⟩, rfl, fun k' hk' => ?_⟩;obtain ⟨Jl, Kl, hJ, hK, hlt⟩ := wE inv po k' (by omega);have hL := zB inv po hw hJ hK 0;refine ⟨mkL (oI T U) Jl Kl 0, hL, ?_⟩;unfold lJ.f;rw [zn _ L (by omega) (by omega), Option.bind_some, e, hlt, if_neg h0, hw, hs];dsimp only;rw [Option.bind_some, h13 k' hk', Option.bind_some, e2];dsimp only;rw [tV inv po k' (by omega), Option.bind_some, if_neg h0, hw, hs, if_pos rfl];dsimp only;obtain ⟨k', rfl⟩ : ∃ q, k' = q + 1 := ⟨k' - 1, by omega⟩;rw [show (!decide ((0 : Int) = 0)) = false by decide, lJ.j0, if_neg (by decide), LJ hL lt r1 r2 (fun x y _ _ => A8 inv x y) k' (by omega), Option.bind_some]
  · obtain ⟨c1, c2, c3⟩ := Bo hbd;obtain ⟨b1, b2, b3⟩ := AZ hbd;rw [c1, c2, wK, Option.bind_some, if_neg (by rw [c3]; exact b2)];exact .inl rfl
end
section
variable {L : nK} {o : S81} {n : Nat} {J K : Nat → Nat → Nat} {le : Nat → Nat → Prop} {r : Nat} [dl : ∀ x y, Decidable (le x y)] {T : List ByteArray} {m : List (List Bool)}
theorem Mc (a b : Nat) : a &&& b = a ↔ ∀ i, a.testBit i = true → b.testBit i = true := by
  constructor
  · intro h i hi;rw [← h, Nat.testBit_and, Bool.and_eq_true] at hi;exact hi.2
  · intro h;refine Aa fun i => ?_;rw [Nat.testBit_and, Bool.and_eq_true];exact ⟨fun z => z.1, fun z => ⟨z, h i z⟩⟩
theorem Jf (h64 : n ≤ 64) (lt : Lt n le J K) (hr : r < n) (hb : ∀ j, j < n → le r j) (hM : Mat n m le) (hT : T.length = n) (a : Int) (c : Nat) (hc : c < n) (f : Nat) (d : Nat) : ∀ j, j + d = n →
    lZ.l0 (f + d + 1) a T m (some ⟨some L, N (els le J n r), N (sts le (els le J n r) n)⟩) (c : Int) (j : Int) = lZ.l1 f a T m (some ⟨some L, N (els le J n r), N (sts le (els le J n r) n)⟩) ((c + 1 : Nat) : Int) := by
  obtain ⟨ml, mr, me⟩ := hM;have l1 : (els le J n r).length ≤ n := uq;have lc := mr c hc
  induction d with
  | zero =>
    intro j hj;rw [show f + 0 + 1 = f + 1 from rfl, lZ.l0, if_neg (by omega), kL (by omega) (by omega)]
    rfl
  | succ d ih =>
    intro j hj;have hj' : j < n := by omega
    have s1 := BZ (le := le) (els le J n r) (by omega) c;have s2 := BZ (le := le) (els le J n r) (by omega) j;have e1 : oh false (kX m (c : Int)) (j : Int) = decide (Go.bits .and .u64 ((st_ le (els le J n r) c : Nat) : Int) ((st_ le (els le J n r) j : Nat) : Int) = ((st_ le (els le J n r) c : Nat) : Int)) := by
      rw [Bool.eq_iff_iff, me c j hc hj', decide_eq_true_iff, u64_and_nat _ _ s1 s2, Int.ofNat_inj, Mc];exact (J5 lt hr hb c j hc hj').symm
    have e2 : decide (((pc (st_ le (els le J n r) c ^^^ st_ le (els le J n r) j) : Nat) : Int) = 0) = decide ((c : Int) = (j : Int)) := by
      rw [decide_eq_decide];have q := L9 _ (Nat.xor_lt_two_pow s1 s2);constructor
      · intro z;have z2 := q.1 (by omega);have : st_ le (els le J n r) c = st_ le (els le J n r) j := by
          refine Nat.eq_of_testBit_eq fun i => ?_;have := congrArg (fun w => w.testBit i) z2;rw [Nat.testBit_xor, Nat.zero_testBit] at this;revert this
          cases (st_ le (els le J n r) c).testBit i <;> cases (st_ le (els le J n r) j).testBit i <;> simp
        have := J6 lt hr hb c j hc hj' this;omega
      · intro z;have e : c = j := by omega
        have := q.2 (by rw [e, Nat.xor_self]);omega
    rw [show f + (d + 1) + 1 = (f + d + 1) + 1 by omega, lZ.l0, if_pos (by omega), if_pos (by omega), if_pos (by omega), if_pos (by omega), if_pos (by omega), Je c hc, Option.bind_some, Je j hj', Option.bind_some, Option.bind_some, if_pos e1, Fv (by omega) c j hc hj', Option.bind_some, if_pos e2, kL (by omega) (by omega), show (j : Int) + 1 = ((j + 1 : Nat) : Int) by omega];exact ih (j + 1) (by omega)
theorem Jg (h : IsL L o n J K) (lt : Lt n le J K) (hr : r < n) (hb : ∀ j, j < n → le r j) (hM : Mat n m le) (hT : T.length = n) (s : Nat) (hs : s < 2 ^ 64) (d : Nat) : ∀ k c, c + d = n → 1300 + d * 70 ≤ k →
    lZ.l1 k (s : Int) T m (some ⟨some L, N (els le J n r), N (sts le (els le J n r) n)⟩) (c : Int) = some true := by
  have h64 := h.le;have l1 : (els le J n r).length ≤ n := uq;have hd := fun s => NV (le := le) (els le J n r) (by omega) s;have hst := fun c => BZ (le := le) (els le J n r) (by omega) c
  induction d with
  | zero =>
    intro k c hc hk;obtain ⟨k, rfl⟩ : ∃ q, k = q + 1 := ⟨k - 1, by omega⟩;have hjl := KD (r := r) lt hr s;have e1 := NY lt hr hb s;have e3 := J7 lt hr hb s;rw [lZ.l1, if_neg (by omega), GN h64 s hs k (by omega), Option.bind_some, Nz h64 _ (hd s) k (by omega), Option.bind_some, if_pos (decide_eq_true (Ns lt hr hb s)), Nl h lt hr hb _ _ (hd s) k (by omega), Option.bind_some, e1, Je _ hjl, Option.bind_some, e3, if_pos rfl, Option.bind_some, Nl h lt hr hb _ s hs k (by omega), Option.bind_some, if_pos rfl, sH k (by omega), Option.bind_some]
  | succ d ih =>
    intro k c hc hk;have hc' : c < n := by omega
    obtain ⟨k, rfl⟩ : ∃ q, k = q + n + 1 + 1 := ⟨k - n - 2, by omega⟩;have e1 := Jf (L := L) (T := T) h64 lt hr hb hM hT (s : Int) c hc' k n 0 (by omega);rw [show ((0 : Nat) : Int) = 0 from rfl] at e1;rw [lZ.l1, if_pos (by omega), Je c hc', Option.bind_some, Nl h lt hr hb _ _ (hst c) _ (by omega), Option.bind_some, NW lt hr hb c hc', if_pos rfl, Option.bind_some, Nz h64 _ (hst c) _ (by omega), Option.bind_some, if_pos (decide_eq_true (L8 lt c)), e1];exact ih k (c + 1) (by omega) (by omega)
end
theorem IrredWhole : lZ.Pure := by
  intro L a hm hb hx ha;have hn := H6 hb;obtain ⟨k, hk⟩ : ∃ k, k = 281474976710656 * 11 + 400 * L.length := ⟨_, rfl⟩;refine ⟨k + 1, ?_⟩;obtain ⟨g, hg, hf⟩ := xq (k + 1) L 12 (by decide) (by omega) (by omega);have tr : lZ.j0 (k + 1) a L true = some true := by rw [lZ.j0, if_pos rfl, sH k (by omega), Option.bind_some]
  unfold lZ.f;rw [hg, Option.bind_some]
  cases g with
  | true => rw [if_pos rfl, tr]
  | false =>
    have h12 := hf rfl;rw [if_neg (by decide)];rcases Dn L (by omega) hx (k + 1) (by omega) with e | ⟨T, U, r, md, e, hmade⟩
    · rw [e, Option.bind_some, Bool.not_false, tr]
    · obtain ⟨S, hS, e2⟩ := hmade k (by omega);obtain ⟨s, rfl⟩ : ∃ s : Nat, a = (s : Int) := ⟨a.toNat, by have := GR ha; omega⟩;have hs : s < 2 ^ 64 := by have := GR ha; omega
      rw [e, Option.bind_some, Bool.not_true, lZ.j0, if_neg (by decide), e2, Option.bind_some];exact Jg hS md.lt md.hr md.hb (Af md.inv) rfl s hs T.length k 0 (by omega) (by have := md.inv.le; omega)
end Go.Proofs.YtpfepkkpbampkaaDoor.Pure
