/- Any pairs make the lattice that the document says, or are refused with the two at which it fails; what was asked is counted. -/
import Derived.Test.YtpfepkkpbampkaaDoorPLnwx1
import Derived.Test.YtpfepkkpbampkaaDoorPLnwx2
import Derived.Test.YtpfepkkpbampkaaDoorPLnwx3
import Derived.Test.YtpfepkkpbampkaaDoorPLnwx4
import Derived.Test.YtpfepkkpbampkaaDoorPLnwx5
import Derived.Test.YtpfepkkpbampkaaDoorPLnwx6
import Derived.Test.YtpfepkkpbampkaaDoorPLnwx7
import Derived.Test.YtpfepkkpbampkaaDoorPLnwx8
import Derived.Test.YtpfepkkpbampkaaDoorPLnwx9
import Derived.OpenShut
import Derived.Laws.BitsLemmas
import Derived.Laws.BitsAllLaws
import Derived.Laws.Bits64b
import Derived.Lib.TrailingZeros
import Derived.Lib.Bytes
import Derived.Test.YtpfepkkpbampkaaDoorWSized
set_option linter.unusedVariables false
set_option linter.unusedSimpArgs false
namespace Go.Proofs.YtpfepkkpbampkaaDoor.Pure
open Go.RowKit Go.Proofs.YtpfepkkpbampkaaDoor.PLnw Go.Proofs.YtpfepkkpbampkaaDoorW.PrintWords Go.Proofs.YtpfepkkpbampkaaDoorW.PrintLast

theorem bt_range (s : ByteArray) (i : Int) : 0 ≤ bt s i ∧ bt s i < 256 := by
  unfold bt
  split
  · rename_i h
    have := (s[i.toNat]'h).toNat_lt
    omega
  · omega
theorem wrap64_id {x : Int} (h0 : -9223372036854775808 ≤ x) (h1 : x ≤ 9223372036854775807) : wrap64 x = x := by unfold wrap64; omega
theorem u64w_id {x : Int} (h0 : 0 ≤ x) (h1 : x < 18446744073709551616) : IntKind.u64.wrap x = x := by
  simp [IntKind.wrap, IntKind.bits, IntKind.signed]; omega
theorem u64w_nat {n : Nat} (h : n < 2 ^ 64) : IntKind.u64.wrap (n : Int) = (n : Int) := u64w_id (by omega) (by omega)
theorem byte_all (p : Int → Prop) (h : ∀ b : Fin 256, p ((b.val : Nat) : Int)) (c : Int) (h0 : 0 ≤ c) (h1 : c < 256) : p c := by
  have := h ⟨c.toNat, by omega⟩
  simp only at this
  rwa [show ((c.toNat : Nat) : Int) = c by omega] at this
def letterB (c : Int) : Bool := (decide (97 ≤ c) && decide (c ≤ 122)) || (decide (65 ≤ c) && decide (c ≤ 90)) || c == 95
def digitB (c : Int) : Bool := decide (48 ≤ c) && decide (c ≤ 57)
def wordB (c : Int) : Bool := letterB c || digitB c
theorem digit_tells (c : Int) : lex_digit.f c = some (digitB c) := by
  unfold lex_digit.f digitB
  by_cases h : c ≥ 48
  · simp [h]
  · simp [h]
theorem letter_tells (c : Int) (h0 : 0 ≤ c) (h1 : c < 256) : lex_letter.f c = some (letterB c) :=
  byte_all (fun c => lex_letter.f c = some (letterB c)) (by decide +kernel) c h0 h1
theorem ident1_tells (c : Int) (h0 : 0 ≤ c) (h1 : c < 256) : lex_Ident_1.f c = some (wordB c) := by
  unfold lex_Ident_1.f wordB
  rw [letter_tells c h0 h1, digit_tells]
  cases letterB c <;> simp
def KW : List ByteArray := [(⟨#[105, 109, 112, 111, 114, 116]⟩ : ByteArray), (⟨#[108, 97, 116, 116, 105, 99, 101]⟩ : ByteArray), (⟨#[101, 102, 102, 101, 99, 116, 115]⟩ : ByteArray), (⟨#[118, 97, 114]⟩ : ByteArray), (⟨#[102, 110]⟩ : ByteArray), (⟨#[108, 101, 116]⟩ : ByteArray), (⟨#[105, 102]⟩ : ByteArray), (⟨#[101, 108, 115, 101]⟩ : ByteArray), (⟨#[119, 104, 105, 108, 101]⟩ : ByteArray), (⟨#[114, 101, 116, 117, 114, 110]⟩ : ByteArray), (⟨#[100, 111]⟩ : ByteArray), (⟨#[116, 114, 117, 101]⟩ : ByteArray), (⟨#[102, 97, 108, 115, 101]⟩ : ByteArray), (⟨#[105, 110, 116]⟩ : ByteArray), (⟨#[98, 111, 111, 108]⟩ : ByteArray), (⟨#[100, 101, 99, 108, 97, 115, 115, 105, 102, 121]⟩ : ByteArray)]
def kw (x : ByteArray) : Bool := KW.any fun y => decide (x = y)
theorem kwj (b : Bool) : lex_Keyword.j0 b = some b := by cases b <;> rfl
theorem ite_or {c : Prop} [Decidable c] {X : Option Bool} {b : Bool} (h : X = some b) : (if c then lex_Keyword.j0 true else X) = some (decide c || b) := by
  by_cases hc : c
  · rw [if_pos hc, decide_eq_true hc]; rfl
  · rw [if_neg hc, decide_eq_false hc, h]; rfl
theorem kw_tells (x : ByteArray) : lex_Keyword.f x = some (kw x) := by
  unfold lex_Keyword.f kw KW
  simp only [List.any_cons, List.any_nil]
  repeat refine ite_or ?_
  rw [kwj, Bool.or_false]
theorem run_tells (l : List Int) (hl : ∀ x ∈ l, 0 ≤ x ∧ x < 256) (hn : l.length ≤ 1000000) (d : Nat) : ∀ (k i : Nat), i ≤ l.length → l.length - i = d → 2 * d + 2 ≤ k →
    lex_run_lex_Ident_1.l0 k l (i : Int) = some ((i + ((l.drop i).takeWhile wordB).length : Nat) : Int) := by
  induction d with
  | zero =>
    intro k i hi hd hk
    obtain ⟨k, rfl⟩ : ∃ n, k = n + 2 := ⟨k - 2, by omega⟩
    rw [lex_run_lex_Ident_1.l0, if_neg (by omega), lex_run_lex_Ident_1.j0, if_neg (by decide), List.drop_eq_nil_of_le (by omega)]
    simp
  | succ d ih =>
    intro k i hi hd hk
    obtain ⟨k, rfl⟩ : ∃ n, k = n + 2 := ⟨k - 2, by omega⟩
    have hr : rd l (i : Int) = l[i] := by simp [rd, List.getD_eq_getElem?_getD, show i < l.length by omega]
    have hx := hl l[i] (List.getElem_mem _)
    rw [lex_run_lex_Ident_1.l0, if_pos (by omega), if_pos (by omega), hr, ident1_tells _ hx.1 hx.2, Option.bind_some, lex_run_lex_Ident_1.j0, List.drop_eq_getElem_cons (by omega), List.takeWhile_cons]
    by_cases hw : wordB l[i] = true
    · rw [if_pos hw, if_pos hw, wrap64_id (by omega) (by omega), show (i : Int) + 1 = ((i + 1 : Nat) : Int) by omega, ih k (i + 1) (by omega) (by omega) (by omega)]
      simp; omega
    · rw [if_neg hw, if_neg hw]
      simp
theorem bytesOf_in (s : ByteArray) : ∀ x ∈ bytesOf s, 0 ≤ x ∧ x < 256 := by
  intro x hx
  unfold bytesOf at hx
  obtain ⟨b, _, rfl⟩ := List.mem_map.1 hx
  have := b.toNat_lt
  omega
theorem bytesOf_len (s : ByteArray) : (bytesOf s).length = s.size := by unfold bytesOf; rw [List.length_map, Array.length_toList]; rfl
theorem bt_in (x : ByteArray) (i : Int) : 0 ≤ bt x i ∧ bt x i < 256 := by have := bt_range x i; omega
def identB (x : ByteArray) : Bool := decide (0 < x.size) && (decide (x.size ≤ 24) && (!kw x && (letterB (bt x 0) && (((bytesOf x).takeWhile wordB).length == x.size))))
theorem size0 (x : ByteArray) : x = (⟨#[]⟩ : ByteArray) ↔ x.size = 0 := by
  constructor
  · rintro rfl; rfl
  · intro h
    cases x with
    | mk a =>
      cases a with
      | mk l =>
        have : l.length = 0 := h
        rw [List.length_eq_zero_iff.1 this]
theorem ident_tells (k : Nat) (x : ByteArray) (hk : 60 ≤ k) : lex_Ident.f k x = some (identB x) := by
  obtain ⟨k, rfl⟩ : ∃ n, k = n + 1 := ⟨k - 1, by omega⟩
  unfold lex_Ident.f identB
  by_cases h0 : x.size = 0
  · rw [if_pos ((size0 x).2 h0), lex_Ident.j0, if_pos rfl]
    simp [h0]
  rw [if_neg (fun h => h0 ((size0 x).1 h))]
  by_cases h1 : (x.size : Int) > 24
  · rw [if_pos h1, lex_Ident.j0, if_pos rfl]
    have : ¬ x.size ≤ 24 := by omega
    simp [this]
  rw [if_neg h1, kw_tells, Option.bind_some]
  have hp : 0 < x.size := by omega
  have hle : x.size ≤ 24 := by omega
  by_cases h2 : kw x = true
  · rw [if_pos h2, lex_Ident.j0, if_pos rfl]; simp [h2]
  have hb := bt_in x 0
  rw [if_neg h2, if_pos (by omega), letter_tells _ hb.1 hb.2, Option.bind_some, lex_Ident.j0]
  by_cases h3 : letterB (bt x 0) = true
  · rw [if_neg (by simp [h3]), if_pos (by omega), Option.bind_some]
    have hr := run_tells (bytesOf x) (bytesOf_in x) (by rw [bytesOf_len]; omega) x.size k 0 (by omega) (by rw [bytesOf_len]; omega) (by omega)
    unfold lex_run_lex_Ident_1.f
    rw [show ((0 : Nat) : Int) = 0 from rfl] at hr
    rw [hr, Option.bind_some]
    simp only [hp, hle, h2, h3, List.drop_zero, Nat.zero_add, decide_true, Bool.true_and, Bool.not_false]
    congr 1
    rw [Bool.eq_iff_iff]; simp [h2]; omega
  · rw [if_pos (by simp [h3])]; simp [h3]
def memB (s : ByteArray) : List ByteArray → Bool
  | [] => false
  | t :: T => decide (s = t) || memB s T
theorem memB_iff (s : ByteArray) : ∀ T, memB s T = true ↔ s ∈ T
  | [] => by simp [memB]
  | t :: T => by simp [memB, memB_iff s T]
instance memDec (s : ByteArray) (T : List ByteArray) : Decidable (s ∈ T) := decidable_of_iff _ (memB_iff s T)
def idx (T : List ByteArray) : List (ByteArray × Int) := T.zipIdx.map fun p => (p.1, (p.2 : Int))
def idxFrom (T : List ByteArray) (n : Nat) : List (ByteArray × Int) := (T.zipIdx n).map fun p => (p.1, (p.2 : Int))
theorem idx_has (T : List ByteArray) (s : ByteArray) : ∀ n, mhas (idxFrom T n) s = decide (s ∈ T) := by
  induction T with
  | nil => intro n; rfl
  | cons t T ih =>
    intro n
    simp only [idxFrom, List.zipIdx_cons, List.map_cons, mhas]
    by_cases h : t = s
    · rw [if_pos h]; simp [h]
    · rw [if_neg h]
      have := ih (n + 1)
      unfold idxFrom at this
      rw [this]
      have h2 : ¬ s = t := fun e => h e.symm
      simp [h2]
def at_ : List ByteArray → ByteArray → Nat
  | [], _ => 0
  | t :: T, s => if t = s then 0 else at_ T s + 1
theorem idx_get (T : List ByteArray) (s : ByteArray) : ∀ n, s ∈ T → mget 0 (idxFrom T n) s = ((n + at_ T s : Nat) : Int) := by
  induction T with
  | nil => intro n h; simp at h
  | cons t T ih =>
    intro n hm
    simp only [idxFrom, List.zipIdx_cons, List.map_cons, mget, at_]
    by_cases h : t = s
    · rw [if_pos h, if_pos h]; rfl
    · rw [if_neg h, if_neg h]
      have hm' : s ∈ T := by
        rcases List.mem_cons.1 hm with e | e
        · exact absurd e.symm h
        · exact e
      have := ih (n + 1) hm'
      unfold idxFrom at this
      rw [this]; congr 1; omega
theorem at_lt (T : List ByteArray) (s : ByteArray) (h : s ∈ T) : at_ T s < T.length := by
  induction T with
  | nil => simp at h
  | cons t T ih =>
    simp only [at_]
    by_cases e : t = s
    · rw [if_pos e]; simp
    · rw [if_neg e]
      rcases List.mem_cons.1 h with h | h
      · exact absurd h.symm e
      · have := ih h; simp; omega
theorem idx_put (T : List ByteArray) (s : ByteArray) (h : s ∉ T) : mput (idx T) s (T.length : Int) = idx (T ++ [s]) := by
  have h1 := idx_has T s 0
  have e : idxFrom T 0 = idx T := rfl
  rw [e] at h1
  rw [mput_not (by rw [h1]; simp [h])]
  simp [idx, List.zipIdx_append]
theorem shl1 (n : Nat) (h : n < 64) : shl .u64 1 (n : Int) = ((2 ^ n : Nat) : Int) := by
  unfold shl
  have e : min ((n : Int).toNat) IntKind.u64.bits = n := by simp [IntKind.bits]; omega
  have hlt : 2 ^ n < 2 ^ 64 := Nat.pow_lt_pow_right (by decide) h
  have e2 : ((2 : Int) ^ n) = ((2 ^ n : Nat) : Int) := by simp
  rw [e, Int.one_mul, e2, u64w_nat hlt]
theorem bit_of (s i : Nat) (hs : s < 2 ^ 64) (hi : i < 64) : Go.bits .and .u64 (shr .u64 (s : Int) (i : Int)) 1 = ((s / 2 ^ i % 2 : Nat) : Int) := by
  have e : shr .u64 (s : Int) (i : Int) = ((s / 2 ^ i : Nat) : Int) := by
    unfold shr
    have e : min ((i : Int).toNat) IntKind.u64.bits = i := by simp [IntKind.bits]; omega
    rw [e]; simp
  have hlt : s / 2 ^ i < 18446744073709551616 := Nat.lt_of_le_of_lt (Nat.div_le_self _ _) hs
  rw [e]
  have := u64_and_nat (s / 2 ^ i) 1 hlt (by decide)
  rw [nat_mask1] at this
  exact this
theorem testBit_div (s i : Nat) : s.testBit i = decide (s / 2 ^ i % 2 = 1) := by rw [Nat.testBit_eq_decide_div_mod_eq]
theorem bit_iff (s i : Nat) (hs : s < 2 ^ 64) (hi : i < 64) : (Go.bits .and .u64 (shr .u64 (s : Int) (i : Int)) 1 = 1) ↔ s.testBit i = true := by
  rw [bit_of s i hs hi, testBit_div, decide_eq_true_iff]
  generalize s / 2 ^ i % 2 = q
  omega
def N (U : List Nat) : List Int := U.map fun n : Nat => (n : Int)
def R (U : List Nat) (i : Nat) : Nat := U.getD i 0
theorem N_get (U : List Nat) (i : Nat) : List.getD (N U) ((i : Int)).toNat 0 = ((R U i : Nat) : Int) := by
  simp only [N, R, Int.toNat_natCast, List.getD_eq_getElem?_getD, List.getElem?_map]
  cases U[i]? <;> rfl
theorem N_set (U : List Nat) (i v : Nat) : List.set (N U) ((i : Int)).toNat (v : Int) = N (U.set i v) := by
  simp only [N, Int.toNat_natCast, List.map_set]
theorem R_set (U : List Nat) (i v : Nat) (hi : i < U.length) (r : Nat) : R (U.set i v) r = if r = i then v else R U r := by
  unfold R
  simp only [List.getD_eq_getElem?_getD, List.getElem?_set]
  by_cases h : i = r
  · subst h; simp [hi]
  · have h' : ¬ r = i := fun e => h e.symm
    simp [h, h']
def Ok64 (U : List Nat) : Prop := U.length = 64 ∧ ∀ r, R U r < 2 ^ 64
theorem ok_set {U : List Nat} (h : Ok64 U) {i v : Nat} (hi : i < 64) (hv : v < 2 ^ 64) : Ok64 (U.set i v) := by
  refine ⟨by rw [List.length_set]; exact h.1, fun r => ?_⟩
  rw [R_set U i v (by rw [h.1]; exact hi) r]
  split
  · exact hv
  · exact h.2 r
def rowsFrom (k : Nat) : Nat → Nat → List Nat → List Nat
  | 0, _, U => U
  | d + 1, i, U => rowsFrom k d (i + 1) (if (R U i).testBit k = true then U.set i (R U i ||| R U k) else U)
def allRows (n : Nat) : Nat → Nat → List Nat → List Nat
  | 0, _, U => U
  | d + 1, k, U => allRows n d (k + 1) (rowsFrom k n 0 U)
def downFrom (U : List Nat) (i : Nat) : Nat → Nat → List Nat → List Nat
  | 0, _, D => D
  | d + 1, k, D => downFrom U i d (k + 1) (if (R U k).testBit i = true then D.set i (R D i ||| 2 ^ k) else D)
def allDown (U : List Nat) (n : Nat) : Nat → Nat → List Nat → List Nat
  | 0, _, D => D
  | d + 1, i, D => allDown U n d (i + 1) (downFrom U i n 0 D)
theorem rowsFrom_ok (k : Nat) (hk : k < 64) : ∀ (d i : Nat) (U : List Nat), Ok64 U → i + d ≤ 64 → Ok64 (rowsFrom k d i U)
  | 0, _, _, h, _ => h
  | d + 1, i, U, h, hi => by
    rw [rowsFrom]
    refine rowsFrom_ok k hk d (i + 1) _ ?_ (by omega)
    split
    · exact ok_set h (by omega) (Nat.or_lt_two_pow (h.2 i) (h.2 k))
    · exact h
theorem downFrom_ok (U : List Nat) (i : Nat) (hi : i < 64) : ∀ (d k : Nat) (D : List Nat), Ok64 D → k + d ≤ 64 → Ok64 (downFrom U i d k D)
  | 0, _, _, h, _ => h
  | d + 1, k, D, h, hk => by
    rw [downFrom]
    refine downFrom_ok U i hi d (k + 1) _ ?_ (by omega)
    split
    · exact ok_set h hi (Nat.or_lt_two_pow (h.2 i) (Nat.pow_lt_pow_right (by decide) (by omega)))
    · exact h
theorem allDown_ok (U : List Nat) (n : Nat) (hn : n ≤ 64) : ∀ (d i : Nat) (D : List Nat), Ok64 D → i + d ≤ 64 → Ok64 (allDown U n d i D)
  | 0, _, _, h, _ => h
  | d + 1, i, D, h, hi => allDown_ok U n hn d (i + 1) _ (downFrom_ok U i (by omega) n 0 D h (by omega)) (by omega)
theorem close_l0 (T : List ByteArray) (hT : T.length ≤ 64) (dn : List Int) (kk : Nat) (hkk : kk < T.length) (f : Nat) (d : Nat) : ∀ (i : Nat) (U : List Nat), Ok64 U → i + d = T.length →
    order_Order_close.l0 (f + d + 1) dn T (kk : Int) (i : Int) (N U) = order_Order_close.l3 f dn T ((kk + 1 : Nat) : Int) (N (rowsFrom kk d i U)) := by
  induction d with
  | zero =>
    intro i U hU hi
    rw [order_Order_close.l0, if_neg (by omega), wrap64_id (by omega) (by omega)]
    rfl
  | succ d ih =>
    intro i U hU hi
    rw [show f + (d + 1) + 1 = (f + d + 1) + 1 by omega, order_Order_close.l0, if_pos (by omega), if_pos (by omega), if_pos (by omega), u64w_id (x := (kk : Int)) (by omega) (by omega), if_pos (by omega), N_get, N_get, rowsFrom]
    have hb := bit_iff (R U i) kk (hU.2 i) (by omega)
    by_cases h : (R U i).testBit kk = true
    · rw [if_pos (hb.2 h), if_pos (by omega), if_pos (by omega), if_pos h, u64_or_nat _ _ (hU.2 i) (hU.2 kk), N_set, Option.bind_some, wrap64_id (by omega) (by omega), show (i : Int) + 1 = ((i + 1 : Nat) : Int) by omega]
      exact ih (i + 1) _ (ok_set hU (by omega) (Nat.or_lt_two_pow (hU.2 i) (hU.2 kk))) (by omega)
    · rw [if_neg (fun e => h (hb.1 e)), if_neg h, wrap64_id (by omega) (by omega), show (i : Int) + 1 = ((i + 1 : Nat) : Int) by omega]
      exact ih (i + 1) U hU (by omega)
theorem close_l1 (T : List ByteArray) (hT : T.length ≤ 64) (U : List Nat) (hU : Ok64 U) (i : Nat) (hi : i < T.length) (f : Nat) (d : Nat) : ∀ (k : Nat) (D : List Nat), Ok64 D → k + d = T.length →
    order_Order_close.l1 (f + d + 1) T (N U) (i : Int) (k : Int) (N D) = order_Order_close.l2 f T (N U) ((i + 1 : Nat) : Int) (N (downFrom U i d k D)) := by
  induction d with
  | zero =>
    intro k D hD hk
    rw [order_Order_close.l1, if_neg (by omega), wrap64_id (by omega) (by omega)]
    rfl
  | succ d ih =>
    intro k D hD hk
    rw [show f + (d + 1) + 1 = (f + d + 1) + 1 by omega, order_Order_close.l1, if_pos (by omega), if_pos (by omega), if_pos (by omega), u64w_id (x := (i : Int)) (by omega) (by omega), if_pos (by omega), N_get, N_get, downFrom]
    have hb := bit_iff (R U k) i (hU.2 k) (by omega)
    have h2 : 2 ^ k < 2 ^ 64 := Nat.pow_lt_pow_right (by decide) (by omega)
    by_cases h : (R U k).testBit i = true
    · rw [if_pos (hb.2 h), if_pos (by omega), if_pos (by omega), if_pos h, u64w_id (x := (k : Int)) (by omega) (by omega), if_pos (by omega), shl1 k (by omega), u64_or_nat _ _ (hD.2 i) h2, N_set, Option.bind_some, wrap64_id (by omega) (by omega), show (k : Int) + 1 = ((k + 1 : Nat) : Int) by omega]
      exact ih (k + 1) _ (ok_set hD (by omega) (Nat.or_lt_two_pow (hD.2 i) h2)) (by omega)
    · rw [if_neg (fun e => h (hb.1 e)), if_neg h, wrap64_id (by omega) (by omega), show (k : Int) + 1 = ((k + 1 : Nat) : Int) by omega]
      exact ih (k + 1) D hD (by omega)
theorem close_l2 (T : List ByteArray) (hT : T.length ≤ 64) (U : List Nat) (hU : Ok64 U) (f : Nat) (d : Nat) : ∀ (i : Nat) (D : List Nat), Ok64 D → i + d = T.length →
    order_Order_close.l2 (f + d * (T.length + 2) + 1) T (N U) (i : Int) (N D) = some (N U, N (allDown U T.length d i D)) := by
  induction d with
  | zero =>
    intro i D hD hi
    rw [order_Order_close.l2, if_neg (by omega)]
    rfl
  | succ d ih =>
    intro i D hD hi
    rw [order_Order_close.l2, if_pos (by omega), show f + (d + 1) * (T.length + 2) = (f + d * (T.length + 2) + 1) + T.length + 1 by rw [Nat.add_mul]; omega]
    have := close_l1 T hT U hU i (by omega) (f + d * (T.length + 2) + 1) T.length 0 D hD (by omega)
    rw [show ((0 : Nat) : Int) = 0 from rfl] at this
    rw [this, allDown]
    exact ih (i + 1) _ (downFrom_ok U i (by omega) _ 0 D hD (by omega)) (by omega)
theorem close_l3 (T : List ByteArray) (hT : T.length ≤ 64) (D : List Nat) (hD : Ok64 D) (f : Nat) (d : Nat) : ∀ (kk : Nat) (U : List Nat), Ok64 U → kk + d = T.length →
    order_Order_close.l3 (f + T.length * (T.length + 2) + 1 + d * (T.length + 2) + 1) (N D) T (kk : Int) (N U) = some (N (allRows T.length d kk U), N (allDown (allRows T.length d kk U) T.length T.length 0 D)) := by
  induction d with
  | zero =>
    intro kk U hU hk
    rw [order_Order_close.l3, if_neg (by omega), Nat.zero_mul, Nat.add_zero]
    exact close_l2 T hT U hU f T.length 0 D hD (by omega)
  | succ d ih =>
    intro kk U hU hk
    rw [order_Order_close.l3, if_pos (by omega), show f + T.length * (T.length + 2) + 1 + (d + 1) * (T.length + 2) = (f + T.length * (T.length + 2) + 1 + d * (T.length + 2) + 1) + T.length + 1 by rw [Nat.add_mul d]; omega]
    have := close_l0 T hT (N D) kk (by omega) (f + T.length * (T.length + 2) + 1 + d * (T.length + 2) + 1) T.length 0 U hU (by omega)
    rw [show ((0 : Nat) : Int) = 0 from rfl] at this
    rw [this, allRows]
    exact ih (kk + 1) _ (rowsFrom_ok kk (by omega) _ 0 U hU (by omega)) (by omega)
theorem close_tells (T : List ByteArray) (hT : T.length ≤ 64) (m : List (ByteArray × Int)) (U D : List Nat) (hU : Ok64 U) (hD : Ok64 D) (k : Nat) (hk : 10000 ≤ k) :
    order_Order_close.f k T m (N U) (N D) = some (N (allRows T.length T.length 0 U), N (allDown (allRows T.length T.length 0 U) T.length T.length 0 D)) := by
  have hb : T.length * (T.length + 2) ≤ 64 * 66 := Nat.mul_le_mul hT (by omega)
  have := close_l3 T hT D hD (k - 2 - T.length * (T.length + 2) - T.length * (T.length + 2)) T.length 0 U hU (by omega)
  rw [show k - 2 - T.length * (T.length + 2) - T.length * (T.length + 2) + T.length * (T.length + 2) + 1 + T.length * (T.length + 2) + 1 = k by omega] at this
  exact this
def M (U : List Nat) (i j : Nat) : Prop := (R U i).testBit j = true
theorem rows_R (k : Nat) (U0 : List Nat) : ∀ (d i : Nat) (V : List Nat), V.length = 64 → i + d ≤ 64 → (∀ r, R V r = if r < i ∧ (R U0 r).testBit k = true then R U0 r ||| R U0 k else R U0 r) →
    ∀ r, R (rowsFrom k d i V) r = if r < i + d ∧ (R U0 r).testBit k = true then R U0 r ||| R U0 k else R U0 r
  | 0, _, _, _, _, h => h
  | d + 1, i, V, hl, hi, h => by
    have hVi : R V i = R U0 i := by rw [h i, if_neg (by omega)]
    have hVk : R V k = R U0 k := by
      rw [h k]
      split
      · exact Nat.or_self _
      · rfl
    rw [rowsFrom, hVi, hVk]
    have step : ∀ r, R (if (R U0 i).testBit k = true then V.set i (R U0 i ||| R U0 k) else V) r = if r < i + 1 ∧ (R U0 r).testBit k = true then R U0 r ||| R U0 k else R U0 r := by
      intro r
      by_cases hb : (R U0 i).testBit k = true
      · rw [if_pos hb, R_set V i _ (by omega) r]
        by_cases e : r = i
        · subst e; rw [if_pos rfl, if_pos ⟨by omega, hb⟩]
        · rw [if_neg e, h r]
          by_cases e2 : r < i
          · by_cases e3 : (R U0 r).testBit k = true
            · rw [if_pos ⟨e2, e3⟩, if_pos ⟨by omega, e3⟩]
            · rw [if_neg (fun z => e3 z.2), if_neg (fun z => e3 z.2)]
          · rw [if_neg (fun z => e2 z.1), if_neg (fun z => by omega)]
      · rw [if_neg hb, h r]
        by_cases e : r = i
        · subst e; rw [if_neg (fun z => hb z.2), if_neg (fun z => hb z.2)]
        · by_cases e2 : r < i
          · by_cases e3 : (R U0 r).testBit k = true
            · rw [if_pos ⟨e2, e3⟩, if_pos ⟨by omega, e3⟩]
            · rw [if_neg (fun z => e3 z.2), if_neg (fun z => e3 z.2)]
          · rw [if_neg (fun z => e2 z.1), if_neg (fun z => by omega)]
    have := rows_R k U0 d (i + 1) _ (by split <;> simp [hl]) (by omega) step
    rw [show i + (d + 1) = i + 1 + d by omega]
    exact this
theorem rows_M (k n : Nat) (hn : n ≤ 64) (U : List Nat) (hU : Ok64 U) (i j : Nat) : M (rowsFrom k n 0 U) i j ↔ M U i j ∨ (i < n ∧ M U i k ∧ M U k j) := by
  unfold M
  rw [rows_R k U n 0 U hU.1 (by omega) (fun r => by rw [if_neg (by omega)]) i, Nat.zero_add]
  by_cases h : i < n ∧ (R U i).testBit k = true
  · rw [if_pos h, Nat.testBit_or, Bool.or_eq_true]
    constructor
    · rintro (a | a)
      · exact .inl a
      · exact .inr ⟨h.1, h.2, a⟩
    · rintro (a | a)
      · exact .inl a
      · exact .inr a.2.2
  · rw [if_neg h]
    constructor
    · exact .inl
    · rintro (a | a)
      · exact a
      · exact absurd ⟨a.1, a.2.1⟩ h
structure Cl (n : Nat) (U0 U : List Nat) (k : Nat) : Prop where
  ok : Ok64 U
  up : ∀ i j, M U0 i j → M U i j
  le : ∀ S : Nat → Nat → Prop, (∀ a b c, S a b → S b c → S a c) → (∀ i j, M U0 i j → S i j) → ∀ i j, M U i j → S i j
  rf : ∀ i, i < n → M U i i
  bd : ∀ i j, M U i j → i < n ∧ j < n
  tr : ∀ m, m < k → ∀ i j, M U i m → M U m j → M U i j
theorem cl_step {n : Nat} (hn : n ≤ 64) {U0 U : List Nat} {k : Nat} (h : Cl n U0 U k) (hk : k < n) : Cl n U0 (rowsFrom k n 0 U) (k + 1) := by
  have e := rows_M k n hn U h.ok
  refine ⟨rowsFrom_ok k (by omega) n 0 U h.ok (by omega), fun i j a => (e i j).2 (.inl (h.up i j a)), fun S hS h0 i j a => ?_, fun i hi => (e i i).2 (.inl (h.rf i hi)), fun i j a => ?_, fun m hm i j a b => ?_⟩
  · rcases (e i j).1 a with a | a
    · exact h.le S hS h0 i j a
    · exact hS i k j (h.le S hS h0 i k a.2.1) (h.le S hS h0 k j a.2.2)
  · rcases (e i j).1 a with a | a
    · exact h.bd i j a
    · exact ⟨a.1, (h.bd k j a.2.2).2⟩
  · have in_ : ∀ {x y}, M U x y → x < n := fun z => (h.bd _ _ z).1
    by_cases hm' : m = k
    · subst hm'
      have a' : M U i m := by rcases (e i m).1 a with a | a; exact a; exact a.2.1
      have b' : M U m j := by rcases (e m j).1 b with b | b; exact b; exact b.2.2
      exact (e i j).2 (.inr ⟨in_ a', a', b'⟩)
    · have hm2 : m < k := by omega
      rcases (e i m).1 a with a | a <;> rcases (e m j).1 b with b | b
      · exact (e i j).2 (.inl (h.tr m hm2 i j a b))
      · exact (e i j).2 (.inr ⟨in_ a, h.tr m hm2 i k a b.2.1, b.2.2⟩)
      · exact (e i j).2 (.inr ⟨a.1, a.2.1, h.tr m hm2 k j a.2.2 b⟩)
      · exact (e i j).2 (.inr ⟨a.1, a.2.1, b.2.2⟩)
theorem cl_all {n : Nat} (hn : n ≤ 64) {U0 : List Nat} : ∀ (d k : Nat) (U : List Nat), Cl n U0 U k → k + d = n → Cl n U0 (allRows n d k U) n
  | 0, k, U, h, hk => by have e : k = n := by omega
                         subst e; exact h
  | d + 1, k, U, h, hk => cl_all hn d (k + 1) _ (cl_step hn h (by omega)) (by omega)
theorem closed {n : Nat} (hn : n ≤ 64) {U0 : List Nat} (hU : Ok64 U0) (hr : ∀ i, i < n → M U0 i i) (hb : ∀ i j, M U0 i j → i < n ∧ j < n) : Cl n U0 (allRows n n 0 U0) n :=
  cl_all hn n 0 U0 ⟨hU, fun _ _ a => a, fun _ _ h0 i j a => h0 i j a, hr, hb, fun m hm => absurd hm (by omega)⟩ (by omega)
theorem trans_ {n : Nat} {U0 U : List Nat} (h : Cl n U0 U n) {a b c : Nat} (x : M U a b) (y : M U b c) : M U a c := h.tr b (h.bd a b x).2 a c x y
theorem pow_bit (n j : Nat) : (2 ^ n).testBit j = decide (n = j) := Nat.testBit_two_pow
theorem down_M (U : List Nat) (i : Nat) (hi : i < 64) : ∀ (d k : Nat) (D : List Nat), D.length = 64 → ∀ r j, M (downFrom U i d k D) r j ↔ M D r j ∨ (r = i ∧ k ≤ j ∧ j < k + d ∧ M U j i)
  | 0, k, D, hD, r, j => by
    constructor
    · exact .inl
    · rintro (a | a)
      · exact a
      · omega
  | d + 1, k, D, hD, r, j => by
    rw [downFrom, down_M U i hi d (k + 1) _ (by split <;> simp [hD]) r j]
    by_cases h : (R U k).testBit i = true
    · rw [if_pos h]
      unfold M at *
      rw [R_set D i _ (by omega) r]
      by_cases e : r = i
      · subst e
        rw [if_pos rfl, Nat.testBit_or, Bool.or_eq_true, pow_bit, decide_eq_true_iff]
        constructor
        · rintro ((a | a) | a)
          · exact .inl a
          · subst a; exact .inr ⟨rfl, Nat.le_refl _, by omega, h⟩
          · exact .inr ⟨rfl, by omega, by omega, a.2.2.2⟩
        · rintro (a | a)
          · exact .inl (.inl a)
          · by_cases e : k = j
            · exact .inl (.inr e)
            · exact .inr ⟨rfl, by omega, by omega, a.2.2.2⟩
      · rw [if_neg e]
        constructor
        · rintro (a | a)
          · exact .inl a
          · exact absurd a.1 e
        · rintro (a | a)
          · exact .inl a
          · exact absurd a.1 e
    · rw [if_neg h]
      constructor
      · rintro (a | a)
        · exact .inl a
        · exact .inr ⟨a.1, by omega, by omega, a.2.2.2⟩
      · rintro (a | a)
        · exact .inl a
        · by_cases e : k = j
          · subst e; exact absurd a.2.2.2 h
          · exact .inr ⟨a.1, by omega, by omega, a.2.2.2⟩
theorem alldown_M (U : List Nat) (n : Nat) (hn : n ≤ 64) : ∀ (d i : Nat) (D : List Nat), Ok64 D → i + d ≤ 64 → ∀ r j, M (allDown U n d i D) r j ↔ M D r j ∨ (i ≤ r ∧ r < i + d ∧ j < n ∧ M U j r)
  | 0, i, D, hD, hi, r, j => by
    constructor
    · exact .inl
    · rintro (a | a)
      · exact a
      · omega
  | d + 1, i, D, hD, hi, r, j => by
    rw [allDown, alldown_M U n hn d (i + 1) _ (downFrom_ok U i (by omega) n 0 D hD (by omega)) (by omega) r j, down_M U i (by omega) n 0 D hD.1 r j]
    constructor
    · rintro ((a | a) | a)
      · exact .inl a
      · have := a.1; subst this; exact .inr ⟨by omega, by omega, by omega, a.2.2.2⟩
      · exact .inr ⟨by omega, by omega, a.2.2.1, a.2.2.2⟩
    · rintro (a | a)
      · exact .inl (.inl a)
      · by_cases e : r = i
        · subst e; exact .inl (.inr ⟨rfl, by omega, by omega, a.2.2.2⟩)
        · exact .inr ⟨by omega, by omega, a.2.2.1, a.2.2.2⟩
def Z64 : List Nat := List.replicate 64 0
theorem Z_N : N Z64 = List.replicate 64 (0 : Int) := by simp [N, Z64]
theorem Z_R (r : Nat) : R Z64 r = 0 := by
  unfold R Z64
  rw [List.getD_eq_getElem?_getD, List.getElem?_replicate]
  split <;> rfl
theorem Z_ok : Ok64 Z64 := ⟨List.length_replicate, fun r => by rw [Z_R]; decide⟩
theorem Z_M (i j : Nat) : ¬ M Z64 i j := by unfold M; rw [Z_R]; simp
def addP (T : List ByteArray) (U : List Nat) (x : ByteArray) : Option (Nat × List ByteArray × List Nat) := if x ∈ T then some (at_ T x, T, U) else if T.length = 64 then none else some (T.length, T ++ [x], U.set T.length (2 ^ T.length))
theorem add_tells (T : List ByteArray) (hT : T.length ≤ 64) (U : List Nat) (dn : List Int) (x : ByteArray) : order_Order_add.f T (idx T) (N U) dn x = some (match addP T U x with | some r => ((r.1 : Int), true, r.2.1, idx r.2.1, N r.2.2) | none => (0, false, T, idx T, N U)) := by
  have h1 := idx_has T x 0
  have h2 := idx_get T x 0
  have e : idxFrom T 0 = idx T := rfl
  rw [e] at h1 h2
  unfold order_Order_add.f addP
  rw [h1]
  by_cases h : x ∈ T
  · rw [if_pos (by simp [h]), if_pos h, h2 h, Nat.zero_add]
  · rw [if_neg (by simp [h]), if_neg h]
    by_cases h3 : T.length = 64
    · rw [if_pos (by omega), if_pos h3]
    · rw [if_neg (by omega), if_neg h3, Option.bind_some, if_pos (by omega), Option.bind_some, u64w_id (x := (T.length : Int)) (by omega) (by omega), if_pos (by omega), if_pos (by omega), if_pos (by omega), idx_put T x h, shl1 _ (by omega), N_set, Option.bind_some]
def pairP (T : List ByteArray) (U : List Nat) (p : S53) : Int × List ByteArray × List Nat :=
  if identB p.f0 = true ∧ (p.f1 = (⟨#[]⟩ : ByteArray) ∨ identB p.f1 = true) then
    match addP T U p.f0 with
    | none => (8, T, U)
    | some a => if p.f1 = (⟨#[]⟩ : ByteArray) then (0, a.2) else
      match addP a.2.1 a.2.2 p.f1 with
      | none => (8, a.2)
      | some b => (0, b.2.1, b.2.2.set a.1 (R b.2.2 a.1 ||| 2 ^ b.1))
  else (1, T, U)
theorem addP_ok {T : List ByteArray} {U : List Nat} {x : ByteArray} (hT : T.length ≤ 64) (hU : Ok64 U) {r : Nat × List ByteArray × List Nat} (h : addP T U x = some r) : r.1 < r.2.1.length ∧ r.2.1.length ≤ 64 ∧ Ok64 r.2.2 ∧ T.length ≤ r.2.1.length := by
  unfold addP at h
  split at h
  · rename_i hm
    injection h with h; subst h
    exact ⟨at_lt T x hm, hT, hU, Nat.le_refl _⟩
  · split at h
    · cases h
    · injection h with h; subst h
      refine ⟨by simp, by simp; omega, ok_set hU (by omega) (Nat.pow_lt_pow_right (by decide) (by omega)), by simp⟩
theorem pair_tells (k : Nat) (hk : 100 ≤ k) (T : List ByteArray) (hT : T.length ≤ 64) (U : List Nat) (hU : Ok64 U) (dn : List Int) (p : S53) :
    order_Order_pair.f k T (idx T) (N U) dn p.f0 p.f1 p.f2 = some ((pairP T U p).1, (pairP T U p).2.1, idx (pairP T U p).2.1, N (pairP T U p).2.2) := by
  have bad : ∀ k, 1 ≤ k → order_Order_pair.j0 k (N U) dn p.f0 p.f1 T (idx T) true = some (1, T, idx T, N U) := by
    intro k hk
    obtain ⟨k, rfl⟩ : ∃ n, k = n + 1 := ⟨k - 1, by omega⟩
    rw [order_Order_pair.j0, if_pos rfl]
  have good : ∀ k, 1 ≤ k → identB p.f0 = true ∧ (p.f1 = (⟨#[]⟩ : ByteArray) ∨ identB p.f1 = true) → order_Order_pair.j0 k (N U) dn p.f0 p.f1 T (idx T) false = some ((pairP T U p).1, (pairP T U p).2.1, idx (pairP T U p).2.1, N (pairP T U p).2.2) := by
    intro k hk hg
    obtain ⟨k, rfl⟩ : ∃ n, k = n + 1 := ⟨k - 1, by omega⟩
    rw [order_Order_pair.j0, if_neg (by decide), add_tells T hT U dn p.f0, Option.bind_some]
    unfold pairP
    rw [if_pos hg]
    cases ha : addP T U p.f0 with
    | none => rfl
    | some a =>
      obtain ⟨ai, aT, aU⟩ := a
      obtain ⟨q1, q2, q3, q4⟩ := addP_ok hT hU ha
      dsimp only at q1 q2 q3 q4 ⊢
      rw [if_pos rfl]
      by_cases h1 : p.f1 = (⟨#[]⟩ : ByteArray)
      · rw [if_pos h1, if_pos h1]
      · rw [if_neg h1, if_neg h1, add_tells aT q2 aU dn p.f1, Option.bind_some]
        cases hb : addP aT aU p.f1 with
        | none => rfl
        | some b =>
          obtain ⟨bi, bT, bU⟩ := b
          obtain ⟨z1, z2, z3, z4⟩ := addP_ok q2 q3 hb
          dsimp only at z1 z2 z3 z4 ⊢
          have hp : 2 ^ bi < 2 ^ 64 := Nat.pow_lt_pow_right (by decide) (by omega)
          rw [if_pos rfl, if_pos (by omega), if_pos (by omega), u64w_id (x := (bi : Int)) (by omega) (by omega), if_pos (by omega), N_get, shl1 _ (by omega), u64_or_nat _ _ (z3.2 ai) hp, N_set, Option.bind_some]
  unfold order_Order_pair.f
  rw [ident_tells k _ (by omega), Option.bind_some]
  by_cases h0 : identB p.f0 = true
  · rw [if_pos h0]
    by_cases h1 : p.f1 = (⟨#[]⟩ : ByteArray)
    · rw [if_pos h1]; exact good k (by omega) ⟨h0, .inl h1⟩
    · rw [if_neg h1, ident_tells k _ (by omega), Option.bind_some]
      by_cases h2 : identB p.f1 = true
      · rw [h2]; exact good k (by omega) ⟨h0, .inr h2⟩
      · rw [Bool.eq_false_iff.2 h2]
        have := bad k (by omega)
        rw [Bool.not_false, this]
        unfold pairP
        rw [if_neg (fun z => by rcases z.2 with z | z; exact h1 z; exact h2 z)]
  · rw [if_neg h0, bad k (by omega)]
    unfold pairP
    rw [if_neg (fun z => h0 z.1)]
theorem pairP_ok {T : List ByteArray} {U : List Nat} {p : S53} (hT : T.length ≤ 64) (hU : Ok64 U) : (pairP T U p).2.1.length ≤ 64 ∧ Ok64 (pairP T U p).2.2 := by
  unfold pairP
  split
  · cases ha : addP T U p.f0 with
    | none => exact ⟨hT, hU⟩
    | some a =>
      obtain ⟨ai, aT, aU⟩ := a
      obtain ⟨q1, q2, q3, q4⟩ := addP_ok hT hU ha
      dsimp only at q1 q2 q3 q4 ⊢
      split
      · exact ⟨q2, q3⟩
      · cases hb : addP aT aU p.f1 with
        | none => exact ⟨q2, q3⟩
        | some b =>
          obtain ⟨bi, bT, bU⟩ := b
          obtain ⟨z1, z2, z3, z4⟩ := addP_ok q2 q3 hb
          dsimp only at z1 z2 z3 z4 ⊢
          exact ⟨z2, ok_set z3 (by omega) (Nat.or_lt_two_pow (z3.2 ai) (Nat.pow_lt_pow_right (by decide) (by omega)))⟩
  · exact ⟨hT, hU⟩
def build : List S53 → Nat → List ByteArray → List Nat → Int × Nat × List ByteArray × List Nat
  | [], _, T, U => (0, 0, T, U)
  | p :: L, i, T, U => if (pairP T U p).1 = 0 then build L (i + 1) (pairP T U p).2.1 (pairP T U p).2.2 else ((pairP T U p).1, i, T, U)
instance (U : List Nat) (i j : Nat) : Decidable (M U i j) := by unfold M; exact inferInstance
def turned (T : List ByteArray) (U : List Nat) : List S53 → Nat → Option Nat
  | [], _ => none
  | p :: L, i => if p.f1 = (⟨#[]⟩ : ByteArray) then turned T U L (i + 1) else if M U (at_ T p.f1) (at_ T p.f0) then some i else turned T U L (i + 1)
theorem len_tells (o : S81) : order_Order_Len.f (some o) = some (o.f0.length : Int) := rfl
theorem in_tells (o : S81) (a : Nat) : order_Order_in.f (some o) (a : Int) = some (decide (a < o.f0.length)) := by
  unfold order_Order_in.f
  rw [if_pos (by omega), len_tells, Option.bind_some]
  congr 1
  rw [Bool.eq_iff_iff]; simp
theorem most_tells (T : List ByteArray) (hT : T.length ≤ 64) (m : List (ByteArray × Int)) (U : List Nat) (hU : Ok64 U) (D : List Int) (a b : Nat) :
    order_Order_Most.f (some ⟨T, m, N U, D⟩) (a : Int) (b : Int) = some (decide (a < T.length ∧ b < T.length ∧ M U a b)) := by
  unfold order_Order_Most.f
  rw [in_tells, Option.bind_some]
  dsimp only
  by_cases h1 : a < T.length
  · rw [decide_eq_true h1, if_pos rfl, in_tells, Option.bind_some]
    dsimp only
    by_cases h2 : b < T.length
    · rw [decide_eq_true h2, if_pos rfl]
      dsimp only [onOpt]
      rw [if_pos (by omega), if_pos (by omega), u64w_id (x := (b : Int)) (by omega) (by omega), if_pos (by omega), N_get]
      congr 1
      rw [Bool.eq_iff_iff, decide_eq_true_iff, decide_eq_true_iff, bit_iff _ b (hU.2 a) (by omega)]
      exact ⟨fun z => ⟨h1, h2, z⟩, fun z => z.2.2⟩
    · rw [decide_eq_false h2, if_neg (by decide), decide_eq_false (fun z => h2 z.2.1)]
  · rw [decide_eq_false h1, if_neg (by decide), decide_eq_false (fun z => h1 z.1)]
theorem rd53 (L : List S53) (i : Nat) (h : i < L.length) : rd_T53 L (i : Int) = L[i] := by simp [rd_T53, List.getD_eq_getElem?_getD, h]
def ordOf (T : List ByteArray) (U : List Nat) : S81 := ⟨T, idx T, N (allRows T.length T.length 0 U), N (allDown (allRows T.length T.length 0 U) T.length T.length 0 Z64)⟩
def newP (L : List S53) : Option S81 × Int × Int :=
  match build L 0 [] Z64 with
  | (e, i, T, U) => if e = 0 then (match turned T (allRows T.length T.length 0 U) L 0 with
    | some j => (none, (j : Int), 16)
    | none => (some (ordOf T U), 0, 0)) else (none, (i : Int), e)
theorem at_bound (T : List ByteArray) (x : ByteArray) : mget 0 (idx T) x = if x ∈ T then ((at_ T x : Nat) : Int) else 0 := by
  have h1 := idx_has T x 0
  have h2 := idx_get T x 0
  have e : idxFrom T 0 = idx T := rfl
  rw [e] at h1 h2
  by_cases h : x ∈ T
  · rw [if_pos h, h2 h, Nat.zero_add]
  · rw [if_neg h, mget_not (by rw [h1]; simp [h])]
theorem new_l0 (T : List ByteArray) (hT : T.length ≤ 64) (U : List Nat) (hU : Ok64 U) (D : List Int) (L : List S53) (hL : L.length ≤ 1000000) (hm : ∀ p ∈ L, p.f0 ∈ T ∧ (p.f1 ≠ (⟨#[]⟩ : ByteArray) → p.f1 ∈ T)) (hb : ∀ i j, M U i j → i < T.length ∧ j < T.length) (d : Nat) : ∀ (k i : Nat), i ≤ L.length → L.length - i = d → d < k →
    order_New.l0 k L (N U) D T (idx T) (i : Int) = some (match turned T U (L.drop i) i with | some j => (none, (j : Int), 16) | none => (some ⟨T, idx T, N U, D⟩, 0, 0)) := by
  induction d with
  | zero =>
    intro k i hi hd hk
    obtain ⟨k, rfl⟩ : ∃ n, k = n + 1 := ⟨k - 1, by omega⟩
    rw [order_New.l0, if_neg (by omega), List.drop_eq_nil_of_le (by omega)]
    rfl
  | succ d ih =>
    intro k i hi hd hk
    obtain ⟨k, rfl⟩ : ∃ n, k = n + 1 := ⟨k - 1, by omega⟩
    have nx := ih k (i + 1) (by omega) (by omega) (by omega)
    have hp := hm L[i] (List.getElem_mem _)
    rw [order_New.l0, if_pos (by omega), if_pos (by omega), rd53 L i (by omega), List.drop_eq_getElem_cons (by omega), turned, wrap64_id (by omega) (by omega), show (i : Int) + 1 = ((i + 1 : Nat) : Int) by omega, nx]
    by_cases h1 : L[i].f1 = (⟨#[]⟩ : ByteArray)
    · rw [if_pos h1, if_pos h1]
    · have h2 := hp.2 h1
      rw [if_neg h1, if_neg h1, at_bound, at_bound, if_pos h2, if_pos hp.1, most_tells T hT _ U hU, Option.bind_some]
      by_cases h3 : M U (at_ T L[i].f1) (at_ T L[i].f0)
      · rw [decide_eq_true ⟨at_lt T _ h2, at_lt T _ hp.1, h3⟩, if_pos rfl, if_pos h3]
      · rw [decide_eq_false (fun z => h3 z.2.2), if_neg (by decide), if_neg h3]
structure Inv (P : List S53) (T : List ByteArray) (U : List Nat) : Prop where
  nd : T.Nodup
  le : T.length ≤ 64
  ok : Ok64 U
  mem : ∀ x, x ∈ T ↔ ∃ p ∈ P, p.f0 = x ∨ (p.f1 = x ∧ p.f1 ≠ (⟨#[]⟩ : ByteArray))
  edge : ∀ i j, M U i j ↔ (i < T.length ∧ i = j) ∨ ∃ p ∈ P, p.f1 ≠ (⟨#[]⟩ : ByteArray) ∧ at_ T p.f0 = i ∧ at_ T p.f1 = j
theorem at_app (T : List ByteArray) (x y : ByteArray) (h : y ∈ T) : at_ (T ++ [x]) y = at_ T y := by
  induction T with
  | nil => simp at h
  | cons t T ih =>
    simp only [List.cons_append, at_]
    by_cases e : t = y
    · rw [if_pos e, if_pos e]
    · rw [if_neg e, if_neg e]
      rcases List.mem_cons.1 h with h | h
      · exact absurd h.symm e
      · rw [ih h]
theorem at_new (T : List ByteArray) (x : ByteArray) (h : x ∉ T) : at_ (T ++ [x]) x = T.length := by
  induction T with
  | nil => simp [at_]
  | cons t T ih =>
    rw [List.mem_cons, not_or] at h
    simp only [List.cons_append, at_, List.length_cons]
    rw [if_neg (fun e => h.1 e.symm), ih h.2]
theorem add_inv {E : ByteArray → ByteArray → Prop} {T : List ByteArray} {U : List Nat} {x : ByteArray} (nd : T.Nodup) (hT : T.length ≤ 64) (hU : Ok64 U) (hE : ∀ a b, E a b → a ∈ T ∧ b ∈ T)
    (he : ∀ i j, M U i j ↔ (i < T.length ∧ i = j) ∨ ∃ a b, E a b ∧ at_ T a = i ∧ at_ T b = j) {r : Nat × List ByteArray × List Nat} (h : addP T U x = some r) :
    r.2.1.Nodup ∧ (∀ y, y ∈ r.2.1 ↔ y ∈ T ∨ y = x) ∧ r.1 = at_ r.2.1 x ∧ (∀ i j, M r.2.2 i j ↔ (i < r.2.1.length ∧ i = j) ∨ ∃ a b, E a b ∧ at_ r.2.1 a = i ∧ at_ r.2.1 b = j) := by
  unfold addP at h
  split at h
  · rename_i hm
    injection h with h; subst h
    exact ⟨nd, fun y => ⟨.inl, fun z => by rcases z with z | z; exact z; exact z ▸ hm⟩, rfl, he⟩
  · rename_i hm
    split at h
    · cases h
    · rename_i h64
      injection h with h; subst h
      dsimp only
      refine ⟨?_, fun y => by simp, (at_new T x hm).symm, fun i j => ?_⟩
      · rw [List.nodup_append]
        exact ⟨nd, by simp, fun a ha b hb e => by simp at hb; subst hb; exact hm (e ▸ ha)⟩
      · have e2 : (∃ a b, E a b ∧ at_ (T ++ [x]) a = i ∧ at_ (T ++ [x]) b = j) ↔ ∃ a b, E a b ∧ at_ T a = i ∧ at_ T b = j := by
          constructor <;> rintro ⟨a, b, z, z1, z2⟩ <;> refine ⟨a, b, z, ?_⟩
          · rw [at_app _ _ _ (hE a b z).1] at z1; rw [at_app _ _ _ (hE a b z).2] at z2; exact ⟨z1, z2⟩
          · rw [at_app _ _ _ (hE a b z).1, at_app _ _ _ (hE a b z).2]; exact ⟨z1, z2⟩
        rw [e2]
        unfold M at he ⊢
        rw [R_set U T.length _ (by rw [hU.1]; omega) i]
        by_cases e : i = T.length
        · subst e
          rw [if_pos rfl, pow_bit, decide_eq_true_iff]
          constructor
          · intro z; exact .inl ⟨by simp, z⟩
          · rintro (z | ⟨a, b, z, z1, z2⟩)
            · exact z.2
            · have := at_lt T a (hE a b z).1; omega
        · rw [if_neg e, he i j]
          constructor
          · rintro (z | z)
            · exact .inl ⟨by simp; omega, z.2⟩
            · exact .inr z
          · rintro (z | z)
            · exact .inl ⟨by have := z.1; simp at this; omega, z.2⟩
            · exact .inr z
theorem addP_at {T : List ByteArray} {U : List Nat} {x : ByteArray} {r : Nat × List ByteArray × List Nat} (h : addP T U x = some r) : ∀ y ∈ T, at_ r.2.1 y = at_ T y := by
  unfold addP at h
  split at h
  · injection h with h; subst h; intro y _; rfl
  · split at h
    · cases h
    · injection h with h; subst h
      intro y hy; exact at_app T x y hy
def Edge (P : List S53) (a b : ByteArray) : Prop := ∃ p ∈ P, p.f1 ≠ (⟨#[]⟩ : ByteArray) ∧ p.f0 = a ∧ p.f1 = b
theorem edge_iff (P : List S53) (T : List ByteArray) (i j : Nat) : (∃ p ∈ P, p.f1 ≠ (⟨#[]⟩ : ByteArray) ∧ at_ T p.f0 = i ∧ at_ T p.f1 = j) ↔ ∃ a b, Edge P a b ∧ at_ T a = i ∧ at_ T b = j := by
  constructor
  · rintro ⟨p, hp, h1, h2, h3⟩; exact ⟨p.f0, p.f1, ⟨p, hp, h1, rfl, rfl⟩, h2, h3⟩
  · rintro ⟨a, b, ⟨p, hp, h1, rfl, rfl⟩, h2, h3⟩; exact ⟨p, hp, h1, h2, h3⟩
theorem pair_inv {P : List S53} {T : List ByteArray} {U : List Nat} (h : Inv P T U) (p : S53) (h0 : (pairP T U p).1 = 0) : Inv (P ++ [p]) (pairP T U p).2.1 (pairP T U p).2.2 := by
  have hE : ∀ a b, Edge P a b → a ∈ T ∧ b ∈ T := by
    rintro a b ⟨q, hq, h1, rfl, rfl⟩
    exact ⟨(h.mem _).2 ⟨q, hq, .inl rfl⟩, (h.mem _).2 ⟨q, hq, .inr ⟨rfl, h1⟩⟩⟩
  have he : ∀ i j, M U i j ↔ (i < T.length ∧ i = j) ∨ ∃ a b, Edge P a b ∧ at_ T a = i ∧ at_ T b = j := fun i j => by rw [← edge_iff]; exact h.edge i j
  have okp := pairP_ok (p := p) h.le h.ok
  unfold pairP at h0 okp ⊢
  split at h0
  · rename_i hid
    rw [if_pos hid] at okp ⊢
    cases ha : addP T U p.f0 with
    | none => rw [ha] at h0; simp at h0
    | some a =>
      obtain ⟨ai, aT, aU⟩ := a
      obtain ⟨q1, q2, q3, q4⟩ := addP_ok h.le h.ok ha
      obtain ⟨z1, z2, z3, z4⟩ := add_inv h.nd h.le h.ok hE he ha
      rw [ha] at h0 okp
      dsimp only at h0 okp q1 q2 q3 q4 z1 z2 z3 z4 ⊢
      by_cases h1 : p.f1 = (⟨#[]⟩ : ByteArray)
      · rw [if_pos h1]
        refine ⟨z1, q2, q3, fun x => ?_, fun i j => ?_⟩
        · dsimp only
          rw [z2 x, h.mem x]
          constructor
          · rintro (⟨q, hq, z⟩ | z)
            · exact ⟨q, by simp [hq], z⟩
            · exact ⟨p, by simp, .inl z.symm⟩
          · rintro ⟨q, hq, z⟩
            rw [List.mem_append, List.mem_singleton] at hq
            rcases hq with hq | hq
            · exact .inl ⟨q, hq, z⟩
            · subst hq
              rcases z with z | z
              · exact .inr z.symm
              · exact absurd h1 z.2
        · dsimp only
          rw [z4 i j, ← edge_iff]
          have : (∃ q ∈ P ++ [p], q.f1 ≠ (⟨#[]⟩ : ByteArray) ∧ at_ aT q.f0 = i ∧ at_ aT q.f1 = j) ↔ ∃ q ∈ P, q.f1 ≠ (⟨#[]⟩ : ByteArray) ∧ at_ aT q.f0 = i ∧ at_ aT q.f1 = j := by
            constructor
            · rintro ⟨q, hq, z⟩
              rw [List.mem_append, List.mem_singleton] at hq
              rcases hq with hq | hq
              · exact ⟨q, hq, z⟩
              · subst hq; exact absurd h1 z.1
            · rintro ⟨q, hq, z⟩; exact ⟨q, by simp [hq], z⟩
          rw [this]
      · rw [if_neg h1] at h0 okp ⊢
        have hE2 : ∀ a b, Edge P a b → a ∈ aT ∧ b ∈ aT := fun a b z => ⟨(z2 a).2 (.inl (hE a b z).1), (z2 b).2 (.inl (hE a b z).2)⟩
        cases hb : addP aT aU p.f1 with
        | none => rw [hb] at h0; simp at h0
        | some b =>
          obtain ⟨bi, bT, bU⟩ := b
          obtain ⟨y1, y2, y3, y4⟩ := addP_ok q2 q3 hb
          obtain ⟨x1, x2, x3, x4⟩ := add_inv z1 q2 q3 hE2 z4 hb
          have xa := addP_at hb
          rw [hb] at okp
          dsimp only at okp y1 y2 y3 y4 x1 x2 x3 x4 xa ⊢
          have e0 : at_ bT p.f0 = ai := by rw [xa p.f0 ((z2 _).2 (.inr rfl)), z3]
          refine ⟨x1, y2, okp.2, fun x => ?_, fun i j => ?_⟩
          · rw [x2 x, z2 x, h.mem x]
            constructor
            · rintro ((⟨q, hq, z⟩ | z) | z)
              · exact ⟨q, by simp [hq], z⟩
              · exact ⟨p, by simp, .inl z.symm⟩
              · exact ⟨p, by simp, .inr ⟨z.symm, h1⟩⟩
            · rintro ⟨q, hq, z⟩
              rw [List.mem_append, List.mem_singleton] at hq
              rcases hq with hq | hq
              · exact .inl (.inl ⟨q, hq, z⟩)
              · subst hq
                rcases z with z | z
                · exact .inl (.inr z.symm)
                · exact .inr z.1.symm
          · have : (∃ q ∈ P ++ [p], q.f1 ≠ (⟨#[]⟩ : ByteArray) ∧ at_ bT q.f0 = i ∧ at_ bT q.f1 = j) ↔ (∃ q ∈ P, q.f1 ≠ (⟨#[]⟩ : ByteArray) ∧ at_ bT q.f0 = i ∧ at_ bT q.f1 = j) ∨ (i = ai ∧ j = bi) := by
              constructor
              · rintro ⟨q, hq, z⟩
                rw [List.mem_append, List.mem_singleton] at hq
                rcases hq with hq | hq
                · exact .inl ⟨q, hq, z⟩
                · subst hq; exact .inr ⟨by rw [← z.2.1, e0], by rw [← z.2.2, x3]⟩
              · rintro (⟨q, hq, z⟩ | ⟨rfl, rfl⟩)
                · exact ⟨q, by simp [hq], z⟩
                · exact ⟨p, by simp, h1, e0, x3.symm⟩
            rw [this, edge_iff, ← or_assoc, ← x4 i j]
            unfold M
            rw [R_set bU ai _ (by rw [y3.1]; omega) i]
            by_cases e : i = ai
            · subst e
              rw [if_pos rfl, Nat.testBit_or, Bool.or_eq_true, pow_bit, decide_eq_true_iff]
              constructor
              · rintro (z | z)
                · exact .inl z
                · exact .inr ⟨rfl, z.symm⟩
              · rintro (z | z)
                · exact .inl z
                · exact .inr z.2.symm
            · rw [if_neg e]
              constructor
              · exact .inl
              · rintro (z | z)
                · exact z
                · exact absurd z.1 e
  · simp at h0
theorem inv_nil : Inv [] [] Z64 := ⟨by simp, by simp, Z_ok, fun x => by simp, fun i j => by simp [Z_M]⟩
theorem build_inv (L : List S53) : ∀ (P : List S53) (i : Nat) (T : List ByteArray) (U : List Nat), Inv P T U → (build L i T U).1 = 0 → Inv (P ++ L) (build L i T U).2.2.1 (build L i T U).2.2.2 := by
  induction L with
  | nil => intro P i T U h _; rw [List.append_nil]; exact h
  | cons p L ih =>
    intro P i T U h h0
    rw [build] at h0 ⊢
    by_cases e : (pairP T U p).1 = 0
    · rw [if_pos e] at h0 ⊢
      have := ih (P ++ [p]) (i + 1) _ _ (pair_inv h p e) h0
      simpa using this
    · rw [if_neg e] at h0; exact absurd h0 e
theorem inv_bd {P : List S53} {T : List ByteArray} {U : List Nat} (h : Inv P T U) (i j : Nat) (m : M U i j) : i < T.length ∧ j < T.length := by
  rcases (h.edge i j).1 m with z | ⟨p, hp, h1, h2, h3⟩
  · exact ⟨z.1, by rw [← z.2]; exact z.1⟩
  · subst h2; subst h3
    exact ⟨at_lt T _ ((h.mem _).2 ⟨p, hp, .inl rfl⟩), at_lt T _ ((h.mem _).2 ⟨p, hp, .inr ⟨rfl, h1⟩⟩)⟩
theorem inv_closed {P : List S53} {T : List ByteArray} {U : List Nat} (h : Inv P T U) : Cl T.length U (allRows T.length T.length 0 U) T.length :=
  closed h.le h.ok (fun i hi => (h.edge i i).2 (.inl ⟨hi, rfl⟩)) (inv_bd h)
theorem new_l1 (L : List S53) (hL : L.length ≤ 1000000) (d : Nat) : ∀ (k i : Nat) (T : List ByteArray) (U : List Nat), Inv (L.take i) T U → i ≤ L.length → L.length - i = d → 10000 + L.length + d < k →
    order_New.l1 k L (i : Int) T (idx T) (N U) = some (match build (L.drop i) i T U with
      | (e, i, T, U) => if e = 0 then (match turned T (allRows T.length T.length 0 U) L 0 with | some j => (none, (j : Int), 16) | none => (some (ordOf T U), 0, 0)) else (none, (i : Int), e)) := by
  induction d with
  | zero =>
    intro k i T U h hi hd hk
    obtain ⟨k, rfl⟩ : ∃ n, k = n + 1 := ⟨k - 1, by omega⟩
    have hT := h.le
    have hc := inv_closed h
    rw [order_New.l1, if_neg (by omega), List.drop_eq_nil_of_le (by omega), ← Z_N, close_tells T hT _ U Z64 h.ok Z_ok k (by omega), Option.bind_some, build]
    dsimp only
    rw [if_pos rfl]
    have hm : ∀ p ∈ L, p.f0 ∈ T ∧ (p.f1 ≠ (⟨#[]⟩ : ByteArray) → p.f1 ∈ T) := by
      intro p hp
      have hp' : p ∈ L.take i := by rw [List.take_of_length_le (by omega)]; exact hp
      exact ⟨(h.mem _).2 ⟨p, hp', .inl rfl⟩, fun z => (h.mem _).2 ⟨p, hp', .inr ⟨rfl, z⟩⟩⟩
    have := new_l0 T hT (allRows T.length T.length 0 U) hc.ok (N (allDown (allRows T.length T.length 0 U) T.length T.length 0 Z64)) L hL hm hc.bd L.length k 0 (by omega) (by omega) (by omega)
    rw [List.drop_zero] at this
    exact this
  | succ d ih =>
    intro k i T U h hi hd hk
    obtain ⟨k, rfl⟩ : ∃ n, k = n + 1 := ⟨k - 1, by omega⟩
    rw [order_New.l1, if_pos (by omega), if_pos (by omega), rd53 L i (by omega), ← Z_N, pair_tells k (by omega) T h.le U h.ok _ L[i], Option.bind_some, List.drop_eq_getElem_cons (by omega), build]
    dsimp only
    by_cases e : (pairP T U L[i]).1 = 0
    · rw [if_pos e, if_pos e, wrap64_id (by omega) (by omega), show (i : Int) + 1 = ((i + 1 : Nat) : Int) by omega]
      refine ih k (i + 1) _ _ ?_ (by omega) (by omega) (by omega)
      have := pair_inv h L[i] e
      rwa [List.take_append_getElem (by omega)] at this
    · rw [if_neg e, if_neg e]
      dsimp only
      rw [if_neg e]
theorem new_tells (k : Nat) (L : List S53) (hL : L.length ≤ 1000000) (hk : 10000 + 2 * L.length < k) : order_New.f k L = some (newP L) := by
  have := new_l1 L hL L.length k 0 [] Z64 inv_nil (by omega) (by omega) (by omega)
  rw [List.drop_zero] at this
  unfold order_New.f
  rw [← Z_N]
  exact this
theorem pair_code (T : List ByteArray) (U : List Nat) (p : S53) : (pairP T U p).1 = 0 ∨ (pairP T U p).1 = 1 ∨ (pairP T U p).1 = 8 := by
  unfold pairP
  split
  · cases addP T U p.f0 with
    | none => exact .inr (.inr rfl)
    | some a =>
      dsimp only
      split
      · exact .inl rfl
      · cases addP a.2.1 a.2.2 p.f1 with
        | none => exact .inr (.inr rfl)
        | some b => exact .inl rfl
  · exact .inr (.inl rfl)
theorem build_code (L : List S53) : ∀ (i : Nat) (T : List ByteArray) (U : List Nat), (build L i T U).1 = 0 ∨ (build L i T U).1 = 1 ∨ (build L i T U).1 = 8 := by
  induction L with
  | nil => intro i T U; exact .inl rfl
  | cons p L ih =>
    intro i T U
    rw [build]
    split
    · exact ih _ _ _
    · exact pair_code T U p
def cl (T : List ByteArray) (U : List Nat) : List Nat := allRows T.length T.length 0 U
theorem great_l0 (L : List S53) (m : Int) (hm : m ≤ 1000) (d : Nat) : ∀ (k i : Nat), i ≤ L.length → L.length - i = d → L.length ≤ 10000000000000 → 3 * d + 2 ≤ k → ∃ b, blazonref13_Great.l0 k m L (i : Int) = some b ∧ (b = false → (L.length : Int) ≤ m) := by
  induction d with
  | zero =>
    intro k i hi hd hL hk
    obtain ⟨k, rfl⟩ : ∃ n, k = n + 2 := ⟨k - 2, by omega⟩
    refine ⟨decide ((L.length : Int) > m), ?_, fun h => by simpa using h⟩
    rw [blazonref13_Great.l0, if_neg (by omega), blazonref13_Great.j1, if_neg (by decide)]
  | succ d ih =>
    intro k i hi hd hL hk
    obtain ⟨k, rfl⟩ : ∃ n, k = n + 3 := ⟨k - 3, by omega⟩
    rw [blazonref13_Great.l0, if_pos (by omega), blazonref13_Great.j1]
    by_cases h : (i : Int) < m
    · have fin : ∀ b, ∃ r, blazonref13_Great.j0 (k + 1) m L (i : Int) b = some r ∧ (r = false → (L.length : Int) ≤ m) := by
        intro b
        rw [blazonref13_Great.j0]
        cases b with
        | true => exact ⟨true, by rw [if_pos rfl], fun h => by cases h⟩
        | false =>
          rw [if_neg (by decide), wrap64_id (by omega) (by omega), show (i : Int) + 1 = ((i + 1 : Nat) : Int) by omega]
          exact ih k (i + 1) (by omega) (by omega) hL (by omega)
      rw [if_pos (by simpa using h), if_pos (by omega), if_pos (by omega)]
      split
      · exact fin _
      · exact fin _
    · rw [if_neg (by simpa using h)]
      exact ⟨decide ((L.length : Int) > m), rfl, fun h => by simpa using h⟩
theorem great_tells (k : Nat) (L : List S53) (m : Int) (hm : m ≤ 1000) (hL : L.length ≤ 10000000000000) (hk : 3 * L.length + 2 ≤ k) : ∃ b, blazonref13_Great.f k L m = some b ∧ (b = false → (L.length : Int) ≤ m) :=
  great_l0 L m hm L.length k 0 (by omega) (by omega) hL hk
theorem lim40 {n : Nat} (h : n * 40 ≤ 140737488351232) : n ≤ 3518437208781 := by omega
theorem newP_bad {L : List S53} (h : (build L 0 [] Z64).1 ≠ 0) : (newP L).1 = none ∧ (newP L).2.2 ≠ 0 ∧ (newP L).2.2 ≠ 16 := by
  have hc := build_code L 0 [] Z64
  unfold newP
  generalize build L 0 [] Z64 = B at *
  obtain ⟨e, i, T, U⟩ := B
  dsimp only at h hc ⊢
  rw [if_neg h]
  dsimp only
  refine ⟨rfl, h, ?_⟩
  rcases hc with z | z | z <;> rw [z] <;> decide
theorem turned_not {T : List ByteArray} {U : List Nat} : ∀ (L : List S53) (i : Nat), turned T U L i = none → ∀ p ∈ L, p.f1 ≠ (⟨#[]⟩ : ByteArray) → ¬ M U (at_ T p.f1) (at_ T p.f0)
  | [], _, _, p, hp, _ => by simp at hp
  | q :: L, i, h, p, hp, h1 => by
    rw [turned] at h
    by_cases e : q.f1 = (⟨#[]⟩ : ByteArray)
    · rw [if_pos e] at h
      rcases List.mem_cons.1 hp with z | z
      · subst z; exact absurd e h1
      · exact turned_not L _ h p z h1
    · rw [if_neg e] at h
      by_cases m : M U (at_ T q.f1) (at_ T q.f0)
      · rw [if_pos m] at h; cases h
      · rw [if_neg m] at h
        rcases List.mem_cons.1 hp with z | z
        · subst z; exact m
        · exact turned_not L _ h p z h1
theorem anti {P : List S53} {T : List ByteArray} {U : List Nat} (h : Inv P T U) (hn : turned T (cl T U) P 0 = none) {a b : Nat} (m1 : M (cl T U) a b) (m2 : M (cl T U) b a) : a = b := by
  have hc : Cl T.length U (cl T U) T.length := inv_closed h
  have key := hc.le (fun i j => M (cl T U) i j ∧ (i = j ∨ ∃ p ∈ P, p.f1 ≠ (⟨#[]⟩ : ByteArray) ∧ at_ T p.f0 = i ∧ M (cl T U) (at_ T p.f1) j))
    (fun x y z u v => ⟨trans_ hc u.1 v.1, by
      rcases u.2 with e | ⟨p, hp, h1, h2, h3⟩
      · subst e; exact v.2
      · exact .inr ⟨p, hp, h1, h2, trans_ hc h3 v.1⟩⟩)
    (fun i j z => ⟨hc.up _ _ z, by
      rcases (h.edge i j).1 z with z | ⟨p, hp, h1, h2, h3⟩
      · exact .inl z.2
      · exact .inr ⟨p, hp, h1, h2, by rw [h3]; exact hc.rf _ (inv_bd h _ _ z).2⟩⟩) a b m1
  rcases key.2 with e | ⟨p, hp, h1, h2, h3⟩
  · exact e
  · refine absurd (trans_ hc h3 m2) ?_
    rw [← h2]
    exact turned_not P 0 hn p hp h1
theorem rest_bit (b m j : Nat) (hb : b < 2 ^ 64) (hm : m < 2 ^ 64) : (b &&& (18446744073709551615 - m)).testBit j = (b.testBit j && !m.testBit j) := by
  rw [Nat.testBit_and, show 18446744073709551615 - m = 2 ^ 64 - (m + 1) by omega, Nat.testBit_two_pow_sub_succ hm]
  by_cases hj : j < 64
  · simp [hj]
  · rw [Nat.testBit_lt_two_pow (x := b) (Nat.lt_of_lt_of_le hb (Nat.pow_le_pow_right (by decide) (by omega)))]
    simp
def dnOf (T : List ByteArray) (U : List Nat) : List Nat := allDown (cl T U) T.length T.length 0 Z64
theorem dn_ok {P : List S53} {T : List ByteArray} {U : List Nat} (h : Inv P T U) : Ok64 (dnOf T U) := allDown_ok _ _ h.le _ 0 _ Z_ok (by have := h.le; omega)
theorem dn_M {P : List S53} {T : List ByteArray} {U : List Nat} (h : Inv P T U) (i j : Nat) : M (dnOf T U) i j ↔ M (cl T U) j i := by
  have hc : Cl T.length U (cl T U) T.length := inv_closed h
  unfold dnOf
  rw [alldown_M _ _ h.le _ 0 Z64 Z_ok (by have := h.le; omega) i j]
  constructor
  · rintro (z | z)
    · exact absurd z (Z_M i j)
    · exact z.2.2.2
  · intro z
    have := hc.bd _ _ z
    exact .inr ⟨by omega, by omega, by omega, z⟩
theorem below_tells {P : List S53} {T : List ByteArray} {U : List Nat} (h : Inv P T U) (i : Nat) (hi : i < T.length) : order_Order_Below.f (some (ordOf T U)) (i : Int) = some ((R (dnOf T U) i : Nat) : Int) := by
  have hT := h.le
  unfold order_Order_Below.f
  rw [in_tells, Option.bind_some, if_pos (decide_eq_true (show i < (ordOf T U).f0.length from hi))]
  dsimp only [onOpt, ordOf]
  rw [if_pos (by omega), if_pos (by omega), N_get]
  rfl
theorem deB_at (i : Nat) : List.getD deB i 0 = ((Lib.deBruijn64tab.getD i 0 : Nat) : Int) := by
  have e : deB = Lib.deBruijn64tab.map (fun n : Nat => (n : Int)) := rfl
  rw [e, List.getD_eq_getElem?_getD, List.getD_eq_getElem?_getD, List.getElem?_map]
  cases Lib.deBruijn64tab[i]? <;> rfl
theorem tz_tells (x : Nat) (h0 : x ≠ 0) (h : x < 2 ^ 64) : bits_TrailingZeros64.f (x : Int) = some ((Lib.ctz 64 x : Nat) : Int) := by
  obtain ⟨hlow, hk⟩ := Lib.lowest_bit 64 x h0 h
  obtain ⟨hi, htab⟩ := Lib.deBruijn64_at _ hk
  have e1 : IntKind.u64.wrap (-(x : Int)) = ((18446744073709551616 - x : Nat) : Int) := by rw [IntKind.wrap_u64]; omega
  have e2 : shr .u64 (IntKind.u64.wrap ((Go.bits .and .u64 (x : Int) (IntKind.u64.wrap (-(x : Int)))) * 285870213051353865)) 58 = ((2 ^ Lib.ctz 64 x * 285870213051353865 % 18446744073709551616 / 288230376151711744 : Nat) : Int) := by
    have hlow' : x &&& (18446744073709551616 - x) = 2 ^ Lib.ctz 64 x := hlow
    rw [e1, bits_and_u64_nat x _ h (by omega), hlow', IntKind.wrap_u64]
    unfold shr
    have e : min ((58 : Int).toNat) IntKind.u64.bits = 58 := rfl
    rw [e, show ((2 : Int) ^ 58) = ((288230376151711744 : Nat) : Int) from rfl]
    generalize 2 ^ Lib.ctz 64 x = q
    omega
  unfold bits_TrailingZeros64.f
  rw [if_neg (by omega), e2, if_pos (by omega), if_pos (by omega), Int.toNat_natCast, deB_at, htab, wrap64_id (by omega) (by omega)]
theorem low_bit (x : Nat) (h0 : x ≠ 0) (h : x < 2 ^ 64) : x.testBit (Lib.ctz 64 x) = true ∧ (∀ j, j < Lib.ctz 64 x → x.testBit j = false) ∧ ∀ j, (x &&& (x - 1)).testBit j = (x.testBit j && decide (j ≠ Lib.ctz 64 x)) := by
  obtain ⟨m, hm, hk⟩ := Lib.ctzFrom_spec 64 x (by omega) h
  have e : Lib.ctz 64 x = Lib.ctzFrom 64 x := by simp [Lib.ctz, h0]
  rw [e]
  generalize Lib.ctzFrom 64 x = c at hm hk
  have hx : ∀ j, x.testBit j = (decide (c ≤ j) && (2 * m + 1).testBit (j - c)) := by
    intro j
    rw [hm, Nat.mul_comm, Nat.testBit_mul_two_pow]
  have hx1 : x - 1 = 2 ^ c * (2 * m) + (2 ^ c - 1) := by
    have : 0 < 2 ^ c := Nat.pow_pos (by decide)
    rw [hm, Nat.mul_add]
    omega
  have hy : ∀ j, (x - 1).testBit j = if j < c then true else (2 * m).testBit (j - c) := by
    intro j
    have hp : 2 ^ c - 1 < 2 ^ c := by have : 0 < 2 ^ c := Nat.pow_pos (by decide); omega
    rw [hx1, Nat.testBit_two_pow_mul_add _ hp]
    by_cases hj : j < c
    · rw [if_pos hj, if_pos hj, Nat.testBit_two_pow_sub_one]; simp [hj]
    · rw [if_neg hj, if_neg hj]
  refine ⟨?_, fun j hj => ?_, fun j => ?_⟩
  · rw [hx, Nat.sub_self]; simp
  · rw [hx]; simp; omega
  · rw [Nat.testBit_and, hx, hy]
    by_cases h1 : j < c
    · have : ¬ c ≤ j := by omega
      simp [this]
    · by_cases h2 : j = c
      · subst h2; simp
      · obtain ⟨q, rfl⟩ : ∃ q, j = c + (q + 1) := ⟨j - c - 1, by omega⟩
        have e3 : c + (q + 1) - c = q + 1 := by omega
        rw [if_neg h1, e3, Nat.testBit_succ, Nat.testBit_succ]
        have e4 : (2 * m + 1) / 2 = m := by omega
        have e5 : 2 * m / 2 = m := by omega
        rw [e4, e5]
        cases m.testBit q <;> simp
theorem above_tells {P : List S53} {T : List ByteArray} {U : List Nat} (h : Inv P T U) (i : Nat) (hi : i < T.length) : order_Order_Above.f (some (ordOf T U)) (i : Int) = some ((R (cl T U) i : Nat) : Int) := by
  have hT := h.le
  unfold order_Order_Above.f
  rw [in_tells, Option.bind_some, if_pos (decide_eq_true (show i < (ordOf T U).f0.length from hi))]
  dsimp only [onOpt, ordOf]
  rw [if_pos (by omega), if_pos (by omega), N_get]
  rfl
def good (V : List Nat) (s i : Nat) : Prop := s.testBit i = true ∧ ∀ j, s.testBit j = true → M V i j
theorem andNot_zero (s v : Nat) (hs : s < 2 ^ 64) (hv : v < 2 ^ 64) : Go.bits .andNot .u64 (s : Int) (v : Int) = 0 ↔ ∀ j, s.testBit j = true → v.testBit j = true := by
  rw [u64_andNot_nat _ _ hs hv]
  constructor
  · intro h j hj
    have e : s &&& (18446744073709551615 - v) = 0 := by omega
    have := rest_bit s v j hs hv
    rw [e, Nat.zero_testBit, hj] at this
    cases hb : v.testBit j with
    | true => rfl
    | false => rw [hb] at this; cases this
  · intro h
    have e : s &&& (18446744073709551615 - v) = 0 := Nat.eq_of_testBit_eq fun j => by
      rw [rest_bit s v j hs hv, Nat.zero_testBit]
      cases hb : s.testBit j with
      | false => rfl
      | true => rw [h j hb]; rfl
    rw [e]; rfl
theorem i8_id (i : Nat) (h : i < 64) : IntKind.i8.wrap ((i : Int)) = (i : Int) := by
  have key : ∀ i : Fin 64, IntKind.i8.wrap ((i.val : Nat) : Int) = ((i.val : Nat) : Int) := by decide +kernel
  exact key ⟨i, h⟩
theorem sub1 (x : Nat) (h0 : x ≠ 0) (h : x < 2 ^ 64) : IntKind.u64.wrap ((x : Int) - 1) = ((x - 1 : Nat) : Int) := by
  rw [IntKind.wrap_u64]; omega
theorem leastA_l0 {P : List S53} {T : List ByteArray} {U : List Nat} (h : Inv P T U) (s : Nat) (hs : s < 2 ^ 64) (hn : ∀ j, s.testBit j = true → j < T.length) : ∀ (m c k x : Nat), 64 - c ≤ m → m + 1 ≤ k → x < 2 ^ 64 → (∀ j, x.testBit j = true → c ≤ j ∧ s.testBit j = true) → (∀ i, s.testBit i = true → x.testBit i = false → ¬ good (cl T U) s i) →
    ∃ r, lattice_least_order_Order_Above.l0 k (s : Int) (some (ordOf T U)) (x : Int) = some r ∧ ((∃ i, good (cl T U) s i ∧ r = (i : Int)) ∨ (r = -1 ∧ ∀ i, ¬ good (cl T U) s i)) := by
  have hT := h.le
  have hok : Ok64 (cl T U) := (inv_closed h).ok
  intro m
  induction m with
  | zero =>
    intro c k x hc hk hx hb hg
    obtain ⟨k, rfl⟩ : ∃ n, k = n + 1 := ⟨k - 1, by omega⟩
    have e : x = 0 := Nat.eq_of_testBit_eq fun j => by
      rw [Nat.zero_testBit]
      cases hj : x.testBit j with
      | false => rfl
      | true =>
        have h1 := hb j hj
        have h2 := hn j h1.2
        omega
    subst e
    refine ⟨-1, by rw [lattice_least_order_Order_Above.l0, if_pos (by omega)], .inr ⟨rfl, fun i hi => hg i hi.1 (Nat.zero_testBit i) hi⟩⟩
  | succ m ih =>
    intro c k x hc hk hx hb hg
    obtain ⟨k, rfl⟩ : ∃ n, k = n + 1 := ⟨k - 1, by omega⟩
    by_cases e : x = 0
    · subst e
      exact ⟨-1, by rw [lattice_least_order_Order_Above.l0, if_pos (by omega)], .inr ⟨rfl, fun i hi => hg i hi.1 (Nat.zero_testBit i) hi⟩⟩
    · obtain ⟨l1, l2, l3⟩ := low_bit x e hx
      have ht := tz_tells x e hx
      generalize Lib.ctz 64 x = t at l1 l2 l3 ht
      have hb1 := hb t l1
      have hlt := hn t hb1.2
      have hv := hok.2 t
      rw [lattice_least_order_Order_Above.l0, if_neg (by omega), ht, Option.bind_some, above_tells h t hlt, Option.bind_some]
      by_cases hz : Go.bits .andNot .u64 (s : Int) ((R (cl T U) t : Nat) : Int) = 0
      · rw [if_pos hz]
        exact ⟨_, rfl, .inl ⟨t, ⟨hb1.2, (andNot_zero s _ hs hv).1 hz⟩, i8_id t (by omega)⟩⟩
      · rw [if_neg hz, sub1 x e hx, bits_and_u64_nat x (x - 1) hx (by omega)]
        refine ih (t + 1) k (x &&& (x - 1)) (by omega) (by omega) (Nat.lt_of_le_of_lt Nat.and_le_left hx) (fun j hj => ?_) (fun i hi hx0 => ?_)
        · rw [l3, Bool.and_eq_true, decide_eq_true_iff] at hj
          refine ⟨?_, (hb j hj.1).2⟩
          rcases Nat.lt_trichotomy j t with z | z | z
          · rw [l2 j z] at hj; cases hj.1
          · exact absurd z hj.2
          · exact z
        · by_cases e2 : i = t
          · subst e2
            exact fun z => hz ((andNot_zero s _ hs hv).2 z.2)
          · rw [l3] at hx0
            refine hg i hi ?_
            cases hxi : x.testBit i with
            | false => rfl
            | true => rw [hxi] at hx0; simp [e2] at hx0
theorem leastB_l0 {P : List S53} {T : List ByteArray} {U : List Nat} (h : Inv P T U) (s : Nat) (hs : s < 2 ^ 64) (hn : ∀ j, s.testBit j = true → j < T.length) : ∀ (m c k x : Nat), 64 - c ≤ m → m + 1 ≤ k → x < 2 ^ 64 → (∀ j, x.testBit j = true → c ≤ j ∧ s.testBit j = true) → (∀ i, s.testBit i = true → x.testBit i = false → ¬ good (dnOf T U) s i) →
    ∃ r, lattice_least_order_Order_Below.l0 k (s : Int) (some (ordOf T U)) (x : Int) = some r ∧ ((∃ i, good (dnOf T U) s i ∧ r = (i : Int)) ∨ (r = -1 ∧ ∀ i, ¬ good (dnOf T U) s i)) := by
  have hT := h.le
  have hok : Ok64 (dnOf T U) := dn_ok h
  intro m
  induction m with
  | zero =>
    intro c k x hc hk hx hb hg
    obtain ⟨k, rfl⟩ : ∃ n, k = n + 1 := ⟨k - 1, by omega⟩
    have e : x = 0 := Nat.eq_of_testBit_eq fun j => by
      rw [Nat.zero_testBit]
      cases hj : x.testBit j with
      | false => rfl
      | true =>
        have h1 := hb j hj
        have h2 := hn j h1.2
        omega
    subst e
    refine ⟨-1, by rw [lattice_least_order_Order_Below.l0, if_pos (by omega)], .inr ⟨rfl, fun i hi => hg i hi.1 (Nat.zero_testBit i) hi⟩⟩
  | succ m ih =>
    intro c k x hc hk hx hb hg
    obtain ⟨k, rfl⟩ : ∃ n, k = n + 1 := ⟨k - 1, by omega⟩
    by_cases e : x = 0
    · subst e
      exact ⟨-1, by rw [lattice_least_order_Order_Below.l0, if_pos (by omega)], .inr ⟨rfl, fun i hi => hg i hi.1 (Nat.zero_testBit i) hi⟩⟩
    · obtain ⟨l1, l2, l3⟩ := low_bit x e hx
      have ht := tz_tells x e hx
      generalize Lib.ctz 64 x = t at l1 l2 l3 ht
      have hb1 := hb t l1
      have hlt := hn t hb1.2
      have hv := hok.2 t
      rw [lattice_least_order_Order_Below.l0, if_neg (by omega), ht, Option.bind_some, below_tells h t hlt, Option.bind_some]
      by_cases hz : Go.bits .andNot .u64 (s : Int) ((R (dnOf T U) t : Nat) : Int) = 0
      · rw [if_pos hz]
        exact ⟨_, rfl, .inl ⟨t, ⟨hb1.2, (andNot_zero s _ hs hv).1 hz⟩, i8_id t (by omega)⟩⟩
      · rw [if_neg hz, sub1 x e hx, bits_and_u64_nat x (x - 1) hx (by omega)]
        refine ih (t + 1) k (x &&& (x - 1)) (by omega) (by omega) (Nat.lt_of_le_of_lt Nat.and_le_left hx) (fun j hj => ?_) (fun i hi hx0 => ?_)
        · rw [l3, Bool.and_eq_true, decide_eq_true_iff] at hj
          refine ⟨?_, (hb j hj.1).2⟩
          rcases Nat.lt_trichotomy j t with z | z | z
          · rw [l2 j z] at hj; cases hj.1
          · exact absurd z hj.2
          · exact z
        · by_cases e2 : i = t
          · subst e2
            exact fun z => hz ((andNot_zero s _ hs hv).2 z.2)
          · rw [l3] at hx0
            refine hg i hi ?_
            cases hxi : x.testBit i with
            | false => rfl
            | true => rw [hxi] at hx0; simp [e2] at hx0
def lub (le : Nat → Nat → Prop) (a b i : Nat) : Prop := le a i ∧ le b i ∧ ∀ j, le a j → le b j → le i j
def flp (le : Nat → Nat → Prop) (a b : Nat) : Prop := le b a
open Classical in
noncomputable def jn (n : Nat) (le : Nat → Nat → Prop) (a b : Nat) : Int := match (List.range n).find? (fun i => decide (lub le a b i)) with | some i => (i : Int) | none => -1
structure Po (n : Nat) (le : Nat → Nat → Prop) : Prop where
  rf : ∀ i, i < n → le i i
  tr : ∀ {a b c}, le a b → le b c → le a c
  an : ∀ {a b}, le a b → le b a → a = b
  bd : ∀ {a b}, le a b → a < n ∧ b < n
theorem Po.flp {n : Nat} {le : Nat → Nat → Prop} (h : Po n le) : Po n (flp le) := ⟨h.rf, fun x y => h.tr y x, fun x y => h.an y x, fun x => ⟨(h.bd x).2, (h.bd x).1⟩⟩
theorem lub_uniq {n : Nat} {le : Nat → Nat → Prop} (h : Po n le) {a b i j : Nat} (x : lub le a b i) (y : lub le a b j) : i = j := h.an (x.2.2 j y.1 y.2.1) (y.2.2 i x.1 x.2.1)
theorem jn_lub {n : Nat} {le : Nat → Nat → Prop} (h : Po n le) {a b i : Nat} (x : lub le a b i) : jn n le a b = (i : Int) := by
  classical
  unfold jn
  cases hf : (List.range n).find? (fun i => decide (lub le a b i)) with
  | none =>
    have := List.find?_eq_none.1 hf i (List.mem_range.2 (h.bd x.1).2)
    exact absurd (decide_eq_true x) this
  | some j =>
    have h1 := List.find?_some hf
    have : lub le a b j := by simpa using h1
    rw [lub_uniq h x this]
theorem jn_none {n : Nat} {le : Nat → Nat → Prop} {a b : Nat} (x : ∀ i, ¬ lub le a b i) : jn n le a b = -1 := by
  classical
  unfold jn
  cases hf : (List.range n).find? (fun i => decide (lub le a b i)) with
  | none => rfl
  | some j =>
    have h1 := List.find?_some hf
    exact absurd (by simpa using h1) (x j)
theorem jn_or {n : Nat} {le : Nat → Nat → Prop} (h : Po n le) (a b : Nat) : jn n le a b = -1 ∨ ∃ i, i < n ∧ jn n le a b = (i : Int) ∧ lub le a b i := by
  classical
  by_cases e : ∃ i, lub le a b i
  · obtain ⟨i, hi⟩ := e
    exact .inr ⟨i, (h.bd hi.1).2, jn_lub h hi, hi⟩
  · exact .inl (jn_none fun i hi => e ⟨i, hi⟩)
section
variable {P : List S53} {T : List ByteArray} {U : List Nat}
theorem po_of (h : Inv P T U) (hn : turned T (cl T U) P 0 = none) : Po T.length (M (cl T U)) := by
  have hc := inv_closed h
  exact ⟨hc.rf, fun x y => trans_ hc x y, fun x y => anti h hn x y, fun x => hc.bd _ _ x⟩
theorem joinA (h : Inv P T U) (po : Po T.length (M (cl T U))) (a b : Nat) (ha : a < T.length) (hb : b < T.length) (k : Nat) (hk : 66 ≤ k) :
    lattice_least_order_Order_Above.f k (Go.bits .and .u64 ((R (cl T U) a : Nat) : Int) ((R (cl T U) b : Nat) : Int)) (some (ordOf T U)) = some (jn T.length (M (cl T U)) a b) := by
  have hok : Ok64 (cl T U) := (inv_closed h).ok
  have hT := h.le
  have hs : ∀ j, (R (cl T U) a &&& R (cl T U) b).testBit j = true ↔ M (cl T U) a j ∧ M (cl T U) b j := fun j => by rw [Nat.testBit_and, Bool.and_eq_true]; rfl
  unfold lattice_least_order_Order_Above.f
  rw [bits_and_u64_nat _ _ (hok.2 a) (hok.2 b)]
  obtain ⟨r, e, hr⟩ := leastA_l0 h (R (cl T U) a &&& R (cl T U) b) (Nat.lt_of_le_of_lt Nat.and_le_left (hok.2 a)) (fun j hj => (po.bd ((hs j).1 hj).1).2) 64 0 k (R (cl T U) a &&& R (cl T U) b) (by omega) (by omega) (Nat.lt_of_le_of_lt Nat.and_le_left (hok.2 a)) (fun j hj => ⟨by omega, hj⟩) (fun i h1 h2 => by rw [h1] at h2; cases h2)
  have key : ∀ i, good (cl T U) (R (cl T U) a &&& R (cl T U) b) i ↔ lub (M (cl T U)) a b i := fun i => by
    unfold good lub
    rw [hs]
    exact ⟨fun x => ⟨x.1.1, x.1.2, fun j y z => x.2 j ((hs j).2 ⟨y, z⟩)⟩, fun x => ⟨⟨x.1, x.2.1⟩, fun j y => x.2.2 j ((hs j).1 y).1 ((hs j).1 y).2⟩⟩
  rw [e]
  rcases hr with ⟨i, gi, rfl⟩ | ⟨rfl, no⟩
  · rw [jn_lub po ((key i).1 gi)]
  · rw [jn_none fun i hi => no i ((key i).2 hi)]
theorem joinB (h : Inv P T U) (po : Po T.length (M (cl T U))) (a b : Nat) (ha : a < T.length) (hb : b < T.length) (k : Nat) (hk : 66 ≤ k) :
    lattice_least_order_Order_Below.f k (Go.bits .and .u64 ((R (dnOf T U) a : Nat) : Int) ((R (dnOf T U) b : Nat) : Int)) (some (ordOf T U)) = some (jn T.length (flp (M (cl T U))) a b) := by
  have hok : Ok64 (dnOf T U) := dn_ok h
  have hT := h.le
  have hs : ∀ j, (R (dnOf T U) a &&& R (dnOf T U) b).testBit j = true ↔ M (dnOf T U) a j ∧ M (dnOf T U) b j := fun j => by rw [Nat.testBit_and, Bool.and_eq_true]; rfl
  unfold lattice_least_order_Order_Below.f
  rw [bits_and_u64_nat _ _ (hok.2 a) (hok.2 b)]
  obtain ⟨r, e, hr⟩ := leastB_l0 h (R (dnOf T U) a &&& R (dnOf T U) b) (Nat.lt_of_le_of_lt Nat.and_le_left (hok.2 a)) (fun j hj => (po.bd ((dn_M h _ _).1 ((hs j).1 hj).1)).1) 64 0 k (R (dnOf T U) a &&& R (dnOf T U) b) (by omega) (by omega) (Nat.lt_of_le_of_lt Nat.and_le_left (hok.2 a)) (fun j hj => ⟨by omega, hj⟩) (fun i h1 h2 => by rw [h1] at h2; cases h2)
  have key : ∀ i, good (dnOf T U) (R (dnOf T U) a &&& R (dnOf T U) b) i ↔ lub (flp (M (cl T U))) a b i := fun i => by
    unfold good lub flp
    rw [hs]
    simp only [dn_M h]
    exact ⟨fun x => ⟨x.1.1, x.1.2, fun j y z => x.2 j ((hs j).2 ⟨(dn_M h _ _).2 y, (dn_M h _ _).2 z⟩)⟩, fun x => ⟨⟨x.1, x.2.1⟩, fun j y => x.2.2 j ((dn_M h _ _).1 ((hs j).1 y).1) ((dn_M h _ _).1 ((hs j).1 y).2)⟩⟩
  rw [e]
  rcases hr with ⟨i, gi, rfl⟩ | ⟨rfl, no⟩
  · rw [jn_lub po.flp ((key i).1 gi)]
  · rw [jn_none fun i hi => no i ((key i).2 hi)]
theorem getD_set {l : List Int} {i j : Nat} {v : Int} (h : i < l.length) : (l.set i v).getD j 0 = if j = i then v else l.getD j 0 := by
  simp only [List.getD_eq_getElem?_getD, List.getElem?_set]
  by_cases e : i = j
  · subst e; simp [h]
  · have : ¬ j = i := fun z => e z.symm
    simp [e, this]
theorem fill_l0 (h : Inv P T U) (po : Po T.length (M (cl T U))) (a : Nat) (ha : a < T.length) (f : Nat) (hf : 66 ≤ f) (d : Nat) : ∀ (b : Nat) (J K : List Int), b + d = T.length → J.length = 4096 → K.length = 4096 →
    ∃ J' K', lattice_Lattice_fill.l0 (f + d + 1) (some (ordOf T U)) (T.length : Int) (T.length : Int) (a : Int) (b : Int) J K = lattice_Lattice_fill.l1 f (some (ordOf T U)) (T.length : Int) ((a + 1 : Nat) : Int) J' K' ∧ J'.length = 4096 ∧ K'.length = 4096 ∧
      (∀ x y, x < 64 → y < 64 → J'.getD (x * 64 + y) 0 = if x = a ∧ b ≤ y ∧ y < T.length then jn T.length (M (cl T U)) a y else J.getD (x * 64 + y) 0) ∧ (∀ x y, x < 64 → y < 64 → K'.getD (x * 64 + y) 0 = if x = a ∧ b ≤ y ∧ y < T.length then jn T.length (flp (M (cl T U))) a y else K.getD (x * 64 + y) 0) := by
  have hT := h.le
  induction d with
  | zero =>
    intro b J K hb hJ hK
    refine ⟨J, K, ?_, hJ, hK, fun x y _ _ => by rw [if_neg (by omega)], fun x y _ _ => by rw [if_neg (by omega)]⟩
    rw [lattice_Lattice_fill.l0, if_neg (by omega), wrap64_id (by omega) (by omega)]
    rfl
  | succ d ih =>
    intro b J K hb hJ hK
    obtain ⟨J', K', e, l1, l2, g1, g2⟩ := ih (b + 1) (J.set (a * 64 + b) (jn T.length (M (cl T U)) a b)) (K.set (a * 64 + b) (jn T.length (flp (M (cl T U))) a b)) (by omega) (by rw [List.length_set]; exact hJ) (by rw [List.length_set]; exact hK)
    refine ⟨J', K', ?_, l1, l2, fun x y hx hy => ?_, fun x y hx hy => ?_⟩
    · rw [show f + (d + 1) + 1 = (f + d + 1) + 1 by omega, lattice_Lattice_fill.l0, if_pos (by omega), if_pos (by omega), if_pos (by omega), above_tells h a ha, Option.bind_some, above_tells h b (by omega), Option.bind_some, joinA h po a b ha (by omega) _ (by omega), Option.bind_some, if_pos (by omega), if_pos (by omega), Option.bind_some, below_tells h a ha, Option.bind_some, below_tells h b (by omega), Option.bind_some, joinB h po a b ha (by omega) _ (by omega), Option.bind_some, Option.bind_some, wrap64_id (by omega) (by omega), show (b : Int) + 1 = ((b + 1 : Nat) : Int) by omega, Int.toNat_natCast, Int.toNat_natCast]
      exact e
    · rw [g1 x y hx hy, getD_set (by omega)]
      by_cases c1 : x = a ∧ b + 1 ≤ y ∧ y < T.length
      · rw [if_pos c1, if_pos (by omega)]
      · rw [if_neg c1]
        by_cases c2 : x * 64 + y = a * 64 + b
        · have : x = a := by omega
          have : y = b := by omega
          subst x; subst y
          rw [if_pos rfl, if_pos (by omega)]
        · rw [if_neg c2, if_neg (by omega)]
    · rw [g2 x y hx hy, getD_set (by omega)]
      by_cases c1 : x = a ∧ b + 1 ≤ y ∧ y < T.length
      · rw [if_pos c1, if_pos (by omega)]
      · rw [if_neg c1]
        by_cases c2 : x * 64 + y = a * 64 + b
        · have : x = a := by omega
          have : y = b := by omega
          subst x; subst y
          rw [if_pos rfl, if_pos (by omega)]
        · rw [if_neg c2, if_neg (by omega)]
theorem fill_l1 (h : Inv P T U) (po : Po T.length (M (cl T U))) (d : Nat) : ∀ (k a : Nat) (J K : List Int), a + d = T.length → 67 + d * 70 ≤ k → J.length = 4096 → K.length = 4096 →
    ∃ J' K', lattice_Lattice_fill.l1 k (some (ordOf T U)) (T.length : Int) (a : Int) J K = some (J', K') ∧ J'.length = 4096 ∧ K'.length = 4096 ∧
      (∀ x y, x < 64 → y < 64 → J'.getD (x * 64 + y) 0 = if a ≤ x ∧ x < T.length ∧ y < T.length then jn T.length (M (cl T U)) x y else J.getD (x * 64 + y) 0) ∧ (∀ x y, x < 64 → y < 64 → K'.getD (x * 64 + y) 0 = if a ≤ x ∧ x < T.length ∧ y < T.length then jn T.length (flp (M (cl T U))) x y else K.getD (x * 64 + y) 0) := by
  have hT := h.le
  induction d with
  | zero =>
    intro k a J K ha hk hJ hK
    obtain ⟨k, rfl⟩ : ∃ n, k = n + 1 := ⟨k - 1, by omega⟩
    exact ⟨J, K, by rw [lattice_Lattice_fill.l1, if_neg (by omega)], hJ, hK, fun x y _ _ => by rw [if_neg (by omega)], fun x y _ _ => by rw [if_neg (by omega)]⟩
  | succ d ih =>
    intro k a J K ha hk hJ hK
    obtain ⟨k, rfl⟩ : ∃ n, k = n + T.length + 1 + 1 := ⟨k - 2 - T.length, by omega⟩
    obtain ⟨J1, K1, e1, l1, l2, g1, g2⟩ := fill_l0 h po a (by omega) k (by omega) T.length 0 J K (by omega) hJ hK
    obtain ⟨J2, K2, e2, m1, m2, q1, q2⟩ := ih k (a + 1) J1 K1 (by omega) (by omega) l1 l2
    refine ⟨J2, K2, ?_, m1, m2, fun x y hx hy => ?_, fun x y hx hy => ?_⟩
    · rw [show ((0 : Nat) : Int) = 0 from rfl] at e1
      rw [lattice_Lattice_fill.l1, if_pos (by omega), len_tells, Option.bind_some]
      exact e1.trans e2
    · rw [q1 x y hx hy, g1 x y hx hy]
      by_cases c1 : a + 1 ≤ x ∧ x < T.length ∧ y < T.length
      · rw [if_pos c1, if_pos (by omega)]
      · rw [if_neg c1]
        by_cases c2 : x = a ∧ 0 ≤ y ∧ y < T.length
        · rw [if_pos c2, if_pos (by omega), c2.1]
        · rw [if_neg c2, if_neg (by omega)]
    · rw [q2 x y hx hy, g2 x y hx hy]
      by_cases c1 : a + 1 ≤ x ∧ x < T.length ∧ y < T.length
      · rw [if_pos c1, if_pos (by omega)]
      · rw [if_neg c1]
        by_cases c2 : x = a ∧ 0 ≤ y ∧ y < T.length
        · rw [if_pos c2, if_pos (by omega), c2.1]
        · rw [if_neg c2, if_neg (by omega)]
end
def wRow (J K : Nat → Nat → Int) (a : Nat) : Nat → Nat → Option Nat
  | 0, _ => none
  | d + 1, b => if J a b = -1 ∨ K a b = -1 then some b else wRow J K a d (b + 1)
def wAll (J K : Nat → Nat → Int) (n : Nat) : Nat → Nat → Option (Nat × Nat)
  | 0, _ => none
  | d + 1, a => match wRow J K a (n - a) a with
    | some b => some (a, b)
    | none => wAll J K n d (a + 1)
def sRow (J K : Nat → Nat → Int) (a b : Nat) : Nat → Nat → Bool
  | 0, _ => false
  | d + 1, c => if K a (J b c).toNat = J (K a b).toNat (K a c).toNat then sRow J K a b d (c + 1) else true
def sCol (J K : Nat → Nat → Int) (n a : Nat) : Nat → Nat → Option Nat
  | 0, _ => none
  | d + 1, b => if sRow J K a b n 0 = true then some b else sCol J K n a d (b + 1)
def sAll (J K : Nat → Nat → Int) (n : Nat) : Nat → Nat → Option (Nat × Nat)
  | 0, _ => none
  | d + 1, a => match sCol J K n a n 0 with
    | some b => some (a, b)
    | none => sAll J K n d (a + 1)
def Tab (l : List Int) (n : Nat) (J : Nat → Nat → Int) : Prop := ∀ x y, x < n → y < n → l.getD (x * 64 + y) 0 = J x y
theorem whole_l0 (L : S107) (o : S81) (hL : L.f0 = some o) (n : Nat) (hn : o.f0.length = n) (h64 : n ≤ 64) (J K : Nat → Nat → Int) (hJ : Tab L.f2 n J) (hK : Tab L.f3 n K) (a : Nat) (ha : a < n) (f : Nat) (d : Nat) : ∀ b, b + d = n →
    lattice_Lattice_whole.l0 (f + d + 1) L (n : Int) (a : Int) (b : Int) = match wRow J K a d b with
      | some b' => some ((a : Int), (b' : Int), false)
      | none => lattice_Lattice_whole.l1 f L (n : Int) ((a + 1 : Nat) : Int) := by
  induction d with
  | zero =>
    intro b hb
    rw [lattice_Lattice_whole.l0, hL, len_tells, Option.bind_some, if_neg (by omega), wrap64_id (by omega) (by omega)]
    rfl
  | succ d ih =>
    intro b hb
    rw [show f + (d + 1) + 1 = (f + d + 1) + 1 by omega, lattice_Lattice_whole.l0, hL, len_tells, Option.bind_some, if_pos (by omega), if_pos (by omega), if_pos (by omega), if_pos (by omega), if_pos (by omega), Int.toNat_natCast, Int.toNat_natCast, hJ a b ha (by omega), hK a b ha (by omega)]
    by_cases c1 : J a b = -1
    · rw [if_pos c1, wRow, if_pos (.inl c1)]
    · rw [if_neg c1]
      by_cases c2 : K a b = -1
      · rw [if_pos c2, wRow, if_pos (.inr c2)]
      · have e : wRow J K a (d + 1) b = wRow J K a d (b + 1) := by rw [wRow, if_neg (by intro z; rcases z with z | z; exact c1 z; exact c2 z)]
        rw [if_neg c2, wrap64_id (by omega) (by omega), show (b : Int) + 1 = ((b + 1 : Nat) : Int) by omega, ih (b + 1) (by omega), e]
theorem whole_l1 (L : S107) (o : S81) (hL : L.f0 = some o) (n : Nat) (hn : o.f0.length = n) (h64 : n ≤ 64) (J K : Nat → Nat → Int) (hJ : Tab L.f2 n J) (hK : Tab L.f3 n K) (d : Nat) : ∀ k a, a + d = n → 2 + d * 70 ≤ k →
    lattice_Lattice_whole.l1 k L (n : Int) (a : Int) = some (match wAll J K n d a with
      | some (x, y) => ((x : Int), (y : Int), false)
      | none => (0, 0, true)) := by
  induction d with
  | zero =>
    intro k a ha hk
    obtain ⟨k, rfl⟩ : ∃ n, k = n + 1 := ⟨k - 1, by omega⟩
    rw [lattice_Lattice_whole.l1, if_neg (by omega)]
    rfl
  | succ d ih =>
    intro k a ha hk
    obtain ⟨k, rfl⟩ : ∃ q, k = q + (n - a) + 1 + 1 := ⟨k - 2 - (n - a), by omega⟩
    rw [lattice_Lattice_whole.l1, if_pos (by omega), whole_l0 L o hL n hn h64 J K hJ hK a (by omega) k (n - a) a (by omega), wAll]
    cases wRow J K a (n - a) a with
    | some b => rfl
    | none => exact ih k (a + 1) (by omega) (by omega)
theorem spr_l0 (L : S107) (n : Nat) (h64 : n ≤ 64) (J K : Nat → Nat → Int) (hJ : Tab L.f2 n J) (hK : Tab L.f3 n K) (rJ : ∀ x y, x < n → y < n → 0 ≤ J x y ∧ J x y < n) (rK : ∀ x y, x < n → y < n → 0 ≤ K x y ∧ K x y < n) (a b : Nat) (ha : a < n) (hb : b < n) (f : Nat) (d : Nat) : ∀ c, c + d = n →
    lattice_Lattice_spreads.l0 (f + d + 1) L (n : Int) (a : Int) (b : Int) (c : Int) = if sRow J K a b d c = true then some ((a : Int), (b : Int), false) else lattice_Lattice_spreads.l1 f L (n : Int) (a : Int) ((b + 1 : Nat) : Int) := by
  induction d with
  | zero =>
    intro c hc
    rw [lattice_Lattice_spreads.l0, if_neg (by omega), wrap64_id (by omega) (by omega), sRow, if_neg (by decide)]
    rfl
  | succ d ih =>
    intro c hc
    have hc' : c < n := by omega
    obtain ⟨p1, p2⟩ := rJ b c hb hc'
    obtain ⟨q1, q2⟩ := rK a b ha hb
    obtain ⟨s1, s2⟩ := rK a c ha hc'
    have j1 : List.getD L.f2 ((b : Int).toNat * 64 + (c : Int).toNat) 0 = J b c := by rw [Int.toNat_natCast, Int.toNat_natCast]; exact hJ b c hb hc'
    have k1 : List.getD L.f3 ((a : Int).toNat * 64 + (b : Int).toNat) 0 = K a b := by rw [Int.toNat_natCast, Int.toNat_natCast]; exact hK a b ha hb
    have k2 : List.getD L.f3 ((a : Int).toNat * 64 + (c : Int).toNat) 0 = K a c := by rw [Int.toNat_natCast, Int.toNat_natCast]; exact hK a c ha hc'
    have e1 : List.getD L.f3 ((a : Int).toNat * 64 + (List.getD L.f2 ((b : Int).toNat * 64 + (c : Int).toNat) 0).toNat) 0 = K a (J b c).toNat := by rw [j1, Int.toNat_natCast]; exact hK a _ ha (by omega)
    have e2 : List.getD L.f2 ((List.getD L.f3 ((a : Int).toNat * 64 + (b : Int).toNat) 0).toNat * 64 + (List.getD L.f3 ((a : Int).toNat * 64 + (c : Int).toNat) 0).toNat) 0 = J (K a b).toNat (K a c).toNat := by rw [k1, k2]; exact hJ _ _ (by omega) (by omega)
    rw [show f + (d + 1) + 1 = (f + d + 1) + 1 by omega, lattice_Lattice_spreads.l0, if_pos (by omega), if_pos (by omega), if_pos (by omega), if_pos (by omega), if_pos (by omega), if_pos (by omega), if_pos (by omega), if_pos (by rw [j1]; exact p1), if_pos (by rw [j1]; omega), if_pos (by rw [k1]; exact q1), if_pos (by rw [k1]; omega), if_pos (by rw [k2]; exact s1), if_pos (by rw [k2]; omega), wrap64_id (by omega) (by omega), show (c : Int) + 1 = ((c + 1 : Nat) : Int) by omega, ih (c + 1) (by omega), sRow]
    by_cases e : K a (J b c).toNat = J (K a b).toNat (K a c).toNat
    · rw [if_pos (by rw [e1, e2]; exact e), if_pos e]
    · rw [if_neg (by rw [e1, e2]; exact e), if_neg e, if_pos rfl]
theorem spr_l1 (L : S107) (n : Nat) (h64 : n ≤ 64) (J K : Nat → Nat → Int) (hJ : Tab L.f2 n J) (hK : Tab L.f3 n K) (rJ : ∀ x y, x < n → y < n → 0 ≤ J x y ∧ J x y < n) (rK : ∀ x y, x < n → y < n → 0 ≤ K x y ∧ K x y < n) (a : Nat) (ha : a < n) (F : Nat) (d : Nat) : ∀ k b, b + d = n → F + d * 70 + 1 ≤ k →
    ∃ f, F ≤ f ∧ lattice_Lattice_spreads.l1 k L (n : Int) (a : Int) (b : Int) = match sCol J K n a d b with
      | some y => some ((a : Int), (y : Int), false)
      | none => lattice_Lattice_spreads.l2 f L (n : Int) ((a + 1 : Nat) : Int) := by
  induction d with
  | zero =>
    intro k b hb hk
    obtain ⟨k, rfl⟩ : ∃ n, k = n + 1 := ⟨k - 1, by omega⟩
    refine ⟨k, by omega, ?_⟩
    rw [lattice_Lattice_spreads.l1, if_neg (by omega), wrap64_id (by omega) (by omega)]
    rfl
  | succ d ih =>
    intro k b hb hk
    obtain ⟨k, rfl⟩ : ∃ q, k = q + n + 1 + 1 := ⟨k - 2 - n, by omega⟩
    obtain ⟨f, h1, h2⟩ := ih k (b + 1) (by omega) (by omega)
    refine ⟨f, h1, ?_⟩
    have e0 := spr_l0 L n h64 J K hJ hK rJ rK a b ha (by omega) k n 0 (by omega)
    rw [show ((0 : Nat) : Int) = 0 from rfl] at e0
    rw [lattice_Lattice_spreads.l1, if_pos (by omega), e0, sCol]
    by_cases e : sRow J K a b n 0 = true
    · rw [if_pos e, if_pos e]
    · rw [if_neg e, if_neg e]; exact h2
theorem spr_l2 (L : S107) (n : Nat) (h64 : n ≤ 64) (J K : Nat → Nat → Int) (hJ : Tab L.f2 n J) (hK : Tab L.f3 n K) (rJ : ∀ x y, x < n → y < n → 0 ≤ J x y ∧ J x y < n) (rK : ∀ x y, x < n → y < n → 0 ≤ K x y ∧ K x y < n) (d : Nat) : ∀ k a, a + d = n → 1 + d * 4600 ≤ k →
    lattice_Lattice_spreads.l2 k L (n : Int) (a : Int) = some (match sAll J K n d a with
      | some (x, y) => ((x : Int), (y : Int), false)
      | none => (0, 0, true)) := by
  induction d with
  | zero =>
    intro k a ha hk
    obtain ⟨k, rfl⟩ : ∃ n, k = n + 1 := ⟨k - 1, by omega⟩
    rw [lattice_Lattice_spreads.l2, if_neg (by omega)]
    rfl
  | succ d ih =>
    intro k a ha hk
    obtain ⟨k, rfl⟩ : ∃ q, k = q + 1 := ⟨k - 1, by omega⟩
    obtain ⟨f, h1, h2⟩ := spr_l1 L n h64 J K hJ hK rJ rK a (by omega) (1 + d * 4600) n k 0 (by omega) (by omega)
    rw [show ((0 : Nat) : Int) = 0 from rfl] at h2
    rw [lattice_Lattice_spreads.l2, if_pos (by omega), h2, sAll]
    cases sCol J K n a n 0 with
    | some b => rfl
    | none => exact ih f (a + 1) (by omega) h1
theorem wRow_none {J K : Nat → Nat → Int} {a : Nat} : ∀ (d b : Nat), wRow J K a d b = none → ∀ y, b ≤ y → y < b + d → J a y ≠ -1 ∧ K a y ≠ -1
  | 0, _, _, _, _, _ => by omega
  | d + 1, b, h, y, h1, h2 => by
    rw [wRow] at h
    by_cases c : J a b = -1 ∨ K a b = -1
    · rw [if_pos c] at h; cases h
    · rw [if_neg c] at h
      by_cases e : y = b
      · subst e; exact ⟨fun z => c (.inl z), fun z => c (.inr z)⟩
      · exact wRow_none d (b + 1) h y (by omega) (by omega)
theorem wAll_none {J K : Nat → Nat → Int} {n : Nat} : ∀ (d a : Nat), wAll J K n d a = none → ∀ x y, a ≤ x → x < a + d → x ≤ y → y < n → J x y ≠ -1 ∧ K x y ≠ -1
  | 0, _, _, _, _, _, _, _, _ => by omega
  | d + 1, a, h, x, y, h1, h2, h3, h4 => by
    rw [wAll] at h
    cases e : wRow J K a (n - a) a with
    | some b => rw [e] at h; cases h
    | none =>
      rw [e] at h
      by_cases z : x = a
      · subst z; exact wRow_none _ _ e y h3 (by omega)
      · exact wAll_none d (a + 1) h x y (by omega) (by omega) h3 h4
theorem sRow_none {J K : Nat → Nat → Int} {a b : Nat} : ∀ (d c : Nat), sRow J K a b d c = false → ∀ z, c ≤ z → z < c + d → K a (J b z).toNat = J (K a b).toNat (K a z).toNat
  | 0, _, _, _, _, _ => by omega
  | d + 1, c, h, z, h1, h2 => by
    rw [sRow] at h
    by_cases e : K a (J b c).toNat = J (K a b).toNat (K a c).toNat
    · rw [if_pos e] at h
      by_cases q : z = c
      · subst q; exact e
      · exact sRow_none d (c + 1) h z (by omega) (by omega)
    · rw [if_neg e] at h; cases h
theorem sCol_none {J K : Nat → Nat → Int} {n a : Nat} : ∀ (d b : Nat), sCol J K n a d b = none → ∀ y z, b ≤ y → y < b + d → z < n → K a (J y z).toNat = J (K a y).toNat (K a z).toNat
  | 0, _, _, _, _, _, _, _ => by omega
  | d + 1, b, h, y, z, h1, h2, h3 => by
    rw [sCol] at h
    by_cases e : sRow J K a b n 0 = true
    · rw [if_pos e] at h; cases h
    · rw [if_neg e] at h
      by_cases q : y = b
      · subst q; exact sRow_none n 0 (by simpa using e) z (by omega) (by omega)
      · exact sCol_none d (b + 1) h y z (by omega) (by omega) h3
theorem sAll_none {J K : Nat → Nat → Int} {n : Nat} : ∀ (d a : Nat), sAll J K n d a = none → ∀ x y z, a ≤ x → x < a + d → y < n → z < n → K x (J y z).toNat = J (K x y).toNat (K x z).toNat
  | 0, _, _, _, _, _, _, _, _, _ => by omega
  | d + 1, a, h, x, y, z, h1, h2, h3, h4 => by
    rw [sAll] at h
    cases e : sCol J K n a n 0 with
    | some b => rw [e] at h; cases h
    | none =>
      rw [e] at h
      by_cases q : x = a
      · subst q; exact sCol_none n 0 e y z (by omega) (by omega) h4
      · exact sAll_none d (a + 1) h x y z (by omega) (by omega) h3 h4
theorem jn_comm {n : Nat} {le : Nat → Nat → Prop} (h : Po n le) (a b : Nat) : jn n le a b = jn n le b a := by
  rcases jn_or h a b with e | ⟨i, _, e, hl⟩
  · rw [e]
    refine (jn_none fun i hi => ?_).symm
    have := jn_lub h (a := a) (b := b) (i := i) ⟨hi.2.1, hi.1, fun j x y => hi.2.2 j y x⟩
    omega
  · rw [e]
    exact (jn_lub h ⟨hl.2.1, hl.1, fun j x y => hl.2.2 j y x⟩).symm
def mkL (o : S81) (J K : List Int) (c : Int) : S107 := ⟨some o, ⟨⟨1⟩, ⟨⟨0, 0⟩⟩⟩, J, K, ⟨c⟩⟩
section
variable {P : List S53} {T : List ByteArray} {U : List Nat}
noncomputable def jj (T : List ByteArray) (U : List Nat) : Nat → Nat → Int := jn T.length (M (cl T U))
noncomputable def kk (T : List ByteArray) (U : List Nat) : Nat → Nat → Int := jn T.length (flp (M (cl T U)))
theorem rg (h : Inv P T U) (po : Po T.length (M (cl T U))) (hw : wAll (jj T U) (kk T U) T.length T.length 0 = none) (x y : Nat) (hx : x < T.length) (hy : y < T.length) :
    (∃ i, i < T.length ∧ jj T U x y = (i : Int) ∧ lub (M (cl T U)) x y i) ∧ ∃ i, i < T.length ∧ kk T U x y = (i : Int) ∧ lub (flp (M (cl T U))) x y i := by
  have key : jj T U x y ≠ -1 ∧ kk T U x y ≠ -1 := by
    by_cases c : x ≤ y
    · exact wAll_none _ _ hw x y (by omega) (by omega) c hy
    · have := wAll_none _ _ hw y x (by omega) (by omega) (by omega) hx
      exact ⟨fun z => this.1 ((jn_comm po y x).trans z), fun z => this.2 ((jn_comm po.flp y x).trans z)⟩
  constructor
  · rcases jn_or po x y with e | e
    · exact absurd e key.1
    · exact e
  · rcases jn_or po.flp x y with e | e
    · exact absurd e key.2
    · exact e
theorem lat_tells (h : Inv P T U) (po : Po T.length (M (cl T U))) (k : Nat) (hk : 300000 ≤ k) : ∃ Jl Kl, Tab Jl T.length (jj T U) ∧ Tab Kl T.length (kk T U) ∧
    lattice_New.f k (some (ordOf T U)) = some (if T.length = 0 then ((none, 0, 0, 1) : Option S107 × Int × Int × Int) else match wAll (jj T U) (kk T U) T.length T.length 0 with
      | some (a, b) => (none, (a : Int), (b : Int), 17)
      | none => match sAll (jj T U) (kk T U) T.length T.length 0 with
        | some (a, b) => (none, (a : Int), (b : Int), 17)
        | none => (some (mkL (ordOf T U) Jl Kl 0), 0, 0, 0)) := by
  have hT := h.le
  obtain ⟨Jl, Kl, e, _, _, g1, g2⟩ := fill_l1 h po T.length k 0 (zer 4096 0) (zer 4096 0) (by omega) (by omega) zer_length zer_length
  rw [show ((0 : Nat) : Int) = 0 from rfl] at e
  have hJ : Tab Jl T.length (jj T U) := fun x y hx hy => by rw [g1 x y (by omega) (by omega), if_pos (by omega)]; rfl
  have hK : Tab Kl T.length (kk T U) := fun x y hx hy => by rw [g2 x y (by omega) (by omega), if_pos (by omega)]; rfl
  refine ⟨Jl, Kl, hJ, hK, ?_⟩
  have hl : (ordOf T U).f0.length = T.length := rfl
  have hf : lattice_Lattice_fill.f k (some (ordOf T U)) 0 1 0 (zer 4096 0) (zer 4096 0) 0 = some (Jl, Kl) := by
    unfold lattice_Lattice_fill.f
    rw [len_tells, Option.bind_some, hl]
    exact e
  have hwf : lattice_Lattice_whole.f k (some (mkL (ordOf T U) Jl Kl 0)) = some (match wAll (jj T U) (kk T U) T.length T.length 0 with
      | some (x, y) => ((x : Int), (y : Int), false)
      | none => (0, 0, true)) := by
    unfold lattice_Lattice_whole.f
    show (order_Order_Len.f (some (ordOf T U))).bind (fun t => lattice_Lattice_whole.l1 k (mkL (ordOf T U) Jl Kl 0) t 0) = _
    rw [len_tells, Option.bind_some, hl]
    have := whole_l1 (mkL (ordOf T U) Jl Kl 0) (ordOf T U) rfl T.length hl hT (jj T U) (kk T U) hJ hK T.length k 0 (by omega) (by omega)
    rw [show ((0 : Nat) : Int) = 0 from rfl] at this
    exact this
  unfold lattice_New.f
  rw [len_tells, Option.bind_some, hl]
  by_cases h0 : T.length = 0
  · rw [if_pos h0, if_pos (by omega)]
  · rw [if_neg (by omega), if_neg h0, hf, Option.bind_some]
    show (lattice_Lattice_whole.f k (some (mkL (ordOf T U) Jl Kl 0))).bind _ = _
    rw [hwf, Option.bind_some]
    cases hw : wAll (jj T U) (kk T U) T.length T.length 0 with
    | some p => obtain ⟨x, y⟩ := p; rfl
    | none =>
      have hsf : lattice_Lattice_spreads.f k (some (mkL (ordOf T U) Jl Kl 0)) = some (match sAll (jj T U) (kk T U) T.length T.length 0 with
          | some (x, y) => ((x : Int), (y : Int), false)
          | none => (0, 0, true)) := by
        unfold lattice_Lattice_spreads.f
        show (order_Order_Len.f (some (ordOf T U))).bind (fun t => lattice_Lattice_spreads.l2 k (mkL (ordOf T U) Jl Kl 0) t 0) = _
        rw [len_tells, Option.bind_some, hl]
        have := spr_l2 (mkL (ordOf T U) Jl Kl 0) T.length hT (jj T U) (kk T U) hJ hK (fun x y hx hy => by obtain ⟨⟨i, a1, a2, _⟩, _⟩ := rg h po hw x y hx hy; omega) (fun x y hx hy => by obtain ⟨_, ⟨i, a1, a2, _⟩⟩ := rg h po hw x y hx hy; omega) T.length k 0 (by omega) (by omega)
        rw [show ((0 : Nat) : Int) = 0 from rfl] at this
        exact this
      show (if true = true then _ else _) = _
      rw [if_pos rfl]
      show (lattice_Lattice_spreads.f k (some (mkL (ordOf T U) Jl Kl 0))).bind _ = _
      rw [hsf, Option.bind_some]
      cases hs : sAll (jj T U) (kk T U) T.length T.length 0 with
      | some p => obtain ⟨x, y⟩ := p; rfl
      | none => rfl
end
structure Lt (n : Nat) (le : Nat → Nat → Prop) (J K : Nat → Nat → Nat) : Prop where
  po : Po n le
  j : ∀ {x y}, x < n → y < n → J x y < n ∧ lub le x y (J x y)
  k : ∀ {x y}, x < n → y < n → K x y < n ∧ lub (flp le) x y (K x y)
  ds : ∀ {x y z}, x < n → y < n → z < n → K x (J y z) = J (K x y) (K x z)
namespace Lt
variable {n : Nat} {le : Nat → Nat → Prop} {J K : Nat → Nat → Nat} {x y z : Nat}
end Lt
structure IsL (L : S107) (o : S81) (n : Nat) (J K : Nat → Nat → Nat) : Prop where
  o_ : L.f0 = some o
  n_ : o.f0.length = n
  le : n ≤ 64
  dn : L.f1.f0.f0 = 1
  j_ : Tab L.f2 n (fun x y => (J x y : Int))
  k_ : Tab L.f3 n (fun x y => (K x y : Int))
section
variable {L : S107} {o : S81} {n : Nat} {J K : Nat → Nat → Nat} {le : Nat → Nat → Prop}
theorem IsL.more (h : IsL L o n J K) (c : Int) : IsL ⟨L.f0, ⟨⟨L.f1.f0.f0⟩, ⟨⟨L.f1.f1.f0.f0, L.f1.f1.f0.f1⟩⟩⟩, L.f2, L.f3, ⟨c⟩⟩ o n J K := ⟨h.o_, h.n_, h.le, h.dn, h.j_, h.k_⟩
theorem inL (h : IsL L o n J K) (x y : Nat) (hx : x < n) (hy : y < n) : lattice_Lattice_in.f (some L) (x : Int) (y : Int) = some true := by
  have hn := h.n_
  unfold lattice_Lattice_in.f
  dsimp only [onOpt]
  have h1 : mn (x : Int) (y : Int) ≥ 0 := by unfold mn; split <;> omega
  have h2 : mx (x : Int) (y : Int) < (o.f0.length : Int) := by unfold mx; split <;> omega
  rw [if_pos h.dn, if_pos h1, h.o_, len_tells, Option.bind_some, decide_eq_true h2]
theorem joinL (h : IsL L o n J K) (hj : ∀ x y, x < n → y < n → J x y < n) (c : Int) (x y : Nat) (hx : x < n) (hy : y < n) :
    lattice_Lattice_Join.f L.f0 L.f1.f0.f0 L.f1.f1.f0.f0 L.f1.f1.f0.f1 L.f2 L.f3 c (x : Int) (y : Int) = some ((J x y : Int), wrap64 (c + 1)) := by
  have hl := h.le
  have := hj x y hx hy
  unfold lattice_Lattice_Join.f
  rw [Option.bind_some, inL (h.more _) x y hx hy, Option.bind_some, if_pos rfl, if_pos (by omega), if_pos (by omega), if_pos (by omega), if_pos (by omega), Int.toNat_natCast, Int.toNat_natCast, h.j_ x y hx hy, wrap64_id (x := (J x y : Int)) (by omega) (by omega)]
end
section
variable {L : S107} {o : S81} {n : Nat} {J K : Nat → Nat → Nat} {le : Nat → Nat → Prop}
theorem meetL (h : IsL L o n J K) (hk : ∀ x y, x < n → y < n → K x y < n) (c : Int) (x y : Nat) (hx : x < n) (hy : y < n) :
    lattice_Lattice_Meet.f L.f0 L.f1.f0.f0 L.f1.f1.f0.f0 L.f1.f1.f0.f1 L.f2 L.f3 c (x : Int) (y : Int) = some ((K x y : Int), wrap64 (c + 1)) := by
  have hl := h.le
  have := hk x y hx hy
  unfold lattice_Lattice_Meet.f
  rw [Option.bind_some, inL (h.more _) x y hx hy, Option.bind_some, if_pos rfl, if_pos (by omega), if_pos (by omega), if_pos (by omega), if_pos (by omega), Int.toNat_natCast, Int.toNat_natCast, h.k_ x y hx hy, wrap64_id (x := (K x y : Int)) (by omega) (by omega)]
theorem top_l0 (h : IsL L o n J K) (lt : Lt n le J K) (d : Nat) : ∀ (k t i : Nat), i + d = n → d + 1 ≤ k → t < n → (∀ j, j < i → le j t) →
    ∃ r, r < n ∧ (∀ j, j < n → le j r) ∧ lattice_Lattice_Top.l0 k L (n : Int) (t : Int) (i : Int) = some (r : Int) := by
  have hl := h.le
  induction d with
  | zero =>
    intro k t i hi hk ht hj
    obtain ⟨k, rfl⟩ : ∃ n, k = n + 1 := ⟨k - 1, by omega⟩
    exact ⟨t, ht, fun j z => hj j (by omega), by rw [lattice_Lattice_Top.l0, if_neg (by omega)]⟩
  | succ d ih =>
    intro k t i hi hk ht hj
    obtain ⟨k, rfl⟩ : ∃ n, k = n + 1 := ⟨k - 1, by omega⟩
    have hii : i < n := by omega
    obtain ⟨q1, q2⟩ := lt.j ht hii
    obtain ⟨r, r1, r2, r3⟩ := ih k (J t i) (i + 1) (by omega) (by omega) q1 (fun j z => by
      by_cases e : j = i
      · subst e; exact q2.2.1
      · exact lt.po.tr (hj j (by omega)) q2.1)
    refine ⟨r, r1, r2, ?_⟩
    rw [lattice_Lattice_Top.l0, if_pos (by omega), if_pos (by omega), if_pos (by omega), if_pos (by omega), if_pos (by omega), Int.toNat_natCast, Int.toNat_natCast, h.j_ t i ht hii, wrap64_id (x := (J t i : Int)) (by omega) (by omega), wrap64_id (by omega) (by omega), show (i : Int) + 1 = ((i + 1 : Nat) : Int) by omega]
    exact r3
theorem topL (h : IsL L o n J K) (lt : Lt n le J K) (h0 : 0 < n) (k : Nat) (hk : 100 ≤ k) : ∃ r, r < n ∧ (∀ j, j < n → le j r) ∧ lattice_Lattice_Top.f k (some L) = some (r : Int) := by
  have hl := h.le
  have hn := h.n_
  obtain ⟨r, r1, r2, r3⟩ := top_l0 h lt n k 0 0 (by omega) (by omega) h0 (fun j z => by omega)
  refine ⟨r, r1, r2, ?_⟩
  unfold lattice_Lattice_Top.f
  dsimp only [onOpt]
  rw [h.o_, len_tells, Option.bind_some, hn]
  exact r3
end
section
variable {L : S107} {o : S81} {n : Nat} {J K : Nat → Nat → Nat} {le : Nat → Nat → Prop}
theorem bot_l0 (h : IsL L o n J K) (lt : Lt n le J K) (d : Nat) : ∀ (k t i : Nat), i + d = n → d + 1 ≤ k → t < n → (∀ j, j < i → le t j) →
    ∃ r, r < n ∧ (∀ j, j < n → le r j) ∧ lattice_Lattice_Bottom.l0 k L (n : Int) (t : Int) (i : Int) = some (r : Int) := by
  have hl := h.le
  induction d with
  | zero =>
    intro k t i hi hk ht hj
    obtain ⟨k, rfl⟩ : ∃ n, k = n + 1 := ⟨k - 1, by omega⟩
    exact ⟨t, ht, fun j z => hj j (by omega), by rw [lattice_Lattice_Bottom.l0, if_neg (by omega)]⟩
  | succ d ih =>
    intro k t i hi hk ht hj
    obtain ⟨k, rfl⟩ : ∃ n, k = n + 1 := ⟨k - 1, by omega⟩
    have hii : i < n := by omega
    obtain ⟨q1, q2⟩ := lt.k ht hii
    obtain ⟨r, r1, r2, r3⟩ := ih k (K t i) (i + 1) (by omega) (by omega) q1 (fun j z => by
      by_cases e : j = i
      · subst e; exact q2.2.1
      · exact lt.po.tr q2.1 (hj j (by omega)))
    refine ⟨r, r1, r2, ?_⟩
    rw [lattice_Lattice_Bottom.l0, if_pos (by omega), if_pos (by omega), if_pos (by omega), if_pos (by omega), if_pos (by omega), Int.toNat_natCast, Int.toNat_natCast, h.k_ t i ht hii, wrap64_id (x := (K t i : Int)) (by omega) (by omega), wrap64_id (by omega) (by omega), show (i : Int) + 1 = ((i + 1 : Nat) : Int) by omega]
    exact r3
theorem botL (h : IsL L o n J K) (lt : Lt n le J K) (h0 : 0 < n) (k : Nat) (hk : 100 ≤ k) : ∃ r, r < n ∧ (∀ j, j < n → le r j) ∧ lattice_Lattice_Bottom.f k (some L) = some (r : Int) := by
  have hl := h.le
  have hn := h.n_
  obtain ⟨r, r1, r2, r3⟩ := bot_l0 h lt n k 0 0 (by omega) (by omega) h0 (fun j z => by omega)
  refine ⟨r, r1, r2, ?_⟩
  unfold lattice_Lattice_Bottom.f
  dsimp only [onOpt]
  rw [h.o_, len_tells, Option.bind_some, hn]
  exact r3
end
section
variable {P : List S53} {T : List ByteArray} {U : List Nat}
theorem lt_of (h : Inv P T U) (po : Po T.length (M (cl T U))) (hw : wAll (jj T U) (kk T U) T.length T.length 0 = none) (hs : sAll (jj T U) (kk T U) T.length T.length 0 = none) :
    Lt T.length (M (cl T U)) (fun x y => (jj T U x y).toNat) (fun x y => (kk T U x y).toNat) := by
  refine ⟨po, fun {x y} hx hy => ?_, fun {x y} hx hy => ?_, fun {x y z} hx hy hz => ?_⟩
  · obtain ⟨⟨i, a1, a2, a3⟩, _⟩ := rg h po hw x y hx hy
    rw [a2, Int.toNat_natCast]; exact ⟨a1, a3⟩
  · obtain ⟨_, ⟨i, a1, a2, a3⟩⟩ := rg h po hw x y hx hy
    rw [a2, Int.toNat_natCast]; exact ⟨a1, a3⟩
  · rw [sAll_none _ _ hs x y z (by omega) (by omega) hy hz]
theorem tab_nat (h : Inv P T U) (po : Po T.length (M (cl T U))) (hw : wAll (jj T U) (kk T U) T.length T.length 0 = none) {Jl Kl : List Int} (hJ : Tab Jl T.length (jj T U)) (hK : Tab Kl T.length (kk T U)) (c : Int) :
    IsL (mkL (ordOf T U) Jl Kl c) (ordOf T U) T.length (fun x y => (jj T U x y).toNat) (fun x y => (kk T U x y).toNat) := by
  refine ⟨rfl, rfl, h.le, rfl, fun x y hx hy => ?_, fun x y hx hy => ?_⟩
  · obtain ⟨⟨i, a1, a2, a3⟩, _⟩ := rg h po hw x y hx hy
    show Jl.getD (x * 64 + y) 0 = _
    rw [hJ x y hx hy]; dsimp only; rw [a2, Int.toNat_natCast]
  · obtain ⟨_, ⟨i, a1, a2, a3⟩⟩ := rg h po hw x y hx hy
    show Kl.getD (x * 64 + y) 0 = _
    rw [hK x y hx hy]; dsimp only; rw [a2, Int.toNat_natCast]
end
theorem awake_at (k : Nat) : blazonlaw14_awake.f (k + 300) = some true := by kernel_rfl
theorem awake_tells (k : Nat) (h : 300 ≤ k) : blazonlaw14_awake.f k = some true := by
  obtain ⟨k, rfl⟩ : ∃ n, k = n + 300 := ⟨k - 300, by omega⟩
  exact awake_at k
theorem rletter (c : Int) (h0 : 0 ≤ c) (h1 : c < 256) : blazonref06_Letter.f c = some (letterB c) :=
  byte_all (fun c => blazonref06_Letter.f c = some (letterB c)) (by decide +kernel) c h0 h1
theorem rdigit (c : Int) : blazonref06_Digit.f c = some (digitB c) := by
  unfold blazonref06_Digit.f digitB
  by_cases h : c ≥ 48
  · simp [h]
  · simp [h]
theorem rdOf_at {α : Type} (z : α) (l : List α) (i : Nat) (h : i < l.length) : rdOf z l (i : Int) = l[i] := by simp [rdOf, List.getD_eq_getElem?_getD, h]
theorem rkw_l0 (x : ByteArray) (l : List ByteArray) (hl : l.length ≤ 1000) (d : Nat) : ∀ (k i : Nat), i + d = l.length → d + 1 ≤ k → blazonref06_Keyword.l0 k x (i : Int) l = some ((l.drop i).any fun y => decide (x = y)) := by
  induction d with
  | zero =>
    intro k i hi hk
    obtain ⟨k, rfl⟩ : ∃ n, k = n + 1 := ⟨k - 1, by omega⟩
    rw [blazonref06_Keyword.l0, if_neg (by omega), List.drop_eq_nil_of_le (by omega)]
    rfl
  | succ d ih =>
    intro k i hi hk
    obtain ⟨k, rfl⟩ : ∃ n, k = n + 1 := ⟨k - 1, by omega⟩
    rw [blazonref06_Keyword.l0, if_pos (by omega), if_pos (by omega), rdOf_at _ l i (by omega), List.drop_eq_getElem_cons (by omega), List.any_cons]
    by_cases e : l[i] = x
    · rw [if_pos e, decide_eq_true e.symm]; rfl
    · rw [if_neg e, decide_eq_false (fun z => e z.symm), Bool.false_or, wrap64_id (by omega) (by omega), show (i : Int) + 1 = ((i + 1 : Nat) : Int) by omega]
      exact ih k (i + 1) (by omega) (by omega)
theorem rkw (k : Nat) (hk : 20 ≤ k) (x : ByteArray) : blazonref06_Keyword.f k x = some (kw x) := by
  unfold blazonref06_Keyword.f
  rw [Option.bind_some]
  have := rkw_l0 x KW (by decide) KW.length k 0 (by simp) (by have : KW.length = 16 := rfl; omega)
  rw [List.drop_zero] at this
  exact this
def chk (x : ByteArray) (j : Nat) : Bool := if j = 0 then letterB (bt x 0) else wordB (bt x (j : Int))
theorem rident_l0 (x : ByteArray) (hx : x.size ≤ 140737488351232) (d : Nat) : ∀ (k i : Nat), i + d = x.size → 2 * d + 60 ≤ k →
    blazonref06_Ident.l0 k x (i : Int) = some (((List.range' i d).all fun j => chk x j) && (decide (0 < x.size) && (decide (x.size ≤ 24) && !kw x))) := by
  induction d with
  | zero =>
    intro k i hi hk
    obtain ⟨k, rfl⟩ : ∃ n, k = n + 1 := ⟨k - 1, by omega⟩
    rw [blazonref06_Ident.l0, if_neg (by omega)]
    by_cases h0 : 0 < x.size
    · rw [if_pos (by omega), decide_eq_true h0]
      by_cases h1 : x.size ≤ 24
      · rw [if_pos (by omega), rkw k (by omega), decide_eq_true h1]
        simp
      · rw [if_neg (by omega), decide_eq_false h1]; simp
    · rw [if_neg (by omega), decide_eq_false h0]; simp
  | succ d ih =>
    intro k i hi hk
    obtain ⟨k, rfl⟩ : ∃ n, k = n + 2 := ⟨k - 2, by omega⟩
    obtain ⟨b0, b1⟩ := bt_in x (i : Int)
    have nx := ih k (i + 1) (by omega) (by omega)
    have go : blazonref06_Ident.j0 (k + 1) x (i : Int) false = blazonref06_Ident.l0 k x ((i + 1 : Nat) : Int) := by
      rw [blazonref06_Ident.j0, if_neg (by decide), wrap64_id (by omega) (by omega), show (i : Int) + 1 = ((i + 1 : Nat) : Int) by omega]
    have no : blazonref06_Ident.j0 (k + 1) x (i : Int) true = some false := by rw [blazonref06_Ident.j0, if_pos rfl]
    rw [blazonref06_Ident.l0, if_pos (by omega), if_pos (by omega), rletter _ b0 b1, Option.bind_some, List.range'_succ, List.all_cons]
    by_cases hl : letterB (bt x (i : Int)) = true
    · have hc : chk x i = true := by
        unfold chk
        split
        · rename_i e; subst e; exact hl
        · unfold wordB; rw [hl]; rfl
      rw [if_pos hl, go, nx, hc, Bool.true_and]
    · rw [if_neg hl]
      have hl' : letterB (bt x (i : Int)) = false := by simpa using hl
      by_cases e : i = 0
      · subst e
        have hc : chk x 0 = false := by unfold chk; rw [if_pos rfl]; exact hl'
        rw [if_pos (show ((0 : Nat) : Int) = 0 from rfl), no, hc]; rfl
      · rw [if_neg (by omega), rdigit, Option.bind_some]
        have hc : chk x i = digitB (bt x (i : Int)) := by unfold chk wordB; rw [if_neg e, hl', Bool.false_or]
        rw [hc]
        cases hd : digitB (bt x (i : Int)) with
        | true => rw [Bool.not_true, go, nx, Bool.true_and]
        | false => rw [Bool.not_false, no]; rfl
theorem bt_bytes (x : ByteArray) (j : Nat) (h : j < x.size) : (bytesOf x)[j]'(by rw [bytesOf_len]; exact h) = bt x (j : Int) := by
  unfold bytesOf bt
  simp [h]
  rfl
theorem takeAll {α : Type} (p : α → Bool) : ∀ (l : List α), (l.takeWhile p).length = l.length ↔ ∀ y ∈ l, p y = true
  | [] => by simp
  | a :: l => by
    rw [List.takeWhile_cons]
    by_cases h : p a = true
    · rw [if_pos h, List.length_cons, List.length_cons]
      have := takeAll p l
      constructor
      · intro e y hy
        rcases List.mem_cons.1 hy with z | z
        · subst z; exact h
        · exact this.1 (by omega) y z
      · intro e
        rw [this.2 (fun y hy => e y (List.mem_cons_of_mem _ hy))]
    · rw [if_neg h]
      constructor
      · intro e; simp at e
      · intro e; exact absurd (e a (List.mem_cons_self ..)) h
theorem rident (x : ByteArray) (hx : x.size ≤ 140737488351232) (k : Nat) (hk : 2 * x.size + 60 ≤ k) : blazonref06_Ident.f k x = some (identB x) := by
  have := rident_l0 x hx x.size k 0 (by omega) hk
  unfold blazonref06_Ident.f
  rw [show ((0 : Nat) : Int) = 0 from rfl] at this
  rw [this]
  congr 1
  unfold identB
  by_cases h0 : 0 < x.size
  · have key : ((List.range' 0 x.size).all fun j => chk x j) = (letterB (bt x 0) && (((bytesOf x).takeWhile wordB).length == x.size)) := by
      rw [Bool.eq_iff_iff, List.all_eq_true, Bool.and_eq_true, beq_iff_eq]
      have hT := takeAll wordB (bytesOf x)
      rw [bytesOf_len] at hT
      rw [hT]
      constructor
      · intro h
        have c0 : letterB (bt x 0) = true := by
          have := h 0 (by simp; omega)
          unfold chk at this; rwa [if_pos rfl] at this
        refine ⟨c0, fun y hy => ?_⟩
        obtain ⟨j, hj, rfl⟩ := List.getElem_of_mem hy
        have hj' : j < x.size := by rw [bytesOf_len] at hj; exact hj
        rw [bt_bytes x j hj']
        have := h j (by simp; omega)
        unfold chk at this
        split at this
        · rename_i e; subst e; unfold wordB; rw [show ((0 : Nat) : Int) = 0 from rfl, c0]; rfl
        · exact this
      · intro h j hj
        have hj' : j < x.size := by simp at hj; omega
        unfold chk
        split
        · exact h.1
        · rw [← bt_bytes x j hj']
          exact h.2 _ (List.getElem_mem _)
    rw [key, decide_eq_true h0]
    cases letterB (bt x 0) <;> cases (((bytesOf x).takeWhile wordB).length == x.size) <;> cases decide (x.size ≤ 24) <;> cases kw x <;> rfl
  · rw [decide_eq_false h0]; simp
theorem rfind_l0 (a : ByteArray) (l : List ByteArray) (hl : l.length ≤ 1000000) (d : Nat) : ∀ (k i : Nat), i + d = l.length → d + 1 ≤ k →
    blazonref13_Find.l0 k a l (i : Int) = some (if a ∈ l.drop i then ((i + at_ (l.drop i) a : Nat) : Int) else -1) := by
  induction d with
  | zero =>
    intro k i hi hk
    obtain ⟨k, rfl⟩ : ∃ n, k = n + 1 := ⟨k - 1, by omega⟩
    rw [blazonref13_Find.l0, if_neg (by omega), List.drop_eq_nil_of_le (by omega), if_neg (by simp)]
  | succ d ih =>
    intro k i hi hk
    obtain ⟨k, rfl⟩ : ∃ n, k = n + 1 := ⟨k - 1, by omega⟩
    rw [blazonref13_Find.l0, if_pos (by omega), if_pos (by omega), rdOf_at _ l i (by omega), List.drop_eq_getElem_cons (by omega), at_]
    by_cases e : l[i] = a
    · rw [if_pos e, if_pos (by rw [e]; simp), if_pos e]; rfl
    · rw [if_neg e, if_neg e, wrap64_id (by omega) (by omega), show (i : Int) + 1 = ((i + 1 : Nat) : Int) by omega, ih k (i + 1) (by omega) (by omega)]
      have hm : a ∈ l[i] :: l.drop (i + 1) ↔ a ∈ l.drop (i + 1) := ⟨fun z => by
        rcases List.mem_cons.1 z with z | z
        · exact absurd z.symm e
        · exact z, fun z => List.mem_cons_of_mem _ z⟩
      by_cases c : a ∈ l.drop (i + 1)
      · rw [if_pos c, if_pos (hm.2 c)]; congr 2; omega
      · rw [if_neg c, if_neg (fun z => c (hm.1 z))]
theorem rfind (a : ByteArray) (l : List ByteArray) (hl : l.length ≤ 1000000) (k : Nat) (hk : l.length + 1 ≤ k) : blazonref13_Find.f k l a = some (if a ∈ l then ((at_ l a : Nat) : Int) else -1) := by
  have := rfind_l0 a l hl l.length k 0 (by omega) hk
  rw [List.drop_zero, Nat.zero_add] at this
  exact this
def ins (T : List ByteArray) (x : ByteArray) : List ByteArray := if x ∈ T then T else T ++ [x]
def ins2 (T : List ByteArray) (p : S53) : List ByteArray := if p.f1 = (⟨#[]⟩ : ByteArray) then ins T p.f0 else ins (ins T p.f0) p.f1
def nms (T : List ByteArray) (L : List S53) : List ByteArray := L.foldl ins2 T
theorem ins_len (T : List ByteArray) (x : ByteArray) : T.length ≤ (ins T x).length ∧ (ins T x).length ≤ T.length + 1 := by
  unfold ins; split
  · omega
  · rw [List.length_append]; simp
theorem rnames_l0 (L : List S53) (hL : L.length ≤ 1000) (d : Nat) : ∀ (k i : Nat) (T : List ByteArray), i + d = L.length → T.length ≤ 2 * i → 3 * d + 2 * L.length + 10 ≤ k →
    blazonref13_names.l0 k L T (i : Int) = some (nms T (L.drop i)) := by
  induction d with
  | zero =>
    intro k i T hi hT hk
    obtain ⟨k, rfl⟩ : ∃ n, k = n + 1 := ⟨k - 1, by omega⟩
    rw [blazonref13_names.l0, if_neg (by omega), List.drop_eq_nil_of_le (by omega)]
    rfl
  | succ d ih =>
    intro k i T hi hT hk
    obtain ⟨k, rfl⟩ : ∃ n, k = n + 3 := ⟨k - 3, by omega⟩
    have hii : i < L.length := by omega
    have nx : ∀ T' : List ByteArray, T'.length ≤ 2 * (i + 1) → blazonref13_names.l0 k L T' (wrap64 ((i : Int) + 1)) = some (nms T' (L.drop (i + 1))) := fun T' h => by
      rw [wrap64_id (by omega) (by omega), show (i : Int) + 1 = ((i + 1 : Nat) : Int) by omega]
      exact ih k (i + 1) T' (by omega) h (by omega)
    have j1 : ∀ T' : List ByteArray, T'.length ≤ 2 * i + 1 → blazonref13_names.j1 (k + 2) L (i : Int) T' = some (nms (if L[i].f1 = (⟨#[]⟩ : ByteArray) then T' else ins T' L[i].f1) (L.drop (i + 1))) := fun T' h => by
      rw [blazonref13_names.j1, if_pos (by omega), if_pos (by omega), rd53 L i hii]
      by_cases e : L[i].f1 = (⟨#[]⟩ : ByteArray)
      · rw [if_pos e, if_pos e, blazonref13_names.j0, if_neg (by decide), nx T' (by omega)]
      · rw [if_neg e, if_neg e, rfind _ T' (by omega) (k + 1) (by omega), Option.bind_some, blazonref13_names.j0]
        unfold ins
        by_cases m : L[i].f1 ∈ T'
        · rw [if_pos m, if_pos m, decide_eq_false (by omega), if_neg (by decide), nx T' (by omega)]
        · rw [if_neg m, if_neg m, decide_eq_true (by omega), if_pos rfl, if_pos (by omega), if_pos (by omega), if_pos (by omega), Option.bind_some, rd53 L i hii, nx _ (by rw [List.length_append]; simp; omega)]
    rw [blazonref13_names.l0, if_pos (by omega), if_pos (by omega), rd53 L i hii, rfind _ T (by omega) (k + 2) (by omega), Option.bind_some, List.drop_eq_getElem_cons hii]
    have e2 : nms T (L[i] :: L.drop (i + 1)) = nms (if L[i].f1 = (⟨#[]⟩ : ByteArray) then ins T L[i].f0 else ins (ins T L[i].f0) L[i].f1) (L.drop (i + 1)) := rfl
    rw [e2]
    by_cases m : L[i].f0 ∈ T
    · have ei : ins T L[i].f0 = T := by unfold ins; rw [if_pos m]
      rw [if_pos m, if_neg (by omega), j1 T (by omega), ei]
    · have ei : ins T L[i].f0 = T ++ [L[i].f0] := by unfold ins; rw [if_neg m]
      rw [if_neg m, if_pos (by omega), if_pos (by omega), Option.bind_some, j1 _ (by rw [List.length_append]; simp; omega), ei]
theorem rnames (L : List S53) (hL : L.length ≤ 1000) (k : Nat) (hk : 5 * L.length + 10 ≤ k) : blazonref13_names.f k L = some (nms [] L) := by
  have := rnames_l0 L hL L.length k 0 [] (by omega) (by simp) (by omega)
  rw [List.drop_zero] at this
  exact this
theorem addP_ins {T : List ByteArray} {U : List Nat} {x : ByteArray} : (∀ r, addP T U x = some r → r.2.1 = ins T x) ∧ (addP T U x = none → T.length = 64 ∧ (ins T x).length = 65) := by
  unfold addP ins
  by_cases m : x ∈ T
  · rw [if_pos m, if_pos m]; exact ⟨fun r h => (by injection h with h; subst h; rfl), fun h => (by cases h)⟩
  · rw [if_neg m, if_neg m]
    by_cases c : T.length = 64
    · rw [if_pos c]; exact ⟨fun r h => (by cases h), fun _ => ⟨c, by rw [List.length_append]; simp; omega⟩⟩
    · rw [if_neg c]; exact ⟨fun r h => (by injection h with h; subst h; rfl), fun h => (by cases h)⟩
theorem pair_ins {T : List ByteArray} (hT : T.length ≤ 64) {U : List Nat} (hU : Ok64 U) (p : S53) :
    if identB p.f0 = true ∧ (p.f1 = (⟨#[]⟩ : ByteArray) ∨ identB p.f1 = true) then (if (ins2 T p).length > 64 then (pairP T U p).1 = 8 else (pairP T U p).1 = 0 ∧ (pairP T U p).2.1 = ins2 T p) else (pairP T U p).1 = 1 := by
  unfold pairP
  by_cases hi : identB p.f0 = true ∧ (p.f1 = (⟨#[]⟩ : ByteArray) ∨ identB p.f1 = true)
  · rw [if_pos hi, if_pos hi]
    cases ha : addP T U p.f0 with
    | none =>
      have := (addP_ins.2 ha).2
      have l2 := ins_len (ins T p.f0) p.f1
      have : (ins2 T p).length > 64 := by unfold ins2; split <;> omega
      rw [if_pos this]
    | some r =>
      have e := addP_ins.1 r ha
      obtain ⟨q1, q2, q3, q4⟩ := addP_ok hT hU ha
      dsimp only
      by_cases h1 : p.f1 = (⟨#[]⟩ : ByteArray)
      · rw [if_pos h1]
        have : ins2 T p = ins T p.f0 := by unfold ins2; rw [if_pos h1]
        rw [this, ← e, if_neg (by omega)]
        exact ⟨rfl, rfl⟩
      · rw [if_neg h1]
        have e2 : ins2 T p = ins (ins T p.f0) p.f1 := by unfold ins2; rw [if_neg h1]
        cases hb : addP r.2.1 r.2.2 p.f1 with
        | none =>
          have := (addP_ins.2 hb).2
          rw [e2, ← e, if_pos (by omega)]
        | some b =>
          have eb := addP_ins.1 b hb
          obtain ⟨s1, s2, s3, s4⟩ := addP_ok q2 q3 hb
          rw [e2, ← e, ← eb, if_neg (by omega)]
          exact ⟨rfl, rfl⟩
  · rw [if_neg hi, if_neg hi]
theorem rnew_l2 (L : List S53) (hL : L.length ≤ 1000) (B : Nat) (hB : ∀ p ∈ L, p.f0.size ≤ B ∧ p.f1.size ≤ B) (hB2 : B ≤ 140737488351232) (F : Nat) (hF : 2 * B + 5 * L.length + 100 ≤ F) (d : Nat) : ∀ (k i : Nat) (T : List ByteArray) (U : List Nat), i + d = L.length → T = nms [] (L.take i) → T.length ≤ 64 → Ok64 U → F + 2 * d + 1 ≤ k →
    ((build (L.drop i) i T U).1 ≠ 0 → blazonref13_New.l2 k L (i : Int) = some ([], [], ((build (L.drop i) i T U).2.1 : Int), (build (L.drop i) i T U).1)) ∧
    ((build (L.drop i) i T U).1 = 0 → (build (L.drop i) i T U).2.2.1 = nms [] L ∧ ∃ k', F ≤ k' ∧ blazonref13_New.l2 k L (i : Int) = blazonref13_New.l1 k' L (nms [] L) 0 []) := by
  induction d with
  | zero =>
    intro k i T U hi hT hT2 hU hk
    obtain ⟨k, rfl⟩ : ∃ n, k = n + 1 := ⟨k - 1, by omega⟩
    rw [List.drop_eq_nil_of_le (by omega)]
    refine ⟨fun h => absurd rfl h, fun _ => ⟨?_, k, by omega, ?_⟩⟩
    · show T = _
      rw [hT, List.take_of_length_le (by omega)]
    · rw [blazonref13_New.l2, if_neg (by omega), rnames L hL k (by omega), Option.bind_some]
  | succ d ih =>
    intro k i T U hi hT hT2 hU hk
    obtain ⟨k, rfl⟩ : ∃ n, k = n + 2 := ⟨k - 2, by omega⟩
    have hii : i < L.length := by omega
    have hp := hB L[i] (List.getElem_mem hii)
    have hT3 : ins2 T L[i] = nms [] (L.take (i + 1)) := by
      rw [← List.take_append_getElem hii]
      unfold nms at hT ⊢
      rw [List.foldl_append, List.foldl_cons, List.foldl_nil, ← hT]
    have pi := pair_ins hT2 hU L[i]
    have jt : blazonref13_New.j0 (k + 1) L (i : Int) true = some ([], [], (i : Int), 1) := by rw [blazonref13_New.j0, if_pos rfl]
    have jf : blazonref13_New.j0 (k + 1) L (i : Int) false = if (ins2 T L[i]).length > 64 then some ([], [], (i : Int), 8) else blazonref13_New.l2 k L ((i + 1 : Nat) : Int) := by
      rw [blazonref13_New.j0, if_neg (by decide), wrap64_id (by omega) (by omega), show (i : Int) + 1 = ((i + 1 : Nat) : Int) by omega, if_pos (by omega), if_pos (by omega), Option.bind_some, Int.toNat_natCast, rnames _ (by rw [List.length_take]; omega) k (by rw [List.length_take]; omega), Option.bind_some, ← hT3]
      by_cases c : (ins2 T L[i]).length > 64
      · rw [if_pos c, if_pos (by omega)]
      · rw [if_neg c, if_neg (by omega)]
    have main : blazonref13_New.l2 (k + 2) L (i : Int) = if identB L[i].f0 = true ∧ (L[i].f1 = (⟨#[]⟩ : ByteArray) ∨ identB L[i].f1 = true) then (if (ins2 T L[i]).length > 64 then some ([], [], (i : Int), 8) else blazonref13_New.l2 k L ((i + 1 : Nat) : Int)) else some ([], [], (i : Int), 1) := by
      rw [blazonref13_New.l2, if_pos (by omega), if_pos (by omega), rd53 L i hii, rident _ (by omega) (k + 1) (by omega), Option.bind_some]
      by_cases c0 : identB L[i].f0 = true
      · rw [if_pos c0]
        by_cases c1 : L[i].f1 = (⟨#[]⟩ : ByteArray)
        · rw [if_pos c1, jf]; exact (if_pos ⟨c0, .inl c1⟩).symm
        · rw [if_neg c1, rident _ (by omega) (k + 1) (by omega), Option.bind_some]
          cases c2 : identB L[i].f1 with
          | true => rw [Bool.not_true, jf]; exact (if_pos ⟨c0, .inr rfl⟩).symm
          | false => rw [Bool.not_false, jt]; exact (if_neg (by rintro ⟨_, z | z⟩; exact c1 z; cases z)).symm
      · rw [if_neg c0, jt]; exact (if_neg (fun z => c0 z.1)).symm
    have eb : build (L.drop i) i T U = if (pairP T U L[i]).1 = 0 then build (L.drop (i + 1)) (i + 1) (pairP T U L[i]).2.1 (pairP T U L[i]).2.2 else ((pairP T U L[i]).1, i, T, U) := by rw [List.drop_eq_getElem_cons hii, build]
    by_cases hid : identB L[i].f0 = true ∧ (L[i].f1 = (⟨#[]⟩ : ByteArray) ∨ identB L[i].f1 = true)
    · rw [if_pos hid] at pi main
      by_cases c : (ins2 T L[i]).length > 64
      · rw [if_pos c] at pi main
        rw [if_neg (by rw [pi]; decide), pi] at eb
        rw [eb, main]
        exact ⟨fun _ => rfl, fun h => absurd (show (8 : Int) = 0 from h) (by decide)⟩
      · rw [if_neg c] at pi main
        rw [if_pos pi.1, pi.2] at eb
        rw [eb, main]
        have okp := (pairP_ok (p := L[i]) hT2 hU).2
        exact ih k (i + 1) _ _ (by omega) hT3 (by omega) okp (by omega)
    · rw [if_neg hid] at pi main
      rw [if_neg (by rw [pi]; decide), pi] at eb
      rw [eb, main]
      exact ⟨fun _ => rfl, fun h => absurd (show (1 : Int) = 0 from h) (by decide)⟩
def stepP (T : List ByteArray) (S : List Bool) (p : S53) : List Bool := if p.f1 = (⟨#[]⟩ : ByteArray) then S else if S.getD (at_ T p.f0) false = true then S.set (at_ T p.f1) true else S
def turnP (T : List ByteArray) (L : List S53) (S : List Bool) : List Bool := L.foldl (stepP T) S
def turnsP (T : List ByteArray) (L : List S53) : Nat → List Bool → List Bool
  | 0, S => S
  | d + 1, S => turnsP T L d (turnP T L S)
theorem stepP_len (T : List ByteArray) (S : List Bool) (p : S53) : (stepP T S p).length = S.length := by
  unfold stepP; split
  · rfl
  · split
    · rw [List.length_set]
    · rfl
theorem turnP_len (T : List ByteArray) (L : List S53) : ∀ S, (turnP T L S).length = S.length := by
  induction L with
  | nil => intro S; rfl
  | cons p L ih => intro S; exact (ih (stepP T S p)).trans (stepP_len T S p)
theorem turnsP_len (T : List ByteArray) (L : List S53) : ∀ d S, (turnsP T L d S).length = S.length
  | 0, _ => rfl
  | d + 1, S => (turnsP_len T L d _).trans (turnP_len T L S)
theorem rdB (S : List Bool) (i : Nat) : rdOf false S (i : Int) = S.getD i false := rfl
theorem reach_l0 (L : List S53) (hL : L.length ≤ 1000) (T : List ByteArray) (hT : T.length ≤ 64) (hm : ∀ p ∈ L, p.f0 ∈ T ∧ (p.f1 ≠ (⟨#[]⟩ : ByteArray) → p.f1 ∈ T)) (t : Int) (f : Nat) (hf : 70 ≤ f) (d : Nat) : ∀ (i : Nat) (S : List Bool), i + d = L.length → S.length = T.length →
    ∃ f', f ≤ f' ∧ blazonref13_reached.l0 (f + 2 * d + 1) L T t S (i : Int) = blazonref13_reached.l1 f' L T (turnP T (L.drop i) S) (wrap64 (t + 1)) := by
  induction d with
  | zero =>
    intro i S hi hS
    refine ⟨f, Nat.le_refl _, ?_⟩
    rw [blazonref13_reached.l0, if_neg (by omega), List.drop_eq_nil_of_le (by omega)]
    rfl
  | succ d ih =>
    intro i S hi hS
    have hii : i < L.length := by omega
    obtain ⟨h0, h1⟩ := hm L[i] (List.getElem_mem hii)
    have a0 := at_lt T _ h0
    have nx : ∀ S' : List Bool, S'.length = T.length → ∃ f', f ≤ f' ∧ blazonref13_reached.l0 (f + 2 * d + 1) L T t S' (wrap64 ((i : Int) + 1)) = blazonref13_reached.l1 f' L T (turnP T (L.drop (i + 1)) S') (wrap64 (t + 1)) := fun S' h => by
      rw [wrap64_id (by omega) (by omega), show (i : Int) + 1 = ((i + 1 : Nat) : Int) by omega]
      exact ih (i + 1) S' (by omega) h
    have jf : ∀ b, b = false → blazonref13_reached.j0 (f + 2 * d + 1 + 1) L T t S (i : Int) b = blazonref13_reached.l0 (f + 2 * d + 1) L T t S (wrap64 ((i : Int) + 1)) := fun b hb => by
      rw [hb, blazonref13_reached.j0, if_neg (by decide)]
    rw [show f + 2 * (d + 1) + 1 = (f + 2 * d + 1 + 1) + 1 by omega, blazonref13_reached.l0, if_pos (by omega), if_pos (by omega), rd53 L i hii, List.drop_eq_getElem_cons hii]
    have e2 : ∀ S', turnP T (L[i] :: L.drop (i + 1)) S' = turnP T (L.drop (i + 1)) (stepP T S' L[i]) := fun S' => rfl
    rw [e2]
    by_cases c : L[i].f1 = (⟨#[]⟩ : ByteArray)
    · have es : stepP T S L[i] = S := by unfold stepP; rw [if_pos c]
      rw [if_pos c, jf _ rfl, es]
      exact nx S hS
    · have a1 := at_lt T _ (h1 c)
      rw [if_neg c, rfind _ T (by omega) _ (by omega), Option.bind_some, if_pos h0, if_pos (by omega), if_pos (by omega), rdB]
      by_cases s : S.getD (at_ T L[i].f0) false = true
      · have es : stepP T S L[i] = S.set (at_ T L[i].f1) true := by unfold stepP; rw [if_neg c, if_pos s]
        rw [s, blazonref13_reached.j0, if_pos rfl, if_pos (by omega), if_pos (by omega), rd53 L i hii, rfind _ T (by omega) _ (by omega), Option.bind_some, if_pos (h1 c), if_pos (by omega), if_pos (by omega), Option.bind_some, Int.toNat_natCast, es]
        exact nx _ (by rw [List.length_set]; exact hS)
      · have es : stepP T S L[i] = S := by unfold stepP; rw [if_neg c, if_neg s]
        have s' : S.getD (at_ T L[i].f0) false = false := by simpa using s
        rw [s', jf _ rfl, es]
        exact nx S hS
theorem reach_l1 (L : List S53) (hL : L.length ≤ 1000) (T : List ByteArray) (hT : T.length ≤ 64) (hm : ∀ p ∈ L, p.f0 ∈ T ∧ (p.f1 ≠ (⟨#[]⟩ : ByteArray) → p.f1 ∈ T)) (d : Nat) : ∀ (k t : Nat) (S : List Bool), t + d = T.length → S.length = T.length → 71 + d * (2 * L.length + 2) ≤ k →
    blazonref13_reached.l1 k L T S (t : Int) = some (turnsP T L d S) := by
  induction d with
  | zero =>
    intro k t S ht hS hk
    obtain ⟨k, rfl⟩ : ∃ n, k = n + 1 := ⟨k - 1, by omega⟩
    rw [blazonref13_reached.l1, if_neg (by omega)]
    rfl
  | succ d ih =>
    intro k t S ht hS hk
    have hk2 : 71 + d * (2 * L.length + 2) + (2 * L.length + 2) ≤ k := by rw [Nat.succ_mul] at hk; omega
    obtain ⟨k, rfl⟩ : ∃ n, k = n + 2 * L.length + 1 + 1 := ⟨k - 2 - 2 * L.length, by omega⟩
    obtain ⟨f', h1, h2⟩ := reach_l0 L hL T hT hm (t : Int) k (by omega) L.length 0 S (by omega) hS
    rw [show ((0 : Nat) : Int) = 0 from rfl, List.drop_zero, wrap64_id (by omega) (by omega), show (t : Int) + 1 = ((t + 1 : Nat) : Int) by omega] at h2
    rw [blazonref13_reached.l1, if_pos (by omega), h2]
    exact ih f' (t + 1) _ (by omega) ((turnP_len T L S).trans hS) (by omega)
def rowP (T : List ByteArray) (L : List S53) (a : Nat) : List Bool := turnsP T L T.length ((List.replicate T.length false).set a true)
theorem reach_tells (L : List S53) (hL : L.length ≤ 1000) (T : List ByteArray) (hT : T.length ≤ 64) (hm : ∀ p ∈ L, p.f0 ∈ T ∧ (p.f1 ≠ (⟨#[]⟩ : ByteArray) → p.f1 ∈ T)) (a : Nat) (ha : a < T.length) (k : Nat) (hk : 71 + 64 * (2 * L.length + 2) ≤ k) :
    blazonref13_reached.f k L T (a : Int) = some (rowP T L a) := by
  unfold blazonref13_reached.f
  have hk2 : 71 + T.length * (2 * L.length + 2) ≤ k := Nat.le_trans (Nat.add_le_add_left (Nat.mul_le_mul_right _ hT) _) hk
  rw [if_pos (by omega), Int.toNat_natCast, if_pos (by omega), Option.bind_some, if_pos (by omega), List.length_replicate, if_pos (by omega), Option.bind_some, Int.toNat_natCast]
  exact reach_l1 L hL T hT hm T.length k 0 _ (by omega) (by rw [List.length_set, List.length_replicate]) hk2
def cnt (S : List Bool) : Nat := (S.filter id).length
theorem cnt_set : ∀ (S : List Bool) (i : Nat), i < S.length → cnt (S.set i true) = if S.getD i false = true then cnt S else cnt S + 1
  | [], _, h => by simp at h
  | b :: S, 0, _ => by cases b <;> simp [cnt]
  | b :: S, i + 1, h => by
    have ih := cnt_set S i (by simpa using h)
    have e : (b :: S).getD (i + 1) false = S.getD i false := rfl
    rw [List.set_cons_succ, e]
    cases b
    · show cnt (S.set i true) = if _ then cnt S else cnt S + 1
      exact ih
    · show cnt (S.set i true) + 1 = if _ then cnt S + 1 else cnt S + 1 + 1
      rw [ih]; split <;> rfl
theorem cnt_le (S : List Bool) : cnt S ≤ S.length := List.length_filter_le _ _
theorem set_same : ∀ (S : List Bool) (i : Nat), S.getD i false = true → S.set i true = S
  | [], _, h => by simp at h
  | b :: S, 0, h => by simp at h; subst h; rfl
  | b :: S, i + 1, h => by rw [List.set_cons_succ, set_same S i h]
theorem stepP_cnt (T : List ByteArray) (S : List Bool) (p : S53) (hp : p.f1 ≠ (⟨#[]⟩ : ByteArray) → at_ T p.f1 < S.length) : stepP T S p = S ∨ cnt (stepP T S p) = cnt S + 1 := by
  unfold stepP
  by_cases c : p.f1 = (⟨#[]⟩ : ByteArray)
  · rw [if_pos c]; exact .inl rfl
  · rw [if_neg c]
    by_cases s : S.getD (at_ T p.f0) false = true
    · rw [if_pos s]
      by_cases q : S.getD (at_ T p.f1) false = true
      · exact .inl (set_same S _ q)
      · refine .inr ?_
        rw [cnt_set S _ (hp c), if_neg q]
    · rw [if_neg s]; exact .inl rfl
theorem turnP_cnt (T : List ByteArray) (L : List S53) : ∀ S : List Bool, (∀ p ∈ L, p.f1 ≠ (⟨#[]⟩ : ByteArray) → at_ T p.f1 < S.length) → cnt S ≤ cnt (turnP T L S) ∧ (cnt (turnP T L S) = cnt S → turnP T L S = S ∧ ∀ p ∈ L, stepP T S p = S) := by
  induction L with
  | nil => intro S _; exact ⟨Nat.le_refl _, fun _ => ⟨rfl, by simp⟩⟩
  | cons p L ih =>
    intro S h
    have hs := stepP_cnt T S p (h p (List.mem_cons_self ..))
    have nx := ih (stepP T S p) (fun q hq z => by rw [stepP_len]; exact h q (List.mem_cons_of_mem _ hq) z)
    have e : turnP T (p :: L) S = turnP T L (stepP T S p) := rfl
    rw [e]
    rcases hs with hs | hs
    · rw [hs] at nx ⊢
      refine ⟨nx.1, fun z => ⟨(nx.2 z).1, fun q hq => ?_⟩⟩
      rcases List.mem_cons.1 hq with y | y
      · subst y; exact hs
      · exact (nx.2 z).2 q y
    · exact ⟨by omega, fun z => by omega⟩
theorem turnsP_cnt (T : List ByteArray) (L : List S53) : ∀ (d : Nat) (S : List Bool), (∀ p ∈ L, p.f1 ≠ (⟨#[]⟩ : ByteArray) → at_ T p.f1 < S.length) → (∀ p ∈ L, stepP T (turnsP T L d S) p = turnsP T L d S) ∨ cnt S + d ≤ cnt (turnsP T L d S)
  | 0, S, h => .inr (Nat.le_refl _)
  | d + 1, S, h => by
    have a := turnP_cnt T L S h
    have b := turnsP_cnt T L d (turnP T L S) (by rw [turnP_len]; exact h)
    by_cases c : cnt (turnP T L S) = cnt S
    · have e := a.2 c
      left
      have key : ∀ d, turnsP T L d S = S := fun d => by
        induction d with
        | zero => rfl
        | succ d ih => rw [turnsP, e.1]; exact ih
      rw [key]; exact e.2
    · rcases b with b | b
      · exact .inl b
      · exact .inr (by rw [turnsP]; omega)
section
variable {P : List S53} {T : List ByteArray} {U : List Nat}
theorem inv_in (h : Inv P T U) : ∀ p ∈ P, p.f0 ∈ T ∧ (p.f1 ≠ (⟨#[]⟩ : ByteArray) → p.f1 ∈ T) := fun p hp => ⟨(h.mem _).2 ⟨p, hp, .inl rfl⟩, fun z => (h.mem _).2 ⟨p, hp, .inr ⟨rfl, z⟩⟩⟩
theorem getD_setB {l : List Bool} {i j : Nat} {v : Bool} (h : i < l.length) : (l.set i v).getD j false = if j = i then v else l.getD j false := by
  simp only [List.getD_eq_getElem?_getD, List.getElem?_set]
  by_cases e : i = j
  · subst e; simp [h]
  · have : ¬ j = i := fun z => e z.symm
    simp [e, this]
theorem step_sound (h : Inv P T U) (a : Nat) (p : S53) (hp : p ∈ P) (S : List Bool) (hS : S.length = T.length) (hs : ∀ j, S.getD j false = true → M (cl T U) a j) : ∀ j, (stepP T S p).getD j false = true → M (cl T U) a j := by
  unfold stepP
  by_cases c : p.f1 = (⟨#[]⟩ : ByteArray)
  · rw [if_pos c]; exact hs
  · rw [if_neg c]
    by_cases s : S.getD (at_ T p.f0) false = true
    · rw [if_pos s]
      intro j hj
      rw [getD_setB (by rw [hS]; exact at_lt T _ ((inv_in h p hp).2 c))] at hj
      by_cases e : j = at_ T p.f1
      · subst e
        have hc := inv_closed h
        exact trans_ hc (hs _ s) (hc.up _ _ ((h.edge _ _).2 (.inr ⟨p, hp, c, rfl, rfl⟩)))
      · rw [if_neg e] at hj; exact hs j hj
    · rw [if_neg s]; exact hs
theorem turn_sound (h : Inv P T U) (a : Nat) : ∀ (L : List S53), (∀ p ∈ L, p ∈ P) → ∀ S : List Bool, S.length = T.length → (∀ j, S.getD j false = true → M (cl T U) a j) → ∀ j, (turnP T L S).getD j false = true → M (cl T U) a j
  | [], _, _, _, hs => hs
  | p :: L, hp, S, hS, hs => turn_sound h a L (fun q hq => hp q (List.mem_cons_of_mem _ hq)) (stepP T S p) ((stepP_len T S p).trans hS) (step_sound h a p (hp p (List.mem_cons_self ..)) S hS hs)
theorem turns_sound (h : Inv P T U) (a : Nat) : ∀ (d : Nat) (S : List Bool), S.length = T.length → (∀ j, S.getD j false = true → M (cl T U) a j) → ∀ j, (turnsP T P d S).getD j false = true → M (cl T U) a j
  | 0, _, _, hs => hs
  | d + 1, S, hS, hs => turns_sound h a d (turnP T P S) ((turnP_len T P S).trans hS) (turn_sound h a P (fun _ z => z) S hS hs)
theorem step_mono (S : List Bool) (p : S53) (j : Nat) (hj : S.getD j false = true) : (stepP T S p).getD j false = true := by
  unfold stepP
  split
  · exact hj
  · split
    · by_cases e : at_ T p.f1 < S.length
      · rw [getD_setB e]; split
        · rfl
        · exact hj
      · rw [List.set_eq_of_length_le (by omega)]; exact hj
    · exact hj
theorem turn_mono (j : Nat) : ∀ (L : List S53) (S : List Bool), S.getD j false = true → (turnP T L S).getD j false = true
  | [], _, hj => hj
  | p :: L, S, hj => turn_mono j L (stepP T S p) (step_mono S p j hj)
theorem turns_mono (L : List S53) (j : Nat) : ∀ (d : Nat) (S : List Bool), S.getD j false = true → (turnsP T L d S).getD j false = true
  | 0, _, hj => hj
  | d + 1, S, hj => turns_mono L j d _ (turn_mono j L S hj)
theorem row_tells (h : Inv P T U) (a j : Nat) (ha : a < T.length) : (rowP T P a).getD j false = true ↔ M (cl T U) a j := by
  have hc := inv_closed h
  have hl : ((List.replicate T.length false).set a true).length = T.length := by rw [List.length_set, List.length_replicate]
  have h0 : ∀ j, ((List.replicate T.length false).set a true).getD j false = true → j = a := fun j hj => by
    rw [getD_setB (by rw [List.length_replicate]; exact ha)] at hj
    by_cases e : j = a
    · exact e
    · rw [if_neg e] at hj
      simp [List.getD_eq_getElem?_getD, List.getElem?_replicate] at hj
      split at hj <;> simp at hj
  have ha0 : ((List.replicate T.length false).set a true).getD a false = true := by rw [getD_setB (by rw [List.length_replicate]; exact ha), if_pos rfl]
  constructor
  · exact turns_sound h a T.length _ hl (fun j hj => by rw [h0 j hj]; exact hc.rf a ha) j
  · intro m
    have hcnt : cnt ((List.replicate T.length false).set a true) ≥ 1 := by
      rw [cnt_set _ _ (by rw [List.length_replicate]; exact ha)]
      split
      · rename_i z
        simp [List.getD_eq_getElem?_getD, List.getElem?_replicate] at z
        split at z <;> simp at z
      · omega
    rcases turnsP_cnt T P T.length ((List.replicate T.length false).set a true) (fun p hp z => by rw [hl]; exact at_lt T _ ((inv_in h p hp).2 z)) with c | c
    · have key := hc.le (fun x y => (rowP T P a).getD x false = true → (rowP T P a).getD y false = true) (fun x y z u v w => v (u w)) (fun x y e w => by
        rcases (h.edge x y).1 e with e | ⟨p, hp, e1, e2, e3⟩
        · rw [← e.2]; exact w
        · have := c p hp
          have hx : at_ T p.f1 < (rowP T P a).length := by unfold rowP; rw [turnsP_len, hl]; exact at_lt T _ ((inv_in h p hp).2 e1)
          unfold stepP at this
          rw [if_neg e1, e2] at this
          have w' : (turnsP T P T.length ((List.replicate T.length false).set a true)).getD x false = true := w
          rw [if_pos w', e3] at this
          rw [e3] at hx
          show (turnsP T P T.length ((List.replicate T.length false).set a true)).getD y false = true
          have hx' : y < (turnsP T P T.length ((List.replicate T.length false).set a true)).length := hx
          rw [← this, getD_setB hx', if_pos rfl]) a j m
      exact key (turns_mono P a T.length _ ha0)
    · have := cnt_le (turnsP T P T.length ((List.replicate T.length false).set a true))
      rw [turnsP_len, hl] at this
      omega
end
def matP (T : List ByteArray) (L : List S53) : List (List Bool) := (List.range T.length).map (rowP T L)
def refP (L : List S53) : List ByteArray × List (List Bool) × Int × Int :=
  match build L 0 [] Z64 with
  | (e, i, T, U) => if e = 0 then (match turned T (allRows T.length T.length 0 U) L 0 with
    | some j => ([], [], (j : Int), 16)
    | none => (T, matP T L, 0, 0)) else ([], [], (i : Int), e)
theorem rowP_len (T : List ByteArray) (L : List S53) (a : Nat) : (rowP T L a).length = T.length := by unfold rowP; rw [turnsP_len, List.length_set, List.length_replicate]
theorem matP_len (T : List ByteArray) (L : List S53) : (matP T L).length = T.length := by simp [matP]
theorem mat_row (T : List ByteArray) (L : List S53) (i : Nat) (hi : i < T.length) : rd_L20 (matP T L) (i : Int) = rowP T L i := by
  unfold rd_L20 matP
  rw [Int.toNat_natCast, List.getD_eq_getElem?_getD, List.getElem?_map, List.getElem?_range hi]
  rfl
theorem rnew_l1 (L : List S53) (hL : L.length ≤ 1000) (T : List ByteArray) (hT : T.length ≤ 64) (hm : ∀ p ∈ L, p.f0 ∈ T ∧ (p.f1 ≠ (⟨#[]⟩ : ByteArray) → p.f1 ∈ T)) (F : Nat) (hF : 71 + 64 * (2 * L.length + 2) ≤ F) (d : Nat) : ∀ (k a : Nat), a + d = T.length → F + d + 1 ≤ k →
    ∃ k', F ≤ k' ∧ blazonref13_New.l1 k L T (a : Int) ((List.range a).map (rowP T L)) = blazonref13_New.l0 k' L T (matP T L) 0 := by
  induction d with
  | zero =>
    intro k a ha hk
    obtain ⟨k, rfl⟩ : ∃ n, k = n + 1 := ⟨k - 1, by omega⟩
    obtain rfl : a = T.length := by omega
    refine ⟨k, by omega, ?_⟩
    rw [blazonref13_New.l1, if_neg (by omega)]
    rfl
  | succ d ih =>
    intro k a ha hk
    obtain ⟨k, rfl⟩ : ∃ n, k = n + 1 := ⟨k - 1, by omega⟩
    obtain ⟨k', h1, h2⟩ := ih k (a + 1) (by omega) (by omega)
    refine ⟨k', h1, ?_⟩
    rw [List.range_succ, List.map_append] at h2
    rw [blazonref13_New.l1, if_pos (by omega), reach_tells L hL T hT hm a (by omega) k (by omega), Option.bind_some, if_pos (by rw [List.length_map, List.length_range]; omega), Option.bind_some, wrap64_id (by omega) (by omega), show (a : Int) + 1 = ((a + 1 : Nat) : Int) by omega]
    exact h2
section
variable {P : List S53} {T : List ByteArray} {U : List Nat}
theorem rnew_l0 (h : Inv P T U) (hL : P.length ≤ 1000) (d : Nat) : ∀ (k i : Nat), i + d = P.length → 70 + d ≤ k →
    blazonref13_New.l0 k P T (matP T P) (i : Int) = some (match turned T (cl T U) (P.drop i) i with
      | some j => ([], [], (j : Int), 16)
      | none => (T, matP T P, 0, 0)) := by
  have hT := h.le
  induction d with
  | zero =>
    intro k i hi hk
    obtain ⟨k, rfl⟩ : ∃ n, k = n + 1 := ⟨k - 1, by omega⟩
    rw [blazonref13_New.l0, if_neg (by omega), List.drop_eq_nil_of_le (by omega)]
    rfl
  | succ d ih =>
    intro k i hi hk
    obtain ⟨k, rfl⟩ : ∃ n, k = n + 1 := ⟨k - 1, by omega⟩
    have hii : i < P.length := by omega
    obtain ⟨h0, h1⟩ := inv_in h P[i] (List.getElem_mem hii)
    have a0 := at_lt T _ h0
    have nx := ih k (i + 1) (by omega) (by omega)
    rw [blazonref13_New.l0, if_pos (by omega), if_pos (by omega), rd53 P i hii, List.drop_eq_getElem_cons hii, turned, wrap64_id (by omega) (by omega), show (i : Int) + 1 = ((i + 1 : Nat) : Int) by omega]
    by_cases c : P[i].f1 = (⟨#[]⟩ : ByteArray)
    · rw [if_pos c, if_pos c]; exact nx
    · have a1 := at_lt T _ (h1 c)
      rw [if_neg c, if_neg c, rfind _ T (by omega) _ (by omega), Option.bind_some, if_pos (h1 c), if_pos (by omega), if_pos (by rw [matP_len]; omega), rfind _ T (by omega) _ (by omega), Option.bind_some, if_pos h0, if_pos (by omega), mat_row T P _ a1, rowP_len, if_pos (by omega), rdB]
      have key := row_tells h (at_ T P[i].f1) (at_ T P[i].f0) a1
      by_cases m : M (cl T U) (at_ T P[i].f1) (at_ T P[i].f0)
      · rw [if_pos (key.2 m), if_pos m]
      · rw [if_neg (fun z => m (key.1 z)), if_neg m]; exact nx
end
theorem ref13_tells (L : List S53) (hL : L.length ≤ 1000) (B : Nat) (hB : ∀ p ∈ L, p.f0.size ≤ B ∧ p.f1.size ≤ B) (hB2 : B ≤ 140737488351232) (k : Nat) (hk : 2 * B + 200000 + 200 * L.length ≤ k) : blazonref13_New.f k L = some (refP L) := by
  have hF : 2 * B + 5 * L.length + 100 ≤ k - 2 * L.length - 1 := by omega
  obtain ⟨h1, h2⟩ := rnew_l2 L hL B hB hB2 (k - 2 * L.length - 1) hF L.length k 0 [] Z64 (by omega) rfl (by simp) Z_ok (by omega)
  rw [List.drop_zero, show ((0 : Nat) : Int) = 0 from rfl] at h1 h2
  unfold blazonref13_New.f refP
  by_cases hb : (build L 0 [] Z64).1 = 0
  · obtain ⟨e1, k', e2, e3⟩ := h2 hb
    have inv := build_inv L [] 0 [] Z64 inv_nil hb
    rw [List.nil_append] at inv
    rw [e3]
    generalize hr : build L 0 [] Z64 = r at hb e1 inv
    obtain ⟨c, i, T, U⟩ := r
    dsimp only at hb e1 inv ⊢
    rw [if_pos hb, ← e1]
    obtain ⟨k2, q1, q2⟩ := rnew_l1 L hL T inv.le (inv_in inv) (71 + 64 * (2 * L.length + 2)) (Nat.le_refl _) T.length k' 0 (by omega) (by have := inv.le; omega)
    have q3 := rnew_l0 inv hL L.length k2 0 (by omega) (by omega)
    rw [show ((0 : Nat) : Int) = 0 from rfl] at q2 q3
    rw [List.drop_zero] at q3
    exact q2.trans q3
  · rw [h1 hb]
    generalize build L 0 [] Z64 = r at hb
    obtain ⟨c, i, T, U⟩ := r
    dsimp only at hb ⊢
    rw [if_neg hb]
def Mat (n : Nat) (m : List (List Bool)) (le : Nat → Nat → Prop) : Prop := m.length = n ∧ (∀ i, i < n → (rd_L20 m (i : Int)).length = n) ∧ ∀ i j, i < n → j < n → (rdOf false (rd_L20 m (i : Int)) (j : Int) = true ↔ le i j)
section
variable {T : List ByteArray} {n : Nat} {m : List (List Bool)} {le : Nat → Nat → Prop}
theorem rJ_l0 (hM : Mat n m le) (hT : T.length = n) (h64 : n ≤ 64) (a b c : Nat) (ha : a < n) (hb : b < n) (hc : c < n) (f : Nat) (d : Nat) : ∀ (j : Nat) (fl : Bool), j + d = n →
    ((fl = true ∧ ∀ i, j ≤ i → i < n → le a i → le b i → le c i) → blazonref14_Join.l0 (f + d + 1) (a : Int) (b : Int) T m (c : Int) fl (j : Int) = some (c : Int)) ∧
    (¬ (fl = true ∧ ∀ i, j ≤ i → i < n → le a i → le b i → le c i) → blazonref14_Join.l0 (f + d + 1) (a : Int) (b : Int) T m (c : Int) fl (j : Int) = blazonref14_Join.l1 f (a : Int) (b : Int) T m ((c + 1 : Nat) : Int)) := by
  obtain ⟨ml, mr, me⟩ := hM
  induction d with
  | zero =>
    intro j fl hj
    rw [show f + 0 + 1 = f + 1 from rfl, blazonref14_Join.l0, if_neg (by omega), wrap64_id (by omega) (by omega)]
    constructor
    · rintro ⟨h, _⟩; rw [if_pos h]
    · intro h; rw [if_neg (fun z => h ⟨z, fun i h1 h2 => by omega⟩)]; rfl
  | succ d ih =>
    intro j fl hj
    have hj' : j < n := by omega
    have la := mr a ha
    have lb := mr b hb
    have lc := mr c hc
    have lj := mr j hj'
    have nx : ∀ g : Bool, (g = true ↔ (fl = true ∧ (le a j → le b j → le c j))) →
      ((fl = true ∧ ∀ i, j ≤ i → i < n → le a i → le b i → le c i) → blazonref14_Join.l0 (f + d + 1) (a : Int) (b : Int) T m (c : Int) g (wrap64 ((j : Int) + 1)) = some (c : Int)) ∧
      (¬ (fl = true ∧ ∀ i, j ≤ i → i < n → le a i → le b i → le c i) → blazonref14_Join.l0 (f + d + 1) (a : Int) (b : Int) T m (c : Int) g (wrap64 ((j : Int) + 1)) = blazonref14_Join.l1 f (a : Int) (b : Int) T m ((c + 1 : Nat) : Int)) := fun g hg => by
      rw [wrap64_id (by omega) (by omega), show (j : Int) + 1 = ((j + 1 : Nat) : Int) by omega]
      have key : (g = true ∧ ∀ i, j + 1 ≤ i → i < n → le a i → le b i → le c i) ↔ (fl = true ∧ ∀ i, j ≤ i → i < n → le a i → le b i → le c i) := by
        rw [hg]
        constructor
        · rintro ⟨⟨h1, h2⟩, h3⟩
          refine ⟨h1, fun i q1 q2 => ?_⟩
          by_cases e : i = j
          · subst e; exact h2
          · exact h3 i (by omega) q2
        · rintro ⟨h1, h2⟩
          exact ⟨⟨h1, h2 j (Nat.le_refl _) hj'⟩, fun i q1 q2 => h2 i (by omega) q2⟩
      have := ih (j + 1) g (by omega)
      rw [key] at this
      exact this
    rw [show f + (d + 1) + 1 = (f + d + 1) + 1 by omega, blazonref14_Join.l0, if_pos (by omega), if_pos (by omega), if_pos (by omega), if_pos (by omega), if_pos (by omega)]
    by_cases h1 : le a j
    · rw [if_pos ((me _ _ (by omega) (by omega)).2 h1), if_pos (by omega), if_pos (by omega), if_pos (by omega)]
      by_cases h2 : le b j
      · rw [if_pos ((me _ _ (by omega) (by omega)).2 h2), if_pos (by omega), if_pos (by omega), if_pos (by omega)]
        by_cases h3 : le c j
        · rw [if_pos ((me _ _ (by omega) (by omega)).2 h3)]; exact nx fl ⟨fun z => ⟨z, fun _ _ => h3⟩, fun z => z.1⟩
        · rw [if_neg (fun z => h3 ((me _ _ (by omega) (by omega)).1 z))]; exact nx false ⟨fun z => (by cases z), fun z => absurd (z.2 h1 h2) h3⟩
      · rw [if_neg (fun z => h2 ((me _ _ (by omega) (by omega)).1 z))]; exact nx fl ⟨fun z => ⟨z, fun _ q => absurd q h2⟩, fun z => z.1⟩
    · rw [if_neg (fun z => h1 ((me _ _ (by omega) (by omega)).1 z))]; exact nx fl ⟨fun z => ⟨z, fun q _ => absurd q h1⟩, fun z => z.1⟩
theorem rJ_l1 (hM : Mat n m le) (po : Po n le) (hT : T.length = n) (h64 : n ≤ 64) (a b : Nat) (ha : a < n) (hb : b < n) (d : Nat) : ∀ (k c : Nat), c + d = n → 1 + d * 66 ≤ k → (∀ i, i < c → ¬ lub le a b i) →
    blazonref14_Join.l1 k (a : Int) (b : Int) T m (c : Int) = some (jn n le a b) := by
  have hM' := hM
  obtain ⟨ml, mr, me⟩ := hM'
  induction d with
  | zero =>
    intro k c hc hk hno
    obtain ⟨k, rfl⟩ : ∃ q, k = q + 1 := ⟨k - 1, by omega⟩
    rw [blazonref14_Join.l1, if_neg (by omega), jn_none fun i hi => hno i (by have := (po.bd hi.1); omega) hi]
  | succ d ih =>
    intro k c hc hk hno
    obtain ⟨k, rfl⟩ : ∃ q, k = q + n + 1 + 1 := ⟨k - n - 2, by omega⟩
    have hc' : c < n := by omega
    have la := mr a ha
    have lb := mr b hb
    have lc := mr c hc'
    have nx : ∀ k', 1 + d * 66 ≤ k' → ¬ lub le a b c → blazonref14_Join.l1 k' (a : Int) (b : Int) T m ((c + 1 : Nat) : Int) = some (jn n le a b) := fun k' hk' h =>
      ih k' (c + 1) (by omega) hk' (fun i hi z => by
        by_cases e : i = c
        · subst e; exact h z
        · exact hno i (by omega) z)
    rw [blazonref14_Join.l1, if_pos (by omega), if_pos (by omega), if_pos (by omega), if_pos (by omega), if_pos (by omega)]
    by_cases h1 : le a c
    · by_cases h2 : le b c
      · rw [if_pos ((me _ _ (by omega) (by omega)).2 h1), if_pos (by omega), if_pos (by omega), if_pos (by omega), if_pos ((me _ _ (by omega) (by omega)).2 h2)]
        obtain ⟨t1, t2⟩ := rJ_l0 hM hT h64 a b c ha hb hc' k n 0 true (by omega)
        rw [show ((0 : Nat) : Int) = 0 from rfl] at t1 t2
        by_cases e : ∀ i, i < n → le a i → le b i → le c i
        · rw [t1 ⟨rfl, fun i _ q => e i q⟩, jn_lub po ⟨h1, h2, fun j x y => e j (by have := po.bd x; omega) x y⟩]
        · rw [t2 (fun z => e (fun i q => z.2 i (Nat.zero_le _) q))]
          exact nx k (by omega) (fun z => e (fun i _ => z.2.2 i))
      · rw [if_pos ((me _ _ (by omega) (by omega)).2 h1), if_pos (by omega), if_pos (by omega), if_pos (by omega), if_neg (fun z => h2 ((me _ _ (by omega) (by omega)).1 z)), wrap64_id (by omega) (by omega), show (c : Int) + 1 = ((c + 1 : Nat) : Int) by omega]
        exact nx _ (by omega) (fun z => h2 z.2.1)
    · rw [if_neg (fun z => h1 ((me _ _ (by omega) (by omega)).1 z)), wrap64_id (by omega) (by omega), show (c : Int) + 1 = ((c + 1 : Nat) : Int) by omega]
      exact nx _ (by omega) (fun z => h1 z.1)
theorem rJ_f (hM : Mat n m le) (po : Po n le) (hT : T.length = n) (h64 : n ≤ 64) (a b : Nat) (ha : a < n) (hb : b < n) (k : Nat) (hk : 4300 ≤ k) :
    blazonref14_Join.f k T m (a : Int) (b : Int) = some (jn n le a b) :=
  rJ_l1 hM po hT h64 a b ha hb n k 0 (by omega) (by omega) (fun i hi => by omega)
theorem rK_l0 (hM : Mat n m le) (hT : T.length = n) (h64 : n ≤ 64) (a b c : Nat) (ha : a < n) (hb : b < n) (hc : c < n) (f : Nat) (d : Nat) : ∀ (j : Nat) (fl : Bool), j + d = n →
    ((fl = true ∧ ∀ i, j ≤ i → i < n → le i a → le i b → le i c) → blazonref14_Meet.l0 (f + d + 1) (a : Int) (b : Int) T m (c : Int) fl (j : Int) = some (c : Int)) ∧
    (¬ (fl = true ∧ ∀ i, j ≤ i → i < n → le i a → le i b → le i c) → blazonref14_Meet.l0 (f + d + 1) (a : Int) (b : Int) T m (c : Int) fl (j : Int) = blazonref14_Meet.l1 f (a : Int) (b : Int) T m ((c + 1 : Nat) : Int)) := by
  obtain ⟨ml, mr, me⟩ := hM
  induction d with
  | zero =>
    intro j fl hj
    rw [show f + 0 + 1 = f + 1 from rfl, blazonref14_Meet.l0, if_neg (by omega), wrap64_id (by omega) (by omega)]
    constructor
    · rintro ⟨h, _⟩; rw [if_pos h]
    · intro h; rw [if_neg (fun z => h ⟨z, fun i h1 h2 => by omega⟩)]; rfl
  | succ d ih =>
    intro j fl hj
    have hj' : j < n := by omega
    have la := mr a ha
    have lb := mr b hb
    have lc := mr c hc
    have lj := mr j hj'
    have nx : ∀ g : Bool, (g = true ↔ (fl = true ∧ (le j a → le j b → le j c))) →
      ((fl = true ∧ ∀ i, j ≤ i → i < n → le i a → le i b → le i c) → blazonref14_Meet.l0 (f + d + 1) (a : Int) (b : Int) T m (c : Int) g (wrap64 ((j : Int) + 1)) = some (c : Int)) ∧
      (¬ (fl = true ∧ ∀ i, j ≤ i → i < n → le i a → le i b → le i c) → blazonref14_Meet.l0 (f + d + 1) (a : Int) (b : Int) T m (c : Int) g (wrap64 ((j : Int) + 1)) = blazonref14_Meet.l1 f (a : Int) (b : Int) T m ((c + 1 : Nat) : Int)) := fun g hg => by
      rw [wrap64_id (by omega) (by omega), show (j : Int) + 1 = ((j + 1 : Nat) : Int) by omega]
      have key : (g = true ∧ ∀ i, j + 1 ≤ i → i < n → le i a → le i b → le i c) ↔ (fl = true ∧ ∀ i, j ≤ i → i < n → le i a → le i b → le i c) := by
        rw [hg]
        constructor
        · rintro ⟨⟨h1, h2⟩, h3⟩
          refine ⟨h1, fun i q1 q2 => ?_⟩
          by_cases e : i = j
          · subst e; exact h2
          · exact h3 i (by omega) q2
        · rintro ⟨h1, h2⟩
          exact ⟨⟨h1, h2 j (Nat.le_refl _) hj'⟩, fun i q1 q2 => h2 i (by omega) q2⟩
      have := ih (j + 1) g (by omega)
      rw [key] at this
      exact this
    rw [show f + (d + 1) + 1 = (f + d + 1) + 1 by omega, blazonref14_Meet.l0, if_pos (by omega), if_pos (by omega), if_pos (by omega), if_pos (by omega), if_pos (by omega)]
    by_cases h1 : le j a
    · rw [if_pos ((me _ _ (by omega) (by omega)).2 h1), if_pos (by omega), if_pos (by omega)]
      by_cases h2 : le j b
      · rw [if_pos ((me _ _ (by omega) (by omega)).2 h2), if_pos (by omega), if_pos (by omega)]
        by_cases h3 : le j c
        · rw [if_pos ((me _ _ (by omega) (by omega)).2 h3)]; exact nx fl ⟨fun z => ⟨z, fun _ _ => h3⟩, fun z => z.1⟩
        · rw [if_neg (fun z => h3 ((me _ _ (by omega) (by omega)).1 z))]; exact nx false ⟨fun z => (by cases z), fun z => absurd (z.2 h1 h2) h3⟩
      · rw [if_neg (fun z => h2 ((me _ _ (by omega) (by omega)).1 z))]; exact nx fl ⟨fun z => ⟨z, fun _ q => absurd q h2⟩, fun z => z.1⟩
    · rw [if_neg (fun z => h1 ((me _ _ (by omega) (by omega)).1 z))]; exact nx fl ⟨fun z => ⟨z, fun q _ => absurd q h1⟩, fun z => z.1⟩
theorem rK_l1 (hM : Mat n m le) (po : Po n le) (hT : T.length = n) (h64 : n ≤ 64) (a b : Nat) (ha : a < n) (hb : b < n) (d : Nat) : ∀ (k c : Nat), c + d = n → 1 + d * 66 ≤ k → (∀ i, i < c → ¬ lub (flp le) a b i) →
    blazonref14_Meet.l1 k (a : Int) (b : Int) T m (c : Int) = some (jn n (flp le) a b) := by
  have hM' := hM
  obtain ⟨ml, mr, me⟩ := hM'
  induction d with
  | zero =>
    intro k c hc hk hno
    obtain ⟨k, rfl⟩ : ∃ q, k = q + 1 := ⟨k - 1, by omega⟩
    rw [blazonref14_Meet.l1, if_neg (by omega), jn_none fun i hi => hno i (by have := (po.bd hi.1); omega) hi]
  | succ d ih =>
    intro k c hc hk hno
    obtain ⟨k, rfl⟩ : ∃ q, k = q + n + 1 + 1 := ⟨k - n - 2, by omega⟩
    have hc' : c < n := by omega
    have la := mr a ha
    have lb := mr b hb
    have lc := mr c hc'
    have nx : ∀ k', 1 + d * 66 ≤ k' → ¬ lub (flp le) a b c → blazonref14_Meet.l1 k' (a : Int) (b : Int) T m ((c + 1 : Nat) : Int) = some (jn n (flp le) a b) := fun k' hk' h =>
      ih k' (c + 1) (by omega) hk' (fun i hi z => by
        by_cases e : i = c
        · subst e; exact h z
        · exact hno i (by omega) z)
    rw [blazonref14_Meet.l1, if_pos (by omega), if_pos (by omega), if_pos (by omega), if_pos (by omega), if_pos (by omega)]
    by_cases h1 : le c a
    · by_cases h2 : le c b
      · rw [if_pos ((me _ _ (by omega) (by omega)).2 h1), if_pos (by omega), if_pos (by omega), if_pos ((me _ _ (by omega) (by omega)).2 h2)]
        obtain ⟨t1, t2⟩ := rK_l0 hM hT h64 a b c ha hb hc' k n 0 true (by omega)
        rw [show ((0 : Nat) : Int) = 0 from rfl] at t1 t2
        by_cases e : ∀ i, i < n → le i a → le i b → le i c
        · rw [t1 ⟨rfl, fun i _ q => e i q⟩, jn_lub po.flp ⟨h1, h2, fun j x y => e j (by have := po.bd x; omega) x y⟩]
        · rw [t2 (fun z => e (fun i q => z.2 i (Nat.zero_le _) q))]
          exact nx k (by omega) (fun z => e (fun i _ => z.2.2 i))
      · rw [if_pos ((me _ _ (by omega) (by omega)).2 h1), if_pos (by omega), if_pos (by omega), if_neg (fun z => h2 ((me _ _ (by omega) (by omega)).1 z)), wrap64_id (by omega) (by omega), show (c : Int) + 1 = ((c + 1 : Nat) : Int) by omega]
        exact nx _ (by omega) (fun z => h2 z.2.1)
    · rw [if_neg (fun z => h1 ((me _ _ (by omega) (by omega)).1 z)), wrap64_id (by omega) (by omega), show (c : Int) + 1 = ((c + 1 : Nat) : Int) by omega]
      exact nx _ (by omega) (fun z => h1 z.1)
theorem rK_f (hM : Mat n m le) (po : Po n le) (hT : T.length = n) (h64 : n ≤ 64) (a b : Nat) (ha : a < n) (hb : b < n) (k : Nat) (hk : 4300 ≤ k) :
    blazonref14_Meet.f k T m (a : Int) (b : Int) = some (jn n (flp le) a b) :=
  rK_l1 hM po hT h64 a b ha hb n k 0 (by omega) (by omega) (fun i hi => by omega)
def tb (n : Nat) (J : Nat → Nat → Int) : List (List Int) := (List.range n).map fun a => (List.range n).map fun b => J a b
theorem tb_len (n : Nat) (J : Nat → Nat → Int) : (tb n J).length = n := by simp [tb]
theorem tb_row (n : Nat) (J : Nat → Nat → Int) (a : Nat) (ha : a < n) : rd_L21 (tb n J) (a : Int) = (List.range n).map fun b => J a b := by
  unfold rd_L21 tb
  rw [Int.toNat_natCast, List.getD_eq_getElem?_getD, List.getElem?_map, List.getElem?_range ha]
  rfl
theorem tb_rl (n : Nat) (J : Nat → Nat → Int) (a : Nat) (ha : a < n) : (rd_L21 (tb n J) (a : Int)).length = n := by rw [tb_row n J a ha]; simp
theorem tb_at (n : Nat) (J : Nat → Nat → Int) (a b : Nat) (ha : a < n) (hb : b < n) : rd (rd_L21 (tb n J) (a : Int)) (b : Int) = J a b := by
  rw [tb_row n J a ha]
  unfold rd
  rw [Int.toNat_natCast, List.getD_eq_getElem?_getD, List.getElem?_map, List.getElem?_range hb]
  rfl
theorem rN_l0 (hM : Mat n m le) (po : Po n le) (hT : T.length = n) (h64 : n ≤ 64) (F : Nat) (hF : 4300 ≤ F) (a : Nat) (ha : a < n) (A B : List (List Int)) (hA : A.length = a) (hB : B.length = a) (d : Nat) : ∀ (k b : Nat), b + d = n → F + d + 1 ≤ k →
    ∃ k', F ≤ k' ∧ blazonref14_New.l0 k T m (a : Int) A B ((List.range b).map fun b => jn n le a b) ((List.range b).map fun b => jn n (flp le) a b) (b : Int) = blazonref14_New.l6 k' T m ((a + 1 : Nat) : Int) (A ++ [(List.range n).map fun b => jn n le a b]) (B ++ [(List.range n).map fun b => jn n (flp le) a b]) := by
  induction d with
  | zero =>
    intro k b hb hk
    obtain ⟨k, rfl⟩ : ∃ q, k = q + 1 := ⟨k - 1, by omega⟩
    obtain rfl : b = n := by omega
    refine ⟨k, by omega, ?_⟩
    rw [blazonref14_New.l0, if_neg (by omega), if_pos (by omega), Option.bind_some, if_pos (by omega), Option.bind_some, wrap64_id (by omega) (by omega)]
    rfl
  | succ d ih =>
    intro k b hb hk
    obtain ⟨k, rfl⟩ : ∃ q, k = q + 1 := ⟨k - 1, by omega⟩
    obtain ⟨k', h1, h2⟩ := ih k (b + 1) (by omega) (by omega)
    refine ⟨k', h1, ?_⟩
    rw [List.range_succ, List.map_append, List.map_append] at h2
    rw [blazonref14_New.l0, if_pos (by omega), rJ_f hM po hT h64 a b ha (by omega) k (by omega), Option.bind_some, if_pos (by rw [List.length_map, List.length_range]; omega), Option.bind_some, rK_f hM po hT h64 a b ha (by omega) k (by omega), Option.bind_some, if_pos (by rw [List.length_map, List.length_range]; omega), Option.bind_some, wrap64_id (by omega) (by omega), show (b : Int) + 1 = ((b + 1 : Nat) : Int) by omega]
    exact h2
theorem rN_l6 (hM : Mat n m le) (po : Po n le) (hT : T.length = n) (h64 : n ≤ 64) (F : Nat) (hF : 4300 ≤ F) (d : Nat) : ∀ (k a : Nat), a + d = n → F + d * 70 + 1 ≤ k →
    ∃ k', F ≤ k' ∧ blazonref14_New.l6 k T m (a : Int) ((List.range a).map fun a => (List.range n).map fun b => jn n le a b) ((List.range a).map fun a => (List.range n).map fun b => jn n (flp le) a b) = blazonref14_New.l5 k' T m (tb n (jn n le)) (tb n (jn n (flp le))) 0 := by
  induction d with
  | zero =>
    intro k a ha hk
    obtain ⟨k, rfl⟩ : ∃ q, k = q + 1 := ⟨k - 1, by omega⟩
    obtain rfl : a = n := by omega
    exact ⟨k, by omega, by rw [blazonref14_New.l6, if_neg (by omega)]; rfl⟩
  | succ d ih =>
    intro k a ha hk
    obtain ⟨k, rfl⟩ : ∃ q, k = q + 1 := ⟨k - 1, by omega⟩
    obtain ⟨k1, h1, h2⟩ := rN_l0 hM po hT h64 (F + d * 70 + 1) (by omega) a (by omega) ((List.range a).map fun a => (List.range n).map fun b => jn n le a b) ((List.range a).map fun a => (List.range n).map fun b => jn n (flp le) a b) (by simp) (by simp) n k 0 (by omega) (by omega)
    obtain ⟨k2, h3, h4⟩ := ih k1 (a + 1) (by omega) h1
    refine ⟨k2, h3, ?_⟩
    rw [show ((0 : Nat) : Int) = 0 from rfl] at h2
    rw [List.range_succ, List.map_append, List.map_append] at h4
    rw [blazonref14_New.l6, if_pos (by omega)]
    exact h2.trans h4
theorem rN_l1 (hT : T.length = n) (h64 : n ≤ 64) (J K : Nat → Nat → Int) (gJ : ∀ x y, J x y = -1 ∨ 0 ≤ J x y) (gK : ∀ x y, K x y = -1 ∨ 0 ≤ K x y) (a : Nat) (ha : a < n) (f : Nat) (d : Nat) : ∀ b, b + d = n →
    blazonref14_New.l1 (f + d + 1) T m (tb n J) (tb n K) (a : Int) (b : Int) = match wRow J K a d b with
      | some b' => some ([], [], [], [], (a : Int), (b' : Int), 17)
      | none => blazonref14_New.l5 f T m (tb n J) (tb n K) ((a + 1 : Nat) : Int) := by
  have l1 := tb_len n J
  have l2 := tb_len n K
  have l3 := tb_rl n J a ha
  have l4 := tb_rl n K a ha
  induction d with
  | zero =>
    intro b hb
    rw [show f + 0 + 1 = f + 1 from rfl, blazonref14_New.l1, if_neg (by omega), wrap64_id (by omega) (by omega)]
    rfl
  | succ d ih =>
    intro b hb
    rw [show f + (d + 1) + 1 = (f + d + 1) + 1 by omega, blazonref14_New.l1, if_pos (by omega), if_pos (by omega), if_pos (by omega), if_pos (by omega), if_pos (by omega), tb_at n J a b ha (by omega)]
    by_cases c1 : J a b = -1
    · rw [if_pos (by omega), wRow, if_pos (.inl c1)]
    · have := gJ a b
      rw [if_neg (by omega), if_pos (by omega), if_pos (by omega), tb_at n K a b ha (by omega)]
      by_cases c2 : K a b = -1
      · rw [if_pos (by omega), wRow, if_pos (.inr c2)]
      · have := gK a b
        have e : wRow J K a (d + 1) b = wRow J K a d (b + 1) := by rw [wRow, if_neg (by intro z; rcases z with z | z; exact c1 z; exact c2 z)]
        rw [if_neg (by omega), wrap64_id (by omega) (by omega), show (b : Int) + 1 = ((b + 1 : Nat) : Int) by omega, ih (b + 1) (by omega), e]
theorem rN_l5 (hT : T.length = n) (h64 : n ≤ 64) (J K : Nat → Nat → Int) (gJ : ∀ x y, J x y = -1 ∨ 0 ≤ J x y) (gK : ∀ x y, K x y = -1 ∨ 0 ≤ K x y) (F : Nat) (d : Nat) : ∀ k a, a + d = n → F + 2 + d * 70 ≤ k →
    (∀ x y, wAll J K n d a = some (x, y) → blazonref14_New.l5 k T m (tb n J) (tb n K) (a : Int) = some ([], [], [], [], (x : Int), (y : Int), 17)) ∧
    (wAll J K n d a = none → ∃ k', F ≤ k' ∧ blazonref14_New.l5 k T m (tb n J) (tb n K) (a : Int) = blazonref14_New.l4 k' T m (tb n J) (tb n K) 0) := by
  induction d with
  | zero =>
    intro k a ha hk
    obtain ⟨k, rfl⟩ : ∃ n, k = n + 1 := ⟨k - 1, by omega⟩
    refine ⟨fun x y h => (by cases h), fun _ => ⟨k, by omega, ?_⟩⟩
    rw [blazonref14_New.l5, if_neg (by omega)]
  | succ d ih =>
    intro k a ha hk
    obtain ⟨k, rfl⟩ : ∃ q, k = q + (n - a) + 1 + 1 := ⟨k - 2 - (n - a), by omega⟩
    rw [blazonref14_New.l5, if_pos (by omega), rN_l1 hT h64 J K gJ gK a (by omega) k (n - a) a (by omega), wAll]
    cases wRow J K a (n - a) a with
    | some b => exact ⟨fun x y h => (by cases h; rfl), fun h => (by cases h)⟩
    | none => exact ih k (a + 1) (by omega) (by omega)
theorem rN_l2 (hT : T.length = n) (h64 : n ≤ 64) (J K : Nat → Nat → Int) (rJ : ∀ x y, x < n → y < n → 0 ≤ J x y ∧ J x y < n) (rK : ∀ x y, x < n → y < n → 0 ≤ K x y ∧ K x y < n) (a b : Nat) (ha : a < n) (hb : b < n) (f : Nat) (d : Nat) : ∀ c, c + d = n →
    blazonref14_New.l2 (f + d + 1) T m (tb n J) (tb n K) (a : Int) (b : Int) (c : Int) = if sRow J K a b d c = true then some ([], [], [], [], (a : Int), (b : Int), 17) else blazonref14_New.l3 f T m (tb n J) (tb n K) (a : Int) ((b + 1 : Nat) : Int) := by
  have l1 := tb_len n J
  have l2 := tb_len n K
  have l3 := tb_rl n K a ha
  have l4 := tb_rl n J b hb
  induction d with
  | zero =>
    intro c hc
    rw [show f + 0 + 1 = f + 1 from rfl, blazonref14_New.l2, if_neg (by omega), wrap64_id (by omega) (by omega), sRow, if_neg (by decide)]
    rfl
  | succ d ih =>
    intro c hc
    have hc' : c < n := by omega
    obtain ⟨p1, p2⟩ := rJ b c hb hc'
    obtain ⟨q1, q2⟩ := rK a b ha hb
    obtain ⟨s1, s2⟩ := rK a c ha hc'
    have j1 := tb_at n J b c hb hc'
    have k1 := tb_at n K a b ha hb
    have k2 := tb_at n K a c ha hc'
    have e0 : ((J b c).toNat : Int) = J b c := Int.toNat_of_nonneg p1
    have e1 : ((K a b).toNat : Int) = K a b := Int.toNat_of_nonneg q1
    have e2 : ((K a c).toNat : Int) = K a c := Int.toNat_of_nonneg s1
    have l5 := tb_rl n J (K a b).toNat (by omega)
    have t1 := tb_at n K a (J b c).toNat ha (by omega)
    have t2 := tb_at n J (K a b).toNat (K a c).toNat (by omega) (by omega)
    rw [e0] at t1
    rw [e1] at l5
    rw [e1, e2] at t2
    rw [show f + (d + 1) + 1 = (f + d + 1) + 1 by omega, blazonref14_New.l2, j1, k1, k2, t1, t2, if_pos (by omega), if_pos (by omega), if_pos (by omega), if_pos (by omega), if_pos (by omega), if_pos (by omega), if_pos (by omega), if_pos (by omega), if_pos (by omega), if_pos (by omega), if_pos (by omega), if_pos (by omega), if_pos (by omega), if_pos (by omega), if_pos (by omega), wrap64_id (by omega) (by omega), show (c : Int) + 1 = ((c + 1 : Nat) : Int) by omega, ih (c + 1) (by omega), sRow]
    by_cases e : K a (J b c).toNat = J (K a b).toNat (K a c).toNat
    · rw [if_pos e, if_pos e]
    · rw [if_neg e, if_neg e, if_pos rfl]
theorem rN_l3 (hT : T.length = n) (h64 : n ≤ 64) (J K : Nat → Nat → Int) (rJ : ∀ x y, x < n → y < n → 0 ≤ J x y ∧ J x y < n) (rK : ∀ x y, x < n → y < n → 0 ≤ K x y ∧ K x y < n) (a : Nat) (ha : a < n) (F : Nat) (d : Nat) : ∀ k b, b + d = n → F + d * 70 + 1 ≤ k →
    ∃ f, F ≤ f ∧ blazonref14_New.l3 k T m (tb n J) (tb n K) (a : Int) (b : Int) = match sCol J K n a d b with
      | some y => some ([], [], [], [], (a : Int), (y : Int), 17)
      | none => blazonref14_New.l4 f T m (tb n J) (tb n K) ((a + 1 : Nat) : Int) := by
  induction d with
  | zero =>
    intro k b hb hk
    obtain ⟨k, rfl⟩ : ∃ n, k = n + 1 := ⟨k - 1, by omega⟩
    refine ⟨k, by omega, ?_⟩
    rw [blazonref14_New.l3, if_neg (by omega), wrap64_id (by omega) (by omega)]
    rfl
  | succ d ih =>
    intro k b hb hk
    obtain ⟨k, rfl⟩ : ∃ q, k = q + n + 1 + 1 := ⟨k - 2 - n, by omega⟩
    obtain ⟨f, h1, h2⟩ := ih k (b + 1) (by omega) (by omega)
    refine ⟨f, h1, ?_⟩
    have e0 := rN_l2 (m := m) hT h64 J K rJ rK a b ha (by omega) k n 0 (by omega)
    rw [show ((0 : Nat) : Int) = 0 from rfl] at e0
    rw [blazonref14_New.l3, if_pos (by omega), e0, sCol]
    by_cases e : sRow J K a b n 0 = true
    · rw [if_pos e, if_pos e]
    · rw [if_neg e, if_neg e]; exact h2
theorem rN_l4 (hT : T.length = n) (h64 : n ≤ 64) (J K : Nat → Nat → Int) (rJ : ∀ x y, x < n → y < n → 0 ≤ J x y ∧ J x y < n) (rK : ∀ x y, x < n → y < n → 0 ≤ K x y ∧ K x y < n) (d : Nat) : ∀ k a, a + d = n → 1 + d * 4600 ≤ k →
    blazonref14_New.l4 k T m (tb n J) (tb n K) (a : Int) = some (match sAll J K n d a with
      | some (x, y) => ([], [], [], [], (x : Int), (y : Int), 17)
      | none => (T, m, tb n J, tb n K, 0, 0, 0)) := by
  induction d with
  | zero =>
    intro k a ha hk
    obtain ⟨k, rfl⟩ : ∃ n, k = n + 1 := ⟨k - 1, by omega⟩
    rw [blazonref14_New.l4, if_neg (by omega)]
    rfl
  | succ d ih =>
    intro k a ha hk
    obtain ⟨k, rfl⟩ : ∃ q, k = q + 1 := ⟨k - 1, by omega⟩
    obtain ⟨f, h1, h2⟩ := rN_l3 (m := m) hT h64 J K rJ rK a (by omega) (1 + d * 4600) n k 0 (by omega) (by omega)
    rw [show ((0 : Nat) : Int) = 0 from rfl] at h2
    rw [blazonref14_New.l4, if_pos (by omega), h2, sAll]
    cases sCol J K n a n 0 with
    | some b => rfl
    | none => exact ih f (a + 1) (by omega) h1
theorem rB_l0 (hM : Mat n m le) (hT : T.length = n) (h64 : n ≤ 64) (c : Nat) (hc : c < n) (f : Nat) (d : Nat) : ∀ (j : Nat) (fl : Bool), j + d = n →
    ((fl = true ∧ ∀ i, j ≤ i → i < n → le c i) → blazonref14_Lattice_Bottom.l0 (f + d + 1) T m (c : Int) fl (j : Int) = some (c : Int)) ∧
    (¬ (fl = true ∧ ∀ i, j ≤ i → i < n → le c i) → blazonref14_Lattice_Bottom.l0 (f + d + 1) T m (c : Int) fl (j : Int) = blazonref14_Lattice_Bottom.l1 f T m ((c + 1 : Nat) : Int)) := by
  obtain ⟨ml, mr, me⟩ := hM
  induction d with
  | zero =>
    intro j fl hj
    rw [show f + 0 + 1 = f + 1 from rfl, blazonref14_Lattice_Bottom.l0, if_neg (by omega), wrap64_id (by omega) (by omega)]
    constructor
    · rintro ⟨h, _⟩; rw [if_pos h]
    · intro h; rw [if_neg (fun z => h ⟨z, fun i h1 h2 => by omega⟩)]; rfl
  | succ d ih =>
    intro j fl hj
    have hj' : j < n := by omega
    have lc := mr c hc
    have nx : ∀ g : Bool, (g = true ↔ (fl = true ∧ le c j)) →
      ((fl = true ∧ ∀ i, j ≤ i → i < n → le c i) → blazonref14_Lattice_Bottom.l0 (f + d + 1) T m (c : Int) g (wrap64 ((j : Int) + 1)) = some (c : Int)) ∧
      (¬ (fl = true ∧ ∀ i, j ≤ i → i < n → le c i) → blazonref14_Lattice_Bottom.l0 (f + d + 1) T m (c : Int) g (wrap64 ((j : Int) + 1)) = blazonref14_Lattice_Bottom.l1 f T m ((c + 1 : Nat) : Int)) := fun g hg => by
      rw [wrap64_id (by omega) (by omega), show (j : Int) + 1 = ((j + 1 : Nat) : Int) by omega]
      have key : (g = true ∧ ∀ i, j + 1 ≤ i → i < n → le c i) ↔ (fl = true ∧ ∀ i, j ≤ i → i < n → le c i) := by
        rw [hg]
        constructor
        · rintro ⟨⟨h1, h2⟩, h3⟩
          refine ⟨h1, fun i q1 q2 => ?_⟩
          by_cases e : i = j
          · subst e; exact h2
          · exact h3 i (by omega) q2
        · rintro ⟨h1, h2⟩
          exact ⟨⟨h1, h2 j (Nat.le_refl _) hj'⟩, fun i q1 q2 => h2 i (by omega) q2⟩
      have := ih (j + 1) g (by omega)
      rw [key] at this
      exact this
    rw [show f + (d + 1) + 1 = (f + d + 1) + 1 by omega, blazonref14_Lattice_Bottom.l0, if_pos (by omega)]
    by_cases h1 : fl = true
    · rw [if_pos h1, if_pos (by omega), if_pos (by omega), if_pos (by omega), if_pos (by omega)]
      exact nx _ ⟨fun z => ⟨h1, (me c j hc hj').1 z⟩, fun z => (me c j hc hj').2 z.2⟩
    · rw [if_neg h1]
      exact nx false ⟨fun z => (by cases z), fun z => absurd z.1 h1⟩
theorem rB_l1 (hM : Mat n m le) (po : Po n le) (hT : T.length = n) (h64 : n ≤ 64) (r : Nat) (hr : r < n) (hb : ∀ j, j < n → le r j) (d : Nat) : ∀ (k c : Nat), c + d = r → 67 + d * 66 ≤ k →
    blazonref14_Lattice_Bottom.l1 k T m (c : Int) = some (r : Int) := by
  induction d with
  | zero =>
    intro k c hc hk
    obtain ⟨k, rfl⟩ : ∃ q, k = q + n + 1 + 1 := ⟨k - n - 2, by omega⟩
    obtain rfl : c = r := by omega
    rw [blazonref14_Lattice_Bottom.l1, if_pos (by omega)]
    exact (rB_l0 hM hT h64 c hr k n 0 true (by omega)).1 ⟨rfl, fun i _ h => hb i h⟩
  | succ d ih =>
    intro k c hc hk
    obtain ⟨k, rfl⟩ : ∃ q, k = q + n + 1 + 1 := ⟨k - n - 2, by omega⟩
    rw [blazonref14_Lattice_Bottom.l1, if_pos (by omega), show (0 : Int) = ((0 : Nat) : Int) from rfl, (rB_l0 hM hT h64 c (by omega) k n 0 true (by omega)).2 (fun z => by
      have := po.an (z.2 r (Nat.zero_le _) hr) (hb c (by omega))
      omega)]
    exact ih k (c + 1) (by omega) (by omega)
theorem rB_f (hM : Mat n m le) (po : Po n le) (hT : T.length = n) (h64 : n ≤ 64) (r : Nat) (hr : r < n) (hb : ∀ j, j < n → le r j) (k : Nat) (hk : 4400 ≤ k) (x y : List (List Int)) : blazonref14_Lattice_Bottom.f k T m x y = some (r : Int) :=
  rB_l1 hM po hT h64 r hr hb r k 0 (by omega) (by omega)
end
section
variable {T : List ByteArray} {n : Nat} {m : List (List Bool)} {le : Nat → Nat → Prop}
theorem rT_l0 (hM : Mat n m le) (hT : T.length = n) (h64 : n ≤ 64) (c : Nat) (hc : c < n) (f : Nat) (d : Nat) : ∀ (j : Nat) (fl : Bool), j + d = n →
    ((fl = true ∧ ∀ i, j ≤ i → i < n → le i c) → blazonref14_Lattice_Top.l0 (f + d + 1) T m (c : Int) fl (j : Int) = some (c : Int)) ∧
    (¬ (fl = true ∧ ∀ i, j ≤ i → i < n → le i c) → blazonref14_Lattice_Top.l0 (f + d + 1) T m (c : Int) fl (j : Int) = blazonref14_Lattice_Top.l1 f T m ((c + 1 : Nat) : Int)) := by
  obtain ⟨ml, mr, me⟩ := hM
  induction d with
  | zero =>
    intro j fl hj
    rw [show f + 0 + 1 = f + 1 from rfl, blazonref14_Lattice_Top.l0, if_neg (by omega), wrap64_id (by omega) (by omega)]
    constructor
    · rintro ⟨h, _⟩; rw [if_pos h]
    · intro h; rw [if_neg (fun z => h ⟨z, fun i h1 h2 => by omega⟩)]; rfl
  | succ d ih =>
    intro j fl hj
    have hj' : j < n := by omega
    have lc := mr j hj'
    have nx : ∀ g : Bool, (g = true ↔ (fl = true ∧ le j c)) →
      ((fl = true ∧ ∀ i, j ≤ i → i < n → le i c) → blazonref14_Lattice_Top.l0 (f + d + 1) T m (c : Int) g (wrap64 ((j : Int) + 1)) = some (c : Int)) ∧
      (¬ (fl = true ∧ ∀ i, j ≤ i → i < n → le i c) → blazonref14_Lattice_Top.l0 (f + d + 1) T m (c : Int) g (wrap64 ((j : Int) + 1)) = blazonref14_Lattice_Top.l1 f T m ((c + 1 : Nat) : Int)) := fun g hg => by
      rw [wrap64_id (by omega) (by omega), show (j : Int) + 1 = ((j + 1 : Nat) : Int) by omega]
      have key : (g = true ∧ ∀ i, j + 1 ≤ i → i < n → le i c) ↔ (fl = true ∧ ∀ i, j ≤ i → i < n → le i c) := by
        rw [hg]
        constructor
        · rintro ⟨⟨h1, h2⟩, h3⟩
          refine ⟨h1, fun i q1 q2 => ?_⟩
          by_cases e : i = j
          · subst e; exact h2
          · exact h3 i (by omega) q2
        · rintro ⟨h1, h2⟩
          exact ⟨⟨h1, h2 j (Nat.le_refl _) hj'⟩, fun i q1 q2 => h2 i (by omega) q2⟩
      have := ih (j + 1) g (by omega)
      rw [key] at this
      exact this
    rw [show f + (d + 1) + 1 = (f + d + 1) + 1 by omega, blazonref14_Lattice_Top.l0, if_pos (by omega)]
    by_cases h1 : fl = true
    · rw [if_pos h1, if_pos (by omega), if_pos (by omega), if_pos (by omega), if_pos (by omega)]
      exact nx _ ⟨fun z => ⟨h1, (me j c hj' hc).1 z⟩, fun z => (me j c hj' hc).2 z.2⟩
    · rw [if_neg h1]
      exact nx false ⟨fun z => (by cases z), fun z => absurd z.1 h1⟩
theorem rT_l1 (hM : Mat n m le) (po : Po n le) (hT : T.length = n) (h64 : n ≤ 64) (r : Nat) (hr : r < n) (hb : ∀ j, j < n → le j r) (d : Nat) : ∀ (k c : Nat), c + d = r → 67 + d * 66 ≤ k →
    blazonref14_Lattice_Top.l1 k T m (c : Int) = some (r : Int) := by
  induction d with
  | zero =>
    intro k c hc hk
    obtain ⟨k, rfl⟩ : ∃ q, k = q + n + 1 + 1 := ⟨k - n - 2, by omega⟩
    obtain rfl : c = r := by omega
    rw [blazonref14_Lattice_Top.l1, if_pos (by omega)]
    exact (rT_l0 hM hT h64 c hr k n 0 true (by omega)).1 ⟨rfl, fun i _ h => hb i h⟩
  | succ d ih =>
    intro k c hc hk
    obtain ⟨k, rfl⟩ : ∃ q, k = q + n + 1 + 1 := ⟨k - n - 2, by omega⟩
    rw [blazonref14_Lattice_Top.l1, if_pos (by omega), show (0 : Int) = ((0 : Nat) : Int) from rfl, (rT_l0 hM hT h64 c (by omega) k n 0 true (by omega)).2 (fun z => by
      have := po.an (z.2 r (Nat.zero_le _) hr) (hb c (by omega))
      omega)]
    exact ih k (c + 1) (by omega) (by omega)
theorem rT_f (hM : Mat n m le) (po : Po n le) (hT : T.length = n) (h64 : n ≤ 64) (r : Nat) (hr : r < n) (hb : ∀ j, j < n → le j r) (k : Nat) (hk : 4400 ≤ k) (x y : List (List Int)) : blazonref14_Lattice_Top.f k T m x y = some (r : Int) :=
  rT_l1 hM po hT h64 r hr hb r k 0 (by omega) (by omega)
end
section
variable {P : List S53} {T : List ByteArray} {U : List Nat}
theorem mat_of (h : Inv P T U) : Mat T.length (matP T P) (M (cl T U)) := by
  refine ⟨matP_len T P, fun i hi => by rw [mat_row T P i hi, rowP_len], fun i j hi hj => ?_⟩
  rw [mat_row T P i hi, rdB]
  exact row_tells h i j hi
theorem jn_sign {n : Nat} {le : Nat → Nat → Prop} (po : Po n le) (x y : Nat) : jn n le x y = -1 ∨ 0 ≤ jn n le x y := by
  rcases jn_or po x y with e | ⟨i, _, e, _⟩
  · exact .inl e
  · exact .inr (by rw [e]; omega)
theorem ref14_tells (h : Inv P T U) (po : Po T.length (M (cl T U))) (k : Nat) (hk : 400000 ≤ k) :
    blazonref14_New.f k T (matP T P) = some (if T.length = 0 then (([], [], [], [], 0, 0, 1) : List ByteArray × (List (List Bool)) × (List (List Int)) × (List (List Int)) × Int × Int × Int) else match wAll (jj T U) (kk T U) T.length T.length 0 with
      | some (x, y) => ([], [], [], [], (x : Int), (y : Int), 17)
      | none => match sAll (jj T U) (kk T U) T.length T.length 0 with
        | some (x, y) => ([], [], [], [], (x : Int), (y : Int), 17)
        | none => (T, matP T P, tb T.length (jj T U), tb T.length (kk T U), 0, 0, 0)) := by
  have hT := h.le
  have hM := mat_of h
  unfold blazonref14_New.f
  by_cases h0 : T.length = 0
  · rw [if_pos (by omega), if_pos h0]
  · rw [if_neg (by omega), if_neg h0]
    obtain ⟨k1, e1, e2⟩ := rN_l6 hM po rfl hT 300000 (by omega) T.length k 0 (by omega) (by omega)
    obtain ⟨e3, e4⟩ := rN_l5 (m := matP T P) rfl hT (jj T U) (kk T U) (jn_sign po) (jn_sign po.flp) 295000 T.length k1 0 (by omega) (by omega)
    refine e2.trans ?_
    cases hw : wAll (jj T U) (kk T U) T.length T.length 0 with
    | some p => obtain ⟨x, y⟩ := p; exact e3 x y hw
    | none =>
      obtain ⟨k2, e5, e6⟩ := e4 hw
      refine e6.trans ?_
      have rJ : ∀ x y, x < T.length → y < T.length → 0 ≤ jj T U x y ∧ jj T U x y < (T.length : Int) := fun x y hx hy => by
        obtain ⟨⟨i, a1, a2, _⟩, _⟩ := rg h po hw x y hx hy
        rw [a2]; omega
      have rK : ∀ x y, x < T.length → y < T.length → 0 ≤ kk T U x y ∧ kk T U x y < (T.length : Int) := fun x y hx hy => by
        obtain ⟨_, ⟨i, a1, a2, _⟩⟩ := rg h po hw x y hx hy
        rw [a2]; omega
      have e7 := rN_l4 (m := matP T P) rfl hT (jj T U) (kk T U) rJ rK T.length k2 0 (by omega) (by omega)
      rw [show ((0 : Nat) : Int) = 0 from rfl] at e7
      refine e7.trans ?_
      cases sAll (jj T U) (kk T U) T.length T.length 0 with
      | some p => obtain ⟨x, y⟩ := p; rfl
      | none => rfl
theorem refP_bad {L : List S53} (hb : (build L 0 [] Z64).1 ≠ 0) : (refP L).1 = [] ∧ (refP L).2.1 = [] ∧ (refP L).2.2.2 = (newP L).2.2 := by
  unfold refP newP
  generalize build L 0 [] Z64 = r at hb
  obtain ⟨c, i, T, U⟩ := r
  dsimp only at hb ⊢
  rw [if_neg hb, if_neg hb]
  exact ⟨rfl, rfl, rfl⟩
theorem both_good {L : List S53} (hb : (build L 0 [] Z64).1 = 0) : ∃ T U, Inv L T U ∧ (newP L = match turned T (cl T U) L 0 with | some j => (none, (j : Int), 16) | none => (some (ordOf T U), 0, 0)) ∧ refP L = match turned T (cl T U) L 0 with | some j => ([], [], (j : Int), 16) | none => (T, matP T L, 0, 0) := by
  have inv := build_inv L [] 0 [] Z64 inv_nil hb
  rw [List.nil_append] at inv
  unfold refP newP
  generalize build L 0 [] Z64 = r at hb inv
  obtain ⟨c, i, T, U⟩ := r
  dsimp only at hb inv ⊢
  refine ⟨T, U, inv, ?_, ?_⟩
  · rw [if_pos hb]; rfl
  · rw [if_pos hb]; rfl
end
section
variable {L : S107} {o : S81} {n : Nat} {J K : Nat → Nat → Nat} {le : Nat → Nat → Prop} {T : List ByteArray} {m : List (List Bool)}
theorem outL (h : IsL L o n J K) (x y : Int) (hx : ¬ (0 ≤ x ∧ 0 ≤ y ∧ x < (n : Int) ∧ y < (n : Int))) : lattice_Lattice_in.f (some L) x y = some false := by
  have hn := h.n_
  unfold lattice_Lattice_in.f
  dsimp only [onOpt]
  rw [if_pos h.dn]
  by_cases c : mn x y ≥ 0
  · have h2 : ¬ mx x y < (o.f0.length : Int) := by unfold mn at c; unfold mx; split at c <;> split <;> omega
    rw [if_pos c, h.o_, len_tells, Option.bind_some, decide_eq_false h2]
  · rw [if_neg c]
theorem joinO (h : IsL L o n J K) (c : Int) (x y : Int) (hx : ¬ (0 ≤ x ∧ 0 ≤ y ∧ x < (n : Int) ∧ y < (n : Int))) :
    lattice_Lattice_Join.f L.f0 L.f1.f0.f0 L.f1.f1.f0.f0 L.f1.f1.f0.f1 L.f2 L.f3 c x y = some (-1, wrap64 (c + 1)) := by
  unfold lattice_Lattice_Join.f
  rw [Option.bind_some, outL (h.more _) x y hx, Option.bind_some, if_neg (by decide)]
theorem meetO (h : IsL L o n J K) (c : Int) (x y : Int) (hx : ¬ (0 ≤ x ∧ 0 ≤ y ∧ x < (n : Int) ∧ y < (n : Int))) :
    lattice_Lattice_Meet.f L.f0 L.f1.f0.f0 L.f1.f1.f0.f0 L.f1.f1.f0.f1 L.f2 L.f3 c x y = some (-1, wrap64 (c + 1)) := by
  unfold lattice_Lattice_Meet.f
  rw [Option.bind_some, outL (h.more _) x y hx, Option.bind_some, if_neg (by decide)]
theorem news_j0 (h : IsL L o n J K) (lt : Lt n le J K) (h0 : 0 < n) (hM : Mat n m le) (hT : T.length = n) (k : Nat) (hk : 5001 ≤ k) (x y : List (List Int)) (c : Int) :
    blazonlaw14_LatticeNews.j0 k L T m x y c c = some true := by
  obtain ⟨k, rfl⟩ : ∃ q, k = q + 1 := ⟨k - 1, by omega⟩
  obtain ⟨r, r1, r2, r3⟩ := botL (h.more c) lt h0 k (by omega)
  obtain ⟨t, t1, t2, t3⟩ := topL (h.more c) lt h0 k (by omega)
  have h64 := h.le
  rw [blazonlaw14_LatticeNews.j0]
  show (if c = c then _ else _) = _
  rw [if_pos rfl, r3, Option.bind_some, rB_f hM lt.po hT h64 r r1 r2 k (by omega), Option.bind_some, if_pos rfl, t3, Option.bind_some, rT_f hM lt.po hT h64 t t1 t2 k (by omega), Option.bind_some, if_pos rfl, awake_tells k (by omega), Option.bind_some]
theorem news_j2 (h : IsL L o n J K) (lt : Lt n le J K) (h0 : 0 < n) (hM : Mat n m le) (hT : T.length = n) (k : Nat) (hk : 5003 ≤ k) (a b : Int) (x y : List (List Int)) (g : Bool) (hg : g = false → ¬ (0 ≤ a ∧ 0 ≤ b ∧ a < (n : Int) ∧ b < (n : Int))) (c : Int) (hc : c = 2 * (n : Int) * (n : Int)) :
    blazonlaw14_LatticeNews.j2 k a b L T T m x y c g = some true := by
  obtain ⟨k, rfl⟩ : ∃ q, k = q + 1 + 1 := ⟨k - 2, by omega⟩
  have h64 := h.le
  have hn := h.n_
  have hb : 0 ≤ c ∧ c ≤ 8192 := by
    obtain ⟨q, hq⟩ : ∃ q : Nat, q = n * n := ⟨_, rfl⟩
    have : n * n ≤ 64 * 64 := Nat.mul_le_mul h64 h64
    have e : c = 2 * ((n * n : Nat) : Int) := by rw [hc, Int.mul_assoc, Int.natCast_mul]
    omega
  have ew : wrap64 (wrap64 (2 * (T.length : Int)) * (T.length : Int)) = c := by
    rw [wrap64_id (x := 2 * (T.length : Int)) (by omega) (by omega), hT, ← hc, wrap64_id (by omega) (by omega)]
  have el : ∀ c' : Int, (lattice_Lattice_Order.f (some (⟨L.f0, (⟨(⟨L.f1.f0.f0⟩ : S92), (⟨(⟨L.f1.f1.f0.f0, L.f1.f1.f0.f1⟩ : S94)⟩ : S96)⟩ : S98), L.f2, L.f3, (⟨c'⟩ : S105)⟩ : S107))) = some (some o) := fun c' => by
    unfold lattice_Lattice_Order.f
    dsimp only [onOpt]
    rw [h.o_]
  cases g with
  | true =>
    rw [blazonlaw14_LatticeNews.j2, if_pos rfl, el, Option.bind_some, len_tells, Option.bind_some, decide_eq_true (by omega), blazonlaw14_LatticeNews.j1, if_neg (by decide), if_pos rfl, ew]
    exact news_j0 h lt h0 hM hT k (by omega) x y c
  | false =>
    have ho := hg rfl
    rw [blazonlaw14_LatticeNews.j2, if_neg (by decide), joinO h c a b ho, Option.bind_some, if_pos rfl, meetO h _ a b ho, Option.bind_some, if_pos rfl, el, Option.bind_some, len_tells, Option.bind_some, decide_eq_true (by omega), blazonlaw14_LatticeNews.j1, if_neg (by decide), if_neg (by decide), ew]
    have e2 : wrap64 (wrap64 (c + 1) + 1) = c + 2 := by rw [wrap64_id (x := c + 1) (by omega) (by omega), wrap64_id (by omega) (by omega)]; omega
    dsimp only
    rw [e2, wrap64_id (x := c + 2) (by omega) (by omega)]
    exact news_j0 h lt h0 hM hT k (by omega) x y _
theorem news_l0 (h : IsL L o n J K) (lt : Lt n le J K) (hT : T.length = n) (Jt Kt : Nat → Nat → Int) (hj : ∀ x y, x < n → y < n → Jt x y = (J x y : Int)) (hk : ∀ x y, x < n → y < n → Kt x y = (K x y : Int)) (a : Nat) (ha : a < n) (a1 a2 : Int) (f : Nat) (d : Nat) : ∀ (b : Nat) (c : Int), b + d = n → 0 ≤ c → c + 2 * (d : Int) ≤ 100000 →
    blazonlaw14_LatticeNews.l0 (f + d + 1) a1 a2 L T T m (tb n Jt) (tb n Kt) (a : Int) (b : Int) c = blazonlaw14_LatticeNews.l1 f a1 a2 L T T m (tb n Jt) (tb n Kt) ((a + 1 : Nat) : Int) (c + 2 * (d : Int)) := by
  have h64 := h.le
  have l1 := tb_len n Jt
  have l2 := tb_len n Kt
  have l3 := tb_rl n Jt a ha
  have l4 := tb_rl n Kt a ha
  induction d with
  | zero =>
    intro b c hb hc hc2
    rw [show f + 0 + 1 = f + 1 from rfl, blazonlaw14_LatticeNews.l0, if_neg (by omega), wrap64_id (by omega) (by omega), show c + 2 * ((0 : Nat) : Int) = c by omega]
    rfl
  | succ d ih =>
    intro b c hb hc hc2
    have hb' : b < n := by omega
    rw [show f + (d + 1) + 1 = (f + d + 1) + 1 by omega, blazonlaw14_LatticeNews.l0, if_pos (by omega), if_pos (by omega), if_pos (by omega), if_pos (by omega), if_pos (by omega), joinL h (fun x y hx hy => (lt.j hx hy).1) c a b ha hb', Option.bind_some, tb_at n Jt a b ha hb', hj a b ha hb', if_pos rfl, if_pos (by omega), if_pos (by omega), meetL h (fun x y hx hy => (lt.k hx hy).1) _ a b ha hb', Option.bind_some, tb_at n Kt a b ha hb', hk a b ha hb', if_pos rfl]
    dsimp only
    rw [wrap64_id (x := c + 1) (by omega) (by omega), wrap64_id (x := c + 1 + 1) (by omega) (by omega), wrap64_id (x := (b : Int) + 1) (by omega) (by omega), show (b : Int) + 1 = ((b + 1 : Nat) : Int) by omega]
    rw [ih (b + 1) (c + 1 + 1) (by omega) (by omega) (by omega), show c + 1 + 1 + 2 * (d : Int) = c + 2 * ((d + 1 : Nat) : Int) by omega]
theorem news_l1 (h : IsL L o n J K) (lt : Lt n le J K) (h0 : 0 < n) (hM : Mat n m le) (hT : T.length = n) (Jt Kt : Nat → Nat → Int) (hj : ∀ x y, x < n → y < n → Jt x y = (J x y : Int)) (hk : ∀ x y, x < n → y < n → Kt x y = (K x y : Int)) (a1 a2 : Int) (d : Nat) : ∀ (k a : Nat) (c : Int), a + d = n → 5004 + d * 70 ≤ k → c = 2 * (n : Int) * (a : Int) →
    blazonlaw14_LatticeNews.l1 k a1 a2 L T T m (tb n Jt) (tb n Kt) (a : Int) c = some true := by
  have h64 := h.le
  induction d with
  | zero =>
    intro k a c ha hk' hc
    obtain ⟨k, rfl⟩ : ∃ q, k = q + 1 := ⟨k - 1, by omega⟩
    obtain rfl : a = n := by omega
    have j2 := fun g hg => news_j2 h lt h0 hM hT k (by omega) a1 a2 (tb a Jt) (tb a Kt) g hg c hc
    rw [blazonlaw14_LatticeNews.l1, if_neg (by omega), hT]
    by_cases c1 : a1 ≥ 0
    · rw [if_pos c1]
      by_cases c2 : a2 ≥ 0
      · rw [if_pos c2]
        by_cases c3 : a1 < (a : Int)
        · rw [if_pos c3]
          exact j2 _ (fun z => by have := of_decide_eq_false z; omega)
        · rw [if_neg c3]; exact j2 _ (fun _ => by omega)
      · rw [if_neg c2]; exact j2 _ (fun _ => by omega)
    · rw [if_neg c1]; exact j2 _ (fun _ => by omega)
  | succ d ih =>
    intro k a c ha hk' hc
    obtain ⟨k, rfl⟩ : ∃ q, k = q + n + 1 + 1 := ⟨k - n - 2, by omega⟩
    have ea : 2 * (n : Int) * ((a + 1 : Nat) : Int) = c + 2 * (n : Int) := by rw [hc, Int.natCast_add, Int.mul_add]; omega
    have hb : 0 ≤ c ∧ c ≤ 8192 := by
      have : n * a ≤ 64 * 64 := Nat.mul_le_mul h64 (by omega)
      have e : c = 2 * ((n * a : Nat) : Int) := by rw [hc, Int.mul_assoc, Int.natCast_mul]
      omega
    rw [blazonlaw14_LatticeNews.l1, if_pos (by omega), show (0 : Int) = ((0 : Nat) : Int) from rfl, news_l0 h lt hT Jt Kt hj hk a (by omega) a1 a2 k n 0 c (by omega) hb.1 (by omega)]
    exact ih k (a + 1) _ (by omega) (by omega) ea.symm
end
theorem news_j4t (k : Nat) (hk : 301 ≤ k) (a b c : Int) (R1 : List ByteArray) (R2 : List (List Bool)) (S : Option S81) : blazonlaw14_LatticeNews.j4 k a b c R1 R2 c S true = some true := by
  obtain ⟨k, rfl⟩ : ∃ q, k = q + 1 := ⟨k - 1, by omega⟩
  rw [blazonlaw14_LatticeNews.j4, if_pos rfl, if_pos rfl, awake_tells k (by omega), Option.bind_some]
theorem news_j3n (k : Nat) (hk : 301 ≤ k) (a b c : Int) (hc : c ≠ 0) (R1 R0 : List ByteArray) (R2 : List (List Bool)) (R3 R4 : List (List Int)) : blazonlaw14_LatticeNews.j3 k a b R0 none c R1 R2 R3 R4 false = some true := by
  obtain ⟨k, rfl⟩ : ∃ q, k = q + 1 := ⟨k - 1, by omega⟩
  rw [blazonlaw14_LatticeNews.j3, if_neg (by decide), if_neg hc]
  dsimp only [onOpt]
  rw [awake_tells k (by omega), Option.bind_some]
theorem LatticeNews : blazonlaw14_LatticeNews.Pure := by
  intro L a b hm hb hx ha hb2
  have hn := lim40 hb
  obtain ⟨k, hk⟩ : ∃ k, k = 281474976710656 * 10 + 400 * L.length := ⟨_, rfl⟩
  refine ⟨k + 1, ?_⟩
  obtain ⟨g, hg, hf⟩ := great_tells (k + 1) L 12 (by decide) (by omega) (by omega)
  unfold blazonlaw14_LatticeNews.f
  rw [hg, Option.bind_some]
  cases g with
  | true => rw [if_pos rfl, awake_tells _ (by omega), Option.bind_some]
  | false =>
    have h12 := hf rfl
    have h13 := ref13_tells L (by omega) 140737488351232 (fun p hp => ⟨(hx p hp).1, (hx p hp).2.1⟩) (by omega) (k + 1) (by omega)
    rw [if_neg (by decide), new_tells _ L (by omega) (by omega), Option.bind_some, h13, Option.bind_some]
    by_cases hbd : (build L 0 [] Z64).1 = 0
    · obtain ⟨T, U, inv, e, e2⟩ := both_good hbd
      have hT := inv.le
      rw [e, e2]
      cases ht : turned T (cl T U) L 0 with
      | some j =>
        dsimp only
        rw [if_neg (by decide)]
        exact news_j4t (k + 1) (by omega) ..
      | none =>
        dsimp only
        have po := po_of inv ht
        obtain ⟨Jl, Kl, hJ, hK, hlt⟩ := lat_tells inv po k (by omega)
        rw [if_pos rfl, show (!decide ((0 : Int) = 0)) = false by decide, blazonlaw14_LatticeNews.j4, if_neg (by decide), hlt, Option.bind_some, ref14_tells inv po k (by omega), Option.bind_some]
        by_cases h0 : T.length = 0
        · rw [if_pos h0, if_pos h0]
          dsimp only
          rw [if_pos rfl, if_pos rfl, decide_eq_true rfl]
          exact news_j3n k (by omega) _ _ _ (by decide) ..
        · rw [if_neg h0, if_neg h0]
          cases hw : wAll (jj T U) (kk T U) T.length T.length 0 with
          | some p =>
            obtain ⟨x, y⟩ := p
            dsimp only
            rw [if_pos rfl, if_pos rfl, decide_eq_true rfl]
            exact news_j3n k (by omega) _ _ _ (by decide) ..
          | none =>
            dsimp only
            cases hs : sAll (jj T U) (kk T U) T.length T.length 0 with
            | some p =>
              obtain ⟨x, y⟩ := p
              dsimp only
              rw [if_pos rfl, if_pos rfl, decide_eq_true rfl]
              exact news_j3n k (by omega) _ _ _ (by decide) ..
            | none =>
              dsimp only
              have hL := tab_nat inv po hw hJ hK 0
              have lt := lt_of inv po hw hs
              obtain ⟨k, rfl⟩ : ∃ q, k = q + 1 := ⟨k - 1, by omega⟩
              rw [if_pos rfl, if_pos rfl, decide_eq_true rfl, Bool.not_true, blazonlaw14_LatticeNews.j3, if_neg (by decide), if_pos rfl]
              dsimp only [onOpt]
              exact news_l1 hL lt (by omega) (mat_of inv) rfl (jj T U) (kk T U) (fun x y hx hy => by
                obtain ⟨⟨i, a1, a2, _⟩, _⟩ := rg inv po hw x y hx hy
                rw [a2]; rfl) (fun x y hx hy => by
                obtain ⟨_, ⟨i, a1, a2, _⟩⟩ := rg inv po hw x y hx hy
                rw [a2]; rfl) a b T.length k 0 0 (by omega) (by omega) (by simp)
    · obtain ⟨b1, b2, b3⟩ := newP_bad hbd
      obtain ⟨c1, c2, c3⟩ := refP_bad hbd
      rw [if_neg b2, c3]
      exact news_j4t (k + 1) (by omega) ..

end Go.Proofs.YtpfepkkpbampkaaDoor.Pure
