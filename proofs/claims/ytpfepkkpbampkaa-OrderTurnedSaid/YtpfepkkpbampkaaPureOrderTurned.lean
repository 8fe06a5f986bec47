/- Pairs the other way about make the order the other way about (of 40 pairs). -/
import Derived.Test.YtpfepkkpbampkaaPOrdx1
import Derived.Test.YtpfepkkpbampkaaPOrdx2
import Derived.Test.YtpfepkkpbampkaaPOrdx3
import Derived.Test.YtpfepkkpbampkaaPOrdx4
import Derived.Test.YtpfepkkpbampkaaPOrdx5
import Derived.Test.YtpfepkkpbampkaaPOrdx6
import Derived.OpenShut
import Derived.Laws.BitsLemmas
import Derived.Laws.BitsAllLaws
import Derived.Lib.Bytes
import Derived.Test.YtpfepkkpbampkaaWSized
set_option linter.unusedVariables false
set_option linter.unusedSimpArgs false
namespace Go.Proofs.Ytpfepkkpbampkaa.Pure
open Go.RowKit Go.Proofs.Ytpfepkkpbampkaa.POrd Go.Proofs.YtpfepkkpbampkaaW.PrintWords Go.Proofs.YtpfepkkpbampkaaW.PrintLast

theorem wrap64_id {x : Int} (h0 : -9223372036854775808 ≤ x) (h1 : x ≤ 9223372036854775807) : wrap64 x = x := by unfold wrap64; omega
theorem u64w_id {x : Int} (h0 : 0 ≤ x) (h1 : x < 18446744073709551616) : IntKind.u64.wrap x = x := by
  simp [IntKind.wrap, IntKind.bits, IntKind.signed]; omega
theorem u64w_nat {n : Nat} (h : n < 2 ^ 64) : IntKind.u64.wrap (n : Int) = (n : Int) := u64w_id (by omega) (by omega)
theorem byte_all (p : Int → Prop) (h : ∀ b : Fin 256, p ((b.val : Nat) : Int)) (c : Int) (h0 : 0 ≤ c) (h1 : c < 256) : p c := by
  have := h ⟨c.toNat, by omega⟩
  simp only at this
  rwa [show ((c.toNat : Nat) : Int) = c by omega] at this
def letterB (c : Int) : Bool := (decide (97 ≤ c) && decide (c ≤ 122)) || (decide (65 ≤ c) && decide (c ≤ 90)) || c == 95
def digitB (c : Int) : Bool := decide (48 ≤ c) && decide (c ≤ 57)
def wordB (c : Int) : Bool := letterB c || digitB c
theorem digit_tells (c : Int) : lex_digit.f c = some (digitB c) := by
  unfold lex_digit.f digitB
  by_cases h : c ≥ 48
  · simp [h]
  · simp [h]
theorem letter_tells (c : Int) (h0 : 0 ≤ c) (h1 : c < 256) : lex_letter.f c = some (letterB c) :=
  byte_all (fun c => lex_letter.f c = some (letterB c)) (by decide +kernel) c h0 h1
theorem ident1_tells (c : Int) (h0 : 0 ≤ c) (h1 : c < 256) : lex_Ident_1.f c = some (wordB c) := by
  unfold lex_Ident_1.f wordB
  rw [letter_tells c h0 h1, digit_tells]
  cases letterB c <;> simp
def KW : List ByteArray := [(⟨#[105, 109, 112, 111, 114, 116]⟩ : ByteArray), (⟨#[108, 97, 116, 116, 105, 99, 101]⟩ : ByteArray), (⟨#[101, 102, 102, 101, 99, 116, 115]⟩ : ByteArray), (⟨#[118, 97, 114]⟩ : ByteArray), (⟨#[102, 110]⟩ : ByteArray), (⟨#[108, 101, 116]⟩ : ByteArray), (⟨#[105, 102]⟩ : ByteArray), (⟨#[101, 108, 115, 101]⟩ : ByteArray), (⟨#[119, 104, 105, 108, 101]⟩ : ByteArray), (⟨#[114, 101, 116, 117, 114, 110]⟩ : ByteArray), (⟨#[100, 111]⟩ : ByteArray), (⟨#[116, 114, 117, 101]⟩ : ByteArray), (⟨#[102, 97, 108, 115, 101]⟩ : ByteArray), (⟨#[105, 110, 116]⟩ : ByteArray), (⟨#[98, 111, 111, 108]⟩ : ByteArray), (⟨#[100, 101, 99, 108, 97, 115, 115, 105, 102, 121]⟩ : ByteArray)]
/-- Is it a word of the language? -/
def kw (x : ByteArray) : Bool := KW.any fun y => decide (x = y)
theorem kwj (b : Bool) : lex_Keyword.j0 b = some b := by cases b <;> rfl
theorem ite_or {c : Prop} [Decidable c] {X : Option Bool} {b : Bool} (h : X = some b) : (if c then lex_Keyword.j0 true else X) = some (decide c || b) := by
  by_cases hc : c
  · rw [if_pos hc, decide_eq_true hc]; rfl
  · rw [if_neg hc, decide_eq_false hc, h]; rfl
theorem kw_tells (x : ByteArray) : lex_Keyword.f x = some (kw x) := by
  unfold lex_Keyword.f kw KW
  simp only [List.any_cons, List.any_nil]
  repeat refine ite_or ?_
  rw [kwj, Bool.or_false]
theorem run_tells (l : List Int) (hl : ∀ x ∈ l, 0 ≤ x ∧ x < 256) (hn : l.length ≤ 1000000) (d : Nat) : ∀ (k i : Nat), i ≤ l.length → l.length - i = d → 2 * d + 2 ≤ k →
    lex_run_lex_Ident_1.l0 k l (i : Int) = some ((i + ((l.drop i).takeWhile wordB).length : Nat) : Int) := by
  induction d with
  | zero =>
    intro k i hi hd hk
    obtain ⟨k, rfl⟩ : ∃ n, k = n + 2 := ⟨k - 2, by omega⟩
    rw [lex_run_lex_Ident_1.l0, if_neg (by omega), lex_run_lex_Ident_1.j0, if_neg (by decide), List.drop_eq_nil_of_le (by omega)]
    simp
  | succ d ih =>
    intro k i hi hd hk
    obtain ⟨k, rfl⟩ : ∃ n, k = n + 2 := ⟨k - 2, by omega⟩
    have hr : rd l (i : Int) = l[i] := by simp [rd, List.getD_eq_getElem?_getD, show i < l.length by omega]
    have hx := hl l[i] (List.getElem_mem _)
    rw [lex_run_lex_Ident_1.l0, if_pos (by omega), if_pos (by omega), hr, ident1_tells _ hx.1 hx.2, Option.bind_some, lex_run_lex_Ident_1.j0, List.drop_eq_getElem_cons (by omega), List.takeWhile_cons]
    by_cases hw : wordB l[i] = true
    · rw [if_pos hw, if_pos hw, wrap64_id (by omega) (by omega), show (i : Int) + 1 = ((i + 1 : Nat) : Int) by omega, ih k (i + 1) (by omega) (by omega) (by omega)]
      simp; omega
    · rw [if_neg hw, if_neg hw]
      simp
theorem bytesOf_in (s : ByteArray) : ∀ x ∈ bytesOf s, 0 ≤ x ∧ x < 256 := by
  intro x hx
  unfold bytesOf at hx
  obtain ⟨b, _, rfl⟩ := List.mem_map.1 hx
  have := b.toNat_lt
  omega
theorem bytesOf_len (s : ByteArray) : (bytesOf s).length = s.size := by unfold bytesOf; rw [List.length_map, Array.length_toList]; rfl
theorem bt_in (x : ByteArray) (i : Int) : 0 ≤ bt x i ∧ bt x i < 256 := by have := bt_range x i; omega
/-- A name of a thing. -/
def identB (x : ByteArray) : Bool := decide (0 < x.size) && (decide (x.size ≤ 24) && (!kw x && (letterB (bt x 0) && (((bytesOf x).takeWhile wordB).length == x.size))))
theorem size0 (x : ByteArray) : x = (⟨#[]⟩ : ByteArray) ↔ x.size = 0 := by
  constructor
  · rintro rfl; rfl
  · intro h
    cases x with
    | mk a =>
      cases a with
      | mk l =>
        have : l.length = 0 := h
        rw [List.length_eq_zero_iff.1 this]
theorem ident_tells (k : Nat) (x : ByteArray) (hk : 60 ≤ k) : lex_Ident.f k x = some (identB x) := by
  obtain ⟨k, rfl⟩ : ∃ n, k = n + 1 := ⟨k - 1, by omega⟩
  unfold lex_Ident.f identB
  by_cases h0 : x.size = 0
  · rw [if_pos ((size0 x).2 h0), lex_Ident.j0, if_pos rfl]
    simp [h0]
  rw [if_neg (fun h => h0 ((size0 x).1 h))]
  by_cases h1 : (x.size : Int) > 24
  · rw [if_pos h1, lex_Ident.j0, if_pos rfl]
    have : ¬ x.size ≤ 24 := by omega
    simp [this]
  rw [if_neg h1, kw_tells, Option.bind_some]
  have hp : 0 < x.size := by omega
  have hle : x.size ≤ 24 := by omega
  by_cases h2 : kw x = true
  · rw [if_pos h2, lex_Ident.j0, if_pos rfl]; simp [h2]
  have hb := bt_in x 0
  rw [if_neg h2, if_pos (by omega), letter_tells _ hb.1 hb.2, Option.bind_some, lex_Ident.j0]
  by_cases h3 : letterB (bt x 0) = true
  · rw [if_neg (by simp [h3]), if_pos (by omega), Option.bind_some]
    have hr := run_tells (bytesOf x) (bytesOf_in x) (by rw [bytesOf_len]; omega) x.size k 0 (by omega) (by rw [bytesOf_len]; omega) (by omega)
    unfold lex_run_lex_Ident_1.f
    rw [show ((0 : Nat) : Int) = 0 from rfl] at hr
    rw [hr, Option.bind_some]
    simp only [hp, hle, h2, h3, List.drop_zero, Nat.zero_add, decide_true, Bool.true_and, Bool.not_false]
    congr 1
    rw [Bool.eq_iff_iff]; simp [h2]; omega
  · rw [if_pos (by simp [h3])]; simp [h3]

def memB (s : ByteArray) : List ByteArray → Bool
  | [] => false
  | t :: T => decide (s = t) || memB s T
theorem memB_iff (s : ByteArray) : ∀ T, memB s T = true ↔ s ∈ T
  | [] => by simp [memB]
  | t :: T => by simp [memB, memB_iff s T]
instance memDec (s : ByteArray) (T : List ByteArray) : Decidable (s ∈ T) := decidable_of_iff _ (memB_iff s T)
/-- The places of a table's names. -/
def idx (T : List ByteArray) : List (ByteArray × Int) := T.zipIdx.map fun p => (p.1, (p.2 : Int))
def idxFrom (T : List ByteArray) (n : Nat) : List (ByteArray × Int) := (T.zipIdx n).map fun p => (p.1, (p.2 : Int))
theorem idx_has (T : List ByteArray) (s : ByteArray) : ∀ n, mhas (idxFrom T n) s = decide (s ∈ T) := by
  induction T with
  | nil => intro n; rfl
  | cons t T ih =>
    intro n
    simp only [idxFrom, List.zipIdx_cons, List.map_cons, mhas]
    by_cases h : t = s
    · rw [if_pos h]; simp [h]
    · rw [if_neg h]
      have := ih (n + 1)
      unfold idxFrom at this
      rw [this]
      have h2 : ¬ s = t := fun e => h e.symm
      simp [h2]
/-- Where a name stands. -/
def at_ : List ByteArray → ByteArray → Nat
  | [], _ => 0
  | t :: T, s => if t = s then 0 else at_ T s + 1
theorem idx_get (T : List ByteArray) (s : ByteArray) : ∀ n, s ∈ T → mget 0 (idxFrom T n) s = ((n + at_ T s : Nat) : Int) := by
  induction T with
  | nil => intro n h; simp at h
  | cons t T ih =>
    intro n hm
    simp only [idxFrom, List.zipIdx_cons, List.map_cons, mget, at_]
    by_cases h : t = s
    · rw [if_pos h, if_pos h]; rfl
    · rw [if_neg h, if_neg h]
      have hm' : s ∈ T := by
        rcases List.mem_cons.1 hm with e | e
        · exact absurd e.symm h
        · exact e
      have := ih (n + 1) hm'
      unfold idxFrom at this
      rw [this]; congr 1; omega
theorem at_lt (T : List ByteArray) (s : ByteArray) (h : s ∈ T) : at_ T s < T.length := by
  induction T with
  | nil => simp at h
  | cons t T ih =>
    simp only [at_]
    by_cases e : t = s
    · rw [if_pos e]; simp
    · rw [if_neg e]
      rcases List.mem_cons.1 h with h | h
      · exact absurd h.symm e
      · have := ih h; simp; omega
theorem at_get (T : List ByteArray) (s : ByteArray) (h : s ∈ T) : T[at_ T s]'(at_lt T s h) = s := by
  induction T with
  | nil => simp at h
  | cons t T ih =>
    by_cases e : t = s
    · simp [at_, e]
    · have h' : s ∈ T := by
        rcases List.mem_cons.1 h with h | h
        · exact absurd h.symm e
        · exact h
      simp only [at_, if_neg e, List.getElem_cons_succ]
      exact ih h'
theorem at_self (T : List ByteArray) (hn : T.Nodup) : ∀ (i : Nat) (h : i < T.length), at_ T T[i] = i := by
  induction T with
  | nil => intro i h; simp at h
  | cons t T ih =>
    intro i h
    cases i with
    | zero => simp [at_]
    | succ i =>
      have hm : T[i]'(by simpa using h) ∈ T := List.getElem_mem _
      have hne : ¬ t = T[i]'(by simpa using h) := fun e => (List.nodup_cons.1 hn).1 (e ▸ hm)
      simp only [List.getElem_cons_succ, at_, if_neg hne]
      rw [ih (List.nodup_cons.1 hn).2 i (by simpa using h)]
theorem idx_put (T : List ByteArray) (s : ByteArray) (h : s ∉ T) : mput (idx T) s (T.length : Int) = idx (T ++ [s]) := by
  have h1 := idx_has T s 0
  have e : idxFrom T 0 = idx T := rfl
  rw [e] at h1
  rw [mput_not (by rw [h1]; simp [h])]
  simp [idx, List.zipIdx_append]

theorem shl1 (n : Nat) (h : n < 64) : shl .u64 1 (n : Int) = ((2 ^ n : Nat) : Int) := by
  unfold shl
  have e : min ((n : Int).toNat) IntKind.u64.bits = n := by simp [IntKind.bits]; omega
  have hlt : 2 ^ n < 2 ^ 64 := Nat.pow_lt_pow_right (by decide) h
  have e2 : ((2 : Int) ^ n) = ((2 ^ n : Nat) : Int) := by simp
  rw [e, Int.one_mul, e2, u64w_nat hlt]
theorem bit_of (s i : Nat) (hs : s < 2 ^ 64) (hi : i < 64) : Go.bits .and .u64 (shr .u64 (s : Int) (i : Int)) 1 = ((s / 2 ^ i % 2 : Nat) : Int) := by
  have e : shr .u64 (s : Int) (i : Int) = ((s / 2 ^ i : Nat) : Int) := by
    unfold shr
    have e : min ((i : Int).toNat) IntKind.u64.bits = i := by simp [IntKind.bits]; omega
    rw [e]; simp
  have hlt : s / 2 ^ i < 18446744073709551616 := Nat.lt_of_le_of_lt (Nat.div_le_self _ _) hs
  rw [e]
  have := u64_and_nat (s / 2 ^ i) 1 hlt (by decide)
  rw [nat_mask1] at this
  exact this
theorem testBit_div (s i : Nat) : s.testBit i = decide (s / 2 ^ i % 2 = 1) := by rw [Nat.testBit_eq_decide_div_mod_eq]
theorem bit_iff (s i : Nat) (hs : s < 2 ^ 64) (hi : i < 64) : (Go.bits .and .u64 (shr .u64 (s : Int) (i : Int)) 1 = 1) ↔ s.testBit i = true := by
  rw [bit_of s i hs hi, testBit_div, decide_eq_true_iff]
  generalize s / 2 ^ i % 2 = q
  omega
/-- Rows of numbers, as the program's. -/
def N (U : List Nat) : List Int := U.map fun n : Nat => (n : Int)
/-- A row's number. -/
def R (U : List Nat) (i : Nat) : Nat := U.getD i 0
theorem N_get (U : List Nat) (i : Nat) : List.getD (N U) ((i : Int)).toNat 0 = ((R U i : Nat) : Int) := by
  simp only [N, R, Int.toNat_natCast, List.getD_eq_getElem?_getD, List.getElem?_map]
  cases U[i]? <;> rfl
theorem N_set (U : List Nat) (i v : Nat) : List.set (N U) ((i : Int)).toNat (v : Int) = N (U.set i v) := by
  simp only [N, Int.toNat_natCast, List.map_set]
theorem R_set (U : List Nat) (i v : Nat) (hi : i < U.length) (r : Nat) : R (U.set i v) r = if r = i then v else R U r := by
  unfold R
  simp only [List.getD_eq_getElem?_getD, List.getElem?_set]
  by_cases h : i = r
  · subst h; simp [hi]
  · have h' : ¬ r = i := fun e => h e.symm
    simp [h, h']
/-- Sixty-four rows of sixty-four bits. -/
def Ok64 (U : List Nat) : Prop := U.length = 64 ∧ ∀ r, R U r < 2 ^ 64
theorem ok_set {U : List Nat} (h : Ok64 U) {i v : Nat} (hi : i < 64) (hv : v < 2 ^ 64) : Ok64 (U.set i v) := by
  refine ⟨by rw [List.length_set]; exact h.1, fun r => ?_⟩
  rw [R_set U i v (by rw [h.1]; exact hi) r]
  split
  · exact hv
  · exact h.2 r

/-- One column's round. -/
def rowsFrom (k : Nat) : Nat → Nat → List Nat → List Nat
  | 0, _, U => U
  | d + 1, i, U => rowsFrom k d (i + 1) (if (R U i).testBit k = true then U.set i (R U i ||| R U k) else U)
def allRows (n : Nat) : Nat → Nat → List Nat → List Nat
  | 0, _, U => U
  | d + 1, k, U => allRows n d (k + 1) (rowsFrom k n 0 U)
def downFrom (U : List Nat) (i : Nat) : Nat → Nat → List Nat → List Nat
  | 0, _, D => D
  | d + 1, k, D => downFrom U i d (k + 1) (if (R U k).testBit i = true then D.set i (R D i ||| 2 ^ k) else D)
def allDown (U : List Nat) (n : Nat) : Nat → Nat → List Nat → List Nat
  | 0, _, D => D
  | d + 1, i, D => allDown U n d (i + 1) (downFrom U i n 0 D)
theorem rowsFrom_ok (k : Nat) (hk : k < 64) : ∀ (d i : Nat) (U : List Nat), Ok64 U → i + d ≤ 64 → Ok64 (rowsFrom k d i U)
  | 0, _, _, h, _ => h
  | d + 1, i, U, h, hi => by
    rw [rowsFrom]
    refine rowsFrom_ok k hk d (i + 1) _ ?_ (by omega)
    split
    · exact ok_set h (by omega) (Nat.or_lt_two_pow (h.2 i) (h.2 k))
    · exact h
theorem allRows_ok (n : Nat) (hn : n ≤ 64) : ∀ (d k : Nat) (U : List Nat), Ok64 U → k + d ≤ 64 → Ok64 (allRows n d k U)
  | 0, _, _, h, _ => h
  | d + 1, k, U, h, hk => allRows_ok n hn d (k + 1) _ (rowsFrom_ok k (by omega) n 0 U h (by omega)) (by omega)
theorem downFrom_ok (U : List Nat) (i : Nat) (hi : i < 64) : ∀ (d k : Nat) (D : List Nat), Ok64 D → k + d ≤ 64 → Ok64 (downFrom U i d k D)
  | 0, _, _, h, _ => h
  | d + 1, k, D, h, hk => by
    rw [downFrom]
    refine downFrom_ok U i hi d (k + 1) _ ?_ (by omega)
    split
    · exact ok_set h hi (Nat.or_lt_two_pow (h.2 i) (Nat.pow_lt_pow_right (by decide) (by omega)))
    · exact h
theorem allDown_ok (U : List Nat) (n : Nat) (hn : n ≤ 64) : ∀ (d i : Nat) (D : List Nat), Ok64 D → i + d ≤ 64 → Ok64 (allDown U n d i D)
  | 0, _, _, h, _ => h
  | d + 1, i, D, h, hi => allDown_ok U n hn d (i + 1) _ (downFrom_ok U i (by omega) n 0 D h (by omega)) (by omega)
theorem close_l0 (T : List ByteArray) (hT : T.length ≤ 64) (dn : List Int) (kk : Nat) (hkk : kk < T.length) (f : Nat) (d : Nat) : ∀ (i : Nat) (U : List Nat), Ok64 U → i + d = T.length →
    order_Order_close.l0 (f + d + 1) dn T (kk : Int) (i : Int) (N U) = order_Order_close.l3 f dn T ((kk + 1 : Nat) : Int) (N (rowsFrom kk d i U)) := by
  induction d with
  | zero =>
    intro i U hU hi
    rw [order_Order_close.l0, if_neg (by omega), wrap64_id (by omega) (by omega)]
    rfl
  | succ d ih =>
    intro i U hU hi
    rw [show f + (d + 1) + 1 = (f + d + 1) + 1 by omega, order_Order_close.l0, if_pos (by omega), if_pos (by omega), if_pos (by omega), u64w_id (x := (kk : Int)) (by omega) (by omega), if_pos (by omega), N_get, N_get, rowsFrom]
    have hb := bit_iff (R U i) kk (hU.2 i) (by omega)
    by_cases h : (R U i).testBit kk = true
    · rw [if_pos (hb.2 h), if_pos (by omega), if_pos (by omega), if_pos h, u64_or_nat _ _ (hU.2 i) (hU.2 kk), N_set, Option.bind_some, wrap64_id (by omega) (by omega), show (i : Int) + 1 = ((i + 1 : Nat) : Int) by omega]
      exact ih (i + 1) _ (ok_set hU (by omega) (Nat.or_lt_two_pow (hU.2 i) (hU.2 kk))) (by omega)
    · rw [if_neg (fun e => h (hb.1 e)), if_neg h, wrap64_id (by omega) (by omega), show (i : Int) + 1 = ((i + 1 : Nat) : Int) by omega]
      exact ih (i + 1) U hU (by omega)
theorem close_l1 (T : List ByteArray) (hT : T.length ≤ 64) (U : List Nat) (hU : Ok64 U) (i : Nat) (hi : i < T.length) (f : Nat) (d : Nat) : ∀ (k : Nat) (D : List Nat), Ok64 D → k + d = T.length →
    order_Order_close.l1 (f + d + 1) T (N U) (i : Int) (k : Int) (N D) = order_Order_close.l2 f T (N U) ((i + 1 : Nat) : Int) (N (downFrom U i d k D)) := by
  induction d with
  | zero =>
    intro k D hD hk
    rw [order_Order_close.l1, if_neg (by omega), wrap64_id (by omega) (by omega)]
    rfl
  | succ d ih =>
    intro k D hD hk
    rw [show f + (d + 1) + 1 = (f + d + 1) + 1 by omega, order_Order_close.l1, if_pos (by omega), if_pos (by omega), if_pos (by omega), u64w_id (x := (i : Int)) (by omega) (by omega), if_pos (by omega), N_get, N_get, downFrom]
    have hb := bit_iff (R U k) i (hU.2 k) (by omega)
    have h2 : 2 ^ k < 2 ^ 64 := Nat.pow_lt_pow_right (by decide) (by omega)
    by_cases h : (R U k).testBit i = true
    · rw [if_pos (hb.2 h), if_pos (by omega), if_pos (by omega), if_pos h, u64w_id (x := (k : Int)) (by omega) (by omega), if_pos (by omega), shl1 k (by omega), u64_or_nat _ _ (hD.2 i) h2, N_set, Option.bind_some, wrap64_id (by omega) (by omega), show (k : Int) + 1 = ((k + 1 : Nat) : Int) by omega]
      exact ih (k + 1) _ (ok_set hD (by omega) (Nat.or_lt_two_pow (hD.2 i) h2)) (by omega)
    · rw [if_neg (fun e => h (hb.1 e)), if_neg h, wrap64_id (by omega) (by omega), show (k : Int) + 1 = ((k + 1 : Nat) : Int) by omega]
      exact ih (k + 1) D hD (by omega)
theorem close_l2 (T : List ByteArray) (hT : T.length ≤ 64) (U : List Nat) (hU : Ok64 U) (f : Nat) (d : Nat) : ∀ (i : Nat) (D : List Nat), Ok64 D → i + d = T.length →
    order_Order_close.l2 (f + d * (T.length + 2) + 1) T (N U) (i : Int) (N D) = some (N U, N (allDown U T.length d i D)) := by
  induction d with
  | zero =>
    intro i D hD hi
    rw [order_Order_close.l2, if_neg (by omega)]
    rfl
  | succ d ih =>
    intro i D hD hi
    rw [order_Order_close.l2, if_pos (by omega), show f + (d + 1) * (T.length + 2) = (f + d * (T.length + 2) + 1) + T.length + 1 by rw [Nat.add_mul]; omega]
    have := close_l1 T hT U hU i (by omega) (f + d * (T.length + 2) + 1) T.length 0 D hD (by omega)
    rw [show ((0 : Nat) : Int) = 0 from rfl] at this
    rw [this, allDown]
    exact ih (i + 1) _ (downFrom_ok U i (by omega) _ 0 D hD (by omega)) (by omega)
theorem close_l3 (T : List ByteArray) (hT : T.length ≤ 64) (D : List Nat) (hD : Ok64 D) (f : Nat) (d : Nat) : ∀ (kk : Nat) (U : List Nat), Ok64 U → kk + d = T.length →
    order_Order_close.l3 (f + T.length * (T.length + 2) + 1 + d * (T.length + 2) + 1) (N D) T (kk : Int) (N U) = some (N (allRows T.length d kk U), N (allDown (allRows T.length d kk U) T.length T.length 0 D)) := by
  induction d with
  | zero =>
    intro kk U hU hk
    rw [order_Order_close.l3, if_neg (by omega), Nat.zero_mul, Nat.add_zero]
    exact close_l2 T hT U hU f T.length 0 D hD (by omega)
  | succ d ih =>
    intro kk U hU hk
    rw [order_Order_close.l3, if_pos (by omega), show f + T.length * (T.length + 2) + 1 + (d + 1) * (T.length + 2) = (f + T.length * (T.length + 2) + 1 + d * (T.length + 2) + 1) + T.length + 1 by rw [Nat.add_mul d]; omega]
    have := close_l0 T hT (N D) kk (by omega) (f + T.length * (T.length + 2) + 1 + d * (T.length + 2) + 1) T.length 0 U hU (by omega)
    rw [show ((0 : Nat) : Int) = 0 from rfl] at this
    rw [this, allRows]
    exact ih (kk + 1) _ (rowsFrom_ok kk (by omega) _ 0 U hU (by omega)) (by omega)
theorem close_tells (T : List ByteArray) (hT : T.length ≤ 64) (m : List (ByteArray × Int)) (U D : List Nat) (hU : Ok64 U) (hD : Ok64 D) (k : Nat) (hk : 10000 ≤ k) :
    order_Order_close.f k T m (N U) (N D) = some (N (allRows T.length T.length 0 U), N (allDown (allRows T.length T.length 0 U) T.length T.length 0 D)) := by
  have hb : T.length * (T.length + 2) ≤ 64 * 66 := Nat.mul_le_mul hT (by omega)
  have := close_l3 T hT D hD (k - 2 - T.length * (T.length + 2) - T.length * (T.length + 2)) T.length 0 U hU (by omega)
  rw [show k - 2 - T.length * (T.length + 2) - T.length * (T.length + 2) + T.length * (T.length + 2) + 1 + T.length * (T.length + 2) + 1 = k by omega] at this
  exact this

/-- The bit at a row and a column. -/
def M (U : List Nat) (i j : Nat) : Prop := (R U i).testBit j = true
theorem rows_R (k : Nat) (U0 : List Nat) : ∀ (d i : Nat) (V : List Nat), V.length = 64 → i + d ≤ 64 → (∀ r, R V r = if r < i ∧ (R U0 r).testBit k = true then R U0 r ||| R U0 k else R U0 r) →
    ∀ r, R (rowsFrom k d i V) r = if r < i + d ∧ (R U0 r).testBit k = true then R U0 r ||| R U0 k else R U0 r
  | 0, _, _, _, _, h => h
  | d + 1, i, V, hl, hi, h => by
    have hVi : R V i = R U0 i := by rw [h i, if_neg (by omega)]
    have hVk : R V k = R U0 k := by
      rw [h k]
      split
      · exact Nat.or_self _
      · rfl
    rw [rowsFrom, hVi, hVk]
    have step : ∀ r, R (if (R U0 i).testBit k = true then V.set i (R U0 i ||| R U0 k) else V) r = if r < i + 1 ∧ (R U0 r).testBit k = true then R U0 r ||| R U0 k else R U0 r := by
      intro r
      by_cases hb : (R U0 i).testBit k = true
      · rw [if_pos hb, R_set V i _ (by omega) r]
        by_cases e : r = i
        · subst e; rw [if_pos rfl, if_pos ⟨by omega, hb⟩]
        · rw [if_neg e, h r]
          by_cases e2 : r < i
          · by_cases e3 : (R U0 r).testBit k = true
            · rw [if_pos ⟨e2, e3⟩, if_pos ⟨by omega, e3⟩]
            · rw [if_neg (fun z => e3 z.2), if_neg (fun z => e3 z.2)]
          · rw [if_neg (fun z => e2 z.1), if_neg (fun z => by omega)]
      · rw [if_neg hb, h r]
        by_cases e : r = i
        · subst e; rw [if_neg (fun z => hb z.2), if_neg (fun z => hb z.2)]
        · by_cases e2 : r < i
          · by_cases e3 : (R U0 r).testBit k = true
            · rw [if_pos ⟨e2, e3⟩, if_pos ⟨by omega, e3⟩]
            · rw [if_neg (fun z => e3 z.2), if_neg (fun z => e3 z.2)]
          · rw [if_neg (fun z => e2 z.1), if_neg (fun z => by omega)]
    have := rows_R k U0 d (i + 1) _ (by split <;> simp [hl]) (by omega) step
    rw [show i + (d + 1) = i + 1 + d by omega]
    exact this
theorem rows_M (k n : Nat) (hn : n ≤ 64) (U : List Nat) (hU : Ok64 U) (i j : Nat) : M (rowsFrom k n 0 U) i j ↔ M U i j ∨ (i < n ∧ M U i k ∧ M U k j) := by
  unfold M
  rw [rows_R k U n 0 U hU.1 (by omega) (fun r => by rw [if_neg (by omega)]) i, Nat.zero_add]
  by_cases h : i < n ∧ (R U i).testBit k = true
  · rw [if_pos h, Nat.testBit_or, Bool.or_eq_true]
    constructor
    · rintro (a | a)
      · exact .inl a
      · exact .inr ⟨h.1, h.2, a⟩
    · rintro (a | a)
      · exact .inl a
      · exact .inr a.2.2
  · rw [if_neg h]
    constructor
    · exact .inl
    · rintro (a | a)
      · exact a
      · exact absurd ⟨a.1, a.2.1⟩ h
/-- What a round leaves. -/
structure Cl (n : Nat) (U0 U : List Nat) (k : Nat) : Prop where
  ok : Ok64 U
  up : ∀ i j, M U0 i j → M U i j
  le : ∀ S : Nat → Nat → Prop, (∀ a b c, S a b → S b c → S a c) → (∀ i j, M U0 i j → S i j) → ∀ i j, M U i j → S i j
  rf : ∀ i, i < n → M U i i
  bd : ∀ i j, M U i j → i < n ∧ j < n
  tr : ∀ m, m < k → ∀ i j, M U i m → M U m j → M U i j
theorem cl_step {n : Nat} (hn : n ≤ 64) {U0 U : List Nat} {k : Nat} (h : Cl n U0 U k) (hk : k < n) : Cl n U0 (rowsFrom k n 0 U) (k + 1) := by
  have e := rows_M k n hn U h.ok
  refine ⟨rowsFrom_ok k (by omega) n 0 U h.ok (by omega), fun i j a => (e i j).2 (.inl (h.up i j a)), fun S hS h0 i j a => ?_, fun i hi => (e i i).2 (.inl (h.rf i hi)), fun i j a => ?_, fun m hm i j a b => ?_⟩
  · rcases (e i j).1 a with a | a
    · exact h.le S hS h0 i j a
    · exact hS i k j (h.le S hS h0 i k a.2.1) (h.le S hS h0 k j a.2.2)
  · rcases (e i j).1 a with a | a
    · exact h.bd i j a
    · exact ⟨a.1, (h.bd k j a.2.2).2⟩
  · have in_ : ∀ {x y}, M U x y → x < n := fun z => (h.bd _ _ z).1
    by_cases hm' : m = k
    · subst hm'
      have a' : M U i m := by rcases (e i m).1 a with a | a; exact a; exact a.2.1
      have b' : M U m j := by rcases (e m j).1 b with b | b; exact b; exact b.2.2
      exact (e i j).2 (.inr ⟨in_ a', a', b'⟩)
    · have hm2 : m < k := by omega
      rcases (e i m).1 a with a | a <;> rcases (e m j).1 b with b | b
      · exact (e i j).2 (.inl (h.tr m hm2 i j a b))
      · exact (e i j).2 (.inr ⟨in_ a, h.tr m hm2 i k a b.2.1, b.2.2⟩)
      · exact (e i j).2 (.inr ⟨a.1, a.2.1, h.tr m hm2 k j a.2.2 b⟩)
      · exact (e i j).2 (.inr ⟨a.1, a.2.1, b.2.2⟩)
theorem cl_all {n : Nat} (hn : n ≤ 64) {U0 : List Nat} : ∀ (d k : Nat) (U : List Nat), Cl n U0 U k → k + d = n → Cl n U0 (allRows n d k U) n
  | 0, k, U, h, hk => by have e : k = n := by omega
                         subst e; exact h
  | d + 1, k, U, h, hk => cl_all hn d (k + 1) _ (cl_step hn h (by omega)) (by omega)
theorem closed {n : Nat} (hn : n ≤ 64) {U0 : List Nat} (hU : Ok64 U0) (hr : ∀ i, i < n → M U0 i i) (hb : ∀ i j, M U0 i j → i < n ∧ j < n) : Cl n U0 (allRows n n 0 U0) n :=
  cl_all hn n 0 U0 ⟨hU, fun _ _ a => a, fun _ _ h0 i j a => h0 i j a, hr, hb, fun m hm => absurd hm (by omega)⟩ (by omega)
theorem trans_ {n : Nat} {U0 U : List Nat} (h : Cl n U0 U n) {a b c : Nat} (x : M U a b) (y : M U b c) : M U a c := h.tr b (h.bd a b x).2 a c x y
theorem pow_bit (n j : Nat) : (2 ^ n).testBit j = decide (n = j) := Nat.testBit_two_pow
theorem down_M (U : List Nat) (i : Nat) (hi : i < 64) : ∀ (d k : Nat) (D : List Nat), D.length = 64 → ∀ r j, M (downFrom U i d k D) r j ↔ M D r j ∨ (r = i ∧ k ≤ j ∧ j < k + d ∧ M U j i)
  | 0, k, D, hD, r, j => by
    constructor
    · exact .inl
    · rintro (a | a)
      · exact a
      · omega
  | d + 1, k, D, hD, r, j => by
    rw [downFrom, down_M U i hi d (k + 1) _ (by split <;> simp [hD]) r j]
    by_cases h : (R U k).testBit i = true
    · rw [if_pos h]
      unfold M at *
      rw [R_set D i _ (by omega) r]
      by_cases e : r = i
      · subst e
        rw [if_pos rfl, Nat.testBit_or, Bool.or_eq_true, pow_bit, decide_eq_true_iff]
        constructor
        · rintro ((a | a) | a)
          · exact .inl a
          · subst a; exact .inr ⟨rfl, Nat.le_refl _, by omega, h⟩
          · exact .inr ⟨rfl, by omega, by omega, a.2.2.2⟩
        · rintro (a | a)
          · exact .inl (.inl a)
          · by_cases e : k = j
            · exact .inl (.inr e)
            · exact .inr ⟨rfl, by omega, by omega, a.2.2.2⟩
      · rw [if_neg e]
        constructor
        · rintro (a | a)
          · exact .inl a
          · exact absurd a.1 e
        · rintro (a | a)
          · exact .inl a
          · exact absurd a.1 e
    · rw [if_neg h]
      constructor
      · rintro (a | a)
        · exact .inl a
        · exact .inr ⟨a.1, by omega, by omega, a.2.2.2⟩
      · rintro (a | a)
        · exact .inl a
        · by_cases e : k = j
          · subst e; exact absurd a.2.2.2 h
          · exact .inr ⟨a.1, by omega, by omega, a.2.2.2⟩
theorem alldown_M (U : List Nat) (n : Nat) (hn : n ≤ 64) : ∀ (d i : Nat) (D : List Nat), Ok64 D → i + d ≤ 64 → ∀ r j, M (allDown U n d i D) r j ↔ M D r j ∨ (i ≤ r ∧ r < i + d ∧ j < n ∧ M U j r)
  | 0, i, D, hD, hi, r, j => by
    constructor
    · exact .inl
    · rintro (a | a)
      · exact a
      · omega
  | d + 1, i, D, hD, hi, r, j => by
    rw [allDown, alldown_M U n hn d (i + 1) _ (downFrom_ok U i (by omega) n 0 D hD (by omega)) (by omega) r j, down_M U i (by omega) n 0 D hD.1 r j]
    constructor
    · rintro ((a | a) | a)
      · exact .inl a
      · have := a.1; subst this; exact .inr ⟨by omega, by omega, by omega, a.2.2.2⟩
      · exact .inr ⟨by omega, by omega, a.2.2.1, a.2.2.2⟩
    · rintro (a | a)
      · exact .inl (.inl a)
      · by_cases e : r = i
        · subst e; exact .inl (.inr ⟨rfl, by omega, by omega, a.2.2.2⟩)
        · exact .inr ⟨by omega, by omega, a.2.2.1, a.2.2.2⟩
/-- Rows of nothing. -/
def Z64 : List Nat := List.replicate 64 0
theorem Z_N : N Z64 = List.replicate 64 (0 : Int) := by simp [N, Z64]
theorem Z_R (r : Nat) : R Z64 r = 0 := by
  unfold R Z64
  rw [List.getD_eq_getElem?_getD, List.getElem?_replicate]
  split <;> rfl
theorem Z_ok : Ok64 Z64 := ⟨List.length_replicate, fun r => by rw [Z_R]; decide⟩
theorem Z_M (i j : Nat) : ¬ M Z64 i j := by unfold M; rw [Z_R]; simp

/-- An element added. -/
def addP (T : List ByteArray) (U : List Nat) (x : ByteArray) : Option (Nat × List ByteArray × List Nat) := if x ∈ T then some (at_ T x, T, U) else if T.length = 64 then none else some (T.length, T ++ [x], U.set T.length (2 ^ T.length))
theorem add_tells (T : List ByteArray) (hT : T.length ≤ 64) (U : List Nat) (dn : List Int) (x : ByteArray) : order_Order_add.f T (idx T) (N U) dn x = some (match addP T U x with | some r => ((r.1 : Int), true, r.2.1, idx r.2.1, N r.2.2) | none => (0, false, T, idx T, N U)) := by
  have h1 := idx_has T x 0
  have h2 := idx_get T x 0
  have e : idxFrom T 0 = idx T := rfl
  rw [e] at h1 h2
  unfold order_Order_add.f addP
  rw [h1]
  by_cases h : x ∈ T
  · rw [if_pos (by simp [h]), if_pos h, h2 h, Nat.zero_add]
  · rw [if_neg (by simp [h]), if_neg h]
    by_cases h3 : T.length = 64
    · rw [if_pos (by omega), if_pos h3]
    · rw [if_neg (by omega), if_neg h3, Option.bind_some, if_pos (by omega), Option.bind_some, u64w_id (x := (T.length : Int)) (by omega) (by omega), if_pos (by omega), if_pos (by omega), if_pos (by omega), idx_put T x h, shl1 _ (by omega), N_set, Option.bind_some]
/-- A pair added. -/
def pairP (T : List ByteArray) (U : List Nat) (p : S25) : Int × List ByteArray × List Nat :=
  if identB p.f0 = true ∧ (p.f1 = (⟨#[]⟩ : ByteArray) ∨ identB p.f1 = true) then
    match addP T U p.f0 with
    | none => (8, T, U)
    | some a => if p.f1 = (⟨#[]⟩ : ByteArray) then (0, a.2) else
      match addP a.2.1 a.2.2 p.f1 with
      | none => (8, a.2)
      | some b => (0, b.2.1, b.2.2.set a.1 (R b.2.2 a.1 ||| 2 ^ b.1))
  else (1, T, U)
theorem addP_ok {T : List ByteArray} {U : List Nat} {x : ByteArray} (hT : T.length ≤ 64) (hU : Ok64 U) {r : Nat × List ByteArray × List Nat} (h : addP T U x = some r) : r.1 < r.2.1.length ∧ r.2.1.length ≤ 64 ∧ Ok64 r.2.2 ∧ T.length ≤ r.2.1.length := by
  unfold addP at h
  split at h
  · rename_i hm
    injection h with h; subst h
    exact ⟨at_lt T x hm, hT, hU, Nat.le_refl _⟩
  · split at h
    · cases h
    · injection h with h; subst h
      refine ⟨by simp, by simp; omega, ok_set hU (by omega) (Nat.pow_lt_pow_right (by decide) (by omega)), by simp⟩
theorem pair_tells (k : Nat) (hk : 100 ≤ k) (T : List ByteArray) (hT : T.length ≤ 64) (U : List Nat) (hU : Ok64 U) (dn : List Int) (p : S25) :
    order_Order_pair.f k T (idx T) (N U) dn p.f0 p.f1 p.f2 = some ((pairP T U p).1, (pairP T U p).2.1, idx (pairP T U p).2.1, N (pairP T U p).2.2) := by
  have bad : ∀ k, 1 ≤ k → order_Order_pair.j0 k (N U) dn p.f0 p.f1 T (idx T) true = some (1, T, idx T, N U) := by
    intro k hk
    obtain ⟨k, rfl⟩ : ∃ n, k = n + 1 := ⟨k - 1, by omega⟩
    rw [order_Order_pair.j0, if_pos rfl]
  have good : ∀ k, 1 ≤ k → identB p.f0 = true ∧ (p.f1 = (⟨#[]⟩ : ByteArray) ∨ identB p.f1 = true) → order_Order_pair.j0 k (N U) dn p.f0 p.f1 T (idx T) false = some ((pairP T U p).1, (pairP T U p).2.1, idx (pairP T U p).2.1, N (pairP T U p).2.2) := by
    intro k hk hg
    obtain ⟨k, rfl⟩ : ∃ n, k = n + 1 := ⟨k - 1, by omega⟩
    rw [order_Order_pair.j0, if_neg (by decide), add_tells T hT U dn p.f0, Option.bind_some]
    unfold pairP
    rw [if_pos hg]
    cases ha : addP T U p.f0 with
    | none => rfl
    | some a =>
      obtain ⟨ai, aT, aU⟩ := a
      obtain ⟨q1, q2, q3, q4⟩ := addP_ok hT hU ha
      dsimp only at q1 q2 q3 q4 ⊢
      rw [if_pos rfl]
      by_cases h1 : p.f1 = (⟨#[]⟩ : ByteArray)
      · rw [if_pos h1, if_pos h1]
      · rw [if_neg h1, if_neg h1, add_tells aT q2 aU dn p.f1, Option.bind_some]
        cases hb : addP aT aU p.f1 with
        | none => rfl
        | some b =>
          obtain ⟨bi, bT, bU⟩ := b
          obtain ⟨z1, z2, z3, z4⟩ := addP_ok q2 q3 hb
          dsimp only at z1 z2 z3 z4 ⊢
          have hp : 2 ^ bi < 2 ^ 64 := Nat.pow_lt_pow_right (by decide) (by omega)
          rw [if_pos rfl, if_pos (by omega), if_pos (by omega), u64w_id (x := (bi : Int)) (by omega) (by omega), if_pos (by omega), N_get, shl1 _ (by omega), u64_or_nat _ _ (z3.2 ai) hp, N_set, Option.bind_some]
  unfold order_Order_pair.f
  rw [ident_tells k _ (by omega), Option.bind_some]
  by_cases h0 : identB p.f0 = true
  · rw [if_pos h0]
    by_cases h1 : p.f1 = (⟨#[]⟩ : ByteArray)
    · rw [if_pos h1]; exact good k (by omega) ⟨h0, .inl h1⟩
    · rw [if_neg h1, ident_tells k _ (by omega), Option.bind_some]
      by_cases h2 : identB p.f1 = true
      · rw [h2]; exact good k (by omega) ⟨h0, .inr h2⟩
      · rw [Bool.eq_false_iff.2 h2]
        have := bad k (by omega)
        rw [Bool.not_false, this]
        unfold pairP
        rw [if_neg (fun z => by rcases z.2 with z | z; exact h1 z; exact h2 z)]
  · rw [if_neg h0, bad k (by omega)]
    unfold pairP
    rw [if_neg (fun z => h0 z.1)]
theorem pairP_ok {T : List ByteArray} {U : List Nat} {p : S25} (hT : T.length ≤ 64) (hU : Ok64 U) : (pairP T U p).2.1.length ≤ 64 ∧ Ok64 (pairP T U p).2.2 := by
  unfold pairP
  split
  · cases ha : addP T U p.f0 with
    | none => exact ⟨hT, hU⟩
    | some a =>
      obtain ⟨ai, aT, aU⟩ := a
      obtain ⟨q1, q2, q3, q4⟩ := addP_ok hT hU ha
      dsimp only at q1 q2 q3 q4 ⊢
      split
      · exact ⟨q2, q3⟩
      · cases hb : addP aT aU p.f1 with
        | none => exact ⟨q2, q3⟩
        | some b =>
          obtain ⟨bi, bT, bU⟩ := b
          obtain ⟨z1, z2, z3, z4⟩ := addP_ok q2 q3 hb
          dsimp only at z1 z2 z3 z4 ⊢
          exact ⟨z2, ok_set z3 (by omega) (Nat.or_lt_two_pow (z3.2 ai) (Nat.pow_lt_pow_right (by decide) (by omega)))⟩
  · exact ⟨hT, hU⟩
/-- All pairs. -/
def build : List S25 → Nat → List ByteArray → List Nat → Int × Nat × List ByteArray × List Nat
  | [], _, T, U => (0, 0, T, U)
  | p :: L, i, T, U => if (pairP T U p).1 = 0 then build L (i + 1) (pairP T U p).2.1 (pairP T U p).2.2 else ((pairP T U p).1, i, T, U)
instance (U : List Nat) (i j : Nat) : Decidable (M U i j) := by unfold M; exact inferInstance
/-- The first pair that stands the other way about. -/
def turned (T : List ByteArray) (U : List Nat) : List S25 → Nat → Option Nat
  | [], _ => none
  | p :: L, i => if p.f1 = (⟨#[]⟩ : ByteArray) then turned T U L (i + 1) else if M U (at_ T p.f1) (at_ T p.f0) then some i else turned T U L (i + 1)
theorem len_tells (o : S47) : order_Order_Len.f (some o) = some (o.f0.length : Int) := rfl
theorem in_tells (o : S47) (a : Nat) : order_Order_in.f (some o) (a : Int) = some (decide (a < o.f0.length)) := by
  unfold order_Order_in.f
  rw [if_pos (by omega), len_tells, Option.bind_some]
  congr 1
  rw [Bool.eq_iff_iff]; simp
theorem most_tells (T : List ByteArray) (hT : T.length ≤ 64) (m : List (ByteArray × Int)) (U : List Nat) (hU : Ok64 U) (D : List Int) (a b : Nat) :
    order_Order_Most.f (some ⟨T, m, N U, D⟩) (a : Int) (b : Int) = some (decide (a < T.length ∧ b < T.length ∧ M U a b)) := by
  unfold order_Order_Most.f
  rw [in_tells, Option.bind_some]
  dsimp only
  by_cases h1 : a < T.length
  · rw [decide_eq_true h1, if_pos rfl, in_tells, Option.bind_some]
    dsimp only
    by_cases h2 : b < T.length
    · rw [decide_eq_true h2, if_pos rfl]
      dsimp only [onOpt]
      rw [if_pos (by omega), if_pos (by omega), u64w_id (x := (b : Int)) (by omega) (by omega), if_pos (by omega), N_get]
      congr 1
      rw [Bool.eq_iff_iff, decide_eq_true_iff, decide_eq_true_iff, bit_iff _ b (hU.2 a) (by omega)]
      exact ⟨fun z => ⟨h1, h2, z⟩, fun z => z.2.2⟩
    · rw [decide_eq_false h2, if_neg (by decide), decide_eq_false (fun z => h2 z.2.1)]
  · rw [decide_eq_false h1, if_neg (by decide), decide_eq_false (fun z => h1 z.1)]

theorem rd25 (L : List S25) (i : Nat) (h : i < L.length) : rd_T25 L (i : Int) = L[i] := by simp [rd_T25, List.getD_eq_getElem?_getD, h]
/-- The order that is told. -/
def ordOf (T : List ByteArray) (U : List Nat) : S47 := ⟨T, idx T, N (allRows T.length T.length 0 U), N (allDown (allRows T.length T.length 0 U) T.length T.length 0 Z64)⟩
def newP (L : List S25) : Option S47 × Int × Int :=
  match build L 0 [] Z64 with
  | (e, i, T, U) => if e = 0 then (match turned T (allRows T.length T.length 0 U) L 0 with
    | some j => (none, (j : Int), 16)
    | none => (some (ordOf T U), 0, 0)) else (none, (i : Int), e)
theorem at_bound (T : List ByteArray) (x : ByteArray) : mget 0 (idx T) x = if x ∈ T then ((at_ T x : Nat) : Int) else 0 := by
  have h1 := idx_has T x 0
  have h2 := idx_get T x 0
  have e : idxFrom T 0 = idx T := rfl
  rw [e] at h1 h2
  by_cases h : x ∈ T
  · rw [if_pos h, h2 h, Nat.zero_add]
  · rw [if_neg h, mget_not (by rw [h1]; simp [h])]
theorem new_l0 (T : List ByteArray) (hT : T.length ≤ 64) (U : List Nat) (hU : Ok64 U) (D : List Int) (L : List S25) (hL : L.length ≤ 1000000) (hm : ∀ p ∈ L, p.f0 ∈ T ∧ (p.f1 ≠ (⟨#[]⟩ : ByteArray) → p.f1 ∈ T)) (hb : ∀ i j, M U i j → i < T.length ∧ j < T.length) (d : Nat) : ∀ (k i : Nat), i ≤ L.length → L.length - i = d → d < k →
    order_New.l0 k L (N U) D T (idx T) (i : Int) = some (match turned T U (L.drop i) i with | some j => (none, (j : Int), 16) | none => (some ⟨T, idx T, N U, D⟩, 0, 0)) := by
  induction d with
  | zero =>
    intro k i hi hd hk
    obtain ⟨k, rfl⟩ : ∃ n, k = n + 1 := ⟨k - 1, by omega⟩
    rw [order_New.l0, if_neg (by omega), List.drop_eq_nil_of_le (by omega)]
    rfl
  | succ d ih =>
    intro k i hi hd hk
    obtain ⟨k, rfl⟩ : ∃ n, k = n + 1 := ⟨k - 1, by omega⟩
    have nx := ih k (i + 1) (by omega) (by omega) (by omega)
    have hp := hm L[i] (List.getElem_mem _)
    rw [order_New.l0, if_pos (by omega), if_pos (by omega), rd25 L i (by omega), List.drop_eq_getElem_cons (by omega), turned, wrap64_id (by omega) (by omega), show (i : Int) + 1 = ((i + 1 : Nat) : Int) by omega, nx]
    by_cases h1 : L[i].f1 = (⟨#[]⟩ : ByteArray)
    · rw [if_pos h1, if_pos h1]
    · have h2 := hp.2 h1
      rw [if_neg h1, if_neg h1, at_bound, at_bound, if_pos h2, if_pos hp.1, most_tells T hT _ U hU, Option.bind_some]
      by_cases h3 : M U (at_ T L[i].f1) (at_ T L[i].f0)
      · rw [decide_eq_true ⟨at_lt T _ h2, at_lt T _ hp.1, h3⟩, if_pos rfl, if_pos h3]
      · rw [decide_eq_false (fun z => h3 z.2.2), if_neg (by decide), if_neg h3]
theorem build_ok (L : List S25) : ∀ (i : Nat) (T : List ByteArray) (U : List Nat), T.length ≤ 64 → Ok64 U → (build L i T U).2.2.1.length ≤ 64 ∧ Ok64 (build L i T U).2.2.2 := by
  induction L with
  | nil => intro i T U hT hU; exact ⟨hT, hU⟩
  | cons p L ih =>
    intro i T U hT hU
    have := pairP_ok (p := p) hT hU
    rw [build]
    split
    · exact ih _ _ _ this.1 this.2
    · exact ⟨hT, hU⟩
/-- What stands when some pairs are in. -/
structure Inv (P : List S25) (T : List ByteArray) (U : List Nat) : Prop where
  nd : T.Nodup
  le : T.length ≤ 64
  ok : Ok64 U
  mem : ∀ x, x ∈ T ↔ ∃ p ∈ P, p.f0 = x ∨ (p.f1 = x ∧ p.f1 ≠ (⟨#[]⟩ : ByteArray))
  edge : ∀ i j, M U i j ↔ (i < T.length ∧ i = j) ∨ ∃ p ∈ P, p.f1 ≠ (⟨#[]⟩ : ByteArray) ∧ at_ T p.f0 = i ∧ at_ T p.f1 = j
theorem at_app (T : List ByteArray) (x y : ByteArray) (h : y ∈ T) : at_ (T ++ [x]) y = at_ T y := by
  induction T with
  | nil => simp at h
  | cons t T ih =>
    simp only [List.cons_append, at_]
    by_cases e : t = y
    · rw [if_pos e, if_pos e]
    · rw [if_neg e, if_neg e]
      rcases List.mem_cons.1 h with h | h
      · exact absurd h.symm e
      · rw [ih h]
theorem at_new (T : List ByteArray) (x : ByteArray) (h : x ∉ T) : at_ (T ++ [x]) x = T.length := by
  induction T with
  | nil => simp [at_]
  | cons t T ih =>
    rw [List.mem_cons, not_or] at h
    simp only [List.cons_append, at_, List.length_cons]
    rw [if_neg (fun e => h.1 e.symm), ih h.2]
theorem at_inj (T : List ByteArray) {x y : ByteArray} (hx : x ∈ T) (hy : y ∈ T) (h : at_ T x = at_ T y) : x = y := by
  have a := at_get T x hx
  have b := at_get T y hy
  rw [← a, ← b]
  congr 1
/-- One more name: what stands for any relation that is told by names. -/
theorem add_inv {E : ByteArray → ByteArray → Prop} {T : List ByteArray} {U : List Nat} {x : ByteArray} (nd : T.Nodup) (hT : T.length ≤ 64) (hU : Ok64 U) (hE : ∀ a b, E a b → a ∈ T ∧ b ∈ T)
    (he : ∀ i j, M U i j ↔ (i < T.length ∧ i = j) ∨ ∃ a b, E a b ∧ at_ T a = i ∧ at_ T b = j) {r : Nat × List ByteArray × List Nat} (h : addP T U x = some r) :
    r.2.1.Nodup ∧ (∀ y, y ∈ r.2.1 ↔ y ∈ T ∨ y = x) ∧ r.1 = at_ r.2.1 x ∧ (∀ i j, M r.2.2 i j ↔ (i < r.2.1.length ∧ i = j) ∨ ∃ a b, E a b ∧ at_ r.2.1 a = i ∧ at_ r.2.1 b = j) := by
  unfold addP at h
  split at h
  · rename_i hm
    injection h with h; subst h
    exact ⟨nd, fun y => ⟨.inl, fun z => by rcases z with z | z; exact z; exact z ▸ hm⟩, rfl, he⟩
  · rename_i hm
    split at h
    · cases h
    · rename_i h64
      injection h with h; subst h
      dsimp only
      refine ⟨?_, fun y => by simp, (at_new T x hm).symm, fun i j => ?_⟩
      · rw [List.nodup_append]
        exact ⟨nd, by simp, fun a ha b hb e => by simp at hb; subst hb; exact hm (e ▸ ha)⟩
      · have e2 : (∃ a b, E a b ∧ at_ (T ++ [x]) a = i ∧ at_ (T ++ [x]) b = j) ↔ ∃ a b, E a b ∧ at_ T a = i ∧ at_ T b = j := by
          constructor <;> rintro ⟨a, b, z, z1, z2⟩ <;> refine ⟨a, b, z, ?_⟩
          · rw [at_app _ _ _ (hE a b z).1] at z1; rw [at_app _ _ _ (hE a b z).2] at z2; exact ⟨z1, z2⟩
          · rw [at_app _ _ _ (hE a b z).1, at_app _ _ _ (hE a b z).2]; exact ⟨z1, z2⟩
        rw [e2]
        unfold M at he ⊢
        rw [R_set U T.length _ (by rw [hU.1]; omega) i]
        by_cases e : i = T.length
        · subst e
          rw [if_pos rfl, pow_bit, decide_eq_true_iff]
          constructor
          · intro z; exact .inl ⟨by simp, z⟩
          · rintro (z | ⟨a, b, z, z1, z2⟩)
            · exact z.2
            · have := at_lt T a (hE a b z).1; omega
        · rw [if_neg e, he i j]
          constructor
          · rintro (z | z)
            · exact .inl ⟨by simp; omega, z.2⟩
            · exact .inr z
          · rintro (z | z)
            · exact .inl ⟨by have := z.1; simp at this; omega, z.2⟩
            · exact .inr z

theorem addP_at {T : List ByteArray} {U : List Nat} {x : ByteArray} {r : Nat × List ByteArray × List Nat} (h : addP T U x = some r) : ∀ y ∈ T, at_ r.2.1 y = at_ T y := by
  unfold addP at h
  split at h
  · injection h with h; subst h; intro y _; rfl
  · split at h
    · cases h
    · injection h with h; subst h
      intro y hy; exact at_app T x y hy
/-- The pairs' edges, by names. -/
def Edge (P : List S25) (a b : ByteArray) : Prop := ∃ p ∈ P, p.f1 ≠ (⟨#[]⟩ : ByteArray) ∧ p.f0 = a ∧ p.f1 = b
theorem edge_iff (P : List S25) (T : List ByteArray) (i j : Nat) : (∃ p ∈ P, p.f1 ≠ (⟨#[]⟩ : ByteArray) ∧ at_ T p.f0 = i ∧ at_ T p.f1 = j) ↔ ∃ a b, Edge P a b ∧ at_ T a = i ∧ at_ T b = j := by
  constructor
  · rintro ⟨p, hp, h1, h2, h3⟩; exact ⟨p.f0, p.f1, ⟨p, hp, h1, rfl, rfl⟩, h2, h3⟩
  · rintro ⟨a, b, ⟨p, hp, h1, rfl, rfl⟩, h2, h3⟩; exact ⟨p, hp, h1, h2, h3⟩
theorem pair_inv {P : List S25} {T : List ByteArray} {U : List Nat} (h : Inv P T U) (p : S25) (h0 : (pairP T U p).1 = 0) : Inv (P ++ [p]) (pairP T U p).2.1 (pairP T U p).2.2 := by
  have hE : ∀ a b, Edge P a b → a ∈ T ∧ b ∈ T := by
    rintro a b ⟨q, hq, h1, rfl, rfl⟩
    exact ⟨(h.mem _).2 ⟨q, hq, .inl rfl⟩, (h.mem _).2 ⟨q, hq, .inr ⟨rfl, h1⟩⟩⟩
  have he : ∀ i j, M U i j ↔ (i < T.length ∧ i = j) ∨ ∃ a b, Edge P a b ∧ at_ T a = i ∧ at_ T b = j := fun i j => by rw [← edge_iff]; exact h.edge i j
  have okp := pairP_ok (p := p) h.le h.ok
  unfold pairP at h0 okp ⊢
  split at h0
  · rename_i hid
    rw [if_pos hid] at okp ⊢
    cases ha : addP T U p.f0 with
    | none => rw [ha] at h0; simp at h0
    | some a =>
      obtain ⟨ai, aT, aU⟩ := a
      obtain ⟨q1, q2, q3, q4⟩ := addP_ok h.le h.ok ha
      obtain ⟨z1, z2, z3, z4⟩ := add_inv h.nd h.le h.ok hE he ha
      rw [ha] at h0 okp
      dsimp only at h0 okp q1 q2 q3 q4 z1 z2 z3 z4 ⊢
      by_cases h1 : p.f1 = (⟨#[]⟩ : ByteArray)
      · rw [if_pos h1]
        refine ⟨z1, q2, q3, fun x => ?_, fun i j => ?_⟩
        · dsimp only
          rw [z2 x, h.mem x]
          constructor
          · rintro (⟨q, hq, z⟩ | z)
            · exact ⟨q, by simp [hq], z⟩
            · exact ⟨p, by simp, .inl z.symm⟩
          · rintro ⟨q, hq, z⟩
            rw [List.mem_append, List.mem_singleton] at hq
            rcases hq with hq | hq
            · exact .inl ⟨q, hq, z⟩
            · subst hq
              rcases z with z | z
              · exact .inr z.symm
              · exact absurd h1 z.2
        · dsimp only
          rw [z4 i j, ← edge_iff]
          have : (∃ q ∈ P ++ [p], q.f1 ≠ (⟨#[]⟩ : ByteArray) ∧ at_ aT q.f0 = i ∧ at_ aT q.f1 = j) ↔ ∃ q ∈ P, q.f1 ≠ (⟨#[]⟩ : ByteArray) ∧ at_ aT q.f0 = i ∧ at_ aT q.f1 = j := by
            constructor
            · rintro ⟨q, hq, z⟩
              rw [List.mem_append, List.mem_singleton] at hq
              rcases hq with hq | hq
              · exact ⟨q, hq, z⟩
              · subst hq; exact absurd h1 z.1
            · rintro ⟨q, hq, z⟩; exact ⟨q, by simp [hq], z⟩
          rw [this]
      · rw [if_neg h1] at h0 okp ⊢
        have hE2 : ∀ a b, Edge P a b → a ∈ aT ∧ b ∈ aT := fun a b z => ⟨(z2 a).2 (.inl (hE a b z).1), (z2 b).2 (.inl (hE a b z).2)⟩
        cases hb : addP aT aU p.f1 with
        | none => rw [hb] at h0; simp at h0
        | some b =>
          obtain ⟨bi, bT, bU⟩ := b
          obtain ⟨y1, y2, y3, y4⟩ := addP_ok q2 q3 hb
          obtain ⟨x1, x2, x3, x4⟩ := add_inv z1 q2 q3 hE2 z4 hb
          have xa := addP_at hb
          rw [hb] at okp
          dsimp only at okp y1 y2 y3 y4 x1 x2 x3 x4 xa ⊢
          have e0 : at_ bT p.f0 = ai := by rw [xa p.f0 ((z2 _).2 (.inr rfl)), z3]
          refine ⟨x1, y2, okp.2, fun x => ?_, fun i j => ?_⟩
          · rw [x2 x, z2 x, h.mem x]
            constructor
            · rintro ((⟨q, hq, z⟩ | z) | z)
              · exact ⟨q, by simp [hq], z⟩
              · exact ⟨p, by simp, .inl z.symm⟩
              · exact ⟨p, by simp, .inr ⟨z.symm, h1⟩⟩
            · rintro ⟨q, hq, z⟩
              rw [List.mem_append, List.mem_singleton] at hq
              rcases hq with hq | hq
              · exact .inl (.inl ⟨q, hq, z⟩)
              · subst hq
                rcases z with z | z
                · exact .inl (.inr z.symm)
                · exact .inr z.1.symm
          · have : (∃ q ∈ P ++ [p], q.f1 ≠ (⟨#[]⟩ : ByteArray) ∧ at_ bT q.f0 = i ∧ at_ bT q.f1 = j) ↔ (∃ q ∈ P, q.f1 ≠ (⟨#[]⟩ : ByteArray) ∧ at_ bT q.f0 = i ∧ at_ bT q.f1 = j) ∨ (i = ai ∧ j = bi) := by
              constructor
              · rintro ⟨q, hq, z⟩
                rw [List.mem_append, List.mem_singleton] at hq
                rcases hq with hq | hq
                · exact .inl ⟨q, hq, z⟩
                · subst hq; exact .inr ⟨by rw [← z.2.1, e0], by rw [← z.2.2, x3]⟩
              · rintro (⟨q, hq, z⟩ | ⟨rfl, rfl⟩)
                · exact ⟨q, by simp [hq], z⟩
                · exact ⟨p, by simp, h1, e0, x3.symm⟩
            rw [this, edge_iff, ← or_assoc, ← x4 i j]
            unfold M
            rw [R_set bU ai _ (by rw [y3.1]; omega) i]
            by_cases e : i = ai
            · subst e
              rw [if_pos rfl, Nat.testBit_or, Bool.or_eq_true, pow_bit, decide_eq_true_iff]
              constructor
              · rintro (z | z)
                · exact .inl z
                · exact .inr ⟨rfl, z.symm⟩
              · rintro (z | z)
                · exact .inl z
                · exact .inr z.2.symm
            · rw [if_neg e]
              constructor
              · exact .inl
              · rintro (z | z)
                · exact z
                · exact absurd z.1 e
  · simp at h0
theorem inv_nil : Inv [] [] Z64 := ⟨by simp, by simp, Z_ok, fun x => by simp, fun i j => by simp [Z_M]⟩
theorem build_inv (L : List S25) : ∀ (P : List S25) (i : Nat) (T : List ByteArray) (U : List Nat), Inv P T U → (build L i T U).1 = 0 → Inv (P ++ L) (build L i T U).2.2.1 (build L i T U).2.2.2 := by
  induction L with
  | nil => intro P i T U h _; rw [List.append_nil]; exact h
  | cons p L ih =>
    intro P i T U h h0
    rw [build] at h0 ⊢
    by_cases e : (pairP T U p).1 = 0
    · rw [if_pos e] at h0 ⊢
      have := ih (P ++ [p]) (i + 1) _ _ (pair_inv h p e) h0
      simpa using this
    · rw [if_neg e] at h0; exact absurd h0 e
theorem inv_bd {P : List S25} {T : List ByteArray} {U : List Nat} (h : Inv P T U) (i j : Nat) (m : M U i j) : i < T.length ∧ j < T.length := by
  rcases (h.edge i j).1 m with z | ⟨p, hp, h1, h2, h3⟩
  · exact ⟨z.1, by rw [← z.2]; exact z.1⟩
  · subst h2; subst h3
    exact ⟨at_lt T _ ((h.mem _).2 ⟨p, hp, .inl rfl⟩), at_lt T _ ((h.mem _).2 ⟨p, hp, .inr ⟨rfl, h1⟩⟩)⟩
theorem inv_closed {P : List S25} {T : List ByteArray} {U : List Nat} (h : Inv P T U) : Cl T.length U (allRows T.length T.length 0 U) T.length :=
  closed h.le h.ok (fun i hi => (h.edge i i).2 (.inl ⟨hi, rfl⟩)) (inv_bd h)
theorem new_l1 (L : List S25) (hL : L.length ≤ 1000000) (d : Nat) : ∀ (k i : Nat) (T : List ByteArray) (U : List Nat), Inv (L.take i) T U → i ≤ L.length → L.length - i = d → 10000 + L.length + d < k →
    order_New.l1 k L (i : Int) T (idx T) (N U) = some (match build (L.drop i) i T U with
      | (e, i, T, U) => if e = 0 then (match turned T (allRows T.length T.length 0 U) L 0 with | some j => (none, (j : Int), 16) | none => (some (ordOf T U), 0, 0)) else (none, (i : Int), e)) := by
  induction d with
  | zero =>
    intro k i T U h hi hd hk
    obtain ⟨k, rfl⟩ : ∃ n, k = n + 1 := ⟨k - 1, by omega⟩
    have hT := h.le
    have hc := inv_closed h
    rw [order_New.l1, if_neg (by omega), List.drop_eq_nil_of_le (by omega), ← Z_N, close_tells T hT _ U Z64 h.ok Z_ok k (by omega), Option.bind_some, build]
    dsimp only
    rw [if_pos rfl]
    have hm : ∀ p ∈ L, p.f0 ∈ T ∧ (p.f1 ≠ (⟨#[]⟩ : ByteArray) → p.f1 ∈ T) := by
      intro p hp
      have hp' : p ∈ L.take i := by rw [List.take_of_length_le (by omega)]; exact hp
      exact ⟨(h.mem _).2 ⟨p, hp', .inl rfl⟩, fun z => (h.mem _).2 ⟨p, hp', .inr ⟨rfl, z⟩⟩⟩
    have := new_l0 T hT (allRows T.length T.length 0 U) hc.ok (N (allDown (allRows T.length T.length 0 U) T.length T.length 0 Z64)) L hL hm hc.bd L.length k 0 (by omega) (by omega) (by omega)
    rw [List.drop_zero] at this
    exact this
  | succ d ih =>
    intro k i T U h hi hd hk
    obtain ⟨k, rfl⟩ : ∃ n, k = n + 1 := ⟨k - 1, by omega⟩
    rw [order_New.l1, if_pos (by omega), if_pos (by omega), rd25 L i (by omega), ← Z_N, pair_tells k (by omega) T h.le U h.ok _ L[i], Option.bind_some, List.drop_eq_getElem_cons (by omega), build]
    dsimp only
    by_cases e : (pairP T U L[i]).1 = 0
    · rw [if_pos e, if_pos e, wrap64_id (by omega) (by omega), show (i : Int) + 1 = ((i + 1 : Nat) : Int) by omega]
      refine ih k (i + 1) _ _ ?_ (by omega) (by omega) (by omega)
      have := pair_inv h L[i] e
      rwa [List.take_append_getElem (by omega)] at this
    · rw [if_neg e, if_neg e]
      dsimp only
      rw [if_neg e]
theorem new_tells (k : Nat) (L : List S25) (hL : L.length ≤ 1000000) (hk : 10000 + 2 * L.length < k) : order_New.f k L = some (newP L) := by
  have := new_l1 L hL L.length k 0 [] Z64 inv_nil (by omega) (by omega) (by omega)
  rw [List.drop_zero] at this
  unfold order_New.f
  rw [← Z_N]
  exact this

theorem awake_at (k : Nat) : blazonlaw13_awake.f (k + 100) = some true := by kernel_rfl
theorem awake_tells (k : Nat) (h : 100 ≤ k) : blazonlaw13_awake.f k = some true := by
  obtain ⟨k, rfl⟩ : ∃ n, k = n + 100 := ⟨k - 100, by omega⟩
  exact awake_at k

theorem nodup_len {T : List ByteArray} : ∀ {W : List ByteArray}, T.Nodup → (∀ x ∈ T, x ∈ W) → T.length ≤ W.length := by
  induction T with
  | nil => intro W _ _; simp
  | cons t T ih =>
    intro W hn hs
    have hc := List.nodup_cons.1 hn
    have h1 := ih (W := W.filter fun y => decide (y ≠ t)) hc.2 (fun x hx => by
      rw [List.mem_filter]
      refine ⟨hs x (List.mem_cons_of_mem _ hx), ?_⟩
      rw [decide_eq_true_iff]
      exact fun e => hc.1 (e ▸ hx))
    have h2 : (W.filter fun y => decide (y ≠ t)).length < W.length := by
      rw [List.length_filter_lt_length_iff_exists]
      exact ⟨t, hs t (List.mem_cons_self ..), by simp⟩
    rw [List.length_cons]
    omega
theorem pair_code (T : List ByteArray) (U : List Nat) (p : S25) : (pairP T U p).1 = 0 ∨ (pairP T U p).1 = 1 ∨ (pairP T U p).1 = 8 := by
  unfold pairP
  split
  · cases addP T U p.f0 with
    | none => exact .inr (.inr rfl)
    | some a =>
      dsimp only
      split
      · exact .inl rfl
      · cases addP a.2.1 a.2.2 p.f1 with
        | none => exact .inr (.inr rfl)
        | some b => exact .inl rfl
  · exact .inr (.inl rfl)
theorem build_code (L : List S25) : ∀ (i : Nat) (T : List ByteArray) (U : List Nat), (build L i T U).1 = 0 ∨ (build L i T U).1 = 1 ∨ (build L i T U).1 = 8 := by
  induction L with
  | nil => intro i T U; exact .inl rfl
  | cons p L ih =>
    intro i T U
    rw [build]
    split
    · exact ih _ _ _
    · exact pair_code T U p
theorem pair_id (T : List ByteArray) (U : List Nat) (p : S25) (h : (pairP T U p).1 = 0) : identB p.f0 = true ∧ (p.f1 = (⟨#[]⟩ : ByteArray) ∨ identB p.f1 = true) := by
  unfold pairP at h
  split at h
  · rename_i hid; exact hid
  · simp at h
theorem build_id (L : List S25) : ∀ (i : Nat) (T : List ByteArray) (U : List Nat), (build L i T U).1 = 0 → ∀ p ∈ L, identB p.f0 = true ∧ (p.f1 = (⟨#[]⟩ : ByteArray) ∨ identB p.f1 = true) := by
  induction L with
  | nil => intro i T U _ p hp; simp at hp
  | cons q L ih =>
    intro i T U h p hp
    rw [build] at h
    by_cases e : (pairP T U q).1 = 0
    · rw [if_pos e] at h
      rcases List.mem_cons.1 hp with z | z
      · subst z; exact pair_id T U p e
      · exact ih _ _ _ h p z
    · rw [if_neg e] at h; exact absurd h e
theorem addP_some {T W : List ByteArray} {U : List Nat} {x : ByteArray} (hW : W.length ≤ 64) (nd : T.Nodup) (hs : ∀ y ∈ T, y ∈ W) (hx : x ∈ W) : ∃ r, addP T U x = some r ∧ r.2.1.Nodup ∧ ∀ y ∈ r.2.1, y ∈ W := by
  unfold addP
  by_cases h : x ∈ T
  · rw [if_pos h]; exact ⟨_, rfl, nd, hs⟩
  · have nd2 : (T ++ [x]).Nodup := by
      rw [List.nodup_append]
      exact ⟨nd, by simp, fun a ha b hb e => by simp at hb; subst hb; exact h (e ▸ ha)⟩
    have hs2 : ∀ y ∈ T ++ [x], y ∈ W := fun y hy => by
      rw [List.mem_append, List.mem_singleton] at hy
      rcases hy with z | z
      · exact hs y z
      · exact z ▸ hx
    have := nodup_len nd2 hs2
    rw [List.length_append, List.length_singleton] at this
    rw [if_neg h, if_neg (by omega)]
    exact ⟨_, rfl, nd2, hs2⟩
theorem build_succ {W : List ByteArray} (hW : W.length ≤ 64) (L : List S25) : ∀ (i : Nat) (T : List ByteArray) (U : List Nat), T.Nodup → (∀ y ∈ T, y ∈ W) → (∀ p ∈ L, (identB p.f0 = true ∧ (p.f1 = (⟨#[]⟩ : ByteArray) ∨ identB p.f1 = true)) ∧ p.f0 ∈ W ∧ (p.f1 ≠ (⟨#[]⟩ : ByteArray) → p.f1 ∈ W)) → (build L i T U).1 = 0 := by
  induction L with
  | nil => intro i T U _ _ _; rfl
  | cons p L ih =>
    intro i T U nd hs hL
    have hp := hL p (List.mem_cons_self ..)
    have nx : ∀ T' U' i, T'.Nodup → (∀ y ∈ T', y ∈ W) → (build L i T' U').1 = 0 := fun T' U' i a b => ih i T' U' a b (fun q hq => hL q (List.mem_cons_of_mem _ hq))
    obtain ⟨a, ha, na, sa⟩ := addP_some (U := U) hW nd hs hp.2.1
    have hpair : (pairP T U p).1 = 0 ∧ (pairP T U p).2.1.Nodup ∧ ∀ y ∈ (pairP T U p).2.1, y ∈ W := by
      unfold pairP
      rw [if_pos hp.1, ha]
      dsimp only
      by_cases h1 : p.f1 = (⟨#[]⟩ : ByteArray)
      · rw [if_pos h1]; exact ⟨rfl, na, sa⟩
      · obtain ⟨b, hb, nb, sb⟩ := addP_some (U := a.2.2) hW na sa (hp.2.2 h1)
        rw [if_neg h1, hb]
        exact ⟨rfl, nb, sb⟩
    rw [build, if_pos hpair.1]
    exact nx _ _ _ hpair.2.1 hpair.2.2
/-- An order's rows. -/
def cl (T : List ByteArray) (U : List Nat) : List Nat := allRows T.length T.length 0 U
theorem nm_at (T : List ByteArray) (x : ByteArray) (h : x ∈ T) : T.getD (at_ T x) (⟨#[]⟩ : ByteArray) = x := by
  have hl := at_lt T x h
  rw [List.getD_eq_getElem?_getD, List.getElem?_eq_getElem hl]
  exact at_get T x h
theorem flip {P Q : List S25} {T T' : List ByteArray} {U U' : List Nat} (h : Inv P T U) (h' : Inv Q T' U') (hs : ∀ x ∈ T, x ∈ T') (he : ∀ a b, Edge P a b → Edge Q b a) {a b : ByteArray} (ha : a ∈ T) (hb : b ∈ T)
    (m : M (cl T U) (at_ T a) (at_ T b)) : M (cl T' U') (at_ T' b) (at_ T' a) := by
  have hc := inv_closed h
  have hc' := inv_closed h'
  have key := hc.le (fun i j => M (cl T' U') (at_ T' (T.getD j (⟨#[]⟩ : ByteArray))) (at_ T' (T.getD i (⟨#[]⟩ : ByteArray)))) (fun x y z u v => trans_ hc' v u) (fun i j z => by
    rcases (h.edge i j).1 z with z | ⟨p, hp, h1, h2, h3⟩
    · obtain ⟨z1, rfl⟩ := z
      have : T.getD i (⟨#[]⟩ : ByteArray) ∈ T' := by
        apply hs
        rw [List.getD_eq_getElem?_getD, List.getElem?_eq_getElem z1]
        exact List.getElem_mem _
      exact hc'.rf _ (at_lt T' _ this)
    · subst h2; subst h3
      rw [nm_at T p.f1 ((h.mem _).2 ⟨p, hp, .inr ⟨rfl, h1⟩⟩), nm_at T p.f0 ((h.mem _).2 ⟨p, hp, .inl rfl⟩)]
      obtain ⟨q, hq, q1, q2, q3⟩ := he p.f0 p.f1 ⟨p, hp, h1, rfl, rfl⟩
      exact hc'.up _ _ ((h'.edge _ _).2 (.inr ⟨q, hq, q1, by rw [q2], by rw [q3]⟩))) _ _ m
  rw [nm_at T a ha, nm_at T b hb] at key
  exact key
theorem great_l0 (L : List S25) (m : Int) (hm : m ≤ 1000) (d : Nat) : ∀ (k i : Nat), i ≤ L.length → L.length - i = d → L.length ≤ 10000000000000 → 3 * d + 2 ≤ k → ∃ b, blazonref13_Great.l0 k m L (i : Int) = some b ∧ (b = false → (L.length : Int) ≤ m) := by
  induction d with
  | zero =>
    intro k i hi hd hL hk
    obtain ⟨k, rfl⟩ : ∃ n, k = n + 2 := ⟨k - 2, by omega⟩
    refine ⟨decide ((L.length : Int) > m), ?_, fun h => by simpa using h⟩
    rw [blazonref13_Great.l0, if_neg (by omega), blazonref13_Great.j1, if_neg (by decide)]
  | succ d ih =>
    intro k i hi hd hL hk
    obtain ⟨k, rfl⟩ : ∃ n, k = n + 3 := ⟨k - 3, by omega⟩
    rw [blazonref13_Great.l0, if_pos (by omega), blazonref13_Great.j1]
    by_cases h : (i : Int) < m
    · have fin : ∀ b, ∃ r, blazonref13_Great.j0 (k + 1) m L (i : Int) b = some r ∧ (r = false → (L.length : Int) ≤ m) := by
        intro b
        rw [blazonref13_Great.j0]
        cases b with
        | true => exact ⟨true, by rw [if_pos rfl], fun h => by cases h⟩
        | false =>
          rw [if_neg (by decide), wrap64_id (by omega) (by omega), show (i : Int) + 1 = ((i + 1 : Nat) : Int) by omega]
          exact ih k (i + 1) (by omega) (by omega) hL (by omega)
      rw [if_pos (by simpa using h), if_pos (by omega), if_pos (by omega)]
      split
      · exact fin _
      · exact fin _
    · rw [if_neg (by simpa using h)]
      exact ⟨decide ((L.length : Int) > m), rfl, fun h => by simpa using h⟩
theorem great_tells (k : Nat) (L : List S25) (m : Int) (hm : m ≤ 1000) (hL : L.length ≤ 10000000000000) (hk : 3 * L.length + 2 ≤ k) : ∃ b, blazonref13_Great.f k L m = some b ∧ (b = false → (L.length : Int) ≤ m) :=
  great_l0 L m hm L.length k 0 (by omega) (by omega) hL hk
theorem lim40 {n : Nat} (h : n * 40 ≤ 140737488351232) : n ≤ 3518437208781 := by omega
/-- An order that is told, and one that isn't. -/
theorem newP_bad {L : List S25} (h : (build L 0 [] Z64).1 ≠ 0) : (newP L).1 = none ∧ (newP L).2.2 ≠ 0 ∧ (newP L).2.2 ≠ 16 := by
  have hc := build_code L 0 [] Z64
  unfold newP
  generalize build L 0 [] Z64 = B at *
  obtain ⟨e, i, T, U⟩ := B
  dsimp only at h hc ⊢
  rw [if_neg h]
  dsimp only
  refine ⟨rfl, h, ?_⟩
  rcases hc with z | z | z <;> rw [z] <;> decide
theorem newP_good {L : List S25} (h : (build L 0 [] Z64).1 = 0) : ∃ T U, Inv L T U ∧ newP L = (match turned T (cl T U) L 0 with | some j => (none, (j : Int), 16) | none => (some (ordOf T U), 0, 0)) := by
  have hi := build_inv L [] 0 [] Z64 inv_nil h
  rw [List.nil_append] at hi
  refine ⟨_, _, hi, ?_⟩
  unfold newP cl
  generalize build L 0 [] Z64 = B at *
  obtain ⟨e, i, T, U⟩ := B
  dsimp only at h ⊢
  rw [if_pos h]

def tp (p : S25) : S25 := if p.f1 = (⟨#[]⟩ : ByteArray) then p else ⟨p.f1, p.f0, 0⟩
theorem tp_edge {L : List S25} {a b : ByteArray} (h0 : ∀ p ∈ L, p.f0 ≠ (⟨#[]⟩ : ByteArray)) (h : Edge L a b) : Edge (L.map tp) b a := by
  obtain ⟨p, hp, h1, rfl, rfl⟩ := h
  refine ⟨tp p, List.mem_map.2 ⟨p, hp, rfl⟩, ?_⟩
  unfold tp
  rw [if_neg h1]
  exact ⟨h0 p hp, rfl, rfl⟩
theorem tp_edge' {L : List S25} {a b : ByteArray} (h : Edge (L.map tp) a b) : Edge L b a := by
  obtain ⟨q, hq, h1, rfl, rfl⟩ := h
  obtain ⟨p, hp, rfl⟩ := List.mem_map.1 hq
  unfold tp at h1 ⊢
  by_cases e : p.f1 = (⟨#[]⟩ : ByteArray)
  · rw [if_pos e] at h1; exact absurd e h1
  · rw [if_neg e]; exact ⟨p, hp, e, rfl, rfl⟩
theorem tp_mem {L : List S25} (h0 : ∀ p ∈ L, p.f0 ≠ (⟨#[]⟩ : ByteArray)) (x : ByteArray) : (∃ p ∈ L, p.f0 = x ∨ (p.f1 = x ∧ p.f1 ≠ (⟨#[]⟩ : ByteArray))) ↔ ∃ p ∈ L.map tp, p.f0 = x ∨ (p.f1 = x ∧ p.f1 ≠ (⟨#[]⟩ : ByteArray)) := by
  constructor
  · rintro ⟨p, hp, h⟩
    refine ⟨tp p, List.mem_map.2 ⟨p, hp, rfl⟩, ?_⟩
    unfold tp
    by_cases e : p.f1 = (⟨#[]⟩ : ByteArray)
    · rw [if_pos e]; exact h
    · rw [if_neg e]
      rcases h with h | h
      · exact .inr ⟨h, h0 p hp⟩
      · exact .inl h.1
  · rintro ⟨q, hq, h⟩
    obtain ⟨p, hp, rfl⟩ := List.mem_map.1 hq
    refine ⟨p, hp, ?_⟩
    unfold tp at h
    by_cases e : p.f1 = (⟨#[]⟩ : ByteArray)
    · rw [if_pos e] at h; exact h
    · rw [if_neg e] at h
      rcases h with h | h
      · exact .inr ⟨h, e⟩
      · exact .inl h.1
theorem tp_id {L : List S25} (h0 : ∀ p ∈ L, p.f0 ≠ (⟨#[]⟩ : ByteArray)) : (∀ p ∈ L, identB p.f0 = true ∧ (p.f1 = (⟨#[]⟩ : ByteArray) ∨ identB p.f1 = true)) ↔ ∀ p ∈ L.map tp, identB p.f0 = true ∧ (p.f1 = (⟨#[]⟩ : ByteArray) ∨ identB p.f1 = true) := by
  constructor
  · intro h q hq
    obtain ⟨p, hp, rfl⟩ := List.mem_map.1 hq
    have := h p hp
    unfold tp
    by_cases e : p.f1 = (⟨#[]⟩ : ByteArray)
    · rw [if_pos e]; exact this
    · rw [if_neg e]
      exact ⟨by rcases this.2 with z | z; exact absurd z e; exact z, .inr this.1⟩
  · intro h p hp
    have := h (tp p) (List.mem_map.2 ⟨p, hp, rfl⟩)
    unfold tp at this
    by_cases e : p.f1 = (⟨#[]⟩ : ByteArray)
    · rw [if_pos e] at this; exact this
    · rw [if_neg e] at this
      refine ⟨?_, .inr this.1⟩
      rcases this.2 with z | z
      · exact absurd z (h0 p hp)
      · exact z
theorem inv_mem {P : List S25} {T : List ByteArray} {U : List Nat} (h : Inv P T U) {p : S25} (hp : p ∈ P) : p.f0 ∈ T ∧ (p.f1 ≠ (⟨#[]⟩ : ByteArray) → p.f1 ∈ T) :=
  ⟨(h.mem _).2 ⟨p, hp, .inl rfl⟩, fun z => (h.mem _).2 ⟨p, hp, .inr ⟨rfl, z⟩⟩⟩
/-- Pairs that are one way about, and the other. -/
theorem tp_build {L : List S25} (h0 : ∀ p ∈ L, p.f0 ≠ (⟨#[]⟩ : ByteArray)) : (build L 0 [] Z64).1 = 0 ↔ (build (L.map tp) 0 [] Z64).1 = 0 := by
  constructor
  · intro h
    have hid := (tp_id h0).1 (build_id L 0 [] Z64 h)
    have hi := build_inv L [] 0 [] Z64 inv_nil h
    rw [List.nil_append] at hi
    refine build_succ hi.le _ 0 [] Z64 (by simp) (by simp) (fun q hq => ⟨hid q hq, ?_, fun z => ?_⟩)
    · exact (hi.mem _).2 ((tp_mem h0 _).2 ⟨q, hq, .inl rfl⟩)
    · exact (hi.mem _).2 ((tp_mem h0 _).2 ⟨q, hq, .inr ⟨rfl, z⟩⟩)
  · intro h
    have hid := (tp_id h0).2 (build_id _ 0 [] Z64 h)
    have hi := build_inv _ [] 0 [] Z64 inv_nil h
    rw [List.nil_append] at hi
    refine build_succ hi.le _ 0 [] Z64 (by simp) (by simp) (fun q hq => ⟨hid q hq, ?_, fun z => ?_⟩)
    · exact (hi.mem _).2 ((tp_mem h0 _).1 ⟨q, hq, .inl rfl⟩)
    · exact (hi.mem _).2 ((tp_mem h0 _).1 ⟨q, hq, .inr ⟨rfl, z⟩⟩)
theorem turned_same {T T' : List ByteArray} {V V' : List Nat} : ∀ (L : List S25) (i : Nat), (∀ p ∈ L, p.f0 ≠ (⟨#[]⟩ : ByteArray)) → (∀ p ∈ L, p.f1 ≠ (⟨#[]⟩ : ByteArray) → (M V (at_ T p.f1) (at_ T p.f0) ↔ M V' (at_ T' p.f0) (at_ T' p.f1))) → turned T V L i = turned T' V' (L.map tp) i
  | [], _, _, _ => rfl
  | p :: L, i, h0, h => by
    have ih := turned_same L (i + 1) (fun q hq => h0 q (List.mem_cons_of_mem _ hq)) (fun q hq => h q (List.mem_cons_of_mem _ hq))
    rw [List.map_cons, turned, turned, ih]
    unfold tp
    by_cases e : p.f1 = (⟨#[]⟩ : ByteArray)
    · rw [if_pos e, if_pos e, if_pos e]
    · rw [if_neg e, if_neg e]
      dsimp only
      rw [if_neg (h0 p (List.mem_cons_self ..))]
      have := h p (List.mem_cons_self ..) e
      by_cases m : M V (at_ T p.f1) (at_ T p.f0)
      · rw [if_pos m, if_pos (this.1 m)]
      · rw [if_neg m, if_neg (fun z => m (this.2 z))]
theorem name_tells (T : List ByteArray) (o : S47) (ho : o.f0 = T) (a : Nat) (h : a < T.length) : order_Order_Name.f (some o) (a : Int) = some (T.getD a (⟨#[]⟩ : ByteArray)) := by
  subst ho
  unfold order_Order_Name.f
  rw [in_tells, Option.bind_some, if_pos (decide_eq_true h)]
  dsimp only [onOpt]
  rw [if_pos (by omega), if_pos (by omega)]
  rfl
theorem find_tells (T : List ByteArray) (U : List Nat) (x : ByteArray) (h : x ∈ T) : order_Order_Find.f (some (ordOf T U)) x = some (((at_ T x : Nat) : Int), true) := by
  have h1 := idx_has T x 0
  have e : idxFrom T 0 = idx T := rfl
  rw [e] at h1
  unfold order_Order_Find.f
  dsimp only [onOpt, ordOf]
  rw [at_bound, if_pos h, h1, decide_eq_true h]
theorem most_ord {P : List S25} {T : List ByteArray} {U : List Nat} (h : Inv P T U) (a b : Nat) : order_Order_Most.f (some (ordOf T U)) (a : Int) (b : Int) = some (decide (M (cl T U) a b)) := by
  have hc := inv_closed h
  have := most_tells T h.le (idx T) (cl T U) hc.ok (N (allDown (allRows T.length T.length 0 U) T.length T.length 0 Z64)) a b
  have e : ordOf T U = ⟨T, idx T, N (cl T U), N (allDown (allRows T.length T.length 0 U) T.length T.length 0 Z64)⟩ := rfl
  rw [e, this]
  congr 1
  rw [Bool.eq_iff_iff, decide_eq_true_iff, decide_eq_true_iff]
  exact ⟨fun z => z.2.2, fun z => ⟨(hc.bd _ _ z).1, (hc.bd _ _ z).2, z⟩⟩
section
variable {P Q : List S25} {T T' : List ByteArray} {U U' : List Nat}
theorem cmp_l0 (h : Inv P T U) (h' : Inv Q T' U') (hs : ∀ x, x ∈ T ↔ x ∈ T') (hM : ∀ a b, a ∈ T → b ∈ T → (M (cl T U) (at_ T a) (at_ T b) ↔ M (cl T' U') (at_ T' b) (at_ T' a))) (a : Nat) (ha : a < T.length) (f : Nat) (d : Nat) : ∀ (b : Nat), b + d = T.length →
    blazonlaw13_OrderTurned.l0 (f + d + 1) (some (ordOf T U)) (some (ordOf T' U')) (a : Int) (b : Int) = blazonlaw13_OrderTurned.l1 f (some (ordOf T U)) (some (ordOf T' U')) ((a + 1 : Nat) : Int) := by
  have hT := h.le
  have nd := h.nd
  induction d with
  | zero =>
    intro b hb
    rw [blazonlaw13_OrderTurned.l0, len_tells, Option.bind_some, if_neg (by show ¬ ((b : Int) < (T.length : Int)); omega), wrap64_id (by omega) (by omega)]
    rfl
  | succ d ih =>
    intro b hb
    have hb' : b < T.length := by omega
    have na : T.getD a (⟨#[]⟩ : ByteArray) = T[a] := by rw [List.getD_eq_getElem?_getD, List.getElem?_eq_getElem ha]; rfl
    have nb : T.getD b (⟨#[]⟩ : ByteArray) = T[b] := by rw [List.getD_eq_getElem?_getD, List.getElem?_eq_getElem hb']; rfl
    have ma : T[a] ∈ T := List.getElem_mem _
    have mb : T[b] ∈ T := List.getElem_mem _
    have hm := hM T[a] T[b] ma mb
    rw [at_self T nd a ha, at_self T nd b hb'] at hm
    rw [show f + (d + 1) + 1 = (f + d + 1) + 1 by omega, blazonlaw13_OrderTurned.l0, len_tells, Option.bind_some, if_pos (by show (b : Int) < (T.length : Int); omega), name_tells T _ rfl a ha, Option.bind_some, na, find_tells T' U' _ ((hs _).1 ma), Option.bind_some,
      name_tells T _ rfl b hb', Option.bind_some, nb, find_tells T' U' _ ((hs _).1 mb), Option.bind_some, most_ord h, Option.bind_some, most_ord h', Option.bind_some, if_pos (by rw [Bool.eq_iff_iff, decide_eq_true_iff, decide_eq_true_iff]; exact hm), wrap64_id (by omega) (by omega), show (b : Int) + 1 = ((b + 1 : Nat) : Int) by omega]
    exact ih (b + 1) (by omega)
theorem cmp_l1 (h : Inv P T U) (h' : Inv Q T' U') (hs : ∀ x, x ∈ T ↔ x ∈ T') (hM : ∀ a b, a ∈ T → b ∈ T → (M (cl T U) (at_ T a) (at_ T b) ↔ M (cl T' U') (at_ T' b) (at_ T' a))) (d : Nat) : ∀ (k a : Nat), a + d = T.length → 200 + d * 70 ≤ k →
    blazonlaw13_OrderTurned.l1 k (some (ordOf T U)) (some (ordOf T' U')) (a : Int) = some true := by
  have hT := h.le
  induction d with
  | zero =>
    intro k a ha hk
    obtain ⟨k, rfl⟩ : ∃ n, k = n + 1 := ⟨k - 1, by omega⟩
    have e1 : T.length ≤ T'.length := nodup_len h.nd (fun x hx => (hs x).1 hx)
    have e2 : T'.length ≤ T.length := nodup_len h'.nd (fun x hx => (hs x).2 hx)
    rw [blazonlaw13_OrderTurned.l1, len_tells, Option.bind_some, if_neg (by show ¬ ((a : Int) < (T.length : Int)); omega), Option.bind_some, len_tells, Option.bind_some, if_pos (by show (T.length : Int) = (T'.length : Int); omega), awake_tells k (by omega)]
    rfl
  | succ d ih =>
    intro k a ha hk
    obtain ⟨k, rfl⟩ : ∃ n, k = n + T.length + 1 + 1 := ⟨k - 2 - T.length, by omega⟩
    have := cmp_l0 h h' hs hM a (by omega) k T.length 0 (by omega)
    rw [show ((0 : Nat) : Int) = 0 from rfl] at this
    rw [blazonlaw13_OrderTurned.l1, len_tells, Option.bind_some, if_pos (by show (a : Int) < (T.length : Int); omega), this]
    exact ih k (a + 1) (by omega) (by omega)
end
theorem bad_l2 (L : List S25) (hL : L.length ≤ 1000) (hb : ∃ p ∈ L, p.f0 = (⟨#[]⟩ : ByteArray)) (d : Nat) : ∀ (k i : Nat), i + d = L.length → 200 + d ≤ k → (∃ p ∈ L.drop i, p.f0 = (⟨#[]⟩ : ByteArray)) → blazonlaw13_OrderTurned.l2 k L (i : Int) = some true := by
  induction d with
  | zero =>
    intro k i hi hk h
    rw [List.drop_eq_nil_of_le (by omega)] at h
    obtain ⟨p, hp, _⟩ := h
    simp at hp
  | succ d ih =>
    intro k i hi hk h
    obtain ⟨k, rfl⟩ : ∃ n, k = n + 1 := ⟨k - 1, by omega⟩
    rw [blazonlaw13_OrderTurned.l2, if_pos (by omega), if_pos (by omega), rd25 L i (by omega)]
    by_cases e : L[i].f0 = (⟨#[]⟩ : ByteArray)
    · rw [if_pos e, awake_tells k (by omega)]; rfl
    · rw [if_neg e, wrap64_id (by omega) (by omega), show (i : Int) + 1 = ((i + 1 : Nat) : Int) by omega]
      refine ih k (i + 1) (by omega) (by omega) ?_
      rw [List.drop_eq_getElem_cons (by omega)] at h
      obtain ⟨p, hp, z⟩ := h
      rcases List.mem_cons.1 hp with y | y
      · subst y; exact absurd z e
      · exact ⟨p, y, z⟩
theorem turn_l3 (L : List S25) (hL : L.length ≤ 1000) (d : Nat) : ∀ (k i : Nat), i + d = L.length → 30000 + d ≤ k → blazonlaw13_OrderTurned.l3 k L ((L.take i).map tp) (i : Int) = some true := by
  induction d with
  | zero =>
    intro k i hi hk
    obtain ⟨k, rfl⟩ : ∃ n, k = n + 1 := ⟨k - 1, by omega⟩
    rw [blazonlaw13_OrderTurned.l3, if_neg (by omega), List.take_of_length_le (by omega), new_tells k L (by omega) (by omega), Option.bind_some, new_tells k (L.map tp) (by rw [List.length_map]; omega) (by rw [List.length_map]; omega), Option.bind_some]
    by_cases h0 : ∃ p ∈ L, p.f0 = (⟨#[]⟩ : ByteArray)
    · have hb : (build L 0 [] Z64).1 ≠ 0 := by
        intro z
        obtain ⟨p, hp, e⟩ := h0
        have := (build_id L 0 [] Z64 z p hp).1
        rw [e] at this
        exact absurd this (by decide)
      obtain ⟨b1, b2, b3⟩ := newP_bad hb
      have l2 := bad_l2 L (by omega) h0 L.length k 0 (by omega) (by omega) (by rw [List.drop_zero]; exact h0)
      rw [show ((0 : Nat) : Int) = 0 from rfl] at l2
      rw [l2, if_neg b2, if_neg b3, awake_tells k (by omega)]
      split <;> rfl
    · have h0' : ∀ p ∈ L, p.f0 ≠ (⟨#[]⟩ : ByteArray) := fun p hp e => h0 ⟨p, hp, e⟩
      have hbb := tp_build h0'
      by_cases hb : (build L 0 [] Z64).1 = 0
      · obtain ⟨T, U, inv, e⟩ := newP_good hb
        obtain ⟨T', U', inv', e'⟩ := newP_good (hbb.1 hb)
        have hs : ∀ x, x ∈ T ↔ x ∈ T' := fun x => by rw [inv.mem, inv'.mem]; exact tp_mem h0' x
        have hM : ∀ a b, a ∈ T → b ∈ T → (M (cl T U) (at_ T a) (at_ T b) ↔ M (cl T' U') (at_ T' b) (at_ T' a)) := fun a b ha hb => ⟨flip inv inv' (fun x hx => (hs x).1 hx) (fun a b z => tp_edge h0' z) ha hb, flip inv' inv (fun x hx => (hs x).2 hx) (fun a b z => tp_edge' z) ((hs b).1 hb) ((hs a).1 ha)⟩
        have ht := turned_same (T := T) (T' := T') (V := cl T U) (V' := cl T' U') L 0 h0' (fun p hp z => hM _ _ ((inv_mem inv hp).2 z) (inv_mem inv hp).1)
        rw [e, e', ← ht]
        cases turned T (cl T U) L 0 with
        | none =>
          dsimp only
          rw [if_pos rfl, if_pos rfl]
          exact cmp_l1 inv inv' hs hM T.length k 0 (by omega) (by have := inv.le; omega)
        | some j =>
          dsimp only
          rw [if_pos rfl, if_neg (by decide), if_pos rfl, if_pos rfl, if_pos rfl, awake_tells k (by omega)]
          rfl
      · obtain ⟨b1, b2, b3⟩ := newP_bad hb
        obtain ⟨c1, c2, c3⟩ := newP_bad (fun z => hb (hbb.2 z))
        rw [decide_eq_false b2, decide_eq_false c2, if_pos rfl, if_neg b2, if_neg b3, awake_tells k (by omega)]
        rfl
  | succ d ih =>
    intro k i hi hk
    obtain ⟨k, rfl⟩ : ∃ n, k = n + 1 := ⟨k - 1, by omega⟩
    have nx := ih k (i + 1) (by omega) (by omega)
    have hl : ((L.take i).map tp).length < 3518437208883 := by rw [List.length_map, List.length_take]; omega
    have hs : (L.take (i + 1)).map tp = (L.take i).map tp ++ [tp L[i]] := by
      rw [← List.take_append_getElem (by omega), List.map_append]; rfl
    rw [hs] at nx
    rw [blazonlaw13_OrderTurned.l3, if_pos (by omega), if_pos (by omega), rd25 L i (by omega), wrap64_id (by omega) (by omega), show (i : Int) + 1 = ((i + 1 : Nat) : Int) by omega]
    by_cases e : L[i].f1 = (⟨#[]⟩ : ByteArray)
    · have te : tp L[i] = L[i] := by unfold tp; rw [if_pos e]
      rw [te] at nx
      rw [if_pos e, if_pos hl, Option.bind_some]
      exact nx
    · have te : tp L[i] = ⟨L[i].f1, L[i].f0, 0⟩ := by unfold tp; rw [if_neg e]
      rw [te] at nx
      rw [if_neg e, if_pos hl, Option.bind_some]
      exact nx
theorem OrderTurned : blazonlaw13_OrderTurned.Pure := by
  intro L hm hb hx
  have hn := lim40 hb
  refine ⟨40000 + 3 * L.length, ?_⟩
  obtain ⟨b, hg, hf⟩ := great_tells (40000 + 3 * L.length) L 40 (by decide) (by omega) (by omega)
  unfold blazonlaw13_OrderTurned.f
  rw [hg, Option.bind_some]
  cases b with
  | true => rw [if_pos rfl, awake_tells _ (by omega)]; rfl
  | false =>
    have h40 := hf rfl
    rw [if_neg (by decide)]
    exact turn_l3 L (by omega) L.length _ 0 (by omega) (by omega)

end Go.Proofs.Ytpfepkkpbampkaa.Pure
