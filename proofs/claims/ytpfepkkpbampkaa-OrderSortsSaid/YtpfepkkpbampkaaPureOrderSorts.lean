/- Each element comes behind those that are at most it; to be at most is an order (of 40 pairs). -/
import Derived.Test.YtpfepkkpbampkaaPOrsx1
import Derived.Test.YtpfepkkpbampkaaPOrsx2
import Derived.Test.YtpfepkkpbampkaaPOrsx3
import Derived.Test.YtpfepkkpbampkaaPOrsx4
import Derived.Test.YtpfepkkpbampkaaPOrsx5
import Derived.OpenShut
import Derived.Laws.BitsLemmas
import Derived.Laws.BitsAllLaws
import Derived.Lib.Bytes
import Derived.Test.YtpfepkkpbampkaaWSized
set_option linter.unusedVariables false
set_option linter.unusedSimpArgs false
namespace Go.Proofs.Ytpfepkkpbampkaa.Pure
open Go.RowKit Go.Proofs.Ytpfepkkpbampkaa.POrs Go.Proofs.YtpfepkkpbampkaaW.PrintWords Go.Proofs.YtpfepkkpbampkaaW.PrintLast

theorem wrap64_id {x : Int} (h0 : -9223372036854775808 ≤ x) (h1 : x ≤ 9223372036854775807) : wrap64 x = x := by unfold wrap64; omega
theorem u64w_id {x : Int} (h0 : 0 ≤ x) (h1 : x < 18446744073709551616) : IntKind.u64.wrap x = x := by
  simp [IntKind.wrap, IntKind.bits, IntKind.signed]; omega
theorem u64w_nat {n : Nat} (h : n < 2 ^ 64) : IntKind.u64.wrap (n : Int) = (n : Int) := u64w_id (by omega) (by omega)
theorem byte_all (p : Int → Prop) (h : ∀ b : Fin 256, p ((b.val : Nat) : Int)) (c : Int) (h0 : 0 ≤ c) (h1 : c < 256) : p c := by
  have := h ⟨c.toNat, by omega⟩
  simp only at this
  rwa [show ((c.toNat : Nat) : Int) = c by omega] at this
def letterB (c : Int) : Bool := (decide (97 ≤ c) && decide (c ≤ 122)) || (decide (65 ≤ c) && decide (c ≤ 90)) || c == 95
def digitB (c : Int) : Bool := decide (48 ≤ c) && decide (c ≤ 57)
def wordB (c : Int) : Bool := letterB c || digitB c
theorem digit_tells (c : Int) : lex_digit.f c = some (digitB c) := by
  unfold lex_digit.f digitB
  by_cases h : c ≥ 48
  · simp [h]
  · simp [h]
theorem letter_tells (c : Int) (h0 : 0 ≤ c) (h1 : c < 256) : lex_letter.f c = some (letterB c) :=
  byte_all (fun c => lex_letter.f c = some (letterB c)) (by decide +kernel) c h0 h1
theorem ident1_tells (c : Int) (h0 : 0 ≤ c) (h1 : c < 256) : lex_Ident_1.f c = some (wordB c) := by
  unfold lex_Ident_1.f wordB
  rw [letter_tells c h0 h1, digit_tells]
  cases letterB c <;> simp
def KW : List ByteArray := [(⟨#[105, 109, 112, 111, 114, 116]⟩ : ByteArray), (⟨#[108, 97, 116, 116, 105, 99, 101]⟩ : ByteArray), (⟨#[101, 102, 102, 101, 99, 116, 115]⟩ : ByteArray), (⟨#[118, 97, 114]⟩ : ByteArray), (⟨#[102, 110]⟩ : ByteArray), (⟨#[108, 101, 116]⟩ : ByteArray), (⟨#[105, 102]⟩ : ByteArray), (⟨#[101, 108, 115, 101]⟩ : ByteArray), (⟨#[119, 104, 105, 108, 101]⟩ : ByteArray), (⟨#[114, 101, 116, 117, 114, 110]⟩ : ByteArray), (⟨#[100, 111]⟩ : ByteArray), (⟨#[116, 114, 117, 101]⟩ : ByteArray), (⟨#[102, 97, 108, 115, 101]⟩ : ByteArray), (⟨#[105, 110, 116]⟩ : ByteArray), (⟨#[98, 111, 111, 108]⟩ : ByteArray), (⟨#[100, 101, 99, 108, 97, 115, 115, 105, 102, 121]⟩ : ByteArray)]
/-- Is it a word of the language? -/
def kw (x : ByteArray) : Bool := KW.any fun y => decide (x = y)
theorem kwj (b : Bool) : lex_Keyword.j0 b = some b := by cases b <;> rfl
theorem ite_or {c : Prop} [Decidable c] {X : Option Bool} {b : Bool} (h : X = some b) : (if c then lex_Keyword.j0 true else X) = some (decide c || b) := by
  by_cases hc : c
  · rw [if_pos hc, decide_eq_true hc]; rfl
  · rw [if_neg hc, decide_eq_false hc, h]; rfl
theorem kw_tells (x : ByteArray) : lex_Keyword.f x = some (kw x) := by
  unfold lex_Keyword.f kw KW
  simp only [List.any_cons, List.any_nil]
  repeat refine ite_or ?_
  rw [kwj, Bool.or_false]
theorem run_tells (l : List Int) (hl : ∀ x ∈ l, 0 ≤ x ∧ x < 256) (hn : l.length ≤ 1000000) (d : Nat) : ∀ (k i : Nat), i ≤ l.length → l.length - i = d → 2 * d + 2 ≤ k →
    lex_run_lex_Ident_1.l0 k l (i : Int) = some ((i + ((l.drop i).takeWhile wordB).length : Nat) : Int) := by
  induction d with
  | zero =>
    intro k i hi hd hk
    obtain ⟨k, rfl⟩ : ∃ n, k = n + 2 := ⟨k - 2, by omega⟩
    rw [lex_run_lex_Ident_1.l0, if_neg (by omega), lex_run_lex_Ident_1.j0, if_neg (by decide), List.drop_eq_nil_of_le (by omega)]
    simp
  | succ d ih =>
    intro k i hi hd hk
    obtain ⟨k, rfl⟩ : ∃ n, k = n + 2 := ⟨k - 2, by omega⟩
    have hr : rd l (i : Int) = l[i] := by simp [rd, List.getD_eq_getElem?_getD, show i < l.length by omega]
    have hx := hl l[i] (List.getElem_mem _)
    rw [lex_run_lex_Ident_1.l0, if_pos (by omega), if_pos (by omega), hr, ident1_tells _ hx.1 hx.2, Option.bind_some, lex_run_lex_Ident_1.j0, List.drop_eq_getElem_cons (by omega), List.takeWhile_cons]
    by_cases hw : wordB l[i] = true
    · rw [if_pos hw, if_pos hw, wrap64_id (by omega) (by omega), show (i : Int) + 1 = ((i + 1 : Nat) : Int) by omega, ih k (i + 1) (by omega) (by omega) (by omega)]
      simp; omega
    · rw [if_neg hw, if_neg hw]
      simp
theorem bytesOf_in (s : ByteArray) : ∀ x ∈ bytesOf s, 0 ≤ x ∧ x < 256 := by
  intro x hx
  unfold bytesOf at hx
  obtain ⟨b, _, rfl⟩ := List.mem_map.1 hx
  have := b.toNat_lt
  omega
theorem bytesOf_len (s : ByteArray) : (bytesOf s).length = s.size := by unfold bytesOf; rw [List.length_map, Array.length_toList]; rfl
theorem bt_in (x : ByteArray) (i : Int) : 0 ≤ bt x i ∧ bt x i < 256 := by have := bt_range x i; omega
/-- A name of a thing. -/
def identB (x : ByteArray) : Bool := decide (0 < x.size) && (decide (x.size ≤ 24) && (!kw x && (letterB (bt x 0) && (((bytesOf x).takeWhile wordB).length == x.size))))
theorem size0 (x : ByteArray) : x = (⟨#[]⟩ : ByteArray) ↔ x.size = 0 := by
  constructor
  · rintro rfl; rfl
  · intro h
    cases x with
    | mk a =>
      cases a with
      | mk l =>
        have : l.length = 0 := h
        rw [List.length_eq_zero_iff.1 this]
theorem ident_tells (k : Nat) (x : ByteArray) (hk : 60 ≤ k) : lex_Ident.f k x = some (identB x) := by
  obtain ⟨k, rfl⟩ : ∃ n, k = n + 1 := ⟨k - 1, by omega⟩
  unfold lex_Ident.f identB
  by_cases h0 : x.size = 0
  · rw [if_pos ((size0 x).2 h0), lex_Ident.j0, if_pos rfl]
    simp [h0]
  rw [if_neg (fun h => h0 ((size0 x).1 h))]
  by_cases h1 : (x.size : Int) > 24
  · rw [if_pos h1, lex_Ident.j0, if_pos rfl]
    have : ¬ x.size ≤ 24 := by omega
    simp [this]
  rw [if_neg h1, kw_tells, Option.bind_some]
  have hp : 0 < x.size := by omega
  have hle : x.size ≤ 24 := by omega
  by_cases h2 : kw x = true
  · rw [if_pos h2, lex_Ident.j0, if_pos rfl]; simp [h2]
  have hb := bt_in x 0
  rw [if_neg h2, if_pos (by omega), letter_tells _ hb.1 hb.2, Option.bind_some, lex_Ident.j0]
  by_cases h3 : letterB (bt x 0) = true
  · rw [if_neg (by simp [h3]), if_pos (by omega), Option.bind_some]
    have hr := run_tells (bytesOf x) (bytesOf_in x) (by rw [bytesOf_len]; omega) x.size k 0 (by omega) (by rw [bytesOf_len]; omega) (by omega)
    unfold lex_run_lex_Ident_1.f
    rw [show ((0 : Nat) : Int) = 0 from rfl] at hr
    rw [hr, Option.bind_some]
    simp only [hp, hle, h2, h3, List.drop_zero, Nat.zero_add, decide_true, Bool.true_and, Bool.not_false]
    congr 1
    rw [Bool.eq_iff_iff]; simp [h2]; omega
  · rw [if_pos (by simp [h3])]; simp [h3]

def memB (s : ByteArray) : List ByteArray → Bool
  | [] => false
  | t :: T => decide (s = t) || memB s T
theorem memB_iff (s : ByteArray) : ∀ T, memB s T = true ↔ s ∈ T
  | [] => by simp [memB]
  | t :: T => by simp [memB, memB_iff s T]
instance memDec (s : ByteArray) (T : List ByteArray) : Decidable (s ∈ T) := decidable_of_iff _ (memB_iff s T)
/-- The places of a table's names. -/
def idx (T : List ByteArray) : List (ByteArray × Int) := T.zipIdx.map fun p => (p.1, (p.2 : Int))
def idxFrom (T : List ByteArray) (n : Nat) : List (ByteArray × Int) := (T.zipIdx n).map fun p => (p.1, (p.2 : Int))
theorem idx_has (T : List ByteArray) (s : ByteArray) : ∀ n, mhas (idxFrom T n) s = decide (s ∈ T) := by
  induction T with
  | nil => intro n; rfl
  | cons t T ih =>
    intro n
    simp only [idxFrom, List.zipIdx_cons, List.map_cons, mhas]
    by_cases h : t = s
    · rw [if_pos h]; simp [h]
    · rw [if_neg h]
      have := ih (n + 1)
      unfold idxFrom at this
      rw [this]
      have h2 : ¬ s = t := fun e => h e.symm
      simp [h2]
/-- Where a name stands. -/
def at_ : List ByteArray → ByteArray → Nat
  | [], _ => 0
  | t :: T, s => if t = s then 0 else at_ T s + 1
theorem idx_get (T : List ByteArray) (s : ByteArray) : ∀ n, s ∈ T → mget 0 (idxFrom T n) s = ((n + at_ T s : Nat) : Int) := by
  induction T with
  | nil => intro n h; simp at h
  | cons t T ih =>
    intro n hm
    simp only [idxFrom, List.zipIdx_cons, List.map_cons, mget, at_]
    by_cases h : t = s
    · rw [if_pos h, if_pos h]; rfl
    · rw [if_neg h, if_neg h]
      have hm' : s ∈ T := by
        rcases List.mem_cons.1 hm with e | e
        · exact absurd e.symm h
        · exact e
      have := ih (n + 1) hm'
      unfold idxFrom at this
      rw [this]; congr 1; omega
theorem at_lt (T : List ByteArray) (s : ByteArray) (h : s ∈ T) : at_ T s < T.length := by
  induction T with
  | nil => simp at h
  | cons t T ih =>
    simp only [at_]
    by_cases e : t = s
    · rw [if_pos e]; simp
    · rw [if_neg e]
      rcases List.mem_cons.1 h with h | h
      · exact absurd h.symm e
      · have := ih h; simp; omega
theorem at_get (T : List ByteArray) (s : ByteArray) (h : s ∈ T) : T[at_ T s]'(at_lt T s h) = s := by
  induction T with
  | nil => simp at h
  | cons t T ih =>
    by_cases e : t = s
    · simp [at_, e]
    · have h' : s ∈ T := by
        rcases List.mem_cons.1 h with h | h
        · exact absurd h.symm e
        · exact h
      simp only [at_, if_neg e, List.getElem_cons_succ]
      exact ih h'
theorem at_self (T : List ByteArray) (hn : T.Nodup) : ∀ (i : Nat) (h : i < T.length), at_ T T[i] = i := by
  induction T with
  | nil => intro i h; simp at h
  | cons t T ih =>
    intro i h
    cases i with
    | zero => simp [at_]
    | succ i =>
      have hm : T[i]'(by simpa using h) ∈ T := List.getElem_mem _
      have hne : ¬ t = T[i]'(by simpa using h) := fun e => (List.nodup_cons.1 hn).1 (e ▸ hm)
      simp only [List.getElem_cons_succ, at_, if_neg hne]
      rw [ih (List.nodup_cons.1 hn).2 i (by simpa using h)]
theorem idx_put (T : List ByteArray) (s : ByteArray) (h : s ∉ T) : mput (idx T) s (T.length : Int) = idx (T ++ [s]) := by
  have h1 := idx_has T s 0
  have e : idxFrom T 0 = idx T := rfl
  rw [e] at h1
  rw [mput_not (by rw [h1]; simp [h])]
  simp [idx, List.zipIdx_append]

theorem shl1 (n : Nat) (h : n < 64) : shl .u64 1 (n : Int) = ((2 ^ n : Nat) : Int) := by
  unfold shl
  have e : min ((n : Int).toNat) IntKind.u64.bits = n := by simp [IntKind.bits]; omega
  have hlt : 2 ^ n < 2 ^ 64 := Nat.pow_lt_pow_right (by decide) h
  have e2 : ((2 : Int) ^ n) = ((2 ^ n : Nat) : Int) := by simp
  rw [e, Int.one_mul, e2, u64w_nat hlt]
theorem bit_of (s i : Nat) (hs : s < 2 ^ 64) (hi : i < 64) : Go.bits .and .u64 (shr .u64 (s : Int) (i : Int)) 1 = ((s / 2 ^ i % 2 : Nat) : Int) := by
  have e : shr .u64 (s : Int) (i : Int) = ((s / 2 ^ i : Nat) : Int) := by
    unfold shr
    have e : min ((i : Int).toNat) IntKind.u64.bits = i := by simp [IntKind.bits]; omega
    rw [e]; simp
  have hlt : s / 2 ^ i < 18446744073709551616 := Nat.lt_of_le_of_lt (Nat.div_le_self _ _) hs
  rw [e]
  have := u64_and_nat (s / 2 ^ i) 1 hlt (by decide)
  rw [nat_mask1] at this
  exact this
theorem testBit_div (s i : Nat) : s.testBit i = decide (s / 2 ^ i % 2 = 1) := by rw [Nat.testBit_eq_decide_div_mod_eq]
theorem bit_iff (s i : Nat) (hs : s < 2 ^ 64) (hi : i < 64) : (Go.bits .and .u64 (shr .u64 (s : Int) (i : Int)) 1 = 1) ↔ s.testBit i = true := by
  rw [bit_of s i hs hi, testBit_div, decide_eq_true_iff]
  generalize s / 2 ^ i % 2 = q
  omega
/-- Rows of numbers, as the program's. -/
def N (U : List Nat) : List Int := U.map fun n : Nat => (n : Int)
/-- A row's number. -/
def R (U : List Nat) (i : Nat) : Nat := U.getD i 0
theorem N_get (U : List Nat) (i : Nat) : List.getD (N U) ((i : Int)).toNat 0 = ((R U i : Nat) : Int) := by
  simp only [N, R, Int.toNat_natCast, List.getD_eq_getElem?_getD, List.getElem?_map]
  cases U[i]? <;> rfl
theorem N_set (U : List Nat) (i v : Nat) : List.set (N U) ((i : Int)).toNat (v : Int) = N (U.set i v) := by
  simp only [N, Int.toNat_natCast, List.map_set]
theorem R_set (U : List Nat) (i v : Nat) (hi : i < U.length) (r : Nat) : R (U.set i v) r = if r = i then v else R U r := by
  unfold R
  simp only [List.getD_eq_getElem?_getD, List.getElem?_set]
  by_cases h : i = r
  · subst h; simp [hi]
  · have h' : ¬ r = i := fun e => h e.symm
    simp [h, h']
/-- Sixty-four rows of sixty-four bits. -/
def Ok64 (U : List Nat) : Prop := U.length = 64 ∧ ∀ r, R U r < 2 ^ 64
theorem ok_set {U : List Nat} (h : Ok64 U) {i v : Nat} (hi : i < 64) (hv : v < 2 ^ 64) : Ok64 (U.set i v) := by
  refine ⟨by rw [List.length_set]; exact h.1, fun r => ?_⟩
  rw [R_set U i v (by rw [h.1]; exact hi) r]
  split
  · exact hv
  · exact h.2 r

/-- One column's round. -/
def rowsFrom (k : Nat) : Nat → Nat → List Nat → List Nat
  | 0, _, U => U
  | d + 1, i, U => rowsFrom k d (i + 1) (if (R U i).testBit k = true then U.set i (R U i ||| R U k) else U)
def allRows (n : Nat) : Nat → Nat → List Nat → List Nat
  | 0, _, U => U
  | d + 1, k, U => allRows n d (k + 1) (rowsFrom k n 0 U)
def downFrom (U : List Nat) (i : Nat) : Nat → Nat → List Nat → List Nat
  | 0, _, D => D
  | d + 1, k, D => downFrom U i d (k + 1) (if (R U k).testBit i = true then D.set i (R D i ||| 2 ^ k) else D)
def allDown (U : List Nat) (n : Nat) : Nat → Nat → List Nat → List Nat
  | 0, _, D => D
  | d + 1, i, D => allDown U n d (i + 1) (downFrom U i n 0 D)
theorem rowsFrom_ok (k : Nat) (hk : k < 64) : ∀ (d i : Nat) (U : List Nat), Ok64 U → i + d ≤ 64 → Ok64 (rowsFrom k d i U)
  | 0, _, _, h, _ => h
  | d + 1, i, U, h, hi => by
    rw [rowsFrom]
    refine rowsFrom_ok k hk d (i + 1) _ ?_ (by omega)
    split
    · exact ok_set h (by omega) (Nat.or_lt_two_pow (h.2 i) (h.2 k))
    · exact h
theorem allRows_ok (n : Nat) (hn : n ≤ 64) : ∀ (d k : Nat) (U : List Nat), Ok64 U → k + d ≤ 64 → Ok64 (allRows n d k U)
  | 0, _, _, h, _ => h
  | d + 1, k, U, h, hk => allRows_ok n hn d (k + 1) _ (rowsFrom_ok k (by omega) n 0 U h (by omega)) (by omega)
theorem downFrom_ok (U : List Nat) (i : Nat) (hi : i < 64) : ∀ (d k : Nat) (D : List Nat), Ok64 D → k + d ≤ 64 → Ok64 (downFrom U i d k D)
  | 0, _, _, h, _ => h
  | d + 1, k, D, h, hk => by
    rw [downFrom]
    refine downFrom_ok U i hi d (k + 1) _ ?_ (by omega)
    split
    · exact ok_set h hi (Nat.or_lt_two_pow (h.2 i) (Nat.pow_lt_pow_right (by decide) (by omega)))
    · exact h
theorem allDown_ok (U : List Nat) (n : Nat) (hn : n ≤ 64) : ∀ (d i : Nat) (D : List Nat), Ok64 D → i + d ≤ 64 → Ok64 (allDown U n d i D)
  | 0, _, _, h, _ => h
  | d + 1, i, D, h, hi => allDown_ok U n hn d (i + 1) _ (downFrom_ok U i (by omega) n 0 D h (by omega)) (by omega)
theorem close_l0 (T : List ByteArray) (hT : T.length ≤ 64) (dn : List Int) (kk : Nat) (hkk : kk < T.length) (f : Nat) (d : Nat) : ∀ (i : Nat) (U : List Nat), Ok64 U → i + d = T.length →
    order_Order_close.l0 (f + d + 1) dn T (kk : Int) (i : Int) (N U) = order_Order_close.l3 f dn T ((kk + 1 : Nat) : Int) (N (rowsFrom kk d i U)) := by
  induction d with
  | zero =>
    intro i U hU hi
    rw [order_Order_close.l0, if_neg (by omega), wrap64_id (by omega) (by omega)]
    rfl
  | succ d ih =>
    intro i U hU hi
    rw [show f + (d + 1) + 1 = (f + d + 1) + 1 by omega, order_Order_close.l0, if_pos (by omega), if_pos (by omega), if_pos (by omega), u64w_id (x := (kk : Int)) (by omega) (by omega), if_pos (by omega), N_get, N_get, rowsFrom]
    have hb := bit_iff (R U i) kk (hU.2 i) (by omega)
    by_cases h : (R U i).testBit kk = true
    · rw [if_pos (hb.2 h), if_pos (by omega), if_pos (by omega), if_pos h, u64_or_nat _ _ (hU.2 i) (hU.2 kk), N_set, Option.bind_some, wrap64_id (by omega) (by omega), show (i : Int) + 1 = ((i + 1 : Nat) : Int) by omega]
      exact ih (i + 1) _ (ok_set hU (by omega) (Nat.or_lt_two_pow (hU.2 i) (hU.2 kk))) (by omega)
    · rw [if_neg (fun e => h (hb.1 e)), if_neg h, wrap64_id (by omega) (by omega), show (i : Int) + 1 = ((i + 1 : Nat) : Int) by omega]
      exact ih (i + 1) U hU (by omega)
theorem close_l1 (T : List ByteArray) (hT : T.length ≤ 64) (U : List Nat) (hU : Ok64 U) (i : Nat) (hi : i < T.length) (f : Nat) (d : Nat) : ∀ (k : Nat) (D : List Nat), Ok64 D → k + d = T.length →
    order_Order_close.l1 (f + d + 1) T (N U) (i : Int) (k : Int) (N D) = order_Order_close.l2 f T (N U) ((i + 1 : Nat) : Int) (N (downFrom U i d k D)) := by
  induction d with
  | zero =>
    intro k D hD hk
    rw [order_Order_close.l1, if_neg (by omega), wrap64_id (by omega) (by omega)]
    rfl
  | succ d ih =>
    intro k D hD hk
    rw [show f + (d + 1) + 1 = (f + d + 1) + 1 by omega, order_Order_close.l1, if_pos (by omega), if_pos (by omega), if_pos (by omega), u64w_id (x := (i : Int)) (by omega) (by omega), if_pos (by omega), N_get, N_get, downFrom]
    have hb := bit_iff (R U k) i (hU.2 k) (by omega)
    have h2 : 2 ^ k < 2 ^ 64 := Nat.pow_lt_pow_right (by decide) (by omega)
    by_cases h : (R U k).testBit i = true
    · rw [if_pos (hb.2 h), if_pos (by omega), if_pos (by omega), if_pos h, u64w_id (x := (k : Int)) (by omega) (by omega), if_pos (by omega), shl1 k (by omega), u64_or_nat _ _ (hD.2 i) h2, N_set, Option.bind_some, wrap64_id (by omega) (by omega), show (k : Int) + 1 = ((k + 1 : Nat) : Int) by omega]
      exact ih (k + 1) _ (ok_set hD (by omega) (Nat.or_lt_two_pow (hD.2 i) h2)) (by omega)
    · rw [if_neg (fun e => h (hb.1 e)), if_neg h, wrap64_id (by omega) (by omega), show (k : Int) + 1 = ((k + 1 : Nat) : Int) by omega]
      exact ih (k + 1) D hD (by omega)
theorem close_l2 (T : List ByteArray) (hT : T.length ≤ 64) (U : List Nat) (hU : Ok64 U) (f : Nat) (d : Nat) : ∀ (i : Nat) (D : List Nat), Ok64 D → i + d = T.length →
    order_Order_close.l2 (f + d * (T.length + 2) + 1) T (N U) (i : Int) (N D) = some (N U, N (allDown U T.length d i D)) := by
  induction d with
  | zero =>
    intro i D hD hi
    rw [order_Order_close.l2, if_neg (by omega)]
    rfl
  | succ d ih =>
    intro i D hD hi
    rw [order_Order_close.l2, if_pos (by omega), show f + (d + 1) * (T.length + 2) = (f + d * (T.length + 2) + 1) + T.length + 1 by rw [Nat.add_mul]; omega]
    have := close_l1 T hT U hU i (by omega) (f + d * (T.length + 2) + 1) T.length 0 D hD (by omega)
    rw [show ((0 : Nat) : Int) = 0 from rfl] at this
    rw [this, allDown]
    exact ih (i + 1) _ (downFrom_ok U i (by omega) _ 0 D hD (by omega)) (by omega)
theorem close_l3 (T : List ByteArray) (hT : T.length ≤ 64) (D : List Nat) (hD : Ok64 D) (f : Nat) (d : Nat) : ∀ (kk : Nat) (U : List Nat), Ok64 U → kk + d = T.length →
    order_Order_close.l3 (f + T.length * (T.length + 2) + 1 + d * (T.length + 2) + 1) (N D) T (kk : Int) (N U) = some (N (allRows T.length d kk U), N (allDown (allRows T.length d kk U) T.length T.length 0 D)) := by
  induction d with
  | zero =>
    intro kk U hU hk
    rw [order_Order_close.l3, if_neg (by omega), Nat.zero_mul, Nat.add_zero]
    exact close_l2 T hT U hU f T.length 0 D hD (by omega)
  | succ d ih =>
    intro kk U hU hk
    rw [order_Order_close.l3, if_pos (by omega), show f + T.length * (T.length + 2) + 1 + (d + 1) * (T.length + 2) = (f + T.length * (T.length + 2) + 1 + d * (T.length + 2) + 1) + T.length + 1 by rw [Nat.add_mul d]; omega]
    have := close_l0 T hT (N D) kk (by omega) (f + T.length * (T.length + 2) + 1 + d * (T.length + 2) + 1) T.length 0 U hU (by omega)
    rw [show ((0 : Nat) : Int) = 0 from rfl] at this
    rw [this, allRows]
    exact ih (kk + 1) _ (rowsFrom_ok kk (by omega) _ 0 U hU (by omega)) (by omega)
theorem close_tells (T : List ByteArray) (hT : T.length ≤ 64) (m : List (ByteArray × Int)) (U D : List Nat) (hU : Ok64 U) (hD : Ok64 D) (k : Nat) (hk : 10000 ≤ k) :
    order_Order_close.f k T m (N U) (N D) = some (N (allRows T.length T.length 0 U), N (allDown (allRows T.length T.length 0 U) T.length T.length 0 D)) := by
  have hb : T.length * (T.length + 2) ≤ 64 * 66 := Nat.mul_le_mul hT (by omega)
  have := close_l3 T hT D hD (k - 2 - T.length * (T.length + 2) - T.length * (T.length + 2)) T.length 0 U hU (by omega)
  rw [show k - 2 - T.length * (T.length + 2) - T.length * (T.length + 2) + T.length * (T.length + 2) + 1 + T.length * (T.length + 2) + 1 = k by omega] at this
  exact this

/-- The bit at a row and a column. -/
def M (U : List Nat) (i j : Nat) : Prop := (R U i).testBit j = true
theorem rows_R (k : Nat) (U0 : List Nat) : ∀ (d i : Nat) (V : List Nat), V.length = 64 → i + d ≤ 64 → (∀ r, R V r = if r < i ∧ (R U0 r).testBit k = true then R U0 r ||| R U0 k else R U0 r) →
    ∀ r, R (rowsFrom k d i V) r = if r < i + d ∧ (R U0 r).testBit k = true then R U0 r ||| R U0 k else R U0 r
  | 0, _, _, _, _, h => h
  | d + 1, i, V, hl, hi, h => by
    have hVi : R V i = R U0 i := by rw [h i, if_neg (by omega)]
    have hVk : R V k = R U0 k := by
      rw [h k]
      split
      · exact Nat.or_self _
      · rfl
    rw [rowsFrom, hVi, hVk]
    have step : ∀ r, R (if (R U0 i).testBit k = true then V.set i (R U0 i ||| R U0 k) else V) r = if r < i + 1 ∧ (R U0 r).testBit k = true then R U0 r ||| R U0 k else R U0 r := by
      intro r
      by_cases hb : (R U0 i).testBit k = true
      · rw [if_pos hb, R_set V i _ (by omega) r]
        by_cases e : r = i
        · subst e; rw [if_pos rfl, if_pos ⟨by omega, hb⟩]
        · rw [if_neg e, h r]
          by_cases e2 : r < i
          · by_cases e3 : (R U0 r).testBit k = true
            · rw [if_pos ⟨e2, e3⟩, if_pos ⟨by omega, e3⟩]
            · rw [if_neg (fun z => e3 z.2), if_neg (fun z => e3 z.2)]
          · rw [if_neg (fun z => e2 z.1), if_neg (fun z => by omega)]
      · rw [if_neg hb, h r]
        by_cases e : r = i
        · subst e; rw [if_neg (fun z => hb z.2), if_neg (fun z => hb z.2)]
        · by_cases e2 : r < i
          · by_cases e3 : (R U0 r).testBit k = true
            · rw [if_pos ⟨e2, e3⟩, if_pos ⟨by omega, e3⟩]
            · rw [if_neg (fun z => e3 z.2), if_neg (fun z => e3 z.2)]
          · rw [if_neg (fun z => e2 z.1), if_neg (fun z => by omega)]
    have := rows_R k U0 d (i + 1) _ (by split <;> simp [hl]) (by omega) step
    rw [show i + (d + 1) = i + 1 + d by omega]
    exact this
theorem rows_M (k n : Nat) (hn : n ≤ 64) (U : List Nat) (hU : Ok64 U) (i j : Nat) : M (rowsFrom k n 0 U) i j ↔ M U i j ∨ (i < n ∧ M U i k ∧ M U k j) := by
  unfold M
  rw [rows_R k U n 0 U hU.1 (by omega) (fun r => by rw [if_neg (by omega)]) i, Nat.zero_add]
  by_cases h : i < n ∧ (R U i).testBit k = true
  · rw [if_pos h, Nat.testBit_or, Bool.or_eq_true]
    constructor
    · rintro (a | a)
      · exact .inl a
      · exact .inr ⟨h.1, h.2, a⟩
    · rintro (a | a)
      · exact .inl a
      · exact .inr a.2.2
  · rw [if_neg h]
    constructor
    · exact .inl
    · rintro (a | a)
      · exact a
      · exact absurd ⟨a.1, a.2.1⟩ h
/-- What a round leaves. -/
structure Cl (n : Nat) (U0 U : List Nat) (k : Nat) : Prop where
  ok : Ok64 U
  up : ∀ i j, M U0 i j → M U i j
  le : ∀ S : Nat → Nat → Prop, (∀ a b c, S a b → S b c → S a c) → (∀ i j, M U0 i j → S i j) → ∀ i j, M U i j → S i j
  rf : ∀ i, i < n → M U i i
  bd : ∀ i j, M U i j → i < n ∧ j < n
  tr : ∀ m, m < k → ∀ i j, M U i m → M U m j → M U i j
theorem cl_step {n : Nat} (hn : n ≤ 64) {U0 U : List Nat} {k : Nat} (h : Cl n U0 U k) (hk : k < n) : Cl n U0 (rowsFrom k n 0 U) (k + 1) := by
  have e := rows_M k n hn U h.ok
  refine ⟨rowsFrom_ok k (by omega) n 0 U h.ok (by omega), fun i j a => (e i j).2 (.inl (h.up i j a)), fun S hS h0 i j a => ?_, fun i hi => (e i i).2 (.inl (h.rf i hi)), fun i j a => ?_, fun m hm i j a b => ?_⟩
  · rcases (e i j).1 a with a | a
    · exact h.le S hS h0 i j a
    · exact hS i k j (h.le S hS h0 i k a.2.1) (h.le S hS h0 k j a.2.2)
  · rcases (e i j).1 a with a | a
    · exact h.bd i j a
    · exact ⟨a.1, (h.bd k j a.2.2).2⟩
  · have in_ : ∀ {x y}, M U x y → x < n := fun z => (h.bd _ _ z).1
    by_cases hm' : m = k
    · subst hm'
      have a' : M U i m := by rcases (e i m).1 a with a | a; exact a; exact a.2.1
      have b' : M U m j := by rcases (e m j).1 b with b | b; exact b; exact b.2.2
      exact (e i j).2 (.inr ⟨in_ a', a', b'⟩)
    · have hm2 : m < k := by omega
      rcases (e i m).1 a with a | a <;> rcases (e m j).1 b with b | b
      · exact (e i j).2 (.inl (h.tr m hm2 i j a b))
      · exact (e i j).2 (.inr ⟨in_ a, h.tr m hm2 i k a b.2.1, b.2.2⟩)
      · exact (e i j).2 (.inr ⟨a.1, a.2.1, h.tr m hm2 k j a.2.2 b⟩)
      · exact (e i j).2 (.inr ⟨a.1, a.2.1, b.2.2⟩)
theorem cl_all {n : Nat} (hn : n ≤ 64) {U0 : List Nat} : ∀ (d k : Nat) (U : List Nat), Cl n U0 U k → k + d = n → Cl n U0 (allRows n d k U) n
  | 0, k, U, h, hk => by have e : k = n := by omega
                         subst e; exact h
  | d + 1, k, U, h, hk => cl_all hn d (k + 1) _ (cl_step hn h (by omega)) (by omega)
theorem closed {n : Nat} (hn : n ≤ 64) {U0 : List Nat} (hU : Ok64 U0) (hr : ∀ i, i < n → M U0 i i) (hb : ∀ i j, M U0 i j → i < n ∧ j < n) : Cl n U0 (allRows n n 0 U0) n :=
  cl_all hn n 0 U0 ⟨hU, fun _ _ a => a, fun _ _ h0 i j a => h0 i j a, hr, hb, fun m hm => absurd hm (by omega)⟩ (by omega)
theorem trans_ {n : Nat} {U0 U : List Nat} (h : Cl n U0 U n) {a b c : Nat} (x : M U a b) (y : M U b c) : M U a c := h.tr b (h.bd a b x).2 a c x y
theorem pow_bit (n j : Nat) : (2 ^ n).testBit j = decide (n = j) := Nat.testBit_two_pow
theorem down_M (U : List Nat) (i : Nat) (hi : i < 64) : ∀ (d k : Nat) (D : List Nat), D.length = 64 → ∀ r j, M (downFrom U i d k D) r j ↔ M D r j ∨ (r = i ∧ k ≤ j ∧ j < k + d ∧ M U j i)
  | 0, k, D, hD, r, j => by
    constructor
    · exact .inl
    · rintro (a | a)
      · exact a
      · omega
  | d + 1, k, D, hD, r, j => by
    rw [downFrom, down_M U i hi d (k + 1) _ (by split <;> simp [hD]) r j]
    by_cases h : (R U k).testBit i = true
    · rw [if_pos h]
      unfold M at *
      rw [R_set D i _ (by omega) r]
      by_cases e : r = i
      · subst e
        rw [if_pos rfl, Nat.testBit_or, Bool.or_eq_true, pow_bit, decide_eq_true_iff]
        constructor
        · rintro ((a | a) | a)
          · exact .inl a
          · subst a; exact .inr ⟨rfl, Nat.le_refl _, by omega, h⟩
          · exact .inr ⟨rfl, by omega, by omega, a.2.2.2⟩
        · rintro (a | a)
          · exact .inl (.inl a)
          · by_cases e : k = j
            · exact .inl (.inr e)
            · exact .inr ⟨rfl, by omega, by omega, a.2.2.2⟩
      · rw [if_neg e]
        constructor
        · rintro (a | a)
          · exact .inl a
          · exact absurd a.1 e
        · rintro (a | a)
          · exact .inl a
          · exact absurd a.1 e
    · rw [if_neg h]
      constructor
      · rintro (a | a)
        · exact .inl a
        · exact .inr ⟨a.1, by omega, by omega, a.2.2.2⟩
      · rintro (a | a)
        · exact .inl a
        · by_cases e : k = j
          · subst e; exact absurd a.2.2.2 h
          · exact .inr ⟨a.1, by omega, by omega, a.2.2.2⟩
theorem alldown_M (U : List Nat) (n : Nat) (hn : n ≤ 64) : ∀ (d i : Nat) (D : List Nat), Ok64 D → i + d ≤ 64 → ∀ r j, M (allDown U n d i D) r j ↔ M D r j ∨ (i ≤ r ∧ r < i + d ∧ j < n ∧ M U j r)
  | 0, i, D, hD, hi, r, j => by
    constructor
    · exact .inl
    · rintro (a | a)
      · exact a
      · omega
  | d + 1, i, D, hD, hi, r, j => by
    rw [allDown, alldown_M U n hn d (i + 1) _ (downFrom_ok U i (by omega) n 0 D hD (by omega)) (by omega) r j, down_M U i (by omega) n 0 D hD.1 r j]
    constructor
    · rintro ((a | a) | a)
      · exact .inl a
      · have := a.1; subst this; exact .inr ⟨by omega, by omega, by omega, a.2.2.2⟩
      · exact .inr ⟨by omega, by omega, a.2.2.1, a.2.2.2⟩
    · rintro (a | a)
      · exact .inl (.inl a)
      · by_cases e : r = i
        · subst e; exact .inl (.inr ⟨rfl, by omega, by omega, a.2.2.2⟩)
        · exact .inr ⟨by omega, by omega, a.2.2.1, a.2.2.2⟩
/-- Rows of nothing. -/
def Z64 : List Nat := List.replicate 64 0
theorem Z_N : N Z64 = List.replicate 64 (0 : Int) := by simp [N, Z64]
theorem Z_R (r : Nat) : R Z64 r = 0 := by
  unfold R Z64
  rw [List.getD_eq_getElem?_getD, List.getElem?_replicate]
  split <;> rfl
theorem Z_ok : Ok64 Z64 := ⟨List.length_replicate, fun r => by rw [Z_R]; decide⟩
theorem Z_M (i j : Nat) : ¬ M Z64 i j := by unfold M; rw [Z_R]; simp

/-- An element added. -/
def addP (T : List ByteArray) (U : List Nat) (x : ByteArray) : Option (Nat × List ByteArray × List Nat) := if x ∈ T then some (at_ T x, T, U) else if T.length = 64 then none else some (T.length, T ++ [x], U.set T.length (2 ^ T.length))
theorem add_tells (T : List ByteArray) (hT : T.length ≤ 64) (U : List Nat) (dn : List Int) (x : ByteArray) : order_Order_add.f T (idx T) (N U) dn x = some (match addP T U x with | some r => ((r.1 : Int), true, r.2.1, idx r.2.1, N r.2.2) | none => (0, false, T, idx T, N U)) := by
  have h1 := idx_has T x 0
  have h2 := idx_get T x 0
  have e : idxFrom T 0 = idx T := rfl
  rw [e] at h1 h2
  unfold order_Order_add.f addP
  rw [h1]
  by_cases h : x ∈ T
  · rw [if_pos (by simp [h]), if_pos h, h2 h, Nat.zero_add]
  · rw [if_neg (by simp [h]), if_neg h]
    by_cases h3 : T.length = 64
    · rw [if_pos (by omega), if_pos h3]
    · rw [if_neg (by omega), if_neg h3, Option.bind_some, if_pos (by omega), Option.bind_some, u64w_id (x := (T.length : Int)) (by omega) (by omega), if_pos (by omega), if_pos (by omega), if_pos (by omega), idx_put T x h, shl1 _ (by omega), N_set, Option.bind_some]
/-- A pair added. -/
def pairP (T : List ByteArray) (U : List Nat) (p : S25) : Int × List ByteArray × List Nat :=
  if identB p.f0 = true ∧ (p.f1 = (⟨#[]⟩ : ByteArray) ∨ identB p.f1 = true) then
    match addP T U p.f0 with
    | none => (8, T, U)
    | some a => if p.f1 = (⟨#[]⟩ : ByteArray) then (0, a.2) else
      match addP a.2.1 a.2.2 p.f1 with
      | none => (8, a.2)
      | some b => (0, b.2.1, b.2.2.set a.1 (R b.2.2 a.1 ||| 2 ^ b.1))
  else (1, T, U)
theorem addP_ok {T : List ByteArray} {U : List Nat} {x : ByteArray} (hT : T.length ≤ 64) (hU : Ok64 U) {r : Nat × List ByteArray × List Nat} (h : addP T U x = some r) : r.1 < r.2.1.length ∧ r.2.1.length ≤ 64 ∧ Ok64 r.2.2 ∧ T.length ≤ r.2.1.length := by
  unfold addP at h
  split at h
  · rename_i hm
    injection h with h; subst h
    exact ⟨at_lt T x hm, hT, hU, Nat.le_refl _⟩
  · split at h
    · cases h
    · injection h with h; subst h
      refine ⟨by simp, by simp; omega, ok_set hU (by omega) (Nat.pow_lt_pow_right (by decide) (by omega)), by simp⟩
theorem pair_tells (k : Nat) (hk : 100 ≤ k) (T : List ByteArray) (hT : T.length ≤ 64) (U : List Nat) (hU : Ok64 U) (dn : List Int) (p : S25) :
    order_Order_pair.f k T (idx T) (N U) dn p.f0 p.f1 p.f2 = some ((pairP T U p).1, (pairP T U p).2.1, idx (pairP T U p).2.1, N (pairP T U p).2.2) := by
  have bad : ∀ k, 1 ≤ k → order_Order_pair.j0 k (N U) dn p.f0 p.f1 T (idx T) true = some (1, T, idx T, N U) := by
    intro k hk
    obtain ⟨k, rfl⟩ : ∃ n, k = n + 1 := ⟨k - 1, by omega⟩
    rw [order_Order_pair.j0, if_pos rfl]
  have good : ∀ k, 1 ≤ k → identB p.f0 = true ∧ (p.f1 = (⟨#[]⟩ : ByteArray) ∨ identB p.f1 = true) → order_Order_pair.j0 k (N U) dn p.f0 p.f1 T (idx T) false = some ((pairP T U p).1, (pairP T U p).2.1, idx (pairP T U p).2.1, N (pairP T U p).2.2) := by
    intro k hk hg
    obtain ⟨k, rfl⟩ : ∃ n, k = n + 1 := ⟨k - 1, by omega⟩
    rw [order_Order_pair.j0, if_neg (by decide), add_tells T hT U dn p.f0, Option.bind_some]
    unfold pairP
    rw [if_pos hg]
    cases ha : addP T U p.f0 with
    | none => rfl
    | some a =>
      obtain ⟨ai, aT, aU⟩ := a
      obtain ⟨q1, q2, q3, q4⟩ := addP_ok hT hU ha
      dsimp only at q1 q2 q3 q4 ⊢
      rw [if_pos rfl]
      by_cases h1 : p.f1 = (⟨#[]⟩ : ByteArray)
      · rw [if_pos h1, if_pos h1]
      · rw [if_neg h1, if_neg h1, add_tells aT q2 aU dn p.f1, Option.bind_some]
        cases hb : addP aT aU p.f1 with
        | none => rfl
        | some b =>
          obtain ⟨bi, bT, bU⟩ := b
          obtain ⟨z1, z2, z3, z4⟩ := addP_ok q2 q3 hb
          dsimp only at z1 z2 z3 z4 ⊢
          have hp : 2 ^ bi < 2 ^ 64 := Nat.pow_lt_pow_right (by decide) (by omega)
          rw [if_pos rfl, if_pos (by omega), if_pos (by omega), u64w_id (x := (bi : Int)) (by omega) (by omega), if_pos (by omega), N_get, shl1 _ (by omega), u64_or_nat _ _ (z3.2 ai) hp, N_set, Option.bind_some]
  unfold order_Order_pair.f
  rw [ident_tells k _ (by omega), Option.bind_some]
  by_cases h0 : identB p.f0 = true
  · rw [if_pos h0]
    by_cases h1 : p.f1 = (⟨#[]⟩ : ByteArray)
    · rw [if_pos h1]; exact good k (by omega) ⟨h0, .inl h1⟩
    · rw [if_neg h1, ident_tells k _ (by omega), Option.bind_some]
      by_cases h2 : identB p.f1 = true
      · rw [h2]; exact good k (by omega) ⟨h0, .inr h2⟩
      · rw [Bool.eq_false_iff.2 h2]
        have := bad k (by omega)
        rw [Bool.not_false, this]
        unfold pairP
        rw [if_neg (fun z => by rcases z.2 with z | z; exact h1 z; exact h2 z)]
  · rw [if_neg h0, bad k (by omega)]
    unfold pairP
    rw [if_neg (fun z => h0 z.1)]
theorem pairP_ok {T : List ByteArray} {U : List Nat} {p : S25} (hT : T.length ≤ 64) (hU : Ok64 U) : (pairP T U p).2.1.length ≤ 64 ∧ Ok64 (pairP T U p).2.2 := by
  unfold pairP
  split
  · cases ha : addP T U p.f0 with
    | none => exact ⟨hT, hU⟩
    | some a =>
      obtain ⟨ai, aT, aU⟩ := a
      obtain ⟨q1, q2, q3, q4⟩ := addP_ok hT hU ha
      dsimp only at q1 q2 q3 q4 ⊢
      split
      · exact ⟨q2, q3⟩
      · cases hb : addP aT aU p.f1 with
        | none => exact ⟨q2, q3⟩
        | some b =>
          obtain ⟨bi, bT, bU⟩ := b
          obtain ⟨z1, z2, z3, z4⟩ := addP_ok q2 q3 hb
          dsimp only at z1 z2 z3 z4 ⊢
          exact ⟨z2, ok_set z3 (by omega) (Nat.or_lt_two_pow (z3.2 ai) (Nat.pow_lt_pow_right (by decide) (by omega)))⟩
  · exact ⟨hT, hU⟩
/-- All pairs. -/
def build : List S25 → Nat → List ByteArray → List Nat → Int × Nat × List ByteArray × List Nat
  | [], _, T, U => (0, 0, T, U)
  | p :: L, i, T, U => if (pairP T U p).1 = 0 then build L (i + 1) (pairP T U p).2.1 (pairP T U p).2.2 else ((pairP T U p).1, i, T, U)
instance (U : List Nat) (i j : Nat) : Decidable (M U i j) := by unfold M; exact inferInstance
/-- The first pair that stands the other way about. -/
def turned (T : List ByteArray) (U : List Nat) : List S25 → Nat → Option Nat
  | [], _ => none
  | p :: L, i => if p.f1 = (⟨#[]⟩ : ByteArray) then turned T U L (i + 1) else if M U (at_ T p.f1) (at_ T p.f0) then some i else turned T U L (i + 1)
theorem len_tells (o : S47) : order_Order_Len.f (some o) = some (o.f0.length : Int) := rfl
theorem in_tells (o : S47) (a : Nat) : order_Order_in.f (some o) (a : Int) = some (decide (a < o.f0.length)) := by
  unfold order_Order_in.f
  rw [if_pos (by omega), len_tells, Option.bind_some]
  congr 1
  rw [Bool.eq_iff_iff]; simp
theorem most_tells (T : List ByteArray) (hT : T.length ≤ 64) (m : List (ByteArray × Int)) (U : List Nat) (hU : Ok64 U) (D : List Int) (a b : Nat) :
    order_Order_Most.f (some ⟨T, m, N U, D⟩) (a : Int) (b : Int) = some (decide (a < T.length ∧ b < T.length ∧ M U a b)) := by
  unfold order_Order_Most.f
  rw [in_tells, Option.bind_some]
  dsimp only
  by_cases h1 : a < T.length
  · rw [decide_eq_true h1, if_pos rfl, in_tells, Option.bind_some]
    dsimp only
    by_cases h2 : b < T.length
    · rw [decide_eq_true h2, if_pos rfl]
      dsimp only [onOpt]
      rw [if_pos (by omega), if_pos (by omega), u64w_id (x := (b : Int)) (by omega) (by omega), if_pos (by omega), N_get]
      congr 1
      rw [Bool.eq_iff_iff, decide_eq_true_iff, decide_eq_true_iff, bit_iff _ b (hU.2 a) (by omega)]
      exact ⟨fun z => ⟨h1, h2, z⟩, fun z => z.2.2⟩
    · rw [decide_eq_false h2, if_neg (by decide), decide_eq_false (fun z => h2 z.2.1)]
  · rw [decide_eq_false h1, if_neg (by decide), decide_eq_false (fun z => h1 z.1)]

theorem rd25 (L : List S25) (i : Nat) (h : i < L.length) : rd_T25 L (i : Int) = L[i] := by simp [rd_T25, List.getD_eq_getElem?_getD, h]
/-- The order that is told. -/
def ordOf (T : List ByteArray) (U : List Nat) : S47 := ⟨T, idx T, N (allRows T.length T.length 0 U), N (allDown (allRows T.length T.length 0 U) T.length T.length 0 Z64)⟩
def newP (L : List S25) : Option S47 × Int × Int :=
  match build L 0 [] Z64 with
  | (e, i, T, U) => if e = 0 then (match turned T (allRows T.length T.length 0 U) L 0 with
    | some j => (none, (j : Int), 16)
    | none => (some (ordOf T U), 0, 0)) else (none, (i : Int), e)
theorem at_bound (T : List ByteArray) (x : ByteArray) : mget 0 (idx T) x = if x ∈ T then ((at_ T x : Nat) : Int) else 0 := by
  have h1 := idx_has T x 0
  have h2 := idx_get T x 0
  have e : idxFrom T 0 = idx T := rfl
  rw [e] at h1 h2
  by_cases h : x ∈ T
  · rw [if_pos h, h2 h, Nat.zero_add]
  · rw [if_neg h, mget_not (by rw [h1]; simp [h])]
theorem new_l0 (T : List ByteArray) (hT : T.length ≤ 64) (U : List Nat) (hU : Ok64 U) (D : List Int) (L : List S25) (hL : L.length ≤ 1000000) (hm : ∀ p ∈ L, p.f0 ∈ T ∧ (p.f1 ≠ (⟨#[]⟩ : ByteArray) → p.f1 ∈ T)) (hb : ∀ i j, M U i j → i < T.length ∧ j < T.length) (d : Nat) : ∀ (k i : Nat), i ≤ L.length → L.length - i = d → d < k →
    order_New.l0 k L (N U) D T (idx T) (i : Int) = some (match turned T U (L.drop i) i with | some j => (none, (j : Int), 16) | none => (some ⟨T, idx T, N U, D⟩, 0, 0)) := by
  induction d with
  | zero =>
    intro k i hi hd hk
    obtain ⟨k, rfl⟩ : ∃ n, k = n + 1 := ⟨k - 1, by omega⟩
    rw [order_New.l0, if_neg (by omega), List.drop_eq_nil_of_le (by omega)]
    rfl
  | succ d ih =>
    intro k i hi hd hk
    obtain ⟨k, rfl⟩ : ∃ n, k = n + 1 := ⟨k - 1, by omega⟩
    have nx := ih k (i + 1) (by omega) (by omega) (by omega)
    have hp := hm L[i] (List.getElem_mem _)
    rw [order_New.l0, if_pos (by omega), if_pos (by omega), rd25 L i (by omega), List.drop_eq_getElem_cons (by omega), turned, wrap64_id (by omega) (by omega), show (i : Int) + 1 = ((i + 1 : Nat) : Int) by omega, nx]
    by_cases h1 : L[i].f1 = (⟨#[]⟩ : ByteArray)
    · rw [if_pos h1, if_pos h1]
    · have h2 := hp.2 h1
      rw [if_neg h1, if_neg h1, at_bound, at_bound, if_pos h2, if_pos hp.1, most_tells T hT _ U hU, Option.bind_some]
      by_cases h3 : M U (at_ T L[i].f1) (at_ T L[i].f0)
      · rw [decide_eq_true ⟨at_lt T _ h2, at_lt T _ hp.1, h3⟩, if_pos rfl, if_pos h3]
      · rw [decide_eq_false (fun z => h3 z.2.2), if_neg (by decide), if_neg h3]
theorem build_ok (L : List S25) : ∀ (i : Nat) (T : List ByteArray) (U : List Nat), T.length ≤ 64 → Ok64 U → (build L i T U).2.2.1.length ≤ 64 ∧ Ok64 (build L i T U).2.2.2 := by
  induction L with
  | nil => intro i T U hT hU; exact ⟨hT, hU⟩
  | cons p L ih =>
    intro i T U hT hU
    have := pairP_ok (p := p) hT hU
    rw [build]
    split
    · exact ih _ _ _ this.1 this.2
    · exact ⟨hT, hU⟩
/-- What stands when some pairs are in. -/
structure Inv (P : List S25) (T : List ByteArray) (U : List Nat) : Prop where
  nd : T.Nodup
  le : T.length ≤ 64
  ok : Ok64 U
  mem : ∀ x, x ∈ T ↔ ∃ p ∈ P, p.f0 = x ∨ (p.f1 = x ∧ p.f1 ≠ (⟨#[]⟩ : ByteArray))
  edge : ∀ i j, M U i j ↔ (i < T.length ∧ i = j) ∨ ∃ p ∈ P, p.f1 ≠ (⟨#[]⟩ : ByteArray) ∧ at_ T p.f0 = i ∧ at_ T p.f1 = j
theorem at_app (T : List ByteArray) (x y : ByteArray) (h : y ∈ T) : at_ (T ++ [x]) y = at_ T y := by
  induction T with
  | nil => simp at h
  | cons t T ih =>
    simp only [List.cons_append, at_]
    by_cases e : t = y
    · rw [if_pos e, if_pos e]
    · rw [if_neg e, if_neg e]
      rcases List.mem_cons.1 h with h | h
      · exact absurd h.symm e
      · rw [ih h]
theorem at_new (T : List ByteArray) (x : ByteArray) (h : x ∉ T) : at_ (T ++ [x]) x = T.length := by
  induction T with
  | nil => simp [at_]
  | cons t T ih =>
    rw [List.mem_cons, not_or] at h
    simp only [List.cons_append, at_, List.length_cons]
    rw [if_neg (fun e => h.1 e.symm), ih h.2]
theorem at_inj (T : List ByteArray) {x y : ByteArray} (hx : x ∈ T) (hy : y ∈ T) (h : at_ T x = at_ T y) : x = y := by
  have a := at_get T x hx
  have b := at_get T y hy
  rw [← a, ← b]
  congr 1
/-- One more name: what stands for any relation that is told by names. -/
theorem add_inv {E : ByteArray → ByteArray → Prop} {T : List ByteArray} {U : List Nat} {x : ByteArray} (nd : T.Nodup) (hT : T.length ≤ 64) (hU : Ok64 U) (hE : ∀ a b, E a b → a ∈ T ∧ b ∈ T)
    (he : ∀ i j, M U i j ↔ (i < T.length ∧ i = j) ∨ ∃ a b, E a b ∧ at_ T a = i ∧ at_ T b = j) {r : Nat × List ByteArray × List Nat} (h : addP T U x = some r) :
    r.2.1.Nodup ∧ (∀ y, y ∈ r.2.1 ↔ y ∈ T ∨ y = x) ∧ r.1 = at_ r.2.1 x ∧ (∀ i j, M r.2.2 i j ↔ (i < r.2.1.length ∧ i = j) ∨ ∃ a b, E a b ∧ at_ r.2.1 a = i ∧ at_ r.2.1 b = j) := by
  unfold addP at h
  split at h
  · rename_i hm
    injection h with h; subst h
    exact ⟨nd, fun y => ⟨.inl, fun z => by rcases z with z | z; exact z; exact z ▸ hm⟩, rfl, he⟩
  · rename_i hm
    split at h
    · cases h
    · rename_i h64
      injection h with h; subst h
      dsimp only
      refine ⟨?_, fun y => by simp, (at_new T x hm).symm, fun i j => ?_⟩
      · rw [List.nodup_append]
        exact ⟨nd, by simp, fun a ha b hb e => by simp at hb; subst hb; exact hm (e ▸ ha)⟩
      · have e2 : (∃ a b, E a b ∧ at_ (T ++ [x]) a = i ∧ at_ (T ++ [x]) b = j) ↔ ∃ a b, E a b ∧ at_ T a = i ∧ at_ T b = j := by
          constructor <;> rintro ⟨a, b, z, z1, z2⟩ <;> refine ⟨a, b, z, ?_⟩
          · rw [at_app _ _ _ (hE a b z).1] at z1; rw [at_app _ _ _ (hE a b z).2] at z2; exact ⟨z1, z2⟩
          · rw [at_app _ _ _ (hE a b z).1, at_app _ _ _ (hE a b z).2]; exact ⟨z1, z2⟩
        rw [e2]
        unfold M at he ⊢
        rw [R_set U T.length _ (by rw [hU.1]; omega) i]
        by_cases e : i = T.length
        · subst e
          rw [if_pos rfl, pow_bit, decide_eq_true_iff]
          constructor
          · intro z; exact .inl ⟨by simp, z⟩
          · rintro (z | ⟨a, b, z, z1, z2⟩)
            · exact z.2
            · have := at_lt T a (hE a b z).1; omega
        · rw [if_neg e, he i j]
          constructor
          · rintro (z | z)
            · exact .inl ⟨by simp; omega, z.2⟩
            · exact .inr z
          · rintro (z | z)
            · exact .inl ⟨by have := z.1; simp at this; omega, z.2⟩
            · exact .inr z

theorem addP_at {T : List ByteArray} {U : List Nat} {x : ByteArray} {r : Nat × List ByteArray × List Nat} (h : addP T U x = some r) : ∀ y ∈ T, at_ r.2.1 y = at_ T y := by
  unfold addP at h
  split at h
  · injection h with h; subst h; intro y _; rfl
  · split at h
    · cases h
    · injection h with h; subst h
      intro y hy; exact at_app T x y hy
/-- The pairs' edges, by names. -/
def Edge (P : List S25) (a b : ByteArray) : Prop := ∃ p ∈ P, p.f1 ≠ (⟨#[]⟩ : ByteArray) ∧ p.f0 = a ∧ p.f1 = b
theorem edge_iff (P : List S25) (T : List ByteArray) (i j : Nat) : (∃ p ∈ P, p.f1 ≠ (⟨#[]⟩ : ByteArray) ∧ at_ T p.f0 = i ∧ at_ T p.f1 = j) ↔ ∃ a b, Edge P a b ∧ at_ T a = i ∧ at_ T b = j := by
  constructor
  · rintro ⟨p, hp, h1, h2, h3⟩; exact ⟨p.f0, p.f1, ⟨p, hp, h1, rfl, rfl⟩, h2, h3⟩
  · rintro ⟨a, b, ⟨p, hp, h1, rfl, rfl⟩, h2, h3⟩; exact ⟨p, hp, h1, h2, h3⟩
theorem pair_inv {P : List S25} {T : List ByteArray} {U : List Nat} (h : Inv P T U) (p : S25) (h0 : (pairP T U p).1 = 0) : Inv (P ++ [p]) (pairP T U p).2.1 (pairP T U p).2.2 := by
  have hE : ∀ a b, Edge P a b → a ∈ T ∧ b ∈ T := by
    rintro a b ⟨q, hq, h1, rfl, rfl⟩
    exact ⟨(h.mem _).2 ⟨q, hq, .inl rfl⟩, (h.mem _).2 ⟨q, hq, .inr ⟨rfl, h1⟩⟩⟩
  have he : ∀ i j, M U i j ↔ (i < T.length ∧ i = j) ∨ ∃ a b, Edge P a b ∧ at_ T a = i ∧ at_ T b = j := fun i j => by rw [← edge_iff]; exact h.edge i j
  have okp := pairP_ok (p := p) h.le h.ok
  unfold pairP at h0 okp ⊢
  split at h0
  · rename_i hid
    rw [if_pos hid] at okp ⊢
    cases ha : addP T U p.f0 with
    | none => rw [ha] at h0; simp at h0
    | some a =>
      obtain ⟨ai, aT, aU⟩ := a
      obtain ⟨q1, q2, q3, q4⟩ := addP_ok h.le h.ok ha
      obtain ⟨z1, z2, z3, z4⟩ := add_inv h.nd h.le h.ok hE he ha
      rw [ha] at h0 okp
      dsimp only at h0 okp q1 q2 q3 q4 z1 z2 z3 z4 ⊢
      by_cases h1 : p.f1 = (⟨#[]⟩ : ByteArray)
      · rw [if_pos h1]
        refine ⟨z1, q2, q3, fun x => ?_, fun i j => ?_⟩
        · dsimp only
          rw [z2 x, h.mem x]
          constructor
          · rintro (⟨q, hq, z⟩ | z)
            · exact ⟨q, by simp [hq], z⟩
            · exact ⟨p, by simp, .inl z.symm⟩
          · rintro ⟨q, hq, z⟩
            rw [List.mem_append, List.mem_singleton] at hq
            rcases hq with hq | hq
            · exact .inl ⟨q, hq, z⟩
            · subst hq
              rcases z with z | z
              · exact .inr z.symm
              · exact absurd h1 z.2
        · dsimp only
          rw [z4 i j, ← edge_iff]
          have : (∃ q ∈ P ++ [p], q.f1 ≠ (⟨#[]⟩ : ByteArray) ∧ at_ aT q.f0 = i ∧ at_ aT q.f1 = j) ↔ ∃ q ∈ P, q.f1 ≠ (⟨#[]⟩ : ByteArray) ∧ at_ aT q.f0 = i ∧ at_ aT q.f1 = j := by
            constructor
            · rintro ⟨q, hq, z⟩
              rw [List.mem_append, List.mem_singleton] at hq
              rcases hq with hq | hq
              · exact ⟨q, hq, z⟩
              · subst hq; exact absurd h1 z.1
            · rintro ⟨q, hq, z⟩; exact ⟨q, by simp [hq], z⟩
          rw [this]
      · rw [if_neg h1] at h0 okp ⊢
        have hE2 : ∀ a b, Edge P a b → a ∈ aT ∧ b ∈ aT := fun a b z => ⟨(z2 a).2 (.inl (hE a b z).1), (z2 b).2 (.inl (hE a b z).2)⟩
        cases hb : addP aT aU p.f1 with
        | none => rw [hb] at h0; simp at h0
        | some b =>
          obtain ⟨bi, bT, bU⟩ := b
          obtain ⟨y1, y2, y3, y4⟩ := addP_ok q2 q3 hb
          obtain ⟨x1, x2, x3, x4⟩ := add_inv z1 q2 q3 hE2 z4 hb
          have xa := addP_at hb
          rw [hb] at okp
          dsimp only at okp y1 y2 y3 y4 x1 x2 x3 x4 xa ⊢
          have e0 : at_ bT p.f0 = ai := by rw [xa p.f0 ((z2 _).2 (.inr rfl)), z3]
          refine ⟨x1, y2, okp.2, fun x => ?_, fun i j => ?_⟩
          · rw [x2 x, z2 x, h.mem x]
            constructor
            · rintro ((⟨q, hq, z⟩ | z) | z)
              · exact ⟨q, by simp [hq], z⟩
              · exact ⟨p, by simp, .inl z.symm⟩
              · exact ⟨p, by simp, .inr ⟨z.symm, h1⟩⟩
            · rintro ⟨q, hq, z⟩
              rw [List.mem_append, List.mem_singleton] at hq
              rcases hq with hq | hq
              · exact .inl (.inl ⟨q, hq, z⟩)
              · subst hq
                rcases z with z | z
                · exact .inl (.inr z.symm)
                · exact .inr z.1.symm
          · have : (∃ q ∈ P ++ [p], q.f1 ≠ (⟨#[]⟩ : ByteArray) ∧ at_ bT q.f0 = i ∧ at_ bT q.f1 = j) ↔ (∃ q ∈ P, q.f1 ≠ (⟨#[]⟩ : ByteArray) ∧ at_ bT q.f0 = i ∧ at_ bT q.f1 = j) ∨ (i = ai ∧ j = bi) := by
              constructor
              · rintro ⟨q, hq, z⟩
                rw [List.mem_append, List.mem_singleton] at hq
                rcases hq with hq | hq
                · exact .inl ⟨q, hq, z⟩
                · subst hq; exact .inr ⟨by rw [← z.2.1, e0], by rw [← z.2.2, x3]⟩
              · rintro (⟨q, hq, z⟩ | ⟨rfl, rfl⟩)
                · exact ⟨q, by simp [hq], z⟩
                · exact ⟨p, by simp, h1, e0, x3.symm⟩
            rw [this, edge_iff, ← or_assoc, ← x4 i j]
            unfold M
            rw [R_set bU ai _ (by rw [y3.1]; omega) i]
            by_cases e : i = ai
            · subst e
              rw [if_pos rfl, Nat.testBit_or, Bool.or_eq_true, pow_bit, decide_eq_true_iff]
              constructor
              · rintro (z | z)
                · exact .inl z
                · exact .inr ⟨rfl, z.symm⟩
              · rintro (z | z)
                · exact .inl z
                · exact .inr z.2.symm
            · rw [if_neg e]
              constructor
              · exact .inl
              · rintro (z | z)
                · exact z
                · exact absurd z.1 e
  · simp at h0
theorem inv_nil : Inv [] [] Z64 := ⟨by simp, by simp, Z_ok, fun x => by simp, fun i j => by simp [Z_M]⟩
theorem build_inv (L : List S25) : ∀ (P : List S25) (i : Nat) (T : List ByteArray) (U : List Nat), Inv P T U → (build L i T U).1 = 0 → Inv (P ++ L) (build L i T U).2.2.1 (build L i T U).2.2.2 := by
  induction L with
  | nil => intro P i T U h _; rw [List.append_nil]; exact h
  | cons p L ih =>
    intro P i T U h h0
    rw [build] at h0 ⊢
    by_cases e : (pairP T U p).1 = 0
    · rw [if_pos e] at h0 ⊢
      have := ih (P ++ [p]) (i + 1) _ _ (pair_inv h p e) h0
      simpa using this
    · rw [if_neg e] at h0; exact absurd h0 e
theorem inv_bd {P : List S25} {T : List ByteArray} {U : List Nat} (h : Inv P T U) (i j : Nat) (m : M U i j) : i < T.length ∧ j < T.length := by
  rcases (h.edge i j).1 m with z | ⟨p, hp, h1, h2, h3⟩
  · exact ⟨z.1, by rw [← z.2]; exact z.1⟩
  · subst h2; subst h3
    exact ⟨at_lt T _ ((h.mem _).2 ⟨p, hp, .inl rfl⟩), at_lt T _ ((h.mem _).2 ⟨p, hp, .inr ⟨rfl, h1⟩⟩)⟩
theorem inv_closed {P : List S25} {T : List ByteArray} {U : List Nat} (h : Inv P T U) : Cl T.length U (allRows T.length T.length 0 U) T.length :=
  closed h.le h.ok (fun i hi => (h.edge i i).2 (.inl ⟨hi, rfl⟩)) (inv_bd h)
theorem new_l1 (L : List S25) (hL : L.length ≤ 1000000) (d : Nat) : ∀ (k i : Nat) (T : List ByteArray) (U : List Nat), Inv (L.take i) T U → i ≤ L.length → L.length - i = d → 10000 + L.length + d < k →
    order_New.l1 k L (i : Int) T (idx T) (N U) = some (match build (L.drop i) i T U with
      | (e, i, T, U) => if e = 0 then (match turned T (allRows T.length T.length 0 U) L 0 with | some j => (none, (j : Int), 16) | none => (some (ordOf T U), 0, 0)) else (none, (i : Int), e)) := by
  induction d with
  | zero =>
    intro k i T U h hi hd hk
    obtain ⟨k, rfl⟩ : ∃ n, k = n + 1 := ⟨k - 1, by omega⟩
    have hT := h.le
    have hc := inv_closed h
    rw [order_New.l1, if_neg (by omega), List.drop_eq_nil_of_le (by omega), ← Z_N, close_tells T hT _ U Z64 h.ok Z_ok k (by omega), Option.bind_some, build]
    dsimp only
    rw [if_pos rfl]
    have hm : ∀ p ∈ L, p.f0 ∈ T ∧ (p.f1 ≠ (⟨#[]⟩ : ByteArray) → p.f1 ∈ T) := by
      intro p hp
      have hp' : p ∈ L.take i := by rw [List.take_of_length_le (by omega)]; exact hp
      exact ⟨(h.mem _).2 ⟨p, hp', .inl rfl⟩, fun z => (h.mem _).2 ⟨p, hp', .inr ⟨rfl, z⟩⟩⟩
    have := new_l0 T hT (allRows T.length T.length 0 U) hc.ok (N (allDown (allRows T.length T.length 0 U) T.length T.length 0 Z64)) L hL hm hc.bd L.length k 0 (by omega) (by omega) (by omega)
    rw [List.drop_zero] at this
    exact this
  | succ d ih =>
    intro k i T U h hi hd hk
    obtain ⟨k, rfl⟩ : ∃ n, k = n + 1 := ⟨k - 1, by omega⟩
    rw [order_New.l1, if_pos (by omega), if_pos (by omega), rd25 L i (by omega), ← Z_N, pair_tells k (by omega) T h.le U h.ok _ L[i], Option.bind_some, List.drop_eq_getElem_cons (by omega), build]
    dsimp only
    by_cases e : (pairP T U L[i]).1 = 0
    · rw [if_pos e, if_pos e, wrap64_id (by omega) (by omega), show (i : Int) + 1 = ((i + 1 : Nat) : Int) by omega]
      refine ih k (i + 1) _ _ ?_ (by omega) (by omega) (by omega)
      have := pair_inv h L[i] e
      rwa [List.take_append_getElem (by omega)] at this
    · rw [if_neg e, if_neg e]
      dsimp only
      rw [if_neg e]
theorem new_tells (k : Nat) (L : List S25) (hL : L.length ≤ 1000000) (hk : 10000 + 2 * L.length < k) : order_New.f k L = some (newP L) := by
  have := new_l1 L hL L.length k 0 [] Z64 inv_nil (by omega) (by omega) (by omega)
  rw [List.drop_zero] at this
  unfold order_New.f
  rw [← Z_N]
  exact this

theorem awake_at (k : Nat) : blazonlaw13_awake.f (k + 100) = some true := by kernel_rfl
theorem awake_tells (k : Nat) (h : 100 ≤ k) : blazonlaw13_awake.f k = some true := by
  obtain ⟨k, rfl⟩ : ∃ n, k = n + 100 := ⟨k - 100, by omega⟩
  exact awake_at k

theorem nodup_len {α : Type} [DecidableEq α] {T : List α} : ∀ {W : List α}, T.Nodup → (∀ x ∈ T, x ∈ W) → T.length ≤ W.length := by
  induction T with
  | nil => intro W _ _; simp
  | cons t T ih =>
    intro W hn hs
    have hc := List.nodup_cons.1 hn
    have h1 := ih (W := W.filter fun y => decide (y ≠ t)) hc.2 (fun x hx => by
      rw [List.mem_filter]
      refine ⟨hs x (List.mem_cons_of_mem _ hx), ?_⟩
      rw [decide_eq_true_iff]
      exact fun e => hc.1 (e ▸ hx))
    have h2 : (W.filter fun y => decide (y ≠ t)).length < W.length := by
      rw [List.length_filter_lt_length_iff_exists]
      exact ⟨t, hs t (List.mem_cons_self ..), by simp⟩
    rw [List.length_cons]
    omega
theorem pair_code (T : List ByteArray) (U : List Nat) (p : S25) : (pairP T U p).1 = 0 ∨ (pairP T U p).1 = 1 ∨ (pairP T U p).1 = 8 := by
  unfold pairP
  split
  · cases addP T U p.f0 with
    | none => exact .inr (.inr rfl)
    | some a =>
      dsimp only
      split
      · exact .inl rfl
      · cases addP a.2.1 a.2.2 p.f1 with
        | none => exact .inr (.inr rfl)
        | some b => exact .inl rfl
  · exact .inr (.inl rfl)
theorem build_code (L : List S25) : ∀ (i : Nat) (T : List ByteArray) (U : List Nat), (build L i T U).1 = 0 ∨ (build L i T U).1 = 1 ∨ (build L i T U).1 = 8 := by
  induction L with
  | nil => intro i T U; exact .inl rfl
  | cons p L ih =>
    intro i T U
    rw [build]
    split
    · exact ih _ _ _
    · exact pair_code T U p
theorem pair_id (T : List ByteArray) (U : List Nat) (p : S25) (h : (pairP T U p).1 = 0) : identB p.f0 = true ∧ (p.f1 = (⟨#[]⟩ : ByteArray) ∨ identB p.f1 = true) := by
  unfold pairP at h
  split at h
  · rename_i hid; exact hid
  · simp at h
theorem build_id (L : List S25) : ∀ (i : Nat) (T : List ByteArray) (U : List Nat), (build L i T U).1 = 0 → ∀ p ∈ L, identB p.f0 = true ∧ (p.f1 = (⟨#[]⟩ : ByteArray) ∨ identB p.f1 = true) := by
  induction L with
  | nil => intro i T U _ p hp; simp at hp
  | cons q L ih =>
    intro i T U h p hp
    rw [build] at h
    by_cases e : (pairP T U q).1 = 0
    · rw [if_pos e] at h
      rcases List.mem_cons.1 hp with z | z
      · subst z; exact pair_id T U p e
      · exact ih _ _ _ h p z
    · rw [if_neg e] at h; exact absurd h e
theorem addP_some {T W : List ByteArray} {U : List Nat} {x : ByteArray} (hW : W.length ≤ 64) (nd : T.Nodup) (hs : ∀ y ∈ T, y ∈ W) (hx : x ∈ W) : ∃ r, addP T U x = some r ∧ r.2.1.Nodup ∧ ∀ y ∈ r.2.1, y ∈ W := by
  unfold addP
  by_cases h : x ∈ T
  · rw [if_pos h]; exact ⟨_, rfl, nd, hs⟩
  · have nd2 : (T ++ [x]).Nodup := by
      rw [List.nodup_append]
      exact ⟨nd, by simp, fun a ha b hb e => by simp at hb; subst hb; exact h (e ▸ ha)⟩
    have hs2 : ∀ y ∈ T ++ [x], y ∈ W := fun y hy => by
      rw [List.mem_append, List.mem_singleton] at hy
      rcases hy with z | z
      · exact hs y z
      · exact z ▸ hx
    have := nodup_len nd2 hs2
    rw [List.length_append, List.length_singleton] at this
    rw [if_neg h, if_neg (by omega)]
    exact ⟨_, rfl, nd2, hs2⟩
theorem build_succ {W : List ByteArray} (hW : W.length ≤ 64) (L : List S25) : ∀ (i : Nat) (T : List ByteArray) (U : List Nat), T.Nodup → (∀ y ∈ T, y ∈ W) → (∀ p ∈ L, (identB p.f0 = true ∧ (p.f1 = (⟨#[]⟩ : ByteArray) ∨ identB p.f1 = true)) ∧ p.f0 ∈ W ∧ (p.f1 ≠ (⟨#[]⟩ : ByteArray) → p.f1 ∈ W)) → (build L i T U).1 = 0 := by
  induction L with
  | nil => intro i T U _ _ _; rfl
  | cons p L ih =>
    intro i T U nd hs hL
    have hp := hL p (List.mem_cons_self ..)
    have nx : ∀ T' U' i, T'.Nodup → (∀ y ∈ T', y ∈ W) → (build L i T' U').1 = 0 := fun T' U' i a b => ih i T' U' a b (fun q hq => hL q (List.mem_cons_of_mem _ hq))
    obtain ⟨a, ha, na, sa⟩ := addP_some (U := U) hW nd hs hp.2.1
    have hpair : (pairP T U p).1 = 0 ∧ (pairP T U p).2.1.Nodup ∧ ∀ y ∈ (pairP T U p).2.1, y ∈ W := by
      unfold pairP
      rw [if_pos hp.1, ha]
      dsimp only
      by_cases h1 : p.f1 = (⟨#[]⟩ : ByteArray)
      · rw [if_pos h1]; exact ⟨rfl, na, sa⟩
      · obtain ⟨b, hb, nb, sb⟩ := addP_some (U := a.2.2) hW na sa (hp.2.2 h1)
        rw [if_neg h1, hb]
        exact ⟨rfl, nb, sb⟩
    rw [build, if_pos hpair.1]
    exact nx _ _ _ hpair.2.1 hpair.2.2
/-- An order's rows. -/
def cl (T : List ByteArray) (U : List Nat) : List Nat := allRows T.length T.length 0 U
theorem nm_at (T : List ByteArray) (x : ByteArray) (h : x ∈ T) : T.getD (at_ T x) (⟨#[]⟩ : ByteArray) = x := by
  have hl := at_lt T x h
  rw [List.getD_eq_getElem?_getD, List.getElem?_eq_getElem hl]
  exact at_get T x h
theorem flip {P Q : List S25} {T T' : List ByteArray} {U U' : List Nat} (h : Inv P T U) (h' : Inv Q T' U') (hs : ∀ x ∈ T, x ∈ T') (he : ∀ a b, Edge P a b → Edge Q b a) {a b : ByteArray} (ha : a ∈ T) (hb : b ∈ T)
    (m : M (cl T U) (at_ T a) (at_ T b)) : M (cl T' U') (at_ T' b) (at_ T' a) := by
  have hc := inv_closed h
  have hc' := inv_closed h'
  have key := hc.le (fun i j => M (cl T' U') (at_ T' (T.getD j (⟨#[]⟩ : ByteArray))) (at_ T' (T.getD i (⟨#[]⟩ : ByteArray)))) (fun x y z u v => trans_ hc' v u) (fun i j z => by
    rcases (h.edge i j).1 z with z | ⟨p, hp, h1, h2, h3⟩
    · obtain ⟨z1, rfl⟩ := z
      have : T.getD i (⟨#[]⟩ : ByteArray) ∈ T' := by
        apply hs
        rw [List.getD_eq_getElem?_getD, List.getElem?_eq_getElem z1]
        exact List.getElem_mem _
      exact hc'.rf _ (at_lt T' _ this)
    · subst h2; subst h3
      rw [nm_at T p.f1 ((h.mem _).2 ⟨p, hp, .inr ⟨rfl, h1⟩⟩), nm_at T p.f0 ((h.mem _).2 ⟨p, hp, .inl rfl⟩)]
      obtain ⟨q, hq, q1, q2, q3⟩ := he p.f0 p.f1 ⟨p, hp, h1, rfl, rfl⟩
      exact hc'.up _ _ ((h'.edge _ _).2 (.inr ⟨q, hq, q1, by rw [q2], by rw [q3]⟩))) _ _ m
  rw [nm_at T a ha, nm_at T b hb] at key
  exact key
theorem great_l0 (L : List S25) (m : Int) (hm : m ≤ 1000) (d : Nat) : ∀ (k i : Nat), i ≤ L.length → L.length - i = d → L.length ≤ 10000000000000 → 3 * d + 2 ≤ k → ∃ b, blazonref13_Great.l0 k m L (i : Int) = some b ∧ (b = false → (L.length : Int) ≤ m) := by
  induction d with
  | zero =>
    intro k i hi hd hL hk
    obtain ⟨k, rfl⟩ : ∃ n, k = n + 2 := ⟨k - 2, by omega⟩
    refine ⟨decide ((L.length : Int) > m), ?_, fun h => by simpa using h⟩
    rw [blazonref13_Great.l0, if_neg (by omega), blazonref13_Great.j1, if_neg (by decide)]
  | succ d ih =>
    intro k i hi hd hL hk
    obtain ⟨k, rfl⟩ : ∃ n, k = n + 3 := ⟨k - 3, by omega⟩
    rw [blazonref13_Great.l0, if_pos (by omega), blazonref13_Great.j1]
    by_cases h : (i : Int) < m
    · have fin : ∀ b, ∃ r, blazonref13_Great.j0 (k + 1) m L (i : Int) b = some r ∧ (r = false → (L.length : Int) ≤ m) := by
        intro b
        rw [blazonref13_Great.j0]
        cases b with
        | true => exact ⟨true, by rw [if_pos rfl], fun h => by cases h⟩
        | false =>
          rw [if_neg (by decide), wrap64_id (by omega) (by omega), show (i : Int) + 1 = ((i + 1 : Nat) : Int) by omega]
          exact ih k (i + 1) (by omega) (by omega) hL (by omega)
      rw [if_pos (by simpa using h), if_pos (by omega), if_pos (by omega)]
      split
      · exact fin _
      · exact fin _
    · rw [if_neg (by simpa using h)]
      exact ⟨decide ((L.length : Int) > m), rfl, fun h => by simpa using h⟩
theorem great_tells (k : Nat) (L : List S25) (m : Int) (hm : m ≤ 1000) (hL : L.length ≤ 10000000000000) (hk : 3 * L.length + 2 ≤ k) : ∃ b, blazonref13_Great.f k L m = some b ∧ (b = false → (L.length : Int) ≤ m) :=
  great_l0 L m hm L.length k 0 (by omega) (by omega) hL hk
theorem lim40 {n : Nat} (h : n * 40 ≤ 140737488351232) : n ≤ 3518437208781 := by omega
/-- An order that is told, and one that isn't. -/
theorem newP_bad {L : List S25} (h : (build L 0 [] Z64).1 ≠ 0) : (newP L).1 = none ∧ (newP L).2.2 ≠ 0 ∧ (newP L).2.2 ≠ 16 := by
  have hc := build_code L 0 [] Z64
  unfold newP
  generalize build L 0 [] Z64 = B at *
  obtain ⟨e, i, T, U⟩ := B
  dsimp only at h hc ⊢
  rw [if_neg h]
  dsimp only
  refine ⟨rfl, h, ?_⟩
  rcases hc with z | z | z <;> rw [z] <;> decide
theorem newP_good {L : List S25} (h : (build L 0 [] Z64).1 = 0) : ∃ T U, Inv L T U ∧ newP L = (match turned T (cl T U) L 0 with | some j => (none, (j : Int), 16) | none => (some (ordOf T U), 0, 0)) := by
  have hi := build_inv L [] 0 [] Z64 inv_nil h
  rw [List.nil_append] at hi
  refine ⟨_, _, hi, ?_⟩
  unfold newP cl
  generalize build L 0 [] Z64 = B at *
  obtain ⟨e, i, T, U⟩ := B
  dsimp only at h ⊢
  rw [if_pos h]

theorem most_ord {P : List S25} {T : List ByteArray} {U : List Nat} (h : Inv P T U) (a b : Nat) : order_Order_Most.f (some (ordOf T U)) (a : Int) (b : Int) = some (decide (M (cl T U) a b)) := by
  have hc := inv_closed h
  have := most_tells T h.le (idx T) (cl T U) hc.ok (N (allDown (allRows T.length T.length 0 U) T.length T.length 0 Z64)) a b
  have e : ordOf T U = ⟨T, idx T, N (cl T U), N (allDown (allRows T.length T.length 0 U) T.length T.length 0 Z64)⟩ := rfl
  rw [e, this]
  congr 1
  rw [Bool.eq_iff_iff, decide_eq_true_iff, decide_eq_true_iff]
  exact ⟨fun z => z.2.2, fun z => ⟨(hc.bd _ _ z).1, (hc.bd _ _ z).2, z⟩⟩

/-- Digits of a base, the least first. -/
def val (B : Nat) : List Nat → Nat
  | [] => 0
  | d :: r => d + B * val B r
theorem and_split (k a b c d : Nat) (ha : a < 2 ^ k) (hc : c < 2 ^ k) : (a + 2 ^ k * b) &&& (c + 2 ^ k * d) = (a &&& c) + 2 ^ k * (b &&& d) := by
  have h1 : ((a + 2 ^ k * b) &&& (c + 2 ^ k * d)) % 2 ^ k = a &&& c := by
    rw [Nat.and_mod_two_pow, Nat.add_mul_mod_self_left, Nat.add_mul_mod_self_left, Nat.mod_eq_of_lt ha, Nat.mod_eq_of_lt hc]
  have h2 : ((a + 2 ^ k * b) &&& (c + 2 ^ k * d)) / 2 ^ k = b &&& d := by
    rw [Nat.and_div_two_pow, Nat.add_mul_div_left _ _ (Nat.two_pow_pos k), Nat.add_mul_div_left _ _ (Nat.two_pow_pos k), Nat.div_eq_of_lt ha, Nat.div_eq_of_lt hc, Nat.zero_add, Nat.zero_add]
  rw [← h1, ← h2]
  exact (Nat.mod_add_div _ _).symm
/-- Two digits in one. -/
def two (B : Nat) (ps : List (Nat × Nat)) : List Nat := ps.map fun p => p.1 + B * p.2
/-- Every other digit is let through. -/
def msk (B n : Nat) : Nat := val (B * B) (List.replicate n (B - 1))
theorem and_low (w n d : Nat) (h : d < 2 ^ w) : d &&& (2 ^ w - 1) = d := by
  rw [Nat.and_two_pow_sub_one_eq_mod, Nat.mod_eq_of_lt h]
theorem sq (w : Nat) : 2 ^ w * 2 ^ w = 2 ^ (w + w) := by rw [← Nat.pow_add]
theorem low_lt (w : Nat) : 2 ^ w - 1 < 2 ^ (w + w) := by
  have := Nat.two_pow_pos w
  have h2 : 2 ^ w ≤ 2 ^ (w + w) := Nat.pow_le_pow_right (by decide) (by omega)
  omega
theorem two_lt {w a b : Nat} (ha : a < 2 ^ w) (hb : b < 2 ^ w) : a + 2 ^ w * b < 2 ^ (w + w) := by
  rw [← sq]
  have : 2 ^ w * b ≤ 2 ^ w * (2 ^ w - 1) := Nat.mul_le_mul_left _ (by omega)
  have h1 : 2 ^ w * (2 ^ w - 1) + 2 ^ w = 2 ^ w * 2 ^ w := by
    have := Nat.two_pow_pos w
    rw [← Nat.mul_succ, Nat.succ_eq_add_one, Nat.sub_add_cancel (by omega)]
  omega
theorem even_and (w : Nat) : ∀ ps : List (Nat × Nat), (∀ p ∈ ps, p.1 < 2 ^ w ∧ p.2 < 2 ^ w) → val (2 ^ w * 2 ^ w) (two (2 ^ w) ps) &&& msk (2 ^ w) ps.length = val (2 ^ w * 2 ^ w) (ps.map (·.1))
  | [], _ => by simp [two, val, msk]
  | p :: ps, h => by
    have hp := h p (by simp)
    have ih := even_and w ps (fun q hq => h q (by simp [hq]))
    unfold msk at ih ⊢
    simp only [two, List.map_cons, List.length_cons, List.replicate_succ, val]
    rw [sq] at ih ⊢
    rw [and_split _ _ _ _ _ (two_lt hp.1 hp.2) (low_lt w)]
    unfold two at ih
    rw [ih]
    congr 1
    have : (p.1 + 2 ^ w * p.2) &&& (2 ^ w - 1) = p.1 := by rw [Nat.and_two_pow_sub_one_eq_mod, Nat.add_mul_mod_self_left, Nat.mod_eq_of_lt hp.1]
    exact this
theorem odd_and (w : Nat) : ∀ ps : List (Nat × Nat), (∀ p ∈ ps, p.1 < 2 ^ w ∧ p.2 < 2 ^ w) → (val (2 ^ w * 2 ^ w) (two (2 ^ w) ps) / 2 ^ w) &&& msk (2 ^ w) ps.length = val (2 ^ w * 2 ^ w) (ps.map (·.2))
  | [], _ => by simp [two, val, msk]
  | p :: ps, h => by
    have hp := h p (by simp)
    have ih := odd_and w ps (fun q hq => h q (by simp [hq]))
    unfold msk at ih ⊢
    simp only [two, List.map_cons, List.length_cons, List.replicate_succ, val]
    unfold two at ih
    generalize val (2 ^ w * 2 ^ w) (ps.map fun p => p.1 + 2 ^ w * p.2) = R at ih ⊢
    have e : (p.1 + 2 ^ w * p.2 + 2 ^ w * 2 ^ w * R) / 2 ^ w = (p.2 + 2 ^ w * (R % 2 ^ w)) + 2 ^ w * 2 ^ w * (R / 2 ^ w) := by
      rw [Nat.mul_assoc, Nat.add_assoc, ← Nat.mul_add, Nat.add_mul_div_left _ _ (Nat.two_pow_pos w), Nat.div_eq_of_lt hp.1, Nat.zero_add]
      have := Nat.mod_add_div R (2 ^ w)
      rw [Nat.mul_assoc, Nat.add_assoc, ← Nat.mul_add, this]
    rw [e]
    rw [sq] at ih ⊢
    rw [and_split _ _ _ _ _ (two_lt hp.2 (Nat.mod_lt _ (Nat.two_pow_pos w))) (low_lt w), ih]
    congr 1
    rw [Nat.and_two_pow_sub_one_eq_mod, Nat.add_mul_mod_self_left, Nat.mod_eq_of_lt hp.2]
/-- Digits by twos. -/
def pr : List Nat → List (Nat × Nat)
  | a :: b :: r => (a, b) :: pr r
  | _ => []
theorem pr_val (B : Nat) : ∀ (n : Nat) (l : List Nat), l.length = 2 * n → val (B * B) (two B (pr l)) = val B l ∧ (pr l).length = n
  | 0, [], _ => ⟨rfl, rfl⟩
  | n + 1, a :: b :: r, h => by
    obtain ⟨h1, h2⟩ := pr_val B n r (by simp at h; omega)
    constructor
    · simp only [pr, two, List.map_cons, val]
      unfold two at h1
      rw [h1, Nat.mul_add, ← Nat.mul_assoc, Nat.add_assoc]
    · simp [pr, h2]
theorem pr_mem : ∀ (l : List Nat) (p : Nat × Nat), p ∈ pr l → p.1 ∈ l ∧ p.2 ∈ l
  | a :: b :: r, p, h => by
    simp only [pr, List.mem_cons] at h
    rcases h with rfl | h
    · simp
    · have := pr_mem r p h
      exact ⟨by simp [this.1], by simp [this.2]⟩
def sums (l : List Nat) : List Nat := (pr l).map fun p => p.1 + p.2
theorem sums_sum : ∀ (n : Nat) (l : List Nat), l.length = 2 * n → (sums l).sum = l.sum ∧ (sums l).length = n
  | 0, [], _ => ⟨rfl, rfl⟩
  | n + 1, a :: b :: r, h => by
    obtain ⟨h1, h2⟩ := sums_sum n r (by simp at h; omega)
    unfold sums at h1 h2 ⊢
    constructor
    · simp only [pr, List.map_cons, List.sum_cons, h1]; omega
    · simp only [pr, List.map_cons, List.length_cons, h2]
theorem sums_le (l : List Nat) (b : Nat) (h : ∀ x ∈ l, x ≤ b) : ∀ x ∈ sums l, x ≤ b + b := by
  intro x hx
  obtain ⟨p, hp, rfl⟩ := List.mem_map.1 hx
  have := pr_mem l p hp
  have h1 := h _ this.1
  have h2 := h _ this.2
  omega
theorem val_add (B : Nat) : ∀ (ps : List (Nat × Nat)), val B (ps.map (·.2)) + val B (ps.map (·.1)) = val B (ps.map fun p => p.1 + p.2)
  | [] => rfl
  | p :: ps => by
    have ih := val_add B ps
    simp only [List.map_cons, val]
    rw [← ih, Nat.mul_add]; omega
/-- One round of counting: neighbours are added. -/
theorem pop_round (w n : Nat) (l : List Nat) (hl : l.length = 2 * n) (hb : ∀ x ∈ l, x < 2 ^ w) : ((val (2 ^ w) l / 2 ^ w) &&& msk (2 ^ w) n) + (val (2 ^ w) l &&& msk (2 ^ w) n) = val (2 ^ w * 2 ^ w) (sums l) := by
  obtain ⟨h1, h2⟩ := pr_val (2 ^ w) n l hl
  have hm : ∀ p ∈ pr l, p.1 < 2 ^ w ∧ p.2 < 2 ^ w := fun p hp => ⟨hb _ (pr_mem l p hp).1, hb _ (pr_mem l p hp).2⟩
  have e1 := even_and w (pr l) hm
  have e2 := odd_and w (pr l) hm
  rw [h1, h2] at e1 e2
  rw [e1, e2, val_add]
  rfl
def toD : Nat → Nat → List Nat
  | 0, _ => []
  | n + 1, x => x % 2 :: toD n (x / 2)
theorem toD_val : ∀ (n x : Nat), x < 2 ^ n → val 2 (toD n x) = x
  | 0, x, h => by simp at h; simp [toD, val, h]
  | n + 1, x, h => by
    rw [toD, val, toD_val n (x / 2) (by rw [Nat.pow_succ] at h; omega)]
    omega
theorem toD_len : ∀ (n x : Nat), (toD n x).length = n
  | 0, _ => rfl
  | n + 1, x => by rw [toD, List.length_cons, toD_len n]
theorem toD_lt : ∀ (n x : Nat), ∀ d ∈ toD n x, d ≤ 1
  | n + 1, x, d, h => by
    rw [toD, List.mem_cons] at h
    rcases h with rfl | h
    · omega
    · exact toD_lt n _ d h
/-- How many bits are set. -/
def pc (x : Nat) : Nat := (toD 64 x).sum
theorem val_lt (B : Nat) (hB : 0 < B) : ∀ l : List Nat, (∀ d ∈ l, d < B) → val B l < B ^ l.length
  | [], _ => by simp [val]
  | d :: r, h => by
    have h1 := h d (by simp)
    have ih := val_lt B hB r (fun q hq => h q (by simp [hq]))
    rw [val, List.length_cons, Nat.pow_succ]
    have : B * (val B r + 1) ≤ B * B ^ r.length := Nat.mul_le_mul_left _ ih
    rw [Nat.mul_add, Nat.mul_one] at this
    rw [Nat.mul_comm (B ^ r.length)]
    omega
theorem div_of {x lo hi B : Nat} (h : x = lo + B * hi) (hl : lo < B) : x / B = hi := by
  rw [h, Nat.add_mul_div_left _ _ (by omega), Nat.div_eq_of_lt hl, Nat.zero_add]
def popN (x : Nat) : Nat :=
  let s1 := ((x / 2) &&& 6148914691236517205) + (x &&& 6148914691236517205)
  let s2 := ((s1 / 4) &&& 3689348814741910323) + (s1 &&& 3689348814741910323)
  let s3 := ((s2 / 16) + s2) &&& 1085102592571150095
  let s4 := s3 / 256 + s3
  let s5 := s4 / 65536 + s4
  (s5 / 4294967296 + s5) % 128
theorem nib (l : List Nat) (n : Nat) (hl : l.length = 2 * n) (hb : ∀ x ∈ l, x ≤ 4) : ((val 16 l / 16) + val 16 l) &&& msk 16 n = val 256 (sums l) := by
  have key : ∀ (n : Nat) (l : List Nat), l.length = 2 * n → (∀ x ∈ l, x ≤ 4) → ((val 16 l / 16) + val 16 l) &&& msk 16 n = val 256 (sums l) ∧ val 16 l % 16 ≤ 4 := by
    intro n
    induction n with
    | zero =>
      intro l hl hb
      have : l = [] := List.length_eq_zero_iff.1 (by omega)
      subst this
      simp [val, sums, pr, msk]
    | succ n ih =>
      intro l hl hb
      match l, hl with
      | a :: b :: r, hl =>
        have ha := hb a (by simp)
        have hb' := hb b (by simp)
        obtain ⟨h1, h2⟩ := ih r (by simp at hl; omega) (fun x hx => hb x (by simp [hx]))
        refine ⟨?_, by simp only [val]; omega⟩
        have hs : sums (a :: b :: r) = (a + b) :: sums r := by simp [sums, pr]
        rw [hs]
        simp only [val]
        have hm : msk 16 (n + 1) = 15 + 256 * msk 16 n := by simp [msk, List.replicate_succ, val]
        rw [hm, ← h1]
        generalize val 16 r = R at h2 ⊢
        generalize msk 16 n = M
        have e : (a + 16 * (b + 16 * R)) / 16 + (a + 16 * (b + 16 * R)) = (a + b + 16 * (b + R % 16)) + 2 ^ 8 * (R / 16 + R) := by omega
        rw [e, show 15 + 256 * M = 15 + 2 ^ 8 * M by omega, and_split 8 _ _ _ _ (by omega) (by decide), show (15 : Nat) = 2 ^ 4 - 1 by rfl, Nat.and_two_pow_sub_one_eq_mod]
        omega
  exact (key n l hl hb).1
set_option maxHeartbeats 4000000 in
theorem pop_nat (x : Nat) (hx : x < 2 ^ 64) : popN x = pc x := by
  have h0 := toD_val 64 x hx
  have l0 := toD_len 64 x
  have r1 := pop_round 1 32 (toD 64 x) l0 (fun d hd => by have := toD_lt 64 x d hd; omega)
  obtain ⟨s1, n1⟩ := sums_sum 32 _ l0
  have b1 := sums_le _ 1 (toD_lt 64 x)
  generalize hd1 : sums (toD 64 x) = D1 at *
  have r2 := pop_round 2 16 D1 n1 (fun d hd => by have := b1 d hd; omega)
  obtain ⟨s2, n2⟩ := sums_sum 16 _ n1
  have b2 := sums_le _ 2 b1
  generalize hd2 : sums D1 = D2 at *
  have r3 := nib D2 8 n2 b2
  obtain ⟨s3, n3⟩ := sums_sum 8 _ n2
  have b3 := sums_le _ 4 b2
  generalize hd3 : sums D2 = D3 at *
  have m1 : msk (2 ^ 1) 32 = 6148914691236517205 := by decide +kernel
  have m2 : msk (2 ^ 2) 16 = 3689348814741910323 := by decide +kernel
  have m3 : msk 16 8 = 1085102592571150095 := by decide +kernel
  rw [m1, show 2 ^ 1 = 2 from rfl, h0] at r1
  rw [m2, show 2 ^ 2 = 4 from rfl] at r2
  rw [m3] at r3
  unfold popN pc
  simp only
  rw [r1, show 2 * 2 = 4 from rfl, r2, show 4 * 4 = 16 from rfl, r3]
  match D3, n3 with
  | [d0, d1, d2, d3, d4, d5, d6, d7], _ =>
    have q0 := b3 d0 (by simp)
    have q1 := b3 d1 (by simp)
    have q2 := b3 d2 (by simp)
    have q3 := b3 d3 (by simp)
    have q4 := b3 d4 (by simp)
    have q5 := b3 d5 (by simp)
    have q6 := b3 d6 (by simp)
    have q7 := b3 d7 (by simp)
    have hs : (toD 64 x).sum = d0 + d1 + d2 + d3 + d4 + d5 + d6 + d7 := by
      rw [← s1, ← s2, ← s3]; simp; omega
    rw [hs]
    simp only [val, Nat.mul_zero, Nat.add_zero]
    have e4 : (d0 + 256 * (d1 + 256 * (d2 + 256 * (d3 + 256 * (d4 + 256 * (d5 + 256 * (d6 + 256 * d7))))))) / 256 = d1 + 256 * (d2 + 256 * (d3 + 256 * (d4 + 256 * (d5 + 256 * (d6 + 256 * d7))))) := by omega
    rw [e4]
    have e5 : (d1 + 256 * (d2 + 256 * (d3 + 256 * (d4 + 256 * (d5 + 256 * (d6 + 256 * d7))))) + (d0 + 256 * (d1 + 256 * (d2 + 256 * (d3 + 256 * (d4 + 256 * (d5 + 256 * (d6 + 256 * d7)))))))) / 65536 = (d2 + d3) + 256 * ((d3 + d4) + 256 * ((d4 + d5) + 256 * ((d5 + d6) + 256 * ((d6 + d7) + 256 * d7)))) := div_of (lo := (d0 + d1) + 256 * (d1 + d2)) (by omega) (by omega)
    rw [e5]
    generalize hv : (d2 + d3) + 256 * ((d3 + d4) + 256 * ((d4 + d5) + 256 * ((d5 + d6) + 256 * ((d6 + d7) + 256 * d7)))) + (d1 + 256 * (d2 + 256 * (d3 + 256 * (d4 + 256 * (d5 + 256 * (d6 + 256 * d7))))) + (d0 + 256 * (d1 + 256 * (d2 + 256 * (d3 + 256 * (d4 + 256 * (d5 + 256 * (d6 + 256 * d7)))))))) = V
    have hv2 : V = (d0 + d1 + d2 + d3) + 256 * ((d1 + d2 + d3 + d4) + 256 * ((d2 + d3 + d4 + d5) + 256 * ((d3 + d4 + d5 + d6) + 256 * ((d4 + d5 + d6 + d7) + 256 * ((d5 + d6 + d7) + 256 * ((d6 + d7) + 256 * d7)))))) := by omega
    have e6 : V / 4294967296 = (d4 + d5 + d6 + d7) + 256 * ((d5 + d6 + d7) + 256 * ((d6 + d7) + 256 * d7)) := div_of (lo := (d0 + d1 + d2 + d3) + 256 * ((d1 + d2 + d3 + d4) + 256 * ((d2 + d3 + d4 + d5) + 256 * (d3 + d4 + d5 + d6)))) (by omega) (by omega)
    rw [e6, hv2]
    generalize hq : (d1 + d2 + d3 + d4) + 256 * ((d2 + d3 + d4 + d5) + 256 * ((d3 + d4 + d5 + d6) + 256 * ((d4 + d5 + d6 + d7) + 256 * ((d5 + d6 + d7) + 256 * ((d6 + d7) + 256 * d7))))) = Q1
    generalize hq2 : (d5 + d6 + d7) + 256 * ((d6 + d7) + 256 * d7) = Q2
    omega

theorem count_tells (a : Nat) (h : a < 2 ^ 64) : bits_OnesCount64.f (a : Int) = some ((pc a : Nat) : Int) := by
  have h' : a < 18446744073709551616 := h
  have sh : ∀ (x : Nat) (c : Int) (k : Nat), 2 ^ min c.toNat IntKind.u64.bits = (k : Int) → shr .u64 (x : Int) c = ((x / k : Nat) : Int) := fun x c k e => by
    unfold shr; rw [e]; omega
  have s1 : shr .u64 (a : Int) 1 = ((a / 2 : Nat) : Int) := sh _ _ 2 (by decide)
  have a1 : Go.bits .and .u64 ((a / 2 : Nat) : Int) 6148914691236517205 = ((a / 2 &&& 6148914691236517205 : Nat) : Int) := u64_and_nat _ _ (by omega) (by decide)
  have a2 : Go.bits .and .u64 (a : Int) 6148914691236517205 = ((a &&& 6148914691236517205 : Nat) : Int) := u64_and_nat _ _ h' (by decide)
  have b1 : a / 2 &&& 6148914691236517205 ≤ 6148914691236517205 := Nat.and_le_right
  have b2 : a &&& 6148914691236517205 ≤ 6148914691236517205 := Nat.and_le_right
  have key := pop_nat a h
  unfold popN at key
  simp only at key
  unfold bits_OnesCount64.f
  simp only [Option.bind_some]
  rw [s1, a1, a2, u64w_id (x := ((a / 2 &&& 6148914691236517205 : Nat) : Int) + ((a &&& 6148914691236517205 : Nat) : Int)) (by omega) (by omega), show ((a / 2 &&& 6148914691236517205 : Nat) : Int) + ((a &&& 6148914691236517205 : Nat) : Int) = (((a / 2 &&& 6148914691236517205) + (a &&& 6148914691236517205) : Nat) : Int) by omega]
  generalize hv : (a / 2 &&& 6148914691236517205) + (a &&& 6148914691236517205) = v at *
  have hvb : v ≤ 12297829382473034410 := by omega
  have s2 : shr .u64 (v : Int) 2 = ((v / 4 : Nat) : Int) := sh _ _ 4 (by decide)
  have a3 : Go.bits .and .u64 ((v / 4 : Nat) : Int) 3689348814741910323 = ((v / 4 &&& 3689348814741910323 : Nat) : Int) := u64_and_nat _ _ (by omega) (by decide)
  have a4 : Go.bits .and .u64 (v : Int) 3689348814741910323 = ((v &&& 3689348814741910323 : Nat) : Int) := u64_and_nat _ _ (by omega) (by decide)
  have b3 : v / 4 &&& 3689348814741910323 ≤ 3689348814741910323 := Nat.and_le_right
  have b4 : v &&& 3689348814741910323 ≤ 3689348814741910323 := Nat.and_le_right
  rw [s2, a3, a4, u64w_id (x := ((v / 4 &&& 3689348814741910323 : Nat) : Int) + ((v &&& 3689348814741910323 : Nat) : Int)) (by omega) (by omega), show ((v / 4 &&& 3689348814741910323 : Nat) : Int) + ((v &&& 3689348814741910323 : Nat) : Int) = (((v / 4 &&& 3689348814741910323) + (v &&& 3689348814741910323) : Nat) : Int) by omega]
  generalize hu : (v / 4 &&& 3689348814741910323) + (v &&& 3689348814741910323) = u at *
  have hub : u ≤ 7378697629483820646 := by omega
  have s3 : shr .u64 (u : Int) 4 = ((u / 16 : Nat) : Int) := sh _ _ 16 (by decide)
  rw [s3, u64w_id (x := ((u / 16 : Nat) : Int) + (u : Int)) (by omega) (by omega), show ((u / 16 : Nat) : Int) + (u : Int) = ((u / 16 + u : Nat) : Int) by omega]
  have a5 : Go.bits .and .u64 ((u / 16 + u : Nat) : Int) 1085102592571150095 = ((u / 16 + u &&& 1085102592571150095 : Nat) : Int) := u64_and_nat _ _ (by omega) (by decide)
  have b5 : u / 16 + u &&& 1085102592571150095 ≤ 1085102592571150095 := Nat.and_le_right
  rw [a5]
  generalize ht : u / 16 + u &&& 1085102592571150095 = t at *
  have s4 : shr .u64 (t : Int) 8 = ((t / 256 : Nat) : Int) := sh _ _ 256 (by decide)
  rw [s4, u64w_id (x := (t : Int) + ((t / 256 : Nat) : Int)) (by omega) (by omega), show (t : Int) + ((t / 256 : Nat) : Int) = ((t / 256 + t : Nat) : Int) by omega]
  generalize hr : t / 256 + t = r at *
  have s5 : shr .u64 (r : Int) 16 = ((r / 65536 : Nat) : Int) := sh _ _ 65536 (by decide)
  rw [s5, u64w_id (x := (r : Int) + ((r / 65536 : Nat) : Int)) (by omega) (by omega), show (r : Int) + ((r / 65536 : Nat) : Int) = ((r / 65536 + r : Nat) : Int) by omega]
  generalize hq : r / 65536 + r = q at *
  have s6 : shr .u64 (q : Int) 32 = ((q / 4294967296 : Nat) : Int) := sh _ _ 4294967296 (by decide)
  rw [s6, u64w_id (x := (q : Int) + ((q / 4294967296 : Nat) : Int)) (by omega) (by omega), show (q : Int) + ((q / 4294967296 : Nat) : Int) = ((q / 4294967296 + q : Nat) : Int) by omega, wrap64_id (by omega) (by omega)]
  have a6 : Go.bits .and .i64 ((q / 4294967296 + q : Nat) : Int) 127 = (((q / 4294967296 + q) % 128 : Nat) : Int) := by
    have := (bits_nat .i64 63 (by decide) (fun n h0 h1 => by rw [IntKind.wrap_i64]; omega) (q / 4294967296 + q) 127 (by omega) (by decide)).1
    rw [nat_mask7] at this
    exact this
  rw [a6, key]
theorem toD_count : ∀ (n s : Nat), (toD n s).sum = ((List.range n).filter fun i => s.testBit i).length
  | 0, _ => rfl
  | n + 1, s => by
    have ih := toD_count n (s / 2)
    rw [List.range_succ_eq_map, List.filter_cons, List.filter_map]
    have e : (fun i => s.testBit i) ∘ Nat.succ = fun i => (s / 2).testBit i := by
      funext i
      show s.testBit (i + 1) = _
      rw [Nat.testBit_succ]
    rw [e]
    simp only [toD, List.sum_cons, ih]
    rw [Nat.testBit_zero]
    by_cases h : s % 2 = 1
    · simp [h]; omega
    · have h0 : s % 2 = 0 := by omega
      simp [h0]

/-- Where no pair stands the other way about. -/
theorem turned_not {T : List ByteArray} {U : List Nat} : ∀ (L : List S25) (i : Nat), turned T U L i = none → ∀ p ∈ L, p.f1 ≠ (⟨#[]⟩ : ByteArray) → ¬ M U (at_ T p.f1) (at_ T p.f0)
  | [], _, _, p, hp, _ => by simp at hp
  | q :: L, i, h, p, hp, h1 => by
    rw [turned] at h
    by_cases e : q.f1 = (⟨#[]⟩ : ByteArray)
    · rw [if_pos e] at h
      rcases List.mem_cons.1 hp with z | z
      · subst z; exact absurd e h1
      · exact turned_not L _ h p z h1
    · rw [if_neg e] at h
      by_cases m : M U (at_ T q.f1) (at_ T q.f0)
      · rw [if_pos m] at h; cases h
      · rw [if_neg m] at h
        rcases List.mem_cons.1 hp with z | z
        · subst z; exact m
        · exact turned_not L _ h p z h1
theorem anti {P : List S25} {T : List ByteArray} {U : List Nat} (h : Inv P T U) (hn : turned T (cl T U) P 0 = none) {a b : Nat} (m1 : M (cl T U) a b) (m2 : M (cl T U) b a) : a = b := by
  have hc : Cl T.length U (cl T U) T.length := inv_closed h
  have key := hc.le (fun i j => M (cl T U) i j ∧ (i = j ∨ ∃ p ∈ P, p.f1 ≠ (⟨#[]⟩ : ByteArray) ∧ at_ T p.f0 = i ∧ M (cl T U) (at_ T p.f1) j))
    (fun x y z u v => ⟨trans_ hc u.1 v.1, by
      rcases u.2 with e | ⟨p, hp, h1, h2, h3⟩
      · subst e; exact v.2
      · exact .inr ⟨p, hp, h1, h2, trans_ hc h3 v.1⟩⟩)
    (fun i j z => ⟨hc.up _ _ z, by
      rcases (h.edge i j).1 z with z | ⟨p, hp, h1, h2, h3⟩
      · exact .inl z.2
      · exact .inr ⟨p, hp, h1, h2, by rw [h3]; exact hc.rf _ (inv_bd h _ _ z).2⟩⟩) a b m1
  rcases key.2 with e | ⟨p, hp, h1, h2, h3⟩
  · exact e
  · refine absurd (trans_ hc h3 m2) ?_
    rw [← h2]
    exact turned_not P 0 hn p hp h1
/-- An element that may come next. -/
def avail (V : List Nat) (n : Nat) (pre : List Nat) (i : Nat) : Prop := i < n ∧ i ∉ pre ∧ ∀ j, M V j i → j = i ∨ j ∈ pre
theorem avail_ex {n : Nat} {V : List Nat} {U0 : List Nat} (hc : Cl n U0 V n) (an : ∀ {a b}, M V a b → M V b a → a = b) (pre : List Nat) : ∀ (c i : Nat), ((List.range n).filter fun k => decide (M V k i)).length ≤ c → i < n → i ∉ pre → ∃ m, avail V n pre m := by
  intro c
  induction c with
  | zero =>
    intro i h hi _
    have : i ∈ (List.range n).filter fun k => decide (M V k i) := by
      rw [List.mem_filter, List.mem_range]; exact ⟨hi, decide_eq_true (hc.rf i hi)⟩
    have := List.length_pos_of_mem this
    omega
  | succ c ih =>
    intro i h hi hp
    by_cases hx : ∃ j, M V j i ∧ j ≠ i ∧ j ∉ pre
    · obtain ⟨j, h1, h2, h3⟩ := hx
      have hj := (hc.bd _ _ h1).1
      refine ih j ?_ hj h3
      have nd : (i :: (List.range n).filter fun k => decide (M V k j)).Nodup := by
        rw [List.nodup_cons]
        refine ⟨fun z => ?_, List.nodup_range.filter _⟩
        rw [List.mem_filter] at z
        exact h2 (an h1 (of_decide_eq_true z.2))
      have := nodup_len nd (W := (List.range n).filter fun k => decide (M V k i)) (fun x hx => by
        rw [List.mem_filter, List.mem_range]
        rcases List.mem_cons.1 hx with z | z
        · subst z; exact ⟨hi, decide_eq_true (hc.rf _ hi)⟩
        · rw [List.mem_filter, List.mem_range] at z
          exact ⟨z.1, decide_eq_true (trans_ hc (of_decide_eq_true z.2) h1)⟩)
      rw [List.length_cons] at this
      omega
    · refine ⟨i, hi, hp, fun j hj => ?_⟩
      by_cases e : j = i
      · exact .inl e
      · by_cases e2 : j ∈ pre
        · exact .inr e2
        · exact absurd ⟨j, hj, e, e2⟩ hx
theorem pow_one : ∀ i : Fin 64, pc (2 ^ i.val) = 1 := by decide +kernel
theorem bits_one (a i : Nat) (h : ∀ j, a.testBit j = true ↔ j = i) : a = 2 ^ i := by
  apply Nat.eq_of_testBit_eq
  intro j
  rw [pow_bit, Bool.eq_iff_iff, h j, decide_eq_true_iff]
  exact ⟨fun z => z.symm, fun z => z.symm⟩
theorem one_bit (a i : Nat) (ha : a < 2 ^ 64) (hi : i < 64) : (pc a = 1 ∧ a.testBit i = true) ↔ ∀ j, a.testBit j = true ↔ j = i := by
  constructor
  · rintro ⟨h1, h2⟩ j
    have h3 := toD_count 64 a
    have h4 : ((List.range 64).filter fun i => a.testBit i).length = 1 := by rw [← h3]; exact h1
    obtain ⟨x, hx⟩ := List.length_eq_one_iff.1 h4
    have mem : ∀ y, y < 64 → a.testBit y = true → y = x := by
      intro y hy hb
      have : y ∈ (List.range 64).filter fun i => a.testBit i := by rw [List.mem_filter, List.mem_range]; exact ⟨hy, hb⟩
      rw [hx] at this
      simpa using this
    constructor
    · intro hb
      have hj : j < 64 := by
        rcases Nat.lt_or_ge j 64 with z | z
        · exact z
        · rw [Nat.testBit_lt_two_pow (Nat.lt_of_lt_of_le ha (Nat.pow_le_pow_right (by decide) z))] at hb; cases hb
      rw [mem j hj hb, mem i hi h2]
    · intro e; subst e; exact h2
  · intro h
    refine ⟨?_, (h i).2 rfl⟩
    rw [bits_one a i h]
    exact pow_one ⟨i, hi⟩
/-- A row's bits that aren't done. -/
theorem rest_bit (b m j : Nat) (hb : b < 2 ^ 64) (hm : m < 2 ^ 64) : (b &&& (18446744073709551615 - m)).testBit j = (b.testBit j && !m.testBit j) := by
  rw [Nat.testBit_and, show 18446744073709551615 - m = 2 ^ 64 - (m + 1) by omega, Nat.testBit_two_pow_sub_succ hm]
  by_cases hj : j < 64
  · simp [hj]
  · rw [Nat.testBit_lt_two_pow (x := b) (Nat.lt_of_lt_of_le hb (Nat.pow_le_pow_right (by decide) (by omega)))]
    simp
def dnOf (T : List ByteArray) (U : List Nat) : List Nat := allDown (cl T U) T.length T.length 0 Z64
theorem dn_ok {P : List S25} {T : List ByteArray} {U : List Nat} (h : Inv P T U) : Ok64 (dnOf T U) := allDown_ok _ _ h.le _ 0 _ Z_ok (by have := h.le; omega)
theorem dn_M {P : List S25} {T : List ByteArray} {U : List Nat} (h : Inv P T U) (i j : Nat) : M (dnOf T U) i j ↔ M (cl T U) j i := by
  have hc : Cl T.length U (cl T U) T.length := inv_closed h
  unfold dnOf
  rw [alldown_M _ _ h.le _ 0 Z64 Z_ok (by have := h.le; omega) i j]
  constructor
  · rintro (z | z)
    · exact absurd z (Z_M i j)
    · exact z.2.2.2
  · intro z
    have := hc.bd _ _ z
    exact .inr ⟨by omega, by omega, by omega, z⟩
theorem below_tells {P : List S25} {T : List ByteArray} {U : List Nat} (h : Inv P T U) (i : Nat) (hi : i < T.length) : order_Order_Below.f (some (ordOf T U)) (i : Int) = some ((R (dnOf T U) i : Nat) : Int) := by
  have hT := h.le
  unfold order_Order_Below.f
  rw [in_tells, Option.bind_some, if_pos (decide_eq_true (show i < (ordOf T U).f0.length from hi))]
  dsimp only [onOpt, ordOf]
  rw [if_pos (by omega), if_pos (by omega), N_get]
  rfl
theorem N_app (o : List Nat) (i : Nat) : N o ++ [(i : Int)] = N (o ++ [i]) := by simp [N]
theorem N_len (o : List Nat) : (N o).length = o.length := by simp [N]
section
variable {P : List S25} {T : List ByteArray} {U : List Nat}
theorem sort_l0 (h : Inv P T U) (out : List Nat) (hl : out.length ≤ 1000) (done : Nat) (hd : done < 2 ^ 64) (hm : ∀ j, done.testBit j = true ↔ j ∈ out) (F : Nat) (d : Nat) : ∀ (k i : Nat), i + d = T.length → F + 2 * d + 2 ≤ k → (∀ j, j < i → ¬ avail (cl T U) T.length out j) → (∃ m, avail (cl T U) T.length out m) →
    ∃ m k', avail (cl T U) T.length out m ∧ (∀ j, j < m → ¬ avail (cl T U) T.length out j) ∧ F ≤ k' ∧ order_Order_Sorted.l0 k (T.length : Int) (some (ordOf T U)) (N out) (done : Int) (i : Int) = order_Order_Sorted.l1 k' (some (ordOf T U)) (N (out ++ [m])) ((done ||| 2 ^ m : Nat) : Int) := by
  have hT := h.le
  have hok := dn_ok h
  induction d with
  | zero =>
    intro k i hi hk hno ⟨m, hmm⟩
    exact absurd hmm (hno m (by have := hmm.1; omega))
  | succ d ih =>
    intro k i hi hk hno hex
    obtain ⟨k, rfl⟩ : ∃ n, k = n + 2 := ⟨k - 2, by omega⟩
    have hB := hok.2 i
    have hr : (R (dnOf T U) i &&& (18446744073709551615 - done)) < 2 ^ 64 := Nat.lt_of_le_of_lt Nat.and_le_left hB
    have ob := one_bit (R (dnOf T U) i &&& (18446744073709551615 - done)) i hr (by omega)
    have key : (∀ j, (R (dnOf T U) i &&& (18446744073709551615 - done)).testBit j = true ↔ j = i) ↔ avail (cl T U) T.length out i := by
      constructor
      · intro z
        have zi := (z i).2 rfl
        rw [rest_bit _ _ _ hB hd, Bool.and_eq_true, Bool.not_eq_true'] at zi
        refine ⟨by omega, fun y => ?_, fun j y => ?_⟩
        · rw [(hm i).2 y] at zi; cases zi.2
        · by_cases e : j ∈ out
          · exact .inr e
          · refine .inl ((z j).1 ?_)
            rw [rest_bit _ _ _ hB hd, Bool.and_eq_true, Bool.not_eq_true', Bool.eq_false_iff]
            exact ⟨(dn_M h i j).2 y, fun w => e ((hm j).1 w)⟩
      · intro z j
        rw [rest_bit _ _ _ hB hd, Bool.and_eq_true, Bool.not_eq_true', Bool.eq_false_iff]
        constructor
        · rintro ⟨y1, y2⟩
          rcases z.2.2 j ((dn_M h i j).1 y1) with w | w
          · exact w
          · exact absurd ((hm j).2 w) y2
        · intro e; subst e
          exact ⟨(dn_M h j j).2 ((inv_closed h).rf j z.1), fun w => z.2.1 ((hm j).1 w)⟩
    rw [order_Order_Sorted.l0, if_pos (by omega), below_tells h i (by omega), Option.bind_some, u64_andNot_nat _ _ hB hd, count_tells _ hr, Option.bind_some, u64w_id (x := (i : Int)) (by omega) (by omega)]
    have go : ¬ avail (cl T U) T.length out i → ∃ m k', avail (cl T U) T.length out m ∧ (∀ j, j < m → ¬ avail (cl T U) T.length out j) ∧ F ≤ k' ∧ order_Order_Sorted.l0 k (T.length : Int) (some (ordOf T U)) (N out) (done : Int) ((i + 1 : Nat) : Int) = order_Order_Sorted.l1 k' (some (ordOf T U)) (N (out ++ [m])) ((done ||| 2 ^ m : Nat) : Int) := by
      intro na
      refine ih k (i + 1) (by omega) (by omega) (fun j hj => ?_) hex
      by_cases e : j = i
      · subst e; exact na
      · exact hno j (by omega)
    have w1 : wrap64 ((i : Int) + 1) = ((i + 1 : Nat) : Int) := by rw [wrap64_id (by omega) (by omega)]; omega
    by_cases c1 : pc (R (dnOf T U) i &&& (18446744073709551615 - done)) = 1
    · rw [if_pos (by omega), if_pos (by omega)]
      by_cases c2 : (R (dnOf T U) i &&& (18446744073709551615 - done)).testBit i = true
      · have hb := ob.1 ⟨c1, c2⟩
        have av := key.1 hb
        have hp : 2 ^ i < 2 ^ 64 := Nat.pow_lt_pow_right (by decide) (by omega)
        rw [decide_eq_true ((bit_iff _ i hr (by omega)).2 c2), order_Order_Sorted.j0, if_pos rfl, if_pos (by rw [N_len]; omega), Option.bind_some, N_app, u64_andNot_nat _ _ hB hd, bits_one _ i hb, u64_or_nat _ _ hd hp]
        exact ⟨i, k, av, hno, by omega, rfl⟩
      · rw [decide_eq_false (fun z => c2 ((bit_iff _ i hr (by omega)).1 z)), order_Order_Sorted.j0, if_neg (by decide), w1]
        exact go (fun z => c2 (ob.2 (key.2 z)).2)
    · rw [if_neg (by omega), order_Order_Sorted.j0, if_neg (by decide), w1]
      exact go (fun z => c1 (ob.2 (key.2 z)).1)
/-- Elements in an order that is told. -/
def Srt (V : List Nat) (n : Nat) (out : List Nat) : Prop := ∀ q (h : q < out.length), avail V n (out.take q) out[q] ∧ ∀ j, j < out[q] → ¬ avail V n (out.take q) j
theorem srt_app {V : List Nat} {n : Nat} {out : List Nat} (h : Srt V n out) {m : Nat} (ha : avail V n out m) (hl : ∀ j, j < m → ¬ avail V n out j) : Srt V n (out ++ [m]) := by
  intro q hq
  rw [List.length_append, List.length_singleton] at hq
  by_cases e : q < out.length
  · rw [List.take_append_of_le_length (by omega), List.getElem_append_left e]
    exact h q e
  · have e2 : q = out.length := by omega
    subst e2
    rw [List.take_left, List.getElem_append_right (by omega)]
    simpa using ⟨ha, hl⟩
theorem srt_mem {V : List Nat} {n : Nat} {out : List Nat} (h : Srt V n out) {x : Nat} (hx : x ∈ out) : x < n := by
  obtain ⟨q, hq, rfl⟩ := List.mem_iff_getElem.1 hx
  exact (h q hq).1.1
theorem srt_ne {V : List Nat} {n : Nat} {out : List Nat} (h : Srt V n out) {p q : Nat} (hpq : p < q) (hq : q < out.length) : out[p] ≠ out[q] := by
  intro e
  refine (h q hq).1.2.1 ?_
  rw [← e, List.mem_iff_getElem]
  exact ⟨p, by rw [List.length_take]; omega, by rw [List.getElem_take]⟩
theorem srt_inj {V : List Nat} {n : Nat} {out : List Nat} (h : Srt V n out) {p q : Nat} (hp : p < out.length) (hq : q < out.length) (e : out[p] = out[q]) : p = q := by
  rcases Nat.lt_trichotomy p q with z | z | z
  · exact absurd e (srt_ne h z hq)
  · exact z
  · exact absurd e.symm (srt_ne h z hp)
theorem sort_l1 (h : Inv P T U) (hn : turned T (cl T U) P 0 = none) (d : Nat) : ∀ (k : Nat) (out : List Nat) (done : Nat), out.length + d = T.length → 10 + d * 200 ≤ k → done < 2 ^ 64 → (∀ j, done.testBit j = true ↔ j ∈ out) → Srt (cl T U) T.length out →
    ∃ s, order_Order_Sorted.l1 k (some (ordOf T U)) (N out) (done : Int) = some (N s) ∧ s.length = T.length ∧ Srt (cl T U) T.length s := by
  have hT := h.le
  have hc : Cl T.length U (cl T U) T.length := inv_closed h
  induction d with
  | zero =>
    intro k out done hd hk _ _ hs
    obtain ⟨k, rfl⟩ : ∃ n, k = n + 1 := ⟨k - 1, by omega⟩
    refine ⟨out, ?_, by omega, hs⟩
    rw [order_Order_Sorted.l1, len_tells, Option.bind_some, if_neg (by rw [N_len]; show ¬ ((out.length : Int) < (T.length : Int)); omega)]
  | succ d ih =>
    intro k out done hd hk hd64 hm hs
    obtain ⟨k, rfl⟩ : ∃ n, k = n + 1 := ⟨k - 1, by omega⟩
    have hex : ∃ m, avail (cl T U) T.length out m := by
      by_cases hx : ∃ i, i < T.length ∧ i ∉ out
      · obtain ⟨i, h1, h2⟩ := hx
        exact avail_ex hc (fun a b => anti h hn a b) out _ i (Nat.le_refl _) h1 h2
      · have := nodup_len (List.nodup_range (n := T.length)) (W := out) (fun x hx2 => by
          rw [List.mem_range] at hx2
          by_cases e : x ∈ out
          · exact e
          · exact absurd ⟨x, hx2, e⟩ hx)
        rw [List.length_range] at this
        omega
    obtain ⟨m, k', h1, h2, h3, h4⟩ := sort_l0 h out (by omega) done hd64 hm (10 + d * 200) T.length k 0 (by omega) (by omega) (fun j hj => by omega) hex
    have e0 : order_Order_Sorted.l1 (k + 1) (some (ordOf T U)) (N out) (done : Int) = order_Order_Sorted.l1 k' (some (ordOf T U)) (N (out ++ [m])) ((done ||| 2 ^ m : Nat) : Int) := by
      rw [← h4, order_Order_Sorted.l1, len_tells, Option.bind_some, if_pos (by rw [N_len]; show (out.length : Int) < (T.length : Int); omega), Option.bind_some]
      rfl
    rw [e0]
    refine ih k' (out ++ [m]) _ (by simp; omega) h3 (Nat.or_lt_two_pow hd64 (Nat.pow_lt_pow_right (by decide) (by have := h1.1; omega))) (fun j => ?_) (srt_app hs h1 h2)
    rw [Nat.testBit_or, Bool.or_eq_true, pow_bit, decide_eq_true_iff, hm j, List.mem_append, List.mem_singleton]
    exact ⟨fun z => z.imp id Eq.symm, fun z => z.imp id Eq.symm⟩
theorem sort_tells (h : Inv P T U) (hn : turned T (cl T U) P 0 = none) (k : Nat) (hk : 13000 ≤ k) : ∃ s, order_Order_Sorted.f k (some (ordOf T U)) = some (N s) ∧ s.length = T.length ∧ Srt (cl T U) T.length s := by
  have hT := h.le
  exact sort_l1 h hn T.length k [] 0 (by simp) (by omega) (by decide) (fun j => by simp) (fun q hq => by simp at hq)
theorem chk_l0 (h : Inv P T U) (s : List Int) (a b : Nat) (ha : a < T.length) (hb : b < T.length) (hs : s.length = T.length) (f : Nat) (d : Nat) : ∀ (c : Nat), c + d = T.length →
    blazonlaw13_OrderSorts.l0 (f + d + 1) s (some (ordOf T U)) (a : Int) (b : Int) (c : Int) = blazonlaw13_OrderSorts.l4 f s (some (ordOf T U)) (a : Int) ((b + 1 : Nat) : Int) := by
  have hT := h.le
  have hc : Cl T.length U (cl T U) T.length := inv_closed h
  induction d with
  | zero =>
    intro c hcd
    rw [blazonlaw13_OrderSorts.l0, if_neg (by omega), wrap64_id (by omega) (by omega)]
    rfl
  | succ d ih =>
    intro c hcd
    have nx := ih (c + 1) (by omega)
    rw [show f + (d + 1) + 1 = (f + d + 1) + 1 by omega, blazonlaw13_OrderSorts.l0, if_pos (by omega), most_ord h, Option.bind_some, wrap64_id (by omega) (by omega), show (c : Int) + 1 = ((c + 1 : Nat) : Int) by omega, nx]
    by_cases m1 : M (cl T U) a b
    · rw [if_pos (decide_eq_true m1), most_ord h, Option.bind_some]
      by_cases m2 : M (cl T U) b c
      · rw [if_pos (decide_eq_true m2), most_ord h, Option.bind_some, if_pos (decide_eq_true (trans_ hc m1 m2))]
      · rw [if_neg (by rw [decide_eq_true_iff]; exact m2)]
    · rw [if_neg (by rw [decide_eq_true_iff]; exact m1)]
theorem chk_l1 (h : Inv P T U) (s : List Int) (a b : Nat) (ha : a < T.length) (hb : b < T.length) (hs : s.length = T.length) (f : Nat) (d : Nat) : ∀ (c : Nat), c + d = T.length →
    blazonlaw13_OrderSorts.l1 (f + d + 1) s (some (ordOf T U)) (a : Int) (b : Int) (c : Int) = blazonlaw13_OrderSorts.l4 f s (some (ordOf T U)) (a : Int) ((b + 1 : Nat) : Int) := by
  have hT := h.le
  have hc : Cl T.length U (cl T U) T.length := inv_closed h
  induction d with
  | zero =>
    intro c hcd
    rw [blazonlaw13_OrderSorts.l1, if_neg (by omega), wrap64_id (by omega) (by omega)]
    rfl
  | succ d ih =>
    intro c hcd
    have nx := ih (c + 1) (by omega)
    rw [show f + (d + 1) + 1 = (f + d + 1) + 1 by omega, blazonlaw13_OrderSorts.l1, if_pos (by omega), most_ord h, Option.bind_some, wrap64_id (by omega) (by omega), show (c : Int) + 1 = ((c + 1 : Nat) : Int) by omega, nx]
    by_cases m1 : M (cl T U) a b
    · rw [if_pos (decide_eq_true m1), most_ord h, Option.bind_some]
      by_cases m2 : M (cl T U) b c
      · rw [if_pos (decide_eq_true m2), most_ord h, Option.bind_some, if_pos (decide_eq_true (trans_ hc m1 m2))]
      · rw [if_neg (by rw [decide_eq_true_iff]; exact m2)]
    · rw [if_neg (by rw [decide_eq_true_iff]; exact m1)]
theorem chk_l2 (h : Inv P T U) (s : List Int) (a b : Nat) (ha : a < T.length) (hb : b < T.length) (hs : s.length = T.length) (f : Nat) (d : Nat) : ∀ (c : Nat), c + d = T.length →
    blazonlaw13_OrderSorts.l2 (f + d + 1) s (some (ordOf T U)) (a : Int) (b : Int) (c : Int) = blazonlaw13_OrderSorts.l4 f s (some (ordOf T U)) (a : Int) ((b + 1 : Nat) : Int) := by
  have hT := h.le
  have hc : Cl T.length U (cl T U) T.length := inv_closed h
  induction d with
  | zero =>
    intro c hcd
    rw [blazonlaw13_OrderSorts.l2, if_neg (by omega), wrap64_id (by omega) (by omega)]
    rfl
  | succ d ih =>
    intro c hcd
    have nx := ih (c + 1) (by omega)
    rw [show f + (d + 1) + 1 = (f + d + 1) + 1 by omega, blazonlaw13_OrderSorts.l2, if_pos (by omega), most_ord h, Option.bind_some, wrap64_id (by omega) (by omega), show (c : Int) + 1 = ((c + 1 : Nat) : Int) by omega, nx]
    by_cases m1 : M (cl T U) a b
    · rw [if_pos (decide_eq_true m1), most_ord h, Option.bind_some]
      by_cases m2 : M (cl T U) b c
      · rw [if_pos (decide_eq_true m2), most_ord h, Option.bind_some, if_pos (decide_eq_true (trans_ hc m1 m2))]
      · rw [if_neg (by rw [decide_eq_true_iff]; exact m2)]
    · rw [if_neg (by rw [decide_eq_true_iff]; exact m1)]
theorem chk_l3 (h : Inv P T U) (s : List Int) (a b : Nat) (ha : a < T.length) (hb : b < T.length) (hs : s.length = T.length) (f : Nat) (d : Nat) : ∀ (c : Nat), c + d = T.length →
    blazonlaw13_OrderSorts.l3 (f + d + 1) s (some (ordOf T U)) (a : Int) (b : Int) (c : Int) = blazonlaw13_OrderSorts.l4 f s (some (ordOf T U)) (a : Int) ((b + 1 : Nat) : Int) := by
  have hT := h.le
  have hc : Cl T.length U (cl T U) T.length := inv_closed h
  induction d with
  | zero =>
    intro c hcd
    rw [blazonlaw13_OrderSorts.l3, if_neg (by omega), wrap64_id (by omega) (by omega)]
    rfl
  | succ d ih =>
    intro c hcd
    have nx := ih (c + 1) (by omega)
    rw [show f + (d + 1) + 1 = (f + d + 1) + 1 by omega, blazonlaw13_OrderSorts.l3, if_pos (by omega), most_ord h, Option.bind_some, wrap64_id (by omega) (by omega), show (c : Int) + 1 = ((c + 1 : Nat) : Int) by omega, nx]
    by_cases m1 : M (cl T U) a b
    · rw [if_pos (decide_eq_true m1), most_ord h, Option.bind_some]
      by_cases m2 : M (cl T U) b c
      · rw [if_pos (decide_eq_true m2), most_ord h, Option.bind_some, if_pos (decide_eq_true (trans_ hc m1 m2))]
      · rw [if_neg (by rw [decide_eq_true_iff]; exact m2)]
    · rw [if_neg (by rw [decide_eq_true_iff]; exact m1)]

theorem rd_N (s : List Nat) (i : Nat) (hi : i < s.length) : rd (N s) (i : Int) = ((s[i] : Nat) : Int) := by
  have := N_get s i
  unfold R at this
  rw [List.getD_eq_getElem?_getD (l := s), List.getElem?_eq_getElem hi] at this
  exact this
theorem chk_l4 (h : Inv P T U) (hn : turned T (cl T U) P 0 = none) (s : List Nat) (hs : s.length = T.length) (hS : Srt (cl T U) T.length s) (a : Nat) (ha : a < T.length) (f : Nat) (d : Nat) : ∀ (k b : Nat), b + d = T.length → f + d * 70 + 2 ≤ k →
    ∃ k', f ≤ k' ∧ blazonlaw13_OrderSorts.l4 k (N s) (some (ordOf T U)) (a : Int) (b : Int) = blazonlaw13_OrderSorts.l5 k' (N s) (some (ordOf T U)) ((a + 1 : Nat) : Int) := by
  have hT := h.le
  have hc : Cl T.length U (cl T U) T.length := inv_closed h
  induction d with
  | zero =>
    intro k b hb hk
    obtain ⟨k, rfl⟩ : ∃ n, k = n + 1 := ⟨k - 1, by omega⟩
    refine ⟨k, by omega, ?_⟩
    rw [blazonlaw13_OrderSorts.l4, if_neg (by rw [N_len]; omega), most_ord h, Option.bind_some, if_pos (decide_eq_true (hc.rf a ha)), wrap64_id (x := (a : Int) + 1) (by omega) (by omega), show (a : Int) + 1 = ((a + 1 : Nat) : Int) by omega]
    by_cases h0 : 0 < a
    · have ha1 : a - 1 < s.length := by omega
      have ha2 : a < s.length := by omega
      rw [if_pos (by omega), if_pos (by omega), if_pos (by rw [N_len]; omega), wrap64_id (by omega) (by omega), show (a : Int) - 1 = ((a - 1 : Nat) : Int) by omega, if_pos (by omega), if_pos (by rw [N_len]; omega), rd_N s a ha2, rd_N s (a - 1) ha1]
      by_cases hl : s[a] < s[a - 1]
      · have ms : M (cl T U) s[a - 1] s[a] := by
          have q1 := (hS (a - 1) ha1).2 s[a] hl
          have q2 := (hS a ha2).1
          by_cases hx : ∃ j, M (cl T U) j s[a] ∧ j ≠ s[a] ∧ j ∉ s.take (a - 1)
          · obtain ⟨j, j1, j2, j3⟩ := hx
            rcases q2.2.2 j j1 with z | z
            · exact absurd z j2
            · have e : s.take a = s.take (a - 1) ++ [s[a - 1]] := by
                rw [List.take_append_getElem ha1, show a - 1 + 1 = a by omega]
              rw [e, List.mem_append, List.mem_singleton] at z
              rcases z with z | z
              · exact absurd z j3
              · rw [← z]; exact j1
          · refine absurd ⟨q2.1, fun z => q2.2.1 ?_, fun j hj => ?_⟩ q1
            · have e : s.take a = s.take (a - 1) ++ [s[a - 1]] := by
                rw [List.take_append_getElem ha1, show a - 1 + 1 = a by omega]
              rw [e]
              exact List.mem_append_left _ z
            · by_cases e : j = s[a]
              · exact .inl e
              · by_cases e2 : j ∈ s.take (a - 1)
                · exact .inr e2
                · exact absurd ⟨j, hj, e, e2⟩ hx
        rw [if_pos (by omega), most_ord h, Option.bind_some, if_pos (decide_eq_true ms)]
      · rw [if_neg (by omega)]
    · rw [if_neg (by omega)]
  | succ d ih =>
    intro k b hb hk
    obtain ⟨k, rfl⟩ : ∃ n, k = n + T.length + 1 + 1 := ⟨k - 2 - T.length, by omega⟩
    have ha2 : a < s.length := by omega
    have hb2 : b < s.length := by omega
    have nx := ih k (b + 1) (by omega) (by omega)
    have z0 : ((0 : Nat) : Int) = 0 := rfl
    have c0 := chk_l0 h (N s) a b ha (by omega) (by rw [N_len]; exact hs) k T.length 0 (by omega)
    have c1 := chk_l1 h (N s) a b ha (by omega) (by rw [N_len]; exact hs) k T.length 0 (by omega)
    have c2 := chk_l2 h (N s) a b ha (by omega) (by rw [N_len]; exact hs) k T.length 0 (by omega)
    have c3 := chk_l3 h (N s) a b ha (by omega) (by rw [N_len]; exact hs) k T.length 0 (by omega)
    rw [z0] at c0 c1 c2 c3
    have ext : M (cl T U) s[b] s[a] → b ≤ a := by
      intro m
      rcases (hS a ha2).1.2.2 _ m with z | z
      · have := srt_inj hS hb2 ha2 z; omega
      · obtain ⟨q, hq, e⟩ := List.mem_iff_getElem.1 z
        rw [List.getElem_take] at e
        rw [List.length_take] at hq
        have := srt_inj hS (by omega) hb2 e
        omega
    rw [blazonlaw13_OrderSorts.l4, if_pos (by rw [N_len]; omega), if_pos (by omega), if_pos (by rw [N_len]; omega), if_pos (by omega), rd_N s a ha2, rd_N s b hb2, most_ord h, Option.bind_some, c0, c1, c2, c3]
    have am : ∀ (X : Option Bool), (∃ k', f ≤ k' ∧ X = blazonlaw13_OrderSorts.l5 k' (N s) (some (ordOf T U)) ((a + 1 : Nat) : Int)) → ∃ k', f ≤ k' ∧ (order_Order_Most.f (some (ordOf T U)) ((s[b] : Nat) : Int) ((s[a] : Nat) : Int)).bind (fun t => if t = true then (if (b : Int) > (a : Int) then some false else X) else X) = blazonlaw13_OrderSorts.l5 k' (N s) (some (ordOf T U)) ((a + 1 : Nat) : Int) := by
      rintro X ⟨k', h1, h2⟩
      refine ⟨k', h1, ?_⟩
      rw [most_ord h, Option.bind_some]
      by_cases m : M (cl T U) s[b] s[a]
      · have := ext m
        rw [if_pos (decide_eq_true m), if_neg (by omega)]; exact h2
      · rw [if_neg (by rw [decide_eq_true_iff]; exact m)]; exact h2
    by_cases m1 : M (cl T U) s[a] s[b]
    · rw [if_pos (decide_eq_true m1), most_ord h, Option.bind_some]
      have e : decide (M (cl T U) s[b] s[a]) = decide ((a : Int) = (b : Int)) := by
        rw [Bool.eq_iff_iff, decide_eq_true_iff, decide_eq_true_iff]
        constructor
        · intro m2
          have := srt_inj hS ha2 hb2 (anti h hn m1 m2)
          omega
        · intro e
          have e' : a = b := by omega
          subst e'
          exact m1
      rw [if_pos e, ← most_ord h]
      exact am _ nx
    · rw [if_neg (by rw [decide_eq_true_iff]; exact m1)]
      exact am _ nx
theorem chk_l5 (h : Inv P T U) (hn : turned T (cl T U) P 0 = none) (s : List Nat) (hs : s.length = T.length) (hS : Srt (cl T U) T.length s) (d : Nat) : ∀ (k a : Nat), a + d = T.length → 200 + d * 5000 ≤ k →
    blazonlaw13_OrderSorts.l5 k (N s) (some (ordOf T U)) (a : Int) = some true := by
  have hT := h.le
  induction d with
  | zero =>
    intro k a ha hk
    obtain ⟨k, rfl⟩ : ∃ n, k = n + 1 := ⟨k - 1, by omega⟩
    rw [blazonlaw13_OrderSorts.l5, if_neg (by rw [N_len]; omega), awake_tells k (by omega)]
    rfl
  | succ d ih =>
    intro k a ha hk
    obtain ⟨k, rfl⟩ : ∃ n, k = n + 1 := ⟨k - 1, by omega⟩
    obtain ⟨k', h1, h2⟩ := chk_l4 h hn s hs hS a (by omega) (200 + d * 5000) T.length k 0 (by omega) (by omega)
    rw [blazonlaw13_OrderSorts.l5, if_pos (by rw [N_len]; omega)]
    rw [show ((0 : Nat) : Int) = 0 from rfl] at h2
    rw [h2]
    exact ih k' (a + 1) (by omega) h1
end
theorem OrderSorts : blazonlaw13_OrderSorts.Pure := by
  intro L hm hb hx
  have hn := lim40 hb
  refine ⟨400000 + 3 * L.length, ?_⟩
  obtain ⟨b, hg, hf⟩ := great_tells (400000 + 3 * L.length) L 40 (by decide) (by omega) (by omega)
  unfold blazonlaw13_OrderSorts.f
  rw [hg, Option.bind_some]
  cases b with
  | true => rw [if_pos rfl, awake_tells _ (by omega)]; rfl
  | false =>
    have h40 := hf rfl
    rw [if_neg (by decide), new_tells _ L (by omega) (by omega), Option.bind_some]
    by_cases hbd : (build L 0 [] Z64).1 = 0
    · obtain ⟨T, U, inv, e⟩ := newP_good hbd
      rw [e]
      cases ht : turned T (cl T U) L 0 with
      | none =>
        obtain ⟨s, q1, q2, q3⟩ := sort_tells inv ht (400000 + 3 * L.length) (by omega)
        dsimp only
        rw [if_pos rfl, q1, Option.bind_some, len_tells, Option.bind_some, if_pos (by rw [N_len, q2]; rfl)]
        exact chk_l5 inv ht s q2 q3 T.length _ 0 (by omega) (by have := inv.le; omega)
      | some j =>
        dsimp only
        rw [if_neg (by decide), awake_tells _ (by omega)]
        rfl
    · obtain ⟨b1, b2, b3⟩ := newP_bad hbd
      rw [if_neg b2, awake_tells _ (by omega)]
      rfl

end Go.Proofs.Ytpfepkkpbampkaa.Pure
