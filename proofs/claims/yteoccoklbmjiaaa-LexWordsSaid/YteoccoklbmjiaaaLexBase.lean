/- The plain law of tokens: what the printed functions of package lex tell, as lists. -/
import Derived.Test.YteoccoklbmjiaaaPLexx3
import Derived.OpenShut
import Derived.Laws.BitsLemmas
import Derived.Laws.BitsAllLaws
import Derived.Lib.Bytes
set_option linter.unusedVariables false
set_option linter.unusedSimpArgs false
namespace Go.Proofs.Yteoccoklbmjiaaa.PLex
open Go.RowKit Go.Proofs.YteoccoklbmjiaaaW.PrintWords Go.Proofs.YteoccoklbmjiaaaW.PrintLast

theorem wrap64_id {x : Int} (h0 : -9223372036854775808 ≤ x) (h1 : x ≤ 9223372036854775807) : wrap64 x = x := by unfold wrap64; omega
theorem rd_drop (l : List Int) (i : Nat) (h : i < l.length) : l.drop i = rd l (i : Int) :: l.drop (i + 1) := by
  rw [List.drop_eq_getElem_cons h]
  simp [rd, List.getD_eq_getElem?_getD, h]
/-- All are bytes. -/
def Bytes (l : List Int) : Prop := ∀ x ∈ l, 0 ≤ x ∧ x < 256
theorem Bytes.drop {l : List Int} (h : Bytes l) (n : Nat) : Bytes (l.drop n) := fun x hx => h x (List.mem_of_mem_drop hx)
theorem Bytes.take {l : List Int} (h : Bytes l) (n : Nat) : Bytes (l.take n) := fun x hx => h x (List.mem_of_mem_take hx)
theorem Bytes.append {l m : List Int} (h : Bytes l) (k : Bytes m) : Bytes (l ++ m) := fun x hx => (List.mem_append.1 hx).elim (h x) (k x)
theorem Bytes.of_wf {l : List Int} (h : ∀ x ∈ l, (Lit.int .u8 x).wf = true) : Bytes l := fun x hx => by have := bounds_u8 (h x hx); omega
theorem bytes_bytesOf (s : ByteArray) : Bytes (bytesOf s) := by
  intro x hx
  unfold bytesOf at hx
  obtain ⟨b, _, rfl⟩ := List.mem_map.1 hx
  have := b.toNat_lt
  omega
theorem rd_byte {l : List Int} (h : Bytes l) (i : Int) : 0 ≤ rd l i ∧ rd l i < 256 := by
  unfold rd
  rw [List.getD_eq_getElem?_getD]
  cases e : l[i.toNat]? with
  | none => simp
  | some v => simpa using h v (List.mem_of_getElem? e)

def blankB (c : Int) : Bool := c == 32 || c == 9 || c == 10 || c == 13
def letterB (c : Int) : Bool := (decide (97 ≤ c) && decide (c ≤ 122)) || (decide (65 ≤ c) && decide (c ≤ 90)) || c == 95
def digitB (c : Int) : Bool := decide (48 ≤ c) && decide (c ≤ 57)
def wordB (c : Int) : Bool := letterB c || digitB c
def lineB (c : Int) : Bool := c != 10
def oneB (c : Int) : Bool := [40, 41, 123, 125, 44, 59, 58, 46, 60, 43, 45, 42, 33, 61, 64, 47].contains c
def twoB (a b : Int) : Bool := (a == 61 && b == 61) || (a == 38 && b == 38) || (a == 124 && b == 124) || (a == 64 && b == 61)
theorem byte_all (p : Int → Prop) (h : ∀ b : Fin 256, p ((b.val : Nat) : Int)) (c : Int) (h0 : 0 ≤ c) (h1 : c < 256) : p c := by
  have := h ⟨c.toNat, by omega⟩
  simp only at this
  rwa [show ((c.toNat : Nat) : Int) = c by omega] at this
theorem blank_tells (c : Int) : lex_blank.f c = some (blankB c) := by
  unfold lex_blank.f blankB
  by_cases h1 : c = 32
  · simp [h1]
  · by_cases h2 : c = 9
    · simp [h2]
    · by_cases h3 : c = 10
      · simp [h3]
      · simp [h1, h2, h3]
theorem digit_tells (c : Int) : lex_digit.f c = some (digitB c) := by
  unfold lex_digit.f digitB
  by_cases h : c ≥ 48
  · simp [h]
  · simp [h]
theorem letter_tells (c : Int) (h0 : 0 ≤ c) (h1 : c < 256) : lex_letter.f c = some (letterB c) :=
  byte_all (fun c => lex_letter.f c = some (letterB c)) (by decide +kernel) c h0 h1
theorem run_blank_l0 (l : List Int) (hl : l.length ≤ 1000000000000000) (d : Nat) : ∀ (k i : Nat), i ≤ l.length → l.length - i = d → d < k → lex_run_at_93.l0 k l (i : Int) = some (((i + ((l.drop i).takeWhile blankB).length : Nat)) : Int) := by
  induction d with
  | zero =>
    intro k i hi hd hk
    obtain ⟨k, rfl⟩ : ∃ n, k = n + 1 := ⟨k - 1, by omega⟩
    simp only [lex_run_at_93.l0]
    rw [if_neg (by omega), List.drop_eq_nil_of_le (by omega)]
    simp
  | succ d ih =>
    intro k i hi hd hk
    obtain ⟨k, rfl⟩ : ∃ n, k = n + 1 := ⟨k - 1, by omega⟩
    simp only [lex_run_at_93.l0]
    rw [if_pos (by omega), if_pos (by omega), rd_drop l i (by omega)]
    rw [blank_tells]
    simp only [Option.bind_some, List.takeWhile_cons]
    by_cases h : blankB (rd l (i : Int)) = true
    · rw [if_pos h, if_pos h, wrap64_id (by omega) (by omega)]
      have := ih k (i + 1) (by omega) (by omega) (by omega)
      rw [show ((i : Int) + 1) = ((i + 1 : Nat) : Int) by omega, this]
      simp; omega
    · rw [if_neg h, if_neg h]
      simp
theorem run_blank (k : Nat) (l : List Int) (hl : l.length ≤ 1000000000000000) (hk : l.length < k) : lex_run_at_93.f k l = some (((l.takeWhile blankB).length : Nat) : Int) := by
  have := run_blank_l0 l hl l.length k 0 (by omega) (by omega) hk
  simpa [lex_run_at_93.f] using this
theorem run_line_l0 (l : List Int) (hl : l.length ≤ 1000000000000000) (d : Nat) : ∀ (k i : Nat), i ≤ l.length → l.length - i = d → d < k → lex_run_at_94.l0 k l (i : Int) = some (((i + ((l.drop i).takeWhile lineB).length : Nat)) : Int) := by
  induction d with
  | zero =>
    intro k i hi hd hk
    obtain ⟨k, rfl⟩ : ∃ n, k = n + 1 := ⟨k - 1, by omega⟩
    simp only [lex_run_at_94.l0]
    rw [if_neg (by omega), List.drop_eq_nil_of_le (by omega)]
    simp
  | succ d ih =>
    intro k i hi hd hk
    obtain ⟨k, rfl⟩ : ∃ n, k = n + 1 := ⟨k - 1, by omega⟩
    simp only [lex_run_at_94.l0]
    rw [if_pos (by omega), if_pos (by omega), rd_drop l i (by omega)]
    rw [show lex_first_1.f (rd l (i : Int)) = some (lineB (rd l (i : Int))) from rfl]
    simp only [Option.bind_some, List.takeWhile_cons]
    by_cases h : lineB (rd l (i : Int)) = true
    · rw [if_pos h, if_pos h, wrap64_id (by omega) (by omega)]
      have := ih k (i + 1) (by omega) (by omega) (by omega)
      rw [show ((i : Int) + 1) = ((i + 1 : Nat) : Int) by omega, this]
      simp; omega
    · rw [if_neg h, if_neg h]
      simp
theorem run_line (k : Nat) (l : List Int) (hl : l.length ≤ 1000000000000000) (hk : l.length < k) : lex_run_at_94.f k l = some (((l.takeWhile lineB).length : Nat) : Int) := by
  have := run_line_l0 l hl l.length k 0 (by omega) (by omega) hk
  simpa [lex_run_at_94.f] using this
theorem first2_tells (c : Int) (h0 : 0 ≤ c) (h1 : c < 256) : lex_first_2.f c = some (wordB c) := by
  unfold lex_first_2.f wordB
  rw [letter_tells c h0 h1, digit_tells]
  cases letterB c <;> simp
theorem run_word_l0 (l : List Int) (hb : Bytes l) (hl : l.length ≤ 1000000000000000) (d : Nat) : ∀ (k i : Nat), i ≤ l.length → l.length - i = d → d < k → lex_run_at_95.l0 k l (i : Int) = some (((i + ((l.drop i).takeWhile wordB).length : Nat)) : Int) := by
  induction d with
  | zero =>
    intro k i hi hd hk
    obtain ⟨k, rfl⟩ : ∃ n, k = n + 1 := ⟨k - 1, by omega⟩
    simp only [lex_run_at_95.l0]
    rw [if_neg (by omega), List.drop_eq_nil_of_le (by omega)]
    simp
  | succ d ih =>
    intro k i hi hd hk
    obtain ⟨k, rfl⟩ : ∃ n, k = n + 1 := ⟨k - 1, by omega⟩
    simp only [lex_run_at_95.l0]
    rw [if_pos (by omega), if_pos (by omega), rd_drop l i (by omega)]
    rw [first2_tells _ (rd_byte hb _).1 (rd_byte hb _).2]
    simp only [Option.bind_some, List.takeWhile_cons]
    by_cases h : wordB (rd l (i : Int)) = true
    · rw [if_pos h, if_pos h, wrap64_id (by omega) (by omega)]
      have := ih k (i + 1) (by omega) (by omega) (by omega)
      rw [show ((i : Int) + 1) = ((i + 1 : Nat) : Int) by omega, this]
      simp; omega
    · rw [if_neg h, if_neg h]
      simp
theorem run_word (k : Nat) (l : List Int) (hb : Bytes l) (hl : l.length ≤ 1000000000000000) (hk : l.length < k) : lex_run_at_95.f k l = some (((l.takeWhile wordB).length : Nat) : Int) := by
  have := run_word_l0 l hb hl l.length k 0 (by omega) (by omega) hk
  simpa [lex_run_at_95.f] using this
theorem run_digit_l0 (l : List Int) (hl : l.length ≤ 1000000000000000) (d : Nat) : ∀ (k i : Nat), i ≤ l.length → l.length - i = d → d < k → lex_run_at_76.l0 k l (i : Int) = some (((i + ((l.drop i).takeWhile digitB).length : Nat)) : Int) := by
  induction d with
  | zero =>
    intro k i hi hd hk
    obtain ⟨k, rfl⟩ : ∃ n, k = n + 1 := ⟨k - 1, by omega⟩
    simp only [lex_run_at_76.l0]
    rw [if_neg (by omega), List.drop_eq_nil_of_le (by omega)]
    simp
  | succ d ih =>
    intro k i hi hd hk
    obtain ⟨k, rfl⟩ : ∃ n, k = n + 1 := ⟨k - 1, by omega⟩
    simp only [lex_run_at_76.l0]
    rw [if_pos (by omega), if_pos (by omega), rd_drop l i (by omega)]
    rw [digit_tells]
    simp only [Option.bind_some, List.takeWhile_cons]
    by_cases h : digitB (rd l (i : Int)) = true
    · rw [if_pos h, if_pos h, wrap64_id (by omega) (by omega)]
      have := ih k (i + 1) (by omega) (by omega) (by omega)
      rw [show ((i : Int) + 1) = ((i + 1 : Nat) : Int) by omega, this]
      simp; omega
    · rw [if_neg h, if_neg h]
      simp
theorem run_digit (k : Nat) (l : List Int) (hl : l.length ≤ 1000000000000000) (hk : l.length < k) : lex_run_at_76.f k l = some (((l.takeWhile digitB).length : Nat) : Int) := by
  have := run_digit_l0 l hl l.length k 0 (by omega) (by omega) hk
  simpa [lex_run_at_76.f] using this

/-- The kind and the length of the token that bytes begin with. -/
def firstS : List Int → Int × Nat
  | [] => (5, 1)
  | c :: r =>
    if blankB c then (0, ((c :: r).takeWhile blankB).length)
    else if c = 35 then (1, ((c :: r).takeWhile lineB).length)
    else if letterB c then (2, ((c :: r).takeWhile wordB).length)
    else if digitB c then (3, ((c :: r).takeWhile digitB).length)
    else match r with
      | [] => if oneB c then (4, 1) else (5, 1)
      | b :: _ => if twoB c b then (4, 2) else if oneB c then (4, 1) else (5, 1)
theorem takeWhile_pos (p : Int → Bool) (c : Int) (r : List Int) (h : p c = true) : 1 ≤ ((c :: r).takeWhile p).length := by
  rw [List.takeWhile_cons, if_pos h]; simp
theorem takeWhile_le (p : Int → Bool) (l : List Int) : (l.takeWhile p).length ≤ l.length := (List.takeWhile_sublist p).length_le
theorem firstS_len (c : Int) (r : List Int) : 1 ≤ (firstS (c :: r)).2 ∧ (firstS (c :: r)).2 ≤ (c :: r).length := by
  simp only [firstS]
  by_cases h1 : blankB c = true
  · rw [if_pos h1]; exact ⟨takeWhile_pos _ _ _ h1, takeWhile_le _ _⟩
  · rw [if_neg h1]
    by_cases h2 : c = 35
    · rw [if_pos h2]; exact ⟨takeWhile_pos _ _ _ (by subst h2; decide), takeWhile_le _ _⟩
    · rw [if_neg h2]
      by_cases h3 : letterB c = true
      · rw [if_pos h3]; exact ⟨takeWhile_pos _ _ _ (by simp [wordB, h3]), takeWhile_le _ _⟩
      · rw [if_neg h3]
        by_cases h4 : digitB c = true
        · rw [if_pos h4]; exact ⟨takeWhile_pos _ _ _ h4, takeWhile_le _ _⟩
        · rw [if_neg h4]
          cases r with
          | nil => by_cases h5 : oneB c = true <;> simp [h5]
          | cons b r =>
            by_cases h6 : twoB c b = true
            · simp [h6]
            · by_cases h5 : oneB c = true <;> simp [h5, h6]
theorem one_tells (c : Int) (h0 : 0 ≤ c) (h1 : c < 256) : (strings_IndexByte.f (⟨#[40, 41, 123, 125, 44, 59, 58, 46, 60, 43, 45, 42, 33, 61, 64, 47]⟩ : ByteArray) c).map (fun t => decide (t ≥ 0)) = some (oneB c) :=
  byte_all (fun c => (strings_IndexByte.f (⟨#[40, 41, 123, 125, 44, 59, 58, 46, 60, 43, 45, 42, 33, 61, 64, 47]⟩ : ByteArray) c).map (fun t => decide (t ≥ 0)) = some (oneB c)) (by decide +kernel) c h0 h1
theorem uint8_eq (a : Int) (b : Nat) (h0 : 0 ≤ a) (h1 : a < 256) (hb : b < 256) : (UInt8.ofNat a.toNat = UInt8.ofNat b) ↔ a = b := by
  constructor
  · intro h
    have h2 := congrArg UInt8.toNat h
    simp only [UInt8.toNat_ofNat'] at h2
    omega
  · rintro rfl
    simp
theorem toList_mk (l : List UInt8) : (⟨l.toArray⟩ : ByteArray).toList = l := by rw [Lib.toList_data]
theorem str_toList (l : List Int) : (strOfNums l).toList = l.map fun n => UInt8.ofNat n.toNat := Lib.strOfNums_toList l
theorem two_str (a b : Int) (ha : 0 ≤ a ∧ a < 256) (hb : 0 ≤ b ∧ b < 256) (x y : Nat) (hx : x < 256) (hy : y < 256) : ((strOfNums [a, b]).toList = (⟨#[UInt8.ofNat x, UInt8.ofNat y]⟩ : ByteArray).toList) ↔ (a = x ∧ b = y) := by
  rw [str_toList, Lib.toList_data]
  simp only [List.map_cons, List.map_nil, List.cons.injEq, and_true]
  rw [uint8_eq a x ha.1 ha.2 hx, uint8_eq b y hb.1 hb.2 hy]
theorem contains_tells (k : Nat) (hk : 6 ≤ k) (a b : Int) (ha : 0 ≤ a ∧ a < 256) (hb : 0 ≤ b ∧ b < 256) :
    slices_Contains_string_string.f k (([(⟨#[61, 61]⟩ : ByteArray), (⟨#[38, 38]⟩ : ByteArray), (⟨#[124, 124]⟩ : ByteArray), (⟨#[64, 61]⟩ : ByteArray)] : List ByteArray)) (strOfNums [a, b]) = some (twoB a b) := by
  obtain ⟨k, rfl⟩ : ∃ n, k = n + 6 := ⟨k - 6, by omega⟩
  unfold slices_Contains_string_string.f slices_Index_string_string.f
  have e1 := two_str a b ha hb 61 61 (by decide) (by decide)
  have e2 := two_str a b ha hb 38 38 (by decide) (by decide)
  have e3 := two_str a b ha hb 124 124 (by decide) (by decide)
  have e4 := two_str a b ha hb 64 61 (by decide) (by decide)
  have r0 : rdOf ByteArray.empty ([(⟨#[61, 61]⟩ : ByteArray), (⟨#[38, 38]⟩ : ByteArray), (⟨#[124, 124]⟩ : ByteArray), (⟨#[64, 61]⟩ : ByteArray)] : List ByteArray) 0 = ⟨#[UInt8.ofNat 61, UInt8.ofNat 61]⟩ := rfl
  have r1 : rdOf ByteArray.empty ([(⟨#[61, 61]⟩ : ByteArray), (⟨#[38, 38]⟩ : ByteArray), (⟨#[124, 124]⟩ : ByteArray), (⟨#[64, 61]⟩ : ByteArray)] : List ByteArray) 1 = ⟨#[UInt8.ofNat 38, UInt8.ofNat 38]⟩ := rfl
  have r2 : rdOf ByteArray.empty ([(⟨#[61, 61]⟩ : ByteArray), (⟨#[38, 38]⟩ : ByteArray), (⟨#[124, 124]⟩ : ByteArray), (⟨#[64, 61]⟩ : ByteArray)] : List ByteArray) 2 = ⟨#[UInt8.ofNat 124, UInt8.ofNat 124]⟩ := rfl
  have r3 : rdOf ByteArray.empty ([(⟨#[61, 61]⟩ : ByteArray), (⟨#[38, 38]⟩ : ByteArray), (⟨#[124, 124]⟩ : ByteArray), (⟨#[64, 61]⟩ : ByteArray)] : List ByteArray) 3 = ⟨#[UInt8.ofNat 64, UInt8.ofNat 61]⟩ := rfl
  have w0 : wrap64 (0 + 1) = 1 := wrap64_id (by decide) (by decide)
  have w1 : wrap64 (1 + 1) = 2 := wrap64_id (by decide) (by decide)
  have w2 : wrap64 (2 + 1) = 3 := wrap64_id (by decide) (by decide)
  have w3 : wrap64 (3 + 1) = 4 := wrap64_id (by decide) (by decide)
  simp only [slices_Index_string_string.l0, List.length_cons, List.length_nil]
  rw [if_pos (by decide), if_pos (by decide), if_pos (by decide), r0]
  by_cases h1 : a = 61 ∧ b = 61
  · rw [if_pos (e1.2 h1)]
    simp [twoB, h1.1, h1.2]
  · rw [if_neg (fun h => h1 (e1.1 h)), w0, if_pos (by decide), if_pos (by decide), if_pos (by decide), r1]
    by_cases h2 : a = 38 ∧ b = 38
    · rw [if_pos (e2.2 h2)]
      simp [twoB, h2.1, h2.2]
    · rw [if_neg (fun h => h2 (e2.1 h)), w1, if_pos (by decide), if_pos (by decide), if_pos (by decide), r2]
      by_cases h3 : a = 124 ∧ b = 124
      · rw [if_pos (e3.2 h3)]
        simp [twoB, h3.1, h3.2]
      · rw [if_neg (fun h => h3 (e3.1 h)), w2, if_pos (by decide), if_pos (by decide), if_pos (by decide), r3]
        by_cases h4 : a = 64 ∧ b = 61
        · rw [if_pos (e4.2 h4)]
          simp [twoB, h4.1, h4.2]
        · rw [if_neg (fun h => h4 (e4.1 h)), w3, if_neg (by decide)]
          have : twoB a b = false := by
            unfold twoB
            simp only [Bool.or_eq_false_iff, Bool.and_eq_false_iff, beq_eq_false_iff_ne]
            omega
          simp [this]
theorem first_tells (k : Nat) (l : List Int) (hb : Bytes l) (hl : l.length ≤ 1000000000000000) (h0 : 0 < l.length) (hk : l.length + 10 < k) : lex_first.f k l = some ((firstS l).1, ((firstS l).2 : Int)) := by
  match l, hb, hl, h0, hk with
  | c :: r, hb, hl, h0, hk =>
    have hc := hb c (by simp)
    have rc : rd (c :: r) 0 = c := rfl
    unfold lex_first.f
    rw [if_pos (by simp), rc, blank_tells, letter_tells c hc.1 hc.2, digit_tells]
    simp only [Option.bind_some]
    simp only [firstS]
    by_cases h1 : blankB c = true
    · rw [if_pos h1, if_pos h1, run_blank k _ hl (by omega)]
      rfl
    · rw [if_neg h1, if_neg h1]
      by_cases h2 : c = 35
      · rw [if_pos h2, if_pos h2, run_line k _ hl (by omega)]
        rfl
      · rw [if_neg h2, if_neg h2]
        by_cases h3 : letterB c = true
        · rw [if_pos h3, if_pos h3, run_word k _ hb hl (by omega)]
          rfl
        · rw [if_neg h3, if_neg h3]
          by_cases h4 : digitB c = true
          · rw [if_pos h4, if_pos h4, run_digit k _ hl (by omega)]
            rfl
          · rw [if_neg h4, if_neg h4]
            obtain ⟨k, rfl⟩ : ∃ n, k = n + 1 := ⟨k - 1, by omega⟩
            have ho := one_tells c hc.1 hc.2
            have j0 : lex_first.j0 (k + 1) (c :: r) false = some (if oneB c then (4, 1) else (5, 1)) := by
              simp only [lex_first.j0]
              rw [if_neg (by decide), if_pos (by simp), rc]
              obtain ⟨t, ht, hd⟩ := Option.map_eq_some_iff.1 ho
              rw [ht]
              simp only [Option.bind_some]
              by_cases h5 : t ≥ 0
              · rw [if_pos h5]
                simp only [h5, decide_true] at hd
                simp [← hd]
              · rw [if_neg h5]
                simp only [h5, decide_false] at hd
                simp [← hd]
            match r, hb, hl, hk, j0 with
            | [], hb, hl, hk, j0 =>
              rw [if_neg (by simp), j0]
              by_cases h5 : oneB c = true <;> simp [h5]
            | b :: r, hb, hl, hk, j0 =>
              have hbb := hb b (by simp)
              rw [if_pos (by simp; omega), if_pos (by simp; omega), show (c :: b :: r).take 2 = [c, b] from rfl, contains_tells (k + 1) (by omega) c b hc hbb]
              simp only [Option.bind_some]
              by_cases h6 : twoB c b = true
              · rw [h6]
                simp only [lex_first.j0]
                simp
              · have h7 : twoB c b = false := by simpa using h6
                rw [h7, j0]
                by_cases h5 : oneB c = true <;> simp [h5]
/-- The tokens of bytes, the first one at p. -/
def toks (p : Nat) (l : List Int) : List S28 :=
  match l with
  | [] => []
  | c :: r => (⟨(firstS (c :: r)).1, (p : Int), ((p + (firstS (c :: r)).2 : Nat) : Int)⟩ : S28) :: toks (p + (firstS (c :: r)).2) ((c :: r).drop (firstS (c :: r)).2)
termination_by l.length
decreasing_by
  have := firstS_len c r
  simp only [List.length_drop]
  omega
theorem toks_nil (p : Nat) : toks p [] = [] := by rw [toks.eq_def]
theorem toks_cons (p : Nat) (l : List Int) (h : 0 < l.length) : toks p l = (⟨(firstS l).1, (p : Int), ((p + (firstS l).2 : Nat) : Int)⟩ : S28) :: toks (p + (firstS l).2) (l.drop (firstS l).2) := by
  match l, h with
  | c :: r, _ => rw [toks.eq_def]
theorem firstS_len' (l : List Int) (h : 0 < l.length) : 1 ≤ (firstS l).2 ∧ (firstS l).2 ≤ l.length := by
  match l, h with
  | c :: r, _ => exact firstS_len c r
theorem toks_length (d : Nat) : ∀ (p : Nat) (l : List Int), l.length ≤ d → (toks p l).length ≤ l.length := by
  induction d with
  | zero => intro p l h; rw [List.length_eq_zero_iff.1 (by omega : l.length = 0), toks_nil]; simp
  | succ d ih =>
    intro p l h
    by_cases h0 : 0 < l.length
    · have hf := firstS_len' l h0
      rw [toks_cons p l h0]
      have := ih (p + (firstS l).2) (l.drop (firstS l).2) (by rw [List.length_drop]; omega)
      rw [List.length_drop] at this
      simp; omega
    · rw [List.length_eq_zero_iff.1 (by omega : l.length = 0), toks_nil]; simp
theorem all_l0 (l : List Int) (hb : Bytes l) (hl : l.length ≤ 1000000000000) (d : Nat) : ∀ (k p : Nat) (acc : List S28), p ≤ l.length → l.length - p ≤ d → d + l.length + 20 < k → acc.length ≤ p → lex_All.l0 k l acc (p : Int) = some (acc ++ toks p (l.drop p)) := by
  induction d with
  | zero =>
    intro k p acc hp hd hk ha
    obtain ⟨k, rfl⟩ : ∃ n, k = n + 1 := ⟨k - 1, by omega⟩
    simp only [lex_All.l0]
    rw [if_neg (by omega), List.drop_eq_nil_of_le (by omega), toks_nil]
    simp
  | succ d ih =>
    intro k p acc hp hd hk ha
    obtain ⟨k, rfl⟩ : ∃ n, k = n + 1 := ⟨k - 1, by omega⟩
    simp only [lex_All.l0]
    by_cases h : p < l.length
    · have h0 : 0 < (l.drop p).length := by rw [List.length_drop]; omega
      have hf := firstS_len' (l.drop p) h0
      have hf2 := hf.2
      rw [List.length_drop] at hf2
      rw [if_pos (by omega), if_pos (by omega), if_pos (by omega), Int.toNat_natCast, first_tells k (l.drop p) (hb.drop p) (by rw [List.length_drop]; omega) h0 (by rw [List.length_drop]; omega)]
      simp only [Option.bind_some]
      rw [if_pos (by omega), wrap64_id (by omega) (by omega)]
      have := ih k (p + (firstS (l.drop p)).2) (acc ++ [(⟨(firstS (l.drop p)).1, (p : Int), ((p + (firstS (l.drop p)).2 : Nat) : Int)⟩ : S28)]) (by omega) (by omega) (by omega) (by simp; omega)
      rw [show ((p : Int) + ((firstS (l.drop p)).2 : Int)) = ((p + (firstS (l.drop p)).2 : Nat) : Int) by omega, this, toks_cons p (l.drop p) h0]
      simp [List.drop_drop, Nat.add_comm]
    · rw [if_neg (by omega), List.drop_eq_nil_of_le (by omega), toks_nil]
      simp
theorem all_tells (k : Nat) (l : List Int) (hb : Bytes l) (hl : l.length ≤ 1000000000000) (hk : 2 * l.length + 20 < k) : lex_All.f k l = some (toks 0 l) := by
  have := all_l0 l hb hl l.length k 0 [] (by omega) (by omega) (by omega) (by simp)
  simpa [lex_All.f] using this
/-- The first token that is bad. -/
def badS : List S28 → Option S28
  | [] => none
  | t :: r => if t.f0 = 5 then some t else badS r
theorem rdT_drop (l : List S28) (i : Nat) (h : i < l.length) : l.drop i = rd_T28 l (i : Int) :: l.drop (i + 1) := by
  rw [List.drop_eq_getElem_cons h]
  simp [rd_T28, List.getD_eq_getElem?_getD, h]
theorem idx_l0 (l : List S28) (hl : l.length ≤ 1000000000000) (d : Nat) : ∀ (k i : Nat), i ≤ l.length → l.length - i = d → d < k →
    (badS (l.drop i) = none ∧ api_Tok_at_72.l0 k l (l.length : Int) (i : Int) = some (-1)) ∨ ∃ j : Nat, i ≤ j ∧ j < l.length ∧ badS (l.drop i) = some (rd_T28 l (j : Int)) ∧ api_Tok_at_72.l0 k l (l.length : Int) (i : Int) = some (j : Int) := by
  induction d with
  | zero =>
    intro k i hi hd hk
    obtain ⟨k, rfl⟩ : ∃ n, k = n + 1 := ⟨k - 1, by omega⟩
    refine .inl ⟨by rw [List.drop_eq_nil_of_le (by omega)]; rfl, ?_⟩
    simp only [api_Tok_at_72.l0]
    rw [if_neg (by omega)]
  | succ d ih =>
    intro k i hi hd hk
    obtain ⟨k, rfl⟩ : ∃ n, k = n + 1 := ⟨k - 1, by omega⟩
    have hstep : api_Tok_at_72.l0 (k + 1) l (l.length : Int) (i : Int) = if (rd_T28 l (i : Int)).f0 = 5 then some (i : Int) else api_Tok_at_72.l0 k l (l.length : Int) (((i + 1 : Nat)) : Int) := by
      simp only [api_Tok_at_72.l0]
      rw [if_pos (by omega), if_pos (by omega), if_pos (by omega)]
      unfold lex_Bad_1.f
      simp only [Option.bind_some]
      rw [wrap64_id (by omega) (by omega), show ((i : Int) + 1) = ((i + 1 : Nat) : Int) by omega]
      by_cases h : (rd_T28 l (i : Int)).f0 = 5
      · rw [if_pos (by simpa using h), if_pos h]
      · rw [if_neg (by simpa using h), if_neg h]
    rw [rdT_drop l i (by omega), hstep]
    simp only [badS]
    by_cases h : (rd_T28 l (i : Int)).f0 = 5
    · rw [if_pos h, if_pos h]
      exact .inr ⟨i, by omega, by omega, rfl, rfl⟩
    · rw [if_neg h, if_neg h]
      rcases ih k (i + 1) (by omega) (by omega) (by omega) with ⟨h1, h2⟩ | ⟨j, h1, h2, h3, h4⟩
      · exact .inl ⟨h1, h2⟩
      · exact .inr ⟨j, by omega, h2, h3, h4⟩
theorem bad_tells (k : Nat) (l : List S28) (hl : l.length ≤ 1000000000000) (hk : l.length < k) : lex_Bad.f k l = some (match badS l with | none => (0, 0, 0, false) | some t => (t.f0, t.f1, t.f2, true)) := by
  unfold lex_Bad.f api_Tok_at_72.f
  rcases idx_l0 l hl l.length k 0 (by omega) (by omega) hk with ⟨h1, h2⟩ | ⟨j, h1, h2, h3, h4⟩
  · have h2' : api_Tok_at_72.l0 k l (l.length : Int) 0 = some (-1) := h2
    rw [h2']
    simp only [List.drop_zero] at h1
    simp [h1]
  · have h4' : api_Tok_at_72.l0 k l (l.length : Int) 0 = some (j : Int) := h4
    rw [h4']
    simp only [List.drop_zero] at h3
    simp only [Option.bind_some, h3]
    rw [if_neg (by omega), if_pos (by omega), if_pos (by omega)]
theorem awake_true (k : Nat) (hk : 100 ≤ k) : blazonlaw06_awake.f k = some true := by
  unfold blazonlaw06_awake.f
  rw [all_tells k _ (by intro x hx; simp at hx; omega) (by decide) (by simp; omega), all_tells k _ (by intro x hx; simp at hx; omega) (by decide) (by simp; omega)]
  simp only [Option.bind_some]
  have t1 : toks 0 [97, 64, 61, 98, 35, 99] = [⟨2, 0, 1⟩, ⟨4, 1, 3⟩, ⟨2, 3, 4⟩, ⟨1, 4, 6⟩] := by
    rw [toks_cons _ _ (by decide), show firstS [97, 64, 61, 98, 35, 99] = (2, 1) by decide]
    simp only [List.drop_succ_cons, List.drop_zero]
    rw [toks_cons _ _ (by decide), show firstS [64, 61, 98, 35, 99] = (4, 2) by decide]
    simp only [List.drop_succ_cons, List.drop_zero]
    rw [toks_cons _ _ (by decide), show firstS [98, 35, 99] = (2, 1) by decide]
    simp only [List.drop_succ_cons, List.drop_zero]
    rw [toks_cons _ _ (by decide), show firstS [35, 99] = (1, 2) by decide]
    simp only [List.drop_succ_cons, List.drop_zero]
    rw [toks_nil]
    rfl
  have t2 : toks 0 [36] = [⟨5, 0, 1⟩] := by
    rw [toks_cons _ _ (by decide), show firstS [36] = (5, 1) by decide]
    simp only [List.drop_succ_cons, List.drop_zero]
    rw [toks_nil]
    rfl
  rw [t1, t2, bad_tells k _ (by decide) (by simp; omega)]
  simp [badS, rd_T28]

end Go.Proofs.Yteoccoklbmjiaaa.PLex
