/- An expression between brackets is the same one, a place later, unless it stands too deep then. -/
import Derived.Test.YteoccoklbmjiaaaPExbx1
import Derived.Test.YteoccoklbmjiaaaPExbx2
import Derived.Test.YteoccoklbmjiaaaPExbx3
import Derived.Test.YteoccoklbmjiaaaPExbx4
import Derived.Test.YteoccoklbmjiaaaPExbx5
import Derived.Test.YteoccoklbmjiaaaPExbx6
import Derived.Test.YteoccoklbmjiaaaPExbx7
import Derived.Test.YteoccoklbmjiaaaPExbx8
import Derived.OpenShut
import Derived.Laws.BitsLemmas
import Derived.Laws.BitsAllLaws
import Derived.Laws.Bits64b
import Derived.Lib.TrailingZeros
import Derived.Lib.Bytes
import Derived.Test.YteoccoklbmjiaaaWSized
set_option linter.unusedVariables false
set_option linter.unusedSimpArgs false
namespace Go.Proofs.Yteoccoklbmjiaaa.Pure
open Go.RowKit Go.Proofs.Yteoccoklbmjiaaa.PExb Go.Proofs.YteoccoklbmjiaaaW.PrintWords Go.Proofs.YteoccoklbmjiaaaW.PrintLast

theorem wrap64_id {x : Int} (h0 : -9223372036854775808 ≤ x) (h1 : x ≤ 9223372036854775807) : wrap64 x = x := by unfold wrap64; omega
theorem rd_drop (l : List Int) (i : Nat) (h : i < l.length) : l.drop i = rd l (i : Int) :: l.drop (i + 1) := by
  rw [List.drop_eq_getElem_cons h]
  simp [rd, List.getD_eq_getElem?_getD, h]
def Bytes (l : List Int) : Prop := ∀ x ∈ l, 0 ≤ x ∧ x < 256
theorem Bytes.drop {l : List Int} (h : Bytes l) (n : Nat) : Bytes (l.drop n) := fun x hx => h x (List.mem_of_mem_drop hx)
theorem Bytes.take {l : List Int} (h : Bytes l) (n : Nat) : Bytes (l.take n) := fun x hx => h x (List.mem_of_mem_take hx)
theorem Bytes.of_wf {l : List Int} (h : ∀ x ∈ l, (Lit.int .u8 x).wf = true) : Bytes l := fun x hx => by have := bounds_u8 (h x hx); omega
theorem bytes_bytesOf (s : ByteArray) : Bytes (bytesOf s) := by
  intro x hx
  unfold bytesOf at hx
  obtain ⟨b, _, rfl⟩ := List.mem_map.1 hx
  have := b.toNat_lt
  omega
theorem rd_byte {l : List Int} (h : Bytes l) (i : Int) : 0 ≤ rd l i ∧ rd l i < 256 := by
  unfold rd
  rw [List.getD_eq_getElem?_getD]
  cases e : l[i.toNat]? with
  | none => simp
  | some v => simpa using h v (List.mem_of_getElem? e)
def blankB (c : Int) : Bool := c == 32 || c == 9 || c == 10 || c == 13
def letterB (c : Int) : Bool := (decide (97 ≤ c) && decide (c ≤ 122)) || (decide (65 ≤ c) && decide (c ≤ 90)) || c == 95
def digitB (c : Int) : Bool := decide (48 ≤ c) && decide (c ≤ 57)
def wordB (c : Int) : Bool := letterB c || digitB c
def lineB (c : Int) : Bool := c != 10
def oneB (c : Int) : Bool := [40, 41, 123, 125, 44, 59, 58, 46, 60, 43, 45, 42, 33, 61, 64, 47].contains c
def twoB (a b : Int) : Bool := (a == 61 && b == 61) || (a == 38 && b == 38) || (a == 124 && b == 124) || (a == 64 && b == 61)
theorem byte_all (p : Int → Prop) (h : ∀ b : Fin 256, p ((b.val : Nat) : Int)) (c : Int) (h0 : 0 ≤ c) (h1 : c < 256) : p c := by
  have := h ⟨c.toNat, by omega⟩
  simp only at this
  rwa [show ((c.toNat : Nat) : Int) = c by omega] at this
theorem blank_tells (c : Int) : lex_blank.f c = some (blankB c) := by
  unfold lex_blank.f blankB
  by_cases h1 : c = 32
  · simp [h1]
  · by_cases h2 : c = 9
    · simp [h2]
    · by_cases h3 : c = 10
      · simp [h3]
      · by_cases h4 : c = 13 <;> simp [h1, h2, h3, h4]
theorem digit_tells (c : Int) : lex_digit.f c = some (digitB c) := by
  unfold lex_digit.f digitB
  by_cases h : c ≥ 48
  · simp [h]
  · simp [h]
theorem letter_tells (c : Int) (h0 : 0 ≤ c) (h1 : c < 256) : lex_letter.f c = some (letterB c) :=
  byte_all (fun c => lex_letter.f c = some (letterB c)) (by decide +kernel) c h0 h1
theorem first2_tells (c : Int) (h0 : 0 ≤ c) (h1 : c < 256) : lex_first_2.f c = some (wordB c) := by
  unfold lex_first_2.f wordB
  rw [letter_tells c h0 h1, digit_tells]
  cases letterB c <;> simp
theorem ident1_tells (c : Int) (h0 : 0 ≤ c) (h1 : c < 256) : lex_Ident_1.f c = some (wordB c) := by
  unfold lex_Ident_1.f wordB
  rw [letter_tells c h0 h1, digit_tells]
  cases letterB c <;> simp
theorem run_blank_l0 (l : List Int) (hb : Bytes l) (hl : l.length ≤ 1000000000000000) (d : Nat) : ∀ (k i : Nat), i ≤ l.length → l.length - i = d → 2 * d + 1 < k → lex_run_lex_blank.l0 k l (i : Int) = some (((i + ((l.drop i).takeWhile blankB).length : Nat)) : Int) := by
  induction d with
  | zero =>
    intro k i hi hd hk
    obtain ⟨k, rfl⟩ : ∃ n, k = n + 2 := ⟨k - 2, by omega⟩
    simp only [lex_run_lex_blank.l0, lex_run_lex_blank.j0]
    rw [if_neg (by omega), if_neg (by decide), List.drop_eq_nil_of_le (by omega)]
    simp
  | succ d ih =>
    intro k i hi hd hk
    obtain ⟨k, rfl⟩ : ∃ n, k = n + 2 := ⟨k - 2, by omega⟩
    simp only [lex_run_lex_blank.l0]
    rw [if_pos (by omega), if_pos (by omega), rd_drop l i (by omega)]
    rw [blank_tells]
    simp only [Option.bind_some, List.takeWhile_cons, lex_run_lex_blank.j0]
    by_cases h : blankB (rd l (i : Int)) = true
    · rw [if_pos h, if_pos h, wrap64_id (by omega) (by omega)]
      have := ih k (i + 1) (by omega) (by omega) (by omega)
      rw [show ((i : Int) + 1) = ((i + 1 : Nat) : Int) by omega, this]
      simp; omega
    · rw [if_neg h, if_neg h]
      simp
theorem run_blank (k : Nat) (l : List Int) (hb : Bytes l) (hl : l.length ≤ 1000000000000000) (hk : 2 * l.length + 1 < k) : lex_run_lex_blank.f k l = some (((l.takeWhile blankB).length : Nat) : Int) := by
  have := run_blank_l0 l hb hl l.length k 0 (by omega) (by omega) hk
  simpa [lex_run_lex_blank.f] using this
theorem run_line_l0 (l : List Int) (hb : Bytes l) (hl : l.length ≤ 1000000000000000) (d : Nat) : ∀ (k i : Nat), i ≤ l.length → l.length - i = d → 2 * d + 1 < k → lex_run_lex_first_1.l0 k l (i : Int) = some (((i + ((l.drop i).takeWhile lineB).length : Nat)) : Int) := by
  induction d with
  | zero =>
    intro k i hi hd hk
    obtain ⟨k, rfl⟩ : ∃ n, k = n + 2 := ⟨k - 2, by omega⟩
    simp only [lex_run_lex_first_1.l0, lex_run_lex_first_1.j0]
    rw [if_neg (by omega), if_neg (by decide), List.drop_eq_nil_of_le (by omega)]
    simp
  | succ d ih =>
    intro k i hi hd hk
    obtain ⟨k, rfl⟩ : ∃ n, k = n + 2 := ⟨k - 2, by omega⟩
    simp only [lex_run_lex_first_1.l0]
    rw [if_pos (by omega), if_pos (by omega), rd_drop l i (by omega)]
    rw [show lex_first_1.f (rd l (i : Int)) = some (lineB (rd l (i : Int))) from rfl]
    simp only [Option.bind_some, List.takeWhile_cons, lex_run_lex_first_1.j0]
    by_cases h : lineB (rd l (i : Int)) = true
    · rw [if_pos h, if_pos h, wrap64_id (by omega) (by omega)]
      have := ih k (i + 1) (by omega) (by omega) (by omega)
      rw [show ((i : Int) + 1) = ((i + 1 : Nat) : Int) by omega, this]
      simp; omega
    · rw [if_neg h, if_neg h]
      simp
theorem run_line (k : Nat) (l : List Int) (hb : Bytes l) (hl : l.length ≤ 1000000000000000) (hk : 2 * l.length + 1 < k) : lex_run_lex_first_1.f k l = some (((l.takeWhile lineB).length : Nat) : Int) := by
  have := run_line_l0 l hb hl l.length k 0 (by omega) (by omega) hk
  simpa [lex_run_lex_first_1.f] using this
theorem run_word_l0 (l : List Int) (hb : Bytes l) (hl : l.length ≤ 1000000000000000) (d : Nat) : ∀ (k i : Nat), i ≤ l.length → l.length - i = d → 2 * d + 1 < k → lex_run_lex_first_2.l0 k l (i : Int) = some (((i + ((l.drop i).takeWhile wordB).length : Nat)) : Int) := by
  induction d with
  | zero =>
    intro k i hi hd hk
    obtain ⟨k, rfl⟩ : ∃ n, k = n + 2 := ⟨k - 2, by omega⟩
    simp only [lex_run_lex_first_2.l0, lex_run_lex_first_2.j0]
    rw [if_neg (by omega), if_neg (by decide), List.drop_eq_nil_of_le (by omega)]
    simp
  | succ d ih =>
    intro k i hi hd hk
    obtain ⟨k, rfl⟩ : ∃ n, k = n + 2 := ⟨k - 2, by omega⟩
    simp only [lex_run_lex_first_2.l0]
    rw [if_pos (by omega), if_pos (by omega), rd_drop l i (by omega)]
    rw [first2_tells _ (rd_byte hb _).1 (rd_byte hb _).2]
    simp only [Option.bind_some, List.takeWhile_cons, lex_run_lex_first_2.j0]
    by_cases h : wordB (rd l (i : Int)) = true
    · rw [if_pos h, if_pos h, wrap64_id (by omega) (by omega)]
      have := ih k (i + 1) (by omega) (by omega) (by omega)
      rw [show ((i : Int) + 1) = ((i + 1 : Nat) : Int) by omega, this]
      simp; omega
    · rw [if_neg h, if_neg h]
      simp
theorem run_word (k : Nat) (l : List Int) (hb : Bytes l) (hl : l.length ≤ 1000000000000000) (hk : 2 * l.length + 1 < k) : lex_run_lex_first_2.f k l = some (((l.takeWhile wordB).length : Nat) : Int) := by
  have := run_word_l0 l hb hl l.length k 0 (by omega) (by omega) hk
  simpa [lex_run_lex_first_2.f] using this
theorem run_digit_l0 (l : List Int) (hb : Bytes l) (hl : l.length ≤ 1000000000000000) (d : Nat) : ∀ (k i : Nat), i ≤ l.length → l.length - i = d → 2 * d + 1 < k → lex_run_lex_digit.l0 k l (i : Int) = some (((i + ((l.drop i).takeWhile digitB).length : Nat)) : Int) := by
  induction d with
  | zero =>
    intro k i hi hd hk
    obtain ⟨k, rfl⟩ : ∃ n, k = n + 2 := ⟨k - 2, by omega⟩
    simp only [lex_run_lex_digit.l0, lex_run_lex_digit.j0]
    rw [if_neg (by omega), if_neg (by decide), List.drop_eq_nil_of_le (by omega)]
    simp
  | succ d ih =>
    intro k i hi hd hk
    obtain ⟨k, rfl⟩ : ∃ n, k = n + 2 := ⟨k - 2, by omega⟩
    simp only [lex_run_lex_digit.l0]
    rw [if_pos (by omega), if_pos (by omega), rd_drop l i (by omega)]
    rw [digit_tells]
    simp only [Option.bind_some, List.takeWhile_cons, lex_run_lex_digit.j0]
    by_cases h : digitB (rd l (i : Int)) = true
    · rw [if_pos h, if_pos h, wrap64_id (by omega) (by omega)]
      have := ih k (i + 1) (by omega) (by omega) (by omega)
      rw [show ((i : Int) + 1) = ((i + 1 : Nat) : Int) by omega, this]
      simp; omega
    · rw [if_neg h, if_neg h]
      simp
theorem run_digit (k : Nat) (l : List Int) (hb : Bytes l) (hl : l.length ≤ 1000000000000000) (hk : 2 * l.length + 1 < k) : lex_run_lex_digit.f k l = some (((l.takeWhile digitB).length : Nat) : Int) := by
  have := run_digit_l0 l hb hl l.length k 0 (by omega) (by omega) hk
  simpa [lex_run_lex_digit.f] using this
theorem run_ident_l0 (l : List Int) (hb : Bytes l) (hl : l.length ≤ 1000000000000000) (d : Nat) : ∀ (k i : Nat), i ≤ l.length → l.length - i = d → 2 * d + 1 < k → lex_run_lex_Ident_1.l0 k l (i : Int) = some (((i + ((l.drop i).takeWhile wordB).length : Nat)) : Int) := by
  induction d with
  | zero =>
    intro k i hi hd hk
    obtain ⟨k, rfl⟩ : ∃ n, k = n + 2 := ⟨k - 2, by omega⟩
    simp only [lex_run_lex_Ident_1.l0, lex_run_lex_Ident_1.j0]
    rw [if_neg (by omega), if_neg (by decide), List.drop_eq_nil_of_le (by omega)]
    simp
  | succ d ih =>
    intro k i hi hd hk
    obtain ⟨k, rfl⟩ : ∃ n, k = n + 2 := ⟨k - 2, by omega⟩
    simp only [lex_run_lex_Ident_1.l0]
    rw [if_pos (by omega), if_pos (by omega), rd_drop l i (by omega)]
    rw [ident1_tells _ (rd_byte hb _).1 (rd_byte hb _).2]
    simp only [Option.bind_some, List.takeWhile_cons, lex_run_lex_Ident_1.j0]
    by_cases h : wordB (rd l (i : Int)) = true
    · rw [if_pos h, if_pos h, wrap64_id (by omega) (by omega)]
      have := ih k (i + 1) (by omega) (by omega) (by omega)
      rw [show ((i : Int) + 1) = ((i + 1 : Nat) : Int) by omega, this]
      simp; omega
    · rw [if_neg h, if_neg h]
      simp
theorem run_ident (k : Nat) (l : List Int) (hb : Bytes l) (hl : l.length ≤ 1000000000000000) (hk : 2 * l.length + 1 < k) : lex_run_lex_Ident_1.f k l = some (((l.takeWhile wordB).length : Nat) : Int) := by
  have := run_ident_l0 l hb hl l.length k 0 (by omega) (by omega) hk
  simpa [lex_run_lex_Ident_1.f] using this
def firstS : List Int → Int × Nat
  | [] => (5, 1)
  | c :: r =>
    if blankB c then (0, ((c :: r).takeWhile blankB).length)
    else if c = 35 then (1, ((c :: r).takeWhile lineB).length)
    else if letterB c then (2, ((c :: r).takeWhile wordB).length)
    else if digitB c then (3, ((c :: r).takeWhile digitB).length)
    else match r with
      | [] => if oneB c then (4, 1) else (5, 1)
      | b :: _ => if twoB c b then (4, 2) else if oneB c then (4, 1) else (5, 1)
theorem takeWhile_pos (p : Int → Bool) (c : Int) (r : List Int) (h : p c = true) : 1 ≤ ((c :: r).takeWhile p).length := by
  rw [List.takeWhile_cons, if_pos h]; simp
theorem takeWhile_le (p : Int → Bool) (l : List Int) : (l.takeWhile p).length ≤ l.length := (List.takeWhile_sublist p).length_le
theorem firstS_len (c : Int) (r : List Int) : 1 ≤ (firstS (c :: r)).2 ∧ (firstS (c :: r)).2 ≤ (c :: r).length := by
  simp only [firstS]
  by_cases h1 : blankB c = true
  · rw [if_pos h1]; exact ⟨takeWhile_pos _ _ _ h1, takeWhile_le _ _⟩
  · rw [if_neg h1]
    by_cases h2 : c = 35
    · rw [if_pos h2]; exact ⟨takeWhile_pos _ _ _ (by subst h2; decide), takeWhile_le _ _⟩
    · rw [if_neg h2]
      by_cases h3 : letterB c = true
      · rw [if_pos h3]; exact ⟨takeWhile_pos _ _ _ (by simp [wordB, h3]), takeWhile_le _ _⟩
      · rw [if_neg h3]
        by_cases h4 : digitB c = true
        · rw [if_pos h4]; exact ⟨takeWhile_pos _ _ _ h4, takeWhile_le _ _⟩
        · rw [if_neg h4]
          cases r with
          | nil => by_cases h5 : oneB c = true <;> simp [h5]
          | cons b r =>
            by_cases h6 : twoB c b = true
            · simp [h6]
            · by_cases h5 : oneB c = true <;> simp [h5, h6]
theorem one_tells (c : Int) (h0 : 0 ≤ c) (h1 : c < 256) : (strings_IndexByte.f (⟨#[40, 41, 123, 125, 44, 59, 58, 46, 60, 43, 45, 42, 33, 61, 64, 47]⟩ : ByteArray) c).map (fun t => decide (t ≥ 0)) = some (oneB c) :=
  byte_all (fun c => (strings_IndexByte.f (⟨#[40, 41, 123, 125, 44, 59, 58, 46, 60, 43, 45, 42, 33, 61, 64, 47]⟩ : ByteArray) c).map (fun t => decide (t ≥ 0)) = some (oneB c)) (by decide +kernel) c h0 h1
theorem uint8_eq (a : Int) (b : Nat) (h0 : 0 ≤ a) (h1 : a < 256) (hb : b < 256) : (UInt8.ofNat a.toNat = UInt8.ofNat b) ↔ a = b := by
  constructor
  · intro h
    have h2 := congrArg UInt8.toNat h
    simp only [UInt8.toNat_ofNat'] at h2
    omega
  · rintro rfl
    simp
theorem str_toList (l : List Int) : (strOfNums l).toList = l.map fun n => UInt8.ofNat n.toNat := Lib.strOfNums_toList l
theorem two_str (a b : Int) (ha : 0 ≤ a ∧ a < 256) (hb : 0 ≤ b ∧ b < 256) (x y : Nat) (hx : x < 256) (hy : y < 256) : ((strOfNums [a, b]).toList = (⟨#[UInt8.ofNat x, UInt8.ofNat y]⟩ : ByteArray).toList) ↔ (a = x ∧ b = y) := by
  rw [str_toList, Lib.toList_data]
  simp only [List.map_cons, List.map_nil, List.cons.injEq, and_true]
  rw [uint8_eq a x ha.1 ha.2 hx, uint8_eq b y hb.1 hb.2 hy]
theorem str_eq_iff (s t : ByteArray) : s = t ↔ s.toList = t.toList := by
  constructor
  · rintro rfl; rfl
  · intro h
    rw [Lib.toList_data, Lib.toList_data] at h
    exact ByteArray.ext (Array.toList_inj.1 h)
theorem contains_tells (k : Nat) (hk : 6 ≤ k) (a b : Int) (ha : 0 ≤ a ∧ a < 256) (hb : 0 ≤ b ∧ b < 256) :
    slices_Contains_string_string.f k (([(⟨#[61, 61]⟩ : ByteArray), (⟨#[38, 38]⟩ : ByteArray), (⟨#[124, 124]⟩ : ByteArray), (⟨#[64, 61]⟩ : ByteArray)] : List ByteArray)) (strOfNums [a, b]) = some (twoB a b) := by
  obtain ⟨k, rfl⟩ : ∃ n, k = n + 6 := ⟨k - 6, by omega⟩
  unfold slices_Contains_string_string.f slices_Index_string_string.f
  have e1 := (str_eq_iff _ _).trans (two_str a b ha hb 61 61 (by decide) (by decide))
  have e2 := (str_eq_iff _ _).trans (two_str a b ha hb 38 38 (by decide) (by decide))
  have e3 := (str_eq_iff _ _).trans (two_str a b ha hb 124 124 (by decide) (by decide))
  have e4 := (str_eq_iff _ _).trans (two_str a b ha hb 64 61 (by decide) (by decide))
  have r0 : rdOf ByteArray.empty ([(⟨#[61, 61]⟩ : ByteArray), (⟨#[38, 38]⟩ : ByteArray), (⟨#[124, 124]⟩ : ByteArray), (⟨#[64, 61]⟩ : ByteArray)] : List ByteArray) 0 = ⟨#[UInt8.ofNat 61, UInt8.ofNat 61]⟩ := rfl
  have r1 : rdOf ByteArray.empty ([(⟨#[61, 61]⟩ : ByteArray), (⟨#[38, 38]⟩ : ByteArray), (⟨#[124, 124]⟩ : ByteArray), (⟨#[64, 61]⟩ : ByteArray)] : List ByteArray) 1 = ⟨#[UInt8.ofNat 38, UInt8.ofNat 38]⟩ := rfl
  have r2 : rdOf ByteArray.empty ([(⟨#[61, 61]⟩ : ByteArray), (⟨#[38, 38]⟩ : ByteArray), (⟨#[124, 124]⟩ : ByteArray), (⟨#[64, 61]⟩ : ByteArray)] : List ByteArray) 2 = ⟨#[UInt8.ofNat 124, UInt8.ofNat 124]⟩ := rfl
  have r3 : rdOf ByteArray.empty ([(⟨#[61, 61]⟩ : ByteArray), (⟨#[38, 38]⟩ : ByteArray), (⟨#[124, 124]⟩ : ByteArray), (⟨#[64, 61]⟩ : ByteArray)] : List ByteArray) 3 = ⟨#[UInt8.ofNat 64, UInt8.ofNat 61]⟩ := rfl
  have w0 : wrap64 (0 + 1) = 1 := wrap64_id (by decide) (by decide)
  have w1 : wrap64 (1 + 1) = 2 := wrap64_id (by decide) (by decide)
  have w2 : wrap64 (2 + 1) = 3 := wrap64_id (by decide) (by decide)
  have w3 : wrap64 (3 + 1) = 4 := wrap64_id (by decide) (by decide)
  simp only [slices_Index_string_string.l0, List.length_cons, List.length_nil]
  rw [if_pos (by decide), if_pos (by decide), r0]
  by_cases h1 : a = 61 ∧ b = 61
  · rw [if_pos (e1.2 h1)]
    simp [twoB, h1.1, h1.2]
  · rw [if_neg (fun h => h1 (e1.1 h)), w0, if_pos (by decide), if_pos (by decide), r1]
    by_cases h2 : a = 38 ∧ b = 38
    · rw [if_pos (e2.2 h2)]
      simp [twoB, h2.1, h2.2]
    · rw [if_neg (fun h => h2 (e2.1 h)), w1, if_pos (by decide), if_pos (by decide), r2]
      by_cases h3 : a = 124 ∧ b = 124
      · rw [if_pos (e3.2 h3)]
        simp [twoB, h3.1, h3.2]
      · rw [if_neg (fun h => h3 (e3.1 h)), w2, if_pos (by decide), if_pos (by decide), r3]
        by_cases h4 : a = 64 ∧ b = 61
        · rw [if_pos (e4.2 h4)]
          simp [twoB, h4.1, h4.2]
        · rw [if_neg (fun h => h4 (e4.1 h)), w3, if_neg (by decide)]
          have : twoB a b = false := by
            unfold twoB
            simp only [Bool.or_eq_false_iff, Bool.and_eq_false_iff, beq_eq_false_iff_ne]
            omega
          simp [this]
theorem first_tells (k : Nat) (l : List Int) (hb : Bytes l) (hl : l.length ≤ 1000000000000000) (h0 : 0 < l.length) (hk : 2 * l.length + 10 < k) : lex_first.f k l = some ((firstS l).1, ((firstS l).2 : Int)) := by
  match l, hb, hl, h0, hk with
  | c :: r, hb, hl, h0, hk =>
    have hc := hb c (by simp)
    have rc : rd (c :: r) 0 = c := rfl
    unfold lex_first.f
    rw [if_pos (by simp), rc, blank_tells, letter_tells c hc.1 hc.2, digit_tells]
    simp only [Option.bind_some]
    simp only [firstS]
    by_cases h1 : blankB c = true
    · rw [if_pos h1, if_pos h1, run_blank k _ hb hl (by omega)]
      rfl
    · rw [if_neg h1, if_neg h1]
      by_cases h2 : c = 35
      · rw [if_pos h2, if_pos h2, run_line k _ hb hl (by omega)]
        rfl
      · rw [if_neg h2, if_neg h2]
        by_cases h3 : letterB c = true
        · rw [if_pos h3, if_pos h3, run_word k _ hb hl (by omega)]
          rfl
        · rw [if_neg h3, if_neg h3]
          by_cases h4 : digitB c = true
          · rw [if_pos h4, if_pos h4, run_digit k _ hb hl (by omega)]
            rfl
          · rw [if_neg h4, if_neg h4]
            obtain ⟨k, rfl⟩ : ∃ n, k = n + 1 := ⟨k - 1, by omega⟩
            have ho := one_tells c hc.1 hc.2
            have j0 : lex_first.j0 (k + 1) (c :: r) false = some (if oneB c then (4, 1) else (5, 1)) := by
              simp only [lex_first.j0]
              rw [if_neg (by decide), if_pos (by simp), rc]
              obtain ⟨t, ht, hd⟩ := Option.map_eq_some_iff.1 ho
              rw [ht]
              simp only [Option.bind_some]
              by_cases h5 : t ≥ 0
              · rw [if_pos h5]
                simp only [h5, decide_true] at hd
                simp [← hd]
              · rw [if_neg h5]
                simp only [h5, decide_false] at hd
                simp [← hd]
            match r, hb, hl, hk, j0 with
            | [], hb, hl, hk, j0 =>
              rw [if_neg (by simp), j0]
              by_cases h5 : oneB c = true <;> simp [h5]
            | b :: r, hb, hl, hk, j0 =>
              have hbb := hb b (by simp)
              rw [if_pos (by simp; omega), if_pos (by simp; omega), show (c :: b :: r).take (Int.toNat 2) = [c, b] from rfl, contains_tells (k + 1) (by omega) c b hc hbb]
              simp only [Option.bind_some]
              by_cases h6 : twoB c b = true
              · rw [h6]
                simp only [lex_first.j0]
                simp
              · have h7 : twoB c b = false := by simpa using h6
                rw [h7, j0]
                by_cases h5 : oneB c = true <;> simp [h5]
def toks (p : Nat) (l : List Int) : List S28 :=
  match l with
  | [] => []
  | c :: r => (⟨(firstS (c :: r)).1, (p : Int), ((p + (firstS (c :: r)).2 : Nat) : Int)⟩ : S28) :: toks (p + (firstS (c :: r)).2) ((c :: r).drop (firstS (c :: r)).2)
termination_by l.length
decreasing_by
  have := firstS_len c r
  simp only [List.length_drop]
  omega
theorem toks_nil (p : Nat) : toks p [] = [] := by rw [toks.eq_def]
theorem toks_cons (p : Nat) (l : List Int) (h : 0 < l.length) : toks p l = (⟨(firstS l).1, (p : Int), ((p + (firstS l).2 : Nat) : Int)⟩ : S28) :: toks (p + (firstS l).2) (l.drop (firstS l).2) := by
  match l, h with
  | c :: r, _ => rw [toks.eq_def]
theorem firstS_len' (l : List Int) (h : 0 < l.length) : 1 ≤ (firstS l).2 ∧ (firstS l).2 ≤ l.length := by
  match l, h with
  | c :: r, _ => exact firstS_len c r
theorem toks_length (d : Nat) : ∀ (p : Nat) (l : List Int), l.length ≤ d → (toks p l).length ≤ l.length := by
  induction d with
  | zero => intro p l h; rw [List.length_eq_zero_iff.1 (by omega : l.length = 0), toks_nil]; simp
  | succ d ih =>
    intro p l h
    by_cases h0 : 0 < l.length
    · have hf := firstS_len' l h0
      rw [toks_cons p l h0]
      have := ih (p + (firstS l).2) (l.drop (firstS l).2) (by rw [List.length_drop]; omega)
      rw [List.length_drop] at this
      simp; omega
    · rw [List.length_eq_zero_iff.1 (by omega : l.length = 0), toks_nil]; simp
theorem all_l0 (l : List Int) (hb : Bytes l) (hl : l.length ≤ 1000000000000) (d : Nat) : ∀ (k p : Nat) (acc : List S28), p ≤ l.length → l.length - p ≤ d → d + 2 * l.length + 20 < k → acc.length ≤ p → lex_All.l0 k l acc (p : Int) = some (acc ++ toks p (l.drop p)) := by
  induction d with
  | zero =>
    intro k p acc hp hd hk ha
    obtain ⟨k, rfl⟩ : ∃ n, k = n + 1 := ⟨k - 1, by omega⟩
    simp only [lex_All.l0]
    rw [if_neg (by omega), List.drop_eq_nil_of_le (by omega), toks_nil]
    simp
  | succ d ih =>
    intro k p acc hp hd hk ha
    obtain ⟨k, rfl⟩ : ∃ n, k = n + 1 := ⟨k - 1, by omega⟩
    simp only [lex_All.l0]
    by_cases h : p < l.length
    · have h0 : 0 < (l.drop p).length := by rw [List.length_drop]; omega
      have hf := firstS_len' (l.drop p) h0
      have hf2 := hf.2
      rw [List.length_drop] at hf2
      rw [if_pos (by omega), if_pos (by omega), if_pos (by omega), Int.toNat_natCast, Option.bind_some, first_tells k (l.drop p) (hb.drop p) (by rw [List.length_drop]; omega) h0 (by rw [List.length_drop]; omega)]
      simp only [Option.bind_some]
      rw [if_pos (by omega), wrap64_id (by omega) (by omega)]
      have := ih k (p + (firstS (l.drop p)).2) (acc ++ [(⟨(firstS (l.drop p)).1, (p : Int), ((p + (firstS (l.drop p)).2 : Nat) : Int)⟩ : S28)]) (by omega) (by omega) (by omega) (by simp; omega)
      rw [show ((p : Int) + ((firstS (l.drop p)).2 : Int)) = ((p + (firstS (l.drop p)).2 : Nat) : Int) by omega, this, toks_cons p (l.drop p) h0]
      simp [List.drop_drop, Nat.add_comm]
    · rw [if_neg (by omega), List.drop_eq_nil_of_le (by omega), toks_nil]
      simp
theorem all_tells (k : Nat) (l : List Int) (hb : Bytes l) (hl : l.length ≤ 1000000000000) (hk : 3 * l.length + 20 < k) : lex_All.f k l = some (toks 0 l) := by
  have := all_l0 l hb hl l.length k 0 [] (by omega) (by omega) (by omega) (by simp)
  simpa [lex_All.f] using this
def badS : List S28 → Option S28
  | [] => none
  | t :: r => if t.f0 = 5 then some t else badS r
theorem rdT_drop (l : List S28) (i : Nat) (h : i < l.length) : l.drop i = rd_T28 l (i : Int) :: l.drop (i + 1) := by
  rw [List.drop_eq_getElem_cons h]
  simp [rd_T28, List.getD_eq_getElem?_getD, h]
theorem idx_l0 (l : List S28) (hl : l.length ≤ 1000000000000) (d : Nat) : ∀ (k i : Nat), i ≤ l.length → l.length - i = d → d < k →
    (badS (l.drop i) = none ∧ api_Tok_lex_Bad_1.l0 k l (i : Int) = some (-1)) ∨ ∃ j : Nat, i ≤ j ∧ j < l.length ∧ badS (l.drop i) = some (rd_T28 l (j : Int)) ∧ api_Tok_lex_Bad_1.l0 k l (i : Int) = some (j : Int) := by
  induction d with
  | zero =>
    intro k i hi hd hk
    obtain ⟨k, rfl⟩ : ∃ n, k = n + 1 := ⟨k - 1, by omega⟩
    refine .inl ⟨by rw [List.drop_eq_nil_of_le (by omega)]; rfl, ?_⟩
    simp only [api_Tok_lex_Bad_1.l0]
    rw [if_neg (by omega)]
  | succ d ih =>
    intro k i hi hd hk
    obtain ⟨k, rfl⟩ : ∃ n, k = n + 1 := ⟨k - 1, by omega⟩
    have hstep : api_Tok_lex_Bad_1.l0 (k + 1) l (i : Int) = if (rd_T28 l (i : Int)).f0 = 5 then some (i : Int) else api_Tok_lex_Bad_1.l0 k l (((i + 1 : Nat)) : Int) := by
      simp only [api_Tok_lex_Bad_1.l0]
      rw [if_pos (by omega), if_pos (by omega)]
      unfold lex_Bad_1.f
      simp only [Option.bind_some]
      rw [wrap64_id (by omega) (by omega), show ((i : Int) + 1) = ((i + 1 : Nat) : Int) by omega]
      by_cases h : (rd_T28 l (i : Int)).f0 = 5
      · rw [if_pos (by simpa using h), if_pos h]
      · rw [if_neg (by simpa using h), if_neg h]
    rw [rdT_drop l i (by omega), hstep]
    simp only [badS]
    by_cases h : (rd_T28 l (i : Int)).f0 = 5
    · rw [if_pos h, if_pos h]
      exact .inr ⟨i, by omega, by omega, rfl, rfl⟩
    · rw [if_neg h, if_neg h]
      rcases ih k (i + 1) (by omega) (by omega) (by omega) with ⟨h1, h2⟩ | ⟨j, h1, h2, h3, h4⟩
      · exact .inl ⟨h1, h2⟩
      · exact .inr ⟨j, by omega, h2, h3, h4⟩
theorem bad_tells (k : Nat) (l : List S28) (hl : l.length ≤ 1000000000000) (hk : l.length < k) : lex_Bad.f k l = some (match badS l with | none => (0, 0, 0, false) | some t => (t.f0, t.f1, t.f2, true)) := by
  unfold lex_Bad.f api_Tok_lex_Bad_1.f
  rcases idx_l0 l hl l.length k 0 (by omega) (by omega) hk with ⟨h1, h2⟩ | ⟨j, h1, h2, h3, h4⟩
  · have h2' : api_Tok_lex_Bad_1.l0 k l 0 = some (-1) := h2
    rw [h2']
    simp only [List.drop_zero] at h1
    simp [h1]
  · have h4' : api_Tok_lex_Bad_1.l0 k l 0 = some (j : Int) := h4
    rw [h4']
    simp only [List.drop_zero] at h3
    simp only [Option.bind_some, h3]
    rw [if_neg (by omega), if_pos (by omega), if_pos (by omega)]
def liveS (l : List S28) : List S28 := l.filter fun t => t.f0 != 0 && t.f0 != 1
theorem live_l0 (l : List S28) (hl : l.length ≤ 1000000) (d : Nat) : ∀ (k i : Nat) (acc : List S28), i ≤ l.length → l.length - i = d → d < k → acc.length ≤ i → lex_Live.l0 k l acc (i : Int) = some (acc ++ liveS (l.drop i)) := by
  induction d with
  | zero =>
    intro k i acc hi hd hk ha
    obtain ⟨k, rfl⟩ : ∃ n, k = n + 1 := ⟨k - 1, by omega⟩
    simp only [lex_Live.l0]
    rw [if_neg (by omega), List.drop_eq_nil_of_le (by omega)]
    simp [liveS]
  | succ d ih =>
    intro k i acc hi hd hk ha
    obtain ⟨k, rfl⟩ : ∃ n, k = n + 1 := ⟨k - 1, by omega⟩
    simp only [lex_Live.l0]
    rw [if_pos (by omega), if_pos (by omega), rdT_drop l i (by omega), wrap64_id (by omega) (by omega), show ((i : Int) + 1) = ((i + 1 : Nat) : Int) by omega]
    by_cases h0 : (rd_T28 l (i : Int)).f0 = 0
    · rw [if_pos h0, ih k (i + 1) acc (by omega) (by omega) (by omega) (by omega)]
      simp [liveS, h0]
    · rw [if_neg h0]
      by_cases h1 : (rd_T28 l (i : Int)).f0 = 1
      · rw [if_pos h1, ih k (i + 1) acc (by omega) (by omega) (by omega) (by omega)]
        simp [liveS, h1]
      · rw [if_neg h1, if_pos (by omega), Option.bind_some, ih k (i + 1) _ (by omega) (by omega) (by omega) (by simp; omega)]
        simp [liveS, h0, h1]
theorem live_tells (k : Nat) (l : List S28) (hl : l.length ≤ 1000000) (hk : l.length < k) : lex_Live.f k l = some (liveS l) := by
  have := live_l0 l hl l.length k 0 [] (by omega) (by omega) hk (by simp)
  simpa [lex_Live.f] using this
def Ev {α : Type} (F : Nat → Nat → Option α) (v : α) : Prop := ∃ n, ∀ K k, n ≤ K → n ≤ k → F K k = some v
def E1 {α : Type} (F : Nat → Option α) (v : α) : Prop := ∃ n, ∀ k, n ≤ k → F k = some v
theorem E1.k {α : Type} {F : Nat → Option α} {v : α} (h : E1 F v) : Ev (fun _ k => F k) v := by
  obtain ⟨n, h⟩ := h
  exact ⟨n, fun K k _ hk => h k hk⟩
theorem E1.K {α : Type} {F : Nat → Option α} {v : α} (h : E1 F v) : Ev (fun K _ => F K) v := by
  obtain ⟨n, h⟩ := h
  exact ⟨n, fun K k hK _ => h K hK⟩
theorem E1.add {α : Type} {F : Nat → Option α} {v : α} (h : E1 F v) (m : Nat) : Ev (fun _ k => F (k + m)) v := by
  obtain ⟨n, h⟩ := h
  exact ⟨n, fun K k _ hk => h (k + m) (by omega)⟩
theorem Ev.add {α : Type} {F : Nat → Nat → Option α} {v : α} (h : Ev F v) (m : Nat) : Ev (fun K k => F K (k + m)) v := by
  obtain ⟨n, h⟩ := h
  exact ⟨n, fun K k hK hk => h K (k + m) hK (by omega)⟩
theorem Ev.sub {α : Type} {F : Nat → Nat → Option α} {v : α} (m : Nat) (h : Ev (fun K k => F K (k + m)) v) : Ev F v := by
  obtain ⟨n, h⟩ := h
  refine ⟨n + m, fun K k hK hk => ?_⟩
  have := h K (k - m) (by omega) (by omega)
  dsimp only at this
  rwa [show k - m + m = k by omega] at this
theorem Ev.some {α : Type} {a b : α} (e : a = b) : Ev (fun _ _ => Option.some a) b := ⟨0, fun _ _ _ _ => by rw [e]⟩
theorem Ev.bind {α β : Type} {F : Nat → Nat → Option α} {G : α → Nat → Nat → Option β} {a : α} {b : β} (h : Ev F a) (g : Ev (G a) b) : Ev (fun K k => (F K k).bind fun x => G x K k) b := by
  obtain ⟨n, h⟩ := h
  obtain ⟨m, g⟩ := g
  exact ⟨n + m, fun K k hK hk => by dsimp only; rw [h K k (by omega) (by omega)]; exact g K k (by omega) (by omega)⟩
theorem Ev.diag {α : Type} {F : Nat → Nat → Option α} {v : α} (h : Ev F v) : E1 (fun k => F k k) v := by
  obtain ⟨n, h⟩ := h
  exact ⟨n, fun k hk => h k k hk hk⟩
theorem Ev.out {α : Type} {F : Nat → Nat → Option α} {v : α} (h : Ev F v) : ∃ k, F k k = Option.some v := by
  obtain ⟨n, h⟩ := h
  exact ⟨n, h n n (Nat.le_refl n) (Nat.le_refl n)⟩
theorem E1.succ {α : Type} {F : Nat → Option α} {G : Nat → Nat → Option α} {v : α} (h : Ev G v) (e : ∀ k, F (k + 1) = G k k) : E1 F v := by
  obtain ⟨n, h⟩ := h
  refine ⟨n + 1, fun k hk => ?_⟩
  obtain ⟨m, rfl⟩ : ∃ m, k = m + 1 := ⟨k - 1, by omega⟩
  rw [e]; exact h m m (by omega) (by omega)
mutual
def ht : S44 → Nat
  | ⟨_, _, _, _, _, l⟩ => hts l + 1
def hts : List S44 → Nat
  | [] => 0
  | x :: l => max (ht x) (hts l)
end
mutual
def sz : S44 → Nat
  | ⟨_, _, _, _, _, l⟩ => szs l + 1
def szs : List S44 → Nat
  | [] => 0
  | x :: l => sz x + szs l
end
theorem ht_eq (e : S44) : ht e = hts e.f5 + 1 := by cases e; rw [ht]
theorem sz_eq (e : S44) : sz e = szs e.f5 + 1 := by cases e; rw [sz]
theorem sz_len : ∀ l : List S44, l.length ≤ szs l := by
  intro l
  induction l with
  | nil => exact Nat.le_refl _
  | cons x l ih => rw [szs, sz_eq, List.length_cons]; omega
theorem ht_sz : ∀ (n : Nat), (∀ e, sz e ≤ n → ht e ≤ sz e) ∧ ∀ l, szs l ≤ n → hts l ≤ szs l := by
  intro n
  induction n with
  | zero =>
    refine ⟨fun e h => by rw [sz_eq] at h; omega, fun l h => ?_⟩
    cases l with
    | nil => exact Nat.le_refl _
    | cons x l => rw [szs, sz_eq] at h; omega
  | succ n ih =>
    have h1 : ∀ e, sz e ≤ n + 1 → ht e ≤ sz e := fun e h => by
      rw [sz_eq] at h ⊢
      rw [ht_eq]
      have := ih.2 e.f5 (by omega)
      omega
    refine ⟨h1, fun l => ?_⟩
    induction l with
    | nil => intro _; exact Nat.le_refl _
    | cons x l ihl =>
      intro h
      rw [szs] at h ⊢
      rw [hts]
      have := h1 x (by omega)
      have := ihl (by omega)
      omega
theorem hts_app (l : List S44) (x : S44) : hts (l ++ [x]) = max (hts l) (ht x) := by
  induction l with
  | nil => simp [hts]
  | cons y l ih => rw [List.cons_append, hts, hts, ih]; omega
theorem szs_app (l : List S44) (x : S44) : szs (l ++ [x]) = szs l + sz x := by
  induction l with
  | nil => simp [szs]
  | cons y l ih => rw [List.cons_append, szs, szs, ih]; omega
theorem rd44_drop (l : List S44) (i : Nat) (h : i < l.length) : l.drop i = rd_T44 l (i : Int) :: l.drop (i + 1) := by
  rw [List.drop_eq_getElem_cons h]
  simp [rd_T44, List.getD_eq_getElem?_getD, h]
theorem szs_at {l : List S44} {i : Nat} (h : i < l.length) : sz (rd_T44 l (i : Int)) ≤ szs l := by
  have : ∀ (l : List S44) (x : S44), x ∈ l → sz x ≤ szs l := by
    intro l
    induction l with
    | nil => intro x hx; exact absurd hx (by simp)
    | cons y l ih =>
      intro x hx
      rw [szs]
      rcases List.mem_cons.1 hx with rfl | hx
      · omega
      · have := ih x hx; omega
  refine this l _ ?_
  have e : rd_T44 l (i : Int) = l[i] := by simp [rd_T44, List.getD_eq_getElem?_getD, h]
  rw [e]; exact List.getElem_mem h
theorem height_all : ∀ (n : Nat) (e : S44), sz e ≤ n → sz e ≤ 1000000 → E1 (fun k => expr_Height.f k e.f0 e.f1 e.f2 e.f3 e.f4 e.f5) (ht e : Int) := by
  intro n
  induction n with
  | zero => intro e h; rw [sz_eq] at h; omega
  | succ n ih =>
    intro e h hn
    rw [sz_eq] at h hn
    have hlen := sz_len e.f5
    have hh := (ht_sz (szs e.f5)).2 e.f5 (Nat.le_refl _)
    have loop : ∀ (d i acc : Nat), i + d = e.f5.length → max acc (hts (e.f5.drop i)) = hts e.f5 → Ev (fun K k => expr_Height.l0 (Rec_expr_Height.at K) k e.f5 (acc : Int) (i : Int)) ((hts e.f5 + 1 : Nat) : Int) := by
      intro d
      induction d with
      | zero =>
        intro i acc hi hm
        refine Ev.sub 1 ?_
        simp only [expr_Height.l0, if_neg (show ¬ (i : Int) < (e.f5.length : Int) by omega)]
        rw [List.drop_eq_nil_of_le (by omega), hts] at hm
        exact Ev.some (by rw [wrap64_id (by omega) (by omega)]; omega)
      | succ d ihd =>
        intro i acc hi hm
        have hil : i < e.f5.length := by omega
        have hs := szs_at hil
        rw [rd44_drop e.f5 i hil, hts] at hm
        refine Ev.sub 1 ?_
        simp only [expr_Height.l0, if_pos (show (i : Int) < (e.f5.length : Int) by omega), if_pos (show 0 ≤ (i : Int) by omega), wrap64_id (x := (i : Int) + 1) (by omega) (by omega)]
        refine Ev.bind (E1.K (ih (rd_T44 e.f5 (i : Int)) (by omega) (by omega))) ?_
        have := ihd (i + 1) (max acc (ht (rd_T44 e.f5 (i : Int)))) (by omega) (by omega)
        rw [show ((i + 1 : Nat) : Int) = (i : Int) + 1 by omega] at this
        have em : mx (acc : Int) (ht (rd_T44 e.f5 (i : Int)) : Int) = ((max acc (ht (rd_T44 e.f5 (i : Int))) : Nat) : Int) := by unfold mx; split <;> omega
        rw [em]
        exact this
    rw [ht_eq]
    refine E1.succ (G := fun K k => expr_Height.g (Rec_expr_Height.at K) k e.f0 e.f1 e.f2 e.f3 e.f4 e.f5) ?_ (fun _ => rfl)
    simp only [expr_Height.g]
    exact loop e.f5.length 0 0 (by omega) (by simp)
theorem height_tells {e : S44} (h : sz e ≤ 1000000) : E1 (fun k => expr_Height.f k e.f0 e.f1 e.f2 e.f3 e.f4 e.f5) (ht e : Int) := height_all (sz e) e (Nat.le_refl _) h
structure TV where
  pk : Int → ByteArray
  ps : Int → Int
  nm : Int → Bool
def tv (l : List Int) (T : List S28) : TV := ⟨fun i => if 0 ≤ i ∧ i < (T.length : Int) then strOfNums ((l.take (rd_T28 T i).f2.toNat).drop (rd_T28 T i).f1.toNat) else ⟨#[]⟩, fun i => if 0 ≤ i ∧ i < (T.length : Int) then (rd_T28 T i).f1 else (l.length : Int), fun i => if 0 ≤ i ∧ i < (T.length : Int) then decide ((rd_T28 T i).f0 = 3) else false⟩
structure TokOK (l : List Int) (T : List S28) : Prop where
  b : ∀ i : Int, 0 ≤ i → i < (T.length : Int) → 0 ≤ (rd_T28 T i).f1 ∧ (rd_T28 T i).f1 < (rd_T28 T i).f2 ∧ (rd_T28 T i).f2 ≤ (l.length : Int)
  o : ∀ i j : Int, 0 ≤ i → i < j → j < (T.length : Int) → (rd_T28 T i).f1 < (rd_T28 T j).f1
  n : T.length ≤ 100000
  m : l.length ≤ 100000
def lvS (s : ByteArray) : Int := if s = ⟨#[124, 124]⟩ then 1 else if s = ⟨#[38, 38]⟩ then 2 else if s = ⟨#[61, 61]⟩ then 3 else if s = ⟨#[60]⟩ then 3 else if s = ⟨#[43]⟩ then 4 else if s = ⟨#[45]⟩ then 4 else if s = ⟨#[42]⟩ then 5 else 0
theorem level_tells (s : ByteArray) : expr_level.f s = some (lvS s) := by
  unfold expr_level.f lvS
  by_cases h1 : s = ⟨#[124, 124]⟩
  · rw [if_pos h1, if_pos h1]
  rw [if_neg h1, if_neg h1]
  by_cases h2 : s = ⟨#[38, 38]⟩
  · rw [if_pos h2, if_pos h2]
  rw [if_neg h2, if_neg h2]
  unfold expr_level.j1
  by_cases h3 : s = ⟨#[61, 61]⟩
  · rw [if_pos h3, if_pos h3, if_pos rfl]
  rw [if_neg h3, if_neg h3]
  by_cases h4 : s = ⟨#[60]⟩
  · rw [if_pos h4, if_pos (decide_eq_true h4)]
  rw [if_neg h4, if_neg (by simpa using h4)]
  unfold expr_level.j0
  by_cases h5 : s = ⟨#[43]⟩
  · rw [if_pos h5, if_pos h5, if_pos rfl]
  rw [if_neg h5, if_neg h5]
  by_cases h6 : s = ⟨#[45]⟩
  · rw [if_pos h6, if_pos (decide_eq_true h6)]
  rw [if_neg h6, if_neg (by simpa using h6)]
  by_cases h7 : s = ⟨#[42]⟩
  · rw [if_pos h7, if_pos h7]
  rw [if_neg h7, if_neg h7]
theorem lvS_empty : lvS ⟨#[]⟩ = 0 := by decide
theorem ite_some {c : Prop} [Decidable c] {b : Bool} {x : Option Bool} (h : ∃ q, x = some q) : ∃ q, (if c then some b else x) = some q := by
  by_cases hc : c
  · exact ⟨b, if_pos hc⟩
  · rw [if_neg hc]; exact h
theorem key_some (s : ByteArray) : ∃ b, lex_Keyword.f s = some b := by
  have j : ∀ b, lex_Keyword.j0 b = some b := fun b => by cases b <;> rfl
  unfold lex_Keyword.f
  simp only [j]
  iterate 15 refine ite_some ?_
  exact ⟨_, rfl⟩
theorem bytes_len (s : ByteArray) : (bytesOf s).length = s.size := by unfold bytesOf; rw [List.length_map]; rfl
theorem ident_some (s : ByteArray) : ∃ b, E1 (fun k => lex_Ident.f k s) b ∧ (b = true → s ≠ ⟨#[]⟩ ∧ s.size ≤ 24) := by
  have out : E1 (fun k => lex_Ident.j0 k s true) false := E1.succ (G := fun _ _ => some false) (Ev.some rfl) (fun k => by simp only [lex_Ident.j0, if_true])
  by_cases h1 : s = ⟨#[]⟩
  · exact ⟨false, by simp only [lex_Ident.f, if_pos h1]; exact out, fun h => absurd h (by decide)⟩
  by_cases h2 : (s.size : Int) > 24
  · exact ⟨false, by simp only [lex_Ident.f, if_neg h1, if_pos h2]; exact out, fun h => absurd h (by decide)⟩
  obtain ⟨b, hb⟩ := key_some s
  cases b with
  | true => exact ⟨false, by simp only [lex_Ident.f, if_neg h1, if_neg h2, hb, Option.bind_some, if_true]; exact out, fun h => absurd h (by decide)⟩
  | false =>
    have h3 : 0 < (s.size : Int) := by
      by_cases h : s.size = 0
      · exact absurd ((str_eq_iff _ _).2 (by rw [Lib.toList_data, Lib.toList_data]; exact List.eq_nil_of_length_eq_zero (by rw [Array.length_toList]; exact h))) h1
      · omega
    have hr : 0 ≤ bt s 0 ∧ bt s 0 < 256 := by
      unfold bt
      split
      · rename_i h; have := (s[(0 : Int).toNat]'h).toNat_lt; omega
      · omega
    refine ⟨letterB (bt s 0) && decide (((bytesOf s).takeWhile wordB).length = s.size), ?_, fun _ => ⟨h1, by omega⟩⟩
    simp only [lex_Ident.f, if_neg h1, if_neg h2, hb, Option.bind_some, if_neg (show ¬ false = true by decide), if_pos h3, letter_tells _ hr.1 hr.2]
    cases hl : letterB (bt s 0) with
    | false => exact out
    | true =>
      refine ⟨2 * s.size + 3, fun k hk => ?_⟩
      obtain ⟨k, rfl⟩ : ∃ n, k = n + 1 := ⟨k - 1, by omega⟩
      have hlen := bytes_len s
      simp only [lex_Ident.j0, show (!true) = false from rfl, if_neg (show ¬ false = true by decide), if_pos (show s.size ≤ 9223372036854775807 by omega), Option.bind_some, run_ident k (bytesOf s) (bytes_bytesOf s) (by omega) (by omega), Bool.true_and]
      congr 1
      exact decide_eq_decide.mpr ⟨fun h => by omega, fun h => by omega⟩
noncomputable def idS (s : ByteArray) : Bool := Classical.choose (ident_some s)
theorem ident_tells (s : ByteArray) : E1 (fun k => lex_Ident.f k s) (idS s) := (Classical.choose_spec (ident_some s)).1
theorem ident_ne {s : ByteArray} (h : idS s = true) : s ≠ ⟨#[]⟩ ∧ s.size ≤ 24 := (Classical.choose_spec (ident_some s)).2 h
def numV : List Int → Int → Option Int
  | [], n => some n
  | d :: l, n => if n > wrap64 (Int.tdiv (wrap64 (9223372036854775807 - wrap64 ((d - 48) % 256))) 10) then none else numV l (wrap64 (wrap64 (10 * n) + wrap64 ((d - 48) % 256)))
section
variable {l : List Int} {T : List S28} {i d : Int}
theorem pk_eq (i : Int) : (tv l T).pk i = if 0 ≤ i ∧ i < (T.length : Int) then strOfNums ((l.take (rd_T28 T i).f2.toNat).drop (rd_T28 T i).f1.toNat) else ⟨#[]⟩ := rfl
theorem ps_eq (i : Int) : (tv l T).ps i = if 0 ≤ i ∧ i < (T.length : Int) then (rd_T28 T i).f1 else (l.length : Int) := rfl
theorem nm_eq (i : Int) : (tv l T).nm i = if 0 ≤ i ∧ i < (T.length : Int) then decide ((rd_T28 T i).f0 = 3) else false := rfl
theorem peek (ok : TokOK l T) (h : 0 ≤ i) : expr_Cursor_Peek.f (some (⟨l, T, i, d⟩ : S111)) = some ((tv l T).pk i) := by
  rw [pk_eq]
  simp only [expr_Cursor_Peek.f, expr_Cursor_Done.f, onOpt, Option.bind_some]
  by_cases hi : i < (T.length : Int)
  · obtain ⟨a, b, c⟩ := ok.b i h hi
    rw [if_neg (by simpa using hi), if_pos h, if_pos hi, if_pos ⟨h, hi⟩]
    unfold lex_Text.f
    rw [if_neg (by omega), if_neg (by omega), decide_eq_false (by omega)]
    unfold lex_Text.j0
    rw [if_neg (by decide), if_pos a, if_pos (by omega), if_pos c]
    rfl
  · rw [if_pos (by simpa using hi), if_neg (fun h => hi h.2)]
theorem pos (ok : TokOK l T) (h : 0 ≤ i) : expr_Cursor_Pos.f (some (⟨l, T, i, d⟩ : S111)) = some ((tv l T).ps i) := by
  rw [ps_eq]
  simp only [expr_Cursor_Pos.f, expr_Cursor_Done.f, onOpt, Option.bind_some]
  by_cases hi : i < (T.length : Int)
  · rw [if_neg (by simpa using hi), if_pos h, if_pos hi, if_pos ⟨h, hi⟩]
  · rw [if_pos (by simpa using hi), if_neg (fun h => hi h.2)]
theorem kind (h : 0 ≤ i) : ∃ q, expr_Cursor_Kind.f (some (⟨l, T, i, d⟩ : S111)) = some q ∧ (q = 3 ↔ (tv l T).nm i = true) := by
  rw [nm_eq]
  simp only [expr_Cursor_Kind.f, expr_Cursor_Done.f, onOpt, Option.bind_some]
  by_cases hi : i < (T.length : Int)
  · refine ⟨(rd_T28 T i).f0, by rw [if_neg (by simpa using hi), if_pos h, if_pos hi], ?_⟩
    rw [if_pos ⟨h, hi⟩, decide_eq_true_iff]
  · exact ⟨0, by rw [if_pos (by simpa using hi)], by rw [if_neg (fun h => hi h.2)]; decide⟩
theorem pk_in {i : Int} (h : (tv l T).pk i ≠ ⟨#[]⟩) : i < (T.length : Int) := by
  by_cases hi : 0 ≤ i ∧ i < (T.length : Int)
  · exact hi.2
  · exact absurd (by rw [pk_eq, if_neg hi]) h
theorem nm_in {i : Int} (h : (tv l T).nm i = true) : i < (T.length : Int) := by
  by_cases hi : 0 ≤ i ∧ i < (T.length : Int)
  · exact hi.2
  · rw [nm_eq, if_neg hi] at h; exact absurd h (by decide)
theorem down (h : 0 ≤ i) (h1 : i ≤ 1000000) (d0 : 0 ≤ d) : expr_Cursor_down.f l T i d = some (if 32 ≤ d then (12, i, d) else (0, i + 1, d + 1)) := by
  unfold expr_Cursor_down.f
  by_cases hd : 32 ≤ d
  · rw [if_pos hd, if_pos (by omega)]
  · rw [if_neg hd, if_neg (by omega), wrap64_id (by omega) (by omega), wrap64_id (by omega) (by omega)]
theorem take_ (ok : TokOK l T) (h : 0 ≤ i) (h1 : i ≤ 1000000) {s : ByteArray} (hs : s ≠ ⟨#[]⟩) : expr_Cursor_Take.f l T i d s = some (if (tv l T).pk i = s then (true, i + 1) else (false, i)) := by
  unfold expr_Cursor_Take.f
  rw [if_neg hs, peek ok h, Option.bind_some]
  unfold expr_Cursor_Take.j0
  by_cases hp : (tv l T).pk i = s
  · rw [decide_eq_true hp, if_pos hp, if_neg (by decide), wrap64_id (by omega) (by omega)]
  · rw [decide_eq_false hp, if_neg hp, if_pos (by decide)]
theorem end_ (ok : TokOK l T) (h : 0 ≤ i) (h1 : i ≤ 1000000) (d0 : 0 ≤ d) (d1 : d ≤ 100) : expr_Cursor_end.f l T i d = some (if (tv l T).pk i = ⟨#[41]⟩ then (0, i + 1, d - 1) else (11, i, d)) := by
  unfold expr_Cursor_end.f
  rw [take_ ok h h1 (by decide), Option.bind_some]
  by_cases hp : (tv l T).pk i = ⟨#[41]⟩
  · rw [if_pos hp, if_pos hp]; dsimp only; rw [if_pos rfl, wrap64_id (by omega) (by omega)]
  · rw [if_neg hp, if_neg hp]; dsimp only; rw [if_neg (by decide)]
theorem ident_ (ok : TokOK l T) (h : 0 ≤ i) (h1 : i ≤ 1000000) : E1 (fun k => expr_Cursor_Ident.f k l T i d) (if idS ((tv l T).pk i) = true then ((tv l T).pk i, true, i + 1) else (⟨#[]⟩, false, i)) := by
  simp only [expr_Cursor_Ident.f, peek ok h, Option.bind_some]
  refine Ev.diag (F := fun _ k => (lex_Ident.f k ((tv l T).pk i)).bind _) (Ev.bind (E1.k (ident_tells _)) ?_)
  by_cases hb : idS ((tv l T).pk i) = true
  · simp only [if_pos hb, wrap64_id (x := i + 1) (by omega) (by omega)]; exact Ev.some rfl
  · simp only [if_neg hb]; exact Ev.some rfl
theorem held_ {f0 f1 f2 told : Int} {f3 f4 : ByteArray} {f5 : List S44} (hs : szs f5 ≤ 500000) : E1 (fun k => expr_Cursor_held.f k l T i d f0 f1 f2 f3 f4 f5 told) (if hts f5 + 1 > 32 then (0, 0, 0, ⟨#[]⟩, ⟨#[]⟩, [], 12, told) else (f0, f1, f2, f3, f4, f5, 0, i)) := by
  have h := height_tells (e := ⟨f0, f1, f2, f3, f4, f5⟩) (by rw [sz]; omega)
  rw [ht] at h
  simp only [expr_Cursor_held.f]
  refine Ev.diag (F := fun _ k => (expr_Height.f k f0 f1 f2 f3 f4 f5).bind _) (Ev.bind (E1.k h) ?_)
  by_cases hh : hts f5 + 1 > 32
  · simp only [if_pos hh, if_pos (show ((hts f5 + 1 : Nat) : Int) > 32 by omega)]; exact Ev.some rfl
  · simp only [if_neg hh, if_neg (show ¬ ((hts f5 + 1 : Nat) : Int) > 32 by omega)]; exact Ev.some rfl
theorem number_ (ok : TokOK l T) (h : 0 ≤ i) (h1 : i ≤ 1000000) (hs : ((tv l T).pk i).size ≤ 1000000) : E1 (fun k => expr_Cursor_number.f k l T i d) (match numV (bytesOf ((tv l T).pk i)) 0 with | none => (0, 0, 0, ⟨#[]⟩, ⟨#[]⟩, [], 18, i) | some v => (0, (tv l T).ps i, v, ⟨#[]⟩, ⟨#[]⟩, [], 0, i + 1)) := by
  have hlen := bytes_len ((tv l T).pk i)
  have loop : ∀ (q p : Nat) (n : Int), p + q = (bytesOf ((tv l T).pk i)).length → E1 (fun k => expr_Cursor_number.l0 k i d l T n (p : Int) (bytesOf ((tv l T).pk i))) (match numV ((bytesOf ((tv l T).pk i)).drop p) n with | none => (0, 0, 0, ⟨#[]⟩, ⟨#[]⟩, [], 18, i) | some v => (0, (tv l T).ps i, v, ⟨#[]⟩, ⟨#[]⟩, [], 0, i + 1)) := by
    intro q
    induction q with
    | zero =>
      intro p n hp
      rw [List.drop_eq_nil_of_le (by omega)]
      refine E1.succ (G := fun _ _ => _) (Ev.some rfl) (fun k => ?_)
      simp only [expr_Cursor_number.l0, if_neg (show ¬ (p : Int) < ((bytesOf ((tv l T).pk i)).length : Int) by omega), pos ok h, Option.bind_some, wrap64_id (x := i + 1) (by omega) (by omega), numV]
    | succ q ih =>
      intro p n hp
      rw [rd_drop _ p (by omega), numV]
      by_cases hc : n > wrap64 (Int.tdiv (wrap64 (9223372036854775807 - wrap64 ((rd (bytesOf ((tv l T).pk i)) (p : Int) - 48) % 256))) 10)
      · rw [if_pos hc]
        refine E1.succ (G := fun _ _ => _) (Ev.some rfl) (fun k => ?_)
        simp only [expr_Cursor_number.l0, if_pos (show (p : Int) < ((bytesOf ((tv l T).pk i)).length : Int) by omega), if_pos (show 0 ≤ (p : Int) by omega), if_pos hc]
      · rw [if_neg hc]
        refine E1.succ (E1.k (ih (p + 1) _ (by omega))) (fun k => ?_)
        simp only [expr_Cursor_number.l0, if_pos (show (p : Int) < ((bytesOf ((tv l T).pk i)).length : Int) by omega), if_pos (show 0 ≤ (p : Int) by omega), if_neg hc, wrap64_id (x := (p : Int) + 1) (by omega) (by omega), show ((p + 1 : Nat) : Int) = (p : Int) + 1 by omega]
  simp only [expr_Cursor_number.f, peek ok h, Option.bind_some, if_pos (show ((tv l T).pk i).size ≤ 9223372036854775807 by omega)]
  exact loop (bytesOf ((tv l T).pk i)).length 0 0 (by omega)
end
inductive M where
  | bin (lv : Int) | lp (lv : Int) (e : S44) | sg | pr | gr | op | nd | ar (nm : ByteArray) (pos at0 : Int) (acc : List S44)
inductive Run (V : TV) : M → Int → Int → Int → Int → S44 → Prop
  | bin6 {at_ d err at1 e} : Run V .sg at_ d err at1 e → Run V (.bin 6) at_ d err at1 e
  | binE {lv at_ d err at1} : lv ≠ 6 → Run V (.bin (lv + 1)) at_ d err at1 z44 → err ≠ 0 → Run V (.bin lv) at_ d err at1 z44
  | bin {lv at_ d at1 e1 err at2 e2} : lv ≠ 6 → Run V (.bin (lv + 1)) at_ d 0 at1 e1 → Run V (.lp lv e1) at1 d err at2 e2 → Run V (.bin lv) at_ d err at2 e2
  | lpN {lv e at_ d} : lvS (V.pk at_) ≠ lv → Run V (.lp lv e) at_ d 0 at_ e
  | lpE {lv e at_ d err at1} : lvS (V.pk at_) = lv → Run V (.bin (lv + 1)) (at_ + 1) d err at1 z44 → err ≠ 0 → Run V (.lp lv e) at_ d err at1 z44
  | lpH {lv e at_ d at1 e1} : lvS (V.pk at_) = lv → Run V (.bin (lv + 1)) (at_ + 1) d 0 at1 e1 → hts [e, e1] + 1 > 32 → Run V (.lp lv e) at_ d 12 at_ z44
  | lp {lv e at_ d at1 e1 err at2 e2} : lvS (V.pk at_) = lv → Run V (.bin (lv + 1)) (at_ + 1) d 0 at1 e1 → ¬ hts [e, e1] + 1 > 32 → Run V (.lp lv ⟨5, e.f1, 0, V.pk at_, ⟨#[]⟩, [e, e1]⟩) at1 d err at2 e2 → Run V (.lp lv e) at_ d err at2 e2
  | sgP {at_ d err at1 e} : V.pk at_ ≠ ⟨#[33]⟩ → V.pk at_ ≠ ⟨#[45]⟩ → Run V .pr at_ d err at1 e → Run V .sg at_ d err at1 e
  | sgD {at_ d} : V.pk at_ = ⟨#[33]⟩ ∨ V.pk at_ = ⟨#[45]⟩ → 32 ≤ d → Run V .sg at_ d 12 at_ z44
  | sgE {at_ d err at1} : V.pk at_ = ⟨#[33]⟩ ∨ V.pk at_ = ⟨#[45]⟩ → ¬ 32 ≤ d → Run V .sg (at_ + 1) (d + 1) err at1 z44 → err ≠ 0 → Run V .sg at_ d err at1 z44
  | sgH {at_ d at1 e1} : V.pk at_ = ⟨#[33]⟩ ∨ V.pk at_ = ⟨#[45]⟩ → ¬ 32 ≤ d → Run V .sg (at_ + 1) (d + 1) 0 at1 e1 → hts [e1] + 1 > 32 → Run V .sg at_ d 12 at_ z44
  | sg {at_ d at1 e1} : V.pk at_ = ⟨#[33]⟩ ∨ V.pk at_ = ⟨#[45]⟩ → ¬ 32 ≤ d → Run V .sg (at_ + 1) (d + 1) 0 at1 e1 → ¬ hts [e1] + 1 > 32 → Run V .sg at_ d 0 at1 ⟨4, V.ps at_, 0, V.pk at_, ⟨#[]⟩, [e1]⟩
  | prO {at_ d} : V.nm at_ = true → numV (bytesOf (V.pk at_)) 0 = none → Run V .pr at_ d 18 at_ z44
  | prN {at_ d v} : V.nm at_ = true → numV (bytesOf (V.pk at_)) 0 = some v → Run V .pr at_ d 0 (at_ + 1) ⟨0, V.ps at_, v, ⟨#[]⟩, ⟨#[]⟩, []⟩
  | prT {at_ d} : ¬ V.nm at_ = true → V.pk at_ = ⟨#[116, 114, 117, 101]⟩ → Run V .pr at_ d 0 (at_ + 1) ⟨1, V.ps at_, 1, ⟨#[]⟩, ⟨#[]⟩, []⟩
  | prF {at_ d} : ¬ V.nm at_ = true → V.pk at_ = ⟨#[102, 97, 108, 115, 101]⟩ → Run V .pr at_ d 0 (at_ + 1) ⟨1, V.ps at_, 0, ⟨#[]⟩, ⟨#[]⟩, []⟩
  | prG {at_ d err at1 e} : ¬ V.nm at_ = true → V.pk at_ = ⟨#[40]⟩ → Run V .gr at_ d err at1 e → Run V .pr at_ d err at1 e
  | prD {at_ d err at1 e} : ¬ V.nm at_ = true → V.pk at_ = ⟨#[100, 101, 99, 108, 97, 115, 115, 105, 102, 121]⟩ → Run V .op at_ d err at1 e → Run V .pr at_ d err at1 e
  | prM {at_ d err at1 e} : ¬ V.nm at_ = true → V.pk at_ ≠ ⟨#[116, 114, 117, 101]⟩ → V.pk at_ ≠ ⟨#[102, 97, 108, 115, 101]⟩ → V.pk at_ ≠ ⟨#[40]⟩ → V.pk at_ ≠ ⟨#[100, 101, 99, 108, 97, 115, 115, 105, 102, 121]⟩ → Run V .nd at_ d err at1 e → Run V .pr at_ d err at1 e
  | grD {at_ d} : V.pk at_ = ⟨#[40]⟩ → 32 ≤ d → Run V .gr at_ d 12 at_ z44
  | grE {at_ d err at1} : V.pk at_ = ⟨#[40]⟩ → ¬ 32 ≤ d → Run V (.bin 1) (at_ + 1) (d + 1) err at1 z44 → err ≠ 0 → Run V .gr at_ d err at1 z44
  | grC {at_ d at1 e1} : V.pk at_ = ⟨#[40]⟩ → ¬ 32 ≤ d → Run V (.bin 1) (at_ + 1) (d + 1) 0 at1 e1 → V.pk at1 ≠ ⟨#[41]⟩ → Run V .gr at_ d 11 at1 z44
  | gr {at_ d at1 e1} : V.pk at_ = ⟨#[40]⟩ → ¬ 32 ≤ d → Run V (.bin 1) (at_ + 1) (d + 1) 0 at1 e1 → V.pk at1 = ⟨#[41]⟩ → Run V .gr at_ d 0 (at1 + 1) e1
  | opB {at_ d} : V.pk at_ ≠ ⟨#[]⟩ → V.pk (at_ + 1) ≠ ⟨#[40]⟩ → Run V .op at_ d 11 (at_ + 1) z44
  | opD {at_ d} : V.pk at_ ≠ ⟨#[]⟩ → V.pk (at_ + 1) = ⟨#[40]⟩ → 32 ≤ d → Run V .op at_ d 12 (at_ + 1) z44
  | opE {at_ d err at1} : V.pk at_ ≠ ⟨#[]⟩ → V.pk (at_ + 1) = ⟨#[40]⟩ → ¬ 32 ≤ d → Run V (.bin 1) (at_ + 1 + 1) (d + 1) err at1 z44 → err ≠ 0 → Run V .op at_ d err at1 z44
  | op1 {at_ d at1 e1} : V.pk at_ ≠ ⟨#[]⟩ → V.pk (at_ + 1) = ⟨#[40]⟩ → ¬ 32 ≤ d → Run V (.bin 1) (at_ + 1 + 1) (d + 1) 0 at1 e1 → V.pk at1 ≠ ⟨#[44]⟩ → Run V .op at_ d 11 at1 z44
  | op2 {at_ d at1 e1} : V.pk at_ ≠ ⟨#[]⟩ → V.pk (at_ + 1) = ⟨#[40]⟩ → ¬ 32 ≤ d → Run V (.bin 1) (at_ + 1 + 1) (d + 1) 0 at1 e1 → V.pk at1 = ⟨#[44]⟩ → V.pk (at1 + 1) ≠ ⟨#[64]⟩ → Run V .op at_ d 11 (at1 + 1) z44
  | op3 {at_ d at1 e1} : V.pk at_ ≠ ⟨#[]⟩ → V.pk (at_ + 1) = ⟨#[40]⟩ → ¬ 32 ≤ d → Run V (.bin 1) (at_ + 1 + 1) (d + 1) 0 at1 e1 → V.pk at1 = ⟨#[44]⟩ → V.pk (at1 + 1) = ⟨#[64]⟩ → ¬ idS (V.pk (at1 + 1 + 1)) = true → Run V .op at_ d 11 (at1 + 1 + 1) z44
  | op4 {at_ d at1 e1} : V.pk at_ ≠ ⟨#[]⟩ → V.pk (at_ + 1) = ⟨#[40]⟩ → ¬ 32 ≤ d → Run V (.bin 1) (at_ + 1 + 1) (d + 1) 0 at1 e1 → V.pk at1 = ⟨#[44]⟩ → V.pk (at1 + 1) = ⟨#[64]⟩ → idS (V.pk (at1 + 1 + 1)) = true → V.pk (at1 + 1 + 1 + 1) ≠ ⟨#[41]⟩ → Run V .op at_ d 11 (at1 + 1 + 1 + 1) z44
  | opH {at_ d at1 e1} : V.pk at_ ≠ ⟨#[]⟩ → V.pk (at_ + 1) = ⟨#[40]⟩ → ¬ 32 ≤ d → Run V (.bin 1) (at_ + 1 + 1) (d + 1) 0 at1 e1 → V.pk at1 = ⟨#[44]⟩ → V.pk (at1 + 1) = ⟨#[64]⟩ → idS (V.pk (at1 + 1 + 1)) = true → V.pk (at1 + 1 + 1 + 1) = ⟨#[41]⟩ → hts [e1] + 1 > 32 → Run V .op at_ d 12 at_ z44
  | op {at_ d at1 e1} : V.pk at_ ≠ ⟨#[]⟩ → V.pk (at_ + 1) = ⟨#[40]⟩ → ¬ 32 ≤ d → Run V (.bin 1) (at_ + 1 + 1) (d + 1) 0 at1 e1 → V.pk at1 = ⟨#[44]⟩ → V.pk (at1 + 1) = ⟨#[64]⟩ → idS (V.pk (at1 + 1 + 1)) = true → V.pk (at1 + 1 + 1 + 1) = ⟨#[41]⟩ → ¬ hts [e1] + 1 > 32 → Run V .op at_ d 0 (at1 + 1 + 1 + 1 + 1) ⟨6, V.ps at_, 0, ⟨#[]⟩, V.pk (at1 + 1 + 1), [e1]⟩
  | nd1 {at_ d} : ¬ idS (V.pk at_) = true → Run V .nd at_ d 11 at_ z44
  | nd2 {at_ d} : idS (V.pk at_) = true → V.pk (at_ + 1) = ⟨#[46]⟩ → ¬ idS (V.pk (at_ + 1 + 1)) = true → Run V .nd at_ d 11 (at_ + 1 + 1) z44
  | nd3 {at_ d k nm} : idS (V.pk at_) = true → (V.pk (at_ + 1) = ⟨#[46]⟩ ∧ idS (V.pk (at_ + 1 + 1)) = true ∧ k = at_ + 1 + 1 + 1 ∧ nm = V.pk at_ ++ ((⟨#[46]⟩ : ByteArray) ++ V.pk (at_ + 1 + 1)) ∨ V.pk (at_ + 1) ≠ ⟨#[46]⟩ ∧ k = at_ + 1 ∧ nm = V.pk at_) → V.pk k ≠ ⟨#[40]⟩ → Run V .nd at_ d 0 k ⟨2, V.ps at_, 0, nm, ⟨#[]⟩, []⟩
  | nd4 {at_ d k nm} : idS (V.pk at_) = true → (V.pk (at_ + 1) = ⟨#[46]⟩ ∧ idS (V.pk (at_ + 1 + 1)) = true ∧ k = at_ + 1 + 1 + 1 ∧ nm = V.pk at_ ++ ((⟨#[46]⟩ : ByteArray) ++ V.pk (at_ + 1 + 1)) ∨ V.pk (at_ + 1) ≠ ⟨#[46]⟩ ∧ k = at_ + 1 ∧ nm = V.pk at_) → V.pk k = ⟨#[40]⟩ → 32 ≤ d → Run V .nd at_ d 12 k z44
  | nd {at_ d k nm err at1 e} : idS (V.pk at_) = true → (V.pk (at_ + 1) = ⟨#[46]⟩ ∧ idS (V.pk (at_ + 1 + 1)) = true ∧ k = at_ + 1 + 1 + 1 ∧ nm = V.pk at_ ++ ((⟨#[46]⟩ : ByteArray) ++ V.pk (at_ + 1 + 1)) ∨ V.pk (at_ + 1) ≠ ⟨#[46]⟩ ∧ k = at_ + 1 ∧ nm = V.pk at_) → V.pk k = ⟨#[40]⟩ → ¬ 32 ≤ d → Run V (.ar nm (V.ps at_) at_ []) (k + 1) (d + 1) err at1 e → Run V .nd at_ d err at1 e
  | arH {nm pos at0 acc at_ d} : V.pk at_ = ⟨#[41]⟩ → hts acc + 1 > 32 → Run V (.ar nm pos at0 acc) at_ d 12 at0 z44
  | arC {nm pos at0 acc at_ d} : V.pk at_ = ⟨#[41]⟩ → ¬ hts acc + 1 > 32 → Run V (.ar nm pos at0 acc) at_ d 0 (at_ + 1) ⟨3, pos, 0, nm, ⟨#[]⟩, acc⟩
  | arN {nm pos at0 acc at_ d} : V.pk at_ ≠ ⟨#[41]⟩ → acc ≠ [] → V.pk at_ ≠ ⟨#[44]⟩ → Run V (.ar nm pos at0 acc) at_ d 11 at_ z44
  | arE {nm pos at0 acc at_ d k err at1} : V.pk at_ ≠ ⟨#[41]⟩ → (acc = [] ∧ k = at_ ∨ acc ≠ [] ∧ V.pk at_ = ⟨#[44]⟩ ∧ k = at_ + 1) → Run V (.bin 1) k d err at1 z44 → err ≠ 0 → Run V (.ar nm pos at0 acc) at_ d err at1 z44
  | ar {nm pos at0 acc at_ d k at1 e1 err at2 e2} : V.pk at_ ≠ ⟨#[41]⟩ → (acc = [] ∧ k = at_ ∨ acc ≠ [] ∧ V.pk at_ = ⟨#[44]⟩ ∧ k = at_ + 1) → Run V (.bin 1) k d 0 at1 e1 → Run V (.ar nm pos at0 (acc ++ [e1])) at1 d err at2 e2 → Run V (.ar nm pos at0 acc) at_ d err at2 e2
mutual
def InT (len : Int) : S44 → Prop
  | ⟨_, p, _, _, _, l⟩ => InTs len p l
def InTs (len p : Int) : List S44 → Prop
  | [] => True
  | x :: l => (p ≤ x.f1 ∧ x.f1 < len) ∧ InT len x ∧ InTs len p l
end
theorem InT_eq (len : Int) (e : S44) : InT len e = InTs len e.f1 e.f5 := by cases e; rw [InT]
theorem InTs_app {len p : Int} {x : S44} : ∀ {l : List S44}, InTs len p l → p ≤ x.f1 → x.f1 < len → InT len x → InTs len p (l ++ [x]) := by
  intro l
  induction l with
  | nil => intro _ h1 h2 h3; rw [List.nil_append, InTs, InTs]; exact ⟨⟨h1, h2⟩, h3, trivial⟩
  | cons y l ih =>
    intro h h1 h2 h3
    rw [InTs] at h
    rw [List.cons_append, InTs]
    exact ⟨h.1, h.2.1, ih h.2.2 h1 h2 h3⟩
structure VF (V : TV) (n len : Int) : Prop where
  i : ∀ i, V.pk i ≠ ⟨#[]⟩ → i < n
  m : ∀ i, V.nm i = true → i < n
  o : ∀ i j, 0 ≤ i → i ≤ j → V.ps i ≤ V.ps j
  b : ∀ i, 0 ≤ i → i < n → 0 ≤ V.ps i ∧ V.ps i < len
  e : ∀ i, V.ps i ≤ len
def Gd (V : TV) (n len a b : Int) (e : S44) : Prop := ∃ s, a ≤ s ∧ s < b ∧ b ≤ n ∧ e.f1 = V.ps s ∧ hts e.f5 + 1 ≤ 32 ∧ InT len e ∧ (sz e : Int) ≤ b - a
def ROk (V : TV) (n len : Int) (m : M) (at_ err at1 : Int) (e : S44) : Prop :=
  match m with
  | .bin lv => 1 ≤ lv → (err = 0 → Gd V n len at_ at1 e) ∧ at_ ≤ at1 ∧ at1 ≤ n
  | .lp lv e0 => 1 ≤ lv → ∀ a0, 0 ≤ a0 → Gd V n len a0 at_ e0 → (err = 0 → Gd V n len a0 at1 e) ∧ at_ ≤ at1 ∧ at1 ≤ n
  | .sg => (err = 0 → Gd V n len at_ at1 e) ∧ at_ ≤ at1 ∧ at1 ≤ n
  | .pr => (err = 0 → Gd V n len at_ at1 e) ∧ at_ ≤ at1 ∧ at1 ≤ n
  | .gr => (err = 0 → Gd V n len at_ at1 e) ∧ at_ ≤ at1 ∧ at1 ≤ n
  | .op => (err = 0 → Gd V n len at_ at1 e) ∧ at_ ≤ at1 ∧ at1 ≤ n
  | .nd => (err = 0 → Gd V n len at_ at1 e) ∧ at_ ≤ at1 ∧ at1 ≤ n
  | .ar _ p at0 acc => p = V.ps at0 → 0 ≤ at0 → at0 < at_ → InTs len p acc → hts acc ≤ 32 → (szs acc : Int) + 1 ≤ at_ - at0 → (err = 0 → Gd V n len at0 at1 e) ∧ at0 ≤ at1 ∧ at1 ≤ n
theorem leaf_ok {V : TV} {n len a b : Int} {q v : Int} {s t : ByteArray} (h0 : a < b) (h1 : b ≤ n) : Gd V n len a b ⟨q, V.ps a, v, s, t, []⟩ := by
  refine ⟨a, Int.le_refl _, h0, h1, rfl, by rw [hts]; decide, by rw [InT_eq, InTs]; trivial, ?_⟩
  rw [sz_eq, szs]; omega
theorem one_ok {V : TV} {n len a b b' c : Int} {e1 : S44} {q v : Int} {s t : ByteArray} (F : VF V n len) (a0 : 0 ≤ a) (h0 : a < c) (g : Gd V n len c b e1) (hb : b ≤ b') (hb' : b' ≤ n) (hh : ¬ hts [e1] + 1 > 32) : Gd V n len a b' ⟨q, V.ps a, v, s, t, [e1]⟩ := by
  obtain ⟨s1, g1, g2, g3, g4, g5, g6, g7⟩ := g
  refine ⟨a, Int.le_refl _, by omega, hb', rfl, by dsimp only; omega, ?_, ?_⟩
  · rw [InT_eq, InTs, InTs]
    dsimp only
    exact ⟨⟨by rw [g4]; exact F.o _ _ a0 (by omega), by rw [g4]; exact (F.b s1 (by omega) (by omega)).2⟩, g6, trivial⟩
  · rw [sz_eq, szs, szs]; omega
theorem ne_of {s t : ByteArray} (h : s = t) (ht : t ≠ ⟨#[]⟩) : s ≠ ⟨#[]⟩ := by rw [h]; exact ht
theorem lv_ne {s : ByteArray} {lv : Int} (h : lvS s = lv) (h1 : 1 ≤ lv) : s ≠ ⟨#[]⟩ := fun e => by rw [e, lvS_empty] at h; omega
theorem sign_ne {s : ByteArray} (h : s = ⟨#[33]⟩ ∨ s = ⟨#[45]⟩) : s ≠ ⟨#[]⟩ := by
  rcases h with h | h <;> rw [h] <;> decide
theorem named_ok {V : TV} {n len at_ k : Int} {nm : ByteArray} (F : VF V n len) (hi : idS (V.pk at_) = true) (h : V.pk (at_ + 1) = ⟨#[46]⟩ ∧ idS (V.pk (at_ + 1 + 1)) = true ∧ k = at_ + 1 + 1 + 1 ∧ nm = V.pk at_ ++ ((⟨#[46]⟩ : ByteArray) ++ V.pk (at_ + 1 + 1)) ∨ V.pk (at_ + 1) ≠ ⟨#[46]⟩ ∧ k = at_ + 1 ∧ nm = V.pk at_) : at_ < k ∧ k ≤ n ∧ k ≤ at_ + 3 := by
  rcases h with ⟨_, h2, h3, _⟩ | ⟨_, h3, _⟩
  · have := F.i _ (ident_ne h2).1; omega
  · have := F.i _ (ident_ne hi).1; omega
theorem run_ok {V : TV} {n len : Int} (F : VF V n len) {m : M} {at_ d err at1 : Int} {e : S44} (h : Run V m at_ d err at1 e) : 0 ≤ at_ → at_ ≤ n → ROk V n len m at_ err at1 e := by
  induction h with
  | bin6 _ ih => intro h0 h1 _; exact ih h0 h1
  | binE _ _ he ih => intro h0 h1 hl; have := ih h0 h1 (by omega); exact ⟨fun h => absurd h he, this.2⟩
  | bin _ _ _ ih1 ih2 =>
    intro h0 h1 hl
    have a := ih1 h0 h1 (by omega)
    have b := ih2 (by omega) a.2.2 hl _ h0 (a.1 rfl)
    exact ⟨b.1, by omega, b.2.2⟩
  | lpN _ => intro h0 h1 hl a0 _ hg; exact ⟨fun _ => hg, Int.le_refl _, h1⟩
  | lpE hv _ he ih =>
    intro h0 h1 hl a0 _ hg
    have := F.i _ (lv_ne hv hl)
    have a := ih (by omega) (by omega) (by omega)
    exact ⟨fun h => absurd h he, by omega, a.2.2⟩
  | lpH hv _ _ ih => intro h0 h1 hl a0 _ hg; exact ⟨fun h => absurd h (by decide), Int.le_refl _, h1⟩
  | lp hv _ hh _ ih1 ih2 =>
    intro h0 h1 hl a0 ha0 hg
    have := F.i _ (lv_ne hv hl)
    have a := ih1 (by omega) (by omega) (by omega)
    obtain ⟨s, s1, s2, s3, s4, s5, s6, s7⟩ := hg
    obtain ⟨r, r1, r2, r3, r4, r5, r6, r7⟩ := a.1 rfl
    have b := ih2 (by omega) a.2.2 hl a0 ha0 ⟨s, s1, by omega, a.2.2, s4, by dsimp only; omega, by
      rw [InT_eq, InTs, InTs, InTs]
      dsimp only
      exact ⟨⟨Int.le_refl _, by rw [s4]; exact (F.b s (by omega) (by omega)).2⟩, s6, ⟨by rw [s4, r4]; exact F.o _ _ (by omega) (by omega), by rw [r4]; exact (F.b r (by omega) (by omega)).2⟩, r6, trivial⟩, by rw [sz_eq, szs, szs, szs]; omega⟩
    exact ⟨b.1, by omega, b.2.2⟩
  | sgP _ _ _ ih => intro h0 h1; exact ih h0 h1
  | sgD _ _ => intro h0 h1; exact ⟨fun h => absurd h (by decide), Int.le_refl _, h1⟩
  | sgE hs _ _ he ih =>
    intro h0 h1
    have := F.i _ (sign_ne hs)
    obtain ⟨a1, a2, a3⟩ := ih (by omega) (by omega)
    exact ⟨fun h => absurd h he, by omega, a3⟩
  | sgH _ _ _ _ => intro h0 h1; exact ⟨fun h => absurd h (by decide), Int.le_refl _, h1⟩
  | sg hs _ _ hh ih =>
    intro h0 h1
    have := F.i _ (sign_ne hs)
    obtain ⟨a1, a2, a3⟩ := ih (by omega) (by omega)
    exact ⟨fun _ => one_ok F h0 (by omega) (a1 rfl) (Int.le_refl _) a3 hh, by omega, a3⟩
  | prO _ _ => intro h0 h1; exact ⟨fun h => absurd h (by decide), Int.le_refl _, h1⟩
  | prN hm _ => intro h0 h1; have := F.m _ hm; exact ⟨fun _ => leaf_ok (by omega) (by omega), by omega, by omega⟩
  | prT _ hp => intro h0 h1; have := F.i _ (ne_of hp (by decide)); exact ⟨fun _ => leaf_ok (by omega) (by omega), by omega, by omega⟩
  | prF _ hp => intro h0 h1; have := F.i _ (ne_of hp (by decide)); exact ⟨fun _ => leaf_ok (by omega) (by omega), by omega, by omega⟩
  | prG _ _ _ ih => intro h0 h1; exact ih h0 h1
  | prD _ _ _ ih => intro h0 h1; exact ih h0 h1
  | prM _ _ _ _ _ _ ih => intro h0 h1; exact ih h0 h1
  | grD _ _ => intro h0 h1; exact ⟨fun h => absurd h (by decide), Int.le_refl _, h1⟩
  | grE hp _ _ he ih =>
    intro h0 h1
    have := F.i _ (ne_of hp (by decide))
    have a := ih (by omega) (by omega) (Int.le_refl 1)
    exact ⟨fun h => absurd h he, by omega, a.2.2⟩
  | grC hp _ _ _ ih =>
    intro h0 h1
    have := F.i _ (ne_of hp (by decide))
    have a := ih (by omega) (by omega) (Int.le_refl 1)
    exact ⟨fun h => absurd h (by decide), by omega, a.2.2⟩
  | gr hp _ _ hq ih =>
    intro h0 h1
    have := F.i _ (ne_of hp (by decide))
    have hb := F.i _ (ne_of hq (by decide))
    have a := ih (by omega) (by omega) (Int.le_refl 1)
    obtain ⟨s, s1, s2, s3, s4, s5, s6, s7⟩ := a.1 rfl
    exact ⟨fun _ => ⟨s, by omega, by omega, by omega, s4, s5, s6, by omega⟩, by omega, by omega⟩
  | opB hp _ => intro h0 h1; have := F.i _ hp; exact ⟨fun h => absurd h (by decide), by omega, by omega⟩
  | opD hp _ _ => intro h0 h1; have := F.i _ hp; exact ⟨fun h => absurd h (by decide), by omega, by omega⟩
  | opE _ hp _ _ he ih =>
    intro h0 h1
    have := F.i _ (ne_of hp (by decide))
    have a := ih (by omega) (by omega) (Int.le_refl 1)
    exact ⟨fun h => absurd h he, by omega, a.2.2⟩
  | op1 _ hp _ _ _ ih =>
    intro h0 h1
    have := F.i _ (ne_of hp (by decide))
    have a := ih (by omega) (by omega) (Int.le_refl 1)
    exact ⟨fun h => absurd h (by decide), by omega, a.2.2⟩
  | op2 _ hp _ _ hq _ ih =>
    intro h0 h1
    have := F.i _ (ne_of hp (by decide))
    have hb := F.i _ (ne_of hq (by decide))
    have a := ih (by omega) (by omega) (Int.le_refl 1)
    exact ⟨fun h => absurd h (by decide), by omega, by omega⟩
  | op3 _ hp _ _ _ hq _ ih =>
    intro h0 h1
    have := F.i _ (ne_of hp (by decide))
    have hb := F.i _ (ne_of hq (by decide))
    have a := ih (by omega) (by omega) (Int.le_refl 1)
    exact ⟨fun h => absurd h (by decide), by omega, by omega⟩
  | op4 _ hp _ _ _ _ hq _ ih =>
    intro h0 h1
    have := F.i _ (ne_of hp (by decide))
    have hb := F.i _ (ident_ne hq).1
    have a := ih (by omega) (by omega) (Int.le_refl 1)
    exact ⟨fun h => absurd h (by decide), by omega, by omega⟩
  | opH _ hp _ _ _ _ _ _ _ ih => intro h0 h1; exact ⟨fun h => absurd h (by decide), Int.le_refl _, h1⟩
  | op _ hp _ _ _ _ _ hq hh ih =>
    intro h0 h1
    have := F.i _ (ne_of hp (by decide))
    have hb := F.i _ (ne_of hq (by decide))
    have a := ih (by omega) (by omega) (Int.le_refl 1)
    exact ⟨fun _ => one_ok F h0 (by omega) (a.1 rfl) (by omega) (by omega) hh, by omega, by omega⟩
  | nd1 _ => intro h0 h1; exact ⟨fun h => absurd h (by decide), Int.le_refl _, h1⟩
  | nd2 _ hp _ => intro h0 h1; have := F.i _ (ne_of hp (by decide)); exact ⟨fun h => absurd h (by decide), by omega, by omega⟩
  | nd3 hi hk _ => intro h0 h1; have := named_ok F hi hk; exact ⟨fun _ => leaf_ok (by omega) (by omega), by omega, by omega⟩
  | nd4 hi hk _ _ => intro h0 h1; have := named_ok F hi hk; exact ⟨fun h => absurd h (by decide), by omega, by omega⟩
  | nd hi hk hp _ _ ih =>
    intro h0 h1
    have := named_ok F hi hk
    have hb := F.i _ (ne_of hp (by decide))
    have a := ih (by omega) (by omega) rfl h0 (by omega) (by rw [InTs]; trivial) (by rw [hts]; decide) (by rw [szs]; omega)
    exact ⟨a.1, by omega, a.2.2⟩
  | arH _ _ => intro h0 h1 _ _ ha _ _ _; exact ⟨fun h => absurd h (by decide), Int.le_refl _, by omega⟩
  | arC hp hh =>
    intro h0 h1 hps h3 h4 h5 h6 h7
    have := F.i _ (ne_of hp (by decide))
    subst hps
    exact ⟨fun _ => ⟨_, Int.le_refl _, by omega, by omega, rfl, by dsimp only; omega, by rw [InT_eq]; exact h5, by rw [sz_eq]; dsimp only; omega⟩, by omega, by omega⟩
  | arN _ _ _ => intro h0 h1 _ _ ha _ _ _; exact ⟨fun h => absurd h (by decide), by omega, h1⟩
  | arE _ hk _ he ih =>
    intro h0 h1 hps h3 h4 h5 h6 h7
    rcases hk with ⟨_, rfl⟩ | ⟨_, hq, rfl⟩
    · have a := ih (by omega) (by omega) (Int.le_refl 1)
      exact ⟨fun h => absurd h he, by omega, a.2.2⟩
    · have := F.i _ (ne_of hq (by decide))
      have a := ih (by omega) (by omega) (Int.le_refl 1)
      exact ⟨fun h => absurd h he, by omega, a.2.2⟩
  | @ar nm p at0 acc at_ d k at1 e1 err at2 e2 _ hk _ _ ih1 ih2 =>
    intro h0 h1 hps h3 h4 h5 h6 h7
    have hkk : at_ ≤ k ∧ k ≤ n := by
      rcases hk with ⟨_, rfl⟩ | ⟨_, hq, rfl⟩
      · omega
      · have := F.i _ (ne_of hq (by decide)); omega
    have a := ih1 (by omega) (by omega) (Int.le_refl 1)
    obtain ⟨s, s1, s2, s3, s4, s5, s6, s7⟩ := a.1 rfl
    have b := ih2 (by omega) (by omega) hps h3 (by omega) (InTs_app h5 (by rw [hps, s4]; exact F.o _ _ h3 (by omega)) (by rw [s4]; exact (F.b s (by omega) (by omega)).2) s6) (by rw [hts_app, ht_eq]; omega) (by rw [szs_app]; omega)
    exact b
theorem tv_ok {l : List Int} {T : List S28} (ok : TokOK l T) : VF (tv l T) (T.length : Int) (l.length : Int) := by
  refine ⟨fun i h => pk_in h, fun i h => nm_in h, fun i j h0 hij => ?_, fun i h0 h1 => ?_, fun i => ?_⟩
  · rw [ps_eq i, ps_eq j]
    by_cases hj : j < (T.length : Int)
    · rw [if_pos (show 0 ≤ j ∧ j < (T.length : Int) from ⟨by omega, hj⟩), if_pos (show 0 ≤ i ∧ i < (T.length : Int) from ⟨h0, by omega⟩)]
      by_cases e : i = j
      · rw [e]; exact Int.le_refl _
      · exact Int.le_of_lt (ok.o i j h0 (by omega) hj)
    · rw [if_neg (show ¬ (0 ≤ j ∧ j < (T.length : Int)) from fun h => hj h.2)]
      by_cases hi : 0 ≤ i ∧ i < (T.length : Int)
      · rw [if_pos hi]; have := ok.b i h0 hi.2; omega
      · rw [if_neg hi]; exact Int.le_refl _
  · rw [ps_eq, if_pos ⟨h0, h1⟩]; have := ok.b i h0 h1; omega
  · rw [ps_eq]
    by_cases hi : 0 ≤ i ∧ i < (T.length : Int)
    · rw [if_pos hi]
      have := ok.b i hi.1 hi.2; omega
    · rw [if_neg hi]; exact Int.le_refl _
theorem eta44 (e : S44) : (⟨e.f0, e.f1, e.f2, e.f3, e.f4, e.f5⟩ : S44) = e := by cases e; rfl
def out (e : S44) (err at1 dp : Int) : Int × Int × Int × ByteArray × ByteArray × List S44 × Int × Int × Int := (e.f0, e.f1, e.f2, e.f3, e.f4, e.f5, err, at1, dp)
def SDe (F : Int → Nat → Option (Int × Int × Int × ByteArray × ByteArray × List S44 × Int × Int × Int)) (d err at1 : Int) (e : S44) : Prop := ∃ dp, (err = 0 → dp = d) ∧ E1 (F d) (out e err at1 dp)
def SD (l : List Int) (T : List S28) (m : M) (at_ d err at1 : Int) (e : S44) : Prop :=
  match m with
  | .bin lv => 1 ≤ lv → lv ≤ 6 → SDe (fun d k => expr_Cursor_binary.f k l T at_ d lv) d err at1 e
  | .lp lv e0 => 1 ≤ lv → lv ≤ 5 → ∀ a0, 0 ≤ a0 → Gd (tv l T) (T.length : Int) (l.length : Int) a0 at_ e0 → ∃ dp, (err = 0 → dp = d) ∧ Ev (fun K k => expr_Cursor_binary.l0 (Rec_expr_Cursor_binary.at K) k lv l T 0 at_ d e0.f0 e0.f1 e0.f2 e0.f3 e0.f4 e0.f5) (out e err at1 dp)
  | .sg => SDe (fun d k => expr_Cursor_signed.f k l T at_ d) d err at1 e
  | .pr => SDe (fun d k => expr_Cursor_primary.f k l T at_ d) d err at1 e
  | .gr => SDe (fun d k => expr_Cursor_group.f k l T at_ d) d err at1 e
  | .op => SDe (fun d k => expr_Cursor_open.f k l T at_ d) d err at1 e
  | .nd => SDe (fun d k => expr_Cursor_named.f k l T at_ d) d err at1 e
  | .ar nm p at0 acc => p = (tv l T).ps at0 → 0 ≤ at0 → at0 < at_ → InTs (l.length : Int) p acc → hts acc ≤ 32 → (szs acc : Int) + 1 ≤ at_ - at0 → 1 ≤ d → ∃ dp, (err = 0 → dp = d - 1) ∧ Ev (fun K k => expr_Cursor_named.l0 (Rec_expr_Cursor_binary.at K) k at0 l T p nm at_ d acc) (out e err at1 dp)
section
variable {l : List Int} {T : List S28}
theorem peek_size (ok : TokOK l T) (i : Int) : ((tv l T).pk i).size ≤ 1000000 := by
  have hm := ok.m
  rw [pk_eq]
  split
  · rw [← bytes_len]
    have : ∀ q : List Int, (bytesOf (strOfNums q)).length = q.length := fun q => by
      have := congrArg List.length (str_toList q)
      rw [Lib.toList_data, List.length_map] at this
      unfold bytesOf
      rw [List.length_map]; exact this
    rw [this, List.length_drop, List.length_take]; omega
  · decide
theorem sgn (ok : TokOK l T) {at_ d : Int} {v} (h0 : 0 ≤ at_) (hs : (tv l T).pk at_ = ⟨#[33]⟩ ∨ (tv l T).pk at_ = ⟨#[45]⟩) (hj : Ev (fun K k => expr_Cursor_signed.j0 (Rec_expr_Cursor_binary.at K) k at_ d l T ((tv l T).pk at_) ((tv l T).ps at_) false) v) : E1 (fun k => expr_Cursor_signed.f k l T at_ d) v := by
  refine E1.succ (G := fun K k => expr_Cursor_signed.g (Rec_expr_Cursor_binary.at K) k l T at_ d) ?_ (fun _ => rfl)
  simp only [expr_Cursor_signed.g, peek ok h0, pos ok h0, Option.bind_some]
  by_cases h : (tv l T).pk at_ = ⟨#[33]⟩
  · simp only [if_pos h]; exact hj
  · have h45 : (tv l T).pk at_ = ⟨#[45]⟩ := by rcases hs with hs | hs; exact absurd hs h; exact hs
    simp only [if_neg h, decide_eq_true h45, show (!true) = false from rfl]; exact hj
theorem prm (ok : TokOK l T) {at_ d : Int} {v} (h0 : 0 ≤ at_) (hn : ¬ (tv l T).nm at_ = true) {b : Bool} (hb : b = decide ((tv l T).pk at_ = ⟨#[116, 114, 117, 101]⟩ ∨ (tv l T).pk at_ = ⟨#[102, 97, 108, 115, 101]⟩)) (hj : Ev (fun K k => expr_Cursor_primary.j0 (Rec_expr_Cursor_binary.at K) k at_ d l T ((tv l T).ps at_) ((tv l T).pk at_) b) v) : E1 (fun k => expr_Cursor_primary.f k l T at_ d) v := by
  refine E1.succ (G := fun K k => expr_Cursor_primary.g (Rec_expr_Cursor_binary.at K) k l T at_ d) ?_ (fun _ => rfl)
  obtain ⟨q, hq, hq3⟩ := kind (l := l) (T := T) (d := d) h0
  simp only [expr_Cursor_primary.g, peek ok h0, pos ok h0, hq, Option.bind_some, if_neg (show ¬ q = 3 from fun h => hn (hq3.1 h))]
  by_cases h : (tv l T).pk at_ = ⟨#[116, 114, 117, 101]⟩
  · rw [decide_eq_true (.inl h)] at hb
    subst hb
    simp only [if_pos h]; exact hj
  · by_cases h' : (tv l T).pk at_ = ⟨#[102, 97, 108, 115, 101]⟩
    · rw [decide_eq_true (.inr h')] at hb
      subst hb
      simp only [if_neg h, decide_eq_true h']; exact hj
    · rw [decide_eq_false (fun hh => hh.elim h h')] at hb
      subst hb
      simp only [if_neg h, decide_eq_false h']; exact hj
theorem nam (ok : TokOK l T) {at_ d k : Int} {nm : ByteArray} {v} (h0 : 0 ≤ at_) (h1 : at_ ≤ (T.length : Int)) (hi : idS ((tv l T).pk at_) = true) (hk : (tv l T).pk (at_ + 1) = ⟨#[46]⟩ ∧ idS ((tv l T).pk (at_ + 1 + 1)) = true ∧ k = at_ + 1 + 1 + 1 ∧ nm = (tv l T).pk at_ ++ ((⟨#[46]⟩ : ByteArray) ++ (tv l T).pk (at_ + 1 + 1)) ∨ (tv l T).pk (at_ + 1) ≠ ⟨#[46]⟩ ∧ k = at_ + 1 ∧ nm = (tv l T).pk at_) (hj : Ev (fun K q => expr_Cursor_named.j0 (Rec_expr_Cursor_binary.at K) q at_ d l T ((tv l T).ps at_) k nm) v) : E1 (fun k => expr_Cursor_named.f k l T at_ d) v := by
  have hn := ok.n
  have i1 := ident_ (d := d) ok h0 (by omega)
  rw [if_pos hi] at i1
  refine E1.succ (G := fun K k => expr_Cursor_named.g (Rec_expr_Cursor_binary.at K) k l T at_ d) ?_ (fun _ => rfl)
  simp only [expr_Cursor_named.g, pos ok h0, Option.bind_some]
  refine Ev.bind (E1.k i1) ?_
  simp only [if_true, take_ (d := d) ok (show 0 ≤ at_ + 1 by omega) (by omega) (show (⟨#[46]⟩ : ByteArray) ≠ ⟨#[]⟩ by decide), Option.bind_some]
  rcases hk with ⟨h2, h3, rfl, rfl⟩ | ⟨h2, rfl, rfl⟩
  · have i2 := ident_ (d := d) ok (show 0 ≤ at_ + 1 + 1 by omega) (by omega)
    rw [if_pos h3] at i2
    simp only [if_pos h2, if_true]
    refine Ev.bind (E1.k i2) ?_
    have s1 := (ident_ne hi).2
    have s2 := (ident_ne h3).2
    have s3 : (⟨#[46]⟩ : ByteArray).size = 1 := rfl
    have s4 : ((⟨#[46]⟩ : ByteArray) ++ (tv l T).pk (at_ + 1 + 1)).size = 1 + ((tv l T).pk (at_ + 1 + 1)).size := by rw [ByteArray.size_append, s3]
    simp only [if_true]
    rw [s3, s4]
    simp only [if_pos (show 1 + ((tv l T).pk (at_ + 1 + 1)).size ≤ 9223372036854775807 by omega), if_pos (show ((tv l T).pk at_).size + (1 + ((tv l T).pk (at_ + 1 + 1)).size) ≤ 9223372036854775807 by omega)]
    exact hj
  · simp only [if_neg h2, if_neg (show ¬ false = true by decide)]
    exact hj
theorem sound (ok : TokOK l T) {m : M} {at_ d err at1 : Int} {e : S44} (h : Run (tv l T) m at_ d err at1 e) : 0 ≤ at_ → at_ ≤ (T.length : Int) → 0 ≤ d → d ≤ 33 → SD l T m at_ d err at1 e := by
  have F := tv_ok ok
  have hn := ok.n
  have z0 : (0 : Int) = 0 := rfl
  have ft : ¬ false = true := by decide
  induction h with
  | @bin6 at_ d err at1 e _ ih =>
    intro h0 h1 d0 d1 _ _
    obtain ⟨dp, hd, hE⟩ := ih h0 h1 d0 d1
    refine ⟨dp, hd, E1.succ (G := fun K k => expr_Cursor_binary.g (Rec_expr_Cursor_binary.at K) k l T at_ d 6) ?_ (fun _ => rfl)⟩
    simp only [expr_Cursor_binary.g, if_true]
    exact Ev.bind (E1.K hE) (Ev.some rfl)
  | @binE lv at_ d err at1 hl _ he ih =>
    intro h0 h1 d0 d1 l1 l6
    obtain ⟨dp, hd, hE⟩ := ih h0 h1 d0 d1 (by omega) (by omega)
    refine ⟨dp, hd, E1.succ (G := fun K k => expr_Cursor_binary.g (Rec_expr_Cursor_binary.at K) k l T at_ d lv) ?_ (fun _ => rfl)⟩
    simp only [expr_Cursor_binary.g, if_neg hl, wrap64_id (x := lv + 1) (by omega) (by omega)]
    refine Ev.bind (E1.K hE) (Ev.sub 2 ?_)
    dsimp only [out]
    simp only [eta44, if_true, expr_Cursor_binary.l0, expr_Cursor_binary.j0, if_neg he]
    exact Ev.some rfl
  | @bin lv at_ d at1 e1 err at2 e2 hl hr _ ih1 ih2 =>
    intro h0 h1 d0 d1 l1 l6
    have ro := run_ok F hr h0 h1 (by omega)
    obtain ⟨dp, hd, hE⟩ := ih1 h0 h1 d0 d1 (by omega) (by omega)
    have hdp := hd rfl
    subst hdp
    obtain ⟨dq, hq, hE2⟩ := ih2 (by omega) ro.2.2 d0 d1 l1 (by omega) _ h0 (ro.1 rfl)
    refine ⟨dq, hq, E1.succ (G := fun K k => expr_Cursor_binary.g (Rec_expr_Cursor_binary.at K) k l T at_ dp lv) ?_ (fun _ => rfl)⟩
    simp only [expr_Cursor_binary.g, if_neg hl, wrap64_id (x := lv + 1) (by omega) (by omega)]
    exact Ev.bind (E1.K hE) hE2
  | @lpN lv e at_ d hv =>
    intro h0 h1 d0 d1 l1 l5 a0 _ hg
    refine ⟨d, fun _ => rfl, Ev.sub 2 ?_⟩
    simp only [expr_Cursor_binary.l0, if_pos z0, peek ok h0, level_tells, Option.bind_some, if_neg hv, expr_Cursor_binary.j0]
    exact Ev.some rfl
  | @lpE lv e at_ d err at1 hv _ he ih =>
    intro h0 h1 d0 d1 l1 l5 a0 _ hg
    have := F.i _ (lv_ne hv l1)
    obtain ⟨dp, hd, hE⟩ := ih (by omega) (by omega) d0 d1 (by omega) (by omega)
    refine ⟨dp, fun h => absurd h he, Ev.sub 3 ?_⟩
    simp only [expr_Cursor_binary.l0, if_pos z0, peek ok h0, level_tells, Option.bind_some, if_pos hv, wrap64_id (x := at_ + 1) (by omega) (by omega), wrap64_id (x := lv + 1) (by omega) (by omega)]
    refine Ev.bind (E1.K hE) ?_
    dsimp only [out]
    simp only [eta44, if_true, if_neg he, expr_Cursor_binary.j0]
    exact Ev.some rfl
  | @lpH lv e at_ d at1 e1 hv hr hh ih =>
    intro h0 h1 d0 d1 l1 l5 a0 ha0 hg
    have := F.i _ (lv_ne hv l1)
    have ro := run_ok F hr (by omega) (by omega) (by omega)
    obtain ⟨dp, hd, hE⟩ := ih (by omega) (by omega) d0 d1 (by omega) (by omega)
    obtain ⟨_, _, _, _, _, _, _, s7⟩ := hg
    obtain ⟨_, _, _, _, _, _, _, r7⟩ := ro.1 rfl
    have hH := held_ (l := l) (T := T) (i := at1) (d := dp) (f0 := 5) (f1 := e.f1) (f2 := 0) (told := at_) (f3 := (tv l T).pk at_) (f4 := ⟨#[]⟩) (f5 := [e, e1]) (by rw [szs, szs, szs]; omega)
    rw [if_pos hh] at hH
    refine ⟨dp, fun h => absurd h (by decide), Ev.sub 3 ?_⟩
    simp only [expr_Cursor_binary.l0, if_pos z0, peek ok h0, level_tells, Option.bind_some, if_pos hv, wrap64_id (x := at_ + 1) (by omega) (by omega), wrap64_id (x := lv + 1) (by omega) (by omega)]
    refine Ev.bind (E1.K hE) ?_
    dsimp only [out]
    simp only [eta44, if_true, if_pos z0, Option.bind_some]
    refine Ev.bind (E1.add hH 2) ?_
    simp only [if_neg (show ¬ (12 : Int) = 0 by decide), expr_Cursor_binary.j0]
    exact Ev.some rfl
  | @lp lv e at_ d at1 e1 err at2 e2 hv hr hh hr2 ih1 ih2 =>
    intro h0 h1 d0 d1 l1 l5 a0 ha0 hg
    have := F.i _ (lv_ne hv l1)
    have ro := run_ok F hr (by omega) (by omega) (by omega)
    obtain ⟨dp, hd, hE⟩ := ih1 (by omega) (by omega) d0 d1 (by omega) (by omega)
    have hdp := hd rfl
    subst hdp
    have hg' := hg
    obtain ⟨s, s1, s2, s3, s4, s5, s6, s7⟩ := hg
    obtain ⟨r, r1, r2, r3, r4, r5, r6, r7⟩ := ro.1 rfl
    obtain ⟨dq, hq, hE2⟩ := ih2 (by omega) ro.2.2 d0 d1 l1 l5 a0 ha0 ⟨s, s1, by omega, ro.2.2, s4, by dsimp only; omega, by
      rw [InT_eq, InTs, InTs, InTs]
      dsimp only
      exact ⟨⟨Int.le_refl _, by rw [s4]; exact (F.b s (by omega) (by omega)).2⟩, s6, ⟨by rw [s4, r4]; exact F.o _ _ (by omega) (by omega), by rw [r4]; exact (F.b r (by omega) (by omega)).2⟩, r6, trivial⟩, by rw [sz_eq, szs, szs, szs]; omega⟩
    have hH := held_ (l := l) (T := T) (i := at1) (d := dp) (f0 := 5) (f1 := e.f1) (f2 := 0) (told := at_) (f3 := (tv l T).pk at_) (f4 := ⟨#[]⟩) (f5 := [e, e1]) (by rw [szs, szs, szs]; omega)
    rw [if_neg hh] at hH
    refine ⟨dq, hq, Ev.sub 1 ?_⟩
    simp only [expr_Cursor_binary.l0, if_pos z0, peek ok h0, level_tells, Option.bind_some, if_pos hv, wrap64_id (x := at_ + 1) (by omega) (by omega), wrap64_id (x := lv + 1) (by omega) (by omega)]
    refine Ev.bind (E1.K hE) ?_
    dsimp only [out]
    simp only [eta44, if_true, if_pos z0, Option.bind_some]
    refine Ev.bind (E1.k hH) ?_
    exact hE2
  | @sgP at_ d err at1 e hp hq _ ih =>
    intro h0 h1 d0 d1
    obtain ⟨dp, hd, hE⟩ := ih h0 h1 d0 d1
    refine ⟨dp, hd, E1.succ (G := fun K k => expr_Cursor_signed.g (Rec_expr_Cursor_binary.at K) k l T at_ d) ?_ (fun _ => rfl)⟩
    simp only [expr_Cursor_signed.g, peek ok h0, pos ok h0, Option.bind_some, if_neg hp, decide_eq_false hq, show (!false) = true from rfl]
    refine Ev.sub 1 ?_
    simp only [expr_Cursor_signed.j0, if_true]
    exact Ev.bind (E1.K hE) (Ev.some rfl)
  | @sgD at_ d hs hd =>
    intro h0 h1 d0 d1
    refine ⟨d, fun _ => rfl, sgn ok h0 hs (Ev.sub 1 ?_)⟩
    simp only [expr_Cursor_signed.j0, if_neg ft, down (l := l) (T := T) h0 (by omega) d0, if_pos hd, Option.bind_some, if_neg (show ¬ (12 : Int) = 0 by decide)]
    exact Ev.some rfl
  | @sgE at_ d err at1 hs hd _ he ih =>
    intro h0 h1 d0 d1
    have := F.i _ (sign_ne hs)
    obtain ⟨dp, hdp, hE⟩ := ih (by omega) (by omega) (by omega) (by omega)
    refine ⟨dp, fun h => absurd h he, sgn ok h0 hs (Ev.sub 1 ?_)⟩
    simp only [expr_Cursor_signed.j0, if_neg ft, down (l := l) (T := T) h0 (by omega) d0, if_neg hd, Option.bind_some, if_pos z0]
    refine Ev.bind (E1.K hE) ?_
    dsimp only [out]
    simp only [eta44, if_true, if_neg he]
    exact Ev.some rfl
  | @sgH at_ d at1 e1 hs hd hr hh ih =>
    intro h0 h1 d0 d1
    have := F.i _ (sign_ne hs)
    obtain ⟨ro1, _, _⟩ := run_ok F hr (by omega) (by omega)
    obtain ⟨_, _, _, _, _, _, _, r7⟩ := ro1 rfl
    obtain ⟨dp, hdp, hE⟩ := ih (by omega) (by omega) (by omega) (by omega)
    have hq := hdp rfl
    subst hq
    have hH := held_ (l := l) (T := T) (i := at1) (d := d) (f0 := 4) (f1 := (tv l T).ps at_) (f2 := 0) (told := at_) (f3 := (tv l T).pk at_) (f4 := ⟨#[]⟩) (f5 := [e1]) (by rw [szs, szs]; omega)
    rw [if_pos hh] at hH
    refine ⟨d, fun _ => rfl, sgn ok h0 hs (Ev.sub 1 ?_)⟩
    simp only [expr_Cursor_signed.j0, if_neg ft, down (l := l) (T := T) h0 (by omega) d0, if_neg hd, Option.bind_some, if_pos z0]
    refine Ev.bind (E1.K hE) ?_
    dsimp only [out]
    simp only [eta44, if_true, if_pos z0, Option.bind_some, show d + 1 - 1 = d by omega, wrap64_id (x := d) (by omega) (by omega)]
    refine Ev.bind (E1.k hH) ?_
    exact Ev.some rfl
  | @sg at_ d at1 e1 hs hd hr hh ih =>
    intro h0 h1 d0 d1
    have := F.i _ (sign_ne hs)
    obtain ⟨ro1, _, _⟩ := run_ok F hr (by omega) (by omega)
    obtain ⟨_, _, _, _, _, _, _, r7⟩ := ro1 rfl
    obtain ⟨dp, hdp, hE⟩ := ih (by omega) (by omega) (by omega) (by omega)
    have hq := hdp rfl
    subst hq
    have hH := held_ (l := l) (T := T) (i := at1) (d := d) (f0 := 4) (f1 := (tv l T).ps at_) (f2 := 0) (told := at_) (f3 := (tv l T).pk at_) (f4 := ⟨#[]⟩) (f5 := [e1]) (by rw [szs, szs]; omega)
    rw [if_neg hh] at hH
    refine ⟨d, fun _ => rfl, sgn ok h0 hs (Ev.sub 1 ?_)⟩
    simp only [expr_Cursor_signed.j0, if_neg ft, down (l := l) (T := T) h0 (by omega) d0, if_neg hd, Option.bind_some, if_pos z0]
    refine Ev.bind (E1.K hE) ?_
    dsimp only [out]
    simp only [eta44, if_true, if_pos z0, Option.bind_some, show d + 1 - 1 = d by omega, wrap64_id (x := d) (by omega) (by omega)]
    refine Ev.bind (E1.k hH) ?_
    exact Ev.some rfl
  | @prO at_ d hm hv =>
    intro h0 h1 d0 d1
    obtain ⟨q, hq, hq3⟩ := kind (l := l) (T := T) (d := d) h0
    have hN := number_ (d := d) ok h0 (by omega) (peek_size ok at_)
    rw [hv] at hN
    refine ⟨d, fun _ => rfl, E1.succ (G := fun K k => expr_Cursor_primary.g (Rec_expr_Cursor_binary.at K) k l T at_ d) ?_ (fun _ => rfl)⟩
    simp only [expr_Cursor_primary.g, peek ok h0, pos ok h0, hq, Option.bind_some, if_pos (hq3.2 hm)]
    exact Ev.bind (E1.k hN) (Ev.some rfl)
  | @prN at_ d v hm hv =>
    intro h0 h1 d0 d1
    obtain ⟨q, hq, hq3⟩ := kind (l := l) (T := T) (d := d) h0
    have hN := number_ (d := d) ok h0 (by omega) (peek_size ok at_)
    rw [hv] at hN
    refine ⟨d, fun _ => rfl, E1.succ (G := fun K k => expr_Cursor_primary.g (Rec_expr_Cursor_binary.at K) k l T at_ d) ?_ (fun _ => rfl)⟩
    simp only [expr_Cursor_primary.g, peek ok h0, pos ok h0, hq, Option.bind_some, if_pos (hq3.2 hm)]
    exact Ev.bind (E1.k hN) (Ev.some rfl)
  | @prT at_ d hm hp =>
    intro h0 h1 d0 d1
    refine ⟨d, fun _ => rfl, prm ok h0 hm (b := true) (decide_eq_true (.inl hp)).symm (Ev.sub 1 ?_)⟩
    simp only [expr_Cursor_primary.j0, if_true, if_pos hp, wrap64_id (x := at_ + 1) (by omega) (by omega)]
    exact Ev.some rfl
  | @prF at_ d hm hp =>
    intro h0 h1 d0 d1
    refine ⟨d, fun _ => rfl, prm ok h0 hm (b := true) (decide_eq_true (.inr hp)).symm (Ev.sub 1 ?_)⟩
    simp only [expr_Cursor_primary.j0, if_true, if_neg (show ¬ (tv l T).pk at_ = ⟨#[116, 114, 117, 101]⟩ by rw [hp]; decide), wrap64_id (x := at_ + 1) (by omega) (by omega)]
    exact Ev.some rfl
  | @prG at_ d err at1 e hm hp _ ih =>
    intro h0 h1 d0 d1
    obtain ⟨dp, hd, hE⟩ := ih h0 h1 d0 d1
    refine ⟨dp, hd, prm ok h0 hm (b := false) (decide_eq_false (by rw [hp]; decide)).symm (Ev.sub 1 ?_)⟩
    simp only [expr_Cursor_primary.j0, if_neg ft, if_pos hp]
    exact Ev.bind (E1.K hE) (Ev.some rfl)
  | @prD at_ d err at1 e hm hp _ ih =>
    intro h0 h1 d0 d1
    obtain ⟨dp, hd, hE⟩ := ih h0 h1 d0 d1
    refine ⟨dp, hd, prm ok h0 hm (b := false) (decide_eq_false (by rw [hp]; decide)).symm (Ev.sub 1 ?_)⟩
    simp only [expr_Cursor_primary.j0, if_neg ft, if_neg (show ¬ (tv l T).pk at_ = ⟨#[40]⟩ by rw [hp]; decide), if_pos hp]
    exact Ev.bind (E1.K hE) (Ev.some rfl)
  | @prM at_ d err at1 e hm h2 h3 h4 h5 _ ih =>
    intro h0 h1 d0 d1
    obtain ⟨dp, hd, hE⟩ := ih h0 h1 d0 d1
    refine ⟨dp, hd, prm ok h0 hm (b := false) (decide_eq_false (fun h => h.elim h2 h3)).symm (Ev.sub 1 ?_)⟩
    simp only [expr_Cursor_primary.j0, if_neg ft, if_neg h4, if_neg h5]
    exact Ev.bind (E1.K hE) (Ev.some rfl)
  | @grD at_ d hp hd =>
    intro h0 h1 d0 d1
    refine ⟨d, fun _ => rfl, E1.succ (G := fun K k => expr_Cursor_group.g (Rec_expr_Cursor_binary.at K) k l T at_ d) ?_ (fun _ => rfl)⟩
    simp only [expr_Cursor_group.g, down (l := l) (T := T) h0 (by omega) d0, if_pos hd, Option.bind_some, if_neg (show ¬ (12 : Int) = 0 by decide)]
    exact Ev.some rfl
  | @grE at_ d err at1 hp hd _ he ih =>
    intro h0 h1 d0 d1
    have := F.i _ (ne_of hp (by decide))
    obtain ⟨dp, hdp, hE⟩ := ih (by omega) (by omega) (by omega) (by omega) (by decide) (by decide)
    refine ⟨dp, fun h => absurd h he, E1.succ (G := fun K k => expr_Cursor_group.g (Rec_expr_Cursor_binary.at K) k l T at_ d) ?_ (fun _ => rfl)⟩
    simp only [expr_Cursor_group.g, down (l := l) (T := T) h0 (by omega) d0, if_neg hd, Option.bind_some, if_pos z0]
    refine Ev.bind (E1.K hE) (Ev.sub 1 ?_)
    dsimp only [out]
    simp only [eta44, if_true, if_neg he, expr_Cursor_group.j0]
    exact Ev.some rfl
  | @grC at_ d at1 e1 hp hd hr hq ih =>
    intro h0 h1 d0 d1
    have := F.i _ (ne_of hp (by decide))
    have ro := run_ok F hr (by omega) (by omega) (by decide)
    obtain ⟨dp, hdp, hE⟩ := ih (by omega) (by omega) (by omega) (by omega) (by decide) (by decide)
    have hdd := hdp rfl
    subst hdd
    refine ⟨d + 1, fun h => absurd h (by decide), E1.succ (G := fun K k => expr_Cursor_group.g (Rec_expr_Cursor_binary.at K) k l T at_ d) ?_ (fun _ => rfl)⟩
    simp only [expr_Cursor_group.g, down (l := l) (T := T) h0 (by omega) d0, if_neg hd, Option.bind_some, if_pos z0]
    refine Ev.bind (E1.K hE) (Ev.sub 1 ?_)
    dsimp only [out]
    simp only [eta44, if_true, if_pos z0, end_ ok (show 0 ≤ at1 by omega) (by omega) (show 0 ≤ d + 1 by omega) (by omega), if_neg hq, Option.bind_some, expr_Cursor_group.j0, if_neg (show ¬ (11 : Int) = 0 by decide)]
    exact Ev.some rfl
  | @gr at_ d at1 e1 hp hd hr hq ih =>
    intro h0 h1 d0 d1
    have := F.i _ (ne_of hp (by decide))
    have ro := run_ok F hr (by omega) (by omega) (by decide)
    obtain ⟨dp, hdp, hE⟩ := ih (by omega) (by omega) (by omega) (by omega) (by decide) (by decide)
    have hdd := hdp rfl
    subst hdd
    refine ⟨d, fun _ => rfl, E1.succ (G := fun K k => expr_Cursor_group.g (Rec_expr_Cursor_binary.at K) k l T at_ d) ?_ (fun _ => rfl)⟩
    simp only [expr_Cursor_group.g, down (l := l) (T := T) h0 (by omega) d0, if_neg hd, Option.bind_some, if_pos z0]
    refine Ev.bind (E1.K hE) (Ev.sub 1 ?_)
    dsimp only [out]
    simp only [eta44, if_true, if_pos z0, end_ ok (show 0 ≤ at1 by omega) (by omega) (show 0 ≤ d + 1 by omega) (by omega), if_pos hq, Option.bind_some, expr_Cursor_group.j0, show d + 1 - 1 = d by omega]
    exact Ev.some rfl
  | @opB at_ d hp hq =>
    intro h0 h1 d0 d1
    refine ⟨d, fun _ => rfl, E1.succ (G := fun K k => expr_Cursor_open.g (Rec_expr_Cursor_binary.at K) k l T at_ d) ?_ (fun _ => rfl)⟩
    simp only [expr_Cursor_open.g, pos ok h0, wrap64_id (x := at_ + 1) (by omega) (by omega), peek ok (show 0 ≤ at_ + 1 by omega), Option.bind_some, if_neg hq]
    exact Ev.some rfl
  | @opD at_ d hp hq hd =>
    intro h0 h1 d0 d1
    refine ⟨d, fun _ => rfl, E1.succ (G := fun K k => expr_Cursor_open.g (Rec_expr_Cursor_binary.at K) k l T at_ d) ?_ (fun _ => rfl)⟩
    simp only [expr_Cursor_open.g, pos ok h0, wrap64_id (x := at_ + 1) (by omega) (by omega), peek ok (show 0 ≤ at_ + 1 by omega), Option.bind_some, if_pos hq, down (l := l) (T := T) (show 0 ≤ at_ + 1 by omega) (by omega) d0, if_pos hd, if_neg (show ¬ (12 : Int) = 0 by decide)]
    exact Ev.some rfl
  | @opE at_ d err at1 hp hq hd _ he ih =>
    intro h0 h1 d0 d1
    have := F.i _ (ne_of hq (by decide))
    obtain ⟨dp, hdp, hE⟩ := ih (by omega) (by omega) (by omega) (by omega) (by decide) (by decide)
    refine ⟨dp, fun h => absurd h he, E1.succ (G := fun K k => expr_Cursor_open.g (Rec_expr_Cursor_binary.at K) k l T at_ d) ?_ (fun _ => rfl)⟩
    simp only [expr_Cursor_open.g, pos ok h0, wrap64_id (x := at_ + 1) (by omega) (by omega), peek ok (show 0 ≤ at_ + 1 by omega), Option.bind_some, if_pos hq, down (l := l) (T := T) (show 0 ≤ at_ + 1 by omega) (by omega) d0, if_neg hd, if_pos z0]
    refine Ev.bind (E1.K hE) ?_
    dsimp only [out]
    simp only [eta44, if_true, if_neg he]
    exact Ev.some rfl
  | @op1 at_ d at1 e1 hp hq hd hr hx ih =>
    intro h0 h1 d0 d1
    have := F.i _ (ne_of hq (by decide))
    have ro := run_ok F hr (by omega) (by omega) (by decide)
    obtain ⟨dp, hdp, hE⟩ := ih (by omega) (by omega) (by omega) (by omega) (by decide) (by decide)
    refine ⟨dp, fun h => absurd h (by decide), E1.succ (G := fun K k => expr_Cursor_open.g (Rec_expr_Cursor_binary.at K) k l T at_ d) ?_ (fun _ => rfl)⟩
    simp only [expr_Cursor_open.g, pos ok h0, wrap64_id (x := at_ + 1) (by omega) (by omega), peek ok (show 0 ≤ at_ + 1 by omega), Option.bind_some, if_pos hq, down (l := l) (T := T) (show 0 ≤ at_ + 1 by omega) (by omega) d0, if_neg hd, if_pos z0]
    refine Ev.bind (E1.K hE) (Ev.sub 2 ?_)
    dsimp only [out]
    simp only [eta44, if_true, if_pos z0, take_ ok (show 0 ≤ at1 by omega) (by omega) (show (⟨#[44]⟩ : ByteArray) ≠ ⟨#[]⟩ by decide), if_neg hx, Option.bind_some, if_neg ft, expr_Cursor_open.j1, expr_Cursor_open.j0]
    exact Ev.some rfl
  | @op2 at_ d at1 e1 hp hq hd hr hx hy ih =>
    intro h0 h1 d0 d1
    have := F.i _ (ne_of hq (by decide))
    have ro := run_ok F hr (by omega) (by omega) (by decide)
    obtain ⟨dp, hdp, hE⟩ := ih (by omega) (by omega) (by omega) (by omega) (by decide) (by decide)
    refine ⟨dp, fun h => absurd h (by decide), E1.succ (G := fun K k => expr_Cursor_open.g (Rec_expr_Cursor_binary.at K) k l T at_ d) ?_ (fun _ => rfl)⟩
    simp only [expr_Cursor_open.g, pos ok h0, wrap64_id (x := at_ + 1) (by omega) (by omega), peek ok (show 0 ≤ at_ + 1 by omega), Option.bind_some, if_pos hq, down (l := l) (T := T) (show 0 ≤ at_ + 1 by omega) (by omega) d0, if_neg hd, if_pos z0]
    refine Ev.bind (E1.K hE) (Ev.sub 2 ?_)
    dsimp only [out]
    simp only [eta44, if_true, if_pos z0, take_ ok (show 0 ≤ at1 by omega) (by omega) (show (⟨#[44]⟩ : ByteArray) ≠ ⟨#[]⟩ by decide), if_pos hx, Option.bind_some, if_true, take_ ok (show 0 ≤ at1 + 1 by omega) (by omega) (show (⟨#[64]⟩ : ByteArray) ≠ ⟨#[]⟩ by decide), if_neg hy, expr_Cursor_open.j1, expr_Cursor_open.j0, if_neg ft]
    exact Ev.some rfl
  | @op3 at_ d at1 e1 hp hq hd hr hx hy hz ih =>
    intro h0 h1 d0 d1
    have := F.i _ (ne_of hq (by decide))
    have ro := run_ok F hr (by omega) (by omega) (by decide)
    obtain ⟨dp, hdp, hE⟩ := ih (by omega) (by omega) (by omega) (by omega) (by decide) (by decide)
    have hI := ident_ (d := dp) ok (show 0 ≤ at1 + 1 + 1 by omega) (by omega)
    rw [if_neg hz] at hI
    refine ⟨dp, fun h => absurd h (by decide), E1.succ (G := fun K k => expr_Cursor_open.g (Rec_expr_Cursor_binary.at K) k l T at_ d) ?_ (fun _ => rfl)⟩
    simp only [expr_Cursor_open.g, pos ok h0, wrap64_id (x := at_ + 1) (by omega) (by omega), peek ok (show 0 ≤ at_ + 1 by omega), Option.bind_some, if_pos hq, down (l := l) (T := T) (show 0 ≤ at_ + 1 by omega) (by omega) d0, if_neg hd, if_pos z0]
    refine Ev.bind (E1.K hE) (Ev.sub 2 ?_)
    dsimp only [out]
    simp only [eta44, if_true, if_pos z0, take_ ok (show 0 ≤ at1 by omega) (by omega) (show (⟨#[44]⟩ : ByteArray) ≠ ⟨#[]⟩ by decide), if_pos hx, Option.bind_some, if_true, take_ ok (show 0 ≤ at1 + 1 by omega) (by omega) (show (⟨#[64]⟩ : ByteArray) ≠ ⟨#[]⟩ by decide), if_pos hy, expr_Cursor_open.j1]
    refine Ev.bind (E1.add hI 1) ?_
    simp only [expr_Cursor_open.j0, if_neg ft]
    exact Ev.some rfl
  | @op4 at_ d at1 e1 hp hq hd hr hx hy hz hw ih =>
    intro h0 h1 d0 d1
    have := F.i _ (ne_of hq (by decide))
    have ro := run_ok F hr (by omega) (by omega) (by decide)
    obtain ⟨dp, hdp, hE⟩ := ih (by omega) (by omega) (by omega) (by omega) (by decide) (by decide)
    have hdd := hdp rfl
    subst hdd
    have hI := ident_ (d := d + 1) ok (show 0 ≤ at1 + 1 + 1 by omega) (by omega)
    rw [if_pos hz] at hI
    refine ⟨d + 1, fun h => absurd h (by decide), E1.succ (G := fun K k => expr_Cursor_open.g (Rec_expr_Cursor_binary.at K) k l T at_ d) ?_ (fun _ => rfl)⟩
    simp only [expr_Cursor_open.g, pos ok h0, wrap64_id (x := at_ + 1) (by omega) (by omega), peek ok (show 0 ≤ at_ + 1 by omega), Option.bind_some, if_pos hq, down (l := l) (T := T) (show 0 ≤ at_ + 1 by omega) (by omega) d0, if_neg hd, if_pos z0]
    refine Ev.bind (E1.K hE) (Ev.sub 2 ?_)
    dsimp only [out]
    simp only [eta44, if_true, if_pos z0, take_ ok (show 0 ≤ at1 by omega) (by omega) (show (⟨#[44]⟩ : ByteArray) ≠ ⟨#[]⟩ by decide), if_pos hx, Option.bind_some, if_true, take_ ok (show 0 ≤ at1 + 1 by omega) (by omega) (show (⟨#[64]⟩ : ByteArray) ≠ ⟨#[]⟩ by decide), if_pos hy, expr_Cursor_open.j1]
    refine Ev.bind (E1.add hI 1) ?_
    simp only [expr_Cursor_open.j0, eta44, if_true, end_ ok (show 0 ≤ at1 + 1 + 1 + 1 by omega) (by omega) (show 0 ≤ d + 1 by omega) (by omega), if_neg hw, Option.bind_some, if_neg (show ¬ (11 : Int) = 0 by decide)]
    exact Ev.some rfl
  | @opH at_ d at1 e1 hp hq hd hr hx hy hz hw hh ih =>
    intro h0 h1 d0 d1
    have := F.i _ (ne_of hq (by decide))
    have ro := run_ok F hr (by omega) (by omega) (by decide)
    obtain ⟨_, _, _, _, _, _, _, r7⟩ := ro.1 rfl
    obtain ⟨dp, hdp, hE⟩ := ih (by omega) (by omega) (by omega) (by omega) (by decide) (by decide)
    have hdd := hdp rfl
    subst hdd
    have hI := ident_ (d := d + 1) ok (show 0 ≤ at1 + 1 + 1 by omega) (by omega)
    rw [if_pos hz] at hI
    have hH := held_ (l := l) (T := T) (i := at1 + 1 + 1 + 1 + 1) (d := d) (f0 := 6) (f1 := (tv l T).ps at_) (f2 := 0) (told := at_) (f3 := ⟨#[]⟩) (f4 := (tv l T).pk (at1 + 1 + 1)) (f5 := [e1]) (by rw [szs, szs]; omega)
    rw [if_pos hh] at hH
    refine ⟨d, fun _ => rfl, E1.succ (G := fun K k => expr_Cursor_open.g (Rec_expr_Cursor_binary.at K) k l T at_ d) ?_ (fun _ => rfl)⟩
    simp only [expr_Cursor_open.g, pos ok h0, wrap64_id (x := at_ + 1) (by omega) (by omega), peek ok (show 0 ≤ at_ + 1 by omega), Option.bind_some, if_pos hq, down (l := l) (T := T) (show 0 ≤ at_ + 1 by omega) (by omega) d0, if_neg hd, if_pos z0]
    refine Ev.bind (E1.K hE) (Ev.sub 2 ?_)
    dsimp only [out]
    simp only [eta44, if_true, if_pos z0, take_ ok (show 0 ≤ at1 by omega) (by omega) (show (⟨#[44]⟩ : ByteArray) ≠ ⟨#[]⟩ by decide), if_pos hx, Option.bind_some, if_true, take_ ok (show 0 ≤ at1 + 1 by omega) (by omega) (show (⟨#[64]⟩ : ByteArray) ≠ ⟨#[]⟩ by decide), if_pos hy, expr_Cursor_open.j1]
    refine Ev.bind (E1.add hI 1) ?_
    simp only [expr_Cursor_open.j0, eta44, if_true, end_ ok (show 0 ≤ at1 + 1 + 1 + 1 by omega) (by omega) (show 0 ≤ d + 1 by omega) (by omega), if_pos hw, Option.bind_some, if_pos z0, show d + 1 - 1 = d by omega]
    exact Ev.bind (E1.k hH) (Ev.some rfl)
  | @op at_ d at1 e1 hp hq hd hr hx hy hz hw hh ih =>
    intro h0 h1 d0 d1
    have := F.i _ (ne_of hq (by decide))
    have ro := run_ok F hr (by omega) (by omega) (by decide)
    obtain ⟨_, _, _, _, _, _, _, r7⟩ := ro.1 rfl
    obtain ⟨dp, hdp, hE⟩ := ih (by omega) (by omega) (by omega) (by omega) (by decide) (by decide)
    have hdd := hdp rfl
    subst hdd
    have hI := ident_ (d := d + 1) ok (show 0 ≤ at1 + 1 + 1 by omega) (by omega)
    rw [if_pos hz] at hI
    have hH := held_ (l := l) (T := T) (i := at1 + 1 + 1 + 1 + 1) (d := d) (f0 := 6) (f1 := (tv l T).ps at_) (f2 := 0) (told := at_) (f3 := ⟨#[]⟩) (f4 := (tv l T).pk (at1 + 1 + 1)) (f5 := [e1]) (by rw [szs, szs]; omega)
    rw [if_neg hh] at hH
    refine ⟨d, fun _ => rfl, E1.succ (G := fun K k => expr_Cursor_open.g (Rec_expr_Cursor_binary.at K) k l T at_ d) ?_ (fun _ => rfl)⟩
    simp only [expr_Cursor_open.g, pos ok h0, wrap64_id (x := at_ + 1) (by omega) (by omega), peek ok (show 0 ≤ at_ + 1 by omega), Option.bind_some, if_pos hq, down (l := l) (T := T) (show 0 ≤ at_ + 1 by omega) (by omega) d0, if_neg hd, if_pos z0]
    refine Ev.bind (E1.K hE) (Ev.sub 2 ?_)
    dsimp only [out]
    simp only [eta44, if_true, if_pos z0, take_ ok (show 0 ≤ at1 by omega) (by omega) (show (⟨#[44]⟩ : ByteArray) ≠ ⟨#[]⟩ by decide), if_pos hx, Option.bind_some, if_true, take_ ok (show 0 ≤ at1 + 1 by omega) (by omega) (show (⟨#[64]⟩ : ByteArray) ≠ ⟨#[]⟩ by decide), if_pos hy, expr_Cursor_open.j1]
    refine Ev.bind (E1.add hI 1) ?_
    simp only [expr_Cursor_open.j0, eta44, if_true, end_ ok (show 0 ≤ at1 + 1 + 1 + 1 by omega) (by omega) (show 0 ≤ d + 1 by omega) (by omega), if_pos hw, Option.bind_some, if_pos z0, show d + 1 - 1 = d by omega]
    exact Ev.bind (E1.k hH) (Ev.some rfl)
  | @nd1 at_ d hi =>
    intro h0 h1 d0 d1
    have i1 := ident_ (d := d) ok h0 (by omega)
    rw [if_neg hi] at i1
    refine ⟨d, fun _ => rfl, E1.succ (G := fun K k => expr_Cursor_named.g (Rec_expr_Cursor_binary.at K) k l T at_ d) ?_ (fun _ => rfl)⟩
    simp only [expr_Cursor_named.g, pos ok h0, Option.bind_some]
    refine Ev.bind (E1.k i1) ?_
    simp only [if_neg ft]
    exact Ev.some rfl
  | @nd2 at_ d hi hp hj =>
    intro h0 h1 d0 d1
    have i1 := ident_ (d := d) ok h0 (by omega)
    rw [if_pos hi] at i1
    have i2 := ident_ (d := d) ok (show 0 ≤ at_ + 1 + 1 by omega) (by omega)
    rw [if_neg hj] at i2
    refine ⟨d, fun _ => rfl, E1.succ (G := fun K k => expr_Cursor_named.g (Rec_expr_Cursor_binary.at K) k l T at_ d) ?_ (fun _ => rfl)⟩
    simp only [expr_Cursor_named.g, pos ok h0, Option.bind_some]
    refine Ev.bind (E1.k i1) ?_
    simp only [if_true, take_ (d := d) ok (show 0 ≤ at_ + 1 by omega) (by omega) (show (⟨#[46]⟩ : ByteArray) ≠ ⟨#[]⟩ by decide), Option.bind_some, if_pos hp]
    refine Ev.bind (E1.k i2) ?_
    simp only [if_neg ft]
    exact Ev.some rfl
  | @nd3 at_ d k nm hi hk hp =>
    intro h0 h1 d0 d1
    have hkk := named_ok F hi hk
    refine ⟨d, fun _ => rfl, nam ok h0 h1 hi hk (Ev.sub 1 ?_)⟩
    simp only [expr_Cursor_named.j0, peek ok (show 0 ≤ k by omega), Option.bind_some, if_neg hp]
    exact Ev.some rfl
  | @nd4 at_ d k nm hi hk hp hd =>
    intro h0 h1 d0 d1
    have hkk := named_ok F hi hk
    refine ⟨d, fun _ => rfl, nam ok h0 h1 hi hk (Ev.sub 1 ?_)⟩
    simp only [expr_Cursor_named.j0, peek ok (show 0 ≤ k by omega), Option.bind_some, if_pos hp, down (l := l) (T := T) (show 0 ≤ k by omega) (by omega) d0, if_pos hd, if_neg (show ¬ (12 : Int) = 0 by decide)]
    exact Ev.some rfl
  | @nd at_ d k nm err at1 e hi hk hp hd _ ih =>
    intro h0 h1 d0 d1
    have hkk := named_ok F hi hk
    have hb := F.i _ (ne_of hp (by decide))
    obtain ⟨dp, hdp, hE⟩ := ih (by omega) (by omega) (by omega) (by omega) rfl h0 (by omega) (by rw [InTs]; trivial) (by rw [hts]; decide) (by rw [szs]; omega) (by omega)
    refine ⟨dp, fun h => by have := hdp h; omega, nam ok h0 h1 hi hk (Ev.sub 1 ?_)⟩
    simp only [expr_Cursor_named.j0, peek ok (show 0 ≤ k by omega), Option.bind_some, if_pos hp, down (l := l) (T := T) (show 0 ≤ k by omega) (by omega) d0, if_neg hd, if_pos z0]
    exact hE
  | @arH nm p at0 acc at_ d hp hh =>
    intro h0 h1 d0 d1 hps h3 h4 h5 h6 h7 hd1
    have hH := held_ (l := l) (T := T) (i := at_ + 1) (d := d - 1) (f0 := 3) (f1 := p) (f2 := 0) (told := at0) (f3 := nm) (f4 := ⟨#[]⟩) (f5 := acc) (by omega)
    rw [if_pos hh] at hH
    refine ⟨d - 1, fun _ => rfl, Ev.sub 1 ?_⟩
    simp only [expr_Cursor_named.l0, peek ok h0, Option.bind_some, if_pos hp, end_ ok h0 (by omega) d0 (by omega), if_pos z0]
    exact Ev.bind (E1.k hH) (Ev.some rfl)
  | @arC nm p at0 acc at_ d hp hh =>
    intro h0 h1 d0 d1 hps h3 h4 h5 h6 h7 hd1
    have hH := held_ (l := l) (T := T) (i := at_ + 1) (d := d - 1) (f0 := 3) (f1 := p) (f2 := 0) (told := at0) (f3 := nm) (f4 := ⟨#[]⟩) (f5 := acc) (by omega)
    rw [if_neg hh] at hH
    refine ⟨d - 1, fun _ => rfl, Ev.sub 1 ?_⟩
    simp only [expr_Cursor_named.l0, peek ok h0, Option.bind_some, if_pos hp, end_ ok h0 (by omega) d0 (by omega), if_pos z0]
    exact Ev.bind (E1.k hH) (Ev.some rfl)
  | @arN nm p at0 acc at_ d hp hne hc =>
    intro h0 h1 d0 d1 hps h3 h4 h5 h6 h7 hd1
    have hl : (acc.length : Int) > 0 := by
      cases acc with
      | nil => exact absurd rfl hne
      | cons x a => rw [List.length_cons]; omega
    refine ⟨d, fun h => absurd h (by decide), Ev.sub 1 ?_⟩
    simp only [expr_Cursor_named.l0, peek ok h0, Option.bind_some, if_neg hp, if_pos hl, take_ (d := d) ok h0 (by omega) (show (⟨#[44]⟩ : ByteArray) ≠ ⟨#[]⟩ by decide), if_neg hc, if_neg ft]
    exact Ev.some rfl
  | @arE nm p at0 acc at_ d k err at1 hp hk _ he ih =>
    intro h0 h1 d0 d1 hps h3 h4 h5 h6 h7 hd1
    rcases hk with ⟨rfl, rfl⟩ | ⟨hne, hc, rfl⟩
    · obtain ⟨dp, hdp, hE⟩ := ih (by omega) (by omega) d0 d1 (by decide) (by decide)
      refine ⟨dp, fun h => absurd h he, Ev.sub 1 ?_⟩
      simp only [expr_Cursor_named.l0, peek ok h0, Option.bind_some, if_neg hp, List.length_nil, if_neg (show ¬ ((0 : Nat) : Int) > 0 by decide)]
      refine Ev.bind (E1.K hE) ?_
      dsimp only [out]
      simp only [eta44, if_true, if_neg he]
      exact Ev.some rfl
    · have hb := F.i _ (ne_of hc (by decide))
      have hl : (acc.length : Int) > 0 := by
        cases acc with
        | nil => exact absurd rfl hne
        | cons x a => rw [List.length_cons]; omega
      obtain ⟨dp, hdp, hE⟩ := ih (by omega) (by omega) d0 d1 (by decide) (by decide)
      refine ⟨dp, fun h => absurd h he, Ev.sub 1 ?_⟩
      simp only [expr_Cursor_named.l0, peek ok h0, Option.bind_some, if_neg hp, if_pos hl, take_ (d := d) ok h0 (by omega) (show (⟨#[44]⟩ : ByteArray) ≠ ⟨#[]⟩ by decide), if_pos hc, if_true]
      refine Ev.bind (E1.K hE) ?_
      dsimp only [out]
      simp only [eta44, if_true, if_neg he]
      exact Ev.some rfl
  | @ar nm p at0 acc at_ d k at1 e1 err at2 e2 hp hk hr _ ih1 ih2 =>
    intro h0 h1 d0 d1 hps h3 h4 h5 h6 h7 hd1
    have hkk : at_ ≤ k ∧ k ≤ (T.length : Int) := by
      rcases hk with ⟨_, rfl⟩ | ⟨_, hq, rfl⟩
      · omega
      · have := F.i _ (ne_of hq (by decide)); omega
    have ro := run_ok F hr (by omega) (by omega) (Int.le_refl 1)
    obtain ⟨s, s1, s2, s3, s4, s5, s6, s7⟩ := ro.1 rfl
    obtain ⟨dp, hdp, hE⟩ := ih1 (by omega) (by omega) d0 d1 (by decide) (by decide)
    have hdd := hdp rfl
    subst hdd
    obtain ⟨dq, hdq, hE2⟩ := ih2 (by omega) (by omega) d0 d1 hps h3 (by omega) (InTs_app h5 (by rw [hps, s4]; exact F.o _ _ h3 (by omega)) (by rw [s4]; exact (F.b s (by omega) (by omega)).2) s6) (by rw [hts_app, ht_eq]; omega) (by rw [szs_app]; omega) hd1
    have hln := sz_len acc
    refine ⟨dq, hdq, Ev.sub 1 ?_⟩
    rcases hk with ⟨rfl, rfl⟩ | ⟨hne, hc, rfl⟩
    · simp only [expr_Cursor_named.l0, peek ok h0, Option.bind_some, if_neg hp, List.length_nil, if_neg (show ¬ ((0 : Nat) : Int) > 0 by decide)]
      refine Ev.bind (E1.K hE) ?_
      dsimp only [out]
      simp only [eta44, if_true, if_pos z0, if_pos (show 0 < 1759218604441 by decide), Option.bind_some]
      exact hE2
    · have hl : (acc.length : Int) > 0 := by
        cases acc with
        | nil => exact absurd rfl hne
        | cons x a => rw [List.length_cons]; omega
      simp only [expr_Cursor_named.l0, peek ok h0, Option.bind_some, if_neg hp, if_pos hl, take_ (d := dp) ok h0 (by omega) (show (⟨#[44]⟩ : ByteArray) ≠ ⟨#[]⟩ by decide), if_pos hc, if_true]
      refine Ev.bind (E1.K hE) ?_
      dsimp only [out]
      simp only [eta44, if_true, if_pos z0, if_pos (show acc.length < 1759218604441 by omega), Option.bind_some]
      exact hE2
end
theorem err_z {V : TV} {m : M} {at_ d err at1 : Int} {e : S44} (h : Run V m at_ d err at1 e) : err ≠ 0 → e = z44 := by
  induction h with
  | bin6 _ ih => exact ih
  | bin _ _ _ _ ih => exact ih
  | lp _ _ _ _ _ ih => exact ih
  | sgP _ _ _ ih => exact ih
  | prG _ _ _ ih => exact ih
  | prD _ _ _ ih => exact ih
  | prM _ _ _ _ _ _ ih => exact ih
  | nd _ _ _ _ _ ih => exact ih
  | ar _ _ _ _ _ ih => exact ih
  | _ => first | exact fun _ => rfl | exact fun h => absurd rfl h
def Tot (V : TV) (n : Int) (m : M) (d : Int) : Prop := ∀ at_, 0 ≤ at_ → at_ ≤ n → ∃ err at1 e, Run V m at_ d err at1 e
section
variable {V : TV} {n len d : Int}
theorem tot_ar (F : VF V n len) (hB : Tot V n (.bin 1) (d + 1)) (nm : ByteArray) (p at0 : Int) : ∀ (z : Nat) (at_ : Int) (acc : List S44), 0 ≤ at_ → at_ ≤ n → n - at_ ≤ z → ∃ err at1 e, Run V (.ar nm p at0 acc) at_ (d + 1) err at1 e := by
  intro z
  induction z with
  | zero =>
    intro at_ acc h0 h1 hz
    by_cases hp : V.pk at_ = ⟨#[41]⟩
    · have := F.i _ (ne_of hp (by decide)); omega
    by_cases ha : acc = []
    · obtain ⟨err, at1, e, hr⟩ := hB at_ h0 h1
      by_cases he : err = 0
      · subst he
        obtain ⟨s, s1, s2, s3, _⟩ := (run_ok F hr h0 h1 (Int.le_refl 1)).1 rfl
        omega
      · have := err_z hr he; subst this
        exact ⟨_, _, _, .arE hp (.inl ⟨ha, rfl⟩) hr he⟩
    · by_cases hc : V.pk at_ = ⟨#[44]⟩
      · have := F.i _ (ne_of hc (by decide)); omega
      · exact ⟨_, _, _, .arN hp ha hc⟩
  | succ z ih =>
    intro at_ acc h0 h1 hz
    by_cases hp : V.pk at_ = ⟨#[41]⟩
    · by_cases hh : hts acc + 1 > 32
      · exact ⟨_, _, _, .arH hp hh⟩
      · exact ⟨_, _, _, .arC hp hh⟩
    have go : ∀ k, at_ ≤ k → k ≤ n → (acc = [] ∧ k = at_ ∨ acc ≠ [] ∧ V.pk at_ = ⟨#[44]⟩ ∧ k = at_ + 1) → ∃ err at1 e, Run V (.ar nm p at0 acc) at_ (d + 1) err at1 e := fun k k0 k1 hk => by
      obtain ⟨err, at1, e, hr⟩ := hB k (by omega) k1
      by_cases he : err = 0
      · subst he
        obtain ⟨s, s1, s2, s3, _⟩ := (run_ok F hr (by omega) k1 (Int.le_refl 1)).1 rfl
        obtain ⟨err2, at2, e2, hr2⟩ := ih at1 (acc ++ [e]) (by omega) s3 (by omega)
        exact ⟨_, _, _, .ar hp hk hr hr2⟩
      · have := err_z hr he; subst this
        exact ⟨_, _, _, .arE hp hk hr he⟩
    by_cases ha : acc = []
    · exact go at_ (Int.le_refl _) h1 (.inl ⟨ha, rfl⟩)
    · by_cases hc : V.pk at_ = ⟨#[44]⟩
      · have := F.i _ (ne_of hc (by decide))
        exact go (at_ + 1) (by omega) (by omega) (.inr ⟨ha, hc, rfl⟩)
      · exact ⟨_, _, _, .arN hp ha hc⟩
theorem tot_gr (F : VF V n len) (hB : ¬ 32 ≤ d → Tot V n (.bin 1) (d + 1)) {at_ : Int} (h0 : 0 ≤ at_) (hp : V.pk at_ = ⟨#[40]⟩) : ∃ err at1 e, Run V .gr at_ d err at1 e := by
  by_cases hd : 32 ≤ d
  · exact ⟨_, _, _, .grD hp hd⟩
  have := F.i _ (ne_of hp (by decide))
  obtain ⟨err, at1, e, hr⟩ := hB hd (at_ + 1) (by omega) (by omega)
  by_cases he : err = 0
  · subst he
    by_cases hq : V.pk at1 = ⟨#[41]⟩
    · exact ⟨_, _, _, .gr hp hd hr hq⟩
    · exact ⟨_, _, _, .grC hp hd hr hq⟩
  · have := err_z hr he; subst this
    exact ⟨_, _, _, .grE hp hd hr he⟩
theorem tot_op (F : VF V n len) (hB : ¬ 32 ≤ d → Tot V n (.bin 1) (d + 1)) {at_ : Int} (h0 : 0 ≤ at_) (hp : V.pk at_ ≠ ⟨#[]⟩) : ∃ err at1 e, Run V .op at_ d err at1 e := by
  by_cases hq : V.pk (at_ + 1) = ⟨#[40]⟩
  · by_cases hd : 32 ≤ d
    · exact ⟨_, _, _, .opD hp hq hd⟩
    have := F.i _ (ne_of hq (by decide))
    obtain ⟨err, at1, e, hr⟩ := hB hd (at_ + 1 + 1) (by omega) (by omega)
    by_cases he : err = 0
    · subst he
      by_cases hx : V.pk at1 = ⟨#[44]⟩
      · by_cases hy : V.pk (at1 + 1) = ⟨#[64]⟩
        · by_cases hz : idS (V.pk (at1 + 1 + 1)) = true
          · by_cases hw : V.pk (at1 + 1 + 1 + 1) = ⟨#[41]⟩
            · by_cases hh : hts [e] + 1 > 32
              · exact ⟨_, _, _, .opH hp hq hd hr hx hy hz hw hh⟩
              · exact ⟨_, _, _, .op hp hq hd hr hx hy hz hw hh⟩
            · exact ⟨_, _, _, .op4 hp hq hd hr hx hy hz hw⟩
          · exact ⟨_, _, _, .op3 hp hq hd hr hx hy hz⟩
        · exact ⟨_, _, _, .op2 hp hq hd hr hx hy⟩
      · exact ⟨_, _, _, .op1 hp hq hd hr hx⟩
    · have := err_z hr he; subst this
      exact ⟨_, _, _, .opE hp hq hd hr he⟩
  · exact ⟨_, _, _, .opB hp hq⟩
theorem tot_nd (F : VF V n len) (hB : ¬ 32 ≤ d → Tot V n (.bin 1) (d + 1)) {at_ : Int} (h0 : 0 ≤ at_) : ∃ err at1 e, Run V .nd at_ d err at1 e := by
  by_cases hi : idS (V.pk at_) = true
  · have rest : ∀ k nm, (V.pk (at_ + 1) = ⟨#[46]⟩ ∧ idS (V.pk (at_ + 1 + 1)) = true ∧ k = at_ + 1 + 1 + 1 ∧ nm = V.pk at_ ++ ((⟨#[46]⟩ : ByteArray) ++ V.pk (at_ + 1 + 1)) ∨ V.pk (at_ + 1) ≠ ⟨#[46]⟩ ∧ k = at_ + 1 ∧ nm = V.pk at_) → ∃ err at1 e, Run V .nd at_ d err at1 e := fun k nm hk => by
      by_cases hp : V.pk k = ⟨#[40]⟩
      · by_cases hd : 32 ≤ d
        · exact ⟨_, _, _, .nd4 hi hk hp hd⟩
        · have hb := F.i _ (ne_of hp (by decide))
          have hn := named_ok F hi hk
          obtain ⟨err, at1, e, hr⟩ := tot_ar F (hB hd) nm (V.ps at_) at_ (n - (k + 1)).toNat (k + 1) [] (by omega) (by omega) (by omega)
          exact ⟨_, _, _, .nd hi hk hp hd hr⟩
      · exact ⟨_, _, _, .nd3 hi hk hp⟩
    by_cases h2 : V.pk (at_ + 1) = ⟨#[46]⟩
    · by_cases h3 : idS (V.pk (at_ + 1 + 1)) = true
      · exact rest _ _ (.inl ⟨h2, h3, rfl, rfl⟩)
      · exact ⟨_, _, _, .nd2 hi h2 h3⟩
    · exact rest _ _ (.inr ⟨h2, rfl, rfl⟩)
  · exact ⟨_, _, _, .nd1 hi⟩
theorem tot_pr (F : VF V n len) (hB : ¬ 32 ≤ d → Tot V n (.bin 1) (d + 1)) : Tot V n .pr d := by
  intro at_ h0 h1
  by_cases hm : V.nm at_ = true
  · cases hv : numV (bytesOf (V.pk at_)) 0 with
    | none => exact ⟨_, _, _, .prO hm hv⟩
    | some v => exact ⟨_, _, _, .prN hm hv⟩
  by_cases h2 : V.pk at_ = ⟨#[116, 114, 117, 101]⟩
  · exact ⟨_, _, _, .prT hm h2⟩
  by_cases h3 : V.pk at_ = ⟨#[102, 97, 108, 115, 101]⟩
  · exact ⟨_, _, _, .prF hm h3⟩
  by_cases h4 : V.pk at_ = ⟨#[40]⟩
  · obtain ⟨err, at1, e, hr⟩ := tot_gr F hB h0 h4
    exact ⟨_, _, _, .prG hm h4 hr⟩
  by_cases h5 : V.pk at_ = ⟨#[100, 101, 99, 108, 97, 115, 115, 105, 102, 121]⟩
  · obtain ⟨err, at1, e, hr⟩ := tot_op F hB h0 (ne_of h5 (by decide))
    exact ⟨_, _, _, .prD hm h5 hr⟩
  obtain ⟨err, at1, e, hr⟩ := tot_nd F hB h0
  exact ⟨_, _, _, .prM hm h2 h3 h4 h5 hr⟩
theorem tot_sg (F : VF V n len) (hB : ¬ 32 ≤ d → Tot V n (.bin 1) (d + 1)) (hS : ¬ 32 ≤ d → Tot V n .sg (d + 1)) : Tot V n .sg d := by
  intro at_ h0 h1
  by_cases hs : V.pk at_ = ⟨#[33]⟩ ∨ V.pk at_ = ⟨#[45]⟩
  · by_cases hd : 32 ≤ d
    · exact ⟨_, _, _, .sgD hs hd⟩
    have := F.i _ (sign_ne hs)
    obtain ⟨err, at1, e, hr⟩ := hS hd (at_ + 1) (by omega) (by omega)
    by_cases he : err = 0
    · subst he
      by_cases hh : hts [e] + 1 > 32
      · exact ⟨_, _, _, .sgH hs hd hr hh⟩
      · exact ⟨_, _, _, .sg hs hd hr hh⟩
    · have := err_z hr he; subst this
      exact ⟨_, _, _, .sgE hs hd hr he⟩
  · obtain ⟨err, at1, e, hr⟩ := tot_pr F hB at_ h0 h1
    exact ⟨_, _, _, .sgP (fun h => hs (.inl h)) (fun h => hs (.inr h)) hr⟩
theorem tot_lp (F : VF V n len) {lv : Int} (l1 : 1 ≤ lv) (hB : Tot V n (.bin (lv + 1)) d) : ∀ (z : Nat) (at_ : Int) (e0 : S44), 0 ≤ at_ → at_ ≤ n → n - at_ ≤ z → ∃ err at1 e, Run V (.lp lv e0) at_ d err at1 e := by
  intro z
  induction z with
  | zero =>
    intro at_ e0 h0 h1 hz
    refine ⟨_, _, _, .lpN (fun hv => ?_)⟩
    have := F.i _ (lv_ne hv l1); omega
  | succ z ih =>
    intro at_ e0 h0 h1 hz
    by_cases hv : lvS (V.pk at_) = lv
    · have := F.i _ (lv_ne hv l1)
      obtain ⟨err, at1, e, hr⟩ := hB (at_ + 1) (by omega) (by omega)
      by_cases he : err = 0
      · subst he
        obtain ⟨s, s1, s2, s3, _⟩ := (run_ok F hr (by omega) (by omega) (by omega)).1 rfl
        by_cases hh : hts [e0, e] + 1 > 32
        · exact ⟨_, _, _, .lpH hv hr hh⟩
        · obtain ⟨err2, at2, e2, hr2⟩ := ih at1 ⟨5, e0.f1, 0, V.pk at_, ⟨#[]⟩, [e0, e]⟩ (by omega) s3 (by omega)
          exact ⟨_, _, _, .lp hv hr hh hr2⟩
      · have := err_z hr he; subst this
        exact ⟨_, _, _, .lpE hv hr he⟩
    · exact ⟨_, _, _, .lpN hv⟩
theorem tot_bin (F : VF V n len) (hS : Tot V n .sg d) : ∀ (z : Nat) (lv : Int), 1 ≤ lv → lv + z = 6 → Tot V n (.bin lv) d := by
  intro z
  induction z with
  | zero =>
    intro lv l1 hz at_ h0 h1
    have : lv = 6 := by omega
    subst this
    obtain ⟨err, at1, e, hr⟩ := hS at_ h0 h1
    exact ⟨_, _, _, .bin6 hr⟩
  | succ z ih =>
    intro lv l1 hz at_ h0 h1
    have hB := ih (lv + 1) (by omega) (by omega)
    obtain ⟨err, at1, e, hr⟩ := hB at_ h0 h1
    by_cases he : err = 0
    · subst he
      have ro := run_ok F hr h0 h1 (by omega)
      obtain ⟨err2, at2, e2, hr2⟩ := tot_lp F l1 hB (n - at1).toNat at1 e (by omega) ro.2.2 (by omega)
      exact ⟨_, _, _, .bin (by omega) hr hr2⟩
    · have := err_z hr he; subst this
      exact ⟨_, _, _, .binE (by omega) hr he⟩
theorem total (F : VF V n len) : ∀ (D : Nat) (d : Int), 0 ≤ d → d + D = 32 → Tot V n .sg d ∧ Tot V n (.bin 1) d := by
  intro D
  induction D with
  | zero =>
    intro d d0 hd
    have h1 := tot_sg F (d := d) (fun h => absurd (by omega) h) (fun h => absurd (by omega) h)
    exact ⟨h1, tot_bin F h1 5 1 (by decide) (by decide)⟩
  | succ D ih =>
    intro d d0 hd
    obtain ⟨a, b⟩ := ih (d + 1) (by omega) (by omega)
    have h1 := tot_sg F (d := d) (fun _ => b) (fun _ => a)
    exact ⟨h1, tot_bin F h1 5 1 (by decide) (by decide)⟩
end
theorem toks_ok : ∀ (d p : Nat) (l : List Int), l.length ≤ d → (∀ t, t ∈ toks p l → (p : Int) ≤ t.f1 ∧ t.f1 < t.f2 ∧ t.f2 ≤ (p : Int) + l.length) ∧ (toks p l).Pairwise (fun a b => a.f1 < b.f1) := by
  intro d
  induction d with
  | zero =>
    intro p l h
    have : l = [] := List.eq_nil_of_length_eq_zero (by omega)
    subst this
    rw [toks_nil]
    exact ⟨fun t ht => absurd ht (by simp), List.Pairwise.nil⟩
  | succ d ih =>
    intro p l h
    by_cases h0 : 0 < l.length
    · have hf := firstS_len' l h0
      rw [toks_cons p l h0]
      obtain ⟨a, b⟩ := ih (p + (firstS l).2) (l.drop (firstS l).2) (by rw [List.length_drop]; omega)
      rw [List.length_drop] at a
      refine ⟨fun t ht => ?_, List.pairwise_cons.2 ⟨fun t ht => ?_, b⟩⟩
      · rcases List.mem_cons.1 ht with rfl | ht
        · dsimp only; omega
        · have := a t ht; omega
      · have := a t ht; dsimp only; omega
    · have : l = [] := List.eq_nil_of_length_eq_zero (by omega)
      subst this
      rw [toks_nil]
      exact ⟨fun t ht => absurd ht (by simp), List.Pairwise.nil⟩
theorem live_ok {l : List Int} (hl : l.length ≤ 100000) : TokOK l (liveS (toks 0 l)) := by
  obtain ⟨a, b⟩ := toks_ok l.length 0 l (Nat.le_refl _)
  have hn : (liveS (toks 0 l)).length ≤ (toks 0 l).length := List.length_filter_le _ _
  have hn2 := toks_length l.length 0 l (Nat.le_refl _)
  have hp : (liveS (toks 0 l)).Pairwise (fun a b => a.f1 < b.f1) := List.Pairwise.filter _ b
  have at_ : ∀ (i : Nat) (h : i < (liveS (toks 0 l)).length), rd_T28 (liveS (toks 0 l)) (i : Int) = (liveS (toks 0 l))[i] := fun i h => by
    unfold rd_T28
    rw [List.getD_eq_getElem?_getD, Int.toNat_natCast, List.getElem?_eq_getElem h]; rfl
  refine ⟨fun i h0 h1 => ?_, fun i j h0 hij h1 => ?_, by omega, hl⟩
  · have e := at_ i.toNat (by omega)
    rw [show ((i.toNat : Nat) : Int) = i by omega] at e
    rw [e]
    have := a _ (List.mem_filter.1 (List.getElem_mem (show i.toNat < (liveS (toks 0 l)).length by omega))).1
    omega
  · have e := at_ i.toNat (by omega)
    have e' := at_ j.toNat (by omega)
    rw [show ((i.toNat : Nat) : Int) = i by omega] at e
    rw [show ((j.toNat : Nat) : Int) = j by omega] at e'
    rw [e, e']
    exact List.pairwise_iff_getElem.1 hp i.toNat j.toNat (by omega) (by omega) (by omega)
theorem parse_bad {l : List Int} (hb : Bytes l) (hl : l.length ≤ 100000) {t : S28} (h : badS (toks 0 l) = some t) : E1 (fun k => expr_Parse.f k l) (0, 0, 0, ⟨#[]⟩, ⟨#[]⟩, [], t.f1, 10) := by
  have hn2 := toks_length l.length 0 l (Nat.le_refl _)
  have hA : E1 (fun k => lex_All.f k l) (toks 0 l) := ⟨3 * l.length + 21, fun k hk => all_tells k l hb (by omega) (by omega)⟩
  have hB : E1 (fun k => lex_Bad.f k (toks 0 l)) (t.f0, t.f1, t.f2, true) := ⟨(toks 0 l).length + 1, fun k hk => by dsimp only; rw [bad_tells k _ (by omega) (by omega), h]⟩
  refine Ev.diag (F := fun _ k => expr_Parse.f k l) ?_
  simp only [expr_Parse.f]
  refine Ev.bind (E1.k hA) (Ev.bind (E1.k hB) ?_)
  simp only [if_true]
  exact Ev.some rfl
theorem parse_run {l : List Int} (hb : Bytes l) (hl : l.length ≤ 100000) (h : badS (toks 0 l) = none) {err at1 : Int} {e : S44} (hr : Run (tv l (liveS (toks 0 l))) (.bin 1) 0 0 err at1 e) : E1 (fun k => expr_Parse.f k l) (if err = 0 ∧ ((liveS (toks 0 l)).length : Int) ≤ at1 then (e.f0, e.f1, e.f2, e.f3, e.f4, e.f5, (l.length : Int), 0) else (0, 0, 0, ⟨#[]⟩, ⟨#[]⟩, [], (tv l (liveS (toks 0 l))).ps at1, if err = 0 then 11 else err)) := by
  have hn2 := toks_length l.length 0 l (Nat.le_refl _)
  have ok := live_ok hl
  have hA : E1 (fun k => lex_All.f k l) (toks 0 l) := ⟨3 * l.length + 21, fun k hk => all_tells k l hb (by omega) (by omega)⟩
  have hB : E1 (fun k => lex_Bad.f k (toks 0 l)) (0, 0, 0, false) := ⟨(toks 0 l).length + 1, fun k hk => by dsimp only; rw [bad_tells k _ (by omega) (by omega), h]⟩
  have hL : E1 (fun k => lex_Live.f k (toks 0 l)) (liveS (toks 0 l)) := ⟨(toks 0 l).length + 1, fun k hk => live_tells k _ (by omega) (by omega)⟩
  have ro := run_ok (tv_ok ok) hr (Int.le_refl 0) (by omega) (Int.le_refl 1)
  obtain ⟨dp, _, hE⟩ := sound ok hr (Int.le_refl 0) (by omega) (Int.le_refl 0) (by decide) (Int.le_refl 1) (by decide)
  have hP : E1 (fun k => expr_Cursor_Expr.f k l (liveS (toks 0 l)) 0 0) (e.f0, e.f1, e.f2, e.f3, e.f4, e.f5, err, at1) := by
    refine Ev.diag (F := fun _ k => expr_Cursor_Expr.f k l (liveS (toks 0 l)) 0 0) ?_
    simp only [expr_Cursor_Expr.f]
    refine Ev.bind (E1.k hE) ?_
    exact Ev.some rfl
  have hN : E1 (fun k => expr_New.f k l) (l, liveS (toks 0 l), 0, 0) := by
    refine Ev.diag (F := fun _ k => expr_New.f k l) ?_
    simp only [expr_New.f, slices_Clone_byte_byte.f, if_pos (show l.length < 140737488355328 by omega), Option.bind_some]
    exact Ev.bind (E1.k hA) (Ev.bind (E1.k hL) (Ev.some rfl))
  generalize liveS (toks 0 l) = T at hr ok ro hP hN hL ⊢
  refine Ev.diag (F := fun _ k => expr_Parse.f k l) ?_
  simp only [expr_Parse.f]
  refine Ev.bind (E1.k hA) (Ev.bind (E1.k hB) ?_)
  simp only [if_neg (show ¬ false = true by decide)]
  refine Ev.bind (E1.k hN) (Ev.bind (E1.k hP) ?_)
  dsimp only
  by_cases he : err = 0
  · simp only [if_pos he, expr_Cursor_Done.f, onOpt, Option.bind_some]
    by_cases hd : (T.length : Int) ≤ at1
    · rw [if_pos ⟨he, hd⟩]
      simp only [decide_eq_true (show at1 ≥ (T.length : Int) from hd), show (!true) = false from rfl]
      refine Ev.sub 2 ?_
      simp only [expr_Parse.j1, if_neg (show ¬ false = true by decide), expr_Parse.j0, if_pos he]
      exact Ev.some rfl
    · rw [if_neg (fun h => hd h.2)]
      simp only [decide_eq_false (show ¬ at1 ≥ (T.length : Int) from hd), show (!false) = true from rfl]
      refine Ev.sub 2 ?_
      simp only [expr_Parse.j1, if_true, expr_Parse.j0, if_neg (show ¬ (11 : Int) = 0 by decide), pos ok (show 0 ≤ at1 by omega), Option.bind_some]
      exact Ev.some rfl
  · simp only [if_neg he]
    rw [if_neg (fun h => he h.1)]
    refine Ev.sub 2 ?_
    simp only [expr_Parse.j1, if_neg (show ¬ false = true by decide), expr_Parse.j0, if_neg he, pos ok (show 0 ≤ at1 by omega), Option.bind_some]
    exact Ev.some rfl
theorem parse_any {l : List Int} (hl : l.length ≤ 100000) : ∃ err at1 e, Run (tv l (liveS (toks 0 l))) (.bin 1) 0 0 err at1 e := (total (tv_ok (live_ok hl)) 32 0 (Int.le_refl 0) (by decide)).2 0 (Int.le_refl 0) (by omega)
def shift (m : Nat) (t : S28) : S28 := ⟨t.f0, t.f1 + m, t.f2 + m⟩
theorem toks_shift (m : Nat) (d : Nat) : ∀ (p : Nat) (l : List Int), l.length ≤ d → toks (p + m) l = (toks p l).map (shift m) := by
  induction d with
  | zero => intro p l h; rw [List.length_eq_zero_iff.1 (by omega : l.length = 0), toks_nil, toks_nil]; rfl
  | succ d ih =>
    intro p l h
    by_cases h0 : 0 < l.length
    · have hf := firstS_len' l h0
      rw [toks_cons _ l h0, toks_cons p l h0, show p + m + (firstS l).2 = p + (firstS l).2 + m by omega, ih (p + (firstS l).2) _ (by rw [List.length_drop]; omega)]
      simp only [List.map_cons, shift]
      congr 2 <;> omega
    · rw [List.length_eq_zero_iff.1 (by omega : l.length = 0), toks_nil, toks_nil]; rfl
theorem liveS_shift (m : Nat) (l : List S28) : liveS (l.map (shift m)) = (liveS l).map (shift m) := by
  induction l with
  | nil => rfl
  | cons t r ih =>
    simp only [List.map_cons]
    unfold liveS at *
    rw [List.filter_cons, List.filter_cons]
    by_cases h : (t.f0 != 0 && t.f0 != 1) = true
    · rw [if_pos h, if_pos (by simpa [shift] using h), ih]; rfl
    · rw [if_neg h, if_neg (by simpa [shift] using h), ih]
mutual
def shE (m : Int) : S44 → S44
  | ⟨a, p, n, s, t, l⟩ => ⟨a, p + m, n, s, t, shEs m l⟩
def shEs (m : Int) : List S44 → List S44
  | [] => []
  | x :: l => shE m x :: shEs m l
end
theorem shE_eq (m : Int) (e : S44) : shE m e = ⟨e.f0, e.f1 + m, e.f2, e.f3, e.f4, shEs m e.f5⟩ := by cases e; rw [shE]
theorem shEs_map (m : Int) (l : List S44) : shEs m l = l.map (shE m) := by
  induction l with
  | nil => rw [shEs]; rfl
  | cons x l ih => rw [shEs, ih]; rfl
theorem sh_all (m : Int) : ∀ (n : Nat), (∀ e, sz e ≤ n → ht (shE m e) = ht e ∧ sz (shE m e) = sz e) ∧ ∀ l, szs l ≤ n → hts (shEs m l) = hts l ∧ szs (shEs m l) = szs l := by
  intro n
  induction n with
  | zero =>
    refine ⟨fun e h => by rw [sz_eq] at h; omega, fun l h => ?_⟩
    cases l with
    | nil => rw [shEs]; exact ⟨rfl, rfl⟩
    | cons x l => rw [szs, sz_eq] at h; omega
  | succ n ih =>
    have h1 : ∀ e, sz e ≤ n + 1 → ht (shE m e) = ht e ∧ sz (shE m e) = sz e := fun e h => by
      rw [sz_eq] at h
      obtain ⟨a, b⟩ := ih.2 e.f5 (by omega)
      rw [shE_eq, ht_eq, sz_eq, ht_eq e, sz_eq e]
      dsimp only
      omega
    refine ⟨h1, fun l => ?_⟩
    induction l with
    | nil => intro _; rw [shEs]; exact ⟨rfl, rfl⟩
    | cons x l ihl =>
      intro h
      rw [szs] at h
      obtain ⟨a, b⟩ := h1 x (by omega)
      obtain ⟨c, d⟩ := ihl (by omega)
      rw [shEs, hts, szs, hts, szs]
      omega
theorem hts_sh (m : Int) (l : List S44) : hts (shEs m l) = hts l := ((sh_all m (szs l)).2 l (Nat.le_refl _)).1
theorem sz_sh (m : Int) (e : S44) : sz (shE m e) = sz e := ((sh_all m (sz e)).1 e (Nat.le_refl _)).2
theorem shEs_app (m : Int) (l : List S44) (x : S44) : shEs m (l ++ [x]) = shEs m l ++ [shE m x] := by rw [shEs_map, shEs_map, List.map_append]; rfl
mutual
def Bd (b : Int) : S44 → Prop
  | ⟨_, p, _, _, _, l⟩ => (0 ≤ p ∧ p ≤ b) ∧ Bds b l
def Bds (b : Int) : List S44 → Prop
  | [] => True
  | x :: l => Bd b x ∧ Bds b l
end
theorem Bd_eq (b : Int) (e : S44) : Bd b e = ((0 ≤ e.f1 ∧ e.f1 ≤ b) ∧ Bds b e.f5) := by cases e; rw [Bd]
theorem bd_of {len : Int} : ∀ (n : Nat), (∀ e, sz e ≤ n → InT len e → 0 ≤ e.f1 → e.f1 < len → Bd len e) ∧ ∀ l p, szs l ≤ n → 0 ≤ p → InTs len p l → Bds len l := by
  intro n
  induction n with
  | zero =>
    refine ⟨fun e h => by rw [sz_eq] at h; omega, fun l p h _ _ => ?_⟩
    cases l with
    | nil => rw [Bds]; trivial
    | cons x l => rw [szs, sz_eq] at h; omega
  | succ n ih =>
    have h1 : ∀ e, sz e ≤ n + 1 → InT len e → 0 ≤ e.f1 → e.f1 < len → Bd len e := fun e h hi h0 hl => by
      rw [sz_eq] at h
      rw [InT_eq] at hi
      rw [Bd_eq]
      exact ⟨⟨h0, by omega⟩, ih.2 e.f5 e.f1 (by omega) h0 hi⟩
    refine ⟨h1, fun l p => ?_⟩
    induction l with
    | nil => intro _ _ _; rw [Bds]; trivial
    | cons x l ihl =>
      intro h h0 hi
      rw [szs] at h
      rw [InTs] at hi
      rw [Bds]
      exact ⟨h1 x (by omega) hi.2.1 (by omega) hi.1.2, ihl (by omega) h0 hi.2.2⟩
theorem bds_at {b : Int} : ∀ {l : List S44}, Bds b l → ∀ x, x ∈ l → Bd b x := by
  intro l
  induction l with
  | nil => intro _ x hx; exact absurd hx (by simp)
  | cons y l ih =>
    intro h x hx
    rw [Bds] at h
    rcases List.mem_cons.1 hx with rfl | hx
    · exact h.1
    · exact ih h.2 x hx
theorem rd44_mem {l : List S44} {i : Nat} (h : i < l.length) : rd_T44 l (i : Int) ∈ l := by
  have e : rd_T44 l (i : Int) = l[i] := by simp [rd_T44, List.getD_eq_getElem?_getD, h]
  rw [e]; exact List.getElem_mem h
def tup (e : S44) : Int × Int × Int × ByteArray × ByteArray × List S44 := (e.f0, e.f1, e.f2, e.f3, e.f4, e.f5)
theorem later_all : ∀ (n : Nat) (e : S44) (b : Int), sz e ≤ n → sz e ≤ 1000000 → b ≤ 1000000000 → Bd b e → E1 (fun k => blazonlaw08_later.f k e.f0 e.f1 e.f2 e.f3 e.f4 e.f5) (tup (shE 1 e)) := by
  intro n
  induction n with
  | zero => intro e b h; rw [sz_eq] at h; omega
  | succ n ih =>
    intro e b h hn hb hB
    rw [sz_eq] at h hn
    rw [Bd_eq] at hB
    have hlen := sz_len e.f5
    have loop : ∀ (d i : Nat), i + d = e.f5.length → Ev (fun K k => blazonlaw08_later.l0 (Rec_blazonlaw08_later.at K) k e.f0 e.f1 e.f2 e.f3 e.f4 e.f5 (shEs 1 (e.f5.take i)) (i : Int)) (tup (shE 1 e)) := by
      intro d
      induction d with
      | zero =>
        intro i hid
        refine Ev.sub 1 ?_
        simp only [blazonlaw08_later.l0, if_neg (show ¬ (i : Int) < (e.f5.length : Int) by omega), wrap64_id (x := e.f1 + 1) (by omega) (by omega)]
        rw [List.take_of_length_le (by omega)]
        exact Ev.some (by rw [shE_eq]; rfl)
      | succ d ihd =>
        intro i hid
        have hil : i < e.f5.length := by omega
        have hs := szs_at hil
        have this := ihd (i + 1) (by omega)
        have tk : shEs 1 (e.f5.take (i + 1)) = shEs 1 (e.f5.take i) ++ [shE 1 (rd_T44 e.f5 (i : Int))] := by
          rw [List.take_succ_eq_append_getElem hil, shEs_app]
          have e' : rd_T44 e.f5 (i : Int) = e.f5[i] := by simp [rd_T44, List.getD_eq_getElem?_getD, hil]
          rw [e']
        rw [show ((i + 1 : Nat) : Int) = (i : Int) + 1 by omega, tk] at this
        have hl1 : (shEs 1 (e.f5.take i)).length ≤ e.f5.length := by rw [shEs_map, List.length_map, List.length_take]; omega
        refine Ev.sub 1 ?_
        simp only [blazonlaw08_later.l0, if_pos (show (i : Int) < (e.f5.length : Int) by omega), if_pos (show 0 ≤ (i : Int) by omega), wrap64_id (x := (i : Int) + 1) (by omega) (by omega)]
        refine Ev.bind (E1.K (ih (rd_T44 e.f5 (i : Int)) b (by omega) (by omega) hb (bds_at hB.2 _ (rd44_mem hil)))) ?_
        dsimp only [tup]
        simp only [eta44, if_pos (show (shEs 1 (e.f5.take i)).length < 1759218604441 by omega), Option.bind_some]
        exact this
    refine E1.succ (G := fun K k => blazonlaw08_later.g (Rec_blazonlaw08_later.at K) k e.f0 e.f1 e.f2 e.f3 e.f4 e.f5) ?_ (fun _ => rfl)
    simp only [blazonlaw08_later.g]
    have := loop e.f5.length 0 (by omega)
    rw [List.take_zero, shEs] at this
    exact this
theorem same_all : ∀ (n : Nat) (e : S44), sz e ≤ n → sz e ≤ 1000000 → E1 (fun k => blazonref08_Same.f k e.f0 e.f1 e.f2 e.f3 e.f4 e.f5 e.f0 e.f1 e.f2 e.f3 e.f4 e.f5) true := by
  intro n
  induction n with
  | zero => intro e h; rw [sz_eq] at h; omega
  | succ n ih =>
    intro e h hn
    rw [sz_eq] at h hn
    have hlen := sz_len e.f5
    have loop : ∀ (d i : Nat), i + d = e.f5.length → Ev (fun K k => blazonref08_SameAll.l0 (Rec_blazonref08_Same.at K) k e.f5 e.f5 (i : Int)) true := by
      intro d
      induction d with
      | zero =>
        intro i hid
        refine Ev.sub 1 ?_
        simp only [blazonref08_SameAll.l0, if_neg (show ¬ (i : Int) < (e.f5.length : Int) by omega)]
        exact Ev.some rfl
      | succ d ihd =>
        intro i hid
        have hil : i < e.f5.length := by omega
        have hs := szs_at hil
        have this := ihd (i + 1) (by omega)
        rw [show ((i + 1 : Nat) : Int) = (i : Int) + 1 by omega] at this
        refine Ev.sub 1 ?_
        simp only [blazonref08_SameAll.l0, if_pos (show (i : Int) < (e.f5.length : Int) by omega), if_pos (show 0 ≤ (i : Int) by omega), wrap64_id (x := (i : Int) + 1) (by omega) (by omega)]
        refine Ev.bind (E1.K (ih (rd_T44 e.f5 (i : Int)) (by omega) (by omega))) ?_
        simp only [if_true]
        exact this
    have hA : E1 (fun k => blazonref08_SameAll.f k e.f5 e.f5) true := by
      refine E1.succ (G := fun K k => blazonref08_SameAll.g (Rec_blazonref08_Same.at K) k e.f5 e.f5) ?_ (fun _ => rfl)
      simp only [blazonref08_SameAll.g, if_true]
      exact loop e.f5.length 0 (by omega)
    refine E1.succ (G := fun K k => blazonref08_Same.g (Rec_blazonref08_Same.at K) k e.f0 e.f1 e.f2 e.f3 e.f4 e.f5 e.f0 e.f1 e.f2 e.f3 e.f4 e.f5) ?_ (fun _ => rfl)
    simp only [blazonref08_Same.g, if_true, decide_true, show (!true) = false from rfl]
    refine Ev.sub 1 ?_
    simp only [blazonref08_Same.j0, if_neg (show ¬ false = true by decide)]
    exact Ev.bind (E1.K hA) (Ev.some rfl)
theorem awake_tells (k : Nat) : blazonlaw08_awake.f (k + 100) = some true := by kernel_rfl
theorem awake_end : E1 (fun k => (blazonlaw08_awake.f k).bind fun t => some t) true := ⟨100, fun k hk => by
  obtain ⟨k, rfl⟩ : ∃ n, k = n + 100 := ⟨k - 100, by omega⟩
  dsimp only
  rw [awake_tells]; rfl⟩
theorem hts1 (m : Int) (e : S44) : hts [shE m e] = hts [e] := by
  have := hts_sh m [e]
  rw [shEs, shEs] at this; exact this
theorem hts2 (m : Int) (e e1 : S44) : hts [shE m e, shE m e1] = hts [e, e1] := by
  have := hts_sh m [e, e1]
  rw [shEs, shEs, shEs] at this; exact this
def shB : M → M
  | .bin lv => .bin lv
  | .lp lv e => .lp lv (shE 1 e)
  | .sg => .sg
  | .pr => .pr
  | .gr => .gr
  | .op => .op
  | .nd => .nd
  | .ar nm p at0 acc => .ar nm (p + 1) (at0 + 1) (shEs 1 acc)
structure Br (V V' : TV) (n : Int) : Prop where
  pk : ∀ i, 0 ≤ i → i < n → V'.pk (i + 1) = V.pk i
  nm : ∀ i, 0 ≤ i → i < n → V'.nm (i + 1) = V.nm i
  ps : ∀ i, 0 ≤ i → i < n → V'.ps (i + 1) = V.ps i + 1
  ce : V'.pk (n + 1) = ⟨#[41]⟩
  en : V.pk n = ⟨#[]⟩
theorem Br.neg {V V' : TV} {n i : Int} (B : Br V V' n) {s : ByteArray} (hs : s ≠ ⟨#[41]⟩) (h : V.pk i ≠ s) (h0 : 0 ≤ i) (h1 : i ≤ n) : V'.pk (i + 1) ≠ s := by
  by_cases hi : i < n
  · rw [B.pk i h0 hi]; exact h
  · have : i = n := by omega
    subst this
    rw [B.ce]; exact fun e => hs e.symm
theorem Br.lv {V V' : TV} {n i : Int} (B : Br V V' n) (h0 : 0 ≤ i) (h1 : i ≤ n) : lvS (V'.pk (i + 1)) = lvS (V.pk i) := by
  by_cases hi : i < n
  · rw [B.pk i h0 hi]
  · have : i = n := by omega
    subst this
    rw [B.ce, B.en]; decide
def LvOK : M → Prop
  | .bin lv => 1 ≤ lv
  | .lp lv _ => 1 ≤ lv
  | _ => True
theorem br_nd {V V' : TV} {n len at_ k : Int} {nm : ByteArray} (F : VF V n len) (B : Br V V' n) (h0 : 0 ≤ at_) (h1 : at_ < n) (hk : V.pk (at_ + 1) = ⟨#[46]⟩ ∧ idS (V.pk (at_ + 1 + 1)) = true ∧ k = at_ + 1 + 1 + 1 ∧ nm = V.pk at_ ++ ((⟨#[46]⟩ : ByteArray) ++ V.pk (at_ + 1 + 1)) ∨ V.pk (at_ + 1) ≠ ⟨#[46]⟩ ∧ k = at_ + 1 ∧ nm = V.pk at_) : V'.pk (at_ + 1 + 1) = ⟨#[46]⟩ ∧ idS (V'.pk (at_ + 1 + 1 + 1)) = true ∧ k + 1 = at_ + 1 + 1 + 1 + 1 ∧ nm = V'.pk (at_ + 1) ++ ((⟨#[46]⟩ : ByteArray) ++ V'.pk (at_ + 1 + 1 + 1)) ∨ V'.pk (at_ + 1 + 1) ≠ ⟨#[46]⟩ ∧ k + 1 = at_ + 1 + 1 ∧ nm = V'.pk (at_ + 1) := by
  rw [B.pk at_ h0 h1]
  rcases hk with ⟨a, b, c, d⟩ | ⟨a, b, c⟩
  · have i1 := F.i _ (ne_of a (by decide))
    have i2 := F.i _ (ident_ne b).1
    rw [B.pk (at_ + 1) (by omega) i1, B.pk (at_ + 1 + 1) (by omega) i2]
    exact .inl ⟨a, b, by omega, d⟩
  · exact .inr ⟨B.neg (by decide) a (by omega) (by omega), by omega, c⟩
theorem br_run {V V' : TV} {n len : Int} (F : VF V n len) (B : Br V V' n) {mm : M} {at_ d err at1 : Int} {e : S44} (h : Run V mm at_ d err at1 e) : err = 0 → 0 ≤ at_ → at_ ≤ n → LvOK mm → Run V' (shB mm) (at_ + 1) (d + 1) 0 (at1 + 1) (shE 1 e) ∨ ∃ at', Run V' (shB mm) (at_ + 1) (d + 1) 12 at' z44 := by
  have t12 : (12 : Int) ≠ 0 := by decide
  induction h with
  | bin6 _ ih =>
    intro he h0 h1 _
    exact (ih he h0 h1 trivial).imp (fun h => .bin6 h) (fun ⟨q, h⟩ => ⟨q, .bin6 h⟩)
  | bin hl hr _ ih1 ih2 =>
    intro he h0 h1 hv
    have ro := run_ok F hr h0 h1 (Int.le_trans hv (by omega))
    rcases ih1 rfl h0 h1 (Int.le_trans hv (by omega)) with a | ⟨q, a⟩
    · rcases ih2 he (by omega) ro.2.2 hv with b | ⟨q, b⟩
      · exact .inl (.bin hl a b)
      · exact .inr ⟨q, .bin hl a b⟩
    · exact .inr ⟨q, .binE hl a t12⟩
  | lpN hv => intro he h0 h1 _; exact .inl (.lpN (by rw [B.lv h0 h1]; exact hv))
  | @lp lv e at_ d at1 e1 err at2 e2 hv hr hh _ ih1 ih2 =>
    intro he h0 h1 hl
    have hi := F.i _ (lv_ne hv hl)
    have hv' : lvS (V'.pk (at_ + 1)) = lv := by rw [B.lv h0 h1]; exact hv
    have hl' : 1 ≤ lv := hl
    have ro := run_ok F hr (by omega) (by omega) (show 1 ≤ lv + 1 by omega)
    have conv : ∀ {q r : Int} {x : S44}, Run V' (shB (.lp lv ⟨5, e.f1, 0, V.pk at_, ⟨#[]⟩, [e, e1]⟩)) (at1 + 1) (d + 1) q r x → Run V' (.lp lv ⟨5, (shE 1 e).f1, 0, V'.pk (at_ + 1), ⟨#[]⟩, [shE 1 e, shE 1 e1]⟩) (at1 + 1) (d + 1) q r x := fun h => by
      rw [B.pk at_ h0 hi, show (shE 1 e).f1 = e.f1 + 1 by rw [shE_eq]]
      rw [shB, shE_eq 1 ⟨5, _, _, _, _, _⟩, shEs, shEs, shEs] at h
      exact h
    rcases ih1 rfl (by omega) (by omega) (show 1 ≤ lv + 1 by omega) with a | ⟨q, a⟩
    · rcases ih2 he (by omega) ro.2.2 hl with b | ⟨q, b⟩
      · exact .inl (.lp hv' a (by rw [hts2]; exact hh) (conv b))
      · exact .inr ⟨q, .lp hv' a (by rw [hts2]; exact hh) (conv b)⟩
    · exact .inr ⟨q, .lpE hv' a t12⟩
  | @sgP at_ d err at1 e h2 h3 hr ih =>
    intro he h0 h1 _
    subst he
    obtain ⟨a, _, _⟩ := run_ok F hr h0 h1
    obtain ⟨s, s1, s2, s3, _⟩ := a rfl
    have e' := B.pk at_ h0 (by omega)
    exact (ih rfl h0 h1 trivial).imp (fun h => .sgP (by rw [e']; exact h2) (by rw [e']; exact h3) h) (fun ⟨q, h⟩ => ⟨q, .sgP (by rw [e']; exact h2) (by rw [e']; exact h3) h⟩)
  | @sg at_ d at1 e1 h2 hd _ hh ih =>
    intro he h0 h1 _
    have hi := F.i _ (sign_ne h2)
    have e' := B.pk at_ h0 hi
    have h2' : V'.pk (at_ + 1) = ⟨#[33]⟩ ∨ V'.pk (at_ + 1) = ⟨#[45]⟩ := by rw [e']; exact h2
    by_cases hdd : 32 ≤ d + 1
    · exact .inr ⟨_, .sgD h2' hdd⟩
    rcases ih rfl (by omega) (by omega) trivial with a | ⟨q, a⟩
    · have := Run.sg h2' hdd a (by rw [hts1]; exact hh)
      rw [B.ps at_ h0 hi, e'] at this
      rw [shE_eq, shEs, shEs]
      exact .inl this
    · exact .inr ⟨q, .sgE h2' hdd a t12⟩
  | @prN at_ d v hm hv =>
    intro he h0 h1 _
    have hi := F.m _ hm
    have := Run.prN (V := V') (at_ := at_ + 1) (d := d + 1) (v := v) (by rw [B.nm at_ h0 hi]; exact hm) (by rw [B.pk at_ h0 hi]; exact hv)
    rw [B.ps at_ h0 hi] at this
    rw [shE_eq, shEs]; exact .inl this
  | @prT at_ d hm hp =>
    intro he h0 h1 _
    have hi := F.i _ (ne_of hp (by decide))
    have := Run.prT (V := V') (at_ := at_ + 1) (d := d + 1) (by rw [B.nm at_ h0 hi]; exact hm) (by rw [B.pk at_ h0 hi]; exact hp)
    rw [B.ps at_ h0 hi] at this
    rw [shE_eq, shEs]; exact .inl this
  | @prF at_ d hm hp =>
    intro he h0 h1 _
    have hi := F.i _ (ne_of hp (by decide))
    have := Run.prF (V := V') (at_ := at_ + 1) (d := d + 1) (by rw [B.nm at_ h0 hi]; exact hm) (by rw [B.pk at_ h0 hi]; exact hp)
    rw [B.ps at_ h0 hi] at this
    rw [shE_eq, shEs]; exact .inl this
  | @prG at_ d err at1 e hm hp _ ih =>
    intro he h0 h1 _
    have hi := F.i _ (ne_of hp (by decide))
    have hm' : ¬ V'.nm (at_ + 1) = true := by rw [B.nm at_ h0 hi]; exact hm
    have hp' : V'.pk (at_ + 1) = ⟨#[40]⟩ := by rw [B.pk at_ h0 hi]; exact hp
    exact (ih he h0 h1 trivial).imp (fun h => .prG hm' hp' h) (fun ⟨q, h⟩ => ⟨q, .prG hm' hp' h⟩)
  | @prD at_ d err at1 e hm hp _ ih =>
    intro he h0 h1 _
    have hi := F.i _ (ne_of hp (by decide))
    have hm' : ¬ V'.nm (at_ + 1) = true := by rw [B.nm at_ h0 hi]; exact hm
    have hp' : V'.pk (at_ + 1) = ⟨#[100, 101, 99, 108, 97, 115, 115, 105, 102, 121]⟩ := by rw [B.pk at_ h0 hi]; exact hp
    exact (ih he h0 h1 trivial).imp (fun h => .prD hm' hp' h) (fun ⟨q, h⟩ => ⟨q, .prD hm' hp' h⟩)
  | @prM at_ d err at1 e hm h2 h3 h4 h5 hr ih =>
    intro he h0 h1 _
    subst he
    obtain ⟨a, _, _⟩ := run_ok F hr h0 h1
    obtain ⟨s, s1, s2, s3, _⟩ := a rfl
    have hi : at_ < n := by omega
    have hm' : ¬ V'.nm (at_ + 1) = true := by rw [B.nm at_ h0 hi]; exact hm
    have e' := B.pk at_ h0 hi
    rw [← e'] at h2 h3 h4 h5
    exact (ih rfl h0 h1 trivial).imp (fun h => .prM hm' h2 h3 h4 h5 h) (fun ⟨q, h⟩ => ⟨q, .prM hm' h2 h3 h4 h5 h⟩)
  | @gr at_ d at1 e1 hp hd hr hq ih =>
    intro he h0 h1 _
    have hi := F.i _ (ne_of hp (by decide))
    have hj := F.i _ (ne_of hq (by decide))
    have ro := run_ok F hr (by omega) (by omega) (Int.le_refl 1)
    have hp' : V'.pk (at_ + 1) = ⟨#[40]⟩ := by rw [B.pk at_ h0 hi]; exact hp
    by_cases hdd : 32 ≤ d + 1
    · exact .inr ⟨_, .grD hp' hdd⟩
    rcases ih rfl (by omega) (by omega) (Int.le_refl 1) with a | ⟨q, a⟩
    · exact .inl (.gr hp' hdd a (by rw [B.pk at1 (by omega) hj]; exact hq))
    · exact .inr ⟨q, .grE hp' hdd a t12⟩
  | @op at_ d at1 e1 hp hq hd hr hx hy hz hw hh ih =>
    intro he h0 h1 _
    have hi := F.i _ hp
    have hj := F.i _ (ne_of hq (by decide))
    have i1 := F.i _ (ne_of hx (by decide))
    have i2 := F.i _ (ne_of hy (by decide))
    have i3 := F.i _ (ident_ne hz).1
    have i4 := F.i _ (ne_of hw (by decide))
    have ro := run_ok F hr (by omega) (by omega) (Int.le_refl 1)
    have hp' : V'.pk (at_ + 1) ≠ ⟨#[]⟩ := by rw [B.pk at_ h0 hi]; exact hp
    have hq' : V'.pk (at_ + 1 + 1) = ⟨#[40]⟩ := by rw [B.pk (at_ + 1) (by omega) hj]; exact hq
    by_cases hdd : 32 ≤ d + 1
    · exact .inr ⟨_, .opD hp' hq' hdd⟩
    rcases ih rfl (by omega) (by omega) (Int.le_refl 1) with a | ⟨q, a⟩
    · have := Run.op hp' hq' hdd a (by rw [B.pk at1 (by omega) i1]; exact hx) (by rw [B.pk (at1 + 1) (by omega) i2]; exact hy) (by rw [B.pk (at1 + 1 + 1) (by omega) i3]; exact hz) (by rw [B.pk (at1 + 1 + 1 + 1) (by omega) i4]; exact hw) (by rw [hts1]; exact hh)
      rw [B.ps at_ h0 hi, B.pk (at1 + 1 + 1) (by omega) i3] at this
      rw [shE_eq, shEs, shEs]
      exact .inl this
    · exact .inr ⟨q, .opE hp' hq' hdd a t12⟩
  | @nd3 at_ d k nm hi hk hp =>
    intro he h0 h1 _
    have h2 := F.i _ (ident_ne hi).1
    have hkk := named_ok F hi hk
    have := Run.nd3 (V := V') (at_ := at_ + 1) (d := d + 1) (by rw [B.pk at_ h0 h2]; exact hi) (br_nd F B h0 h2 hk) (B.neg (by decide) hp (by omega) hkk.2.1)
    rw [B.ps at_ h0 h2] at this
    rw [shE_eq, shEs]; exact .inl this
  | @nd at_ d k nm err at1 e hi hk hp hd _ ih =>
    intro he h0 h1 _
    have h2 := F.i _ (ident_ne hi).1
    have h3 := F.i _ (ne_of hp (by decide))
    have hkk := named_ok F hi hk
    have hi' : idS (V'.pk (at_ + 1)) = true := by rw [B.pk at_ h0 h2]; exact hi
    have hp' : V'.pk (k + 1) = ⟨#[40]⟩ := by rw [B.pk k (by omega) h3]; exact hp
    by_cases hdd : 32 ≤ d + 1
    · exact .inr ⟨_, .nd4 hi' (br_nd F B h0 h2 hk) hp' hdd⟩
    have conv : ∀ {q r : Int} {x : S44}, Run V' (shB (.ar nm (V.ps at_) at_ [])) (k + 1 + 1) (d + 1 + 1) q r x → Run V' (.ar nm (V'.ps (at_ + 1)) (at_ + 1) []) (k + 1 + 1) (d + 1 + 1) q r x := fun h => by
      rw [B.ps at_ h0 h2]
      rw [shB, shEs] at h
      exact h
    exact (ih he (by omega) (by omega) trivial).imp (fun h => .nd hi' (br_nd F B h0 h2 hk) hp' hdd (conv h)) (fun ⟨q, h⟩ => ⟨q, .nd hi' (br_nd F B h0 h2 hk) hp' hdd (conv h)⟩)
  | @arC nm p at0 acc at_ d hp hh =>
    intro he h0 h1 _
    have h2 := F.i _ (ne_of hp (by decide))
    rw [shE_eq]
    exact .inl (.arC (by rw [B.pk at_ h0 h2]; exact hp) (by rw [hts_sh]; exact hh))
  | @ar nm p at0 acc at_ d k at1 e1 err at2 e2 hp hk hr _ ih1 ih2 =>
    intro he h0 h1 _
    have hkk : at_ ≤ k ∧ k ≤ n := by
      rcases hk with ⟨_, rfl⟩ | ⟨_, hq, rfl⟩
      · omega
      · have := F.i _ (ne_of hq (by decide)); omega
    have ro := run_ok F hr (by omega) hkk.2 (Int.le_refl 1)
    obtain ⟨s, s1, s2, s3, _⟩ := ro.1 rfl
    have h2 : at_ < n := by omega
    have e' := B.pk at_ h0 h2
    have hp' : V'.pk (at_ + 1) ≠ ⟨#[41]⟩ := by rw [e']; exact hp
    have hk' : shEs 1 acc = [] ∧ k + 1 = at_ + 1 ∨ shEs 1 acc ≠ [] ∧ V'.pk (at_ + 1) = ⟨#[44]⟩ ∧ k + 1 = at_ + 1 + 1 := by
      rw [e', shEs_map]
      exact hk.imp (fun h => ⟨by rw [h.1]; rfl, by omega⟩) (fun h => ⟨fun hh => h.1 (List.map_eq_nil_iff.1 hh), h.2.1, by omega⟩)
    rcases ih1 rfl (by omega) hkk.2 (Int.le_refl 1) with a | ⟨q, a⟩
    · have conv : ∀ {q r : Int} {x : S44}, Run V' (shB (.ar nm p at0 (acc ++ [e1]))) (at1 + 1) (d + 1) q r x → Run V' (.ar nm (p + 1) (at0 + 1) (shEs 1 acc ++ [shE 1 e1])) (at1 + 1) (d + 1) q r x := fun h => by
        rw [shB, shEs_app] at h
        exact h
      rcases ih2 he (by omega) ro.2.2 trivial with b | ⟨q, b⟩
      · exact .inl (.ar hp' hk' a (conv b))
      · exact .inr ⟨q, .ar hp' hk' a (conv b)⟩
    · exact .inr ⟨q, .arE hp' hk' a t12⟩
  | _ => intro he; first | exact absurd he (by assumption) | exact absurd he (by decide)
theorem up_bin {V : TV} {n : Int} {d err at1 at_ : Int} {e : S44} (he : V.pk at1 = ⟨#[]⟩ ∨ err ≠ 0) (hz : err ≠ 0 → e = z44) (h : Run V .sg at_ d err at1 e) : ∀ (z : Nat) (lv : Int), 1 ≤ lv → lv + z = 6 → Run V (.bin lv) at_ d err at1 e := by
  intro z
  induction z with
  | zero => intro lv l1 l2; rw [show lv = 6 by omega]; exact .bin6 h
  | succ z ih =>
    intro lv l1 l2
    have := ih (lv + 1) (by omega) (by omega)
    by_cases h0 : err = 0
    · subst h0
      refine .bin (by omega) this (.lpN ?_)
      rcases he with he | he
      · rw [he, lvS_empty]; omega
      · exact absurd rfl he
    · have e0 := hz h0
      subst e0
      exact .binE (by omega) this h0
theorem takeWhile_shut (p : Int → Bool) (a : List Int) (hp : p 41 = false) : (a ++ [41]).takeWhile p = a.takeWhile p := by
  induction a with
  | nil => rw [List.nil_append, List.takeWhile_cons, hp]; rfl
  | cons c r ih =>
    rw [List.cons_append, List.takeWhile_cons, List.takeWhile_cons, ih]
theorem firstS_shut (c : Int) (r : List Int) (hc : c ≠ 35) : firstS (c :: (r ++ [41])) = firstS (c :: r) := by
  have t := fun p hp => takeWhile_shut p (c :: r) hp
  simp only [List.cons_append] at t
  simp only [firstS]
  by_cases h1 : blankB c = true
  · rw [if_pos h1, if_pos h1, t blankB rfl]
  rw [if_neg h1, if_neg h1, if_neg hc, if_neg hc]
  by_cases h3 : letterB c = true
  · rw [if_pos h3, if_pos h3, t wordB rfl]
  rw [if_neg h3, if_neg h3]
  by_cases h4 : digitB c = true
  · rw [if_pos h4, if_pos h4, t digitB rfl]
  rw [if_neg h4, if_neg h4]
  cases r with
  | nil =>
    have : twoB c 41 = false := by unfold twoB; simp
    show (if twoB c 41 = true then ((4 : Int), 2) else if oneB c = true then (4, 1) else (5, 1)) = _
    rw [this]; rfl
  | cons b r => rfl
theorem toks_shut : ∀ (d p : Nat) (b : List Int), b.length ≤ d → (∀ x ∈ b, x ≠ 35) → toks p (b ++ [41]) = toks p b ++ [(⟨4, ((p + b.length : Nat) : Int), ((p + b.length + 1 : Nat) : Int)⟩ : S28)] := by
  have one : ∀ p : Nat, toks p [41] = [(⟨4, (p : Int), ((p + 1 : Nat) : Int)⟩ : S28)] := fun p => by
    have e : firstS [41] = (4, 1) := by decide
    rw [toks_cons p [41] (by decide), e]
    show (_ : S28) :: toks (p + 1) [] = _
    rw [toks_nil]
  intro d
  induction d with
  | zero =>
    intro p b h _
    rw [List.length_eq_zero_iff.1 (by omega : b.length = 0), List.nil_append, one, toks_nil]; rfl
  | succ d ih =>
    intro p b h hx
    cases b with
    | nil => rw [List.nil_append, one, toks_nil]; rfl
    | cons c r =>
      have hf := firstS_len' (c :: r) (by simp)
      have e := firstS_shut c r (hx c (by simp))
      rw [List.cons_append, toks_cons p (c :: (r ++ [41])) (by simp), toks_cons p (c :: r) (by simp), e]
      have hd : (c :: (r ++ [41])).drop (firstS (c :: r)).2 = (c :: r).drop (firstS (c :: r)).2 ++ [41] := by
        rw [← List.cons_append, List.drop_append_of_le_length hf.2]
      rw [hd, ih (p + (firstS (c :: r)).2) ((c :: r).drop (firstS (c :: r)).2) (by rw [List.length_drop]; omega) (fun x hx' => hx x (List.mem_of_mem_drop hx')), List.cons_append, List.length_drop]
      congr 4 <;> omega
theorem toks_open (x : List Int) : toks 0 (40 :: x) = (⟨4, 0, 1⟩ : S28) :: (toks 0 x).map (shift 1) := by
  have e : firstS (40 :: x) = (4, 1) := by
    cases x with
    | nil => decide
    | cons b r =>
      have : twoB 40 b = false := by unfold twoB; simp
      simp only [firstS]
      rw [if_neg (by decide), if_neg (by decide), if_neg (by decide), if_neg (by decide), this, if_neg (by decide), if_pos (by decide)]
  rw [toks_cons 0 (40 :: x) (by simp), e]
  show (_ : S28) :: toks (0 + 1) x = _
  rw [toks_shift 1 _ 0 x (Nat.le_refl _)]; rfl
theorem live_br {b : List Int} (hx : ∀ x ∈ b, x ≠ 35) : liveS (toks 0 (40 :: (b ++ [41]))) = (⟨4, 0, 1⟩ : S28) :: ((liveS (toks 0 b)).map (shift 1) ++ [(⟨4, (b.length : Int) + 1, (b.length : Int) + 2⟩ : S28)]) := by
  rw [toks_open, toks_shut b.length 0 b (Nat.le_refl _) hx]
  unfold liveS
  rw [List.filter_cons, if_pos (by decide), List.map_append, List.filter_append]
  have h := liveS_shift 1 (toks 0 b)
  unfold liveS at h
  rw [h]
  congr 2
  show List.filter _ [shift 1 _] = _
  rw [List.filter_cons, if_pos (by rfl), List.filter_nil]
  unfold shift
  dsimp only
  congr 2 <;> omega
theorem bad_br {b : List Int} (hx : ∀ x ∈ b, x ≠ 35) (h : badS (toks 0 b) = none) : badS (toks 0 (40 :: (b ++ [41]))) = none := by
  rw [toks_open, toks_shut b.length 0 b (Nat.le_refl _) hx, badS, if_neg (show ¬ (4 : Int) = 5 by decide), List.map_append]
  have : ∀ (L : List S28), badS L = none → badS (L.map (shift 1) ++ [shift 1 (⟨4, ((0 + b.length : Nat) : Int), ((0 + b.length + 1 : Nat) : Int)⟩ : S28)]) = none := by
    intro L
    induction L with
    | nil =>
      intro _
      rw [List.map_nil, List.nil_append, badS]
      show (if (4 : Int) = 5 then _ else badS []) = none
      rw [if_neg (by decide)]; rfl
    | cons t L ih =>
      intro h
      rw [badS] at h
      by_cases ht : t.f0 = 5
      · rw [if_pos ht] at h; exact absurd h (by simp)
      · rw [if_neg ht] at h
        rw [List.map_cons, List.cons_append, badS, if_neg (show ¬ (shift 1 t).f0 = 5 from ht)]
        exact ih h
  exact this _ h
theorem br_of {b : List Int} {T : List S28} (ok : TokOK b T) : Br (tv b T) (tv (40 :: (b ++ [41])) ((⟨4, 0, 1⟩ : S28) :: (T.map (shift 1) ++ [(⟨4, (b.length : Int) + 1, (b.length : Int) + 2⟩ : S28)]))) (T.length : Int) := by
  have hl : ((⟨4, 0, 1⟩ : S28) :: (T.map (shift 1) ++ [(⟨4, (b.length : Int) + 1, (b.length : Int) + 2⟩ : S28)])).length = T.length + 2 := by simp
  have rdm : ∀ i : Int, 0 ≤ i → i < (T.length : Int) → rd_T28 ((⟨4, 0, 1⟩ : S28) :: (T.map (shift 1) ++ [(⟨4, (b.length : Int) + 1, (b.length : Int) + 2⟩ : S28)])) (i + 1) = shift 1 (rd_T28 T i) := fun i h0 h1 => by
    unfold rd_T28
    rw [List.getD_eq_getElem?_getD, List.getD_eq_getElem?_getD, show (i + 1).toNat = i.toNat + 1 by omega, List.getElem?_cons_succ, List.getElem?_append_left (by rw [List.length_map]; omega), List.getElem?_map, List.getElem?_eq_getElem (by omega)]; rfl
  have rdl : rd_T28 ((⟨4, 0, 1⟩ : S28) :: (T.map (shift 1) ++ [(⟨4, (b.length : Int) + 1, (b.length : Int) + 2⟩ : S28)])) ((T.length : Int) + 1) = ⟨4, (b.length : Int) + 1, (b.length : Int) + 2⟩ := by
    unfold rd_T28
    rw [List.getD_eq_getElem?_getD, show ((T.length : Int) + 1).toNat = T.length + 1 by omega, List.getElem?_cons_succ, List.getElem?_append_right (by rw [List.length_map]; exact Nat.le_refl _), List.length_map, Nat.sub_self]; rfl
  refine ⟨fun i h0 h1 => ?_, fun i h0 h1 => ?_, fun i h0 h1 => ?_, ?_, ?_⟩
  · have hb := ok.b i h0 h1
    rw [pk_eq, pk_eq, hl, if_pos (show 0 ≤ i + 1 ∧ i + 1 < ((T.length + 2 : Nat) : Int) by omega), if_pos ⟨h0, h1⟩, rdm i h0 h1]
    unfold shift
    dsimp only
    congr 1
    rw [show ((rd_T28 T i).f2 + ((1 : Nat) : Int)).toNat = (rd_T28 T i).f2.toNat + 1 by omega, show ((rd_T28 T i).f1 + ((1 : Nat) : Int)).toNat = (rd_T28 T i).f1.toNat + 1 by omega, List.take_succ_cons, List.drop_succ_cons, List.take_append_of_le_length (by omega)]
  · rw [nm_eq, nm_eq, hl, if_pos (show 0 ≤ i + 1 ∧ i + 1 < ((T.length + 2 : Nat) : Int) by omega), if_pos ⟨h0, h1⟩, rdm i h0 h1]; rfl
  · rw [ps_eq, ps_eq, hl, if_pos (show 0 ≤ i + 1 ∧ i + 1 < ((T.length + 2 : Nat) : Int) by omega), if_pos ⟨h0, h1⟩, rdm i h0 h1]; rfl
  · rw [pk_eq, hl, if_pos (show 0 ≤ (T.length : Int) + 1 ∧ (T.length : Int) + 1 < ((T.length + 2 : Nat) : Int) by omega), rdl]
    dsimp only
    rw [show ((b.length : Int) + 2).toNat = b.length + 1 + 1 by omega, show ((b.length : Int) + 1).toNat = b.length + 1 by omega, List.take_succ_cons, List.drop_succ_cons, List.take_of_length_le (by rw [List.length_append]; exact Nat.le_refl _), List.drop_left]
    rfl
  · rw [pk_eq, if_neg (by omega)]
theorem parse_E1 {l : List Int} (hb : Bytes l) (hl : l.length ≤ 100000) : ∃ r, E1 (fun k => expr_Parse.f k l) r := by
  cases h : badS (toks 0 l) with
  | some t => exact ⟨_, parse_bad hb hl h⟩
  | none =>
    obtain ⟨err, at1, e, hr⟩ := parse_any hl
    exact ⟨_, parse_run hb hl h hr⟩
theorem br_end {l : List Int} (hw : Bytes l) (hl : l.length ≤ 900) (hx : ∀ x ∈ l, x ≠ 35) : Ev (fun _ q => blazonlaw08_ExprBrackets.l0 q l (l.length : Int)) true := by
  have hB : Bytes (40 :: (l ++ [41])) := fun x hxx => by
    rcases List.mem_cons.1 hxx with rfl | hxx
    · decide
    rcases List.mem_append.1 hxx with hxx | hxx
    · exact hw x hxx
    · rw [List.mem_singleton.1 hxx]; decide
  have hlen : (40 :: (l ++ [41]) : List Int).length = l.length + 2 := by simp
  have ok := live_ok (l := l) (by omega)
  have F := tv_ok ok
  have tru : ∀ (a b c : Int) (d e : ByteArray) (f : List S44) (g h i : Int) (j k : ByteArray) (m : List S44) (n : Int), Ev (fun _ q => blazonlaw08_ExprBrackets.j0 q a b c d e f g h i j k m n true) true := fun a b c d e f g h i j k m n => by
    refine Ev.sub 1 ?_
    simp only [blazonlaw08_ExprBrackets.j0, if_true]
    exact E1.k awake_end
  refine Ev.sub 1 ?_
  simp only [blazonlaw08_ExprBrackets.l0, if_neg (show ¬ (l.length : Int) < (l.length : Int) by omega), Option.bind_some, List.length_cons, List.length_nil, if_pos (show 0 + 1 + l.length < 140737488355328 by omega), List.nil_append, if_pos (show l.length + 1 < 140737488355328 by omega), List.cons_append]
  obtain ⟨r2, hr2⟩ := parse_E1 hB (by rw [hlen]; omega)
  cases h : badS (toks 0 l) with
  | some t =>
    refine Ev.bind (E1.k (parse_bad hw (by omega) h)) (Ev.bind (E1.k hr2) ?_)
    simp only [if_neg (show ¬ (10 : Int) = 0 by decide)]
    exact tru _ _ _ _ _ _ _ _ _ _ _ _ _
  | none =>
    obtain ⟨err, at1, e, hr⟩ := parse_any (l := l) (by omega)
    have ro := run_ok F hr (Int.le_refl 0) (by omega) (Int.le_refl 1)
    have p1 := parse_run hw (by omega) h hr
    by_cases hc : err = 0 ∧ ((liveS (toks 0 l)).length : Int) ≤ at1
    · rw [if_pos hc] at p1
      have he := hc.1
      subst he
      obtain ⟨s, s1, s2, s3, s4, s5, s6, s7⟩ := ro.1 rfl
      have hs := F.b s s1 (by omega)
      have n0 := ok.n
      have hbd := (bd_of (len := (l.length : Int)) (sz e)).1 e (Nat.le_refl _) s6 (by omega) (by omega)
      have e1 : at1 = ((liveS (toks 0 l)).length : Int) := by omega
      have B := br_of ok
      have hlive := live_br hx
      rw [← hlive] at B
      have hlt : (liveS (toks 0 (40 :: (l ++ [41])))).length = (liveS (toks 0 l)).length + 2 := by rw [hlive]; simp
      have k0 : (tv (40 :: (l ++ [41])) (liveS (toks 0 (40 :: (l ++ [41]))))).pk 0 = ⟨#[40]⟩ := by
        rw [pk_eq, hlt, if_pos (by omega), hlive]
        show strOfNums (((40 :: (l ++ [41])).take (1 : Int).toNat).drop (0 : Int).toNat) = _
        rfl
      have m0 : ¬ (tv (40 :: (l ++ [41])) (liveS (toks 0 (40 :: (l ++ [41]))))).nm 0 = true := by
        rw [nm_eq, hlt, if_pos (by omega), hlive]
        show ¬ decide ((4 : Int) = 3) = true
        decide
      have en : (tv (40 :: (l ++ [41])) (liveS (toks 0 (40 :: (l ++ [41]))))).pk (at1 + 1 + 1) = ⟨#[]⟩ := by rw [pk_eq, hlt, if_neg (by omega)]
      have pr : ∀ {err at1 e}, Run (tv (40 :: (l ++ [41])) (liveS (toks 0 (40 :: (l ++ [41]))))) .gr 0 0 err at1 e → Run (tv (40 :: (l ++ [41])) (liveS (toks 0 (40 :: (l ++ [41]))))) .sg 0 0 err at1 e := fun h => .sgP (by rw [k0]; decide) (by rw [k0]; decide) (.prG m0 k0 h)
      rcases br_run F B hr rfl (Int.le_refl 0) (by omega) (Int.le_refl 1) with a | ⟨q, a⟩
      · have g := pr (.gr k0 (by decide) a (by rw [e1]; exact B.ce))
        have g1 := up_bin (n := 0) (.inl en) (fun h => absurd rfl h) g 5 1 (by decide) (by decide)
        have p2 := parse_run hB (by rw [hlen]; omega) (bad_br hx h) g1
        rw [if_pos ⟨rfl, by rw [hlt]; omega⟩] at p2
        refine Ev.bind (E1.k p1) (Ev.bind (E1.k p2) ?_)
        simp only [if_true, decide_eq_false (show ¬ (0 : Int) = 12 by decide)]
        refine Ev.sub 1 ?_
        simp only [blazonlaw08_ExprBrackets.j0, if_neg (show ¬ false = true by decide), if_true]
        refine Ev.bind (E1.k (later_all (sz e) e (l.length : Int) (Nat.le_refl _) (by omega) (by omega) hbd)) ?_
        dsimp only [tup]
        refine Ev.bind (E1.k (same_all (sz (shE 1 e)) (shE 1 e) (Nat.le_refl _) (by rw [sz_sh]; omega))) ?_
        simp only [if_true]
        exact E1.k awake_end
      · have g := pr (.grE k0 (by decide) a (by decide))
        have g1 := up_bin (n := 0) (.inr (by decide)) (fun _ => rfl) g 5 1 (by decide) (by decide)
        have p2 := parse_run hB (by rw [hlen]; omega) (bad_br hx h) g1
        rw [if_neg (fun h => absurd h.1 (by decide)), if_neg (show ¬ (12 : Int) = 0 by decide)] at p2
        refine Ev.bind (E1.k p1) (Ev.bind (E1.k p2) ?_)
        simp only [if_true, decide_true]
        exact tru _ _ _ _ _ _ _ _ _ _ _ _ _
    · rw [if_neg hc] at p1
      have hq : ¬ (if err = 0 then 11 else err) = 0 := by
        by_cases he : err = 0
        · rw [if_pos he]; decide
        · rw [if_neg he]; exact he
      refine Ev.bind (E1.k p1) (Ev.bind (E1.k hr2) ?_)
      simp only [if_neg hq]
      exact tru _ _ _ _ _ _ _ _ _ _ _ _ _
theorem ExprBrackets : blazonlaw08_ExprBrackets.Pure := by
  intro l _ _ hw
  have hb := Bytes.of_wf hw
  refine Ev.out (F := fun _ k => blazonlaw08_ExprBrackets.f k l) ?_
  simp only [blazonlaw08_ExprBrackets.f]
  by_cases hl : (l.length : Int) > 900
  · simp only [if_pos hl]; exact E1.k awake_end
  simp only [if_neg hl]
  have go : ∀ (d j : Nat), j + d = l.length → (∀ x ∈ l.take j, x ≠ 35) → Ev (fun _ q => blazonlaw08_ExprBrackets.l0 q l (j : Int)) true := by
    intro d
    induction d with
    | zero =>
      intro j hj hx
      have : j = l.length := by omega
      subst this
      rw [List.take_length] at hx
      exact br_end hb (by omega) hx
    | succ d ih =>
      intro j hj hx
      have hjl : j < l.length := by omega
      have e : rd l (j : Int) = l[j] := by simp [rd, List.getD_eq_getElem?_getD, hjl]
      by_cases h35 : rd l (j : Int) = 35
      · refine Ev.sub 1 ?_
        simp only [blazonlaw08_ExprBrackets.l0, if_pos (show (j : Int) < (l.length : Int) by omega), if_pos (show 0 ≤ (j : Int) by omega), if_pos h35]
        exact E1.k awake_end
      · have := ih (j + 1) (by omega) (fun x hxx => by
          rw [List.take_succ_eq_append_getElem hjl] at hxx
          rcases List.mem_append.1 hxx with hxx | hxx
          · exact hx x hxx
          · rw [List.mem_singleton.1 hxx, ← e]; exact h35)
        rw [show ((j + 1 : Nat) : Int) = (j : Int) + 1 by omega] at this
        refine Ev.sub 1 ?_
        simp only [blazonlaw08_ExprBrackets.l0, if_pos (show (j : Int) < (l.length : Int) by omega), if_pos (show 0 ≤ (j : Int) by omega), if_neg h35, wrap64_id (x := (j : Int) + 1) (by omega) (by omega)]
        exact this
  exact go l.length 0 (by omega) (by simp)

end Go.Proofs.Yteoccoklbmjiaaa.Pure
