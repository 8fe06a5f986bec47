/- Words, names and a token's text are the reference's. -/
import Derived.Test.YteoccoklbmjiaaaPLexx9
import Derived.Test.YteoccoklbmjiaaaLexBase
import Derived.OpenShut
import Derived.Laws.BitsLemmas
import Derived.Laws.BitsAllLaws
import Derived.Lib.Bytes
set_option linter.unusedVariables false
set_option linter.unusedSimpArgs false
namespace Go.Proofs.Yteoccoklbmjiaaa.Pure
open Go.RowKit Go.Proofs.Yteoccoklbmjiaaa.PLex Go.Proofs.YteoccoklbmjiaaaW.PrintWords Go.Proofs.YteoccoklbmjiaaaW.PrintLast

theorem ident1_tells (c : Int) (h0 : 0 ≤ c) (h1 : c < 256) : lex_Ident_1.f c = some (wordB c) := by
  unfold lex_Ident_1.f wordB
  rw [letter_tells c h0 h1, digit_tells]
  cases letterB c <;> simp
theorem run_ident_l0 (l : List Int) (hb : Bytes l) (hl : l.length ≤ 1000000000000000) (d : Nat) : ∀ (k i : Nat), i ≤ l.length → l.length - i = d → d < k → lex_run_at_75.l0 k l (i : Int) = some (((i + ((l.drop i).takeWhile wordB).length : Nat)) : Int) := by
  induction d with
  | zero =>
    intro k i hi hd hk
    obtain ⟨k, rfl⟩ : ∃ n, k = n + 1 := ⟨k - 1, by omega⟩
    simp only [lex_run_at_75.l0]
    rw [if_neg (by omega), List.drop_eq_nil_of_le (by omega)]
    simp
  | succ d ih =>
    intro k i hi hd hk
    obtain ⟨k, rfl⟩ : ∃ n, k = n + 1 := ⟨k - 1, by omega⟩
    simp only [lex_run_at_75.l0]
    rw [if_pos (by omega), if_pos (by omega), rd_drop l i (by omega)]
    rw [ident1_tells _ (rd_byte hb _).1 (rd_byte hb _).2]
    simp only [Option.bind_some, List.takeWhile_cons]
    by_cases h : wordB (rd l (i : Int)) = true
    · rw [if_pos h, if_pos h, wrap64_id (by omega) (by omega)]
      have := ih k (i + 1) (by omega) (by omega) (by omega)
      rw [show ((i : Int) + 1) = ((i + 1 : Nat) : Int) by omega, this]
      simp; omega
    · rw [if_neg h, if_neg h]
      simp
theorem run_ident (k : Nat) (l : List Int) (hb : Bytes l) (hl : l.length ≤ 1000000000000000) (hk : l.length < k) : lex_run_at_75.f k l = some (((l.takeWhile wordB).length : Nat) : Int) := by
  have := run_ident_l0 l hb hl l.length k 0 (by omega) (by omega) hk
  simpa [lex_run_at_75.f] using this

theorem rletter_tells (c : Int) (h0 : 0 ≤ c) (h1 : c < 256) : blazonref06_Letter.f c = some (letterB c) :=
  byte_all (fun c => blazonref06_Letter.f c = some (letterB c)) (by decide +kernel) c h0 h1
theorem rdigit_tells (c : Int) : blazonref06_Digit.f c = some (digitB c) := by
  unfold blazonref06_Digit.f digitB
  by_cases h : c ≥ 48
  · simp [h]
  · simp [h]
def KW : List ByteArray := [(⟨#[105, 109, 112, 111, 114, 116]⟩ : ByteArray), (⟨#[108, 97, 116, 116, 105, 99, 101]⟩ : ByteArray), (⟨#[101, 102, 102, 101, 99, 116, 115]⟩ : ByteArray), (⟨#[118, 97, 114]⟩ : ByteArray), (⟨#[102, 110]⟩ : ByteArray), (⟨#[108, 101, 116]⟩ : ByteArray), (⟨#[105, 102]⟩ : ByteArray), (⟨#[101, 108, 115, 101]⟩ : ByteArray), (⟨#[119, 104, 105, 108, 101]⟩ : ByteArray), (⟨#[114, 101, 116, 117, 114, 110]⟩ : ByteArray), (⟨#[100, 111]⟩ : ByteArray), (⟨#[116, 114, 117, 101]⟩ : ByteArray), (⟨#[102, 97, 108, 115, 101]⟩ : ByteArray), (⟨#[105, 110, 116]⟩ : ByteArray), (⟨#[98, 111, 111, 108]⟩ : ByteArray), (⟨#[100, 101, 99, 108, 97, 115, 115, 105, 102, 121]⟩ : ByteArray)]
/-- Is it a word of the language? -/
def kw (x : ByteArray) : Bool := KW.any fun y => decide (x.toList = y.toList)
theorem ite_or {c : Prop} [Decidable c] {X : Option Bool} {b : Bool} (h : X = some b) : (if c then some true else X) = some (decide c || b) := by
  by_cases hc : c
  · rw [if_pos hc, decide_eq_true hc]; rfl
  · rw [if_neg hc, decide_eq_false hc, h]; rfl
theorem kw_tells (x : ByteArray) : lex_Keyword.f x = some (kw x) := by
  unfold lex_Keyword.f kw KW
  simp only [List.any_cons, List.any_nil, Lib.toList_data]
  generalize x.data.toList = t
  repeat refine ite_or ?_
  rfl
theorem rkw_l0 (x : ByteArray) (L : List ByteArray) (hl : L.length ≤ 1000) (d : Nat) : ∀ (k i : Nat), i ≤ L.length → L.length - i = d → d < k → blazonref06_Keyword.l0 k x L (i : Int) = some ((L.drop i).any fun y => decide (x.toList = y.toList)) := by
  induction d with
  | zero =>
    intro k i hi hd hk
    obtain ⟨k, rfl⟩ : ∃ n, k = n + 1 := ⟨k - 1, by omega⟩
    simp only [blazonref06_Keyword.l0]
    rw [if_neg (by omega), List.drop_eq_nil_of_le (by omega)]
    rfl
  | succ d ih =>
    intro k i hi hd hk
    obtain ⟨k, rfl⟩ : ∃ n, k = n + 1 := ⟨k - 1, by omega⟩
    simp only [blazonref06_Keyword.l0]
    have hr : L.drop i = rdOf ByteArray.empty L (i : Int) :: L.drop (i + 1) := by
      rw [List.drop_eq_getElem_cons (by omega)]
      simp [rdOf, List.getD_eq_getElem?_getD, show i < L.length by omega]
    rw [if_pos (by omega), if_pos (by omega), hr, List.any_cons]
    by_cases h : (rdOf ByteArray.empty L (i : Int)).toList = x.toList
    · rw [if_pos h, decide_eq_true h.symm]; rfl
    · rw [if_neg h, decide_eq_false (fun h2 => h h2.symm), wrap64_id (by omega) (by omega), show ((i : Int) + 1) = ((i + 1 : Nat) : Int) by omega, ih k (i + 1) (by omega) (by omega) (by omega)]
      simp
theorem rkw_tells (k : Nat) (hk : 30 ≤ k) (x : ByteArray) : blazonref06_Keyword.f k x = some (kw x) := by
  have := rkw_l0 x KW (by decide) 16 k 0 (by decide) (by decide) (by omega)
  rw [List.drop_zero] at this
  exact this
theorem bt_byte (x : ByteArray) (i : Int) : 0 ≤ bt x i ∧ bt x i < 256 := by have := bt_range x i; omega
/-- The end of a name's test. -/
def okEnd (x : ByteArray) : Bool := decide (x.size ≤ 24) && !kw x
theorem rident_l0 (x : ByteArray) (hl : x.size ≤ 100000) (d : Nat) : ∀ (k i : Nat), 1 ≤ i → i ≤ x.size → x.size - i = d → d + 40 < k → blazonref06_Ident.l0 k x (i : Int) = some (((bytesOf x).drop i).all wordB && okEnd x) := by
  induction d with
  | zero =>
    intro k i h1 hi hd hk
    obtain ⟨k, rfl⟩ : ∃ n, k = n + 1 := ⟨k - 1, by omega⟩
    simp only [blazonref06_Ident.l0]
    rw [if_neg (by omega), if_pos (by omega), List.drop_eq_nil_of_le (by rw [bytesOf_length]; omega), rkw_tells k (by omega), Option.bind_some]
    by_cases h : x.size ≤ 24
    · rw [if_pos (by omega)]; simp [okEnd, h]
    · rw [if_neg (by omega)]; simp [okEnd, h]
  | succ d ih =>
    intro k i h1 hi hd hk
    obtain ⟨k, rfl⟩ : ∃ n, k = n + 1 := ⟨k - 1, by omega⟩
    have hb := bt_byte x (i : Int)
    simp only [blazonref06_Ident.l0]
    rw [if_pos (by omega), if_pos (by omega), rletter_tells _ hb.1 hb.2, rdigit_tells, Option.bind_some, Option.bind_some, rd_drop (bytesOf x) i (by rw [bytesOf_length]; omega), rd_bytesOf, List.all_cons, wrap64_id (by omega) (by omega), show ((i : Int) + 1) = ((i + 1 : Nat) : Int) by omega, ih k (i + 1) (by omega) (by omega) (by omega) (by omega), if_neg (show ¬ ((i : Int) = 0) by omega)]
    simp only [wordB]
    cases letterB (bt x (i : Int)) <;> cases digitB (bt x (i : Int)) <;> simp
def identB (x : ByteArray) : Bool := decide (0 < x.size) && (letterB (bt x 0) && ((bytesOf x).all wordB && okEnd x))
theorem rident_tells (k : Nat) (x : ByteArray) (hl : x.size ≤ 100000) (hk : x.size + 50 < k) : blazonref06_Ident.f k x = some (identB x) := by
  obtain ⟨k, rfl⟩ : ∃ n, k = n + 1 := ⟨k - 1, by omega⟩
  unfold blazonref06_Ident.f identB
  simp only [blazonref06_Ident.l0]
  by_cases h : 0 < x.size
  · have hb := bt_byte x 0
    rw [if_pos (by omega), if_pos (by omega), rletter_tells _ hb.1 hb.2, Option.bind_some]
    have hd := rd_drop (bytesOf x) 0 (by rw [bytesOf_length]; omega)
    rw [List.drop_zero, rd_bytesOf, show (((0 : Nat) : Int)) = 0 from rfl, Nat.zero_add] at hd
    by_cases h2 : letterB (bt x 0) = true
    · rw [if_pos h2, wrap64_id (by omega) (by omega)]
      have := rident_l0 x hl (x.size - 1) k 1 (by omega) (by omega) rfl (by omega)
      have hw : wordB (bt x 0) = true := by simp [wordB, h2]
      have hall : (bytesOf x).all wordB = ((bytesOf x).drop 1).all wordB := by
        conv => lhs; rw [hd]
        rw [List.all_cons, hw, Bool.true_and]
      rw [show ((0 : Int) + 1) = ((1 : Nat) : Int) by omega, this, hall, h2, decide_eq_true h, Bool.true_and, Bool.true_and]
    · rw [if_neg h2, if_pos trivial]
      simp [h2]
  · rw [if_neg (by omega), if_neg (by omega)]
    simp [h]
theorem all_takeWhile (p : Int → Bool) (l : List Int) : ((l.takeWhile p).length == l.length) = l.all p := by
  induction l with
  | nil => rfl
  | cons c r ih =>
    rw [List.takeWhile_cons, List.all_cons]
    by_cases h : p c = true
    · rw [if_pos h, h, ← ih]; simp
    · rw [if_neg h]; simp [h]
theorem ident_tells (k : Nat) (x : ByteArray) (hl : x.size ≤ 100000) (hk : x.size + 50 < k) : lex_Ident.f k x = some (identB x) := by
  unfold lex_Ident.f identB
  have he : x.toList = [] ↔ x.size = 0 := by
    rw [Lib.toList_data]
    constructor
    · intro h
      have := congrArg List.length h
      rw [data_length] at this
      simpa using this
    · intro h
      apply List.length_eq_zero_iff.1
      rw [data_length]; exact h
  by_cases h0 : x.size = 0
  · rw [if_pos (he.2 h0)]; simp [h0]
  · rw [if_neg (fun h => h0 (he.1 h))]
    by_cases h1 : (x.size : Int) > 24
    · rw [if_pos h1]
      have : ¬ x.size ≤ 24 := by omega
      simp [okEnd, this]
    · rw [if_neg h1, kw_tells, Option.bind_some]
      by_cases h2 : kw x = true
      · rw [if_pos h2]; simp [okEnd, h2]
      · have hb := bt_byte x 0
        rw [if_neg h2, if_pos (by omega), letter_tells _ hb.1 hb.2, Option.bind_some]
        by_cases h3 : letterB (bt x 0) = true
        · rw [if_pos h3, if_pos (by omega), run_ident k _ (bytes_bytesOf x) (by rw [bytesOf_length]; omega) (by rw [bytesOf_length]; omega), Option.bind_some]
          have hk2 : (((((bytesOf x).takeWhile wordB).length : Nat) : Int) == (x.size : Int)) = (bytesOf x).all wordB := by
            rw [← all_takeWhile, bytesOf_length]
            rw [Bool.eq_iff_iff]
            simp
            omega
          rw [hk2]
          have h4 : x.size ≤ 24 := by omega
          have h5 : 0 < x.size := by omega
          simp [okEnd, h2, h3, h4, h5]
        · rw [if_neg h3]; simp [h3]
theorem text_same (x : ByteArray) (a e : Nat) : (strOfNums (((bytesOf x).take e).drop a)).toList = (x.extract a e).toList := by
  rw [str_toList, Lib.toList_data, ByteArray.data_extract, Array.toList_extract, List.extract_eq_take_drop]
  unfold bytesOf
  rw [← List.map_take, ← List.map_drop, List.map_map, List.drop_take]
  conv => rhs; rw [← List.map_id ((x.data.toList.drop a).take (e - a))]
  apply List.map_congr_left
  intro b _
  simp
theorem bind_s {α β : Type} (a : α) (f : α → Option β) : (some a).bind f = f a := by rw [Option.bind_some]
def LexWordsPure : Prop := ∀ (s : ByteArray) (x y z : Int), s.size ≤ 140737488351232 → ∃ k, blazonlaw06_LexWords.f k s x y z = some true
theorem words_j1 (k : Nat) (hk : 5000 ≤ k) (s w : ByteArray) (hs : s.size ≤ 300) (x y z : Int) (t : ByteArray) (ht : lex_Text.f (bytesOf s) x y z = some t) (hw : t.toList = w.toList) : blazonlaw06_LexWords.j1 (k + 1) s w x y z = some true := by
  simp only [blazonlaw06_LexWords.j1]
  rw [kw_tells, bind_s, rkw_tells k (by omega), bind_s, if_pos (by simp), ident_tells k s (by omega) (by omega), bind_s, rident_tells k s (by omega) (by omega), bind_s, if_pos (by simp), if_pos (by omega), ht, bind_s, if_pos hw, awake_true k (by omega), bind_s]
theorem LexWords : LexWordsPure := by
  intro s x y z hs
  obtain ⟨k, hk⟩ : ∃ k : Nat, 5000 ≤ k := ⟨5000, Nat.le_refl _⟩
  refine ⟨k + 2, ?_⟩
  unfold blazonlaw06_LexWords.f
  by_cases e : (s.size : Int) > 300
  · rw [if_pos e, awake_true (k + 2) (by omega), bind_s]
  · rw [if_neg e]
    have hlen : (bytesOf s).length = s.size := bytesOf_length s
    by_cases h1 : y ≥ 0
    · rw [if_pos h1]
      by_cases h2 : y ≤ z
      · rw [if_pos h2]
        by_cases h3 : z ≤ (s.size : Int)
        · rw [decide_eq_true h3]
          simp only [blazonlaw06_LexWords.j0]
          rw [if_pos trivial, if_pos (by omega), if_pos h2, if_pos h3]
          refine words_j1 k hk s _ (by omega) x y z (strOfNums (((bytesOf s).take z.toNat).drop y.toNat)) ?_ (text_same s _ _)
          unfold lex_Text.f
          rw [if_neg (by omega), if_neg (by omega), if_neg (by omega), if_pos (by omega), if_pos (by omega), if_pos (by omega)]
        · rw [decide_eq_false h3]
          simp only [blazonlaw06_LexWords.j0]
          rw [if_neg (by decide)]
          refine words_j1 k hk s _ (by omega) x y z ⟨#[]⟩ ?_ rfl
          unfold lex_Text.f
          rw [if_neg (by omega), if_neg (by omega), if_pos (by omega)]
      · rw [if_neg h2]
        simp only [blazonlaw06_LexWords.j0]
        rw [if_neg (by decide)]
        refine words_j1 k hk s _ (by omega) x y z ⟨#[]⟩ ?_ rfl
        unfold lex_Text.f
        rw [if_neg (by omega), if_pos (by omega)]
    · rw [if_neg h1]
      simp only [blazonlaw06_LexWords.j0]
      rw [if_neg (by decide)]
      refine words_j1 k hk s _ (by omega) x y z ⟨#[]⟩ ?_ rfl
      unfold lex_Text.f
      rw [if_pos (by omega)]

end Go.Proofs.Yteoccoklbmjiaaa.Pure
