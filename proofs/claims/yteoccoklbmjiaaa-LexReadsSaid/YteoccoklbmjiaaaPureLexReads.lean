/- Tokens are as the reference reads them, and the bytes are kept. -/
import Derived.Test.YteoccoklbmjiaaaPLexx7
import Derived.Test.YteoccoklbmjiaaaLexBase
import Derived.OpenShut
import Derived.Laws.BitsLemmas
import Derived.Laws.BitsAllLaws
import Derived.Lib.Bytes
import Derived.Test.YteoccoklbmjiaaaWSized
set_option linter.unusedVariables false
set_option linter.unusedSimpArgs false
namespace Go.Proofs.Yteoccoklbmjiaaa.Pure
open Go.RowKit Go.Proofs.Yteoccoklbmjiaaa.PLex Go.Proofs.YteoccoklbmjiaaaW.PrintWords Go.Proofs.YteoccoklbmjiaaaW.PrintLast

/-- The tokens that count. -/
def liveS (l : List S28) : List S28 := l.filter fun t => t.f0 != 0 && t.f0 != 1
theorem live_l0 (l : List S28) (hl : l.length ≤ 1000000) (d : Nat) : ∀ (k i : Nat) (acc : List S28), i ≤ l.length → l.length - i = d → d < k → acc.length ≤ i → lex_Live.l0 k acc l (l.length : Int) (i : Int) = some (acc ++ liveS (l.drop i)) := by
  induction d with
  | zero =>
    intro k i acc hi hd hk ha
    obtain ⟨k, rfl⟩ : ∃ n, k = n + 1 := ⟨k - 1, by omega⟩
    simp only [lex_Live.l0]
    rw [if_neg (by omega), List.drop_eq_nil_of_le (by omega)]
    simp [liveS]
  | succ d ih =>
    intro k i acc hi hd hk ha
    obtain ⟨k, rfl⟩ : ∃ n, k = n + 1 := ⟨k - 1, by omega⟩
    simp only [lex_Live.l0]
    rw [if_pos (by omega), if_pos (by omega), if_pos (by omega), rdT_drop l i (by omega), wrap64_id (by omega) (by omega), show ((i : Int) + 1) = ((i + 1 : Nat) : Int) by omega]
    by_cases h0 : (rd_T28 l (i : Int)).f0 = 0
    · rw [if_pos h0, ih k (i + 1) acc (by omega) (by omega) (by omega) (by omega)]
      simp [liveS, h0]
    · rw [if_neg h0]
      by_cases h1 : (rd_T28 l (i : Int)).f0 = 1
      · rw [if_pos h1, ih k (i + 1) acc (by omega) (by omega) (by omega) (by omega)]
        simp [liveS, h1]
      · rw [if_neg h1, if_pos (by omega), ih k (i + 1) _ (by omega) (by omega) (by omega) (by simp; omega)]
        simp [liveS, h0, h1]
theorem live_tells (k : Nat) (l : List S28) (hl : l.length ≤ 1000000) (hk : l.length < k) : lex_Live.f k l = some (liveS l) := by
  have := live_l0 l hl l.length k 0 [] (by omega) (by omega) hk (by simp)
  simpa [lex_Live.f] using this
theorem firstS_blank (c : Int) (r : List Int) (h : blankB c = true) : firstS (c :: r) = (0, ((c :: r).takeWhile blankB).length) := by simp only [firstS]; rw [if_pos h]
theorem same_l0 (l : List S28) (hb : l.length ≤ 1000000000000000) (d : Nat) :
    ∀ (k i : Nat), i ≤ l.length → l.length - i = d → d < k → blazonref06_Same.l0 k l l (i : Int) = some true := by
  induction d with
  | zero =>
    intro k i hi hd hk
    obtain ⟨k, rfl⟩ : ∃ n, k = n + 1 := ⟨k - 1, by omega⟩
    simp only [blazonref06_Same.l0]
    rw [if_neg (by omega)]
  | succ d ih =>
    intro k i hi hd hk
    obtain ⟨k, rfl⟩ : ∃ n, k = n + 1 := ⟨k - 1, by omega⟩
    simp only [blazonref06_Same.l0]
    rw [if_pos (by omega), if_pos (by omega), if_pos (by omega), if_neg (by simp), wrap64_id (by omega) (by omega)]
    have := ih k (i + 1) (by omega) (by omega) (by omega)
    rw [show ((i : Int) + 1) = ((i + 1 : Nat) : Int) by omega, this]
/-- What is the same answers so. -/
theorem same_self (k : Nat) (l : List S28) (hb : l.length ≤ 1000000000000000) (hk : l.length < k) : blazonref06_Same.f k l l = some true := by
  unfold blazonref06_Same.f
  rw [if_pos rfl]
  exact same_l0 l hb l.length k 0 (by omega) (by omega) hk

theorem rletter_tells (c : Int) (h0 : 0 ≤ c) (h1 : c < 256) : blazonref06_Letter.f c = some (letterB c) :=
  byte_all (fun c => blazonref06_Letter.f c = some (letterB c)) (by decide +kernel) c h0 h1
theorem rdigit_tells (c : Int) : blazonref06_Digit.f c = some (digitB c) := by
  unfold blazonref06_Digit.f digitB
  by_cases h : c ≥ 48
  · simp [h]
  · simp [h]
theorem bytes_str (l : List Int) (h : Bytes l) : bytesOf (strOfNums l) = l := by
  unfold bytesOf
  rw [strOfNums_data]
  rw [List.map_map]
  conv => rhs; rw [← List.map_id l]
  apply List.map_congr_left
  intro x hx
  have := h x hx
  simp
  omega
theorem bt_str (l : List Int) (h : Bytes l) (i : Int) : bt (strOfNums l) i = rd l i := by
  rw [← rd_bytesOf, bytes_str l h]
theorem extract_str (l : List Int) (a b : Nat) : (strOfNums l).extract a b = strOfNums ((l.take b).drop a) := by
  apply ByteArray.ext
  rw [ByteArray.data_extract]
  unfold strOfNums
  apply Array.toList_inj.1
  simp [Array.toList_extract, List.extract_eq_take_drop, List.map_drop, List.map_take, List.drop_take]
theorem sign_l1 (x0 x5 : ByteArray) (h1 : 1 ≤ x0.size) (hs : x5.size ≤ 1000) (d : Nat) : ∀ (k i : Nat), i ≤ x5.size → x5.size - i = d → d < k → blazonref06_sign.l1 k x0 x5 (i : Int) = some (if ((bytesOf x5).drop i).contains (bt x0 0) then 1 else 0) := by
  induction d with
  | zero =>
    intro k i hi hd hk
    obtain ⟨k, rfl⟩ : ∃ n, k = n + 1 := ⟨k - 1, by omega⟩
    simp only [blazonref06_sign.l1]
    rw [if_neg (by omega), List.drop_eq_nil_of_le (by rw [bytesOf_length]; omega)]
    simp
  | succ d ih =>
    intro k i hi hd hk
    obtain ⟨k, rfl⟩ : ∃ n, k = n + 1 := ⟨k - 1, by omega⟩
    simp only [blazonref06_sign.l1]
    rw [if_pos (by omega), if_pos (by omega), if_pos (by omega), if_pos (by omega), rd_drop (bytesOf x5) i (by rw [bytesOf_length]; omega), rd_bytesOf, List.contains_cons]
    by_cases h : bt x0 0 = bt x5 (i : Int)
    · rw [if_pos h]; simp [h]
    · rw [if_neg h, wrap64_id (by omega) (by omega), show ((i : Int) + 1) = ((i + 1 : Nat) : Int) by omega, ih k (i + 1) (by omega) (by omega) (by omega)]
      simp [h]
def signs : ByteArray := ⟨#[40, 41, 123, 125, 44, 59, 58, 46, 60, 43, 45, 42, 33, 61, 64, 47]⟩
theorem sign_one (k : Nat) (hk : 20 ≤ k) (c : Int) (r : List Int) (hb : Bytes (c :: r)) : blazonref06_sign.l1 k (strOfNums (c :: r)) signs 0 = some (if oneB c then 1 else 0) := by
  have := sign_l1 (strOfNums (c :: r)) signs (by rw [strOfNums_size]; simp) (by decide) 16 k 0 (by decide) (by decide) (by omega)
  rw [bt_str _ hb, show rd (c :: r) 0 = c from rfl, List.drop_zero, show bytesOf signs = [40, 41, 123, 125, 44, 59, 58, 46, 60, 43, 45, 42, 33, 61, 64, 47] by decide] at this
  exact this
def two2 (c : Int) : List Int → Bool
  | [] => false
  | b :: _ => twoB c b
theorem sign_tells (k : Nat) (hk : 40 ≤ k) (c : Int) (r : List Int) (hb : Bytes (c :: r)) : blazonref06_sign.f k (strOfNums (c :: r)) = some (if two2 c r then 2 else if oneB c then 1 else 0) := by
  obtain ⟨k, rfl⟩ : ∃ n, k = n + 6 := ⟨k - 6, by omega⟩
  unfold blazonref06_sign.f
  have w0 : wrap64 (0 + 1) = 1 := wrap64_id (by decide) (by decide)
  have w1 : wrap64 (1 + 1) = 2 := wrap64_id (by decide) (by decide)
  have w2 : wrap64 (2 + 1) = 3 := wrap64_id (by decide) (by decide)
  have w3 : wrap64 (3 + 1) = 4 := wrap64_id (by decide) (by decide)
  have one := fun k hk => sign_one k hk c r hb
  unfold signs at one
  match r, hb, one with
  | [], hb, one =>
    have hz : ¬ (((strOfNums [c]).size : Int) ≥ 2) := by rw [strOfNums_size]; simp
    simp only [blazonref06_sign.l0, List.length_cons, List.length_nil]
    rw [if_pos (by decide), if_neg hz, w0, if_pos (by decide), if_neg hz, w1, if_pos (by decide), if_neg hz, w2, if_pos (by decide), if_neg hz, w3, if_neg (by decide), one _ (by omega)]
    simp [two2]
  | b :: r, hb, one =>
    have hc := hb c (by simp)
    have hbb := hb b (by simp)
    have hsz : (strOfNums (c :: b :: r)).size = r.length + 2 := by rw [strOfNums_size]; simp
    have hz : (((strOfNums (c :: b :: r)).size : Int) ≥ 2) := by omega
    have hx : (strOfNums (c :: b :: r)).extract 0 2 = strOfNums [c, b] := by rw [extract_str]; rfl
    have e1 := two_str c b hc hbb 61 61 (by decide) (by decide)
    have e2 := two_str c b hc hbb 38 38 (by decide) (by decide)
    have e3 := two_str c b hc hbb 124 124 (by decide) (by decide)
    have e4 := two_str c b hc hbb 64 61 (by decide) (by decide)
    have r0 : rdOf ByteArray.empty ([(⟨#[61, 61]⟩ : ByteArray), (⟨#[38, 38]⟩ : ByteArray), (⟨#[124, 124]⟩ : ByteArray), (⟨#[64, 61]⟩ : ByteArray)] : List ByteArray) 0 = ⟨#[UInt8.ofNat 61, UInt8.ofNat 61]⟩ := rfl
    have r1 : rdOf ByteArray.empty ([(⟨#[61, 61]⟩ : ByteArray), (⟨#[38, 38]⟩ : ByteArray), (⟨#[124, 124]⟩ : ByteArray), (⟨#[64, 61]⟩ : ByteArray)] : List ByteArray) 1 = ⟨#[UInt8.ofNat 38, UInt8.ofNat 38]⟩ := rfl
    have r2 : rdOf ByteArray.empty ([(⟨#[61, 61]⟩ : ByteArray), (⟨#[38, 38]⟩ : ByteArray), (⟨#[124, 124]⟩ : ByteArray), (⟨#[64, 61]⟩ : ByteArray)] : List ByteArray) 2 = ⟨#[UInt8.ofNat 124, UInt8.ofNat 124]⟩ := rfl
    have r3 : rdOf ByteArray.empty ([(⟨#[61, 61]⟩ : ByteArray), (⟨#[38, 38]⟩ : ByteArray), (⟨#[124, 124]⟩ : ByteArray), (⟨#[64, 61]⟩ : ByteArray)] : List ByteArray) 3 = ⟨#[UInt8.ofNat 64, UInt8.ofNat 61]⟩ := rfl
    simp only [blazonref06_sign.l0, List.length_cons, List.length_nil]
    rw [if_pos (by decide), if_pos hz, if_pos (by decide), if_pos (by omega), if_pos (by decide), hx, r0]
    by_cases h1 : c = 61 ∧ b = 61
    · rw [if_pos (e1.2 h1)]
      simp [two2, twoB, h1.1, h1.2]
    · rw [if_neg (fun h => h1 (e1.1 h)), w0, if_pos (by decide), if_pos hz, if_pos (by decide), if_pos (by omega), if_pos (by decide), r1]
      by_cases h2 : c = 38 ∧ b = 38
      · rw [if_pos (e2.2 h2)]
        simp [two2, twoB, h2.1, h2.2]
      · rw [if_neg (fun h => h2 (e2.1 h)), w1, if_pos (by decide), if_pos hz, if_pos (by decide), if_pos (by omega), if_pos (by decide), r2]
        by_cases h3 : c = 124 ∧ b = 124
        · rw [if_pos (e3.2 h3)]
          simp [two2, twoB, h3.1, h3.2]
        · rw [if_neg (fun h => h3 (e3.1 h)), w2, if_pos (by decide), if_pos hz, if_pos (by decide), if_pos (by omega), if_pos (by decide), r3]
          by_cases h4 : c = 64 ∧ b = 61
          · rw [if_pos (e4.2 h4)]
            simp [two2, twoB, h4.1, h4.2]
          · rw [if_neg (fun h => h4 (e4.1 h)), w3, if_neg (by decide), one _ (by omega)]
            have : twoB c b = false := by
              unfold twoB
              simp only [Bool.or_eq_false_iff, Bool.and_eq_false_iff, beq_eq_false_iff_ne]
              omega
            simp [two2, this]
/-- A loop that runs over bytes of a kind, and goes on behind them. -/
theorem run_abs {α : Type} (l : List Int) (P : Int → Bool) (F X : Nat → Int → Option α)
    (hs : ∀ (k e : Nat), e < l.length → F (k + 1) (e : Int) = if P (rd l (e : Int)) = true then F k ((e + 1 : Nat) : Int) else X k (e : Int))
    (he : ∀ k : Nat, F (k + 1) (l.length : Int) = X k (l.length : Int)) (R : Option α) (M : Nat) (d : Nat) :
    ∀ (e : Nat), ((l.drop e).takeWhile P).length = d → e ≤ l.length → (∀ k, M < k → X k ((e + d : Nat) : Int) = R) → ∀ k, M + d + 1 < k → F k (e : Int) = R := by
  induction d with
  | zero =>
    intro e hd hle hX k hk
    obtain ⟨k, rfl⟩ : ∃ n, k = n + 1 := ⟨k - 1, by omega⟩
    by_cases h : e < l.length
    · rw [hs k e h]
      rw [rd_drop l e h, List.takeWhile_cons] at hd
      by_cases hp : P (rd l (e : Int)) = true
      · rw [if_pos hp] at hd; simp at hd
      · rw [if_neg hp]; exact hX k (by omega)
    · obtain rfl : e = l.length := by omega
      rw [he k]; exact hX k (by omega)
  | succ d ih =>
    intro e hd hle hX k hk
    obtain ⟨k, rfl⟩ : ∃ n, k = n + 1 := ⟨k - 1, by omega⟩
    by_cases h : e < l.length
    · rw [hs k e h]
      rw [rd_drop l e h, List.takeWhile_cons] at hd
      by_cases hp : P (rd l (e : Int)) = true
      · rw [if_pos hp] at hd
        rw [if_pos hp]
        exact ih (e + 1) (by simpa using hd) (by omega) (by rw [show e + 1 + d = e + (d + 1) by omega]; exact hX) k (by omega)
      · rw [if_neg hp] at hd; simp at hd
    · rw [List.drop_eq_nil_of_le (by omega)] at hd; simp at hd
/-- What a token's end does. -/
def put6 (S : ByteArray) (acc : List S28) (at_ : Int) (kd : Int) (k : Nat) (e : Int) : Option (List S28) := if acc.length < 5864062014805 then blazonref06_All.l0 k S (acc ++ [(⟨kd, at_, e⟩ : S28)]) e else none
theorem all6_l0 (l : List Int) (hb : Bytes l) (hl : l.length ≤ 100000) (d : Nat) : ∀ (k p : Nat) (acc : List S28), p ≤ l.length → l.length - p ≤ d → 4 * (l.length - p) + 100 < k → acc.length ≤ p → blazonref06_All.l0 k (strOfNums l) acc (p : Int) = some (acc ++ toks p (l.drop p)) := by
  have hsz : ((strOfNums l).size : Int) = (l.length : Int) := by rw [strOfNums_size]
  induction d with
  | zero =>
    intro k p acc hp hd hk ha
    obtain ⟨k, rfl⟩ : ∃ n, k = n + 1 := ⟨k - 1, by omega⟩
    simp only [blazonref06_All.l0]
    rw [if_neg (by omega), List.drop_eq_nil_of_le (by omega), toks_nil]
    simp
  | succ d ih =>
    intro k p acc hp hd hk ha
    by_cases h : p < l.length
    · obtain ⟨k, rfl⟩ : ∃ n, k = n + 2 := ⟨k - 2, by omega⟩
      have hr := rd_drop l p h
      have hcb := rd_byte hb (p : Int)
      have hbd : Bytes (rd l (p : Int) :: l.drop (p + 1)) := by rw [← hr]; exact hb.drop p
      have hf := firstS_len (rd l (p : Int)) (l.drop (p + 1))
      rw [← hr, List.length_drop] at hf
      -- behind the token
      have fin : ∀ kd : Int, kd = (firstS (l.drop p)).1 → ∀ k2, 4 * (l.length - (p + (firstS (l.drop p)).2)) + 100 < k2 → put6 (strOfNums l) acc (p : Int) kd k2 ((p + (firstS (l.drop p)).2 : Nat) : Int) = some (acc ++ toks p (l.drop p)) := by
        intro kd hkd k2 hk2
        subst hkd
        unfold put6
        rw [if_pos (by omega), ih k2 (p + (firstS (l.drop p)).2) _ (by omega) (by omega) hk2 (by rw [List.length_append, List.length_singleton]; omega), toks_cons p (l.drop p) (by rw [List.length_drop]; omega), List.drop_drop]
        simp [Nat.add_comm]
      have step : blazonref06_All.l0 (k + 2) (strOfNums l) acc (p : Int) = blazonref06_All.j1 (k + 1) (strOfNums l) acc (p : Int) (rd l (p : Int)) ((p + 1 : Nat) : Int) 5 (blankB (rd l (p : Int))) := by
        simp only [blazonref06_All.l0]
        rw [if_pos (by omega), if_pos (by omega), bt_str l hb, wrap64_id (by omega) (by omega), show ((p : Int) + 1) = ((p + 1 : Nat) : Int) by omega]
        generalize rd l (p : Int) = c
        by_cases a1 : c = 32
        · rw [if_pos a1, show blankB c = true by simp [blankB, a1]]
        · rw [if_neg a1]
          by_cases a2 : c = 9
          · rw [if_pos a2, show blankB c = true by simp [blankB, a2]]
          · rw [if_neg a2]
            by_cases a3 : c = 10
            · rw [if_pos a3, show blankB c = true by simp [blankB, a3]]
            · rw [if_neg a3, show blankB c = (c == 13) by simp [blankB, a1, a2, a3]]
      rw [step]
      simp only [blazonref06_All.j1]
      -- a run of bytes of one kind, begun
      have run : ∀ (P : Int → Bool) (F : Nat → Int → Option (List S28)) (kd : Int), P (rd l (p : Int)) = true → firstS (l.drop p) = (kd, ((l.drop p).takeWhile P).length) →
          (∀ (k e : Nat), e < l.length → F (k + 1) (e : Int) = if P (rd l (e : Int)) = true then F k ((e + 1 : Nat) : Int) else put6 (strOfNums l) acc (p : Int) kd k (e : Int)) →
          (∀ k : Nat, F (k + 1) (l.length : Int) = put6 (strOfNums l) acc (p : Int) kd k (l.length : Int)) → F k ((p + 1 : Nat) : Int) = some (acc ++ toks p (l.drop p)) := by
        intro P F kd hP hfs hs he
        have hlen : ((l.drop p).takeWhile P).length = ((l.drop (p + 1)).takeWhile P).length + 1 := by rw [hr, List.takeWhile_cons, if_pos hP]; simp
        have hle := takeWhile_le P (l.drop (p + 1))
        rw [List.length_drop] at hle
        refine run_abs l P F (put6 (strOfNums l) acc (p : Int) kd) hs he _ (4 * (l.length - (p + (firstS (l.drop p)).2)) + 100) _ (p + 1) rfl (by omega) ?_ k ?_
        · intro k2 hk2
          have := fin kd (by rw [hfs]) k2 hk2
          rw [hfs, hlen] at this
          simp only at this
          rw [show p + 1 + ((l.drop (p + 1)).takeWhile P).length = p + (((l.drop (p + 1)).takeWhile P).length + 1) by omega]
          exact this
        · rw [hfs, hlen]
          simp only
          omega
      by_cases h1 : blankB (rd l (p : Int)) = true
      · rw [if_pos h1]
        refine run blankB (fun k e => blazonref06_All.l1 k (strOfNums l) acc (p : Int) e 0) 0 h1 (by rw [hr]; exact firstS_blank _ _ h1) ?_ ?_
        · intro k e he
          simp only [blazonref06_All.l1, put6]
          rw [if_pos (by omega), if_pos (by omega), bt_str l hb, wrap64_id (by omega) (by omega), show ((e : Int) + 1) = ((e + 1 : Nat) : Int) by omega]
          generalize rd l (e : Int) = c
          by_cases a1 : c = 32
          · rw [if_pos a1, if_pos (show blankB c = true by simp [blankB, a1])]
          · rw [if_neg a1]
            by_cases a2 : c = 9
            · rw [if_pos a2, if_pos (show blankB c = true by simp [blankB, a2])]
            · rw [if_neg a2]
              by_cases a3 : c = 10
              · rw [if_pos a3, if_pos (show blankB c = true by simp [blankB, a3])]
              · rw [if_neg a3]
                by_cases a4 : c = 13
                · rw [if_pos a4, if_pos (show blankB c = true by simp [blankB, a4])]
                · rw [if_neg a4, if_neg (show ¬ (blankB c = true) by simp [blankB, a1, a2, a3, a4])]
        · intro k
          simp only [blazonref06_All.l1, put6]
          rw [if_neg (by omega)]
      · rw [if_neg h1]
        by_cases h2 : rd l (p : Int) = 35
        · rw [if_pos h2]
          refine run lineB (fun k e => blazonref06_All.l2 k (strOfNums l) acc (p : Int) e 1) 1 (by rw [h2]; decide) (by rw [hr]; simp only [firstS]; rw [if_neg h1, if_pos h2]) ?_ ?_
          · intro k e he
            simp only [blazonref06_All.l2, put6]
            rw [if_pos (by omega), if_pos (by omega), bt_str l hb, wrap64_id (by omega) (by omega), show ((e : Int) + 1) = ((e + 1 : Nat) : Int) by omega]
            generalize rd l (e : Int) = c
            by_cases a1 : c = 10
            · rw [if_pos a1, if_neg (show ¬ (lineB c = true) by simp [lineB, a1])]
            · rw [if_neg a1, if_pos (show lineB c = true by simp [lineB, a1])]
          · intro k
            simp only [blazonref06_All.l2, put6]
            rw [if_neg (by omega)]
        · rw [if_neg h2, rletter_tells _ hcb.1 hcb.2, Option.bind_some]
          by_cases h3 : letterB (rd l (p : Int)) = true
          · rw [if_pos h3]
            refine run wordB (fun k e => blazonref06_All.l3 k (strOfNums l) acc (p : Int) e 2) 2 (by simp [wordB, h3]) (by rw [hr]; simp only [firstS]; rw [if_neg h1, if_neg h2, if_pos h3]) ?_ ?_
            · intro k e he
              have hce := rd_byte hb (e : Int)
              simp only [blazonref06_All.l3, put6]
              rw [if_pos (by omega), if_pos (by omega), bt_str l hb, rletter_tells _ hce.1 hce.2, rdigit_tells, wrap64_id (by omega) (by omega), show ((e : Int) + 1) = ((e + 1 : Nat) : Int) by omega, Option.bind_some, Option.bind_some]
              generalize rd l (e : Int) = c
              by_cases a1 : letterB c = true
              · rw [if_pos a1, if_pos (show wordB c = true by simp [wordB, a1])]
              · rw [if_neg a1]
                by_cases a2 : digitB c = true
                · rw [if_pos a2, if_pos (show wordB c = true by simp [wordB, a2])]
                · rw [if_neg a2, if_neg (show ¬ (wordB c = true) by simp [wordB, a1, a2])]
            · intro k
              simp only [blazonref06_All.l3, put6]
              rw [if_neg (by omega)]
          · rw [if_neg h3, rdigit_tells, Option.bind_some]
            by_cases h4 : digitB (rd l (p : Int)) = true
            · rw [if_pos h4]
              refine run digitB (fun k e => blazonref06_All.l4 k (strOfNums l) acc (p : Int) e 3) 3 h4 (by rw [hr]; simp only [firstS]; rw [if_neg h1, if_neg h2, if_neg h3, if_pos h4]) ?_ ?_
              · intro k e he
                simp only [blazonref06_All.l4, put6]
                rw [if_pos (by omega), if_pos (by omega), bt_str l hb, rdigit_tells, wrap64_id (by omega) (by omega), show ((e : Int) + 1) = ((e + 1 : Nat) : Int) by omega, Option.bind_some]
              · intro k
                simp only [blazonref06_All.l4, put6]
                rw [if_neg (by omega)]
            · rw [if_neg h4, if_pos (by omega), if_pos (by omega)]
              have hx : (strOfNums l).extract (p : Int).toNat (strOfNums l).size = strOfNums (rd l (p : Int) :: l.drop (p + 1)) := by
                rw [strOfNums_size, Int.toNat_natCast, extract_str, List.take_length, hr]
              rw [hx, sign_tells k (by omega) _ _ hbd, Option.bind_some]
              have hfs : firstS (l.drop p) = if two2 (rd l (p : Int)) (l.drop (p + 1)) then (4, 2) else if oneB (rd l (p : Int)) then (4, 1) else (5, 1) := by
                rw [hr]
                cases l.drop (p + 1) with
                | nil => simp only [firstS, two2]; rw [if_neg h1, if_neg h2, if_neg h3, if_neg h4]; simp
                | cons b r => simp only [firstS, two2]; rw [if_neg h1, if_neg h2, if_neg h3, if_neg h4]; rfl
              unfold put6 at fin
              rw [hfs] at fin
              by_cases h5 : two2 (rd l (p : Int)) (l.drop (p + 1)) = true
              · simp only [h5, if_true] at fin ⊢
                rw [if_pos (by decide), wrap64_id (by omega) (by omega)]
                exact fin 4 rfl k (by omega)
              · simp only [h5] at fin ⊢
                by_cases h6 : oneB (rd l (p : Int)) = true
                · simp only [h6, if_true] at fin ⊢
                  simp only [Bool.false_eq_true, if_false] at fin ⊢
                  rw [if_pos (by decide), wrap64_id (by omega) (by omega)]
                  exact fin 4 rfl k (by omega)
                · simp only [h6] at fin ⊢
                  simp only [Bool.false_eq_true, if_false] at fin ⊢
                  rw [if_neg (by decide)]
                  exact fin 5 rfl k (by omega)
    · obtain ⟨k, rfl⟩ : ∃ n, k = n + 1 := ⟨k - 1, by omega⟩
      simp only [blazonref06_All.l0]
      rw [if_neg (by omega), List.drop_eq_nil_of_le (by omega), toks_nil]
      simp
theorem all6_tells (k : Nat) (l : List Int) (hb : Bytes l) (hl : l.length ≤ 100000) (hk : 4 * l.length + 100 < k) : blazonref06_All.f k (strOfNums l) = some (toks 0 l) := by
  have := all6_l0 l hb hl l.length k 0 [] (by omega) (by omega) hk (by simp)
  simpa [blazonref06_All.f] using this
theorem live6_l0 (l : List S28) (hl : l.length ≤ 1000000) (d : Nat) : ∀ (k i : Nat) (acc : List S28), i ≤ l.length → l.length - i = d → d < k → acc.length ≤ i → blazonref06_Live.l0 k l acc (i : Int) = some (acc ++ liveS (l.drop i)) := by
  induction d with
  | zero =>
    intro k i acc hi hd hk ha
    obtain ⟨k, rfl⟩ : ∃ n, k = n + 1 := ⟨k - 1, by omega⟩
    simp only [blazonref06_Live.l0]
    rw [if_neg (by omega), List.drop_eq_nil_of_le (by omega)]
    simp [liveS]
  | succ d ih =>
    intro k i acc hi hd hk ha
    obtain ⟨k, rfl⟩ : ∃ n, k = n + 1 := ⟨k - 1, by omega⟩
    simp only [blazonref06_Live.l0]
    rw [if_pos (by omega), if_pos (by omega), rdT_drop l i (by omega), wrap64_id (by omega) (by omega), show ((i : Int) + 1) = ((i + 1 : Nat) : Int) by omega]
    have hkeep := ih k (i + 1) (acc ++ [rd_T28 l (i : Int)]) (by omega) (by omega) (by omega) (by simp; omega)
    have hdrop := ih k (i + 1) acc (by omega) (by omega) (by omega) (by omega)
    generalize rd_T28 l (i : Int) = t at *
    have ht : (⟨t.f0, t.f1, t.f2⟩ : S28) = t := rfl
    rw [ht]
    unfold liveS at *
    rw [List.filter_cons]
    by_cases h0 : t.f0 > 1
    · rw [if_pos h0, if_pos (by omega), hkeep, if_pos (show (t.f0 != 0 && t.f0 != 1) = true by simp; omega)]; simp
    · rw [if_neg h0]
      by_cases h1 : t.f0 < 0
      · rw [if_pos h1, if_pos (by omega), hkeep, if_pos (show (t.f0 != 0 && t.f0 != 1) = true by simp; omega)]; simp
      · rw [if_neg h1, hdrop, if_neg (show ¬ ((t.f0 != 0 && t.f0 != 1) = true) by simp; omega)]
theorem live6_tells (k : Nat) (l : List S28) (hl : l.length ≤ 1000000) (hk : l.length < k) : blazonref06_Live.f k l = some (liveS l) := by
  have := live6_l0 l hl l.length k 0 [] (by omega) (by omega) hk (by simp)
  simpa [blazonref06_Live.f] using this
theorem same1_l0 (l : List Int) (hb : l.length ≤ 1000000000000000) (d : Nat) :
    ∀ (k i : Nat), i ≤ l.length → l.length - i = d → d < k → blazonref01_Same.l0 k l l (i : Int) = some true := by
  induction d with
  | zero =>
    intro k i hi hd hk
    obtain ⟨k, rfl⟩ : ∃ n, k = n + 1 := ⟨k - 1, by omega⟩
    simp only [blazonref01_Same.l0]
    rw [if_neg (by omega)]
  | succ d ih =>
    intro k i hi hd hk
    obtain ⟨k, rfl⟩ : ∃ n, k = n + 1 := ⟨k - 1, by omega⟩
    simp only [blazonref01_Same.l0]
    rw [if_pos (by omega), if_pos (by omega), if_pos trivial, wrap64_id (by omega) (by omega)]
    have := ih k (i + 1) (by omega) (by omega) (by omega)
    rw [show ((i : Int) + 1) = ((i + 1 : Nat) : Int) by omega, this, if_pos (by omega)]
theorem same1_self (k : Nat) (l : List Int) (hb : l.length ≤ 1000000000000000) (hk : l.length < k) : blazonref01_Same.f k l l = some true := by
  unfold blazonref01_Same.f
  rw [if_pos rfl]
  exact same1_l0 l hb l.length k 0 (by omega) (by omega) hk
def bad3 : Option S28 → Int × Int × Int × Bool
  | none => (0, 0, 0, false)
  | some t => (t.f0, t.f1, t.f2, true)
theorem reads_l0 (l : List S28) (hl : l.length ≤ 10000) (B : Option S28) (x y z : Int) (b : Bool) (hx : bad3 B = (x, y, z, b)) (d : Nat) : ∀ (k i : Nat), i ≤ l.length → l.length - i = d → d + 200 < k → badS (l.drop i) = B →
    blazonlaw06_LexReads.l0 k l b (i : Int) x y z = some true := by
  induction d with
  | zero =>
    intro k i hi hd hk hB
    obtain ⟨k, rfl⟩ : ∃ n, k = n + 1 := ⟨k - 1, by omega⟩
    rw [List.drop_eq_nil_of_le (by omega)] at hB
    rw [← hB] at hx
    simp only [badS, bad3, Prod.mk.injEq] at hx
    obtain ⟨rfl, rfl, rfl, rfl⟩ := hx
    simp only [blazonlaw06_LexReads.l0]
    rw [if_neg (by omega), if_neg (by decide), if_pos (by decide), awake_true k (by omega), Option.bind_some]
  | succ d ih =>
    intro k i hi hd hk hB
    obtain ⟨k, rfl⟩ : ∃ n, k = n + 1 := ⟨k - 1, by omega⟩
    rw [rdT_drop l i (by omega)] at hB
    simp only [badS] at hB
    simp only [blazonlaw06_LexReads.l0]
    rw [if_pos (by omega), if_pos (by omega)]
    by_cases h : (rd_T28 l (i : Int)).f0 = 5
    · rw [if_pos h] at hB
      rw [← hB] at hx
      simp only [bad3, Prod.mk.injEq] at hx
      obtain ⟨rfl, rfl, rfl, rfl⟩ := hx
      rw [if_pos h, if_pos rfl, if_pos (by simp), awake_true k (by omega), Option.bind_some]
    · rw [if_neg h] at hB
      rw [if_neg h, wrap64_id (by omega) (by omega), show ((i : Int) + 1) = ((i + 1 : Nat) : Int) by omega]
      exact ih k (i + 1) (by omega) (by omega) (by omega) hB
theorem bind_s {α β : Type} (a : α) (f : α → Option β) : (some a).bind f = f a := by rw [Option.bind_some]
theorem lent_tells (l : List Int) (hl : l.length ≤ 2000) : blazonref01_Lent.f l = some l := by
  unfold blazonref01_Lent.f
  simp
  omega
theorem LexReads : blazonlaw06_LexReads.Pure := by
  intro l h1 h2 hb
  obtain ⟨k, hk⟩ : ∃ k : Nat, 20000 ≤ k := ⟨20000, Nat.le_refl _⟩
  refine ⟨k + 1, ?_⟩
  have hB := Bytes.of_wf hb
  unfold blazonlaw06_LexReads.f
  by_cases e : (l.length : Int) > 2000
  · rw [if_pos e, awake_true (k + 1) (by omega), bind_s]
  · have ht := toks_length _ 0 l (Nat.le_refl _)
    have hlv : (liveS (toks 0 l)).length ≤ (toks 0 l).length := List.length_filter_le _ _
    have hj : blazonlaw06_LexReads.j0 (k + 1) (toks 0 l) (toks 0 l) (!true) = some true := by
      simp only [blazonlaw06_LexReads.j0]
      rw [if_neg (by decide), bad_tells k _ (by omega) (by omega), bind_s]
      cases hb2 : badS (toks 0 l) with
      | none => exact reads_l0 (toks 0 l) (by omega) none 0 0 0 false rfl _ k 0 (by omega) rfl (by omega) (by simpa using hb2)
      | some t => exact reads_l0 (toks 0 l) (by omega) (some t) t.f0 t.f1 t.f2 true rfl _ k 0 (by omega) rfl (by omega) (by simpa using hb2)
    rw [if_neg e, lent_tells l (by omega), bind_s, all_tells (k + 1) l hB (by omega) (by omega), bind_s, all6_tells (k + 1) l hB (by omega) (by omega), bind_s, same_self (k + 1) _ (by omega) (by omega), bind_s, if_pos rfl]
    rw [live_tells (k + 1) _ (by omega) (by omega), bind_s, live6_tells (k + 1) _ (by omega) (by omega), bind_s, same_self (k + 1) _ (by omega) (by omega), bind_s, if_pos rfl]
    have hkept : blazonref01_Kept.f (k + 1) l l = some true := by
      unfold blazonref01_Kept.f
      rw [if_pos rfl]
      exact same1_self (k + 1) l (by omega) (by omega)
    rw [hkept, bind_s]
    exact hj

end Go.Proofs.Yteoccoklbmjiaaa.Pure

/-- The printed row names this lemma from its own namespace. -/
theorem Go.Proofs.Yteoccoklbmjiaaa.PrintWords.sized_ints {H : Type} {enc : Go.TypeId × Go.Value → H} {P : Go.Program} {W : Go.World} {base : Nat} {spare : Nat → Bool} {held : Bool} {t e : Go.TypeId} {k : Go.IntKind} {a : Option Go.Addr} {len cap : Nat} {d : Go.DataW H} {ps : List Go.MemPlace} {ts : List Go.TypeId} {ds : List (Go.DataW H)} {j : Nat}
    (hsz : (Go.DataW.weightsEach P ts ds).all (· ≤ Go.reachBytes) = true) (ht : ts[j]? = some t) (hd : ds[j]? = some d) (hu : P.underlying t = some (.slice e)) (he : P.underlying e = some (.int k)) (hc : P.cellsOf e = 1) {B : Nat} (hB : P.bytesOf e = B)
    (h : Go.DataW.Trod enc P W base spare held t (.slice a len cap) d ps) : len * B ≤ 140737488351232 :=
  Go.Proofs.YteoccoklbmjiaaaW.PrintWords.sized_ints hsz ht hd hu he hc hB h
