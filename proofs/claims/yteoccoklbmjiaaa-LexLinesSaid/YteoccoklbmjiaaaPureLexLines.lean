/- A place's line and column are as the loop counts them. -/
import Derived.Test.YteoccoklbmjiaaaPLexx10
import Derived.Test.YteoccoklbmjiaaaLexBase
import Derived.OpenShut
import Derived.Laws.BitsLemmas
import Derived.Laws.BitsAllLaws
import Derived.Lib.Bytes
import Derived.Test.YteoccoklbmjiaaaWSized
set_option linter.unusedVariables false
set_option linter.unusedSimpArgs false
namespace Go.Proofs.Yteoccoklbmjiaaa.Pure
open Go.RowKit Go.Proofs.Yteoccoklbmjiaaa.PLex Go.Proofs.YteoccoklbmjiaaaW.PrintWords Go.Proofs.YteoccoklbmjiaaaW.PrintLast

/-- How many new lines. -/
def tens : List Int → Nat
  | [] => 0
  | c :: r => (if c = 10 then 1 else 0) + tens r
def noTen (c : Int) : Bool := c != 10
/-- How many bytes behind the last new line. -/
def tailL (l : List Int) : Nat := (l.reverse.takeWhile noTen).length
theorem tens_snoc (l : List Int) (c : Int) : tens (l ++ [c]) = tens l + if c = 10 then 1 else 0 := by
  induction l with
  | nil => simp [tens]
  | cons x r ih =>
    simp only [List.cons_append, tens, ih]
    omega
theorem tens_le (l : List Int) : tens l ≤ l.length := by
  induction l with
  | nil => simp [tens]
  | cons x r ih =>
    simp only [tens, List.length_cons]
    split <;> omega
theorem tail_snoc (l : List Int) (c : Int) : tailL (l ++ [c]) = if c = 10 then 0 else tailL l + 1 := by
  unfold tailL
  rw [List.reverse_append, List.reverse_singleton, List.singleton_append, List.takeWhile_cons]
  by_cases h : c = 10
  · simp [h, noTen]
  · simp [h, noTen]
theorem tail_le (l : List Int) : tailL l ≤ l.length := by
  have := takeWhile_le noTen l.reverse
  rw [List.length_reverse] at this
  exact this
theorem take_snoc (l : List Int) (i : Nat) (h : i < l.length) : l.take (i + 1) = l.take i ++ [rd l (i : Int)] := by
  have e : rd l (i : Int) = l[i] := by simp [rd, List.getD_eq_getElem?_getD, h]
  rw [e, List.take_succ_eq_append_getElem h]
theorem count_tens (l : List Int) (hb : Bytes l) : ((Lib.countByte (Lib.bytesOf l) ((10 : Int).toNat.toUInt8) : Nat) : Int) = (tens l : Int) := by
  unfold Lib.countByte Lib.bytesOf
  induction l with
  | nil => rfl
  | cons c r ih =>
    have hc := hb c (by simp)
    have ih := ih (fun x hx => hb x (by simp [hx]))
    rw [List.map_cons, List.count_cons]
    simp only [tens]
    have hu := uint8_eq c 10 hc.1 hc.2 (by decide)
    have e : ((10 : Int).toNat.toUInt8) = UInt8.ofNat 10 := rfl
    rw [e] at ih ⊢
    by_cases h : c = 10
    · rw [if_pos h, if_pos (by simpa using hu.2 h)]; omega
    · rw [if_neg h, if_neg (by simpa using fun x => h (hu.1 x))]; omega
theorem last_l0 (l : List Int) (hl : l.length ≤ 1000000) (j : Nat) : ∀ (k : Nat), j ≤ l.length → j < k → bytealg_LastIndexByte.l0 k l 10 ((j : Int) - 1) = some ((j : Int) - 1 - (tailL (l.take j) : Int)) := by
  induction j with
  | zero =>
    intro k _ hk
    obtain ⟨k, rfl⟩ : ∃ n, k = n + 1 := ⟨k - 1, by omega⟩
    simp only [bytealg_LastIndexByte.l0]
    rw [if_neg (by omega)]
    simp [tailL]
  | succ j ih =>
    intro k hj hk
    obtain ⟨k, rfl⟩ : ∃ n, k = n + 1 := ⟨k - 1, by omega⟩
    simp only [bytealg_LastIndexByte.l0]
    rw [show (((j + 1 : Nat) : Int) - 1) = (j : Int) by omega, if_pos (by omega), if_pos (by omega), if_pos (by omega), take_snoc l j (by omega), tail_snoc]
    by_cases h : rd l (j : Int) = 10
    · rw [if_pos h, if_pos h]; simp
    · rw [if_neg h, if_neg h, wrap64_id (by omega) (by omega), ih k (by omega) (by omega)]
      congr 1
      omega
theorem line_tells (k : Nat) (l : List Int) (hb : Bytes l) (hl : l.length ≤ 1000000) (a : Int) (n : Nat) (hn : (n : Int) = mx 0 (mn a (l.length : Int))) (hn2 : n ≤ l.length) (hk : l.length < k) :
    lex_Line.f k l a = some (1 + (tens (l.take n) : Int), 1 + (tailL (l.take n) : Int)) := by
  unfold lex_Line.f
  rw [← hn, if_pos (by omega), if_pos (by omega), Int.toNat_natCast]
  have hlen : (l.take n).length = n := by rw [List.length_take]; omega
  have h1 := tens_le (l.take n)
  have h2 := tail_le (l.take n)
  have e1 : bytes_Count.f (l.take n) [10] = some ((tens (l.take n) : Nat) : Int) := by
    unfold bytes_Count.f
    rw [if_pos (by simp), ← count_tens (l.take n) (hb.take n)]
    rfl
  have e2 : bytes_LastIndexByte.f k (l.take n) 10 = some ((n : Int) - 1 - (tailL (l.take n) : Int)) := by
    unfold bytes_LastIndexByte.f bytealg_LastIndexByte.f
    rw [hlen, wrap64_id (by omega) (by omega)]
    have := last_l0 (l.take n) (by omega) n k (by omega) (by omega)
    rw [List.take_take, Nat.min_self] at this
    rw [this, Option.bind_some]
  rw [e1, Option.bind_some, e2, Option.bind_some, hlen, wrap64_id (by omega) (by omega), wrap64_id (by omega) (by omega)]
  congr 2
  omega
theorem lines_l0 (l : List Int) (hb : Bytes l) (hl : l.length ≤ 500) (a : Int) (n : Nat) (hn : (n : Int) = mx 0 (mn a (l.length : Int))) (hn2 : n ≤ l.length) (hlt : ∀ i : Nat, i < n → (i : Int) < a) (hge : n < l.length → ¬ (n : Int) < a) (d : Nat) :
    ∀ (k i : Nat), i ≤ n → n - i = d → 2 * d + 2000 < k → blazonlaw06_LexLines.l0 k l a (1 + (tens (l.take i) : Int)) (1 + (tailL (l.take i) : Int)) (i : Int) = some true := by
  induction d with
  | zero =>
    intro k i hi hd hk
    obtain rfl : i = n := by omega
    obtain ⟨k, rfl⟩ : ∃ n, k = n + 2 := ⟨k - 2, by omega⟩
    have hj : blazonlaw06_LexLines.j1 (k + 1) l a (1 + (tens (l.take i) : Int)) (1 + (tailL (l.take i) : Int)) (i : Int) false = some true := by
      simp only [blazonlaw06_LexLines.j1]
      rw [if_neg (by decide), line_tells k l hb (by omega) a i hn hn2 (by omega), Option.bind_some, if_pos rfl, if_pos rfl, awake_true k (by omega), Option.bind_some]
    simp only [blazonlaw06_LexLines.l0]
    by_cases h : (i : Int) < (l.length : Int)
    · rw [if_pos h, decide_eq_false (hge (by omega)), hj]
    · rw [if_neg h, hj]
  | succ d ih =>
    intro k i hi hd hk
    obtain ⟨k, rfl⟩ : ∃ n, k = n + 2 := ⟨k - 2, by omega⟩
    have h1 := tens_le (l.take i)
    have h2 := tail_le (l.take i)
    rw [List.length_take] at h1 h2
    simp only [blazonlaw06_LexLines.l0]
    rw [if_pos (by omega), decide_eq_true (hlt i (by omega))]
    simp only [blazonlaw06_LexLines.j1]
    rw [if_pos trivial, if_pos (by omega), if_pos (by omega)]
    have := ih k (i + 1) (by omega) (by omega) (by omega)
    rw [take_snoc l i (by omega), tens_snoc, tail_snoc] at this
    by_cases h : rd l (i : Int) = 10
    · rw [if_pos h, if_pos h] at this
      rw [if_pos h, wrap64_id (by omega) (by omega), wrap64_id (by omega) (by omega), ← this]
      rfl
    · rw [if_neg h, if_neg h] at this
      rw [if_neg h, wrap64_id (by omega) (by omega), wrap64_id (by omega) (by omega), ← this]
      rfl
theorem LexLines : blazonlaw06_LexLines.Pure := by
  intro l a h1 h2 hb ha
  obtain ⟨k, hk⟩ : ∃ k : Nat, 20000 ≤ k := ⟨20000, Nat.le_refl _⟩
  refine ⟨k, ?_⟩
  have hB := Bytes.of_wf hb
  unfold blazonlaw06_LexLines.f
  by_cases e : (l.length : Int) > 500
  · rw [if_pos e, awake_true k (by omega), Option.bind_some]
  · rw [if_neg e]
    have hm : mx 0 (mn a (l.length : Int)) = if a < 0 then 0 else if a < (l.length : Int) then a else (l.length : Int) := by
      unfold mx mn
      repeat' split
      all_goals omega
    obtain ⟨n, hn⟩ : ∃ n : Nat, (n : Int) = mx 0 (mn a (l.length : Int)) := ⟨(mx 0 (mn a (l.length : Int))).toNat, by rw [hm]; repeat' split; all_goals omega⟩
    have hn' := hn
    rw [hm] at hn'
    have hn2 : n ≤ l.length := by
      revert hn'
      repeat' split
      all_goals intro; omega
    have := lines_l0 l hB (by omega) a n hn hn2 (by intro i hi; revert hn'; repeat' split
                                                    all_goals intro; omega) (by intro hi; revert hn'; repeat' split
                                                                                all_goals intro; omega) n k 0 (by omega) (by omega) (by omega)
    simpa [tens, tailL] using this

end Go.Proofs.Yteoccoklbmjiaaa.Pure

/-- The printed row names this lemma from its own namespace. -/
theorem Go.Proofs.Yteoccoklbmjiaaa.PrintWords.sized_ints {H : Type} {enc : Go.TypeId × Go.Value → H} {P : Go.Program} {W : Go.World} {base : Nat} {spare : Nat → Bool} {held : Bool} {t e : Go.TypeId} {k : Go.IntKind} {a : Option Go.Addr} {len cap : Nat} {d : Go.DataW H} {ps : List Go.MemPlace} {ts : List Go.TypeId} {ds : List (Go.DataW H)} {j : Nat}
    (hsz : (Go.DataW.weightsEach P ts ds).all (· ≤ Go.reachBytes) = true) (ht : ts[j]? = some t) (hd : ds[j]? = some d) (hu : P.underlying t = some (.slice e)) (he : P.underlying e = some (.int k)) (hc : P.cellsOf e = 1) {B : Nat} (hB : P.bytesOf e = B)
    (h : Go.DataW.Trod enc P W base spare held t (.slice a len cap) d ps) : len * B ≤ 140737488351232 :=
  Go.Proofs.YteoccoklbmjiaaaW.PrintWords.sized_ints hsz ht hd hu he hc hB h
