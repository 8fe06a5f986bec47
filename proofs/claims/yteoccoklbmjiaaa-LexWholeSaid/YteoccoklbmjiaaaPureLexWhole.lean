/- The texts of all tokens, one behind the other, are the bytes, and each one's tokens are that one alone; for all bytes that the row reads. -/
import Derived.Test.YteoccoklbmjiaaaPLexx4
import Derived.Test.YteoccoklbmjiaaaLexBase
import Derived.OpenShut
import Derived.Laws.BitsLemmas
import Derived.Laws.BitsAllLaws
import Derived.Lib.Bytes
import Derived.Test.YteoccoklbmjiaaaWSized
set_option linter.unusedVariables false
set_option linter.unusedSimpArgs false
namespace Go.Proofs.Yteoccoklbmjiaaa.Pure
open Go.RowKit Go.Proofs.Yteoccoklbmjiaaa.PLex Go.Proofs.YteoccoklbmjiaaaW.PrintWords Go.Proofs.YteoccoklbmjiaaaW.PrintLast

theorem take_takeWhile (p : Int → Bool) (l : List Int) : l.take (l.takeWhile p).length = l.takeWhile p := by
  induction l with
  | nil => rfl
  | cons c r ih =>
    rw [List.takeWhile_cons]
    split
    · simp [ih]
    · simp
theorem takeWhile_twice (p : Int → Bool) (l : List Int) : (l.takeWhile p).takeWhile p = l.takeWhile p := by
  induction l with
  | nil => rfl
  | cons c r ih =>
    rw [List.takeWhile_cons]
    split
    · rename_i h
      rw [List.takeWhile_cons, if_pos h, ih]
    · rfl
/-- A token's bytes are that token. -/
theorem firstS_take (l : List Int) (h0 : 0 < l.length) : firstS (l.take (firstS l).2) = firstS l := by
  match l, h0 with
  | c :: r, _ =>
    have key : ∀ p : Int → Bool, p c = true → (c :: r).take ((c :: r).takeWhile p).length = c :: r.takeWhile p ∧ ((c :: r.takeWhile p).takeWhile p).length = ((c :: r).takeWhile p).length := by
      intro p hp
      rw [take_takeWhile]
      have e : (c :: r).takeWhile p = c :: r.takeWhile p := by rw [List.takeWhile_cons, if_pos hp]
      rw [e]
      refine ⟨rfl, ?_⟩
      rw [List.takeWhile_cons, if_pos hp, takeWhile_twice]
    by_cases h1 : blankB c = true
    · have e : firstS (c :: r) = (0, ((c :: r).takeWhile blankB).length) := by simp only [firstS]; rw [if_pos h1]
      obtain ⟨k1, k2⟩ := key blankB h1
      rw [e]
      simp only
      rw [k1]
      simp only [firstS]
      rw [if_pos h1, k2]
    · by_cases h2 : c = 35
      · have e : firstS (c :: r) = (1, ((c :: r).takeWhile lineB).length) := by simp only [firstS]; rw [if_neg h1, if_pos h2]
        obtain ⟨k1, k2⟩ := key lineB (by subst h2; decide)
        rw [e]
        simp only
        rw [k1]
        simp only [firstS]
        rw [if_neg h1, if_pos h2, k2]
      · by_cases h3 : letterB c = true
        · have e : firstS (c :: r) = (2, ((c :: r).takeWhile wordB).length) := by simp only [firstS]; rw [if_neg h1, if_neg h2, if_pos h3]
          obtain ⟨k1, k2⟩ := key wordB (by simp [wordB, h3])
          rw [e]
          simp only
          rw [k1]
          simp only [firstS]
          rw [if_neg h1, if_neg h2, if_pos h3, k2]
        · by_cases h4 : digitB c = true
          · have e : firstS (c :: r) = (3, ((c :: r).takeWhile digitB).length) := by simp only [firstS]; rw [if_neg h1, if_neg h2, if_neg h3, if_pos h4]
            obtain ⟨k1, k2⟩ := key digitB h4
            rw [e]
            simp only
            rw [k1]
            simp only [firstS]
            rw [if_neg h1, if_neg h2, if_neg h3, if_pos h4, k2]
          · have e1 : firstS [c] = if oneB c then (4, 1) else (5, 1) := by simp only [firstS]; rw [if_neg h1, if_neg h2, if_neg h3, if_neg h4]
            cases r with
            | nil => rw [e1]; by_cases h5 : oneB c = true <;> simp [h5, e1]
            | cons b r =>
              have e : ∀ r, firstS (c :: b :: r) = if twoB c b then (4, 2) else if oneB c then (4, 1) else (5, 1) := by intro r; simp only [firstS]; rw [if_neg h1, if_neg h2, if_neg h3, if_neg h4]
              rw [e r]
              by_cases h6 : twoB c b = true
              · rw [if_pos h6]
                show firstS [c, b] = _
                rw [e [], if_pos h6]
              · rw [if_neg h6]
                by_cases h5 : oneB c = true <;> simp [h5, e1]
theorem toks_single (l : List Int) (h0 : 0 < l.length) : toks 0 (l.take (firstS l).2) = [(⟨(firstS l).1, 0, ((firstS l).2 : Int)⟩ : S28)] := by
  have hf := firstS_len' l h0
  have h1 : 0 < (l.take (firstS l).2).length := by rw [List.length_take]; omega
  rw [toks_cons 0 _ h1, firstS_take l h0, List.drop_eq_nil_of_le (by rw [List.length_take]; omega), toks_nil]
  simp
theorem bytes_str (l : List Int) (h : Bytes l) : bytesOf (strOfNums l) = l := by
  unfold bytesOf
  rw [strOfNums_data]
  rw [List.map_map]
  conv => rhs; rw [← List.map_id l]
  apply List.map_congr_left
  intro x hx
  have := h x hx
  simp
  omega
theorem str_append (a b : List Int) : strOfNums a ++ strOfNums b = strOfNums (a ++ b) := by
  apply ByteArray.ext
  simp [strOfNums, ByteArray.data_append]
theorem law_l0 (l : List Int) (hb : Bytes l) (hl : l.length ≤ 2000) (d : Nat) : ∀ (k i p : Nat), p ≤ l.length → l.length - p ≤ d → d + 10000 < k → i ≤ p → (toks 0 l).drop i = toks p (l.drop p) → i ≤ (toks 0 l).length →
    blazonlaw06_LexWhole.l0 k l (toks 0 l) (strOfNums (l.take p)) (i : Int) = some true := by
  induction d with
  | zero =>
    intro k i p hp hd hk hip hT hi
    obtain ⟨k, rfl⟩ : ∃ n, k = n + 1 := ⟨k - 1, by omega⟩
    have hlen : (toks 0 l).length = i := by
      have := congrArg List.length hT
      rw [List.drop_eq_nil_of_le (show l.length ≤ p by omega), toks_nil, List.length_drop] at this
      simp only [List.length_nil] at this
      omega
    simp only [blazonlaw06_LexWhole.l0]
    rw [if_neg (by omega), List.take_of_length_le (by omega), if_pos rfl, awake_true k (by omega)]
    rfl
  | succ d ih =>
    intro k i p hp hd hk hip hT hi
    by_cases h : p < l.length
    · obtain ⟨k, rfl⟩ : ∃ n, k = n + 1 := ⟨k - 1, by omega⟩
      have h0 : 0 < (l.drop p).length := by rw [List.length_drop]; omega
      have hf := firstS_len' (l.drop p) h0
      have hf2 := hf.2
      rw [List.length_drop] at hf2
      rw [toks_cons p _ h0] at hT
      have hlt : i < (toks 0 l).length := by
        have := congrArg List.length hT
        rw [List.length_drop] at this
        simp only [List.length_cons] at this
        omega
      rw [rdT_drop _ i hlt] at hT
      injection hT with hh ht
      have htok := toks_length l.length 0 l (Nat.le_refl _)
      simp only [blazonlaw06_LexWhole.l0]
      rw [if_pos (by omega), if_pos (by omega), hh]
      simp only
      have hx : lex_Text.f l (firstS (l.drop p)).1 (p : Int) ((p + (firstS (l.drop p)).2 : Nat) : Int) = some (strOfNums ((l.drop p).take (firstS (l.drop p)).2)) := by
        unfold lex_Text.f
        rw [if_neg (by omega), if_neg (by omega), if_neg (by omega), if_pos (by omega), if_pos (by omega), if_pos (by omega), Int.toNat_natCast, Int.toNat_natCast]
        rw [List.drop_take]
        congr 3
        omega
      rw [hx]
      simp only [Option.bind_some]
      have hsz : (strOfNums ((l.drop p).take (firstS (l.drop p)).2)).size = (firstS (l.drop p)).2 := by rw [strOfNums_size, List.length_take, List.length_drop]; omega
      rw [hsz, if_pos (by omega), bytes_str _ ((hb.drop p).take _), all_tells k _ ((hb.drop p).take _) (by rw [List.length_take, List.length_drop]; omega) (by rw [List.length_take, List.length_drop]; omega), toks_single _ h0]
      simp only [Option.bind_some]
      have hp2 : (strOfNums (l.take p)).size = p := by rw [strOfNums_size, List.length_take]; omega
      rw [if_pos (by simp), if_pos (by simp), if_pos (by simp [rd_T28]), if_pos (by simp [rd_T28]), if_pos (by simp [rd_T28]), hp2, if_pos (by omega), wrap64_id (by omega) (by omega), str_append]
      have := ih k (i + 1) (p + (firstS (l.drop p)).2) (by omega) (by omega) (by omega) (by omega) (by rw [ht, List.drop_drop, Nat.add_comm]) (by omega)
      rw [show l.take p ++ (l.drop p).take (firstS (l.drop p)).2 = l.take (p + (firstS (l.drop p)).2) by rw [List.take_add]]
      rw [show ((i : Int) + 1) = ((i + 1 : Nat) : Int) by omega]
      exact this
    · exact ih k i p hp (by omega) (by omega) hip hT hi
theorem LexWhole : blazonlaw06_LexWhole.Pure := by
  intro l h1 h2 hb
  refine ⟨20000, ?_⟩
  unfold blazonlaw06_LexWhole.f
  by_cases e : (l.length : Int) > 2000
  · rw [if_pos e, awake_true 20000 (by decide)]
    rfl
  · have hB := Bytes.of_wf hb
    rw [if_neg e, all_tells 20000 l hB (by omega) (by omega)]
    simp only [Option.bind_some]
    have := law_l0 l hB (by omega) l.length 20000 0 0 (by omega) (by omega) (by omega) (by omega) (by simp) (by omega)
    simpa [strOfNums] using this

end Go.Proofs.Yteoccoklbmjiaaa.Pure

/-- The printed row names this lemma from its own namespace. -/
theorem Go.Proofs.Yteoccoklbmjiaaa.PrintWords.sized_ints {H : Type} {enc : Go.TypeId × Go.Value → H} {P : Go.Program} {W : Go.World} {base : Nat} {spare : Nat → Bool} {held : Bool} {t e : Go.TypeId} {k : Go.IntKind} {a : Option Go.Addr} {len cap : Nat} {d : Go.DataW H} {ps : List Go.MemPlace} {ts : List Go.TypeId} {ds : List (Go.DataW H)} {j : Nat}
    (hsz : (Go.DataW.weightsEach P ts ds).all (· ≤ Go.reachBytes) = true) (ht : ts[j]? = some t) (hd : ds[j]? = some d) (hu : P.underlying t = some (.slice e)) (he : P.underlying e = some (.int k)) (hc : P.cellsOf e = 1) {B : Nat} (hB : P.bytesOf e = B)
    (h : Go.DataW.Trod enc P W base spare held t (.slice a len cap) d ps) : len * B ≤ 140737488351232 :=
  Go.Proofs.YteoccoklbmjiaaaW.PrintWords.sized_ints hsz ht hd hu he hc hB h
