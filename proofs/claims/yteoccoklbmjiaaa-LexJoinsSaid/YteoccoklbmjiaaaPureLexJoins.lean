/- Two texts joined by a new line read as the one and then the other. -/
import Derived.Test.YteoccoklbmjiaaaPLexx8
import Derived.Test.YteoccoklbmjiaaaLexBase
import Derived.OpenShut
import Derived.Laws.BitsLemmas
import Derived.Laws.BitsAllLaws
import Derived.Lib.Bytes
import Derived.Test.YteoccoklbmjiaaaWSized
set_option linter.unusedVariables false
set_option linter.unusedSimpArgs false
namespace Go.Proofs.Yteoccoklbmjiaaa.Pure
open Go.RowKit Go.Proofs.Yteoccoklbmjiaaa.PLex Go.Proofs.YteoccoklbmjiaaaW.PrintWords Go.Proofs.YteoccoklbmjiaaaW.PrintLast

/-- The tokens that count. -/
def liveS (l : List S28) : List S28 := l.filter fun t => t.f0 != 0 && t.f0 != 1
theorem live_l0 (l : List S28) (hl : l.length ≤ 1000000) (d : Nat) : ∀ (k i : Nat) (acc : List S28), i ≤ l.length → l.length - i = d → d < k → acc.length ≤ i → lex_Live.l0 k acc l (l.length : Int) (i : Int) = some (acc ++ liveS (l.drop i)) := by
  induction d with
  | zero =>
    intro k i acc hi hd hk ha
    obtain ⟨k, rfl⟩ : ∃ n, k = n + 1 := ⟨k - 1, by omega⟩
    simp only [lex_Live.l0]
    rw [if_neg (by omega), List.drop_eq_nil_of_le (by omega)]
    simp [liveS]
  | succ d ih =>
    intro k i acc hi hd hk ha
    obtain ⟨k, rfl⟩ : ∃ n, k = n + 1 := ⟨k - 1, by omega⟩
    simp only [lex_Live.l0]
    rw [if_pos (by omega), if_pos (by omega), if_pos (by omega), rdT_drop l i (by omega), wrap64_id (by omega) (by omega), show ((i : Int) + 1) = ((i + 1 : Nat) : Int) by omega]
    by_cases h0 : (rd_T28 l (i : Int)).f0 = 0
    · rw [if_pos h0, ih k (i + 1) acc (by omega) (by omega) (by omega) (by omega)]
      simp [liveS, h0]
    · rw [if_neg h0]
      by_cases h1 : (rd_T28 l (i : Int)).f0 = 1
      · rw [if_pos h1, ih k (i + 1) acc (by omega) (by omega) (by omega) (by omega)]
        simp [liveS, h1]
      · rw [if_neg h1, if_pos (by omega), ih k (i + 1) _ (by omega) (by omega) (by omega) (by simp; omega)]
        simp [liveS, h0, h1]
theorem live_tells (k : Nat) (l : List S28) (hl : l.length ≤ 1000000) (hk : l.length < k) : lex_Live.f k l = some (liveS l) := by
  have := live_l0 l hl l.length k 0 [] (by omega) (by omega) hk (by simp)
  simpa [lex_Live.f] using this
theorem take_takeWhile (p : Int → Bool) (l : List Int) : l.take (l.takeWhile p).length = l.takeWhile p := by
  induction l with
  | nil => rfl
  | cons c r ih =>
    rw [List.takeWhile_cons]
    split
    · simp [ih]
    · simp
/-- A token, so many places later. -/
def shift (m : Nat) (t : S28) : S28 := ⟨t.f0, t.f1 + m, t.f2 + m⟩
theorem toks_shift (m : Nat) (d : Nat) : ∀ (p : Nat) (l : List Int), l.length ≤ d → toks (p + m) l = (toks p l).map (shift m) := by
  induction d with
  | zero => intro p l h; rw [List.length_eq_zero_iff.1 (by omega : l.length = 0), toks_nil, toks_nil]; rfl
  | succ d ih =>
    intro p l h
    by_cases h0 : 0 < l.length
    · have hf := firstS_len' l h0
      rw [toks_cons _ l h0, toks_cons p l h0, show p + m + (firstS l).2 = p + (firstS l).2 + m by omega, ih (p + (firstS l).2) _ (by rw [List.length_drop]; omega)]
      simp only [List.map_cons, shift]
      congr 2 <;> omega
    · rw [List.length_eq_zero_iff.1 (by omega : l.length = 0), toks_nil, toks_nil]; rfl
theorem liveS_shift (m : Nat) (l : List S28) : liveS (l.map (shift m)) = (liveS l).map (shift m) := by
  induction l with
  | nil => rfl
  | cons t r ih =>
    simp only [List.map_cons]
    unfold liveS at *
    rw [List.filter_cons, List.filter_cons]
    by_cases h : (t.f0 != 0 && t.f0 != 1) = true
    · rw [if_pos h, if_pos (by simpa [shift] using h), ih]; rfl
    · rw [if_neg h, if_neg (by simpa [shift] using h), ih]
def lt (p : Nat) (l : List Int) : List S28 := liveS (toks p l)
theorem lt_nil (p : Nat) : lt p [] = [] := by unfold lt; rw [toks_nil]; rfl
theorem lt_step (p : Nat) (l : List Int) (h0 : 0 < l.length) : lt p l = (if (firstS l).1 = 0 ∨ (firstS l).1 = 1 then [] else [(⟨(firstS l).1, (p : Int), ((p + (firstS l).2 : Nat) : Int)⟩ : S28)]) ++ lt (p + (firstS l).2) (l.drop (firstS l).2) := by
  unfold lt
  rw [toks_cons p l h0]
  unfold liveS
  rw [List.filter_cons]
  by_cases h : (firstS l).1 = 0 ∨ (firstS l).1 = 1
  · rw [if_pos h, if_neg (by simp; omega)]; rfl
  · rw [if_neg h, if_pos (by simp; omega)]; rfl
theorem takeWhile_append_all (p : Int → Bool) (a b : List Int) (h : ∀ x ∈ a, p x = true) : (a ++ b).takeWhile p = a ++ b.takeWhile p := by
  induction a with
  | nil => rfl
  | cons c r ih =>
    simp only [List.cons_append]
    rw [List.takeWhile_cons, if_pos (h c (by simp)), ih (fun x hx => h x (by simp [hx]))]
theorem takeWhile_append_some (p : Int → Bool) (a b : List Int) (h : (a.takeWhile p).length < a.length) : (a ++ b).takeWhile p = a.takeWhile p := by
  induction a with
  | nil => simp at h
  | cons c r ih =>
    simp only [List.cons_append]
    rw [List.takeWhile_cons, List.takeWhile_cons]
    by_cases hc : p c = true
    · rw [if_pos hc, if_pos hc]
      rw [List.takeWhile_cons, if_pos hc] at h
      rw [ih (by simpa using h)]
    · rw [if_neg hc, if_neg hc]
theorem takeWhile_full (p : Int → Bool) (a : List Int) (h : ¬ (a.takeWhile p).length < a.length) : ∀ x ∈ a, p x = true := by
  induction a with
  | nil => simp
  | cons c r ih =>
    rw [List.takeWhile_cons] at h
    by_cases hc : p c = true
    · rw [if_pos hc] at h
      intro x hx
      rcases List.mem_cons.1 hx with rfl | hx
      · exact hc
      · exact ih (by simpa using h) x hx
    · rw [if_neg hc] at h
      simp at h
/-- Where a byte of the kind doesn't stand behind a, a's own run is it. -/
theorem takeWhile_stop (p : Int → Bool) (a b : List Int) (hp : p 10 = false) : (a ++ 10 :: b).takeWhile p = a.takeWhile p := by
  by_cases h : (a.takeWhile p).length < a.length
  · exact takeWhile_append_some p a _ h
  · have hall := takeWhile_full p a h
    rw [takeWhile_append_all p a _ hall, List.takeWhile_cons, if_neg (by simp [hp])]
    have := take_takeWhile p a
    rw [List.take_of_length_le (by omega)] at this
    simp [← this]
theorem firstS_blank (c : Int) (r : List Int) (h : blankB c = true) : firstS (c :: r) = (0, ((c :: r).takeWhile blankB).length) := by simp only [firstS]; rw [if_pos h]
/-- Blanks ahead don't count. -/
theorem lt_blanks (p : Nat) (b : List Int) : lt p b = lt (p + (b.takeWhile blankB).length) (b.drop (b.takeWhile blankB).length) := by
  cases b with
  | nil => simp
  | cons c r =>
    by_cases h : blankB c = true
    · rw [lt_step p (c :: r) (by simp), firstS_blank c r h]
      simp
    · rw [List.takeWhile_cons, if_neg h]
      simp
theorem lt_ten (p : Nat) (b : List Int) : lt p (10 :: b) = lt (p + 1) b := by
  rw [lt_blanks p (10 :: b), lt_blanks (p + 1) b]
  have : (10 :: b).takeWhile blankB = 10 :: b.takeWhile blankB := by rw [List.takeWhile_cons, if_pos (by decide)]
  rw [this]
  simp only [List.length_cons, List.drop_succ_cons]
  congr 1
  omega
theorem lt_joins (d : Nat) : ∀ (p : Nat) (a b : List Int), a.length ≤ d → lt p (a ++ 10 :: b) = lt p a ++ lt (p + a.length + 1) b := by
  induction d with
  | zero =>
    intro p a b h
    rw [List.length_eq_zero_iff.1 (by omega : a.length = 0), lt_nil]
    simpa using lt_ten p b
  | succ d ih =>
    intro p a b h
    cases a with
    | nil => rw [lt_nil]; simpa using lt_ten p b
    | cons c r =>
      have hf := firstS_len c r
      -- where the first token is the same, the rest goes on
      have go : firstS ((c :: r) ++ 10 :: b) = firstS (c :: r) → lt p ((c :: r) ++ 10 :: b) = lt p (c :: r) ++ lt (p + (c :: r).length + 1) b := by
        intro he
        rw [lt_step p ((c :: r) ++ 10 :: b) (by simp), he, lt_step p (c :: r) (by simp), List.append_assoc]
        congr 1
        rw [List.drop_append_of_le_length hf.2, ih _ _ b (by rw [List.length_drop]; omega), List.length_drop]
        congr 2
        omega
      by_cases h1 : blankB c = true
      · by_cases hs : (((c :: r).takeWhile blankB).length < (c :: r).length)
        · apply go
          show firstS (c :: (r ++ 10 :: b)) = _
          rw [firstS_blank _ _ h1, firstS_blank _ _ h1]
          have := takeWhile_append_some blankB (c :: r) (10 :: b) hs
          rw [← this]; rfl
        · have hall := takeWhile_full blankB (c :: r) hs
          have h2 : ((c :: r) ++ 10 :: b).takeWhile blankB = (c :: r) ++ 10 :: b.takeWhile blankB := by
            rw [takeWhile_append_all blankB _ _ hall, List.takeWhile_cons, if_pos (by decide)]
          have h3 : (c :: r).takeWhile blankB = c :: r := by
            have := takeWhile_append_all blankB (c :: r) [] hall
            simpa using this
          rw [lt_blanks p ((c :: r) ++ 10 :: b), h2, lt_blanks p (c :: r), h3, lt_blanks (p + (c :: r).length + 1) b]
          have e1 : (((c :: r) ++ 10 :: b).drop ((c :: r) ++ 10 :: b.takeWhile blankB).length) = b.drop (b.takeWhile blankB).length := by
            rw [show ((c :: r) ++ 10 :: b.takeWhile blankB).length = (c :: r).length + ((b.takeWhile blankB).length + 1) by simp; omega, ← List.drop_drop, List.drop_left]
            rfl
          rw [e1, List.drop_length, lt_nil]
          simp only [List.nil_append]
          congr 1
          simp; omega
      · by_cases h2 : c = 35
        · apply go
          show firstS (c :: (r ++ 10 :: b)) = _
          have := takeWhile_stop lineB (c :: r) b (by decide)
          simp only [firstS]
          rw [if_neg h1, if_pos h2, if_neg h1, if_pos h2, ← this]; rfl
        · by_cases h3 : letterB c = true
          · apply go
            show firstS (c :: (r ++ 10 :: b)) = _
            have := takeWhile_stop wordB (c :: r) b (by decide)
            simp only [firstS]
            rw [if_neg h1, if_neg h2, if_pos h3, if_neg h1, if_neg h2, if_pos h3, ← this]; rfl
          · by_cases h4 : digitB c = true
            · apply go
              show firstS (c :: (r ++ 10 :: b)) = _
              have := takeWhile_stop digitB (c :: r) b (by decide)
              simp only [firstS]
              rw [if_neg h1, if_neg h2, if_neg h3, if_pos h4, if_neg h1, if_neg h2, if_neg h3, if_pos h4, ← this]; rfl
            · apply go
              cases r with
              | nil =>
                show firstS (c :: 10 :: b) = _
                have ht : twoB c 10 = false := by simp [twoB]
                simp only [firstS]
                rw [if_neg h1, if_neg h2, if_neg h3, if_neg h4, if_neg h1, if_neg h2, if_neg h3, if_neg h4, if_neg (by rw [ht]; decide)]
              | cons x r =>
                show firstS (c :: x :: (r ++ 10 :: b)) = _
                simp only [firstS]
                rw [if_neg h1, if_neg h2, if_neg h3, if_neg h4, if_neg h1, if_neg h2, if_neg h3, if_neg h4]
theorem same_l0 (l : List S28) (hb : l.length ≤ 1000000000000000) (d : Nat) :
    ∀ (k i : Nat), i ≤ l.length → l.length - i = d → d < k → blazonref06_Same.l0 k l l (i : Int) = some true := by
  induction d with
  | zero =>
    intro k i hi hd hk
    obtain ⟨k, rfl⟩ : ∃ n, k = n + 1 := ⟨k - 1, by omega⟩
    simp only [blazonref06_Same.l0]
    rw [if_neg (by omega)]
  | succ d ih =>
    intro k i hi hd hk
    obtain ⟨k, rfl⟩ : ∃ n, k = n + 1 := ⟨k - 1, by omega⟩
    simp only [blazonref06_Same.l0]
    rw [if_pos (by omega), if_pos (by omega), if_pos (by omega), if_neg (by simp), wrap64_id (by omega) (by omega)]
    have := ih k (i + 1) (by omega) (by omega) (by omega)
    rw [show ((i : Int) + 1) = ((i + 1 : Nat) : Int) by omega, this]
/-- What is the same answers so. -/
theorem same_self (k : Nat) (l : List S28) (hb : l.length ≤ 1000000000000000) (hk : l.length < k) : blazonref06_Same.f k l l = some true := by
  unfold blazonref06_Same.f
  rw [if_pos rfl]
  exact same_l0 l hb l.length k 0 (by omega) (by omega) hk


theorem liveS_length (l : List S28) : (liveS l).length ≤ l.length := List.length_filter_le _ _
/-- Every place of a token lies in the bytes. -/
theorem toks_in (n : Nat) (d : Nat) : ∀ (p : Nat) (l : List Int), l.length ≤ d → p + l.length ≤ n → ∀ t ∈ toks p l, 0 ≤ t.f1 ∧ t.f1 ≤ n ∧ 0 ≤ t.f2 ∧ t.f2 ≤ n := by
  induction d with
  | zero => intro p l h _; rw [List.length_eq_zero_iff.1 (by omega : l.length = 0), toks_nil]; simp
  | succ d ih =>
    intro p l h hn t ht
    by_cases h0 : 0 < l.length
    · have hf := firstS_len' l h0
      rw [toks_cons p l h0] at ht
      rcases List.mem_cons.1 ht with rfl | ht
      · simp only; omega
      · exact ih _ _ (by rw [List.length_drop]; omega) (by rw [List.length_drop]; omega) t ht
    · rw [List.length_eq_zero_iff.1 (by omega : l.length = 0), toks_nil] at ht; simp at ht
theorem joins_l0 (a : List Int) (x y : List S28) (ha : a.length ≤ 1000) (hx : x.length ≤ 10000) (hy : y.length ≤ 1000) (hin : ∀ t ∈ y, 0 ≤ t.f1 ∧ t.f1 ≤ 1000 ∧ 0 ≤ t.f2 ∧ t.f2 ≤ 1000) (d : Nat) :
    ∀ (k i : Nat) (acc : List S28), i ≤ y.length → y.length - i = d → d + 12000 < k → acc.length ≤ 10000 + i → x = acc ++ (y.drop i).map (shift (a.length + 1)) → blazonlaw06_LexJoins.l0 k a x acc y (i : Int) = some true := by
  induction d with
  | zero =>
    intro k i acc hi hd hk hacc he
    obtain ⟨k, rfl⟩ : ∃ n, k = n + 1 := ⟨k - 1, by omega⟩
    simp only [blazonlaw06_LexJoins.l0]
    rw [List.drop_eq_nil_of_le (by omega), List.map_nil, List.append_nil] at he
    rw [if_neg (by omega), ← he, same_self k x (by omega) (by omega)]
    simp only [Option.bind_some]
    rw [if_pos trivial, awake_true k (by omega)]
    rfl
  | succ d ih =>
    intro k i acc hi hd hk hacc he
    obtain ⟨k, rfl⟩ : ∃ n, k = n + 1 := ⟨k - 1, by omega⟩
    simp only [blazonlaw06_LexJoins.l0]
    have hmem : rd_T28 y (i : Int) ∈ y := by
      have := rdT_drop y i (by omega)
      exact List.mem_of_mem_drop (i := i) (by rw [this]; simp)
    have hb := hin _ hmem
    rw [if_pos (by omega), if_pos (by omega), if_pos (by omega)]
    rw [rdT_drop y i (by omega), List.map_cons] at he
    have e1 : wrap64 (wrap64 ((rd_T28 y (i : Int)).f1 + (a.length : Int)) + 1) = (rd_T28 y (i : Int)).f1 + ((a.length + 1 : Nat) : Int) := by
      rw [wrap64_id (x := (rd_T28 y (i : Int)).f1 + (a.length : Int)) (by omega) (by omega), wrap64_id (by omega) (by omega)]; omega
    have e2 : wrap64 (wrap64 ((rd_T28 y (i : Int)).f2 + (a.length : Int)) + 1) = (rd_T28 y (i : Int)).f2 + ((a.length + 1 : Nat) : Int) := by
      rw [wrap64_id (x := (rd_T28 y (i : Int)).f2 + (a.length : Int)) (by omega) (by omega), wrap64_id (by omega) (by omega)]; omega
    rw [e1, e2, wrap64_id (by omega) (by omega), show ((i : Int) + 1) = ((i + 1 : Nat) : Int) by omega]
    exact ih k (i + 1) _ (by omega) (by omega) (by omega) (by rw [List.length_append, List.length_singleton]; omega) (by rw [he]; simp [shift])
theorem bind_s {α β : Type} (a : α) (f : α → Option β) : (some a).bind f = f a := by rw [Option.bind_some]
theorem LexJoins : blazonlaw06_LexJoins.Pure := by
  intro a b h1 h2 hba h3 h4 hbb
  obtain ⟨k, hk⟩ : ∃ k : Nat, 20000 ≤ k := ⟨20000, Nat.le_refl _⟩
  refine ⟨k + 1, ?_⟩
  unfold blazonlaw06_LexJoins.f
  have hA := Bytes.of_wf hba
  have hB := Bytes.of_wf hbb
  by_cases ea : (a.length : Int) > 1000
  · rw [if_pos ea]
    simp only [blazonlaw06_LexJoins.j0]
    rw [if_pos trivial, awake_true k (by omega)]; rfl
  · rw [if_neg ea]
    simp only [blazonlaw06_LexJoins.j0]
    by_cases eb : (b.length : Int) > 1000
    · rw [if_pos (by simpa using eb), awake_true k (by omega)]; rfl
    · rw [if_neg (by simpa using eb)]
      simp only [Option.bind_some, List.nil_append]
      have hab : Bytes (a ++ [10] ++ b) := (hA.append (by intro x hx; simp at hx; omega)).append hB
      have hla : (a ++ [10] ++ b).length = a.length + 1 + b.length := by simp; omega
      rw [if_pos (by simp; omega), if_pos (by omega), if_pos (by simp; omega)]
      rw [all_tells k _ hab (by omega) (by omega), bind_s]
      have t1 := toks_length _ 0 (a ++ [10] ++ b) (Nat.le_refl _)
      have t2 := toks_length _ 0 a (Nat.le_refl _)
      have t3 := toks_length _ 0 b (Nat.le_refl _)
      rw [live_tells k _ (by omega) (by omega), bind_s, all_tells k a hA (by omega) (by omega), bind_s, live_tells k _ (by omega) (by omega), bind_s, all_tells k b hB (by omega) (by omega), bind_s, live_tells k _ (by omega) (by omega), bind_s]
      have l1 := liveS_length (toks 0 (a ++ [10] ++ b))
      have l2 := liveS_length (toks 0 a)
      have l3 := liveS_length (toks 0 b)
      have key : liveS (toks 0 (a ++ [10] ++ b)) = liveS (toks 0 a) ++ (liveS (toks 0 b)).map (shift (a.length + 1)) := by
        have := lt_joins a.length 0 a b (Nat.le_refl _)
        unfold lt at this
        rw [show a ++ [10] ++ b = a ++ 10 :: b by simp, this, show 0 + a.length + 1 = 0 + (a.length + 1) by omega, toks_shift (a.length + 1) b.length 0 b (Nat.le_refl _), liveS_shift]
      have hlen := congrArg List.length key
      rw [List.length_append, List.length_map] at hlen
      rw [wrap64_id (by omega) (by omega), if_pos (by omega)]
      exact joins_l0 a _ _ (by omega) (by omega) (by omega) (fun t ht => by
        have := toks_in 1000 b.length 0 b (Nat.le_refl _) (by omega) t (List.mem_filter.1 ht).1
        omega) _ k 0 _ (by omega) rfl (by omega) (by omega) (by rw [List.drop_zero]; exact key)

end Go.Proofs.Yteoccoklbmjiaaa.Pure

/-- The printed row names this lemma from its own namespace. -/
theorem Go.Proofs.Yteoccoklbmjiaaa.PrintWords.sized_ints {H : Type} {enc : Go.TypeId × Go.Value → H} {P : Go.Program} {W : Go.World} {base : Nat} {spare : Nat → Bool} {held : Bool} {t e : Go.TypeId} {k : Go.IntKind} {a : Option Go.Addr} {len cap : Nat} {d : Go.DataW H} {ps : List Go.MemPlace} {ts : List Go.TypeId} {ds : List (Go.DataW H)} {j : Nat}
    (hsz : (Go.DataW.weightsEach P ts ds).all (· ≤ Go.reachBytes) = true) (ht : ts[j]? = some t) (hd : ds[j]? = some d) (hu : P.underlying t = some (.slice e)) (he : P.underlying e = some (.int k)) (hc : P.cellsOf e = 1) {B : Nat} (hB : P.bytesOf e = B)
    (h : Go.DataW.Trod enc P W base spare held t (.slice a len cap) d ps) : len * B ≤ 140737488351232 :=
  Go.Proofs.YteoccoklbmjiaaaW.PrintWords.sized_ints hsz ht hd hu he hc hB h
