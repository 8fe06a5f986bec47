/- The set of two rows together has just what each of them has (of 80 effects, 40 names each). -/
import Derived.Test.YtnhcpdepjpfcfaaPRowx1
import Derived.Test.YtnhcpdepjpfcfaaPRowx2
import Derived.Test.YtnhcpdepjpfcfaaPRowx3
import Derived.Test.YtnhcpdepjpfcfaaPRowx4
import Derived.Test.YtnhcpdepjpfcfaaPRowx5
import Derived.Test.YtnhcpdepjpfcfaaPRowx6
import Derived.OpenShut
import Derived.Laws.BitsLemmas
import Derived.Laws.BitsAllLaws
import Derived.Lib.Bytes
import Derived.Test.YtnhcpdepjpfcfaaWSized
set_option linter.unusedVariables false
set_option linter.unusedSimpArgs false
namespace Go.Proofs.Ytnhcpdepjpfcfaa.Pure
open Go.RowKit Go.Proofs.Ytnhcpdepjpfcfaa.PRow Go.Proofs.YtnhcpdepjpfcfaaW.PrintWords Go.Proofs.YtnhcpdepjpfcfaaW.PrintLast

theorem wrap64_id {x : Int} (h0 : -9223372036854775808 ≤ x) (h1 : x ≤ 9223372036854775807) : wrap64 x = x := by unfold wrap64; omega
theorem u64w_id {x : Int} (h0 : 0 ≤ x) (h1 : x < 18446744073709551616) : IntKind.u64.wrap x = x := by
  simp [IntKind.wrap, IntKind.bits, IntKind.signed]; omega
theorem u64w_nat {n : Nat} (h : n < 2 ^ 64) : IntKind.u64.wrap (n : Int) = (n : Int) := u64w_id (by omega) (by omega)
theorem byte_all (p : Int → Prop) (h : ∀ b : Fin 256, p ((b.val : Nat) : Int)) (c : Int) (h0 : 0 ≤ c) (h1 : c < 256) : p c := by
  have := h ⟨c.toNat, by omega⟩
  simp only at this
  rwa [show ((c.toNat : Nat) : Int) = c by omega] at this
def letterB (c : Int) : Bool := (decide (97 ≤ c) && decide (c ≤ 122)) || (decide (65 ≤ c) && decide (c ≤ 90)) || c == 95
def digitB (c : Int) : Bool := decide (48 ≤ c) && decide (c ≤ 57)
def wordB (c : Int) : Bool := letterB c || digitB c
theorem digit_tells (c : Int) : lex_digit.f c = some (digitB c) := by
  unfold lex_digit.f digitB
  by_cases h : c ≥ 48
  · simp [h]
  · simp [h]
theorem letter_tells (c : Int) (h0 : 0 ≤ c) (h1 : c < 256) : lex_letter.f c = some (letterB c) :=
  byte_all (fun c => lex_letter.f c = some (letterB c)) (by decide +kernel) c h0 h1
theorem ident1_tells (c : Int) (h0 : 0 ≤ c) (h1 : c < 256) : lex_Ident_1.f c = some (wordB c) := by
  unfold lex_Ident_1.f wordB
  rw [letter_tells c h0 h1, digit_tells]
  cases letterB c <;> simp
def KW : List ByteArray := [(⟨#[105, 109, 112, 111, 114, 116]⟩ : ByteArray), (⟨#[108, 97, 116, 116, 105, 99, 101]⟩ : ByteArray), (⟨#[101, 102, 102, 101, 99, 116, 115]⟩ : ByteArray), (⟨#[118, 97, 114]⟩ : ByteArray), (⟨#[102, 110]⟩ : ByteArray), (⟨#[108, 101, 116]⟩ : ByteArray), (⟨#[105, 102]⟩ : ByteArray), (⟨#[101, 108, 115, 101]⟩ : ByteArray), (⟨#[119, 104, 105, 108, 101]⟩ : ByteArray), (⟨#[114, 101, 116, 117, 114, 110]⟩ : ByteArray), (⟨#[100, 111]⟩ : ByteArray), (⟨#[116, 114, 117, 101]⟩ : ByteArray), (⟨#[102, 97, 108, 115, 101]⟩ : ByteArray), (⟨#[105, 110, 116]⟩ : ByteArray), (⟨#[98, 111, 111, 108]⟩ : ByteArray), (⟨#[100, 101, 99, 108, 97, 115, 115, 105, 102, 121]⟩ : ByteArray)]
/-- Is it a word of the language? -/
def kw (x : ByteArray) : Bool := KW.any fun y => decide (x = y)
theorem kwj (b : Bool) : lex_Keyword.j0 b = some b := by cases b <;> rfl
theorem ite_or {c : Prop} [Decidable c] {X : Option Bool} {b : Bool} (h : X = some b) : (if c then lex_Keyword.j0 true else X) = some (decide c || b) := by
  by_cases hc : c
  · rw [if_pos hc, decide_eq_true hc]; rfl
  · rw [if_neg hc, decide_eq_false hc, h]; rfl
theorem kw_tells (x : ByteArray) : lex_Keyword.f x = some (kw x) := by
  unfold lex_Keyword.f kw KW
  simp only [List.any_cons, List.any_nil]
  repeat refine ite_or ?_
  rw [kwj, Bool.or_false]
theorem run_tells (l : List Int) (hl : ∀ x ∈ l, 0 ≤ x ∧ x < 256) (hn : l.length ≤ 1000000) (d : Nat) : ∀ (k i : Nat), i ≤ l.length → l.length - i = d → 2 * d + 2 ≤ k →
    lex_run_lex_Ident_1.l0 k l (i : Int) = some ((i + ((l.drop i).takeWhile wordB).length : Nat) : Int) := by
  induction d with
  | zero =>
    intro k i hi hd hk
    obtain ⟨k, rfl⟩ : ∃ n, k = n + 2 := ⟨k - 2, by omega⟩
    rw [lex_run_lex_Ident_1.l0, if_neg (by omega), lex_run_lex_Ident_1.j0, if_neg (by decide), List.drop_eq_nil_of_le (by omega)]
    simp
  | succ d ih =>
    intro k i hi hd hk
    obtain ⟨k, rfl⟩ : ∃ n, k = n + 2 := ⟨k - 2, by omega⟩
    have hr : rd l (i : Int) = l[i] := by simp [rd, List.getD_eq_getElem?_getD, show i < l.length by omega]
    have hx := hl l[i] (List.getElem_mem _)
    rw [lex_run_lex_Ident_1.l0, if_pos (by omega), if_pos (by omega), hr, ident1_tells _ hx.1 hx.2, Option.bind_some, lex_run_lex_Ident_1.j0, List.drop_eq_getElem_cons (by omega), List.takeWhile_cons]
    by_cases hw : wordB l[i] = true
    · rw [if_pos hw, if_pos hw, wrap64_id (by omega) (by omega), show (i : Int) + 1 = ((i + 1 : Nat) : Int) by omega, ih k (i + 1) (by omega) (by omega) (by omega)]
      simp; omega
    · rw [if_neg hw, if_neg hw]
      simp
theorem bytesOf_in (s : ByteArray) : ∀ x ∈ bytesOf s, 0 ≤ x ∧ x < 256 := by
  intro x hx
  unfold bytesOf at hx
  obtain ⟨b, _, rfl⟩ := List.mem_map.1 hx
  have := b.toNat_lt
  omega
theorem bytesOf_len (s : ByteArray) : (bytesOf s).length = s.size := by unfold bytesOf; rw [List.length_map, Array.length_toList]; rfl
theorem bt_in (x : ByteArray) (i : Int) : 0 ≤ bt x i ∧ bt x i < 256 := by have := bt_range x i; omega
/-- A name of a thing. -/
def identB (x : ByteArray) : Bool := decide (0 < x.size) && (decide (x.size ≤ 24) && (!kw x && (letterB (bt x 0) && (((bytesOf x).takeWhile wordB).length == x.size))))
theorem size0 (x : ByteArray) : x = (⟨#[]⟩ : ByteArray) ↔ x.size = 0 := by
  constructor
  · rintro rfl; rfl
  · intro h
    cases x with
    | mk a =>
      cases a with
      | mk l =>
        have : l.length = 0 := h
        rw [List.length_eq_zero_iff.1 this]
theorem ident_tells (k : Nat) (x : ByteArray) (hk : 60 ≤ k) : lex_Ident.f k x = some (identB x) := by
  obtain ⟨k, rfl⟩ : ∃ n, k = n + 1 := ⟨k - 1, by omega⟩
  unfold lex_Ident.f identB
  by_cases h0 : x.size = 0
  · rw [if_pos ((size0 x).2 h0), lex_Ident.j0, if_pos rfl]
    simp [h0]
  rw [if_neg (fun h => h0 ((size0 x).1 h))]
  by_cases h1 : (x.size : Int) > 24
  · rw [if_pos h1, lex_Ident.j0, if_pos rfl]
    have : ¬ x.size ≤ 24 := by omega
    simp [this]
  rw [if_neg h1, kw_tells, Option.bind_some]
  have hp : 0 < x.size := by omega
  have hle : x.size ≤ 24 := by omega
  by_cases h2 : kw x = true
  · rw [if_pos h2, lex_Ident.j0, if_pos rfl]; simp [h2]
  have hb := bt_in x 0
  rw [if_neg h2, if_pos (by omega), letter_tells _ hb.1 hb.2, Option.bind_some, lex_Ident.j0]
  by_cases h3 : letterB (bt x 0) = true
  · rw [if_neg (by simp [h3]), if_pos (by omega), Option.bind_some]
    have hr := run_tells (bytesOf x) (bytesOf_in x) (by rw [bytesOf_len]; omega) x.size k 0 (by omega) (by rw [bytesOf_len]; omega) (by omega)
    unfold lex_run_lex_Ident_1.f
    rw [show ((0 : Nat) : Int) = 0 from rfl] at hr
    rw [hr, Option.bind_some]
    simp only [hp, hle, h2, h3, List.drop_zero, Nat.zero_add, decide_true, Bool.true_and, Bool.not_false]
    congr 1
    rw [Bool.eq_iff_iff]; simp [h2]; omega
  · rw [if_pos (by simp [h3])]; simp [h3]

/-- Digits of a base, the least first. -/
def val (B : Nat) : List Nat → Nat
  | [] => 0
  | d :: r => d + B * val B r
theorem and_split (k a b c d : Nat) (ha : a < 2 ^ k) (hc : c < 2 ^ k) : (a + 2 ^ k * b) &&& (c + 2 ^ k * d) = (a &&& c) + 2 ^ k * (b &&& d) := by
  have h1 : ((a + 2 ^ k * b) &&& (c + 2 ^ k * d)) % 2 ^ k = a &&& c := by
    rw [Nat.and_mod_two_pow, Nat.add_mul_mod_self_left, Nat.add_mul_mod_self_left, Nat.mod_eq_of_lt ha, Nat.mod_eq_of_lt hc]
  have h2 : ((a + 2 ^ k * b) &&& (c + 2 ^ k * d)) / 2 ^ k = b &&& d := by
    rw [Nat.and_div_two_pow, Nat.add_mul_div_left _ _ (Nat.two_pow_pos k), Nat.add_mul_div_left _ _ (Nat.two_pow_pos k), Nat.div_eq_of_lt ha, Nat.div_eq_of_lt hc, Nat.zero_add, Nat.zero_add]
  rw [← h1, ← h2]
  exact (Nat.mod_add_div _ _).symm
/-- Two digits in one. -/
def two (B : Nat) (ps : List (Nat × Nat)) : List Nat := ps.map fun p => p.1 + B * p.2
/-- Every other digit is let through. -/
def msk (B n : Nat) : Nat := val (B * B) (List.replicate n (B - 1))
theorem and_low (w n d : Nat) (h : d < 2 ^ w) : d &&& (2 ^ w - 1) = d := by
  rw [Nat.and_two_pow_sub_one_eq_mod, Nat.mod_eq_of_lt h]
theorem sq (w : Nat) : 2 ^ w * 2 ^ w = 2 ^ (w + w) := by rw [← Nat.pow_add]
theorem low_lt (w : Nat) : 2 ^ w - 1 < 2 ^ (w + w) := by
  have := Nat.two_pow_pos w
  have h2 : 2 ^ w ≤ 2 ^ (w + w) := Nat.pow_le_pow_right (by decide) (by omega)
  omega
theorem two_lt {w a b : Nat} (ha : a < 2 ^ w) (hb : b < 2 ^ w) : a + 2 ^ w * b < 2 ^ (w + w) := by
  rw [← sq]
  have : 2 ^ w * b ≤ 2 ^ w * (2 ^ w - 1) := Nat.mul_le_mul_left _ (by omega)
  have h1 : 2 ^ w * (2 ^ w - 1) + 2 ^ w = 2 ^ w * 2 ^ w := by
    have := Nat.two_pow_pos w
    rw [← Nat.mul_succ, Nat.succ_eq_add_one, Nat.sub_add_cancel (by omega)]
  omega
theorem even_and (w : Nat) : ∀ ps : List (Nat × Nat), (∀ p ∈ ps, p.1 < 2 ^ w ∧ p.2 < 2 ^ w) → val (2 ^ w * 2 ^ w) (two (2 ^ w) ps) &&& msk (2 ^ w) ps.length = val (2 ^ w * 2 ^ w) (ps.map (·.1))
  | [], _ => by simp [two, val, msk]
  | p :: ps, h => by
    have hp := h p (by simp)
    have ih := even_and w ps (fun q hq => h q (by simp [hq]))
    unfold msk at ih ⊢
    simp only [two, List.map_cons, List.length_cons, List.replicate_succ, val]
    rw [sq] at ih ⊢
    rw [and_split _ _ _ _ _ (two_lt hp.1 hp.2) (low_lt w)]
    unfold two at ih
    rw [ih]
    congr 1
    have : (p.1 + 2 ^ w * p.2) &&& (2 ^ w - 1) = p.1 := by rw [Nat.and_two_pow_sub_one_eq_mod, Nat.add_mul_mod_self_left, Nat.mod_eq_of_lt hp.1]
    exact this
theorem odd_and (w : Nat) : ∀ ps : List (Nat × Nat), (∀ p ∈ ps, p.1 < 2 ^ w ∧ p.2 < 2 ^ w) → (val (2 ^ w * 2 ^ w) (two (2 ^ w) ps) / 2 ^ w) &&& msk (2 ^ w) ps.length = val (2 ^ w * 2 ^ w) (ps.map (·.2))
  | [], _ => by simp [two, val, msk]
  | p :: ps, h => by
    have hp := h p (by simp)
    have ih := odd_and w ps (fun q hq => h q (by simp [hq]))
    unfold msk at ih ⊢
    simp only [two, List.map_cons, List.length_cons, List.replicate_succ, val]
    unfold two at ih
    generalize val (2 ^ w * 2 ^ w) (ps.map fun p => p.1 + 2 ^ w * p.2) = R at ih ⊢
    have e : (p.1 + 2 ^ w * p.2 + 2 ^ w * 2 ^ w * R) / 2 ^ w = (p.2 + 2 ^ w * (R % 2 ^ w)) + 2 ^ w * 2 ^ w * (R / 2 ^ w) := by
      rw [Nat.mul_assoc, Nat.add_assoc, ← Nat.mul_add, Nat.add_mul_div_left _ _ (Nat.two_pow_pos w), Nat.div_eq_of_lt hp.1, Nat.zero_add]
      have := Nat.mod_add_div R (2 ^ w)
      rw [Nat.mul_assoc, Nat.add_assoc, ← Nat.mul_add, this]
    rw [e]
    rw [sq] at ih ⊢
    rw [and_split _ _ _ _ _ (two_lt hp.2 (Nat.mod_lt _ (Nat.two_pow_pos w))) (low_lt w), ih]
    congr 1
    rw [Nat.and_two_pow_sub_one_eq_mod, Nat.add_mul_mod_self_left, Nat.mod_eq_of_lt hp.2]
/-- Digits by twos. -/
def pr : List Nat → List (Nat × Nat)
  | a :: b :: r => (a, b) :: pr r
  | _ => []
theorem pr_val (B : Nat) : ∀ (n : Nat) (l : List Nat), l.length = 2 * n → val (B * B) (two B (pr l)) = val B l ∧ (pr l).length = n
  | 0, [], _ => ⟨rfl, rfl⟩
  | n + 1, a :: b :: r, h => by
    obtain ⟨h1, h2⟩ := pr_val B n r (by simp at h; omega)
    constructor
    · simp only [pr, two, List.map_cons, val]
      unfold two at h1
      rw [h1, Nat.mul_add, ← Nat.mul_assoc, Nat.add_assoc]
    · simp [pr, h2]
theorem pr_mem : ∀ (l : List Nat) (p : Nat × Nat), p ∈ pr l → p.1 ∈ l ∧ p.2 ∈ l
  | a :: b :: r, p, h => by
    simp only [pr, List.mem_cons] at h
    rcases h with rfl | h
    · simp
    · have := pr_mem r p h
      exact ⟨by simp [this.1], by simp [this.2]⟩
def sums (l : List Nat) : List Nat := (pr l).map fun p => p.1 + p.2
theorem sums_sum : ∀ (n : Nat) (l : List Nat), l.length = 2 * n → (sums l).sum = l.sum ∧ (sums l).length = n
  | 0, [], _ => ⟨rfl, rfl⟩
  | n + 1, a :: b :: r, h => by
    obtain ⟨h1, h2⟩ := sums_sum n r (by simp at h; omega)
    unfold sums at h1 h2 ⊢
    constructor
    · simp only [pr, List.map_cons, List.sum_cons, h1]; omega
    · simp only [pr, List.map_cons, List.length_cons, h2]
theorem sums_le (l : List Nat) (b : Nat) (h : ∀ x ∈ l, x ≤ b) : ∀ x ∈ sums l, x ≤ b + b := by
  intro x hx
  obtain ⟨p, hp, rfl⟩ := List.mem_map.1 hx
  have := pr_mem l p hp
  have h1 := h _ this.1
  have h2 := h _ this.2
  omega
theorem val_add (B : Nat) : ∀ (ps : List (Nat × Nat)), val B (ps.map (·.2)) + val B (ps.map (·.1)) = val B (ps.map fun p => p.1 + p.2)
  | [] => rfl
  | p :: ps => by
    have ih := val_add B ps
    simp only [List.map_cons, val]
    rw [← ih, Nat.mul_add]; omega
/-- One round of counting: neighbours are added. -/
theorem pop_round (w n : Nat) (l : List Nat) (hl : l.length = 2 * n) (hb : ∀ x ∈ l, x < 2 ^ w) : ((val (2 ^ w) l / 2 ^ w) &&& msk (2 ^ w) n) + (val (2 ^ w) l &&& msk (2 ^ w) n) = val (2 ^ w * 2 ^ w) (sums l) := by
  obtain ⟨h1, h2⟩ := pr_val (2 ^ w) n l hl
  have hm : ∀ p ∈ pr l, p.1 < 2 ^ w ∧ p.2 < 2 ^ w := fun p hp => ⟨hb _ (pr_mem l p hp).1, hb _ (pr_mem l p hp).2⟩
  have e1 := even_and w (pr l) hm
  have e2 := odd_and w (pr l) hm
  rw [h1, h2] at e1 e2
  rw [e1, e2, val_add]
  rfl
def toD : Nat → Nat → List Nat
  | 0, _ => []
  | n + 1, x => x % 2 :: toD n (x / 2)
theorem toD_val : ∀ (n x : Nat), x < 2 ^ n → val 2 (toD n x) = x
  | 0, x, h => by simp at h; simp [toD, val, h]
  | n + 1, x, h => by
    rw [toD, val, toD_val n (x / 2) (by rw [Nat.pow_succ] at h; omega)]
    omega
theorem toD_len : ∀ (n x : Nat), (toD n x).length = n
  | 0, _ => rfl
  | n + 1, x => by rw [toD, List.length_cons, toD_len n]
theorem toD_lt : ∀ (n x : Nat), ∀ d ∈ toD n x, d ≤ 1
  | n + 1, x, d, h => by
    rw [toD, List.mem_cons] at h
    rcases h with rfl | h
    · omega
    · exact toD_lt n _ d h
/-- How many bits are set. -/
def pc (x : Nat) : Nat := (toD 64 x).sum
theorem val_lt (B : Nat) (hB : 0 < B) : ∀ l : List Nat, (∀ d ∈ l, d < B) → val B l < B ^ l.length
  | [], _ => by simp [val]
  | d :: r, h => by
    have h1 := h d (by simp)
    have ih := val_lt B hB r (fun q hq => h q (by simp [hq]))
    rw [val, List.length_cons, Nat.pow_succ]
    have : B * (val B r + 1) ≤ B * B ^ r.length := Nat.mul_le_mul_left _ ih
    rw [Nat.mul_add, Nat.mul_one] at this
    rw [Nat.mul_comm (B ^ r.length)]
    omega
theorem div_of {x lo hi B : Nat} (h : x = lo + B * hi) (hl : lo < B) : x / B = hi := by
  rw [h, Nat.add_mul_div_left _ _ (by omega), Nat.div_eq_of_lt hl, Nat.zero_add]
def popN (x : Nat) : Nat :=
  let s1 := ((x / 2) &&& 6148914691236517205) + (x &&& 6148914691236517205)
  let s2 := ((s1 / 4) &&& 3689348814741910323) + (s1 &&& 3689348814741910323)
  let s3 := ((s2 / 16) + s2) &&& 1085102592571150095
  let s4 := s3 / 256 + s3
  let s5 := s4 / 65536 + s4
  (s5 / 4294967296 + s5) % 128
theorem nib (l : List Nat) (n : Nat) (hl : l.length = 2 * n) (hb : ∀ x ∈ l, x ≤ 4) : ((val 16 l / 16) + val 16 l) &&& msk 16 n = val 256 (sums l) := by
  have key : ∀ (n : Nat) (l : List Nat), l.length = 2 * n → (∀ x ∈ l, x ≤ 4) → ((val 16 l / 16) + val 16 l) &&& msk 16 n = val 256 (sums l) ∧ val 16 l % 16 ≤ 4 := by
    intro n
    induction n with
    | zero =>
      intro l hl hb
      have : l = [] := List.length_eq_zero_iff.1 (by omega)
      subst this
      simp [val, sums, pr, msk]
    | succ n ih =>
      intro l hl hb
      match l, hl with
      | a :: b :: r, hl =>
        have ha := hb a (by simp)
        have hb' := hb b (by simp)
        obtain ⟨h1, h2⟩ := ih r (by simp at hl; omega) (fun x hx => hb x (by simp [hx]))
        refine ⟨?_, by simp only [val]; omega⟩
        have hs : sums (a :: b :: r) = (a + b) :: sums r := by simp [sums, pr]
        rw [hs]
        simp only [val]
        have hm : msk 16 (n + 1) = 15 + 256 * msk 16 n := by simp [msk, List.replicate_succ, val]
        rw [hm, ← h1]
        generalize val 16 r = R at h2 ⊢
        generalize msk 16 n = M
        have e : (a + 16 * (b + 16 * R)) / 16 + (a + 16 * (b + 16 * R)) = (a + b + 16 * (b + R % 16)) + 2 ^ 8 * (R / 16 + R) := by omega
        rw [e, show 15 + 256 * M = 15 + 2 ^ 8 * M by omega, and_split 8 _ _ _ _ (by omega) (by decide), show (15 : Nat) = 2 ^ 4 - 1 by rfl, Nat.and_two_pow_sub_one_eq_mod]
        omega
  exact (key n l hl hb).1
set_option maxHeartbeats 4000000 in
theorem pop_nat (x : Nat) (hx : x < 2 ^ 64) : popN x = pc x := by
  have h0 := toD_val 64 x hx
  have l0 := toD_len 64 x
  have r1 := pop_round 1 32 (toD 64 x) l0 (fun d hd => by have := toD_lt 64 x d hd; omega)
  obtain ⟨s1, n1⟩ := sums_sum 32 _ l0
  have b1 := sums_le _ 1 (toD_lt 64 x)
  generalize hd1 : sums (toD 64 x) = D1 at *
  have r2 := pop_round 2 16 D1 n1 (fun d hd => by have := b1 d hd; omega)
  obtain ⟨s2, n2⟩ := sums_sum 16 _ n1
  have b2 := sums_le _ 2 b1
  generalize hd2 : sums D1 = D2 at *
  have r3 := nib D2 8 n2 b2
  obtain ⟨s3, n3⟩ := sums_sum 8 _ n2
  have b3 := sums_le _ 4 b2
  generalize hd3 : sums D2 = D3 at *
  have m1 : msk (2 ^ 1) 32 = 6148914691236517205 := by decide +kernel
  have m2 : msk (2 ^ 2) 16 = 3689348814741910323 := by decide +kernel
  have m3 : msk 16 8 = 1085102592571150095 := by decide +kernel
  rw [m1, show 2 ^ 1 = 2 from rfl, h0] at r1
  rw [m2, show 2 ^ 2 = 4 from rfl] at r2
  rw [m3] at r3
  unfold popN pc
  simp only
  rw [r1, show 2 * 2 = 4 from rfl, r2, show 4 * 4 = 16 from rfl, r3]
  match D3, n3 with
  | [d0, d1, d2, d3, d4, d5, d6, d7], _ =>
    have q0 := b3 d0 (by simp)
    have q1 := b3 d1 (by simp)
    have q2 := b3 d2 (by simp)
    have q3 := b3 d3 (by simp)
    have q4 := b3 d4 (by simp)
    have q5 := b3 d5 (by simp)
    have q6 := b3 d6 (by simp)
    have q7 := b3 d7 (by simp)
    have hs : (toD 64 x).sum = d0 + d1 + d2 + d3 + d4 + d5 + d6 + d7 := by
      rw [← s1, ← s2, ← s3]; simp; omega
    rw [hs]
    simp only [val, Nat.mul_zero, Nat.add_zero]
    have e4 : (d0 + 256 * (d1 + 256 * (d2 + 256 * (d3 + 256 * (d4 + 256 * (d5 + 256 * (d6 + 256 * d7))))))) / 256 = d1 + 256 * (d2 + 256 * (d3 + 256 * (d4 + 256 * (d5 + 256 * (d6 + 256 * d7))))) := by omega
    rw [e4]
    have e5 : (d1 + 256 * (d2 + 256 * (d3 + 256 * (d4 + 256 * (d5 + 256 * (d6 + 256 * d7))))) + (d0 + 256 * (d1 + 256 * (d2 + 256 * (d3 + 256 * (d4 + 256 * (d5 + 256 * (d6 + 256 * d7)))))))) / 65536 = (d2 + d3) + 256 * ((d3 + d4) + 256 * ((d4 + d5) + 256 * ((d5 + d6) + 256 * ((d6 + d7) + 256 * d7)))) := div_of (lo := (d0 + d1) + 256 * (d1 + d2)) (by omega) (by omega)
    rw [e5]
    generalize hv : (d2 + d3) + 256 * ((d3 + d4) + 256 * ((d4 + d5) + 256 * ((d5 + d6) + 256 * ((d6 + d7) + 256 * d7)))) + (d1 + 256 * (d2 + 256 * (d3 + 256 * (d4 + 256 * (d5 + 256 * (d6 + 256 * d7))))) + (d0 + 256 * (d1 + 256 * (d2 + 256 * (d3 + 256 * (d4 + 256 * (d5 + 256 * (d6 + 256 * d7)))))))) = V
    have hv2 : V = (d0 + d1 + d2 + d3) + 256 * ((d1 + d2 + d3 + d4) + 256 * ((d2 + d3 + d4 + d5) + 256 * ((d3 + d4 + d5 + d6) + 256 * ((d4 + d5 + d6 + d7) + 256 * ((d5 + d6 + d7) + 256 * ((d6 + d7) + 256 * d7)))))) := by omega
    have e6 : V / 4294967296 = (d4 + d5 + d6 + d7) + 256 * ((d5 + d6 + d7) + 256 * ((d6 + d7) + 256 * d7)) := div_of (lo := (d0 + d1 + d2 + d3) + 256 * ((d1 + d2 + d3 + d4) + 256 * ((d2 + d3 + d4 + d5) + 256 * (d3 + d4 + d5 + d6)))) (by omega) (by omega)
    rw [e6, hv2]
    generalize hq : (d1 + d2 + d3 + d4) + 256 * ((d2 + d3 + d4 + d5) + 256 * ((d3 + d4 + d5 + d6) + 256 * ((d4 + d5 + d6 + d7) + 256 * ((d5 + d6 + d7) + 256 * ((d6 + d7) + 256 * d7))))) = Q1
    generalize hq2 : (d5 + d6 + d7) + 256 * ((d6 + d7) + 256 * d7) = Q2
    omega

theorem count_tells (a : Nat) (h : a < 2 ^ 64) : row_Count.f (a : Int) = some ((pc a : Nat) : Int) := by
  have h' : a < 18446744073709551616 := h
  have sh : ∀ (x : Nat) (c : Int) (k : Nat), 2 ^ min c.toNat IntKind.u64.bits = (k : Int) → shr .u64 (x : Int) c = ((x / k : Nat) : Int) := fun x c k e => by
    unfold shr; rw [e]; omega
  have s1 : shr .u64 (a : Int) 1 = ((a / 2 : Nat) : Int) := sh _ _ 2 (by decide)
  have a1 : Go.bits .and .u64 ((a / 2 : Nat) : Int) 6148914691236517205 = ((a / 2 &&& 6148914691236517205 : Nat) : Int) := u64_and_nat _ _ (by omega) (by decide)
  have a2 : Go.bits .and .u64 (a : Int) 6148914691236517205 = ((a &&& 6148914691236517205 : Nat) : Int) := u64_and_nat _ _ h' (by decide)
  have b1 : a / 2 &&& 6148914691236517205 ≤ 6148914691236517205 := Nat.and_le_right
  have b2 : a &&& 6148914691236517205 ≤ 6148914691236517205 := Nat.and_le_right
  have key := pop_nat a h
  unfold popN at key
  simp only at key
  unfold row_Count.f bits_OnesCount64.f
  rw [s1, a1, a2, u64w_id (x := ((a / 2 &&& 6148914691236517205 : Nat) : Int) + ((a &&& 6148914691236517205 : Nat) : Int)) (by omega) (by omega), show ((a / 2 &&& 6148914691236517205 : Nat) : Int) + ((a &&& 6148914691236517205 : Nat) : Int) = (((a / 2 &&& 6148914691236517205) + (a &&& 6148914691236517205) : Nat) : Int) by omega]
  generalize hv : (a / 2 &&& 6148914691236517205) + (a &&& 6148914691236517205) = v at *
  have hvb : v ≤ 12297829382473034410 := by omega
  have s2 : shr .u64 (v : Int) 2 = ((v / 4 : Nat) : Int) := sh _ _ 4 (by decide)
  have a3 : Go.bits .and .u64 ((v / 4 : Nat) : Int) 3689348814741910323 = ((v / 4 &&& 3689348814741910323 : Nat) : Int) := u64_and_nat _ _ (by omega) (by decide)
  have a4 : Go.bits .and .u64 (v : Int) 3689348814741910323 = ((v &&& 3689348814741910323 : Nat) : Int) := u64_and_nat _ _ (by omega) (by decide)
  have b3 : v / 4 &&& 3689348814741910323 ≤ 3689348814741910323 := Nat.and_le_right
  have b4 : v &&& 3689348814741910323 ≤ 3689348814741910323 := Nat.and_le_right
  rw [s2, a3, a4, u64w_id (x := ((v / 4 &&& 3689348814741910323 : Nat) : Int) + ((v &&& 3689348814741910323 : Nat) : Int)) (by omega) (by omega), show ((v / 4 &&& 3689348814741910323 : Nat) : Int) + ((v &&& 3689348814741910323 : Nat) : Int) = (((v / 4 &&& 3689348814741910323) + (v &&& 3689348814741910323) : Nat) : Int) by omega]
  generalize hu : (v / 4 &&& 3689348814741910323) + (v &&& 3689348814741910323) = u at *
  have hub : u ≤ 7378697629483820646 := by omega
  have s3 : shr .u64 (u : Int) 4 = ((u / 16 : Nat) : Int) := sh _ _ 16 (by decide)
  rw [s3, u64w_id (x := ((u / 16 : Nat) : Int) + (u : Int)) (by omega) (by omega), show ((u / 16 : Nat) : Int) + (u : Int) = ((u / 16 + u : Nat) : Int) by omega]
  have a5 : Go.bits .and .u64 ((u / 16 + u : Nat) : Int) 1085102592571150095 = ((u / 16 + u &&& 1085102592571150095 : Nat) : Int) := u64_and_nat _ _ (by omega) (by decide)
  have b5 : u / 16 + u &&& 1085102592571150095 ≤ 1085102592571150095 := Nat.and_le_right
  rw [a5]
  generalize ht : u / 16 + u &&& 1085102592571150095 = t at *
  have s4 : shr .u64 (t : Int) 8 = ((t / 256 : Nat) : Int) := sh _ _ 256 (by decide)
  rw [s4, u64w_id (x := (t : Int) + ((t / 256 : Nat) : Int)) (by omega) (by omega), show (t : Int) + ((t / 256 : Nat) : Int) = ((t / 256 + t : Nat) : Int) by omega]
  generalize hr : t / 256 + t = r at *
  have s5 : shr .u64 (r : Int) 16 = ((r / 65536 : Nat) : Int) := sh _ _ 65536 (by decide)
  rw [s5, u64w_id (x := (r : Int) + ((r / 65536 : Nat) : Int)) (by omega) (by omega), show (r : Int) + ((r / 65536 : Nat) : Int) = ((r / 65536 + r : Nat) : Int) by omega]
  generalize hq : r / 65536 + r = q at *
  have s6 : shr .u64 (q : Int) 32 = ((q / 4294967296 : Nat) : Int) := sh _ _ 4294967296 (by decide)
  rw [s6, u64w_id (x := (q : Int) + ((q / 4294967296 : Nat) : Int)) (by omega) (by omega), show (q : Int) + ((q / 4294967296 : Nat) : Int) = ((q / 4294967296 + q : Nat) : Int) by omega, wrap64_id (by omega) (by omega)]
  have a6 : Go.bits .and .i64 ((q / 4294967296 + q : Nat) : Int) 127 = (((q / 4294967296 + q) % 128 : Nat) : Int) := by
    have := (bits_nat .i64 63 (by decide) (fun n h0 h1 => by rw [IntKind.wrap_i64]; omega) (q / 4294967296 + q) 127 (by omega) (by decide)).1
    rw [nat_mask7] at this
    exact this
  rw [a6, key]
  rfl
theorem pcN_or : ∀ (n x y : Nat), (toD n (x ||| y)).sum ≤ (toD n x).sum + (toD n y).sum
  | 0, _, _ => by simp [toD]
  | n + 1, x, y => by
    have ih := pcN_or n (x / 2) (y / 2)
    simp only [toD, List.sum_cons]
    have h2 : (x ||| y) / 2 = x / 2 ||| y / 2 := by
      have := Nat.or_div_two_pow (a := x) (b := y) (n := 1)
      simpa using this
    have h1 : (x ||| y) % 2 = x % 2 ||| y % 2 := by
      have := Nat.or_mod_two_pow (a := x) (b := y) (n := 1)
      simpa using this
    rw [h2, h1]
    have h3 : x % 2 ||| y % 2 ≤ x % 2 + y % 2 := by
      rcases Nat.mod_two_eq_zero_or_one x with a | a <;> rcases Nat.mod_two_eq_zero_or_one y with b | b <;> rw [a, b] <;> decide
    omega
theorem pc_or (x y : Nat) : pc (x ||| y) ≤ pc x + pc y := pcN_or 64 x y
theorem toD_zero : ∀ n, (toD n 0).sum = 0
  | 0 => rfl
  | n + 1 => by simp [toD, toD_zero n]
def memB (s : ByteArray) : List ByteArray → Bool
  | [] => false
  | t :: T => decide (s = t) || memB s T
theorem memB_iff (s : ByteArray) : ∀ T, memB s T = true ↔ s ∈ T
  | [] => by simp [memB]
  | t :: T => by simp [memB, memB_iff s T]
instance memDec (s : ByteArray) (T : List ByteArray) : Decidable (s ∈ T) := decidable_of_iff _ (memB_iff s T)
/-- The places of a table's names. -/
def idx (T : List ByteArray) : List (ByteArray × Int) := T.zipIdx.map fun p => (p.1, (p.2 : Int))
def idxFrom (T : List ByteArray) (n : Nat) : List (ByteArray × Int) := (T.zipIdx n).map fun p => (p.1, (p.2 : Int))
theorem idx_has (T : List ByteArray) (s : ByteArray) : ∀ n, mhas (idxFrom T n) s = decide (s ∈ T) := by
  induction T with
  | nil => intro n; rfl
  | cons t T ih =>
    intro n
    simp only [idxFrom, List.zipIdx_cons, List.map_cons, mhas]
    by_cases h : t = s
    · rw [if_pos h]; simp [h]
    · rw [if_neg h]
      have := ih (n + 1)
      unfold idxFrom at this
      rw [this]
      have h2 : ¬ s = t := fun e => h e.symm
      simp [h2]
/-- Where a name stands. -/
def at_ : List ByteArray → ByteArray → Nat
  | [], _ => 0
  | t :: T, s => if t = s then 0 else at_ T s + 1
theorem idx_get (T : List ByteArray) (s : ByteArray) : ∀ n, s ∈ T → mget 0 (idxFrom T n) s = ((n + at_ T s : Nat) : Int) := by
  induction T with
  | nil => intro n h; simp at h
  | cons t T ih =>
    intro n hm
    simp only [idxFrom, List.zipIdx_cons, List.map_cons, mget, at_]
    by_cases h : t = s
    · rw [if_pos h, if_pos h]; rfl
    · rw [if_neg h, if_neg h]
      have hm' : s ∈ T := by
        rcases List.mem_cons.1 hm with e | e
        · exact absurd e.symm h
        · exact e
      have := ih (n + 1) hm'
      unfold idxFrom at this
      rw [this]; congr 1; omega
theorem at_lt (T : List ByteArray) (s : ByteArray) (h : s ∈ T) : at_ T s < T.length := by
  induction T with
  | nil => simp at h
  | cons t T ih =>
    simp only [at_]
    by_cases e : t = s
    · rw [if_pos e]; simp
    · rw [if_neg e]
      rcases List.mem_cons.1 h with h | h
      · exact absurd h.symm e
      · have := ih h; simp; omega
theorem at_get (T : List ByteArray) (s : ByteArray) (h : s ∈ T) : T[at_ T s]'(at_lt T s h) = s := by
  induction T with
  | nil => simp at h
  | cons t T ih =>
    by_cases e : t = s
    · simp [at_, e]
    · have h' : s ∈ T := by
        rcases List.mem_cons.1 h with h | h
        · exact absurd h.symm e
        · exact h
      simp only [at_, if_neg e, List.getElem_cons_succ]
      exact ih h'
theorem at_self (T : List ByteArray) (hn : T.Nodup) : ∀ (i : Nat) (h : i < T.length), at_ T T[i] = i := by
  induction T with
  | nil => intro i h; simp at h
  | cons t T ih =>
    intro i h
    cases i with
    | zero => simp [at_]
    | succ i =>
      have hm : T[i]'(by simpa using h) ∈ T := List.getElem_mem _
      have hne : ¬ t = T[i]'(by simpa using h) := fun e => (List.nodup_cons.1 hn).1 (e ▸ hm)
      simp only [List.getElem_cons_succ, at_, if_neg hne]
      rw [ih (List.nodup_cons.1 hn).2 i (by simpa using h)]
theorem idx_put (T : List ByteArray) (s : ByteArray) (h : s ∉ T) : mput (idx T) s (T.length : Int) = idx (T ++ [s]) := by
  have h1 := idx_has T s 0
  have e : idxFrom T 0 = idx T := rfl
  rw [e] at h1
  rw [mput_not (by rw [h1]; simp [h])]
  simp [idx, List.zipIdx_append]
/-- A table. -/
def Tab (T : List ByteArray) : S91 := ⟨T, idx T⟩
theorem find_tells (T : List ByteArray) (s : ByteArray) : row_Table_Find.f (some (Tab T)) s = some (if s ∈ T then ((at_ T s : Nat) : Int) else 0, decide (s ∈ T)) := by
  unfold row_Table_Find.f
  simp only [onOpt, Tab]
  have h1 := idx_has T s 0
  have h2 := idx_get T s 0
  have e : idxFrom T 0 = idx T := rfl
  rw [e] at h1 h2
  rw [h1]
  by_cases h : s ∈ T
  · rw [if_pos h, h2 h, Nat.zero_add]
  · rw [if_neg h, mget_not (by rw [h1]; simp [h])]
theorem rd25 (L : List S25) (i : Nat) (h : i < L.length) : rd_T25 L (i : Int) = L[i] := by simp [rd_T25, List.getD_eq_getElem?_getD, h]
/-- The table of names. -/
def news : List S25 → Nat → List ByteArray → Option (List ByteArray) × Int × Int
  | [], _, T => (some T, 0, 0)
  | x :: L, i, T => if identB x.f0 = true then (if x.f0 ∈ T then (none, (i : Int), 7) else if T.length = 64 then (none, (i : Int), 8) else news L (i + 1) (T ++ [x.f0])) else (none, (i : Int), 1)
theorem new_l0 (L : List S25) (hL : L.length ≤ 1000000) (d : Nat) : ∀ (k i : Nat) (T : List ByteArray), i ≤ L.length → L.length - i = d → T.length ≤ 64 → 100 + d ≤ k →
    row_New.l0 k L (i : Int) T (idx T) = some (((news (L.drop i) i T).1).map Tab, (news (L.drop i) i T).2.1, (news (L.drop i) i T).2.2) := by
  induction d with
  | zero =>
    intro k i T hi hd hT hk
    obtain ⟨k, rfl⟩ : ∃ n, k = n + 1 := ⟨k - 1, by omega⟩
    rw [row_New.l0, if_neg (by omega), List.drop_eq_nil_of_le (by omega)]
    rfl
  | succ d ih =>
    intro k i T hi hd hT hk
    obtain ⟨k, rfl⟩ : ∃ n, k = n + 1 := ⟨k - 1, by omega⟩
    rw [row_New.l0, if_pos (by omega), if_pos (by omega), rd25 L i (by omega), ident_tells k _ (by omega), Option.bind_some, List.drop_eq_getElem_cons (by omega), news]
    by_cases h1 : identB L[i].f0 = true
    · rw [if_pos h1, if_pos h1]
      have h2 := idx_has T L[i].f0 0
      have e : idxFrom T 0 = idx T := rfl
      rw [e] at h2
      rw [h2]
      by_cases h3 : L[i].f0 ∈ T
      · rw [if_pos (by simp [h3]), if_pos h3]; rfl
      · rw [if_neg (by simp [h3]), if_neg h3]
        by_cases h4 : T.length = 64
        · rw [if_pos (by omega), if_pos h4]; rfl
        · rw [if_neg (by omega), if_neg h4, Option.bind_some, if_pos (by omega), Option.bind_some, idx_put T _ h3, wrap64_id (by omega) (by omega), show (i : Int) + 1 = ((i + 1 : Nat) : Int) by omega]
          exact ih k (i + 1) (T ++ [L[i].f0]) (by omega) (by omega) (by simp; omega) (by omega)
    · rw [if_neg h1, if_neg h1]; rfl
theorem new_tells (k : Nat) (L : List S25) (hL : L.length ≤ 1000000) (hk : 100 + L.length ≤ k) : row_New.f k L = some (((news L 0 []).1).map Tab, (news L 0 []).2.1, (news L 0 []).2.2) := by
  have := new_l0 L hL L.length k 0 [] (by omega) (by omega) (by simp) hk
  unfold row_New.f
  rw [List.drop_zero] at this
  exact this
theorem news_ok (L : List S25) : ∀ (i : Nat) (T : List ByteArray), T.Nodup → T.length ≤ 64 → (news L i T).2.2 = 0 → ∃ U, (news L i T).1 = some U ∧ U.Nodup ∧ U.length ≤ 64 := by
  induction L with
  | nil => intro i T hn hT _; exact ⟨T, rfl, hn, hT⟩
  | cons x L ih =>
    intro i T hn hT h
    rw [news] at h ⊢
    by_cases h1 : identB x.f0 = true
    · rw [if_pos h1] at h ⊢
      by_cases h2 : x.f0 ∈ T
      · rw [if_pos h2] at h; simp at h
      · rw [if_neg h2] at h ⊢
        by_cases h3 : T.length = 64
        · rw [if_pos h3] at h; simp at h
        · rw [if_neg h3] at h ⊢
          exact ih (i + 1) (T ++ [x.f0]) (List.nodup_append.2 ⟨hn, by simp, fun a ha b hb => by simp at hb; subst hb; intro e; subst e; exact h2 ha⟩) (by simp; omega) h
    · rw [if_neg h1] at h; simp at h
/-- The set of a row. -/
def sets (T : List ByteArray) : List S25 → Nat → Nat → Nat × Int × Int
  | [], _, s => (s, 0, 0)
  | x :: L, i, s => if x.f0 ∈ T then sets T L (i + 1) (s ||| 2 ^ at_ T x.f0) else (0, (i : Int), 13)
theorem shl1 (n : Nat) (h : n < 64) : shl .u64 1 (n : Int) = ((2 ^ n : Nat) : Int) := by
  unfold shl
  have e : min ((n : Int).toNat) IntKind.u64.bits = n := by simp [IntKind.bits]; omega
  have hlt : 2 ^ n < 2 ^ 64 := Nat.pow_lt_pow_right (by decide) h
  have e2 : ((2 : Int) ^ n) = ((2 ^ n : Nat) : Int) := by simp
  rw [e, Int.one_mul, e2, u64w_nat hlt]
theorem set_l0 (T : List ByteArray) (hT : T.length ≤ 64) (L : List S25) (hL : L.length ≤ 1000000) (d : Nat) : ∀ (k i s : Nat), i ≤ L.length → L.length - i = d → s < 2 ^ 64 → d < k →
    row_Table_Set.l0 k L (some (Tab T)) (s : Int) (i : Int) = some (((sets T (L.drop i) i s).1 : Int), (sets T (L.drop i) i s).2.1, (sets T (L.drop i) i s).2.2) := by
  induction d with
  | zero =>
    intro k i s hi hd hs hk
    obtain ⟨k, rfl⟩ : ∃ n, k = n + 1 := ⟨k - 1, by omega⟩
    rw [row_Table_Set.l0, if_neg (by omega), List.drop_eq_nil_of_le (by omega)]
    rfl
  | succ d ih =>
    intro k i s hi hd hs hk
    obtain ⟨k, rfl⟩ : ∃ n, k = n + 1 := ⟨k - 1, by omega⟩
    rw [row_Table_Set.l0, if_pos (by omega), if_pos (by omega), rd25 L i (by omega), find_tells, Option.bind_some, List.drop_eq_getElem_cons (by omega), sets]
    dsimp only
    by_cases h : L[i].f0 ∈ T
    · have hlt := at_lt T _ h
      have h2 : 2 ^ at_ T L[i].f0 < 2 ^ 64 := Nat.pow_lt_pow_right (by decide) (by omega)
      rw [if_pos (by simp [h]), if_pos h, if_pos h, u64w_id (by omega) (by omega), if_pos (by omega), shl1 _ (by omega), u64_or_nat _ _ hs h2, wrap64_id (by omega) (by omega), show (i : Int) + 1 = ((i + 1 : Nat) : Int) by omega]
      exact ih k (i + 1) _ (by omega) (by omega) (Nat.or_lt_two_pow hs h2) (by omega)
    · rw [if_neg (by simp [h]), if_neg h]; rfl
theorem set_tells (k : Nat) (T : List ByteArray) (hT : T.length ≤ 64) (L : List S25) (hL : L.length ≤ 1000000) (hk : L.length < k) : row_Table_Set.f k (some (Tab T)) L = some (((sets T L 0 0).1 : Int), (sets T L 0 0).2.1, (sets T L 0 0).2.2) := by
  have := set_l0 T hT L hL L.length k 0 0 (by omega) (by omega) (by decide) hk
  unfold row_Table_Set.f
  simpa using this
theorem set_none (k : Nat) (L : List S25) (hk : 2 ≤ k) : row_Table_Set.f k none L = some (0, 0, if L.length = 0 then 0 else 13) := by
  obtain ⟨k, rfl⟩ : ∃ n, k = n + 1 := ⟨k - 1, by omega⟩
  unfold row_Table_Set.f
  rw [row_Table_Set.l0]
  by_cases h : L.length = 0
  · rw [if_neg (by omega), if_pos h]
  · rw [if_pos (by omega), if_pos (by omega)]
    have : row_Table_Find.f none (rd_T25 L 0).f0 = some (0, false) := rfl
    rw [this, Option.bind_some, if_neg h]
    rfl
/-- The names of a set. -/
def namesOf (T : List ByteArray) (s n : Nat) : List ByteArray := ((List.range n).filter fun i => s.testBit i).map fun i => T.getD i ByteArray.empty
theorem bit_of (s i : Nat) (hs : s < 2 ^ 64) (hi : i < 64) : Go.bits .and .u64 (shr .u64 (s : Int) (i : Int)) 1 = ((s / 2 ^ i % 2 : Nat) : Int) := by
  have e : shr .u64 (s : Int) (i : Int) = ((s / 2 ^ i : Nat) : Int) := by
    unfold shr
    have e : min ((i : Int).toNat) IntKind.u64.bits = i := by simp [IntKind.bits]; omega
    rw [e]; simp
  have hlt : s / 2 ^ i < 18446744073709551616 := Nat.lt_of_le_of_lt (Nat.div_le_self _ _) hs
  rw [e]
  have := u64_and_nat (s / 2 ^ i) 1 hlt (by decide)
  rw [nat_mask1] at this
  exact this
theorem testBit_div (s i : Nat) : s.testBit i = decide (s / 2 ^ i % 2 = 1) := by rw [Nat.testBit_eq_decide_div_mod_eq]
theorem names_l1 (T : List ByteArray) (s : Nat) (hs : s < 2 ^ 64) (hT : T.length ≤ 64) (d : Nat) : ∀ (k i : Nat), i ≤ T.length → T.length - i = d → d < k →
    row_Table_Names.l1 k (s : Int) (Tab T) (T.length : Int) (namesOf T s i) (i : Int) = some (namesOf T s T.length) := by
  induction d with
  | zero =>
    intro k i hi hd hk
    obtain ⟨k, rfl⟩ : ∃ n, k = n + 1 := ⟨k - 1, by omega⟩
    rw [row_Table_Names.l1, if_neg (by omega), show i = T.length by omega]
  | succ d ih =>
    intro k i hi hd hk
    obtain ⟨k, rfl⟩ : ∃ n, k = n + 1 := ⟨k - 1, by omega⟩
    have hr : namesOf T s (i + 1) = if s.testBit i then namesOf T s i ++ [T.getD i ByteArray.empty] else namesOf T s i := by
      unfold namesOf
      rw [List.range_succ, List.filter_append, List.map_append]
      by_cases h : s.testBit i = true
      · simp [h]
      · simp [h]
    have hlen : (namesOf T s i).length ≤ i := by
      unfold namesOf
      rw [List.length_map]
      have := List.length_filter_le (fun j => s.testBit j) (List.range i)
      simpa using this
    have nx := ih k (i + 1) (by omega) (by omega) (by omega)
    rw [row_Table_Names.l1, if_pos (by omega), u64w_id (x := (i : Int)) (by omega) (by omega), if_pos (by omega), bit_of s i hs (by omega)]
    rw [hr, testBit_div] at nx
    by_cases h : s / 2 ^ i % 2 = 1
    · have hrd : rdOf ByteArray.empty (Tab T).f0 (i : Int) = T.getD i ByteArray.empty := rfl
      rw [if_pos (by omega), if_pos (by omega), if_pos (by show (i : Int) < (T.length : Int); omega), if_pos (by omega), Option.bind_some, hrd, wrap64_id (by omega) (by omega), show (i : Int) + 1 = ((i + 1 : Nat) : Int) by omega]
      simpa [h] using nx
    · rw [if_neg (by omega), wrap64_id (by omega) (by omega), show (i : Int) + 1 = ((i + 1 : Nat) : Int) by omega]
      simpa [h] using nx
theorem names_tells (k : Nat) (T : List ByteArray) (s : Nat) (hs : s < 2 ^ 64) (hT : T.length ≤ 64) (hk : 70 ≤ k) : row_Table_Names.f k (some (Tab T)) (s : Int) = some (namesOf T s T.length) := by
  have := names_l1 T s hs hT T.length k 0 (by omega) (by omega) (by omega)
  unfold row_Table_Names.f
  have hl : row_Table_Len.f (some (Tab T)) = some (T.length : Int) := rfl
  rw [hl, Option.bind_some]
  simp only [onOpt]
  exact this
theorem awake_tells (k : Nat) (hk : 200 ≤ k) : blazonlaw16_awake.f k = some true := by
  unfold blazonlaw16_awake.f
  have e0 : news [(⟨(⟨#[110, 101, 116]⟩ : ByteArray), 0⟩ : S25), (⟨(⟨#[108, 111, 103]⟩ : ByteArray), 0⟩ : S25)] 0 [] = (some [(⟨#[110, 101, 116]⟩ : ByteArray), (⟨#[108, 111, 103]⟩ : ByteArray)], 0, 0) := by decide +kernel
  have e1 : sets [(⟨#[110, 101, 116]⟩ : ByteArray), (⟨#[108, 111, 103]⟩ : ByteArray)] [(⟨(⟨#[108, 111, 103]⟩ : ByteArray), 0⟩ : S25)] 0 0 = (2, 0, 0) := by decide +kernel
  have e2 : namesOf [(⟨#[110, 101, 116]⟩ : ByteArray), (⟨#[108, 111, 103]⟩ : ByteArray)] 3 2 = [(⟨#[110, 101, 116]⟩ : ByteArray), (⟨#[108, 111, 103]⟩ : ByteArray)] := by decide +kernel
  have e3 := names_tells k [(⟨#[110, 101, 116]⟩ : ByteArray), (⟨#[108, 111, 103]⟩ : ByteArray)] 3 (by decide) (by decide) (by omega)
  rw [show ((3 : Nat) : Int) = 3 from rfl, show [(⟨#[110, 101, 116]⟩ : ByteArray), (⟨#[108, 111, 103]⟩ : ByteArray)].length = 2 from rfl, e2] at e3
  rw [Option.bind_some, new_tells k _ (by simp) (by simp; omega), e0, Option.bind_some, Option.bind_some]
  dsimp only [Option.map_some]
  rw [set_tells k _ (by simp) _ (by simp) (by simp; omega), e1, Option.bind_some, e3, Option.bind_some]
  rfl
theorem great_l0 (L : List S25) (m : Int) (hm : m ≤ 1000) (d : Nat) : ∀ (k i : Nat), i ≤ L.length → L.length - i = d → L.length ≤ 10000000000000 → 2 * d + 2 ≤ k → ∃ b, blazonref16_Great.l0 k m L (i : Int) = some b ∧ (b = false → (L.length : Int) ≤ m) := by
  induction d with
  | zero =>
    intro k i hi hd hL hk
    obtain ⟨k, rfl⟩ : ∃ n, k = n + 2 := ⟨k - 2, by omega⟩
    refine ⟨decide ((L.length : Int) > m), ?_, fun h => by simpa using h⟩
    rw [blazonref16_Great.l0, if_neg (by omega), blazonref16_Great.j0, if_neg (by decide)]
  | succ d ih =>
    intro k i hi hd hL hk
    obtain ⟨k, rfl⟩ : ∃ n, k = n + 2 := ⟨k - 2, by omega⟩
    rw [blazonref16_Great.l0, if_pos (by omega), blazonref16_Great.j0]
    by_cases h : (i : Int) < m
    · rw [if_pos (by simpa using h), if_pos (by omega), if_pos (by omega)]
      by_cases h2 : (((rd_T25 L (i : Int)).f0).size : Int) > 100
      · rw [if_pos h2]; exact ⟨true, rfl, fun h => by cases h⟩
      · rw [if_neg h2, wrap64_id (by omega) (by omega), show (i : Int) + 1 = ((i + 1 : Nat) : Int) by omega]
        exact ih k (i + 1) (by omega) (by omega) hL (by omega)
    · rw [if_neg (by simpa using h)]
      exact ⟨decide ((L.length : Int) > m), rfl, fun h => by simpa using h⟩
theorem great_tells (k : Nat) (L : List S25) (m : Int) (hm : m ≤ 1000) (hL : L.length ≤ 10000000000000) (hk : 2 * L.length + 2 ≤ k) : ∃ b, blazonref16_Great.f k L m = some b ∧ (b = false → (L.length : Int) ≤ m) :=
  great_l0 L m hm L.length k 0 (by omega) (by omega) hL hk
theorem lim24 {n : Nat} (h : n * 24 ≤ 140737488351232) : n ≤ 5864062014634 := by omega
theorem pow_bit (n j : Nat) : (2 ^ n).testBit j = decide (n = j) := Nat.testBit_two_pow
/-- What a row's set holds. -/
theorem sets_ok (T : List ByteArray) (L : List S25) : ∀ (i s : Nat), (sets T L i s).2.2 = 0 → (∀ x ∈ L, x.f0 ∈ T) ∧ ∀ j, (sets T L i s).1.testBit j = (s.testBit j || L.any fun x => decide (at_ T x.f0 = j)) := by
  induction L with
  | nil => intro i s _; exact ⟨fun x h => by simp at h, fun j => by simp [sets]⟩
  | cons x L ih =>
    intro i s h
    rw [sets] at h ⊢
    by_cases hx : x.f0 ∈ T
    · rw [if_pos hx] at h ⊢
      obtain ⟨h1, h2⟩ := ih (i + 1) _ h
      refine ⟨fun y hy => ?_, fun j => ?_⟩
      · rcases List.mem_cons.1 hy with rfl | hy
        · exact hx
        · exact h1 y hy
      · rw [h2 j, Nat.testBit_or, pow_bit, List.any_cons, Bool.or_assoc]
    · rw [if_neg hx] at h; simp at h
theorem sets_all (T : List ByteArray) (L : List S25) : ∀ (i s : Nat), (∀ x ∈ L, x.f0 ∈ T) → (sets T L i s).2.2 = 0 := by
  induction L with
  | nil => intro i s _; rfl
  | cons x L ih =>
    intro i s h
    rw [sets, if_pos (h x (by simp))]
    exact ih (i + 1) _ (fun y hy => h y (by simp [hy]))
theorem sets_bad (T : List ByteArray) (L : List S25) : ∀ (i s : Nat), (sets T L i s).2.2 ≠ 0 → (sets T L i s).1 = 0 ∧ (sets T L i s).2.2 = 13 ∧ (i : Int) ≤ (sets T L i s).2.1 := by
  induction L with
  | nil => intro i s h; simp [sets] at h
  | cons x L ih =>
    intro i s h
    rw [sets] at h ⊢
    by_cases hx : x.f0 ∈ T
    · rw [if_pos hx] at h ⊢
      obtain ⟨h1, h2, h3⟩ := ih (i + 1) _ h
      exact ⟨h1, h2, by omega⟩
    · rw [if_neg hx]; exact ⟨rfl, rfl, Int.le_refl _⟩
theorem sets_lt (T : List ByteArray) (hT : T.length ≤ 64) (L : List S25) : ∀ (i s : Nat), s < 2 ^ 64 → (sets T L i s).1 < 2 ^ 64 := by
  induction L with
  | nil => intro i s h; exact h
  | cons x L ih =>
    intro i s h
    rw [sets]
    by_cases hx : x.f0 ∈ T
    · rw [if_pos hx]
      have hlt := at_lt T _ hx
      exact ih (i + 1) _ (Nat.or_lt_two_pow h (Nat.pow_lt_pow_right (by decide) (by omega)))
    · rw [if_neg hx]; show 0 < 2 ^ 64; decide
theorem sets_app (T : List ByteArray) (A B : List S25) : ∀ (i s : Nat), (sets T A i s).2.2 = 0 → sets T (A ++ B) i s = sets T B (i + A.length) (sets T A i s).1 := by
  induction A with
  | nil => intro i s _; rfl
  | cons x A ih =>
    intro i s h
    rw [sets] at h
    rw [List.cons_append, sets]
    by_cases hx : x.f0 ∈ T
    · rw [if_pos hx] at h
      rw [if_pos hx, ih (i + 1) _ h]
      conv => rhs; rw [sets, if_pos hx]
      rw [List.length_cons, show i + 1 + A.length = i + (A.length + 1) by omega]
    · rw [if_neg hx] at h; simp at h

theorem within_of (a b : Nat) (ha : a < 2 ^ 64) (hb : b < 2 ^ 64) (h : ∀ j, a.testBit j = true → b.testBit j = true) : row_Within.f (a : Int) (b : Int) = some true := by
  unfold row_Within.f
  rw [u64_andNot_nat a b ha hb]
  have hc : ∀ j, j < 64 → (18446744073709551615 - b).testBit j = !b.testBit j := by
    intro j hj
    have := Nat.testBit_two_pow_sub_succ (x := b) (n := 64) hb j
    rw [show 2 ^ 64 - (b + 1) = 18446744073709551615 - b by omega] at this
    rw [this]; simp [hj]
  have hz : a &&& (18446744073709551615 - b) = 0 := by
    apply Nat.eq_of_testBit_eq
    intro j
    rw [Nat.testBit_and, Nat.zero_testBit]
    by_cases hj : j < 64
    · rw [hc j hj]
      cases haj : a.testBit j with
      | false => rfl
      | true => rw [h j haj]; rfl
    · rw [Nat.testBit_lt_two_pow (Nat.lt_of_lt_of_le ha (Nat.pow_le_pow_right (by decide) (by omega)))]; rfl
  rw [hz]; rfl
theorem RowBoth : blazonlaw16_RowBoth.Pure := by
  intro l a b hm1 hc1 hl hm2 hc2 ha hm3 hc3 hb
  have q1 := lim24 hc1
  have q2 := lim24 hc2
  have q3 := lim24 hc3
  refine ⟨2 * l.length + 2 * a.length + 2 * b.length + 3000, ?_⟩
  generalize hK : 2 * l.length + 2 * a.length + 2 * b.length + 3000 = K
  have haw : ∀ k, 200 ≤ k → (blazonlaw16_awake.f k).bind (fun t => some t) = some true := fun k hk => by rw [awake_tells k hk]; rfl
  obtain ⟨b0, e0, g0⟩ := great_tells K l 80 (by omega) (by omega) (by omega)
  obtain ⟨b1, e1, g1⟩ := great_tells K a 40 (by omega) (by omega) (by omega)
  obtain ⟨b2, e2, g2⟩ := great_tells K b 40 (by omega) (by omega) (by omega)
  obtain ⟨K, rfl⟩ : ∃ n, K = n + 2 := ⟨K - 2, by omega⟩
  unfold blazonlaw16_RowBoth.f
  rw [e0, Option.bind_some]
  cases b0 with
  | true => rw [if_pos rfl, blazonlaw16_RowBoth.j1, if_pos rfl, haw _ (by omega)]
  | false =>
    rw [if_neg (by decide), e1, Option.bind_some]
    cases b1 with
    | true => rw [if_pos rfl, blazonlaw16_RowBoth.j1, if_pos rfl, haw _ (by omega)]
    | false =>
      rw [if_neg (by decide), e2, Option.bind_some, blazonlaw16_RowBoth.j1]
      cases b2 with
      | true => rw [if_pos rfl, haw _ (by omega)]
      | false =>
        have hl80 := g0 rfl
        have ha40 := g1 rfl
        have hb40 := g2 rfl
        rw [if_neg (by decide), new_tells _ l (by omega) (by omega), Option.bind_some]
        simp only
        by_cases he : (news l 0 []).2.2 = 0
        · obtain ⟨T, hT1, hn, hT⟩ := news_ok l 0 [] (by simp) (by simp) he
          rw [hT1]
          simp only [Option.map_some]
          rw [set_tells _ T hT a (by omega) (by omega), Option.bind_some, set_tells _ T hT b (by omega) (by omega), Option.bind_some, Option.bind_some]
          simp only [List.length_nil, Nat.zero_add, List.nil_append, Option.bind_some]
          rw [if_pos (by omega), if_pos (by omega), set_tells _ T hT (a ++ b) (by simp; omega) (by simp; omega), Option.bind_some, if_pos he]
          dsimp only
          have hla := sets_lt T hT a 0 0 (by decide)
          have hlb := sets_lt T hT b 0 0 (by decide)
          have hlz := sets_lt T hT (a ++ b) 0 0 (by decide)
          by_cases hf : (sets T a 0 0).2.2 = 0
          · rw [if_pos hf]
            obtain ⟨ma, ba⟩ := sets_ok T a 0 0 hf
            by_cases hg : (sets T b 0 0).2.2 = 0
            · obtain ⟨mb, bb⟩ := sets_ok T b 0 0 hg
              have h0 := sets_all T (a ++ b) 0 0 (fun x hx => (List.mem_append.1 hx).elim (ma x) (mb x))
              have hz : (sets T (a ++ b) 0 0).1 = (sets T a 0 0).1 ||| (sets T b 0 0).1 := by
                apply Nat.eq_of_testBit_eq
                intro j
                rw [(sets_ok T _ 0 0 h0).2 j, Nat.testBit_or, ba j, bb j]
                simp
              generalize (sets T (a ++ b) 0 0).1 = z at *
              generalize (sets T a 0 0).1 = x at *
              generalize (sets T b 0 0).1 = y at *
              have hw1 := within_of x z hla hlz (fun j hj => by rw [hz, Nat.testBit_or, hj]; rfl)
              have hw2 := within_of y z hlb hlz (fun j hj => by rw [hz, Nat.testBit_or, hj]; simp)
              have hp : pc z ≤ pc x + pc y := by rw [hz]; exact pc_or x y
              have hpl : ∀ v, pc v ≤ 64 := by
                have : ∀ m v, (toD m v).sum ≤ m := by
                  intro m
                  induction m with
                  | zero => intro v; simp [toD]
                  | succ m ihm => intro v; simp only [toD, List.sum_cons]; have := ihm (v / 2); omega
                exact this 64
              have h1 := hpl x
              have h2 := hpl y
              rw [blazonlaw16_RowBoth.j0, if_neg (by simp [hg]), if_pos h0, u64_or_nat x y hla hlb, ← hz, if_pos rfl, hw1, Option.bind_some, if_pos rfl, hw2, Option.bind_some, if_pos rfl, count_tells z hlz, Option.bind_some, count_tells x hla, Option.bind_some, count_tells y hlb, Option.bind_some, wrap64_id (by omega) (by omega), if_pos (by omega), haw _ (by omega)]
            · have hne : (sets T (a ++ b) 0 0).2.2 ≠ 0 := by
                intro h
                exact hg (sets_all T b 0 0 (fun x hx => (sets_ok T (a ++ b) 0 0 h).1 x (by simp [hx])))
              have happ := sets_app T a b 0 0 hf
              obtain ⟨z1, z2, _⟩ := sets_bad T (a ++ b) 0 0 hne
              have hne2 : (sets T b (0 + a.length) (sets T a 0 0).1).2.2 ≠ 0 := by rw [← happ]; exact hne
              obtain ⟨_, _, z3⟩ := sets_bad T b (0 + a.length) (sets T a 0 0).1 hne2
              rw [← happ] at z3
              rw [blazonlaw16_RowBoth.j0, if_pos (by simp [hg]), if_pos z2, if_pos hf, if_pos (by omega), haw _ (by omega)]
          · have hne : (sets T (a ++ b) 0 0).2.2 ≠ 0 := by
              intro h
              exact hf (sets_all T a 0 0 (fun x hx => (sets_ok T (a ++ b) 0 0 h).1 x (by simp [hx])))
            obtain ⟨z1, z2, _⟩ := sets_bad T (a ++ b) 0 0 hne
            rw [if_neg hf, blazonlaw16_RowBoth.j0, if_pos rfl, if_pos z2, if_neg hf, haw _ (by omega)]
        · have hN : (news l 0 []).1 = none := by
            cases hN : (news l 0 []).1 with
            | none => rfl
            | some T =>
              have key : ∀ (L : List S25) (i : Nat) (T U : List ByteArray), (news L i T).1 = some U → (news L i T).2.2 = 0 := by
                intro L
                induction L with
                | nil => intro i T U _; rfl
                | cons x L ih =>
                  intro i T U h
                  rw [news] at h ⊢
                  by_cases h1 : identB x.f0 = true
                  · rw [if_pos h1] at h ⊢
                    by_cases h2 : x.f0 ∈ T
                    · rw [if_pos h2] at h; cases h
                    · rw [if_neg h2] at h ⊢
                      by_cases h3 : T.length = 64
                      · rw [if_pos h3] at h; cases h
                      · rw [if_neg h3] at h ⊢; exact ih _ _ _ h
                  · rw [if_neg h1] at h; cases h
              exact absurd (key l 0 [] T hN) he
          rw [hN]
          simp only [Option.map_none]
          rw [set_none _ a (by omega), Option.bind_some, set_none _ b (by omega), Option.bind_some, Option.bind_some]
          simp only [List.length_nil, Nat.zero_add, List.nil_append, Option.bind_some]
          rw [if_pos (by omega), if_pos (by omega), set_none _ (a ++ b) (by omega), Option.bind_some, if_neg he, haw _ (by omega)]

end Go.Proofs.Ytnhcpdepjpfcfaa.Pure
