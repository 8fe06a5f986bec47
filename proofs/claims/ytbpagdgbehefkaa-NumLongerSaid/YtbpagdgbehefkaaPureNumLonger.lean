/- Of two numbers the greater one's short form has no fewer bytes, and unlike numbers have unlike forms; for all numbers, without a condition. -/
import Derived.Test.YtbpagdgbehefkaaPNumLongerx1
import Derived.OpenShut
import Derived.Laws.BitsLemmas
set_option linter.unusedVariables false
set_option linter.unusedSimpArgs false
namespace Go.Proofs.Ytbpagdgbehefkaa.Pure
open Go.RowKit Go.Proofs.Ytbpagdgbehefkaa.PNumLonger Go.Proofs.YtbpagdgbehefkaaW.PrintWords Go.Proofs.YtbpagdgbehefkaaW.PrintLast

theorem wrap64_id {x : Int} (h0 : -9223372036854775808 ≤ x) (h1 : x ≤ 9223372036854775807) : wrap64 x = x := by unfold wrap64; omega
theorem rd_drop (l : List Int) (i : Nat) (h : i < l.length) : l.drop i = rd l (i : Int) :: l.drop (i + 1) := by
  rw [List.drop_eq_getElem_cons h]
  simp [rd, List.getD_eq_getElem?_getD, h]

/-- Two lists are compared to the end. -/
theorem same_l0 (l m : List Int) (hl : l.length = m.length) (hb : l.length ≤ 1000000000000000) (d : Nat) :
    ∀ (k i : Nat), i ≤ l.length → l.length - i = d → d < k → blazonref01_Same.l0 k l m (i : Int) = some (decide (l.drop i = m.drop i)) := by
  induction d with
  | zero =>
    intro k i hi hd hk
    obtain ⟨k, rfl⟩ : ∃ n, k = n + 1 := ⟨k - 1, by omega⟩
    simp only [blazonref01_Same.l0]
    rw [if_neg (by omega)]
    have e1 : l.drop i = [] := List.drop_eq_nil_of_le (by omega)
    have e2 : m.drop i = [] := List.drop_eq_nil_of_le (by omega)
    simp [e1, e2]
  | succ d ih =>
    intro k i hi hd hk
    obtain ⟨k, rfl⟩ : ∃ n, k = n + 1 := ⟨k - 1, by omega⟩
    simp only [blazonref01_Same.l0]
    rw [if_pos (by omega), if_pos (by omega), if_pos (by omega)]
    rw [rd_drop l i (by omega), rd_drop m i (by omega)]
    by_cases e : rd l (i : Int) = rd m (i : Int)
    · rw [if_pos e, wrap64_id (by omega) (by omega)]
      have := ih k (i + 1) (by omega) (by omega) (by omega)
      rw [show ((i : Int) + 1) = ((i + 1 : Nat) : Int) by omega, this]
      simp [e]
    · rw [if_neg e]
      simp [e]
theorem same_tells (k : Nat) (l m : List Int) (hb : l.length ≤ 1000000000000000) (hk : l.length < k) : blazonref01_Same.f k l m = some (decide (l = m)) := by
  unfold blazonref01_Same.f
  by_cases e : (l.length : Int) = (m.length : Int)
  · rw [if_pos e]
    have := same_l0 l m (by omega) hb l.length k 0 (by omega) (by omega) hk
    simpa using this
  · rw [if_neg e]
    have : l ≠ m := fun h => e (by rw [h])
    simp [this]

/-- A number's short form. -/
def short (n : Nat) : List Int := if n < 128 then [(n : Int)] else (((n % 128 + 128 : Nat) : Int)) :: short (n / 128)
theorem or_128 (x : Int) (h : 0 ≤ x) : Go.bits .or .u8 (x % 256) 128 = ((x.toNat % 128 + 128 : Nat) : Int) := by
  obtain ⟨n, rfl⟩ := Int.eq_ofNat_of_zero_le h
  have h1 : ((n : Int) % 256) = ((n % 256 : Nat) : Int) := by omega
  have h2 : (128 : Int) = ((128 : Nat) : Int) := rfl
  rw [h1, h2, (bits_nat .u8 8 (by decide) (fun n h0 h1 => wraps_u8 n h0 h1) (n % 256) 128 (by omega) (by decide)).2]
  have : ∀ b : Fin 256, b.val ||| 128 = b.val % 128 + 128 := by decide +kernel
  have h3 := this ⟨n % 256, by omega⟩
  simp only at h3
  rw [h3]
  simp only [Int.toNat_natCast]
  omega
theorem put_l0 (d : Nat) : ∀ (k : Nat) (l : List Int) (n : Nat), n < 128 ^ (d + 1) → d < k → l.length + d < 140737488355328 → num_Put.l0 k l (n : Int) = some (l ++ short n) := by
  induction d with
  | zero =>
    intro k l n hn hk hl
    obtain ⟨k, rfl⟩ : ∃ n, k = n + 1 := ⟨k - 1, by omega⟩
    simp only [num_Put.l0]
    have hn' : n < 128 := by simpa using hn
    rw [if_neg (by omega), if_pos (by omega)]
    unfold short
    rw [if_pos hn']
    congr 3
    omega
  | succ d ih =>
    intro k l n hn hk hl
    obtain ⟨k, rfl⟩ : ∃ n, k = n + 1 := ⟨k - 1, by omega⟩
    simp only [num_Put.l0]
    by_cases e : n < 128
    · rw [if_neg (by omega), if_pos (by omega)]
      unfold short
      rw [if_pos e]
      congr 3
      omega
    · rw [if_pos (by omega), if_pos (by omega)]
      have hq : n / 128 < 128 ^ (d + 1) := by
        rw [Nat.div_lt_iff_lt_mul (by decide)]
        rw [Nat.pow_succ] at hn
        omega
      have hx : ((n : Int) / 128) = ((n / 128 : Nat) : Int) := by omega
      rw [hx, or_128 _ (by omega), ih k _ (n / 128) hq (by omega) (by simp; omega)]
      rw [show short n = (((n % 128 + 128 : Nat) : Int)) :: short (n / 128) by rw [short.eq_1 n, if_neg e]]
      simp
theorem put_tells (k : Nat) (l : List Int) (x : Int) (h0 : 0 ≤ x) (h1 : x < 18446744073709551616) (hk : 10 ≤ k) (hl : l.length ≤ 140000000000000) : num_Put.f k l x = some (l ++ short x.toNat) := by
  unfold num_Put.f
  have := put_l0 9 k l x.toNat (by have : (128 ^ (9 + 1) : Nat) = 1180591620717411303424 := by decide
                                   omega) (by omega) (by omega)
  rwa [show ((x.toNat : Nat) : Int) = x by omega] at this
theorem u64_range {x : Int} (h : (Lit.int .u64 x).wf = true) : 0 ≤ x ∧ x < 18446744073709551616 := by
  have := bounds_u64 h
  omega
theorem short_pos (n : Nat) : 0 < (short n).length := by unfold short; split <;> simp
theorem short_small (d : Nat) : ∀ n, n < 128 ^ (d + 1) → (short n).length ≤ d + 1 := by
  induction d with
  | zero => intro n h; unfold short; rw [if_pos (by simpa using h)]; simp
  | succ d ih =>
    intro n h
    unfold short
    split
    · simp
    · have hq : n / 128 < 128 ^ (d + 1) := by
        rw [Nat.div_lt_iff_lt_mul (by decide)]
        rw [Nat.pow_succ] at h
        omega
      have := ih _ hq
      simp; omega
theorem short_ten (x : Int) (h1 : x < 18446744073709551616) : (short x.toNat).length ≤ 10 :=
  short_small 9 _ (by have : (128 ^ (9 + 1) : Nat) = 1180591620717411303424 := by decide
                      omega)
theorem awake_true (k : Nat) (hk : 10 ≤ k) : blazonlaw01_awake.f k = some true := by
  unfold blazonlaw01_awake.f
  have ha : num_Add.f 9223372036854775807 1 = some (0, 18) := by decide +kernel
  rw [ha]
  simp only [Option.bind_some]
  rw [put_tells k [] 300 (by decide) (by decide) hk (by simp)]
  simp only [Option.bind_some]
  have hs : short (300 : Int).toNat = [172, 2] := by
    simp [short.eq_1]
  rw [hs, same_tells k _ _ (by simp) (by simp; omega)]
  rfl

def back : List Int → Int
  | [] => 0
  | d :: r => d % 128 + 128 * back r
theorem back_short (n : Nat) : back (short n) = n := by
  induction n using Nat.strongRecOn with
  | _ n ih =>
    unfold short
    split
    · simp [back]; omega
    · have := ih (n / 128) (by omega)
      simp only [back, this]
      omega
theorem short_mono (a : Nat) : ∀ b, a ≤ b → (short a).length ≤ (short b).length := by
  induction a using Nat.strongRecOn with
  | _ a ih =>
    intro b h
    rw [short.eq_1 a, short.eq_1 b]
    split
    · split <;> simp
    · rw [if_neg (by omega)]
      have := ih (a / 128) (by omega) (b / 128) (Nat.div_le_div_right h)
      simp; omega
theorem NumLonger : blazonlaw01_NumLonger.Pure := by
  intro a b ha hb
  have ra := u64_range ha
  have rb := u64_range hb
  refine ⟨100, ?_⟩
  unfold blazonlaw01_NumLonger.f
  rw [put_tells 100 [] a ra.1 ra.2 (by decide) (by simp), put_tells 100 [] b rb.1 rb.2 (by decide) (by simp)]
  simp only [Option.bind_some, List.nil_append]
  have la := short_ten a ra.2
  rw [same_tells 100 (short a.toNat) (short b.toNat) (by omega) (by omega)]
  simp only [Option.bind_some, awake_true 100 (by decide)]
  by_cases e : a = b
  · rw [if_pos e]
    simp [e]
  · rw [if_neg e]
    have hne : short a.toNat ≠ short b.toNat := by
      intro h
      have h1 := back_short a.toNat
      rw [h, back_short] at h1
      omega
    rw [if_neg (by simpa using hne)]
    by_cases h : a < b
    · have := short_mono a.toNat b.toNat (by omega)
      rw [if_pos h, if_pos (by omega)]
    · have := short_mono b.toNat a.toNat (by omega)
      rw [if_neg h, if_pos (by omega), if_pos (by omega)]

end Go.Proofs.Ytbpagdgbehefkaa.Pure
