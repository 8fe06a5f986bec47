/- What was laid is read again, whatever stands behind it; what was added is taken away again; a number is told by one form alone; for all numbers and all bytes that the row reads. -/
import Derived.Test.YtbpagdgbehefkaaPNumBackx2
import Derived.OpenShut
import Derived.Laws.BitsLemmas
import Derived.Laws.BitsAllLaws
import Derived.Test.YtbpagdgbehefkaaWSized
set_option linter.unusedVariables false
set_option linter.unusedSimpArgs false
namespace Go.Proofs.Ytbpagdgbehefkaa.Pure
open Go.RowKit Go.Proofs.Ytbpagdgbehefkaa.PNumBack Go.Proofs.YtbpagdgbehefkaaW.PrintWords Go.Proofs.YtbpagdgbehefkaaW.PrintLast

theorem wrap64_id {x : Int} (h0 : -9223372036854775808 ≤ x) (h1 : x ≤ 9223372036854775807) : wrap64 x = x := by unfold wrap64; omega
theorem rd_drop (l : List Int) (i : Nat) (h : i < l.length) : l.drop i = rd l (i : Int) :: l.drop (i + 1) := by
  rw [List.drop_eq_getElem_cons h]
  simp [rd, List.getD_eq_getElem?_getD, h]

/-- Two lists are compared to the end. -/
theorem same_l0 (l m : List Int) (hl : l.length = m.length) (hb : l.length ≤ 1000000000000000) (d : Nat) :
    ∀ (k i : Nat), i ≤ l.length → l.length - i = d → d < k → blazonref01_Same.l0 k l m (i : Int) = some (decide (l.drop i = m.drop i)) := by
  induction d with
  | zero =>
    intro k i hi hd hk
    obtain ⟨k, rfl⟩ : ∃ n, k = n + 1 := ⟨k - 1, by omega⟩
    simp only [blazonref01_Same.l0]
    rw [if_neg (by omega)]
    have e1 : l.drop i = [] := List.drop_eq_nil_of_le (by omega)
    have e2 : m.drop i = [] := List.drop_eq_nil_of_le (by omega)
    simp [e1, e2]
  | succ d ih =>
    intro k i hi hd hk
    obtain ⟨k, rfl⟩ : ∃ n, k = n + 1 := ⟨k - 1, by omega⟩
    simp only [blazonref01_Same.l0]
    rw [if_pos (by omega), if_pos (by omega), if_pos (by omega)]
    rw [rd_drop l i (by omega), rd_drop m i (by omega)]
    by_cases e : rd l (i : Int) = rd m (i : Int)
    · rw [if_pos e, wrap64_id (by omega) (by omega)]
      have := ih k (i + 1) (by omega) (by omega) (by omega)
      rw [show ((i : Int) + 1) = ((i + 1 : Nat) : Int) by omega, this]
      simp [e]
    · rw [if_neg e]
      simp [e]
theorem same_tells (k : Nat) (l m : List Int) (hb : l.length ≤ 1000000000000000) (hk : l.length < k) : blazonref01_Same.f k l m = some (decide (l = m)) := by
  unfold blazonref01_Same.f
  by_cases e : (l.length : Int) = (m.length : Int)
  · rw [if_pos e]
    have := same_l0 l m (by omega) hb l.length k 0 (by omega) (by omega) hk
    simpa using this
  · rw [if_neg e]
    have : l ≠ m := fun h => e (by rw [h])
    simp [this]

/-- A number's short form. -/
def short (n : Nat) : List Int := if n < 128 then [(n : Int)] else (((n % 128 + 128 : Nat) : Int)) :: short (n / 128)
theorem or_128 (x : Int) (h : 0 ≤ x) : Go.bits .or .u8 (x % 256) 128 = ((x.toNat % 128 + 128 : Nat) : Int) := by
  obtain ⟨n, rfl⟩ := Int.eq_ofNat_of_zero_le h
  have h1 : ((n : Int) % 256) = ((n % 256 : Nat) : Int) := by omega
  have h2 : (128 : Int) = ((128 : Nat) : Int) := rfl
  rw [h1, h2, (bits_nat .u8 8 (by decide) (fun n h0 h1 => wraps_u8 n h0 h1) (n % 256) 128 (by omega) (by decide)).2]
  have : ∀ b : Fin 256, b.val ||| 128 = b.val % 128 + 128 := by decide +kernel
  have h3 := this ⟨n % 256, by omega⟩
  simp only at h3
  rw [h3]
  simp only [Int.toNat_natCast]
  omega
theorem put_l0 (d : Nat) : ∀ (k : Nat) (l : List Int) (n : Nat), n < 128 ^ (d + 1) → d < k → l.length + d < 140737488355328 → num_Put.l0 k l (n : Int) = some (l ++ short n) := by
  induction d with
  | zero =>
    intro k l n hn hk hl
    obtain ⟨k, rfl⟩ : ∃ n, k = n + 1 := ⟨k - 1, by omega⟩
    simp only [num_Put.l0]
    have hn' : n < 128 := by simpa using hn
    rw [if_neg (by omega), if_pos (by omega)]
    unfold short
    rw [if_pos hn']
    congr 3
    omega
  | succ d ih =>
    intro k l n hn hk hl
    obtain ⟨k, rfl⟩ : ∃ n, k = n + 1 := ⟨k - 1, by omega⟩
    simp only [num_Put.l0]
    by_cases e : n < 128
    · rw [if_neg (by omega), if_pos (by omega)]
      unfold short
      rw [if_pos e]
      congr 3
      omega
    · rw [if_pos (by omega), if_pos (by omega)]
      have hq : n / 128 < 128 ^ (d + 1) := by
        rw [Nat.div_lt_iff_lt_mul (by decide)]
        rw [Nat.pow_succ] at hn
        omega
      have hx : ((n : Int) / 128) = ((n / 128 : Nat) : Int) := by omega
      rw [hx, or_128 _ (by omega), ih k _ (n / 128) hq (by omega) (by simp; omega)]
      rw [show short n = (((n % 128 + 128 : Nat) : Int)) :: short (n / 128) by rw [short.eq_1 n, if_neg e]]
      simp
theorem put_tells (k : Nat) (l : List Int) (x : Int) (h0 : 0 ≤ x) (h1 : x < 18446744073709551616) (hk : 10 ≤ k) (hl : l.length ≤ 140000000000000) : num_Put.f k l x = some (l ++ short x.toNat) := by
  unfold num_Put.f
  have := put_l0 9 k l x.toNat (by have : (128 ^ (9 + 1) : Nat) = 1180591620717411303424 := by decide
                                   omega) (by omega) (by omega)
  rwa [show ((x.toNat : Nat) : Int) = x by omega] at this
theorem u64_range {x : Int} (h : (Lit.int .u64 x).wf = true) : 0 ≤ x ∧ x < 18446744073709551616 := by
  have := bounds_u64 h
  omega
theorem short_pos (n : Nat) : 0 < (short n).length := by unfold short; split <;> simp
theorem short_small (d : Nat) : ∀ n, n < 128 ^ (d + 1) → (short n).length ≤ d + 1 := by
  induction d with
  | zero => intro n h; unfold short; rw [if_pos (by simpa using h)]; simp
  | succ d ih =>
    intro n h
    unfold short
    split
    · simp
    · have hq : n / 128 < 128 ^ (d + 1) := by
        rw [Nat.div_lt_iff_lt_mul (by decide)]
        rw [Nat.pow_succ] at h
        omega
      have := ih _ hq
      simp; omega
theorem short_ten (x : Int) (h1 : x < 18446744073709551616) : (short x.toNat).length ≤ 10 :=
  short_small 9 _ (by have : (128 ^ (9 + 1) : Nat) = 1180591620717411303424 := by decide
                      omega)
theorem awake_true (k : Nat) (hk : 10 ≤ k) : blazonlaw01_awake.f k = some true := by
  unfold blazonlaw01_awake.f
  have ha : num_Add.f 9223372036854775807 1 = some (0, 18) := by decide +kernel
  rw [ha]
  simp only [Option.bind_some]
  rw [put_tells k [] 300 (by decide) (by decide) hk (by simp)]
  simp only [Option.bind_some]
  have hs : short (300 : Int).toNat = [172, 2] := by
    simp [short.eq_1]
  rw [hs, same_tells k _ _ (by simp) (by simp; omega)]
  rfl

/-- What is read of bytes as a short form, from digit i on, so much having been read. -/
def getS : Nat → Nat → List Int → Int × Int × Int
  | _, _, [] => (0, 0, 2)
  | i, acc, c :: r => if (i = 9 ∧ c % 128 > 1) ∨ i ≥ 10 then (0, 0, 4) else if c ≥ 128 then getS (i + 1) (acc + (c % 128).toNat * 128 ^ i) r else if c % 128 = 0 ∧ i > 0 then (0, 0, 4) else (((acc + (c % 128).toNat * 128 ^ i : Nat) : Int), (i : Int) + 1, 0)
theorem not_128 (c : Int) (h0 : 0 ≤ c) (h1 : c < 256) : IntKind.u64.wrap (Go.bits .andNot .u8 c 128) = c % 128 := by
  rw [u8_andNot c 128 h0 h1 (by decide) (by decide), IntKind.wrap_u64]
  have : ∀ b : Fin 256, b.val &&& (255 - (128 : Int).toNat) = b.val % 128 := by decide +kernel
  have h3 := this ⟨c.toNat, by omega⟩
  simp only at h3
  rw [h3]
  omega
theorem pow_7 (i : Nat) : 2 ^ (7 * i) = 128 ^ i := by rw [Nat.pow_mul]
theorem shl_7 (i : Nat) (hi : i ≤ 9) (d : Nat) (hd : d < 128) (h9 : i = 9 → d ≤ 1) : shl .u64 (d : Int) (IntKind.u64.wrap (wrap64 (7 * (i : Int)))) = ((d * 128 ^ i : Nat) : Int) := by
  have hp : d * 128 ^ i < 18446744073709551616 := by
    by_cases e : i = 9
    · subst e
      have := h9 rfl
      have : (128 ^ 9 : Nat) = 9223372036854775808 := by decide
      rw [this]; omega
    · have h1 : 128 ^ i ≤ 128 ^ 8 := Nat.pow_le_pow_right (by decide) (by omega)
      have h2 : (128 ^ 8 : Nat) = 72057594037927936 := by decide
      rw [h2] at h1
      have := Nat.mul_lt_mul_of_lt_of_le hd h1 (by decide)
      omega
  rw [wrap64_id (by omega) (by omega), IntKind.wrap_u64]
  unfold shl
  have e1 : ((7 * (i : Int)) % 18446744073709551616).toNat = 7 * i := by omega
  have e2 : min (7 * i) IntKind.u64.bits = 7 * i := by
    have : IntKind.u64.bits = 64 := by decide
    rw [this]; omega
  rw [e1, e2, IntKind.wrap_u64]
  have e3 : (d : Int) * 2 ^ (7 * i) = ((d * 128 ^ i : Nat) : Int) := by
    rw [← pow_7]
    push_cast
    rfl
  rw [e3]
  omega
theorem or_7 (i : Nat) (hi : i ≤ 9) (acc d : Nat) (hd : d < 128) (h9 : i = 9 → d ≤ 1) (ha : acc < 128 ^ i) : Go.bits .or .u64 (acc : Int) ((d * 128 ^ i : Nat) : Int) = ((acc + d * 128 ^ i : Nat) : Int) ∧ acc + d * 128 ^ i < 18446744073709551616 ∧ (i < 9 → acc + d * 128 ^ i < 128 ^ (i + 1)) := by
  have hp : acc + d * 128 ^ i < 18446744073709551616 := by
    by_cases e : i = 9
    · subst e
      have := h9 rfl
      have : (128 ^ 9 : Nat) = 9223372036854775808 := by decide
      rw [this] at *; omega
    · have h1 : 128 ^ i ≤ 128 ^ 8 := Nat.pow_le_pow_right (by decide) (by omega)
      have h2 : (128 ^ 8 : Nat) = 72057594037927936 := by decide
      rw [h2] at h1
      have := Nat.mul_le_mul (show d ≤ 127 by omega) h1
      omega
  refine ⟨?_, hp, ?_⟩
  · rw [u64_or_nat acc _ (by omega) (by omega), Nat.or_comm, nat_join (7 * i) (d * 128 ^ i) acc ?_ ?_, Nat.add_comm]
    · rw [pow_7]; exact Nat.mul_mod_left _ _
    · rw [pow_7]; exact ha
  · intro _
    rw [Nat.pow_succ]
    have := Nat.mul_le_mul (show d ≤ 127 by omega) (Nat.le_refl (128 ^ i))
    omega
theorem byte_at (l : List Int) (h : ∀ x ∈ l, 0 ≤ x ∧ x < 256) (i : Int) : 0 ≤ rd l i ∧ rd l i < 256 := by
  unfold rd
  rw [List.getD_eq_getElem?_getD]
  cases e : l[i.toNat]? with
  | none => simp
  | some v =>
    have := h v (List.mem_of_getElem? e)
    simp; omega
theorem get_l0 (l : List Int) (h : ∀ x ∈ l, 0 ≤ x ∧ x < 256) (hl : l.length ≤ 100000000000000) (D : Nat) : ∀ (k i acc : Nat), i ≤ l.length → l.length - i = D → 2 * D < k → acc < 18446744073709551616 → (i ≤ 9 → acc < 128 ^ i) → num_Get.l0 k (acc : Int) l (l.length : Int) (i : Int) = some (getS i acc (l.drop i)) := by
  induction D with
  | zero =>
    intro k i acc hi hd hk ha ha9
    obtain ⟨k, rfl⟩ : ∃ n, k = n + 1 := ⟨k - 1, by omega⟩
    simp only [num_Get.l0]
    rw [if_neg (by omega), List.drop_eq_nil_of_le (by omega)]
    simp [getS]
  | succ D ih =>
    intro k i acc hi hd hk ha ha9
    obtain ⟨k, rfl⟩ : ∃ n, k = n + 2 := ⟨k - 2, by omega⟩
    have hc := byte_at l h (i : Int)
    simp only [num_Get.l0]
    rw [if_pos (by omega), if_pos (by omega), if_pos (by omega), not_128 _ hc.1 hc.2, rd_drop l i (by omega)]
    generalize hcc : rd l (i : Int) = c at *
    simp only [getS]
    have j1 : num_Get.j1 (k + 1) (acc : Int) (i : Int) c (c % 128) l (l.length : Int) (i : Int) (decide (((i = 9 ∧ c % 128 > 1) ∨ i ≥ 10))) = some (if (i = 9 ∧ c % 128 > 1) ∨ i ≥ 10 then (0, 0, 4) else if c ≥ 128 then getS (i + 1) (acc + (c % 128).toNat * 128 ^ i) (l.drop (i + 1)) else if c % 128 = 0 ∧ i > 0 then (0, 0, 4) else (((acc + (c % 128).toNat * 128 ^ i : Nat) : Int), (i : Int) + 1, 0)) := by
      simp only [num_Get.j1]
      by_cases e : (i = 9 ∧ c % 128 > 1) ∨ i ≥ 10
      · rw [if_pos (by simpa using e), if_pos e]
      · rw [if_neg (by simpa using e), if_neg e]
        have hi9 : i ≤ 9 := by omega
        have hd128 : (c % 128).toNat < 128 := by omega
        have hs := shl_7 i hi9 (c % 128).toNat hd128 (by omega)
        have ho := or_7 i hi9 acc (c % 128).toNat hd128 (by omega) (ha9 hi9)
        rw [show (((c % 128).toNat : Nat) : Int) = c % 128 by omega] at hs
        rw [hs, ho.1]
        rw [if_pos (by rw [wrap64_id (by omega) (by omega), IntKind.wrap_u64]; omega)]
        rw [wrap64_id (x := (i : Int) + 1) (by omega) (by omega)]
        by_cases e2 : c ≥ 128
        · rw [if_pos (by omega), if_pos e2]
          have := ih k (i + 1) (acc + (c % 128).toNat * 128 ^ i) (by omega) (by omega) (by omega) ho.2.1 (fun h => ho.2.2 (by omega))
          rw [show ((i : Int) + 1) = ((i + 1 : Nat) : Int) by omega]
          exact this
        · rw [if_neg (by omega), if_neg e2]
          by_cases e3 : c % 128 = 0
          · rw [if_pos e3]
            by_cases e4 : i > 0
            · rw [if_pos (by omega), if_pos ⟨e3, e4⟩]
            · rw [if_neg (by omega), if_neg (by omega)]
          · rw [if_neg e3, if_neg (by omega)]
    rw [← j1]
    by_cases e9 : (i : Int) = 9
    · rw [if_pos e9]
      by_cases e1 : c % 128 > 1
      · rw [if_pos e1]
        congr 1
        exact (decide_eq_true (by omega)).symm
      · rw [if_neg e1]
        congr 1
        exact decide_eq_decide.2 (by omega)
    · rw [if_neg e9]
      congr 1
      exact decide_eq_decide.2 (by omega)
theorem get_tells (k : Nat) (l : List Int) (h : ∀ x ∈ l, 0 ≤ x ∧ x < 256) (hl : l.length ≤ 100000000000000) (hk : 2 * l.length < k) : num_Get.f k l = some (getS 0 0 l) := by
  have := get_l0 l h hl l.length k 0 0 (by omega) (by omega) hk (by decide) (by intro _; decide)
  simpa [num_Get.f] using this
theorem short_byte (n : Nat) : ∀ x ∈ short n, 0 ≤ x ∧ x < 256 := by
  induction n using Nat.strongRecOn with
  | _ n ih =>
    intro x hx
    rw [short.eq_1] at hx
    split at hx
    · simp at hx; omega
    · rcases List.mem_cons.1 hx with h | h
      · omega
      · exact ih _ (by omega) x h
theorem getS_short (more : List Int) (m : Nat) : ∀ i acc, i ≤ 9 → m * 128 ^ i < 18446744073709551616 → (0 < i → 0 < m) → getS i acc (short m ++ more) = (((acc + m * 128 ^ i : Nat) : Int), (i : Int) + (short m).length, 0) := by
  induction m using Nat.strongRecOn with
  | _ m ih =>
    intro i acc hi hm hp
    rw [short.eq_1]
    have h9 : (128 ^ 9 : Nat) = 9223372036854775808 := by decide
    by_cases e : m < 128
    · rw [if_pos e]
      simp only [List.cons_append, List.nil_append, getS]
      have e9 : i = 9 → m ≤ 1 := by
        rintro rfl
        rw [h9] at hm; omega
      rw [if_neg (by omega), if_neg (by omega), if_neg (by omega)]
      have : ((m : Int) % 128).toNat = m := by omega
      rw [this]
      simp
    · rw [if_neg e]
      simp only [List.cons_append, getS]
      have hi8 : i ≤ 8 := by
        rcases Nat.lt_or_ge i 9 with h | h
        · omega
        · exfalso
          have : i = 9 := by omega
          subst this
          rw [h9] at hm; omega
      rw [if_neg (by omega), if_pos (by omega)]
      have e2 : ((((m % 128 + 128 : Nat) : Int)) % 128).toNat = m % 128 := by omega
      have e3 : m % 128 * 128 ^ i + m / 128 * 128 ^ (i + 1) = m * 128 ^ i := by
        rw [Nat.pow_succ, Nat.mul_comm (128 ^ i) 128, ← Nat.mul_assoc, ← Nat.add_mul]
        congr 1; omega
      have := ih (m / 128) (by omega) (i + 1) (acc + m % 128 * 128 ^ i) (by omega) (by omega) (by omega)
      rw [e2, this]
      simp only [List.length_cons]
      refine Prod.ext ?_ (Prod.ext ?_ rfl)
      · simp only; omega
      · simp only; omega
theorem getS_cut (m : Nat) : ∀ i acc, i ≤ 9 → m * 128 ^ i < 18446744073709551616 → getS i acc ((short m).take ((short m).length - 1)) = (0, 0, 2) := by
  induction m using Nat.strongRecOn with
  | _ m ih =>
    intro i acc hi hm
    rw [short.eq_1]
    have h9 : (128 ^ 9 : Nat) = 9223372036854775808 := by decide
    by_cases e : m < 128
    · rw [if_pos e]
      simp [getS]
    · rw [if_neg e]
      have hlen := short_pos (m / 128)
      have ht : ((((m % 128 + 128 : Nat) : Int)) :: short (m / 128)).take (((((m % 128 + 128 : Nat) : Int)) :: short (m / 128)).length - 1) = (((m % 128 + 128 : Nat) : Int)) :: (short (m / 128)).take ((short (m / 128)).length - 1) := by
        rw [List.length_cons, show (short (m / 128)).length + 1 - 1 = ((short (m / 128)).length - 1) + 1 by omega, List.take_succ_cons]
      rw [ht]
      simp only [getS]
      have hi8 : i ≤ 8 := by
        rcases Nat.lt_or_ge i 9 with h | h
        · omega
        · exfalso
          have : i = 9 := by omega
          subst this
          rw [h9] at hm; omega
      rw [if_neg (by omega), if_pos (by omega)]
      have e3 : m % 128 * 128 ^ i + m / 128 * 128 ^ (i + 1) = m * 128 ^ i := by
        rw [Nat.pow_succ, Nat.mul_comm (128 ^ i) 128, ← Nat.mul_assoc, ← Nat.add_mul]
        congr 1; omega
      exact ih (m / 128) (by omega) (i + 1) _ (by omega) (by omega)

theorem add_ok (a b : Int) (ha : -9223372036854775808 ≤ a ∧ a ≤ 9223372036854775807) (hb : -9223372036854775808 ≤ b ∧ b ≤ 9223372036854775807) : num_Add.f a b = if -9223372036854775808 ≤ a + b ∧ a + b ≤ 9223372036854775807 then some (a + b, 0) else some (0, 18) := by
  unfold num_Add.f
  by_cases h : -9223372036854775808 ≤ a + b ∧ a + b ≤ 9223372036854775807
  · rw [if_pos h, wrap64_id h.1 h.2, if_neg]
    by_cases hb0 : b > 0
    · have : a + b > a := by omega
      simp [hb0]; omega
    · have : ¬ a + b > a := by omega
      simp [hb0]; omega
  · rw [if_neg h, if_pos]
    by_cases hb0 : b > 0
    · have : ¬ wrap64 (a + b) > a := by unfold wrap64; omega
      simp only [decide_eq_true hb0, decide_eq_false this]
      decide
    · have : wrap64 (a + b) > a := by unfold wrap64; omega
      simp only [decide_eq_false hb0, decide_eq_true this]
      decide
theorem NumBack : blazonlaw01_NumBack.Pure := by
  intro n a b l hn ha hb h1 h2 hl
  have rn := u64_range hn
  have fa := bounds_i64 ha
  have fb := bounds_i64 hb
  refine ⟨1000, ?_⟩
  unfold blazonlaw01_NumBack.f
  by_cases e : (l.length : Int) > 200
  · rw [if_pos e, awake_true 1000 (by decide)]
    rfl
  · rw [if_neg e, put_tells 1000 [] n rn.1 rn.2 (by decide) (by simp)]
    simp only [Option.bind_some, List.length_nil, List.nil_append]
    have l10 := short_ten n rn.2
    have hb8 : ∀ x ∈ short n.toNat ++ l, 0 ≤ x ∧ x < 256 := by
      intro x hx
      rcases List.mem_append.1 hx with h | h
      · exact short_byte _ x h
      · have := bounds_u8 (hl x h); omega
    rw [if_pos (by omega), if_pos (by omega), get_tells 1000 _ hb8 (by simp; omega) (by simp; omega), getS_short l n.toNat 0 0 (by decide) (by omega) (by omega)]
    simp only [Option.bind_some]
    rw [if_pos (by omega), if_pos (by omega)]
    have hq : (mx 0 (wrap64 (((short n.toNat).length : Int) - 1))) = (((short n.toNat).length - 1 : Nat) : Int) := by
      have := short_pos n.toNat
      rw [wrap64_id (by omega) (by omega)]
      unfold mx
      split <;> omega
    have hcut : num_Get.f 999 ((short n.toNat).take ((short n.toNat).length - 1)) = some (0, 0, 2) := by
      rw [get_tells 999 _ (fun x hx => short_byte _ x (List.mem_of_mem_take hx)) (by simp; omega) (by simp; omega), getS_cut n.toNat 0 0 (by decide) (by omega)]
    simp only [blazonlaw01_NumBack.j0]
    rw [if_neg (by decide), hq, if_pos (by omega), if_pos (by omega), Int.toNat_natCast, hcut, add_ok a b fa fb]
    simp only [Option.bind_some]
    have f1 : ∀ x, blazonlaw01_NumBack.j1 999 a b x true = some true := by
      intro x
      simp only [blazonlaw01_NumBack.j1]
      rw [if_pos trivial, awake_true 998 (by decide)]
      rfl
    by_cases h : -9223372036854775808 ≤ a + b ∧ a + b ≤ 9223372036854775807
    · rw [if_pos h]
      simp only [Option.bind_some]
      rw [if_pos trivial, if_pos trivial]
      by_cases hl : b = -9223372036854775808
      · rw [show (b == -9223372036854775808) = true by simpa using hl]
        exact f1 _
      · rw [show (b == -9223372036854775808) = false by simpa using hl]
        simp only [blazonlaw01_NumBack.j1]
        rw [if_neg (by decide), wrap64_id (by omega) (by omega), add_ok (a + b) (-b) h (by omega), if_pos (by omega), awake_true 998 (by decide)]
        simp only [Option.bind_some]
        rw [if_pos (by omega), if_pos trivial]
    · rw [if_neg h]
      simp only [Option.bind_some]
      rw [if_pos trivial, if_neg (by decide)]
      exact f1 _

end Go.Proofs.Ytbpagdgbehefkaa.Pure

/-- The printed row names this lemma from its own namespace. -/
theorem Go.Proofs.Ytbpagdgbehefkaa.PrintWords.sized_ints {H : Type} {enc : Go.TypeId × Go.Value → H} {P : Go.Program} {W : Go.World} {base : Nat} {spare : Nat → Bool} {held : Bool} {t e : Go.TypeId} {k : Go.IntKind} {a : Option Go.Addr} {len cap : Nat} {d : Go.DataW H} {ps : List Go.MemPlace} {ts : List Go.TypeId} {ds : List (Go.DataW H)} {j : Nat}
    (hsz : (Go.DataW.weightsEach P ts ds).all (· ≤ Go.reachBytes) = true) (ht : ts[j]? = some t) (hd : ds[j]? = some d) (hu : P.underlying t = some (.slice e)) (he : P.underlying e = some (.int k)) (hc : P.cellsOf e = 1) {B : Nat} (hB : P.bytesOf e = B)
    (h : Go.DataW.Trod enc P W base spare held t (.slice a len cap) d ps) : len * B ≤ 140737488351232 :=
  Go.Proofs.YtbpagdgbehefkaaW.PrintWords.sized_ints hsz ht hd hu he hc hB h
