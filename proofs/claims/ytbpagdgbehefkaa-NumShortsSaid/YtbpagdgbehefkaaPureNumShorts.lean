/- Any number's short form, behind any bytes, is the document's; any bytes are read as the number whose short form they begin with, or refused; they stay. -/
import Derived.Test.YtbpagdgbehefkaaPNshx1
import Derived.Test.YtbpagdgbehefkaaPNshx2
import Derived.OpenShut
import Derived.Laws.BitsLemmas
import Derived.Laws.BitsAllLaws
import Derived.Laws.Bits64b
import Derived.Lib.TrailingZeros
import Derived.Lib.Bytes
import Derived.Test.YtbpagdgbehefkaaWSized
set_option linter.unusedVariables false
set_option linter.unusedSimpArgs false
namespace Go.Proofs.Ytbpagdgbehefkaa.Pure
open Go.RowKit Go.Proofs.Ytbpagdgbehefkaa.PNsh Go.Proofs.YtbpagdgbehefkaaW.PrintWords Go.Proofs.YtbpagdgbehefkaaW.PrintLast

theorem wrap64_id {x : Int} (h0 : -9223372036854775808 ≤ x) (h1 : x ≤ 9223372036854775807) : wrap64 x = x := by unfold wrap64; omega
theorem rd_drop (l : List Int) (i : Nat) (h : i < l.length) : l.drop i = rd l (i : Int) :: l.drop (i + 1) := by
  rw [List.drop_eq_getElem_cons h]
  simp [rd, List.getD_eq_getElem?_getD, h]
theorem same_l0 (l m : List Int) (hl : l.length = m.length) (hb : l.length ≤ 1000000000000000) (d : Nat) :
    ∀ (k i : Nat), i ≤ l.length → l.length - i = d → d < k → blazonref01_Same.l0 k l m (i : Int) = some (decide (l.drop i = m.drop i)) := by
  induction d with
  | zero =>
    intro k i hi hd hk
    obtain ⟨k, rfl⟩ : ∃ n, k = n + 1 := ⟨k - 1, by omega⟩
    simp only [blazonref01_Same.l0]
    rw [if_neg (by omega)]
    have e1 : l.drop i = [] := List.drop_eq_nil_of_le (by omega)
    have e2 : m.drop i = [] := List.drop_eq_nil_of_le (by omega)
    simp [e1, e2]
  | succ d ih =>
    intro k i hi hd hk
    obtain ⟨k, rfl⟩ : ∃ n, k = n + 1 := ⟨k - 1, by omega⟩
    simp only [blazonref01_Same.l0]
    rw [if_pos (by omega), if_pos (by omega), if_pos (by omega)]
    rw [rd_drop l i (by omega), rd_drop m i (by omega)]
    by_cases e : rd l (i : Int) = rd m (i : Int)
    · rw [if_pos e, wrap64_id (by omega) (by omega)]
      have := ih k (i + 1) (by omega) (by omega) (by omega)
      rw [show ((i : Int) + 1) = ((i + 1 : Nat) : Int) by omega, this]
      simp [e]
    · rw [if_neg e]
      simp [e]
theorem same_tells (k : Nat) (l m : List Int) (hb : l.length ≤ 1000000000000000) (hk : l.length < k) : blazonref01_Same.f k l m = some (decide (l = m)) := by
  unfold blazonref01_Same.f
  by_cases e : (l.length : Int) = (m.length : Int)
  · rw [if_pos e]
    have := same_l0 l m (by omega) hb l.length k 0 (by omega) (by omega) hk
    simpa using this
  · rw [if_neg e]
    have : l ≠ m := fun h => e (by rw [h])
    simp [this]
def short (n : Nat) : List Int := if n < 128 then [(n : Int)] else (((n % 128 + 128 : Nat) : Int)) :: short (n / 128)
theorem or_128 (x : Int) (h : 0 ≤ x) : Go.bits .or .u8 (x % 256) 128 = ((x.toNat % 128 + 128 : Nat) : Int) := by
  obtain ⟨n, rfl⟩ := Int.eq_ofNat_of_zero_le h
  have h1 : ((n : Int) % 256) = ((n % 256 : Nat) : Int) := by omega
  have h2 : (128 : Int) = ((128 : Nat) : Int) := rfl
  rw [h1, h2, (bits_nat .u8 8 (by decide) (fun n h0 h1 => wraps_u8 n h0 h1) (n % 256) 128 (by omega) (by decide)).2]
  have : ∀ b : Fin 256, b.val ||| 128 = b.val % 128 + 128 := by decide +kernel
  have h3 := this ⟨n % 256, by omega⟩
  simp only at h3
  rw [h3]
  simp only [Int.toNat_natCast]
  omega
theorem shr_7 (n : Nat) : shr .u64 (n : Int) 7 = ((n / 128 : Nat) : Int) := by
  unfold shr
  have e2 : min (7 : Int).toNat IntKind.u64.bits = 7 := by decide
  rw [e2]
  omega
theorem put_l0 (d : Nat) : ∀ (k : Nat) (l : List Int) (n : Nat), n < 128 ^ (d + 1) → d < k → l.length + d < 140737488355328 → num_Put.l0 k l (n : Int) = some (l ++ short n) := by
  induction d with
  | zero =>
    intro k l n hn hk hl
    obtain ⟨k, rfl⟩ : ∃ n, k = n + 1 := ⟨k - 1, by omega⟩
    simp only [num_Put.l0]
    have hn' : n < 128 := by simpa using hn
    rw [if_neg (by omega), if_pos (by omega), Option.bind_some, show short n = [(n : Int)] by unfold short; rw [if_pos hn'], show (n : Int) % 256 = (n : Int) by omega]
  | succ d ih =>
    intro k l n hn hk hl
    obtain ⟨k, rfl⟩ : ∃ n, k = n + 1 := ⟨k - 1, by omega⟩
    simp only [num_Put.l0]
    by_cases e : n < 128
    · rw [if_neg (by omega), if_pos (by omega), Option.bind_some, show short n = [(n : Int)] by unfold short; rw [if_pos e], show (n : Int) % 256 = (n : Int) by omega]
    · rw [if_pos (by omega), if_pos (by omega)]
      have hq : n / 128 < 128 ^ (d + 1) := by
        rw [Nat.div_lt_iff_lt_mul (by decide)]
        rw [Nat.pow_succ] at hn
        exact hn
      rw [shr_7, or_128 _ (by omega), Option.bind_some, ih k _ (n / 128) hq (by omega) (by simp; omega)]
      rw [show short n = (((n % 128 + 128 : Nat) : Int)) :: short (n / 128) by rw [short.eq_1 n, if_neg e]]
      simp
theorem put_tells (k : Nat) (l : List Int) (x : Int) (h0 : 0 ≤ x) (h1 : x < 18446744073709551616) (hk : 10 ≤ k) (hl : l.length ≤ 140000000000000) : num_Put.f k l x = some (l ++ short x.toNat) := by
  unfold num_Put.f
  have := put_l0 9 k l x.toNat (by have : (128 ^ (9 + 1) : Nat) = 1180591620717411303424 := by decide
                                   omega) (by omega) (by omega)
  rwa [show ((x.toNat : Nat) : Int) = x by omega] at this
theorem u64_range {x : Int} (h : (Lit.int .u64 x).wf = true) : 0 ≤ x ∧ x < 18446744073709551616 := by
  have := bounds_u64 h
  omega
theorem short_small (d : Nat) : ∀ n, n < 128 ^ (d + 1) → (short n).length ≤ d + 1 := by
  induction d with
  | zero => intro n h; unfold short; rw [if_pos (by simpa using h)]; simp
  | succ d ih =>
    intro n h
    unfold short
    split
    · simp
    · have hq : n / 128 < 128 ^ (d + 1) := by
        rw [Nat.div_lt_iff_lt_mul (by decide)]
        rw [Nat.pow_succ] at h
        omega
      have := ih _ hq
      simp; omega
theorem short_ten (x : Int) (h1 : x < 18446744073709551616) : (short x.toNat).length ≤ 10 :=
  short_small 9 _ (by have : (128 ^ (9 + 1) : Nat) = 1180591620717411303424 := by decide
                      omega)
theorem awake_true (k : Nat) (hk : 10 ≤ k) : blazonlaw01_awake.f k = some true := by
  unfold blazonlaw01_awake.f
  have ha : num_Add.f 9223372036854775807 1 = some (0, 18) := by decide +kernel
  rw [ha]
  simp only [Option.bind_some]
  rw [put_tells k [] 300 (by decide) (by decide) hk (by simp)]
  simp only [Option.bind_some]
  have hs : short (300 : Int).toNat = [172, 2] := by
    simp [short.eq_1]
  rw [hs, same_tells k _ _ (by simp) (by simp; omega)]
  rfl
def getS : Nat → Nat → List Int → Int × Int × Int
  | _, _, [] => (0, 0, 2)
  | i, acc, c :: r => if (i = 9 ∧ c % 128 > 1) ∨ i ≥ 10 then (0, 0, 4) else if c ≥ 128 then getS (i + 1) (acc + (c % 128).toNat * 128 ^ i) r else if c % 128 = 0 ∧ i > 0 then (0, 0, 4) else (((acc + (c % 128).toNat * 128 ^ i : Nat) : Int), (i : Int) + 1, 0)
theorem not_128 (c : Int) (h0 : 0 ≤ c) (h1 : c < 256) : IntKind.u64.wrap (Go.bits .andNot .u8 c 128) = c % 128 := by
  rw [u8_andNot c 128 h0 h1 (by decide) (by decide), IntKind.wrap_u64]
  have : ∀ b : Fin 256, b.val &&& (255 - (128 : Int).toNat) = b.val % 128 := by decide +kernel
  have h3 := this ⟨c.toNat, by omega⟩
  simp only at h3
  rw [h3]
  omega
theorem pow_7 (i : Nat) : 2 ^ (7 * i) = 128 ^ i := by rw [Nat.pow_mul]
theorem shl_7 (i : Nat) (hi : i ≤ 9) (d : Nat) (hd : d < 128) (h9 : i = 9 → d ≤ 1) : shl .u64 (d : Int) (IntKind.u64.wrap (wrap64 (7 * (i : Int)))) = ((d * 128 ^ i : Nat) : Int) := by
  have hp : d * 128 ^ i < 18446744073709551616 := by
    by_cases e : i = 9
    · subst e
      have := h9 rfl
      have : (128 ^ 9 : Nat) = 9223372036854775808 := by decide
      rw [this]; omega
    · have h1 : 128 ^ i ≤ 128 ^ 8 := Nat.pow_le_pow_right (by decide) (by omega)
      have h2 : (128 ^ 8 : Nat) = 72057594037927936 := by decide
      rw [h2] at h1
      have := Nat.mul_lt_mul_of_lt_of_le hd h1 (by decide)
      omega
  rw [wrap64_id (by omega) (by omega), IntKind.wrap_u64]
  unfold shl
  have e1 : ((7 * (i : Int)) % 18446744073709551616).toNat = 7 * i := by omega
  have e2 : min (7 * i) IntKind.u64.bits = 7 * i := by
    have : IntKind.u64.bits = 64 := by decide
    rw [this]; omega
  rw [e1, e2, IntKind.wrap_u64]
  have e3 : (d : Int) * 2 ^ (7 * i) = ((d * 128 ^ i : Nat) : Int) := by
    rw [← pow_7]
    push_cast
    rfl
  rw [e3]
  omega
theorem or_7 (i : Nat) (hi : i ≤ 9) (acc d : Nat) (hd : d < 128) (h9 : i = 9 → d ≤ 1) (ha : acc < 128 ^ i) : Go.bits .or .u64 (acc : Int) ((d * 128 ^ i : Nat) : Int) = ((acc + d * 128 ^ i : Nat) : Int) ∧ acc + d * 128 ^ i < 18446744073709551616 ∧ (i < 9 → acc + d * 128 ^ i < 128 ^ (i + 1)) := by
  have hp : acc + d * 128 ^ i < 18446744073709551616 := by
    by_cases e : i = 9
    · subst e
      have := h9 rfl
      have : (128 ^ 9 : Nat) = 9223372036854775808 := by decide
      rw [this] at *; omega
    · have h1 : 128 ^ i ≤ 128 ^ 8 := Nat.pow_le_pow_right (by decide) (by omega)
      have h2 : (128 ^ 8 : Nat) = 72057594037927936 := by decide
      rw [h2] at h1
      have := Nat.mul_le_mul (show d ≤ 127 by omega) h1
      omega
  refine ⟨?_, hp, ?_⟩
  · rw [u64_or_nat acc _ (by omega) (by omega), Nat.or_comm, nat_join (7 * i) (d * 128 ^ i) acc ?_ ?_, Nat.add_comm]
    · rw [pow_7]; exact Nat.mul_mod_left _ _
    · rw [pow_7]; exact ha
  · intro _
    rw [Nat.pow_succ]
    have := Nat.mul_le_mul (show d ≤ 127 by omega) (Nat.le_refl (128 ^ i))
    omega
theorem byte_at (l : List Int) (h : ∀ x ∈ l, 0 ≤ x ∧ x < 256) (i : Int) : 0 ≤ rd l i ∧ rd l i < 256 := by
  unfold rd
  rw [List.getD_eq_getElem?_getD]
  cases e : l[i.toNat]? with
  | none => simp
  | some v =>
    have := h v (List.mem_of_getElem? e)
    simp; omega
theorem get_l0 (l : List Int) (h : ∀ x ∈ l, 0 ≤ x ∧ x < 256) (hl : l.length ≤ 100000000000000) (D : Nat) : ∀ (k i acc : Nat), i ≤ l.length → l.length - i = D → 3 * D < k → acc < 18446744073709551616 → (i ≤ 9 → acc < 128 ^ i) → num_Get.l0 k l (acc : Int) (i : Int) = some (getS i acc (l.drop i)) := by
  induction D with
  | zero =>
    intro k i acc hi hd hk ha ha9
    obtain ⟨k, rfl⟩ : ∃ n, k = n + 1 := ⟨k - 1, by omega⟩
    simp only [num_Get.l0]
    rw [if_neg (by omega), List.drop_eq_nil_of_le (by omega)]
    simp [getS]
  | succ D ih =>
    intro k i acc hi hd hk ha ha9
    obtain ⟨k, rfl⟩ : ∃ n, k = n + 3 := ⟨k - 3, by omega⟩
    have hc := byte_at l h (i : Int)
    have hn := not_128 _ hc.1 hc.2
    have j1 : ∀ b : Bool, b = decide ((i = 9 ∧ rd l (i : Int) % 128 > 1) ∨ i ≥ 10) → num_Get.j1 (k + 2) l (acc : Int) (i : Int) b = some (getS i acc (l.drop i)) := by
      intro b hb
      rw [rd_drop l i (by omega)]
      simp only [num_Get.j1, getS]
      by_cases e : (i = 9 ∧ rd l (i : Int) % 128 > 1) ∨ i ≥ 10
      · rw [if_pos (by rw [hb]; exact decide_eq_true e), if_pos e]
      · rw [if_neg (by rw [hb]; simpa using e), if_neg e]
        have hi9 : i ≤ 9 := by omega
        have hd128 : (rd l (i : Int) % 128).toNat < 128 := by omega
        have hs := shl_7 i hi9 (rd l (i : Int) % 128).toNat hd128 (by omega)
        have ho := or_7 i hi9 acc (rd l (i : Int) % 128).toNat hd128 (by omega) (ha9 hi9)
        rw [show (((rd l (i : Int) % 128).toNat : Nat) : Int) = rd l (i : Int) % 128 by omega] at hs
        have hsh : shr .u8 (rd l (i : Int)) 7 = if rd l (i : Int) ≥ 128 then 1 else 0 := by
          unfold shr
          have e2 : min (7 : Int).toNat IntKind.u8.bits = 7 := by decide
          rw [e2]
          split <;> omega
        rw [hn, hs, ho.1, hsh]
        rw [if_pos (by rw [wrap64_id (by omega) (by omega), IntKind.wrap_u64]; omega)]
        rw [wrap64_id (x := (i : Int) + 1) (by omega) (by omega)]
        by_cases e2 : rd l (i : Int) ≥ 128
        · rw [if_pos e2, if_pos rfl, if_pos e2]
          have := ih (k + 1) (i + 1) (acc + (rd l (i : Int) % 128).toNat * 128 ^ i) (by omega) (by omega) (by omega) ho.2.1 (fun h => ho.2.2 (by omega))
          rw [show ((i : Int) + 1) = ((i + 1 : Nat) : Int) by omega]
          exact this
        · rw [if_neg e2, if_neg (by decide), if_neg e2]
          have j0 : ∀ b : Bool, num_Get.j0 (k + 1) l (acc : Int) (i : Int) b = if b = true then some (0, 0, 4) else some ((((acc + (rd l (i : Int) % 128).toNat * 128 ^ i : Nat) : Int), (i : Int) + 1, 0)) := fun b => by
            simp only [num_Get.j0]
            rw [hn, hs, ho.1, wrap64_id (x := (i : Int) + 1) (by omega) (by omega)]
          by_cases e3 : rd l (i : Int) % 128 = 0
          · rw [if_pos e3, j0]
            by_cases e4 : i > 0
            · rw [if_pos (decide_eq_true (by omega)), if_pos ⟨e3, e4⟩]
            · rw [if_neg (by simp; omega), if_neg (by omega)]
          · rw [if_neg e3, j0, if_neg (by decide), if_neg (by omega)]
    simp only [num_Get.l0]
    rw [if_pos (by omega), if_pos (by omega), hn]
    by_cases e9 : (i : Int) = 9
    · rw [if_pos e9]
      by_cases e1 : rd l (i : Int) % 128 > 1
      · rw [if_pos e1]
        exact j1 _ (decide_eq_true (by omega)).symm
      · rw [if_neg e1]
        exact j1 _ (decide_eq_decide.2 (by omega))
    · rw [if_neg e9]
      exact j1 _ (decide_eq_decide.2 (by omega))
theorem get_tells (k : Nat) (l : List Int) (h : ∀ x ∈ l, 0 ≤ x ∧ x < 256) (hl : l.length ≤ 100000000000000) (hk : 3 * l.length < k) : num_Get.f k l = some (getS 0 0 l) := by
  have := get_l0 l h hl l.length k 0 0 (by omega) (by omega) hk (by decide) (by intro _; decide)
  simpa [num_Get.f] using this
theorem tmod_128 (c : Int) (h0 : 0 ≤ c) (h1 : c < 256) : IntKind.u64.wrap (Int.tmod c 128) = c % 128 := by
  rw [Int.tmod_eq_emod_of_nonneg h0, IntKind.wrap_u64]; omega
theorem ref_l0 (l : List Int) (h : ∀ x ∈ l, 0 ≤ x ∧ x < 256) (hl : l.length ≤ 100000000000000) (D : Nat) : ∀ (k i acc : Nat) (F : Int), i ≤ l.length → l.length - i = D → 3 * D < k → acc < 18446744073709551616 → (i ≤ 9 → acc < 128 ^ i ∧ F = ((128 ^ i : Nat) : Int)) → blazonref01_GetShort.l0 k l (acc : Int) F (i : Int) = some (getS i acc (l.drop i)) := by
  induction D with
  | zero =>
    intro k i acc F hi hd hk ha ha9
    obtain ⟨k, rfl⟩ : ∃ n, k = n + 1 := ⟨k - 1, by omega⟩
    simp only [blazonref01_GetShort.l0]
    rw [if_neg (by omega), List.drop_eq_nil_of_le (by omega)]
    simp [getS]
  | succ D ih =>
    intro k i acc F hi hd hk ha ha9
    obtain ⟨k, rfl⟩ : ∃ n, k = n + 3 := ⟨k - 3, by omega⟩
    have hc := byte_at l h (i : Int)
    have hn := tmod_128 _ hc.1 hc.2
    have j1 : ∀ b : Bool, b = decide ((i = 9 ∧ rd l (i : Int) % 128 > 1) ∨ i ≥ 10) → blazonref01_GetShort.j1 (k + 2) l (acc : Int) F (i : Int) b = some (getS i acc (l.drop i)) := by
      intro b hb
      rw [rd_drop l i (by omega)]
      simp only [blazonref01_GetShort.j1, getS]
      by_cases e : (i = 9 ∧ rd l (i : Int) % 128 > 1) ∨ i ≥ 10
      · rw [if_pos (by rw [hb]; exact decide_eq_true e), if_pos e]
      · rw [if_neg (by rw [hb]; simpa using e), if_neg e]
        have hi9 : i ≤ 9 := by omega
        obtain ⟨hacc, rfl⟩ := ha9 hi9
        have hd128 : (rd l (i : Int) % 128).toNat < 128 := by omega
        have ho := or_7 i hi9 acc (rd l (i : Int) % 128).toNat hd128 (by omega) hacc
        have hm : IntKind.u64.wrap ((rd l (i : Int) % 128) * ((128 ^ i : Nat) : Int)) = (((rd l (i : Int) % 128).toNat * 128 ^ i : Nat) : Int) := by
          have : (rd l (i : Int) % 128) * ((128 ^ i : Nat) : Int) = (((rd l (i : Int) % 128).toNat * 128 ^ i : Nat) : Int) := by
            rw [Int.natCast_mul, show (((rd l (i : Int) % 128).toNat : Nat) : Int) = rd l (i : Int) % 128 by omega]
          rw [this, IntKind.wrap_u64]
          have := ho.2.1
          omega
        have ha2 : IntKind.u64.wrap ((acc : Int) + (((rd l (i : Int) % 128).toNat * 128 ^ i : Nat) : Int)) = ((acc + (rd l (i : Int) % 128).toNat * 128 ^ i : Nat) : Int) := by
          rw [IntKind.wrap_u64]
          have := ho.2.1
          omega
        rw [hn, hm, ha2, if_pos (by omega), if_pos (by omega)]
        rw [wrap64_id (x := (i : Int) + 1) (by omega) (by omega)]
        by_cases e2 : rd l (i : Int) ≥ 128
        · rw [if_neg (by omega), if_pos e2]
          have := ih (k + 1) (i + 1) (acc + (rd l (i : Int) % 128).toNat * 128 ^ i) (IntKind.u64.wrap (((128 ^ i : Nat) : Int) * 128)) (by omega) (by omega) (by omega) ho.2.1 (fun h => ⟨ho.2.2 (by omega), by
            have h1 : 128 ^ i ≤ 128 ^ 8 := Nat.pow_le_pow_right (by decide) (by omega)
            have h2 : (128 ^ 8 : Nat) = 72057594037927936 := by decide
            rw [h2] at h1
            rw [Nat.pow_succ, IntKind.wrap_u64]
            generalize 128 ^ i = q at *
            omega⟩)
          rw [show ((i : Int) + 1) = ((i + 1 : Nat) : Int) by omega]
          exact this
        · rw [if_pos (by omega), if_neg e2]
          have j0 : ∀ b : Bool, blazonref01_GetShort.j0 (k + 1) l (acc : Int) ((128 ^ i : Nat) : Int) (i : Int) b = if b = true then some (0, 0, 4) else some ((((acc + (rd l (i : Int) % 128).toNat * 128 ^ i : Nat) : Int), (i : Int) + 1, 0)) := fun b => by
            simp only [blazonref01_GetShort.j0]
            rw [hn, hm, ha2, wrap64_id (x := (i : Int) + 1) (by omega) (by omega)]
          by_cases e3 : rd l (i : Int) % 128 = 0
          · rw [if_pos e3, j0]
            by_cases e4 : i > 0
            · rw [if_pos (decide_eq_true (by omega)), if_pos ⟨e3, e4⟩]
            · rw [if_neg (by simp; omega), if_neg (by omega)]
          · rw [if_neg e3, j0, if_neg (by decide), if_neg (by omega)]
    simp only [blazonref01_GetShort.l0]
    rw [if_pos (by omega), if_pos (by omega), hn]
    by_cases e9 : (i : Int) = 9
    · rw [if_pos e9]
      by_cases e1 : rd l (i : Int) % 128 > 1
      · rw [if_pos e1]
        exact j1 _ (decide_eq_true (by omega)).symm
      · rw [if_neg e1]
        exact j1 _ (decide_eq_decide.2 (by omega))
    · rw [if_neg e9]
      exact j1 _ (decide_eq_decide.2 (by omega))
theorem ref_tells (k : Nat) (l : List Int) (h : ∀ x ∈ l, 0 ≤ x ∧ x < 256) (hl : l.length ≤ 100000000000000) (hk : 3 * l.length < k) : blazonref01_GetShort.f k l = some (getS 0 0 l) := by
  have := ref_l0 l h hl l.length k 0 0 1 (by omega) (by omega) hk (by decide) (by intro _; decide)
  simpa [blazonref01_GetShort.f] using this
theorem full_eq : ∀ (k : Nat) (l : List Int) (x : Int), num_Put_full.l0 k l x = num_Put.l0 k l x := by
  intro k
  induction k with
  | zero => intro l x; rfl
  | succ k ih => intro l x; simp only [num_Put_full.l0, num_Put.l0, ih]
theorem refshort_l0 (d : Nat) : ∀ (k : Nat) (l : List Int) (n : Nat), n < 128 ^ (d + 1) → n < 18446744073709551616 → d < k → l.length + d < 140737488355328 → blazonref01_Short.l0 k (n : Int) l = some (l ++ short n) := by
  induction d with
  | zero =>
    intro k l n hn hm hk hl
    obtain ⟨k, rfl⟩ : ∃ n, k = n + 1 := ⟨k - 1, by omega⟩
    simp only [blazonref01_Short.l0]
    have hn' : n < 128 := by simpa using hn
    rw [if_neg (by omega), if_pos (by omega), Option.bind_some, show short n = [(n : Int)] by unfold short; rw [if_pos hn'], show (n : Int) % 256 = (n : Int) by omega]
  | succ d ih =>
    intro k l n hn hm hk hl
    obtain ⟨k, rfl⟩ : ∃ n, k = n + 1 := ⟨k - 1, by omega⟩
    simp only [blazonref01_Short.l0]
    by_cases e : n < 128
    · rw [if_neg (by omega), if_pos (by omega), Option.bind_some, show short n = [(n : Int)] by unfold short; rw [if_pos e], show (n : Int) % 256 = (n : Int) by omega]
    · rw [if_pos (by omega), if_pos (by omega)]
      have hq : n / 128 < 128 ^ (d + 1) := by
        rw [Nat.div_lt_iff_lt_mul (by decide)]
        rw [Nat.pow_succ] at hn
        exact hn
      have hx : IntKind.u64.wrap (Int.tdiv (n : Int) 128) = ((n / 128 : Nat) : Int) := by rw [Int.tdiv_eq_ediv_of_nonneg (by omega), IntKind.wrap_u64]; omega
      have hy : IntKind.u64.wrap (Int.tmod (n : Int) 128 + 128) % 256 = ((n % 128 + 128 : Nat) : Int) := by rw [Int.tmod_eq_emod_of_nonneg (by omega), IntKind.wrap_u64]; omega
      rw [hx, hy, Option.bind_some, ih k _ (n / 128) hq (by omega) (by omega) (by simp; omega)]
      rw [show short n = (((n % 128 + 128 : Nat) : Int)) :: short (n / 128) by rw [short.eq_1 n, if_neg e]]
      simp
theorem refshort_tells (k : Nat) (x : Int) (h0 : 0 ≤ x) (h1 : x < 18446744073709551616) (hk : 10 ≤ k) : blazonref01_Short.f k x = some (short x.toNat) := by
  unfold blazonref01_Short.f
  have := refshort_l0 9 k [] x.toNat (by have : (128 ^ (9 + 1) : Nat) = 1180591620717411303424 := by decide
                                         omega) (by omega) (by omega) (by simp)
  rwa [show ((x.toNat : Nat) : Int) = x by omega] at this
theorem lent_tells (l : List Int) (h : l.length ≤ 1000000) : blazonref01_Lent.f l = some l := by unfold blazonref01_Lent.f; rw [if_pos (by omega)]
theorem kept_tells (k : Nat) (l : List Int) (h : l.length ≤ 1000000) (hk : 1000000 < k) : blazonref01_Kept.f k l l = some true := by
  unfold blazonref01_Kept.f
  have hw3 : wrap64 ((l.length : Int) + 3) = (l.length : Int) + 3 := wrap64_id (by omega) (by omega)
  have hw1 : wrap64 ((l.length : Int) + 1) = (l.length : Int) + 1 := wrap64_id (by omega) (by omega)
  have hw2 : wrap64 ((l.length : Int) + 2) = (l.length : Int) + 2 := wrap64_id (by omega) (by omega)
  rw [hw3, hw1, hw2, if_pos (by omega), if_pos (by simp; try omega), Option.bind_some]
  have e : (l ++ [77, 78, 79]).take ((l.length : Int) + 3).toNat = l ++ [77, 78, 79] := List.take_of_length_le (by simp; omega)
  have e0 : (l ++ [77, 78, 79]).take ((l.length : Int)).toNat = l := by simp
  have r0 : rd (l ++ [77, 78, 79]) (l.length : Int) = 77 := by simp [rd]
  have r1 : rd (l ++ [77, 78, 79]) ((l.length : Int) + 1) = 78 := by
    unfold rd
    rw [show ((l.length : Int) + 1).toNat = l.length + 1 by omega, List.getD_eq_getElem?_getD, List.getElem?_append_right (by omega), show l.length + 1 - l.length = 1 by omega]
    rfl
  have r2 : rd (l ++ [77, 78, 79]) ((l.length : Int) + 2) = 79 := by
    unfold rd
    rw [show ((l.length : Int) + 2).toNat = l.length + 2 by omega, List.getD_eq_getElem?_getD, List.getElem?_append_right (by omega), show l.length + 2 - l.length = 2 by omega]
    rfl
  rw [e, e0, r0, r1, r2, if_pos (by omega), if_pos (by simp; try omega), Option.bind_some, same_tells k l l (by omega) (by omega), Option.bind_some, if_pos (by simp; try omega), if_pos (by simp; try omega), if_pos rfl, if_pos (by omega), if_pos (by simp; try omega), if_pos rfl, if_pos (by omega), if_pos (by simp; try omega)]
  rfl
theorem shorts_tells (K : Nat) (hK : 1000000 < K) (n : Int) (h0 : 0 ≤ n) (h1 : n < 18446744073709551616) (l : List Int) (hl : l.length ≤ 2000) (hb : ∀ x ∈ l, 0 ≤ x ∧ x < 256) : blazonlaw01_NumShorts.f K n l = some true := by
  have ha := awake_true K (by omega)
  have hp : num_Put_full.f K l n = some (l ++ short n.toNat) := by
    unfold num_Put_full.f
    rw [full_eq]
    exact put_tells K l n h0 h1 (by omega) (by omega)
  have e1 := lent_tells l (by omega)
  have e2 := get_tells K l hb (by omega) (by omega)
  have e3 := ref_tells K l hb (by omega) (by omega)
  have e4 := kept_tells K l (by omega) (by omega)
  have e5 := same_tells K l l (by omega) (by omega)
  have e6 := refshort_tells K n h0 h1 (by omega)
  have hten := short_ten n h1
  have e7 := same_tells K (short n.toNat) (short n.toNat) (by omega) (by omega)
  have n1 : ¬ ((l.length : Int) > 2000) := by omega
  have n2 : (0 : Int) ≤ (l.length : Int) := by omega
  have n3 : (l.length : Int) ≤ (l.length : Int) := by omega
  have n4 : (l.length : Int) ≤ (((l ++ short n.toNat).length : Nat) : Int) := by rw [List.length_append]; omega
  have n5 : (((l ++ short n.toNat).length : Nat) : Int) ≥ (l.length : Int) := n4
  have t1 : l.take ((l.length : Int)).toNat = l := by rw [Int.toNat_natCast, List.take_length]
  have t2 : (l ++ short n.toNat).take ((l.length : Int)).toNat = l := by rw [Int.toNat_natCast, List.take_left]
  have t3 : (l ++ short n.toNat).drop ((l.length : Int)).toNat = short n.toNat := by rw [Int.toNat_natCast, List.drop_left]
  generalize short n.toNat = sh at *
  clear hb h0 h1 hl hK hten
  unfold blazonlaw01_NumShorts.f
  rw [if_neg n1, e1, Option.bind_some, e2, Option.bind_some, e3, Option.bind_some, if_pos n2, if_pos n3, Option.bind_some, t1, hp, Option.bind_some, if_pos rfl, if_pos rfl, if_pos rfl, e4, Option.bind_some, if_pos rfl, if_pos n5, if_pos n4, Option.bind_some, t2, e5, Option.bind_some, if_pos (decide_eq_true rfl), Option.bind_some, t3, e6, Option.bind_some, e7, Option.bind_some, if_pos (decide_eq_true rfl), ha, Option.bind_some]
theorem NumShorts : blazonlaw01_NumShorts.Pure := by
  intro n l hn hm hc hl
  have hr := u64_range hn
  by_cases h : (l.length : Int) > 2000
  · refine ⟨10, ?_⟩
    unfold blazonlaw01_NumShorts.f
    rw [if_pos h, awake_true 10 (Nat.le_refl _), Option.bind_some]
  · exact ⟨2000000, shorts_tells 2000000 (by decide) n hr.1 hr.2 l (by omega) fun x hx => by
      have := bounds_u8 (hl x hx)
      omega⟩

end Go.Proofs.Ytbpagdgbehefkaa.Pure
