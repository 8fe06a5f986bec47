/- Sums and products are the reference's. -/
import Derived.Test.YtbpagdgbehefkaaPNumx3
import Derived.OpenShut
import Derived.Laws.BitsLemmas
import Derived.Laws.BitsAllLaws
import Derived.Test.YtbpagdgbehefkaaWSized
set_option linter.unusedVariables false
set_option linter.unusedSimpArgs false
namespace Go.Proofs.Ytbpagdgbehefkaa.Pure
open Go.RowKit Go.Proofs.Ytbpagdgbehefkaa.PNum Go.Proofs.YtbpagdgbehefkaaW.PrintWords Go.Proofs.YtbpagdgbehefkaaW.PrintLast

theorem wrap64_id {x : Int} (h0 : -9223372036854775808 ≤ x) (h1 : x ≤ 9223372036854775807) : wrap64 x = x := by unfold wrap64; omega
theorem rd_drop (l : List Int) (i : Nat) (h : i < l.length) : l.drop i = rd l (i : Int) :: l.drop (i + 1) := by
  rw [List.drop_eq_getElem_cons h]
  simp [rd, List.getD_eq_getElem?_getD, h]

/-- Two lists are compared to the end. -/
theorem same_l0 (l m : List Int) (hl : l.length = m.length) (hb : l.length ≤ 1000000000000000) (d : Nat) :
    ∀ (k i : Nat), i ≤ l.length → l.length - i = d → d < k → blazonref01_Same.l0 k l m (i : Int) = some (decide (l.drop i = m.drop i)) := by
  induction d with
  | zero =>
    intro k i hi hd hk
    obtain ⟨k, rfl⟩ : ∃ n, k = n + 1 := ⟨k - 1, by omega⟩
    simp only [blazonref01_Same.l0]
    rw [if_neg (by omega)]
    have e1 : l.drop i = [] := List.drop_eq_nil_of_le (by omega)
    have e2 : m.drop i = [] := List.drop_eq_nil_of_le (by omega)
    simp [e1, e2]
  | succ d ih =>
    intro k i hi hd hk
    obtain ⟨k, rfl⟩ : ∃ n, k = n + 1 := ⟨k - 1, by omega⟩
    simp only [blazonref01_Same.l0]
    rw [if_pos (by omega), if_pos (by omega), if_pos (by omega)]
    rw [rd_drop l i (by omega), rd_drop m i (by omega)]
    by_cases e : rd l (i : Int) = rd m (i : Int)
    · rw [if_pos e, wrap64_id (by omega) (by omega)]
      have := ih k (i + 1) (by omega) (by omega) (by omega)
      rw [show ((i : Int) + 1) = ((i + 1 : Nat) : Int) by omega, this]
      simp [e]
    · rw [if_neg e]
      simp [e]
theorem same_tells (k : Nat) (l m : List Int) (hb : l.length ≤ 1000000000000000) (hk : l.length < k) : blazonref01_Same.f k l m = some (decide (l = m)) := by
  unfold blazonref01_Same.f
  by_cases e : (l.length : Int) = (m.length : Int)
  · rw [if_pos e]
    have := same_l0 l m (by omega) hb l.length k 0 (by omega) (by omega) hk
    simpa using this
  · rw [if_neg e]
    have : l ≠ m := fun h => e (by rw [h])
    simp [this]

/-- A number's short form. -/
def short (n : Nat) : List Int := if n < 128 then [(n : Int)] else (((n % 128 + 128 : Nat) : Int)) :: short (n / 128)
theorem or_128 (x : Int) (h : 0 ≤ x) : Go.bits .or .u8 (x % 256) 128 = ((x.toNat % 128 + 128 : Nat) : Int) := by
  obtain ⟨n, rfl⟩ := Int.eq_ofNat_of_zero_le h
  have h1 : ((n : Int) % 256) = ((n % 256 : Nat) : Int) := by omega
  have h2 : (128 : Int) = ((128 : Nat) : Int) := rfl
  rw [h1, h2, (bits_nat .u8 8 (by decide) (fun n h0 h1 => wraps_u8 n h0 h1) (n % 256) 128 (by omega) (by decide)).2]
  have : ∀ b : Fin 256, b.val ||| 128 = b.val % 128 + 128 := by decide +kernel
  have h3 := this ⟨n % 256, by omega⟩
  simp only at h3
  rw [h3]
  simp only [Int.toNat_natCast]
  omega
theorem put_l0 (d : Nat) : ∀ (k : Nat) (l : List Int) (n : Nat), n < 128 ^ (d + 1) → d < k → l.length + d < 140737488355328 → num_Put.l0 k l (n : Int) = some (l ++ short n) := by
  induction d with
  | zero =>
    intro k l n hn hk hl
    obtain ⟨k, rfl⟩ : ∃ n, k = n + 1 := ⟨k - 1, by omega⟩
    simp only [num_Put.l0]
    have hn' : n < 128 := by simpa using hn
    rw [if_neg (by omega), if_pos (by omega)]
    unfold short
    rw [if_pos hn']
    congr 3
    omega
  | succ d ih =>
    intro k l n hn hk hl
    obtain ⟨k, rfl⟩ : ∃ n, k = n + 1 := ⟨k - 1, by omega⟩
    simp only [num_Put.l0]
    by_cases e : n < 128
    · rw [if_neg (by omega), if_pos (by omega)]
      unfold short
      rw [if_pos e]
      congr 3
      omega
    · rw [if_pos (by omega), if_pos (by omega)]
      have hq : n / 128 < 128 ^ (d + 1) := by
        rw [Nat.div_lt_iff_lt_mul (by decide)]
        rw [Nat.pow_succ] at hn
        omega
      have hx : ((n : Int) / 128) = ((n / 128 : Nat) : Int) := by omega
      rw [hx, or_128 _ (by omega), ih k _ (n / 128) hq (by omega) (by simp; omega)]
      rw [show short n = (((n % 128 + 128 : Nat) : Int)) :: short (n / 128) by rw [short.eq_1 n, if_neg e]]
      simp
theorem put_tells (k : Nat) (l : List Int) (x : Int) (h0 : 0 ≤ x) (h1 : x < 18446744073709551616) (hk : 10 ≤ k) (hl : l.length ≤ 140000000000000) : num_Put.f k l x = some (l ++ short x.toNat) := by
  unfold num_Put.f
  have := put_l0 9 k l x.toNat (by have : (128 ^ (9 + 1) : Nat) = 1180591620717411303424 := by decide
                                   omega) (by omega) (by omega)
  rwa [show ((x.toNat : Nat) : Int) = x by omega] at this
theorem u64_range {x : Int} (h : (Lit.int .u64 x).wf = true) : 0 ≤ x ∧ x < 18446744073709551616 := by
  have := bounds_u64 h
  omega
theorem short_pos (n : Nat) : 0 < (short n).length := by unfold short; split <;> simp
theorem short_small (d : Nat) : ∀ n, n < 128 ^ (d + 1) → (short n).length ≤ d + 1 := by
  induction d with
  | zero => intro n h; unfold short; rw [if_pos (by simpa using h)]; simp
  | succ d ih =>
    intro n h
    unfold short
    split
    · simp
    · have hq : n / 128 < 128 ^ (d + 1) := by
        rw [Nat.div_lt_iff_lt_mul (by decide)]
        rw [Nat.pow_succ] at h
        omega
      have := ih _ hq
      simp; omega
theorem short_ten (x : Int) (h1 : x < 18446744073709551616) : (short x.toNat).length ≤ 10 :=
  short_small 9 _ (by have : (128 ^ (9 + 1) : Nat) = 1180591620717411303424 := by decide
                      omega)
theorem awake_true (k : Nat) (hk : 10 ≤ k) : blazonlaw01_awake.f k = some true := by
  unfold blazonlaw01_awake.f
  have ha : num_Add.f 9223372036854775807 1 = some (0, 18) := by decide +kernel
  rw [ha]
  simp only [Option.bind_some]
  rw [put_tells k [] 300 (by decide) (by decide) hk (by simp)]
  simp only [Option.bind_some]
  have hs : short (300 : Int).toNat = [172, 2] := by
    simp [short.eq_1]
  rw [hs, same_tells k _ _ (by simp) (by simp; omega)]
  rfl

abbrev fits (x : Int) : Prop := -9223372036854775808 ≤ x ∧ x ≤ 9223372036854775807
theorem add_tells (a b : Int) (ha : fits a) (hb : fits b) : num_Add.f a b = if fits (a + b) then some (a + b, 0) else some (0, 18) := by
  unfold fits at *
  unfold num_Add.f
  by_cases h : -9223372036854775808 ≤ a + b ∧ a + b ≤ 9223372036854775807
  · rw [if_pos h, wrap64_id h.1 h.2, if_neg]
    by_cases hb0 : b > 0
    · have : a + b > a := by omega
      simp [hb0]; omega
    · have : ¬ a + b > a := by omega
      simp [hb0]; omega
  · rw [if_neg h, if_pos]
    by_cases hb0 : b > 0
    · have : ¬ wrap64 (a + b) > a := by unfold wrap64; omega
      simp only [decide_eq_true hb0, decide_eq_false this]
      decide
    · have : wrap64 (a + b) > a := by unfold wrap64; omega
      simp only [decide_eq_false hb0, decide_eq_true this]
      decide
theorem radd_tells (a b : Int) (ha : fits a) (hb : fits b) : blazonref01_Add.f a b = if fits (a + b) then some (a + b, true) else some (0, false) := by
  unfold fits at *
  unfold blazonref01_Add.f
  by_cases b0 : b > 0
  · rw [if_pos b0, wrap64_id (by omega) (by omega)]
    by_cases h : a > 9223372036854775807 - b
    · rw [if_pos h, if_neg (by omega)]
    · rw [if_neg h, if_neg (by omega), if_pos (by omega), wrap64_id (by omega) (by omega)]
  · rw [if_neg b0]
    by_cases b1 : b < 0
    · rw [if_pos b1, wrap64_id (by omega) (by omega)]
      by_cases h : a < -9223372036854775808 - b
      · rw [if_pos h, if_neg (by omega)]
      · rw [if_neg h, if_pos (by omega), wrap64_id (by omega) (by omega)]
    · rw [if_neg b1, if_pos (by omega), wrap64_id (by omega) (by omega)]
/-- A wrapped product, divided again, is the factor just if nothing was lost; but for the least number by -1. -/
theorem tdiv_near (p b a : Int) (hb : b ≠ 0) (h : p.tdiv b = a) : a * b - p < b.natAbs ∧ p - a * b < b.natAbs := by
  have h1 := Int.tmod_def p b
  have h2 : (p.tmod b).natAbs < b.natAbs := by
    rw [Int.natAbs_tmod]
    exact Nat.mod_lt _ (by omega)
  rw [h, Int.mul_comm b a] at h1
  omega
theorem wrap64_cong (x : Int) : ∃ m : Int, wrap64 x = x - 18446744073709551616 * m := by
  unfold wrap64
  exact ⟨(x + 9223372036854775808) / 18446744073709551616, by omega⟩
theorem wrap64_fits (x : Int) : fits (wrap64 x) := by unfold fits wrap64; omega
theorem mul_tells (k : Nat) (hk : 1 ≤ k) (a b : Int) (ha : fits a) (hb : fits b) : num_Mul.f k a b = if fits (a * b) then some (a * b, 0) else some (0, 18) := by
  obtain ⟨k, rfl⟩ : ∃ n, k = n + 1 := ⟨k - 1, by omega⟩
  unfold num_Mul.f
  by_cases a0 : a = 0
  · subst a0
    rw [if_pos rfl, if_pos (by simp [fits])]
    simp [num_Mul.j0]
  · rw [if_neg a0]
    by_cases b0 : b = 0
    · subst b0
      rw [if_pos (by simp [fits])]
      simp [num_Mul.j0]
    · simp only [num_Mul.j0]
      rw [if_neg (by simpa using b0), if_neg b0]
      by_cases h : fits (a * b)
      · rw [if_pos h]
        have hw : wrap64 (a * b) = a * b := by unfold fits at h; exact wrap64_id h.1 h.2
        rw [hw, Int.mul_tdiv_cancel _ b0]
        have ha' : wrap64 a = a := by unfold fits at ha; exact wrap64_id ha.1 ha.2
        rw [ha', if_pos rfl]
        by_cases a1 : a = -1
        · have : ¬ b = -9223372036854775808 := by
            rintro rfl
            subst a1
            revert h
            decide
          rw [if_pos a1, if_neg this]
          by_cases b1 : b = -1
          · rw [if_pos b1, if_neg (by subst a1; decide)]
          · rw [if_neg b1]
        · rw [if_neg a1]
          by_cases b1 : b = -1
          · have : ¬ a = -9223372036854775808 := by
              rintro rfl
              subst b1
              revert h
              decide
            rw [if_pos b1, if_neg this]
          · rw [if_neg b1]
      · rw [if_neg h]
        by_cases hd : wrap64 (Int.tdiv (wrap64 (a * b)) b) = a
        · rw [if_pos hd]
          have key : b = -1 ∧ a = -9223372036854775808 := by
            obtain ⟨m, hm⟩ := wrap64_cong (a * b)
            have hf := wrap64_fits (a * b)
            have hm0 : m ≠ 0 := by
              rintro rfl
              apply h
              rw [show a * b = wrap64 (a * b) by omega]
              exact hf
            by_cases hr : fits (Int.tdiv (wrap64 (a * b)) b)
            · have hw : wrap64 (Int.tdiv (wrap64 (a * b)) b) = Int.tdiv (wrap64 (a * b)) b := by unfold fits at hr; exact wrap64_id hr.1 hr.2
              rw [hw] at hd
              have hn := tdiv_near _ b a b0 hd
              unfold fits at hb
              omega
            · have hb1 : b = -1 := by
                have h2 : (Int.tdiv (wrap64 (a * b)) b).natAbs = (wrap64 (a * b)).natAbs / b.natAbs := Int.natAbs_tdiv _ _
                by_cases hb2 : b.natAbs ≥ 2
                · exfalso
                  apply hr
                  have h3 : (wrap64 (a * b)).natAbs / b.natAbs ≤ (wrap64 (a * b)).natAbs / 2 := Nat.div_le_div_left hb2 (by decide)
                  unfold fits at *
                  omega
                · by_cases hb3 : b = 1
                  · exfalso
                    apply h
                    rw [hb3, Int.mul_one]
                    exact ha
                  · omega
              subst hb1
              refine ⟨rfl, ?_⟩
              unfold fits at h ha
              omega
          rw [if_neg (by rw [key.2]; decide), if_pos key.1, if_pos key.2]
        · rw [if_neg hd]
theorem rmul_tells (k : Nat) (hk : 1 ≤ k) (a b : Int) (ha : fits a) (hb : fits b) : blazonref01_Mul.f k a b = if fits (a * b) then some (a * b, true) else some (0, false) := by
  obtain ⟨k, rfl⟩ : ∃ n, k = n + 1 := ⟨k - 1, by omega⟩
  unfold blazonref01_Mul.f
  by_cases a0 : a = 0
  · subst a0
    rw [if_pos rfl, if_pos (by simp [fits])]
    simp [blazonref01_Mul.j0]
  · rw [if_neg a0]
    by_cases b0 : b = 0
    · subst b0
      rw [if_pos (by simp [fits])]
      simp [blazonref01_Mul.j0]
    · have q1 : ∀ x, Int.tdiv 9223372036854775807 x = (9223372036854775807 : Int) / x := fun x => Int.tdiv_eq_ediv_of_nonneg (by decide)
      have q2 : ∀ x, Int.tdiv 9223372036854775808 x = (9223372036854775808 : Int) / x := fun x => Int.tdiv_eq_ediv_of_nonneg (by decide)
      simp only [blazonref01_Mul.j0, q1, q2]
      rw [if_neg (by simpa using b0)]
      have hwp : fits (a * b) → wrap64 (a * b) = a * b := fun h => by unfold fits at h; exact wrap64_id h.1 h.2
      unfold fits at ha hb
      by_cases a1 : a > 0
      · rw [if_pos a1]
        by_cases b1 : b > 0
        · have hq : (9223372036854775807 : Int) / b < a ↔ 9223372036854775807 < a * b := Int.ediv_lt_iff_lt_mul b1
          have hq0 : 0 ≤ (9223372036854775807 : Int) / b := Int.ediv_nonneg (by decide) (by omega)
          have hq1 : (9223372036854775807 : Int) / b ≤ 9223372036854775807 := Int.ediv_le_self _ (by decide)
          rw [if_pos b1, if_neg b0, wrap64_id (by omega) hq1]
          have hpos : 0 < a * b := Int.mul_pos a1 b1
          by_cases h : a > (9223372036854775807 : Int) / b
          · rw [if_pos h, if_neg (by unfold fits; have := hq.mp h; omega)]
          · have hf : fits (a * b) := by
              unfold fits
              have : ¬ 9223372036854775807 < a * b := fun h' => h (hq.mpr h')
              omega
            rw [if_neg h, if_neg (by omega), if_neg (by omega), if_pos hf, hwp hf]
        · rw [if_neg b1, if_pos (by omega), if_neg a0]
          have hq : (9223372036854775808 : Int) / a < -b ↔ 9223372036854775808 < (-b) * a := Int.ediv_lt_iff_lt_mul a1
          have hq0 : 0 ≤ (9223372036854775808 : Int) / a := Int.ediv_nonneg (by decide) (by omega)
          have hq1 : (9223372036854775808 : Int) / a ≤ 9223372036854775808 := Int.ediv_le_self _ (by decide)
          have hm : (-b) * a = -(a * b) := by rw [Int.neg_mul, Int.mul_comm]
          have hneg : 0 < (-b) * a := Int.mul_pos (by omega) a1
          rw [wrap64_id (by omega) (by omega)]
          by_cases h : b < -((9223372036854775808 : Int) / a)
          · rw [if_pos h, if_neg (by unfold fits; have := hq.mp (by omega); omega)]
          · have hf : fits (a * b) := by
              unfold fits
              have : ¬ 9223372036854775808 < (-b) * a := fun h' => h (by have := hq.mpr h'; omega)
              omega
            rw [if_neg h, if_neg (by omega), if_pos hf, hwp hf]
      · rw [if_neg a1, if_pos (by omega)]
        by_cases b1 : b > 0
        · have hq : (9223372036854775808 : Int) / b < -a ↔ 9223372036854775808 < (-a) * b := Int.ediv_lt_iff_lt_mul b1
          have hq0 : 0 ≤ (9223372036854775808 : Int) / b := Int.ediv_nonneg (by decide) (by omega)
          have hq1 : (9223372036854775808 : Int) / b ≤ 9223372036854775808 := Int.ediv_le_self _ (by decide)
          have hm : (-a) * b = -(a * b) := by rw [Int.neg_mul]
          have hneg : 0 < (-a) * b := Int.mul_pos (by omega) b1
          rw [if_pos b1, if_neg b0, wrap64_id (by omega) (by omega)]
          by_cases h : a < -((9223372036854775808 : Int) / b)
          · rw [if_pos h, if_neg (by unfold fits; have := hq.mp (by omega); omega)]
          · have hf : fits (a * b) := by
              unfold fits
              have : ¬ 9223372036854775808 < (-a) * b := fun h' => h (by have := hq.mpr h'; omega)
              omega
            rw [if_neg h, if_neg (by omega), if_pos hf, hwp hf]
        · have e1 : (9223372036854775807 : Int) / b = -((9223372036854775807 : Int) / (-b)) := by
            rw [Int.ediv_neg]
            omega
          have hq : (9223372036854775807 : Int) / (-b) < -a ↔ 9223372036854775807 < (-a) * (-b) := Int.ediv_lt_iff_lt_mul (by omega)
          have hq0 : 0 ≤ (9223372036854775807 : Int) / (-b) := Int.ediv_nonneg (by decide) (by omega)
          have hq1 : (9223372036854775807 : Int) / (-b) ≤ 9223372036854775807 := Int.ediv_le_self _ (by decide)
          have hm : (-a) * (-b) = a * b := Int.neg_mul_neg a b
          have hpos : 0 < (-a) * (-b) := Int.mul_pos (by omega) (by omega)
          rw [if_neg b1, if_pos (by omega), if_neg b0, e1, wrap64_id (by omega) (by omega)]
          by_cases h : a < -((9223372036854775807 : Int) / (-b))
          · rw [if_pos h, if_neg (by unfold fits; have := hq.mp (by omega); omega)]
          · have hf : fits (a * b) := by
              unfold fits
              have : ¬ 9223372036854775807 < (-a) * (-b) := fun h' => h (by have := hq.mpr h'; omega)
              omega
            rw [if_neg h, if_pos hf, hwp hf]
/-- The sum of a list from a number on, if each step fits. -/
def sumFrom : Int → List Int → Option Int
  | x, [] => some x
  | x, y :: r => if fits (x + y) then sumFrom (x + y) r else none
def told : Option Int → Int × Int
  | some v => (v, 0)
  | none => (0, 18)
theorem sum_l0 (l : List Int) (hf : ∀ x ∈ l, fits x) (hl : l.length ≤ 1000) (d : Nat) : ∀ (k i : Nat) (x : Int), fits x → i ≤ l.length → l.length - i = d → d < k → num_Sum.l0 k x l (l.length : Int) (i : Int) = some (told (sumFrom x (l.drop i))) := by
  induction d with
  | zero =>
    intro k i x hx hi hd hk
    obtain ⟨k, rfl⟩ : ∃ n, k = n + 1 := ⟨k - 1, by omega⟩
    simp only [num_Sum.l0]
    rw [if_neg (by omega), List.drop_eq_nil_of_le (by omega)]
    rfl
  | succ d ih =>
    intro k i x hx hi hd hk
    obtain ⟨k, rfl⟩ : ∃ n, k = n + 1 := ⟨k - 1, by omega⟩
    simp only [num_Sum.l0]
    have hy : fits (rd l (i : Int)) := by
      apply hf
      unfold rd
      rw [List.getD_eq_getElem?_getD, List.getElem?_eq_getElem (by omega : ((i : Int)).toNat < l.length)]
      exact List.getElem_mem _
    rw [if_pos (by omega), if_pos (by omega), if_pos (by omega), add_tells _ _ hx hy, rd_drop l i (by omega)]
    simp only [sumFrom]
    by_cases h : fits (x + rd l (i : Int))
    · rw [if_pos h, if_pos h]
      simp only [Option.bind_some]
      rw [if_pos trivial, wrap64_id (by omega) (by omega)]
      have := ih k (i + 1) _ h (by omega) (by omega) (by omega)
      rw [show ((i : Int) + 1) = ((i + 1 : Nat) : Int) by omega]
      exact this
    · rw [if_neg h, if_neg h]
      simp only [Option.bind_some]
      rw [if_neg (by decide)]
      rfl
theorem law_l0 (K : Nat) (l : List Int) (hf : ∀ x ∈ l, fits x) (hl : l.length ≤ 1000) (d : Nat) : ∀ (k i : Nat) (x : Int), fits x → i ≤ l.length → l.length - i = d → d + K < k → 2000 ≤ K → sumFrom 0 l = sumFrom x (l.drop i) → blazonlaw01_NumSums.l0 k l x (i : Int) = some true := by
  have hsum : ∀ k, 1000 < k → num_Sum.f k l = some (told (sumFrom 0 l)) := by
    intro k hk
    have := sum_l0 l hf hl l.length k 0 0 (by decide) (by omega) (by omega) (by omega)
    simpa [num_Sum.f] using this
  induction d with
  | zero =>
    intro k i x hx hi hd hk hK hs
    obtain ⟨k, rfl⟩ : ∃ n, k = n + 1 := ⟨k - 1, by omega⟩
    simp only [blazonlaw01_NumSums.l0]
    rw [if_neg (by omega), hsum k (by omega), hs, List.drop_eq_nil_of_le (by omega), awake_true k (by omega)]
    simp [sumFrom, told]
  | succ d ih =>
    intro k i x hx hi hd hk hK hs
    obtain ⟨k, rfl⟩ : ∃ n, k = n + 1 := ⟨k - 1, by omega⟩
    simp only [blazonlaw01_NumSums.l0]
    have hy : fits (rd l (i : Int)) := by
      apply hf
      unfold rd
      rw [List.getD_eq_getElem?_getD, List.getElem?_eq_getElem (by omega : ((i : Int)).toNat < l.length)]
      exact List.getElem_mem _
    rw [if_pos (by omega), if_pos (by omega), radd_tells _ _ hx hy]
    rw [rd_drop l i (by omega)] at hs
    simp only [sumFrom] at hs
    by_cases h : fits (x + rd l (i : Int))
    · rw [if_pos h]
      rw [if_pos h] at hs
      simp only [Option.bind_some]
      rw [if_pos trivial, wrap64_id (by omega) (by omega)]
      have := ih k (i + 1) _ h (by omega) (by omega) (by omega) hK hs
      rw [show ((i : Int) + 1) = ((i + 1 : Nat) : Int) by omega]
      exact this
    · rw [if_neg h]
      rw [if_neg h] at hs
      simp only [Option.bind_some]
      rw [if_neg (by decide), hsum k (by omega), hs, awake_true k (by omega)]
      rfl
theorem NumSums : blazonlaw01_NumSums.Pure := by
  intro a b l ha hb h1 h2 hl
  have fa : fits a := by have := bounds_i64 ha; unfold fits; omega
  have fb : fits b := by have := bounds_i64 hb; unfold fits; omega
  have fl : ∀ x ∈ l, fits x := fun x hx => by have := bounds_i64 (hl x hx); unfold fits; omega
  refine ⟨10000, ?_⟩
  unfold blazonlaw01_NumSums.f
  by_cases e : (l.length : Int) > 100
  · rw [if_pos e, awake_true 10000 (by decide)]
    rfl
  · rw [if_neg e, add_tells a b fa fb, mul_tells 10000 (by decide) a b fa fb, radd_tells a b fa fb, rmul_tells 10000 (by decide) a b fa fb]
    have fin : blazonlaw01_NumSums.j0 10000 l false = some true := by
      simp only [blazonlaw01_NumSums.j0]
      rw [if_neg (by decide)]
      exact law_l0 9000 l fl (by omega) l.length 9999 0 0 (by decide) (by omega) (by omega) (by omega) (by decide) (by simp)
    by_cases hs : fits (a + b)
    · rw [if_pos hs, if_pos hs]
      by_cases hp : fits (a * b)
      · rw [if_pos hp, if_pos hp]; simp [fin]
      · rw [if_neg hp, if_neg hp]; simp [fin]
    · rw [if_neg hs, if_neg hs]
      by_cases hp : fits (a * b)
      · rw [if_pos hp, if_pos hp]; simp [fin]
      · rw [if_neg hp, if_neg hp]; simp [fin]

end Go.Proofs.Ytbpagdgbehefkaa.Pure

/-- The printed row names this lemma from its own namespace. -/
theorem Go.Proofs.Ytbpagdgbehefkaa.PrintWords.sized_ints {H : Type} {enc : Go.TypeId × Go.Value → H} {P : Go.Program} {W : Go.World} {base : Nat} {spare : Nat → Bool} {held : Bool} {t e : Go.TypeId} {k : Go.IntKind} {a : Option Go.Addr} {len cap : Nat} {d : Go.DataW H} {ps : List Go.MemPlace} {ts : List Go.TypeId} {ds : List (Go.DataW H)} {j : Nat}
    (hsz : (Go.DataW.weightsEach P ts ds).all (· ≤ Go.reachBytes) = true) (ht : ts[j]? = some t) (hd : ds[j]? = some d) (hu : P.underlying t = some (.slice e)) (he : P.underlying e = some (.int k)) (hc : P.cellsOf e = 1) {B : Nat} (hB : P.bytesOf e = B)
    (h : Go.DataW.Trod enc P W base spare held t (.slice a len cap) d ps) : len * B ≤ 140737488351232 :=
  Go.Proofs.YtbpagdgbehefkaaW.PrintWords.sized_ints hsz ht hd hu he hc hB h
