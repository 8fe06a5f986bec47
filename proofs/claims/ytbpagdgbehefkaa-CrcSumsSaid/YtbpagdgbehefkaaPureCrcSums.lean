/- The sum of bytes is the document's, whatever was summed ahead; any sum goes on as it says; the bytes stay, and calls are counted: for rows of at most 1000 bytes; longer rows give true, too. -/
import Derived.Test.YtbpagdgbehefkaaPCrcx2
import Derived.OpenShut
import Derived.Laws.BitsLemmas
import Derived.Laws.BitsAllLaws
import Derived.Lib.Bytes
import Derived.Test.YtbpagdgbehefkaaWSized
set_option linter.unusedVariables false
set_option linter.unusedSimpArgs false
namespace Go.Proofs.Ytbpagdgbehefkaa.Pure
open Go.RowKit Go.Proofs.Ytbpagdgbehefkaa.PCrc Go.Proofs.YtbpagdgbehefkaaW.PrintWords Go.Proofs.YtbpagdgbehefkaaW.PrintLast

def stepN (c : Nat) : Nat := if c % 2 = 1 then (c / 2) ^^^ 3988292384 else c / 2
/-- So many bits' steps. -/
def bitsN : Nat → Nat → Nat
  | 0, c => c
  | n + 1, c => stepN (bitsN n c)
theorem xor_half (a b : Nat) : (a ^^^ b) / 2 = (a / 2) ^^^ (b / 2) := by
  have := Nat.shiftRight_xor_distrib (a := a) (b := b) (i := 1)
  simpa [Nat.shiftRight_eq_div_pow] using this
theorem xor_odd (a b : Nat) : (a ^^^ b) % 2 = (a + b) % 2 := by
  have := Nat.xor_mod_two_pow (a := a) (b := b) (n := 1)
  rw [Nat.pow_one] at this
  rw [this]
  rcases Nat.mod_two_eq_zero_or_one a with ha | ha <;> rcases Nat.mod_two_eq_zero_or_one b with hb | hb <;> rw [ha, hb] <;> simp <;> omega
theorem stepN_xor (a b : Nat) : stepN (a ^^^ b) = stepN a ^^^ stepN b := by
  have h := xor_odd a b
  unfold stepN
  rw [xor_half, h]
  rcases Nat.mod_two_eq_zero_or_one a with ha | ha <;> rcases Nat.mod_two_eq_zero_or_one b with hb | hb
  · rw [if_neg (by omega), if_neg (by omega), if_neg (by omega)]
  · rw [if_pos (by omega), if_neg (by omega), if_pos (by omega), Nat.xor_assoc]
  · rw [if_pos (by omega), if_pos (by omega), if_neg (by omega), Nat.xor_assoc, Nat.xor_assoc, Nat.xor_comm (b / 2)]
  · rw [if_neg (by omega), if_pos (by omega), if_pos (by omega)]
    rw [Nat.xor_assoc, Nat.xor_comm 3988292384, Nat.xor_assoc, Nat.xor_self, Nat.xor_zero]
theorem bitsN_xor (n a b : Nat) : bitsN n (a ^^^ b) = bitsN n a ^^^ bitsN n b := by
  induction n with
  | zero => rfl
  | succ n ih => simp only [bitsN, ih, stepN_xor]
theorem stepN_even (m : Nat) : stepN (2 * m) = m := by
  unfold stepN
  rw [if_neg (by omega)]
  omega
theorem bitsN_high (h : Nat) : bitsN 8 (256 * h) = h := by
  have e : bitsN 8 (256 * h) = stepN (stepN (stepN (stepN (stepN (stepN (stepN (stepN (2 * (2 * (2 * (2 * (2 * (2 * (2 * (2 * h)))))))))))))))  := by
    simp only [bitsN]
    congr 8
    omega
  rw [e]
  simp only [stepN_even]
theorem split8 (c : Nat) : c = (c % 256) ^^^ (256 * (c / 256)) := by
  apply Nat.eq_of_testBit_eq
  intro i
  rw [Nat.testBit_xor, show (256 : Nat) = 2 ^ 8 from rfl, Nat.testBit_mod_two_pow, Nat.testBit_two_pow_mul, Nat.testBit_div_two_pow]
  by_cases h : i < 8
  · simp [h, Nat.not_le.2 h]
  · simp [h, Nat.le_of_not_lt h]
/-- A byte at a time, by the table; by bits. -/
def byteN (c x : Nat) : Nat := bitsN 8 ((c % 256) ^^^ x) ^^^ (c / 256)
theorem byteN_bits (c x : Nat) : byteN c x = bitsN 8 (c ^^^ x) := by
  have e : c ^^^ x = ((c % 256) ^^^ x) ^^^ (256 * (c / 256)) := by
    conv => lhs; rw [split8 c]
    rw [Nat.xor_assoc, Nat.xor_comm (256 * (c / 256)), ← Nat.xor_assoc]
  rw [e, bitsN_xor, bitsN_high]
  rfl
theorem stepN_lt {a : Nat} (h : a < 4294967296) : stepN a < 4294967296 := by
  unfold stepN
  split
  · exact Nat.xor_lt_two_pow (n := 32) (by omega) (by decide)
  · omega
theorem bitsN_lt (n : Nat) {a : Nat} (h : a < 4294967296) : bitsN n a < 4294967296 := by
  induction n with
  | zero => exact h
  | succ n ih => exact stepN_lt ih
theorem byteN_lt {c x : Nat} (h : c < 4294967296) (hx : x < 256) : byteN c x < 4294967296 := by
  rw [byteN_bits]
  exact bitsN_lt 8 (Nat.xor_lt_two_pow (n := 32) h (by omega))
theorem stepN_inj {a b : Nat} (ha : a < 4294967296) (hb : b < 4294967296) (h : stepN a = stepN b) : a = b := by
  have key : ∀ c, c < 4294967296 → (stepN c).testBit 31 = decide (c % 2 = 1) := by
    intro c hc
    unfold stepN
    have h31 : (c / 2).testBit 31 = false := Nat.testBit_lt_two_pow (by omega)
    by_cases ho : c % 2 = 1
    · rw [if_pos ho, Nat.testBit_xor, h31]
      simp [ho]
      decide
    · rw [if_neg ho, h31]
      simp [ho]
  have hk := (key a ha).symm.trans ((congrArg (·.testBit 31) h).trans (key b hb))
  simp only [decide_eq_decide] at hk
  unfold stepN at h
  by_cases ho : a % 2 = 1
  · rw [if_pos ho, if_pos (hk.1 ho)] at h
    have h2 : a / 2 = b / 2 := by
      have h3 := congrArg (· ^^^ 3988292384) h
      simpa [Nat.xor_assoc] using h3
    have := hk.1 ho
    omega
  · rw [if_neg ho, if_neg (fun e => ho (hk.2 e))] at h
    have : ¬ b % 2 = 1 := fun e => ho (hk.2 e)
    omega
theorem bitsN_inj (n : Nat) {a b : Nat} (ha : a < 4294967296) (hb : b < 4294967296) (h : bitsN n a = bitsN n b) : a = b := by
  induction n with
  | zero => exact h
  | succ n ih => exact ih (stepN_inj (bitsN_lt n ha) (bitsN_lt n hb) h)
theorem bitsN_swap (n c : Nat) : bitsN n (stepN c) = bitsN (n + 1) c := by
  induction n with
  | zero => rfl
  | succ n ih => simp only [bitsN] at ih ⊢; rw [ih]
theorem bit1_nat (n : Nat) (h : n < 4294967296) : Crc.bit1 (n : Int) = (stepN n : Nat) := by
  have e1 : Go.bits .and .u32 (n : Int) 1 = ((n % 2 : Nat) : Int) := by
    have := u32_and_nat n 1 h (by decide)
    rw [nat_mask1] at this
    exact this
  have e2 : (n : Int) / 2 = ((n / 2 : Nat) : Int) := by omega
  have e3 : Go.bits .xor .u32 ((n / 2 : Nat) : Int) 3988292384 = ((n / 2 ^^^ 3988292384 : Nat) : Int) := u32_xor_nat _ _ (by omega) (by decide)
  unfold Crc.bit1 stepN
  rw [e1, e2, e3]
  by_cases e : n % 2 = 1
  · rw [if_pos (by omega), if_pos e]
  · rw [if_neg (by omega), if_neg e]
theorem bits_nat (k n : Nat) (h : n < 4294967296) : Crc.bits k (n : Int) = (bitsN k n : Nat) := by
  induction k with
  | zero => rfl
  | succ k ih =>
    simp only [Crc.bits, bitsN]
    rw [ih, bit1_nat _ (bitsN_lt k h)]
theorem byte1_nat (c x : Nat) (h : c < 4294967296) (hx : x < 256) : Crc.byte1 (c : Int) (x : Int) = (byteN c x : Nat) := by
  unfold Crc.byte1 byteN
  have hm : c % 256 < 256 := Nat.mod_lt _ (by decide)
  have hxr : (c % 256) ^^^ x < 256 := Nat.xor_lt_two_pow (n := 8) hm hx
  rw [show (c : Int) % 256 = ((c % 256 : Nat) : Int) by omega, u8_xor_nat _ _ hm hx, bits_nat 8 _ (by omega), show (c : Int) / 256 = ((c / 256 : Nat) : Int) by omega,
    u32_xor_nat _ _ (bitsN_lt 8 (by omega)) (by omega)]
/-- All of a row's bytes. -/
def sumN (c : Nat) (l : List Int) : Nat := l.foldl (fun c x => byteN c x.toNat) c
theorem sumN_cons (c : Nat) (x : Int) (l : List Int) : sumN c (x :: l) = sumN (byteN c x.toNat) l := rfl
theorem sumN_append (c : Nat) (l m : List Int) : sumN c (l ++ m) = sumN (sumN c l) m := by simp [sumN]
theorem u8_in {x : Int} (h : (Lit.int .u8 x).wf = true) : 0 ≤ x ∧ x < 256 := by
  simp [Lit.wf, IntKind.min, IntKind.max, IntKind.bits, IntKind.signed] at h
  omega
theorem u32_in {x : Int} (h : (Lit.int .u32 x).wf = true) : 0 ≤ x ∧ x < 4294967296 := by
  simp [Lit.wf, IntKind.min, IntKind.max, IntKind.bits, IntKind.signed] at h
  omega
theorem sumN_lt (l : List Int) : ∀ (c : Nat), c < 4294967296 → (∀ x ∈ l, 0 ≤ x ∧ x < 256) → sumN c l < 4294967296 := by
  induction l with
  | nil => exact fun c h _ => h
  | cons x l ih =>
    intro c h hl
    rw [sumN_cons]
    have := hl x (by simp)
    exact ih _ (byteN_lt h (by omega)) (fun y hy => hl y (by simp [hy]))
theorem stepsF_nat (l : List Int) : ∀ (c : Nat), c < 4294967296 → (∀ x ∈ l, 0 ≤ x ∧ x < 256) → Crc.stepsF (c : Int) l = (sumN c l : Nat) := by
  induction l with
  | nil => exact fun c h _ => rfl
  | cons x l ih =>
    intro c h hl
    have hx := hl x (by simp)
    have e := byte1_nat c x.toNat h (by omega)
    rw [show ((x.toNat : Nat) : Int) = x by omega] at e
    show Crc.stepsF (Crc.byte1 (c : Int) x) l = _
    rw [e, sumN_cons]
    exact ih _ (byteN_lt h (by omega)) (fun y hy => hl y (by simp [hy]))
theorem flip_nat (n : Nat) (h : n < 4294967296) : Crc.flip (n : Int) = ((4294967295 - n : Nat) : Int) := by
  have e : Crc.flip (n : Int) = ((4294967295 ^^^ n : Nat) : Int) := u32_xor_nat 4294967295 n (by decide) h
  rw [e]
  congr 1
  have h2 : (BitVec.allOnes 32 ^^^ BitVec.ofNat 32 n) = ~~~ (BitVec.ofNat 32 n) := BitVec.allOnes_xor
  have h3 := congrArg BitVec.toNat h2
  rw [BitVec.toNat_xor, BitVec.toNat_not, BitVec.toNat_allOnes, BitVec.toNat_ofNat, Nat.mod_eq_of_lt h] at h3
  exact h3
theorem of_tells (s : Int) (l : List Int) (hs : 0 ≤ s ∧ s ≤ 1000000) (hn : l.length ≤ 1000000) (hl : ∀ x ∈ l, 0 ≤ x ∧ x < 256) :
    crc_Summer_Of.f s l = some (((4294967295 - sumN 4294967295 l : Nat) : Int), s + 1) := by
  unfold crc_Summer_Of.f
  rw [if_pos ⟨hn, hs⟩, show (4294967295 : Int) = ((4294967295 : Nat) : Int) from rfl, stepsF_nat l _ (by decide) hl, flip_nat _ (sumN_lt l _ (by decide) hl)]
theorem awake_tells : blazonlaw02_awake.f = some true := by
  unfold blazonlaw02_awake.f crc_New.f
  simp only [Option.bind_some]
  rw [of_tells 0 _ (by decide) (by decide) (by decide)]
  simp only [Option.bind_some]
  rw [if_pos (by decide +kernel), of_tells (0 + 1) _ (by decide) (by decide) (by decide)]
  simp only [Option.bind_some]
  rw [if_pos (by decide +kernel)]
  rfl
/-- The sum of bytes behind a sum. -/
theorem more_tells (s : Int) (a : Int) (l : List Int) (ha : 0 ≤ a ∧ a < 4294967296) (hs : 0 ≤ s ∧ s ≤ 1000000) (hn : l.length ≤ 1000000) (hl : ∀ x ∈ l, 0 ≤ x ∧ x < 256) :
    crc_Summer_More.f s a l = some (((4294967295 - sumN (4294967295 - a.toNat) l : Nat) : Int), s + 1) := by
  unfold crc_Summer_More.f
  obtain ⟨n, rfl⟩ : ∃ n : Nat, a = n := ⟨a.toNat, by omega⟩
  have h1 : 4294967295 - n < 4294967296 := by omega
  rw [if_pos ⟨hn, hs⟩, flip_nat _ (by omega), stepsF_nat l _ h1 hl, flip_nat _ (sumN_lt l _ h1 hl), Int.toNat_natCast]
theorem wrap64_id {x : Int} (h0 : -9223372036854775808 ≤ x) (h1 : x ≤ 9223372036854775807) : wrap64 x = x := by unfold wrap64; omega
theorem rd_drop (l : List Int) (i : Nat) (h : i < l.length) : l.drop i = rd l (i : Int) :: l.drop (i + 1) := by
  rw [List.drop_eq_getElem_cons h]
  simp [rd, List.getD_eq_getElem?_getD, h]

/-- Two lists are compared to the end. -/
theorem same_l0 (l m : List Int) (hl : l.length = m.length) (hb : l.length ≤ 1000000000000000) (d : Nat) :
    ∀ (k i : Nat), i ≤ l.length → l.length - i = d → d < k → blazonref01_Same.l0 k l m (i : Int) = some (decide (l.drop i = m.drop i)) := by
  induction d with
  | zero =>
    intro k i hi hd hk
    obtain ⟨k, rfl⟩ : ∃ n, k = n + 1 := ⟨k - 1, by omega⟩
    simp only [blazonref01_Same.l0]
    rw [if_neg (by omega)]
    have e1 : l.drop i = [] := List.drop_eq_nil_of_le (by omega)
    have e2 : m.drop i = [] := List.drop_eq_nil_of_le (by omega)
    simp [e1, e2]
  | succ d ih =>
    intro k i hi hd hk
    obtain ⟨k, rfl⟩ : ∃ n, k = n + 1 := ⟨k - 1, by omega⟩
    simp only [blazonref01_Same.l0]
    rw [if_pos (by omega), if_pos (by omega), if_pos (by omega)]
    rw [rd_drop l i (by omega), rd_drop m i (by omega)]
    by_cases e : rd l (i : Int) = rd m (i : Int)
    · rw [if_pos e, wrap64_id (by omega) (by omega)]
      have := ih k (i + 1) (by omega) (by omega) (by omega)
      rw [show ((i : Int) + 1) = ((i + 1 : Nat) : Int) by omega, this]
      simp [e]
    · rw [if_neg e]
      simp [e]
theorem same_tells (k : Nat) (l m : List Int) (hb : l.length ≤ 1000000000000000) (hk : l.length < k) : blazonref01_Same.f k l m = some (decide (l = m)) := by
  unfold blazonref01_Same.f
  by_cases e : (l.length : Int) = (m.length : Int)
  · rw [if_pos e]
    have := same_l0 l m (by omega) hb l.length k 0 (by omega) (by omega) hk
    simpa using this
  · rw [if_neg e]
    have : l ≠ m := fun h => e (by rw [h])
    simp [this]

theorem ref_l1 (x1 : List Int) (i : Int) (d : Nat) : ∀ (k c j : Nat), j + d = 8 → c < 4294967296 →
    blazonref02_More.l1 (k + d + 1) x1 (c : Int) i (j : Int) = blazonref02_More.l0 k x1 (bitsN d c : Nat) (wrap64 (i + 1)) := by
  induction d with
  | zero =>
    intro k c j hj hc
    simp only [blazonref02_More.l1, Nat.add_zero]
    rw [if_neg (by omega)]
    rfl
  | succ d ih =>
    intro k c j hj hc
    rw [show k + (d + 1) + 1 = (k + d + 1) + 1 by omega]
    rw [blazonref02_More.l1, if_pos (by omega)]
    have e1 : Int.tmod (c : Int) 2 = ((c % 2 : Nat) : Int) := by rw [Int.tmod_eq_emod_of_nonneg (by omega)]; omega
    have e2 : Int.tdiv (c : Int) 2 % 4294967296 = ((c / 2 : Nat) : Int) := by rw [Int.tdiv_eq_ediv_of_nonneg (by omega)]; omega
    have e3 : Go.bits .xor .u32 ((c / 2 : Nat) : Int) 3988292384 = ((c / 2 ^^^ 3988292384 : Nat) : Int) := u32_xor_nat _ _ (by omega) (by decide)
    rw [e1, e2, e3, wrap64_id (by omega) (by omega), show (j : Int) + 1 = ((j + 1 : Nat) : Int) by omega, ← bitsN_swap]
    unfold stepN
    by_cases h : c % 2 = 1
    · rw [if_pos (by omega), if_pos h, ih k _ (j + 1) (by omega) (Nat.xor_lt_two_pow (n := 32) (by omega) (by decide))]
    · rw [if_neg (by omega), if_neg h, ih k _ (j + 1) (by omega) (by omega)]
theorem ref_l0 (l : List Int) (hl : ∀ x ∈ l, 0 ≤ x ∧ x < 256) (hn : l.length ≤ 1000000) (d : Nat) : ∀ (k c i : Nat), i ≤ l.length → l.length - i = d → c < 4294967296 → 10 * d < k →
    blazonref02_More.l0 k l (c : Int) (i : Int) = some ((4294967295 - sumN c (l.drop i) : Nat) : Int) := by
  induction d with
  | zero =>
    intro k c i hi hd hc hk
    obtain ⟨k, rfl⟩ : ∃ n, k = n + 1 := ⟨k - 1, by omega⟩
    simp only [blazonref02_More.l0]
    rw [if_neg (by omega), List.drop_eq_nil_of_le (by omega)]
    show some _ = some ((4294967295 - c : Nat) : Int)
    congr 1
    omega
  | succ d ih =>
    intro k c i hi hd hc hk
    obtain ⟨k, rfl⟩ : ∃ n, k = n + 8 + 1 + 1 := ⟨k - 10, by omega⟩
    simp only [blazonref02_More.l0]
    rw [if_pos (by omega), if_pos (by omega)]
    have hx : rd l (i : Int) = l[i] := by simp [rd, List.getD_eq_getElem?_getD, show i < l.length by omega]
    have hv := hl l[i] (List.getElem_mem _)
    have e : Go.bits .xor .u32 (c : Int) (rd l (i : Int) % 4294967296) = ((c ^^^ l[i].toNat : Nat) : Int) := by
      rw [hx, show l[i] % 4294967296 = ((l[i].toNat : Nat) : Int) by omega]
      exact u32_xor_nat _ _ hc (by omega)
    have hlt : c ^^^ l[i].toNat < 4294967296 := Nat.xor_lt_two_pow (n := 32) hc (by omega)
    rw [e]
    have := ref_l1 l (i : Int) 8 k (c ^^^ l[i].toNat) 0 (by omega) hlt
    rw [show ((0 : Nat) : Int) = 0 from rfl] at this
    rw [this, wrap64_id (by omega) (by omega), show (i : Int) + 1 = ((i + 1 : Nat) : Int) by omega, ih k _ (i + 1) (by omega) (by omega) (bitsN_lt 8 hlt) (by omega)]
    rw [List.drop_eq_getElem_cons (show i < l.length by omega), sumN_cons, byteN_bits]
theorem refMore_tells (k : Nat) (a : Int) (l : List Int) (ha : 0 ≤ a ∧ a < 4294967296) (hl : ∀ x ∈ l, 0 ≤ x ∧ x < 256) (hn : l.length ≤ 1000000) (hk : 10 * l.length < k) :
    blazonref02_More.f k a l = some ((4294967295 - sumN (4294967295 - a.toNat) l : Nat) : Int) := by
  unfold blazonref02_More.f
  rw [show (4294967295 - a) % 4294967296 = ((4294967295 - a.toNat : Nat) : Int) by omega]
  have := ref_l0 l hl hn l.length k (4294967295 - a.toNat) 0 (by omega) (by omega) (by omega) hk
  simpa using this
theorem j0_true (k : Nat) (a : Int) (l m : List Int) : blazonlaw02_CrcSums.j0 (k + 1) a l m true = some true := by
  simp only [blazonlaw02_CrcSums.j0]
  rw [if_pos trivial, awake_tells]
  rfl
theorem lent_tells (l : List Int) (hn : l.length ≤ 1000000) : blazonref01_Lent.f l = some l := by
  unfold blazonref01_Lent.f
  simp only [Option.bind_some, List.length_nil, List.nil_append, List.length_cons, List.length_append]
  rw [if_pos (by omega), if_pos (by omega), if_pos (by omega), if_pos (by omega)]
  simp
theorem CrcSums : blazonlaw02_CrcSums.Pure := by
  intro a l m ha hl1 hl2 hl hm1 hm2 hm
  refine ⟨(10 * l.length + 10) + 1, ?_⟩
  unfold blazonlaw02_CrcSums.f
  by_cases h1 : (l.length : Int) > 1000
  · rw [if_pos h1]; exact j0_true _ a l m
  rw [if_neg h1]
  by_cases h2 : (m.length : Int) > 1000
  · rw [decide_eq_true h2]; exact j0_true _ a l m
  rw [decide_eq_false h2]
  simp only [blazonlaw02_CrcSums.j0]
  have ha' := u32_in ha
  have hl' : ∀ x ∈ l, 0 ≤ x ∧ x < 256 := fun x hx => u8_in (hl x hx)
  have hm' : ∀ x ∈ m, 0 ≤ x ∧ x < 256 := fun x hx => u8_in (hm x hx)
  rw [if_neg (by simp), lent_tells l (by omega)]
  simp only [crc_New.f, Option.bind_some]
  rw [of_tells 0 m (by omega) (by omega) hm']
  simp only [Option.bind_some]
  rw [of_tells _ l (by omega) (by omega) hl']
  simp only [Option.bind_some]
  unfold blazonref02_Of.f
  rw [refMore_tells _ 0 l (by omega) hl' (by omega) (by omega)]
  simp only [Option.bind_some]
  rw [if_pos (by simp), more_tells _ a l ha' (by omega) (by omega) hl']
  simp only [Option.bind_some]
  rw [refMore_tells _ a l ha' hl' (by omega) (by omega)]
  simp only [Option.bind_some]
  rw [if_pos trivial]
  unfold blazonref01_Kept.f
  rw [if_pos rfl, same_tells _ l l (by omega) (by omega)]
  simp only [Option.bind_some, decide_true, if_true, crc_Summer_Calls.f]
  rw [if_pos (by omega), awake_tells]
  rfl

end Go.Proofs.Ytbpagdgbehefkaa.Pure
