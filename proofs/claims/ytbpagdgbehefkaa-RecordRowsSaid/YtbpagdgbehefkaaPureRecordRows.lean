/- Records that are laid one behind the other are those that are told; cut off anywhere, those that are whole; whatever stands behind a cut (of 10 records, 200 bytes each). -/
import Derived.Test.YtbpagdgbehefkaaPRecx1
import Derived.Test.YtbpagdgbehefkaaPRecx2
import Derived.Test.YtbpagdgbehefkaaPRecx3
import Derived.Test.YtbpagdgbehefkaaPRecx4
import Derived.Test.YtbpagdgbehefkaaPRecx5
import Derived.Test.YtbpagdgbehefkaaPRecx6
import Derived.OpenShut
import Derived.Laws.BitsLemmas
import Derived.Laws.BitsAllLaws
import Derived.Lib.Bytes
import Derived.Test.YtbpagdgbehefkaaWSized
set_option linter.unusedVariables false
set_option linter.unusedSimpArgs false
namespace Go.Proofs.Ytbpagdgbehefkaa.Pure
open Go.RowKit Go.Proofs.Ytbpagdgbehefkaa.PRec Go.Proofs.YtbpagdgbehefkaaW.PrintWords Go.Proofs.YtbpagdgbehefkaaW.PrintLast

def stepN (c : Nat) : Nat := if c % 2 = 1 then (c / 2) ^^^ 3988292384 else c / 2
/-- So many bits' steps. -/
def bitsN : Nat → Nat → Nat
  | 0, c => c
  | n + 1, c => stepN (bitsN n c)
theorem xor_half (a b : Nat) : (a ^^^ b) / 2 = (a / 2) ^^^ (b / 2) := by
  have := Nat.shiftRight_xor_distrib (a := a) (b := b) (i := 1)
  simpa [Nat.shiftRight_eq_div_pow] using this
theorem xor_odd (a b : Nat) : (a ^^^ b) % 2 = (a + b) % 2 := by
  have := Nat.xor_mod_two_pow (a := a) (b := b) (n := 1)
  rw [Nat.pow_one] at this
  rw [this]
  rcases Nat.mod_two_eq_zero_or_one a with ha | ha <;> rcases Nat.mod_two_eq_zero_or_one b with hb | hb <;> rw [ha, hb] <;> simp <;> omega
theorem stepN_xor (a b : Nat) : stepN (a ^^^ b) = stepN a ^^^ stepN b := by
  have h := xor_odd a b
  unfold stepN
  rw [xor_half, h]
  rcases Nat.mod_two_eq_zero_or_one a with ha | ha <;> rcases Nat.mod_two_eq_zero_or_one b with hb | hb
  · rw [if_neg (by omega), if_neg (by omega), if_neg (by omega)]
  · rw [if_pos (by omega), if_neg (by omega), if_pos (by omega), Nat.xor_assoc]
  · rw [if_pos (by omega), if_pos (by omega), if_neg (by omega), Nat.xor_assoc, Nat.xor_assoc, Nat.xor_comm (b / 2)]
  · rw [if_neg (by omega), if_pos (by omega), if_pos (by omega)]
    rw [Nat.xor_assoc, Nat.xor_comm 3988292384, Nat.xor_assoc, Nat.xor_self, Nat.xor_zero]
theorem bitsN_xor (n a b : Nat) : bitsN n (a ^^^ b) = bitsN n a ^^^ bitsN n b := by
  induction n with
  | zero => rfl
  | succ n ih => simp only [bitsN, ih, stepN_xor]
theorem stepN_even (m : Nat) : stepN (2 * m) = m := by
  unfold stepN
  rw [if_neg (by omega)]
  omega
theorem bitsN_high (h : Nat) : bitsN 8 (256 * h) = h := by
  have e : bitsN 8 (256 * h) = stepN (stepN (stepN (stepN (stepN (stepN (stepN (stepN (2 * (2 * (2 * (2 * (2 * (2 * (2 * (2 * h)))))))))))))))  := by
    simp only [bitsN]
    congr 8
    omega
  rw [e]
  simp only [stepN_even]
theorem split8 (c : Nat) : c = (c % 256) ^^^ (256 * (c / 256)) := by
  apply Nat.eq_of_testBit_eq
  intro i
  rw [Nat.testBit_xor, show (256 : Nat) = 2 ^ 8 from rfl, Nat.testBit_mod_two_pow, Nat.testBit_two_pow_mul, Nat.testBit_div_two_pow]
  by_cases h : i < 8
  · simp [h, Nat.not_le.2 h]
  · simp [h, Nat.le_of_not_lt h]
/-- A byte at a time, by the table; by bits. -/
def byteN (c x : Nat) : Nat := bitsN 8 ((c % 256) ^^^ x) ^^^ (c / 256)
theorem byteN_bits (c x : Nat) : byteN c x = bitsN 8 (c ^^^ x) := by
  have e : c ^^^ x = ((c % 256) ^^^ x) ^^^ (256 * (c / 256)) := by
    conv => lhs; rw [split8 c]
    rw [Nat.xor_assoc, Nat.xor_comm (256 * (c / 256)), ← Nat.xor_assoc]
  rw [e, bitsN_xor, bitsN_high]
  rfl
theorem stepN_lt {a : Nat} (h : a < 4294967296) : stepN a < 4294967296 := by
  unfold stepN
  split
  · exact Nat.xor_lt_two_pow (n := 32) (by omega) (by decide)
  · omega
theorem bitsN_lt (n : Nat) {a : Nat} (h : a < 4294967296) : bitsN n a < 4294967296 := by
  induction n with
  | zero => exact h
  | succ n ih => exact stepN_lt ih
theorem byteN_lt {c x : Nat} (h : c < 4294967296) (hx : x < 256) : byteN c x < 4294967296 := by
  rw [byteN_bits]
  exact bitsN_lt 8 (Nat.xor_lt_two_pow (n := 32) h (by omega))
theorem stepN_inj {a b : Nat} (ha : a < 4294967296) (hb : b < 4294967296) (h : stepN a = stepN b) : a = b := by
  have key : ∀ c, c < 4294967296 → (stepN c).testBit 31 = decide (c % 2 = 1) := by
    intro c hc
    unfold stepN
    have h31 : (c / 2).testBit 31 = false := Nat.testBit_lt_two_pow (by omega)
    by_cases ho : c % 2 = 1
    · rw [if_pos ho, Nat.testBit_xor, h31]
      simp [ho]
      decide
    · rw [if_neg ho, h31]
      simp [ho]
  have hk := (key a ha).symm.trans ((congrArg (·.testBit 31) h).trans (key b hb))
  simp only [decide_eq_decide] at hk
  unfold stepN at h
  by_cases ho : a % 2 = 1
  · rw [if_pos ho, if_pos (hk.1 ho)] at h
    have h2 : a / 2 = b / 2 := by
      have h3 := congrArg (· ^^^ 3988292384) h
      simpa [Nat.xor_assoc] using h3
    have := hk.1 ho
    omega
  · rw [if_neg ho, if_neg (fun e => ho (hk.2 e))] at h
    have : ¬ b % 2 = 1 := fun e => ho (hk.2 e)
    omega
theorem bitsN_inj (n : Nat) {a b : Nat} (ha : a < 4294967296) (hb : b < 4294967296) (h : bitsN n a = bitsN n b) : a = b := by
  induction n with
  | zero => exact h
  | succ n ih => exact ih (stepN_inj (bitsN_lt n ha) (bitsN_lt n hb) h)
theorem bitsN_swap (n c : Nat) : bitsN n (stepN c) = bitsN (n + 1) c := by
  induction n with
  | zero => rfl
  | succ n ih => simp only [bitsN] at ih ⊢; rw [ih]
theorem bit1_nat (n : Nat) (h : n < 4294967296) : Crc.bit1 (n : Int) = (stepN n : Nat) := by
  have e1 : Go.bits .and .u32 (n : Int) 1 = ((n % 2 : Nat) : Int) := by
    have := u32_and_nat n 1 h (by decide)
    rw [nat_mask1] at this
    exact this
  have e2 : (n : Int) / 2 = ((n / 2 : Nat) : Int) := by omega
  have e3 : Go.bits .xor .u32 ((n / 2 : Nat) : Int) 3988292384 = ((n / 2 ^^^ 3988292384 : Nat) : Int) := u32_xor_nat _ _ (by omega) (by decide)
  unfold Crc.bit1 stepN
  rw [e1, e2, e3]
  by_cases e : n % 2 = 1
  · rw [if_pos (by omega), if_pos e]
  · rw [if_neg (by omega), if_neg e]
theorem bits_nat (k n : Nat) (h : n < 4294967296) : Crc.bits k (n : Int) = (bitsN k n : Nat) := by
  induction k with
  | zero => rfl
  | succ k ih =>
    simp only [Crc.bits, bitsN]
    rw [ih, bit1_nat _ (bitsN_lt k h)]
theorem byte1_nat (c x : Nat) (h : c < 4294967296) (hx : x < 256) : Crc.byte1 (c : Int) (x : Int) = (byteN c x : Nat) := by
  unfold Crc.byte1 byteN
  have hm : c % 256 < 256 := Nat.mod_lt _ (by decide)
  have hxr : (c % 256) ^^^ x < 256 := Nat.xor_lt_two_pow (n := 8) hm hx
  rw [show (c : Int) % 256 = ((c % 256 : Nat) : Int) by omega, u8_xor_nat _ _ hm hx, bits_nat 8 _ (by omega), show (c : Int) / 256 = ((c / 256 : Nat) : Int) by omega,
    u32_xor_nat _ _ (bitsN_lt 8 (by omega)) (by omega)]
/-- All of a row's bytes. -/
def sumN (c : Nat) (l : List Int) : Nat := l.foldl (fun c x => byteN c x.toNat) c
theorem sumN_cons (c : Nat) (x : Int) (l : List Int) : sumN c (x :: l) = sumN (byteN c x.toNat) l := rfl
theorem sumN_append (c : Nat) (l m : List Int) : sumN c (l ++ m) = sumN (sumN c l) m := by simp [sumN]
theorem u8_in {x : Int} (h : (Lit.int .u8 x).wf = true) : 0 ≤ x ∧ x < 256 := by
  simp [Lit.wf, IntKind.min, IntKind.max, IntKind.bits, IntKind.signed] at h
  omega
theorem u32_in {x : Int} (h : (Lit.int .u32 x).wf = true) : 0 ≤ x ∧ x < 4294967296 := by
  simp [Lit.wf, IntKind.min, IntKind.max, IntKind.bits, IntKind.signed] at h
  omega
theorem sumN_lt (l : List Int) : ∀ (c : Nat), c < 4294967296 → (∀ x ∈ l, 0 ≤ x ∧ x < 256) → sumN c l < 4294967296 := by
  induction l with
  | nil => exact fun c h _ => h
  | cons x l ih =>
    intro c h hl
    rw [sumN_cons]
    have := hl x (by simp)
    exact ih _ (byteN_lt h (by omega)) (fun y hy => hl y (by simp [hy]))
theorem stepsF_nat (l : List Int) : ∀ (c : Nat), c < 4294967296 → (∀ x ∈ l, 0 ≤ x ∧ x < 256) → Crc.stepsF (c : Int) l = (sumN c l : Nat) := by
  induction l with
  | nil => exact fun c h _ => rfl
  | cons x l ih =>
    intro c h hl
    have hx := hl x (by simp)
    have e := byte1_nat c x.toNat h (by omega)
    rw [show ((x.toNat : Nat) : Int) = x by omega] at e
    show Crc.stepsF (Crc.byte1 (c : Int) x) l = _
    rw [e, sumN_cons]
    exact ih _ (byteN_lt h (by omega)) (fun y hy => hl y (by simp [hy]))
theorem flip_nat (n : Nat) (h : n < 4294967296) : Crc.flip (n : Int) = ((4294967295 - n : Nat) : Int) := by
  have e : Crc.flip (n : Int) = ((4294967295 ^^^ n : Nat) : Int) := u32_xor_nat 4294967295 n (by decide) h
  rw [e]
  congr 1
  have h2 : (BitVec.allOnes 32 ^^^ BitVec.ofNat 32 n) = ~~~ (BitVec.ofNat 32 n) := BitVec.allOnes_xor
  have h3 := congrArg BitVec.toNat h2
  rw [BitVec.toNat_xor, BitVec.toNat_not, BitVec.toNat_allOnes, BitVec.toNat_ofNat, Nat.mod_eq_of_lt h] at h3
  exact h3

theorem of_tells (s : Int) (l : List Int) (hs : 0 ≤ s ∧ s ≤ 1000000) (hn : l.length ≤ 1000000) (hl : ∀ x ∈ l, 0 ≤ x ∧ x < 256) :
    crc_Summer_Of.f (some s) l = some (((4294967295 - sumN 4294967295 l : Nat) : Int), some (s + 1)) := by
  unfold crc_Summer_Of.f
  dsimp only
  rw [if_pos ⟨hn, hs⟩, show (4294967295 : Int) = ((4294967295 : Nat) : Int) from rfl, stepsF_nat l _ (by decide) hl, flip_nat _ (sumN_lt l _ (by decide) hl)]
theorem more_tells (s : Int) (a : Int) (l : List Int) (ha : 0 ≤ a ∧ a < 4294967296) (hs : 0 ≤ s ∧ s ≤ 1000000) (hn : l.length ≤ 1000000) (hl : ∀ x ∈ l, 0 ≤ x ∧ x < 256) :
    crc_Summer_More.f (some s) a l = some (((4294967295 - sumN (4294967295 - a.toNat) l : Nat) : Int), some (s + 1)) := by
  unfold crc_Summer_More.f
  obtain ⟨n, rfl⟩ : ∃ n : Nat, a = n := ⟨a.toNat, by omega⟩
  have h1 : 4294967295 - n < 4294967296 := by omega
  dsimp only
  rw [if_pos ⟨hn, hs⟩, flip_nat _ (by omega), stepsF_nat l _ h1 hl, flip_nat _ (sumN_lt l _ h1 hl), Int.toNat_natCast]
theorem of_none (l : List Int) : crc_Summer_Of.f none l = some (0, none) := rfl
theorem more_none (a : Int) (l : List Int) : crc_Summer_More.f none a l = some (0, none) := rfl
theorem new_tells : crc_New.f = some (some 0) := rfl
theorem wrap64_id {x : Int} (h0 : -9223372036854775808 ≤ x) (h1 : x ≤ 9223372036854775807) : wrap64 x = x := by unfold wrap64; omega

theorem rd_drop (l : List Int) (i : Nat) (h : i < l.length) : l.drop i = rd l (i : Int) :: l.drop (i + 1) := by
  rw [List.drop_eq_getElem_cons h]
  simp [rd, List.getD_eq_getElem?_getD, h]

/-- Two lists are compared to the end. -/
theorem same_l0 (l m : List Int) (hl : l.length = m.length) (hb : l.length ≤ 1000000000000000) (d : Nat) :
    ∀ (k i : Nat), i ≤ l.length → l.length - i = d → d < k → blazonref01_Same.l0 k l m (i : Int) = some (decide (l.drop i = m.drop i)) := by
  induction d with
  | zero =>
    intro k i hi hd hk
    obtain ⟨k, rfl⟩ : ∃ n, k = n + 1 := ⟨k - 1, by omega⟩
    simp only [blazonref01_Same.l0]
    rw [if_neg (by omega)]
    have e1 : l.drop i = [] := List.drop_eq_nil_of_le (by omega)
    have e2 : m.drop i = [] := List.drop_eq_nil_of_le (by omega)
    simp [e1, e2]
  | succ d ih =>
    intro k i hi hd hk
    obtain ⟨k, rfl⟩ : ∃ n, k = n + 1 := ⟨k - 1, by omega⟩
    simp only [blazonref01_Same.l0]
    rw [if_pos (by omega), if_pos (by omega), if_pos (by omega)]
    rw [rd_drop l i (by omega), rd_drop m i (by omega)]
    by_cases e : rd l (i : Int) = rd m (i : Int)
    · rw [if_pos e, wrap64_id (by omega) (by omega)]
      have := ih k (i + 1) (by omega) (by omega) (by omega)
      rw [show ((i : Int) + 1) = ((i + 1 : Nat) : Int) by omega, this]
      simp [e]
    · rw [if_neg e]
      simp [e]
theorem same_tells (k : Nat) (l m : List Int) (hb : l.length ≤ 1000000000000000) (hk : l.length < k) : blazonref01_Same.f k l m = some (decide (l = m)) := by
  unfold blazonref01_Same.f
  by_cases e : (l.length : Int) = (m.length : Int)
  · rw [if_pos e]
    have := same_l0 l m (by omega) hb l.length k 0 (by omega) (by omega) hk
    simpa using this
  · rw [if_neg e]
    have : l ≠ m := fun h => e (by rw [h])
    simp [this]

theorem or_low (i : Nat) (a b : Int) (ha : 0 ≤ a) (ha1 : a < 2 ^ i) (hb : 0 ≤ b) (hb2 : b % 2 ^ i = 0) (hA : a < 4294967296) (hB : b < 4294967296) : Go.bits .or .u32 a b = a + b := by
  rw [u32_or a b ha hA hb hB, Nat.or_comm, nat_join i b.toNat a.toNat ?_ ?_]
  · omega
  · have : ((b.toNat % 2 ^ i : Nat) : Int) = 0 := by
      rw [Int.natCast_emod]
      rw [show ((b.toNat : Nat) : Int) = b by omega]
      exact_mod_cast hb2
    exact_mod_cast this
  · have : ((a.toNat : Nat) : Int) < ((2 ^ i : Nat) : Int) := by
      rw [show ((a.toNat : Nat) : Int) = a by omega]
      exact_mod_cast ha1
    exact_mod_cast this
def four (x : Int) : List Int := [x % 256, (x / 256) % 256, (x / 65536) % 256, (x / 16777216) % 256]
def numb (l : List Int) : Int := rd l 0 + rd l 1 * 256 + rd l 2 * 65536 + rd l 3 * 16777216
theorem four_tells (k : Nat) (x : Int) (h0 : 0 ≤ x) (h1 : x < 4294967296) (hk : 5 ≤ k) : blazonref01_Four.f k x = some (four x) := by
  obtain ⟨k, rfl⟩ : ∃ n, k = n + 5 := ⟨k - 5, by omega⟩
  unfold blazonref01_Four.f
  have q : ∀ y : Int, 0 ≤ y → y < 4294967296 → (Int.tdiv y 256) % 4294967296 = y / 256 := by
    intro y h0 h1
    rw [Int.tdiv_eq_ediv_of_nonneg h0]
    omega
  have m : ∀ y : Int, 0 ≤ y → (Int.tmod y 256) % 256 = y % 256 := by
    intro y h0
    rw [Int.tmod_eq_emod_of_nonneg h0]
    omega
  have w1 : wrap64 (0 + 1) = 1 := wrap64_id (by decide) (by decide)
  have w2 : wrap64 (1 + 1) = 2 := wrap64_id (by decide) (by decide)
  have w3 : wrap64 (2 + 1) = 3 := wrap64_id (by decide) (by decide)
  have w4 : wrap64 (3 + 1) = 4 := wrap64_id (by decide) (by decide)
  simp only [blazonref01_Four.l0, Option.bind_some]
  rw [if_pos (by decide), if_pos (by simp), w1, if_pos (by decide), if_pos (by simp), w2, if_pos (by decide), if_pos (by simp), w3, if_pos (by decide), if_pos (by simp), w4, if_neg (by decide)]
  rw [q x h0 h1, q (x / 256) (by omega) (by omega), q (x / 256 / 256) (by omega) (by omega), m x h0, m _ (by omega), m _ (by omega), m _ (by omega)]
  simp only [List.nil_append, List.cons_append, four]
  have e1 : x / 256 / 256 = x / 65536 := by omega
  have e2 : x / 65536 / 256 = x / 16777216 := by omega
  rw [e1, e2]
theorem rd_byte (l : List Int) (h : ∀ x ∈ l, 0 ≤ x ∧ x < 256) (i : Int) : 0 ≤ rd l i ∧ rd l i < 256 := by
  unfold rd
  rw [List.getD_eq_getElem?_getD]
  cases e : l[i.toNat]? with
  | none => simp
  | some v =>
    have := h v (List.mem_of_getElem? e)
    simp; omega
theorem number_tells (k : Nat) (l : List Int) (h : ∀ x ∈ l, 0 ≤ x ∧ x < 256) (hl : 4 ≤ l.length) (hk : 5 ≤ k) : blazonref01_Number.f k l = some (numb l) := by
  obtain ⟨k, rfl⟩ : ∃ n, k = n + 5 := ⟨k - 5, by omega⟩
  unfold blazonref01_Number.f
  have w1 : wrap64 (3 - 1) = 2 := wrap64_id (by decide) (by decide)
  have w2 : wrap64 (2 - 1) = 1 := wrap64_id (by decide) (by decide)
  have w3 : wrap64 (1 - 1) = 0 := wrap64_id (by decide) (by decide)
  have w4 : wrap64 (0 - 1) = -1 := wrap64_id (by decide) (by decide)
  simp only [blazonref01_Number.l0]
  rw [if_pos (by decide), if_pos (by decide), if_pos (by omega), w1, if_pos (by decide), if_pos (by decide), if_pos (by omega), w2, if_pos (by decide), if_pos (by decide), if_pos (by omega), w3, if_pos (by decide), if_pos (by decide), if_pos (by omega), w4, if_neg (by decide)]
  have b0 := rd_byte l h 0
  have b1 := rd_byte l h 1
  have b2 := rd_byte l h 2
  have b3 := rd_byte l h 3
  unfold numb
  congr 1
  omega
theorem get4_tells (l : List Int) (h : ∀ x ∈ l, 0 ≤ x ∧ x < 256) : num_Get4.f l = if l.length < 4 then some (0, 2) else some (numb l, 0) := by
  unfold num_Get4.f
  by_cases e : l.length < 4
  · rw [if_pos (by omega), if_pos e]
  · rw [if_neg (by omega), if_pos (by omega), if_pos (by omega), if_pos (by omega), if_pos (by omega), if_neg e]
    have b0 := rd_byte l h 0
    have b1 := rd_byte l h 1
    have b2 := rd_byte l h 2
    have b3 := rd_byte l h 3
    have s8 : ∀ x : Int, shl .u32 x 8 = x * 256 % 4294967296 := fun x => by unfold shl; rw [IntKind.wrap_u32]; rfl
    have s16 : ∀ x : Int, shl .u32 x 16 = x * 65536 % 4294967296 := fun x => by unfold shl; rw [IntKind.wrap_u32]; rfl
    have s24 : ∀ x : Int, shl .u32 x 24 = x * 16777216 % 4294967296 := fun x => by unfold shl; rw [IntKind.wrap_u32]; rfl
    rw [s8, s16, s24, show rd l 0 % 4294967296 = rd l 0 by omega, show rd l 1 % 4294967296 * 256 % 4294967296 = rd l 1 * 256 by omega, show rd l 2 % 4294967296 * 65536 % 4294967296 = rd l 2 * 65536 by omega, show rd l 3 % 4294967296 * 16777216 % 4294967296 = rd l 3 * 16777216 by omega]
    rw [or_low 8 (rd l 0) (rd l 1 * 256) (by omega) (by omega) (by omega) (by omega) (by omega) (by omega)]
    rw [or_low 16 (rd l 0 + rd l 1 * 256) (rd l 2 * 65536) (by omega) (by omega) (by omega) (by omega) (by omega) (by omega)]
    rw [or_low 24 (rd l 0 + rd l 1 * 256 + rd l 2 * 65536) (rd l 3 * 16777216) (by omega) (by omega) (by omega) (by omega) (by omega) (by omega)]
    rfl
theorem ref_l1 (x1 : List Int) (i : Int) (d : Nat) : ∀ (k c j : Nat), j + d = 8 → c < 4294967296 →
    blazonref02_More.l0 (k + d + 1) x1 i (c : Int) (j : Int) = blazonref02_More.l1 k x1 (bitsN d c : Nat) (wrap64 (i + 1)) := by
  induction d with
  | zero =>
    intro k c j hj hc
    simp only [blazonref02_More.l0, Nat.add_zero]
    rw [if_neg (by omega)]
    rfl
  | succ d ih =>
    intro k c j hj hc
    rw [show k + (d + 1) + 1 = (k + d + 1) + 1 by omega]
    rw [blazonref02_More.l0, if_pos (by omega)]
    have e1 : Int.tmod (c : Int) 2 = ((c % 2 : Nat) : Int) := by rw [Int.tmod_eq_emod_of_nonneg (by omega)]; omega
    have e2 : Int.tdiv (c : Int) 2 % 4294967296 = ((c / 2 : Nat) : Int) := by rw [Int.tdiv_eq_ediv_of_nonneg (by omega)]; omega
    have e3 : Go.bits .xor .u32 ((c / 2 : Nat) : Int) 3988292384 = ((c / 2 ^^^ 3988292384 : Nat) : Int) := u32_xor_nat _ _ (by omega) (by decide)
    rw [e1, e2, e3, wrap64_id (by omega) (by omega), show (j : Int) + 1 = ((j + 1 : Nat) : Int) by omega, ← bitsN_swap]
    unfold stepN
    by_cases h : c % 2 = 1
    · rw [if_pos (by omega), if_pos h, ih k _ (j + 1) (by omega) (Nat.xor_lt_two_pow (n := 32) (by omega) (by decide))]
    · rw [if_neg (by omega), if_neg h, ih k _ (j + 1) (by omega) (by omega)]
theorem ref_l0 (l : List Int) (hl : ∀ x ∈ l, 0 ≤ x ∧ x < 256) (hn : l.length ≤ 1000000) (d : Nat) : ∀ (k c i : Nat), i ≤ l.length → l.length - i = d → c < 4294967296 → 10 * d < k →
    blazonref02_More.l1 k l (c : Int) (i : Int) = some ((4294967295 - sumN c (l.drop i) : Nat) : Int) := by
  induction d with
  | zero =>
    intro k c i hi hd hc hk
    obtain ⟨k, rfl⟩ : ∃ n, k = n + 1 := ⟨k - 1, by omega⟩
    simp only [blazonref02_More.l1]
    rw [if_neg (by omega), List.drop_eq_nil_of_le (by omega)]
    show some _ = some ((4294967295 - c : Nat) : Int)
    congr 1
    omega
  | succ d ih =>
    intro k c i hi hd hc hk
    obtain ⟨k, rfl⟩ : ∃ n, k = n + 8 + 1 + 1 := ⟨k - 10, by omega⟩
    simp only [blazonref02_More.l1]
    rw [if_pos (by omega), if_pos (by omega)]
    have hx : rd l (i : Int) = l[i] := by simp [rd, List.getD_eq_getElem?_getD, show i < l.length by omega]
    have hv := hl l[i] (List.getElem_mem _)
    have e : Go.bits .xor .u32 (c : Int) (rd l (i : Int) % 4294967296) = ((c ^^^ l[i].toNat : Nat) : Int) := by
      rw [hx, show l[i] % 4294967296 = ((l[i].toNat : Nat) : Int) by omega]
      exact u32_xor_nat _ _ hc (by omega)
    have hlt : c ^^^ l[i].toNat < 4294967296 := Nat.xor_lt_two_pow (n := 32) hc (by omega)
    rw [e]
    have := ref_l1 l (i : Int) 8 k (c ^^^ l[i].toNat) 0 (by omega) hlt
    rw [show ((0 : Nat) : Int) = 0 from rfl] at this
    rw [this, wrap64_id (by omega) (by omega), show (i : Int) + 1 = ((i + 1 : Nat) : Int) by omega, ih k _ (i + 1) (by omega) (by omega) (bitsN_lt 8 hlt) (by omega)]
    rw [List.drop_eq_getElem_cons (show i < l.length by omega), sumN_cons, byteN_bits]
theorem refMore_tells (k : Nat) (a : Int) (l : List Int) (ha : 0 ≤ a ∧ a < 4294967296) (hl : ∀ x ∈ l, 0 ≤ x ∧ x < 256) (hn : l.length ≤ 1000000) (hk : 10 * l.length < k) :
    blazonref02_More.f k a l = some ((4294967295 - sumN (4294967295 - a.toNat) l : Nat) : Int) := by
  unfold blazonref02_More.f
  rw [show (4294967295 - a) % 4294967296 = ((4294967295 - a.toNat : Nat) : Int) by omega]
  have := ref_l0 l hl hn l.length k (4294967295 - a.toNat) 0 (by omega) (by omega) (by omega) hk
  simpa using this

def Bys (l : List Int) : Prop := ∀ x ∈ l, 0 ≤ x ∧ x < 256
theorem Bys.app {l m : List Int} (h : Bys l) (h2 : Bys m) : Bys (l ++ m) := fun x hx => by
  rcases List.mem_append.1 hx with h' | h'
  · exact h x h'
  · exact h2 x h'
theorem Bys.take {l : List Int} (h : Bys l) (n : Nat) : Bys (l.take n) := fun x hx => h x (List.mem_of_mem_take hx)
theorem Bys.drop {l : List Int} (h : Bys l) (n : Nat) : Bys (l.drop n) := fun x hx => h x (List.mem_of_mem_drop hx)
theorem Bys.four (x : Int) : Bys (four x) := fun y hy => by
  simp [Pure.four] at hy
  rcases hy with rfl | rfl | rfl | rfl <;> omega
theorem four_len (x : Int) : (four x).length = 4 := rfl
theorem put4_tells (b : List Int) (x : Int) (h0 : 0 ≤ x) (h1 : x < 4294967296) (hb : b.length ≤ 100000000) : num_Put4.f b x = some (b ++ four x) := by
  unfold num_Put4.f
  have e8 : shr .u32 x 8 = x / 256 := rfl
  have e16 : shr .u32 x 16 = x / 65536 := rfl
  have e24 : shr .u32 x 24 = x / 16777216 := rfl
  rw [Option.bind_some, e8, e16, e24, if_pos (by simp only [List.length_cons, List.length_nil]; omega)]
  rfl
/-- The sum of bytes. -/
def crcN (l : List Int) : Int := ((4294967295 - sumN 4294967295 l : Nat) : Int)
theorem crcN_in (l : List Int) : 0 ≤ crcN l ∧ crcN l < 4294967296 := by unfold crcN; omega
theorem sum_tells (s a : Int) (l : List Int) (hs : 0 ≤ s ∧ s ≤ 900000) (ha : 0 ≤ a ∧ a < 256) (hn : l.length ≤ 1000000) (hl : Bys l) :
    record_sum.f (some s) a l = some (crcN (a :: l), some (s + 2)) := by
  unfold record_sum.f
  have h1 : Bys [a] := fun x hx => by simp at hx; subst hx; exact ha
  have hlt := sumN_lt [a] 4294967295 (by decide) h1
  rw [Option.bind_some, of_tells s [a] (by omega) (by simp) h1, Option.bind_some]
  dsimp only
  rw [more_tells (s + 1) _ l (by omega) (by omega) hn hl, Option.bind_some]
  dsimp only
  congr 2
  · unfold crcN
    rw [Int.toNat_natCast, show 4294967295 - (4294967295 - sumN 4294967295 [a]) = sumN 4294967295 [a] by omega, ← sumN_append]
    rfl
  · congr 1; omega
/-- The form of a record. -/
def form (a : Int) (l : List Int) : List Int := four l.length ++ four (crcN (a :: l)) ++ a :: l
theorem form_len (a : Int) (l : List Int) : (form a l).length = 9 + l.length := by simp [form, four_len]; omega
theorem form_bys (a : Int) (l : List Int) (ha : 0 ≤ a ∧ a < 256) (hl : Bys l) : Bys (form a l) := by
  refine Bys.app (Bys.app (Bys.four _) (Bys.four _)) (fun x hx => ?_)
  rcases List.mem_cons.1 hx with rfl | h
  · exact ha
  · exact hl x h
theorem clone_tells (l : List Int) (h : l.length < 140737488355328) : slices_Clone_byte_byte.f l = some l := by
  unfold slices_Clone_byte_byte.f; rw [if_pos h]
theorem put_tells (s : Int) (b : List Int) (a : Int) (l : List Int) (hs : 0 ≤ s ∧ s ≤ 900000) (hb : b.length ≤ 10000000) (ha : 0 ≤ a ∧ a < 256) (hn : l.length ≤ 65536) (hl : Bys l) :
    record_Put.f (some s) b a l = some (b ++ form a l, 0, some (s + 2)) := by
  have hc := crcN_in (a :: l)
  unfold record_Put.f
  rw [if_neg (by omega)]
  unfold record_Put.j0
  rw [if_neg (by rw [decide_eq_true_iff]; omega), if_neg (by omega), clone_tells b (by omega), Option.bind_some, put4_tells _ _ (by omega) (by omega) (by omega), Option.bind_some,
    show a % 256 = a by omega, sum_tells s a l hs ha (by omega) hl, Option.bind_some]
  dsimp only
  rw [put4_tells _ _ hc.1 hc.2 (by simp [four_len]; omega), Option.bind_some, if_pos (by simp [four_len]; omega), Option.bind_some, if_pos (by simp [four_len]; omega), Option.bind_some]
  rw [show (l.length : Int) % 4294967296 = (l.length : Int) by omega]
  simp [form]
theorem put_arg (x : Option Int) (b : List Int) (a : Int) (l : List Int) (ha : a < 0 ∨ a > 255) : record_Put.f x b a l = some (b, 1, x) := by
  unfold record_Put.f
  by_cases h : a < 0
  · rw [if_pos h]; unfold record_Put.j0; rw [if_pos rfl]
  · rw [if_neg h]; unfold record_Put.j0; rw [if_pos (by rw [decide_eq_true_iff]; omega)]
theorem put_long (x : Option Int) (b : List Int) (a : Int) (l : List Int) (ha : 0 ≤ a ∧ a < 256) (hn : l.length > 65536) : record_Put.f x b a l = some (b, 3, x) := by
  unfold record_Put.f
  rw [if_neg (by omega)]; unfold record_Put.j0; rw [if_neg (by rw [decide_eq_true_iff]; omega), if_pos (by omega)]
theorem refForm_tells (k : Nat) (a : Int) (l : List Int) (hn : l.length ≤ 65536) (hl : Bys l) (hk : 1000000 ≤ k) : blazonref04_Form.f k a l = some (form (a % 256) l) := by
  unfold blazonref04_Form.f
  rw [Option.bind_some, if_pos (by simp; omega), Option.bind_some, four_tells k _ (by omega) (by omega) (by omega), Option.bind_some]
  have h2 : Bys ([a % 256] ++ l) := Bys.app (fun x hx => by simp at hx; subst hx; omega) hl
  have e : blazonref02_Of.f k ([a % 256] ++ l) = some (crcN (a % 256 :: l)) := by
    unfold blazonref02_Of.f
    rw [refMore_tells k 0 _ (by omega) h2 (by simp; omega) (by simp; omega)]
    rfl
  have hc := crcN_in (a % 256 :: l)
  rw [e, Option.bind_some, four_tells k _ hc.1 hc.2 (by omega), Option.bind_some, if_pos (by simp [four_len]), Option.bind_some, if_pos (by simp [four_len]; omega), Option.bind_some]
  rw [show (l.length : Int) % 4294967296 = (l.length : Int) by omega]
  simp [form]
theorem rd_nat (l : List Int) (i : Nat) (h : i < l.length) : rd l (i : Int) = l[i] := by simp [rd, List.getD_eq_getElem?_getD, h]
theorem numb_four (x : Int) (r : List Int) (h0 : 0 ≤ x) (h1 : x < 4294967296) : numb (four x ++ r) = x := by
  simp [numb, four, rd]
  omega
theorem four_numb (l : List Int) (hl : Bys l) (h : 4 ≤ l.length) : four (numb l) = l.take 4 := by
  match l, h with
  | a :: b :: c :: d :: r, _ =>
    have h1 := hl a (by simp)
    have h2 := hl b (by simp)
    have h3 := hl c (by simp)
    have h4 := hl d (by simp)
    simp [numb, four, rd]
    omega
theorem numb_in (l : List Int) (hl : Bys l) : 0 ≤ numb l ∧ numb l < 4294967296 := by
  have b0 := rd_byte l hl 0
  have b1 := rd_byte l hl 1
  have b2 := rd_byte l hl 2
  have b3 := rd_byte l hl 3
  unfold numb; omega
theorem numb_take (l : List Int) (h : 4 ≤ l.length) : numb (l.take 4) = numb l := by
  match l, h with
  | a :: b :: c :: d :: r, _ => simp [numb, rd]
/-- What is read of bytes. -/
def gets (b : List Int) : Int × List Int × Int × Int :=
  if b.length < 9 then (0, [], 0, 2) else
  if numb b > 65536 then (0, [], 0, 3) else
  if (b.length : Int) < 9 + numb b then (0, [], 0, 2) else
  if form (rd b 8) ((b.take (9 + numb b).toNat).drop 9) = b.take (9 + numb b).toNat then (rd b 8, (b.take (9 + numb b).toNat).drop 9, 9 + numb b, 0) else (0, [], 0, 5)
theorem form_same (b : List Int) (hb : Bys b) (h9 : 9 ≤ b.length) (hn : 9 + numb b ≤ b.length) :
    form (rd b 8) ((b.take (9 + numb b).toNat).drop 9) = b.take (9 + numb b).toNat ↔ crcN (rd b 8 :: (b.take (9 + numb b).toNat).drop 9) = numb (b.drop 4) := by
  have hN := numb_in b hb
  obtain ⟨n, hn'⟩ : ∃ n : Nat, numb b = n := ⟨(numb b).toNat, by omega⟩
  have hlen : ((b.take (9 + numb b).toNat).drop 9).length = n := by simp; omega
  have hsplit : b.take (9 + numb b).toNat = b.take 4 ++ (b.drop 4).take 4 ++ rd b 8 :: (b.take (9 + numb b).toNat).drop 9 := by
    have e1 : b.take (9 + numb b).toNat = (b.take (9 + numb b).toNat).take 8 ++ (b.take (9 + numb b).toNat).drop 8 := (List.take_append_drop 8 _).symm
    have e2 : (b.take (9 + numb b).toNat).take 8 = b.take 4 ++ (b.drop 4).take 4 := by
      rw [List.take_take, show min 8 (9 + numb b).toNat = 4 + 4 by omega, List.take_add]
    have e3 : (b.take (9 + numb b).toNat).drop 8 = rd b 8 :: (b.take (9 + numb b).toNat).drop 9 := by
      rw [List.drop_eq_getElem_cons (by simp; omega), List.getElem_take, ← rd_nat b 8 (by omega)]
      rfl
    rw [e2, e3] at e1
    exact e1
  have hc := crcN_in (rd b 8 :: (b.take (9 + numb b).toNat).drop 9)
  have h4 : four (numb b) = b.take 4 := four_numb b hb (by omega)
  have h5 : four (numb (b.drop 4)) = (b.drop 4).take 4 := four_numb _ (hb.drop 4) (by simp; omega)
  unfold form
  rw [hlen, ← hn', h4]
  conv => lhs; rhs; rw [hsplit]
  rw [List.append_left_inj, List.append_right_inj, ← h5]
  constructor
  · intro h
    have : numb (four (crcN (rd b 8 :: (b.take (9 + numb b).toNat).drop 9)) ++ []) = numb (four (numb (b.drop 4)) ++ []) := by rw [h]
    rw [numb_four _ _ hc.1 hc.2, numb_four _ _ (numb_in _ (hb.drop 4)).1 (numb_in _ (hb.drop 4)).2] at this
    exact this
  · intro h; rw [h]
theorem get_tells (s : Int) (b : List Int) (hs : 0 ≤ s ∧ s ≤ 900000) (hb : Bys b) (hn : b.length ≤ 1000000) : ∃ t, s ≤ t ∧ t ≤ s + 2 ∧ record_Get.f (some s) b = some ((gets b).1, (gets b).2.1, (gets b).2.2.1, (gets b).2.2.2, some t) := by
  unfold record_Get.f gets
  by_cases h9 : b.length < 9
  · exact ⟨s, by omega, by omega, by rw [if_pos (by omega), if_pos h9]⟩
  rw [if_neg (by omega), if_neg h9, get4_tells b hb, if_neg (by omega), Option.bind_some, if_pos (by omega), Option.bind_some, get4_tells _ (hb.drop _), if_neg (by simp; omega), Option.bind_some]
  have hN := numb_in b hb
  dsimp only
  by_cases h3 : numb b > 65536
  · exact ⟨s, by omega, by omega, by rw [if_pos h3, if_pos h3]⟩
  rw [if_neg h3, if_neg h3, wrap64_id (x := numb b) (by omega) (by omega), wrap64_id (x := (b.length : Int) - 9) (by omega) (by omega), wrap64_id (x := 9 + numb b) (by omega) (by omega)]
  by_cases h2 : (b.length : Int) < 9 + numb b
  · exact ⟨s, by omega, by omega, by rw [if_pos (by omega), if_pos h2]⟩
  have hk := rd_byte b hb 8
  have hlen : ((b.take (9 + numb b).toNat).drop 9).length ≤ 65536 := by simp; omega
  rw [if_neg (by omega), if_neg h2, if_pos (by omega), if_pos (by omega), Option.bind_some, if_pos (by omega)]
  rw [show (9 : Int).toNat = 9 from rfl, show (4 : Int).toNat = 4 from rfl, sum_tells s (rd b 8) _ hs hk (by omega) ((hb.take _).drop _), Option.bind_some]
  dsimp only
  have key := form_same b hb (by omega) (by omega)
  refine ⟨s + 2, by omega, by omega, ?_⟩
  by_cases hc : crcN (rd b 8 :: (b.take (9 + numb b).toNat).drop 9) = numb (b.drop 4)
  · rw [if_pos hc, if_pos (key.2 hc), clone_tells _ (by omega), Option.bind_some, wrap64_id (x := rd b 8) (by omega) (by omega)]
  · rw [if_neg hc, if_neg (fun h => hc (key.1 h))]
theorem refGet_tells (k : Nat) (b : List Int) (hb : Bys b) (hn : b.length ≤ 1000000) (hk : 1000000 < k) : blazonref04_Get.f k b = some (gets b) := by
  unfold blazonref04_Get.f gets
  by_cases h9 : b.length < 9
  · rw [if_pos (by omega), if_pos h9]
  rw [if_neg (by omega), if_neg h9, if_pos (by omega), Option.bind_some, number_tells k _ (hb.take _) (by simp; omega) (by omega), Option.bind_some, show (4 : Int).toNat = 4 from rfl, numb_take b (by omega)]
  have hN := numb_in b hb
  by_cases h3 : numb b > 65536
  · rw [wrap64_id (x := numb b) (by omega) (by omega), if_pos h3, if_pos h3]
  have hk8 := rd_byte b hb 8
  rw [wrap64_id (x := numb b) (by omega) (by omega), if_neg h3, if_neg h3, wrap64_id (x := 9 + numb b) (by omega) (by omega)]
  by_cases h2 : (b.length : Int) < 9 + numb b
  · rw [if_pos h2, if_pos h2]
  rw [if_neg h2, if_neg h2, if_pos (by omega), if_pos (by omega), if_pos (by omega), Option.bind_some, if_pos (by omega), Option.bind_some, wrap64_id (x := rd b 8) (by omega) (by omega), show (9 : Int).toNat = 9 from rfl]
  have hlen : ((b.take (9 + numb b).toNat).drop 9).length ≤ 65536 := by simp; omega
  rw [refForm_tells k _ _ hlen ((hb.take _).drop _) (by omega), Option.bind_some, show rd b 8 % 256 = rd b 8 by omega, same_tells k _ _ (by rw [form_len]; omega) (by rw [form_len]; omega), Option.bind_some]
  by_cases hf : form (rd b 8) ((b.take (9 + numb b).toNat).drop 9) = b.take (9 + numb b).toNat
  · rw [if_pos (by simp [hf]), if_pos hf, Option.bind_some]
  · rw [if_neg (by simp [hf]), if_neg hf]
theorem gets_short (b : List Int) (h : b.length < 9) : gets b = (0, [], 0, 2) := by unfold gets; rw [if_pos h]
theorem all_none (k : Nat) (s : Int) (b : List Int) (hs : 0 ≤ s ∧ s ≤ 900000) (hb : Bys b) (h : b.length < 9) (hk : 0 < k) : ∃ t, record_All.f k (some s) b = some ([], 0, some t) := by
  obtain ⟨k, rfl⟩ : ∃ n, k = n + 1 := ⟨k - 1, by omega⟩
  obtain ⟨t, _, _, e⟩ := get_tells s b hs hb (by omega)
  refine ⟨t, ?_⟩
  unfold record_All.f
  rw [record_All.l0, if_pos (by omega), if_pos (by omega), Option.bind_some, show (0 : Int).toNat = 0 from rfl, List.drop_zero, e, Option.bind_some, gets_short b h]
  rfl
theorem awake_tells (k : Nat) (hk : 5 ≤ k) : blazonlaw04_awake.f k = some true := by
  obtain ⟨k, rfl⟩ : ∃ n, k = n + 5 := ⟨k - 5, by omega⟩
  unfold blazonlaw04_awake.f
  have hf : (form 7 []).length = 9 := form_len 7 []
  obtain ⟨t, e⟩ := all_none (k + 4) 0 ((form 7 []).take 8) (by omega) ((form_bys 7 [] (by omega) (fun _ h => by simp at h)).take 8) (by simp [hf]) (by omega)
  rw [new_tells, Option.bind_some, put_tells 0 [] 7 [] (by omega) (by simp) (by omega) (by simp) (fun _ h => by simp at h), Option.bind_some]
  dsimp only
  rw [List.nil_append, if_pos (by rw [hf]; rfl)]
  rw [blazonlaw04_awake.j0, if_neg (by simp), if_pos (by rw [hf]; decide), Option.bind_some, new_tells, Option.bind_some, show (8 : Int).toNat = 8 from rfl, e]
  rfl
theorem bys_of {l : List Int} (h : ∀ x ∈ l, (Lit.int .u8 x).wf = true) : Bys l := fun x hx => u8_in (h x hx)
theorem gets_form (a : Int) (l r : List Int) (ha : 0 ≤ a ∧ a < 256) (hl : Bys l) (hn : l.length ≤ 65536) (hr : Bys r) : gets (form a l ++ r) = (a, l, ((form a l).length : Int), 0) := by
  have hf := form_len a l
  have hN : numb (form a l ++ r) = l.length := by
    unfold form
    rw [List.append_assoc, List.append_assoc, numb_four _ _ (by omega) (by omega)]
  have h8 : rd (form a l ++ r) 8 = a := by
    have := rd_nat (form a l ++ r) 8 (by simp; omega)
    rw [show ((8 : Nat) : Int) = 8 from rfl] at this
    rw [this]
    rfl
  have ht : (form a l ++ r).take (9 + (l.length : Int)).toNat = form a l := by
    rw [show (9 + (l.length : Int)).toNat = (form a l).length by omega, List.take_left']
    rfl
  have hd : (form a l).drop 9 = l := by
    have : form a l = (four l.length ++ four (crcN (a :: l)) ++ [a]) ++ l := by simp [form]
    rw [this, List.drop_left']
    rfl
  unfold gets
  rw [hN, h8, ht, hd, if_neg (by simp; omega), if_neg (by omega), if_neg (by simp; omega), if_pos rfl, hf]
  simp

def conv (x : S74) : S63 := ⟨x.f0, x.f1⟩
/-- Records in a row. -/
def bt (L : List S74) : List Int := L.flatMap fun x => form x.f0 x.f1
def Good (L : List S74) : Prop := ∀ x ∈ L, (0 ≤ x.f0 ∧ x.f0 < 256) ∧ Bys x.f1 ∧ x.f1.length ≤ 200
theorem bt_cons (x : S74) (L : List S74) : bt (x :: L) = form x.f0 x.f1 ++ bt L := rfl
theorem bt_snoc (L : List S74) (x : S74) : bt (L ++ [x]) = bt L ++ form x.f0 x.f1 := by simp [bt]
theorem bt_len (L : List S74) (h : Good L) : (bt L).length ≤ 209 * L.length := by
  induction L with
  | nil => simp [bt]
  | cons x L ih =>
    have h1 := (h x (by simp)).2.2
    have h2 := ih (fun y hy => h y (by simp [hy]))
    rw [bt_cons, List.length_append, form_len, List.length_cons]
    omega
theorem bt_bys (L : List S74) (h : Good L) : Bys (bt L) := by
  induction L with
  | nil => exact fun x hx => by simp [bt] at hx
  | cons x L ih =>
    have h1 := h x (by simp)
    rw [bt_cons]
    exact (form_bys _ _ h1.1 h1.2.1).app (ih (fun y hy => h y (by simp [hy])))
/-- How many are whole in so many bytes. -/
def cnt : Nat → List S74 → Nat
  | _, [] => 0
  | c, x :: L => if (form x.f0 x.f1).length ≤ c then cnt (c - (form x.f0 x.f1).length) L + 1 else 0
theorem cnt_le (L : List S74) : ∀ c, cnt c L ≤ L.length := by
  induction L with
  | nil => intro c; simp [cnt]
  | cons x L ih =>
    intro c
    rw [cnt]
    split
    · have := ih (c - (form x.f0 x.f1).length); simp; omega
    · simp
theorem cnt_in (L : List S74) : ∀ c n, n < cnt c L → (bt (L.take (n + 1))).length ≤ c := by
  induction L with
  | nil => intro c n h; simp [cnt] at h
  | cons x L ih =>
    intro c n h
    rw [cnt] at h
    split at h
    · cases n with
      | zero => simp [bt]; assumption
      | succ n =>
        have := ih (c - (form x.f0 x.f1).length) n (by omega)
        rw [List.take_succ_cons, bt_cons, List.length_append]
        omega
    · omega
theorem cnt_out (L : List S74) : ∀ c, cnt c L < L.length → c < (bt (L.take (cnt c L + 1))).length := by
  induction L with
  | nil => intro c h; simp [cnt] at h
  | cons x L ih =>
    intro c h
    rw [cnt] at h ⊢
    split
    · rename_i hc
      rw [if_pos hc] at h
      have := ih (c - (form x.f0 x.f1).length) (by simp at h; omega)
      rw [List.take_succ_cons, bt_cons, List.length_append]
      omega
    · simp [bt]; omega
theorem gets_cut (a : Int) (l r : List Int) (m : Nat) (hn : l.length ≤ 65536) (hm : m < (form a l).length) : gets ((form a l ++ r).take m) = (0, [], 0, 2) := by
  have hf := form_len a l
  by_cases h9 : m < 9
  · exact gets_short _ (by simp; omega)
  have hN : numb ((form a l ++ r).take m) = l.length := by
    rw [← numb_take _ (by simp; omega), List.take_take, show min 4 m = 4 by omega, numb_take _ (by simp; omega)]
    unfold form
    rw [List.append_assoc, List.append_assoc, numb_four _ _ (by omega) (by omega)]
  unfold gets
  rw [hN, if_neg (by simp; omega), if_neg (by omega), if_pos (by simp; omega)]
theorem all_rows (L : List S74) (hg : Good L) : ∀ (k : Nat) (s : Int) (acc : List S63) (used : Nat) (b : List Int) (m : Nat), 0 ≤ s → s + 2 * L.length + 2 ≤ 900000 → L.length < k → Bys b → b.length ≤ 100000 → used ≤ b.length → acc.length + L.length ≤ 1000 → b.drop used = (bt L).take m →
    ∃ t, record_All.l0 k b (some s) acc (used : Int) = some (acc ++ (L.take (cnt m L)).map conv, ((used + (bt (L.take (cnt m L))).length : Nat) : Int), some t) := by
  induction L with
  | nil =>
    intro k s acc used b m hs0 hs hk hb hbl hu hal hd
    obtain ⟨k, rfl⟩ : ∃ n, k = n + 1 := ⟨k - 1, by omega⟩
    simp only [bt, List.flatMap_nil, List.take_nil] at hd
    obtain ⟨t, _, _, e⟩ := get_tells s (b.drop used) (by simp at hs; omega) (hb.drop _) (by simp; omega)
    refine ⟨t, ?_⟩
    rw [record_All.l0, if_pos (by omega), if_pos (by omega), Option.bind_some, Int.toNat_natCast, e, Option.bind_some, hd, gets_short [] (by simp)]
    simp [cnt, bt]
  | cons x L ih =>
    intro k s acc used b m hs0 hs hk hb hbl hu hal hd
    obtain ⟨k, rfl⟩ : ∃ n, k = n + 1 := ⟨k - 1, by omega⟩
    simp only [List.length_cons] at hs hal hk
    have hx := hg x (by simp)
    have hf := form_len x.f0 x.f1
    obtain ⟨t, ht0, ht1, e⟩ := get_tells s (b.drop used) (by omega) (hb.drop _) (by simp; omega)
    rw [record_All.l0, if_pos (by omega), if_pos (by omega), Option.bind_some, Int.toNat_natCast, e, Option.bind_some, hd, bt_cons]
    by_cases hc : (form x.f0 x.f1).length ≤ m
    · have ht : (form x.f0 x.f1 ++ bt L).take m = form x.f0 x.f1 ++ (bt L).take (m - (form x.f0 x.f1).length) := by
        rw [List.take_append, List.take_of_length_le hc]
      have hd2 : b.drop (used + (form x.f0 x.f1).length) = (bt L).take (m - (form x.f0 x.f1).length) := by
        rw [← List.drop_drop, hd, bt_cons, ht, List.drop_left']
        rfl
      have hlen : used + (form x.f0 x.f1).length ≤ b.length := by
        have := congrArg List.length hd
        rw [bt_cons, ht] at this
        simp at this
        omega
      rw [ht, gets_form x.f0 x.f1 _ hx.1 hx.2.1 (by omega) ((bt_bys L (fun y hy => hg y (by simp [hy]))).take _)]
      dsimp only
      rw [if_pos rfl, if_pos (by omega), Option.bind_some, wrap64_id (by omega) (by omega)]
      obtain ⟨t2, e2⟩ := ih (fun y hy => hg y (by simp [hy])) k t (acc ++ [conv x]) (used + (form x.f0 x.f1).length) b (m - (form x.f0 x.f1).length) (by omega) (by omega) (by omega) hb hbl hlen (by simp; omega) hd2
      refine ⟨t2, ?_⟩
      have e3 : (acc ++ [({ f0 := x.f0, f1 := x.f1 } : S63)]) = acc ++ [conv x] := rfl
      rw [e3, show (used : Int) + ((form x.f0 x.f1).length : Int) = ((used + (form x.f0 x.f1).length : Nat) : Int) by omega, e2, cnt, if_pos hc]
      simp [bt_cons, Nat.add_assoc]
    · refine ⟨t, ?_⟩
      rw [gets_cut _ _ _ _ (by omega) (by omega)]
      simp [cnt, hc, bt]
theorem pick_in (a n : Int) (hn : 1 ≤ n) (hn2 : n ≤ 100000) : ∃ c : Nat, blazonref01_Pick.f a n = some (c : Int) ∧ (c : Int) < n := by
  unfold blazonref01_Pick.f
  have h1 := Int.tmod_lt_of_pos a (show 0 < n by omega)
  have h2 : -n < Int.tmod a n := by
    have := Int.lt_tmod_of_pos a (show 0 < n by omega)
    omega
  rw [if_neg (by omega), if_neg (by omega)]
  by_cases h : Int.tmod a n < 0
  · rw [if_pos h, wrap64_id (by omega) (by omega)]
    exact ⟨(Int.tmod a n + n).toNat, by congr 1; omega, by omega⟩
  · rw [if_neg h]
    exact ⟨(Int.tmod a n).toNat, by congr 1; omega, by omega⟩
def ends (L : List S74) (i : Nat) : List Int := (List.range i).map fun j => ((bt (L.take (j + 1))).length : Int)
theorem ends_at (L : List S74) (i j : Nat) (h : j < i) : rd (ends L i) (j : Int) = ((bt (L.take (j + 1))).length : Int) := by
  unfold ends
  rw [rd_nat _ _ (by simpa using h)]
  simp
theorem rd74 (L : List S74) (i : Nat) (h : i < L.length) : rd_T74 L (i : Int) = L[i] := by simp [rd_T74, List.getD_eq_getElem?_getD, h]
theorem rd63 (L : List S63) (i : Nat) (h : i < L.length) : rd_T63 L (i : Int) = L[i] := by simp [rd_T63, List.getD_eq_getElem?_getD, h]
/-- The last look: kinds and payloads. -/
theorem look_last (L : List S74) (hg : Good L) (N : Nat) (hN : N ≤ L.length) (hL : L.length ≤ 10) (d : Nat) : ∀ (k i : Nat), i ≤ N → N - i = d → 1000 + 1000 * d < k → blazonlaw04_RecordRows.l0 k L ((L.take N).map conv) (N : Int) (i : Int) = some true := by
  induction d with
  | zero =>
    intro k i hi hd hk
    obtain ⟨k, rfl⟩ : ∃ n, k = n + 1 := ⟨k - 1, by omega⟩
    rw [blazonlaw04_RecordRows.l0, if_neg (by omega), awake_tells k (by omega)]
    rfl
  | succ d ih =>
    intro k i hi hd hk
    obtain ⟨k, rfl⟩ : ∃ n, k = n + 2 := ⟨k - 2, by omega⟩
    have hx := hg L[i] (List.getElem_mem _)
    rw [blazonlaw04_RecordRows.l0, if_pos (by omega), if_pos (by omega), if_pos (by simp; omega), if_pos (by omega), rd74 L i (by omega), rd63 _ i (by simp; omega)]
    have e : ((L.take N).map conv)[i]'(by simp; omega) = conv L[i] := by simp
    rw [e, wrap64_id (by omega) (by omega)]
    simp only [conv, if_true]
    rw [same_tells _ _ _ (by omega) (by omega), Option.bind_some, blazonlaw04_RecordRows.j0, if_neg (by simp), wrap64_id (by omega) (by omega)]
    have := ih k (i + 1) (by omega) (by omega) (by omega)
    rw [show (i : Int) + 1 = ((i + 1 : Nat) : Int) by omega]
    exact this
theorem look_count (L : List S74) (hg : Good L) (hL : L.length ≤ 10) (c : Nat) (d : Nat) : ∀ (k n : Nat), n ≤ cnt c L → cnt c L - n = d → 50000 + 10 * d < k →
    blazonlaw04_RecordRows.l1 k L (c : Int) ((L.take (cnt c L)).map conv) (((bt (L.take (cnt c L))).length : Nat) : Int) (ends L L.length) (n : Int) = some true := by
  have hle := cnt_le L c
  induction d with
  | zero =>
    intro k n hn hd hk
    obtain rfl : n = cnt c L := by omega
    obtain ⟨k, rfl⟩ : ∃ n, k = n + 3 := ⟨k - 3, by omega⟩
    have hlen : (ends L L.length).length = L.length := by simp [ends]
    have key : blazonlaw04_RecordRows.j2 (k + 2) L (c : Int) ((L.take (cnt c L)).map conv) (((bt (L.take (cnt c L))).length : Nat) : Int) (ends L L.length) ((cnt c L : Nat) : Int) false = some true := by
      rw [blazonlaw04_RecordRows.j2, if_neg (by decide), if_pos (by simp; omega)]
      have fin : blazonlaw04_RecordRows.j1 (k + 1) L ((L.take (cnt c L)).map conv) ((cnt c L : Nat) : Int) false = some true := by
        rw [blazonlaw04_RecordRows.j1, if_neg (by decide)]
        exact look_last L hg (cnt c L) hle hL _ k 0 (by omega) rfl (by omega)
      by_cases h0 : cnt c L = 0
      · rw [if_neg (by omega), if_pos (by omega)]
        have : ((bt (L.take (cnt c L))).length : Int) = 0 := by rw [h0]; simp [bt]
        rw [this]
        exact fin
      · have hw : wrap64 (((cnt c L : Nat) : Int) - 1) = ((cnt c L - 1 : Nat) : Int) := by rw [wrap64_id (by omega) (by omega)]; omega
        rw [if_pos (by omega), hw, if_pos (by omega), if_pos (by rw [hlen]; omega), ends_at _ _ _ (by omega), show cnt c L - 1 + 1 = cnt c L by omega, if_pos rfl, if_neg (by omega)]
        exact fin
    rw [blazonlaw04_RecordRows.l1]
    by_cases h : cnt c L < L.length
    · rw [if_pos (by rw [hlen]; omega), if_pos (by omega), ends_at _ _ _ h]
      have := cnt_out L c h
      rw [show decide (((bt (L.take (cnt c L + 1))).length : Int) ≤ (c : Int)) = false from decide_eq_false (by omega)]
      exact key
    · rw [if_neg (by rw [hlen]; omega)]
      exact key
  | succ d ih =>
    intro k n hn hd hk
    obtain ⟨k, rfl⟩ : ∃ n, k = n + 2 := ⟨k - 2, by omega⟩
    have hlen : (ends L L.length).length = L.length := by simp [ends]
    have h := cnt_in L c n (by omega)
    rw [blazonlaw04_RecordRows.l1, if_pos (by rw [hlen]; omega), if_pos (by omega), ends_at _ _ _ (by omega), show decide (((bt (L.take (n + 1))).length : Int) ≤ (c : Int)) = true from decide_eq_true (by omega)]
    rw [blazonlaw04_RecordRows.j2, if_pos rfl, wrap64_id (by omega) (by omega)]
    have := ih k (n + 1) (by omega) (by omega) (by omega)
    rw [show (n : Int) + 1 = ((n + 1 : Nat) : Int) by omega]
    exact this
theorem lay_rows (L : List S74) (a1 : Int) (hg : ∀ x ∈ L, (0 ≤ x.f0 ∧ x.f0 < 256) ∧ Bys x.f1) (hL : L.length ≤ 10) (d : Nat) : ∀ (k i : Nat) (s : Int), i ≤ L.length → L.length - i = d → Good (L.take i) → 0 ≤ s → s ≤ 2 * i → 100000 + d < k →
    blazonlaw04_RecordRows.l2 k a1 L (some s) (bt (L.take i)) (ends L i) (i : Int) = some true := by
  induction d with
  | zero =>
    intro k i s hi hd hG hs0 hs hk
    obtain rfl : i = L.length := by omega
    rw [List.take_length] at hG ⊢
    obtain ⟨k, rfl⟩ : ∃ n, k = n + 1 := ⟨k - 1, by omega⟩
    have hb := bt_len L hG
    obtain ⟨c, e1, e2⟩ := pick_in a1 ((bt L).length + 1) (by omega) (by omega)
    rw [blazonlaw04_RecordRows.l2, if_neg (by omega), wrap64_id (by omega) (by omega), e1, Option.bind_some, if_pos (by omega), if_pos (by omega), Option.bind_some, Int.toNat_natCast]
    obtain ⟨t, e⟩ := all_rows L hG k s [] 0 ((bt L).take c) c hs0 (by omega) (by omega) ((bt_bys L hG).take _) (by simp; omega) (by omega) (by simp; omega) rfl
    unfold record_All.f
    rw [show ((0 : Nat) : Int) = 0 from rfl] at e
    rw [e, Option.bind_some]
    simp only [List.nil_append, Nat.zero_add]
    exact look_count L hG hL c (cnt c L) k 0 (by omega) (by omega) (by have := cnt_le L c; omega)
  | succ d ih =>
    intro k i s hi hd hG hs0 hs hk
    obtain ⟨k, rfl⟩ : ∃ n, k = n + 1 := ⟨k - 1, by omega⟩
    have hx := hg L[i] (List.getElem_mem _)
    have hb := bt_len _ hG
    have hti : (L.take i).length = i := by simp; omega
    rw [blazonlaw04_RecordRows.l2, if_pos (by omega), if_pos (by omega), rd74 L i (by omega)]
    by_cases h2 : (L[i].f1.length : Int) > 200
    · rw [if_pos h2, awake_tells k (by omega)]; rfl
    rw [if_neg h2, wrap64_id (by omega) (by omega), put_tells s _ _ _ (by omega) (by omega) hx.1 (by omega) hx.2, Option.bind_some]
    dsimp only
    rw [if_pos rfl, if_pos (by simp [ends]; omega), Option.bind_some, wrap64_id (by omega) (by omega)]
    have ht : L.take (i + 1) = L.take i ++ [L[i]] := by rw [List.take_succ_eq_append_getElem (by omega)]
    have h1 : bt (L.take i) ++ form L[i].f0 L[i].f1 = bt (L.take (i + 1)) := by rw [ht, bt_snoc]
    have h3 : ends L i ++ [((bt (L.take (i + 1))).length : Int)] = ends L (i + 1) := by simp [ends, List.range_succ]
    rw [h1, h3, show (i : Int) + 1 = ((i + 1 : Nat) : Int) by omega]
    refine ih k (i + 1) (s + 2) (by omega) (by omega) ?_ (by omega) (by omega) (by omega)
    rw [ht]
    intro y hy
    rcases List.mem_append.1 hy with hy | hy
    · exact hG y hy
    · simp at hy
      subst hy
      exact ⟨hx.1, hx.2, by omega⟩
theorem RecordRows : blazonlaw04_RecordRows.Pure := by
  intro L a1 hm hc hL hwa
  refine ⟨200000, ?_⟩
  unfold blazonlaw04_RecordRows.f
  by_cases h : (L.length : Int) > 10
  · rw [if_pos h, awake_tells _ (by omega)]; rfl
  rw [if_neg h, new_tells, Option.bind_some]
  exact lay_rows L a1 (fun x hx => ⟨u8_in (hL x hx).1, bys_of (hL x hx).2.2.2⟩) (by omega) L.length _ 0 0 (by omega) (by omega) (fun y hy => by simp at hy) (by omega) (by omega) (by omega)

end Go.Proofs.Ytbpagdgbehefkaa.Pure
