/- However bytes are cut, the sum of all goes on from that of the first ones. -/
import Derived.Test.YtbpagdgbehefkaaPCrpx1
import Derived.OpenShut
import Derived.Laws.BitsLemmas
import Derived.Laws.BitsAllLaws
import Derived.Lib.Bytes
import Derived.Test.YtbpagdgbehefkaaWSized
set_option linter.unusedVariables false
set_option linter.unusedSimpArgs false
namespace Go.Proofs.Ytbpagdgbehefkaa.Pure
open Go.RowKit Go.Proofs.Ytbpagdgbehefkaa.PCrp Go.Proofs.YtbpagdgbehefkaaW.PrintWords Go.Proofs.YtbpagdgbehefkaaW.PrintLast

def stepN (c : Nat) : Nat := if c % 2 = 1 then (c / 2) ^^^ 3988292384 else c / 2
/-- So many bits' steps. -/
def bitsN : Nat → Nat → Nat
  | 0, c => c
  | n + 1, c => stepN (bitsN n c)
theorem xor_half (a b : Nat) : (a ^^^ b) / 2 = (a / 2) ^^^ (b / 2) := by
  have := Nat.shiftRight_xor_distrib (a := a) (b := b) (i := 1)
  simpa [Nat.shiftRight_eq_div_pow] using this
theorem xor_odd (a b : Nat) : (a ^^^ b) % 2 = (a + b) % 2 := by
  have := Nat.xor_mod_two_pow (a := a) (b := b) (n := 1)
  rw [Nat.pow_one] at this
  rw [this]
  rcases Nat.mod_two_eq_zero_or_one a with ha | ha <;> rcases Nat.mod_two_eq_zero_or_one b with hb | hb <;> rw [ha, hb] <;> simp <;> omega
theorem stepN_xor (a b : Nat) : stepN (a ^^^ b) = stepN a ^^^ stepN b := by
  have h := xor_odd a b
  unfold stepN
  rw [xor_half, h]
  rcases Nat.mod_two_eq_zero_or_one a with ha | ha <;> rcases Nat.mod_two_eq_zero_or_one b with hb | hb
  · rw [if_neg (by omega), if_neg (by omega), if_neg (by omega)]
  · rw [if_pos (by omega), if_neg (by omega), if_pos (by omega), Nat.xor_assoc]
  · rw [if_pos (by omega), if_pos (by omega), if_neg (by omega), Nat.xor_assoc, Nat.xor_assoc, Nat.xor_comm (b / 2)]
  · rw [if_neg (by omega), if_pos (by omega), if_pos (by omega)]
    rw [Nat.xor_assoc, Nat.xor_comm 3988292384, Nat.xor_assoc, Nat.xor_self, Nat.xor_zero]
theorem bitsN_xor (n a b : Nat) : bitsN n (a ^^^ b) = bitsN n a ^^^ bitsN n b := by
  induction n with
  | zero => rfl
  | succ n ih => simp only [bitsN, ih, stepN_xor]
theorem stepN_even (m : Nat) : stepN (2 * m) = m := by
  unfold stepN
  rw [if_neg (by omega)]
  omega
theorem bitsN_high (h : Nat) : bitsN 8 (256 * h) = h := by
  have e : bitsN 8 (256 * h) = stepN (stepN (stepN (stepN (stepN (stepN (stepN (stepN (2 * (2 * (2 * (2 * (2 * (2 * (2 * (2 * h)))))))))))))))  := by
    simp only [bitsN]
    congr 8
    omega
  rw [e]
  simp only [stepN_even]
theorem split8 (c : Nat) : c = (c % 256) ^^^ (256 * (c / 256)) := by
  apply Nat.eq_of_testBit_eq
  intro i
  rw [Nat.testBit_xor, show (256 : Nat) = 2 ^ 8 from rfl, Nat.testBit_mod_two_pow, Nat.testBit_two_pow_mul, Nat.testBit_div_two_pow]
  by_cases h : i < 8
  · simp [h, Nat.not_le.2 h]
  · simp [h, Nat.le_of_not_lt h]
/-- A byte at a time, by the table; by bits. -/
def byteN (c x : Nat) : Nat := bitsN 8 ((c % 256) ^^^ x) ^^^ (c / 256)
theorem byteN_bits (c x : Nat) : byteN c x = bitsN 8 (c ^^^ x) := by
  have e : c ^^^ x = ((c % 256) ^^^ x) ^^^ (256 * (c / 256)) := by
    conv => lhs; rw [split8 c]
    rw [Nat.xor_assoc, Nat.xor_comm (256 * (c / 256)), ← Nat.xor_assoc]
  rw [e, bitsN_xor, bitsN_high]
  rfl
theorem stepN_lt {a : Nat} (h : a < 4294967296) : stepN a < 4294967296 := by
  unfold stepN
  split
  · exact Nat.xor_lt_two_pow (n := 32) (by omega) (by decide)
  · omega
theorem bitsN_lt (n : Nat) {a : Nat} (h : a < 4294967296) : bitsN n a < 4294967296 := by
  induction n with
  | zero => exact h
  | succ n ih => exact stepN_lt ih
theorem byteN_lt {c x : Nat} (h : c < 4294967296) (hx : x < 256) : byteN c x < 4294967296 := by
  rw [byteN_bits]
  exact bitsN_lt 8 (Nat.xor_lt_two_pow (n := 32) h (by omega))
theorem stepN_inj {a b : Nat} (ha : a < 4294967296) (hb : b < 4294967296) (h : stepN a = stepN b) : a = b := by
  have key : ∀ c, c < 4294967296 → (stepN c).testBit 31 = decide (c % 2 = 1) := by
    intro c hc
    unfold stepN
    have h31 : (c / 2).testBit 31 = false := Nat.testBit_lt_two_pow (by omega)
    by_cases ho : c % 2 = 1
    · rw [if_pos ho, Nat.testBit_xor, h31]
      simp [ho]
      decide
    · rw [if_neg ho, h31]
      simp [ho]
  have hk := (key a ha).symm.trans ((congrArg (·.testBit 31) h).trans (key b hb))
  simp only [decide_eq_decide] at hk
  unfold stepN at h
  by_cases ho : a % 2 = 1
  · rw [if_pos ho, if_pos (hk.1 ho)] at h
    have h2 : a / 2 = b / 2 := by
      have h3 := congrArg (· ^^^ 3988292384) h
      simpa [Nat.xor_assoc] using h3
    have := hk.1 ho
    omega
  · rw [if_neg ho, if_neg (fun e => ho (hk.2 e))] at h
    have : ¬ b % 2 = 1 := fun e => ho (hk.2 e)
    omega
theorem bitsN_inj (n : Nat) {a b : Nat} (ha : a < 4294967296) (hb : b < 4294967296) (h : bitsN n a = bitsN n b) : a = b := by
  induction n with
  | zero => exact h
  | succ n ih => exact ih (stepN_inj (bitsN_lt n ha) (bitsN_lt n hb) h)
theorem bitsN_swap (n c : Nat) : bitsN n (stepN c) = bitsN (n + 1) c := by
  induction n with
  | zero => rfl
  | succ n ih => simp only [bitsN] at ih ⊢; rw [ih]
theorem bit1_nat (n : Nat) (h : n < 4294967296) : Crc.bit1 (n : Int) = (stepN n : Nat) := by
  have e1 : Go.bits .and .u32 (n : Int) 1 = ((n % 2 : Nat) : Int) := by
    have := u32_and_nat n 1 h (by decide)
    rw [nat_mask1] at this
    exact this
  have e2 : (n : Int) / 2 = ((n / 2 : Nat) : Int) := by omega
  have e3 : Go.bits .xor .u32 ((n / 2 : Nat) : Int) 3988292384 = ((n / 2 ^^^ 3988292384 : Nat) : Int) := u32_xor_nat _ _ (by omega) (by decide)
  unfold Crc.bit1 stepN
  rw [e1, e2, e3]
  by_cases e : n % 2 = 1
  · rw [if_pos (by omega), if_pos e]
  · rw [if_neg (by omega), if_neg e]
theorem bits_nat (k n : Nat) (h : n < 4294967296) : Crc.bits k (n : Int) = (bitsN k n : Nat) := by
  induction k with
  | zero => rfl
  | succ k ih =>
    simp only [Crc.bits, bitsN]
    rw [ih, bit1_nat _ (bitsN_lt k h)]
theorem byte1_nat (c x : Nat) (h : c < 4294967296) (hx : x < 256) : Crc.byte1 (c : Int) (x : Int) = (byteN c x : Nat) := by
  unfold Crc.byte1 byteN
  have hm : c % 256 < 256 := Nat.mod_lt _ (by decide)
  have hxr : (c % 256) ^^^ x < 256 := Nat.xor_lt_two_pow (n := 8) hm hx
  rw [show (c : Int) % 256 = ((c % 256 : Nat) : Int) by omega, u8_xor_nat _ _ hm hx, bits_nat 8 _ (by omega), show (c : Int) / 256 = ((c / 256 : Nat) : Int) by omega,
    u32_xor_nat _ _ (bitsN_lt 8 (by omega)) (by omega)]
/-- All of a row's bytes. -/
def sumN (c : Nat) (l : List Int) : Nat := l.foldl (fun c x => byteN c x.toNat) c
theorem sumN_cons (c : Nat) (x : Int) (l : List Int) : sumN c (x :: l) = sumN (byteN c x.toNat) l := rfl
theorem sumN_append (c : Nat) (l m : List Int) : sumN c (l ++ m) = sumN (sumN c l) m := by simp [sumN]
theorem u8_in {x : Int} (h : (Lit.int .u8 x).wf = true) : 0 ≤ x ∧ x < 256 := by
  simp [Lit.wf, IntKind.min, IntKind.max, IntKind.bits, IntKind.signed] at h
  omega
theorem u32_in {x : Int} (h : (Lit.int .u32 x).wf = true) : 0 ≤ x ∧ x < 4294967296 := by
  simp [Lit.wf, IntKind.min, IntKind.max, IntKind.bits, IntKind.signed] at h
  omega
theorem sumN_lt (l : List Int) : ∀ (c : Nat), c < 4294967296 → (∀ x ∈ l, 0 ≤ x ∧ x < 256) → sumN c l < 4294967296 := by
  induction l with
  | nil => exact fun c h _ => h
  | cons x l ih =>
    intro c h hl
    rw [sumN_cons]
    have := hl x (by simp)
    exact ih _ (byteN_lt h (by omega)) (fun y hy => hl y (by simp [hy]))
theorem stepsF_nat (l : List Int) : ∀ (c : Nat), c < 4294967296 → (∀ x ∈ l, 0 ≤ x ∧ x < 256) → Crc.stepsF (c : Int) l = (sumN c l : Nat) := by
  induction l with
  | nil => exact fun c h _ => rfl
  | cons x l ih =>
    intro c h hl
    have hx := hl x (by simp)
    have e := byte1_nat c x.toNat h (by omega)
    rw [show ((x.toNat : Nat) : Int) = x by omega] at e
    show Crc.stepsF (Crc.byte1 (c : Int) x) l = _
    rw [e, sumN_cons]
    exact ih _ (byteN_lt h (by omega)) (fun y hy => hl y (by simp [hy]))
theorem flip_nat (n : Nat) (h : n < 4294967296) : Crc.flip (n : Int) = ((4294967295 - n : Nat) : Int) := by
  have e : Crc.flip (n : Int) = ((4294967295 ^^^ n : Nat) : Int) := u32_xor_nat 4294967295 n (by decide) h
  rw [e]
  congr 1
  have h2 : (BitVec.allOnes 32 ^^^ BitVec.ofNat 32 n) = ~~~ (BitVec.ofNat 32 n) := BitVec.allOnes_xor
  have h3 := congrArg BitVec.toNat h2
  rw [BitVec.toNat_xor, BitVec.toNat_not, BitVec.toNat_allOnes, BitVec.toNat_ofNat, Nat.mod_eq_of_lt h] at h3
  exact h3

theorem of_tells (s : Int) (l : List Int) (hs : 0 ≤ s ∧ s ≤ 1000000) (hn : l.length ≤ 1000000) (hl : ∀ x ∈ l, 0 ≤ x ∧ x < 256) :
    crc_Summer_Of.f (some s) l = some (((4294967295 - sumN 4294967295 l : Nat) : Int), some (s + 1)) := by
  unfold crc_Summer_Of.f
  dsimp only
  rw [if_pos ⟨hn, hs⟩, show (4294967295 : Int) = ((4294967295 : Nat) : Int) from rfl, stepsF_nat l _ (by decide) hl, flip_nat _ (sumN_lt l _ (by decide) hl)]
theorem more_tells (s : Int) (a : Int) (l : List Int) (ha : 0 ≤ a ∧ a < 4294967296) (hs : 0 ≤ s ∧ s ≤ 1000000) (hn : l.length ≤ 1000000) (hl : ∀ x ∈ l, 0 ≤ x ∧ x < 256) :
    crc_Summer_More.f (some s) a l = some (((4294967295 - sumN (4294967295 - a.toNat) l : Nat) : Int), some (s + 1)) := by
  unfold crc_Summer_More.f
  obtain ⟨n, rfl⟩ : ∃ n : Nat, a = n := ⟨a.toNat, by omega⟩
  have h1 : 4294967295 - n < 4294967296 := by omega
  dsimp only
  rw [if_pos ⟨hn, hs⟩, flip_nat _ (by omega), stepsF_nat l _ h1 hl, flip_nat _ (sumN_lt l _ h1 hl), Int.toNat_natCast]
theorem of_none (l : List Int) : crc_Summer_Of.f none l = some (0, none) := rfl
theorem more_none (a : Int) (l : List Int) : crc_Summer_More.f none a l = some (0, none) := rfl
theorem new_tells : crc_New.f = some (some 0) := rfl
theorem calls_tells (x : Option Int) : crc_Summer_Calls.f x = some (x.getD 0) := rfl
theorem awake_tells : blazonlaw02_awake.f = some true := by
  unfold blazonlaw02_awake.f
  simp only [new_tells, Option.bind_some]
  rw [of_tells 0 _ (by decide) (by decide) (by decide)]
  simp only [Option.bind_some]
  rw [if_pos (by decide +kernel), of_tells (0 + 1) _ (by decide) (by decide) (by decide)]
  simp only [Option.bind_some]
  rw [if_pos (by decide +kernel)]
  rfl
theorem wrap64_id {x : Int} (h0 : -9223372036854775808 ≤ x) (h1 : x ≤ 9223372036854775807) : wrap64 x = x := by unfold wrap64; omega
theorem pick_tells (a n : Int) (hn : 1 ≤ n) (hb : n ≤ 1000000) : ∃ r, blazonref01_Pick.f a n = some r ∧ 0 ≤ r ∧ r < n := by
  unfold blazonref01_Pick.f
  rw [if_neg (by omega), if_neg (by omega)]
  have h1 := Int.tmod_lt_of_pos a (show 0 < n by omega)
  have h2 : -n < Int.tmod a n := by
    have := Int.lt_tmod_of_pos a (show 0 < n by omega)
    omega
  by_cases h : Int.tmod a n < 0
  · rw [if_pos h]
    have e : wrap64 (Int.tmod a n + n) = Int.tmod a n + n := by unfold wrap64; omega
    exact ⟨_, rfl, by rw [e]; omega, by rw [e]; omega⟩
  · rw [if_neg h]
    exact ⟨_, rfl, by omega, by omega⟩
theorem CrcParts : blazonlaw02_CrcParts.Pure := by
  intro l a hl1 hl2 hl ha
  have hl' : ∀ x ∈ l, 0 ≤ x ∧ x < 256 := fun x hx => u8_in (hl x hx)
  unfold blazonlaw02_CrcParts.f
  by_cases h1 : (l.length : Int) > 1000
  · rw [if_pos h1, awake_tells]; rfl
  rw [if_neg h1, new_tells, wrap64_id (by omega) (by omega)]
  simp only [Option.bind_some]
  obtain ⟨r, hr, h0, h2⟩ := pick_tells a ((l.length : Int) + 1) (by omega) (by omega)
  rw [hr]
  simp only [Option.bind_some]
  rw [if_pos h0, if_pos (by omega), of_tells 0 _ (by decide) (by rw [List.length_take]; omega) (fun x hx => hl' x (List.mem_of_mem_take hx))]
  simp only [Option.bind_some]
  have hlt := sumN_lt (l.take r.toNat) 4294967295 (by decide) (fun x hx => hl' x (List.mem_of_mem_take hx))
  rw [more_tells (0 + 1) _ _ (by omega) (by decide) (by rw [List.length_drop]; omega) (fun x hx => hl' x (List.mem_of_mem_drop hx))]
  simp only [Option.bind_some]
  rw [of_tells (0 + 1 + 1) _ (by decide) (by omega) hl']
  simp only [Option.bind_some]
  have e : 4294967295 - (((4294967295 - sumN 4294967295 (l.take r.toNat) : Nat) : Int)).toNat = sumN 4294967295 (l.take r.toNat) := by omega
  rw [e, ← sumN_append, List.take_append_drop, if_pos rfl]
  simp only [of_none, more_none, calls_tells, Option.bind_some, awake_tells, Option.getD_none, if_true]

end Go.Proofs.Ytbpagdgbehefkaa.Pure
