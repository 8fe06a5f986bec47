/- Any number's four bytes, behind any bytes, are the document's; any bytes are read so, or are too short; for all numbers and all bytes that the row reads. -/
import Derived.Test.YtbpagdgbehefkaaPNumFoursx2
import Derived.OpenShut
import Derived.Laws.BitsLemmas
import Derived.Laws.BitsAllLaws
import Derived.Test.YtbpagdgbehefkaaWSized
set_option linter.unusedVariables false
set_option linter.unusedSimpArgs false
namespace Go.Proofs.Ytbpagdgbehefkaa.Pure
open Go.RowKit Go.Proofs.Ytbpagdgbehefkaa.PNumFours Go.Proofs.YtbpagdgbehefkaaW.PrintWords Go.Proofs.YtbpagdgbehefkaaW.PrintLast

theorem wrap64_id {x : Int} (h0 : -9223372036854775808 ≤ x) (h1 : x ≤ 9223372036854775807) : wrap64 x = x := by unfold wrap64; omega
theorem rd_drop (l : List Int) (i : Nat) (h : i < l.length) : l.drop i = rd l (i : Int) :: l.drop (i + 1) := by
  rw [List.drop_eq_getElem_cons h]
  simp [rd, List.getD_eq_getElem?_getD, h]

/-- Two lists are compared to the end. -/
theorem same_l0 (l m : List Int) (hl : l.length = m.length) (hb : l.length ≤ 1000000000000000) (d : Nat) :
    ∀ (k i : Nat), i ≤ l.length → l.length - i = d → d < k → blazonref01_Same.l0 k l m (i : Int) = some (decide (l.drop i = m.drop i)) := by
  induction d with
  | zero =>
    intro k i hi hd hk
    obtain ⟨k, rfl⟩ : ∃ n, k = n + 1 := ⟨k - 1, by omega⟩
    simp only [blazonref01_Same.l0]
    rw [if_neg (by omega)]
    have e1 : l.drop i = [] := List.drop_eq_nil_of_le (by omega)
    have e2 : m.drop i = [] := List.drop_eq_nil_of_le (by omega)
    simp [e1, e2]
  | succ d ih =>
    intro k i hi hd hk
    obtain ⟨k, rfl⟩ : ∃ n, k = n + 1 := ⟨k - 1, by omega⟩
    simp only [blazonref01_Same.l0]
    rw [if_pos (by omega), if_pos (by omega), if_pos (by omega)]
    rw [rd_drop l i (by omega), rd_drop m i (by omega)]
    by_cases e : rd l (i : Int) = rd m (i : Int)
    · rw [if_pos e, wrap64_id (by omega) (by omega)]
      have := ih k (i + 1) (by omega) (by omega) (by omega)
      rw [show ((i : Int) + 1) = ((i + 1 : Nat) : Int) by omega, this]
      simp [e]
    · rw [if_neg e]
      simp [e]
theorem same_tells (k : Nat) (l m : List Int) (hb : l.length ≤ 1000000000000000) (hk : l.length < k) : blazonref01_Same.f k l m = some (decide (l = m)) := by
  unfold blazonref01_Same.f
  by_cases e : (l.length : Int) = (m.length : Int)
  · rw [if_pos e]
    have := same_l0 l m (by omega) hb l.length k 0 (by omega) (by omega) hk
    simpa using this
  · rw [if_neg e]
    have : l ≠ m := fun h => e (by rw [h])
    simp [this]

/-- A number's short form. -/
def short (n : Nat) : List Int := if n < 128 then [(n : Int)] else (((n % 128 + 128 : Nat) : Int)) :: short (n / 128)
theorem or_128 (x : Int) (h : 0 ≤ x) : Go.bits .or .u8 (x % 256) 128 = ((x.toNat % 128 + 128 : Nat) : Int) := by
  obtain ⟨n, rfl⟩ := Int.eq_ofNat_of_zero_le h
  have h1 : ((n : Int) % 256) = ((n % 256 : Nat) : Int) := by omega
  have h2 : (128 : Int) = ((128 : Nat) : Int) := rfl
  rw [h1, h2, (bits_nat .u8 8 (by decide) (fun n h0 h1 => wraps_u8 n h0 h1) (n % 256) 128 (by omega) (by decide)).2]
  have : ∀ b : Fin 256, b.val ||| 128 = b.val % 128 + 128 := by decide +kernel
  have h3 := this ⟨n % 256, by omega⟩
  simp only at h3
  rw [h3]
  simp only [Int.toNat_natCast]
  omega
theorem put_l0 (d : Nat) : ∀ (k : Nat) (l : List Int) (n : Nat), n < 128 ^ (d + 1) → d < k → l.length + d < 140737488355328 → num_Put.l0 k l (n : Int) = some (l ++ short n) := by
  induction d with
  | zero =>
    intro k l n hn hk hl
    obtain ⟨k, rfl⟩ : ∃ n, k = n + 1 := ⟨k - 1, by omega⟩
    simp only [num_Put.l0]
    have hn' : n < 128 := by simpa using hn
    rw [if_neg (by omega), if_pos (by omega)]
    unfold short
    rw [if_pos hn']
    congr 3
    omega
  | succ d ih =>
    intro k l n hn hk hl
    obtain ⟨k, rfl⟩ : ∃ n, k = n + 1 := ⟨k - 1, by omega⟩
    simp only [num_Put.l0]
    by_cases e : n < 128
    · rw [if_neg (by omega), if_pos (by omega)]
      unfold short
      rw [if_pos e]
      congr 3
      omega
    · rw [if_pos (by omega), if_pos (by omega)]
      have hq : n / 128 < 128 ^ (d + 1) := by
        rw [Nat.div_lt_iff_lt_mul (by decide)]
        rw [Nat.pow_succ] at hn
        omega
      have hx : ((n : Int) / 128) = ((n / 128 : Nat) : Int) := by omega
      rw [hx, or_128 _ (by omega), ih k _ (n / 128) hq (by omega) (by simp; omega)]
      rw [show short n = (((n % 128 + 128 : Nat) : Int)) :: short (n / 128) by rw [short.eq_1 n, if_neg e]]
      simp
theorem put_tells (k : Nat) (l : List Int) (x : Int) (h0 : 0 ≤ x) (h1 : x < 18446744073709551616) (hk : 10 ≤ k) (hl : l.length ≤ 140000000000000) : num_Put.f k l x = some (l ++ short x.toNat) := by
  unfold num_Put.f
  have := put_l0 9 k l x.toNat (by have : (128 ^ (9 + 1) : Nat) = 1180591620717411303424 := by decide
                                   omega) (by omega) (by omega)
  rwa [show ((x.toNat : Nat) : Int) = x by omega] at this
theorem u64_range {x : Int} (h : (Lit.int .u64 x).wf = true) : 0 ≤ x ∧ x < 18446744073709551616 := by
  have := bounds_u64 h
  omega
theorem short_pos (n : Nat) : 0 < (short n).length := by unfold short; split <;> simp
theorem short_small (d : Nat) : ∀ n, n < 128 ^ (d + 1) → (short n).length ≤ d + 1 := by
  induction d with
  | zero => intro n h; unfold short; rw [if_pos (by simpa using h)]; simp
  | succ d ih =>
    intro n h
    unfold short
    split
    · simp
    · have hq : n / 128 < 128 ^ (d + 1) := by
        rw [Nat.div_lt_iff_lt_mul (by decide)]
        rw [Nat.pow_succ] at h
        omega
      have := ih _ hq
      simp; omega
theorem short_ten (x : Int) (h1 : x < 18446744073709551616) : (short x.toNat).length ≤ 10 :=
  short_small 9 _ (by have : (128 ^ (9 + 1) : Nat) = 1180591620717411303424 := by decide
                      omega)
theorem awake_true (k : Nat) (hk : 10 ≤ k) : blazonlaw01_awake.f k = some true := by
  unfold blazonlaw01_awake.f
  have ha : num_Add.f 9223372036854775807 1 = some (0, 18) := by decide +kernel
  rw [ha]
  simp only [Option.bind_some]
  rw [put_tells k [] 300 (by decide) (by decide) hk (by simp)]
  simp only [Option.bind_some]
  have hs : short (300 : Int).toNat = [172, 2] := by
    simp [short.eq_1]
  rw [hs, same_tells k _ _ (by simp) (by simp; omega)]
  rfl

theorem or_low (i : Nat) (a b : Int) (ha : 0 ≤ a) (ha1 : a < 2 ^ i) (hb : 0 ≤ b) (hb2 : b % 2 ^ i = 0) (hA : a < 4294967296) (hB : b < 4294967296) : Go.bits .or .u32 a b = a + b := by
  rw [u32_or a b ha hA hb hB, Nat.or_comm, nat_join i b.toNat a.toNat ?_ ?_]
  · omega
  · have : ((b.toNat % 2 ^ i : Nat) : Int) = 0 := by
      rw [Int.natCast_emod]
      rw [show ((b.toNat : Nat) : Int) = b by omega]
      exact_mod_cast hb2
    exact_mod_cast this
  · have : ((a.toNat : Nat) : Int) < ((2 ^ i : Nat) : Int) := by
      rw [show ((a.toNat : Nat) : Int) = a by omega]
      exact_mod_cast ha1
    exact_mod_cast this
def four (x : Int) : List Int := [x % 256, (x / 256) % 256, (x / 65536) % 256, (x / 16777216) % 256]
def numb (l : List Int) : Int := rd l 0 + rd l 1 * 256 + rd l 2 * 65536 + rd l 3 * 16777216
theorem four_tells (k : Nat) (x : Int) (h0 : 0 ≤ x) (h1 : x < 4294967296) (hk : 5 ≤ k) : blazonref01_Four.f k x = some (four x) := by
  obtain ⟨k, rfl⟩ : ∃ n, k = n + 5 := ⟨k - 5, by omega⟩
  unfold blazonref01_Four.f
  have q : ∀ y : Int, 0 ≤ y → y < 4294967296 → (Int.tdiv y 256) % 4294967296 = y / 256 := by
    intro y h0 h1
    rw [Int.tdiv_eq_ediv_of_nonneg h0]
    omega
  have m : ∀ y : Int, 0 ≤ y → (Int.tmod y 256) % 256 = y % 256 := by
    intro y h0
    rw [Int.tmod_eq_emod_of_nonneg h0]
    omega
  have w1 : wrap64 (0 + 1) = 1 := wrap64_id (by decide) (by decide)
  have w2 : wrap64 (1 + 1) = 2 := wrap64_id (by decide) (by decide)
  have w3 : wrap64 (2 + 1) = 3 := wrap64_id (by decide) (by decide)
  have w4 : wrap64 (3 + 1) = 4 := wrap64_id (by decide) (by decide)
  simp only [blazonref01_Four.l0]
  rw [if_pos (by decide), if_pos (by simp), w1, if_pos (by decide), if_pos (by simp), w2, if_pos (by decide), if_pos (by simp), w3, if_pos (by decide), if_pos (by simp), w4, if_neg (by decide)]
  rw [q x h0 h1, q (x / 256) (by omega) (by omega), q (x / 256 / 256) (by omega) (by omega), m x h0, m _ (by omega), m _ (by omega), m _ (by omega)]
  simp only [List.nil_append, List.cons_append, four]
  have e1 : x / 256 / 256 = x / 65536 := by omega
  have e2 : x / 65536 / 256 = x / 16777216 := by omega
  rw [e1, e2]
theorem rd_byte (l : List Int) (h : ∀ x ∈ l, (Lit.int .u8 x).wf = true) (i : Int) : 0 ≤ rd l i ∧ rd l i < 256 := by
  unfold rd
  rw [List.getD_eq_getElem?_getD]
  cases e : l[i.toNat]? with
  | none => simp
  | some v =>
    have := bounds_u8 (h v (List.mem_of_getElem? e))
    simp; omega
theorem number_tells (k : Nat) (l : List Int) (h : ∀ x ∈ l, (Lit.int .u8 x).wf = true) (hl : 4 ≤ l.length) (hk : 5 ≤ k) : blazonref01_Number.f k l = some (numb l) := by
  obtain ⟨k, rfl⟩ : ∃ n, k = n + 5 := ⟨k - 5, by omega⟩
  unfold blazonref01_Number.f
  have w1 : wrap64 (3 - 1) = 2 := wrap64_id (by decide) (by decide)
  have w2 : wrap64 (2 - 1) = 1 := wrap64_id (by decide) (by decide)
  have w3 : wrap64 (1 - 1) = 0 := wrap64_id (by decide) (by decide)
  have w4 : wrap64 (0 - 1) = -1 := wrap64_id (by decide) (by decide)
  simp only [blazonref01_Number.l0]
  rw [if_pos (by decide), if_pos (by decide), if_pos (by omega), w1, if_pos (by decide), if_pos (by decide), if_pos (by omega), w2, if_pos (by decide), if_pos (by decide), if_pos (by omega), w3, if_pos (by decide), if_pos (by decide), if_pos (by omega), w4, if_neg (by decide)]
  have b0 := rd_byte l h 0
  have b1 := rd_byte l h 1
  have b2 := rd_byte l h 2
  have b3 := rd_byte l h 3
  unfold numb
  congr 1
  omega
theorem get4_tells (l : List Int) (h : ∀ x ∈ l, (Lit.int .u8 x).wf = true) : num_Get4.f l = if l.length < 4 then some (0, 2) else some (numb l, 0) := by
  unfold num_Get4.f
  by_cases e : l.length < 4
  · rw [if_pos (by omega), if_pos e]
  · rw [if_neg (by omega), if_pos (by omega), if_pos (by omega), if_pos (by omega), if_pos (by omega), if_neg e]
    have b0 := rd_byte l h 0
    have b1 := rd_byte l h 1
    have b2 := rd_byte l h 2
    have b3 := rd_byte l h 3
    rw [show rd l 0 % 4294967296 = rd l 0 by omega, show rd l 1 % 4294967296 * 256 % 4294967296 = rd l 1 * 256 by omega, show rd l 2 % 4294967296 * 65536 % 4294967296 = rd l 2 * 65536 by omega, show rd l 3 % 4294967296 * 16777216 % 4294967296 = rd l 3 * 16777216 by omega]
    rw [or_low 8 (rd l 0) (rd l 1 * 256) (by omega) (by omega) (by omega) (by omega) (by omega) (by omega)]
    rw [or_low 16 (rd l 0 + rd l 1 * 256) (rd l 2 * 65536) (by omega) (by omega) (by omega) (by omega) (by omega) (by omega)]
    rw [or_low 24 (rd l 0 + rd l 1 * 256 + rd l 2 * 65536) (rd l 3 * 16777216) (by omega) (by omega) (by omega) (by omega) (by omega) (by omega)]
    rfl
theorem NumFours : blazonlaw01_NumFours.Pure := by
  intro n l hn h1 h2 hb
  have rn := bounds_u32 hn
  refine ⟨3000, ?_⟩
  unfold blazonlaw01_NumFours.f
  rw [awake_true 3000 (by decide)]
  by_cases e : (l.length : Int) > 2000
  · rw [if_pos e]; rfl
  · rw [if_neg e]
    have f4 := four_tells 3000 n (by omega) (by omega) (by decide)
    have lf : (four n).length = 4 := rfl
    simp only [Option.bind_some, List.length_nil, List.nil_append]
    rw [if_pos (by omega)]
    have p4 : num_Put4.f l n = some (l ++ four n) := by
      unfold num_Put4.f
      simp only [Option.bind_some]
      rw [if_pos (by simp; omega)]
      rfl
    rw [p4]
    simp only [Option.bind_some]
    rw [get4_tells l hb, f4]
    simp only [Option.bind_some]
    have hs : blazonref01_Same.f 3000 (l ++ four n) (l ++ four n) = some true := by
      rw [same_tells 3000 _ _ (by simp [lf]; omega) (by simp [lf]; omega)]
      simp
    by_cases e4 : l.length < 4
    · rw [if_pos e4]
      simp only [Option.bind_some]
      rw [if_pos (by omega), if_pos trivial, if_pos trivial, if_pos (by omega), if_pos (by omega), hs]
      simp
    · rw [if_neg e4]
      simp only [Option.bind_some]
      rw [if_neg (by omega), number_tells 3000 l hb (by omega) (by decide)]
      simp only [Option.bind_some]
      rw [if_pos trivial, if_pos trivial, if_pos (by omega), if_pos (by omega), hs]
      simp

end Go.Proofs.Ytbpagdgbehefkaa.Pure

/-- The printed row names this lemma from its own namespace. -/
theorem Go.Proofs.Ytbpagdgbehefkaa.PrintWords.sized_ints {H : Type} {enc : Go.TypeId × Go.Value → H} {P : Go.Program} {W : Go.World} {base : Nat} {spare : Nat → Bool} {held : Bool} {t e : Go.TypeId} {k : Go.IntKind} {a : Option Go.Addr} {len cap : Nat} {d : Go.DataW H} {ps : List Go.MemPlace} {ts : List Go.TypeId} {ds : List (Go.DataW H)} {j : Nat}
    (hsz : (Go.DataW.weightsEach P ts ds).all (· ≤ Go.reachBytes) = true) (ht : ts[j]? = some t) (hd : ds[j]? = some d) (hu : P.underlying t = some (.slice e)) (he : P.underlying e = some (.int k)) (hc : P.cellsOf e = 1) {B : Nat} (hB : P.bytesOf e = B)
    (h : Go.DataW.Trod enc P W base spare held t (.slice a len cap) d ps) : len * B ≤ 140737488351232 :=
  Go.Proofs.YtbpagdgbehefkaaW.PrintWords.sized_ints hsz ht hd hu he hc hB h
