/- Any bytes are read as the expression that the document says, or refused at the place; they stay. -/
import Derived.Test.YteoccoklbmjiaaaPExpx1
import Derived.Test.YteoccoklbmjiaaaPExpx10
import Derived.Test.YteoccoklbmjiaaaPExpx11
import Derived.Test.YteoccoklbmjiaaaPExpx12
import Derived.Test.YteoccoklbmjiaaaPExpx13
import Derived.Test.YteoccoklbmjiaaaPExpx2
import Derived.Test.YteoccoklbmjiaaaPExpx3
import Derived.Test.YteoccoklbmjiaaaPExpx4
import Derived.Test.YteoccoklbmjiaaaPExpx5
import Derived.Test.YteoccoklbmjiaaaPExpx6
import Derived.Test.YteoccoklbmjiaaaPExpx7
import Derived.Test.YteoccoklbmjiaaaPExpx8
import Derived.Test.YteoccoklbmjiaaaPExpx9
import Derived.OpenShut
import Derived.Laws.BitsLemmas
import Derived.Laws.BitsAllLaws
import Derived.Laws.Bits64b
import Derived.Lib.TrailingZeros
import Derived.Lib.Bytes
import Derived.Test.YteoccoklbmjiaaaWSized
set_option linter.unusedVariables false
set_option linter.unusedSimpArgs false
namespace Go.Proofs.Yteoccoklbmjiaaa.Pure
open Go.RowKit Go.Proofs.Yteoccoklbmjiaaa.PExp Go.Proofs.YteoccoklbmjiaaaW.PrintWords Go.Proofs.YteoccoklbmjiaaaW.PrintLast
theorem oC {x : Int} (h0 : -9223372036854775808 ≤ x) (h1 : x ≤ 9223372036854775807) : wrap64 x = x := by unfold wrap64; omega
theorem vY (l : List Int) (i : Nat) (h : i < l.length) : l.drop i = rd l (i : Int) :: l.drop (i + 1) := by
  rw [List.drop_eq_getElem_cons h];simp [rd, List.getD_eq_getElem?_getD, h]
def Bytes (l : List Int) : Prop := ∀ x ∈ l, 0 ≤ x ∧ x < 256
theorem Bytes.drop {l : List Int} (h : Bytes l) (n : Nat) : Bytes (l.drop n) := fun x hx => h x (List.mem_of_mem_drop hx)
theorem Bytes.take {l : List Int} (h : Bytes l) (n : Nat) : Bytes (l.take n) := fun x hx => h x (List.mem_of_mem_take hx)
theorem Bytes.JH {l : List Int} (h : ∀ x ∈ l, (Lit.int .u8 x).wf = true) : Bytes l := fun x hx => by have := bounds_u8 (h x hx); omega
theorem xK (s : ByteArray) : Bytes (bytesOf s) := by
  intro x hx;unfold bytesOf at hx;obtain ⟨b, _, rfl⟩ := List.mem_map.1 hx;have := b.toNat_lt;omega
theorem yL {l : List Int} (h : Bytes l) (i : Int) : 0 ≤ rd l i ∧ rd l i < 256 := by
  unfold rd;rw [List.getD_eq_getElem?_getD]
  cases e : l[i.toNat]? with
  | none => simp
  | some v => simpa using h v (List.mem_of_getElem? e)
def wF (c : Int) : Bool := c == 32 || c == 9 || c == 10 || c == 13
def uK (c : Int) : Bool := (decide (97 ≤ c) && decide (c ≤ 122)) || (decide (65 ≤ c) && decide (c ≤ 90)) || c == 95
def vO (c : Int) : Bool := decide (48 ≤ c) && decide (c ≤ 57)
def wC (c : Int) : Bool := uK c || vO c
def BF (c : Int) : Bool := c != 10
def Dq (c : Int) : Bool := [40, 41, 123, 125, 44, 59, 58, 46, 60, 43, 45, 42, 33, 61, 64, 47].contains c
def Dt (a b : Int) : Bool := (a == 61 && b == 61) || (a == 38 && b == 38) || (a == 124 && b == 124) || (a == 64 && b == 61)
theorem AX (p : Int → Prop) (h : ∀ b : Fin 256, p ((b.val : Nat) : Int)) (c : Int) (h0 : 0 ≤ c) (h1 : c < 256) : p c := by
  have := h ⟨c.toNat, by omega⟩;simp only at this
  rwa [show ((c.toNat : Nat) : Int) = c by omega] at this
theorem zO (c : Int) : vV.f c = some (wF c) := by
  unfold vV.f wF;by_cases h1 : c = 32
  · simp [h1]
  · by_cases h2 : c = 9
    · simp [h2]
    · by_cases h3 : c = 10
      · simp [h3]
      · by_cases h4 : c = 13 <;> simp [h1, h2, h3, h4]
theorem xM (c : Int) : uz.f c = some (vO c) := by
  unfold uz.f vO;by_cases h : c ≥ 48
  · simp [h]
  · simp [h]
theorem wz (c : Int) (h0 : 0 ≤ c) (h1 : c < 256) : ug.f c = some (uK c) :=
  AX (fun c => ug.f c = some (uK c)) (by decide +kernel) c h0 h1
theorem BG (c : Int) (h0 : 0 ≤ c) (h1 : c < 256) : vM.f c = some (wC c) := by
  unfold vM.f wC;rw [wz c h0 h1, xM]
  cases uK c <;> simp
theorem BH (c : Int) (h0 : 0 ≤ c) (h1 : c < 256) : vN.f c = some (wC c) := by
  unfold vN.f wC;rw [wz c h0 h1, xM]
  cases uK c <;> simp
theorem BI (l : List Int) (hb : Bytes l) (hl : l.length ≤ 1000000000000000) (d : Nat) : ∀ (k i : Nat), i ≤ l.length → l.length - i = d → 2 * d + 1 < k → qj.l0 k l (i : Int) = some (((i + ((l.drop i).takeWhile wF).length : Nat)) : Int) := by
  induction d with
  | zero =>
    intro k i hi hd hk;obtain ⟨k, rfl⟩ : ∃ n, k = n + 2 := ⟨k - 2, by omega⟩;simp only [qj.l0, qj.j0];rw [if_neg (by omega), if_neg (by decide), List.drop_eq_nil_of_le (by omega)];simp
  | succ d ih =>
    intro k i hi hd hk;obtain ⟨k, rfl⟩ : ∃ n, k = n + 2 := ⟨k - 2, by omega⟩;simp only [qj.l0];rw [if_pos (by omega), if_pos (by omega), vY l i (by omega)];rw [zO];simp only [Option.bind_some, List.takeWhile_cons, qj.j0];by_cases h : wF (rd l (i : Int)) = true
    · rw [if_pos h, if_pos h, oC (by omega) (by omega)];have := ih k (i + 1) (by omega) (by omega) (by omega);rw [show ((i : Int) + 1) = ((i + 1 : Nat) : Int) by omega, this];simp; omega
    · rw [if_neg h, if_neg h];simp
theorem EK (k : Nat) (l : List Int) (hb : Bytes l) (hl : l.length ≤ 1000000000000000) (hk : 2 * l.length + 1 < k) : qj.f k l = some (((l.takeWhile wF).length : Nat) : Int) := by
  have := BI l hb hl l.length k 0 (by omega) (by omega) hk
  simpa [qj.f] using this
theorem Cm (l : List Int) (hb : Bytes l) (hl : l.length ≤ 1000000000000000) (d : Nat) : ∀ (k i : Nat), i ≤ l.length → l.length - i = d → 2 * d + 1 < k → pR.l0 k l (i : Int) = some (((i + ((l.drop i).takeWhile BF).length : Nat)) : Int) := by
  induction d with
  | zero =>
    intro k i hi hd hk;obtain ⟨k, rfl⟩ : ∃ n, k = n + 2 := ⟨k - 2, by omega⟩;simp only [pR.l0, pR.j0];rw [if_neg (by omega), if_neg (by decide), List.drop_eq_nil_of_le (by omega)];simp
  | succ d ih =>
    intro k i hi hd hk;obtain ⟨k, rfl⟩ : ∃ n, k = n + 2 := ⟨k - 2, by omega⟩;simp only [pR.l0];rw [if_pos (by omega), if_pos (by omega), vY l i (by omega)];rw [show vX.f (rd l (i : Int)) = some (BF (rd l (i : Int))) from rfl];simp only [Option.bind_some, List.takeWhile_cons, pR.j0];by_cases h : BF (rd l (i : Int)) = true
    · rw [if_pos h, if_pos h, oC (by omega) (by omega)];have := ih k (i + 1) (by omega) (by omega) (by omega);rw [show ((i : Int) + 1) = ((i + 1 : Nat) : Int) by omega, this];simp; omega
    · rw [if_neg h, if_neg h];simp
theorem FI (k : Nat) (l : List Int) (hb : Bytes l) (hl : l.length ≤ 1000000000000000) (hk : 2 * l.length + 1 < k) : pR.f k l = some (((l.takeWhile BF).length : Nat) : Int) := by
  have := Cm l hb hl l.length k 0 (by omega) (by omega) hk
  simpa [pR.f] using this
theorem CB (l : List Int) (hb : Bytes l) (hl : l.length ≤ 1000000000000000) (d : Nat) : ∀ (k i : Nat), i ≤ l.length → l.length - i = d → 2 * d + 1 < k → pU.l0 k l (i : Int) = some (((i + ((l.drop i).takeWhile wC).length : Nat)) : Int) := by
  induction d with
  | zero =>
    intro k i hi hd hk;obtain ⟨k, rfl⟩ : ∃ n, k = n + 2 := ⟨k - 2, by omega⟩;simp only [pU.l0, pU.j0];rw [if_neg (by omega), if_neg (by decide), List.drop_eq_nil_of_le (by omega)];simp
  | succ d ih =>
    intro k i hi hd hk;obtain ⟨k, rfl⟩ : ∃ n, k = n + 2 := ⟨k - 2, by omega⟩;simp only [pU.l0];rw [if_pos (by omega), if_pos (by omega), vY l i (by omega)];rw [BG _ (yL hb _).1 (yL hb _).2];simp only [Option.bind_some, List.takeWhile_cons, pU.j0];by_cases h : wC (rd l (i : Int)) = true
    · rw [if_pos h, if_pos h, oC (by omega) (by omega)];have := ih k (i + 1) (by omega) (by omega) (by omega);rw [show ((i : Int) + 1) = ((i + 1 : Nat) : Int) by omega, this];simp; omega
    · rw [if_neg h, if_neg h];simp
theorem FM (k : Nat) (l : List Int) (hb : Bytes l) (hl : l.length ≤ 1000000000000000) (hk : 2 * l.length + 1 < k) : pU.f k l = some (((l.takeWhile wC).length : Nat) : Int) := by
  have := CB l hb hl l.length k 0 (by omega) (by omega) hk
  simpa [pU.f] using this
theorem BJ (l : List Int) (hb : Bytes l) (hl : l.length ≤ 1000000000000000) (d : Nat) : ∀ (k i : Nat), i ≤ l.length → l.length - i = d → 2 * d + 1 < k → ql.l0 k l (i : Int) = some (((i + ((l.drop i).takeWhile vO).length : Nat)) : Int) := by
  induction d with
  | zero =>
    intro k i hi hd hk;obtain ⟨k, rfl⟩ : ∃ n, k = n + 2 := ⟨k - 2, by omega⟩;simp only [ql.l0, ql.j0];rw [if_neg (by omega), if_neg (by decide), List.drop_eq_nil_of_le (by omega)];simp
  | succ d ih =>
    intro k i hi hd hk;obtain ⟨k, rfl⟩ : ∃ n, k = n + 2 := ⟨k - 2, by omega⟩;simp only [ql.l0];rw [if_pos (by omega), if_pos (by omega), vY l i (by omega)];rw [xM];simp only [Option.bind_some, List.takeWhile_cons, ql.j0];by_cases h : vO (rd l (i : Int)) = true
    · rw [if_pos h, if_pos h, oC (by omega) (by omega)];have := ih k (i + 1) (by omega) (by omega) (by omega);rw [show ((i : Int) + 1) = ((i + 1 : Nat) : Int) by omega, this];simp; omega
    · rw [if_neg h, if_neg h];simp
theorem EL (k : Nat) (l : List Int) (hb : Bytes l) (hl : l.length ≤ 1000000000000000) (hk : 2 * l.length + 1 < k) : ql.f k l = some (((l.takeWhile vO).length : Nat) : Int) := by
  have := BJ l hb hl l.length k 0 (by omega) (by omega) hk
  simpa [ql.f] using this
theorem BK (l : List Int) (hb : Bytes l) (hl : l.length ≤ 1000000000000000) (d : Nat) : ∀ (k i : Nat), i ≤ l.length → l.length - i = d → 2 * d + 1 < k → pV.l0 k l (i : Int) = some (((i + ((l.drop i).takeWhile wC).length : Nat)) : Int) := by
  induction d with
  | zero =>
    intro k i hi hd hk;obtain ⟨k, rfl⟩ : ∃ n, k = n + 2 := ⟨k - 2, by omega⟩;simp only [pV.l0, pV.j0];rw [if_neg (by omega), if_neg (by decide), List.drop_eq_nil_of_le (by omega)];simp
  | succ d ih =>
    intro k i hi hd hk;obtain ⟨k, rfl⟩ : ∃ n, k = n + 2 := ⟨k - 2, by omega⟩;simp only [pV.l0];rw [if_pos (by omega), if_pos (by omega), vY l i (by omega)];rw [BH _ (yL hb _).1 (yL hb _).2];simp only [Option.bind_some, List.takeWhile_cons, pV.j0];by_cases h : wC (rd l (i : Int)) = true
    · rw [if_pos h, if_pos h, oC (by omega) (by omega)];have := ih k (i + 1) (by omega) (by omega) (by omega);rw [show ((i : Int) + 1) = ((i + 1 : Nat) : Int) by omega, this];simp; omega
    · rw [if_neg h, if_neg h];simp
theorem BL (k : Nat) (l : List Int) (hb : Bytes l) (hl : l.length ≤ 1000000000000000) (hk : 2 * l.length + 1 < k) : pV.f k l = some (((l.takeWhile wC).length : Nat) : Int) := by
  have := BK l hb hl l.length k 0 (by omega) (by omega) hk
  simpa [pV.f] using this
def rZ : List Int → Int × Nat
  | [] => (5, 1)
  | c :: r =>
    if wF c then (0, ((c :: r).takeWhile wF).length)
    else if c = 35 then (1, ((c :: r).takeWhile BF).length)
    else if uK c then (2, ((c :: r).takeWhile wC).length)
    else if vO c then (3, ((c :: r).takeWhile vO).length)
    else match r with
      | [] => if Dq c then (4, 1) else (5, 1)
      | b :: _ => if Dt c b then (4, 2) else if Dq c then (4, 1) else (5, 1)
theorem wI (p : Int → Bool) (c : Int) (r : List Int) (h : p c = true) : 1 ≤ ((c :: r).takeWhile p).length := by
  rw [List.takeWhile_cons, if_pos h]; simp
theorem wY (p : Int → Bool) (l : List Int) : (l.takeWhile p).length ≤ l.length := (List.takeWhile_sublist p).length_le
theorem zf (c : Int) (r : List Int) : 1 ≤ (rZ (c :: r)).2 ∧ (rZ (c :: r)).2 ≤ (c :: r).length := by
  simp only [rZ];by_cases h1 : wF c = true
  · rw [if_pos h1]; exact ⟨wI _ _ _ h1, wY _ _⟩
  · rw [if_neg h1];by_cases h2 : c = 35
    · rw [if_pos h2]; exact ⟨wI _ _ _ (by subst h2; decide), wY _ _⟩
    · rw [if_neg h2];by_cases h3 : uK c = true
      · rw [if_pos h3]; exact ⟨wI _ _ _ (by simp [wC, h3]), wY _ _⟩
      · rw [if_neg h3];by_cases h4 : vO c = true
        · rw [if_pos h4]; exact ⟨wI _ _ _ h4, wY _ _⟩
        · rw [if_neg h4]
          cases r with
          | nil => by_cases h5 : Dq c = true <;> simp [h5]
          | cons b r =>
            by_cases h6 : Dt c b = true
            · simp [h6]
            · by_cases h5 : Dq c = true <;> simp [h5, h6]
theorem EM (c : Int) (h0 : 0 ≤ c) (h1 : c < 256) : (strings_IndexByte.f (⟨#[40, 41, 123, 125, 44, 59, 58, 46, 60, 43, 45, 42, 33, 61, 64, 47]⟩ : ByteArray) c).map (fun t => decide (t ≥ 0)) = some (Dq c) :=
  AX (fun c => (strings_IndexByte.f (⟨#[40, 41, 123, 125, 44, 59, 58, 46, 60, 43, 45, 42, 33, 61, 64, 47]⟩ : ByteArray) c).map (fun t => decide (t ≥ 0)) = some (Dq c)) (by decide +kernel) c h0 h1
theorem Du (a : Int) (b : Nat) (h0 : 0 ≤ a) (h1 : a < 256) (hb : b < 256) : (UInt8.ofNat a.toNat = UInt8.ofNat b) ↔ a = b := by
  constructor
  · intro h;have h2 := congrArg UInt8.toNat h;simp only [UInt8.toNat_ofNat'] at h2;omega
  · rintro rfl;simp
theorem wL (l : List Int) : (strOfNums l).toList = l.map fun n => UInt8.ofNat n.toNat := Lib.strOfNums_toList l
theorem yA (a b : Int) (ha : 0 ≤ a ∧ a < 256) (hb : 0 ≤ b ∧ b < 256) (x y : Nat) (hx : x < 256) (hy : y < 256) : ((strOfNums [a, b]).toList = (⟨#[UInt8.ofNat x, UInt8.ofNat y]⟩ : ByteArray).toList) ↔ (a = x ∧ b = y) := by
  rw [wL, Lib.toList_data];simp only [List.map_cons, List.map_nil, List.cons.injEq, and_true];rw [Du a x ha.1 ha.2 hx, Du b y hb.1 hb.2 hy]
theorem uF (s t : ByteArray) : s = t ↔ s.toList = t.toList := by
  constructor
  · rintro rfl; rfl
  · intro h;rw [Lib.toList_data, Lib.toList_data] at h;exact ByteArray.ext (Array.toList_inj.1 h)
theorem zX (k : Nat) (hk : 6 ≤ k) (a b : Int) (ha : 0 ≤ a ∧ a < 256) (hb : 0 ≤ b ∧ b < 256) :
    qU.f k (([(⟨#[61, 61]⟩ : ByteArray), (⟨#[38, 38]⟩ : ByteArray), (⟨#[124, 124]⟩ : ByteArray), (⟨#[64, 61]⟩ : ByteArray)] : List ByteArray)) (strOfNums [a, b]) = some (Dt a b) := by
  obtain ⟨k, rfl⟩ : ∃ n, k = n + 6 := ⟨k - 6, by omega⟩;unfold qU.f qw.f;have e1 := (uF _ _).trans (yA a b ha hb 61 61 (by decide) (by decide));have e2 := (uF _ _).trans (yA a b ha hb 38 38 (by decide) (by decide));have e3 := (uF _ _).trans (yA a b ha hb 124 124 (by decide) (by decide));have e4 := (uF _ _).trans (yA a b ha hb 64 61 (by decide) (by decide));have r0 : xX ByteArray.empty ([(⟨#[61, 61]⟩ : ByteArray), (⟨#[38, 38]⟩ : ByteArray), (⟨#[124, 124]⟩ : ByteArray), (⟨#[64, 61]⟩ : ByteArray)] : List ByteArray) 0 = ⟨#[UInt8.ofNat 61, UInt8.ofNat 61]⟩ := rfl;have r1 : xX ByteArray.empty ([(⟨#[61, 61]⟩ : ByteArray), (⟨#[38, 38]⟩ : ByteArray), (⟨#[124, 124]⟩ : ByteArray), (⟨#[64, 61]⟩ : ByteArray)] : List ByteArray) 1 = ⟨#[UInt8.ofNat 38, UInt8.ofNat 38]⟩ := rfl;have r2 : xX ByteArray.empty ([(⟨#[61, 61]⟩ : ByteArray), (⟨#[38, 38]⟩ : ByteArray), (⟨#[124, 124]⟩ : ByteArray), (⟨#[64, 61]⟩ : ByteArray)] : List ByteArray) 2 = ⟨#[UInt8.ofNat 124, UInt8.ofNat 124]⟩ := rfl;have r3 : xX ByteArray.empty ([(⟨#[61, 61]⟩ : ByteArray), (⟨#[38, 38]⟩ : ByteArray), (⟨#[124, 124]⟩ : ByteArray), (⟨#[64, 61]⟩ : ByteArray)] : List ByteArray) 3 = ⟨#[UInt8.ofNat 64, UInt8.ofNat 61]⟩ := rfl;have w0 : wrap64 (0 + 1) = 1 := oC (by decide) (by decide);have w1 : wrap64 (1 + 1) = 2 := oC (by decide) (by decide);have w2 : wrap64 (2 + 1) = 3 := oC (by decide) (by decide);have w3 : wrap64 (3 + 1) = 4 := oC (by decide) (by decide);simp only [qw.l0, List.length_cons, List.length_nil];rw [if_pos (by decide), if_pos (by decide), r0];by_cases h1 : a = 61 ∧ b = 61
  · rw [if_pos (e1.2 h1)];simp [Dt, h1.1, h1.2]
  · rw [if_neg (fun h => h1 (e1.1 h)), w0, if_pos (by decide), if_pos (by decide), r1];by_cases h2 : a = 38 ∧ b = 38
    · rw [if_pos (e2.2 h2)];simp [Dt, h2.1, h2.2]
    · rw [if_neg (fun h => h2 (e2.1 h)), w1, if_pos (by decide), if_pos (by decide), r2];by_cases h3 : a = 124 ∧ b = 124
      · rw [if_pos (e3.2 h3)];simp [Dt, h3.1, h3.2]
      · rw [if_neg (fun h => h3 (e3.1 h)), w2, if_pos (by decide), if_pos (by decide), r3];by_cases h4 : a = 64 ∧ b = 61
        · rw [if_pos (e4.2 h4)];simp [Dt, h4.1, h4.2]
        · rw [if_neg (fun h => h4 (e4.1 h)), w3, if_neg (by decide)];have : Dt a b = false := by
            unfold Dt;simp only [Bool.or_eq_false_iff, Bool.and_eq_false_iff, beq_eq_false_iff_ne];omega
          simp [this]
theorem CG (k : Nat) (l : List Int) (hb : Bytes l) (hl : l.length ≤ 1000000000000000) (h0 : 0 < l.length) (hk : 2 * l.length + 10 < k) : tZ.f k l = some ((rZ l).1, ((rZ l).2 : Int)) := by
  match l, hb, hl, h0, hk with
  | c :: r, hb, hl, h0, hk =>
    have hc := hb c (by simp);have rc : rd (c :: r) 0 = c := rfl;unfold tZ.f;rw [if_pos (by simp), rc, zO, wz c hc.1 hc.2, xM];simp only [Option.bind_some];simp only [rZ];by_cases h1 : wF c = true
    · rw [if_pos h1, if_pos h1, EK k _ hb hl (by omega)]
      rfl
    · rw [if_neg h1, if_neg h1];by_cases h2 : c = 35
      · rw [if_pos h2, if_pos h2, FI k _ hb hl (by omega)]
        rfl
      · rw [if_neg h2, if_neg h2];by_cases h3 : uK c = true
        · rw [if_pos h3, if_pos h3, FM k _ hb hl (by omega)]
          rfl
        · rw [if_neg h3, if_neg h3];by_cases h4 : vO c = true
          · rw [if_pos h4, if_pos h4, EL k _ hb hl (by omega)]
            rfl
          · rw [if_neg h4, if_neg h4];obtain ⟨k, rfl⟩ : ∃ n, k = n + 1 := ⟨k - 1, by omega⟩;have ho := EM c hc.1 hc.2;have j0 : tZ.j0 (k + 1) (c :: r) false = some (if Dq c then (4, 1) else (5, 1)) := by
              simp only [tZ.j0];rw [if_neg (by decide), if_pos (by simp), rc];obtain ⟨t, ht, hd⟩ := Option.map_eq_some_iff.1 ho;rw [ht];simp only [Option.bind_some];by_cases h5 : t ≥ 0
              · rw [if_pos h5];simp only [h5, decide_true] at hd;simp [← hd]
              · rw [if_neg h5];simp only [h5, decide_false] at hd;simp [← hd]
            match r, hb, hl, hk, j0 with
            | [], hb, hl, hk, j0 =>
              rw [if_neg (by simp), j0];by_cases h5 : Dq c = true <;> simp [h5]
            | b :: r, hb, hl, hk, j0 =>
              have hbb := hb b (by simp);rw [if_pos (by simp; omega), if_pos (by simp; omega), show (c :: b :: r).take (Int.toNat 2) = [c, b] from rfl, zX (k + 1) (by omega) c b hc hbb];simp only [Option.bind_some];by_cases h6 : Dt c b = true
              · rw [h6];simp only [tZ.j0];simp
              · have h7 : Dt c b = false := by simpa using h6
                rw [h7, j0];by_cases h5 : Dq c = true <;> simp [h5]
def toks (p : Nat) (l : List Int) : List S28 :=
  match l with
  | [] => []
  | c :: r => (⟨(rZ (c :: r)).1, (p : Int), ((p + (rZ (c :: r)).2 : Nat) : Int)⟩ : S28) :: toks (p + (rZ (c :: r)).2) ((c :: r).drop (rZ (c :: r)).2)
termination_by l.length
decreasing_by
  have := zf c r;simp only [List.length_drop];omega
theorem wu (p : Nat) : toks p [] = [] := by rw [toks.eq_def]
theorem yB (p : Nat) (l : List Int) (h : 0 < l.length) : toks p l = (⟨(rZ l).1, (p : Int), ((p + (rZ l).2 : Nat) : Int)⟩ : S28) :: toks (p + (rZ l).2) (l.drop (rZ l).2) := by
  match l, h with
  | c :: r, _ => rw [toks.eq_def]
theorem xO (l : List Int) (h : 0 < l.length) : 1 ≤ (rZ l).2 ∧ (rZ l).2 ≤ l.length := by
  match l, h with
  | c :: r, _ => exact zf c r
theorem wV (d : Nat) : ∀ (p : Nat) (l : List Int), l.length ≤ d → (toks p l).length ≤ l.length := by
  induction d with
  | zero => intro p l h; rw [List.length_eq_zero_iff.1 (by omega : l.length = 0), wu]; simp
  | succ d ih =>
    intro p l h;by_cases h0 : 0 < l.length
    · have hf := xO l h0;rw [yB p l h0];have := ih (p + (rZ l).2) (l.drop (rZ l).2) (by rw [List.length_drop]; omega);rw [List.length_drop] at this;simp; omega
    · rw [List.length_eq_zero_iff.1 (by omega : l.length = 0), wu]; simp
theorem IY (l : List Int) (hb : Bytes l) (hl : l.length ≤ 1000000000000) (d : Nat) : ∀ (k p : Nat) (acc : List S28), p ≤ l.length → l.length - p ≤ d → d + 2 * l.length + 20 < k → acc.length ≤ p → uD.l0 k l acc (p : Int) = some (acc ++ toks p (l.drop p)) := by
  induction d with
  | zero =>
    intro k p acc hp hd hk ha;obtain ⟨k, rfl⟩ : ∃ n, k = n + 1 := ⟨k - 1, by omega⟩;simp only [uD.l0];rw [if_neg (by omega), List.drop_eq_nil_of_le (by omega), wu];simp
  | succ d ih =>
    intro k p acc hp hd hk ha;obtain ⟨k, rfl⟩ : ∃ n, k = n + 1 := ⟨k - 1, by omega⟩;simp only [uD.l0];by_cases h : p < l.length
    · have h0 : 0 < (l.drop p).length := by rw [List.length_drop]; omega
      have hf := xO (l.drop p) h0;have hf2 := hf.2;rw [List.length_drop] at hf2;rw [if_pos (by omega), if_pos (by omega), if_pos (by omega), Int.toNat_natCast, Option.bind_some, CG k (l.drop p) (hb.drop p) (by rw [List.length_drop]; omega) h0 (by rw [List.length_drop]; omega)];simp only [Option.bind_some];rw [if_pos (by omega), oC (by omega) (by omega)];have := ih k (p + (rZ (l.drop p)).2) (acc ++ [(⟨(rZ (l.drop p)).1, (p : Int), ((p + (rZ (l.drop p)).2 : Nat) : Int)⟩ : S28)]) (by omega) (by omega) (by omega) (by simp; omega);rw [show ((p : Int) + ((rZ (l.drop p)).2 : Int)) = ((p + (rZ (l.drop p)).2 : Nat) : Int) by omega, this, yB p (l.drop p) h0];simp [List.drop_drop, Nat.add_comm]
    · rw [if_neg (by omega), List.drop_eq_nil_of_le (by omega), wu];simp
theorem BM (k : Nat) (l : List Int) (hb : Bytes l) (hl : l.length ≤ 1000000000000) (hk : 3 * l.length + 20 < k) : uD.f k l = some (toks 0 l) := by
  have := IY l hb hl l.length k 0 [] (by omega) (by omega) (by omega) (by simp)
  simpa [uD.f] using this
def Dv : List S28 → Option S28
  | [] => none
  | t :: r => if t.f0 = 5 then some t else Dv r
theorem zA (l : List S28) (i : Nat) (h : i < l.length) : l.drop i = oO l (i : Int) :: l.drop (i + 1) := by
  rw [List.drop_eq_getElem_cons h];simp [oO, List.getD_eq_getElem?_getD, h]
theorem IZ (l : List S28) (hl : l.length ≤ 1000000000000) (d : Nat) : ∀ (k i : Nat), i ≤ l.length → l.length - i = d → d < k →
    (Dv (l.drop i) = none ∧ qA.l0 k l (i : Int) = some (-1)) ∨ ∃ j : Nat, i ≤ j ∧ j < l.length ∧ Dv (l.drop i) = some (oO l (j : Int)) ∧ qA.l0 k l (i : Int) = some (j : Int) := by
  induction d with
  | zero =>
    intro k i hi hd hk;obtain ⟨k, rfl⟩ : ∃ n, k = n + 1 := ⟨k - 1, by omega⟩;refine .inl ⟨by rw [List.drop_eq_nil_of_le (by omega)]; rfl, ?_⟩;simp only [qA.l0];rw [if_neg (by omega)]
  | succ d ih =>
    intro k i hi hd hk;obtain ⟨k, rfl⟩ : ∃ n, k = n + 1 := ⟨k - 1, by omega⟩;have hstep : qA.l0 (k + 1) l (i : Int) = if (oO l (i : Int)).f0 = 5 then some (i : Int) else qA.l0 k l (((i + 1 : Nat)) : Int) := by
      simp only [qA.l0];rw [if_pos (by omega), if_pos (by omega)];unfold xC.f;simp only [Option.bind_some];rw [oC (by omega) (by omega), show ((i : Int) + 1) = ((i + 1 : Nat) : Int) by omega];by_cases h : (oO l (i : Int)).f0 = 5
      · rw [if_pos (by simpa using h), if_pos h]
      · rw [if_neg (by simpa using h), if_neg h]
    rw [zA l i (by omega), hstep];simp only [Dv];by_cases h : (oO l (i : Int)).f0 = 5
    · rw [if_pos h, if_pos h];exact .inr ⟨i, by omega, by omega, rfl, rfl⟩
    · rw [if_neg h, if_neg h];rcases ih k (i + 1) (by omega) (by omega) (by omega) with ⟨h1, h2⟩ | ⟨j, h1, h2, h3, h4⟩
      · exact .inl ⟨h1, h2⟩
      · exact .inr ⟨j, by omega, h2, h3, h4⟩
theorem BN (k : Nat) (l : List S28) (hl : l.length ≤ 1000000000000) (hk : l.length < k) : xJ.f k l = some (match Dv l with | none => (0, 0, 0, false) | some t => (t.f0, t.f1, t.f2, true)) := by
  unfold xJ.f qA.f;rcases IZ l hl l.length k 0 (by omega) (by omega) hk with ⟨h1, h2⟩ | ⟨j, h1, h2, h3, h4⟩
  · have h2' : qA.l0 k l 0 = some (-1) := h2;rw [h2'];simp only [List.drop_zero] at h1;simp [h1]
  · have h4' : qA.l0 k l 0 = some (j : Int) := h4;rw [h4'];simp only [List.drop_zero] at h3;simp only [Option.bind_some, h3];rw [if_neg (by omega), if_pos (by omega), if_pos (by omega)]
def vw (l : List S28) : List S28 := l.filter fun t => t.f0 != 0 && t.f0 != 1
theorem Ht (l : List S28) (hl : l.length ≤ 1000000) (d : Nat) : ∀ (k i : Nat) (acc : List S28), i ≤ l.length → l.length - i = d → d < k → acc.length ≤ i → uf.l0 k l acc (i : Int) = some (acc ++ vw (l.drop i)) := by
  induction d with
  | zero =>
    intro k i acc hi hd hk ha;obtain ⟨k, rfl⟩ : ∃ n, k = n + 1 := ⟨k - 1, by omega⟩;simp only [uf.l0];rw [if_neg (by omega), List.drop_eq_nil_of_le (by omega)];simp [vw]
  | succ d ih =>
    intro k i acc hi hd hk ha;obtain ⟨k, rfl⟩ : ∃ n, k = n + 1 := ⟨k - 1, by omega⟩;simp only [uf.l0];rw [if_pos (by omega), if_pos (by omega), zA l i (by omega), oC (by omega) (by omega), show ((i : Int) + 1) = ((i + 1 : Nat) : Int) by omega];by_cases h0 : (oO l (i : Int)).f0 = 0
    · rw [if_pos h0, ih k (i + 1) acc (by omega) (by omega) (by omega) (by omega)];simp [vw, h0]
    · rw [if_neg h0];by_cases h1 : (oO l (i : Int)).f0 = 1
      · rw [if_pos h1, ih k (i + 1) acc (by omega) (by omega) (by omega) (by omega)];simp [vw, h1]
      · rw [if_neg h1, if_pos (by omega), Option.bind_some, ih k (i + 1) _ (by omega) (by omega) (by omega) (by simp; omega)];simp [vw, h0, h1]
theorem DX (k : Nat) (l : List S28) (hl : l.length ≤ 1000000) (hk : l.length < k) : uf.f k l = some (vw l) := by
  have := Ht l hl l.length k 0 [] (by omega) (by omega) hk (by simp)
  simpa [uf.f] using this
def Ev {α : Type} (F : Nat → Nat → Option α) (v : α) : Prop := ∃ n, ∀ K k, n ≤ K → n ≤ k → F K k = some v
def E1 {α : Type} (F : Nat → Option α) (v : α) : Prop := ∃ n, ∀ k, n ≤ k → F k = some v
theorem E1.k {α : Type} {F : Nat → Option α} {v : α} (h : E1 F v) : Ev (fun _ k => F k) v := by
  obtain ⟨n, h⟩ := h;exact ⟨n, fun K k _ hk => h k hk⟩
theorem E1.K {α : Type} {F : Nat → Option α} {v : α} (h : E1 F v) : Ev (fun K _ => F K) v := by
  obtain ⟨n, h⟩ := h;exact ⟨n, fun K k hK _ => h K hK⟩
theorem E1.add {α : Type} {F : Nat → Option α} {v : α} (h : E1 F v) (m : Nat) : Ev (fun _ k => F (k + m)) v := by
  obtain ⟨n, h⟩ := h;exact ⟨n, fun K k _ hk => h (k + m) (by omega)⟩
theorem Ev.add {α : Type} {F : Nat → Nat → Option α} {v : α} (h : Ev F v) (m : Nat) : Ev (fun K k => F K (k + m)) v := by
  obtain ⟨n, h⟩ := h;exact ⟨n, fun K k hK hk => h K (k + m) hK (by omega)⟩
theorem Ev.sub {α : Type} {F : Nat → Nat → Option α} {v : α} (m : Nat) (h : Ev (fun K k => F K (k + m)) v) : Ev F v := by
  obtain ⟨n, h⟩ := h;refine ⟨n + m, fun K k hK hk => ?_⟩;have := h K (k - m) (by omega) (by omega);dsimp only at this
  rwa [show k - m + m = k by omega] at this
theorem Ev.some {α : Type} {a b : α} (e : a = b) : Ev (fun _ _ => Option.some a) b := ⟨0, fun _ _ _ _ => by rw [e]⟩
theorem Ev.bind {α β : Type} {F : Nat → Nat → Option α} {G : α → Nat → Nat → Option β} {a : α} {b : β} (h : Ev F a) (g : Ev (G a) b) : Ev (fun K k => (F K k).bind fun x => G x K k) b := by
  obtain ⟨n, h⟩ := h;obtain ⟨m, g⟩ := g;exact ⟨n + m, fun K k hK hk => by dsimp only; rw [h K k (by omega) (by omega)]; exact g K k (by omega) (by omega)⟩
theorem Ev.diag {α : Type} {F : Nat → Nat → Option α} {v : α} (h : Ev F v) : E1 (fun k => F k k) v := by
  obtain ⟨n, h⟩ := h;exact ⟨n, fun k hk => h k k hk hk⟩
theorem Ev.out {α : Type} {F : Nat → Nat → Option α} {v : α} (h : Ev F v) : ∃ k, F k k = Option.some v := by
  obtain ⟨n, h⟩ := h;exact ⟨n, h n n (Nat.le_refl n) (Nat.le_refl n)⟩
theorem E1.succ {α : Type} {F : Nat → Option α} {G : Nat → Nat → Option α} {v : α} (h : Ev G v) (e : ∀ k, F (k + 1) = G k k) : E1 F v := by
  obtain ⟨n, h⟩ := h;refine ⟨n + 1, fun k hk => ?_⟩;obtain ⟨m, rfl⟩ : ∃ m, k = m + 1 := ⟨k - 1, by omega⟩;rw [e]; exact h m m (by omega) (by omega)
mutual
def ht : S44 → Nat
  | ⟨_, _, _, _, _, l⟩ => hts l + 1
def hts : List S44 → Nat
  | [] => 0
  | x :: l => max (ht x) (hts l)
end
mutual
def sz : S44 → Nat
  | ⟨_, _, _, _, _, l⟩ => szs l + 1
def szs : List S44 → Nat
  | [] => 0
  | x :: l => sz x + szs l
end
theorem DY (e : S44) : ht e = hts e.f5 + 1 := by cases e; rw [ht]
theorem yc (e : S44) : sz e = szs e.f5 + 1 := by cases e; rw [sz]
theorem BO : ∀ l : List S44, l.length ≤ szs l := by
  intro l
  induction l with
  | nil => exact Nat.le_refl _
  | cons x l ih => rw [szs, yc, List.length_cons]; omega
theorem I4 : ∀ (n : Nat), (∀ e, sz e ≤ n → ht e ≤ sz e) ∧ ∀ l, szs l ≤ n → hts l ≤ szs l := by
  intro n
  induction n with
  | zero =>
    refine ⟨fun e h => by rw [yc] at h; omega, fun l h => ?_⟩
    cases l with
    | nil => exact Nat.le_refl _
    | cons x l => rw [szs, yc] at h; omega
  | succ n ih =>
    have h1 : ∀ e, sz e ≤ n + 1 → ht e ≤ sz e := fun e h => by
      rw [yc] at h ⊢;rw [DY];have := ih.2 e.f5 (by omega);omega
    refine ⟨h1, fun l => ?_⟩
    induction l with
    | nil => intro _; exact Nat.le_refl _
    | cons x l ihl =>
      intro h;rw [szs] at h ⊢;rw [hts];have := h1 x (by omega);have := ihl (by omega);omega
theorem CJ (l : List S44) (x : S44) : hts (l ++ [x]) = max (hts l) (ht x) := by
  induction l with
  | nil => simp [hts]
  | cons y l ih => rw [List.cons_append, hts, hts, ih]; omega
theorem CO (l : List S44) (x : S44) : szs (l ++ [x]) = szs l + sz x := by
  induction l with
  | nil => simp [szs]
  | cons y l ih => rw [List.cons_append, szs, szs, ih]; omega
theorem BP (l : List S44) (i : Nat) (h : i < l.length) : l.drop i = oU l (i : Int) :: l.drop (i + 1) := by
  rw [List.drop_eq_getElem_cons h];simp [oU, List.getD_eq_getElem?_getD, h]
theorem EN {l : List S44} {i : Nat} (h : i < l.length) : sz (oU l (i : Int)) ≤ szs l := by
  have : ∀ (l : List S44) (x : S44), x ∈ l → sz x ≤ szs l := by
    intro l
    induction l with
    | nil => intro x hx; exact absurd hx (by simp)
    | cons y l ih =>
      intro x hx;rw [szs];rcases List.mem_cons.1 hx with rfl | hx
      · omega
      · have := ih x hx; omega
  refine this l _ ?_;have e : oU l (i : Int) = l[i] := by simp [oU, List.getD_eq_getElem?_getD, h]
  rw [e]; exact List.getElem_mem h
theorem DZ : ∀ (n : Nat) (e : S44), sz e ≤ n → sz e ≤ 1000000 → E1 (fun k => qC.f k e.f0 e.f1 e.f2 e.f3 e.f4 e.f5) (ht e : Int) := by
  intro n
  induction n with
  | zero => intro e h; rw [yc] at h; omega
  | succ n ih =>
    intro e h hn;rw [yc] at h hn;have hlen := BO e.f5;have hh := (I4 (szs e.f5)).2 e.f5 (Nat.le_refl _);have loop : ∀ (d i acc : Nat), i + d = e.f5.length → max acc (hts (e.f5.drop i)) = hts e.f5 → Ev (fun K k => qC.l0 (qM.at K) k e.f5 (acc : Int) (i : Int)) ((hts e.f5 + 1 : Nat) : Int) := by
      intro d
      induction d with
      | zero =>
        intro i acc hi hm;refine Ev.sub 1 ?_;simp only [qC.l0, if_neg (show ¬ (i : Int) < (e.f5.length : Int) by omega)];rw [List.drop_eq_nil_of_le (by omega), hts] at hm;exact Ev.some (by rw [oC (by omega) (by omega)]; omega)
      | succ d ihd =>
        intro i acc hi hm;have hil : i < e.f5.length := by omega
        have hs := EN hil;rw [BP e.f5 i hil, hts] at hm;refine Ev.sub 1 ?_;simp only [qC.l0, if_pos (show (i : Int) < (e.f5.length : Int) by omega), if_pos (show 0 ≤ (i : Int) by omega), oC (x := (i : Int) + 1) (by omega) (by omega)];refine Ev.bind (E1.K (ih (oU e.f5 (i : Int)) (by omega) (by omega))) ?_;have := ihd (i + 1) (max acc (ht (oU e.f5 (i : Int)))) (by omega) (by omega);rw [show ((i + 1 : Nat) : Int) = (i : Int) + 1 by omega] at this;have em : mx (acc : Int) (ht (oU e.f5 (i : Int)) : Int) = ((max acc (ht (oU e.f5 (i : Int))) : Nat) : Int) := by unfold mx; split <;> omega
        rw [em];exact this
    rw [DY];refine E1.succ (G := fun K k => qC.g (qM.at K) k e.f0 e.f1 e.f2 e.f3 e.f4 e.f5) ?_ (fun _ => rfl);simp only [qC.g];exact loop e.f5.length 0 0 (by omega) (by simp)
theorem zo {e : S44} (h : sz e ≤ 1000000) : E1 (fun k => qC.f k e.f0 e.f1 e.f2 e.f3 e.f4 e.f5) (ht e : Int) := DZ (sz e) e (Nat.le_refl _) h
structure TV where
  pk : Int → ByteArray
  ps : Int → Int
  nm : Int → Bool
def tv (l : List Int) (T : List S28) : TV := ⟨fun i => if 0 ≤ i ∧ i < (T.length : Int) then strOfNums ((l.take (oO T i).f2.toNat).drop (oO T i).f1.toNat) else ⟨#[]⟩, fun i => if 0 ≤ i ∧ i < (T.length : Int) then (oO T i).f1 else (l.length : Int), fun i => if 0 ≤ i ∧ i < (T.length : Int) then decide ((oO T i).f0 = 3) else false⟩
structure wJ (l : List Int) (T : List S28) : Prop where
  b : ∀ i : Int, 0 ≤ i → i < (T.length : Int) → 0 ≤ (oO T i).f1 ∧ (oO T i).f1 < (oO T i).f2 ∧ (oO T i).f2 ≤ (l.length : Int)
  o : ∀ i j : Int, 0 ≤ i → i < j → j < (T.length : Int) → (oO T i).f1 < (oO T j).f1
  n : T.length ≤ 100000
  m : l.length ≤ 100000
def lvS (s : ByteArray) : Int := if s = ⟨#[124, 124]⟩ then 1 else if s = ⟨#[38, 38]⟩ then 2 else if s = ⟨#[61, 61]⟩ then 3 else if s = ⟨#[60]⟩ then 3 else if s = ⟨#[43]⟩ then 4 else if s = ⟨#[45]⟩ then 4 else if s = ⟨#[42]⟩ then 5 else 0
theorem xP (s : ByteArray) : sG.f s = some (lvS s) := by
  unfold sG.f lvS;by_cases h1 : s = ⟨#[124, 124]⟩
  · rw [if_pos h1, if_pos h1]
  rw [if_neg h1, if_neg h1];by_cases h2 : s = ⟨#[38, 38]⟩
  · rw [if_pos h2, if_pos h2]
  rw [if_neg h2, if_neg h2];unfold sG.j1;by_cases h3 : s = ⟨#[61, 61]⟩
  · rw [if_pos h3, if_pos h3, if_pos rfl]
  rw [if_neg h3, if_neg h3];by_cases h4 : s = ⟨#[60]⟩
  · rw [if_pos h4, if_pos (decide_eq_true h4)]
  rw [if_neg h4, if_neg (by simpa using h4)];unfold sG.j0;by_cases h5 : s = ⟨#[43]⟩
  · rw [if_pos h5, if_pos h5, if_pos rfl]
  rw [if_neg h5, if_neg h5];by_cases h6 : s = ⟨#[45]⟩
  · rw [if_pos h6, if_pos (decide_eq_true h6)]
  rw [if_neg h6, if_neg (by simpa using h6)];by_cases h7 : s = ⟨#[42]⟩
  · rw [if_pos h7, if_pos h7]
  rw [if_neg h7, if_neg h7]
theorem EO : lvS ⟨#[]⟩ = 0 := by decide
theorem FN {c : Prop} [Decidable c] {b : Bool} {x : Option Bool} (h : ∃ q, x = some q) : ∃ q, (if c then some b else x) = some q := by
  by_cases hc : c
  · exact ⟨b, if_pos hc⟩
  · rw [if_neg hc]; exact h
theorem FP (s : ByteArray) : ∃ b, qI.f s = some b := by
  have j : ∀ b, qI.j0 b = some b := fun b => by cases b <;> rfl
  unfold qI.f;simp only [j]
  iterate 15 refine FN ?_
  exact ⟨_, rfl⟩
theorem xE (s : ByteArray) : (bytesOf s).length = s.size := by unfold bytesOf; rw [List.length_map]; rfl
theorem zh (s : ByteArray) : ∃ b, E1 (fun k => rO.f k s) b ∧ (b = true → s ≠ ⟨#[]⟩ ∧ s.size ≤ 24) := by
  have out : E1 (fun k => rO.j0 k s true) false := E1.succ (G := fun _ _ => some false) (Ev.some rfl) (fun k => by simp only [rO.j0, if_true]);by_cases h1 : s = ⟨#[]⟩
  · exact ⟨false, by simp only [rO.f, if_pos h1]; exact out, fun h => absurd h (by decide)⟩
  by_cases h2 : (s.size : Int) > 24
  · exact ⟨false, by simp only [rO.f, if_neg h1, if_pos h2]; exact out, fun h => absurd h (by decide)⟩
  obtain ⟨b, hb⟩ := FP s
  cases b with
  | true => exact ⟨false, by simp only [rO.f, if_neg h1, if_neg h2, hb, Option.bind_some, if_true]; exact out, fun h => absurd h (by decide)⟩
  | false =>
    have h3 : 0 < (s.size : Int) := by
      by_cases h : s.size = 0
      · exact absurd ((uF _ _).2 (by rw [Lib.toList_data, Lib.toList_data]; exact List.eq_nil_of_length_eq_zero (by rw [Array.length_toList]; exact h))) h1
      · omega
    have hr : 0 ≤ bt s 0 ∧ bt s 0 < 256 := by
      unfold bt;split
      · rename_i h; have := (s[(0 : Int).toNat]'h).toNat_lt; omega
      · omega
    refine ⟨uK (bt s 0) && decide (((bytesOf s).takeWhile wC).length = s.size), ?_, fun _ => ⟨h1, by omega⟩⟩;simp only [rO.f, if_neg h1, if_neg h2, hb, Option.bind_some, if_neg (show ¬ false = true by decide), if_pos h3, wz _ hr.1 hr.2]
    cases hl : uK (bt s 0) with
    | false => exact out
    | true =>
      refine ⟨2 * s.size + 3, fun k hk => ?_⟩;obtain ⟨k, rfl⟩ : ∃ n, k = n + 1 := ⟨k - 1, by omega⟩;have hlen := xE s;simp only [rO.j0, show (!true) = false from rfl, if_neg (show ¬ false = true by decide), if_pos (show s.size ≤ 9223372036854775807 by omega), Option.bind_some, BL k (bytesOf s) (xK s) (by omega) (by omega), Bool.true_and];congr 1;exact decide_eq_decide.mpr ⟨fun h => by omega, fun h => by omega⟩
noncomputable def idS (s : ByteArray) : Bool := Classical.choose (zh s)
theorem zQ (s : ByteArray) : E1 (fun k => rO.f k s) (idS s) := (Classical.choose_spec (zh s)).1
theorem xQ {s : ByteArray} (h : idS s = true) : s ≠ ⟨#[]⟩ ∧ s.size ≤ 24 := (Classical.choose_spec (zh s)).2 h
def EP : List Int → Int → Option Int
  | [], n => some n
  | d :: l, n => if n > wrap64 (Int.tdiv (wrap64 (9223372036854775807 - wrap64 ((d - 48) % 256))) 10) then none else EP l (wrap64 (wrap64 (10 * n) + wrap64 ((d - 48) % 256)))
section
variable {l : List Int} {T : List S28} {i d : Int}
theorem ER (i : Int) : (tv l T).pk i = if 0 ≤ i ∧ i < (T.length : Int) then strOfNums ((l.take (oO T i).f2.toNat).drop (oO T i).f1.toNat) else ⟨#[]⟩ := rfl
theorem D5 (i : Int) : (tv l T).ps i = if 0 ≤ i ∧ i < (T.length : Int) then (oO T i).f1 else (l.length : Int) := rfl
theorem FQ (i : Int) : (tv l T).nm i = if 0 ≤ i ∧ i < (T.length : Int) then decide ((oO T i).f0 = 3) else false := rfl
theorem peek (ok : wJ l T) (h : 0 ≤ i) : qg.f (some (⟨l, T, i, d⟩ : rP)) = some ((tv l T).pk i) := by
  rw [ER];simp only [qg.f, qV.f, yG, Option.bind_some];by_cases hi : i < (T.length : Int)
  · obtain ⟨a, b, c⟩ := ok.b i h hi;rw [if_neg (by simpa using hi), if_pos h, if_pos hi, if_pos ⟨h, hi⟩];unfold vk.f;rw [if_neg (by omega), if_neg (by omega), decide_eq_false (by omega)];unfold vk.j0;rw [if_neg (by decide), if_pos a, if_pos (by omega), if_pos c]
    rfl
  · rw [if_pos (by simpa using hi), if_neg (fun h => hi h.2)]
theorem pos (ok : wJ l T) (h : 0 ≤ i) : qL.f (some (⟨l, T, i, d⟩ : rP)) = some ((tv l T).ps i) := by
  rw [D5];simp only [qL.f, qV.f, yG, Option.bind_some];by_cases hi : i < (T.length : Int)
  · rw [if_neg (by simpa using hi), if_pos h, if_pos hi, if_pos ⟨h, hi⟩]
  · rw [if_pos (by simpa using hi), if_neg (fun h => hi h.2)]
theorem kind (h : 0 ≤ i) : ∃ q, tN.f (some (⟨l, T, i, d⟩ : rP)) = some q ∧ (q = 3 ↔ (tv l T).nm i = true) := by
  rw [FQ];simp only [tN.f, qV.f, yG, Option.bind_some];by_cases hi : i < (T.length : Int)
  · refine ⟨(oO T i).f0, by rw [if_neg (by simpa using hi), if_pos h, if_pos hi], ?_⟩;rw [if_pos ⟨h, hi⟩, decide_eq_true_iff]
  · exact ⟨0, by rw [if_pos (by simpa using hi)], by rw [if_neg (fun h => hi h.2)]; decide⟩
theorem JI {i : Int} (h : (tv l T).pk i ≠ ⟨#[]⟩) : i < (T.length : Int) := by
  by_cases hi : 0 ≤ i ∧ i < (T.length : Int)
  · exact hi.2
  · exact absurd (by rw [ER, if_neg hi]) h
theorem JJ {i : Int} (h : (tv l T).nm i = true) : i < (T.length : Int) := by
  by_cases hi : 0 ≤ i ∧ i < (T.length : Int)
  · exact hi.2
  · rw [FQ, if_neg hi] at h; exact absurd h (by decide)
theorem down (h : 0 ≤ i) (h1 : i ≤ 1000000) (d0 : 0 ≤ d) : qX.f l T i d = some (if 32 ≤ d then (12, i, d) else (0, i + 1, d + 1)) := by
  unfold qX.f;by_cases hd : 32 ≤ d
  · rw [if_pos hd, if_pos (by omega)]
  · rw [if_neg hd, if_neg (by omega), oC (by omega) (by omega), oC (by omega) (by omega)]
theorem xk (ok : wJ l T) (h : 0 ≤ i) (h1 : i ≤ 1000000) {s : ByteArray} (hs : s ≠ ⟨#[]⟩) : qo.f l T i d s = some (if (tv l T).pk i = s then (true, i + 1) else (false, i)) := by
  unfold qo.f;rw [if_neg hs, peek ok h, Option.bind_some];unfold qo.j0;by_cases hp : (tv l T).pk i = s
  · rw [decide_eq_true hp, if_pos hp, if_neg (by decide), oC (by omega) (by omega)]
  · rw [decide_eq_false hp, if_neg hp, if_pos (by decide)]
theorem end_ (ok : wJ l T) (h : 0 ≤ i) (h1 : i ≤ 1000000) (d0 : 0 ≤ d) (d1 : d ≤ 100) : rV.f l T i d = some (if (tv l T).pk i = ⟨#[41]⟩ then (0, i + 1, d - 1) else (11, i, d)) := by
  unfold rV.f;rw [xk ok h h1 (by decide), Option.bind_some];by_cases hp : (tv l T).pk i = ⟨#[41]⟩
  · rw [if_pos hp, if_pos hp]; dsimp only; rw [if_pos rfl, oC (by omega) (by omega)]
  · rw [if_neg hp, if_neg hp]; dsimp only; rw [if_neg (by decide)]
theorem yU (ok : wJ l T) (h : 0 ≤ i) (h1 : i ≤ 1000000) : E1 (fun k => qR.f k l T i d) (if idS ((tv l T).pk i) = true then ((tv l T).pk i, true, i + 1) else (⟨#[]⟩, false, i)) := by
  simp only [qR.f, peek ok h, Option.bind_some];refine Ev.diag (F := fun _ k => (rO.f k ((tv l T).pk i)).bind _) (Ev.bind (E1.k (zQ _)) ?_);by_cases hb : idS ((tv l T).pk i) = true
  · simp only [if_pos hb, oC (x := i + 1) (by omega) (by omega)]; exact Ev.some rfl
  · simp only [if_neg hb]; exact Ev.some rfl
theorem BQ {f0 f1 f2 told : Int} {f3 f4 : ByteArray} {f5 : List S44} (hs : szs f5 ≤ 500000) : E1 (fun k => qW.f k l T i d f0 f1 f2 f3 f4 f5 told) (if hts f5 + 1 > 32 then (0, 0, 0, ⟨#[]⟩, ⟨#[]⟩, [], 12, told) else (f0, f1, f2, f3, f4, f5, 0, i)) := by
  have h := zo (e := ⟨f0, f1, f2, f3, f4, f5⟩) (by rw [sz]; omega);rw [ht] at h;simp only [qW.f];refine Ev.diag (F := fun _ k => (qC.f k f0 f1 f2 f3 f4 f5).bind _) (Ev.bind (E1.k h) ?_);by_cases hh : hts f5 + 1 > 32
  · simp only [if_pos hh, if_pos (show ((hts f5 + 1 : Nat) : Int) > 32 by omega)]; exact Ev.some rfl
  · simp only [if_neg hh, if_neg (show ¬ ((hts f5 + 1 : Nat) : Int) > 32 by omega)]; exact Ev.some rfl
theorem ES (ok : wJ l T) (h : 0 ≤ i) (h1 : i ≤ 1000000) (hs : ((tv l T).pk i).size ≤ 1000000) : E1 (fun k => qE.f k l T i d) (match EP (bytesOf ((tv l T).pk i)) 0 with | none => (0, 0, 0, ⟨#[]⟩, ⟨#[]⟩, [], 18, i) | some v => (0, (tv l T).ps i, v, ⟨#[]⟩, ⟨#[]⟩, [], 0, i + 1)) := by
  have hlen := xE ((tv l T).pk i);have loop : ∀ (q p : Nat) (n : Int), p + q = (bytesOf ((tv l T).pk i)).length → E1 (fun k => qE.l0 k i d l T n (p : Int) (bytesOf ((tv l T).pk i))) (match EP ((bytesOf ((tv l T).pk i)).drop p) n with | none => (0, 0, 0, ⟨#[]⟩, ⟨#[]⟩, [], 18, i) | some v => (0, (tv l T).ps i, v, ⟨#[]⟩, ⟨#[]⟩, [], 0, i + 1)) := by
    intro q
    induction q with
    | zero =>
      intro p n hp;rw [List.drop_eq_nil_of_le (by omega)];refine E1.succ (G := fun _ _ => _) (Ev.some rfl) (fun k => ?_);simp only [qE.l0, if_neg (show ¬ (p : Int) < ((bytesOf ((tv l T).pk i)).length : Int) by omega), pos ok h, Option.bind_some, oC (x := i + 1) (by omega) (by omega), EP]
    | succ q ih =>
      intro p n hp;rw [vY _ p (by omega), EP];by_cases hc : n > wrap64 (Int.tdiv (wrap64 (9223372036854775807 - wrap64 ((rd (bytesOf ((tv l T).pk i)) (p : Int) - 48) % 256))) 10)
      · rw [if_pos hc];refine E1.succ (G := fun _ _ => _) (Ev.some rfl) (fun k => ?_);simp only [qE.l0, if_pos (show (p : Int) < ((bytesOf ((tv l T).pk i)).length : Int) by omega), if_pos (show 0 ≤ (p : Int) by omega), if_pos hc]
      · rw [if_neg hc];refine E1.succ (E1.k (ih (p + 1) _ (by omega))) (fun k => ?_);simp only [qE.l0, if_pos (show (p : Int) < ((bytesOf ((tv l T).pk i)).length : Int) by omega), if_pos (show 0 ≤ (p : Int) by omega), if_neg hc, oC (x := (p : Int) + 1) (by omega) (by omega), show ((p + 1 : Nat) : Int) = (p : Int) + 1 by omega]
  simp only [qE.f, peek ok h, Option.bind_some, if_pos (show ((tv l T).pk i).size ≤ 9223372036854775807 by omega)];exact loop (bytesOf ((tv l T).pk i)).length 0 0 (by omega)
end
inductive M where
  | bin (lv : Int) | lp (lv : Int) (e : S44) | sg | pr | gr | op | nd | ar (nm : ByteArray) (pos at0 : Int) (acc : List S44)
inductive Run (V : TV) : M → Int → Int → Int → Int → S44 → Prop
  | bin6 {at_ d err at1 e} : Run V .sg at_ d err at1 e → Run V (.bin 6) at_ d err at1 e
  | binE {lv at_ d err at1} : lv ≠ 6 → Run V (.bin (lv + 1)) at_ d err at1 z44 → err ≠ 0 → Run V (.bin lv) at_ d err at1 z44
  | bin {lv at_ d at1 e1 err at2 e2} : lv ≠ 6 → Run V (.bin (lv + 1)) at_ d 0 at1 e1 → Run V (.lp lv e1) at1 d err at2 e2 → Run V (.bin lv) at_ d err at2 e2
  | lpN {lv e at_ d} : lvS (V.pk at_) ≠ lv → Run V (.lp lv e) at_ d 0 at_ e
  | lpE {lv e at_ d err at1} : lvS (V.pk at_) = lv → Run V (.bin (lv + 1)) (at_ + 1) d err at1 z44 → err ≠ 0 → Run V (.lp lv e) at_ d err at1 z44
  | lpH {lv e at_ d at1 e1} : lvS (V.pk at_) = lv → Run V (.bin (lv + 1)) (at_ + 1) d 0 at1 e1 → hts [e, e1] + 1 > 32 → Run V (.lp lv e) at_ d 12 at_ z44
  | lp {lv e at_ d at1 e1 err at2 e2} : lvS (V.pk at_) = lv → Run V (.bin (lv + 1)) (at_ + 1) d 0 at1 e1 → ¬ hts [e, e1] + 1 > 32 → Run V (.lp lv ⟨5, e.f1, 0, V.pk at_, ⟨#[]⟩, [e, e1]⟩) at1 d err at2 e2 → Run V (.lp lv e) at_ d err at2 e2
  | sgP {at_ d err at1 e} : V.pk at_ ≠ ⟨#[33]⟩ → V.pk at_ ≠ ⟨#[45]⟩ → Run V .pr at_ d err at1 e → Run V .sg at_ d err at1 e
  | sgD {at_ d} : V.pk at_ = ⟨#[33]⟩ ∨ V.pk at_ = ⟨#[45]⟩ → 32 ≤ d → Run V .sg at_ d 12 at_ z44
  | sgE {at_ d err at1} : V.pk at_ = ⟨#[33]⟩ ∨ V.pk at_ = ⟨#[45]⟩ → ¬ 32 ≤ d → Run V .sg (at_ + 1) (d + 1) err at1 z44 → err ≠ 0 → Run V .sg at_ d err at1 z44
  | sgH {at_ d at1 e1} : V.pk at_ = ⟨#[33]⟩ ∨ V.pk at_ = ⟨#[45]⟩ → ¬ 32 ≤ d → Run V .sg (at_ + 1) (d + 1) 0 at1 e1 → hts [e1] + 1 > 32 → Run V .sg at_ d 12 at_ z44
  | sg {at_ d at1 e1} : V.pk at_ = ⟨#[33]⟩ ∨ V.pk at_ = ⟨#[45]⟩ → ¬ 32 ≤ d → Run V .sg (at_ + 1) (d + 1) 0 at1 e1 → ¬ hts [e1] + 1 > 32 → Run V .sg at_ d 0 at1 ⟨4, V.ps at_, 0, V.pk at_, ⟨#[]⟩, [e1]⟩
  | prO {at_ d} : V.nm at_ = true → EP (bytesOf (V.pk at_)) 0 = none → Run V .pr at_ d 18 at_ z44
  | prN {at_ d v} : V.nm at_ = true → EP (bytesOf (V.pk at_)) 0 = some v → Run V .pr at_ d 0 (at_ + 1) ⟨0, V.ps at_, v, ⟨#[]⟩, ⟨#[]⟩, []⟩
  | prT {at_ d} : ¬ V.nm at_ = true → V.pk at_ = ⟨#[116, 114, 117, 101]⟩ → Run V .pr at_ d 0 (at_ + 1) ⟨1, V.ps at_, 1, ⟨#[]⟩, ⟨#[]⟩, []⟩
  | prF {at_ d} : ¬ V.nm at_ = true → V.pk at_ = ⟨#[102, 97, 108, 115, 101]⟩ → Run V .pr at_ d 0 (at_ + 1) ⟨1, V.ps at_, 0, ⟨#[]⟩, ⟨#[]⟩, []⟩
  | prG {at_ d err at1 e} : ¬ V.nm at_ = true → V.pk at_ = ⟨#[40]⟩ → Run V .gr at_ d err at1 e → Run V .pr at_ d err at1 e
  | prD {at_ d err at1 e} : ¬ V.nm at_ = true → V.pk at_ = ⟨#[100, 101, 99, 108, 97, 115, 115, 105, 102, 121]⟩ → Run V .op at_ d err at1 e → Run V .pr at_ d err at1 e
  | prM {at_ d err at1 e} : ¬ V.nm at_ = true → V.pk at_ ≠ ⟨#[116, 114, 117, 101]⟩ → V.pk at_ ≠ ⟨#[102, 97, 108, 115, 101]⟩ → V.pk at_ ≠ ⟨#[40]⟩ → V.pk at_ ≠ ⟨#[100, 101, 99, 108, 97, 115, 115, 105, 102, 121]⟩ → Run V .nd at_ d err at1 e → Run V .pr at_ d err at1 e
  | grD {at_ d} : V.pk at_ = ⟨#[40]⟩ → 32 ≤ d → Run V .gr at_ d 12 at_ z44
  | grE {at_ d err at1} : V.pk at_ = ⟨#[40]⟩ → ¬ 32 ≤ d → Run V (.bin 1) (at_ + 1) (d + 1) err at1 z44 → err ≠ 0 → Run V .gr at_ d err at1 z44
  | grC {at_ d at1 e1} : V.pk at_ = ⟨#[40]⟩ → ¬ 32 ≤ d → Run V (.bin 1) (at_ + 1) (d + 1) 0 at1 e1 → V.pk at1 ≠ ⟨#[41]⟩ → Run V .gr at_ d 11 at1 z44
  | gr {at_ d at1 e1} : V.pk at_ = ⟨#[40]⟩ → ¬ 32 ≤ d → Run V (.bin 1) (at_ + 1) (d + 1) 0 at1 e1 → V.pk at1 = ⟨#[41]⟩ → Run V .gr at_ d 0 (at1 + 1) e1
  | opB {at_ d} : V.pk at_ ≠ ⟨#[]⟩ → V.pk (at_ + 1) ≠ ⟨#[40]⟩ → Run V .op at_ d 11 (at_ + 1) z44
  | opD {at_ d} : V.pk at_ ≠ ⟨#[]⟩ → V.pk (at_ + 1) = ⟨#[40]⟩ → 32 ≤ d → Run V .op at_ d 12 (at_ + 1) z44
  | opE {at_ d err at1} : V.pk at_ ≠ ⟨#[]⟩ → V.pk (at_ + 1) = ⟨#[40]⟩ → ¬ 32 ≤ d → Run V (.bin 1) (at_ + 1 + 1) (d + 1) err at1 z44 → err ≠ 0 → Run V .op at_ d err at1 z44
  | op1 {at_ d at1 e1} : V.pk at_ ≠ ⟨#[]⟩ → V.pk (at_ + 1) = ⟨#[40]⟩ → ¬ 32 ≤ d → Run V (.bin 1) (at_ + 1 + 1) (d + 1) 0 at1 e1 → V.pk at1 ≠ ⟨#[44]⟩ → Run V .op at_ d 11 at1 z44
  | op2 {at_ d at1 e1} : V.pk at_ ≠ ⟨#[]⟩ → V.pk (at_ + 1) = ⟨#[40]⟩ → ¬ 32 ≤ d → Run V (.bin 1) (at_ + 1 + 1) (d + 1) 0 at1 e1 → V.pk at1 = ⟨#[44]⟩ → V.pk (at1 + 1) ≠ ⟨#[64]⟩ → Run V .op at_ d 11 (at1 + 1) z44
  | op3 {at_ d at1 e1} : V.pk at_ ≠ ⟨#[]⟩ → V.pk (at_ + 1) = ⟨#[40]⟩ → ¬ 32 ≤ d → Run V (.bin 1) (at_ + 1 + 1) (d + 1) 0 at1 e1 → V.pk at1 = ⟨#[44]⟩ → V.pk (at1 + 1) = ⟨#[64]⟩ → ¬ idS (V.pk (at1 + 1 + 1)) = true → Run V .op at_ d 11 (at1 + 1 + 1) z44
  | op4 {at_ d at1 e1} : V.pk at_ ≠ ⟨#[]⟩ → V.pk (at_ + 1) = ⟨#[40]⟩ → ¬ 32 ≤ d → Run V (.bin 1) (at_ + 1 + 1) (d + 1) 0 at1 e1 → V.pk at1 = ⟨#[44]⟩ → V.pk (at1 + 1) = ⟨#[64]⟩ → idS (V.pk (at1 + 1 + 1)) = true → V.pk (at1 + 1 + 1 + 1) ≠ ⟨#[41]⟩ → Run V .op at_ d 11 (at1 + 1 + 1 + 1) z44
  | opH {at_ d at1 e1} : V.pk at_ ≠ ⟨#[]⟩ → V.pk (at_ + 1) = ⟨#[40]⟩ → ¬ 32 ≤ d → Run V (.bin 1) (at_ + 1 + 1) (d + 1) 0 at1 e1 → V.pk at1 = ⟨#[44]⟩ → V.pk (at1 + 1) = ⟨#[64]⟩ → idS (V.pk (at1 + 1 + 1)) = true → V.pk (at1 + 1 + 1 + 1) = ⟨#[41]⟩ → hts [e1] + 1 > 32 → Run V .op at_ d 12 at_ z44
  | op {at_ d at1 e1} : V.pk at_ ≠ ⟨#[]⟩ → V.pk (at_ + 1) = ⟨#[40]⟩ → ¬ 32 ≤ d → Run V (.bin 1) (at_ + 1 + 1) (d + 1) 0 at1 e1 → V.pk at1 = ⟨#[44]⟩ → V.pk (at1 + 1) = ⟨#[64]⟩ → idS (V.pk (at1 + 1 + 1)) = true → V.pk (at1 + 1 + 1 + 1) = ⟨#[41]⟩ → ¬ hts [e1] + 1 > 32 → Run V .op at_ d 0 (at1 + 1 + 1 + 1 + 1) ⟨6, V.ps at_, 0, ⟨#[]⟩, V.pk (at1 + 1 + 1), [e1]⟩
  | nd1 {at_ d} : ¬ idS (V.pk at_) = true → Run V .nd at_ d 11 at_ z44
  | nd2 {at_ d} : idS (V.pk at_) = true → V.pk (at_ + 1) = ⟨#[46]⟩ → ¬ idS (V.pk (at_ + 1 + 1)) = true → Run V .nd at_ d 11 (at_ + 1 + 1) z44
  | nd3 {at_ d k nm} : idS (V.pk at_) = true → (V.pk (at_ + 1) = ⟨#[46]⟩ ∧ idS (V.pk (at_ + 1 + 1)) = true ∧ k = at_ + 1 + 1 + 1 ∧ nm = V.pk at_ ++ ((⟨#[46]⟩ : ByteArray) ++ V.pk (at_ + 1 + 1)) ∨ V.pk (at_ + 1) ≠ ⟨#[46]⟩ ∧ k = at_ + 1 ∧ nm = V.pk at_) → V.pk k ≠ ⟨#[40]⟩ → Run V .nd at_ d 0 k ⟨2, V.ps at_, 0, nm, ⟨#[]⟩, []⟩
  | nd4 {at_ d k nm} : idS (V.pk at_) = true → (V.pk (at_ + 1) = ⟨#[46]⟩ ∧ idS (V.pk (at_ + 1 + 1)) = true ∧ k = at_ + 1 + 1 + 1 ∧ nm = V.pk at_ ++ ((⟨#[46]⟩ : ByteArray) ++ V.pk (at_ + 1 + 1)) ∨ V.pk (at_ + 1) ≠ ⟨#[46]⟩ ∧ k = at_ + 1 ∧ nm = V.pk at_) → V.pk k = ⟨#[40]⟩ → 32 ≤ d → Run V .nd at_ d 12 k z44
  | nd {at_ d k nm err at1 e} : idS (V.pk at_) = true → (V.pk (at_ + 1) = ⟨#[46]⟩ ∧ idS (V.pk (at_ + 1 + 1)) = true ∧ k = at_ + 1 + 1 + 1 ∧ nm = V.pk at_ ++ ((⟨#[46]⟩ : ByteArray) ++ V.pk (at_ + 1 + 1)) ∨ V.pk (at_ + 1) ≠ ⟨#[46]⟩ ∧ k = at_ + 1 ∧ nm = V.pk at_) → V.pk k = ⟨#[40]⟩ → ¬ 32 ≤ d → Run V (.ar nm (V.ps at_) at_ []) (k + 1) (d + 1) err at1 e → Run V .nd at_ d err at1 e
  | arH {nm pos at0 acc at_ d} : V.pk at_ = ⟨#[41]⟩ → hts acc + 1 > 32 → Run V (.ar nm pos at0 acc) at_ d 12 at0 z44
  | arC {nm pos at0 acc at_ d} : V.pk at_ = ⟨#[41]⟩ → ¬ hts acc + 1 > 32 → Run V (.ar nm pos at0 acc) at_ d 0 (at_ + 1) ⟨3, pos, 0, nm, ⟨#[]⟩, acc⟩
  | arN {nm pos at0 acc at_ d} : V.pk at_ ≠ ⟨#[41]⟩ → acc ≠ [] → V.pk at_ ≠ ⟨#[44]⟩ → Run V (.ar nm pos at0 acc) at_ d 11 at_ z44
  | arE {nm pos at0 acc at_ d k err at1} : V.pk at_ ≠ ⟨#[41]⟩ → (acc = [] ∧ k = at_ ∨ acc ≠ [] ∧ V.pk at_ = ⟨#[44]⟩ ∧ k = at_ + 1) → Run V (.bin 1) k d err at1 z44 → err ≠ 0 → Run V (.ar nm pos at0 acc) at_ d err at1 z44
  | ar {nm pos at0 acc at_ d k at1 e1 err at2 e2} : V.pk at_ ≠ ⟨#[41]⟩ → (acc = [] ∧ k = at_ ∨ acc ≠ [] ∧ V.pk at_ = ⟨#[44]⟩ ∧ k = at_ + 1) → Run V (.bin 1) k d 0 at1 e1 → Run V (.ar nm pos at0 (acc ++ [e1])) at1 d err at2 e2 → Run V (.ar nm pos at0 acc) at_ d err at2 e2
mutual
def InT (len : Int) : S44 → Prop
  | ⟨_, p, _, _, _, l⟩ => zi len p l
def zi (len p : Int) : List S44 → Prop
  | [] => True
  | x :: l => (p ≤ x.f1 ∧ x.f1 < len) ∧ InT len x ∧ zi len p l
end
theorem Ah (len : Int) (e : S44) : InT len e = zi len e.f1 e.f5 := by cases e; rw [InT]
theorem AY {len p : Int} {x : S44} : ∀ {l : List S44}, zi len p l → p ≤ x.f1 → x.f1 < len → InT len x → zi len p (l ++ [x]) := by
  intro l
  induction l with
  | nil => intro _ h1 h2 h3; rw [List.nil_append, zi, zi]; exact ⟨⟨h1, h2⟩, h3, trivial⟩
  | cons y l ih =>
    intro h h1 h2 h3;rw [zi] at h;rw [List.cons_append, zi];exact ⟨h.1, h.2.1, ih h.2.2 h1 h2 h3⟩
structure VF (V : TV) (n len : Int) : Prop where
  i : ∀ i, V.pk i ≠ ⟨#[]⟩ → i < n
  m : ∀ i, V.nm i = true → i < n
  o : ∀ i j, 0 ≤ i → i ≤ j → V.ps i ≤ V.ps j
  b : ∀ i, 0 ≤ i → i < n → 0 ≤ V.ps i ∧ V.ps i < len
  e : ∀ i, V.ps i ≤ len
def Gd (V : TV) (n len a b : Int) (e : S44) : Prop := ∃ s, a ≤ s ∧ s < b ∧ b ≤ n ∧ e.f1 = V.ps s ∧ hts e.f5 + 1 ≤ 32 ∧ InT len e ∧ (sz e : Int) ≤ b - a
def ROk (V : TV) (n len : Int) (m : M) (at_ err at1 : Int) (e : S44) : Prop :=
  match m with
  | .bin lv => 1 ≤ lv → (err = 0 → Gd V n len at_ at1 e) ∧ at_ ≤ at1 ∧ at1 ≤ n
  | .lp lv e0 => 1 ≤ lv → ∀ a0, 0 ≤ a0 → Gd V n len a0 at_ e0 → (err = 0 → Gd V n len a0 at1 e) ∧ at_ ≤ at1 ∧ at1 ≤ n
  | .sg => (err = 0 → Gd V n len at_ at1 e) ∧ at_ ≤ at1 ∧ at1 ≤ n
  | .pr => (err = 0 → Gd V n len at_ at1 e) ∧ at_ ≤ at1 ∧ at1 ≤ n
  | .gr => (err = 0 → Gd V n len at_ at1 e) ∧ at_ ≤ at1 ∧ at1 ≤ n
  | .op => (err = 0 → Gd V n len at_ at1 e) ∧ at_ ≤ at1 ∧ at1 ≤ n
  | .nd => (err = 0 → Gd V n len at_ at1 e) ∧ at_ ≤ at1 ∧ at1 ≤ n
  | .ar _ p at0 acc => p = V.ps at0 → 0 ≤ at0 → at0 < at_ → zi len p acc → hts acc ≤ 32 → (szs acc : Int) + 1 ≤ at_ - at0 → (err = 0 → Gd V n len at0 at1 e) ∧ at0 ≤ at1 ∧ at1 ≤ n
theorem AZ {V : TV} {n len a b : Int} {q v : Int} {s t : ByteArray} (h0 : a < b) (h1 : b ≤ n) : Gd V n len a b ⟨q, V.ps a, v, s, t, []⟩ := by
  refine ⟨a, Int.le_refl _, h0, h1, rfl, by rw [hts]; decide, by rw [Ah, zi]; trivial, ?_⟩;rw [yc, szs]; omega
theorem Gt {V : TV} {n len a b b' c : Int} {e1 : S44} {q v : Int} {s t : ByteArray} (F : VF V n len) (a0 : 0 ≤ a) (h0 : a < c) (g : Gd V n len c b e1) (hb : b ≤ b') (hb' : b' ≤ n) (hh : ¬ hts [e1] + 1 > 32) : Gd V n len a b' ⟨q, V.ps a, v, s, t, [e1]⟩ := by
  obtain ⟨s1, g1, g2, g3, g4, g5, g6, g7⟩ := g;refine ⟨a, Int.le_refl _, by omega, hb', rfl, by dsimp only; omega, ?_, ?_⟩
  · rw [Ah, zi, zi];dsimp only;exact ⟨⟨by rw [g4]; exact F.o _ _ a0 (by omega), by rw [g4]; exact (F.b s1 (by omega) (by omega)).2⟩, g6, trivial⟩
  · rw [yc, szs, szs]; omega
theorem ne_of {s t : ByteArray} (h : s = t) (ht : t ≠ ⟨#[]⟩) : s ≠ ⟨#[]⟩ := by rw [h]; exact ht
theorem zY {s : ByteArray} {lv : Int} (h : lvS s = lv) (h1 : 1 ≤ lv) : s ≠ ⟨#[]⟩ := fun e => by rw [e, EO] at h; omega
theorem xR {s : ByteArray} (h : s = ⟨#[33]⟩ ∨ s = ⟨#[45]⟩) : s ≠ ⟨#[]⟩ := by
  rcases h with h | h <;> rw [h] <;> decide
theorem named_ok {V : TV} {n len at_ k : Int} {nm : ByteArray} (F : VF V n len) (hi : idS (V.pk at_) = true) (h : V.pk (at_ + 1) = ⟨#[46]⟩ ∧ idS (V.pk (at_ + 1 + 1)) = true ∧ k = at_ + 1 + 1 + 1 ∧ nm = V.pk at_ ++ ((⟨#[46]⟩ : ByteArray) ++ V.pk (at_ + 1 + 1)) ∨ V.pk (at_ + 1) ≠ ⟨#[46]⟩ ∧ k = at_ + 1 ∧ nm = V.pk at_) : at_ < k ∧ k ≤ n ∧ k ≤ at_ + 3 := by
  rcases h with ⟨_, h2, h3, _⟩ | ⟨_, h3, _⟩
  · have := F.i _ (xQ h2).1; omega
  · have := F.i _ (xQ hi).1; omega
theorem tJ {V : TV} {n len : Int} (F : VF V n len) {m : M} {at_ d err at1 : Int} {e : S44} (h : Run V m at_ d err at1 e) : 0 ≤ at_ → at_ ≤ n → ROk V n len m at_ err at1 e := by
  induction h with
  | bin6 _ ih => intro h0 h1 _; exact ih h0 h1
  | binE _ _ he ih => intro h0 h1 hl; have := ih h0 h1 (by omega); exact ⟨fun h => absurd h he, this.2⟩
  | bin _ _ _ ih1 ih2 =>
    intro h0 h1 hl;have a := ih1 h0 h1 (by omega);have b := ih2 (by omega) a.2.2 hl _ h0 (a.1 rfl);exact ⟨b.1, by omega, b.2.2⟩
  | lpN _ => intro h0 h1 hl a0 _ hg; exact ⟨fun _ => hg, Int.le_refl _, h1⟩
  | lpE hv _ he ih =>
    intro h0 h1 hl a0 _ hg;have := F.i _ (zY hv hl);have a := ih (by omega) (by omega) (by omega);exact ⟨fun h => absurd h he, by omega, a.2.2⟩
  | lpH hv _ _ ih => intro h0 h1 hl a0 _ hg; exact ⟨fun h => absurd h (by decide), Int.le_refl _, h1⟩
  | lp hv _ hh _ ih1 ih2 =>
    intro h0 h1 hl a0 ha0 hg;have := F.i _ (zY hv hl);have a := ih1 (by omega) (by omega) (by omega);obtain ⟨s, s1, s2, s3, s4, s5, s6, s7⟩ := hg;obtain ⟨r, r1, r2, r3, r4, r5, r6, r7⟩ := a.1 rfl;have b := ih2 (by omega) a.2.2 hl a0 ha0 ⟨s, s1, by omega, a.2.2, s4, by dsimp only; omega, by
      rw [Ah, zi, zi, zi];dsimp only;exact ⟨⟨Int.le_refl _, by rw [s4]; exact (F.b s (by omega) (by omega)).2⟩, s6, ⟨by rw [s4, r4]; exact F.o _ _ (by omega) (by omega), by rw [r4]; exact (F.b r (by omega) (by omega)).2⟩, r6, trivial⟩, by rw [yc, szs, szs, szs]; omega⟩
    exact ⟨b.1, by omega, b.2.2⟩
  | sgP _ _ _ ih => intro h0 h1; exact ih h0 h1
  | sgD _ _ => intro h0 h1; exact ⟨fun h => absurd h (by decide), Int.le_refl _, h1⟩
  | sgE hs _ _ he ih =>
    intro h0 h1;have := F.i _ (xR hs);obtain ⟨a1, a2, a3⟩ := ih (by omega) (by omega);exact ⟨fun h => absurd h he, by omega, a3⟩
  | sgH _ _ _ _ => intro h0 h1; exact ⟨fun h => absurd h (by decide), Int.le_refl _, h1⟩
  | sg hs _ _ hh ih =>
    intro h0 h1;have := F.i _ (xR hs);obtain ⟨a1, a2, a3⟩ := ih (by omega) (by omega);exact ⟨fun _ => Gt F h0 (by omega) (a1 rfl) (Int.le_refl _) a3 hh, by omega, a3⟩
  | prO _ _ => intro h0 h1; exact ⟨fun h => absurd h (by decide), Int.le_refl _, h1⟩
  | prN hm _ => intro h0 h1; have := F.m _ hm; exact ⟨fun _ => AZ (by omega) (by omega), by omega, by omega⟩
  | prT _ hp => intro h0 h1; have := F.i _ (ne_of hp (by decide)); exact ⟨fun _ => AZ (by omega) (by omega), by omega, by omega⟩
  | prF _ hp => intro h0 h1; have := F.i _ (ne_of hp (by decide)); exact ⟨fun _ => AZ (by omega) (by omega), by omega, by omega⟩
  | prG _ _ _ ih => intro h0 h1; exact ih h0 h1
  | prD _ _ _ ih => intro h0 h1; exact ih h0 h1
  | prM _ _ _ _ _ _ ih => intro h0 h1; exact ih h0 h1
  | grD _ _ => intro h0 h1; exact ⟨fun h => absurd h (by decide), Int.le_refl _, h1⟩
  | grE hp _ _ he ih =>
    intro h0 h1;have := F.i _ (ne_of hp (by decide));have a := ih (by omega) (by omega) (Int.le_refl 1);exact ⟨fun h => absurd h he, by omega, a.2.2⟩
  | grC hp _ _ _ ih =>
    intro h0 h1;have := F.i _ (ne_of hp (by decide));have a := ih (by omega) (by omega) (Int.le_refl 1);exact ⟨fun h => absurd h (by decide), by omega, a.2.2⟩
  | gr hp _ _ hq ih =>
    intro h0 h1;have := F.i _ (ne_of hp (by decide));have hb := F.i _ (ne_of hq (by decide));have a := ih (by omega) (by omega) (Int.le_refl 1);obtain ⟨s, s1, s2, s3, s4, s5, s6, s7⟩ := a.1 rfl;exact ⟨fun _ => ⟨s, by omega, by omega, by omega, s4, s5, s6, by omega⟩, by omega, by omega⟩
  | opB hp _ => intro h0 h1; have := F.i _ hp; exact ⟨fun h => absurd h (by decide), by omega, by omega⟩
  | opD hp _ _ => intro h0 h1; have := F.i _ hp; exact ⟨fun h => absurd h (by decide), by omega, by omega⟩
  | opE _ hp _ _ he ih =>
    intro h0 h1;have := F.i _ (ne_of hp (by decide));have a := ih (by omega) (by omega) (Int.le_refl 1);exact ⟨fun h => absurd h he, by omega, a.2.2⟩
  | op1 _ hp _ _ _ ih =>
    intro h0 h1;have := F.i _ (ne_of hp (by decide));have a := ih (by omega) (by omega) (Int.le_refl 1);exact ⟨fun h => absurd h (by decide), by omega, a.2.2⟩
  | op2 _ hp _ _ hq _ ih =>
    intro h0 h1;have := F.i _ (ne_of hp (by decide));have hb := F.i _ (ne_of hq (by decide));have a := ih (by omega) (by omega) (Int.le_refl 1);exact ⟨fun h => absurd h (by decide), by omega, by omega⟩
  | op3 _ hp _ _ _ hq _ ih =>
    intro h0 h1;have := F.i _ (ne_of hp (by decide));have hb := F.i _ (ne_of hq (by decide));have a := ih (by omega) (by omega) (Int.le_refl 1);exact ⟨fun h => absurd h (by decide), by omega, by omega⟩
  | op4 _ hp _ _ _ _ hq _ ih =>
    intro h0 h1;have := F.i _ (ne_of hp (by decide));have hb := F.i _ (xQ hq).1;have a := ih (by omega) (by omega) (Int.le_refl 1);exact ⟨fun h => absurd h (by decide), by omega, by omega⟩
  | opH _ hp _ _ _ _ _ _ _ ih => intro h0 h1; exact ⟨fun h => absurd h (by decide), Int.le_refl _, h1⟩
  | op _ hp _ _ _ _ _ hq hh ih =>
    intro h0 h1;have := F.i _ (ne_of hp (by decide));have hb := F.i _ (ne_of hq (by decide));have a := ih (by omega) (by omega) (Int.le_refl 1);exact ⟨fun _ => Gt F h0 (by omega) (a.1 rfl) (by omega) (by omega) hh, by omega, by omega⟩
  | nd1 _ => intro h0 h1; exact ⟨fun h => absurd h (by decide), Int.le_refl _, h1⟩
  | nd2 _ hp _ => intro h0 h1; have := F.i _ (ne_of hp (by decide)); exact ⟨fun h => absurd h (by decide), by omega, by omega⟩
  | nd3 hi hk _ => intro h0 h1; have := named_ok F hi hk; exact ⟨fun _ => AZ (by omega) (by omega), by omega, by omega⟩
  | nd4 hi hk _ _ => intro h0 h1; have := named_ok F hi hk; exact ⟨fun h => absurd h (by decide), by omega, by omega⟩
  | nd hi hk hp _ _ ih =>
    intro h0 h1;have := named_ok F hi hk;have hb := F.i _ (ne_of hp (by decide));have a := ih (by omega) (by omega) rfl h0 (by omega) (by rw [zi]; trivial) (by rw [hts]; decide) (by rw [szs]; omega);exact ⟨a.1, by omega, a.2.2⟩
  | arH _ _ => intro h0 h1 _ _ ha _ _ _; exact ⟨fun h => absurd h (by decide), Int.le_refl _, by omega⟩
  | arC hp hh =>
    intro h0 h1 hps h3 h4 h5 h6 h7;have := F.i _ (ne_of hp (by decide));subst hps;exact ⟨fun _ => ⟨_, Int.le_refl _, by omega, by omega, rfl, by dsimp only; omega, by rw [Ah]; exact h5, by rw [yc]; dsimp only; omega⟩, by omega, by omega⟩
  | arN _ _ _ => intro h0 h1 _ _ ha _ _ _; exact ⟨fun h => absurd h (by decide), by omega, h1⟩
  | arE _ hk _ he ih =>
    intro h0 h1 hps h3 h4 h5 h6 h7;rcases hk with ⟨_, rfl⟩ | ⟨_, hq, rfl⟩
    · have a := ih (by omega) (by omega) (Int.le_refl 1);exact ⟨fun h => absurd h he, by omega, a.2.2⟩
    · have := F.i _ (ne_of hq (by decide));have a := ih (by omega) (by omega) (Int.le_refl 1);exact ⟨fun h => absurd h he, by omega, a.2.2⟩
  | @ar nm p at0 acc at_ d k at1 e1 err at2 e2 _ hk _ _ ih1 ih2 =>
    intro h0 h1 hps h3 h4 h5 h6 h7;have hkk : at_ ≤ k ∧ k ≤ n := by
      rcases hk with ⟨_, rfl⟩ | ⟨_, hq, rfl⟩
      · omega
      · have := F.i _ (ne_of hq (by decide)); omega
    have a := ih1 (by omega) (by omega) (Int.le_refl 1);obtain ⟨s, s1, s2, s3, s4, s5, s6, s7⟩ := a.1 rfl;have b := ih2 (by omega) (by omega) hps h3 (by omega) (AY h5 (by rw [hps, s4]; exact F.o _ _ h3 (by omega)) (by rw [s4]; exact (F.b s (by omega) (by omega)).2) s6) (by rw [CJ, DY]; omega) (by rw [CO]; omega);exact b
theorem ET {l : List Int} {T : List S28} (ok : wJ l T) : VF (tv l T) (T.length : Int) (l.length : Int) := by
  refine ⟨fun i h => JI h, fun i h => JJ h, fun i j h0 hij => ?_, fun i h0 h1 => ?_, fun i => ?_⟩
  · rw [D5 i, D5 j];by_cases hj : j < (T.length : Int)
    · rw [if_pos (show 0 ≤ j ∧ j < (T.length : Int) from ⟨by omega, hj⟩), if_pos (show 0 ≤ i ∧ i < (T.length : Int) from ⟨h0, by omega⟩)];by_cases e : i = j
      · rw [e]; exact Int.le_refl _
      · exact Int.le_of_lt (ok.o i j h0 (by omega) hj)
    · rw [if_neg (show ¬ (0 ≤ j ∧ j < (T.length : Int)) from fun h => hj h.2)];by_cases hi : 0 ≤ i ∧ i < (T.length : Int)
      · rw [if_pos hi]; have := ok.b i h0 hi.2; omega
      · rw [if_neg hi]; exact Int.le_refl _
  · rw [D5, if_pos ⟨h0, h1⟩]; have := ok.b i h0 h1; omega
  · rw [D5];by_cases hi : 0 ≤ i ∧ i < (T.length : Int)
    · rw [if_pos hi];have := ok.b i hi.1 hi.2; omega
    · rw [if_neg hi]; exact Int.le_refl _
theorem vK (e : S44) : (⟨e.f0, e.f1, e.f2, e.f3, e.f4, e.f5⟩ : S44) = e := by cases e; rfl
def out (e : S44) (err at1 dp : Int) : Int × Int × Int × ByteArray × ByteArray × List S44 × Int × Int × Int := (e.f0, e.f1, e.f2, e.f3, e.f4, e.f5, err, at1, dp)
def SDe (F : Int → Nat → Option (Int × Int × Int × ByteArray × ByteArray × List S44 × Int × Int × Int)) (d err at1 : Int) (e : S44) : Prop := ∃ dp, (err = 0 → dp = d) ∧ E1 (F d) (out e err at1 dp)
def SD (l : List Int) (T : List S28) (m : M) (at_ d err at1 : Int) (e : S44) : Prop :=
  match m with
  | .bin lv => 1 ≤ lv → lv ≤ 6 → SDe (fun d k => oG.f k l T at_ d lv) d err at1 e
  | .lp lv e0 => 1 ≤ lv → lv ≤ 5 → ∀ a0, 0 ≤ a0 → Gd (tv l T) (T.length : Int) (l.length : Int) a0 at_ e0 → ∃ dp, (err = 0 → dp = d) ∧ Ev (fun K k => oG.l0 (nZ.at K) k lv l T 0 at_ d e0.f0 e0.f1 e0.f2 e0.f3 e0.f4 e0.f5) (out e err at1 dp)
  | .sg => SDe (fun d k => o7.f k l T at_ d) d err at1 e
  | .pr => SDe (fun d k => oW.f k l T at_ d) d err at1 e
  | .gr => SDe (fun d k => pz.f k l T at_ d) d err at1 e
  | .op => SDe (fun d k => oI.f k l T at_ d) d err at1 e
  | .nd => SDe (fun d k => oK.f k l T at_ d) d err at1 e
  | .ar nm p at0 acc => p = (tv l T).ps at0 → 0 ≤ at0 → at0 < at_ → zi (l.length : Int) p acc → hts acc ≤ 32 → (szs acc : Int) + 1 ≤ at_ - at0 → 1 ≤ d → ∃ dp, (err = 0 → dp = d - 1) ∧ Ev (fun K k => oK.l0 (nZ.at K) k at0 l T p nm at_ d acc) (out e err at1 dp)
section
variable {l : List Int} {T : List S28}
theorem uG (ok : wJ l T) (i : Int) : ((tv l T).pk i).size ≤ 1000000 := by
  have hm := ok.m;rw [ER];split
  · rw [← xE];have : ∀ q : List Int, (bytesOf (strOfNums q)).length = q.length := fun q => by
      have := congrArg List.length (wL q);rw [Lib.toList_data, List.length_map] at this;unfold bytesOf;rw [List.length_map]; exact this
    rw [this, List.length_drop, List.length_take]; omega
  · decide
theorem sgn (ok : wJ l T) {at_ d : Int} {v} (h0 : 0 ≤ at_) (hs : (tv l T).pk at_ = ⟨#[33]⟩ ∨ (tv l T).pk at_ = ⟨#[45]⟩) (hj : Ev (fun K k => o7.j0 (nZ.at K) k at_ d l T ((tv l T).pk at_) ((tv l T).ps at_) false) v) : E1 (fun k => o7.f k l T at_ d) v := by
  refine E1.succ (G := fun K k => o7.g (nZ.at K) k l T at_ d) ?_ (fun _ => rfl);simp only [o7.g, peek ok h0, pos ok h0, Option.bind_some];by_cases h : (tv l T).pk at_ = ⟨#[33]⟩
  · simp only [if_pos h]; exact hj
  · have h45 : (tv l T).pk at_ = ⟨#[45]⟩ := by rcases hs with hs | hs; exact absurd hs h; exact hs
    simp only [if_neg h, decide_eq_true h45, show (!true) = false from rfl]; exact hj
theorem prm (ok : wJ l T) {at_ d : Int} {v} (h0 : 0 ≤ at_) (hn : ¬ (tv l T).nm at_ = true) {b : Bool} (hb : b = decide ((tv l T).pk at_ = ⟨#[116, 114, 117, 101]⟩ ∨ (tv l T).pk at_ = ⟨#[102, 97, 108, 115, 101]⟩)) (hj : Ev (fun K k => oW.j0 (nZ.at K) k at_ d l T ((tv l T).ps at_) ((tv l T).pk at_) b) v) : E1 (fun k => oW.f k l T at_ d) v := by
  refine E1.succ (G := fun K k => oW.g (nZ.at K) k l T at_ d) ?_ (fun _ => rfl);obtain ⟨q, hq, hq3⟩ := kind (l := l) (T := T) (d := d) h0;simp only [oW.g, peek ok h0, pos ok h0, hq, Option.bind_some, if_neg (show ¬ q = 3 from fun h => hn (hq3.1 h))];by_cases h : (tv l T).pk at_ = ⟨#[116, 114, 117, 101]⟩
  · rw [decide_eq_true (.inl h)] at hb;subst hb;simp only [if_pos h]; exact hj
  · by_cases h' : (tv l T).pk at_ = ⟨#[102, 97, 108, 115, 101]⟩
    · rw [decide_eq_true (.inr h')] at hb;subst hb;simp only [if_neg h, decide_eq_true h']; exact hj
    · rw [decide_eq_false (fun hh => hh.elim h h')] at hb;subst hb;simp only [if_neg h, decide_eq_false h']; exact hj
theorem nam (ok : wJ l T) {at_ d k : Int} {nm : ByteArray} {v} (h0 : 0 ≤ at_) (h1 : at_ ≤ (T.length : Int)) (hi : idS ((tv l T).pk at_) = true) (hk : (tv l T).pk (at_ + 1) = ⟨#[46]⟩ ∧ idS ((tv l T).pk (at_ + 1 + 1)) = true ∧ k = at_ + 1 + 1 + 1 ∧ nm = (tv l T).pk at_ ++ ((⟨#[46]⟩ : ByteArray) ++ (tv l T).pk (at_ + 1 + 1)) ∨ (tv l T).pk (at_ + 1) ≠ ⟨#[46]⟩ ∧ k = at_ + 1 ∧ nm = (tv l T).pk at_) (hj : Ev (fun K q => oK.j0 (nZ.at K) q at_ d l T ((tv l T).ps at_) k nm) v) : E1 (fun k => oK.f k l T at_ d) v := by
  have hn := ok.n;have i1 := yU (d := d) ok h0 (by omega);rw [if_pos hi] at i1;refine E1.succ (G := fun K k => oK.g (nZ.at K) k l T at_ d) ?_ (fun _ => rfl);simp only [oK.g, pos ok h0, Option.bind_some];refine Ev.bind (E1.k i1) ?_;simp only [if_true, xk (d := d) ok (show 0 ≤ at_ + 1 by omega) (by omega) (show (⟨#[46]⟩ : ByteArray) ≠ ⟨#[]⟩ by decide), Option.bind_some];rcases hk with ⟨h2, h3, rfl, rfl⟩ | ⟨h2, rfl, rfl⟩
  · have i2 := yU (d := d) ok (show 0 ≤ at_ + 1 + 1 by omega) (by omega);rw [if_pos h3] at i2;simp only [if_pos h2, if_true];refine Ev.bind (E1.k i2) ?_;have s1 := (xQ hi).2;have s2 := (xQ h3).2;have s3 : (⟨#[46]⟩ : ByteArray).size = 1 := rfl;have s4 : ((⟨#[46]⟩ : ByteArray) ++ (tv l T).pk (at_ + 1 + 1)).size = 1 + ((tv l T).pk (at_ + 1 + 1)).size := by rw [ByteArray.size_append, s3]
    simp only [if_true];rw [s3, s4];simp only [if_pos (show 1 + ((tv l T).pk (at_ + 1 + 1)).size ≤ 9223372036854775807 by omega), if_pos (show ((tv l T).pk at_).size + (1 + ((tv l T).pk (at_ + 1 + 1)).size) ≤ 9223372036854775807 by omega)];exact hj
  · simp only [if_neg h2, if_neg (show ¬ false = true by decide)];exact hj
theorem sound (ok : wJ l T) {m : M} {at_ d err at1 : Int} {e : S44} (h : Run (tv l T) m at_ d err at1 e) : 0 ≤ at_ → at_ ≤ (T.length : Int) → 0 ≤ d → d ≤ 33 → SD l T m at_ d err at1 e := by
  have F := ET ok;have hn := ok.n;have z0 : (0 : Int) = 0 := rfl;have ft : ¬ false = true := by decide
  induction h with
  | @bin6 at_ d err at1 e _ ih =>
    intro h0 h1 d0 d1 _ _;obtain ⟨dp, hd, hE⟩ := ih h0 h1 d0 d1;refine ⟨dp, hd, E1.succ (G := fun K k => oG.g (nZ.at K) k l T at_ d 6) ?_ (fun _ => rfl)⟩;simp only [oG.g, if_true];exact Ev.bind (E1.K hE) (Ev.some rfl)
  | @binE lv at_ d err at1 hl _ he ih =>
    intro h0 h1 d0 d1 l1 l6;obtain ⟨dp, hd, hE⟩ := ih h0 h1 d0 d1 (by omega) (by omega);refine ⟨dp, hd, E1.succ (G := fun K k => oG.g (nZ.at K) k l T at_ d lv) ?_ (fun _ => rfl)⟩;simp only [oG.g, if_neg hl, oC (x := lv + 1) (by omega) (by omega)];refine Ev.bind (E1.K hE) (Ev.sub 2 ?_);dsimp only [out];simp only [vK, if_true, oG.l0, oG.j0, if_neg he];exact Ev.some rfl
  | @bin lv at_ d at1 e1 err at2 e2 hl hr _ ih1 ih2 =>
    intro h0 h1 d0 d1 l1 l6;have ro := tJ F hr h0 h1 (by omega);obtain ⟨dp, hd, hE⟩ := ih1 h0 h1 d0 d1 (by omega) (by omega);have hdp := hd rfl;subst hdp;obtain ⟨dq, hq, hE2⟩ := ih2 (by omega) ro.2.2 d0 d1 l1 (by omega) _ h0 (ro.1 rfl);refine ⟨dq, hq, E1.succ (G := fun K k => oG.g (nZ.at K) k l T at_ dp lv) ?_ (fun _ => rfl)⟩;simp only [oG.g, if_neg hl, oC (x := lv + 1) (by omega) (by omega)];exact Ev.bind (E1.K hE) hE2
  | @lpN lv e at_ d hv =>
    intro h0 h1 d0 d1 l1 l5 a0 _ hg;refine ⟨d, fun _ => rfl, Ev.sub 2 ?_⟩;simp only [oG.l0, if_pos z0, peek ok h0, xP, Option.bind_some, if_neg hv, oG.j0];exact Ev.some rfl
  | @lpE lv e at_ d err at1 hv _ he ih =>
    intro h0 h1 d0 d1 l1 l5 a0 _ hg;have := F.i _ (zY hv l1);obtain ⟨dp, hd, hE⟩ := ih (by omega) (by omega) d0 d1 (by omega) (by omega);refine ⟨dp, fun h => absurd h he, Ev.sub 3 ?_⟩;simp only [oG.l0, if_pos z0, peek ok h0, xP, Option.bind_some, if_pos hv, oC (x := at_ + 1) (by omega) (by omega), oC (x := lv + 1) (by omega) (by omega)];refine Ev.bind (E1.K hE) ?_;dsimp only [out];simp only [vK, if_true, if_neg he, oG.j0];exact Ev.some rfl
  | @lpH lv e at_ d at1 e1 hv hr hh ih =>
    intro h0 h1 d0 d1 l1 l5 a0 ha0 hg;have := F.i _ (zY hv l1);have ro := tJ F hr (by omega) (by omega) (by omega);obtain ⟨dp, hd, hE⟩ := ih (by omega) (by omega) d0 d1 (by omega) (by omega);obtain ⟨_, _, _, _, _, _, _, s7⟩ := hg;obtain ⟨_, _, _, _, _, _, _, r7⟩ := ro.1 rfl;have hH := BQ (l := l) (T := T) (i := at1) (d := dp) (f0 := 5) (f1 := e.f1) (f2 := 0) (told := at_) (f3 := (tv l T).pk at_) (f4 := ⟨#[]⟩) (f5 := [e, e1]) (by rw [szs, szs, szs]; omega);rw [if_pos hh] at hH;refine ⟨dp, fun h => absurd h (by decide), Ev.sub 3 ?_⟩;simp only [oG.l0, if_pos z0, peek ok h0, xP, Option.bind_some, if_pos hv, oC (x := at_ + 1) (by omega) (by omega), oC (x := lv + 1) (by omega) (by omega)];refine Ev.bind (E1.K hE) ?_;dsimp only [out];simp only [vK, if_true, if_pos z0, Option.bind_some];refine Ev.bind (E1.add hH 2) ?_;simp only [if_neg (show ¬ (12 : Int) = 0 by decide), oG.j0];exact Ev.some rfl
  | @lp lv e at_ d at1 e1 err at2 e2 hv hr hh hr2 ih1 ih2 =>
    intro h0 h1 d0 d1 l1 l5 a0 ha0 hg;have := F.i _ (zY hv l1);have ro := tJ F hr (by omega) (by omega) (by omega);obtain ⟨dp, hd, hE⟩ := ih1 (by omega) (by omega) d0 d1 (by omega) (by omega);have hdp := hd rfl;subst hdp;have hg' := hg;obtain ⟨s, s1, s2, s3, s4, s5, s6, s7⟩ := hg;obtain ⟨r, r1, r2, r3, r4, r5, r6, r7⟩ := ro.1 rfl;obtain ⟨dq, hq, hE2⟩ := ih2 (by omega) ro.2.2 d0 d1 l1 l5 a0 ha0 ⟨s, s1, by omega, ro.2.2, s4, by dsimp only; omega, by
      rw [Ah, zi, zi, zi];dsimp only;exact ⟨⟨Int.le_refl _, by rw [s4]; exact (F.b s (by omega) (by omega)).2⟩, s6, ⟨by rw [s4, r4]; exact F.o _ _ (by omega) (by omega), by rw [r4]; exact (F.b r (by omega) (by omega)).2⟩, r6, trivial⟩, by rw [yc, szs, szs, szs]; omega⟩
    have hH := BQ (l := l) (T := T) (i := at1) (d := dp) (f0 := 5) (f1 := e.f1) (f2 := 0) (told := at_) (f3 := (tv l T).pk at_) (f4 := ⟨#[]⟩) (f5 := [e, e1]) (by rw [szs, szs, szs]; omega);rw [if_neg hh] at hH;refine ⟨dq, hq, Ev.sub 1 ?_⟩;simp only [oG.l0, if_pos z0, peek ok h0, xP, Option.bind_some, if_pos hv, oC (x := at_ + 1) (by omega) (by omega), oC (x := lv + 1) (by omega) (by omega)];refine Ev.bind (E1.K hE) ?_;dsimp only [out];simp only [vK, if_true, if_pos z0, Option.bind_some];refine Ev.bind (E1.k hH) ?_;exact hE2
  | @sgP at_ d err at1 e hp hq _ ih =>
    intro h0 h1 d0 d1;obtain ⟨dp, hd, hE⟩ := ih h0 h1 d0 d1;refine ⟨dp, hd, E1.succ (G := fun K k => o7.g (nZ.at K) k l T at_ d) ?_ (fun _ => rfl)⟩;simp only [o7.g, peek ok h0, pos ok h0, Option.bind_some, if_neg hp, decide_eq_false hq, show (!false) = true from rfl];refine Ev.sub 1 ?_;simp only [o7.j0, if_true];exact Ev.bind (E1.K hE) (Ev.some rfl)
  | @sgD at_ d hs hd =>
    intro h0 h1 d0 d1;refine ⟨d, fun _ => rfl, sgn ok h0 hs (Ev.sub 1 ?_)⟩;simp only [o7.j0, if_neg ft, down (l := l) (T := T) h0 (by omega) d0, if_pos hd, Option.bind_some, if_neg (show ¬ (12 : Int) = 0 by decide)];exact Ev.some rfl
  | @sgE at_ d err at1 hs hd _ he ih =>
    intro h0 h1 d0 d1;have := F.i _ (xR hs);obtain ⟨dp, hdp, hE⟩ := ih (by omega) (by omega) (by omega) (by omega);refine ⟨dp, fun h => absurd h he, sgn ok h0 hs (Ev.sub 1 ?_)⟩;simp only [o7.j0, if_neg ft, down (l := l) (T := T) h0 (by omega) d0, if_neg hd, Option.bind_some, if_pos z0];refine Ev.bind (E1.K hE) ?_;dsimp only [out];simp only [vK, if_true, if_neg he];exact Ev.some rfl
  | @sgH at_ d at1 e1 hs hd hr hh ih =>
    intro h0 h1 d0 d1;have := F.i _ (xR hs);obtain ⟨ro1, _, _⟩ := tJ F hr (by omega) (by omega);obtain ⟨_, _, _, _, _, _, _, r7⟩ := ro1 rfl;obtain ⟨dp, hdp, hE⟩ := ih (by omega) (by omega) (by omega) (by omega);have hq := hdp rfl;subst hq;have hH := BQ (l := l) (T := T) (i := at1) (d := d) (f0 := 4) (f1 := (tv l T).ps at_) (f2 := 0) (told := at_) (f3 := (tv l T).pk at_) (f4 := ⟨#[]⟩) (f5 := [e1]) (by rw [szs, szs]; omega);rw [if_pos hh] at hH;refine ⟨d, fun _ => rfl, sgn ok h0 hs (Ev.sub 1 ?_)⟩;simp only [o7.j0, if_neg ft, down (l := l) (T := T) h0 (by omega) d0, if_neg hd, Option.bind_some, if_pos z0];refine Ev.bind (E1.K hE) ?_;dsimp only [out];simp only [vK, if_true, if_pos z0, Option.bind_some, show d + 1 - 1 = d by omega, oC (x := d) (by omega) (by omega)];refine Ev.bind (E1.k hH) ?_;exact Ev.some rfl
  | @sg at_ d at1 e1 hs hd hr hh ih =>
    intro h0 h1 d0 d1;have := F.i _ (xR hs);obtain ⟨ro1, _, _⟩ := tJ F hr (by omega) (by omega);obtain ⟨_, _, _, _, _, _, _, r7⟩ := ro1 rfl;obtain ⟨dp, hdp, hE⟩ := ih (by omega) (by omega) (by omega) (by omega);have hq := hdp rfl;subst hq;have hH := BQ (l := l) (T := T) (i := at1) (d := d) (f0 := 4) (f1 := (tv l T).ps at_) (f2 := 0) (told := at_) (f3 := (tv l T).pk at_) (f4 := ⟨#[]⟩) (f5 := [e1]) (by rw [szs, szs]; omega);rw [if_neg hh] at hH;refine ⟨d, fun _ => rfl, sgn ok h0 hs (Ev.sub 1 ?_)⟩;simp only [o7.j0, if_neg ft, down (l := l) (T := T) h0 (by omega) d0, if_neg hd, Option.bind_some, if_pos z0];refine Ev.bind (E1.K hE) ?_;dsimp only [out];simp only [vK, if_true, if_pos z0, Option.bind_some, show d + 1 - 1 = d by omega, oC (x := d) (by omega) (by omega)];refine Ev.bind (E1.k hH) ?_;exact Ev.some rfl
  | @prO at_ d hm hv =>
    intro h0 h1 d0 d1;obtain ⟨q, hq, hq3⟩ := kind (l := l) (T := T) (d := d) h0;have hN := ES (d := d) ok h0 (by omega) (uG ok at_);rw [hv] at hN;refine ⟨d, fun _ => rfl, E1.succ (G := fun K k => oW.g (nZ.at K) k l T at_ d) ?_ (fun _ => rfl)⟩;simp only [oW.g, peek ok h0, pos ok h0, hq, Option.bind_some, if_pos (hq3.2 hm)];exact Ev.bind (E1.k hN) (Ev.some rfl)
  | @prN at_ d v hm hv =>
    intro h0 h1 d0 d1;obtain ⟨q, hq, hq3⟩ := kind (l := l) (T := T) (d := d) h0;have hN := ES (d := d) ok h0 (by omega) (uG ok at_);rw [hv] at hN;refine ⟨d, fun _ => rfl, E1.succ (G := fun K k => oW.g (nZ.at K) k l T at_ d) ?_ (fun _ => rfl)⟩;simp only [oW.g, peek ok h0, pos ok h0, hq, Option.bind_some, if_pos (hq3.2 hm)];exact Ev.bind (E1.k hN) (Ev.some rfl)
  | @prT at_ d hm hp =>
    intro h0 h1 d0 d1;refine ⟨d, fun _ => rfl, prm ok h0 hm (b := true) (decide_eq_true (.inl hp)).symm (Ev.sub 1 ?_)⟩;simp only [oW.j0, if_true, if_pos hp, oC (x := at_ + 1) (by omega) (by omega)];exact Ev.some rfl
  | @prF at_ d hm hp =>
    intro h0 h1 d0 d1;refine ⟨d, fun _ => rfl, prm ok h0 hm (b := true) (decide_eq_true (.inr hp)).symm (Ev.sub 1 ?_)⟩;simp only [oW.j0, if_true, if_neg (show ¬ (tv l T).pk at_ = ⟨#[116, 114, 117, 101]⟩ by rw [hp]; decide), oC (x := at_ + 1) (by omega) (by omega)];exact Ev.some rfl
  | @prG at_ d err at1 e hm hp _ ih =>
    intro h0 h1 d0 d1;obtain ⟨dp, hd, hE⟩ := ih h0 h1 d0 d1;refine ⟨dp, hd, prm ok h0 hm (b := false) (decide_eq_false (by rw [hp]; decide)).symm (Ev.sub 1 ?_)⟩;simp only [oW.j0, if_neg ft, if_pos hp];exact Ev.bind (E1.K hE) (Ev.some rfl)
  | @prD at_ d err at1 e hm hp _ ih =>
    intro h0 h1 d0 d1;obtain ⟨dp, hd, hE⟩ := ih h0 h1 d0 d1;refine ⟨dp, hd, prm ok h0 hm (b := false) (decide_eq_false (by rw [hp]; decide)).symm (Ev.sub 1 ?_)⟩;simp only [oW.j0, if_neg ft, if_neg (show ¬ (tv l T).pk at_ = ⟨#[40]⟩ by rw [hp]; decide), if_pos hp];exact Ev.bind (E1.K hE) (Ev.some rfl)
  | @prM at_ d err at1 e hm h2 h3 h4 h5 _ ih =>
    intro h0 h1 d0 d1;obtain ⟨dp, hd, hE⟩ := ih h0 h1 d0 d1;refine ⟨dp, hd, prm ok h0 hm (b := false) (decide_eq_false (fun h => h.elim h2 h3)).symm (Ev.sub 1 ?_)⟩;simp only [oW.j0, if_neg ft, if_neg h4, if_neg h5];exact Ev.bind (E1.K hE) (Ev.some rfl)
  | @grD at_ d hp hd =>
    intro h0 h1 d0 d1;refine ⟨d, fun _ => rfl, E1.succ (G := fun K k => pz.g (nZ.at K) k l T at_ d) ?_ (fun _ => rfl)⟩;simp only [pz.g, down (l := l) (T := T) h0 (by omega) d0, if_pos hd, Option.bind_some, if_neg (show ¬ (12 : Int) = 0 by decide)];exact Ev.some rfl
  | @grE at_ d err at1 hp hd _ he ih =>
    intro h0 h1 d0 d1;have := F.i _ (ne_of hp (by decide));obtain ⟨dp, hdp, hE⟩ := ih (by omega) (by omega) (by omega) (by omega) (by decide) (by decide);refine ⟨dp, fun h => absurd h he, E1.succ (G := fun K k => pz.g (nZ.at K) k l T at_ d) ?_ (fun _ => rfl)⟩;simp only [pz.g, down (l := l) (T := T) h0 (by omega) d0, if_neg hd, Option.bind_some, if_pos z0];refine Ev.bind (E1.K hE) (Ev.sub 1 ?_);dsimp only [out];simp only [vK, if_true, if_neg he, pz.j0];exact Ev.some rfl
  | @grC at_ d at1 e1 hp hd hr hq ih =>
    intro h0 h1 d0 d1;have := F.i _ (ne_of hp (by decide));have ro := tJ F hr (by omega) (by omega) (by decide);obtain ⟨dp, hdp, hE⟩ := ih (by omega) (by omega) (by omega) (by omega) (by decide) (by decide);have hdd := hdp rfl;subst hdd;refine ⟨d + 1, fun h => absurd h (by decide), E1.succ (G := fun K k => pz.g (nZ.at K) k l T at_ d) ?_ (fun _ => rfl)⟩;simp only [pz.g, down (l := l) (T := T) h0 (by omega) d0, if_neg hd, Option.bind_some, if_pos z0];refine Ev.bind (E1.K hE) (Ev.sub 1 ?_);dsimp only [out];simp only [vK, if_true, if_pos z0, end_ ok (show 0 ≤ at1 by omega) (by omega) (show 0 ≤ d + 1 by omega) (by omega), if_neg hq, Option.bind_some, pz.j0, if_neg (show ¬ (11 : Int) = 0 by decide)];exact Ev.some rfl
  | @gr at_ d at1 e1 hp hd hr hq ih =>
    intro h0 h1 d0 d1;have := F.i _ (ne_of hp (by decide));have ro := tJ F hr (by omega) (by omega) (by decide);obtain ⟨dp, hdp, hE⟩ := ih (by omega) (by omega) (by omega) (by omega) (by decide) (by decide);have hdd := hdp rfl;subst hdd;refine ⟨d, fun _ => rfl, E1.succ (G := fun K k => pz.g (nZ.at K) k l T at_ d) ?_ (fun _ => rfl)⟩;simp only [pz.g, down (l := l) (T := T) h0 (by omega) d0, if_neg hd, Option.bind_some, if_pos z0];refine Ev.bind (E1.K hE) (Ev.sub 1 ?_);dsimp only [out];simp only [vK, if_true, if_pos z0, end_ ok (show 0 ≤ at1 by omega) (by omega) (show 0 ≤ d + 1 by omega) (by omega), if_pos hq, Option.bind_some, pz.j0, show d + 1 - 1 = d by omega];exact Ev.some rfl
  | @opB at_ d hp hq =>
    intro h0 h1 d0 d1;refine ⟨d, fun _ => rfl, E1.succ (G := fun K k => oI.g (nZ.at K) k l T at_ d) ?_ (fun _ => rfl)⟩;simp only [oI.g, pos ok h0, oC (x := at_ + 1) (by omega) (by omega), peek ok (show 0 ≤ at_ + 1 by omega), Option.bind_some, if_neg hq];exact Ev.some rfl
  | @opD at_ d hp hq hd =>
    intro h0 h1 d0 d1;refine ⟨d, fun _ => rfl, E1.succ (G := fun K k => oI.g (nZ.at K) k l T at_ d) ?_ (fun _ => rfl)⟩;simp only [oI.g, pos ok h0, oC (x := at_ + 1) (by omega) (by omega), peek ok (show 0 ≤ at_ + 1 by omega), Option.bind_some, if_pos hq, down (l := l) (T := T) (show 0 ≤ at_ + 1 by omega) (by omega) d0, if_pos hd, if_neg (show ¬ (12 : Int) = 0 by decide)];exact Ev.some rfl
  | @opE at_ d err at1 hp hq hd _ he ih =>
    intro h0 h1 d0 d1;have := F.i _ (ne_of hq (by decide));obtain ⟨dp, hdp, hE⟩ := ih (by omega) (by omega) (by omega) (by omega) (by decide) (by decide);refine ⟨dp, fun h => absurd h he, E1.succ (G := fun K k => oI.g (nZ.at K) k l T at_ d) ?_ (fun _ => rfl)⟩;simp only [oI.g, pos ok h0, oC (x := at_ + 1) (by omega) (by omega), peek ok (show 0 ≤ at_ + 1 by omega), Option.bind_some, if_pos hq, down (l := l) (T := T) (show 0 ≤ at_ + 1 by omega) (by omega) d0, if_neg hd, if_pos z0];refine Ev.bind (E1.K hE) ?_;dsimp only [out];simp only [vK, if_true, if_neg he];exact Ev.some rfl
  | @op1 at_ d at1 e1 hp hq hd hr hx ih =>
    intro h0 h1 d0 d1;have := F.i _ (ne_of hq (by decide));have ro := tJ F hr (by omega) (by omega) (by decide);obtain ⟨dp, hdp, hE⟩ := ih (by omega) (by omega) (by omega) (by omega) (by decide) (by decide);refine ⟨dp, fun h => absurd h (by decide), E1.succ (G := fun K k => oI.g (nZ.at K) k l T at_ d) ?_ (fun _ => rfl)⟩;simp only [oI.g, pos ok h0, oC (x := at_ + 1) (by omega) (by omega), peek ok (show 0 ≤ at_ + 1 by omega), Option.bind_some, if_pos hq, down (l := l) (T := T) (show 0 ≤ at_ + 1 by omega) (by omega) d0, if_neg hd, if_pos z0];refine Ev.bind (E1.K hE) (Ev.sub 2 ?_);dsimp only [out];simp only [vK, if_true, if_pos z0, xk ok (show 0 ≤ at1 by omega) (by omega) (show (⟨#[44]⟩ : ByteArray) ≠ ⟨#[]⟩ by decide), if_neg hx, Option.bind_some, if_neg ft, oI.j1, oI.j0];exact Ev.some rfl
  | @op2 at_ d at1 e1 hp hq hd hr hx hy ih =>
    intro h0 h1 d0 d1;have := F.i _ (ne_of hq (by decide));have ro := tJ F hr (by omega) (by omega) (by decide);obtain ⟨dp, hdp, hE⟩ := ih (by omega) (by omega) (by omega) (by omega) (by decide) (by decide);refine ⟨dp, fun h => absurd h (by decide), E1.succ (G := fun K k => oI.g (nZ.at K) k l T at_ d) ?_ (fun _ => rfl)⟩;simp only [oI.g, pos ok h0, oC (x := at_ + 1) (by omega) (by omega), peek ok (show 0 ≤ at_ + 1 by omega), Option.bind_some, if_pos hq, down (l := l) (T := T) (show 0 ≤ at_ + 1 by omega) (by omega) d0, if_neg hd, if_pos z0];refine Ev.bind (E1.K hE) (Ev.sub 2 ?_);dsimp only [out];simp only [vK, if_true, if_pos z0, xk ok (show 0 ≤ at1 by omega) (by omega) (show (⟨#[44]⟩ : ByteArray) ≠ ⟨#[]⟩ by decide), if_pos hx, Option.bind_some, if_true, xk ok (show 0 ≤ at1 + 1 by omega) (by omega) (show (⟨#[64]⟩ : ByteArray) ≠ ⟨#[]⟩ by decide), if_neg hy, oI.j1, oI.j0, if_neg ft];exact Ev.some rfl
  | @op3 at_ d at1 e1 hp hq hd hr hx hy hz ih =>
    intro h0 h1 d0 d1;have := F.i _ (ne_of hq (by decide));have ro := tJ F hr (by omega) (by omega) (by decide);obtain ⟨dp, hdp, hE⟩ := ih (by omega) (by omega) (by omega) (by omega) (by decide) (by decide);have hI := yU (d := dp) ok (show 0 ≤ at1 + 1 + 1 by omega) (by omega);rw [if_neg hz] at hI;refine ⟨dp, fun h => absurd h (by decide), E1.succ (G := fun K k => oI.g (nZ.at K) k l T at_ d) ?_ (fun _ => rfl)⟩;simp only [oI.g, pos ok h0, oC (x := at_ + 1) (by omega) (by omega), peek ok (show 0 ≤ at_ + 1 by omega), Option.bind_some, if_pos hq, down (l := l) (T := T) (show 0 ≤ at_ + 1 by omega) (by omega) d0, if_neg hd, if_pos z0];refine Ev.bind (E1.K hE) (Ev.sub 2 ?_);dsimp only [out];simp only [vK, if_true, if_pos z0, xk ok (show 0 ≤ at1 by omega) (by omega) (show (⟨#[44]⟩ : ByteArray) ≠ ⟨#[]⟩ by decide), if_pos hx, Option.bind_some, if_true, xk ok (show 0 ≤ at1 + 1 by omega) (by omega) (show (⟨#[64]⟩ : ByteArray) ≠ ⟨#[]⟩ by decide), if_pos hy, oI.j1];refine Ev.bind (E1.add hI 1) ?_;simp only [oI.j0, if_neg ft];exact Ev.some rfl
  | @op4 at_ d at1 e1 hp hq hd hr hx hy hz hw ih =>
    intro h0 h1 d0 d1;have := F.i _ (ne_of hq (by decide));have ro := tJ F hr (by omega) (by omega) (by decide);obtain ⟨dp, hdp, hE⟩ := ih (by omega) (by omega) (by omega) (by omega) (by decide) (by decide);have hdd := hdp rfl;subst hdd;have hI := yU (d := d + 1) ok (show 0 ≤ at1 + 1 + 1 by omega) (by omega);rw [if_pos hz] at hI;refine ⟨d + 1, fun h => absurd h (by decide), E1.succ (G := fun K k => oI.g (nZ.at K) k l T at_ d) ?_ (fun _ => rfl)⟩;simp only [oI.g, pos ok h0, oC (x := at_ + 1) (by omega) (by omega), peek ok (show 0 ≤ at_ + 1 by omega), Option.bind_some, if_pos hq, down (l := l) (T := T) (show 0 ≤ at_ + 1 by omega) (by omega) d0, if_neg hd, if_pos z0];refine Ev.bind (E1.K hE) (Ev.sub 2 ?_);dsimp only [out];simp only [vK, if_true, if_pos z0, xk ok (show 0 ≤ at1 by omega) (by omega) (show (⟨#[44]⟩ : ByteArray) ≠ ⟨#[]⟩ by decide), if_pos hx, Option.bind_some, if_true, xk ok (show 0 ≤ at1 + 1 by omega) (by omega) (show (⟨#[64]⟩ : ByteArray) ≠ ⟨#[]⟩ by decide), if_pos hy, oI.j1];refine Ev.bind (E1.add hI 1) ?_;simp only [oI.j0, vK, if_true, end_ ok (show 0 ≤ at1 + 1 + 1 + 1 by omega) (by omega) (show 0 ≤ d + 1 by omega) (by omega), if_neg hw, Option.bind_some, if_neg (show ¬ (11 : Int) = 0 by decide)];exact Ev.some rfl
  | @opH at_ d at1 e1 hp hq hd hr hx hy hz hw hh ih =>
    intro h0 h1 d0 d1;have := F.i _ (ne_of hq (by decide));have ro := tJ F hr (by omega) (by omega) (by decide);obtain ⟨_, _, _, _, _, _, _, r7⟩ := ro.1 rfl;obtain ⟨dp, hdp, hE⟩ := ih (by omega) (by omega) (by omega) (by omega) (by decide) (by decide);have hdd := hdp rfl;subst hdd;have hI := yU (d := d + 1) ok (show 0 ≤ at1 + 1 + 1 by omega) (by omega);rw [if_pos hz] at hI;have hH := BQ (l := l) (T := T) (i := at1 + 1 + 1 + 1 + 1) (d := d) (f0 := 6) (f1 := (tv l T).ps at_) (f2 := 0) (told := at_) (f3 := ⟨#[]⟩) (f4 := (tv l T).pk (at1 + 1 + 1)) (f5 := [e1]) (by rw [szs, szs]; omega);rw [if_pos hh] at hH;refine ⟨d, fun _ => rfl, E1.succ (G := fun K k => oI.g (nZ.at K) k l T at_ d) ?_ (fun _ => rfl)⟩;simp only [oI.g, pos ok h0, oC (x := at_ + 1) (by omega) (by omega), peek ok (show 0 ≤ at_ + 1 by omega), Option.bind_some, if_pos hq, down (l := l) (T := T) (show 0 ≤ at_ + 1 by omega) (by omega) d0, if_neg hd, if_pos z0];refine Ev.bind (E1.K hE) (Ev.sub 2 ?_);dsimp only [out];simp only [vK, if_true, if_pos z0, xk ok (show 0 ≤ at1 by omega) (by omega) (show (⟨#[44]⟩ : ByteArray) ≠ ⟨#[]⟩ by decide), if_pos hx, Option.bind_some, if_true, xk ok (show 0 ≤ at1 + 1 by omega) (by omega) (show (⟨#[64]⟩ : ByteArray) ≠ ⟨#[]⟩ by decide), if_pos hy, oI.j1];refine Ev.bind (E1.add hI 1) ?_;simp only [oI.j0, vK, if_true, end_ ok (show 0 ≤ at1 + 1 + 1 + 1 by omega) (by omega) (show 0 ≤ d + 1 by omega) (by omega), if_pos hw, Option.bind_some, if_pos z0, show d + 1 - 1 = d by omega];exact Ev.bind (E1.k hH) (Ev.some rfl)
  | @op at_ d at1 e1 hp hq hd hr hx hy hz hw hh ih =>
    intro h0 h1 d0 d1;have := F.i _ (ne_of hq (by decide));have ro := tJ F hr (by omega) (by omega) (by decide);obtain ⟨_, _, _, _, _, _, _, r7⟩ := ro.1 rfl;obtain ⟨dp, hdp, hE⟩ := ih (by omega) (by omega) (by omega) (by omega) (by decide) (by decide);have hdd := hdp rfl;subst hdd;have hI := yU (d := d + 1) ok (show 0 ≤ at1 + 1 + 1 by omega) (by omega);rw [if_pos hz] at hI;have hH := BQ (l := l) (T := T) (i := at1 + 1 + 1 + 1 + 1) (d := d) (f0 := 6) (f1 := (tv l T).ps at_) (f2 := 0) (told := at_) (f3 := ⟨#[]⟩) (f4 := (tv l T).pk (at1 + 1 + 1)) (f5 := [e1]) (by rw [szs, szs]; omega);rw [if_neg hh] at hH;refine ⟨d, fun _ => rfl, E1.succ (G := fun K k => oI.g (nZ.at K) k l T at_ d) ?_ (fun _ => rfl)⟩;simp only [oI.g, pos ok h0, oC (x := at_ + 1) (by omega) (by omega), peek ok (show 0 ≤ at_ + 1 by omega), Option.bind_some, if_pos hq, down (l := l) (T := T) (show 0 ≤ at_ + 1 by omega) (by omega) d0, if_neg hd, if_pos z0];refine Ev.bind (E1.K hE) (Ev.sub 2 ?_);dsimp only [out];simp only [vK, if_true, if_pos z0, xk ok (show 0 ≤ at1 by omega) (by omega) (show (⟨#[44]⟩ : ByteArray) ≠ ⟨#[]⟩ by decide), if_pos hx, Option.bind_some, if_true, xk ok (show 0 ≤ at1 + 1 by omega) (by omega) (show (⟨#[64]⟩ : ByteArray) ≠ ⟨#[]⟩ by decide), if_pos hy, oI.j1];refine Ev.bind (E1.add hI 1) ?_;simp only [oI.j0, vK, if_true, end_ ok (show 0 ≤ at1 + 1 + 1 + 1 by omega) (by omega) (show 0 ≤ d + 1 by omega) (by omega), if_pos hw, Option.bind_some, if_pos z0, show d + 1 - 1 = d by omega];exact Ev.bind (E1.k hH) (Ev.some rfl)
  | @nd1 at_ d hi =>
    intro h0 h1 d0 d1;have i1 := yU (d := d) ok h0 (by omega);rw [if_neg hi] at i1;refine ⟨d, fun _ => rfl, E1.succ (G := fun K k => oK.g (nZ.at K) k l T at_ d) ?_ (fun _ => rfl)⟩;simp only [oK.g, pos ok h0, Option.bind_some];refine Ev.bind (E1.k i1) ?_;simp only [if_neg ft];exact Ev.some rfl
  | @nd2 at_ d hi hp hj =>
    intro h0 h1 d0 d1;have i1 := yU (d := d) ok h0 (by omega);rw [if_pos hi] at i1;have i2 := yU (d := d) ok (show 0 ≤ at_ + 1 + 1 by omega) (by omega);rw [if_neg hj] at i2;refine ⟨d, fun _ => rfl, E1.succ (G := fun K k => oK.g (nZ.at K) k l T at_ d) ?_ (fun _ => rfl)⟩;simp only [oK.g, pos ok h0, Option.bind_some];refine Ev.bind (E1.k i1) ?_;simp only [if_true, xk (d := d) ok (show 0 ≤ at_ + 1 by omega) (by omega) (show (⟨#[46]⟩ : ByteArray) ≠ ⟨#[]⟩ by decide), Option.bind_some, if_pos hp];refine Ev.bind (E1.k i2) ?_;simp only [if_neg ft];exact Ev.some rfl
  | @nd3 at_ d k nm hi hk hp =>
    intro h0 h1 d0 d1;have hkk := named_ok F hi hk;refine ⟨d, fun _ => rfl, nam ok h0 h1 hi hk (Ev.sub 1 ?_)⟩;simp only [oK.j0, peek ok (show 0 ≤ k by omega), Option.bind_some, if_neg hp];exact Ev.some rfl
  | @nd4 at_ d k nm hi hk hp hd =>
    intro h0 h1 d0 d1;have hkk := named_ok F hi hk;refine ⟨d, fun _ => rfl, nam ok h0 h1 hi hk (Ev.sub 1 ?_)⟩;simp only [oK.j0, peek ok (show 0 ≤ k by omega), Option.bind_some, if_pos hp, down (l := l) (T := T) (show 0 ≤ k by omega) (by omega) d0, if_pos hd, if_neg (show ¬ (12 : Int) = 0 by decide)];exact Ev.some rfl
  | @nd at_ d k nm err at1 e hi hk hp hd _ ih =>
    intro h0 h1 d0 d1;have hkk := named_ok F hi hk;have hb := F.i _ (ne_of hp (by decide));obtain ⟨dp, hdp, hE⟩ := ih (by omega) (by omega) (by omega) (by omega) rfl h0 (by omega) (by rw [zi]; trivial) (by rw [hts]; decide) (by rw [szs]; omega) (by omega);refine ⟨dp, fun h => by have := hdp h; omega, nam ok h0 h1 hi hk (Ev.sub 1 ?_)⟩;simp only [oK.j0, peek ok (show 0 ≤ k by omega), Option.bind_some, if_pos hp, down (l := l) (T := T) (show 0 ≤ k by omega) (by omega) d0, if_neg hd, if_pos z0];exact hE
  | @arH nm p at0 acc at_ d hp hh =>
    intro h0 h1 d0 d1 hps h3 h4 h5 h6 h7 hd1;have hH := BQ (l := l) (T := T) (i := at_ + 1) (d := d - 1) (f0 := 3) (f1 := p) (f2 := 0) (told := at0) (f3 := nm) (f4 := ⟨#[]⟩) (f5 := acc) (by omega);rw [if_pos hh] at hH;refine ⟨d - 1, fun _ => rfl, Ev.sub 1 ?_⟩;simp only [oK.l0, peek ok h0, Option.bind_some, if_pos hp, end_ ok h0 (by omega) d0 (by omega), if_pos z0];exact Ev.bind (E1.k hH) (Ev.some rfl)
  | @arC nm p at0 acc at_ d hp hh =>
    intro h0 h1 d0 d1 hps h3 h4 h5 h6 h7 hd1;have hH := BQ (l := l) (T := T) (i := at_ + 1) (d := d - 1) (f0 := 3) (f1 := p) (f2 := 0) (told := at0) (f3 := nm) (f4 := ⟨#[]⟩) (f5 := acc) (by omega);rw [if_neg hh] at hH;refine ⟨d - 1, fun _ => rfl, Ev.sub 1 ?_⟩;simp only [oK.l0, peek ok h0, Option.bind_some, if_pos hp, end_ ok h0 (by omega) d0 (by omega), if_pos z0];exact Ev.bind (E1.k hH) (Ev.some rfl)
  | @arN nm p at0 acc at_ d hp hne hc =>
    intro h0 h1 d0 d1 hps h3 h4 h5 h6 h7 hd1;have hl : (acc.length : Int) > 0 := by
      cases acc with
      | nil => exact absurd rfl hne
      | cons x a => rw [List.length_cons]; omega
    refine ⟨d, fun h => absurd h (by decide), Ev.sub 1 ?_⟩;simp only [oK.l0, peek ok h0, Option.bind_some, if_neg hp, if_pos hl, xk (d := d) ok h0 (by omega) (show (⟨#[44]⟩ : ByteArray) ≠ ⟨#[]⟩ by decide), if_neg hc, if_neg ft];exact Ev.some rfl
  | @arE nm p at0 acc at_ d k err at1 hp hk _ he ih =>
    intro h0 h1 d0 d1 hps h3 h4 h5 h6 h7 hd1;rcases hk with ⟨rfl, rfl⟩ | ⟨hne, hc, rfl⟩
    · obtain ⟨dp, hdp, hE⟩ := ih (by omega) (by omega) d0 d1 (by decide) (by decide);refine ⟨dp, fun h => absurd h he, Ev.sub 1 ?_⟩;simp only [oK.l0, peek ok h0, Option.bind_some, if_neg hp, List.length_nil, if_neg (show ¬ ((0 : Nat) : Int) > 0 by decide)];refine Ev.bind (E1.K hE) ?_;dsimp only [out];simp only [vK, if_true, if_neg he];exact Ev.some rfl
    · have hb := F.i _ (ne_of hc (by decide));have hl : (acc.length : Int) > 0 := by
        cases acc with
        | nil => exact absurd rfl hne
        | cons x a => rw [List.length_cons]; omega
      obtain ⟨dp, hdp, hE⟩ := ih (by omega) (by omega) d0 d1 (by decide) (by decide);refine ⟨dp, fun h => absurd h he, Ev.sub 1 ?_⟩;simp only [oK.l0, peek ok h0, Option.bind_some, if_neg hp, if_pos hl, xk (d := d) ok h0 (by omega) (show (⟨#[44]⟩ : ByteArray) ≠ ⟨#[]⟩ by decide), if_pos hc, if_true];refine Ev.bind (E1.K hE) ?_;dsimp only [out];simp only [vK, if_true, if_neg he];exact Ev.some rfl
  | @ar nm p at0 acc at_ d k at1 e1 err at2 e2 hp hk hr _ ih1 ih2 =>
    intro h0 h1 d0 d1 hps h3 h4 h5 h6 h7 hd1;have hkk : at_ ≤ k ∧ k ≤ (T.length : Int) := by
      rcases hk with ⟨_, rfl⟩ | ⟨_, hq, rfl⟩
      · omega
      · have := F.i _ (ne_of hq (by decide)); omega
    have ro := tJ F hr (by omega) (by omega) (Int.le_refl 1);obtain ⟨s, s1, s2, s3, s4, s5, s6, s7⟩ := ro.1 rfl;obtain ⟨dp, hdp, hE⟩ := ih1 (by omega) (by omega) d0 d1 (by decide) (by decide);have hdd := hdp rfl;subst hdd;obtain ⟨dq, hdq, hE2⟩ := ih2 (by omega) (by omega) d0 d1 hps h3 (by omega) (AY h5 (by rw [hps, s4]; exact F.o _ _ h3 (by omega)) (by rw [s4]; exact (F.b s (by omega) (by omega)).2) s6) (by rw [CJ, DY]; omega) (by rw [CO]; omega) hd1;have hln := BO acc;refine ⟨dq, hdq, Ev.sub 1 ?_⟩;rcases hk with ⟨rfl, rfl⟩ | ⟨hne, hc, rfl⟩
    · simp only [oK.l0, peek ok h0, Option.bind_some, if_neg hp, List.length_nil, if_neg (show ¬ ((0 : Nat) : Int) > 0 by decide)];refine Ev.bind (E1.K hE) ?_;dsimp only [out];simp only [vK, if_true, if_pos z0, if_pos (show 0 < 1759218604441 by decide), Option.bind_some];exact hE2
    · have hl : (acc.length : Int) > 0 := by
        cases acc with
        | nil => exact absurd rfl hne
        | cons x a => rw [List.length_cons]; omega
      simp only [oK.l0, peek ok h0, Option.bind_some, if_neg hp, if_pos hl, xk (d := dp) ok h0 (by omega) (show (⟨#[44]⟩ : ByteArray) ≠ ⟨#[]⟩ by decide), if_pos hc, if_true];refine Ev.bind (E1.K hE) ?_;dsimp only [out];simp only [vK, if_true, if_pos z0, if_pos (show acc.length < 1759218604441 by omega), Option.bind_some];exact hE2
end
theorem CP {V : TV} {m : M} {at_ d err at1 : Int} {e : S44} (h : Run V m at_ d err at1 e) : err ≠ 0 → e = z44 := by
  induction h with
  | bin6 _ ih => exact ih
  | bin _ _ _ _ ih => exact ih
  | lp _ _ _ _ _ ih => exact ih
  | sgP _ _ _ ih => exact ih
  | prG _ _ _ ih => exact ih
  | prD _ _ _ ih => exact ih
  | prM _ _ _ _ _ _ ih => exact ih
  | nd _ _ _ _ _ ih => exact ih
  | ar _ _ _ _ _ ih => exact ih
  | _ => first | exact fun _ => rfl | exact fun h => absurd rfl h
def Tot (V : TV) (n : Int) (m : M) (d : Int) : Prop := ∀ at_, 0 ≤ at_ → at_ ≤ n → ∃ err at1 e, Run V m at_ d err at1 e
section
variable {V : TV} {n len d : Int}
theorem I5 (F : VF V n len) (hB : Tot V n (.bin 1) (d + 1)) (nm : ByteArray) (p at0 : Int) : ∀ (z : Nat) (at_ : Int) (acc : List S44), 0 ≤ at_ → at_ ≤ n → n - at_ ≤ z → ∃ err at1 e, Run V (.ar nm p at0 acc) at_ (d + 1) err at1 e := by
  intro z
  induction z with
  | zero =>
    intro at_ acc h0 h1 hz;by_cases hp : V.pk at_ = ⟨#[41]⟩
    · have := F.i _ (ne_of hp (by decide)); omega
    by_cases ha : acc = []
    · obtain ⟨err, at1, e, hr⟩ := hB at_ h0 h1;by_cases he : err = 0
      · subst he;obtain ⟨s, s1, s2, s3, _⟩ := (tJ F hr h0 h1 (Int.le_refl 1)).1 rfl;omega
      · have := CP hr he; subst this;exact ⟨_, _, _, .arE hp (.inl ⟨ha, rfl⟩) hr he⟩
    · by_cases hc : V.pk at_ = ⟨#[44]⟩
      · have := F.i _ (ne_of hc (by decide)); omega
      · exact ⟨_, _, _, .arN hp ha hc⟩
  | succ z ih =>
    intro at_ acc h0 h1 hz;by_cases hp : V.pk at_ = ⟨#[41]⟩
    · by_cases hh : hts acc + 1 > 32
      · exact ⟨_, _, _, .arH hp hh⟩
      · exact ⟨_, _, _, .arC hp hh⟩
    have go : ∀ k, at_ ≤ k → k ≤ n → (acc = [] ∧ k = at_ ∨ acc ≠ [] ∧ V.pk at_ = ⟨#[44]⟩ ∧ k = at_ + 1) → ∃ err at1 e, Run V (.ar nm p at0 acc) at_ (d + 1) err at1 e := fun k k0 k1 hk => by
      obtain ⟨err, at1, e, hr⟩ := hB k (by omega) k1;by_cases he : err = 0
      · subst he;obtain ⟨s, s1, s2, s3, _⟩ := (tJ F hr (by omega) k1 (Int.le_refl 1)).1 rfl;obtain ⟨err2, at2, e2, hr2⟩ := ih at1 (acc ++ [e]) (by omega) s3 (by omega);exact ⟨_, _, _, .ar hp hk hr hr2⟩
      · have := CP hr he; subst this;exact ⟨_, _, _, .arE hp hk hr he⟩
    by_cases ha : acc = []
    · exact go at_ (Int.le_refl _) h1 (.inl ⟨ha, rfl⟩)
    · by_cases hc : V.pk at_ = ⟨#[44]⟩
      · have := F.i _ (ne_of hc (by decide));exact go (at_ + 1) (by omega) (by omega) (.inr ⟨ha, hc, rfl⟩)
      · exact ⟨_, _, _, .arN hp ha hc⟩
theorem I7 (F : VF V n len) (hB : ¬ 32 ≤ d → Tot V n (.bin 1) (d + 1)) {at_ : Int} (h0 : 0 ≤ at_) (hp : V.pk at_ = ⟨#[40]⟩) : ∃ err at1 e, Run V .gr at_ d err at1 e := by
  by_cases hd : 32 ≤ d
  · exact ⟨_, _, _, .grD hp hd⟩
  have := F.i _ (ne_of hp (by decide));obtain ⟨err, at1, e, hr⟩ := hB hd (at_ + 1) (by omega) (by omega);by_cases he : err = 0
  · subst he;by_cases hq : V.pk at1 = ⟨#[41]⟩
    · exact ⟨_, _, _, .gr hp hd hr hq⟩
    · exact ⟨_, _, _, .grC hp hd hr hq⟩
  · have := CP hr he; subst this;exact ⟨_, _, _, .grE hp hd hr he⟩
theorem I8 (F : VF V n len) (hB : ¬ 32 ≤ d → Tot V n (.bin 1) (d + 1)) {at_ : Int} (h0 : 0 ≤ at_) (hp : V.pk at_ ≠ ⟨#[]⟩) : ∃ err at1 e, Run V .op at_ d err at1 e := by
  by_cases hq : V.pk (at_ + 1) = ⟨#[40]⟩
  · by_cases hd : 32 ≤ d
    · exact ⟨_, _, _, .opD hp hq hd⟩
    have := F.i _ (ne_of hq (by decide));obtain ⟨err, at1, e, hr⟩ := hB hd (at_ + 1 + 1) (by omega) (by omega);by_cases he : err = 0
    · subst he;by_cases hx : V.pk at1 = ⟨#[44]⟩
      · by_cases hy : V.pk (at1 + 1) = ⟨#[64]⟩
        · by_cases hz : idS (V.pk (at1 + 1 + 1)) = true
          · by_cases hw : V.pk (at1 + 1 + 1 + 1) = ⟨#[41]⟩
            · by_cases hh : hts [e] + 1 > 32
              · exact ⟨_, _, _, .opH hp hq hd hr hx hy hz hw hh⟩
              · exact ⟨_, _, _, .op hp hq hd hr hx hy hz hw hh⟩
            · exact ⟨_, _, _, .op4 hp hq hd hr hx hy hz hw⟩
          · exact ⟨_, _, _, .op3 hp hq hd hr hx hy hz⟩
        · exact ⟨_, _, _, .op2 hp hq hd hr hx hy⟩
      · exact ⟨_, _, _, .op1 hp hq hd hr hx⟩
    · have := CP hr he; subst this;exact ⟨_, _, _, .opE hp hq hd hr he⟩
  · exact ⟨_, _, _, .opB hp hq⟩
theorem I9 (F : VF V n len) (hB : ¬ 32 ≤ d → Tot V n (.bin 1) (d + 1)) {at_ : Int} (h0 : 0 ≤ at_) : ∃ err at1 e, Run V .nd at_ d err at1 e := by
  by_cases hi : idS (V.pk at_) = true
  · have rest : ∀ k nm, (V.pk (at_ + 1) = ⟨#[46]⟩ ∧ idS (V.pk (at_ + 1 + 1)) = true ∧ k = at_ + 1 + 1 + 1 ∧ nm = V.pk at_ ++ ((⟨#[46]⟩ : ByteArray) ++ V.pk (at_ + 1 + 1)) ∨ V.pk (at_ + 1) ≠ ⟨#[46]⟩ ∧ k = at_ + 1 ∧ nm = V.pk at_) → ∃ err at1 e, Run V .nd at_ d err at1 e := fun k nm hk => by
      by_cases hp : V.pk k = ⟨#[40]⟩
      · by_cases hd : 32 ≤ d
        · exact ⟨_, _, _, .nd4 hi hk hp hd⟩
        · have hb := F.i _ (ne_of hp (by decide));have hn := named_ok F hi hk;obtain ⟨err, at1, e, hr⟩ := I5 F (hB hd) nm (V.ps at_) at_ (n - (k + 1)).toNat (k + 1) [] (by omega) (by omega) (by omega);exact ⟨_, _, _, .nd hi hk hp hd hr⟩
      · exact ⟨_, _, _, .nd3 hi hk hp⟩
    by_cases h2 : V.pk (at_ + 1) = ⟨#[46]⟩
    · by_cases h3 : idS (V.pk (at_ + 1 + 1)) = true
      · exact rest _ _ (.inl ⟨h2, h3, rfl, rfl⟩)
      · exact ⟨_, _, _, .nd2 hi h2 h3⟩
    · exact rest _ _ (.inr ⟨h2, rfl, rfl⟩)
  · exact ⟨_, _, _, .nd1 hi⟩
theorem Ja (F : VF V n len) (hB : ¬ 32 ≤ d → Tot V n (.bin 1) (d + 1)) : Tot V n .pr d := by
  intro at_ h0 h1;by_cases hm : V.nm at_ = true
  · cases hv : EP (bytesOf (V.pk at_)) 0 with
    | none => exact ⟨_, _, _, .prO hm hv⟩
    | some v => exact ⟨_, _, _, .prN hm hv⟩
  by_cases h2 : V.pk at_ = ⟨#[116, 114, 117, 101]⟩
  · exact ⟨_, _, _, .prT hm h2⟩
  by_cases h3 : V.pk at_ = ⟨#[102, 97, 108, 115, 101]⟩
  · exact ⟨_, _, _, .prF hm h3⟩
  by_cases h4 : V.pk at_ = ⟨#[40]⟩
  · obtain ⟨err, at1, e, hr⟩ := I7 F hB h0 h4;exact ⟨_, _, _, .prG hm h4 hr⟩
  by_cases h5 : V.pk at_ = ⟨#[100, 101, 99, 108, 97, 115, 115, 105, 102, 121]⟩
  · obtain ⟨err, at1, e, hr⟩ := I8 F hB h0 (ne_of h5 (by decide));exact ⟨_, _, _, .prD hm h5 hr⟩
  obtain ⟨err, at1, e, hr⟩ := I9 F hB h0;exact ⟨_, _, _, .prM hm h2 h3 h4 h5 hr⟩
theorem Gu (F : VF V n len) (hB : ¬ 32 ≤ d → Tot V n (.bin 1) (d + 1)) (hS : ¬ 32 ≤ d → Tot V n .sg (d + 1)) : Tot V n .sg d := by
  intro at_ h0 h1;by_cases hs : V.pk at_ = ⟨#[33]⟩ ∨ V.pk at_ = ⟨#[45]⟩
  · by_cases hd : 32 ≤ d
    · exact ⟨_, _, _, .sgD hs hd⟩
    have := F.i _ (xR hs);obtain ⟨err, at1, e, hr⟩ := hS hd (at_ + 1) (by omega) (by omega);by_cases he : err = 0
    · subst he;by_cases hh : hts [e] + 1 > 32
      · exact ⟨_, _, _, .sgH hs hd hr hh⟩
      · exact ⟨_, _, _, .sg hs hd hr hh⟩
    · have := CP hr he; subst this;exact ⟨_, _, _, .sgE hs hd hr he⟩
  · obtain ⟨err, at1, e, hr⟩ := Ja F hB at_ h0 h1;exact ⟨_, _, _, .sgP (fun h => hs (.inl h)) (fun h => hs (.inr h)) hr⟩
theorem Jb (F : VF V n len) {lv : Int} (l1 : 1 ≤ lv) (hB : Tot V n (.bin (lv + 1)) d) : ∀ (z : Nat) (at_ : Int) (e0 : S44), 0 ≤ at_ → at_ ≤ n → n - at_ ≤ z → ∃ err at1 e, Run V (.lp lv e0) at_ d err at1 e := by
  intro z
  induction z with
  | zero =>
    intro at_ e0 h0 h1 hz;refine ⟨_, _, _, .lpN (fun hv => ?_)⟩;have := F.i _ (zY hv l1); omega
  | succ z ih =>
    intro at_ e0 h0 h1 hz;by_cases hv : lvS (V.pk at_) = lv
    · have := F.i _ (zY hv l1);obtain ⟨err, at1, e, hr⟩ := hB (at_ + 1) (by omega) (by omega);by_cases he : err = 0
      · subst he;obtain ⟨s, s1, s2, s3, _⟩ := (tJ F hr (by omega) (by omega) (by omega)).1 rfl;by_cases hh : hts [e0, e] + 1 > 32
        · exact ⟨_, _, _, .lpH hv hr hh⟩
        · obtain ⟨err2, at2, e2, hr2⟩ := ih at1 ⟨5, e0.f1, 0, V.pk at_, ⟨#[]⟩, [e0, e]⟩ (by omega) s3 (by omega);exact ⟨_, _, _, .lp hv hr hh hr2⟩
      · have := CP hr he; subst this;exact ⟨_, _, _, .lpE hv hr he⟩
    · exact ⟨_, _, _, .lpN hv⟩
theorem EU (F : VF V n len) (hS : Tot V n .sg d) : ∀ (z : Nat) (lv : Int), 1 ≤ lv → lv + z = 6 → Tot V n (.bin lv) d := by
  intro z
  induction z with
  | zero =>
    intro lv l1 hz at_ h0 h1;have : lv = 6 := by omega
    subst this;obtain ⟨err, at1, e, hr⟩ := hS at_ h0 h1;exact ⟨_, _, _, .bin6 hr⟩
  | succ z ih =>
    intro lv l1 hz at_ h0 h1;have hB := ih (lv + 1) (by omega) (by omega);obtain ⟨err, at1, e, hr⟩ := hB at_ h0 h1;by_cases he : err = 0
    · subst he;have ro := tJ F hr h0 h1 (by omega);obtain ⟨err2, at2, e2, hr2⟩ := Jb F l1 hB (n - at1).toNat at1 e (by omega) ro.2.2 (by omega);exact ⟨_, _, _, .bin (by omega) hr hr2⟩
    · have := CP hr he; subst this;exact ⟨_, _, _, .binE (by omega) hr he⟩
theorem total (F : VF V n len) : ∀ (D : Nat) (d : Int), 0 ≤ d → d + D = 32 → Tot V n .sg d ∧ Tot V n (.bin 1) d := by
  intro D
  induction D with
  | zero =>
    intro d d0 hd;have h1 := Gu F (d := d) (fun h => absurd (by omega) h) (fun h => absurd (by omega) h);exact ⟨h1, EU F h1 5 1 (by decide) (by decide)⟩
  | succ D ih =>
    intro d d0 hd;obtain ⟨a, b⟩ := ih (d + 1) (by omega) (by omega);have h1 := Gu F (d := d) (fun _ => b) (fun _ => a);exact ⟨h1, EU F h1 5 1 (by decide) (by decide)⟩
end
theorem CQ : ∀ (d p : Nat) (l : List Int), l.length ≤ d → (∀ t, t ∈ toks p l → (p : Int) ≤ t.f1 ∧ t.f1 < t.f2 ∧ t.f2 ≤ (p : Int) + l.length) ∧ (toks p l).Pairwise (fun a b => a.f1 < b.f1) := by
  intro d
  induction d with
  | zero =>
    intro p l h;have : l = [] := List.eq_nil_of_length_eq_zero (by omega);subst this;rw [wu];exact ⟨fun t ht => absurd ht (by simp), List.Pairwise.nil⟩
  | succ d ih =>
    intro p l h;by_cases h0 : 0 < l.length
    · have hf := xO l h0;rw [yB p l h0];obtain ⟨a, b⟩ := ih (p + (rZ l).2) (l.drop (rZ l).2) (by rw [List.length_drop]; omega);rw [List.length_drop] at a;refine ⟨fun t ht => ?_, List.pairwise_cons.2 ⟨fun t ht => ?_, b⟩⟩
      · rcases List.mem_cons.1 ht with rfl | ht
        · dsimp only; omega
        · have := a t ht; omega
      · have := a t ht; dsimp only; omega
    · have : l = [] := List.eq_nil_of_length_eq_zero (by omega);subst this;rw [wu];exact ⟨fun t ht => absurd ht (by simp), List.Pairwise.nil⟩
theorem CS {l : List Int} (hl : l.length ≤ 100000) : wJ l (vw (toks 0 l)) := by
  obtain ⟨a, b⟩ := CQ l.length 0 l (Nat.le_refl _);have hn : (vw (toks 0 l)).length ≤ (toks 0 l).length := List.length_filter_le _ _;have hn2 := wV l.length 0 l (Nat.le_refl _);have hp : (vw (toks 0 l)).Pairwise (fun a b => a.f1 < b.f1) := List.Pairwise.filter _ b;have at_ : ∀ (i : Nat) (h : i < (vw (toks 0 l)).length), oO (vw (toks 0 l)) (i : Int) = (vw (toks 0 l))[i] := fun i h => by
    unfold oO;rw [List.getD_eq_getElem?_getD, Int.toNat_natCast, List.getElem?_eq_getElem h]; rfl
  refine ⟨fun i h0 h1 => ?_, fun i j h0 hij h1 => ?_, by omega, hl⟩
  · have e := at_ i.toNat (by omega);rw [show ((i.toNat : Nat) : Int) = i by omega] at e;rw [e];have := a _ (List.mem_filter.1 (List.getElem_mem (show i.toNat < (vw (toks 0 l)).length by omega))).1;omega
  · have e := at_ i.toNat (by omega);have e' := at_ j.toNat (by omega);rw [show ((i.toNat : Nat) : Int) = i by omega] at e;rw [show ((j.toNat : Nat) : Int) = j by omega] at e';rw [e, e'];exact List.pairwise_iff_getElem.1 hp i.toNat j.toNat (by omega) (by omega) (by omega)
theorem EW {l : List Int} (hb : Bytes l) (hl : l.length ≤ 100000) {t : S28} (h : Dv (toks 0 l) = some t) : E1 (fun k => qK.f k l) (0, 0, 0, ⟨#[]⟩, ⟨#[]⟩, [], t.f1, 10) := by
  have hn2 := wV l.length 0 l (Nat.le_refl _);have hA : E1 (fun k => uD.f k l) (toks 0 l) := ⟨3 * l.length + 21, fun k hk => BM k l hb (by omega) (by omega)⟩;have hB : E1 (fun k => xJ.f k (toks 0 l)) (t.f0, t.f1, t.f2, true) := ⟨(toks 0 l).length + 1, fun k hk => by dsimp only; rw [BN k _ (by omega) (by omega), h]⟩;refine Ev.diag (F := fun _ k => qK.f k l) ?_;simp only [qK.f];refine Ev.bind (E1.k hA) (Ev.bind (E1.k hB) ?_);simp only [if_true];exact Ev.some rfl
theorem EX {l : List Int} (hb : Bytes l) (hl : l.length ≤ 100000) (h : Dv (toks 0 l) = none) {err at1 : Int} {e : S44} (hr : Run (tv l (vw (toks 0 l))) (.bin 1) 0 0 err at1 e) : E1 (fun k => qK.f k l) (if err = 0 ∧ ((vw (toks 0 l)).length : Int) ≤ at1 then (e.f0, e.f1, e.f2, e.f3, e.f4, e.f5, (l.length : Int), 0) else (0, 0, 0, ⟨#[]⟩, ⟨#[]⟩, [], (tv l (vw (toks 0 l))).ps at1, if err = 0 then 11 else err)) := by
  have hn2 := wV l.length 0 l (Nat.le_refl _);have ok := CS hl;have hA : E1 (fun k => uD.f k l) (toks 0 l) := ⟨3 * l.length + 21, fun k hk => BM k l hb (by omega) (by omega)⟩;have hB : E1 (fun k => xJ.f k (toks 0 l)) (0, 0, 0, false) := ⟨(toks 0 l).length + 1, fun k hk => by dsimp only; rw [BN k _ (by omega) (by omega), h]⟩;have hL : E1 (fun k => uf.f k (toks 0 l)) (vw (toks 0 l)) := ⟨(toks 0 l).length + 1, fun k hk => DX k _ (by omega) (by omega)⟩;have ro := tJ (ET ok) hr (Int.le_refl 0) (by omega) (Int.le_refl 1);obtain ⟨dp, _, hE⟩ := sound ok hr (Int.le_refl 0) (by omega) (Int.le_refl 0) (by decide) (Int.le_refl 1) (by decide);have hP : E1 (fun k => sV.f k l (vw (toks 0 l)) 0 0) (e.f0, e.f1, e.f2, e.f3, e.f4, e.f5, err, at1) := by
    refine Ev.diag (F := fun _ k => sV.f k l (vw (toks 0 l)) 0 0) ?_;simp only [sV.f];refine Ev.bind (E1.k hE) ?_;exact Ev.some rfl
  have hN : E1 (fun k => wX.f k l) (l, vw (toks 0 l), 0, 0) := by
    refine Ev.diag (F := fun _ k => wX.f k l) ?_;simp only [wX.f, sN.f, if_pos (show l.length < 140737488355328 by omega), Option.bind_some];exact Ev.bind (E1.k hA) (Ev.bind (E1.k hL) (Ev.some rfl))
  generalize vw (toks 0 l) = T at hr ok ro hP hN hL ⊢;refine Ev.diag (F := fun _ k => qK.f k l) ?_;simp only [qK.f];refine Ev.bind (E1.k hA) (Ev.bind (E1.k hB) ?_);simp only [if_neg (show ¬ false = true by decide)];refine Ev.bind (E1.k hN) (Ev.bind (E1.k hP) ?_);dsimp only;by_cases he : err = 0
  · simp only [if_pos he, qV.f, yG, Option.bind_some];by_cases hd : (T.length : Int) ≤ at1
    · rw [if_pos ⟨he, hd⟩];simp only [decide_eq_true (show at1 ≥ (T.length : Int) from hd), show (!true) = false from rfl];refine Ev.sub 2 ?_;simp only [qK.j1, if_neg (show ¬ false = true by decide), qK.j0, if_pos he];exact Ev.some rfl
    · rw [if_neg (fun h => hd h.2)];simp only [decide_eq_false (show ¬ at1 ≥ (T.length : Int) from hd), show (!false) = true from rfl];refine Ev.sub 2 ?_;simp only [qK.j1, if_true, qK.j0, if_neg (show ¬ (11 : Int) = 0 by decide), pos ok (show 0 ≤ at1 by omega), Option.bind_some];exact Ev.some rfl
  · simp only [if_neg he];rw [if_neg (fun h => he h.1)];refine Ev.sub 2 ?_;simp only [qK.j1, if_neg (show ¬ false = true by decide), qK.j0, if_neg he, pos ok (show 0 ≤ at1 by omega), Option.bind_some];exact Ev.some rfl
theorem parse_any {l : List Int} (hl : l.length ≤ 100000) : ∃ err at1 e, Run (tv l (vw (toks 0 l))) (.bin 1) 0 0 err at1 e := (total (ET (CS hl)) 32 0 (Int.le_refl 0) (by decide)).2 0 (Int.le_refl 0) (by omega)
def yg (e : S44) (err at1 : Int) : Int × Int × Int × ByteArray × ByteArray × List S44 × Int × Int := (e.f0, e.f1, e.f2, e.f3, e.f4, e.f5, at1, err)
def SR (s : ByteArray) (l : List Int) (T : List S28) (m : M) (at_ d err at1 : Int) (e : S44) : Prop :=
  match m with
  | .bin lv => 1 ≤ lv → lv ≤ 6 → E1 (fun k => oJ.f k s T at_ lv d) (yg e err at1)
  | .lp lv e0 => 1 ≤ lv → lv ≤ 5 → ∀ a0, 0 ≤ a0 → Gd (tv l T) (T.length : Int) (l.length : Int) a0 at_ e0 → Ev (fun K k => oJ.l0 (nY.at K) k s lv d T e0.f0 e0.f1 e0.f2 e0.f3 e0.f4 e0.f5 at_ 0) (yg e err at1)
  | .sg => E1 (fun k => oN.f k s T at_ d) (yg e err at1)
  | .pr => E1 (fun k => oq.f k s T at_ d) (yg e err at1)
  | .gr => ¬ (tv l T).nm at_ = true → E1 (fun k => oq.f k s T at_ d) (yg e err at1)
  | .op => E1 (fun k => oD.f k s T at_ d) (yg e err at1)
  | .nd => E1 (fun k => ou.f k s T at_ d) (yg e err at1)
  | .ar nm p at0 acc => p = (tv l T).ps at0 → 0 ≤ at0 → at0 < at_ → zi (l.length : Int) p acc → hts acc ≤ 32 → (szs acc : Int) + 1 ≤ at_ - at0 → 1 ≤ d → Ev (fun K k => ou.l0 (nY.at K) k s at0 (d - 1) T p nm at_ acc) (yg e err at1)
section
variable {l : List Int} {T : List S28} {i d : Int}
theorem yV (l : List Int) : (strOfNums l).size = l.length := by
  have := congrArg List.length (wL l);rw [Lib.toList_data, List.length_map] at this;rw [← this]; rfl
theorem CU (l : List Int) (a b : Nat) : (strOfNums l).extract a b = strOfNums ((l.take b).drop a) := by
  rw [uF, wL, Lib.toList_data];have h := wL l;rw [Lib.toList_data] at h;rw [ByteArray.data_extract, Array.toList_extract, h, List.map_drop, List.map_take, List.extract_eq_take_drop, List.drop_take]
theorem rat (ok : wJ l T) (h : 0 ≤ i) : oL.f (strOfNums l) T i = some ((tv l T).pk i) := by
  rw [ER];unfold oL.f oL.j0;rw [if_neg (by omega)];by_cases hi : i < (T.length : Int)
  · obtain ⟨a, b, c⟩ := ok.b i h hi;rw [decide_eq_false (by omega), if_neg (by decide), if_pos h, if_pos hi, if_pos a, if_pos (by omega), if_pos (by rw [yV]; exact c), if_pos ⟨h, hi⟩, CU]
  · rw [decide_eq_true (by omega), if_pos rfl, if_neg (fun h => hi h.2)]
theorem rpos (ok : wJ l T) (h : 0 ≤ i) : pJ.f (strOfNums l) T i = some ((tv l T).ps i) := by
  rw [D5];unfold pJ.f;by_cases hi : i < (T.length : Int)
  · rw [if_neg (by omega), if_pos h, if_pos hi, if_pos ⟨h, hi⟩]
  · rw [if_pos (by omega), if_neg (fun h => hi h.2), yV]
theorem JK (h : 0 ≤ i) : rX.f (strOfNums l) T i = some ((tv l T).nm i) := by
  rw [FQ];unfold rX.f;by_cases hi : i < (T.length : Int)
  · rw [if_pos hi, if_pos h, if_pos ⟨h, hi⟩]
  · rw [if_neg hi, if_neg (fun h => hi h.2)]
theorem FT (ok : wJ l T) (h : 0 ≤ i) {lv : Int} (l1 : 1 ≤ lv) (l5 : lv ≤ 5) : sJ.f (strOfNums l) T i lv = some (decide (lvS ((tv l T).pk i) = lv)) := by
  unfold sJ.f;rw [rat ok h, Option.bind_some];generalize (tv l T).pk i = s;have cases5 : lv = 1 ∨ lv = 2 ∨ lv = 3 ∨ lv = 4 ∨ lv = 5 := by omega
  unfold lvS;by_cases h1 : s = ⟨#[124, 124]⟩
  · subst h1; rcases cases5 with rfl | rfl | rfl | rfl | rfl <;> rfl
  by_cases h2 : s = ⟨#[38, 38]⟩
  · subst h2; rcases cases5 with rfl | rfl | rfl | rfl | rfl <;> rfl
  by_cases h3 : s = ⟨#[61, 61]⟩
  · subst h3; rcases cases5 with rfl | rfl | rfl | rfl | rfl <;> rfl
  by_cases h4 : s = ⟨#[60]⟩
  · subst h4; rcases cases5 with rfl | rfl | rfl | rfl | rfl <;> rfl
  by_cases h5 : s = ⟨#[43]⟩
  · subst h5; rcases cases5 with rfl | rfl | rfl | rfl | rfl <;> rfl
  by_cases h6 : s = ⟨#[45]⟩
  · subst h6; rcases cases5 with rfl | rfl | rfl | rfl | rfl <;> rfl
  by_cases h7 : s = ⟨#[42]⟩
  · subst h7; rcases cases5 with rfl | rfl | rfl | rfl | rfl <;> rfl
  rw [if_neg h1, if_neg h2, if_neg h3, if_neg h4, if_neg h5, if_neg h6, if_neg h7];rcases cases5 with rfl | rfl | rfl | rfl | rfl <;> simp [h1, h2, h3, h4, h5, h6, h7]
theorem zS : ∀ (n : Nat) (e : S44), sz e ≤ n → sz e ≤ 1000000 → E1 (fun k => o9.f k e.f0 e.f1 e.f2 e.f3 e.f4 e.f5) (ht e : Int) := by
  intro n
  induction n with
  | zero => intro e h; rw [yc] at h; omega
  | succ n ih =>
    intro e h hn;rw [yc] at h hn;have hlen := BO e.f5;have hh := (I4 (szs e.f5)).2 e.f5 (Nat.le_refl _);have loop : ∀ (d i acc : Nat), i + d = e.f5.length → max acc (hts (e.f5.drop i)) = hts e.f5 → Ev (fun K k => o9.l0 (pY.at K) k e.f5 (acc : Int) (i : Int)) ((hts e.f5 + 1 : Nat) : Int) := by
      intro d
      induction d with
      | zero =>
        intro i acc hi hm;refine Ev.sub 1 ?_;simp only [o9.l0, if_neg (show ¬ (i : Int) < (e.f5.length : Int) by omega)];rw [List.drop_eq_nil_of_le (by omega), hts] at hm;exact Ev.some (by rw [oC (by omega) (by omega)]; omega)
      | succ d ihd =>
        intro i acc hi hm;have hil : i < e.f5.length := by omega
        have hs := EN hil;rw [BP e.f5 i hil, hts] at hm;refine Ev.sub 1 ?_;simp only [o9.l0, if_pos (show (i : Int) < (e.f5.length : Int) by omega), if_pos (show 0 ≤ (i : Int) by omega), oC (x := (i : Int) + 1) (by omega) (by omega)];refine Ev.bind (E1.K (ih (oU e.f5 (i : Int)) (by omega) (by omega))) ?_;have := ihd (i + 1) (max acc (ht (oU e.f5 (i : Int)))) (by omega) (by omega);rw [show ((i + 1 : Nat) : Int) = (i : Int) + 1 by omega] at this;have em : mx (acc : Int) (ht (oU e.f5 (i : Int)) : Int) = ((max acc (ht (oU e.f5 (i : Int))) : Nat) : Int) := by unfold mx; split <;> omega
        rw [em];exact this
    rw [DY];refine E1.succ (G := fun K k => o9.g (pY.at K) k e.f0 e.f1 e.f2 e.f3 e.f4 e.f5) ?_ (fun _ => rfl);simp only [o9.g];exact loop e.f5.length 0 0 (by omega) (by simp)
theorem BR {f0 f1 f2 a told : Int} {f3 f4 : ByteArray} {f5 : List S44} (hs : szs f5 ≤ 500000) : E1 (fun k => qP.f k f0 f1 f2 f3 f4 f5 a told) (if hts f5 + 1 > 32 then (0, 0, 0, ⟨#[]⟩, ⟨#[]⟩, [], told, 12) else (f0, f1, f2, f3, f4, f5, a, 0)) := by
  have h := zS (sz (⟨f0, f1, f2, f3, f4, f5⟩ : S44)) ⟨f0, f1, f2, f3, f4, f5⟩ (Nat.le_refl _) (by rw [sz]; omega);rw [ht] at h;simp only [qP.f];refine Ev.diag (F := fun _ k => (o9.f k f0 f1 f2 f3 f4 f5).bind _) (Ev.bind (E1.k h) ?_);by_cases hh : hts f5 + 1 > 32
  · simp only [if_pos hh, if_pos (show ((hts f5 + 1 : Nat) : Int) > 32 by omega)]; exact Ev.some rfl
  · simp only [if_neg hh, if_neg (show ¬ ((hts f5 + 1 : Nat) : Int) > 32 by omega)]; exact Ev.some rfl
theorem Jk (ok : wJ l T) {at_ : Int} {v} (h0 : 0 ≤ at_) (hs : (tv l T).pk at_ = ⟨#[33]⟩ ∨ (tv l T).pk at_ = ⟨#[45]⟩) (hj : Ev (fun K k => oN.j0 (nY.at K) k (strOfNums l) at_ d T ((tv l T).pk at_) false) v) : E1 (fun k => oN.f k (strOfNums l) T at_ d) v := by
  refine E1.succ (G := fun K k => oN.g (nY.at K) k (strOfNums l) T at_ d) ?_ (fun _ => rfl);simp only [oN.g, rat ok h0, Option.bind_some];by_cases h : (tv l T).pk at_ = ⟨#[33]⟩
  · simp only [if_pos h]; exact hj
  · have h45 : (tv l T).pk at_ = ⟨#[45]⟩ := by rcases hs with hs | hs; exact absurd hs h; exact hs
    simp only [if_neg h, decide_eq_true h45, show (!true) = false from rfl]; exact hj
end
theorem Hu {V : TV} {m : M} {at_ d err at1 : Int} {e : S44} (h : Run V m at_ d err at1 e) : err = 0 ∨ 1 ≤ err := by
  induction h <;> first | assumption | exact .inl rfl | exact .inr (by decide)
theorem E1.one {α : Type} {F : Nat → Option α} {a b : α} (h : E1 F a) (g : E1 F b) : a = b := by
  obtain ⟨n, hn⟩ := h;obtain ⟨m, hm⟩ := g;have := hn (n + m) (by omega);rw [hm (n + m) (by omega)] at this;exact (Option.some.inj this).symm
theorem wM (s : ByteArray) (i : Int) : rd (bytesOf s) i = bt s i := by
  unfold rd bt bytesOf;split
  · rename_i h
    rw [List.getD_eq_getElem?_getD, List.getElem?_map, List.getElem?_eq_getElem (by rw [xH]; exact h)]
    rfl
  · rename_i h
    rw [List.getD_eq_getElem?_getD, List.getElem?_map, List.getElem?_eq_none (by rw [xH]; omega)]
    rfl
theorem CV (x : ByteArray) (i : Int) : 0 ≤ bt x i ∧ bt x i < 256 := by rw [← wM]; exact yL (xK x) i
theorem vC (c : Int) (h0 : 0 ≤ c) (h1 : c < 256) : rM.f c = some (uK c) :=
  AX (fun c => rM.f c = some (uK c)) (by decide +kernel) c h0 h1
theorem wB (c : Int) : rE.f c = some (vO c) := by
  unfold rE.f vO;by_cases h : c ≥ 48
  · simp [h]
  · simp [h]
def KW : List ByteArray := [(⟨#[105, 109, 112, 111, 114, 116]⟩ : ByteArray), (⟨#[108, 97, 116, 116, 105, 99, 101]⟩ : ByteArray), (⟨#[101, 102, 102, 101, 99, 116, 115]⟩ : ByteArray), (⟨#[118, 97, 114]⟩ : ByteArray), (⟨#[102, 110]⟩ : ByteArray), (⟨#[108, 101, 116]⟩ : ByteArray), (⟨#[105, 102]⟩ : ByteArray), (⟨#[101, 108, 115, 101]⟩ : ByteArray), (⟨#[119, 104, 105, 108, 101]⟩ : ByteArray), (⟨#[114, 101, 116, 117, 114, 110]⟩ : ByteArray), (⟨#[100, 111]⟩ : ByteArray), (⟨#[116, 114, 117, 101]⟩ : ByteArray), (⟨#[102, 97, 108, 115, 101]⟩ : ByteArray), (⟨#[105, 110, 116]⟩ : ByteArray), (⟨#[98, 111, 111, 108]⟩ : ByteArray), (⟨#[100, 101, 99, 108, 97, 115, 115, 105, 102, 121]⟩ : ByteArray)]
def kw (x : ByteArray) : Bool := KW.any fun y => decide (x = y)
theorem Jc {c : Prop} [Decidable c] {X : Option Bool} {b : Bool} (h : X = some b) : (if c then some true else X) = some (decide c || b) := by
  by_cases hc : c
  · rw [if_pos hc, decide_eq_true hc]; rfl
  · rw [if_neg hc, decide_eq_false hc, h]; rfl
theorem FU (x : ByteArray) : qI.f x = some (kw x) := by
  have j : ∀ b, qI.j0 b = some b := fun b => by cases b <;> rfl
  unfold qI.f kw KW;simp only [j, List.any_cons, List.any_nil, Bool.or_false]
  iterate 15 refine Jc ?_
  rfl
theorem Jd (x : ByteArray) (L : List ByteArray) (hl : L.length ≤ 1000) (d : Nat) : ∀ (k i : Nat), i ≤ L.length → L.length - i = d → d < k → qG.l0 k x (i : Int) L = some ((L.drop i).any fun y => decide (x = y)) := by
  induction d with
  | zero =>
    intro k i hi hd hk;obtain ⟨k, rfl⟩ : ∃ n, k = n + 1 := ⟨k - 1, by omega⟩;simp only [qG.l0];rw [if_neg (by omega), List.drop_eq_nil_of_le (by omega)]
    rfl
  | succ d ih =>
    intro k i hi hd hk;obtain ⟨k, rfl⟩ : ∃ n, k = n + 1 := ⟨k - 1, by omega⟩;simp only [qG.l0];have hr : L.drop i = xX ByteArray.empty L (i : Int) :: L.drop (i + 1) := by
      rw [List.drop_eq_getElem_cons (by omega)];simp [xX, List.getD_eq_getElem?_getD, show i < L.length by omega]
    rw [if_pos (by omega), if_pos (by omega), hr, List.any_cons];by_cases h : xX ByteArray.empty L (i : Int) = x
    · rw [if_pos h, decide_eq_true h.symm]; rfl
    · rw [if_neg h, decide_eq_false (fun h2 => h h2.symm), oC (by omega) (by omega), show ((i : Int) + 1) = ((i + 1 : Nat) : Int) by omega, ih k (i + 1) (by omega) (by omega) (by omega)];simp
theorem EY (k : Nat) (hk : 30 ≤ k) (x : ByteArray) : qG.f k x = some (kw x) := by
  have := Jd x KW (by decide) 16 k 0 (by decide) (by decide) (by omega);rw [List.drop_zero] at this;exact this
def CW (x : ByteArray) : Bool := decide (x.size ≤ 24) && !kw x
theorem EZ (x : ByteArray) (hl : x.size ≤ 1000000) (d : Nat) : ∀ (k i : Nat), 1 ≤ i → i ≤ x.size → x.size - i = d → 2 * d + 40 < k → pG.l0 k x (i : Int) = some (((bytesOf x).drop i).all wC && CW x) := by
  induction d with
  | zero =>
    intro k i h1 hi hd hk;obtain ⟨k, rfl⟩ : ∃ n, k = n + 1 := ⟨k - 1, by omega⟩;simp only [pG.l0];rw [if_neg (by omega), if_pos (by omega), List.drop_eq_nil_of_le (by rw [bytesOf_length]; omega), EY k (by omega), Option.bind_some];by_cases h : x.size ≤ 24
    · rw [if_pos (by omega)]; simp [CW, h]
    · rw [if_neg (by omega)]; simp [CW, h]
  | succ d ih =>
    intro k i h1 hi hd hk;obtain ⟨k, rfl⟩ : ∃ n, k = n + 2 := ⟨k - 2, by omega⟩;have hb := CV x (i : Int);simp only [pG.l0, pG.j0];rw [if_pos (by omega), if_pos (by omega), vC _ hb.1 hb.2, wB, Option.bind_some, Option.bind_some, vY (bytesOf x) i (by rw [bytesOf_length]; omega), wM, List.all_cons, oC (by omega) (by omega), show ((i : Int) + 1) = ((i + 1 : Nat) : Int) by omega, ih k (i + 1) (by omega) (by omega) (by omega) (by omega), if_neg (show ¬ ((i : Int) = 0) by omega)];simp only [wC]
    cases uK (bt x (i : Int)) <;> cases vO (bt x (i : Int)) <;> simp
def yC (x : ByteArray) : Bool := decide (0 < x.size) && (uK (bt x 0) && ((bytesOf x).all wC && CW x))
theorem E5 (k : Nat) (x : ByteArray) (hl : x.size ≤ 1000000) (hk : 2 * x.size + 50 < k) : pG.f k x = some (yC x) := by
  obtain ⟨k, rfl⟩ : ∃ n, k = n + 2 := ⟨k - 2, by omega⟩;unfold pG.f yC;simp only [pG.l0, pG.j0];by_cases h : 0 < x.size
  · have hb := CV x 0;rw [if_pos (by omega), if_pos (by omega), vC _ hb.1 hb.2, Option.bind_some];have hd := vY (bytesOf x) 0 (by rw [bytesOf_length]; omega);rw [List.drop_zero, wM, show (((0 : Nat) : Int)) = 0 from rfl, Nat.zero_add] at hd;by_cases h2 : uK (bt x 0) = true
    · rw [if_pos h2, oC (by omega) (by omega)];have := EZ x hl (x.size - 1) k 1 (by omega) (by omega) rfl (by omega);have hw : wC (bt x 0) = true := by simp [wC, h2]
      have hall : (bytesOf x).all wC = ((bytesOf x).drop 1).all wC := by
        conv => lhs; rw [hd]
        rw [List.all_cons, hw, Bool.true_and]
      rw [show ((0 : Int) + 1) = ((1 : Nat) : Int) by omega, this, hall, h2, decide_eq_true h, Bool.true_and, Bool.true_and, if_neg (by decide)]
    · rw [if_neg h2, if_pos trivial, if_pos trivial];simp [h2]
  · rw [if_neg (by omega), if_neg (by omega)];simp [h]
theorem all_takeWhile (p : Int → Bool) (l : List Int) : decide ((l.takeWhile p).length = l.length) = l.all p := by
  induction l with
  | nil => rfl
  | cons c r ih =>
    rw [List.takeWhile_cons, List.all_cons];by_cases h : p c = true
    · rw [if_pos h, h, ← ih]; simp
    · rw [if_neg h]; simp [h]
theorem FV (s : ByteArray) : E1 (fun k => rO.f k s) (yC s) := by
  have out : E1 (fun k => rO.j0 k s true) false := E1.succ (G := fun _ _ => some false) (Ev.some rfl) (fun k => by simp only [rO.j0, if_true]);by_cases h1 : s = ⟨#[]⟩
  · subst h1;exact out
  have h0 : s.size ≠ 0 := fun h => h1 ((uF _ _).2 (by rw [Lib.toList_data, Lib.toList_data]; exact List.eq_nil_of_length_eq_zero (by rw [Array.length_toList]; exact h)));by_cases h2 : (s.size : Int) > 24
  · rw [show yC s = false by simp [yC, CW, show ¬ s.size ≤ 24 by omega]];simp only [rO.f, if_neg h1, if_pos h2]; exact out
  simp only [rO.f, if_neg h1, if_neg h2, FU, Option.bind_some];by_cases hk : kw s = true
  · rw [show yC s = false by simp [yC, CW, hk]];simp only [if_pos hk]; exact out
  have hr := CV s 0;simp only [if_neg hk, if_pos (show 0 < (s.size : Int) by omega), wz _ hr.1 hr.2, Option.bind_some]
  cases hl : uK (bt s 0) with
  | false =>
    rw [show yC s = false by simp [yC, hl]];exact out
  | true =>
    refine ⟨2 * s.size + 3, fun k hk' => ?_⟩;obtain ⟨k, rfl⟩ : ∃ n, k = n + 1 := ⟨k - 1, by omega⟩;have hlen := xE s;simp only [rO.j0, show (!true) = false from rfl, if_neg (show ¬ false = true by decide), if_pos (show s.size ≤ 9223372036854775807 by omega), Option.bind_some, BL k (bytesOf s) (xK s) (by omega) (by omega)];rw [show yC s = (bytesOf s).all wC by simp [yC, CW, hl, show kw s = false by simpa using hk, show s.size ≤ 24 by omega, show 0 < s.size by omega], ← all_takeWhile];congr 1;exact decide_eq_decide.mpr ⟨fun h => by omega, fun h => by omega⟩
theorem xU (s : ByteArray) (h : s.size ≤ 1000000) : E1 (fun k => pG.f k s) (idS s) := by
  rw [(zQ s).one (FV s)];exact ⟨2 * s.size + 51, fun k hk => E5 k s h (by omega)⟩
theorem J6 {n : Int} (h0 : 0 ≤ n) (h1 : n ≤ 9223372036854775807) : pI.f n 10 = some (if n > 922337203685477580 then (0, false) else (n * 10, true)) := by
  unfold pI.f;by_cases hn : n = 0
  · subst hn; rfl
  · rw [if_neg hn, decide_eq_false (show ¬ (10 : Int) = 0 by decide)];unfold pI.j1;rw [if_neg (by decide), if_pos (show n > 0 by omega), if_pos (by decide), if_neg (by decide), show wrap64 (Int.tdiv 9223372036854775807 10) = 922337203685477580 by rw [Int.tdiv_eq_ediv_of_nonneg (by decide)]; exact oC (by decide) (by decide)];unfold pI.j0;by_cases hc : n > 922337203685477580
    · rw [if_pos hc, if_pos rfl, if_pos hc]
    · rw [if_neg hc, if_neg (by decide), if_neg (by omega), if_neg (by decide), if_neg hc, oC (by omega) (by omega)]
theorem JU {n c : Int} (h0 : 0 ≤ n) (h1 : n ≤ 9223372036854775807) (c0 : 0 ≤ c) (c1 : c ≤ 9) : qY.f n c = some (if n > 9223372036854775807 - c then (0, false) else (n + c, true)) := by
  unfold qY.f qY.j0;by_cases hc : c > 0
  · rw [if_pos hc, oC (x := 9223372036854775807 - c) (by omega) (by omega)];by_cases hn : n > 9223372036854775807 - c
    · rw [if_pos hn, if_pos rfl, if_pos hn]
    · rw [if_neg hn, if_neg (by omega), if_neg (by decide), if_neg hn, oC (by omega) (by omega)]
  · rw [if_neg hc, if_neg (by omega), if_neg (by decide), if_neg (by omega), oC (by omega) (by omega)]
section
variable {l : List Int} {T : List S28} {d : Int}
def numO (a p : Int) (o : Option Int) : Int × Int × Int × ByteArray × ByteArray × List S44 × Int × Int := match o with
  | none => (0, 0, 0, ⟨#[]⟩, ⟨#[]⟩, [], a, 18)
  | some v => (0, p, v, ⟨#[]⟩, ⟨#[]⟩, [], a + 1, 0)
theorem Je (ok : wJ l T) {a : Int} (h0 : 0 ≤ a) (h1 : a ≤ 1000000) (t : ByteArray) (ht : t.size ≤ 1000000) (dg : ∀ x ∈ bytesOf t, 48 ≤ x ∧ x ≤ 57) : ∀ (q p : Nat) (n : Int), p + q = t.size → 0 ≤ n → n ≤ 9223372036854775807 → Ev (fun K k => oq.l0 (nY.at K) k (strOfNums l) a T t n (p : Int)) (numO a ((tv l T).ps a) (EP ((bytesOf t).drop p) n)) := by
  intro q
  induction q with
  | zero =>
    intro p n hp n0 n1;rw [List.drop_eq_nil_of_le (by rw [xE]; omega), EP];refine Ev.sub 1 ?_;simp only [oq.l0, if_neg (show ¬ (p : Int) < (t.size : Int) by omega), rpos ok h0, Option.bind_some, oC (x := a + 1) (by omega) (by omega)];exact Ev.some rfl
  | succ q ih =>
    intro p n hp n0 n1;have hlen := xE t;have hd := vY (bytesOf t) p (by omega);rw [wM] at hd;have hb : 48 ≤ bt t (p : Int) ∧ bt t (p : Int) ≤ 57 := dg _ (List.mem_of_mem_drop (by rw [hd]; exact List.mem_cons_self));rw [hd, EP];have hc : wrap64 ((bt t (p : Int) - 48) % 256) = bt t (p : Int) - 48 := by rw [oC (by omega) (by omega)]; omega
    rw [hc, oC (x := 9223372036854775807 - (bt t (p : Int) - 48)) (by omega) (by omega), Int.tdiv_eq_ediv_of_nonneg (by omega), oC (x := (9223372036854775807 - (bt t (p : Int) - 48)) / 10) (by omega) (by omega)];refine Ev.sub 1 ?_;simp only [oq.l0, if_pos (show (p : Int) < (t.size : Int) by omega), J6 n0 n1, Option.bind_some, if_pos (show 0 ≤ (p : Int) by omega), oC (x := bt t (p : Int)) (by omega) (by omega), oC (x := bt t (p : Int) - 48) (by omega) (by omega)];by_cases hq : n > 922337203685477580
    · rw [if_pos (show n > (9223372036854775807 - (bt t (p : Int) - 48)) / 10 by omega)];simp only [if_pos hq, JU (n := 0) (c := bt t (p : Int) - 48) (by decide) (by decide) (by omega) (by omega), Option.bind_some, if_neg (show ¬ false = true by decide)];refine Ev.sub 1 ?_;simp only [oq.j0, if_true];exact Ev.some rfl
    · simp only [if_neg hq, JU (n := n * 10) (c := bt t (p : Int) - 48) (by omega) (by omega) (by omega) (by omega), Option.bind_some, if_true];by_cases hr : n * 10 > 9223372036854775807 - (bt t (p : Int) - 48)
      · rw [if_pos (show n > (9223372036854775807 - (bt t (p : Int) - 48)) / 10 by omega)];simp only [if_pos hr, show (!false) = true from rfl];refine Ev.sub 1 ?_;simp only [oq.j0, if_true];exact Ev.some rfl
      · rw [if_neg (show ¬ n > (9223372036854775807 - (bt t (p : Int) - 48)) / 10 by omega), oC (x := 10 * n) (by omega) (by omega), oC (x := 10 * n + _) (by omega) (by omega)];simp only [if_neg hr, show (!true) = false from rfl];refine Ev.sub 1 ?_;simp only [oq.j0, if_neg (show ¬ false = true by decide), oC (x := (p : Int) + 1) (by omega) (by omega)];have := ih (p + 1) (n * 10 + (bt t (p : Int) - 48)) (by omega) (by omega) (by omega);rw [show ((p + 1 : Nat) : Int) = (p : Int) + 1 by omega] at this;rw [show 10 * n = n * 10 by omega];exact this
theorem Jf (ok : wJ l T) {at_ a ab ac ae : Int} {af ag : ByteArray} {ah : List S44} (h0 : 0 ≤ a) (hx : (tv l T).pk a ≠ ⟨#[44]⟩) : Ev (fun K k => oD.l0 (nY.at K) k (strOfNums l) at_ T ab ac ae af ag ah a 0 [(⟨#[44]⟩ : ByteArray), (⟨#[64]⟩ : ByteArray)]) (yg z44 11 a) := by
  refine Ev.sub 1 ?_;simp only [oD.l0, if_pos (show (0 : Int) < 2 by decide), if_pos (show (0 : Int) ≤ 0 by decide), List.length_cons, List.length_nil, if_pos (show (0 : Int) < ((0 + 1 + 1 : Nat) : Int) by decide), rat ok h0, Option.bind_some, show xX ByteArray.empty [(⟨#[44]⟩ : ByteArray), (⟨#[64]⟩ : ByteArray)] 0 = ⟨#[44]⟩ from rfl, if_neg hx];exact Ev.some rfl
theorem Jg (ok : wJ l T) {at_ a ab ac ae : Int} {af ag : ByteArray} {ah : List S44} (h0 : 0 ≤ a) (h1 : a ≤ 1000000) (hx : (tv l T).pk a = ⟨#[44]⟩) (hy : (tv l T).pk (a + 1) ≠ ⟨#[64]⟩) : Ev (fun K k => oD.l0 (nY.at K) k (strOfNums l) at_ T ab ac ae af ag ah a 0 [(⟨#[44]⟩ : ByteArray), (⟨#[64]⟩ : ByteArray)]) (yg z44 11 (a + 1)) := by
  refine Ev.sub 1 ?_;simp only [oD.l0, if_pos (show (0 : Int) < 2 by decide), if_pos (show (0 : Int) ≤ 0 by decide), List.length_cons, List.length_nil, if_pos (show (0 : Int) < ((0 + 1 + 1 : Nat) : Int) by decide), rat ok h0, Option.bind_some, show xX ByteArray.empty [(⟨#[44]⟩ : ByteArray), (⟨#[64]⟩ : ByteArray)] 0 = ⟨#[44]⟩ from rfl, if_pos hx, oC (x := a + 1) (by omega) (by omega), show wrap64 (0 + 1) = 1 from oC (by decide) (by decide)];refine Ev.sub 1 ?_;simp only [oD.l0, if_pos (show (1 : Int) < 2 by decide), if_pos (show (0 : Int) ≤ 1 by decide), List.length_cons, List.length_nil, if_pos (show (1 : Int) < ((0 + 1 + 1 : Nat) : Int) by decide), rat ok (show 0 ≤ a + 1 by omega), Option.bind_some, show xX ByteArray.empty [(⟨#[44]⟩ : ByteArray), (⟨#[64]⟩ : ByteArray)] 1 = ⟨#[64]⟩ from rfl, if_neg hy];exact Ev.some rfl
theorem Dw (ok : wJ l T) {at_ a ab ac ae : Int} {af ag : ByteArray} {ah : List S44} {v} (h0 : 0 ≤ a) (h1 : a ≤ 1000000) (hx : (tv l T).pk a = ⟨#[44]⟩) (hy : (tv l T).pk (a + 1) = ⟨#[64]⟩) (h : Ev (fun K k => oD.l0 (nY.at K) k (strOfNums l) at_ T ab ac ae af ag ah (a + 1 + 1) 2 [(⟨#[44]⟩ : ByteArray), (⟨#[64]⟩ : ByteArray)]) v) : Ev (fun K k => oD.l0 (nY.at K) k (strOfNums l) at_ T ab ac ae af ag ah a 0 [(⟨#[44]⟩ : ByteArray), (⟨#[64]⟩ : ByteArray)]) v := by
  refine Ev.sub 1 ?_;simp only [oD.l0, if_pos (show (0 : Int) < 2 by decide), if_pos (show (0 : Int) ≤ 0 by decide), List.length_cons, List.length_nil, if_pos (show (0 : Int) < ((0 + 1 + 1 : Nat) : Int) by decide), rat ok h0, Option.bind_some, show xX ByteArray.empty [(⟨#[44]⟩ : ByteArray), (⟨#[64]⟩ : ByteArray)] 0 = ⟨#[44]⟩ from rfl, if_pos hx, oC (x := a + 1) (by omega) (by omega), show wrap64 (0 + 1) = 1 from oC (by decide) (by decide)];refine Ev.sub 1 ?_;simp only [oD.l0, if_pos (show (1 : Int) < 2 by decide), if_pos (show (0 : Int) ≤ 1 by decide), List.length_cons, List.length_nil, if_pos (show (1 : Int) < ((0 + 1 + 1 : Nat) : Int) by decide), rat ok (show 0 ≤ a + 1 by omega), Option.bind_some, show xX ByteArray.empty [(⟨#[44]⟩ : ByteArray), (⟨#[64]⟩ : ByteArray)] 1 = ⟨#[64]⟩ from rfl, if_pos hy, oC (x := a + 1 + 1) (by omega) (by omega), show wrap64 (1 + 1) = 2 from oC (by decide) (by decide)];exact h
theorem JL (ok : wJ l T) {at_ d k : Int} {nm : ByteArray} {v} (h0 : 0 ≤ at_) (h1 : at_ ≤ (T.length : Int)) (hi : idS ((tv l T).pk at_) = true) (hk : (tv l T).pk (at_ + 1) = ⟨#[46]⟩ ∧ idS ((tv l T).pk (at_ + 1 + 1)) = true ∧ k = at_ + 1 + 1 + 1 ∧ nm = (tv l T).pk at_ ++ ((⟨#[46]⟩ : ByteArray) ++ (tv l T).pk (at_ + 1 + 1)) ∨ (tv l T).pk (at_ + 1) ≠ ⟨#[46]⟩ ∧ k = at_ + 1 ∧ nm = (tv l T).pk at_) (hj : Ev (fun K q => ou.j1 (nY.at K) q (strOfNums l) at_ d T nm k) v) : E1 (fun k => ou.f k (strOfNums l) T at_ d) v := by
  have hn := ok.n;have i1 := xU _ (uG ok at_);rw [hi] at i1;refine E1.succ (G := fun K k => ou.g (nY.at K) k (strOfNums l) T at_ d) ?_ (fun _ => rfl);simp only [ou.g, rat ok h0, Option.bind_some];refine Ev.bind (E1.k i1) ?_;simp only [if_true, oC (x := at_ + 1) (by omega) (by omega), rat ok (show 0 ≤ at_ + 1 by omega), Option.bind_some];rcases hk with ⟨h2, h3, rfl, rfl⟩ | ⟨h2, rfl, rfl⟩
  · have i2 := xU _ (uG ok (at_ + 1 + 1));rw [h3] at i2;simp only [if_pos h2, oC (x := at_ + 1 + 1) (by omega) (by omega), rat ok (show 0 ≤ at_ + 1 + 1 by omega), Option.bind_some];refine Ev.bind (E1.k i2) ?_;have s1 := (xQ hi).2;have s2 := (xQ h3).2;have s3 : (⟨#[46]⟩ : ByteArray).size = 1 := rfl;have s4 : ((tv l T).pk at_ ++ (⟨#[46]⟩ : ByteArray)).size = ((tv l T).pk at_).size + 1 := by rw [ByteArray.size_append, s3]
    simp only [if_true];rw [s3, s4, ByteArray.append_assoc];simp only [if_pos (show ((tv l T).pk at_).size + 1 ≤ 9223372036854775807 by omega), if_pos (show ((tv l T).pk at_).size + 1 + ((tv l T).pk (at_ + 1 + 1)).size ≤ 9223372036854775807 by omega), oC (x := at_ + 1 + 1 + 1) (by omega) (by omega), show at_ + 1 + 2 = at_ + 1 + 1 + 1 by omega];exact hj
  · simp only [if_neg h2];exact hj
end
section
variable {l : List Int} {T : List S28}
theorem Gv (ok : wJ l T) {at_ d : Int} (h0 : 0 ≤ at_) (hn : ¬ (tv l T).nm at_ = true) {v} (h : Ev (fun K k => (if (tv l T).pk at_ = (⟨#[116, 114, 117, 101]⟩ : ByteArray) then (some (1, (tv l T).ps at_, 1, e0, e0, ([] : List S44), wrap64 (at_ + 1), 0)) else (if (tv l T).pk at_ = (⟨#[102, 97, 108, 115, 101]⟩ : ByteArray) then (some (1, (tv l T).ps at_, 0, e0, e0, ([] : List S44), wrap64 (at_ + 1), 0)) else (if (tv l T).pk at_ = (⟨#[40]⟩ : ByteArray) then (if d ≥ 32 then (some (0, 0, 0, e0, e0, ([] : List S44), at_, 12)) else ((nY.at K).oJ (strOfNums l) T (wrap64 (at_ + 1)) 1 (wrap64 (d + 1))).bind fun a6 => (if a6.2.2.2.2.2.2.2 = 0 then ((oL.f (strOfNums l) T a6.2.2.2.2.2.2.1).bind fun af => (oq.j1 (nY.at K) k a6.1 a6.2.1 a6.2.2.1 a6.2.2.2.1 a6.2.2.2.2.1 a6.2.2.2.2.2.1 a6.2.2.2.2.2.2.1 a6.2.2.2.2.2.2.2 (!decide (af = (⟨#[41]⟩ : ByteArray))))) else (oq.j1 (nY.at K) k a6.1 a6.2.1 a6.2.2.1 a6.2.2.2.1 a6.2.2.2.2.1 a6.2.2.2.2.2.1 a6.2.2.2.2.2.2.1 a6.2.2.2.2.2.2.2 false))) else (if (tv l T).pk at_ = (⟨#[100, 101, 99, 108, 97, 115, 115, 105, 102, 121]⟩ : ByteArray) then (((nY.at K).oD (strOfNums l) T at_ d).bind fun a7 => (some (a7.1, a7.2.1, a7.2.2.1, a7.2.2.2.1, a7.2.2.2.2.1, a7.2.2.2.2.2.1, a7.2.2.2.2.2.2.1, a7.2.2.2.2.2.2.2))) else (((nY.at K).ou (strOfNums l) T at_ d).bind fun a8 => (some (a8.1, a8.2.1, a8.2.2.1, a8.2.2.2.1, a8.2.2.2.2.1, a8.2.2.2.2.2.1, a8.2.2.2.2.2.2.1, a8.2.2.2.2.2.2.2)))))))) v) : E1 (fun k => oq.f k (strOfNums l) T at_ d) v := by
  refine E1.succ (G := fun K k => oq.g (nY.at K) k (strOfNums l) T at_ d) ?_ (fun _ => rfl);simp only [oq.g, rat ok h0, JK (l := l) (T := T) h0, rpos ok h0, Option.bind_some, if_neg hn];exact h
theorem Jh (ok : wJ l T) (dg : ∀ i, (tv l T).nm i = true → ∀ x ∈ bytesOf ((tv l T).pk i), 48 ≤ x ∧ x ≤ 57) {m : M} {at_ d err at1 : Int} {e : S44} (h : Run (tv l T) m at_ d err at1 e) : 0 ≤ at_ → at_ ≤ (T.length : Int) → 0 ≤ d → d ≤ 33 → SR (strOfNums l) l T m at_ d err at1 e := by
  have F := ET ok;have hn := ok.n;have z0 : (0 : Int) = 0 := rfl;have ft : ¬ false = true := by decide
  induction h with
  | @bin6 at_ d err at1 e _ ih =>
    intro h0 h1 d0 d1 _ _;have hE := ih h0 h1 d0 d1;refine E1.succ (G := fun K k => oJ.g (nY.at K) k (strOfNums l) T at_ 6 d) ?_ (fun _ => rfl);simp only [oJ.g, if_pos (show (6 : Int) > 5 by decide)];exact Ev.bind (E1.K hE) (Ev.some rfl)
  | @binE lv at_ d err at1 hl _ he ih =>
    intro h0 h1 d0 d1 l1 l6;have hE := ih h0 h1 d0 d1 (by omega) (by omega);refine E1.succ (G := fun K k => oJ.g (nY.at K) k (strOfNums l) T at_ lv d) ?_ (fun _ => rfl);simp only [oJ.g, if_neg (show ¬ lv > 5 by omega), oC (x := lv + 1) (by omega) (by omega)];refine Ev.bind (E1.K hE) (Ev.sub 1 ?_);dsimp only [yg];simp only [oJ.l0, if_neg he];exact Ev.some rfl
  | @bin lv at_ d at1 e1 err at2 e2 hl hr _ ih1 ih2 =>
    intro h0 h1 d0 d1 l1 l6;have ro := tJ F hr h0 h1 (by omega);have hE := ih1 h0 h1 d0 d1 (by omega) (by omega);have hE2 := ih2 (by omega) ro.2.2 d0 d1 l1 (by omega) _ h0 (ro.1 rfl);refine E1.succ (G := fun K k => oJ.g (nY.at K) k (strOfNums l) T at_ lv d) ?_ (fun _ => rfl);simp only [oJ.g, if_neg (show ¬ lv > 5 by omega), oC (x := lv + 1) (by omega) (by omega)];exact Ev.bind (E1.K hE) hE2
  | @lpN lv e at_ d hv =>
    intro h0 h1 d0 d1 l1 l5 a0 _ hg;refine Ev.sub 1 ?_;simp only [oJ.l0, if_pos z0, FT ok h0 l1 l5, Option.bind_some, decide_eq_false hv, if_neg ft];exact Ev.some rfl
  | @lpE lv e at_ d err at1 hv _ he ih =>
    intro h0 h1 d0 d1 l1 l5 a0 _ hg;have := F.i _ (zY hv l1);have hE := ih (by omega) (by omega) d0 d1 (by omega) (by omega);refine Ev.sub 1 ?_;simp only [oJ.l0, if_pos z0, FT ok h0 l1 l5, Option.bind_some, decide_eq_true hv, if_true, oC (x := at_ + 1) (by omega) (by omega), oC (x := lv + 1) (by omega) (by omega)];refine Ev.bind (E1.K hE) ?_;dsimp only [yg];simp only [if_neg he];exact Ev.some rfl
  | @lpH lv e at_ d at1 e1 hv hr hh ih =>
    intro h0 h1 d0 d1 l1 l5 a0 ha0 hg;have := F.i _ (zY hv l1);have ro := tJ F hr (by omega) (by omega) (by omega);have hE := ih (by omega) (by omega) d0 d1 (by omega) (by omega);obtain ⟨_, _, _, _, _, _, _, s7⟩ := hg;obtain ⟨_, _, _, _, _, _, _, r7⟩ := ro.1 rfl;have hH := BR (f0 := 5) (f1 := e.f1) (f2 := 0) (a := at1) (told := at_) (f3 := (tv l T).pk at_) (f4 := ⟨#[]⟩) (f5 := [e, e1]) (by rw [szs, szs, szs]; omega);rw [if_pos hh] at hH;refine Ev.sub 1 ?_;simp only [oJ.l0, if_pos z0, FT ok h0 l1 l5, rat ok h0, Option.bind_some, decide_eq_true hv, if_true, oC (x := at_ + 1) (by omega) (by omega), oC (x := lv + 1) (by omega) (by omega)];refine Ev.bind (E1.K hE) ?_;dsimp only [yg];simp only [vK, if_pos z0];refine Ev.bind (E1.k hH) (Ev.sub 1 ?_);simp only [oJ.l0, if_neg (show ¬ (12 : Int) = 0 by decide)];exact Ev.some rfl
  | @lp lv e at_ d at1 e1 err at2 e2 hv hr hh hr2 ih1 ih2 =>
    intro h0 h1 d0 d1 l1 l5 a0 ha0 hg;have := F.i _ (zY hv l1);have ro := tJ F hr (by omega) (by omega) (by omega);have hE := ih1 (by omega) (by omega) d0 d1 (by omega) (by omega);have hg' := hg;obtain ⟨s, s1, s2, s3, s4, s5, s6, s7⟩ := hg;obtain ⟨r, r1, r2, r3, r4, r5, r6, r7⟩ := ro.1 rfl;have hE2 := ih2 (by omega) ro.2.2 d0 d1 l1 l5 a0 ha0 ⟨s, s1, by omega, ro.2.2, s4, by dsimp only; omega, by
      rw [Ah, zi, zi, zi];dsimp only;exact ⟨⟨Int.le_refl _, by rw [s4]; exact (F.b s (by omega) (by omega)).2⟩, s6, ⟨by rw [s4, r4]; exact F.o _ _ (by omega) (by omega), by rw [r4]; exact (F.b r (by omega) (by omega)).2⟩, r6, trivial⟩, by rw [yc, szs, szs, szs]; omega⟩
    have hH := BR (f0 := 5) (f1 := e.f1) (f2 := 0) (a := at1) (told := at_) (f3 := (tv l T).pk at_) (f4 := ⟨#[]⟩) (f5 := [e, e1]) (by rw [szs, szs, szs]; omega);rw [if_neg hh] at hH;refine Ev.sub 1 ?_;simp only [oJ.l0, if_pos z0, FT ok h0 l1 l5, rat ok h0, Option.bind_some, decide_eq_true hv, if_true, oC (x := at_ + 1) (by omega) (by omega), oC (x := lv + 1) (by omega) (by omega)];refine Ev.bind (E1.K hE) ?_;dsimp only [yg];simp only [vK, if_pos z0];exact Ev.bind (E1.k hH) hE2
  | @sgP at_ d err at1 e hp hq _ ih =>
    intro h0 h1 d0 d1;have hE := ih h0 h1 d0 d1;refine E1.succ (G := fun K k => oN.g (nY.at K) k (strOfNums l) T at_ d) ?_ (fun _ => rfl);simp only [oN.g, rat ok h0, Option.bind_some, if_neg hp, decide_eq_false hq, show (!false) = true from rfl];refine Ev.sub 1 ?_;simp only [oN.j0, if_true];exact Ev.bind (E1.K hE) (Ev.some rfl)
  | @sgD at_ d hs hd =>
    intro h0 h1 d0 d1;refine Jk ok h0 hs (Ev.sub 1 ?_);simp only [oN.j0, if_neg ft, if_pos (show d ≥ 32 from hd)];exact Ev.some rfl
  | @sgE at_ d err at1 hs hd _ he ih =>
    intro h0 h1 d0 d1;have := F.i _ (xR hs);have hE := ih (by omega) (by omega) (by omega) (by omega);refine Jk ok h0 hs (Ev.sub 1 ?_);simp only [oN.j0, if_neg ft, if_neg (show ¬ d ≥ 32 from hd), oC (x := at_ + 1) (by omega) (by omega), oC (x := d + 1) (by omega) (by omega)];refine Ev.bind (E1.K hE) ?_;dsimp only [yg];simp only [if_neg he];exact Ev.some rfl
  | @sgH at_ d at1 e1 hs hd hr hh ih =>
    intro h0 h1 d0 d1;have := F.i _ (xR hs);obtain ⟨ro1, _, _⟩ := tJ F hr (by omega) (by omega);obtain ⟨_, _, _, _, _, _, _, r7⟩ := ro1 rfl;have hE := ih (by omega) (by omega) (by omega) (by omega);have hH := BR (f0 := 4) (f1 := (tv l T).ps at_) (f2 := 0) (a := at1) (told := at_) (f3 := (tv l T).pk at_) (f4 := ⟨#[]⟩) (f5 := [e1]) (by rw [szs, szs]; omega);rw [if_pos hh] at hH;refine Jk ok h0 hs (Ev.sub 1 ?_);simp only [oN.j0, if_neg ft, if_neg (show ¬ d ≥ 32 from hd), oC (x := at_ + 1) (by omega) (by omega), oC (x := d + 1) (by omega) (by omega), rpos ok h0, Option.bind_some];refine Ev.bind (E1.K hE) ?_;dsimp only [yg];simp only [vK, if_pos z0];exact Ev.bind (E1.k hH) (Ev.some rfl)
  | @sg at_ d at1 e1 hs hd hr hh ih =>
    intro h0 h1 d0 d1;have := F.i _ (xR hs);obtain ⟨ro1, _, _⟩ := tJ F hr (by omega) (by omega);obtain ⟨_, _, _, _, _, _, _, r7⟩ := ro1 rfl;have hE := ih (by omega) (by omega) (by omega) (by omega);have hH := BR (f0 := 4) (f1 := (tv l T).ps at_) (f2 := 0) (a := at1) (told := at_) (f3 := (tv l T).pk at_) (f4 := ⟨#[]⟩) (f5 := [e1]) (by rw [szs, szs]; omega);rw [if_neg hh] at hH;refine Jk ok h0 hs (Ev.sub 1 ?_);simp only [oN.j0, if_neg ft, if_neg (show ¬ d ≥ 32 from hd), oC (x := at_ + 1) (by omega) (by omega), oC (x := d + 1) (by omega) (by omega), rpos ok h0, Option.bind_some];refine Ev.bind (E1.K hE) ?_;dsimp only [yg];simp only [vK, if_pos z0];exact Ev.bind (E1.k hH) (Ev.some rfl)
  | @prO at_ d hm hv =>
    intro h0 h1 d0 d1;have hN := Je ok (a := at_) h0 (by omega) ((tv l T).pk at_) (uG ok at_) (dg at_ hm) _ 0 0 (Nat.zero_add _) (by decide) (by decide);rw [List.drop_zero, hv] at hN;refine E1.succ (G := fun K k => oq.g (nY.at K) k (strOfNums l) T at_ d) ?_ (fun _ => rfl);simp only [oq.g, rat ok h0, JK (l := l) (T := T) h0, Option.bind_some, if_pos hm];exact hN
  | @prN at_ d v hm hv =>
    intro h0 h1 d0 d1;have hN := Je ok (a := at_) h0 (by omega) ((tv l T).pk at_) (uG ok at_) (dg at_ hm) _ 0 0 (Nat.zero_add _) (by decide) (by decide);rw [List.drop_zero, hv] at hN;refine E1.succ (G := fun K k => oq.g (nY.at K) k (strOfNums l) T at_ d) ?_ (fun _ => rfl);simp only [oq.g, rat ok h0, JK (l := l) (T := T) h0, Option.bind_some, if_pos hm];exact hN
  | @prT at_ d hm hp =>
    intro h0 h1 d0 d1;refine Gv ok h0 hm ?_;simp only [if_pos hp, oC (x := at_ + 1) (by omega) (by omega)];exact Ev.some rfl
  | @prF at_ d hm hp =>
    intro h0 h1 d0 d1;refine Gv ok h0 hm ?_;simp only [if_neg (show ¬ (tv l T).pk at_ = ⟨#[116, 114, 117, 101]⟩ by rw [hp]; decide), if_pos hp, oC (x := at_ + 1) (by omega) (by omega)];exact Ev.some rfl
  | @prG at_ d err at1 e hm hp _ ih =>
    intro h0 h1 d0 d1;exact ih h0 h1 d0 d1 hm
  | @prD at_ d err at1 e hm hp _ ih =>
    intro h0 h1 d0 d1;have hE := ih h0 h1 d0 d1;refine Gv ok h0 hm ?_;simp only [if_neg (show ¬ (tv l T).pk at_ = ⟨#[116, 114, 117, 101]⟩ by rw [hp]; decide), if_neg (show ¬ (tv l T).pk at_ = ⟨#[102, 97, 108, 115, 101]⟩ by rw [hp]; decide), if_neg (show ¬ (tv l T).pk at_ = ⟨#[40]⟩ by rw [hp]; decide), if_pos hp];exact Ev.bind (E1.K hE) (Ev.some rfl)
  | @prM at_ d err at1 e hm h2 h3 h4 h5 _ ih =>
    intro h0 h1 d0 d1;have hE := ih h0 h1 d0 d1;refine Gv ok h0 hm ?_;simp only [if_neg h2, if_neg h3, if_neg h4, if_neg h5];exact Ev.bind (E1.K hE) (Ev.some rfl)
  | @grD at_ d hp hd =>
    intro h0 h1 d0 d1 hm;refine Gv ok h0 hm ?_;simp only [if_neg (show ¬ (tv l T).pk at_ = ⟨#[116, 114, 117, 101]⟩ by rw [hp]; decide), if_neg (show ¬ (tv l T).pk at_ = ⟨#[102, 97, 108, 115, 101]⟩ by rw [hp]; decide), if_pos hp, if_pos (show d ≥ 32 from hd)];exact Ev.some rfl
  | @grE at_ d err at1 hp hd hrr he ih =>
    intro h0 h1 d0 d1 hm;have := F.i _ (ne_of hp (by decide));have hE := ih (by omega) (by omega) (by omega) (by omega) (by decide) (by decide);have hep := Hu hrr;refine Gv ok h0 hm ?_;simp only [if_neg (show ¬ (tv l T).pk at_ = ⟨#[116, 114, 117, 101]⟩ by rw [hp]; decide), if_neg (show ¬ (tv l T).pk at_ = ⟨#[102, 97, 108, 115, 101]⟩ by rw [hp]; decide), if_pos hp, if_neg (show ¬ d ≥ 32 from hd), oC (x := at_ + 1) (by omega) (by omega), oC (x := d + 1) (by omega) (by omega)];refine Ev.bind (E1.K hE) ?_;dsimp only [yg];have ro := tJ F hrr (by omega) (by omega) (by decide);simp only [if_neg he];refine Ev.sub 1 ?_;simp only [oq.j1, if_neg ft, show mn 1 err = 1 by unfold mn; split <;> omega, show wrap64 (1 - 1) = 0 from oC (by decide) (by decide), Int.add_zero, oC (x := at1) (by omega) (by omega)];exact Ev.some rfl
  | @grC at_ d at1 e1 hp hd hr hq ih =>
    intro h0 h1 d0 d1 hm;have := F.i _ (ne_of hp (by decide));have ro := tJ F hr (by omega) (by omega) (by decide);have hE := ih (by omega) (by omega) (by omega) (by omega) (by decide) (by decide);refine Gv ok h0 hm ?_;simp only [if_neg (show ¬ (tv l T).pk at_ = ⟨#[116, 114, 117, 101]⟩ by rw [hp]; decide), if_neg (show ¬ (tv l T).pk at_ = ⟨#[102, 97, 108, 115, 101]⟩ by rw [hp]; decide), if_pos hp, if_neg (show ¬ d ≥ 32 from hd), oC (x := at_ + 1) (by omega) (by omega), oC (x := d + 1) (by omega) (by omega)];refine Ev.bind (E1.K hE) ?_;dsimp only [yg];simp only [if_pos z0, rat ok (show 0 ≤ at1 by omega), Option.bind_some, decide_eq_false hq, show (!false) = true from rfl];refine Ev.sub 1 ?_;simp only [oq.j1, if_true];exact Ev.some rfl
  | @gr at_ d at1 e1 hp hd hr hq ih =>
    intro h0 h1 d0 d1 hm;have := F.i _ (ne_of hp (by decide));have ro := tJ F hr (by omega) (by omega) (by decide);have hE := ih (by omega) (by omega) (by omega) (by omega) (by decide) (by decide);refine Gv ok h0 hm ?_;simp only [if_neg (show ¬ (tv l T).pk at_ = ⟨#[116, 114, 117, 101]⟩ by rw [hp]; decide), if_neg (show ¬ (tv l T).pk at_ = ⟨#[102, 97, 108, 115, 101]⟩ by rw [hp]; decide), if_pos hp, if_neg (show ¬ d ≥ 32 from hd), oC (x := at_ + 1) (by omega) (by omega), oC (x := d + 1) (by omega) (by omega)];refine Ev.bind (E1.K hE) ?_;dsimp only [yg];simp only [if_pos z0, rat ok (show 0 ≤ at1 by omega), Option.bind_some, decide_eq_true hq, show (!true) = false from rfl];refine Ev.sub 1 ?_;simp only [oq.j1, if_neg ft, show mn 1 0 = 0 from rfl, show wrap64 (1 - 0) = 1 from oC (by decide) (by decide), oC (x := at1 + 1) (by omega) (by omega)];exact Ev.some rfl
  | @opB at_ d hp hq =>
    intro h0 h1 d0 d1;refine E1.succ (G := fun K k => oD.g (nY.at K) k (strOfNums l) T at_ d) ?_ (fun _ => rfl);simp only [oD.g, oC (x := at_ + 1) (by omega) (by omega), rat ok (show 0 ≤ at_ + 1 by omega), Option.bind_some, if_neg hq];exact Ev.some rfl
  | @opD at_ d hp hq hd =>
    intro h0 h1 d0 d1;refine E1.succ (G := fun K k => oD.g (nY.at K) k (strOfNums l) T at_ d) ?_ (fun _ => rfl);simp only [oD.g, oC (x := at_ + 1) (by omega) (by omega), rat ok (show 0 ≤ at_ + 1 by omega), Option.bind_some, if_pos hq, if_pos (show d ≥ 32 from hd)];exact Ev.some rfl
  | @opE at_ d err at1 hp hq hd _ he ih =>
    intro h0 h1 d0 d1;have := F.i _ (ne_of hq (by decide));have hE := ih (by omega) (by omega) (by omega) (by omega) (by decide) (by decide);refine E1.succ (G := fun K k => oD.g (nY.at K) k (strOfNums l) T at_ d) ?_ (fun _ => rfl);simp only [oD.g, oC (x := at_ + 1) (by omega) (by omega), rat ok (show 0 ≤ at_ + 1 by omega), Option.bind_some, if_pos hq, if_neg (show ¬ d ≥ 32 from hd), oC (x := at_ + 1 + 1) (by omega) (by omega), show at_ + 2 = at_ + 1 + 1 by omega, oC (x := d + 1) (by omega) (by omega)];refine Ev.bind (E1.K hE) ?_;dsimp only [yg];simp only [if_neg he];exact Ev.some rfl
  | @op1 at_ d at1 e1 hp hq hd hr hx ih =>
    intro h0 h1 d0 d1;have := F.i _ (ne_of hq (by decide));have ro := tJ F hr (by omega) (by omega) (by decide);have hE := ih (by omega) (by omega) (by omega) (by omega) (by decide) (by decide);refine E1.succ (G := fun K k => oD.g (nY.at K) k (strOfNums l) T at_ d) ?_ (fun _ => rfl);simp only [oD.g, oC (x := at_ + 1) (by omega) (by omega), rat ok (show 0 ≤ at_ + 1 by omega), Option.bind_some, if_pos hq, if_neg (show ¬ d ≥ 32 from hd), oC (x := at_ + 1 + 1) (by omega) (by omega), show at_ + 2 = at_ + 1 + 1 by omega, oC (x := d + 1) (by omega) (by omega)];refine Ev.bind (E1.K hE) ?_;dsimp only [yg];simp only [if_pos z0];exact Jf ok (by omega) hx
  | @op2 at_ d at1 e1 hp hq hd hr hx hy ih =>
    intro h0 h1 d0 d1;have := F.i _ (ne_of hq (by decide));have ro := tJ F hr (by omega) (by omega) (by decide);have hE := ih (by omega) (by omega) (by omega) (by omega) (by decide) (by decide);refine E1.succ (G := fun K k => oD.g (nY.at K) k (strOfNums l) T at_ d) ?_ (fun _ => rfl);simp only [oD.g, oC (x := at_ + 1) (by omega) (by omega), rat ok (show 0 ≤ at_ + 1 by omega), Option.bind_some, if_pos hq, if_neg (show ¬ d ≥ 32 from hd), oC (x := at_ + 1 + 1) (by omega) (by omega), show at_ + 2 = at_ + 1 + 1 by omega, oC (x := d + 1) (by omega) (by omega)];refine Ev.bind (E1.K hE) ?_;dsimp only [yg];simp only [if_pos z0];exact Jg ok (by omega) (by omega) hx hy
  | @op3 at_ d at1 e1 hp hq hd hr hx hy hz ih =>
    intro h0 h1 d0 d1;have := F.i _ (ne_of hq (by decide));have ro := tJ F hr (by omega) (by omega) (by decide);have hE := ih (by omega) (by omega) (by omega) (by omega) (by decide) (by decide);have hI := xU _ (uG ok (at1 + 1 + 1));rw [show idS ((tv l T).pk (at1 + 1 + 1)) = false by simpa using hz] at hI;refine E1.succ (G := fun K k => oD.g (nY.at K) k (strOfNums l) T at_ d) ?_ (fun _ => rfl);simp only [oD.g, oC (x := at_ + 1) (by omega) (by omega), rat ok (show 0 ≤ at_ + 1 by omega), Option.bind_some, if_pos hq, if_neg (show ¬ d ≥ 32 from hd), oC (x := at_ + 1 + 1) (by omega) (by omega), show at_ + 2 = at_ + 1 + 1 by omega, oC (x := d + 1) (by omega) (by omega)];refine Ev.bind (E1.K hE) ?_;dsimp only [yg];simp only [if_pos z0];refine Dw ok (by omega) (by omega) hx hy (Ev.sub 1 ?_);simp only [oD.l0, if_neg (show ¬ (2 : Int) < 2 by decide), rat ok (show 0 ≤ at1 + 1 + 1 by omega), Option.bind_some];refine Ev.bind (E1.k hI) ?_;simp only [if_neg ft];exact Ev.some rfl
  | @op4 at_ d at1 e1 hp hq hd hr hx hy hz hw ih =>
    intro h0 h1 d0 d1;have := F.i _ (ne_of hq (by decide));have ro := tJ F hr (by omega) (by omega) (by decide);have hE := ih (by omega) (by omega) (by omega) (by omega) (by decide) (by decide);have hI := xU _ (uG ok (at1 + 1 + 1));rw [hz] at hI;refine E1.succ (G := fun K k => oD.g (nY.at K) k (strOfNums l) T at_ d) ?_ (fun _ => rfl);simp only [oD.g, oC (x := at_ + 1) (by omega) (by omega), rat ok (show 0 ≤ at_ + 1 by omega), Option.bind_some, if_pos hq, if_neg (show ¬ d ≥ 32 from hd), oC (x := at_ + 1 + 1) (by omega) (by omega), show at_ + 2 = at_ + 1 + 1 by omega, oC (x := d + 1) (by omega) (by omega)];refine Ev.bind (E1.K hE) ?_;dsimp only [yg];simp only [if_pos z0];refine Dw ok (by omega) (by omega) hx hy (Ev.sub 1 ?_);simp only [oD.l0, if_neg (show ¬ (2 : Int) < 2 by decide), rat ok (show 0 ≤ at1 + 1 + 1 by omega), Option.bind_some, oC (x := at1 + 1 + 1 + 1) (by omega) (by omega), rat ok (show 0 ≤ at1 + 1 + 1 + 1 by omega)];refine Ev.bind (E1.k hI) ?_;simp only [if_true, if_neg hw];exact Ev.some rfl
  | @opH at_ d at1 e1 hp hq hd hr hx hy hz hw hh ih =>
    intro h0 h1 d0 d1;have := F.i _ (ne_of hq (by decide));have ro := tJ F hr (by omega) (by omega) (by decide);obtain ⟨_, _, _, _, _, _, _, r7⟩ := ro.1 rfl;have hE := ih (by omega) (by omega) (by omega) (by omega) (by decide) (by decide);have hI := xU _ (uG ok (at1 + 1 + 1));rw [hz] at hI;have hH := BR (f0 := 6) (f1 := (tv l T).ps at_) (f2 := 0) (a := at1 + 1 + 1 + 2) (told := at_) (f3 := ⟨#[]⟩) (f4 := (tv l T).pk (at1 + 1 + 1)) (f5 := [e1]) (by rw [szs, szs]; omega);rw [if_pos hh] at hH;refine E1.succ (G := fun K k => oD.g (nY.at K) k (strOfNums l) T at_ d) ?_ (fun _ => rfl);simp only [oD.g, oC (x := at_ + 1) (by omega) (by omega), rat ok (show 0 ≤ at_ + 1 by omega), Option.bind_some, if_pos hq, if_neg (show ¬ d ≥ 32 from hd), oC (x := at_ + 1 + 1) (by omega) (by omega), show at_ + 2 = at_ + 1 + 1 by omega, oC (x := d + 1) (by omega) (by omega)];refine Ev.bind (E1.K hE) ?_;dsimp only [yg];simp only [if_pos z0];refine Dw ok (by omega) (by omega) hx hy (Ev.sub 1 ?_);simp only [oD.l0, if_neg (show ¬ (2 : Int) < 2 by decide), rat ok (show 0 ≤ at1 + 1 + 1 by omega), Option.bind_some, oC (x := at1 + 1 + 1 + 1) (by omega) (by omega), rat ok (show 0 ≤ at1 + 1 + 1 + 1 by omega), rpos ok h0, oC (x := at1 + 1 + 1 + 2) (by omega) (by omega), vK];refine Ev.bind (E1.k hI) ?_;simp only [if_true, if_pos hw];exact Ev.bind (E1.k hH) (Ev.some rfl)
  | @op at_ d at1 e1 hp hq hd hr hx hy hz hw hh ih =>
    intro h0 h1 d0 d1;have := F.i _ (ne_of hq (by decide));have ro := tJ F hr (by omega) (by omega) (by decide);obtain ⟨_, _, _, _, _, _, _, r7⟩ := ro.1 rfl;have hE := ih (by omega) (by omega) (by omega) (by omega) (by decide) (by decide);have hI := xU _ (uG ok (at1 + 1 + 1));rw [hz] at hI;have hH := BR (f0 := 6) (f1 := (tv l T).ps at_) (f2 := 0) (a := at1 + 1 + 1 + 2) (told := at_) (f3 := ⟨#[]⟩) (f4 := (tv l T).pk (at1 + 1 + 1)) (f5 := [e1]) (by rw [szs, szs]; omega);rw [if_neg hh] at hH;refine E1.succ (G := fun K k => oD.g (nY.at K) k (strOfNums l) T at_ d) ?_ (fun _ => rfl);simp only [oD.g, oC (x := at_ + 1) (by omega) (by omega), rat ok (show 0 ≤ at_ + 1 by omega), Option.bind_some, if_pos hq, if_neg (show ¬ d ≥ 32 from hd), oC (x := at_ + 1 + 1) (by omega) (by omega), show at_ + 2 = at_ + 1 + 1 by omega, oC (x := d + 1) (by omega) (by omega)];refine Ev.bind (E1.K hE) ?_;dsimp only [yg];simp only [if_pos z0];refine Dw ok (by omega) (by omega) hx hy (Ev.sub 1 ?_);simp only [oD.l0, if_neg (show ¬ (2 : Int) < 2 by decide), rat ok (show 0 ≤ at1 + 1 + 1 by omega), Option.bind_some, oC (x := at1 + 1 + 1 + 1) (by omega) (by omega), rat ok (show 0 ≤ at1 + 1 + 1 + 1 by omega), rpos ok h0, oC (x := at1 + 1 + 1 + 2) (by omega) (by omega), vK];refine Ev.bind (E1.k hI) ?_;simp only [if_true, if_pos hw];refine Ev.bind (E1.k hH) (Ev.some ?_);dsimp only [yg];rw [show at1 + 1 + 1 + 2 = at1 + 1 + 1 + 1 + 1 by omega]
  | @nd1 at_ d hi =>
    intro h0 h1 d0 d1;have i1 := xU _ (uG ok at_);rw [show idS ((tv l T).pk at_) = false by simpa using hi] at i1;refine E1.succ (G := fun K k => ou.g (nY.at K) k (strOfNums l) T at_ d) ?_ (fun _ => rfl);simp only [ou.g, rat ok h0, Option.bind_some];refine Ev.bind (E1.k i1) ?_;simp only [if_neg ft];exact Ev.some rfl
  | @nd2 at_ d hi hp hj =>
    intro h0 h1 d0 d1;have i1 := xU _ (uG ok at_);rw [hi] at i1;have i2 := xU _ (uG ok (at_ + 1 + 1));rw [show idS ((tv l T).pk (at_ + 1 + 1)) = false by simpa using hj] at i2;refine E1.succ (G := fun K k => ou.g (nY.at K) k (strOfNums l) T at_ d) ?_ (fun _ => rfl);simp only [ou.g, rat ok h0, Option.bind_some];refine Ev.bind (E1.k i1) ?_;simp only [if_true, oC (x := at_ + 1) (by omega) (by omega), rat ok (show 0 ≤ at_ + 1 by omega), Option.bind_some, if_pos hp, oC (x := at_ + 1 + 1) (by omega) (by omega), rat ok (show 0 ≤ at_ + 1 + 1 by omega)];refine Ev.bind (E1.k i2) ?_;simp only [if_neg ft];exact Ev.some rfl
  | @nd3 at_ d k nm hi hk hp =>
    intro h0 h1 d0 d1;have hkk := named_ok F hi hk;refine JL ok h0 h1 hi hk (Ev.sub 1 ?_);simp only [ou.j1, rat ok (show 0 ≤ k by omega), rpos ok h0, Option.bind_some, if_neg hp];exact Ev.some rfl
  | @nd4 at_ d k nm hi hk hp hd =>
    intro h0 h1 d0 d1;have hkk := named_ok F hi hk;refine JL ok h0 h1 hi hk (Ev.sub 1 ?_);simp only [ou.j1, rat ok (show 0 ≤ k by omega), Option.bind_some, if_pos hp, if_pos (show d ≥ 32 from hd)];exact Ev.some rfl
  | @nd at_ d k nm err at1 e hi hk hp hd _ ih =>
    intro h0 h1 d0 d1;have hkk := named_ok F hi hk;have hb := F.i _ (ne_of hp (by decide));have hE := ih (by omega) (by omega) (by omega) (by omega) rfl h0 (by omega) (by rw [zi]; trivial) (by rw [hts]; decide) (by rw [szs]; omega) (by omega);rw [show d + 1 - 1 = d by omega] at hE;refine JL ok h0 h1 hi hk (Ev.sub 1 ?_);simp only [ou.j1, rat ok (show 0 ≤ k by omega), rpos ok h0, Option.bind_some, if_pos hp, if_neg (show ¬ d ≥ 32 from hd), oC (x := k + 1) (by omega) (by omega)];exact hE
  | @arH nm p at0 acc at_ d hp hh =>
    intro h0 h1 d0 d1 hps h3 h4 h5 h6 h7 hd1;have hH := BR (f0 := 3) (f1 := p) (f2 := 0) (a := at_ + 1) (told := at0) (f3 := nm) (f4 := ⟨#[]⟩) (f5 := acc) (by omega);rw [if_pos hh] at hH;refine Ev.sub 1 ?_;simp only [ou.l0, rat ok h0, Option.bind_some, if_pos hp, oC (x := at_ + 1) (by omega) (by omega)];exact Ev.bind (E1.k hH) (Ev.some rfl)
  | @arC nm p at0 acc at_ d hp hh =>
    intro h0 h1 d0 d1 hps h3 h4 h5 h6 h7 hd1;have hH := BR (f0 := 3) (f1 := p) (f2 := 0) (a := at_ + 1) (told := at0) (f3 := nm) (f4 := ⟨#[]⟩) (f5 := acc) (by omega);rw [if_neg hh] at hH;refine Ev.sub 1 ?_;simp only [ou.l0, rat ok h0, Option.bind_some, if_pos hp, oC (x := at_ + 1) (by omega) (by omega)];exact Ev.bind (E1.k hH) (Ev.some rfl)
  | @arN nm p at0 acc at_ d hp hne hc =>
    intro h0 h1 d0 d1 hps h3 h4 h5 h6 h7 hd1;have hl : (acc.length : Int) > 0 := by
      cases acc with
      | nil => exact absurd rfl hne
      | cons x a => rw [List.length_cons]; omega
    refine Ev.sub 1 ?_;simp only [ou.l0, rat ok h0, Option.bind_some, if_neg hp, if_pos hl, if_neg hc];exact Ev.some rfl
  | @arE nm p at0 acc at_ d k err at1 hp hk _ he ih =>
    intro h0 h1 d0 d1 hps h3 h4 h5 h6 h7 hd1;rcases hk with ⟨rfl, rfl⟩ | ⟨hne, hc, rfl⟩
    · have hE := ih (by omega) (by omega) d0 d1 (by decide) (by decide);refine Ev.sub 1 ?_;simp only [ou.l0, rat ok h0, Option.bind_some, if_neg hp, List.length_nil, if_neg (show ¬ ((0 : Nat) : Int) > 0 by decide)];refine Ev.sub 1 ?_;simp only [ou.j0, show d - 1 + 1 = d by omega, oC (x := d) (by omega) (by omega)];refine Ev.bind (E1.K hE) ?_;dsimp only [yg];simp only [if_neg he];exact Ev.some rfl
    · have hb := F.i _ (ne_of hc (by decide));have hl : (acc.length : Int) > 0 := by
        cases acc with
        | nil => exact absurd rfl hne
        | cons x a => rw [List.length_cons]; omega
      have hE := ih (by omega) (by omega) d0 d1 (by decide) (by decide);refine Ev.sub 1 ?_;simp only [ou.l0, rat ok h0, Option.bind_some, if_neg hp, if_pos hl, if_pos hc, oC (x := at_ + 1) (by omega) (by omega)];refine Ev.sub 1 ?_;simp only [ou.j0, show d - 1 + 1 = d by omega, oC (x := d) (by omega) (by omega)];refine Ev.bind (E1.K hE) ?_;dsimp only [yg];simp only [if_neg he];exact Ev.some rfl
  | @ar nm p at0 acc at_ d k at1 e1 err at2 e2 hp hk hr _ ih1 ih2 =>
    intro h0 h1 d0 d1 hps h3 h4 h5 h6 h7 hd1;have hkk : at_ ≤ k ∧ k ≤ (T.length : Int) := by
      rcases hk with ⟨_, rfl⟩ | ⟨_, hq, rfl⟩
      · omega
      · have := F.i _ (ne_of hq (by decide)); omega
    have ro := tJ F hr (by omega) (by omega) (Int.le_refl 1);obtain ⟨s, s1, s2, s3, s4, s5, s6, s7⟩ := ro.1 rfl;have hE := ih1 (by omega) (by omega) d0 d1 (by decide) (by decide);have hE2 := ih2 (by omega) (by omega) d0 d1 hps h3 (by omega) (AY h5 (by rw [hps, s4]; exact F.o _ _ h3 (by omega)) (by rw [s4]; exact (F.b s (by omega) (by omega)).2) s6) (by rw [CJ, DY]; omega) (by rw [CO]; omega) hd1;have hln := BO acc;refine Ev.sub 1 ?_;rcases hk with ⟨rfl, rfl⟩ | ⟨hne, hc, rfl⟩
    · simp only [ou.l0, rat ok h0, Option.bind_some, if_neg hp, List.length_nil, if_neg (show ¬ ((0 : Nat) : Int) > 0 by decide)];refine Ev.sub 1 ?_;simp only [ou.j0, show d - 1 + 1 = d by omega, oC (x := d) (by omega) (by omega)];refine Ev.bind (E1.K hE) ?_;dsimp only [yg];simp only [vK, if_pos z0, List.length_nil, if_pos (show 0 < 1759218604441 by decide), Option.bind_some];exact hE2
    · have hl : (acc.length : Int) > 0 := by
        cases acc with
        | nil => exact absurd rfl hne
        | cons x a => rw [List.length_cons]; omega
      simp only [ou.l0, rat ok h0, Option.bind_some, if_neg hp, if_pos hl, if_pos hc, oC (x := at_ + 1) (by omega) (by omega)];refine Ev.sub 1 ?_;simp only [ou.j0, show d - 1 + 1 = d by omega, oC (x := d) (by omega) (by omega)];refine Ev.bind (E1.K hE) ?_;dsimp only [yg];simp only [vK, if_pos z0, if_pos (show acc.length < 1759218604441 by omega), Option.bind_some];exact hE2
end
theorem E1.step {α : Type} {F G : Nat → Option α} {v : α} (e : ∀ k, F (k + 1) = G k) (h : E1 G v) : E1 F v := by
  obtain ⟨n, hn⟩ := h;exact ⟨n + 1, fun k hk => by
    obtain ⟨k, rfl⟩ : ∃ m, k = m + 1 := ⟨k - 1, by omega⟩;rw [e k]; exact hn k (by omega)⟩
theorem E1.same {α : Type} {F G : Nat → Option α} {v : α} (e : ∀ k, F k = G k) (h : E1 G v) : E1 F v := by
  obtain ⟨n, hn⟩ := h;exact ⟨n, fun k hk => by rw [e k]; exact hn k hk⟩
theorem E1.bd {α β : Type} {F : Nat → Option α} {G : α → Nat → Option β} {a : α} {b : β} (h : E1 F a) (g : E1 (G a) b) : E1 (fun k => (F k).bind fun x => G x k) b := by
  obtain ⟨n, hn⟩ := h;obtain ⟨m, hm⟩ := g;exact ⟨n + m, fun k hk => by
    dsimp only;rw [hn k (by omega)]; exact hm k (by omega)⟩
theorem E1.som {α : Type} {a b : α} (e : a = b) : E1 (fun _ => Option.some a) b := ⟨0, fun _ _ => by rw [e]⟩
theorem BU (l : List Int) (h : Bytes l) : bytesOf (strOfNums l) = l := by
  have h2 := wL l;rw [Lib.toList_data] at h2;unfold bytesOf;rw [h2, List.map_map]
  conv => rhs; rw [← List.map_id l]
  apply List.map_congr_left;intro x hx;have := h x hx;simp;omega
theorem xZ (l : List Int) (h : Bytes l) (i : Int) : bt (strOfNums l) i = rd l i := by
  rw [← wM, BU l h]
def signs : ByteArray := ⟨#[40, 41, 123, 125, 44, 59, 58, 46, 60, 43, 45, 42, 33, 61, 64, 47]⟩
def L4 : List ByteArray := [(⟨#[61, 61]⟩ : ByteArray), (⟨#[38, 38]⟩ : ByteArray), (⟨#[124, 124]⟩ : ByteArray), (⟨#[64, 61]⟩ : ByteArray)]
theorem Hw (s : ByteArray) (h1 : 1 ≤ s.size) : ∀ (d i : Nat), i + d = 16 → E1 (fun k => oQ.l0 k s (i : Int)) (if ((bytesOf signs).drop i).contains (bt s 0) then 1 else 0) := by
  have hz : signs.size = 16 := rfl;have hl : (bytesOf signs).length = 16 := rfl;intro d
  induction d with
  | zero =>
    intro i hi;rw [List.drop_eq_nil_of_le (by omega)];refine E1.step (G := fun _ => some 0) (fun k => ?_) (E1.som rfl);simp only [oQ.l0, if_neg (show ¬ (i : Int) < 16 by omega)]
  | succ d ih =>
    intro i hi;refine E1.step (G := fun k => oQ.j1 k s (i : Int) (decide (bt s 0 = bt signs (i : Int)))) (fun k => ?_) ?_
    · simp only [oQ.l0, if_pos (show (i : Int) < 16 by omega), if_pos (show (s.size : Int) ≥ 1 by omega), if_pos (show 0 < (s.size : Int) by omega), if_pos (show 0 ≤ (i : Int) by omega)];exact if_pos (show (i : Int) < (signs.size : Int) by omega)
    · rw [vY (bytesOf signs) i (by omega), wM, List.contains_cons];by_cases h : bt s 0 = bt signs (i : Int)
      · refine E1.step (G := fun _ => some 1) (fun k => ?_) (E1.som (by simp [h]));simp only [oQ.j1, decide_eq_true h, if_true]
      · refine E1.step (G := fun k => oQ.l0 k s ((i + 1 : Nat) : Int)) (fun k => ?_) ?_
        · simp only [oQ.j1, decide_eq_false h, if_neg (show ¬ false = true by decide), oC (x := (i : Int) + 1) (by omega) (by omega), show ((i + 1 : Nat) : Int) = (i : Int) + 1 by omega]
        · have := ih (i + 1) (by omega)
          simpa [h] using this
theorem Hy (s : ByteArray) (h1 : 1 ≤ s.size) : ∀ (d i : Nat), i + d = 4 → E1 (fun k => oQ.l1 k s (i : Int) L4) (if 2 ≤ s.size ∧ ((L4.drop i).any fun y => decide (s.extract 0 2 = y)) = true then 2 else if (bytesOf signs).contains (bt s 0) then 1 else 0) := by
  have hl : L4.length = 4 := rfl;intro d
  induction d with
  | zero =>
    intro i hi;rw [List.drop_eq_nil_of_le (by omega), if_neg (fun h => absurd h.2 (by rw [List.any_nil]; decide))];refine E1.step (G := fun k => oQ.l0 k s 0) (fun k => ?_) (Hw s h1 16 0 rfl);simp only [oQ.l1, if_neg (show ¬ (i : Int) < (L4.length : Int) by omega)]
  | succ d ih =>
    intro i hi;have hr : L4.drop i = xX ByteArray.empty L4 (i : Int) :: L4.drop (i + 1) := by
      rw [List.drop_eq_getElem_cons (by omega)];simp [xX, List.getD_eq_getElem?_getD, show i < L4.length by omega]
    have hi1 := ih (i + 1) (by omega);rw [hr, List.any_cons];refine E1.step (G := fun k => oQ.j0 k s (i : Int) (decide (2 ≤ s.size ∧ s.extract 0 2 = xX ByteArray.empty L4 (i : Int))) L4) (fun k => ?_) ?_
    · simp only [oQ.l1, if_pos (show (i : Int) < (L4.length : Int) by omega), if_pos (show (0 : Nat) ≤ 2 by decide), if_pos (show 0 ≤ (i : Int) by omega)];by_cases h2 : 2 ≤ s.size
      · rw [if_pos (show (s.size : Int) ≥ 2 by omega), if_pos (show (2 : Int) ≤ (s.size : Int) by omega)];have e : decide (s.extract 0 (Int.toNat 2) = xX ByteArray.empty L4 (i : Int)) = decide (2 ≤ s.size ∧ s.extract 0 2 = xX ByteArray.empty L4 (i : Int)) := decide_eq_decide.mpr ⟨fun h => ⟨h2, h⟩, fun h => h.2⟩;rw [e]
      · rw [if_neg (show ¬ (s.size : Int) ≥ 2 by omega), decide_eq_false (fun h => h2 h.1)]
    · by_cases h : 2 ≤ s.size ∧ s.extract 0 2 = xX ByteArray.empty L4 (i : Int)
      · refine E1.step (G := fun _ => some 2) (fun k => ?_) (E1.som ?_)
        · simp only [oQ.j0, decide_eq_true h, if_true]
        · rw [if_pos ⟨h.1, by rw [decide_eq_true h.2]; rfl⟩]
      · refine E1.step (G := fun k => oQ.l1 k s ((i + 1 : Nat) : Int) L4) (fun k => ?_) ?_
        · simp only [oQ.j0, decide_eq_false h, if_neg (show ¬ false = true by decide), oC (x := (i : Int) + 1) (by omega) (by omega), show ((i + 1 : Nat) : Int) = (i : Int) + 1 by omega]
        · by_cases h2 : 2 ≤ s.size
          · rw [decide_eq_false (fun hh => h ⟨h2, hh⟩), Bool.false_or]; exact hi1
          · rw [if_neg (fun hh => h2 hh.1)];rw [if_neg (fun hh => h2 hh.1)] at hi1;exact hi1
def FW (c : Int) : List Int → Bool
  | [] => false
  | b :: _ => Dt c b
theorem D6 (c : Int) (r : List Int) (hb : Bytes (c :: r)) : E1 (fun k => oQ.f k (strOfNums (c :: r))) (if FW c r then 2 else if Dq c then 1 else 0) := by
  have hs := yV (c :: r);rw [List.length_cons] at hs;have h := Hy (strOfNums (c :: r)) (by omega) 4 0 rfl;rw [xZ _ hb, show rd (c :: r) 0 = c from rfl, List.drop_zero, show bytesOf signs = [40, 41, 123, 125, 44, 59, 58, 46, 60, 43, 45, 42, 33, 61, 64, 47] by decide] at h;have e : (2 ≤ (strOfNums (c :: r)).size ∧ (L4.any fun y => decide ((strOfNums (c :: r)).extract 0 2 = y)) = true) ↔ FW c r = true := by
    cases r with
    | nil =>
      rw [List.length_nil] at hs;exact ⟨fun h => by omega, fun h => absurd h (by simp [FW])⟩
    | cons b r =>
      rw [List.length_cons] at hs;have hc := hb c List.mem_cons_self;have hbb := hb b (List.mem_cons_of_mem _ List.mem_cons_self);have e1 := (uF _ _).trans (yA c b hc hbb 61 61 (by decide) (by decide));have e2 := (uF _ _).trans (yA c b hc hbb 38 38 (by decide) (by decide));have e3 := (uF _ _).trans (yA c b hc hbb 124 124 (by decide) (by decide));have e4 := (uF _ _).trans (yA c b hc hbb 64 61 (by decide) (by decide));rw [CU, show ((c :: b :: r).take 2).drop 0 = [c, b] from rfl];unfold L4 FW Dt;simp only [List.any_cons, List.any_nil, Bool.or_false, Bool.or_eq_true, decide_eq_true_eq, Bool.and_eq_true, beq_iff_eq];constructor
      · rintro ⟨_, h | h | h | h⟩
        · exact .inl (.inl (.inl (e1.1 h)))
        · exact .inl (.inl (.inr (e2.1 h)))
        · exact .inl (.inr (e3.1 h))
        · exact .inr (e4.1 h)
      · rintro (((h | h) | h) | h)
        · exact ⟨by omega, .inl (e1.2 h)⟩
        · exact ⟨by omega, .inr (.inl (e2.2 h))⟩
        · exact ⟨by omega, .inr (.inr (.inl (e3.2 h)))⟩
        · exact ⟨by omega, .inr (.inr (.inr (e4.2 h)))⟩
  have h' : E1 (fun k => oQ.f k (strOfNums (c :: r))) _ := h;by_cases ht : FW c r = true
  · rw [if_pos (e.2 ht)] at h'; rw [if_pos ht]; exact h'
  · rw [if_neg (fun hh => ht (e.1 hh))] at h'; rw [if_neg ht]; exact h'
theorem zT {α : Type} (A : Bool → α) (c : Int) : (if c = 32 then A true else if c = 9 then A true else if c = 10 then A true else A (decide (c = 13))) = A (wF c) := by
  unfold wF;by_cases a1 : c = 32
  · simp [a1]
  by_cases a2 : c = 9
  · simp [a2]
  by_cases a3 : c = 10
  · simp [a3]
  rw [if_neg a1, if_neg a2, if_neg a3];have e : decide (c = 13) = (c == 32 || c == 9 || c == 10 || c == 13) := by rw [Bool.eq_iff_iff]; simp [a1, a2, a3]
  rw [e]
theorem Hz {α : Type} (l : List Int) (P : Int → Bool) (F X : Nat → Int → Option α)
    (h1 : ∀ (e : Nat) v, e < l.length → P (rd l (e : Int)) = true → E1 (fun k => F k ((e + 1 : Nat) : Int)) v → E1 (fun k => F k (e : Int)) v)
    (h2 : ∀ (e : Nat) v, e ≤ l.length → (e < l.length → P (rd l (e : Int)) = false) → E1 (fun k => X k (e : Int)) v → E1 (fun k => F k (e : Int)) v) (R : α) :
    ∀ (d e : Nat), ((l.drop e).takeWhile P).length = d → e ≤ l.length → E1 (fun k => X k ((e + d : Nat) : Int)) R → E1 (fun k => F k (e : Int)) R := by
  intro d
  induction d with
  | zero =>
    intro e hd hle hX;by_cases h : e < l.length
    · rw [vY l e h, List.takeWhile_cons] at hd;by_cases hp : P (rd l (e : Int)) = true
      · rw [if_pos hp] at hd; simp at hd
      · exact h2 e R hle (fun _ => by simpa using hp) hX
    · exact h2 e R hle (fun h' => absurd h' h) hX
  | succ d ih =>
    intro e hd hle hX;by_cases h : e < l.length
    · rw [vY l e h, List.takeWhile_cons] at hd;by_cases hp : P (rd l (e : Int)) = true
      · rw [if_pos hp] at hd;exact h1 e R h hp (ih (e + 1) (by simpa using hd) (by omega) (by rw [show e + 1 + d = e + (d + 1) by omega]; exact hX))
      · rw [if_neg hp] at hd; simp at hd
    · rw [List.drop_eq_nil_of_le (by omega)] at hd; simp at hd
theorem HY (l : List Int) (hb : Bytes l) (hl : l.length ≤ 100000) (d : Nat) : ∀ (p : Nat) (acc : List S28), p ≤ l.length → l.length - p ≤ d → acc.length ≤ p → E1 (fun k => oh.l4 k (strOfNums l) acc (p : Int)) (acc ++ toks p (l.drop p)) := by
  have hsz := yV l;have ft : ¬ false = true := by decide
  induction d with
  | zero =>
    intro p acc hp hd ha;refine E1.step (G := fun _ => some acc) (fun k => ?_) (E1.som (by rw [List.drop_eq_nil_of_le (by omega), wu, List.append_nil]));simp only [oh.l4, if_neg (show ¬ (p : Int) < ((strOfNums l).size : Int) by omega)]
  | succ d ih =>
    intro p acc hp hd ha;by_cases h : p < l.length
    · have hr := vY l p h;have hcb := yL hb (p : Int);have hbd : Bytes (rd l (p : Int) :: l.drop (p + 1)) := by rw [← hr]; exact hb.drop p
      have hf := zf (rd l (p : Int)) (l.drop (p + 1));rw [← hr, List.length_drop] at hf
      have fin : ∀ (n : Nat) (kd : Int), rZ (l.drop p) = (kd, n) → E1 (fun k => oh.j0 k (strOfNums l) acc (p : Int) ((p + n : Nat) : Int) kd) (acc ++ toks p (l.drop p)) := by
        intro n kd hfs;rw [hfs] at hf;dsimp only at hf;refine E1.step (G := fun k => oh.l4 k (strOfNums l) (acc ++ [(⟨kd, (p : Int), ((p + n : Nat) : Int)⟩ : S28)]) ((p + n : Nat) : Int)) (fun k => ?_) ?_
        · simp only [oh.j0, if_pos (show acc.length < 5864062014805 by omega), Option.bind_some]
        · have := ih (p + n) (acc ++ [(⟨kd, (p : Int), ((p + n : Nat) : Int)⟩ : S28)]) (by omega) (by omega) (by rw [List.length_append, List.length_singleton]; omega);rw [yB p (l.drop p) (by rw [List.length_drop]; omega), hfs, List.drop_drop]
          simpa using this
      have run : ∀ (P : Int → Bool) (F : Nat → Int → Option (List S28)) (kd : Int), P (rd l (p : Int)) = true → rZ (l.drop p) = (kd, ((l.drop p).takeWhile P).length) →
          (∀ (e : Nat) v, e < l.length → P (rd l (e : Int)) = true → E1 (fun k => F k ((e + 1 : Nat) : Int)) v → E1 (fun k => F k (e : Int)) v) →
          (∀ (e : Nat) v, e ≤ l.length → (e < l.length → P (rd l (e : Int)) = false) → E1 (fun k => oh.j0 k (strOfNums l) acc (p : Int) (e : Int) kd) v → E1 (fun k => F k (e : Int)) v) →
          E1 (fun k => F k ((p : Int) + 1)) (acc ++ toks p (l.drop p)) := by
        intro P F kd hP hfs g1 g2;have hlen : ((l.drop p).takeWhile P).length = ((l.drop (p + 1)).takeWhile P).length + 1 := by rw [hr, List.takeWhile_cons, if_pos hP]; simp
        have := Hz l P F (fun k e => oh.j0 k (strOfNums l) acc (p : Int) e kd) g1 g2 (acc ++ toks p (l.drop p)) _ (p + 1) rfl (by omega) (by
          have := fin _ kd hfs;rw [hlen] at this;rw [show p + 1 + ((l.drop (p + 1)).takeWhile P).length = p + (((l.drop (p + 1)).takeWhile P).length + 1) by omega];exact this)
        rw [show ((p + 1 : Nat) : Int) = (p : Int) + 1 by omega] at this;exact this
      refine E1.step (G := fun k => oh.j5 k (strOfNums l) acc (p : Int) (wF (rd l (p : Int)))) (fun k => ?_) ?_
      · simp only [oh.l4, if_pos (show (p : Int) < ((strOfNums l).size : Int) by omega), if_pos (show 0 ≤ (p : Int) by omega), xZ l hb];exact zT (fun b => oh.j5 k (strOfNums l) acc (p : Int) b) _
      by_cases h1 : wF (rd l (p : Int)) = true
      · refine E1.step (G := fun k => oh.l0 k (strOfNums l) acc (p : Int) ((p : Int) + 1)) (fun k => ?_) ?_
        · simp only [oh.j5, if_pos h1, oC (x := (p : Int) + 1) (by omega) (by omega)]
        refine run wF (fun k e => oh.l0 k (strOfNums l) acc (p : Int) e) 0 h1 (by rw [hr]; simp only [rZ]; rw [if_pos h1]) (fun e v he hp1 hv => ?_) (fun e v he hp1 hv => ?_)
        · refine E1.step (G := fun k => oh.j1 k (strOfNums l) acc (p : Int) (e : Int) (wF (rd l (e : Int)))) (fun k => ?_) (E1.step (fun k => ?_) hv)
          · simp only [oh.l0, if_pos (show (e : Int) < ((strOfNums l).size : Int) by omega), if_pos (show 0 ≤ (e : Int) by omega), xZ l hb];exact zT (fun b => oh.j1 k (strOfNums l) acc (p : Int) (e : Int) b) _
          · simp only [oh.j1, if_pos hp1, oC (x := (e : Int) + 1) (by omega) (by omega), show ((e + 1 : Nat) : Int) = (e : Int) + 1 by omega]
        · refine E1.step (G := fun k => oh.j1 k (strOfNums l) acc (p : Int) (e : Int) false) (fun k => ?_) (E1.step (fun k => by simp only [oh.j1, if_neg ft]) hv);by_cases h' : e < l.length
          · simp only [oh.l0, if_pos (show (e : Int) < ((strOfNums l).size : Int) by omega), if_pos (show 0 ≤ (e : Int) by omega), xZ l hb];rw [← hp1 h'];exact zT (fun b => oh.j1 k (strOfNums l) acc (p : Int) (e : Int) b) _
          · simp only [oh.l0, if_neg (show ¬ (e : Int) < ((strOfNums l).size : Int) by omega)]
      by_cases h2 : rd l (p : Int) = 35
      · refine E1.step (G := fun k => oh.l1 k (strOfNums l) acc (p : Int) ((p : Int) + 1)) (fun k => ?_) ?_
        · simp only [oh.j5, if_neg h1, xZ l hb, if_pos h2, oC (x := (p : Int) + 1) (by omega) (by omega)]
        refine run BF (fun k e => oh.l1 k (strOfNums l) acc (p : Int) e) 1 (by rw [h2]; decide) (by rw [hr]; simp only [rZ]; rw [if_neg h1, if_pos h2]) (fun e v he hp1 hv => ?_) (fun e v he hp1 hv => ?_)
        · have hp2 : ¬ rd l (e : Int) = 10 := by simpa [BF] using hp1
          refine E1.step (G := fun k => oh.j2 k (strOfNums l) acc (p : Int) (e : Int) true) (fun k => ?_) (E1.step (fun k => ?_) hv)
          · simp only [oh.l1, if_pos (show (e : Int) < ((strOfNums l).size : Int) by omega), if_pos (show 0 ≤ (e : Int) by omega), xZ l hb, decide_eq_false hp2, show (!false) = true from rfl]
          · simp only [oh.j2, if_true, oC (x := (e : Int) + 1) (by omega) (by omega), show ((e + 1 : Nat) : Int) = (e : Int) + 1 by omega]
        · refine E1.step (G := fun k => oh.j2 k (strOfNums l) acc (p : Int) (e : Int) false) (fun k => ?_) (E1.step (fun k => by simp only [oh.j2, if_neg ft]) hv);by_cases h' : e < l.length
          · have hp2 : rd l (e : Int) = 10 := by simpa [BF] using hp1 h'
            simp only [oh.l1, if_pos (show (e : Int) < ((strOfNums l).size : Int) by omega), if_pos (show 0 ≤ (e : Int) by omega), xZ l hb, decide_eq_true hp2, show (!true) = false from rfl]
          · simp only [oh.l1, if_neg (show ¬ (e : Int) < ((strOfNums l).size : Int) by omega)]
      by_cases h3 : uK (rd l (p : Int)) = true
      · refine E1.step (G := fun k => oh.l2 k (strOfNums l) acc (p : Int) ((p : Int) + 1)) (fun k => ?_) ?_
        · simp only [oh.j5, if_neg h1, xZ l hb, if_neg h2, vC _ hcb.1 hcb.2, Option.bind_some, if_pos h3, oC (x := (p : Int) + 1) (by omega) (by omega)]
        have wd : ∀ (k e : Nat), e < l.length → oh.l2 (k + 1) (strOfNums l) acc (p : Int) (e : Int) = oh.j3 k (strOfNums l) acc (p : Int) (e : Int) (wC (rd l (e : Int))) := by
          intro k e he;have hce := yL hb (e : Int);simp only [oh.l2, if_pos (show (e : Int) < ((strOfNums l).size : Int) by omega), if_pos (show 0 ≤ (e : Int) by omega), xZ l hb, vC _ hce.1 hce.2, wB, Option.bind_some];unfold wC
          cases uK (rd l (e : Int)) with
          | true => rfl
          | false => rfl
        refine run wC (fun k e => oh.l2 k (strOfNums l) acc (p : Int) e) 2 (by simp [wC, h3]) (by rw [hr]; simp only [rZ]; rw [if_neg h1, if_neg h2, if_pos h3]) (fun e v he hp1 hv => ?_) (fun e v he hp1 hv => ?_)
        · refine E1.step (G := fun k => oh.j3 k (strOfNums l) acc (p : Int) (e : Int) true) (fun k => by rw [wd k e he, hp1]) (E1.step (fun k => ?_) hv);simp only [oh.j3, if_true, oC (x := (e : Int) + 1) (by omega) (by omega), show ((e + 1 : Nat) : Int) = (e : Int) + 1 by omega]
        · refine E1.step (G := fun k => oh.j3 k (strOfNums l) acc (p : Int) (e : Int) false) (fun k => ?_) (E1.step (fun k => by simp only [oh.j3, if_neg ft]) hv);by_cases h' : e < l.length
          · rw [wd k e h', hp1 h']
          · simp only [oh.l2, if_neg (show ¬ (e : Int) < ((strOfNums l).size : Int) by omega)]
      by_cases h4 : vO (rd l (p : Int)) = true
      · refine E1.step (G := fun k => oh.l3 k (strOfNums l) acc (p : Int) ((p : Int) + 1)) (fun k => ?_) ?_
        · simp only [oh.j5, if_neg h1, xZ l hb, if_neg h2, vC _ hcb.1 hcb.2, wB, Option.bind_some, if_neg h3, if_pos h4, oC (x := (p : Int) + 1) (by omega) (by omega)]
        have wd : ∀ (k e : Nat), e < l.length → oh.l3 (k + 1) (strOfNums l) acc (p : Int) (e : Int) = oh.j4 k (strOfNums l) acc (p : Int) (e : Int) (vO (rd l (e : Int))) := by
          intro k e he;simp only [oh.l3, if_pos (show (e : Int) < ((strOfNums l).size : Int) by omega), if_pos (show 0 ≤ (e : Int) by omega), xZ l hb, wB, Option.bind_some]
        refine run vO (fun k e => oh.l3 k (strOfNums l) acc (p : Int) e) 3 h4 (by rw [hr]; simp only [rZ]; rw [if_neg h1, if_neg h2, if_neg h3, if_pos h4]) (fun e v he hp1 hv => ?_) (fun e v he hp1 hv => ?_)
        · refine E1.step (G := fun k => oh.j4 k (strOfNums l) acc (p : Int) (e : Int) true) (fun k => by rw [wd k e he, hp1]) (E1.step (fun k => ?_) hv);simp only [oh.j4, if_true, oC (x := (e : Int) + 1) (by omega) (by omega), show ((e + 1 : Nat) : Int) = (e : Int) + 1 by omega]
        · refine E1.step (G := fun k => oh.j4 k (strOfNums l) acc (p : Int) (e : Int) false) (fun k => ?_) (E1.step (fun k => by simp only [oh.j4, if_neg ft]) hv);by_cases h' : e < l.length
          · rw [wd k e h', hp1 h']
          · simp only [oh.l3, if_neg (show ¬ (e : Int) < ((strOfNums l).size : Int) by omega)]
      have hx : (strOfNums l).extract (p : Int).toNat (strOfNums l).size = strOfNums (rd l (p : Int) :: l.drop (p + 1)) := by
        rw [hsz, Int.toNat_natCast, CU, List.take_length, hr]
      have hfs : rZ (l.drop p) = if FW (rd l (p : Int)) (l.drop (p + 1)) then (4, 2) else if Dq (rd l (p : Int)) then (4, 1) else (5, 1) := by
        rw [hr]
        cases l.drop (p + 1) with
        | nil => simp only [rZ, FW]; rw [if_neg h1, if_neg h2, if_neg h3, if_neg h4]; simp
        | cons b r => simp only [rZ, FW]; rw [if_neg h1, if_neg h2, if_neg h3, if_neg h4]; rfl
      have hsg := D6 _ _ hbd;refine E1.step (G := fun k => (oQ.f k (strOfNums (rd l (p : Int) :: l.drop (p + 1)))).bind fun a7 => (if a7 > 0 then (oh.j0 k (strOfNums l) acc (p : Int) (wrap64 ((p : Int) + a7)) 4) else (oh.j0 k (strOfNums l) acc (p : Int) (wrap64 ((p : Int) + 1)) 5))) (fun k => ?_) ?_
      · simp only [oh.j5, if_neg h1, xZ l hb, if_neg h2, vC _ hcb.1 hcb.2, wB, Option.bind_some, if_neg h3, if_neg h4, if_pos (show 0 ≤ (p : Int) by omega), if_pos (show (p : Int) ≤ ((strOfNums l).size : Int) by omega), hx]
      refine E1.bd hsg ?_;by_cases h5 : FW (rd l (p : Int)) (l.drop (p + 1)) = true
      · rw [if_pos h5] at hfs;have := fin 2 4 hfs;simp only [if_pos h5, if_pos (show (2 : Int) > 0 by decide), oC (x := (p : Int) + 2) (by omega) (by omega)];exact this
      · rw [if_neg h5] at hfs;by_cases h6 : Dq (rd l (p : Int)) = true
        · rw [if_pos h6] at hfs;have := fin 1 4 hfs;simp only [if_neg h5, if_pos h6, if_pos (show (1 : Int) > 0 by decide), oC (x := (p : Int) + 1) (by omega) (by omega)];exact this
        · rw [if_neg h6] at hfs;have := fin 1 5 hfs;simp only [if_neg h5, if_neg h6, if_neg (show ¬ (0 : Int) > 0 by decide), oC (x := (p : Int) + 1) (by omega) (by omega)];exact this
    · refine E1.step (G := fun _ => some acc) (fun k => ?_) (E1.som (by rw [List.drop_eq_nil_of_le (by omega), wu, List.append_nil]));simp only [oh.l4, if_neg (show ¬ (p : Int) < ((strOfNums l).size : Int) by omega)]
theorem Ai {l : List Int} (hb : Bytes l) (hl : l.length ≤ 100000) : E1 (fun k => oh.f k (strOfNums l)) (toks 0 l) := HY l hb hl l.length 0 [] (Nat.zero_le _) (Nat.le_refl _) (Nat.le_refl _)
theorem FX (l : List S28) (hl : l.length ≤ 1000000) (d : Nat) : ∀ (i : Nat) (acc : List S28), i ≤ l.length → l.length - i = d → acc.length ≤ i → E1 (fun k => qp.l0 k l acc (i : Int)) (acc ++ vw (l.drop i)) := by
  induction d with
  | zero =>
    intro i acc hi hd ha;refine E1.step (G := fun _ => some acc) (fun k => ?_) (E1.som (by rw [List.drop_eq_nil_of_le (by omega)]; simp [vw]));simp only [qp.l0, if_neg (show ¬ (i : Int) < (l.length : Int) by omega)]
  | succ d ih =>
    intro i acc hi hd ha;refine E1.step (G := fun k => qp.j0 k l acc (i : Int) ((oO l (i : Int)).f0 != 0 && (oO l (i : Int)).f0 != 1)) (fun k => ?_) ?_
    · simp only [qp.l0, if_pos (show (i : Int) < (l.length : Int) by omega), if_pos (show 0 ≤ (i : Int) by omega)];by_cases h0 : (oO l (i : Int)).f0 > 1
      · rw [if_pos h0, show ((oO l (i : Int)).f0 != 0 && (oO l (i : Int)).f0 != 1) = true by simp; omega]
      · rw [if_neg h0];have e : decide ((oO l (i : Int)).f0 < 0) = ((oO l (i : Int)).f0 != 0 && (oO l (i : Int)).f0 != 1) := by
          rw [Bool.eq_iff_iff]; simp; omega
        rw [e]
    · rw [zA l i (by omega)];have hkeep := ih (i + 1) (acc ++ [oO l (i : Int)]) (by omega) (by omega) (by simp; omega);have hdrop := ih (i + 1) acc (by omega) (by omega) (by omega);unfold vw at *;rw [List.filter_cons];by_cases h : ((oO l (i : Int)).f0 != 0 && (oO l (i : Int)).f0 != 1) = true
      · refine E1.step (fun k => ?_) (E1.same (fun _ => rfl) (by rw [if_pos h]; simpa using hkeep));simp only [qp.j0, if_pos h, if_pos (show (i : Int) < (l.length : Int) by omega), if_pos (show 0 ≤ (i : Int) by omega), if_pos (show acc.length < 5864062014805 by omega), Option.bind_some, oC (x := (i : Int) + 1) (by omega) (by omega)]
      · refine E1.step (fun k => ?_) (E1.same (fun _ => rfl) (by rw [if_neg h]; exact hdrop));simp only [qp.j0, if_neg h, oC (x := (i : Int) + 1) (by omega) (by omega), show ((i + 1 : Nat) : Int) = (i : Int) + 1 by omega]
theorem CX {l : List S28} (hl : l.length ≤ 1000000) : E1 (fun k => qp.f k l) (vw l) := FX l hl l.length 0 [] (Nat.zero_le _) rfl (Nat.le_refl _)
theorem H6 (l : List S28) (hl : l.length ≤ 1000000) (d : Nat) : ∀ (i : Nat), i ≤ l.length → l.length - i = d → E1 (fun k => qQ.l0 k l (i : Int)) (match Dv (l.drop i) with | none => -1 | some t => t.f1) := by
  induction d with
  | zero =>
    intro i hi hd;refine E1.step (G := fun _ => some (-1)) (fun k => ?_) (E1.som (by rw [List.drop_eq_nil_of_le (by omega)]; rfl));simp only [qQ.l0, if_neg (show ¬ (i : Int) < (l.length : Int) by omega)]
  | succ d ih =>
    intro i hi hd;rw [zA l i (by omega), Dv];by_cases h : (oO l (i : Int)).f0 = 5
    · rw [if_pos h];refine E1.step (G := fun _ => some (oO l (i : Int)).f1) (fun k => ?_) (E1.som rfl);simp only [qQ.l0, if_pos (show (i : Int) < (l.length : Int) by omega), if_pos (show 0 ≤ (i : Int) by omega), if_pos h]
    · rw [if_neg h];refine E1.step (fun k => ?_) (ih (i + 1) (by omega) (by omega));simp only [qQ.l0, if_pos (show (i : Int) < (l.length : Int) by omega), if_pos (show 0 ≤ (i : Int) by omega), if_neg h, oC (x := (i : Int) + 1) (by omega) (by omega), show ((i + 1 : Nat) : Int) = (i : Int) + 1 by omega]
theorem D7 {l : List Int} (hb : Bytes l) (hl : l.length ≤ 100000) : E1 (fun k => qQ.f k (strOfNums l)) (match Dv (toks 0 l) with | none => -1 | some t => t.f1) := by
  have hn2 := wV l.length 0 l (Nat.le_refl _);have h := H6 (toks 0 l) (by omega) (toks 0 l).length 0 (Nat.zero_le _) rfl;rw [List.drop_zero] at h;simp only [qQ.f];exact E1.bd (Ai hb hl) h
theorem D8 {l : List Int} (hb : Bytes l) (hl : l.length ≤ 100000) : E1 (fun k => uj.f k (strOfNums l)) (strOfNums l, vw (toks 0 l)) := by
  have hn2 := wV l.length 0 l (Nat.le_refl _);simp only [uj.f];exact E1.bd (Ai hb hl) (E1.bd (CX (by omega)) (E1.som rfl))
theorem H7 {t : S28} : ∀ L : List S28, Dv L = some t → t ∈ L := fun L => by
  induction L with
  | nil => intro h; exact absurd h (by simp [Dv])
  | cons x L ih =>
    intro h;rw [Dv] at h;split at h
    · injection h with h; rw [h]; simp
    · exact List.mem_cons_of_mem _ (ih h)
theorem FY (P : Int → Bool) : ∀ l : List Int, l.take (l.takeWhile P).length = l.takeWhile P := by
  intro l
  induction l with
  | nil => rfl
  | cons x l ih =>
    rw [List.takeWhile_cons];by_cases h : P x = true
    · rw [if_pos h, List.length_cons, List.take_succ_cons, ih]
    · rw [if_neg h]; rfl
theorem D9 {l : List Int} {n : Nat} (h : rZ l = (3, n)) : ∀ x ∈ l.take n, 48 ≤ x ∧ x ≤ 57 := by
  cases l with
  | nil =>
    simp only [rZ] at h;exact absurd (congrArg Prod.fst h) (by dsimp only; decide)
  | cons c r =>
    simp only [rZ] at h;by_cases h1 : wF c = true
    · rw [if_pos h1] at h; exact absurd (congrArg Prod.fst h) (by dsimp only; decide)
    rw [if_neg h1] at h;by_cases h2 : c = 35
    · rw [if_pos h2] at h; exact absurd (congrArg Prod.fst h) (by dsimp only; decide)
    rw [if_neg h2] at h;by_cases h3 : uK c = true
    · rw [if_pos h3] at h; exact absurd (congrArg Prod.fst h) (by dsimp only; decide)
    rw [if_neg h3] at h;by_cases h4 : vO c = true
    · rw [if_pos h4] at h;have hn : ((c :: r).takeWhile vO).length = n := congrArg Prod.snd h;rw [← hn, FY];intro x hx;have := List.all_takeWhile (p := vO) (l := c :: r);have := List.all_eq_true.1 this x hx
      simpa [vO] using this
    rw [if_neg h4] at h
    cases r with
    | nil =>
      dsimp only at h;by_cases h5 : Dq c = true
      · rw [if_pos h5] at h; exact absurd (congrArg Prod.fst h) (by dsimp only; decide)
      · rw [if_neg h5] at h; exact absurd (congrArg Prod.fst h) (by dsimp only; decide)
    | cons b r =>
      dsimp only at h;by_cases h6 : Dt c b = true
      · rw [if_pos h6] at h; exact absurd (congrArg Prod.fst h) (by dsimp only; decide)
      rw [if_neg h6] at h;by_cases h5 : Dq c = true
      · rw [if_pos h5] at h; exact absurd (congrArg Prod.fst h) (by dsimp only; decide)
      · rw [if_neg h5] at h; exact absurd (congrArg Prod.fst h) (by dsimp only; decide)
theorem FZ : ∀ (d p : Nat) (l : List Int), l.length ≤ d → ∀ t, t ∈ toks p l → t.f0 = 3 → ∀ x ∈ (l.take (t.f2.toNat - p)).drop (t.f1.toNat - p), 48 ≤ x ∧ x ≤ 57 := by
  intro d
  induction d with
  | zero =>
    intro p l h;have : l = [] := List.eq_nil_of_length_eq_zero (by omega);subst this;rw [wu];exact fun t ht => absurd ht (by simp)
  | succ d ih =>
    intro p l h t ht h3 x hx;by_cases h0 : 0 < l.length
    · have hf := xO l h0;rw [yB p l h0] at ht;have hl2 : (l.drop (rZ l).2).length ≤ d := by rw [List.length_drop]; omega
      rcases List.mem_cons.1 ht with rfl | ht
      · dsimp only at h3 hx;refine D9 (n := (rZ l).2) (Prod.ext h3 rfl) x ?_;have hx := List.mem_of_mem_drop hx;rw [show ((p + (rZ l).2 : Nat) : Int).toNat - p = (rZ l).2 by omega] at hx;exact hx
      · have hin := (CQ _ (p + (rZ l).2) (l.drop (rZ l).2) (Nat.le_refl _)).1 t ht;refine ih (p + (rZ l).2) (l.drop (rZ l).2) hl2 t ht h3 x ?_;rw [List.drop_take, List.drop_drop, show t.f2.toNat - (p + (rZ l).2) - (t.f1.toNat - (p + (rZ l).2)) = t.f2.toNat - p - (t.f1.toNat - p) by omega, show (rZ l).2 + (t.f1.toNat - (p + (rZ l).2)) = t.f1.toNat - p by omega];rw [List.drop_take] at hx;exact hx
    · have : l = [] := List.eq_nil_of_length_eq_zero (by omega);subst this;rw [wu] at ht;exact absurd ht (by simp)
theorem F5 {l : List Int} (hb : Bytes l) : ∀ i, (tv l (vw (toks 0 l))).nm i = true → ∀ x ∈ bytesOf ((tv l (vw (toks 0 l))).pk i), 48 ≤ x ∧ x ≤ 57 := by
  intro i h x hx;rw [FQ] at h;rw [ER] at hx;by_cases hi : 0 ≤ i ∧ i < ((vw (toks 0 l)).length : Int)
  · rw [if_pos hi] at h hx;have e : oO (vw (toks 0 l)) i ∈ toks 0 l := by
      have : oO (vw (toks 0 l)) i = (vw (toks 0 l))[i.toNat]'(by omega) := by
        unfold oO;rw [List.getD_eq_getElem?_getD, List.getElem?_eq_getElem (by omega)]; rfl
      rw [this];exact (List.mem_filter.1 (List.getElem_mem _)).1
    rw [BU _ ((hb.take _).drop _)] at hx;exact FZ l.length 0 l (Nat.le_refl _) _ e (of_decide_eq_true h) x hx
  · rw [if_neg hi] at h; exact absurd h (by decide)
theorem both {l : List Int} (hb : Bytes l) (hl : l.length ≤ 100000) : ∃ (e : S44) (a err : Int), sz e ≤ 500000 ∧ E1 (fun k => qK.f k l) (yg e err a) ∧ E1 (fun k => sH.f k (strOfNums l)) (yg e err a) := by
  have hB := D7 hb hl;have hN := D8 hb hl
  cases h : Dv (toks 0 l) with
  | some t =>
    rw [h] at hB;have hin := (CQ l.length 0 l (Nat.le_refl _)).1 t (H7 _ h);refine ⟨z44, t.f1, 10, by rw [yc]; decide, EW hb hl h, ?_⟩;simp only [sH.f];refine E1.bd hB ?_;simp only [if_pos (show t.f1 ≥ 0 by omega)];exact E1.som rfl
  | none =>
    rw [h] at hB;obtain ⟨err, at1, e, hr⟩ := parse_any (l := l) hl;have hp := EX hb hl h hr;have ok := CS (l := l) hl;have F := ET ok;have hn := ok.n;have ro := tJ F hr (Int.le_refl 0) (by omega) (Int.le_refl 1);have hE := Jh ok (F5 hb) hr (Int.le_refl 0) (by omega) (Int.le_refl 0) (by decide) (Int.le_refl 1) (by decide);have hs := yV l;generalize vw (toks 0 l) = T at hr ok ro hp hE hN F hn;have hR : ∀ v, E1 (fun _ => if err = 0 then (if at1 < (T.length : Int) then (some ((0, 0, 0, ⟨#[]⟩, ⟨#[]⟩, [], (tv l T).ps at1, 11) : Int × Int × Int × ByteArray × ByteArray × List S44 × Int × Int)) else some (e.f0, e.f1, e.f2, e.f3, e.f4, e.f5, (l.length : Int), 0)) else some (0, 0, 0, ⟨#[]⟩, ⟨#[]⟩, [], (tv l T).ps at1, err)) v → E1 (fun k => sH.f k (strOfNums l)) v := by
      intro v hv;simp only [sH.f];refine E1.bd hB ?_;simp only [if_neg (show ¬ (-1 : Int) ≥ 0 by decide)];refine E1.bd hN (E1.bd hE ?_);dsimp only [yg];simp only [rpos ok (show 0 ≤ at1 by omega), Option.bind_some, hs];exact hv
    by_cases hc : err = 0 ∧ (T.length : Int) ≤ at1
    · rw [if_pos hc] at hp;obtain ⟨s, s1, s2, s3, s4, s5, s6, s7⟩ := ro.1 hc.1;refine ⟨e, (l.length : Int), 0, by omega, hp, hR _ ?_⟩;simp only [if_pos hc.1, if_neg (show ¬ at1 < (T.length : Int) by omega)];exact E1.som rfl
    · rw [if_neg hc] at hp;refine ⟨z44, (tv l T).ps at1, if err = 0 then 11 else err, by rw [yc]; decide, hp, hR _ ?_⟩;by_cases he : err = 0
      · simp only [if_pos he, if_pos (show at1 < (T.length : Int) by omega)];exact E1.som rfl
      · simp only [if_neg he];exact E1.som rfl
theorem F6 (l : List Int) (hl : l.length ≤ 1000000) (d : Nat) : ∀ (i : Nat), i ≤ l.length → l.length - i = d → E1 (fun k => qO.l0 k l l (i : Int)) true := by
  induction d with
  | zero =>
    intro i hi hd;refine E1.step (G := fun _ => some true) (fun k => ?_) (E1.som rfl);simp only [qO.l0, if_neg (show ¬ (i : Int) < (l.length : Int) by omega)]
  | succ d ih =>
    intro i hi hd;refine E1.step (fun k => ?_) (ih (i + 1) (by omega) (by omega));simp only [qO.l0, if_pos (show (i : Int) < (l.length : Int) by omega), if_pos (show 0 ≤ (i : Int) by omega), if_true, oC (x := (i : Int) + 1) (by omega) (by omega), show ((i + 1 : Nat) : Int) = (i : Int) + 1 by omega]
theorem Ea {l : List Int} (hl : l.length ≤ 100000) : E1 (fun k => tK.f k l l) true := by
  have hS : E1 (fun k => qO.f k l l) true := by
    simp only [qO.f, if_true];exact F6 l (by omega) l.length 0 (Nat.zero_le _) rfl
  have hlen : (l ++ [77, 78, 79]).length = l.length + 3 := by rw [List.length_append]; rfl
  have r : ∀ j : Nat, rd (l ++ [77, 78, 79]) ((l.length : Int) + (j : Int)) = ([77, 78, 79] : List Int).getD j 0 := by
    intro j;unfold rd;rw [show ((l.length : Int) + (j : Int)).toNat = l.length + j by omega, List.getD_eq_getElem?_getD, List.getD_eq_getElem?_getD, List.getElem?_append_right (by omega), show l.length + j - l.length = j by omega]
  have r0 := r 0;have r1 := r 1;have r2 := r 2;rw [show (l.length : Int) + ((0 : Nat) : Int) = (l.length : Int) by omega] at r0;rw [show (l.length : Int) + ((1 : Nat) : Int) = (l.length : Int) + 1 by omega] at r1;rw [show (l.length : Int) + ((2 : Nat) : Int) = (l.length : Int) + 2 by omega] at r2;have t1 : (l ++ [77, 78, 79]).take ((l.length : Int) + 3).toNat = l ++ [77, 78, 79] := List.take_of_length_le (by rw [hlen]; omega);have t2 : (l ++ [77, 78, 79]).take (l.length : Int).toNat = l := by rw [Int.toNat_natCast, List.take_left']; rfl
  simp only [tK.f, oC (x := (l.length : Int) + 3) (by omega) (by omega), oC (x := (l.length : Int) + 1) (by omega) (by omega), oC (x := (l.length : Int) + 2) (by omega) (by omega), t1, t2, hlen, Option.bind_some, if_pos (show 0 ≤ (l.length : Int) + 3 by omega), if_pos (show (l.length : Int) + 3 ≤ ((l.length + 3 : Nat) : Int) by omega), if_pos (show 0 ≤ (l.length : Int) by omega), if_pos (show (l.length : Int) ≤ ((l.length + 3 : Nat) : Int) by omega)];refine E1.bd hS ?_;simp only [if_true, r0, r1, r2, if_pos (show (l.length : Int) < ((l.length + 3 : Nat) : Int) by omega), if_pos (show 0 ≤ (l.length : Int) + 1 by omega), if_pos (show (l.length : Int) + 1 < ((l.length + 3 : Nat) : Int) by omega), if_pos (show 0 ≤ (l.length : Int) + 2 by omega), if_pos (show (l.length : Int) + 2 < ((l.length + 3 : Nat) : Int) by omega), if_pos (show ([77, 78, 79] : List Int).getD 0 0 = 77 from rfl), if_pos (show ([77, 78, 79] : List Int).getD 1 0 = 78 from rfl)];exact E1.som rfl
theorem F7 : ∀ (n : Nat) (e : S44), sz e ≤ n → sz e ≤ 1000000 → E1 (fun k => pO.f k e.f0 e.f1 e.f2 e.f3 e.f4 e.f5 e.f0 e.f1 e.f2 e.f3 e.f4 e.f5) true := by
  intro n
  induction n with
  | zero => intro e h; rw [yc] at h; omega
  | succ n ih =>
    intro e h hn;rw [yc] at h hn;have hlen := BO e.f5;have loop : ∀ (d i : Nat), i + d = e.f5.length → Ev (fun K k => pF.l0 (o8.at K) k e.f5 e.f5 (i : Int)) true := by
      intro d
      induction d with
      | zero =>
        intro i hid;refine Ev.sub 1 ?_;simp only [pF.l0, if_neg (show ¬ (i : Int) < (e.f5.length : Int) by omega)];exact Ev.some rfl
      | succ d ihd =>
        intro i hid;have hil : i < e.f5.length := by omega
        have hs := EN hil;have this := ihd (i + 1) (by omega);rw [show ((i + 1 : Nat) : Int) = (i : Int) + 1 by omega] at this;refine Ev.sub 1 ?_;simp only [pF.l0, if_pos (show (i : Int) < (e.f5.length : Int) by omega), if_pos (show 0 ≤ (i : Int) by omega), oC (x := (i : Int) + 1) (by omega) (by omega)];refine Ev.bind (E1.K (ih (oU e.f5 (i : Int)) (by omega) (by omega))) ?_;simp only [if_true];exact this
    have hA : E1 (fun k => pF.f k e.f5 e.f5) true := by
      refine E1.succ (G := fun K k => pF.g (o8.at K) k e.f5 e.f5) ?_ (fun _ => rfl);simp only [pF.g, if_true];exact loop e.f5.length 0 (by omega)
    refine E1.succ (G := fun K k => pO.g (o8.at K) k e.f0 e.f1 e.f2 e.f3 e.f4 e.f5 e.f0 e.f1 e.f2 e.f3 e.f4 e.f5) ?_ (fun _ => rfl);simp only [pO.g, if_true, decide_true, show (!true) = false from rfl];refine Ev.sub 1 ?_;simp only [pO.j0, if_neg (show ¬ false = true by decide)];exact Ev.bind (E1.K hA) (Ev.some rfl)
theorem CY (k : Nat) : sF.f (k + 100) = some true := by kernel_rfl
theorem BX : E1 (fun k => (sF.f k).bind fun t => some t) true := ⟨100, fun k hk => by
  obtain ⟨k, rfl⟩ : ∃ n, k = n + 100 := ⟨k - 100, by omega⟩;dsimp only;rw [CY]; rfl⟩
theorem ExprParses : qJ.Pure := by
  intro l _ _ hw;have hb := Bytes.JH hw;refine Ev.out (F := fun _ k => qJ.f k l) ?_;simp only [qJ.f];by_cases hl : (l.length : Int) > 1000
  · simp only [if_pos hl]; exact E1.k BX
  simp only [if_neg hl, rQ.f, if_pos (show l.length < 140737488355325 by omega), Option.bind_some];obtain ⟨e, a, err, hs, hP, hR⟩ := both hb (by omega);refine Ev.bind (E1.k hP) (Ev.bind (E1.k hR) ?_);dsimp only [yg];refine Ev.bind (E1.k (F7 (sz e) e (Nat.le_refl _) (by omega))) ?_;simp only [if_true];refine Ev.bind (E1.k (zo (e := e) (by omega))) (Ev.bind (E1.k (zS (sz e) e (Nat.le_refl _) (by omega))) ?_);simp only [if_true];refine Ev.bind (E1.k (Ea (by omega))) ?_;simp only [if_true];exact E1.k BX
end Go.Proofs.Yteoccoklbmjiaaa.Pure
