import Derived.Test.YtpfepkkpbampkaaDoorCWalk
import Derived.Lib.Bytes
set_option linter.unusedVariables false
set_option linter.unusedSimpArgs false
namespace Go.Proofs.YtpfepkkpbampkaaDoorW.PrintWords
open Go.RowKit Go.Proofs.YtpfepkkpbampkaaDoorW.PrintLast Go.Proofs.YtpfepkkpbampkaaDoorW.PrintMore
namespace B
section
variable {P : Program} {W : World} {t : TypeId} {x y : Operand}
theorem kW (X Y : Int) : ((do eqGuard .add t x y (.int .i64 X) (.int .i64 Y); Go.binOp .add t (.int .i64 X) (.int .i64 Y) : Sem Value)).run P W = .ok (.int .i64 (wrap64 (X + Y))) W := by first | rfl | (go_simp; done) | (go_simp; rfl) | (go_simp; exact lK _) | (go_simp; exact lM _)
theorem Hf (X Y : Int) : ((do eqGuard .and t x y (.int .i64 X) (.int .i64 Y); Go.binOp .and t (.int .i64 X) (.int .i64 Y) : Sem Value)).run P W = .ok (.int .i64 (Go.bits .and .i64 X Y)) W := by first | rfl | (go_simp; done) | (go_simp; rfl) | (go_simp; exact lK _) | (go_simp; exact lM _)
theorem lu (X Y : Int) : ((do eqGuard .lss t x y (.int .i64 X) (.int .i64 Y); Go.binOp .lss t (.int .i64 X) (.int .i64 Y) : Sem Value)).run P W = .ok (.bool (decide (X < Y))) W := by first | rfl | (go_simp; done) | (go_simp; rfl) | (go_simp; exact lK _) | (go_simp; exact lM _)
theorem EC (X Y : Int) : ((do eqGuard .leq t x y (.int .i64 X) (.int .i64 Y); Go.binOp .leq t (.int .i64 X) (.int .i64 Y) : Sem Value)).run P W = .ok (.bool (decide (X ≤ Y))) W := by first | rfl | (go_simp; done) | (go_simp; rfl) | (go_simp; exact lK _) | (go_simp; exact lM _)
theorem sJ (X Y : Int) : ((do eqGuard .gtr t x y (.int .i64 X) (.int .i64 Y); Go.binOp .gtr t (.int .i64 X) (.int .i64 Y) : Sem Value)).run P W = .ok (.bool (decide (X > Y))) W := by first | rfl | (go_simp; done) | (go_simp; rfl) | (go_simp; exact lK _) | (go_simp; exact lM _)
theorem tX (X Y : Int) : ((do eqGuard .geq t x y (.int .i64 X) (.int .i64 Y); Go.binOp .geq t (.int .i64 X) (.int .i64 Y) : Sem Value)).run P W = .ok (.bool (decide (X ≥ Y))) W := by first | rfl | (go_simp; done) | (go_simp; rfl) | (go_simp; exact lK _) | (go_simp; exact lM _)
theorem qh (X Y : Int) : ((do eqGuard .eql t x y (.int .i64 X) (.int .i64 Y); Go.binOp .eql t (.int .i64 X) (.int .i64 Y) : Sem Value)).run P W = .ok (.bool (decide (X = Y))) W := by first | rfl | (go_simp; done) | (go_simp; rfl) | (go_simp; exact lK _) | (go_simp; exact lM _)
theorem qU (X Y : Int) : ((do eqGuard .neq t x y (.int .i64 X) (.int .i64 Y); Go.binOp .neq t (.int .i64 X) (.int .i64 Y) : Sem Value)).run P W = .ok (.bool (!decide (X = Y))) W := by first | rfl | (go_simp; done) | (go_simp; rfl) | (go_simp; exact lK _) | (go_simp; exact lM _)
theorem Hg (X Y : Int) (h : ¬ Y = 0) : ((do eqGuard .rem t x y (.int .i64 X) (.int .i64 Y); Go.binOp .rem t (.int .i64 X) (.int .i64 Y) : Sem Value)).run P W = .ok (.int .i64 (Int.tmod X Y)) W := by
  have h' : (Y == 0) = false := by simpa using h
  first | (go_simp; done) | (go_simp; rfl)
theorem D6 (X Y : Int) : ((do eqGuard .eql t x y (.int .i8 X) (.int .i8 Y); Go.binOp .eql t (.int .i8 X) (.int .i8 Y) : Sem Value)).run P W = .ok (.bool (decide (X = Y))) W := by first | rfl | (go_simp; done) | (go_simp; rfl) | (go_simp; exact lK _) | (go_simp; exact lM _)
theorem II (X Y : Int) : ((do eqGuard .neq t x y (.int .i8 X) (.int .i8 Y); Go.binOp .neq t (.int .i8 X) (.int .i8 Y) : Sem Value)).run P W = .ok (.bool (!decide (X = Y))) W := by first | rfl | (go_simp; done) | (go_simp; rfl) | (go_simp; exact lK _) | (go_simp; exact lM _)
theorem uD (X Y : Int) : ((do eqGuard .add t x y (.int .u64 X) (.int .u64 Y); Go.binOp .add t (.int .u64 X) (.int .u64 Y) : Sem Value)).run P W = .ok (.int .u64 (IntKind.u64.wrap (X + Y))) W := by first | rfl | (go_simp; done) | (go_simp; rfl) | (go_simp; exact lK _) | (go_simp; exact lM _)
theorem BH (X Y : Int) : ((do eqGuard .sub t x y (.int .u64 X) (.int .u64 Y); Go.binOp .sub t (.int .u64 X) (.int .u64 Y) : Sem Value)).run P W = .ok (.int .u64 (IntKind.u64.wrap (X - Y))) W := by first | rfl | (go_simp; done) | (go_simp; rfl) | (go_simp; exact lK _) | (go_simp; exact lM _)
theorem DV (X Y : Int) : ((do eqGuard .mul t x y (.int .u64 X) (.int .u64 Y); Go.binOp .mul t (.int .u64 X) (.int .u64 Y) : Sem Value)).run P W = .ok (.int .u64 (IntKind.u64.wrap (X * Y))) W := by first | rfl | (go_simp; done) | (go_simp; rfl) | (go_simp; exact lK _) | (go_simp; exact lM _)
theorem pY (X Y : Int) : ((do eqGuard .and t x y (.int .u64 X) (.int .u64 Y); Go.binOp .and t (.int .u64 X) (.int .u64 Y) : Sem Value)).run P W = .ok (.int .u64 (Go.bits .and .u64 X Y)) W := by first | rfl | (go_simp; done) | (go_simp; rfl) | (go_simp; exact lK _) | (go_simp; exact lM _)
theorem yx (X Y : Int) : ((do eqGuard .or t x y (.int .u64 X) (.int .u64 Y); Go.binOp .or t (.int .u64 X) (.int .u64 Y) : Sem Value)).run P W = .ok (.int .u64 (Go.bits .or .u64 X Y)) W := by first | rfl | (go_simp; done) | (go_simp; rfl) | (go_simp; exact lK _) | (go_simp; exact lM _)
theorem Hl (X Y : Int) : ((do eqGuard .xor t x y (.int .u64 X) (.int .u64 Y); Go.binOp .xor t (.int .u64 X) (.int .u64 Y) : Sem Value)).run P W = .ok (.int .u64 (Go.bits .xor .u64 X Y)) W := by first | rfl | (go_simp; done) | (go_simp; rfl) | (go_simp; exact lK _) | (go_simp; exact lM _)
theorem xE (X Y : Int) : ((do eqGuard .andNot t x y (.int .u64 X) (.int .u64 Y); Go.binOp .andNot t (.int .u64 X) (.int .u64 Y) : Sem Value)).run P W = .ok (.int .u64 (Go.bits .andNot .u64 X Y)) W := by first | rfl | (go_simp; done) | (go_simp; rfl) | (go_simp; exact lK _) | (go_simp; exact lM _)
theorem qF (X Y : Int) : ((do eqGuard .eql t x y (.int .u64 X) (.int .u64 Y); Go.binOp .eql t (.int .u64 X) (.int .u64 Y) : Sem Value)).run P W = .ok (.bool (decide (X = Y))) W := by first | rfl | (go_simp; done) | (go_simp; rfl) | (go_simp; exact lK _) | (go_simp; exact lM _)
theorem Ar (X Y : Int) : ((do eqGuard .neq t x y (.int .u64 X) (.int .u64 Y); Go.binOp .neq t (.int .u64 X) (.int .u64 Y) : Sem Value)).run P W = .ok (.bool (!decide (X = Y))) W := by first | rfl | (go_simp; done) | (go_simp; rfl) | (go_simp; exact lK _) | (go_simp; exact lM _)
theorem Js (X Y : Int) (h : ¬ Y = 0) : ((do eqGuard .quo t x y (.int .u64 X) (.int .u64 Y); Go.binOp .quo t (.int .u64 X) (.int .u64 Y) : Sem Value)).run P W = .ok (.int .u64 (IntKind.u64.wrap (Int.tdiv X Y))) W := by
  have h' : (Y == 0) = false := by simpa using h
  first | (go_simp; done) | (go_simp; rfl) | (go_simp; exact lK _) | (go_simp; exact lM _)
theorem Ju (X Y : Int) (h : ¬ Y = 0) : ((do eqGuard .rem t x y (.int .u64 X) (.int .u64 Y); Go.binOp .rem t (.int .u64 X) (.int .u64 Y) : Sem Value)).run P W = .ok (.int .u64 (Int.tmod X Y)) W := by
  have h' : (Y == 0) = false := by simpa using h
  first | (go_simp; done) | (go_simp; rfl)
theorem ou (X Y : Int) (h0 : 0 ≤ Y) : ((do eqGuard .shr t x y (.int .u64 X) (.int .u64 Y); Go.binOp .shr t (.int .u64 X) (.int .u64 Y) : Sem Value)).run P W = .ok (.int .u64 (shr .u64 X Y)) W := by
  simp only [Sem.run_bind]; unfold shr; first | (go_simp; done) | (go_simp; rfl)
theorem qZ (X Y : Int) (h0 : 0 ≤ Y) : ((do eqGuard .shl t x y (.int .u64 X) (.int .u64 Y); Go.binOp .shl t (.int .u64 X) (.int .u64 Y) : Sem Value)).run P W = .ok (.int .u64 (shl .u64 X Y)) W := by
  simp only [Sem.run_bind]; unfold shl; first | (go_simp; done) | (go_simp; rfl)
theorem Gv (X Y : Int) : ((do eqGuard .or t x y (.int .u8 X) (.int .u8 Y); Go.binOp .or t (.int .u8 X) (.int .u8 Y) : Sem Value)).run P W = .ok (.int .u8 (Go.bits .or .u8 X Y)) W := by first | rfl | (go_simp; done) | (go_simp; rfl) | (go_simp; exact lK _) | (go_simp; exact lM _)
theorem vG (X Y : Int) : ((do eqGuard .leq t x y (.int .u8 X) (.int .u8 Y); Go.binOp .leq t (.int .u8 X) (.int .u8 Y) : Sem Value)).run P W = .ok (.bool (decide (X ≤ Y))) W := by first | rfl | (go_simp; done) | (go_simp; rfl) | (go_simp; exact lK _) | (go_simp; exact lM _)
theorem vH (X Y : Int) : ((do eqGuard .geq t x y (.int .u8 X) (.int .u8 Y); Go.binOp .geq t (.int .u8 X) (.int .u8 Y) : Sem Value)).run P W = .ok (.bool (decide (X ≥ Y))) W := by first | rfl | (go_simp; done) | (go_simp; rfl) | (go_simp; exact lK _) | (go_simp; exact lM _)
theorem vI (X Y : Int) : ((do eqGuard .eql t x y (.int .u8 X) (.int .u8 Y); Go.binOp .eql t (.int .u8 X) (.int .u8 Y) : Sem Value)).run P W = .ok (.bool (decide (X = Y))) W := by first | rfl | (go_simp; done) | (go_simp; rfl) | (go_simp; exact lK _) | (go_simp; exact lM _)
theorem J9 (ht : P.underlying t = some .bool) (X Y : Bool) : ((do eqGuard .eql t x y (.bool X) (.bool Y); Go.binOp .eql t (.bool X) (.bool Y) : Sem Value)).run P W = .ok (.bool (decide (X = Y))) W := by
  have h : ∀ d : Nat, (Op.equalIn (d + 1) t (.bool X) (.bool Y)).run P W = .ok (X == Y) W := fun d => by simp [Op.equalIn, run_underlying ht]
  simp [binOp, Op.equal, Op.maxDepth, h 9999, eqGuard]
  cases X <;> cases Y <;> rfl
theorem FY (ht : P.underlying t = some .bool) (X Y : Bool) : ((do eqGuard .neq t x y (.bool X) (.bool Y); Go.binOp .neq t (.bool X) (.bool Y) : Sem Value)).run P W = .ok (.bool (!decide (X = Y))) W := by
  have h : ∀ d : Nat, (Op.equalIn (d + 1) t (.bool X) (.bool Y)).run P W = .ok (X == Y) W := fun d => by simp [Op.equalIn, run_underlying ht]
  simp [binOp, Op.equal, Op.maxDepth, h 9999, eqGuard]
  cases X <;> cases Y <;> rfl
theorem toList_eq (X Y : ByteArray) : (X.toList == Y.toList) = decide (X = Y) := by
  rw [Bool.eq_iff_iff]
  simp only [beq_iff_eq, decide_eq_true_eq]
  constructor
  · intro h
    rw [Lib.toList_data, Lib.toList_data] at h
    cases X with
    | mk a =>
      cases Y with
      | mk b =>
        cases a; cases b
        simp at h
        rw [h]
  · rintro rfl; rfl
theorem nZ (X Y : ByteArray) : ((do eqGuard .eql t x y (.string X) (.string Y); Go.binOp .eql t (.string X) (.string Y) : Sem Value)).run P W = .ok (.bool (decide (X = Y))) W := by
  simp only [Sem.run_bind]; go_simp; exact toList_eq X Y
theorem sK (X Y : ByteArray) : ((do eqGuard .neq t x y (.string X) (.string Y); Go.binOp .neq t (.string X) (.string Y) : Sem Value)).run P W = .ok (.bool (!decide (X = Y))) W := by
  simp only [Sem.run_bind]; go_simp; rw [← toList_eq X Y]; try rfl
theorem ug (ht : ∃ e, P.underlying t = some (.pointer e)) (a : Addr) : ((do eqGuard .eql t x y (.pointer none) (.pointer none); Go.binOp .eql t (.pointer none) (.pointer none) : Sem Value)).run P W = .ok (.bool true) W := by
  obtain ⟨e, ht⟩ := ht
  have h : ∀ d : Nat, (Op.equalIn (d + 1) t (.pointer none) (.pointer none)).run P W = .ok true W := fun d => by simp [Op.equalIn, run_underlying ht]
  simp [binOp, Op.equal, Op.maxDepth, h 9999, eqGuard]
theorem uh (ht : ∃ e, P.underlying t = some (.pointer e)) (a : Addr) : ((do eqGuard .eql t x y (.pointer (some a)) (.pointer none); Go.binOp .eql t (.pointer (some a)) (.pointer none) : Sem Value)).run P W = .ok (.bool false) W := by
  obtain ⟨e, ht⟩ := ht
  have h : ∀ d : Nat, (Op.equalIn (d + 1) t (.pointer (some a)) (.pointer none)).run P W = .ok false W := fun d => by simp [Op.equalIn, run_underlying ht]
  simp [binOp, Op.equal, Op.maxDepth, h 9999, eqGuard]
theorem FI (ht : ∃ e, P.underlying t = some (.pointer e)) (a : Addr) : ((do eqGuard .neq t x y (.pointer none) (.pointer none); Go.binOp .neq t (.pointer none) (.pointer none) : Sem Value)).run P W = .ok (.bool false) W := by
  obtain ⟨e, ht⟩ := ht
  have h : ∀ d : Nat, (Op.equalIn (d + 1) t (.pointer none) (.pointer none)).run P W = .ok true W := fun d => by simp [Op.equalIn, run_underlying ht]
  simp [binOp, Op.equal, Op.maxDepth, h 9999, eqGuard]
theorem FM (ht : ∃ e, P.underlying t = some (.pointer e)) (a : Addr) : ((do eqGuard .neq t x y (.pointer (some a)) (.pointer none); Go.binOp .neq t (.pointer (some a)) (.pointer none) : Sem Value)).run P W = .ok (.bool true) W := by
  obtain ⟨e, ht⟩ := ht
  have h : ∀ d : Nat, (Op.equalIn (d + 1) t (.pointer (some a)) (.pointer none)).run P W = .ok false W := fun d => by simp [Op.equalIn, run_underlying ht]
  simp [binOp, Op.equal, Op.maxDepth, h 9999, eqGuard]
end
end B
end Go.Proofs.YtpfepkkpbampkaaDoorW.PrintWords
