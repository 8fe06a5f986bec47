import Derived.Test.YteoccoklbmjiaaaCWalk
import Derived.Lib.Bytes
set_option linter.unusedVariables false
set_option linter.unusedSimpArgs false
namespace Go.Proofs.YteoccoklbmjiaaaW.PrintWords
open Go.RowKit Go.Proofs.YteoccoklbmjiaaaW.PrintLast Go.Proofs.YteoccoklbmjiaaaW.PrintMore
namespace B
section
variable {P : Program} {W : World} {t : TypeId} {x y : Operand}
theorem qx (X Y : Int) : ((do eqGuard .add t x y (.int .i64 X) (.int .i64 Y); Go.binOp .add t (.int .i64 X) (.int .i64 Y) : Sem Value)).run P W = .ok (.int .i64 (wrap64 (X + Y))) W := by first | rfl | (go_simp; done) | (go_simp; rfl) | (go_simp; exact uN _) | (go_simp; exact uO _)
theorem yj (X Y : Int) : ((do eqGuard .sub t x y (.int .i64 X) (.int .i64 Y); Go.binOp .sub t (.int .i64 X) (.int .i64 Y) : Sem Value)).run P W = .ok (.int .i64 (wrap64 (X - Y))) W := by first | rfl | (go_simp; done) | (go_simp; rfl) | (go_simp; exact uN _) | (go_simp; exact uO _)
theorem Ec (X Y : Int) : ((do eqGuard .mul t x y (.int .i64 X) (.int .i64 Y); Go.binOp .mul t (.int .i64 X) (.int .i64 Y) : Sem Value)).run P W = .ok (.int .i64 (wrap64 (X * Y))) W := by first | rfl | (go_simp; done) | (go_simp; rfl) | (go_simp; exact uN _) | (go_simp; exact uO _)
theorem qB (X Y : Int) : ((do eqGuard .lss t x y (.int .i64 X) (.int .i64 Y); Go.binOp .lss t (.int .i64 X) (.int .i64 Y) : Sem Value)).run P W = .ok (.bool (decide (X < Y))) W := by first | rfl | (go_simp; done) | (go_simp; rfl) | (go_simp; exact uN _) | (go_simp; exact uO _)
theorem Gx (X Y : Int) : ((do eqGuard .leq t x y (.int .i64 X) (.int .i64 Y); Go.binOp .leq t (.int .i64 X) (.int .i64 Y) : Sem Value)).run P W = .ok (.bool (decide (X ≤ Y))) W := by first | rfl | (go_simp; done) | (go_simp; rfl) | (go_simp; exact uN _) | (go_simp; exact uO _)
theorem tq (X Y : Int) : ((do eqGuard .gtr t x y (.int .i64 X) (.int .i64 Y); Go.binOp .gtr t (.int .i64 X) (.int .i64 Y) : Sem Value)).run P W = .ok (.bool (decide (X > Y))) W := by first | rfl | (go_simp; done) | (go_simp; rfl) | (go_simp; exact uN _) | (go_simp; exact uO _)
theorem vS (X Y : Int) : ((do eqGuard .geq t x y (.int .i64 X) (.int .i64 Y); Go.binOp .geq t (.int .i64 X) (.int .i64 Y) : Sem Value)).run P W = .ok (.bool (decide (X ≥ Y))) W := by first | rfl | (go_simp; done) | (go_simp; rfl) | (go_simp; exact uN _) | (go_simp; exact uO _)
theorem tu (X Y : Int) : ((do eqGuard .eql t x y (.int .i64 X) (.int .i64 Y); Go.binOp .eql t (.int .i64 X) (.int .i64 Y) : Sem Value)).run P W = .ok (.bool (decide (X = Y))) W := by first | rfl | (go_simp; done) | (go_simp; rfl) | (go_simp; exact uN _) | (go_simp; exact uO _)
theorem sO (X Y : Int) : ((do eqGuard .neq t x y (.int .i64 X) (.int .i64 Y); Go.binOp .neq t (.int .i64 X) (.int .i64 Y) : Sem Value)).run P W = .ok (.bool (!decide (X = Y))) W := by first | rfl | (go_simp; done) | (go_simp; rfl) | (go_simp; exact uN _) | (go_simp; exact uO _)
theorem wO (X Y : Int) (h : ¬ Y = 0) : ((do eqGuard .quo t x y (.int .i64 X) (.int .i64 Y); Go.binOp .quo t (.int .i64 X) (.int .i64 Y) : Sem Value)).run P W = .ok (.int .i64 (wrap64 (Int.tdiv X Y))) W := by
  have h' : (Y == 0) = false := by simpa using h
  first | (go_simp; done) | (go_simp; rfl) | (go_simp; exact uN _) | (go_simp; exact uO _)
theorem Ih (X Y : Int) : ((do eqGuard .sub t x y (.int .u8 X) (.int .u8 Y); Go.binOp .sub t (.int .u8 X) (.int .u8 Y) : Sem Value)).run P W = .ok (.int .u8 ((X - Y) % 256)) W := by first | rfl | (go_simp; done) | (go_simp; rfl) | (go_simp; exact uN _) | (go_simp; exact uO _)
theorem Ii (X Y : Int) : ((do eqGuard .or t x y (.int .u8 X) (.int .u8 Y); Go.binOp .or t (.int .u8 X) (.int .u8 Y) : Sem Value)).run P W = .ok (.int .u8 (Go.bits .or .u8 X Y)) W := by first | rfl | (go_simp; done) | (go_simp; rfl) | (go_simp; exact uN _) | (go_simp; exact uO _)
theorem zZ (X Y : Int) : ((do eqGuard .leq t x y (.int .u8 X) (.int .u8 Y); Go.binOp .leq t (.int .u8 X) (.int .u8 Y) : Sem Value)).run P W = .ok (.bool (decide (X ≤ Y))) W := by first | rfl | (go_simp; done) | (go_simp; rfl) | (go_simp; exact uN _) | (go_simp; exact uO _)
theorem Aa (X Y : Int) : ((do eqGuard .geq t x y (.int .u8 X) (.int .u8 Y); Go.binOp .geq t (.int .u8 X) (.int .u8 Y) : Sem Value)).run P W = .ok (.bool (decide (X ≥ Y))) W := by first | rfl | (go_simp; done) | (go_simp; rfl) | (go_simp; exact uN _) | (go_simp; exact uO _)
theorem uU (X Y : Int) : ((do eqGuard .eql t x y (.int .u8 X) (.int .u8 Y); Go.binOp .eql t (.int .u8 X) (.int .u8 Y) : Sem Value)).run P W = .ok (.bool (decide (X = Y))) W := by first | rfl | (go_simp; done) | (go_simp; rfl) | (go_simp; exact uN _) | (go_simp; exact uO _)
theorem Ed (X Y : Int) : ((do eqGuard .neq t x y (.int .u8 X) (.int .u8 Y); Go.binOp .neq t (.int .u8 X) (.int .u8 Y) : Sem Value)).run P W = .ok (.bool (!decide (X = Y))) W := by first | rfl | (go_simp; done) | (go_simp; rfl) | (go_simp; exact uN _) | (go_simp; exact uO _)
theorem toList_eq (X Y : ByteArray) : (X.toList == Y.toList) = decide (X = Y) := by
  rw [Bool.eq_iff_iff]
  simp only [beq_iff_eq, decide_eq_true_eq]
  constructor
  · intro h
    rw [Lib.toList_data, Lib.toList_data] at h
    cases X with
    | mk a =>
      cases Y with
      | mk b =>
        cases a; cases b
        simp at h
        rw [h]
  · rintro rfl; rfl
theorem rG (X Y : ByteArray) : ((do eqGuard .eql t x y (.string X) (.string Y); Go.binOp .eql t (.string X) (.string Y) : Sem Value)).run P W = .ok (.bool (decide (X = Y))) W := by
  simp only [Sem.run_bind]; go_simp; exact toList_eq X Y
theorem uw (X Y : ByteArray) : ((do eqGuard .neq t x y (.string X) (.string Y); Go.binOp .neq t (.string X) (.string Y) : Sem Value)).run P W = .ok (.bool (!decide (X = Y))) W := by
  simp only [Sem.run_bind]; go_simp; rw [← toList_eq X Y]; try rfl
theorem yY (X Y : ByteArray) (h : X.size + Y.size ≤ 9223372036854775807) : ((do eqGuard .add t x y (.string X) (.string Y); Go.binOp .add t (.string X) (.string Y) : Sem Value)).run P W = .ok (.string (X ++ Y)) W := by
  simp only [Sem.run_bind]; first | (go_simp; done) | (go_simp; rfl)
theorem C9 (ht : ∃ e, P.underlying t = some (.pointer e)) (a : Addr) : ((do eqGuard .eql t x y (.pointer none) (.pointer none); Go.binOp .eql t (.pointer none) (.pointer none) : Sem Value)).run P W = .ok (.bool true) W := by
  obtain ⟨e, ht⟩ := ht
  have h : ∀ d : Nat, (Op.equalIn (d + 1) t (.pointer none) (.pointer none)).run P W = .ok true W := fun d => by simp [Op.equalIn, run_underlying ht]
  simp [binOp, Op.equal, Op.maxDepth, h 9999, eqGuard]
theorem Ba (ht : ∃ e, P.underlying t = some (.pointer e)) (a : Addr) : ((do eqGuard .eql t x y (.pointer (some a)) (.pointer none); Go.binOp .eql t (.pointer (some a)) (.pointer none) : Sem Value)).run P W = .ok (.bool false) W := by
  obtain ⟨e, ht⟩ := ht
  have h : ∀ d : Nat, (Op.equalIn (d + 1) t (.pointer (some a)) (.pointer none)).run P W = .ok false W := fun d => by simp [Op.equalIn, run_underlying ht]
  simp [binOp, Op.equal, Op.maxDepth, h 9999, eqGuard]
theorem Ij (ht : ∃ e, P.underlying t = some (.pointer e)) (a : Addr) : ((do eqGuard .neq t x y (.pointer none) (.pointer none); Go.binOp .neq t (.pointer none) (.pointer none) : Sem Value)).run P W = .ok (.bool false) W := by
  obtain ⟨e, ht⟩ := ht
  have h : ∀ d : Nat, (Op.equalIn (d + 1) t (.pointer none) (.pointer none)).run P W = .ok true W := fun d => by simp [Op.equalIn, run_underlying ht]
  simp [binOp, Op.equal, Op.maxDepth, h 9999, eqGuard]
theorem Ik (ht : ∃ e, P.underlying t = some (.pointer e)) (a : Addr) : ((do eqGuard .neq t x y (.pointer (some a)) (.pointer none); Go.binOp .neq t (.pointer (some a)) (.pointer none) : Sem Value)).run P W = .ok (.bool true) W := by
  obtain ⟨e, ht⟩ := ht
  have h : ∀ d : Nat, (Op.equalIn (d + 1) t (.pointer (some a)) (.pointer none)).run P W = .ok false W := fun d => by simp [Op.equalIn, run_underlying ht]
  simp [binOp, Op.equal, Op.maxDepth, h 9999, eqGuard]
theorem Bc {A : Option Addr} {n c : Nat} (ht : ∃ e, P.underlying t = some (.slice e)) : ((do eqGuard .eql t x y (.slice A n c) (.slice none 0 0); Go.binOp .eql t (.slice A n c) (.slice none 0 0) : Sem Value)).run P W = .ok (.bool (A.isNone)) W := by
  obtain ⟨e, ht⟩ := ht
  have h : ∀ d : Nat, (Op.equalIn (d + 1) t (.slice A n c) (.slice none 0 0)).run P W = .ok A.isNone W := fun d => by cases A <;> simp [Op.equalIn, run_underlying ht]
  simp [binOp, Op.equal, Op.maxDepth, h 9999, eqGuard]
end
end B
end Go.Proofs.YteoccoklbmjiaaaW.PrintWords
