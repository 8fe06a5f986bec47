import Derived.Test.YtdkbmchbkkhpoaaCWalk
import Derived.Lib.Bytes
set_option linter.unusedVariables false
set_option linter.unusedSimpArgs false
namespace Go.Proofs.YtdkbmchbkkhpoaaW.PrintWords
open Go.RowKit Go.Proofs.YtdkbmchbkkhpoaaW.PrintLast Go.Proofs.YtdkbmchbkkhpoaaW.PrintMore
namespace B
section
variable {P : Program} {W : World} {t : TypeId} {x y : Operand}
theorem je (X Y : Int) : ((do eqGuard .add t x y (.int .i64 X) (.int .i64 Y); Go.binOp .add t (.int .i64 X) (.int .i64 Y) : Sem Value)).run P W = .ok (.int .i64 (wrap64 (X + Y))) W := by first | rfl | (go_simp; done) | (go_simp; rfl) | (go_simp; exact jB _) | (go_simp; exact jC _)
theorem nK (X Y : Int) : ((do eqGuard .sub t x y (.int .i64 X) (.int .i64 Y); Go.binOp .sub t (.int .i64 X) (.int .i64 Y) : Sem Value)).run P W = .ok (.int .i64 (wrap64 (X - Y))) W := by first | rfl | (go_simp; done) | (go_simp; rfl) | (go_simp; exact jB _) | (go_simp; exact jC _)
theorem qA (X Y : Int) : ((do eqGuard .mul t x y (.int .i64 X) (.int .i64 Y); Go.binOp .mul t (.int .i64 X) (.int .i64 Y) : Sem Value)).run P W = .ok (.int .i64 (wrap64 (X * Y))) W := by first | rfl | (go_simp; done) | (go_simp; rfl) | (go_simp; exact jB _) | (go_simp; exact jC _)
theorem yG (X Y : Int) : ((do eqGuard .xor t x y (.int .i64 X) (.int .i64 Y); Go.binOp .xor t (.int .i64 X) (.int .i64 Y) : Sem Value)).run P W = .ok (.int .i64 (Go.bits .xor .i64 X Y)) W := by first | rfl | (go_simp; done) | (go_simp; rfl) | (go_simp; exact jB _) | (go_simp; exact jC _)
theorem jw (X Y : Int) : ((do eqGuard .lss t x y (.int .i64 X) (.int .i64 Y); Go.binOp .lss t (.int .i64 X) (.int .i64 Y) : Sem Value)).run P W = .ok (.bool (decide (X < Y))) W := by first | rfl | (go_simp; done) | (go_simp; rfl) | (go_simp; exact jB _) | (go_simp; exact jC _)
theorem BG (X Y : Int) : ((do eqGuard .leq t x y (.int .i64 X) (.int .i64 Y); Go.binOp .leq t (.int .i64 X) (.int .i64 Y) : Sem Value)).run P W = .ok (.bool (decide (X ≤ Y))) W := by first | rfl | (go_simp; done) | (go_simp; rfl) | (go_simp; exact jB _) | (go_simp; exact jC _)
theorem jQ (X Y : Int) : ((do eqGuard .gtr t x y (.int .i64 X) (.int .i64 Y); Go.binOp .gtr t (.int .i64 X) (.int .i64 Y) : Sem Value)).run P W = .ok (.bool (decide (X > Y))) W := by first | rfl | (go_simp; done) | (go_simp; rfl) | (go_simp; exact jB _) | (go_simp; exact jC _)
theorem l7 (X Y : Int) : ((do eqGuard .geq t x y (.int .i64 X) (.int .i64 Y); Go.binOp .geq t (.int .i64 X) (.int .i64 Y) : Sem Value)).run P W = .ok (.bool (decide (X ≥ Y))) W := by first | rfl | (go_simp; done) | (go_simp; rfl) | (go_simp; exact jB _) | (go_simp; exact jC _)
theorem jP (X Y : Int) : ((do eqGuard .eql t x y (.int .i64 X) (.int .i64 Y); Go.binOp .eql t (.int .i64 X) (.int .i64 Y) : Sem Value)).run P W = .ok (.bool (decide (X = Y))) W := by first | rfl | (go_simp; done) | (go_simp; rfl) | (go_simp; exact jB _) | (go_simp; exact jC _)
theorem jU (X Y : Int) : ((do eqGuard .neq t x y (.int .i64 X) (.int .i64 Y); Go.binOp .neq t (.int .i64 X) (.int .i64 Y) : Sem Value)).run P W = .ok (.bool (!decide (X = Y))) W := by first | rfl | (go_simp; done) | (go_simp; rfl) | (go_simp; exact jB _) | (go_simp; exact jC _)
theorem BH (X Y : Int) (h : ¬ Y = 0) : ((do eqGuard .quo t x y (.int .i64 X) (.int .i64 Y); Go.binOp .quo t (.int .i64 X) (.int .i64 Y) : Sem Value)).run P W = .ok (.int .i64 (wrap64 (Int.tdiv X Y))) W := by
  have h' : (Y == 0) = false := by simpa using h
  first | (go_simp; done) | (go_simp; rfl) | (go_simp; exact jB _) | (go_simp; exact jC _)
theorem yH (X Y : Int) (h : ¬ Y = 0) : ((do eqGuard .rem t x y (.int .i64 X) (.int .i64 Y); Go.binOp .rem t (.int .i64 X) (.int .i64 Y) : Sem Value)).run P W = .ok (.int .i64 (Int.tmod X Y)) W := by
  have h' : (Y == 0) = false := by simpa using h
  first | (go_simp; done) | (go_simp; rfl)
theorem FH (X Y : Int) : ((do eqGuard .eql t x y (.int .u8 X) (.int .u8 Y); Go.binOp .eql t (.int .u8 X) (.int .u8 Y) : Sem Value)).run P W = .ok (.bool (decide (X = Y))) W := by first | rfl | (go_simp; done) | (go_simp; rfl) | (go_simp; exact jB _) | (go_simp; exact jC _)
theorem qR (ht : P.underlying t = some .bool) (X Y : Bool) : ((do eqGuard .neq t x y (.bool X) (.bool Y); Go.binOp .neq t (.bool X) (.bool Y) : Sem Value)).run P W = .ok (.bool (!decide (X = Y))) W := by
  have h : ∀ d : Nat, (Op.equalIn (d + 1) t (.bool X) (.bool Y)).run P W = .ok (X == Y) W := fun d => by simp [Op.equalIn, run_underlying ht]
  simp [binOp, Op.equal, Op.maxDepth, h 9999, eqGuard]
  cases X <;> cases Y <;> rfl
theorem xA (ht : ∃ e, P.underlying t = some (.pointer e)) (a : Addr) : ((do eqGuard .eql t x y (.pointer none) (.pointer none); Go.binOp .eql t (.pointer none) (.pointer none) : Sem Value)).run P W = .ok (.bool true) W := by
  obtain ⟨e, ht⟩ := ht
  have h : ∀ d : Nat, (Op.equalIn (d + 1) t (.pointer none) (.pointer none)).run P W = .ok true W := fun d => by simp [Op.equalIn, run_underlying ht]
  simp [binOp, Op.equal, Op.maxDepth, h 9999, eqGuard]
theorem xB (ht : ∃ e, P.underlying t = some (.pointer e)) (a : Addr) : ((do eqGuard .eql t x y (.pointer (some a)) (.pointer none); Go.binOp .eql t (.pointer (some a)) (.pointer none) : Sem Value)).run P W = .ok (.bool false) W := by
  obtain ⟨e, ht⟩ := ht
  have h : ∀ d : Nat, (Op.equalIn (d + 1) t (.pointer (some a)) (.pointer none)).run P W = .ok false W := fun d => by simp [Op.equalIn, run_underlying ht]
  simp [binOp, Op.equal, Op.maxDepth, h 9999, eqGuard]
theorem Dy (ht : ∃ e, P.underlying t = some (.pointer e)) (a : Addr) : ((do eqGuard .neq t x y (.pointer none) (.pointer none); Go.binOp .neq t (.pointer none) (.pointer none) : Sem Value)).run P W = .ok (.bool false) W := by
  obtain ⟨e, ht⟩ := ht
  have h : ∀ d : Nat, (Op.equalIn (d + 1) t (.pointer none) (.pointer none)).run P W = .ok true W := fun d => by simp [Op.equalIn, run_underlying ht]
  simp [binOp, Op.equal, Op.maxDepth, h 9999, eqGuard]
theorem Dz (ht : ∃ e, P.underlying t = some (.pointer e)) (a : Addr) : ((do eqGuard .neq t x y (.pointer (some a)) (.pointer none); Go.binOp .neq t (.pointer (some a)) (.pointer none) : Sem Value)).run P W = .ok (.bool true) W := by
  obtain ⟨e, ht⟩ := ht
  have h : ∀ d : Nat, (Op.equalIn (d + 1) t (.pointer (some a)) (.pointer none)).run P W = .ok false W := fun d => by simp [Op.equalIn, run_underlying ht]
  simp [binOp, Op.equal, Op.maxDepth, h 9999, eqGuard]
theorem nZ {A : Option Addr} {n c : Nat} (ht : ∃ e, P.underlying t = some (.slice e)) : ((do eqGuard .neq t x y (.slice A n c) (.slice none 0 0); Go.binOp .neq t (.slice A n c) (.slice none 0 0) : Sem Value)).run P W = .ok (.bool (!A.isNone)) W := by
  obtain ⟨e, ht⟩ := ht
  have h : ∀ d : Nat, (Op.equalIn (d + 1) t (.slice A n c) (.slice none 0 0)).run P W = .ok A.isNone W := fun d => by cases A <;> simp [Op.equalIn, run_underlying ht]
  simp [binOp, Op.equal, Op.maxDepth, h 9999, eqGuard]
end
end B
end Go.Proofs.YtdkbmchbkkhpoaaW.PrintWords
