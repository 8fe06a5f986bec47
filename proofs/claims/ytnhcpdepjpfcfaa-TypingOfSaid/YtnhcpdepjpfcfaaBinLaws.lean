/- What operations give, one law each. -/
import Derived.Test.YtnhcpdepjpfcfaaCWalk
import Derived.Lib.Bytes
set_option linter.unusedVariables false
set_option linter.unusedSimpArgs false
namespace Go.Proofs.YtnhcpdepjpfcfaaW.PrintWords
open Go.RowKit Go.Proofs.YtnhcpdepjpfcfaaW.PrintLast Go.Proofs.YtnhcpdepjpfcfaaW.PrintMore
namespace B
section
variable {P : Program} {W : World} {t : TypeId} {x y : Operand}
theorem add_i64 (X Y : Int) : ((do eqGuard .add t x y (.int .i64 X) (.int .i64 Y); Go.binOp .add t (.int .i64 X) (.int .i64 Y) : Sem Value)).run P W = .ok (.int .i64 (wrap64 (X + Y))) W := by first | rfl | (go_simp; done) | (go_simp; rfl) | (go_simp; exact i64_w _) | (go_simp; exact i32_w _)
theorem sub_i64 (X Y : Int) : ((do eqGuard .sub t x y (.int .i64 X) (.int .i64 Y); Go.binOp .sub t (.int .i64 X) (.int .i64 Y) : Sem Value)).run P W = .ok (.int .i64 (wrap64 (X - Y))) W := by first | rfl | (go_simp; done) | (go_simp; rfl) | (go_simp; exact i64_w _) | (go_simp; exact i32_w _)
theorem lss_i64 (X Y : Int) : ((do eqGuard .lss t x y (.int .i64 X) (.int .i64 Y); Go.binOp .lss t (.int .i64 X) (.int .i64 Y) : Sem Value)).run P W = .ok (.bool (decide (X < Y))) W := by first | rfl | (go_simp; done) | (go_simp; rfl) | (go_simp; exact i64_w _) | (go_simp; exact i32_w _)
theorem leq_i64 (X Y : Int) : ((do eqGuard .leq t x y (.int .i64 X) (.int .i64 Y); Go.binOp .leq t (.int .i64 X) (.int .i64 Y) : Sem Value)).run P W = .ok (.bool (decide (X ≤ Y))) W := by first | rfl | (go_simp; done) | (go_simp; rfl) | (go_simp; exact i64_w _) | (go_simp; exact i32_w _)
theorem gtr_i64 (X Y : Int) : ((do eqGuard .gtr t x y (.int .i64 X) (.int .i64 Y); Go.binOp .gtr t (.int .i64 X) (.int .i64 Y) : Sem Value)).run P W = .ok (.bool (decide (X > Y))) W := by first | rfl | (go_simp; done) | (go_simp; rfl) | (go_simp; exact i64_w _) | (go_simp; exact i32_w _)
theorem geq_i64 (X Y : Int) : ((do eqGuard .geq t x y (.int .i64 X) (.int .i64 Y); Go.binOp .geq t (.int .i64 X) (.int .i64 Y) : Sem Value)).run P W = .ok (.bool (decide (X ≥ Y))) W := by first | rfl | (go_simp; done) | (go_simp; rfl) | (go_simp; exact i64_w _) | (go_simp; exact i32_w _)
theorem eql_i64 (X Y : Int) : ((do eqGuard .eql t x y (.int .i64 X) (.int .i64 Y); Go.binOp .eql t (.int .i64 X) (.int .i64 Y) : Sem Value)).run P W = .ok (.bool (decide (X = Y))) W := by first | rfl | (go_simp; done) | (go_simp; rfl) | (go_simp; exact i64_w _) | (go_simp; exact i32_w _)
theorem neq_i64 (X Y : Int) : ((do eqGuard .neq t x y (.int .i64 X) (.int .i64 Y); Go.binOp .neq t (.int .i64 X) (.int .i64 Y) : Sem Value)).run P W = .ok (.bool (!decide (X = Y))) W := by first | rfl | (go_simp; done) | (go_simp; rfl) | (go_simp; exact i64_w _) | (go_simp; exact i32_w _)
theorem quo_i64 (X Y : Int) (h : ¬ Y = 0) : ((do eqGuard .quo t x y (.int .i64 X) (.int .i64 Y); Go.binOp .quo t (.int .i64 X) (.int .i64 Y) : Sem Value)).run P W = .ok (.int .i64 (wrap64 (Int.tdiv X Y))) W := by
  have h' : (Y == 0) = false := by simpa using h
  first | (go_simp; done) | (go_simp; rfl) | (go_simp; exact i64_w _) | (go_simp; exact i32_w _)
theorem eql_bool (ht : P.underlying t = some .bool) (X Y : Bool) : ((do eqGuard .eql t x y (.bool X) (.bool Y); Go.binOp .eql t (.bool X) (.bool Y) : Sem Value)).run P W = .ok (.bool (decide (X = Y))) W := by
  have h : ∀ d : Nat, (Op.equalIn (d + 1) t (.bool X) (.bool Y)).run P W = .ok (X == Y) W := fun d => by simp [Op.equalIn, run_underlying ht]
  simp [binOp, Op.equal, Op.maxDepth, h 9999, eqGuard]
  cases X <;> cases Y <;> rfl
theorem toList_eq (X Y : ByteArray) : (X.toList == Y.toList) = decide (X = Y) := by
  rw [Bool.eq_iff_iff]
  simp only [beq_iff_eq, decide_eq_true_eq]
  constructor
  · intro h
    rw [Lib.toList_data, Lib.toList_data] at h
    cases X with
    | mk a =>
      cases Y with
      | mk b =>
        cases a; cases b
        simp at h
        rw [h]
  · rintro rfl; rfl
theorem eql_str (X Y : ByteArray) : ((do eqGuard .eql t x y (.string X) (.string Y); Go.binOp .eql t (.string X) (.string Y) : Sem Value)).run P W = .ok (.bool (decide (X = Y))) W := by
  simp only [Sem.run_bind]; go_simp; exact toList_eq X Y
theorem neq_str (X Y : ByteArray) : ((do eqGuard .neq t x y (.string X) (.string Y); Go.binOp .neq t (.string X) (.string Y) : Sem Value)).run P W = .ok (.bool (!decide (X = Y))) W := by
  simp only [Sem.run_bind]; go_simp; rw [← toList_eq X Y]; try rfl
end
end B
end Go.Proofs.YtnhcpdepjpfcfaaW.PrintWords
