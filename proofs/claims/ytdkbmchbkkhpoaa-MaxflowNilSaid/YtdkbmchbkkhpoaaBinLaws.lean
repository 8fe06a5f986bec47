/- What operations give, one law each. -/
import Derived.Test.YtdkbmchbkkhpoaaCWalk
import Derived.Lib.Bytes
set_option linter.unusedVariables false
set_option linter.unusedSimpArgs false
namespace Go.Proofs.YtdkbmchbkkhpoaaW.PrintWords
open Go.RowKit Go.Proofs.YtdkbmchbkkhpoaaW.PrintLast Go.Proofs.YtdkbmchbkkhpoaaW.PrintMore
namespace B
section
variable {P : Program} {W : World} {t : TypeId} {x y : Operand}
theorem add_i64 (X Y : Int) : ((do eqGuard .add t x y (.int .i64 X) (.int .i64 Y); Go.binOp .add t (.int .i64 X) (.int .i64 Y) : Sem Value)).run P W = .ok (.int .i64 (wrap64 (X + Y))) W := by first | rfl | (go_simp; done) | (go_simp; rfl) | (go_simp; exact i64_w _) | (go_simp; exact i32_w _)
theorem sub_i64 (X Y : Int) : ((do eqGuard .sub t x y (.int .i64 X) (.int .i64 Y); Go.binOp .sub t (.int .i64 X) (.int .i64 Y) : Sem Value)).run P W = .ok (.int .i64 (wrap64 (X - Y))) W := by first | rfl | (go_simp; done) | (go_simp; rfl) | (go_simp; exact i64_w _) | (go_simp; exact i32_w _)
theorem mul_i64 (X Y : Int) : ((do eqGuard .mul t x y (.int .i64 X) (.int .i64 Y); Go.binOp .mul t (.int .i64 X) (.int .i64 Y) : Sem Value)).run P W = .ok (.int .i64 (wrap64 (X * Y))) W := by first | rfl | (go_simp; done) | (go_simp; rfl) | (go_simp; exact i64_w _) | (go_simp; exact i32_w _)
theorem and_i64 (X Y : Int) : ((do eqGuard .and t x y (.int .i64 X) (.int .i64 Y); Go.binOp .and t (.int .i64 X) (.int .i64 Y) : Sem Value)).run P W = .ok (.int .i64 (Go.bits .and .i64 X Y)) W := by first | rfl | (go_simp; done) | (go_simp; rfl) | (go_simp; exact i64_w _) | (go_simp; exact i32_w _)
theorem or_i64 (X Y : Int) : ((do eqGuard .or t x y (.int .i64 X) (.int .i64 Y); Go.binOp .or t (.int .i64 X) (.int .i64 Y) : Sem Value)).run P W = .ok (.int .i64 (Go.bits .or .i64 X Y)) W := by first | rfl | (go_simp; done) | (go_simp; rfl) | (go_simp; exact i64_w _) | (go_simp; exact i32_w _)
theorem xor_i64 (X Y : Int) : ((do eqGuard .xor t x y (.int .i64 X) (.int .i64 Y); Go.binOp .xor t (.int .i64 X) (.int .i64 Y) : Sem Value)).run P W = .ok (.int .i64 (Go.bits .xor .i64 X Y)) W := by first | rfl | (go_simp; done) | (go_simp; rfl) | (go_simp; exact i64_w _) | (go_simp; exact i32_w _)
theorem andNot_i64 (X Y : Int) : ((do eqGuard .andNot t x y (.int .i64 X) (.int .i64 Y); Go.binOp .andNot t (.int .i64 X) (.int .i64 Y) : Sem Value)).run P W = .ok (.int .i64 (Go.bits .andNot .i64 X Y)) W := by first | rfl | (go_simp; done) | (go_simp; rfl) | (go_simp; exact i64_w _) | (go_simp; exact i32_w _)
theorem lss_i64 (X Y : Int) : ((do eqGuard .lss t x y (.int .i64 X) (.int .i64 Y); Go.binOp .lss t (.int .i64 X) (.int .i64 Y) : Sem Value)).run P W = .ok (.bool (decide (X < Y))) W := by first | rfl | (go_simp; done) | (go_simp; rfl) | (go_simp; exact i64_w _) | (go_simp; exact i32_w _)
theorem leq_i64 (X Y : Int) : ((do eqGuard .leq t x y (.int .i64 X) (.int .i64 Y); Go.binOp .leq t (.int .i64 X) (.int .i64 Y) : Sem Value)).run P W = .ok (.bool (decide (X ≤ Y))) W := by first | rfl | (go_simp; done) | (go_simp; rfl) | (go_simp; exact i64_w _) | (go_simp; exact i32_w _)
theorem gtr_i64 (X Y : Int) : ((do eqGuard .gtr t x y (.int .i64 X) (.int .i64 Y); Go.binOp .gtr t (.int .i64 X) (.int .i64 Y) : Sem Value)).run P W = .ok (.bool (decide (X > Y))) W := by first | rfl | (go_simp; done) | (go_simp; rfl) | (go_simp; exact i64_w _) | (go_simp; exact i32_w _)
theorem geq_i64 (X Y : Int) : ((do eqGuard .geq t x y (.int .i64 X) (.int .i64 Y); Go.binOp .geq t (.int .i64 X) (.int .i64 Y) : Sem Value)).run P W = .ok (.bool (decide (X ≥ Y))) W := by first | rfl | (go_simp; done) | (go_simp; rfl) | (go_simp; exact i64_w _) | (go_simp; exact i32_w _)
theorem eql_i64 (X Y : Int) : ((do eqGuard .eql t x y (.int .i64 X) (.int .i64 Y); Go.binOp .eql t (.int .i64 X) (.int .i64 Y) : Sem Value)).run P W = .ok (.bool (decide (X = Y))) W := by first | rfl | (go_simp; done) | (go_simp; rfl) | (go_simp; exact i64_w _) | (go_simp; exact i32_w _)
theorem neq_i64 (X Y : Int) : ((do eqGuard .neq t x y (.int .i64 X) (.int .i64 Y); Go.binOp .neq t (.int .i64 X) (.int .i64 Y) : Sem Value)).run P W = .ok (.bool (!decide (X = Y))) W := by first | rfl | (go_simp; done) | (go_simp; rfl) | (go_simp; exact i64_w _) | (go_simp; exact i32_w _)
theorem quo_i64 (X Y : Int) (h : ¬ Y = 0) : ((do eqGuard .quo t x y (.int .i64 X) (.int .i64 Y); Go.binOp .quo t (.int .i64 X) (.int .i64 Y) : Sem Value)).run P W = .ok (.int .i64 (wrap64 (Int.tdiv X Y))) W := by
  have h' : (Y == 0) = false := by simpa using h
  first | (go_simp; done) | (go_simp; rfl) | (go_simp; exact i64_w _) | (go_simp; exact i32_w _)
theorem rem_i64 (X Y : Int) (h : ¬ Y = 0) : ((do eqGuard .rem t x y (.int .i64 X) (.int .i64 Y); Go.binOp .rem t (.int .i64 X) (.int .i64 Y) : Sem Value)).run P W = .ok (.int .i64 (Int.tmod X Y)) W := by
  have h' : (Y == 0) = false := by simpa using h
  first | (go_simp; done) | (go_simp; rfl)
theorem shr_i64_u64 (X Y : Int) (h0 : 0 ≤ Y) : ((do eqGuard .shr t x y (.int .i64 X) (.int .u64 Y); Go.binOp .shr t (.int .i64 X) (.int .u64 Y) : Sem Value)).run P W = .ok (.int .i64 (shr .i64 X Y)) W := by
  simp only [Sem.run_bind]; unfold shr; first | (go_simp; done) | (go_simp; rfl)
theorem shl_i64_u64 (X Y : Int) (h0 : 0 ≤ Y) : ((do eqGuard .shl t x y (.int .i64 X) (.int .u64 Y); Go.binOp .shl t (.int .i64 X) (.int .u64 Y) : Sem Value)).run P W = .ok (.int .i64 (shl .i64 X Y)) W := by
  simp only [Sem.run_bind]; unfold shl; first | (go_simp; done) | (go_simp; rfl)
theorem shr_i64_i64 (X Y : Int) (h0 : 0 ≤ Y) : ((do eqGuard .shr t x y (.int .i64 X) (.int .i64 Y); Go.binOp .shr t (.int .i64 X) (.int .i64 Y) : Sem Value)).run P W = .ok (.int .i64 (shr .i64 X Y)) W := by
  simp only [Sem.run_bind]; unfold shr; first | (go_simp; done) | (go_simp; rfl)
theorem shl_i64_i64 (X Y : Int) (h0 : 0 ≤ Y) : ((do eqGuard .shl t x y (.int .i64 X) (.int .i64 Y); Go.binOp .shl t (.int .i64 X) (.int .i64 Y) : Sem Value)).run P W = .ok (.int .i64 (shl .i64 X Y)) W := by
  simp only [Sem.run_bind]; unfold shl; first | (go_simp; done) | (go_simp; rfl)
theorem shr_i64_u32 (X Y : Int) (h0 : 0 ≤ Y) : ((do eqGuard .shr t x y (.int .i64 X) (.int .u32 Y); Go.binOp .shr t (.int .i64 X) (.int .u32 Y) : Sem Value)).run P W = .ok (.int .i64 (shr .i64 X Y)) W := by
  simp only [Sem.run_bind]; unfold shr; first | (go_simp; done) | (go_simp; rfl)
theorem shl_i64_u32 (X Y : Int) (h0 : 0 ≤ Y) : ((do eqGuard .shl t x y (.int .i64 X) (.int .u32 Y); Go.binOp .shl t (.int .i64 X) (.int .u32 Y) : Sem Value)).run P W = .ok (.int .i64 (shl .i64 X Y)) W := by
  simp only [Sem.run_bind]; unfold shl; first | (go_simp; done) | (go_simp; rfl)
theorem shr_i64_u8 (X Y : Int) (h0 : 0 ≤ Y) : ((do eqGuard .shr t x y (.int .i64 X) (.int .u8 Y); Go.binOp .shr t (.int .i64 X) (.int .u8 Y) : Sem Value)).run P W = .ok (.int .i64 (shr .i64 X Y)) W := by
  simp only [Sem.run_bind]; unfold shr; first | (go_simp; done) | (go_simp; rfl)
theorem shl_i64_u8 (X Y : Int) (h0 : 0 ≤ Y) : ((do eqGuard .shl t x y (.int .i64 X) (.int .u8 Y); Go.binOp .shl t (.int .i64 X) (.int .u8 Y) : Sem Value)).run P W = .ok (.int .i64 (shl .i64 X Y)) W := by
  simp only [Sem.run_bind]; unfold shl; first | (go_simp; done) | (go_simp; rfl)
theorem add_i32 (X Y : Int) : ((do eqGuard .add t x y (.int .i32 X) (.int .i32 Y); Go.binOp .add t (.int .i32 X) (.int .i32 Y) : Sem Value)).run P W = .ok (.int .i32 (wrap32 (X + Y))) W := by first | rfl | (go_simp; done) | (go_simp; rfl) | (go_simp; exact i64_w _) | (go_simp; exact i32_w _)
theorem sub_i32 (X Y : Int) : ((do eqGuard .sub t x y (.int .i32 X) (.int .i32 Y); Go.binOp .sub t (.int .i32 X) (.int .i32 Y) : Sem Value)).run P W = .ok (.int .i32 (wrap32 (X - Y))) W := by first | rfl | (go_simp; done) | (go_simp; rfl) | (go_simp; exact i64_w _) | (go_simp; exact i32_w _)
theorem mul_i32 (X Y : Int) : ((do eqGuard .mul t x y (.int .i32 X) (.int .i32 Y); Go.binOp .mul t (.int .i32 X) (.int .i32 Y) : Sem Value)).run P W = .ok (.int .i32 (wrap32 (X * Y))) W := by first | rfl | (go_simp; done) | (go_simp; rfl) | (go_simp; exact i64_w _) | (go_simp; exact i32_w _)
theorem and_i32 (X Y : Int) : ((do eqGuard .and t x y (.int .i32 X) (.int .i32 Y); Go.binOp .and t (.int .i32 X) (.int .i32 Y) : Sem Value)).run P W = .ok (.int .i32 (Go.bits .and .i32 X Y)) W := by first | rfl | (go_simp; done) | (go_simp; rfl) | (go_simp; exact i64_w _) | (go_simp; exact i32_w _)
theorem or_i32 (X Y : Int) : ((do eqGuard .or t x y (.int .i32 X) (.int .i32 Y); Go.binOp .or t (.int .i32 X) (.int .i32 Y) : Sem Value)).run P W = .ok (.int .i32 (Go.bits .or .i32 X Y)) W := by first | rfl | (go_simp; done) | (go_simp; rfl) | (go_simp; exact i64_w _) | (go_simp; exact i32_w _)
theorem xor_i32 (X Y : Int) : ((do eqGuard .xor t x y (.int .i32 X) (.int .i32 Y); Go.binOp .xor t (.int .i32 X) (.int .i32 Y) : Sem Value)).run P W = .ok (.int .i32 (Go.bits .xor .i32 X Y)) W := by first | rfl | (go_simp; done) | (go_simp; rfl) | (go_simp; exact i64_w _) | (go_simp; exact i32_w _)
theorem andNot_i32 (X Y : Int) : ((do eqGuard .andNot t x y (.int .i32 X) (.int .i32 Y); Go.binOp .andNot t (.int .i32 X) (.int .i32 Y) : Sem Value)).run P W = .ok (.int .i32 (Go.bits .andNot .i32 X Y)) W := by first | rfl | (go_simp; done) | (go_simp; rfl) | (go_simp; exact i64_w _) | (go_simp; exact i32_w _)
theorem lss_i32 (X Y : Int) : ((do eqGuard .lss t x y (.int .i32 X) (.int .i32 Y); Go.binOp .lss t (.int .i32 X) (.int .i32 Y) : Sem Value)).run P W = .ok (.bool (decide (X < Y))) W := by first | rfl | (go_simp; done) | (go_simp; rfl) | (go_simp; exact i64_w _) | (go_simp; exact i32_w _)
theorem leq_i32 (X Y : Int) : ((do eqGuard .leq t x y (.int .i32 X) (.int .i32 Y); Go.binOp .leq t (.int .i32 X) (.int .i32 Y) : Sem Value)).run P W = .ok (.bool (decide (X ≤ Y))) W := by first | rfl | (go_simp; done) | (go_simp; rfl) | (go_simp; exact i64_w _) | (go_simp; exact i32_w _)
theorem gtr_i32 (X Y : Int) : ((do eqGuard .gtr t x y (.int .i32 X) (.int .i32 Y); Go.binOp .gtr t (.int .i32 X) (.int .i32 Y) : Sem Value)).run P W = .ok (.bool (decide (X > Y))) W := by first | rfl | (go_simp; done) | (go_simp; rfl) | (go_simp; exact i64_w _) | (go_simp; exact i32_w _)
theorem geq_i32 (X Y : Int) : ((do eqGuard .geq t x y (.int .i32 X) (.int .i32 Y); Go.binOp .geq t (.int .i32 X) (.int .i32 Y) : Sem Value)).run P W = .ok (.bool (decide (X ≥ Y))) W := by first | rfl | (go_simp; done) | (go_simp; rfl) | (go_simp; exact i64_w _) | (go_simp; exact i32_w _)
theorem eql_i32 (X Y : Int) : ((do eqGuard .eql t x y (.int .i32 X) (.int .i32 Y); Go.binOp .eql t (.int .i32 X) (.int .i32 Y) : Sem Value)).run P W = .ok (.bool (decide (X = Y))) W := by first | rfl | (go_simp; done) | (go_simp; rfl) | (go_simp; exact i64_w _) | (go_simp; exact i32_w _)
theorem neq_i32 (X Y : Int) : ((do eqGuard .neq t x y (.int .i32 X) (.int .i32 Y); Go.binOp .neq t (.int .i32 X) (.int .i32 Y) : Sem Value)).run P W = .ok (.bool (!decide (X = Y))) W := by first | rfl | (go_simp; done) | (go_simp; rfl) | (go_simp; exact i64_w _) | (go_simp; exact i32_w _)
theorem quo_i32 (X Y : Int) (h : ¬ Y = 0) : ((do eqGuard .quo t x y (.int .i32 X) (.int .i32 Y); Go.binOp .quo t (.int .i32 X) (.int .i32 Y) : Sem Value)).run P W = .ok (.int .i32 (wrap32 (Int.tdiv X Y))) W := by
  have h' : (Y == 0) = false := by simpa using h
  first | (go_simp; done) | (go_simp; rfl) | (go_simp; exact i64_w _) | (go_simp; exact i32_w _)
theorem rem_i32 (X Y : Int) (h : ¬ Y = 0) : ((do eqGuard .rem t x y (.int .i32 X) (.int .i32 Y); Go.binOp .rem t (.int .i32 X) (.int .i32 Y) : Sem Value)).run P W = .ok (.int .i32 (Int.tmod X Y)) W := by
  have h' : (Y == 0) = false := by simpa using h
  first | (go_simp; done) | (go_simp; rfl)
theorem shr_i32_u64 (X Y : Int) (h0 : 0 ≤ Y) : ((do eqGuard .shr t x y (.int .i32 X) (.int .u64 Y); Go.binOp .shr t (.int .i32 X) (.int .u64 Y) : Sem Value)).run P W = .ok (.int .i32 (shr .i32 X Y)) W := by
  simp only [Sem.run_bind]; unfold shr; first | (go_simp; done) | (go_simp; rfl)
theorem shl_i32_u64 (X Y : Int) (h0 : 0 ≤ Y) : ((do eqGuard .shl t x y (.int .i32 X) (.int .u64 Y); Go.binOp .shl t (.int .i32 X) (.int .u64 Y) : Sem Value)).run P W = .ok (.int .i32 (shl .i32 X Y)) W := by
  simp only [Sem.run_bind]; unfold shl; first | (go_simp; done) | (go_simp; rfl)
theorem shr_i32_i64 (X Y : Int) (h0 : 0 ≤ Y) : ((do eqGuard .shr t x y (.int .i32 X) (.int .i64 Y); Go.binOp .shr t (.int .i32 X) (.int .i64 Y) : Sem Value)).run P W = .ok (.int .i32 (shr .i32 X Y)) W := by
  simp only [Sem.run_bind]; unfold shr; first | (go_simp; done) | (go_simp; rfl)
theorem shl_i32_i64 (X Y : Int) (h0 : 0 ≤ Y) : ((do eqGuard .shl t x y (.int .i32 X) (.int .i64 Y); Go.binOp .shl t (.int .i32 X) (.int .i64 Y) : Sem Value)).run P W = .ok (.int .i32 (shl .i32 X Y)) W := by
  simp only [Sem.run_bind]; unfold shl; first | (go_simp; done) | (go_simp; rfl)
theorem shr_i32_u32 (X Y : Int) (h0 : 0 ≤ Y) : ((do eqGuard .shr t x y (.int .i32 X) (.int .u32 Y); Go.binOp .shr t (.int .i32 X) (.int .u32 Y) : Sem Value)).run P W = .ok (.int .i32 (shr .i32 X Y)) W := by
  simp only [Sem.run_bind]; unfold shr; first | (go_simp; done) | (go_simp; rfl)
theorem shl_i32_u32 (X Y : Int) (h0 : 0 ≤ Y) : ((do eqGuard .shl t x y (.int .i32 X) (.int .u32 Y); Go.binOp .shl t (.int .i32 X) (.int .u32 Y) : Sem Value)).run P W = .ok (.int .i32 (shl .i32 X Y)) W := by
  simp only [Sem.run_bind]; unfold shl; first | (go_simp; done) | (go_simp; rfl)
theorem shr_i32_u8 (X Y : Int) (h0 : 0 ≤ Y) : ((do eqGuard .shr t x y (.int .i32 X) (.int .u8 Y); Go.binOp .shr t (.int .i32 X) (.int .u8 Y) : Sem Value)).run P W = .ok (.int .i32 (shr .i32 X Y)) W := by
  simp only [Sem.run_bind]; unfold shr; first | (go_simp; done) | (go_simp; rfl)
theorem shl_i32_u8 (X Y : Int) (h0 : 0 ≤ Y) : ((do eqGuard .shl t x y (.int .i32 X) (.int .u8 Y); Go.binOp .shl t (.int .i32 X) (.int .u8 Y) : Sem Value)).run P W = .ok (.int .i32 (shl .i32 X Y)) W := by
  simp only [Sem.run_bind]; unfold shl; first | (go_simp; done) | (go_simp; rfl)
theorem add_i16 (X Y : Int) : ((do eqGuard .add t x y (.int .i16 X) (.int .i16 Y); Go.binOp .add t (.int .i16 X) (.int .i16 Y) : Sem Value)).run P W = .ok (.int .i16 (IntKind.i16.wrap (X + Y))) W := by first | rfl | (go_simp; done) | (go_simp; rfl) | (go_simp; exact i64_w _) | (go_simp; exact i32_w _)
theorem sub_i16 (X Y : Int) : ((do eqGuard .sub t x y (.int .i16 X) (.int .i16 Y); Go.binOp .sub t (.int .i16 X) (.int .i16 Y) : Sem Value)).run P W = .ok (.int .i16 (IntKind.i16.wrap (X - Y))) W := by first | rfl | (go_simp; done) | (go_simp; rfl) | (go_simp; exact i64_w _) | (go_simp; exact i32_w _)
theorem mul_i16 (X Y : Int) : ((do eqGuard .mul t x y (.int .i16 X) (.int .i16 Y); Go.binOp .mul t (.int .i16 X) (.int .i16 Y) : Sem Value)).run P W = .ok (.int .i16 (IntKind.i16.wrap (X * Y))) W := by first | rfl | (go_simp; done) | (go_simp; rfl) | (go_simp; exact i64_w _) | (go_simp; exact i32_w _)
theorem and_i16 (X Y : Int) : ((do eqGuard .and t x y (.int .i16 X) (.int .i16 Y); Go.binOp .and t (.int .i16 X) (.int .i16 Y) : Sem Value)).run P W = .ok (.int .i16 (Go.bits .and .i16 X Y)) W := by first | rfl | (go_simp; done) | (go_simp; rfl) | (go_simp; exact i64_w _) | (go_simp; exact i32_w _)
theorem or_i16 (X Y : Int) : ((do eqGuard .or t x y (.int .i16 X) (.int .i16 Y); Go.binOp .or t (.int .i16 X) (.int .i16 Y) : Sem Value)).run P W = .ok (.int .i16 (Go.bits .or .i16 X Y)) W := by first | rfl | (go_simp; done) | (go_simp; rfl) | (go_simp; exact i64_w _) | (go_simp; exact i32_w _)
theorem xor_i16 (X Y : Int) : ((do eqGuard .xor t x y (.int .i16 X) (.int .i16 Y); Go.binOp .xor t (.int .i16 X) (.int .i16 Y) : Sem Value)).run P W = .ok (.int .i16 (Go.bits .xor .i16 X Y)) W := by first | rfl | (go_simp; done) | (go_simp; rfl) | (go_simp; exact i64_w _) | (go_simp; exact i32_w _)
theorem andNot_i16 (X Y : Int) : ((do eqGuard .andNot t x y (.int .i16 X) (.int .i16 Y); Go.binOp .andNot t (.int .i16 X) (.int .i16 Y) : Sem Value)).run P W = .ok (.int .i16 (Go.bits .andNot .i16 X Y)) W := by first | rfl | (go_simp; done) | (go_simp; rfl) | (go_simp; exact i64_w _) | (go_simp; exact i32_w _)
theorem lss_i16 (X Y : Int) : ((do eqGuard .lss t x y (.int .i16 X) (.int .i16 Y); Go.binOp .lss t (.int .i16 X) (.int .i16 Y) : Sem Value)).run P W = .ok (.bool (decide (X < Y))) W := by first | rfl | (go_simp; done) | (go_simp; rfl) | (go_simp; exact i64_w _) | (go_simp; exact i32_w _)
theorem leq_i16 (X Y : Int) : ((do eqGuard .leq t x y (.int .i16 X) (.int .i16 Y); Go.binOp .leq t (.int .i16 X) (.int .i16 Y) : Sem Value)).run P W = .ok (.bool (decide (X ≤ Y))) W := by first | rfl | (go_simp; done) | (go_simp; rfl) | (go_simp; exact i64_w _) | (go_simp; exact i32_w _)
theorem gtr_i16 (X Y : Int) : ((do eqGuard .gtr t x y (.int .i16 X) (.int .i16 Y); Go.binOp .gtr t (.int .i16 X) (.int .i16 Y) : Sem Value)).run P W = .ok (.bool (decide (X > Y))) W := by first | rfl | (go_simp; done) | (go_simp; rfl) | (go_simp; exact i64_w _) | (go_simp; exact i32_w _)
theorem geq_i16 (X Y : Int) : ((do eqGuard .geq t x y (.int .i16 X) (.int .i16 Y); Go.binOp .geq t (.int .i16 X) (.int .i16 Y) : Sem Value)).run P W = .ok (.bool (decide (X ≥ Y))) W := by first | rfl | (go_simp; done) | (go_simp; rfl) | (go_simp; exact i64_w _) | (go_simp; exact i32_w _)
theorem eql_i16 (X Y : Int) : ((do eqGuard .eql t x y (.int .i16 X) (.int .i16 Y); Go.binOp .eql t (.int .i16 X) (.int .i16 Y) : Sem Value)).run P W = .ok (.bool (decide (X = Y))) W := by first | rfl | (go_simp; done) | (go_simp; rfl) | (go_simp; exact i64_w _) | (go_simp; exact i32_w _)
theorem neq_i16 (X Y : Int) : ((do eqGuard .neq t x y (.int .i16 X) (.int .i16 Y); Go.binOp .neq t (.int .i16 X) (.int .i16 Y) : Sem Value)).run P W = .ok (.bool (!decide (X = Y))) W := by first | rfl | (go_simp; done) | (go_simp; rfl) | (go_simp; exact i64_w _) | (go_simp; exact i32_w _)
theorem quo_i16 (X Y : Int) (h : ¬ Y = 0) : ((do eqGuard .quo t x y (.int .i16 X) (.int .i16 Y); Go.binOp .quo t (.int .i16 X) (.int .i16 Y) : Sem Value)).run P W = .ok (.int .i16 (IntKind.i16.wrap (Int.tdiv X Y))) W := by
  have h' : (Y == 0) = false := by simpa using h
  first | (go_simp; done) | (go_simp; rfl) | (go_simp; exact i64_w _) | (go_simp; exact i32_w _)
theorem rem_i16 (X Y : Int) (h : ¬ Y = 0) : ((do eqGuard .rem t x y (.int .i16 X) (.int .i16 Y); Go.binOp .rem t (.int .i16 X) (.int .i16 Y) : Sem Value)).run P W = .ok (.int .i16 (Int.tmod X Y)) W := by
  have h' : (Y == 0) = false := by simpa using h
  first | (go_simp; done) | (go_simp; rfl)
theorem shr_i16_u64 (X Y : Int) (h0 : 0 ≤ Y) : ((do eqGuard .shr t x y (.int .i16 X) (.int .u64 Y); Go.binOp .shr t (.int .i16 X) (.int .u64 Y) : Sem Value)).run P W = .ok (.int .i16 (shr .i16 X Y)) W := by
  simp only [Sem.run_bind]; unfold shr; first | (go_simp; done) | (go_simp; rfl)
theorem shl_i16_u64 (X Y : Int) (h0 : 0 ≤ Y) : ((do eqGuard .shl t x y (.int .i16 X) (.int .u64 Y); Go.binOp .shl t (.int .i16 X) (.int .u64 Y) : Sem Value)).run P W = .ok (.int .i16 (shl .i16 X Y)) W := by
  simp only [Sem.run_bind]; unfold shl; first | (go_simp; done) | (go_simp; rfl)
theorem shr_i16_i64 (X Y : Int) (h0 : 0 ≤ Y) : ((do eqGuard .shr t x y (.int .i16 X) (.int .i64 Y); Go.binOp .shr t (.int .i16 X) (.int .i64 Y) : Sem Value)).run P W = .ok (.int .i16 (shr .i16 X Y)) W := by
  simp only [Sem.run_bind]; unfold shr; first | (go_simp; done) | (go_simp; rfl)
theorem shl_i16_i64 (X Y : Int) (h0 : 0 ≤ Y) : ((do eqGuard .shl t x y (.int .i16 X) (.int .i64 Y); Go.binOp .shl t (.int .i16 X) (.int .i64 Y) : Sem Value)).run P W = .ok (.int .i16 (shl .i16 X Y)) W := by
  simp only [Sem.run_bind]; unfold shl; first | (go_simp; done) | (go_simp; rfl)
theorem shr_i16_u32 (X Y : Int) (h0 : 0 ≤ Y) : ((do eqGuard .shr t x y (.int .i16 X) (.int .u32 Y); Go.binOp .shr t (.int .i16 X) (.int .u32 Y) : Sem Value)).run P W = .ok (.int .i16 (shr .i16 X Y)) W := by
  simp only [Sem.run_bind]; unfold shr; first | (go_simp; done) | (go_simp; rfl)
theorem shl_i16_u32 (X Y : Int) (h0 : 0 ≤ Y) : ((do eqGuard .shl t x y (.int .i16 X) (.int .u32 Y); Go.binOp .shl t (.int .i16 X) (.int .u32 Y) : Sem Value)).run P W = .ok (.int .i16 (shl .i16 X Y)) W := by
  simp only [Sem.run_bind]; unfold shl; first | (go_simp; done) | (go_simp; rfl)
theorem shr_i16_u8 (X Y : Int) (h0 : 0 ≤ Y) : ((do eqGuard .shr t x y (.int .i16 X) (.int .u8 Y); Go.binOp .shr t (.int .i16 X) (.int .u8 Y) : Sem Value)).run P W = .ok (.int .i16 (shr .i16 X Y)) W := by
  simp only [Sem.run_bind]; unfold shr; first | (go_simp; done) | (go_simp; rfl)
theorem shl_i16_u8 (X Y : Int) (h0 : 0 ≤ Y) : ((do eqGuard .shl t x y (.int .i16 X) (.int .u8 Y); Go.binOp .shl t (.int .i16 X) (.int .u8 Y) : Sem Value)).run P W = .ok (.int .i16 (shl .i16 X Y)) W := by
  simp only [Sem.run_bind]; unfold shl; first | (go_simp; done) | (go_simp; rfl)
theorem add_i8 (X Y : Int) : ((do eqGuard .add t x y (.int .i8 X) (.int .i8 Y); Go.binOp .add t (.int .i8 X) (.int .i8 Y) : Sem Value)).run P W = .ok (.int .i8 (IntKind.i8.wrap (X + Y))) W := by first | rfl | (go_simp; done) | (go_simp; rfl) | (go_simp; exact i64_w _) | (go_simp; exact i32_w _)
theorem sub_i8 (X Y : Int) : ((do eqGuard .sub t x y (.int .i8 X) (.int .i8 Y); Go.binOp .sub t (.int .i8 X) (.int .i8 Y) : Sem Value)).run P W = .ok (.int .i8 (IntKind.i8.wrap (X - Y))) W := by first | rfl | (go_simp; done) | (go_simp; rfl) | (go_simp; exact i64_w _) | (go_simp; exact i32_w _)
theorem mul_i8 (X Y : Int) : ((do eqGuard .mul t x y (.int .i8 X) (.int .i8 Y); Go.binOp .mul t (.int .i8 X) (.int .i8 Y) : Sem Value)).run P W = .ok (.int .i8 (IntKind.i8.wrap (X * Y))) W := by first | rfl | (go_simp; done) | (go_simp; rfl) | (go_simp; exact i64_w _) | (go_simp; exact i32_w _)
theorem and_i8 (X Y : Int) : ((do eqGuard .and t x y (.int .i8 X) (.int .i8 Y); Go.binOp .and t (.int .i8 X) (.int .i8 Y) : Sem Value)).run P W = .ok (.int .i8 (Go.bits .and .i8 X Y)) W := by first | rfl | (go_simp; done) | (go_simp; rfl) | (go_simp; exact i64_w _) | (go_simp; exact i32_w _)
theorem or_i8 (X Y : Int) : ((do eqGuard .or t x y (.int .i8 X) (.int .i8 Y); Go.binOp .or t (.int .i8 X) (.int .i8 Y) : Sem Value)).run P W = .ok (.int .i8 (Go.bits .or .i8 X Y)) W := by first | rfl | (go_simp; done) | (go_simp; rfl) | (go_simp; exact i64_w _) | (go_simp; exact i32_w _)
theorem xor_i8 (X Y : Int) : ((do eqGuard .xor t x y (.int .i8 X) (.int .i8 Y); Go.binOp .xor t (.int .i8 X) (.int .i8 Y) : Sem Value)).run P W = .ok (.int .i8 (Go.bits .xor .i8 X Y)) W := by first | rfl | (go_simp; done) | (go_simp; rfl) | (go_simp; exact i64_w _) | (go_simp; exact i32_w _)
theorem andNot_i8 (X Y : Int) : ((do eqGuard .andNot t x y (.int .i8 X) (.int .i8 Y); Go.binOp .andNot t (.int .i8 X) (.int .i8 Y) : Sem Value)).run P W = .ok (.int .i8 (Go.bits .andNot .i8 X Y)) W := by first | rfl | (go_simp; done) | (go_simp; rfl) | (go_simp; exact i64_w _) | (go_simp; exact i32_w _)
theorem lss_i8 (X Y : Int) : ((do eqGuard .lss t x y (.int .i8 X) (.int .i8 Y); Go.binOp .lss t (.int .i8 X) (.int .i8 Y) : Sem Value)).run P W = .ok (.bool (decide (X < Y))) W := by first | rfl | (go_simp; done) | (go_simp; rfl) | (go_simp; exact i64_w _) | (go_simp; exact i32_w _)
theorem leq_i8 (X Y : Int) : ((do eqGuard .leq t x y (.int .i8 X) (.int .i8 Y); Go.binOp .leq t (.int .i8 X) (.int .i8 Y) : Sem Value)).run P W = .ok (.bool (decide (X ≤ Y))) W := by first | rfl | (go_simp; done) | (go_simp; rfl) | (go_simp; exact i64_w _) | (go_simp; exact i32_w _)
theorem gtr_i8 (X Y : Int) : ((do eqGuard .gtr t x y (.int .i8 X) (.int .i8 Y); Go.binOp .gtr t (.int .i8 X) (.int .i8 Y) : Sem Value)).run P W = .ok (.bool (decide (X > Y))) W := by first | rfl | (go_simp; done) | (go_simp; rfl) | (go_simp; exact i64_w _) | (go_simp; exact i32_w _)
theorem geq_i8 (X Y : Int) : ((do eqGuard .geq t x y (.int .i8 X) (.int .i8 Y); Go.binOp .geq t (.int .i8 X) (.int .i8 Y) : Sem Value)).run P W = .ok (.bool (decide (X ≥ Y))) W := by first | rfl | (go_simp; done) | (go_simp; rfl) | (go_simp; exact i64_w _) | (go_simp; exact i32_w _)
theorem eql_i8 (X Y : Int) : ((do eqGuard .eql t x y (.int .i8 X) (.int .i8 Y); Go.binOp .eql t (.int .i8 X) (.int .i8 Y) : Sem Value)).run P W = .ok (.bool (decide (X = Y))) W := by first | rfl | (go_simp; done) | (go_simp; rfl) | (go_simp; exact i64_w _) | (go_simp; exact i32_w _)
theorem neq_i8 (X Y : Int) : ((do eqGuard .neq t x y (.int .i8 X) (.int .i8 Y); Go.binOp .neq t (.int .i8 X) (.int .i8 Y) : Sem Value)).run P W = .ok (.bool (!decide (X = Y))) W := by first | rfl | (go_simp; done) | (go_simp; rfl) | (go_simp; exact i64_w _) | (go_simp; exact i32_w _)
theorem quo_i8 (X Y : Int) (h : ¬ Y = 0) : ((do eqGuard .quo t x y (.int .i8 X) (.int .i8 Y); Go.binOp .quo t (.int .i8 X) (.int .i8 Y) : Sem Value)).run P W = .ok (.int .i8 (IntKind.i8.wrap (Int.tdiv X Y))) W := by
  have h' : (Y == 0) = false := by simpa using h
  first | (go_simp; done) | (go_simp; rfl) | (go_simp; exact i64_w _) | (go_simp; exact i32_w _)
theorem rem_i8 (X Y : Int) (h : ¬ Y = 0) : ((do eqGuard .rem t x y (.int .i8 X) (.int .i8 Y); Go.binOp .rem t (.int .i8 X) (.int .i8 Y) : Sem Value)).run P W = .ok (.int .i8 (Int.tmod X Y)) W := by
  have h' : (Y == 0) = false := by simpa using h
  first | (go_simp; done) | (go_simp; rfl)
theorem shr_i8_u64 (X Y : Int) (h0 : 0 ≤ Y) : ((do eqGuard .shr t x y (.int .i8 X) (.int .u64 Y); Go.binOp .shr t (.int .i8 X) (.int .u64 Y) : Sem Value)).run P W = .ok (.int .i8 (shr .i8 X Y)) W := by
  simp only [Sem.run_bind]; unfold shr; first | (go_simp; done) | (go_simp; rfl)
theorem shl_i8_u64 (X Y : Int) (h0 : 0 ≤ Y) : ((do eqGuard .shl t x y (.int .i8 X) (.int .u64 Y); Go.binOp .shl t (.int .i8 X) (.int .u64 Y) : Sem Value)).run P W = .ok (.int .i8 (shl .i8 X Y)) W := by
  simp only [Sem.run_bind]; unfold shl; first | (go_simp; done) | (go_simp; rfl)
theorem shr_i8_i64 (X Y : Int) (h0 : 0 ≤ Y) : ((do eqGuard .shr t x y (.int .i8 X) (.int .i64 Y); Go.binOp .shr t (.int .i8 X) (.int .i64 Y) : Sem Value)).run P W = .ok (.int .i8 (shr .i8 X Y)) W := by
  simp only [Sem.run_bind]; unfold shr; first | (go_simp; done) | (go_simp; rfl)
theorem shl_i8_i64 (X Y : Int) (h0 : 0 ≤ Y) : ((do eqGuard .shl t x y (.int .i8 X) (.int .i64 Y); Go.binOp .shl t (.int .i8 X) (.int .i64 Y) : Sem Value)).run P W = .ok (.int .i8 (shl .i8 X Y)) W := by
  simp only [Sem.run_bind]; unfold shl; first | (go_simp; done) | (go_simp; rfl)
theorem shr_i8_u32 (X Y : Int) (h0 : 0 ≤ Y) : ((do eqGuard .shr t x y (.int .i8 X) (.int .u32 Y); Go.binOp .shr t (.int .i8 X) (.int .u32 Y) : Sem Value)).run P W = .ok (.int .i8 (shr .i8 X Y)) W := by
  simp only [Sem.run_bind]; unfold shr; first | (go_simp; done) | (go_simp; rfl)
theorem shl_i8_u32 (X Y : Int) (h0 : 0 ≤ Y) : ((do eqGuard .shl t x y (.int .i8 X) (.int .u32 Y); Go.binOp .shl t (.int .i8 X) (.int .u32 Y) : Sem Value)).run P W = .ok (.int .i8 (shl .i8 X Y)) W := by
  simp only [Sem.run_bind]; unfold shl; first | (go_simp; done) | (go_simp; rfl)
theorem shr_i8_u8 (X Y : Int) (h0 : 0 ≤ Y) : ((do eqGuard .shr t x y (.int .i8 X) (.int .u8 Y); Go.binOp .shr t (.int .i8 X) (.int .u8 Y) : Sem Value)).run P W = .ok (.int .i8 (shr .i8 X Y)) W := by
  simp only [Sem.run_bind]; unfold shr; first | (go_simp; done) | (go_simp; rfl)
theorem shl_i8_u8 (X Y : Int) (h0 : 0 ≤ Y) : ((do eqGuard .shl t x y (.int .i8 X) (.int .u8 Y); Go.binOp .shl t (.int .i8 X) (.int .u8 Y) : Sem Value)).run P W = .ok (.int .i8 (shl .i8 X Y)) W := by
  simp only [Sem.run_bind]; unfold shl; first | (go_simp; done) | (go_simp; rfl)
theorem add_u64 (X Y : Int) : ((do eqGuard .add t x y (.int .u64 X) (.int .u64 Y); Go.binOp .add t (.int .u64 X) (.int .u64 Y) : Sem Value)).run P W = .ok (.int .u64 (IntKind.u64.wrap (X + Y))) W := by first | rfl | (go_simp; done) | (go_simp; rfl) | (go_simp; exact i64_w _) | (go_simp; exact i32_w _)
theorem sub_u64 (X Y : Int) : ((do eqGuard .sub t x y (.int .u64 X) (.int .u64 Y); Go.binOp .sub t (.int .u64 X) (.int .u64 Y) : Sem Value)).run P W = .ok (.int .u64 (IntKind.u64.wrap (X - Y))) W := by first | rfl | (go_simp; done) | (go_simp; rfl) | (go_simp; exact i64_w _) | (go_simp; exact i32_w _)
theorem mul_u64 (X Y : Int) : ((do eqGuard .mul t x y (.int .u64 X) (.int .u64 Y); Go.binOp .mul t (.int .u64 X) (.int .u64 Y) : Sem Value)).run P W = .ok (.int .u64 (IntKind.u64.wrap (X * Y))) W := by first | rfl | (go_simp; done) | (go_simp; rfl) | (go_simp; exact i64_w _) | (go_simp; exact i32_w _)
theorem and_u64 (X Y : Int) : ((do eqGuard .and t x y (.int .u64 X) (.int .u64 Y); Go.binOp .and t (.int .u64 X) (.int .u64 Y) : Sem Value)).run P W = .ok (.int .u64 (Go.bits .and .u64 X Y)) W := by first | rfl | (go_simp; done) | (go_simp; rfl) | (go_simp; exact i64_w _) | (go_simp; exact i32_w _)
theorem or_u64 (X Y : Int) : ((do eqGuard .or t x y (.int .u64 X) (.int .u64 Y); Go.binOp .or t (.int .u64 X) (.int .u64 Y) : Sem Value)).run P W = .ok (.int .u64 (Go.bits .or .u64 X Y)) W := by first | rfl | (go_simp; done) | (go_simp; rfl) | (go_simp; exact i64_w _) | (go_simp; exact i32_w _)
theorem xor_u64 (X Y : Int) : ((do eqGuard .xor t x y (.int .u64 X) (.int .u64 Y); Go.binOp .xor t (.int .u64 X) (.int .u64 Y) : Sem Value)).run P W = .ok (.int .u64 (Go.bits .xor .u64 X Y)) W := by first | rfl | (go_simp; done) | (go_simp; rfl) | (go_simp; exact i64_w _) | (go_simp; exact i32_w _)
theorem andNot_u64 (X Y : Int) : ((do eqGuard .andNot t x y (.int .u64 X) (.int .u64 Y); Go.binOp .andNot t (.int .u64 X) (.int .u64 Y) : Sem Value)).run P W = .ok (.int .u64 (Go.bits .andNot .u64 X Y)) W := by first | rfl | (go_simp; done) | (go_simp; rfl) | (go_simp; exact i64_w _) | (go_simp; exact i32_w _)
theorem lss_u64 (X Y : Int) : ((do eqGuard .lss t x y (.int .u64 X) (.int .u64 Y); Go.binOp .lss t (.int .u64 X) (.int .u64 Y) : Sem Value)).run P W = .ok (.bool (decide (X < Y))) W := by first | rfl | (go_simp; done) | (go_simp; rfl) | (go_simp; exact i64_w _) | (go_simp; exact i32_w _)
theorem leq_u64 (X Y : Int) : ((do eqGuard .leq t x y (.int .u64 X) (.int .u64 Y); Go.binOp .leq t (.int .u64 X) (.int .u64 Y) : Sem Value)).run P W = .ok (.bool (decide (X ≤ Y))) W := by first | rfl | (go_simp; done) | (go_simp; rfl) | (go_simp; exact i64_w _) | (go_simp; exact i32_w _)
theorem gtr_u64 (X Y : Int) : ((do eqGuard .gtr t x y (.int .u64 X) (.int .u64 Y); Go.binOp .gtr t (.int .u64 X) (.int .u64 Y) : Sem Value)).run P W = .ok (.bool (decide (X > Y))) W := by first | rfl | (go_simp; done) | (go_simp; rfl) | (go_simp; exact i64_w _) | (go_simp; exact i32_w _)
theorem geq_u64 (X Y : Int) : ((do eqGuard .geq t x y (.int .u64 X) (.int .u64 Y); Go.binOp .geq t (.int .u64 X) (.int .u64 Y) : Sem Value)).run P W = .ok (.bool (decide (X ≥ Y))) W := by first | rfl | (go_simp; done) | (go_simp; rfl) | (go_simp; exact i64_w _) | (go_simp; exact i32_w _)
theorem eql_u64 (X Y : Int) : ((do eqGuard .eql t x y (.int .u64 X) (.int .u64 Y); Go.binOp .eql t (.int .u64 X) (.int .u64 Y) : Sem Value)).run P W = .ok (.bool (decide (X = Y))) W := by first | rfl | (go_simp; done) | (go_simp; rfl) | (go_simp; exact i64_w _) | (go_simp; exact i32_w _)
theorem neq_u64 (X Y : Int) : ((do eqGuard .neq t x y (.int .u64 X) (.int .u64 Y); Go.binOp .neq t (.int .u64 X) (.int .u64 Y) : Sem Value)).run P W = .ok (.bool (!decide (X = Y))) W := by first | rfl | (go_simp; done) | (go_simp; rfl) | (go_simp; exact i64_w _) | (go_simp; exact i32_w _)
theorem quo_u64 (X Y : Int) (h : ¬ Y = 0) : ((do eqGuard .quo t x y (.int .u64 X) (.int .u64 Y); Go.binOp .quo t (.int .u64 X) (.int .u64 Y) : Sem Value)).run P W = .ok (.int .u64 (IntKind.u64.wrap (Int.tdiv X Y))) W := by
  have h' : (Y == 0) = false := by simpa using h
  first | (go_simp; done) | (go_simp; rfl) | (go_simp; exact i64_w _) | (go_simp; exact i32_w _)
theorem rem_u64 (X Y : Int) (h : ¬ Y = 0) : ((do eqGuard .rem t x y (.int .u64 X) (.int .u64 Y); Go.binOp .rem t (.int .u64 X) (.int .u64 Y) : Sem Value)).run P W = .ok (.int .u64 (Int.tmod X Y)) W := by
  have h' : (Y == 0) = false := by simpa using h
  first | (go_simp; done) | (go_simp; rfl)
theorem shr_u64_u64 (X Y : Int) (h0 : 0 ≤ Y) : ((do eqGuard .shr t x y (.int .u64 X) (.int .u64 Y); Go.binOp .shr t (.int .u64 X) (.int .u64 Y) : Sem Value)).run P W = .ok (.int .u64 (shr .u64 X Y)) W := by
  simp only [Sem.run_bind]; unfold shr; first | (go_simp; done) | (go_simp; rfl)
theorem shl_u64_u64 (X Y : Int) (h0 : 0 ≤ Y) : ((do eqGuard .shl t x y (.int .u64 X) (.int .u64 Y); Go.binOp .shl t (.int .u64 X) (.int .u64 Y) : Sem Value)).run P W = .ok (.int .u64 (shl .u64 X Y)) W := by
  simp only [Sem.run_bind]; unfold shl; first | (go_simp; done) | (go_simp; rfl)
theorem shr_u64_i64 (X Y : Int) (h0 : 0 ≤ Y) : ((do eqGuard .shr t x y (.int .u64 X) (.int .i64 Y); Go.binOp .shr t (.int .u64 X) (.int .i64 Y) : Sem Value)).run P W = .ok (.int .u64 (shr .u64 X Y)) W := by
  simp only [Sem.run_bind]; unfold shr; first | (go_simp; done) | (go_simp; rfl)
theorem shl_u64_i64 (X Y : Int) (h0 : 0 ≤ Y) : ((do eqGuard .shl t x y (.int .u64 X) (.int .i64 Y); Go.binOp .shl t (.int .u64 X) (.int .i64 Y) : Sem Value)).run P W = .ok (.int .u64 (shl .u64 X Y)) W := by
  simp only [Sem.run_bind]; unfold shl; first | (go_simp; done) | (go_simp; rfl)
theorem shr_u64_u32 (X Y : Int) (h0 : 0 ≤ Y) : ((do eqGuard .shr t x y (.int .u64 X) (.int .u32 Y); Go.binOp .shr t (.int .u64 X) (.int .u32 Y) : Sem Value)).run P W = .ok (.int .u64 (shr .u64 X Y)) W := by
  simp only [Sem.run_bind]; unfold shr; first | (go_simp; done) | (go_simp; rfl)
theorem shl_u64_u32 (X Y : Int) (h0 : 0 ≤ Y) : ((do eqGuard .shl t x y (.int .u64 X) (.int .u32 Y); Go.binOp .shl t (.int .u64 X) (.int .u32 Y) : Sem Value)).run P W = .ok (.int .u64 (shl .u64 X Y)) W := by
  simp only [Sem.run_bind]; unfold shl; first | (go_simp; done) | (go_simp; rfl)
theorem shr_u64_u8 (X Y : Int) (h0 : 0 ≤ Y) : ((do eqGuard .shr t x y (.int .u64 X) (.int .u8 Y); Go.binOp .shr t (.int .u64 X) (.int .u8 Y) : Sem Value)).run P W = .ok (.int .u64 (shr .u64 X Y)) W := by
  simp only [Sem.run_bind]; unfold shr; first | (go_simp; done) | (go_simp; rfl)
theorem shl_u64_u8 (X Y : Int) (h0 : 0 ≤ Y) : ((do eqGuard .shl t x y (.int .u64 X) (.int .u8 Y); Go.binOp .shl t (.int .u64 X) (.int .u8 Y) : Sem Value)).run P W = .ok (.int .u64 (shl .u64 X Y)) W := by
  simp only [Sem.run_bind]; unfold shl; first | (go_simp; done) | (go_simp; rfl)
theorem add_u32 (X Y : Int) : ((do eqGuard .add t x y (.int .u32 X) (.int .u32 Y); Go.binOp .add t (.int .u32 X) (.int .u32 Y) : Sem Value)).run P W = .ok (.int .u32 ((X + Y) % 4294967296)) W := by first | rfl | (go_simp; done) | (go_simp; rfl) | (go_simp; exact i64_w _) | (go_simp; exact i32_w _)
theorem sub_u32 (X Y : Int) : ((do eqGuard .sub t x y (.int .u32 X) (.int .u32 Y); Go.binOp .sub t (.int .u32 X) (.int .u32 Y) : Sem Value)).run P W = .ok (.int .u32 ((X - Y) % 4294967296)) W := by first | rfl | (go_simp; done) | (go_simp; rfl) | (go_simp; exact i64_w _) | (go_simp; exact i32_w _)
theorem mul_u32 (X Y : Int) : ((do eqGuard .mul t x y (.int .u32 X) (.int .u32 Y); Go.binOp .mul t (.int .u32 X) (.int .u32 Y) : Sem Value)).run P W = .ok (.int .u32 ((X * Y) % 4294967296)) W := by first | rfl | (go_simp; done) | (go_simp; rfl) | (go_simp; exact i64_w _) | (go_simp; exact i32_w _)
theorem and_u32 (X Y : Int) : ((do eqGuard .and t x y (.int .u32 X) (.int .u32 Y); Go.binOp .and t (.int .u32 X) (.int .u32 Y) : Sem Value)).run P W = .ok (.int .u32 (Go.bits .and .u32 X Y)) W := by first | rfl | (go_simp; done) | (go_simp; rfl) | (go_simp; exact i64_w _) | (go_simp; exact i32_w _)
theorem or_u32 (X Y : Int) : ((do eqGuard .or t x y (.int .u32 X) (.int .u32 Y); Go.binOp .or t (.int .u32 X) (.int .u32 Y) : Sem Value)).run P W = .ok (.int .u32 (Go.bits .or .u32 X Y)) W := by first | rfl | (go_simp; done) | (go_simp; rfl) | (go_simp; exact i64_w _) | (go_simp; exact i32_w _)
theorem xor_u32 (X Y : Int) : ((do eqGuard .xor t x y (.int .u32 X) (.int .u32 Y); Go.binOp .xor t (.int .u32 X) (.int .u32 Y) : Sem Value)).run P W = .ok (.int .u32 (Go.bits .xor .u32 X Y)) W := by first | rfl | (go_simp; done) | (go_simp; rfl) | (go_simp; exact i64_w _) | (go_simp; exact i32_w _)
theorem andNot_u32 (X Y : Int) : ((do eqGuard .andNot t x y (.int .u32 X) (.int .u32 Y); Go.binOp .andNot t (.int .u32 X) (.int .u32 Y) : Sem Value)).run P W = .ok (.int .u32 (Go.bits .andNot .u32 X Y)) W := by first | rfl | (go_simp; done) | (go_simp; rfl) | (go_simp; exact i64_w _) | (go_simp; exact i32_w _)
theorem lss_u32 (X Y : Int) : ((do eqGuard .lss t x y (.int .u32 X) (.int .u32 Y); Go.binOp .lss t (.int .u32 X) (.int .u32 Y) : Sem Value)).run P W = .ok (.bool (decide (X < Y))) W := by first | rfl | (go_simp; done) | (go_simp; rfl) | (go_simp; exact i64_w _) | (go_simp; exact i32_w _)
theorem leq_u32 (X Y : Int) : ((do eqGuard .leq t x y (.int .u32 X) (.int .u32 Y); Go.binOp .leq t (.int .u32 X) (.int .u32 Y) : Sem Value)).run P W = .ok (.bool (decide (X ≤ Y))) W := by first | rfl | (go_simp; done) | (go_simp; rfl) | (go_simp; exact i64_w _) | (go_simp; exact i32_w _)
theorem gtr_u32 (X Y : Int) : ((do eqGuard .gtr t x y (.int .u32 X) (.int .u32 Y); Go.binOp .gtr t (.int .u32 X) (.int .u32 Y) : Sem Value)).run P W = .ok (.bool (decide (X > Y))) W := by first | rfl | (go_simp; done) | (go_simp; rfl) | (go_simp; exact i64_w _) | (go_simp; exact i32_w _)
theorem geq_u32 (X Y : Int) : ((do eqGuard .geq t x y (.int .u32 X) (.int .u32 Y); Go.binOp .geq t (.int .u32 X) (.int .u32 Y) : Sem Value)).run P W = .ok (.bool (decide (X ≥ Y))) W := by first | rfl | (go_simp; done) | (go_simp; rfl) | (go_simp; exact i64_w _) | (go_simp; exact i32_w _)
theorem eql_u32 (X Y : Int) : ((do eqGuard .eql t x y (.int .u32 X) (.int .u32 Y); Go.binOp .eql t (.int .u32 X) (.int .u32 Y) : Sem Value)).run P W = .ok (.bool (decide (X = Y))) W := by first | rfl | (go_simp; done) | (go_simp; rfl) | (go_simp; exact i64_w _) | (go_simp; exact i32_w _)
theorem neq_u32 (X Y : Int) : ((do eqGuard .neq t x y (.int .u32 X) (.int .u32 Y); Go.binOp .neq t (.int .u32 X) (.int .u32 Y) : Sem Value)).run P W = .ok (.bool (!decide (X = Y))) W := by first | rfl | (go_simp; done) | (go_simp; rfl) | (go_simp; exact i64_w _) | (go_simp; exact i32_w _)
theorem quo_u32 (X Y : Int) (h : ¬ Y = 0) : ((do eqGuard .quo t x y (.int .u32 X) (.int .u32 Y); Go.binOp .quo t (.int .u32 X) (.int .u32 Y) : Sem Value)).run P W = .ok (.int .u32 ((Int.tdiv X Y) % 4294967296)) W := by
  have h' : (Y == 0) = false := by simpa using h
  first | (go_simp; done) | (go_simp; rfl) | (go_simp; exact i64_w _) | (go_simp; exact i32_w _)
theorem rem_u32 (X Y : Int) (h : ¬ Y = 0) : ((do eqGuard .rem t x y (.int .u32 X) (.int .u32 Y); Go.binOp .rem t (.int .u32 X) (.int .u32 Y) : Sem Value)).run P W = .ok (.int .u32 (Int.tmod X Y)) W := by
  have h' : (Y == 0) = false := by simpa using h
  first | (go_simp; done) | (go_simp; rfl)
theorem shr_u32_u64 (X Y : Int) (h0 : 0 ≤ Y) : ((do eqGuard .shr t x y (.int .u32 X) (.int .u64 Y); Go.binOp .shr t (.int .u32 X) (.int .u64 Y) : Sem Value)).run P W = .ok (.int .u32 (shr .u32 X Y)) W := by
  simp only [Sem.run_bind]; unfold shr; first | (go_simp; done) | (go_simp; rfl)
theorem shl_u32_u64 (X Y : Int) (h0 : 0 ≤ Y) : ((do eqGuard .shl t x y (.int .u32 X) (.int .u64 Y); Go.binOp .shl t (.int .u32 X) (.int .u64 Y) : Sem Value)).run P W = .ok (.int .u32 (shl .u32 X Y)) W := by
  simp only [Sem.run_bind]; unfold shl; first | (go_simp; done) | (go_simp; rfl)
theorem shr_u32_i64 (X Y : Int) (h0 : 0 ≤ Y) : ((do eqGuard .shr t x y (.int .u32 X) (.int .i64 Y); Go.binOp .shr t (.int .u32 X) (.int .i64 Y) : Sem Value)).run P W = .ok (.int .u32 (shr .u32 X Y)) W := by
  simp only [Sem.run_bind]; unfold shr; first | (go_simp; done) | (go_simp; rfl)
theorem shl_u32_i64 (X Y : Int) (h0 : 0 ≤ Y) : ((do eqGuard .shl t x y (.int .u32 X) (.int .i64 Y); Go.binOp .shl t (.int .u32 X) (.int .i64 Y) : Sem Value)).run P W = .ok (.int .u32 (shl .u32 X Y)) W := by
  simp only [Sem.run_bind]; unfold shl; first | (go_simp; done) | (go_simp; rfl)
theorem shr_u32_u32 (X Y : Int) (h0 : 0 ≤ Y) : ((do eqGuard .shr t x y (.int .u32 X) (.int .u32 Y); Go.binOp .shr t (.int .u32 X) (.int .u32 Y) : Sem Value)).run P W = .ok (.int .u32 (shr .u32 X Y)) W := by
  simp only [Sem.run_bind]; unfold shr; first | (go_simp; done) | (go_simp; rfl)
theorem shl_u32_u32 (X Y : Int) (h0 : 0 ≤ Y) : ((do eqGuard .shl t x y (.int .u32 X) (.int .u32 Y); Go.binOp .shl t (.int .u32 X) (.int .u32 Y) : Sem Value)).run P W = .ok (.int .u32 (shl .u32 X Y)) W := by
  simp only [Sem.run_bind]; unfold shl; first | (go_simp; done) | (go_simp; rfl)
theorem shr_u32_u8 (X Y : Int) (h0 : 0 ≤ Y) : ((do eqGuard .shr t x y (.int .u32 X) (.int .u8 Y); Go.binOp .shr t (.int .u32 X) (.int .u8 Y) : Sem Value)).run P W = .ok (.int .u32 (shr .u32 X Y)) W := by
  simp only [Sem.run_bind]; unfold shr; first | (go_simp; done) | (go_simp; rfl)
theorem shl_u32_u8 (X Y : Int) (h0 : 0 ≤ Y) : ((do eqGuard .shl t x y (.int .u32 X) (.int .u8 Y); Go.binOp .shl t (.int .u32 X) (.int .u8 Y) : Sem Value)).run P W = .ok (.int .u32 (shl .u32 X Y)) W := by
  simp only [Sem.run_bind]; unfold shl; first | (go_simp; done) | (go_simp; rfl)
theorem add_u16 (X Y : Int) : ((do eqGuard .add t x y (.int .u16 X) (.int .u16 Y); Go.binOp .add t (.int .u16 X) (.int .u16 Y) : Sem Value)).run P W = .ok (.int .u16 (IntKind.u16.wrap (X + Y))) W := by first | rfl | (go_simp; done) | (go_simp; rfl) | (go_simp; exact i64_w _) | (go_simp; exact i32_w _)
theorem sub_u16 (X Y : Int) : ((do eqGuard .sub t x y (.int .u16 X) (.int .u16 Y); Go.binOp .sub t (.int .u16 X) (.int .u16 Y) : Sem Value)).run P W = .ok (.int .u16 (IntKind.u16.wrap (X - Y))) W := by first | rfl | (go_simp; done) | (go_simp; rfl) | (go_simp; exact i64_w _) | (go_simp; exact i32_w _)
theorem mul_u16 (X Y : Int) : ((do eqGuard .mul t x y (.int .u16 X) (.int .u16 Y); Go.binOp .mul t (.int .u16 X) (.int .u16 Y) : Sem Value)).run P W = .ok (.int .u16 (IntKind.u16.wrap (X * Y))) W := by first | rfl | (go_simp; done) | (go_simp; rfl) | (go_simp; exact i64_w _) | (go_simp; exact i32_w _)
theorem and_u16 (X Y : Int) : ((do eqGuard .and t x y (.int .u16 X) (.int .u16 Y); Go.binOp .and t (.int .u16 X) (.int .u16 Y) : Sem Value)).run P W = .ok (.int .u16 (Go.bits .and .u16 X Y)) W := by first | rfl | (go_simp; done) | (go_simp; rfl) | (go_simp; exact i64_w _) | (go_simp; exact i32_w _)
theorem or_u16 (X Y : Int) : ((do eqGuard .or t x y (.int .u16 X) (.int .u16 Y); Go.binOp .or t (.int .u16 X) (.int .u16 Y) : Sem Value)).run P W = .ok (.int .u16 (Go.bits .or .u16 X Y)) W := by first | rfl | (go_simp; done) | (go_simp; rfl) | (go_simp; exact i64_w _) | (go_simp; exact i32_w _)
theorem xor_u16 (X Y : Int) : ((do eqGuard .xor t x y (.int .u16 X) (.int .u16 Y); Go.binOp .xor t (.int .u16 X) (.int .u16 Y) : Sem Value)).run P W = .ok (.int .u16 (Go.bits .xor .u16 X Y)) W := by first | rfl | (go_simp; done) | (go_simp; rfl) | (go_simp; exact i64_w _) | (go_simp; exact i32_w _)
theorem andNot_u16 (X Y : Int) : ((do eqGuard .andNot t x y (.int .u16 X) (.int .u16 Y); Go.binOp .andNot t (.int .u16 X) (.int .u16 Y) : Sem Value)).run P W = .ok (.int .u16 (Go.bits .andNot .u16 X Y)) W := by first | rfl | (go_simp; done) | (go_simp; rfl) | (go_simp; exact i64_w _) | (go_simp; exact i32_w _)
theorem lss_u16 (X Y : Int) : ((do eqGuard .lss t x y (.int .u16 X) (.int .u16 Y); Go.binOp .lss t (.int .u16 X) (.int .u16 Y) : Sem Value)).run P W = .ok (.bool (decide (X < Y))) W := by first | rfl | (go_simp; done) | (go_simp; rfl) | (go_simp; exact i64_w _) | (go_simp; exact i32_w _)
theorem leq_u16 (X Y : Int) : ((do eqGuard .leq t x y (.int .u16 X) (.int .u16 Y); Go.binOp .leq t (.int .u16 X) (.int .u16 Y) : Sem Value)).run P W = .ok (.bool (decide (X ≤ Y))) W := by first | rfl | (go_simp; done) | (go_simp; rfl) | (go_simp; exact i64_w _) | (go_simp; exact i32_w _)
theorem gtr_u16 (X Y : Int) : ((do eqGuard .gtr t x y (.int .u16 X) (.int .u16 Y); Go.binOp .gtr t (.int .u16 X) (.int .u16 Y) : Sem Value)).run P W = .ok (.bool (decide (X > Y))) W := by first | rfl | (go_simp; done) | (go_simp; rfl) | (go_simp; exact i64_w _) | (go_simp; exact i32_w _)
theorem geq_u16 (X Y : Int) : ((do eqGuard .geq t x y (.int .u16 X) (.int .u16 Y); Go.binOp .geq t (.int .u16 X) (.int .u16 Y) : Sem Value)).run P W = .ok (.bool (decide (X ≥ Y))) W := by first | rfl | (go_simp; done) | (go_simp; rfl) | (go_simp; exact i64_w _) | (go_simp; exact i32_w _)
theorem eql_u16 (X Y : Int) : ((do eqGuard .eql t x y (.int .u16 X) (.int .u16 Y); Go.binOp .eql t (.int .u16 X) (.int .u16 Y) : Sem Value)).run P W = .ok (.bool (decide (X = Y))) W := by first | rfl | (go_simp; done) | (go_simp; rfl) | (go_simp; exact i64_w _) | (go_simp; exact i32_w _)
theorem neq_u16 (X Y : Int) : ((do eqGuard .neq t x y (.int .u16 X) (.int .u16 Y); Go.binOp .neq t (.int .u16 X) (.int .u16 Y) : Sem Value)).run P W = .ok (.bool (!decide (X = Y))) W := by first | rfl | (go_simp; done) | (go_simp; rfl) | (go_simp; exact i64_w _) | (go_simp; exact i32_w _)
theorem quo_u16 (X Y : Int) (h : ¬ Y = 0) : ((do eqGuard .quo t x y (.int .u16 X) (.int .u16 Y); Go.binOp .quo t (.int .u16 X) (.int .u16 Y) : Sem Value)).run P W = .ok (.int .u16 (IntKind.u16.wrap (Int.tdiv X Y))) W := by
  have h' : (Y == 0) = false := by simpa using h
  first | (go_simp; done) | (go_simp; rfl) | (go_simp; exact i64_w _) | (go_simp; exact i32_w _)
theorem rem_u16 (X Y : Int) (h : ¬ Y = 0) : ((do eqGuard .rem t x y (.int .u16 X) (.int .u16 Y); Go.binOp .rem t (.int .u16 X) (.int .u16 Y) : Sem Value)).run P W = .ok (.int .u16 (Int.tmod X Y)) W := by
  have h' : (Y == 0) = false := by simpa using h
  first | (go_simp; done) | (go_simp; rfl)
theorem shr_u16_u64 (X Y : Int) (h0 : 0 ≤ Y) : ((do eqGuard .shr t x y (.int .u16 X) (.int .u64 Y); Go.binOp .shr t (.int .u16 X) (.int .u64 Y) : Sem Value)).run P W = .ok (.int .u16 (shr .u16 X Y)) W := by
  simp only [Sem.run_bind]; unfold shr; first | (go_simp; done) | (go_simp; rfl)
theorem shl_u16_u64 (X Y : Int) (h0 : 0 ≤ Y) : ((do eqGuard .shl t x y (.int .u16 X) (.int .u64 Y); Go.binOp .shl t (.int .u16 X) (.int .u64 Y) : Sem Value)).run P W = .ok (.int .u16 (shl .u16 X Y)) W := by
  simp only [Sem.run_bind]; unfold shl; first | (go_simp; done) | (go_simp; rfl)
theorem shr_u16_i64 (X Y : Int) (h0 : 0 ≤ Y) : ((do eqGuard .shr t x y (.int .u16 X) (.int .i64 Y); Go.binOp .shr t (.int .u16 X) (.int .i64 Y) : Sem Value)).run P W = .ok (.int .u16 (shr .u16 X Y)) W := by
  simp only [Sem.run_bind]; unfold shr; first | (go_simp; done) | (go_simp; rfl)
theorem shl_u16_i64 (X Y : Int) (h0 : 0 ≤ Y) : ((do eqGuard .shl t x y (.int .u16 X) (.int .i64 Y); Go.binOp .shl t (.int .u16 X) (.int .i64 Y) : Sem Value)).run P W = .ok (.int .u16 (shl .u16 X Y)) W := by
  simp only [Sem.run_bind]; unfold shl; first | (go_simp; done) | (go_simp; rfl)
theorem shr_u16_u32 (X Y : Int) (h0 : 0 ≤ Y) : ((do eqGuard .shr t x y (.int .u16 X) (.int .u32 Y); Go.binOp .shr t (.int .u16 X) (.int .u32 Y) : Sem Value)).run P W = .ok (.int .u16 (shr .u16 X Y)) W := by
  simp only [Sem.run_bind]; unfold shr; first | (go_simp; done) | (go_simp; rfl)
theorem shl_u16_u32 (X Y : Int) (h0 : 0 ≤ Y) : ((do eqGuard .shl t x y (.int .u16 X) (.int .u32 Y); Go.binOp .shl t (.int .u16 X) (.int .u32 Y) : Sem Value)).run P W = .ok (.int .u16 (shl .u16 X Y)) W := by
  simp only [Sem.run_bind]; unfold shl; first | (go_simp; done) | (go_simp; rfl)
theorem shr_u16_u8 (X Y : Int) (h0 : 0 ≤ Y) : ((do eqGuard .shr t x y (.int .u16 X) (.int .u8 Y); Go.binOp .shr t (.int .u16 X) (.int .u8 Y) : Sem Value)).run P W = .ok (.int .u16 (shr .u16 X Y)) W := by
  simp only [Sem.run_bind]; unfold shr; first | (go_simp; done) | (go_simp; rfl)
theorem shl_u16_u8 (X Y : Int) (h0 : 0 ≤ Y) : ((do eqGuard .shl t x y (.int .u16 X) (.int .u8 Y); Go.binOp .shl t (.int .u16 X) (.int .u8 Y) : Sem Value)).run P W = .ok (.int .u16 (shl .u16 X Y)) W := by
  simp only [Sem.run_bind]; unfold shl; first | (go_simp; done) | (go_simp; rfl)
theorem add_u8 (X Y : Int) : ((do eqGuard .add t x y (.int .u8 X) (.int .u8 Y); Go.binOp .add t (.int .u8 X) (.int .u8 Y) : Sem Value)).run P W = .ok (.int .u8 ((X + Y) % 256)) W := by first | rfl | (go_simp; done) | (go_simp; rfl) | (go_simp; exact i64_w _) | (go_simp; exact i32_w _)
theorem sub_u8 (X Y : Int) : ((do eqGuard .sub t x y (.int .u8 X) (.int .u8 Y); Go.binOp .sub t (.int .u8 X) (.int .u8 Y) : Sem Value)).run P W = .ok (.int .u8 ((X - Y) % 256)) W := by first | rfl | (go_simp; done) | (go_simp; rfl) | (go_simp; exact i64_w _) | (go_simp; exact i32_w _)
theorem mul_u8 (X Y : Int) : ((do eqGuard .mul t x y (.int .u8 X) (.int .u8 Y); Go.binOp .mul t (.int .u8 X) (.int .u8 Y) : Sem Value)).run P W = .ok (.int .u8 ((X * Y) % 256)) W := by first | rfl | (go_simp; done) | (go_simp; rfl) | (go_simp; exact i64_w _) | (go_simp; exact i32_w _)
theorem and_u8 (X Y : Int) : ((do eqGuard .and t x y (.int .u8 X) (.int .u8 Y); Go.binOp .and t (.int .u8 X) (.int .u8 Y) : Sem Value)).run P W = .ok (.int .u8 (Go.bits .and .u8 X Y)) W := by first | rfl | (go_simp; done) | (go_simp; rfl) | (go_simp; exact i64_w _) | (go_simp; exact i32_w _)
theorem or_u8 (X Y : Int) : ((do eqGuard .or t x y (.int .u8 X) (.int .u8 Y); Go.binOp .or t (.int .u8 X) (.int .u8 Y) : Sem Value)).run P W = .ok (.int .u8 (Go.bits .or .u8 X Y)) W := by first | rfl | (go_simp; done) | (go_simp; rfl) | (go_simp; exact i64_w _) | (go_simp; exact i32_w _)
theorem xor_u8 (X Y : Int) : ((do eqGuard .xor t x y (.int .u8 X) (.int .u8 Y); Go.binOp .xor t (.int .u8 X) (.int .u8 Y) : Sem Value)).run P W = .ok (.int .u8 (Go.bits .xor .u8 X Y)) W := by first | rfl | (go_simp; done) | (go_simp; rfl) | (go_simp; exact i64_w _) | (go_simp; exact i32_w _)
theorem andNot_u8 (X Y : Int) : ((do eqGuard .andNot t x y (.int .u8 X) (.int .u8 Y); Go.binOp .andNot t (.int .u8 X) (.int .u8 Y) : Sem Value)).run P W = .ok (.int .u8 (Go.bits .andNot .u8 X Y)) W := by first | rfl | (go_simp; done) | (go_simp; rfl) | (go_simp; exact i64_w _) | (go_simp; exact i32_w _)
theorem lss_u8 (X Y : Int) : ((do eqGuard .lss t x y (.int .u8 X) (.int .u8 Y); Go.binOp .lss t (.int .u8 X) (.int .u8 Y) : Sem Value)).run P W = .ok (.bool (decide (X < Y))) W := by first | rfl | (go_simp; done) | (go_simp; rfl) | (go_simp; exact i64_w _) | (go_simp; exact i32_w _)
theorem leq_u8 (X Y : Int) : ((do eqGuard .leq t x y (.int .u8 X) (.int .u8 Y); Go.binOp .leq t (.int .u8 X) (.int .u8 Y) : Sem Value)).run P W = .ok (.bool (decide (X ≤ Y))) W := by first | rfl | (go_simp; done) | (go_simp; rfl) | (go_simp; exact i64_w _) | (go_simp; exact i32_w _)
theorem gtr_u8 (X Y : Int) : ((do eqGuard .gtr t x y (.int .u8 X) (.int .u8 Y); Go.binOp .gtr t (.int .u8 X) (.int .u8 Y) : Sem Value)).run P W = .ok (.bool (decide (X > Y))) W := by first | rfl | (go_simp; done) | (go_simp; rfl) | (go_simp; exact i64_w _) | (go_simp; exact i32_w _)
theorem geq_u8 (X Y : Int) : ((do eqGuard .geq t x y (.int .u8 X) (.int .u8 Y); Go.binOp .geq t (.int .u8 X) (.int .u8 Y) : Sem Value)).run P W = .ok (.bool (decide (X ≥ Y))) W := by first | rfl | (go_simp; done) | (go_simp; rfl) | (go_simp; exact i64_w _) | (go_simp; exact i32_w _)
theorem eql_u8 (X Y : Int) : ((do eqGuard .eql t x y (.int .u8 X) (.int .u8 Y); Go.binOp .eql t (.int .u8 X) (.int .u8 Y) : Sem Value)).run P W = .ok (.bool (decide (X = Y))) W := by first | rfl | (go_simp; done) | (go_simp; rfl) | (go_simp; exact i64_w _) | (go_simp; exact i32_w _)
theorem neq_u8 (X Y : Int) : ((do eqGuard .neq t x y (.int .u8 X) (.int .u8 Y); Go.binOp .neq t (.int .u8 X) (.int .u8 Y) : Sem Value)).run P W = .ok (.bool (!decide (X = Y))) W := by first | rfl | (go_simp; done) | (go_simp; rfl) | (go_simp; exact i64_w _) | (go_simp; exact i32_w _)
theorem quo_u8 (X Y : Int) (h : ¬ Y = 0) : ((do eqGuard .quo t x y (.int .u8 X) (.int .u8 Y); Go.binOp .quo t (.int .u8 X) (.int .u8 Y) : Sem Value)).run P W = .ok (.int .u8 ((Int.tdiv X Y) % 256)) W := by
  have h' : (Y == 0) = false := by simpa using h
  first | (go_simp; done) | (go_simp; rfl) | (go_simp; exact i64_w _) | (go_simp; exact i32_w _)
theorem rem_u8 (X Y : Int) (h : ¬ Y = 0) : ((do eqGuard .rem t x y (.int .u8 X) (.int .u8 Y); Go.binOp .rem t (.int .u8 X) (.int .u8 Y) : Sem Value)).run P W = .ok (.int .u8 (Int.tmod X Y)) W := by
  have h' : (Y == 0) = false := by simpa using h
  first | (go_simp; done) | (go_simp; rfl)
theorem shr_u8_u64 (X Y : Int) (h0 : 0 ≤ Y) : ((do eqGuard .shr t x y (.int .u8 X) (.int .u64 Y); Go.binOp .shr t (.int .u8 X) (.int .u64 Y) : Sem Value)).run P W = .ok (.int .u8 (shr .u8 X Y)) W := by
  simp only [Sem.run_bind]; unfold shr; first | (go_simp; done) | (go_simp; rfl)
theorem shl_u8_u64 (X Y : Int) (h0 : 0 ≤ Y) : ((do eqGuard .shl t x y (.int .u8 X) (.int .u64 Y); Go.binOp .shl t (.int .u8 X) (.int .u64 Y) : Sem Value)).run P W = .ok (.int .u8 (shl .u8 X Y)) W := by
  simp only [Sem.run_bind]; unfold shl; first | (go_simp; done) | (go_simp; rfl)
theorem shr_u8_i64 (X Y : Int) (h0 : 0 ≤ Y) : ((do eqGuard .shr t x y (.int .u8 X) (.int .i64 Y); Go.binOp .shr t (.int .u8 X) (.int .i64 Y) : Sem Value)).run P W = .ok (.int .u8 (shr .u8 X Y)) W := by
  simp only [Sem.run_bind]; unfold shr; first | (go_simp; done) | (go_simp; rfl)
theorem shl_u8_i64 (X Y : Int) (h0 : 0 ≤ Y) : ((do eqGuard .shl t x y (.int .u8 X) (.int .i64 Y); Go.binOp .shl t (.int .u8 X) (.int .i64 Y) : Sem Value)).run P W = .ok (.int .u8 (shl .u8 X Y)) W := by
  simp only [Sem.run_bind]; unfold shl; first | (go_simp; done) | (go_simp; rfl)
theorem shr_u8_u32 (X Y : Int) (h0 : 0 ≤ Y) : ((do eqGuard .shr t x y (.int .u8 X) (.int .u32 Y); Go.binOp .shr t (.int .u8 X) (.int .u32 Y) : Sem Value)).run P W = .ok (.int .u8 (shr .u8 X Y)) W := by
  simp only [Sem.run_bind]; unfold shr; first | (go_simp; done) | (go_simp; rfl)
theorem shl_u8_u32 (X Y : Int) (h0 : 0 ≤ Y) : ((do eqGuard .shl t x y (.int .u8 X) (.int .u32 Y); Go.binOp .shl t (.int .u8 X) (.int .u32 Y) : Sem Value)).run P W = .ok (.int .u8 (shl .u8 X Y)) W := by
  simp only [Sem.run_bind]; unfold shl; first | (go_simp; done) | (go_simp; rfl)
theorem shr_u8_u8 (X Y : Int) (h0 : 0 ≤ Y) : ((do eqGuard .shr t x y (.int .u8 X) (.int .u8 Y); Go.binOp .shr t (.int .u8 X) (.int .u8 Y) : Sem Value)).run P W = .ok (.int .u8 (shr .u8 X Y)) W := by
  simp only [Sem.run_bind]; unfold shr; first | (go_simp; done) | (go_simp; rfl)
theorem shl_u8_u8 (X Y : Int) (h0 : 0 ≤ Y) : ((do eqGuard .shl t x y (.int .u8 X) (.int .u8 Y); Go.binOp .shl t (.int .u8 X) (.int .u8 Y) : Sem Value)).run P W = .ok (.int .u8 (shl .u8 X Y)) W := by
  simp only [Sem.run_bind]; unfold shl; first | (go_simp; done) | (go_simp; rfl)
theorem eql_bool (ht : P.underlying t = some .bool) (X Y : Bool) : ((do eqGuard .eql t x y (.bool X) (.bool Y); Go.binOp .eql t (.bool X) (.bool Y) : Sem Value)).run P W = .ok (.bool (decide (X = Y))) W := by
  have h : ∀ d : Nat, (Op.equalIn (d + 1) t (.bool X) (.bool Y)).run P W = .ok (X == Y) W := fun d => by simp [Op.equalIn, run_underlying ht]
  simp [binOp, Op.equal, Op.maxDepth, h 9999, eqGuard]
  cases X <;> cases Y <;> rfl
theorem neq_bool (ht : P.underlying t = some .bool) (X Y : Bool) : ((do eqGuard .neq t x y (.bool X) (.bool Y); Go.binOp .neq t (.bool X) (.bool Y) : Sem Value)).run P W = .ok (.bool (!decide (X = Y))) W := by
  have h : ∀ d : Nat, (Op.equalIn (d + 1) t (.bool X) (.bool Y)).run P W = .ok (X == Y) W := fun d => by simp [Op.equalIn, run_underlying ht]
  simp [binOp, Op.equal, Op.maxDepth, h 9999, eqGuard]
  cases X <;> cases Y <;> rfl
theorem toList_eq (X Y : ByteArray) : (X.toList == Y.toList) = decide (X = Y) := by
  rw [Bool.eq_iff_iff]
  simp only [beq_iff_eq, decide_eq_true_eq]
  constructor
  · intro h
    rw [Lib.toList_data, Lib.toList_data] at h
    cases X with
    | mk a =>
      cases Y with
      | mk b =>
        cases a; cases b
        simp at h
        rw [h]
  · rintro rfl; rfl
theorem eql_str (X Y : ByteArray) : ((do eqGuard .eql t x y (.string X) (.string Y); Go.binOp .eql t (.string X) (.string Y) : Sem Value)).run P W = .ok (.bool (decide (X = Y))) W := by
  simp only [Sem.run_bind]; go_simp; exact toList_eq X Y
theorem neq_str (X Y : ByteArray) : ((do eqGuard .neq t x y (.string X) (.string Y); Go.binOp .neq t (.string X) (.string Y) : Sem Value)).run P W = .ok (.bool (!decide (X = Y))) W := by
  simp only [Sem.run_bind]; go_simp; rw [← toList_eq X Y]; try rfl
theorem add_str (X Y : ByteArray) (h : X.size + Y.size ≤ 9223372036854775807) : ((do eqGuard .add t x y (.string X) (.string Y); Go.binOp .add t (.string X) (.string Y) : Sem Value)).run P W = .ok (.string (X ++ Y)) W := by
  simp only [Sem.run_bind]; first | (go_simp; done) | (go_simp; rfl)
theorem eql_nn (ht : ∃ e, P.underlying t = some (.pointer e)) (a : Addr) : ((do eqGuard .eql t x y (.pointer none) (.pointer none); Go.binOp .eql t (.pointer none) (.pointer none) : Sem Value)).run P W = .ok (.bool true) W := by
  obtain ⟨e, ht⟩ := ht
  have h : ∀ d : Nat, (Op.equalIn (d + 1) t (.pointer none) (.pointer none)).run P W = .ok true W := fun d => by simp [Op.equalIn, run_underlying ht]
  simp [binOp, Op.equal, Op.maxDepth, h 9999, eqGuard]
theorem eql_pn (ht : ∃ e, P.underlying t = some (.pointer e)) (a : Addr) : ((do eqGuard .eql t x y (.pointer (some a)) (.pointer none); Go.binOp .eql t (.pointer (some a)) (.pointer none) : Sem Value)).run P W = .ok (.bool false) W := by
  obtain ⟨e, ht⟩ := ht
  have h : ∀ d : Nat, (Op.equalIn (d + 1) t (.pointer (some a)) (.pointer none)).run P W = .ok false W := fun d => by simp [Op.equalIn, run_underlying ht]
  simp [binOp, Op.equal, Op.maxDepth, h 9999, eqGuard]
theorem neq_nn (ht : ∃ e, P.underlying t = some (.pointer e)) (a : Addr) : ((do eqGuard .neq t x y (.pointer none) (.pointer none); Go.binOp .neq t (.pointer none) (.pointer none) : Sem Value)).run P W = .ok (.bool false) W := by
  obtain ⟨e, ht⟩ := ht
  have h : ∀ d : Nat, (Op.equalIn (d + 1) t (.pointer none) (.pointer none)).run P W = .ok true W := fun d => by simp [Op.equalIn, run_underlying ht]
  simp [binOp, Op.equal, Op.maxDepth, h 9999, eqGuard]
theorem neq_pn (ht : ∃ e, P.underlying t = some (.pointer e)) (a : Addr) : ((do eqGuard .neq t x y (.pointer (some a)) (.pointer none); Go.binOp .neq t (.pointer (some a)) (.pointer none) : Sem Value)).run P W = .ok (.bool true) W := by
  obtain ⟨e, ht⟩ := ht
  have h : ∀ d : Nat, (Op.equalIn (d + 1) t (.pointer (some a)) (.pointer none)).run P W = .ok false W := fun d => by simp [Op.equalIn, run_underlying ht]
  simp [binOp, Op.equal, Op.maxDepth, h 9999, eqGuard]
theorem eql_slnil {A : Option Addr} {n c : Nat} (ht : ∃ e, P.underlying t = some (.slice e)) : ((do eqGuard .eql t x y (.slice A n c) (.slice none 0 0); Go.binOp .eql t (.slice A n c) (.slice none 0 0) : Sem Value)).run P W = .ok (.bool (A.isNone)) W := by
  obtain ⟨e, ht⟩ := ht
  have h : ∀ d : Nat, (Op.equalIn (d + 1) t (.slice A n c) (.slice none 0 0)).run P W = .ok A.isNone W := fun d => by cases A <;> simp [Op.equalIn, run_underlying ht]
  simp [binOp, Op.equal, Op.maxDepth, h 9999, eqGuard]
theorem neq_slnil {A : Option Addr} {n c : Nat} (ht : ∃ e, P.underlying t = some (.slice e)) : ((do eqGuard .neq t x y (.slice A n c) (.slice none 0 0); Go.binOp .neq t (.slice A n c) (.slice none 0 0) : Sem Value)).run P W = .ok (.bool (!A.isNone)) W := by
  obtain ⟨e, ht⟩ := ht
  have h : ∀ d : Nat, (Op.equalIn (d + 1) t (.slice A n c) (.slice none 0 0)).run P W = .ok A.isNone W := fun d => by cases A <;> simp [Op.equalIn, run_underlying ht]
  simp [binOp, Op.equal, Op.maxDepth, h 9999, eqGuard]
end
end B
end Go.Proofs.YtdkbmchbkkhpoaaW.PrintWords
