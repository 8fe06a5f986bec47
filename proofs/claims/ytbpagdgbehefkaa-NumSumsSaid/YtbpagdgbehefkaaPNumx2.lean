-- By xprint.py, a program of this work, over the kit's printer. Lean checks it.
import Derived.Test.YtbpagdgbehefkaaPNumx0
import Derived.Test.YtbpagdgbehefkaaPNumx1
namespace Go.Proofs.Ytbpagdgbehefkaa.PNum
open Go.RowKit Go.Proofs.YtbpagdgbehefkaaW.PrintWords Go.Proofs.YtbpagdgbehefkaaW.PrintLast Go.Proofs.YtbpagdgbehefkaaW.PrintMore
attribute [local go_sem] x_isSome max2_int min2_int max_two min_two max_three min_three max_four min_four   -- for this text's walks alone
set_option linter.unusedVariables false
set_option linter.unusedSimpArgs false

/-! ### blazonref01_Mul: function 31 -/
def blazonref01_Mul.j0 : Nat → Int → Int → Bool → Option (Int × Bool)
  | 0, _, _, _ => none
  | k + 1, x0, x1, x11 => if x11 = true then (some (0, true)) else (if x0 > 0 then (if x1 > 0 then (if x1 = 0 then (none) else (if x0 > (wrap64 (Int.tdiv 9223372036854775807 x1)) then (some (0, false)) else (if x1 < 0 then (if x0 = 0 then (none) else (if x1 < (wrap64 (-(Int.tdiv 9223372036854775808 x0))) then (some (0, false)) else (if x0 < 0 then (if x0 < (wrap64 (-(Int.tdiv 9223372036854775808 x1))) then (some (0, false)) else (if x0 < (wrap64 (Int.tdiv 9223372036854775807 x1)) then (some (0, false)) else (some (wrap64 (x0 * x1), true)))) else (some (wrap64 (x0 * x1), true))))) else (if x0 < 0 then (if x0 < (wrap64 (-(Int.tdiv 9223372036854775808 x1))) then (some (0, false)) else (some (wrap64 (x0 * x1), true))) else (some (wrap64 (x0 * x1), true)))))) else (if x1 < 0 then (if x0 = 0 then (none) else (if x1 < (wrap64 (-(Int.tdiv 9223372036854775808 x0))) then (some (0, false)) else (if x0 < 0 then (if x1 = 0 then (none) else (if x0 < (wrap64 (Int.tdiv 9223372036854775807 x1)) then (some (0, false)) else (some (wrap64 (x0 * x1), true)))) else (some (wrap64 (x0 * x1), true))))) else (if x0 < 0 then (some (wrap64 (x0 * x1), true)) else (some (wrap64 (x0 * x1), true))))) else (if x0 < 0 then (if x1 > 0 then (if x1 = 0 then (none) else (if x0 < (wrap64 (-(Int.tdiv 9223372036854775808 x1))) then (some (0, false)) else (if x1 < 0 then (if x0 < (wrap64 (Int.tdiv 9223372036854775807 x1)) then (some (0, false)) else (some (wrap64 (x0 * x1), true))) else (some (wrap64 (x0 * x1), true))))) else (if x1 < 0 then (if x1 = 0 then (none) else (if x0 < (wrap64 (Int.tdiv 9223372036854775807 x1)) then (some (0, false)) else (some (wrap64 (x0 * x1), true)))) else (some (wrap64 (x0 * x1), true)))) else (some (wrap64 (x0 * x1), true))))
def blazonref01_Mul.f (k : Nat) (a0 : Int) (a1 : Int) : Option (Int × Bool) := if a0 = 0 then (blazonref01_Mul.j0 k a0 a1 true) else (blazonref01_Mul.j0 k a0 a1 (a1 == 0))
theorem blazonref01_Mul.mono_l : ∀ k, (∀ y0 y1 y2, LeO (blazonref01_Mul.j0 k y0 y1 y2) (blazonref01_Mul.j0 (k + 1) y0 y1 y2))
  | 0 => fun _ _ _ r h => by simp [blazonref01_Mul.j0] at h
  | k + 1 => by
    have ih0 := blazonref01_Mul.mono_l k
    · intro y0 y1 y2
      unfold blazonref01_Mul.j0
      repeat' first
      | (with_reducible exact ih0 _ _ _)
      | (with_reducible exact LeO.refl _)
      | (with_reducible exact LeO.none _)
      | (with_reducible refine LeO.ite ?_ ?_)
      | (with_reducible refine LeO.bind ?_ (fun _ => ?_))
      | exact ih0 _ _ _
      | exact LeO.none _
      | refine LeO.ite ?_ ?_
      | refine LeO.bind ?_ (fun _ => ?_)
theorem blazonref01_Mul.mono : ∀ a0 a1 k, LeO (blazonref01_Mul.f k a0 a1) (blazonref01_Mul.f (k + 1) a0 a1) := by
  intro a0 a1 k
  have ih0 := blazonref01_Mul.mono_l k
  unfold blazonref01_Mul.f
  repeat' first
      | (with_reducible exact ih0 _ _ _)
      | (with_reducible exact LeO.refl _)
      | (with_reducible exact LeO.none _)
      | (with_reducible refine LeO.ite ?_ ?_)
      | (with_reducible refine LeO.bind ?_ (fun _ => ?_))
      | exact ih0 _ _ _
      | exact LeO.none _
      | refine LeO.ite ?_ ?_
      | refine LeO.bind ?_ (fun _ => ?_)
set_option maxHeartbeats 8000000 in
set_option maxRecDepth 100000 in
theorem blazonref01_Mul.calls (k : Nat) (a0 : Int) (a1 : Int) (r1 : Int) (r2 : Bool) (w : World) (h : blazonref01_Mul.f k a0 a1 = some (r1, r2)) :
    Calls Try.prog 31 #[.int .i64 a0, .int .i64 a1] w fun e w' => e = .returned (.tuple #[.int .i64 r1, .bool r2]) ∧ Drawn0 w w' := by
  have H : (if a0 = 0 then (blazonref01_Mul.j0 k a0 a1 true) else (blazonref01_Mul.j0 k a0 a1 (a1 == 0))) = some (r1, r2) := h
  clear h
  have HC3 := Aside0.mk H
  clear H
  go_enter Try.func31, Try.ntmps31
  go_upto_region 1 with (fail)
  go_cut [11] (fun v11 wc => ∃ (kq : Nat) (x11_2 : Bool), v11 = .bool x11_2 ∧ Aside0 (blazonref01_Mul.j0 kq a0 a1 x11_2 = some (r1, r2)) ∧ Aside0 (kq ≤ k) ∧ Drawn0 w wc)
  case first =>
    have H := HC3.out
    clear HC3
    by_cases c4 : a0 = 0
    · rw [if_pos c4] at H
      have c4b0 : (a0 == 0) = true := beq_iff_eq.mpr c4
      have c4b1 : (a0 != 0) = false := bne_eq_false_iff_eq.mpr c4
      clear c4
      (first | rw [c4b0] | (simp only [i64_w, i32_w]; rw [c4b0]) | skip)
      have H' := Aside0.mk H
      clear H
      go_wp2
      go_meet
      case rel => exact ⟨_, (true), (by first | rfl | (simp; done) | (simp [*]; done)), H', ⟨by first | omega | exact Nat.le_refl _⟩, by repeat (first | exact Drawn0.refl _ | apply Drawn0.step)⟩
    · rw [if_neg c4] at H
      have c4b0 : (a0 == 0) = false := beq_eq_false_iff_ne.mpr c4
      have c4b1 : (a0 != 0) = true := bne_iff_ne.mpr c4
      (first | rw [c4b0] | (simp only [i64_w, i32_w]; rw [c4b0]) | skip)
      have H' := Aside0.mk H
      clear H
      go_wp2
      go_meet
      case rel => exact ⟨_, ((a1 == 0)), (by first | rfl | (simp; done) | (simp [*]; done)), H', ⟨by first | omega | exact Nat.le_refl _⟩, by repeat (first | exact Drawn0.refl _ | apply Drawn0.step)⟩
  case rest =>
    clear HC3
    try clear p2
    try clear c3
    try clear c4
    try clear c4b0
    try clear c4b1
    obtain ⟨kq, x11_2, rfl, HA, HJ2, ⟨mc2, rfl⟩⟩ := hcut
    cases kq with
    | zero => exact absurd HA.out (by simp [blazonref01_Mul.j0])
    | succ kj2 =>
      have H := HA.out
      clear HA
      simp only [blazonref01_Mul.j0] at H
      by_cases c5 : x11_2 = true
      · subst c5
        have H1 : (some (0, true)) = some (r1, r2) := by rw [if_pos rfl] at H; exact H
        clear H
        have H := H1
        clear H1
        simp only [Option.some.injEq, Prod.mk.injEq] at H
        obtain ⟨rfl, rfl⟩ := H
        go_wp2
        go_ret2
        exact ⟨by first | rfl | (simp; done) | (simp [*]; done), by repeat (first | exact Drawn0.refl _ | apply Drawn0.step)⟩
      · replace c5 := Bool.eq_false_iff.mpr c5
        subst c5
        have H1 : (if a0 > 0 then (if a1 > 0 then (if a1 = 0 then (none) else (if a0 > (wrap64 (Int.tdiv 9223372036854775807 a1)) then (some (0, false)) else (if a1 < 0 then (if a0 = 0 then (none) else (if a1 < (wrap64 (-(Int.tdiv 9223372036854775808 a0))) then (some (0, false)) else (if a0 < 0 then (if a0 < (wrap64 (-(Int.tdiv 9223372036854775808 a1))) then (some (0, false)) else (if a0 < (wrap64 (Int.tdiv 9223372036854775807 a1)) then (some (0, false)) else (some (wrap64 (a0 * a1), true)))) else (some (wrap64 (a0 * a1), true))))) else (if a0 < 0 then (if a0 < (wrap64 (-(Int.tdiv 9223372036854775808 a1))) then (some (0, false)) else (some (wrap64 (a0 * a1), true))) else (some (wrap64 (a0 * a1), true)))))) else (if a1 < 0 then (if a0 = 0 then (none) else (if a1 < (wrap64 (-(Int.tdiv 9223372036854775808 a0))) then (some (0, false)) else (if a0 < 0 then (if a1 = 0 then (none) else (if a0 < (wrap64 (Int.tdiv 9223372036854775807 a1)) then (some (0, false)) else (some (wrap64 (a0 * a1), true)))) else (some (wrap64 (a0 * a1), true))))) else (if a0 < 0 then (some (wrap64 (a0 * a1), true)) else (some (wrap64 (a0 * a1), true))))) else (if a0 < 0 then (if a1 > 0 then (if a1 = 0 then (none) else (if a0 < (wrap64 (-(Int.tdiv 9223372036854775808 a1))) then (some (0, false)) else (if a1 < 0 then (if a0 < (wrap64 (Int.tdiv 9223372036854775807 a1)) then (some (0, false)) else (some (wrap64 (a0 * a1), true))) else (some (wrap64 (a0 * a1), true))))) else (if a1 < 0 then (if a1 = 0 then (none) else (if a0 < (wrap64 (Int.tdiv 9223372036854775807 a1)) then (some (0, false)) else (some (wrap64 (a0 * a1), true)))) else (some (wrap64 (a0 * a1), true)))) else (some (wrap64 (a0 * a1), true)))) = some (r1, r2) := by rw [if_neg (show ¬ (false = true) by decide)] at H; exact H
        clear H
        have H := H1
        clear H1
        by_cases c6 : a0 > 0
        · rw [if_pos c6] at H
          have c6b0 : decide (0 < a0) = true := decide_eq_true c6
          clear c6
          by_cases c7 : a1 > 0
          · rw [if_pos c7] at H
            have c7b0 : decide (0 < a1) = true := decide_eq_true c7
            clear c7
            by_cases c8 : a1 = 0
            · rw [if_pos c8] at H
              exact absurd H (by simp)
            · rw [if_neg c8] at H
              have c8b0 : (a1 == 0) = false := beq_eq_false_iff_ne.mpr c8
              have c8b1 : (a1 != 0) = true := bne_iff_ne.mpr c8
              by_cases c9 : a0 > (wrap64 (Int.tdiv 9223372036854775807 a1))
              · rw [if_pos c9] at H
                have c9b0 : decide ((wrap64 (Int.tdiv 9223372036854775807 a1)) < a0) = true := decide_eq_true c9
                clear c9
                simp only [Option.some.injEq, Prod.mk.injEq] at H
                obtain ⟨rfl, rfl⟩ := H
                go_wp2
                go_ret2
                exact ⟨by first | rfl | (simp; done) | (simp [*]; done), by repeat (first | exact Drawn0.refl _ | apply Drawn0.step)⟩
              · rw [if_neg c9] at H
                have c9b0 : decide ((wrap64 (Int.tdiv 9223372036854775807 a1)) < a0) = false := decide_eq_false c9
                clear c9
                by_cases c10 : a1 < 0
                · rw [if_pos c10] at H
                  have c10b0 : decide (a1 < 0) = true := decide_eq_true c10
                  clear c10
                  by_cases c11 : a0 = 0
                  · rw [if_pos c11] at H
                    exact absurd H (by simp)
                  · rw [if_neg c11] at H
                    have c11b0 : (a0 == 0) = false := beq_eq_false_iff_ne.mpr c11
                    have c11b1 : (a0 != 0) = true := bne_iff_ne.mpr c11
                    by_cases c12 : a1 < (wrap64 (-(Int.tdiv 9223372036854775808 a0)))
                    · rw [if_pos c12] at H
                      have c12b0 : decide (a1 < (wrap64 (-(Int.tdiv 9223372036854775808 a0)))) = true := decide_eq_true c12
                      clear c12
                      simp only [Option.some.injEq, Prod.mk.injEq] at H
                      obtain ⟨rfl, rfl⟩ := H
                      go_wp2
                      go_ret2
                      exact ⟨by first | rfl | (simp; done) | (simp [*]; done), by repeat (first | exact Drawn0.refl _ | apply Drawn0.step)⟩
                    · rw [if_neg c12] at H
                      have c12b0 : decide (a1 < (wrap64 (-(Int.tdiv 9223372036854775808 a0)))) = false := decide_eq_false c12
                      clear c12
                      by_cases c13 : a0 < 0
                      · rw [if_pos c13] at H
                        have c13b0 : decide (a0 < 0) = true := decide_eq_true c13
                        clear c13
                        by_cases c14 : a0 < (wrap64 (-(Int.tdiv 9223372036854775808 a1)))
                        · rw [if_pos c14] at H
                          have c14b0 : decide (a0 < (wrap64 (-(Int.tdiv 9223372036854775808 a1)))) = true := decide_eq_true c14
                          clear c14
                          simp only [Option.some.injEq, Prod.mk.injEq] at H
                          obtain ⟨rfl, rfl⟩ := H
                          go_wp2
                          go_ret2
                          exact ⟨by first | rfl | (simp; done) | (simp [*]; done), by repeat (first | exact Drawn0.refl _ | apply Drawn0.step)⟩
                        · rw [if_neg c14] at H
                          have c14b0 : decide (a0 < (wrap64 (-(Int.tdiv 9223372036854775808 a1)))) = false := decide_eq_false c14
                          clear c14
                          by_cases c15 : a0 < (wrap64 (Int.tdiv 9223372036854775807 a1))
                          · rw [if_pos c15] at H
                            have c15b0 : decide (a0 < (wrap64 (Int.tdiv 9223372036854775807 a1))) = true := decide_eq_true c15
                            clear c15
                            simp only [Option.some.injEq, Prod.mk.injEq] at H
                            obtain ⟨rfl, rfl⟩ := H
                            go_wp2
                            go_ret2
                            exact ⟨by first | rfl | (simp; done) | (simp [*]; done), by repeat (first | exact Drawn0.refl _ | apply Drawn0.step)⟩
                          · rw [if_neg c15] at H
                            have c15b0 : decide (a0 < (wrap64 (Int.tdiv 9223372036854775807 a1))) = false := decide_eq_false c15
                            clear c15
                            simp only [Option.some.injEq, Prod.mk.injEq] at H
                            obtain ⟨rfl, rfl⟩ := H
                            go_wp2
                            go_ret2
                            exact ⟨by first | rfl | (simp; done) | (simp [*]; done), by repeat (first | exact Drawn0.refl _ | apply Drawn0.step)⟩
                      · rw [if_neg c13] at H
                        have c13b0 : decide (a0 < 0) = false := decide_eq_false c13
                        clear c13
                        simp only [Option.some.injEq, Prod.mk.injEq] at H
                        obtain ⟨rfl, rfl⟩ := H
                        go_wp2
                        go_ret2
                        exact ⟨by first | rfl | (simp; done) | (simp [*]; done), by repeat (first | exact Drawn0.refl _ | apply Drawn0.step)⟩
                · rw [if_neg c10] at H
                  have c10b0 : decide (a1 < 0) = false := decide_eq_false c10
                  clear c10
                  by_cases c16 : a0 < 0
                  · rw [if_pos c16] at H
                    have c16b0 : decide (a0 < 0) = true := decide_eq_true c16
                    clear c16
                    by_cases c17 : a0 < (wrap64 (-(Int.tdiv 9223372036854775808 a1)))
                    · rw [if_pos c17] at H
                      have c17b0 : decide (a0 < (wrap64 (-(Int.tdiv 9223372036854775808 a1)))) = true := decide_eq_true c17
                      clear c17
                      simp only [Option.some.injEq, Prod.mk.injEq] at H
                      obtain ⟨rfl, rfl⟩ := H
                      go_wp2
                      go_ret2
                      exact ⟨by first | rfl | (simp; done) | (simp [*]; done), by repeat (first | exact Drawn0.refl _ | apply Drawn0.step)⟩
                    · rw [if_neg c17] at H
                      have c17b0 : decide (a0 < (wrap64 (-(Int.tdiv 9223372036854775808 a1)))) = false := decide_eq_false c17
                      clear c17
                      simp only [Option.some.injEq, Prod.mk.injEq] at H
                      obtain ⟨rfl, rfl⟩ := H
                      go_wp2
                      go_ret2
                      exact ⟨by first | rfl | (simp; done) | (simp [*]; done), by repeat (first | exact Drawn0.refl _ | apply Drawn0.step)⟩
                  · rw [if_neg c16] at H
                    have c16b0 : decide (a0 < 0) = false := decide_eq_false c16
                    clear c16
                    simp only [Option.some.injEq, Prod.mk.injEq] at H
                    obtain ⟨rfl, rfl⟩ := H
                    go_wp2
                    go_ret2
                    exact ⟨by first | rfl | (simp; done) | (simp [*]; done), by repeat (first | exact Drawn0.refl _ | apply Drawn0.step)⟩
          · rw [if_neg c7] at H
            have c7b0 : decide (0 < a1) = false := decide_eq_false c7
            clear c7
            by_cases c18 : a1 < 0
            · rw [if_pos c18] at H
              have c18b0 : decide (a1 < 0) = true := decide_eq_true c18
              clear c18
              by_cases c19 : a0 = 0
              · rw [if_pos c19] at H
                exact absurd H (by simp)
              · rw [if_neg c19] at H
                have c19b0 : (a0 == 0) = false := beq_eq_false_iff_ne.mpr c19
                have c19b1 : (a0 != 0) = true := bne_iff_ne.mpr c19
                by_cases c20 : a1 < (wrap64 (-(Int.tdiv 9223372036854775808 a0)))
                · rw [if_pos c20] at H
                  have c20b0 : decide (a1 < (wrap64 (-(Int.tdiv 9223372036854775808 a0)))) = true := decide_eq_true c20
                  clear c20
                  simp only [Option.some.injEq, Prod.mk.injEq] at H
                  obtain ⟨rfl, rfl⟩ := H
                  go_wp2
                  go_ret2
                  exact ⟨by first | rfl | (simp; done) | (simp [*]; done), by repeat (first | exact Drawn0.refl _ | apply Drawn0.step)⟩
                · rw [if_neg c20] at H
                  have c20b0 : decide (a1 < (wrap64 (-(Int.tdiv 9223372036854775808 a0)))) = false := decide_eq_false c20
                  clear c20
                  by_cases c21 : a0 < 0
                  · rw [if_pos c21] at H
                    have c21b0 : decide (a0 < 0) = true := decide_eq_true c21
                    clear c21
                    by_cases c22 : a1 = 0
                    · rw [if_pos c22] at H
                      exact absurd H (by simp)
                    · rw [if_neg c22] at H
                      have c22b0 : (a1 == 0) = false := beq_eq_false_iff_ne.mpr c22
                      have c22b1 : (a1 != 0) = true := bne_iff_ne.mpr c22
                      by_cases c23 : a0 < (wrap64 (Int.tdiv 9223372036854775807 a1))
                      · rw [if_pos c23] at H
                        have c23b0 : decide (a0 < (wrap64 (Int.tdiv 9223372036854775807 a1))) = true := decide_eq_true c23
                        clear c23
                        simp only [Option.some.injEq, Prod.mk.injEq] at H
                        obtain ⟨rfl, rfl⟩ := H
                        go_wp2
                        go_ret2
                        exact ⟨by first | rfl | (simp; done) | (simp [*]; done), by repeat (first | exact Drawn0.refl _ | apply Drawn0.step)⟩
                      · rw [if_neg c23] at H
                        have c23b0 : decide (a0 < (wrap64 (Int.tdiv 9223372036854775807 a1))) = false := decide_eq_false c23
                        clear c23
                        simp only [Option.some.injEq, Prod.mk.injEq] at H
                        obtain ⟨rfl, rfl⟩ := H
                        go_wp2
                        go_ret2
                        exact ⟨by first | rfl | (simp; done) | (simp [*]; done), by repeat (first | exact Drawn0.refl _ | apply Drawn0.step)⟩
                  · rw [if_neg c21] at H
                    have c21b0 : decide (a0 < 0) = false := decide_eq_false c21
                    clear c21
                    simp only [Option.some.injEq, Prod.mk.injEq] at H
                    obtain ⟨rfl, rfl⟩ := H
                    go_wp2
                    go_ret2
                    exact ⟨by first | rfl | (simp; done) | (simp [*]; done), by repeat (first | exact Drawn0.refl _ | apply Drawn0.step)⟩
            · rw [if_neg c18] at H
              have c18b0 : decide (a1 < 0) = false := decide_eq_false c18
              clear c18
              by_cases c24 : a0 < 0
              · rw [if_pos c24] at H
                have c24b0 : decide (a0 < 0) = true := decide_eq_true c24
                clear c24
                simp only [Option.some.injEq, Prod.mk.injEq] at H
                obtain ⟨rfl, rfl⟩ := H
                go_wp2
                go_ret2
                exact ⟨by first | rfl | (simp; done) | (simp [*]; done), by repeat (first | exact Drawn0.refl _ | apply Drawn0.step)⟩
              · rw [if_neg c24] at H
                have c24b0 : decide (a0 < 0) = false := decide_eq_false c24
                clear c24
                simp only [Option.some.injEq, Prod.mk.injEq] at H
                obtain ⟨rfl, rfl⟩ := H
                go_wp2
                go_ret2
                exact ⟨by first | rfl | (simp; done) | (simp [*]; done), by repeat (first | exact Drawn0.refl _ | apply Drawn0.step)⟩
        · rw [if_neg c6] at H
          have c6b0 : decide (0 < a0) = false := decide_eq_false c6
          clear c6
          by_cases c25 : a0 < 0
          · rw [if_pos c25] at H
            have c25b0 : decide (a0 < 0) = true := decide_eq_true c25
            clear c25
            by_cases c26 : a1 > 0
            · rw [if_pos c26] at H
              have c26b0 : decide (0 < a1) = true := decide_eq_true c26
              clear c26
              by_cases c27 : a1 = 0
              · rw [if_pos c27] at H
                exact absurd H (by simp)
              · rw [if_neg c27] at H
                have c27b0 : (a1 == 0) = false := beq_eq_false_iff_ne.mpr c27
                have c27b1 : (a1 != 0) = true := bne_iff_ne.mpr c27
                by_cases c28 : a0 < (wrap64 (-(Int.tdiv 9223372036854775808 a1)))
                · rw [if_pos c28] at H
                  have c28b0 : decide (a0 < (wrap64 (-(Int.tdiv 9223372036854775808 a1)))) = true := decide_eq_true c28
                  clear c28
                  simp only [Option.some.injEq, Prod.mk.injEq] at H
                  obtain ⟨rfl, rfl⟩ := H
                  go_wp2
                  go_ret2
                  exact ⟨by first | rfl | (simp; done) | (simp [*]; done), by repeat (first | exact Drawn0.refl _ | apply Drawn0.step)⟩
                · rw [if_neg c28] at H
                  have c28b0 : decide (a0 < (wrap64 (-(Int.tdiv 9223372036854775808 a1)))) = false := decide_eq_false c28
                  clear c28
                  by_cases c29 : a1 < 0
                  · rw [if_pos c29] at H
                    have c29b0 : decide (a1 < 0) = true := decide_eq_true c29
                    clear c29
                    by_cases c30 : a0 < (wrap64 (Int.tdiv 9223372036854775807 a1))
                    · rw [if_pos c30] at H
                      have c30b0 : decide (a0 < (wrap64 (Int.tdiv 9223372036854775807 a1))) = true := decide_eq_true c30
                      clear c30
                      simp only [Option.some.injEq, Prod.mk.injEq] at H
                      obtain ⟨rfl, rfl⟩ := H
                      go_wp2
                      go_ret2
                      exact ⟨by first | rfl | (simp; done) | (simp [*]; done), by repeat (first | exact Drawn0.refl _ | apply Drawn0.step)⟩
                    · rw [if_neg c30] at H
                      have c30b0 : decide (a0 < (wrap64 (Int.tdiv 9223372036854775807 a1))) = false := decide_eq_false c30
                      clear c30
                      simp only [Option.some.injEq, Prod.mk.injEq] at H
                      obtain ⟨rfl, rfl⟩ := H
                      go_wp2
                      go_ret2
                      exact ⟨by first | rfl | (simp; done) | (simp [*]; done), by repeat (first | exact Drawn0.refl _ | apply Drawn0.step)⟩
                  · rw [if_neg c29] at H
                    have c29b0 : decide (a1 < 0) = false := decide_eq_false c29
                    clear c29
                    simp only [Option.some.injEq, Prod.mk.injEq] at H
                    obtain ⟨rfl, rfl⟩ := H
                    go_wp2
                    go_ret2
                    exact ⟨by first | rfl | (simp; done) | (simp [*]; done), by repeat (first | exact Drawn0.refl _ | apply Drawn0.step)⟩
            · rw [if_neg c26] at H
              have c26b0 : decide (0 < a1) = false := decide_eq_false c26
              clear c26
              by_cases c31 : a1 < 0
              · rw [if_pos c31] at H
                have c31b0 : decide (a1 < 0) = true := decide_eq_true c31
                clear c31
                by_cases c32 : a1 = 0
                · rw [if_pos c32] at H
                  exact absurd H (by simp)
                · rw [if_neg c32] at H
                  have c32b0 : (a1 == 0) = false := beq_eq_false_iff_ne.mpr c32
                  have c32b1 : (a1 != 0) = true := bne_iff_ne.mpr c32
                  by_cases c33 : a0 < (wrap64 (Int.tdiv 9223372036854775807 a1))
                  · rw [if_pos c33] at H
                    have c33b0 : decide (a0 < (wrap64 (Int.tdiv 9223372036854775807 a1))) = true := decide_eq_true c33
                    clear c33
                    simp only [Option.some.injEq, Prod.mk.injEq] at H
                    obtain ⟨rfl, rfl⟩ := H
                    go_wp2
                    go_ret2
                    exact ⟨by first | rfl | (simp; done) | (simp [*]; done), by repeat (first | exact Drawn0.refl _ | apply Drawn0.step)⟩
                  · rw [if_neg c33] at H
                    have c33b0 : decide (a0 < (wrap64 (Int.tdiv 9223372036854775807 a1))) = false := decide_eq_false c33
                    clear c33
                    simp only [Option.some.injEq, Prod.mk.injEq] at H
                    obtain ⟨rfl, rfl⟩ := H
                    go_wp2
                    go_ret2
                    exact ⟨by first | rfl | (simp; done) | (simp [*]; done), by repeat (first | exact Drawn0.refl _ | apply Drawn0.step)⟩
              · rw [if_neg c31] at H
                have c31b0 : decide (a1 < 0) = false := decide_eq_false c31
                clear c31
                simp only [Option.some.injEq, Prod.mk.injEq] at H
                obtain ⟨rfl, rfl⟩ := H
                go_wp2
                go_ret2
                exact ⟨by first | rfl | (simp; done) | (simp [*]; done), by repeat (first | exact Drawn0.refl _ | apply Drawn0.step)⟩
          · rw [if_neg c25] at H
            have c25b0 : decide (a0 < 0) = false := decide_eq_false c25
            clear c25
            simp only [Option.some.injEq, Prod.mk.injEq] at H
            obtain ⟨rfl, rfl⟩ := H
            go_wp2
            go_ret2
            exact ⟨by first | rfl | (simp; done) | (simp [*]; done), by repeat (first | exact Drawn0.refl _ | apply Drawn0.step)⟩

/-! ### num_Sum: function 32 -/
def num_Sum.l0 : Nat → Int → List Int → Int → Int → Option (Int × Int)
  | 0, _, _, _, _ => none
  | k + 1, x4, x9, x10, x11 => if x11 < x10 then (if 0 ≤ x11 then (if x11 < (x9.length : Int) then ((num_Add.f x4 (rd x9 x11)).bind fun bt119 => (if bt119.2 = 0 then (num_Sum.l0 k bt119.1 x9 x10 (wrap64 (x11 + 1))) else (some (0, bt119.2)))) else (none)) else (none)) else (some (x4, 0))
def num_Sum.f (k : Nat) (l0 : List Int) : Option (Int × Int) := num_Sum.l0 k 0 l0 (l0.length : Int) 0
theorem num_Sum.mono_l : ∀ k, (∀ y0 y1 y2 y3, LeO (num_Sum.l0 k y0 y1 y2 y3) (num_Sum.l0 (k + 1) y0 y1 y2 y3))
  | 0 => fun _ _ _ _ r h => by simp [num_Sum.l0] at h
  | k + 1 => by
    have ih0 := num_Sum.mono_l k
    · intro y0 y1 y2 y3
      unfold num_Sum.l0
      repeat' first
      | (with_reducible exact ih0 _ _ _ _)
      | (with_reducible exact LeO.refl _)
      | (with_reducible exact LeO.none _)
      | (with_reducible refine LeO.ite ?_ ?_)
      | (with_reducible refine LeO.bind ?_ (fun _ => ?_))
      | exact ih0 _ _ _ _
      | exact LeO.none _
      | refine LeO.ite ?_ ?_
      | refine LeO.bind ?_ (fun _ => ?_)
theorem num_Sum.mono : ∀ a0 k, LeO (num_Sum.f k a0) (num_Sum.f (k + 1) a0) := by
  intro a0 k
  have ih0 := num_Sum.mono_l k
  unfold num_Sum.f
  repeat' first
      | (with_reducible exact ih0 _ _ _ _)
      | (with_reducible exact LeO.refl _)
      | (with_reducible exact LeO.none _)
      | (with_reducible refine LeO.ite ?_ ?_)
      | (with_reducible refine LeO.bind ?_ (fun _ => ?_))
      | exact ih0 _ _ _ _
      | exact LeO.none _
      | refine LeO.ite ?_ ?_
      | refine LeO.bind ?_ (fun _ => ?_)
set_option maxHeartbeats 8000000 in
set_option maxRecDepth 100000 in
theorem num_Sum.calls (k : Nat) (A0 : Option Addr) (c0 : Nat) (l0 : List Int) (r1 : Int) (r2 : Int) (w : World) (hr0 : Kd.C (Kd.int .i64) w A0 l0.length l0) (hc0 : l0.length ≤ c0) (h : num_Sum.f k l0 = some (r1, r2)) :
    Calls Try.prog 32 #[.slice A0 l0.length c0] w fun e w' => e = .returned (.tuple #[.int .i64 r1, .int .i64 r2]) ∧ Drawn0 w w' := by
  have HR0 := Aside0.mk hr0
  have HC0 := Aside0.mk hc0
  clear hr0 hc0
  have H : (num_Sum.l0 k 0 l0 (l0.length : Int) 0) = some (r1, r2) := h
  clear h
  have H' := Aside0.mk H
  clear H
  go_enter Try.func32, Try.ntmps32
  go_wp2
  go_loopg [4, 11] k (fun kq v4 v11 w' => ∃ (x4_1 : Int) (x11_1 : Int), v4 = .int .i64 x4_1 ∧ v11 = .int .i64 x11_1 ∧ Aside0 (num_Sum.l0 kq x4_1 l0 (l0.length : Int) x11_1 = some (r1, r2)) ∧ Aside0 (kq ≤ k) ∧ Drawn0 w w')
  case atStart => exact ⟨(0), (0), (by first | rfl | (simp; done) | (simp [*]; done)), (by first | rfl | (simp; done) | (simp [*]; done)), H', ⟨Nat.le_refl _⟩, by repeat (first | exact Drawn0.refl _ | apply Drawn0.step)⟩
  case round =>
    clear H'
    obtain ⟨x4_1, x11_1, rfl, rfl, HA, HK1, ⟨m1, rfl⟩⟩ := hrel
    cases gk with
    | zero => exact absurd HA.out (by simp [num_Sum.l0])
    | succ k1 =>
      have H := HA.out
      clear HA
      simp only [num_Sum.l0] at H
      by_cases c2 : x11_1 < (l0.length : Int)
      · rw [if_pos c2] at H
        have c2b0 : decide (x11_1 < (l0.length : Int)) = true := decide_eq_true c2
        clear c2
        by_cases c3 : 0 ≤ x11_1
        · rw [if_pos c3] at H
          have c3b0 : decide (0 ≤ x11_1) = true := decide_eq_true c3
          clear c3
          by_cases c4 : x11_1 < (l0.length : Int)
          · rw [if_pos c4] at H
            have c4b0 : decide (x11_1 < (l0.length : Int)) = true := decide_eq_true c4
            clear c4
            replace H := Option.bind_eq_some_iff.mp H
            obtain ⟨⟨t119, t120⟩, A50, H⟩ := H
            replace H : (if t120 = 0 then (num_Sum.l0 k1 t119 l0 (l0.length : Int) (wrap64 (x11_1 + 1))) else (some (0, t120))) = some (r1, r2) := H
            have A5 := Aside0.mk A50
            clear A50
            by_cases c6 : t120 = 0
            · rw [if_pos c6] at H
              have c6b0 : (t120 == 0) = true := beq_iff_eq.mpr c6
              have c6b1 : (t120 != 0) = false := bne_eq_false_iff_eq.mpr c6
              clear c6
              have H' := Aside0.mk H
              clear H
              have p118 : 0 ≤ (x11_1 : Int) := of_decide_eq_true (by first | (with_reducible assumption) | assumption)
              have q118 : x11_1 < (l0.length : Int) := of_decide_eq_true (by first | (with_reducible assumption) | assumption)
              obtain ⟨ad118, e118, hx118_0⟩ := Kd.at_int HR0.out x11_1 p118 q118
              cases e118
              replace p118 := eq_true p118
              replace q118 := eq_true q118
              go_wp2_with (first | ((with_reducible refine gate_callee (f := 28) rfl ?_); refine goesL_ (some 18) rfl rfl Try.func28 (by kernel_rfl) rfl #[.int .i64 x4_1, .int .i64 (rd l0 x11_1)] rfl (by (try simp only [List.map_toArray, List.map_cons, List.map_nil]); first | done | rfl | (simp only [List.length_drop, List.length_take]; rfl)) ?_; (with_reducible refine (num_Add.calls x4_1 (rd l0 x11_1) t119 t120 _ A5.out).mono ?_); rintro e w' ⟨rfl, ⟨nd, rfl⟩⟩; refine ⟨_, rfl, ?_⟩))
              go_roundg k1
              case measure => have := HK1.out; omega
              case rel => exact ⟨(t119), (wrap64 (x11_1 + 1)), (by first | rfl | (simp; done) | (simp [*]; done)), (by first | rfl | (simp; done) | (simp [*]; done)), H', ⟨by have := HK1.out; omega⟩, by repeat (first | exact Drawn0.refl _ | apply Drawn0.step)⟩
            · rw [if_neg c6] at H
              have c6b0 : (t120 == 0) = false := beq_eq_false_iff_ne.mpr c6
              have c6b1 : (t120 != 0) = true := bne_iff_ne.mpr c6
              simp only [Option.some.injEq, Prod.mk.injEq] at H
              obtain ⟨rfl, rfl⟩ := H
              have p118 : 0 ≤ (x11_1 : Int) := of_decide_eq_true (by first | (with_reducible assumption) | assumption)
              have q118 : x11_1 < (l0.length : Int) := of_decide_eq_true (by first | (with_reducible assumption) | assumption)
              obtain ⟨ad118, e118, hx118_0⟩ := Kd.at_int HR0.out x11_1 p118 q118
              cases e118
              replace p118 := eq_true p118
              replace q118 := eq_true q118
              go_wp2_with (first | ((with_reducible refine gate_callee (f := 28) rfl ?_); refine goesL_ (some 18) rfl rfl Try.func28 (by kernel_rfl) rfl #[.int .i64 x4_1, .int .i64 (rd l0 x11_1)] rfl (by (try simp only [List.map_toArray, List.map_cons, List.map_nil]); first | done | rfl | (simp only [List.length_drop, List.length_take]; rfl)) ?_; (with_reducible refine (num_Add.calls x4_1 (rd l0 x11_1) t119 t120 _ A5.out).mono ?_); rintro e w' ⟨rfl, ⟨nd, rfl⟩⟩; refine ⟨_, rfl, ?_⟩))
              go_ret2
              exact ⟨by first | rfl | (simp; done) | (simp [*]; done), by repeat (first | exact Drawn0.refl _ | apply Drawn0.step)⟩
          · rw [if_neg c4] at H
            exact absurd H (by simp)
        · rw [if_neg c3] at H
          exact absurd H (by simp)
      · rw [if_neg c2] at H
        have c2b0 : decide (x11_1 < (l0.length : Int)) = false := decide_eq_false c2
        clear c2
        simp only [Option.some.injEq, Prod.mk.injEq] at H
        obtain ⟨rfl, rfl⟩ := H
        go_wp2
        go_ret2
        exact ⟨by first | rfl | (simp; done) | (simp [*]; done), by repeat (first | exact Drawn0.refl _ | apply Drawn0.step)⟩

end Go.Proofs.Ytbpagdgbehefkaa.PNum
