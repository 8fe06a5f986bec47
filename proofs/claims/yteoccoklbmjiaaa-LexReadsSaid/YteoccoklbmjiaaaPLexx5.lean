-- By xprint.py, a program of this work, over the kit's printer. Lean checks it.
import Derived.Test.YteoccoklbmjiaaaPLexx0
import Derived.Test.YteoccoklbmjiaaaPLexx4
namespace Go.Proofs.Yteoccoklbmjiaaa.PLex
open Go.RowKit Go.Proofs.YteoccoklbmjiaaaW.PrintWords Go.Proofs.YteoccoklbmjiaaaW.PrintLast Go.Proofs.YteoccoklbmjiaaaW.PrintMore
attribute [local go_sem] x_isSome max2_int min2_int max_two min_two max_three min_three max_four min_four   -- for this text's walks alone
set_option linter.unusedVariables false
set_option linter.unusedSimpArgs false

/-! ### blazonref06_All: function 21 -/
mutual
def blazonref06_All.l0 : Nat → ByteArray → List (S28) → Int → Option ((List (S28)))
  | 0, _, _, _ => none
  | k + 1, x0, x3, x4 => if x4 < (x0.size : Int) then (if 0 ≤ x4 then (if (bt x0 x4) = 32 then (blazonref06_All.j1 k x0 x3 x4 (bt x0 x4) (wrap64 (x4 + 1)) 5 true) else (if (bt x0 x4) = 9 then (blazonref06_All.j1 k x0 x3 x4 (bt x0 x4) (wrap64 (x4 + 1)) 5 true) else (if (bt x0 x4) = 10 then (blazonref06_All.j1 k x0 x3 x4 (bt x0 x4) (wrap64 (x4 + 1)) 5 true) else (blazonref06_All.j1 k x0 x3 x4 (bt x0 x4) (wrap64 (x4 + 1)) 5 ((bt x0 x4) == 13))))) else (none)) else (some x3)
def blazonref06_All.j1 : Nat → ByteArray → List (S28) → Int → Int → Int → Int → Bool → Option ((List (S28)))
  | 0, _, _, _, _, _, _, _ => none
  | k + 1, x0, x3, x4, x5, x6, x7, x31 => if x31 = true then (blazonref06_All.l1 k x0 x3 x4 x6 0) else (if x5 = 35 then (blazonref06_All.l2 k x0 x3 x4 x6 1) else ((blazonref06_Letter.f x5).bind fun t196 => (if t196 = true then (blazonref06_All.l3 k x0 x3 x4 x6 2) else ((blazonref06_Digit.f x5).bind fun t205 => (if t205 = true then (blazonref06_All.l4 k x0 x3 x4 x6 3) else (if 0 ≤ x4 then (if x4 ≤ (x0.size : Int) then ((blazonref06_sign.f k (x0.extract (x4 : Int).toNat x0.size)).bind fun t213 => (if t213 > 0 then (if x3.length < 5864062014805 then (blazonref06_All.l0 k x0 (x3 ++ [(⟨4, x4, wrap64 (x4 + t213)⟩ : S28)]) (wrap64 (x4 + t213))) else (none)) else (if x3.length < 5864062014805 then (blazonref06_All.l0 k x0 (x3 ++ [(⟨x7, x4, x6⟩ : S28)]) x6) else (none)))) else (none)) else (none)))))))
def blazonref06_All.l1 : Nat → ByteArray → List (S28) → Int → Int → Int → Option ((List (S28)))
  | 0, _, _, _, _, _ => none
  | k + 1, x0, x3, x4, x6, x7 => if x6 < (x0.size : Int) then (if 0 ≤ x6 then (if (bt x0 x6) = 32 then (blazonref06_All.l1 k x0 x3 x4 (wrap64 (x6 + 1)) x7) else (if (bt x0 x6) = 9 then (blazonref06_All.l1 k x0 x3 x4 (wrap64 (x6 + 1)) x7) else (if (bt x0 x6) = 10 then (blazonref06_All.l1 k x0 x3 x4 (wrap64 (x6 + 1)) x7) else (if (bt x0 x6) = 13 then (blazonref06_All.l1 k x0 x3 x4 (wrap64 (x6 + 1)) x7) else (if x3.length < 5864062014805 then (blazonref06_All.l0 k x0 (x3 ++ [(⟨x7, x4, x6⟩ : S28)]) x6) else (none)))))) else (none)) else (if x3.length < 5864062014805 then (blazonref06_All.l0 k x0 (x3 ++ [(⟨x7, x4, x6⟩ : S28)]) x6) else (none))
def blazonref06_All.l2 : Nat → ByteArray → List (S28) → Int → Int → Int → Option ((List (S28)))
  | 0, _, _, _, _, _ => none
  | k + 1, x0, x3, x4, x6, x7 => if x6 < (x0.size : Int) then (if 0 ≤ x6 then (if (bt x0 x6) = 10 then (if x3.length < 5864062014805 then (blazonref06_All.l0 k x0 (x3 ++ [(⟨x7, x4, x6⟩ : S28)]) x6) else (none)) else (blazonref06_All.l2 k x0 x3 x4 (wrap64 (x6 + 1)) x7)) else (none)) else (if x3.length < 5864062014805 then (blazonref06_All.l0 k x0 (x3 ++ [(⟨x7, x4, x6⟩ : S28)]) x6) else (none))
def blazonref06_All.l3 : Nat → ByteArray → List (S28) → Int → Int → Int → Option ((List (S28)))
  | 0, _, _, _, _, _ => none
  | k + 1, x0, x3, x4, x6, x7 => if x6 < (x0.size : Int) then (if 0 ≤ x6 then ((blazonref06_Letter.f (bt x0 x6)).bind fun t197 => (if t197 = true then (blazonref06_All.l3 k x0 x3 x4 (wrap64 (x6 + 1)) x7) else ((blazonref06_Digit.f (bt x0 x6)).bind fun t198 => (if t198 = true then (blazonref06_All.l3 k x0 x3 x4 (wrap64 (x6 + 1)) x7) else (if x3.length < 5864062014805 then (blazonref06_All.l0 k x0 (x3 ++ [(⟨x7, x4, x6⟩ : S28)]) x6) else (none)))))) else (none)) else (if x3.length < 5864062014805 then (blazonref06_All.l0 k x0 (x3 ++ [(⟨x7, x4, x6⟩ : S28)]) x6) else (none))
def blazonref06_All.l4 : Nat → ByteArray → List (S28) → Int → Int → Int → Option ((List (S28)))
  | 0, _, _, _, _, _ => none
  | k + 1, x0, x3, x4, x6, x7 => if x6 < (x0.size : Int) then (if 0 ≤ x6 then ((blazonref06_Digit.f (bt x0 x6)).bind fun t206 => (if t206 = true then (blazonref06_All.l4 k x0 x3 x4 (wrap64 (x6 + 1)) x7) else (if x3.length < 5864062014805 then (blazonref06_All.l0 k x0 (x3 ++ [(⟨x7, x4, x6⟩ : S28)]) x6) else (none)))) else (none)) else (if x3.length < 5864062014805 then (blazonref06_All.l0 k x0 (x3 ++ [(⟨x7, x4, x6⟩ : S28)]) x6) else (none))
end
def blazonref06_All.f (k : Nat) (a0 : ByteArray) : Option ((List (S28))) := blazonref06_All.l0 k a0 ([] : List (S28)) 0
theorem blazonref06_All.mono_l : ∀ k, (∀ y0 y1 y2, LeO (blazonref06_All.l0 k y0 y1 y2) (blazonref06_All.l0 (k + 1) y0 y1 y2)) ∧ (∀ y0 y1 y2 y3 y4 y5 y6, LeO (blazonref06_All.j1 k y0 y1 y2 y3 y4 y5 y6) (blazonref06_All.j1 (k + 1) y0 y1 y2 y3 y4 y5 y6)) ∧ (∀ y0 y1 y2 y3 y4, LeO (blazonref06_All.l1 k y0 y1 y2 y3 y4) (blazonref06_All.l1 (k + 1) y0 y1 y2 y3 y4)) ∧ (∀ y0 y1 y2 y3 y4, LeO (blazonref06_All.l2 k y0 y1 y2 y3 y4) (blazonref06_All.l2 (k + 1) y0 y1 y2 y3 y4)) ∧ (∀ y0 y1 y2 y3 y4, LeO (blazonref06_All.l3 k y0 y1 y2 y3 y4) (blazonref06_All.l3 (k + 1) y0 y1 y2 y3 y4)) ∧ (∀ y0 y1 y2 y3 y4, LeO (blazonref06_All.l4 k y0 y1 y2 y3 y4) (blazonref06_All.l4 (k + 1) y0 y1 y2 y3 y4))
  | 0 => ⟨fun _ _ _ r h => by simp [blazonref06_All.l0] at h, fun _ _ _ _ _ _ _ r h => by simp [blazonref06_All.j1] at h, fun _ _ _ _ _ r h => by simp [blazonref06_All.l1] at h, fun _ _ _ _ _ r h => by simp [blazonref06_All.l2] at h, fun _ _ _ _ _ r h => by simp [blazonref06_All.l3] at h, fun _ _ _ _ _ r h => by simp [blazonref06_All.l4] at h⟩
  | k + 1 => by
    obtain ⟨ih0, ih1, ih2, ih3, ih4, ih5⟩ := blazonref06_All.mono_l k
    refine ⟨?_, ?_, ?_, ?_, ?_, ?_⟩
    · intro y0 y1 y2
      unfold blazonref06_All.l0
      repeat' first
      | (with_reducible exact ih0 _ _ _)
      | (with_reducible exact ih1 _ _ _ _ _ _ _)
      | (with_reducible exact ih2 _ _ _ _ _)
      | (with_reducible exact ih3 _ _ _ _ _)
      | (with_reducible exact ih4 _ _ _ _ _)
      | (with_reducible exact ih5 _ _ _ _ _)
      | (with_reducible exact blazonref06_sign.mono _ _)
      | (with_reducible exact LeO.refl _)
      | (with_reducible exact LeO.none _)
      | (with_reducible refine LeO.ite ?_ ?_)
      | (with_reducible refine LeO.bind ?_ (fun _ => ?_))
      | exact ih0 _ _ _
      | exact ih1 _ _ _ _ _ _ _
      | exact ih2 _ _ _ _ _
      | exact ih3 _ _ _ _ _
      | exact ih4 _ _ _ _ _
      | exact ih5 _ _ _ _ _
      | exact blazonref06_sign.mono _ _
      | exact LeO.none _
      | refine LeO.ite ?_ ?_
      | refine LeO.bind ?_ (fun _ => ?_)
    · intro y0 y1 y2 y3 y4 y5 y6
      unfold blazonref06_All.j1
      repeat' first
      | (with_reducible exact ih0 _ _ _)
      | (with_reducible exact ih1 _ _ _ _ _ _ _)
      | (with_reducible exact ih2 _ _ _ _ _)
      | (with_reducible exact ih3 _ _ _ _ _)
      | (with_reducible exact ih4 _ _ _ _ _)
      | (with_reducible exact ih5 _ _ _ _ _)
      | (with_reducible exact blazonref06_sign.mono _ _)
      | (with_reducible exact LeO.refl _)
      | (with_reducible exact LeO.none _)
      | (with_reducible refine LeO.ite ?_ ?_)
      | (with_reducible refine LeO.bind ?_ (fun _ => ?_))
      | exact ih0 _ _ _
      | exact ih1 _ _ _ _ _ _ _
      | exact ih2 _ _ _ _ _
      | exact ih3 _ _ _ _ _
      | exact ih4 _ _ _ _ _
      | exact ih5 _ _ _ _ _
      | exact blazonref06_sign.mono _ _
      | exact LeO.none _
      | refine LeO.ite ?_ ?_
      | refine LeO.bind ?_ (fun _ => ?_)
    · intro y0 y1 y2 y3 y4
      unfold blazonref06_All.l1
      repeat' first
      | (with_reducible exact ih0 _ _ _)
      | (with_reducible exact ih1 _ _ _ _ _ _ _)
      | (with_reducible exact ih2 _ _ _ _ _)
      | (with_reducible exact ih3 _ _ _ _ _)
      | (with_reducible exact ih4 _ _ _ _ _)
      | (with_reducible exact ih5 _ _ _ _ _)
      | (with_reducible exact blazonref06_sign.mono _ _)
      | (with_reducible exact LeO.refl _)
      | (with_reducible exact LeO.none _)
      | (with_reducible refine LeO.ite ?_ ?_)
      | (with_reducible refine LeO.bind ?_ (fun _ => ?_))
      | exact ih0 _ _ _
      | exact ih1 _ _ _ _ _ _ _
      | exact ih2 _ _ _ _ _
      | exact ih3 _ _ _ _ _
      | exact ih4 _ _ _ _ _
      | exact ih5 _ _ _ _ _
      | exact blazonref06_sign.mono _ _
      | exact LeO.none _
      | refine LeO.ite ?_ ?_
      | refine LeO.bind ?_ (fun _ => ?_)
    · intro y0 y1 y2 y3 y4
      unfold blazonref06_All.l2
      repeat' first
      | (with_reducible exact ih0 _ _ _)
      | (with_reducible exact ih1 _ _ _ _ _ _ _)
      | (with_reducible exact ih2 _ _ _ _ _)
      | (with_reducible exact ih3 _ _ _ _ _)
      | (with_reducible exact ih4 _ _ _ _ _)
      | (with_reducible exact ih5 _ _ _ _ _)
      | (with_reducible exact blazonref06_sign.mono _ _)
      | (with_reducible exact LeO.refl _)
      | (with_reducible exact LeO.none _)
      | (with_reducible refine LeO.ite ?_ ?_)
      | (with_reducible refine LeO.bind ?_ (fun _ => ?_))
      | exact ih0 _ _ _
      | exact ih1 _ _ _ _ _ _ _
      | exact ih2 _ _ _ _ _
      | exact ih3 _ _ _ _ _
      | exact ih4 _ _ _ _ _
      | exact ih5 _ _ _ _ _
      | exact blazonref06_sign.mono _ _
      | exact LeO.none _
      | refine LeO.ite ?_ ?_
      | refine LeO.bind ?_ (fun _ => ?_)
    · intro y0 y1 y2 y3 y4
      unfold blazonref06_All.l3
      repeat' first
      | (with_reducible exact ih0 _ _ _)
      | (with_reducible exact ih1 _ _ _ _ _ _ _)
      | (with_reducible exact ih2 _ _ _ _ _)
      | (with_reducible exact ih3 _ _ _ _ _)
      | (with_reducible exact ih4 _ _ _ _ _)
      | (with_reducible exact ih5 _ _ _ _ _)
      | (with_reducible exact blazonref06_sign.mono _ _)
      | (with_reducible exact LeO.refl _)
      | (with_reducible exact LeO.none _)
      | (with_reducible refine LeO.ite ?_ ?_)
      | (with_reducible refine LeO.bind ?_ (fun _ => ?_))
      | exact ih0 _ _ _
      | exact ih1 _ _ _ _ _ _ _
      | exact ih2 _ _ _ _ _
      | exact ih3 _ _ _ _ _
      | exact ih4 _ _ _ _ _
      | exact ih5 _ _ _ _ _
      | exact blazonref06_sign.mono _ _
      | exact LeO.none _
      | refine LeO.ite ?_ ?_
      | refine LeO.bind ?_ (fun _ => ?_)
    · intro y0 y1 y2 y3 y4
      unfold blazonref06_All.l4
      repeat' first
      | (with_reducible exact ih0 _ _ _)
      | (with_reducible exact ih1 _ _ _ _ _ _ _)
      | (with_reducible exact ih2 _ _ _ _ _)
      | (with_reducible exact ih3 _ _ _ _ _)
      | (with_reducible exact ih4 _ _ _ _ _)
      | (with_reducible exact ih5 _ _ _ _ _)
      | (with_reducible exact blazonref06_sign.mono _ _)
      | (with_reducible exact LeO.refl _)
      | (with_reducible exact LeO.none _)
      | (with_reducible refine LeO.ite ?_ ?_)
      | (with_reducible refine LeO.bind ?_ (fun _ => ?_))
      | exact ih0 _ _ _
      | exact ih1 _ _ _ _ _ _ _
      | exact ih2 _ _ _ _ _
      | exact ih3 _ _ _ _ _
      | exact ih4 _ _ _ _ _
      | exact ih5 _ _ _ _ _
      | exact blazonref06_sign.mono _ _
      | exact LeO.none _
      | refine LeO.ite ?_ ?_
      | refine LeO.bind ?_ (fun _ => ?_)
theorem blazonref06_All.mono : ∀ a0 k, LeO (blazonref06_All.f k a0) (blazonref06_All.f (k + 1) a0) := by
  intro a0 k
  obtain ⟨ih0, ih1, ih2, ih3, ih4, ih5⟩ := blazonref06_All.mono_l k
  unfold blazonref06_All.f
  repeat' first
      | (with_reducible exact ih0 _ _ _)
      | (with_reducible exact ih1 _ _ _ _ _ _ _)
      | (with_reducible exact ih2 _ _ _ _ _)
      | (with_reducible exact ih3 _ _ _ _ _)
      | (with_reducible exact ih4 _ _ _ _ _)
      | (with_reducible exact ih5 _ _ _ _ _)
      | (with_reducible exact blazonref06_sign.mono _ _)
      | (with_reducible exact LeO.refl _)
      | (with_reducible exact LeO.none _)
      | (with_reducible refine LeO.ite ?_ ?_)
      | (with_reducible refine LeO.bind ?_ (fun _ => ?_))
      | exact ih0 _ _ _
      | exact ih1 _ _ _ _ _ _ _
      | exact ih2 _ _ _ _ _
      | exact ih3 _ _ _ _ _
      | exact ih4 _ _ _ _ _
      | exact ih5 _ _ _ _ _
      | exact blazonref06_sign.mono _ _
      | exact LeO.none _
      | refine LeO.ite ?_ ?_
      | refine LeO.bind ?_ (fun _ => ?_)
set_option maxHeartbeats 8000000 in
set_option maxRecDepth 100000 in
theorem blazonref06_All.calls (k : Nat) (a0 : ByteArray) (r : List (S28)) (w : World) (h : blazonref06_All.f k a0 = some r) :
    Calls Try.prog 21 #[.string a0] w fun e w' => ∃ v0_ : Value, e = .returned (v0_) ∧ Kd.R k28 28 w' w.heap.size (fun _ => True) v0_ r ∧ Below w.heap.size w w' := by
  have hu28 := Try.underlying28
  have HB := Aside0.mk (Below.refl w.heap.size w)
  have H : (blazonref06_All.l0 k a0 ([] : List (S28)) 0) = some r := h
  clear h
  have H' := Aside0.mk H
  clear H
  go_enter Try.func21, Try.ntmps21
  go_wp2
  go_loopg [3, 4] k (fun kq v3 v4 w' => ∃ (x3_1 : List (S28)) (x4_1 : Int), v4 = .int .i64 x4_1 ∧ Aside0 (blazonref06_All.l0 kq a0 x3_1 x4_1 = some r) ∧ Aside0 (kq ≤ k) ∧ Aside0 (Kd.R k28 28 w' w.heap.size (fun _ => True) v3 x3_1) ∧ Aside0 (Below w.heap.size w w'))
  case atStart => exact ⟨(([] : List (S28))), (0), (by first | rfl | (simp; done) | (simp [*]; done)), H', ⟨Nat.le_refl _⟩, ⟨by first | exact Kd.R_nil _ _ _ _ _ | exact Kd.N_nil _ _ _ _ _ | exact Kd.V_nil _ _ _ _ _ | exact Kd.Q_nil _ _ _ _ _ | exact Kd.S_nil _ _ _ _ _⟩, ⟨by repeat (first | (with_reducible first | exact HB.out | apply below_alloc | apply pw_below_drewN | apply below_drew1) | exact HB.out)⟩⟩
  case round =>
    clear H'
    obtain ⟨x3_1, x4_1, rfl, HA, HK1, HO_3, HB⟩ := hrel
    cases gk with
    | zero => exact absurd HA.out (by simp [blazonref06_All.l0])
    | succ k1 =>
      have H := HA.out
      clear HA
      simp only [blazonref06_All.l0] at H
      by_cases c2 : x4_1 < (a0.size : Int)
      · rw [if_pos c2] at H
        have c2b0 : decide (x4_1 < (a0.size : Int)) = true := decide_eq_true c2
        clear c2
        by_cases c3 : 0 ≤ x4_1
        · rw [if_pos c3] at H
          have c3b0 : decide (0 ≤ x4_1) = true := decide_eq_true c3
          clear c3
          have HC5 := Aside0.mk H
          clear H
          have p4 : 0 ≤ (x4_1 : Int) := of_decide_eq_true (by first | (with_reducible assumption) | assumption)
          have q4 : x4_1 < (a0.size : Int) := of_decide_eq_true (by first | (with_reducible assumption) | assumption)
          have hx4 := bt_at a0 x4_1
          replace p4 := eq_true p4
          replace q4 := eq_true q4
          go_upto_region 7 with (fail)
          go_cut [31] (fun v31 wc => ∃ (kq : Nat) (x31_4 : Bool), v31 = .bool x31_4 ∧ Aside0 (blazonref06_All.j1 kq a0 x3_1 x4_1 (bt a0 x4_1) (wrap64 (x4_1 + 1)) 5 x31_4 = some r) ∧ Aside0 (kq ≤ k1) ∧ Aside0 (Kd.R k28 28 wc w.heap.size (fun _ => True) u3 x3_1) ∧ Aside0 (Below w.heap.size w wc))
          case first =>
            have H := HC5.out
            clear HC5
            by_cases c6 : (bt a0 x4_1) = 32
            · rw [if_pos c6] at H
              have c6b0 : ((bt a0 x4_1) == 32) = true := beq_iff_eq.mpr c6
              have c6b1 : ((bt a0 x4_1) != 32) = false := bne_eq_false_iff_eq.mpr c6
              clear c6
              (first | rw [c6b0] | (simp only [i64_w, i32_w]; rw [c6b0]) | skip)
              have H' := Aside0.mk H
              clear H
              go_wp2
              go_meet
              case rel => exact ⟨_, (true), (by first | rfl | (simp; done) | (simp [*]; done)), H', ⟨by have := HK1.out; first | omega | exact Nat.le_refl _⟩, ⟨by (with_reducible repeat (first | apply Kd.R_alloc | apply Kd.R_drewN | apply Kd.R_drew)); exact HO_3.out⟩, ⟨by repeat (first | (with_reducible first | exact HB.out | apply below_alloc | apply pw_below_drewN | apply below_drew1) | exact HB.out)⟩⟩
            · rw [if_neg c6] at H
              have c6b0 : ((bt a0 x4_1) == 32) = false := beq_eq_false_iff_ne.mpr c6
              have c6b1 : ((bt a0 x4_1) != 32) = true := bne_iff_ne.mpr c6
              (first | rw [c6b0] | (simp only [i64_w, i32_w]; rw [c6b0]) | skip)
              by_cases c7 : (bt a0 x4_1) = 9
              · rw [if_pos c7] at H
                have c7b0 : ((bt a0 x4_1) == 9) = true := beq_iff_eq.mpr c7
                have c7b1 : ((bt a0 x4_1) != 9) = false := bne_eq_false_iff_eq.mpr c7
                clear c7
                have H' := Aside0.mk H
                clear H
                go_wp2
                go_meet
                case rel => exact ⟨_, (true), (by first | rfl | (simp; done) | (simp [*]; done)), H', ⟨by have := HK1.out; first | omega | exact Nat.le_refl _⟩, ⟨by (with_reducible repeat (first | apply Kd.R_alloc | apply Kd.R_drewN | apply Kd.R_drew)); exact HO_3.out⟩, ⟨by repeat (first | (with_reducible first | exact HB.out | apply below_alloc | apply pw_below_drewN | apply below_drew1) | exact HB.out)⟩⟩
              · rw [if_neg c7] at H
                have c7b0 : ((bt a0 x4_1) == 9) = false := beq_eq_false_iff_ne.mpr c7
                have c7b1 : ((bt a0 x4_1) != 9) = true := bne_iff_ne.mpr c7
                by_cases c8 : (bt a0 x4_1) = 10
                · rw [if_pos c8] at H
                  have c8b0 : ((bt a0 x4_1) == 10) = true := beq_iff_eq.mpr c8
                  have c8b1 : ((bt a0 x4_1) != 10) = false := bne_eq_false_iff_eq.mpr c8
                  clear c8
                  have H' := Aside0.mk H
                  clear H
                  go_wp2
                  go_meet
                  case rel => exact ⟨_, (true), (by first | rfl | (simp; done) | (simp [*]; done)), H', ⟨by have := HK1.out; first | omega | exact Nat.le_refl _⟩, ⟨by (with_reducible repeat (first | apply Kd.R_alloc | apply Kd.R_drewN | apply Kd.R_drew)); exact HO_3.out⟩, ⟨by repeat (first | (with_reducible first | exact HB.out | apply below_alloc | apply pw_below_drewN | apply below_drew1) | exact HB.out)⟩⟩
                · rw [if_neg c8] at H
                  have c8b0 : ((bt a0 x4_1) == 10) = false := beq_eq_false_iff_ne.mpr c8
                  have c8b1 : ((bt a0 x4_1) != 10) = true := bne_iff_ne.mpr c8
                  have H' := Aside0.mk H
                  clear H
                  go_wp2
                  go_meet
                  case rel => exact ⟨_, (((bt a0 x4_1) == 13)), (by first | rfl | (simp; done) | (simp [*]; done)), H', ⟨by have := HK1.out; first | omega | exact Nat.le_refl _⟩, ⟨by (with_reducible repeat (first | apply Kd.R_alloc | apply Kd.R_drewN | apply Kd.R_drew)); exact HO_3.out⟩, ⟨by repeat (first | (with_reducible first | exact HB.out | apply below_alloc | apply pw_below_drewN | apply below_drew1) | exact HB.out)⟩⟩
          case rest =>
            clear HC5
            try clear c2
            try clear c2b0
            try clear p2
            try clear c3
            try clear c3b0
            try clear p4
            try clear q4
            try clear hx4
            try clear c6
            try clear c6b0
            try clear c6b1
            try clear p6
            try clear c7
            try clear c7b0
            try clear c7b1
            try clear c8
            try clear c8b0
            try clear c8b1
            try clear p4
            try clear q4
            obtain ⟨kq, x31_4, rfl, HA, HJ4, HO_3, HB⟩ := hcut
            cases kq with
            | zero => exact absurd HA.out (by simp [blazonref06_All.j1])
            | succ kj4 =>
              have H := HA.out
              clear HA
              simp only [blazonref06_All.j1] at H
              by_cases c9 : x31_4 = true
              · subst c9
                have H1 : (blazonref06_All.l1 kj4 a0 x3_1 x4_1 (wrap64 (x4_1 + 1)) 0) = some r := by rw [if_pos rfl] at H; exact H
                clear H
                have H := H1
                clear H1
                have H' := Aside0.mk H
                clear H
                go_wp2
                go_loopg [6] kj4 (fun kq v6 w' => ∃ (x6_3 : Int), v6 = .int .i64 x6_3 ∧ Aside0 (blazonref06_All.l1 kq a0 x3_1 x4_1 x6_3 0 = some r) ∧ Aside0 (kq ≤ kj4) ∧ Aside0 (Kd.R k28 28 w' w.heap.size (fun _ => True) u3 x3_1) ∧ Aside0 (Below w.heap.size w w'))
                case atStart => exact ⟨((wrap64 (x4_1 + 1))), (by first | rfl | (simp; done) | (simp [*]; done)), H', ⟨Nat.le_refl _⟩, ⟨by (with_reducible repeat (first | apply Kd.R_alloc | apply Kd.R_drewN | apply Kd.R_drew)); exact HO_3.out⟩, ⟨by repeat (first | (with_reducible first | exact HB.out | apply below_alloc | apply pw_below_drewN | apply below_drew1) | exact HB.out)⟩⟩
                case round =>
                  clear H'
                  try clear c2
                  try clear c2b0
                  try clear p2
                  try clear c3
                  try clear c3b0
                  try clear p4
                  try clear q4
                  try clear hx4
                  try clear c6
                  try clear c6b0
                  try clear c6b1
                  try clear p6
                  try clear c7
                  try clear c7b0
                  try clear c7b1
                  try clear c8
                  try clear c8b0
                  try clear c8b1
                  try clear c9
                  try clear p2
                  try clear p4
                  try clear p6
                  try clear q4
                  obtain ⟨x6_3, rfl, HA, HK3, HO_3, HB⟩ := hrel
                  cases gk with
                  | zero => exact absurd HA.out (by simp [blazonref06_All.l1])
                  | succ k3 =>
                    have H := HA.out
                    clear HA
                    simp only [blazonref06_All.l1] at H
                    by_cases c10 : x6_3 < (a0.size : Int)
                    · rw [if_pos c10] at H
                      have c10b0 : decide (x6_3 < (a0.size : Int)) = true := decide_eq_true c10
                      clear c10
                      by_cases c11 : 0 ≤ x6_3
                      · rw [if_pos c11] at H
                        have c11b0 : decide (0 ≤ x6_3) = true := decide_eq_true c11
                        clear c11
                        by_cases c13 : (bt a0 x6_3) = 32
                        · rw [if_pos c13] at H
                          have c13b0 : ((bt a0 x6_3) == 32) = true := beq_iff_eq.mpr c13
                          have c13b1 : ((bt a0 x6_3) != 32) = false := bne_eq_false_iff_eq.mpr c13
                          clear c13
                          have H' := Aside0.mk H
                          clear H
                          have p12 : 0 ≤ (x6_3 : Int) := of_decide_eq_true (by first | (with_reducible assumption) | assumption)
                          have q12 : x6_3 < (a0.size : Int) := of_decide_eq_true (by first | (with_reducible assumption) | assumption)
                          have hx12 := bt_at a0 x6_3
                          replace p12 := eq_true p12
                          replace q12 := eq_true q12
                          go_wp2
                          go_roundg k3
                          case measure => have := HK1.out; have := HJ4.out; have := HK3.out; omega
                          case rel => exact ⟨(wrap64 (x6_3 + 1)), (by first | rfl | (simp; done) | (simp [*]; done)), H', ⟨by have := HK1.out; have := HJ4.out; have := HK3.out; omega⟩, ⟨by (with_reducible repeat (first | apply Kd.R_alloc | apply Kd.R_drewN | apply Kd.R_drew)); exact HO_3.out⟩, ⟨by repeat (first | (with_reducible first | exact HB.out | apply below_alloc | apply pw_below_drewN | apply below_drew1) | exact HB.out)⟩⟩
                        · rw [if_neg c13] at H
                          have c13b0 : ((bt a0 x6_3) == 32) = false := beq_eq_false_iff_ne.mpr c13
                          have c13b1 : ((bt a0 x6_3) != 32) = true := bne_iff_ne.mpr c13
                          by_cases c15 : (bt a0 x6_3) = 9
                          · rw [if_pos c15] at H
                            have c15b0 : ((bt a0 x6_3) == 9) = true := beq_iff_eq.mpr c15
                            have c15b1 : ((bt a0 x6_3) != 9) = false := bne_eq_false_iff_eq.mpr c15
                            clear c15
                            have H' := Aside0.mk H
                            clear H
                            have p12 : 0 ≤ (x6_3 : Int) := of_decide_eq_true (by first | (with_reducible assumption) | assumption)
                            have q12 : x6_3 < (a0.size : Int) := of_decide_eq_true (by first | (with_reducible assumption) | assumption)
                            have hx12 := bt_at a0 x6_3
                            replace p12 := eq_true p12
                            replace q12 := eq_true q12
                            have p14 : 0 ≤ (x6_3 : Int) := of_decide_eq_true (by first | (with_reducible assumption) | assumption)
                            have q14 : x6_3 < (a0.size : Int) := of_decide_eq_true (by first | (with_reducible assumption) | assumption)
                            have hx14 := bt_at a0 x6_3
                            replace p14 := eq_true p14
                            replace q14 := eq_true q14
                            go_wp2
                            go_roundg k3
                            case measure => have := HK1.out; have := HJ4.out; have := HK3.out; omega
                            case rel => exact ⟨(wrap64 (x6_3 + 1)), (by first | rfl | (simp; done) | (simp [*]; done)), H', ⟨by have := HK1.out; have := HJ4.out; have := HK3.out; omega⟩, ⟨by (with_reducible repeat (first | apply Kd.R_alloc | apply Kd.R_drewN | apply Kd.R_drew)); exact HO_3.out⟩, ⟨by repeat (first | (with_reducible first | exact HB.out | apply below_alloc | apply pw_below_drewN | apply below_drew1) | exact HB.out)⟩⟩
                          · rw [if_neg c15] at H
                            have c15b0 : ((bt a0 x6_3) == 9) = false := beq_eq_false_iff_ne.mpr c15
                            have c15b1 : ((bt a0 x6_3) != 9) = true := bne_iff_ne.mpr c15
                            by_cases c17 : (bt a0 x6_3) = 10
                            · rw [if_pos c17] at H
                              have c17b0 : ((bt a0 x6_3) == 10) = true := beq_iff_eq.mpr c17
                              have c17b1 : ((bt a0 x6_3) != 10) = false := bne_eq_false_iff_eq.mpr c17
                              clear c17
                              have H' := Aside0.mk H
                              clear H
                              have p12 : 0 ≤ (x6_3 : Int) := of_decide_eq_true (by first | (with_reducible assumption) | assumption)
                              have q12 : x6_3 < (a0.size : Int) := of_decide_eq_true (by first | (with_reducible assumption) | assumption)
                              have hx12 := bt_at a0 x6_3
                              replace p12 := eq_true p12
                              replace q12 := eq_true q12
                              have p14 : 0 ≤ (x6_3 : Int) := of_decide_eq_true (by first | (with_reducible assumption) | assumption)
                              have q14 : x6_3 < (a0.size : Int) := of_decide_eq_true (by first | (with_reducible assumption) | assumption)
                              have hx14 := bt_at a0 x6_3
                              replace p14 := eq_true p14
                              replace q14 := eq_true q14
                              have p16 : 0 ≤ (x6_3 : Int) := of_decide_eq_true (by first | (with_reducible assumption) | assumption)
                              have q16 : x6_3 < (a0.size : Int) := of_decide_eq_true (by first | (with_reducible assumption) | assumption)
                              have hx16 := bt_at a0 x6_3
                              replace p16 := eq_true p16
                              replace q16 := eq_true q16
                              go_wp2
                              go_roundg k3
                              case measure => have := HK1.out; have := HJ4.out; have := HK3.out; omega
                              case rel => exact ⟨(wrap64 (x6_3 + 1)), (by first | rfl | (simp; done) | (simp [*]; done)), H', ⟨by have := HK1.out; have := HJ4.out; have := HK3.out; omega⟩, ⟨by (with_reducible repeat (first | apply Kd.R_alloc | apply Kd.R_drewN | apply Kd.R_drew)); exact HO_3.out⟩, ⟨by repeat (first | (with_reducible first | exact HB.out | apply below_alloc | apply pw_below_drewN | apply below_drew1) | exact HB.out)⟩⟩
                            · rw [if_neg c17] at H
                              have c17b0 : ((bt a0 x6_3) == 10) = false := beq_eq_false_iff_ne.mpr c17
                              have c17b1 : ((bt a0 x6_3) != 10) = true := bne_iff_ne.mpr c17
                              by_cases c19 : (bt a0 x6_3) = 13
                              · rw [if_pos c19] at H
                                have c19b0 : ((bt a0 x6_3) == 13) = true := beq_iff_eq.mpr c19
                                have c19b1 : ((bt a0 x6_3) != 13) = false := bne_eq_false_iff_eq.mpr c19
                                clear c19
                                have H' := Aside0.mk H
                                clear H
                                have p12 : 0 ≤ (x6_3 : Int) := of_decide_eq_true (by first | (with_reducible assumption) | assumption)
                                have q12 : x6_3 < (a0.size : Int) := of_decide_eq_true (by first | (with_reducible assumption) | assumption)
                                have hx12 := bt_at a0 x6_3
                                replace p12 := eq_true p12
                                replace q12 := eq_true q12
                                have p14 : 0 ≤ (x6_3 : Int) := of_decide_eq_true (by first | (with_reducible assumption) | assumption)
                                have q14 : x6_3 < (a0.size : Int) := of_decide_eq_true (by first | (with_reducible assumption) | assumption)
                                have hx14 := bt_at a0 x6_3
                                replace p14 := eq_true p14
                                replace q14 := eq_true q14
                                have p16 : 0 ≤ (x6_3 : Int) := of_decide_eq_true (by first | (with_reducible assumption) | assumption)
                                have q16 : x6_3 < (a0.size : Int) := of_decide_eq_true (by first | (with_reducible assumption) | assumption)
                                have hx16 := bt_at a0 x6_3
                                replace p16 := eq_true p16
                                replace q16 := eq_true q16
                                have p18 : 0 ≤ (x6_3 : Int) := of_decide_eq_true (by first | (with_reducible assumption) | assumption)
                                have q18 : x6_3 < (a0.size : Int) := of_decide_eq_true (by first | (with_reducible assumption) | assumption)
                                have hx18 := bt_at a0 x6_3
                                replace p18 := eq_true p18
                                replace q18 := eq_true q18
                                go_wp2
                                go_roundg k3
                                case measure => have := HK1.out; have := HJ4.out; have := HK3.out; omega
                                case rel => exact ⟨(wrap64 (x6_3 + 1)), (by first | rfl | (simp; done) | (simp [*]; done)), H', ⟨by have := HK1.out; have := HJ4.out; have := HK3.out; omega⟩, ⟨by (with_reducible repeat (first | apply Kd.R_alloc | apply Kd.R_drewN | apply Kd.R_drew)); exact HO_3.out⟩, ⟨by repeat (first | (with_reducible first | exact HB.out | apply below_alloc | apply pw_below_drewN | apply below_drew1) | exact HB.out)⟩⟩
                              · rw [if_neg c19] at H
                                have c19b0 : ((bt a0 x6_3) == 13) = false := beq_eq_false_iff_ne.mpr c19
                                have c19b1 : ((bt a0 x6_3) != 13) = true := bne_iff_ne.mpr c19
                                by_cases c20 : x3_1.length < 5864062014805
                                · rw [if_pos c20] at H
                                  have LMc20 := Aside0.mk c20
                                  clear c20
                                  obtain ⟨y184, hy184⟩ : ∃ y_ : List (S28), y_ = (x3_1 ++ [(⟨0, x4_1, x6_3⟩ : S28)]) := ⟨_, rfl⟩
                                  replace H : (blazonref06_All.l0 k3 a0 y184 x6_3) = some r := by first | (rw [hy184]; with_reducible exact H) | (have H2_ := (Option.bind_some _ _).symm.trans H; rw [hy184]; with_reducible exact H2_) | (have H2_ := (Option.bind_some _ _).symm.trans H; with_reducible exact H2_) | with_reducible exact H | (rw [hy184]; exact H) | exact H
                                  have Ny184 := Aside0.mk hy184
                                  clear hy184
                                  have H' := Aside0.mk H
                                  clear H
                                  have p12 : 0 ≤ (x6_3 : Int) := of_decide_eq_true (by first | (with_reducible assumption) | assumption)
                                  have q12 : x6_3 < (a0.size : Int) := of_decide_eq_true (by first | (with_reducible assumption) | assumption)
                                  have hx12 := bt_at a0 x6_3
                                  replace p12 := eq_true p12
                                  replace q12 := eq_true q12
                                  have p14 : 0 ≤ (x6_3 : Int) := of_decide_eq_true (by first | (with_reducible assumption) | assumption)
                                  have q14 : x6_3 < (a0.size : Int) := of_decide_eq_true (by first | (with_reducible assumption) | assumption)
                                  have hx14 := bt_at a0 x6_3
                                  replace p14 := eq_true p14
                                  replace q14 := eq_true q14
                                  have p16 : 0 ≤ (x6_3 : Int) := of_decide_eq_true (by first | (with_reducible assumption) | assumption)
                                  have q16 : x6_3 < (a0.size : Int) := of_decide_eq_true (by first | (with_reducible assumption) | assumption)
                                  have hx16 := bt_at a0 x6_3
                                  replace p16 := eq_true p16
                                  replace q16 := eq_true q16
                                  have p18 : 0 ≤ (x6_3 : Int) := of_decide_eq_true (by first | (with_reducible assumption) | assumption)
                                  have q18 : x6_3 < (a0.size : Int) := of_decide_eq_true (by first | (with_reducible assumption) | assumption)
                                  have hx18 := bt_at a0 x6_3
                                  replace p18 := eq_true p18
                                  replace q18 := eq_true q18
                                  go_wp2_with (first | ((with_reducible refine gate_builtin (b := .append) (xs := #[.tmp 119, .tmp 124]) rfl ?_); at_builtin; refine Kd.R_append k28 (w0 := w) w.heap.size rfl (.tmp 119) (.tmp 124) 24 28 (.agg #[(.int .i64 0), (.int .i64 0), (.int .i64 0)]) 24 rfl Try.underlying24 info28 rfl (by decide) (by omega) u3 x3_1 (⟨0, x4_1, x6_3⟩ : S28) [.int .i64 0, .int .i64 x4_1, .int .i64 x6_3] (fun _ => True) (fun _ => False) rfl rfl ?aP (fun _ hk => hk.elim) ?aF ?aO ?aB ?aS ?aL ?_; (case aP => exact k28_mkM _ _ _ (⟨0, x4_1, x6_3⟩ : S28)); (case aB => exact (by repeat (first | (with_reducible first | exact HB.out | apply below_alloc | apply pw_below_drewN | apply below_drew1) | exact HB.out))); (case aF => exact (fun _ _ => trivial)); (case aO => exact (by (with_reducible repeat (first | apply Kd.R_alloc | apply Kd.R_drewN | apply Kd.R_drew)); exact HO_3.out)); (case aS => exact (below_size (by repeat (first | (with_reducible first | exact HB.out | apply below_alloc | apply pw_below_drewN | apply below_drew1) | exact HB.out)))); (case aL => have := LMc20.out; omega); intro v185 w21 ho hb hg hat; rw [← Ny184.out] at ho; have n0_ := Aside0.mk (hb); have n1_ := Aside0.mk (ho); clear HB; clear HO_3; have HB := n0_; have HO186 := n1_; clear n0_ n1_; clear ho hb hg hat))
                                  go_roundg k3
                                  case measure => have := HK1.out; have := HJ4.out; have := HK3.out; omega
                                  case rel => exact ⟨(y184), (x6_3), (by first | rfl | (simp; done) | (simp [*]; done)), H', ⟨by have := HK1.out; have := HJ4.out; have := HK3.out; omega⟩, ⟨by (with_reducible repeat (first | apply Kd.R_alloc | apply Kd.R_drewN | apply Kd.R_drew)); exact HO186.out⟩, ⟨by repeat (first | (with_reducible first | exact HB.out | apply below_alloc | apply pw_below_drewN | apply below_drew1) | exact HB.out)⟩⟩
                                · rw [if_neg c20] at H
                                  exact absurd H (by simp)
                      · rw [if_neg c11] at H
                        exact absurd H (by simp)
                    · rw [if_neg c10] at H
                      have c10b0 : decide (x6_3 < (a0.size : Int)) = false := decide_eq_false c10
                      clear c10
                      by_cases c22 : x3_1.length < 5864062014805
                      · rw [if_pos c22] at H
                        have LMc22 := Aside0.mk c22
                        clear c22
                        obtain ⟨y187, hy187⟩ : ∃ y_ : List (S28), y_ = (x3_1 ++ [(⟨0, x4_1, x6_3⟩ : S28)]) := ⟨_, rfl⟩
                        replace H : (blazonref06_All.l0 k3 a0 y187 x6_3) = some r := by first | (rw [hy187]; with_reducible exact H) | (have H2_ := (Option.bind_some _ _).symm.trans H; rw [hy187]; with_reducible exact H2_) | (have H2_ := (Option.bind_some _ _).symm.trans H; with_reducible exact H2_) | with_reducible exact H | (rw [hy187]; exact H) | exact H
                        have Ny187 := Aside0.mk hy187
                        clear hy187
                        have H' := Aside0.mk H
                        clear H
                        go_wp2_with (first | ((with_reducible refine gate_builtin (b := .append) (xs := #[.tmp 119, .tmp 124]) rfl ?_); at_builtin; refine Kd.R_append k28 (w0 := w) w.heap.size rfl (.tmp 119) (.tmp 124) 24 28 (.agg #[(.int .i64 0), (.int .i64 0), (.int .i64 0)]) 24 rfl Try.underlying24 info28 rfl (by decide) (by omega) u3 x3_1 (⟨0, x4_1, x6_3⟩ : S28) [.int .i64 0, .int .i64 x4_1, .int .i64 x6_3] (fun _ => True) (fun _ => False) rfl rfl ?aP (fun _ hk => hk.elim) ?aF ?aO ?aB ?aS ?aL ?_; (case aP => exact k28_mkM _ _ _ (⟨0, x4_1, x6_3⟩ : S28)); (case aB => exact (by repeat (first | (with_reducible first | exact HB.out | apply below_alloc | apply pw_below_drewN | apply below_drew1) | exact HB.out))); (case aF => exact (fun _ _ => trivial)); (case aO => exact (by (with_reducible repeat (first | apply Kd.R_alloc | apply Kd.R_drewN | apply Kd.R_drew)); exact HO_3.out)); (case aS => exact (below_size (by repeat (first | (with_reducible first | exact HB.out | apply below_alloc | apply pw_below_drewN | apply below_drew1) | exact HB.out)))); (case aL => have := LMc22.out; omega); intro v188 w23 ho hb hg hat; rw [← Ny187.out] at ho; have n0_ := Aside0.mk (hb); have n1_ := Aside0.mk (ho); clear HB; clear HO_3; have HB := n0_; have HO189 := n1_; clear n0_ n1_; clear ho hb hg hat))
                        go_roundg k3
                        case measure => have := HK1.out; have := HJ4.out; have := HK3.out; omega
                        case rel => exact ⟨(y187), (x6_3), (by first | rfl | (simp; done) | (simp [*]; done)), H', ⟨by have := HK1.out; have := HJ4.out; have := HK3.out; omega⟩, ⟨by (with_reducible repeat (first | apply Kd.R_alloc | apply Kd.R_drewN | apply Kd.R_drew)); exact HO189.out⟩, ⟨by repeat (first | (with_reducible first | exact HB.out | apply below_alloc | apply pw_below_drewN | apply below_drew1) | exact HB.out)⟩⟩
                      · rw [if_neg c22] at H
                        exact absurd H (by simp)
              · replace c9 := Bool.eq_false_iff.mpr c9
                subst c9
                have H1 : (if (bt a0 x4_1) = 35 then (blazonref06_All.l2 kj4 a0 x3_1 x4_1 (wrap64 (x4_1 + 1)) 1) else ((blazonref06_Letter.f (bt a0 x4_1)).bind fun t196 => (if t196 = true then (blazonref06_All.l3 kj4 a0 x3_1 x4_1 (wrap64 (x4_1 + 1)) 2) else ((blazonref06_Digit.f (bt a0 x4_1)).bind fun t205 => (if t205 = true then (blazonref06_All.l4 kj4 a0 x3_1 x4_1 (wrap64 (x4_1 + 1)) 3) else (if 0 ≤ x4_1 then (if x4_1 ≤ (a0.size : Int) then ((blazonref06_sign.f kj4 (a0.extract (x4_1 : Int).toNat a0.size)).bind fun t213 => (if t213 > 0 then (if x3_1.length < 5864062014805 then (blazonref06_All.l0 kj4 a0 (x3_1 ++ [(⟨4, x4_1, wrap64 (x4_1 + t213)⟩ : S28)]) (wrap64 (x4_1 + t213))) else (none)) else (if x3_1.length < 5864062014805 then (blazonref06_All.l0 kj4 a0 (x3_1 ++ [(⟨5, x4_1, (wrap64 (x4_1 + 1))⟩ : S28)]) (wrap64 (x4_1 + 1))) else (none)))) else (none)) else (none))))))) = some r := by rw [if_neg (show ¬ (false = true) by decide)] at H; exact H
                clear H
                have H := H1
                clear H1
                by_cases c24 : (bt a0 x4_1) = 35
                · rw [if_pos c24] at H
                  have c24b0 : ((bt a0 x4_1) == 35) = true := beq_iff_eq.mpr c24
                  have c24b1 : ((bt a0 x4_1) != 35) = false := bne_eq_false_iff_eq.mpr c24
                  clear c24
                  have H' := Aside0.mk H
                  clear H
                  go_wp2
                  go_loopg [6] kj4 (fun kq v6 w' => ∃ (x6_3 : Int), v6 = .int .i64 x6_3 ∧ Aside0 (blazonref06_All.l2 kq a0 x3_1 x4_1 x6_3 1 = some r) ∧ Aside0 (kq ≤ kj4) ∧ Aside0 (Kd.R k28 28 w' w.heap.size (fun _ => True) u3 x3_1) ∧ Aside0 (Below w.heap.size w w'))
                  case atStart => exact ⟨((wrap64 (x4_1 + 1))), (by first | rfl | (simp; done) | (simp [*]; done)), H', ⟨Nat.le_refl _⟩, ⟨by (with_reducible repeat (first | apply Kd.R_alloc | apply Kd.R_drewN | apply Kd.R_drew)); exact HO_3.out⟩, ⟨by repeat (first | (with_reducible first | exact HB.out | apply below_alloc | apply pw_below_drewN | apply below_drew1) | exact HB.out)⟩⟩
                  case round =>
                    clear H'
                    try clear c1
                    try clear p1
                    try clear q1
                    try clear hx1
                    try clear c2
                    try clear c2b0
                    try clear p2
                    try clear c3
                    try clear c3b0
                    try clear p4
                    try clear q4
                    try clear hx4
                    try clear c6
                    try clear c6b0
                    try clear c6b1
                    try clear p6
                    try clear c7
                    try clear c7b0
                    try clear c7b1
                    try clear c8
                    try clear c8b0
                    try clear c8b1
                    try clear c9
                    try clear c10
                    try clear c10b0
                    try clear c11
                    try clear c11b0
                    try clear p12
                    try clear q12
                    try clear hx12
                    try clear c13
                    try clear c13b0
                    try clear c13b1
                    try clear p14
                    try clear q14
                    try clear hx14
                    try clear c15
                    try clear c15b0
                    try clear c15b1
                    try clear p16
                    try clear q16
                    try clear hx16
                    try clear c17
                    try clear c17b0
                    try clear c17b1
                    try clear p18
                    try clear q18
                    try clear hx18
                    try clear c19
                    try clear c19b0
                    try clear c19b1
                    try clear c20
                    try clear c21
                    try clear c22
                    try clear c24
                    try clear c24b0
                    try clear c24b1
                    try clear p12
                    try clear p14
                    try clear p16
                    try clear p18
                    try clear p2
                    try clear p4
                    try clear p6
                    try clear q12
                    try clear q14
                    try clear q16
                    try clear q18
                    try clear q4
                    obtain ⟨x6_3, rfl, HA, HK3, HO_3, HB⟩ := hrel
                    cases gk with
                    | zero => exact absurd HA.out (by simp [blazonref06_All.l2])
                    | succ k3 =>
                      have H := HA.out
                      clear HA
                      simp only [blazonref06_All.l2] at H
                      by_cases c25 : x6_3 < (a0.size : Int)
                      · rw [if_pos c25] at H
                        have c25b0 : decide (x6_3 < (a0.size : Int)) = true := decide_eq_true c25
                        clear c25
                        by_cases c26 : 0 ≤ x6_3
                        · rw [if_pos c26] at H
                          have c26b0 : decide (0 ≤ x6_3) = true := decide_eq_true c26
                          clear c26
                          by_cases c28 : (bt a0 x6_3) = 10
                          · rw [if_pos c28] at H
                            have c28b0 : ((bt a0 x6_3) == 10) = true := beq_iff_eq.mpr c28
                            have c28b1 : ((bt a0 x6_3) != 10) = false := bne_eq_false_iff_eq.mpr c28
                            clear c28
                            by_cases c29 : x3_1.length < 5864062014805
                            · rw [if_pos c29] at H
                              have LMc29 := Aside0.mk c29
                              clear c29
                              obtain ⟨y190, hy190⟩ : ∃ y_ : List (S28), y_ = (x3_1 ++ [(⟨1, x4_1, x6_3⟩ : S28)]) := ⟨_, rfl⟩
                              replace H : (blazonref06_All.l0 k3 a0 y190 x6_3) = some r := by first | (rw [hy190]; with_reducible exact H) | (have H2_ := (Option.bind_some _ _).symm.trans H; rw [hy190]; with_reducible exact H2_) | (have H2_ := (Option.bind_some _ _).symm.trans H; with_reducible exact H2_) | with_reducible exact H | (rw [hy190]; exact H) | exact H
                              have Ny190 := Aside0.mk hy190
                              clear hy190
                              have H' := Aside0.mk H
                              clear H
                              have p27 : 0 ≤ (x6_3 : Int) := of_decide_eq_true (by first | (with_reducible assumption) | assumption)
                              have q27 : x6_3 < (a0.size : Int) := of_decide_eq_true (by first | (with_reducible assumption) | assumption)
                              have hx27 := bt_at a0 x6_3
                              replace p27 := eq_true p27
                              replace q27 := eq_true q27
                              go_wp2_with (first | ((with_reducible refine gate_builtin (b := .append) (xs := #[.tmp 119, .tmp 124]) rfl ?_); at_builtin; refine Kd.R_append k28 (w0 := w) w.heap.size rfl (.tmp 119) (.tmp 124) 24 28 (.agg #[(.int .i64 0), (.int .i64 0), (.int .i64 0)]) 24 rfl Try.underlying24 info28 rfl (by decide) (by omega) u3 x3_1 (⟨1, x4_1, x6_3⟩ : S28) [.int .i64 1, .int .i64 x4_1, .int .i64 x6_3] (fun _ => True) (fun _ => False) rfl rfl ?aP (fun _ hk => hk.elim) ?aF ?aO ?aB ?aS ?aL ?_; (case aP => exact k28_mkM _ _ _ (⟨1, x4_1, x6_3⟩ : S28)); (case aB => exact (by repeat (first | (with_reducible first | exact HB.out | apply below_alloc | apply pw_below_drewN | apply below_drew1) | exact HB.out))); (case aF => exact (fun _ _ => trivial)); (case aO => exact (by (with_reducible repeat (first | apply Kd.R_alloc | apply Kd.R_drewN | apply Kd.R_drew)); exact HO_3.out)); (case aS => exact (below_size (by repeat (first | (with_reducible first | exact HB.out | apply below_alloc | apply pw_below_drewN | apply below_drew1) | exact HB.out)))); (case aL => have := LMc29.out; omega); intro v191 w30 ho hb hg hat; rw [← Ny190.out] at ho; have n0_ := Aside0.mk (hb); have n1_ := Aside0.mk (ho); clear HB; clear HO_3; have HB := n0_; have HO192 := n1_; clear n0_ n1_; clear ho hb hg hat))
                              go_roundg k3
                              case measure => have := HK1.out; have := HJ4.out; have := HK3.out; omega
                              case rel => exact ⟨(y190), (x6_3), (by first | rfl | (simp; done) | (simp [*]; done)), H', ⟨by have := HK1.out; have := HJ4.out; have := HK3.out; omega⟩, ⟨by (with_reducible repeat (first | apply Kd.R_alloc | apply Kd.R_drewN | apply Kd.R_drew)); exact HO192.out⟩, ⟨by repeat (first | (with_reducible first | exact HB.out | apply below_alloc | apply pw_below_drewN | apply below_drew1) | exact HB.out)⟩⟩
                            · rw [if_neg c29] at H
                              exact absurd H (by simp)
                          · rw [if_neg c28] at H
                            have c28b0 : ((bt a0 x6_3) == 10) = false := beq_eq_false_iff_ne.mpr c28
                            have c28b1 : ((bt a0 x6_3) != 10) = true := bne_iff_ne.mpr c28
                            have H' := Aside0.mk H
                            clear H
                            have p27 : 0 ≤ (x6_3 : Int) := of_decide_eq_true (by first | (with_reducible assumption) | assumption)
                            have q27 : x6_3 < (a0.size : Int) := of_decide_eq_true (by first | (with_reducible assumption) | assumption)
                            have hx27 := bt_at a0 x6_3
                            replace p27 := eq_true p27
                            replace q27 := eq_true q27
                            go_wp2
                            go_roundg k3
                            case measure => have := HK1.out; have := HJ4.out; have := HK3.out; omega
                            case rel => exact ⟨(wrap64 (x6_3 + 1)), (by first | rfl | (simp; done) | (simp [*]; done)), H', ⟨by have := HK1.out; have := HJ4.out; have := HK3.out; omega⟩, ⟨by (with_reducible repeat (first | apply Kd.R_alloc | apply Kd.R_drewN | apply Kd.R_drew)); exact HO_3.out⟩, ⟨by repeat (first | (with_reducible first | exact HB.out | apply below_alloc | apply pw_below_drewN | apply below_drew1) | exact HB.out)⟩⟩
                        · rw [if_neg c26] at H
                          exact absurd H (by simp)
                      · rw [if_neg c25] at H
                        have c25b0 : decide (x6_3 < (a0.size : Int)) = false := decide_eq_false c25
                        clear c25
                        by_cases c31 : x3_1.length < 5864062014805
                        · rw [if_pos c31] at H
                          have LMc31 := Aside0.mk c31
                          clear c31
                          obtain ⟨y193, hy193⟩ : ∃ y_ : List (S28), y_ = (x3_1 ++ [(⟨1, x4_1, x6_3⟩ : S28)]) := ⟨_, rfl⟩
                          replace H : (blazonref06_All.l0 k3 a0 y193 x6_3) = some r := by first | (rw [hy193]; with_reducible exact H) | (have H2_ := (Option.bind_some _ _).symm.trans H; rw [hy193]; with_reducible exact H2_) | (have H2_ := (Option.bind_some _ _).symm.trans H; with_reducible exact H2_) | with_reducible exact H | (rw [hy193]; exact H) | exact H
                          have Ny193 := Aside0.mk hy193
                          clear hy193
                          have H' := Aside0.mk H
                          clear H
                          go_wp2_with (first | ((with_reducible refine gate_builtin (b := .append) (xs := #[.tmp 119, .tmp 124]) rfl ?_); at_builtin; refine Kd.R_append k28 (w0 := w) w.heap.size rfl (.tmp 119) (.tmp 124) 24 28 (.agg #[(.int .i64 0), (.int .i64 0), (.int .i64 0)]) 24 rfl Try.underlying24 info28 rfl (by decide) (by omega) u3 x3_1 (⟨1, x4_1, x6_3⟩ : S28) [.int .i64 1, .int .i64 x4_1, .int .i64 x6_3] (fun _ => True) (fun _ => False) rfl rfl ?aP (fun _ hk => hk.elim) ?aF ?aO ?aB ?aS ?aL ?_; (case aP => exact k28_mkM _ _ _ (⟨1, x4_1, x6_3⟩ : S28)); (case aB => exact (by repeat (first | (with_reducible first | exact HB.out | apply below_alloc | apply pw_below_drewN | apply below_drew1) | exact HB.out))); (case aF => exact (fun _ _ => trivial)); (case aO => exact (by (with_reducible repeat (first | apply Kd.R_alloc | apply Kd.R_drewN | apply Kd.R_drew)); exact HO_3.out)); (case aS => exact (below_size (by repeat (first | (with_reducible first | exact HB.out | apply below_alloc | apply pw_below_drewN | apply below_drew1) | exact HB.out)))); (case aL => have := LMc31.out; omega); intro v194 w32 ho hb hg hat; rw [← Ny193.out] at ho; have n0_ := Aside0.mk (hb); have n1_ := Aside0.mk (ho); clear HB; clear HO_3; have HB := n0_; have HO195 := n1_; clear n0_ n1_; clear ho hb hg hat))
                          go_roundg k3
                          case measure => have := HK1.out; have := HJ4.out; have := HK3.out; omega
                          case rel => exact ⟨(y193), (x6_3), (by first | rfl | (simp; done) | (simp [*]; done)), H', ⟨by have := HK1.out; have := HJ4.out; have := HK3.out; omega⟩, ⟨by (with_reducible repeat (first | apply Kd.R_alloc | apply Kd.R_drewN | apply Kd.R_drew)); exact HO195.out⟩, ⟨by repeat (first | (with_reducible first | exact HB.out | apply below_alloc | apply pw_below_drewN | apply below_drew1) | exact HB.out)⟩⟩
                        · rw [if_neg c31] at H
                          exact absurd H (by simp)
                · rw [if_neg c24] at H
                  have c24b0 : ((bt a0 x4_1) == 35) = false := beq_eq_false_iff_ne.mpr c24
                  have c24b1 : ((bt a0 x4_1) != 35) = true := bne_iff_ne.mpr c24
                  replace H := Option.bind_eq_some_iff.mp H
                  obtain ⟨t196, A330, H⟩ := H
                  replace H : (if t196 = true then (blazonref06_All.l3 kj4 a0 x3_1 x4_1 (wrap64 (x4_1 + 1)) 2) else ((blazonref06_Digit.f (bt a0 x4_1)).bind fun t205 => (if t205 = true then (blazonref06_All.l4 kj4 a0 x3_1 x4_1 (wrap64 (x4_1 + 1)) 3) else (if 0 ≤ x4_1 then (if x4_1 ≤ (a0.size : Int) then ((blazonref06_sign.f kj4 (a0.extract (x4_1 : Int).toNat a0.size)).bind fun t213 => (if t213 > 0 then (if x3_1.length < 5864062014805 then (blazonref06_All.l0 kj4 a0 (x3_1 ++ [(⟨4, x4_1, wrap64 (x4_1 + t213)⟩ : S28)]) (wrap64 (x4_1 + t213))) else (none)) else (if x3_1.length < 5864062014805 then (blazonref06_All.l0 kj4 a0 (x3_1 ++ [(⟨5, x4_1, (wrap64 (x4_1 + 1))⟩ : S28)]) (wrap64 (x4_1 + 1))) else (none)))) else (none)) else (none))))) = some r := H
                  have A33 := Aside0.mk A330
                  clear A330
                  by_cases c34 : t196 = true
                  · subst c34
                    have H1 : (blazonref06_All.l3 kj4 a0 x3_1 x4_1 (wrap64 (x4_1 + 1)) 2) = some r := by rw [if_pos rfl] at H; exact H
                    clear H
                    have H := H1
                    clear H1
                    have H' := Aside0.mk H
                    clear H
                    go_wp2_with (first | ((with_reducible refine gate_callee (f := 67) rfl ?_); refine goesL_ (some 77) rfl rfl Try.func67 (by kernel_rfl) rfl #[.int .u8 (bt a0 x4_1)] rfl (by (try simp only [List.map_toArray, List.map_cons, List.map_nil]); first | done | rfl | (simp only [List.length_drop, List.length_take]; rfl)) ?_; (with_reducible refine (blazonref06_Letter.calls (bt a0 x4_1) true _ A33.out).mono ?_); rintro e w' ⟨rfl, ⟨nd, rfl⟩⟩; refine ⟨_, rfl, ?_⟩))
                    go_loopg [6] kj4 (fun kq v6 w' => ∃ (x6_3 : Int), v6 = .int .i64 x6_3 ∧ Aside0 (blazonref06_All.l3 kq a0 x3_1 x4_1 x6_3 2 = some r) ∧ Aside0 (kq ≤ kj4) ∧ Aside0 (Kd.R k28 28 w' w.heap.size (fun _ => True) u3 x3_1) ∧ Aside0 (Below w.heap.size w w'))
                    case atStart => exact ⟨((wrap64 (x4_1 + 1))), (by first | rfl | (simp; done) | (simp [*]; done)), H', ⟨Nat.le_refl _⟩, ⟨by (with_reducible repeat (first | apply Kd.R_alloc | apply Kd.R_drewN | apply Kd.R_drew)); exact HO_3.out⟩, ⟨by repeat (first | (with_reducible first | exact HB.out | apply below_alloc | apply pw_below_drewN | apply below_drew1) | exact HB.out)⟩⟩
                    case round =>
                      clear H'
                      try clear c1
                      try clear p1
                      try clear q1
                      try clear hx1
                      try clear c2
                      try clear c2b0
                      try clear p2
                      try clear q2
                      try clear hx2
                      try clear c3
                      try clear c3b0
                      try clear p4
                      try clear q4
                      try clear hx4
                      try clear c6
                      try clear c6b0
                      try clear c6b1
                      try clear p6
                      try clear c7
                      try clear c7b0
                      try clear c7b1
                      try clear c8
                      try clear c8b0
                      try clear c8b1
                      try clear c9
                      try clear c10
                      try clear c10b0
                      try clear c11
                      try clear c11b0
                      try clear p12
                      try clear q12
                      try clear hx12
                      try clear c13
                      try clear c13b0
                      try clear c13b1
                      try clear p14
                      try clear q14
                      try clear hx14
                      try clear c15
                      try clear c15b0
                      try clear c15b1
                      try clear p16
                      try clear q16
                      try clear hx16
                      try clear c17
                      try clear c17b0
                      try clear c17b1
                      try clear p18
                      try clear q18
                      try clear hx18
                      try clear c19
                      try clear c19b0
                      try clear c19b1
                      try clear c20
                      try clear c21
                      try clear c22
                      try clear c24
                      try clear c24b0
                      try clear c24b1
                      try clear c25
                      try clear c25b0
                      try clear c26
                      try clear c26b0
                      try clear p27
                      try clear q27
                      try clear hx27
                      try clear c28
                      try clear c28b0
                      try clear c28b1
                      try clear c29
                      try clear c31
                      try clear c34
                      try clear p1
                      try clear p12
                      try clear p14
                      try clear p16
                      try clear p18
                      try clear p2
                      try clear p27
                      try clear p4
                      try clear p6
                      try clear q1
                      try clear q12
                      try clear q14
                      try clear q16
                      try clear q18
                      try clear q27
                      try clear q4
                      obtain ⟨x6_3, rfl, HA, HK3, HO_3, HB⟩ := hrel
                      cases gk with
                      | zero => exact absurd HA.out (by simp [blazonref06_All.l3])
                      | succ k3 =>
                        have H := HA.out
                        clear HA
                        simp only [blazonref06_All.l3] at H
                        by_cases c35 : x6_3 < (a0.size : Int)
                        · rw [if_pos c35] at H
                          have c35b0 : decide (x6_3 < (a0.size : Int)) = true := decide_eq_true c35
                          clear c35
                          by_cases c36 : 0 ≤ x6_3
                          · rw [if_pos c36] at H
                            have c36b0 : decide (0 ≤ x6_3) = true := decide_eq_true c36
                            clear c36
                            replace H := Option.bind_eq_some_iff.mp H
                            obtain ⟨t197, A380, H⟩ := H
                            replace H : (if t197 = true then (blazonref06_All.l3 k3 a0 x3_1 x4_1 (wrap64 (x6_3 + 1)) 2) else ((blazonref06_Digit.f (bt a0 x6_3)).bind fun t198 => (if t198 = true then (blazonref06_All.l3 k3 a0 x3_1 x4_1 (wrap64 (x6_3 + 1)) 2) else (if x3_1.length < 5864062014805 then (blazonref06_All.l0 k3 a0 (x3_1 ++ [(⟨2, x4_1, x6_3⟩ : S28)]) x6_3) else (none))))) = some r := H
                            have A38 := Aside0.mk A380
                            clear A380
                            by_cases c39 : t197 = true
                            · subst c39
                              have H1 : (blazonref06_All.l3 k3 a0 x3_1 x4_1 (wrap64 (x6_3 + 1)) 2) = some r := by rw [if_pos rfl] at H; exact H
                              clear H
                              have H := H1
                              clear H1
                              have H' := Aside0.mk H
                              clear H
                              have p37 : 0 ≤ (x6_3 : Int) := of_decide_eq_true (by first | (with_reducible assumption) | assumption)
                              have q37 : x6_3 < (a0.size : Int) := of_decide_eq_true (by first | (with_reducible assumption) | assumption)
                              have hx37 := bt_at a0 x6_3
                              replace p37 := eq_true p37
                              replace q37 := eq_true q37
                              go_wp2_with (first | (go_at_call 67; (with_reducible refine (blazonref06_Letter.calls (bt a0 x6_3) true _ A38.out).mono ?_); rintro e w' ⟨rfl, ⟨nd, rfl⟩⟩))
                              go_roundg k3
                              case measure => have := HK1.out; have := HJ4.out; have := HK3.out; omega
                              case rel => exact ⟨(wrap64 (x6_3 + 1)), (by first | rfl | (simp; done) | (simp [*]; done)), H', ⟨by have := HK1.out; have := HJ4.out; have := HK3.out; omega⟩, ⟨by (with_reducible repeat (first | apply Kd.R_alloc | apply Kd.R_drewN | apply Kd.R_drew)); exact HO_3.out⟩, ⟨by repeat (first | (with_reducible first | exact HB.out | apply below_alloc | apply pw_below_drewN | apply below_drew1) | exact HB.out)⟩⟩
                            · replace c39 := Bool.eq_false_iff.mpr c39
                              subst c39
                              have H1 : ((blazonref06_Digit.f (bt a0 x6_3)).bind fun t198 => (if t198 = true then (blazonref06_All.l3 k3 a0 x3_1 x4_1 (wrap64 (x6_3 + 1)) 2) else (if x3_1.length < 5864062014805 then (blazonref06_All.l0 k3 a0 (x3_1 ++ [(⟨2, x4_1, x6_3⟩ : S28)]) x6_3) else (none)))) = some r := by rw [if_neg (show ¬ (false = true) by decide)] at H; exact H
                              clear H
                              have H := H1
                              clear H1
                              replace H := Option.bind_eq_some_iff.mp H
                              obtain ⟨t198, A410, H⟩ := H
                              replace H : (if t198 = true then (blazonref06_All.l3 k3 a0 x3_1 x4_1 (wrap64 (x6_3 + 1)) 2) else (if x3_1.length < 5864062014805 then (blazonref06_All.l0 k3 a0 (x3_1 ++ [(⟨2, x4_1, x6_3⟩ : S28)]) x6_3) else (none))) = some r := H
                              have A41 := Aside0.mk A410
                              clear A410
                              by_cases c42 : t198 = true
                              · subst c42
                                have H1 : (blazonref06_All.l3 k3 a0 x3_1 x4_1 (wrap64 (x6_3 + 1)) 2) = some r := by rw [if_pos rfl] at H; exact H
                                clear H
                                have H := H1
                                clear H1
                                have H' := Aside0.mk H
                                clear H
                                have p37 : 0 ≤ (x6_3 : Int) := of_decide_eq_true (by first | (with_reducible assumption) | assumption)
                                have q37 : x6_3 < (a0.size : Int) := of_decide_eq_true (by first | (with_reducible assumption) | assumption)
                                have hx37 := bt_at a0 x6_3
                                replace p37 := eq_true p37
                                replace q37 := eq_true q37
                                go_wp2_with (first | (go_at_call 67; (with_reducible refine (blazonref06_Letter.calls (bt a0 x6_3) false _ A38.out).mono ?_); rintro e w' ⟨rfl, ⟨nd, rfl⟩⟩; have p40 : 0 ≤ (x6_3 : Int) := of_decide_eq_true (by first | (with_reducible assumption) | assumption); have q40 : x6_3 < (a0.size : Int) := of_decide_eq_true (by first | (with_reducible assumption) | assumption); have hx40 := bt_at a0 x6_3; replace p40 := eq_true p40; replace q40 := eq_true q40) | (go_at_call 68; (with_reducible refine (blazonref06_Digit.calls (bt a0 x6_3) true _ A41.out).mono ?_); rintro e w' ⟨rfl, ⟨nd, rfl⟩⟩))
                                go_roundg k3
                                case measure => have := HK1.out; have := HJ4.out; have := HK3.out; omega
                                case rel => exact ⟨(wrap64 (x6_3 + 1)), (by first | rfl | (simp; done) | (simp [*]; done)), H', ⟨by have := HK1.out; have := HJ4.out; have := HK3.out; omega⟩, ⟨by (with_reducible repeat (first | apply Kd.R_alloc | apply Kd.R_drewN | apply Kd.R_drew)); exact HO_3.out⟩, ⟨by repeat (first | (with_reducible first | exact HB.out | apply below_alloc | apply pw_below_drewN | apply below_drew1) | exact HB.out)⟩⟩
                              · replace c42 := Bool.eq_false_iff.mpr c42
                                subst c42
                                have H1 : (if x3_1.length < 5864062014805 then (blazonref06_All.l0 k3 a0 (x3_1 ++ [(⟨2, x4_1, x6_3⟩ : S28)]) x6_3) else (none)) = some r := by rw [if_neg (show ¬ (false = true) by decide)] at H; exact H
                                clear H
                                have H := H1
                                clear H1
                                by_cases c43 : x3_1.length < 5864062014805
                                · rw [if_pos c43] at H
                                  have LMc43 := Aside0.mk c43
                                  clear c43
                                  obtain ⟨y199, hy199⟩ : ∃ y_ : List (S28), y_ = (x3_1 ++ [(⟨2, x4_1, x6_3⟩ : S28)]) := ⟨_, rfl⟩
                                  replace H : (blazonref06_All.l0 k3 a0 y199 x6_3) = some r := by first | (rw [hy199]; with_reducible exact H) | (have H2_ := (Option.bind_some _ _).symm.trans H; rw [hy199]; with_reducible exact H2_) | (have H2_ := (Option.bind_some _ _).symm.trans H; with_reducible exact H2_) | with_reducible exact H | (rw [hy199]; exact H) | exact H
                                  have Ny199 := Aside0.mk hy199
                                  clear hy199
                                  have H' := Aside0.mk H
                                  clear H
                                  have p37 : 0 ≤ (x6_3 : Int) := of_decide_eq_true (by first | (with_reducible assumption) | assumption)
                                  have q37 : x6_3 < (a0.size : Int) := of_decide_eq_true (by first | (with_reducible assumption) | assumption)
                                  have hx37 := bt_at a0 x6_3
                                  replace p37 := eq_true p37
                                  replace q37 := eq_true q37
                                  go_wp2_with (first | (go_at_call 67; (with_reducible refine (blazonref06_Letter.calls (bt a0 x6_3) false _ A38.out).mono ?_); rintro e w' ⟨rfl, ⟨nd, rfl⟩⟩; have p40 : 0 ≤ (x6_3 : Int) := of_decide_eq_true (by first | (with_reducible assumption) | assumption); have q40 : x6_3 < (a0.size : Int) := of_decide_eq_true (by first | (with_reducible assumption) | assumption); have hx40 := bt_at a0 x6_3; replace p40 := eq_true p40; replace q40 := eq_true q40) | (go_at_call 68; (with_reducible refine (blazonref06_Digit.calls (bt a0 x6_3) false _ A41.out).mono ?_); rintro e w' ⟨rfl, ⟨nd, rfl⟩⟩) | ((with_reducible refine gate_builtin (b := .append) (xs := #[.tmp 119, .tmp 124]) rfl ?_); at_builtin; refine Kd.R_append k28 (w0 := w) w.heap.size rfl (.tmp 119) (.tmp 124) 24 28 (.agg #[(.int .i64 0), (.int .i64 0), (.int .i64 0)]) 24 rfl Try.underlying24 info28 rfl (by decide) (by omega) u3 x3_1 (⟨2, x4_1, x6_3⟩ : S28) [.int .i64 2, .int .i64 x4_1, .int .i64 x6_3] (fun _ => True) (fun _ => False) rfl rfl ?aP (fun _ hk => hk.elim) ?aF ?aO ?aB ?aS ?aL ?_; (case aP => exact k28_mkM _ _ _ (⟨2, x4_1, x6_3⟩ : S28)); (case aB => exact (by repeat (first | (with_reducible first | exact HB.out | apply below_alloc | apply pw_below_drewN | apply below_drew1) | exact HB.out))); (case aF => exact (fun _ _ => trivial)); (case aO => exact (by (with_reducible repeat (first | apply Kd.R_alloc | apply Kd.R_drewN | apply Kd.R_drew)); exact HO_3.out)); (case aS => exact (below_size (by repeat (first | (with_reducible first | exact HB.out | apply below_alloc | apply pw_below_drewN | apply below_drew1) | exact HB.out)))); (case aL => have := LMc43.out; omega); intro v200 w44 ho hb hg hat; rw [← Ny199.out] at ho; have n0_ := Aside0.mk (hb); have n1_ := Aside0.mk (ho); clear HB; clear HO_3; have HB := n0_; have HO201 := n1_; clear n0_ n1_; clear ho hb hg hat))
                                  go_roundg k3
                                  case measure => have := HK1.out; have := HJ4.out; have := HK3.out; omega
                                  case rel => exact ⟨(y199), (x6_3), (by first | rfl | (simp; done) | (simp [*]; done)), H', ⟨by have := HK1.out; have := HJ4.out; have := HK3.out; omega⟩, ⟨by (with_reducible repeat (first | apply Kd.R_alloc | apply Kd.R_drewN | apply Kd.R_drew)); exact HO201.out⟩, ⟨by repeat (first | (with_reducible first | exact HB.out | apply below_alloc | apply pw_below_drewN | apply below_drew1) | exact HB.out)⟩⟩
                                · rw [if_neg c43] at H
                                  exact absurd H (by simp)
                          · rw [if_neg c36] at H
                            exact absurd H (by simp)
                        · rw [if_neg c35] at H
                          have c35b0 : decide (x6_3 < (a0.size : Int)) = false := decide_eq_false c35
                          clear c35
                          by_cases c45 : x3_1.length < 5864062014805
                          · rw [if_pos c45] at H
                            have LMc45 := Aside0.mk c45
                            clear c45
                            obtain ⟨y202, hy202⟩ : ∃ y_ : List (S28), y_ = (x3_1 ++ [(⟨2, x4_1, x6_3⟩ : S28)]) := ⟨_, rfl⟩
                            replace H : (blazonref06_All.l0 k3 a0 y202 x6_3) = some r := by first | (rw [hy202]; with_reducible exact H) | (have H2_ := (Option.bind_some _ _).symm.trans H; rw [hy202]; with_reducible exact H2_) | (have H2_ := (Option.bind_some _ _).symm.trans H; with_reducible exact H2_) | with_reducible exact H | (rw [hy202]; exact H) | exact H
                            have Ny202 := Aside0.mk hy202
                            clear hy202
                            have H' := Aside0.mk H
                            clear H
                            go_wp2_with (first | ((with_reducible refine gate_builtin (b := .append) (xs := #[.tmp 119, .tmp 124]) rfl ?_); at_builtin; refine Kd.R_append k28 (w0 := w) w.heap.size rfl (.tmp 119) (.tmp 124) 24 28 (.agg #[(.int .i64 0), (.int .i64 0), (.int .i64 0)]) 24 rfl Try.underlying24 info28 rfl (by decide) (by omega) u3 x3_1 (⟨2, x4_1, x6_3⟩ : S28) [.int .i64 2, .int .i64 x4_1, .int .i64 x6_3] (fun _ => True) (fun _ => False) rfl rfl ?aP (fun _ hk => hk.elim) ?aF ?aO ?aB ?aS ?aL ?_; (case aP => exact k28_mkM _ _ _ (⟨2, x4_1, x6_3⟩ : S28)); (case aB => exact (by repeat (first | (with_reducible first | exact HB.out | apply below_alloc | apply pw_below_drewN | apply below_drew1) | exact HB.out))); (case aF => exact (fun _ _ => trivial)); (case aO => exact (by (with_reducible repeat (first | apply Kd.R_alloc | apply Kd.R_drewN | apply Kd.R_drew)); exact HO_3.out)); (case aS => exact (below_size (by repeat (first | (with_reducible first | exact HB.out | apply below_alloc | apply pw_below_drewN | apply below_drew1) | exact HB.out)))); (case aL => have := LMc45.out; omega); intro v203 w46 ho hb hg hat; rw [← Ny202.out] at ho; have n0_ := Aside0.mk (hb); have n1_ := Aside0.mk (ho); clear HB; clear HO_3; have HB := n0_; have HO204 := n1_; clear n0_ n1_; clear ho hb hg hat))
                            go_roundg k3
                            case measure => have := HK1.out; have := HJ4.out; have := HK3.out; omega
                            case rel => exact ⟨(y202), (x6_3), (by first | rfl | (simp; done) | (simp [*]; done)), H', ⟨by have := HK1.out; have := HJ4.out; have := HK3.out; omega⟩, ⟨by (with_reducible repeat (first | apply Kd.R_alloc | apply Kd.R_drewN | apply Kd.R_drew)); exact HO204.out⟩, ⟨by repeat (first | (with_reducible first | exact HB.out | apply below_alloc | apply pw_below_drewN | apply below_drew1) | exact HB.out)⟩⟩
                          · rw [if_neg c45] at H
                            exact absurd H (by simp)
                  · replace c34 := Bool.eq_false_iff.mpr c34
                    subst c34
                    have H1 : ((blazonref06_Digit.f (bt a0 x4_1)).bind fun t205 => (if t205 = true then (blazonref06_All.l4 kj4 a0 x3_1 x4_1 (wrap64 (x4_1 + 1)) 3) else (if 0 ≤ x4_1 then (if x4_1 ≤ (a0.size : Int) then ((blazonref06_sign.f kj4 (a0.extract (x4_1 : Int).toNat a0.size)).bind fun t213 => (if t213 > 0 then (if x3_1.length < 5864062014805 then (blazonref06_All.l0 kj4 a0 (x3_1 ++ [(⟨4, x4_1, wrap64 (x4_1 + t213)⟩ : S28)]) (wrap64 (x4_1 + t213))) else (none)) else (if x3_1.length < 5864062014805 then (blazonref06_All.l0 kj4 a0 (x3_1 ++ [(⟨5, x4_1, (wrap64 (x4_1 + 1))⟩ : S28)]) (wrap64 (x4_1 + 1))) else (none)))) else (none)) else (none)))) = some r := by rw [if_neg (show ¬ (false = true) by decide)] at H; exact H
                    clear H
                    have H := H1
                    clear H1
                    replace H := Option.bind_eq_some_iff.mp H
                    obtain ⟨t205, A470, H⟩ := H
                    replace H : (if t205 = true then (blazonref06_All.l4 kj4 a0 x3_1 x4_1 (wrap64 (x4_1 + 1)) 3) else (if 0 ≤ x4_1 then (if x4_1 ≤ (a0.size : Int) then ((blazonref06_sign.f kj4 (a0.extract (x4_1 : Int).toNat a0.size)).bind fun t213 => (if t213 > 0 then (if x3_1.length < 5864062014805 then (blazonref06_All.l0 kj4 a0 (x3_1 ++ [(⟨4, x4_1, wrap64 (x4_1 + t213)⟩ : S28)]) (wrap64 (x4_1 + t213))) else (none)) else (if x3_1.length < 5864062014805 then (blazonref06_All.l0 kj4 a0 (x3_1 ++ [(⟨5, x4_1, (wrap64 (x4_1 + 1))⟩ : S28)]) (wrap64 (x4_1 + 1))) else (none)))) else (none)) else (none))) = some r := H
                    have A47 := Aside0.mk A470
                    clear A470
                    by_cases c48 : t205 = true
                    · subst c48
                      have H1 : (blazonref06_All.l4 kj4 a0 x3_1 x4_1 (wrap64 (x4_1 + 1)) 3) = some r := by rw [if_pos rfl] at H; exact H
                      clear H
                      have H := H1
                      clear H1
                      have H' := Aside0.mk H
                      clear H
                      go_wp2_with (first | ((with_reducible refine gate_callee (f := 67) rfl ?_); refine goesL_ (some 77) rfl rfl Try.func67 (by kernel_rfl) rfl #[.int .u8 (bt a0 x4_1)] rfl (by (try simp only [List.map_toArray, List.map_cons, List.map_nil]); first | done | rfl | (simp only [List.length_drop, List.length_take]; rfl)) ?_; (with_reducible refine (blazonref06_Letter.calls (bt a0 x4_1) false _ A33.out).mono ?_); rintro e w' ⟨rfl, ⟨nd, rfl⟩⟩; refine ⟨_, rfl, ?_⟩) | ((with_reducible refine gate_callee (f := 68) rfl ?_); refine goesL_ (some 97) rfl rfl Try.func68 (by kernel_rfl) rfl #[.int .u8 (bt a0 x4_1)] rfl (by (try simp only [List.map_toArray, List.map_cons, List.map_nil]); first | done | rfl | (simp only [List.length_drop, List.length_take]; rfl)) ?_; (with_reducible refine (blazonref06_Digit.calls (bt a0 x4_1) true _ A47.out).mono ?_); rintro e w' ⟨rfl, ⟨nd, rfl⟩⟩; refine ⟨_, rfl, ?_⟩))
                      go_loopg [6] kj4 (fun kq v6 w' => ∃ (x6_3 : Int), v6 = .int .i64 x6_3 ∧ Aside0 (blazonref06_All.l4 kq a0 x3_1 x4_1 x6_3 3 = some r) ∧ Aside0 (kq ≤ kj4) ∧ Aside0 (Kd.R k28 28 w' w.heap.size (fun _ => True) u3 x3_1) ∧ Aside0 (Below w.heap.size w w'))
                      case atStart => exact ⟨((wrap64 (x4_1 + 1))), (by first | rfl | (simp; done) | (simp [*]; done)), H', ⟨Nat.le_refl _⟩, ⟨by (with_reducible repeat (first | apply Kd.R_alloc | apply Kd.R_drewN | apply Kd.R_drew)); exact HO_3.out⟩, ⟨by repeat (first | (with_reducible first | exact HB.out | apply below_alloc | apply pw_below_drewN | apply below_drew1) | exact HB.out)⟩⟩
                      case round =>
                        clear H'
                        try clear c1
                        try clear p1
                        try clear q1
                        try clear hx1
                        try clear c2
                        try clear c2b0
                        try clear p2
                        try clear q2
                        try clear hx2
                        try clear c3
                        try clear c3b0
                        try clear p3
                        try clear q3
                        try clear hx3
                        try clear c4
                        try clear p4
                        try clear q4
                        try clear hx4
                        try clear c6
                        try clear c6b0
                        try clear c6b1
                        try clear p6
                        try clear c7
                        try clear c7b0
                        try clear c7b1
                        try clear c8
                        try clear c8b0
                        try clear c8b1
                        try clear c9
                        try clear c10
                        try clear c10b0
                        try clear c11
                        try clear c11b0
                        try clear p12
                        try clear q12
                        try clear hx12
                        try clear c13
                        try clear c13b0
                        try clear c13b1
                        try clear p14
                        try clear q14
                        try clear hx14
                        try clear c15
                        try clear c15b0
                        try clear c15b1
                        try clear p16
                        try clear q16
                        try clear hx16
                        try clear c17
                        try clear c17b0
                        try clear c17b1
                        try clear p18
                        try clear q18
                        try clear hx18
                        try clear c19
                        try clear c19b0
                        try clear c19b1
                        try clear c20
                        try clear c21
                        try clear c22
                        try clear c24
                        try clear c24b0
                        try clear c24b1
                        try clear c25
                        try clear c25b0
                        try clear c26
                        try clear c26b0
                        try clear p27
                        try clear q27
                        try clear hx27
                        try clear c28
                        try clear c28b0
                        try clear c28b1
                        try clear c29
                        try clear c31
                        try clear c34
                        try clear c35
                        try clear c35b0
                        try clear c36
                        try clear c36b0
                        try clear p37
                        try clear q37
                        try clear hx37
                        try clear c39
                        try clear p40
                        try clear q40
                        try clear hx40
                        try clear c42
                        try clear c43
                        try clear c45
                        try clear c48
                        try clear p1
                        try clear p12
                        try clear p14
                        try clear p16
                        try clear p18
                        try clear p2
                        try clear p27
                        try clear p37
                        try clear p4
                        try clear p40
                        try clear p6
                        try clear q1
                        try clear q12
                        try clear q14
                        try clear q16
                        try clear q18
                        try clear q2
                        try clear q27
                        try clear q37
                        try clear q4
                        try clear q40
                        obtain ⟨x6_3, rfl, HA, HK3, HO_3, HB⟩ := hrel
                        cases gk with
                        | zero => exact absurd HA.out (by simp [blazonref06_All.l4])
                        | succ k3 =>
                          have H := HA.out
                          clear HA
                          simp only [blazonref06_All.l4] at H
                          by_cases c49 : x6_3 < (a0.size : Int)
                          · rw [if_pos c49] at H
                            have c49b0 : decide (x6_3 < (a0.size : Int)) = true := decide_eq_true c49
                            clear c49
                            by_cases c50 : 0 ≤ x6_3
                            · rw [if_pos c50] at H
                              have c50b0 : decide (0 ≤ x6_3) = true := decide_eq_true c50
                              clear c50
                              replace H := Option.bind_eq_some_iff.mp H
                              obtain ⟨t206, A520, H⟩ := H
                              replace H : (if t206 = true then (blazonref06_All.l4 k3 a0 x3_1 x4_1 (wrap64 (x6_3 + 1)) 3) else (if x3_1.length < 5864062014805 then (blazonref06_All.l0 k3 a0 (x3_1 ++ [(⟨3, x4_1, x6_3⟩ : S28)]) x6_3) else (none))) = some r := H
                              have A52 := Aside0.mk A520
                              clear A520
                              by_cases c53 : t206 = true
                              · subst c53
                                have H1 : (blazonref06_All.l4 k3 a0 x3_1 x4_1 (wrap64 (x6_3 + 1)) 3) = some r := by rw [if_pos rfl] at H; exact H
                                clear H
                                have H := H1
                                clear H1
                                have H' := Aside0.mk H
                                clear H
                                have p51 : 0 ≤ (x6_3 : Int) := of_decide_eq_true (by first | (with_reducible assumption) | assumption)
                                have q51 : x6_3 < (a0.size : Int) := of_decide_eq_true (by first | (with_reducible assumption) | assumption)
                                have hx51 := bt_at a0 x6_3
                                replace p51 := eq_true p51
                                replace q51 := eq_true q51
                                go_wp2_with (first | (go_at_call 68; (with_reducible refine (blazonref06_Digit.calls (bt a0 x6_3) true _ A52.out).mono ?_); rintro e w' ⟨rfl, ⟨nd, rfl⟩⟩))
                                go_roundg k3
                                case measure => have := HK1.out; have := HJ4.out; have := HK3.out; omega
                                case rel => exact ⟨(wrap64 (x6_3 + 1)), (by first | rfl | (simp; done) | (simp [*]; done)), H', ⟨by have := HK1.out; have := HJ4.out; have := HK3.out; omega⟩, ⟨by (with_reducible repeat (first | apply Kd.R_alloc | apply Kd.R_drewN | apply Kd.R_drew)); exact HO_3.out⟩, ⟨by repeat (first | (with_reducible first | exact HB.out | apply below_alloc | apply pw_below_drewN | apply below_drew1) | exact HB.out)⟩⟩
                              · replace c53 := Bool.eq_false_iff.mpr c53
                                subst c53
                                have H1 : (if x3_1.length < 5864062014805 then (blazonref06_All.l0 k3 a0 (x3_1 ++ [(⟨3, x4_1, x6_3⟩ : S28)]) x6_3) else (none)) = some r := by rw [if_neg (show ¬ (false = true) by decide)] at H; exact H
                                clear H
                                have H := H1
                                clear H1
                                by_cases c54 : x3_1.length < 5864062014805
                                · rw [if_pos c54] at H
                                  have LMc54 := Aside0.mk c54
                                  clear c54
                                  obtain ⟨y207, hy207⟩ : ∃ y_ : List (S28), y_ = (x3_1 ++ [(⟨3, x4_1, x6_3⟩ : S28)]) := ⟨_, rfl⟩
                                  replace H : (blazonref06_All.l0 k3 a0 y207 x6_3) = some r := by first | (rw [hy207]; with_reducible exact H) | (have H2_ := (Option.bind_some _ _).symm.trans H; rw [hy207]; with_reducible exact H2_) | (have H2_ := (Option.bind_some _ _).symm.trans H; with_reducible exact H2_) | with_reducible exact H | (rw [hy207]; exact H) | exact H
                                  have Ny207 := Aside0.mk hy207
                                  clear hy207
                                  have H' := Aside0.mk H
                                  clear H
                                  have p51 : 0 ≤ (x6_3 : Int) := of_decide_eq_true (by first | (with_reducible assumption) | assumption)
                                  have q51 : x6_3 < (a0.size : Int) := of_decide_eq_true (by first | (with_reducible assumption) | assumption)
                                  have hx51 := bt_at a0 x6_3
                                  replace p51 := eq_true p51
                                  replace q51 := eq_true q51
                                  go_wp2_with (first | (go_at_call 68; (with_reducible refine (blazonref06_Digit.calls (bt a0 x6_3) false _ A52.out).mono ?_); rintro e w' ⟨rfl, ⟨nd, rfl⟩⟩) | ((with_reducible refine gate_builtin (b := .append) (xs := #[.tmp 119, .tmp 124]) rfl ?_); at_builtin; refine Kd.R_append k28 (w0 := w) w.heap.size rfl (.tmp 119) (.tmp 124) 24 28 (.agg #[(.int .i64 0), (.int .i64 0), (.int .i64 0)]) 24 rfl Try.underlying24 info28 rfl (by decide) (by omega) u3 x3_1 (⟨3, x4_1, x6_3⟩ : S28) [.int .i64 3, .int .i64 x4_1, .int .i64 x6_3] (fun _ => True) (fun _ => False) rfl rfl ?aP (fun _ hk => hk.elim) ?aF ?aO ?aB ?aS ?aL ?_; (case aP => exact k28_mkM _ _ _ (⟨3, x4_1, x6_3⟩ : S28)); (case aB => exact (by repeat (first | (with_reducible first | exact HB.out | apply below_alloc | apply pw_below_drewN | apply below_drew1) | exact HB.out))); (case aF => exact (fun _ _ => trivial)); (case aO => exact (by (with_reducible repeat (first | apply Kd.R_alloc | apply Kd.R_drewN | apply Kd.R_drew)); exact HO_3.out)); (case aS => exact (below_size (by repeat (first | (with_reducible first | exact HB.out | apply below_alloc | apply pw_below_drewN | apply below_drew1) | exact HB.out)))); (case aL => have := LMc54.out; omega); intro v208 w55 ho hb hg hat; rw [← Ny207.out] at ho; have n0_ := Aside0.mk (hb); have n1_ := Aside0.mk (ho); clear HB; clear HO_3; have HB := n0_; have HO209 := n1_; clear n0_ n1_; clear ho hb hg hat))
                                  go_roundg k3
                                  case measure => have := HK1.out; have := HJ4.out; have := HK3.out; omega
                                  case rel => exact ⟨(y207), (x6_3), (by first | rfl | (simp; done) | (simp [*]; done)), H', ⟨by have := HK1.out; have := HJ4.out; have := HK3.out; omega⟩, ⟨by (with_reducible repeat (first | apply Kd.R_alloc | apply Kd.R_drewN | apply Kd.R_drew)); exact HO209.out⟩, ⟨by repeat (first | (with_reducible first | exact HB.out | apply below_alloc | apply pw_below_drewN | apply below_drew1) | exact HB.out)⟩⟩
                                · rw [if_neg c54] at H
                                  exact absurd H (by simp)
                            · rw [if_neg c50] at H
                              exact absurd H (by simp)
                          · rw [if_neg c49] at H
                            have c49b0 : decide (x6_3 < (a0.size : Int)) = false := decide_eq_false c49
                            clear c49
                            by_cases c56 : x3_1.length < 5864062014805
                            · rw [if_pos c56] at H
                              have LMc56 := Aside0.mk c56
                              clear c56
                              obtain ⟨y210, hy210⟩ : ∃ y_ : List (S28), y_ = (x3_1 ++ [(⟨3, x4_1, x6_3⟩ : S28)]) := ⟨_, rfl⟩
                              replace H : (blazonref06_All.l0 k3 a0 y210 x6_3) = some r := by first | (rw [hy210]; with_reducible exact H) | (have H2_ := (Option.bind_some _ _).symm.trans H; rw [hy210]; with_reducible exact H2_) | (have H2_ := (Option.bind_some _ _).symm.trans H; with_reducible exact H2_) | with_reducible exact H | (rw [hy210]; exact H) | exact H
                              have Ny210 := Aside0.mk hy210
                              clear hy210
                              have H' := Aside0.mk H
                              clear H
                              go_wp2_with (first | ((with_reducible refine gate_builtin (b := .append) (xs := #[.tmp 119, .tmp 124]) rfl ?_); at_builtin; refine Kd.R_append k28 (w0 := w) w.heap.size rfl (.tmp 119) (.tmp 124) 24 28 (.agg #[(.int .i64 0), (.int .i64 0), (.int .i64 0)]) 24 rfl Try.underlying24 info28 rfl (by decide) (by omega) u3 x3_1 (⟨3, x4_1, x6_3⟩ : S28) [.int .i64 3, .int .i64 x4_1, .int .i64 x6_3] (fun _ => True) (fun _ => False) rfl rfl ?aP (fun _ hk => hk.elim) ?aF ?aO ?aB ?aS ?aL ?_; (case aP => exact k28_mkM _ _ _ (⟨3, x4_1, x6_3⟩ : S28)); (case aB => exact (by repeat (first | (with_reducible first | exact HB.out | apply below_alloc | apply pw_below_drewN | apply below_drew1) | exact HB.out))); (case aF => exact (fun _ _ => trivial)); (case aO => exact (by (with_reducible repeat (first | apply Kd.R_alloc | apply Kd.R_drewN | apply Kd.R_drew)); exact HO_3.out)); (case aS => exact (below_size (by repeat (first | (with_reducible first | exact HB.out | apply below_alloc | apply pw_below_drewN | apply below_drew1) | exact HB.out)))); (case aL => have := LMc56.out; omega); intro v211 w57 ho hb hg hat; rw [← Ny210.out] at ho; have n0_ := Aside0.mk (hb); have n1_ := Aside0.mk (ho); clear HB; clear HO_3; have HB := n0_; have HO212 := n1_; clear n0_ n1_; clear ho hb hg hat))
                              go_roundg k3
                              case measure => have := HK1.out; have := HJ4.out; have := HK3.out; omega
                              case rel => exact ⟨(y210), (x6_3), (by first | rfl | (simp; done) | (simp [*]; done)), H', ⟨by have := HK1.out; have := HJ4.out; have := HK3.out; omega⟩, ⟨by (with_reducible repeat (first | apply Kd.R_alloc | apply Kd.R_drewN | apply Kd.R_drew)); exact HO212.out⟩, ⟨by repeat (first | (with_reducible first | exact HB.out | apply below_alloc | apply pw_below_drewN | apply below_drew1) | exact HB.out)⟩⟩
                            · rw [if_neg c56] at H
                              exact absurd H (by simp)
                    · replace c48 := Bool.eq_false_iff.mpr c48
                      subst c48
                      have H1 : (if 0 ≤ x4_1 then (if x4_1 ≤ (a0.size : Int) then ((blazonref06_sign.f kj4 (a0.extract (x4_1 : Int).toNat a0.size)).bind fun t213 => (if t213 > 0 then (if x3_1.length < 5864062014805 then (blazonref06_All.l0 kj4 a0 (x3_1 ++ [(⟨4, x4_1, wrap64 (x4_1 + t213)⟩ : S28)]) (wrap64 (x4_1 + t213))) else (none)) else (if x3_1.length < 5864062014805 then (blazonref06_All.l0 kj4 a0 (x3_1 ++ [(⟨5, x4_1, (wrap64 (x4_1 + 1))⟩ : S28)]) (wrap64 (x4_1 + 1))) else (none)))) else (none)) else (none)) = some r := by rw [if_neg (show ¬ (false = true) by decide)] at H; exact H
                      clear H
                      have H := H1
                      clear H1
                      by_cases c58 : 0 ≤ x4_1
                      · rw [if_pos c58] at H
                        have c58b0 := eq_true c58
                        have c58b1 : decide (0 ≤ x4_1) = true := decide_eq_true c58
                        clear c58
                        by_cases c59 : x4_1 ≤ (a0.size : Int)
                        · rw [if_pos c59] at H
                          have c59b0 := eq_true c59
                          have c59b1 : decide (x4_1 ≤ (a0.size : Int)) = true := decide_eq_true c59
                          clear c59
                          replace H := Option.bind_eq_some_iff.mp H
                          obtain ⟨t213, A600, H⟩ := H
                          replace H : (if t213 > 0 then (if x3_1.length < 5864062014805 then (blazonref06_All.l0 kj4 a0 (x3_1 ++ [(⟨4, x4_1, wrap64 (x4_1 + t213)⟩ : S28)]) (wrap64 (x4_1 + t213))) else (none)) else (if x3_1.length < 5864062014805 then (blazonref06_All.l0 kj4 a0 (x3_1 ++ [(⟨5, x4_1, (wrap64 (x4_1 + 1))⟩ : S28)]) (wrap64 (x4_1 + 1))) else (none))) = some r := H
                          have A60 := Aside0.mk A600
                          clear A600
                          by_cases c61 : t213 > 0
                          · rw [if_pos c61] at H
                            have c61b0 : decide (0 < t213) = true := decide_eq_true c61
                            clear c61
                            by_cases c62 : x3_1.length < 5864062014805
                            · rw [if_pos c62] at H
                              have LMc62 := Aside0.mk c62
                              clear c62
                              obtain ⟨y214, hy214⟩ : ∃ y_ : List (S28), y_ = (x3_1 ++ [(⟨4, x4_1, wrap64 (x4_1 + t213)⟩ : S28)]) := ⟨_, rfl⟩
                              replace H : (blazonref06_All.l0 kj4 a0 y214 (wrap64 (x4_1 + t213))) = some r := by first | (rw [hy214]; with_reducible exact H) | (have H2_ := (Option.bind_some _ _).symm.trans H; rw [hy214]; with_reducible exact H2_) | (have H2_ := (Option.bind_some _ _).symm.trans H; with_reducible exact H2_) | with_reducible exact H | (rw [hy214]; exact H) | exact H
                              have Ny214 := Aside0.mk hy214
                              clear hy214
                              have H' := Aside0.mk H
                              clear H
                              go_wp2_with (first | ((with_reducible refine gate_callee (f := 67) rfl ?_); refine goesL_ (some 77) rfl rfl Try.func67 (by kernel_rfl) rfl #[.int .u8 (bt a0 x4_1)] rfl (by (try simp only [List.map_toArray, List.map_cons, List.map_nil]); first | done | rfl | (simp only [List.length_drop, List.length_take]; rfl)) ?_; (with_reducible refine (blazonref06_Letter.calls (bt a0 x4_1) false _ A33.out).mono ?_); rintro e w' ⟨rfl, ⟨nd, rfl⟩⟩; refine ⟨_, rfl, ?_⟩) | ((with_reducible refine gate_callee (f := 68) rfl ?_); refine goesL_ (some 97) rfl rfl Try.func68 (by kernel_rfl) rfl #[.int .u8 (bt a0 x4_1)] rfl (by (try simp only [List.map_toArray, List.map_cons, List.map_nil]); first | done | rfl | (simp only [List.length_drop, List.length_take]; rfl)) ?_; (with_reducible refine (blazonref06_Digit.calls (bt a0 x4_1) false _ A47.out).mono ?_); rintro e w' ⟨rfl, ⟨nd, rfl⟩⟩; refine ⟨_, rfl, ?_⟩) | ((with_reducible refine gate_callee (f := 69) rfl ?_); refine goesL_ (some 113) rfl rfl Try.func69 (by kernel_rfl) rfl #[.string (a0.extract (x4_1 : Int).toNat a0.size)] rfl (by (try simp only [List.map_toArray, List.map_cons, List.map_nil]); first | done | rfl | (simp only [List.length_drop, List.length_take]; rfl)) ?_; (with_reducible refine (blazonref06_sign.calls kj4 (a0.extract (x4_1 : Int).toNat a0.size) t213 _ A60.out).mono ?_); rintro e w63 ⟨rfl, hb⟩; refine ⟨_, rfl, ?_⟩; have n0_ := Aside0.mk (Kd.R_below (by (with_reducible repeat (first | apply Kd.R_alloc | apply Kd.R_drewN | apply Kd.R_drew)); exact HO_3.out) hb); have n1_ := Aside0.mk (below_step (by repeat (first | (with_reducible first | exact HB.out | apply below_alloc | apply pw_below_drewN | apply below_drew1) | exact HB.out)) hb); clear HO_3; clear HB; have HO_3 := n0_; have HB := n1_; clear n0_ n1_; (try clear hb); (try clear hb2); (try clear hk); (try clear hi)) | ((with_reducible refine gate_builtin (b := .append) (xs := #[.tmp 119, .tmp 124]) rfl ?_); at_builtin; refine Kd.R_append k28 (w0 := w) w.heap.size rfl (.tmp 119) (.tmp 124) 24 28 (.agg #[(.int .i64 0), (.int .i64 0), (.int .i64 0)]) 24 rfl Try.underlying24 info28 rfl (by decide) (by omega) u3 x3_1 (⟨4, x4_1, wrap64 (x4_1 + t213)⟩ : S28) [.int .i64 4, .int .i64 x4_1, .int .i64 (wrap64 (x4_1 + t213))] (fun _ => True) (fun _ => False) rfl rfl ?aP (fun _ hk => hk.elim) ?aF ?aO ?aB ?aS ?aL ?_; (case aP => exact k28_mkM _ _ _ (⟨4, x4_1, wrap64 (x4_1 + t213)⟩ : S28)); (case aB => exact (by repeat (first | (with_reducible first | exact HB.out | apply below_alloc | apply pw_below_drewN | apply below_drew1) | exact HB.out))); (case aF => exact (fun _ _ => trivial)); (case aO => exact (by (with_reducible repeat (first | apply Kd.R_alloc | apply Kd.R_drewN | apply Kd.R_drew)); exact HO_3.out)); (case aS => exact (below_size (by repeat (first | (with_reducible first | exact HB.out | apply below_alloc | apply pw_below_drewN | apply below_drew1) | exact HB.out)))); (case aL => have := LMc62.out; omega); intro v215 w64 ho hb hg hat; rw [← Ny214.out] at ho; have n0_ := Aside0.mk (hb); have n1_ := Aside0.mk (ho); clear HB; clear HO_3; have HB := n0_; have HO216 := n1_; clear n0_ n1_; clear ho hb hg hat))
                              go_roundg kj4
                              case measure => have := HK1.out; have := HJ4.out; omega
                              case rel => exact ⟨(y214), (wrap64 (x4_1 + t213)), (by first | rfl | (simp; done) | (simp [*]; done)), H', ⟨by have := HK1.out; have := HJ4.out; omega⟩, ⟨by (with_reducible repeat (first | apply Kd.R_alloc | apply Kd.R_drewN | apply Kd.R_drew)); exact HO216.out⟩, ⟨by repeat (first | (with_reducible first | exact HB.out | apply below_alloc | apply pw_below_drewN | apply below_drew1) | exact HB.out)⟩⟩
                            · rw [if_neg c62] at H
                              exact absurd H (by simp)
                          · rw [if_neg c61] at H
                            have c61b0 : decide (0 < t213) = false := decide_eq_false c61
                            clear c61
                            by_cases c65 : x3_1.length < 5864062014805
                            · rw [if_pos c65] at H
                              have LMc65 := Aside0.mk c65
                              clear c65
                              obtain ⟨y217, hy217⟩ : ∃ y_ : List (S28), y_ = (x3_1 ++ [(⟨5, x4_1, (wrap64 (x4_1 + 1))⟩ : S28)]) := ⟨_, rfl⟩
                              replace H : (blazonref06_All.l0 kj4 a0 y217 (wrap64 (x4_1 + 1))) = some r := by first | (rw [hy217]; with_reducible exact H) | (have H2_ := (Option.bind_some _ _).symm.trans H; rw [hy217]; with_reducible exact H2_) | (have H2_ := (Option.bind_some _ _).symm.trans H; with_reducible exact H2_) | with_reducible exact H | (rw [hy217]; exact H) | exact H
                              have Ny217 := Aside0.mk hy217
                              clear hy217
                              have H' := Aside0.mk H
                              clear H
                              go_wp2_with (first | ((with_reducible refine gate_callee (f := 67) rfl ?_); refine goesL_ (some 77) rfl rfl Try.func67 (by kernel_rfl) rfl #[.int .u8 (bt a0 x4_1)] rfl (by (try simp only [List.map_toArray, List.map_cons, List.map_nil]); first | done | rfl | (simp only [List.length_drop, List.length_take]; rfl)) ?_; (with_reducible refine (blazonref06_Letter.calls (bt a0 x4_1) false _ A33.out).mono ?_); rintro e w' ⟨rfl, ⟨nd, rfl⟩⟩; refine ⟨_, rfl, ?_⟩) | ((with_reducible refine gate_callee (f := 68) rfl ?_); refine goesL_ (some 97) rfl rfl Try.func68 (by kernel_rfl) rfl #[.int .u8 (bt a0 x4_1)] rfl (by (try simp only [List.map_toArray, List.map_cons, List.map_nil]); first | done | rfl | (simp only [List.length_drop, List.length_take]; rfl)) ?_; (with_reducible refine (blazonref06_Digit.calls (bt a0 x4_1) false _ A47.out).mono ?_); rintro e w' ⟨rfl, ⟨nd, rfl⟩⟩; refine ⟨_, rfl, ?_⟩) | ((with_reducible refine gate_callee (f := 69) rfl ?_); refine goesL_ (some 113) rfl rfl Try.func69 (by kernel_rfl) rfl #[.string (a0.extract (x4_1 : Int).toNat a0.size)] rfl (by (try simp only [List.map_toArray, List.map_cons, List.map_nil]); first | done | rfl | (simp only [List.length_drop, List.length_take]; rfl)) ?_; (with_reducible refine (blazonref06_sign.calls kj4 (a0.extract (x4_1 : Int).toNat a0.size) t213 _ A60.out).mono ?_); rintro e w66 ⟨rfl, hb⟩; refine ⟨_, rfl, ?_⟩; have n0_ := Aside0.mk (Kd.R_below (by (with_reducible repeat (first | apply Kd.R_alloc | apply Kd.R_drewN | apply Kd.R_drew)); exact HO_3.out) hb); have n1_ := Aside0.mk (below_step (by repeat (first | (with_reducible first | exact HB.out | apply below_alloc | apply pw_below_drewN | apply below_drew1) | exact HB.out)) hb); clear HO_3; clear HB; have HO_3 := n0_; have HB := n1_; clear n0_ n1_; (try clear hb); (try clear hb2); (try clear hk); (try clear hi)) | ((with_reducible refine gate_builtin (b := .append) (xs := #[.tmp 119, .tmp 124]) rfl ?_); at_builtin; refine Kd.R_append k28 (w0 := w) w.heap.size rfl (.tmp 119) (.tmp 124) 24 28 (.agg #[(.int .i64 0), (.int .i64 0), (.int .i64 0)]) 24 rfl Try.underlying24 info28 rfl (by decide) (by omega) u3 x3_1 (⟨5, x4_1, (wrap64 (x4_1 + 1))⟩ : S28) [.int .i64 5, .int .i64 x4_1, .int .i64 (wrap64 (x4_1 + 1))] (fun _ => True) (fun _ => False) rfl rfl ?aP (fun _ hk => hk.elim) ?aF ?aO ?aB ?aS ?aL ?_; (case aP => exact k28_mkM _ _ _ (⟨5, x4_1, (wrap64 (x4_1 + 1))⟩ : S28)); (case aB => exact (by repeat (first | (with_reducible first | exact HB.out | apply below_alloc | apply pw_below_drewN | apply below_drew1) | exact HB.out))); (case aF => exact (fun _ _ => trivial)); (case aO => exact (by (with_reducible repeat (first | apply Kd.R_alloc | apply Kd.R_drewN | apply Kd.R_drew)); exact HO_3.out)); (case aS => exact (below_size (by repeat (first | (with_reducible first | exact HB.out | apply below_alloc | apply pw_below_drewN | apply below_drew1) | exact HB.out)))); (case aL => have := LMc65.out; omega); intro v218 w67 ho hb hg hat; rw [← Ny217.out] at ho; have n0_ := Aside0.mk (hb); have n1_ := Aside0.mk (ho); clear HB; clear HO_3; have HB := n0_; have HO219 := n1_; clear n0_ n1_; clear ho hb hg hat))
                              go_roundg kj4
                              case measure => have := HK1.out; have := HJ4.out; omega
                              case rel => exact ⟨(y217), ((wrap64 (x4_1 + 1))), (by first | rfl | (simp; done) | (simp [*]; done)), H', ⟨by have := HK1.out; have := HJ4.out; omega⟩, ⟨by (with_reducible repeat (first | apply Kd.R_alloc | apply Kd.R_drewN | apply Kd.R_drew)); exact HO219.out⟩, ⟨by repeat (first | (with_reducible first | exact HB.out | apply below_alloc | apply pw_below_drewN | apply below_drew1) | exact HB.out)⟩⟩
                            · rw [if_neg c65] at H
                              exact absurd H (by simp)
                        · rw [if_neg c59] at H
                          exact absurd H (by simp)
                      · rw [if_neg c58] at H
                        exact absurd H (by simp)
        · rw [if_neg c3] at H
          exact absurd H (by simp)
      · rw [if_neg c2] at H
        have c2b0 : decide (x4_1 < (a0.size : Int)) = false := decide_eq_false c2
        clear c2
        obtain rfl := Option.some.inj H
        go_wp2
        go_ret
        exact ⟨_, by first | rfl | (simp [errW_none, errW_some] <;> rfl) | (simp [*, errW_none, errW_some] <;> rfl), by (with_reducible repeat (first | apply Kd.R_alloc | apply Kd.R_drewN | apply Kd.R_drew)); exact HO_3.out, by repeat (first | (with_reducible first | exact HB.out | apply below_alloc | apply pw_below_drewN | apply below_drew1) | exact HB.out)⟩

end Go.Proofs.Yteoccoklbmjiaaa.PLex
