-- By xprint.py, a program of this work, over the kit's printer. Lean checks it.
import Derived.Test.YtbpagdgbehefkaaPNumx0
import Derived.Test.YtbpagdgbehefkaaPNumx1
import Derived.Test.YtbpagdgbehefkaaPNumx2
namespace Go.Proofs.Ytbpagdgbehefkaa.PNum
open Go.RowKit Go.Proofs.YtbpagdgbehefkaaW.PrintWords Go.Proofs.YtbpagdgbehefkaaW.PrintLast Go.Proofs.YtbpagdgbehefkaaW.PrintMore
attribute [local go_sem] x_isSome max2_int min2_int max_two min_two max_three min_three max_four min_four   -- for this text's walks alone
set_option linter.unusedVariables false
set_option linter.unusedSimpArgs false

/-! ### blazonlaw01_NumSums: function 7 -/
mutual
def blazonlaw01_NumSums.j0 : Nat → List Int → Bool → Option (Bool)
  | 0, _, _ => none
  | k + 1, x2, x84 => if x84 = true then (some false) else (blazonlaw01_NumSums.l0 k x2 0 0)
def blazonlaw01_NumSums.l0 : Nat → List Int → Int → Int → Option (Bool)
  | 0, _, _, _ => none
  | k + 1, x2, x15, x16 => if x16 < (x2.length : Int) then (if 0 ≤ x16 then ((blazonref01_Add.f x15 (rd x2 x16)).bind fun bt134 => (if bt134.2 = true then (blazonlaw01_NumSums.l0 k x2 bt134.1 (wrap64 (x16 + 1))) else ((num_Sum.f k x2).bind fun bt136 => (if bt136.2 = 18 then ((blazonlaw01_awake.f k).bind fun t138 => (some t138)) else (some false))))) else (none)) else ((num_Sum.f k x2).bind fun bt130 => (if bt130.1 = x15 then (if bt130.2 = 0 then ((blazonlaw01_awake.f k).bind fun t132 => (some t132)) else (some false)) else (some false)))
end
def blazonlaw01_NumSums.f (k : Nat) (a0 : Int) (a1 : Int) (l2 : List Int) : Option (Bool) := if (l2.length : Int) > 100 then ((blazonlaw01_awake.f k).bind fun t121 => (some t121)) else ((num_Add.f a0 a1).bind fun bt122 => ((num_Mul.f k a0 a1).bind fun bt124 => ((blazonref01_Add.f a0 a1).bind fun bt126 => ((blazonref01_Mul.f k a0 a1).bind fun bt128 => (if bt122.1 = bt126.1 then (if ((bt122.2 == 0) != bt126.2) = true then (blazonlaw01_NumSums.j0 k l2 true) else (if bt124.1 = bt128.1 then (if ((bt124.2 == 0) != bt128.2) = true then (blazonlaw01_NumSums.j0 k l2 true) else (if bt126.2 = true then (if bt128.2 = true then (blazonlaw01_NumSums.j0 k l2 false) else (blazonlaw01_NumSums.j0 k l2 (bt124.2 != 18))) else (if bt122.2 = 18 then (if bt128.2 = true then (blazonlaw01_NumSums.j0 k l2 false) else (blazonlaw01_NumSums.j0 k l2 (bt124.2 != 18))) else (blazonlaw01_NumSums.j0 k l2 true)))) else (blazonlaw01_NumSums.j0 k l2 true))) else (blazonlaw01_NumSums.j0 k l2 true))))))
theorem blazonlaw01_NumSums.mono_l : ∀ k, (∀ y0 y1, LeO (blazonlaw01_NumSums.j0 k y0 y1) (blazonlaw01_NumSums.j0 (k + 1) y0 y1)) ∧ (∀ y0 y1 y2, LeO (blazonlaw01_NumSums.l0 k y0 y1 y2) (blazonlaw01_NumSums.l0 (k + 1) y0 y1 y2))
  | 0 => ⟨fun _ _ r h => by simp [blazonlaw01_NumSums.j0] at h, fun _ _ _ r h => by simp [blazonlaw01_NumSums.l0] at h⟩
  | k + 1 => by
    obtain ⟨ih0, ih1⟩ := blazonlaw01_NumSums.mono_l k
    refine ⟨?_, ?_⟩
    · intro y0 y1
      unfold blazonlaw01_NumSums.j0
      repeat' first
      | (with_reducible exact ih0 _ _)
      | (with_reducible exact ih1 _ _ _)
      | (with_reducible exact blazonlaw01_awake.mono _)
      | (with_reducible exact blazonref01_Mul.mono _ _ _)
      | (with_reducible exact num_Mul.mono _ _ _)
      | (with_reducible exact num_Sum.mono _ _)
      | (with_reducible exact LeO.refl _)
      | (with_reducible exact LeO.none _)
      | (with_reducible refine LeO.ite ?_ ?_)
      | (with_reducible refine LeO.bind ?_ (fun _ => ?_))
      | exact ih0 _ _
      | exact ih1 _ _ _
      | exact blazonlaw01_awake.mono _
      | exact blazonref01_Mul.mono _ _ _
      | exact num_Mul.mono _ _ _
      | exact num_Sum.mono _ _
      | exact LeO.none _
      | refine LeO.ite ?_ ?_
      | refine LeO.bind ?_ (fun _ => ?_)
    · intro y0 y1 y2
      unfold blazonlaw01_NumSums.l0
      repeat' first
      | (with_reducible exact ih0 _ _)
      | (with_reducible exact ih1 _ _ _)
      | (with_reducible exact blazonlaw01_awake.mono _)
      | (with_reducible exact blazonref01_Mul.mono _ _ _)
      | (with_reducible exact num_Mul.mono _ _ _)
      | (with_reducible exact num_Sum.mono _ _)
      | (with_reducible exact LeO.refl _)
      | (with_reducible exact LeO.none _)
      | (with_reducible refine LeO.ite ?_ ?_)
      | (with_reducible refine LeO.bind ?_ (fun _ => ?_))
      | exact ih0 _ _
      | exact ih1 _ _ _
      | exact blazonlaw01_awake.mono _
      | exact blazonref01_Mul.mono _ _ _
      | exact num_Mul.mono _ _ _
      | exact num_Sum.mono _ _
      | exact LeO.none _
      | refine LeO.ite ?_ ?_
      | refine LeO.bind ?_ (fun _ => ?_)
theorem blazonlaw01_NumSums.mono : ∀ a0 a1 a2 k, LeO (blazonlaw01_NumSums.f k a0 a1 a2) (blazonlaw01_NumSums.f (k + 1) a0 a1 a2) := by
  intro a0 a1 a2 k
  obtain ⟨ih0, ih1⟩ := blazonlaw01_NumSums.mono_l k
  unfold blazonlaw01_NumSums.f
  repeat' first
      | (with_reducible exact ih0 _ _)
      | (with_reducible exact ih1 _ _ _)
      | (with_reducible exact blazonlaw01_awake.mono _)
      | (with_reducible exact blazonref01_Mul.mono _ _ _)
      | (with_reducible exact num_Mul.mono _ _ _)
      | (with_reducible exact num_Sum.mono _ _)
      | (with_reducible exact LeO.refl _)
      | (with_reducible exact LeO.none _)
      | (with_reducible refine LeO.ite ?_ ?_)
      | (with_reducible refine LeO.bind ?_ (fun _ => ?_))
      | exact ih0 _ _
      | exact ih1 _ _ _
      | exact blazonlaw01_awake.mono _
      | exact blazonref01_Mul.mono _ _ _
      | exact num_Mul.mono _ _ _
      | exact num_Sum.mono _ _
      | exact LeO.none _
      | refine LeO.ite ?_ ?_
      | refine LeO.bind ?_ (fun _ => ?_)
set_option maxHeartbeats 8000000 in
set_option maxRecDepth 100000 in
theorem blazonlaw01_NumSums.calls (k : Nat) (a0 : Int) (a1 : Int) (A2 : Option Addr) (c2 : Nat) (l2 : List Int) (r : Bool) (w : World) (hr2 : Kd.C (Kd.int .i64) w A2 l2.length l2) (hc2 : l2.length ≤ c2) (h : blazonlaw01_NumSums.f k a0 a1 l2 = some r) :
    Calls Try.prog 7 #[.int .i64 a0, .int .i64 a1, .slice A2 l2.length c2] w fun e w' => e = .returned (.bool r) ∧ Below w.heap.size w w' := by
  have HR2 := Aside0.mk hr2
  have HC2 := Aside0.mk hc2
  clear hr2 hc2
  have HB := Aside0.mk (Below.refl w.heap.size w)
  have H : (if (l2.length : Int) > 100 then ((blazonlaw01_awake.f k).bind fun t121 => (some t121)) else ((num_Add.f a0 a1).bind fun bt122 => ((num_Mul.f k a0 a1).bind fun bt124 => ((blazonref01_Add.f a0 a1).bind fun bt126 => ((blazonref01_Mul.f k a0 a1).bind fun bt128 => (if bt122.1 = bt126.1 then (if ((bt122.2 == 0) != bt126.2) = true then (blazonlaw01_NumSums.j0 k l2 true) else (if bt124.1 = bt128.1 then (if ((bt124.2 == 0) != bt128.2) = true then (blazonlaw01_NumSums.j0 k l2 true) else (if bt126.2 = true then (if bt128.2 = true then (blazonlaw01_NumSums.j0 k l2 false) else (blazonlaw01_NumSums.j0 k l2 (bt124.2 != 18))) else (if bt122.2 = 18 then (if bt128.2 = true then (blazonlaw01_NumSums.j0 k l2 false) else (blazonlaw01_NumSums.j0 k l2 (bt124.2 != 18))) else (blazonlaw01_NumSums.j0 k l2 true)))) else (blazonlaw01_NumSums.j0 k l2 true))) else (blazonlaw01_NumSums.j0 k l2 true))))))) = some r := h
  clear h
  by_cases c4 : (l2.length : Int) > 100
  · rw [if_pos c4] at H
    have c4b0 : decide (100 < (l2.length : Int)) = true := decide_eq_true c4
    have c4b1 : decide (100 < l2.length) = true := decide_eq_true (by omega)
    clear c4
    replace H := Option.bind_eq_some_iff.mp H
    obtain ⟨t121, A50, H⟩ := H
    replace H : (some t121) = some r := H
    have A5 := Aside0.mk A50
    clear A50
    obtain rfl := Option.some.inj H
    go_enter Try.func7, Try.ntmps7
    go_wp2_with (first | ((with_reducible refine gate_callee (f := 18) rfl ?_); refine goesL_ (some 24) rfl rfl Try.func18 (by kernel_rfl) rfl #[] rfl (by (try simp only [List.map_toArray, List.map_cons, List.map_nil]); first | done | rfl | (simp only [List.length_drop, List.length_take]; rfl)) ?_; (with_reducible refine (blazonlaw01_awake.calls k  t121 _ A5.out).mono ?_); rintro e w6 ⟨rfl, hb⟩; refine ⟨_, rfl, ?_⟩; have n0_ := Aside0.mk (below_step (by repeat (first | (with_reducible first | exact HB.out | apply below_alloc | apply pw_below_drewN | apply below_drew1) | exact HB.out)) hb); clear HB; have HB := n0_; clear n0_; (try clear hb); (try clear hb2); (try clear hk); (try clear hi)))
    go_ret
    exact ⟨by first | rfl | (simp [errW_none, errW_some] <;> rfl) | (simp [*, errW_none, errW_some] <;> rfl), by repeat (first | (with_reducible first | exact HB.out | apply below_alloc | apply pw_below_drewN | apply below_drew1) | exact HB.out)⟩
  · rw [if_neg c4] at H
    have c4b0 : decide (100 < (l2.length : Int)) = false := decide_eq_false c4
    have c4b1 : decide (100 < l2.length) = false := decide_eq_false (by omega)
    clear c4
    replace H := Option.bind_eq_some_iff.mp H
    obtain ⟨⟨t122, t123⟩, A70, H⟩ := H
    replace H : ((num_Mul.f k a0 a1).bind fun bt124 => ((blazonref01_Add.f a0 a1).bind fun bt126 => ((blazonref01_Mul.f k a0 a1).bind fun bt128 => (if t122 = bt126.1 then (if ((t123 == 0) != bt126.2) = true then (blazonlaw01_NumSums.j0 k l2 true) else (if bt124.1 = bt128.1 then (if ((bt124.2 == 0) != bt128.2) = true then (blazonlaw01_NumSums.j0 k l2 true) else (if bt126.2 = true then (if bt128.2 = true then (blazonlaw01_NumSums.j0 k l2 false) else (blazonlaw01_NumSums.j0 k l2 (bt124.2 != 18))) else (if t123 = 18 then (if bt128.2 = true then (blazonlaw01_NumSums.j0 k l2 false) else (blazonlaw01_NumSums.j0 k l2 (bt124.2 != 18))) else (blazonlaw01_NumSums.j0 k l2 true)))) else (blazonlaw01_NumSums.j0 k l2 true))) else (blazonlaw01_NumSums.j0 k l2 true))))) = some r := H
    have A7 := Aside0.mk A70
    clear A70
    replace H := Option.bind_eq_some_iff.mp H
    obtain ⟨⟨t124, t125⟩, A80, H⟩ := H
    replace H : ((blazonref01_Add.f a0 a1).bind fun bt126 => ((blazonref01_Mul.f k a0 a1).bind fun bt128 => (if t122 = bt126.1 then (if ((t123 == 0) != bt126.2) = true then (blazonlaw01_NumSums.j0 k l2 true) else (if t124 = bt128.1 then (if ((t125 == 0) != bt128.2) = true then (blazonlaw01_NumSums.j0 k l2 true) else (if bt126.2 = true then (if bt128.2 = true then (blazonlaw01_NumSums.j0 k l2 false) else (blazonlaw01_NumSums.j0 k l2 (t125 != 18))) else (if t123 = 18 then (if bt128.2 = true then (blazonlaw01_NumSums.j0 k l2 false) else (blazonlaw01_NumSums.j0 k l2 (t125 != 18))) else (blazonlaw01_NumSums.j0 k l2 true)))) else (blazonlaw01_NumSums.j0 k l2 true))) else (blazonlaw01_NumSums.j0 k l2 true)))) = some r := H
    have A8 := Aside0.mk A80
    clear A80
    replace H := Option.bind_eq_some_iff.mp H
    obtain ⟨⟨t126, t127⟩, A90, H⟩ := H
    replace H : ((blazonref01_Mul.f k a0 a1).bind fun bt128 => (if t122 = t126 then (if ((t123 == 0) != t127) = true then (blazonlaw01_NumSums.j0 k l2 true) else (if t124 = bt128.1 then (if ((t125 == 0) != bt128.2) = true then (blazonlaw01_NumSums.j0 k l2 true) else (if t127 = true then (if bt128.2 = true then (blazonlaw01_NumSums.j0 k l2 false) else (blazonlaw01_NumSums.j0 k l2 (t125 != 18))) else (if t123 = 18 then (if bt128.2 = true then (blazonlaw01_NumSums.j0 k l2 false) else (blazonlaw01_NumSums.j0 k l2 (t125 != 18))) else (blazonlaw01_NumSums.j0 k l2 true)))) else (blazonlaw01_NumSums.j0 k l2 true))) else (blazonlaw01_NumSums.j0 k l2 true))) = some r := H
    have A9 := Aside0.mk A90
    clear A90
    replace H := Option.bind_eq_some_iff.mp H
    obtain ⟨⟨t128, t129⟩, A100, H⟩ := H
    replace H : (if t122 = t126 then (if ((t123 == 0) != t127) = true then (blazonlaw01_NumSums.j0 k l2 true) else (if t124 = t128 then (if ((t125 == 0) != t129) = true then (blazonlaw01_NumSums.j0 k l2 true) else (if t127 = true then (if t129 = true then (blazonlaw01_NumSums.j0 k l2 false) else (blazonlaw01_NumSums.j0 k l2 (t125 != 18))) else (if t123 = 18 then (if t129 = true then (blazonlaw01_NumSums.j0 k l2 false) else (blazonlaw01_NumSums.j0 k l2 (t125 != 18))) else (blazonlaw01_NumSums.j0 k l2 true)))) else (blazonlaw01_NumSums.j0 k l2 true))) else (blazonlaw01_NumSums.j0 k l2 true)) = some r := H
    have A10 := Aside0.mk A100
    clear A100
    have HC11 := Aside0.mk H
    clear H
    go_enter Try.func7, Try.ntmps7
    go_upto_region 7 with (first | ((with_reducible refine gate_callee (f := 28) rfl ?_); refine goesL_ (some 28) rfl rfl Try.func28 (by kernel_rfl) rfl #[.int .i64 a0, .int .i64 a1] rfl (by (try simp only [List.map_toArray, List.map_cons, List.map_nil]); first | done | rfl | (simp only [List.length_drop, List.length_take]; rfl)) ?_; (with_reducible refine (num_Add.calls a0 a1 t122 t123 _ A7.out).mono ?_); rintro e w' ⟨rfl, ⟨nd, rfl⟩⟩; refine ⟨_, rfl, ?_⟩) | ((with_reducible refine gate_callee (f := 29) rfl ?_); refine goesL_ (some 34) rfl rfl Try.func29 (by kernel_rfl) rfl #[.int .i64 a0, .int .i64 a1] rfl (by (try simp only [List.map_toArray, List.map_cons, List.map_nil]); first | done | rfl | (simp only [List.length_drop, List.length_take]; rfl)) ?_; (with_reducible refine (num_Mul.calls k a0 a1 t124 t125 _ A8.out).mono ?_); rintro e w' ⟨rfl, ⟨nd, rfl⟩⟩; refine ⟨_, rfl, ?_⟩) | ((with_reducible refine gate_callee (f := 30) rfl ?_); refine goesL_ (some 40) rfl rfl Try.func30 (by kernel_rfl) rfl #[.int .i64 a0, .int .i64 a1] rfl (by (try simp only [List.map_toArray, List.map_cons, List.map_nil]); first | done | rfl | (simp only [List.length_drop, List.length_take]; rfl)) ?_; (with_reducible refine (blazonref01_Add.calls a0 a1 t126 t127 _ A9.out).mono ?_); rintro e w' ⟨rfl, ⟨nd, rfl⟩⟩; refine ⟨_, rfl, ?_⟩) | ((with_reducible refine gate_callee (f := 31) rfl ?_); refine goesL_ (some 46) rfl rfl Try.func31 (by kernel_rfl) rfl #[.int .i64 a0, .int .i64 a1] rfl (by (try simp only [List.map_toArray, List.map_cons, List.map_nil]); first | done | rfl | (simp only [List.length_drop, List.length_take]; rfl)) ?_; (with_reducible refine (blazonref01_Mul.calls k a0 a1 t128 t129 _ A10.out).mono ?_); rintro e w' ⟨rfl, ⟨nd, rfl⟩⟩; refine ⟨_, rfl, ?_⟩))
    (try simp only [Act.put, List.setIfInBounds_toArray, List.set_cons_zero, List.set_cons_succ])
    go_cut [84] (fun v84 wc => ∃ (kq : Nat) (x84_10 : Bool), v84 = .bool x84_10 ∧ Aside0 (blazonlaw01_NumSums.j0 kq l2 x84_10 = some r) ∧ Aside0 (kq ≤ k) ∧ Aside0 (Below w.heap.size w wc))
    case first =>
      have H := HC11.out
      clear HC11
      by_cases c12 : t122 = t126
      · rw [if_pos c12] at H
        have c12b0 : (t122 == t126) = true := beq_iff_eq.mpr c12
        have c12b1 : (t122 != t126) = false := bne_eq_false_iff_eq.mpr c12
        clear c12
        (first | rw [c12b0] | (simp only [i64_w, i32_w]; rw [c12b0]) | skip)
        by_cases c13 : ((t123 == 0) != t127) = true
        · rw [if_pos c13] at H
          have c13b0 : ((t123 == 0) != t127) = true := c13
          (try (have c13b1 : decide ((t123 == 0) = t127) = false := by simpa using c13))
          (try (have c13b2 : ((t123 == 0) == t127) = false := by simpa using c13))
          (try (have c13b3 : ¬ ((t123 == 0) = t127) := by simpa using c13))
          clear c13
          have H' := Aside0.mk H
          clear H
          go_wp2
          go_meet
          case rel => exact ⟨_, (true), (by first | rfl | (simp; done) | (simp [*]; done)), H', ⟨by first | omega | exact Nat.le_refl _⟩, ⟨by repeat (first | (with_reducible first | exact HB.out | apply below_alloc | apply pw_below_drewN | apply below_drew1) | exact HB.out)⟩⟩
        · rw [if_neg c13] at H
          have c13b0 : ((t123 == 0) != t127) = false := by simpa using c13
          (try (have c13b1 : decide ((t123 == 0) = t127) = true := by simpa using c13))
          (try (have c13b2 : ((t123 == 0) == t127) = true := by simpa using c13))
          clear c13
          by_cases c14 : t124 = t128
          · rw [if_pos c14] at H
            have c14b0 : (t124 == t128) = true := beq_iff_eq.mpr c14
            have c14b1 : (t124 != t128) = false := bne_eq_false_iff_eq.mpr c14
            clear c14
            by_cases c15 : ((t125 == 0) != t129) = true
            · rw [if_pos c15] at H
              have c15b0 : ((t125 == 0) != t129) = true := c15
              (try (have c15b1 : decide ((t125 == 0) = t129) = false := by simpa using c15))
              (try (have c15b2 : ((t125 == 0) == t129) = false := by simpa using c15))
              (try (have c15b3 : ¬ ((t125 == 0) = t129) := by simpa using c15))
              clear c15
              have H' := Aside0.mk H
              clear H
              go_wp2
              go_meet
              case rel => exact ⟨_, (true), (by first | rfl | (simp; done) | (simp [*]; done)), H', ⟨by first | omega | exact Nat.le_refl _⟩, ⟨by repeat (first | (with_reducible first | exact HB.out | apply below_alloc | apply pw_below_drewN | apply below_drew1) | exact HB.out)⟩⟩
            · rw [if_neg c15] at H
              have c15b0 : ((t125 == 0) != t129) = false := by simpa using c15
              (try (have c15b1 : decide ((t125 == 0) = t129) = true := by simpa using c15))
              (try (have c15b2 : ((t125 == 0) == t129) = true := by simpa using c15))
              clear c15
              by_cases c16 : t127 = true
              · subst c16
                have H1 : (if t129 = true then (blazonlaw01_NumSums.j0 k l2 false) else (blazonlaw01_NumSums.j0 k l2 (t125 != 18))) = some r := by rw [if_pos rfl] at H; exact H
                clear H
                have H := H1
                clear H1
                by_cases c17 : t129 = true
                · subst c17
                  have H1 : (blazonlaw01_NumSums.j0 k l2 false) = some r := by rw [if_pos rfl] at H; exact H
                  clear H
                  have H := H1
                  clear H1
                  have H' := Aside0.mk H
                  clear H
                  go_wp2
                  go_meet
                  case rel => exact ⟨_, (false), (by first | rfl | (simp; done) | (simp [*]; done)), H', ⟨by first | omega | exact Nat.le_refl _⟩, ⟨by repeat (first | (with_reducible first | exact HB.out | apply below_alloc | apply pw_below_drewN | apply below_drew1) | exact HB.out)⟩⟩
                · replace c17 := Bool.eq_false_iff.mpr c17
                  subst c17
                  have H1 : (blazonlaw01_NumSums.j0 k l2 (t125 != 18)) = some r := by rw [if_neg (show ¬ (false = true) by decide)] at H; exact H
                  clear H
                  have H := H1
                  clear H1
                  have H' := Aside0.mk H
                  clear H
                  go_wp2
                  go_meet
                  case rel => exact ⟨_, ((t125 != 18)), (by first | rfl | (simp; done) | (simp [*]; done)), H', ⟨by first | omega | exact Nat.le_refl _⟩, ⟨by repeat (first | (with_reducible first | exact HB.out | apply below_alloc | apply pw_below_drewN | apply below_drew1) | exact HB.out)⟩⟩
              · replace c16 := Bool.eq_false_iff.mpr c16
                subst c16
                have H1 : (if t123 = 18 then (if t129 = true then (blazonlaw01_NumSums.j0 k l2 false) else (blazonlaw01_NumSums.j0 k l2 (t125 != 18))) else (blazonlaw01_NumSums.j0 k l2 true)) = some r := by rw [if_neg (show ¬ (false = true) by decide)] at H; exact H
                clear H
                have H := H1
                clear H1
                by_cases c18 : t123 = 18
                · rw [if_pos c18] at H
                  have c18b0 : (t123 == 18) = true := beq_iff_eq.mpr c18
                  have c18b1 : (t123 != 18) = false := bne_eq_false_iff_eq.mpr c18
                  clear c18
                  by_cases c19 : t129 = true
                  · subst c19
                    have H1 : (blazonlaw01_NumSums.j0 k l2 false) = some r := by rw [if_pos rfl] at H; exact H
                    clear H
                    have H := H1
                    clear H1
                    have H' := Aside0.mk H
                    clear H
                    go_wp2
                    go_meet
                    case rel => exact ⟨_, (false), (by first | rfl | (simp; done) | (simp [*]; done)), H', ⟨by first | omega | exact Nat.le_refl _⟩, ⟨by repeat (first | (with_reducible first | exact HB.out | apply below_alloc | apply pw_below_drewN | apply below_drew1) | exact HB.out)⟩⟩
                  · replace c19 := Bool.eq_false_iff.mpr c19
                    subst c19
                    have H1 : (blazonlaw01_NumSums.j0 k l2 (t125 != 18)) = some r := by rw [if_neg (show ¬ (false = true) by decide)] at H; exact H
                    clear H
                    have H := H1
                    clear H1
                    have H' := Aside0.mk H
                    clear H
                    go_wp2
                    go_meet
                    case rel => exact ⟨_, ((t125 != 18)), (by first | rfl | (simp; done) | (simp [*]; done)), H', ⟨by first | omega | exact Nat.le_refl _⟩, ⟨by repeat (first | (with_reducible first | exact HB.out | apply below_alloc | apply pw_below_drewN | apply below_drew1) | exact HB.out)⟩⟩
                · rw [if_neg c18] at H
                  have c18b0 : (t123 == 18) = false := beq_eq_false_iff_ne.mpr c18
                  have c18b1 : (t123 != 18) = true := bne_iff_ne.mpr c18
                  have H' := Aside0.mk H
                  clear H
                  go_wp2
                  go_meet
                  case rel => exact ⟨_, (true), (by first | rfl | (simp; done) | (simp [*]; done)), H', ⟨by first | omega | exact Nat.le_refl _⟩, ⟨by repeat (first | (with_reducible first | exact HB.out | apply below_alloc | apply pw_below_drewN | apply below_drew1) | exact HB.out)⟩⟩
          · rw [if_neg c14] at H
            have c14b0 : (t124 == t128) = false := beq_eq_false_iff_ne.mpr c14
            have c14b1 : (t124 != t128) = true := bne_iff_ne.mpr c14
            have H' := Aside0.mk H
            clear H
            go_wp2
            go_meet
            case rel => exact ⟨_, (true), (by first | rfl | (simp; done) | (simp [*]; done)), H', ⟨by first | omega | exact Nat.le_refl _⟩, ⟨by repeat (first | (with_reducible first | exact HB.out | apply below_alloc | apply pw_below_drewN | apply below_drew1) | exact HB.out)⟩⟩
      · rw [if_neg c12] at H
        have c12b0 : (t122 == t126) = false := beq_eq_false_iff_ne.mpr c12
        have c12b1 : (t122 != t126) = true := bne_iff_ne.mpr c12
        (first | rw [c12b0] | (simp only [i64_w, i32_w]; rw [c12b0]) | skip)
        have H' := Aside0.mk H
        clear H
        go_wp2
        go_meet
        case rel => exact ⟨_, (true), (by first | rfl | (simp; done) | (simp [*]; done)), H', ⟨by first | omega | exact Nat.le_refl _⟩, ⟨by repeat (first | (with_reducible first | exact HB.out | apply below_alloc | apply pw_below_drewN | apply below_drew1) | exact HB.out)⟩⟩
    case rest =>
      clear HC11
      try clear c1
      try clear c2
      try clear p2
      try clear c3
      try clear c4
      try clear c4b0
      try clear c4b1
      try clear c7
      try clear c12
      try clear c12b0
      try clear c12b1
      try clear c13
      try clear c13b0
      try clear c13b1
      try clear c13b2
      try clear c14
      try clear c14b0
      try clear c14b1
      try clear c15
      try clear c15b0
      try clear c15b1
      try clear c15b2
      try clear c16
      try clear c17
      try clear c18
      try clear c18b0
      try clear c18b1
      try clear c19
      obtain ⟨kq, x84_10, rfl, HA, HJ10, HB⟩ := hcut
      cases kq with
      | zero => exact absurd HA.out (by simp [blazonlaw01_NumSums.j0])
      | succ kj10 =>
        have H := HA.out
        clear HA
        simp only [blazonlaw01_NumSums.j0] at H
        by_cases c20 : x84_10 = true
        · subst c20
          have H1 : (some false) = some r := by rw [if_pos rfl] at H; exact H
          clear H
          have H := H1
          clear H1
          obtain rfl := Option.some.inj H
          go_wp2
          go_ret
          exact ⟨by first | rfl | (simp [errW_none, errW_some] <;> rfl) | (simp [*, errW_none, errW_some] <;> rfl), by repeat (first | (with_reducible first | exact HB.out | apply below_alloc | apply pw_below_drewN | apply below_drew1) | exact HB.out)⟩
        · replace c20 := Bool.eq_false_iff.mpr c20
          subst c20
          have H1 : (blazonlaw01_NumSums.l0 kj10 l2 0 0) = some r := by rw [if_neg (show ¬ (false = true) by decide)] at H; exact H
          clear H
          have H := H1
          clear H1
          have H' := Aside0.mk H
          clear H
          go_wp2
          go_loopg [15, 16] kj10 (fun kq v15 v16 w' => ∃ (x15_2 : Int) (x16_2 : Int), v15 = .int .i64 x15_2 ∧ v16 = .int .i64 x16_2 ∧ Aside0 (blazonlaw01_NumSums.l0 kq l2 x15_2 x16_2 = some r) ∧ Aside0 (kq ≤ kj10) ∧ Aside0 (Below w.heap.size w w'))
          case atStart => exact ⟨(0), (0), (by first | rfl | (simp; done) | (simp [*]; done)), (by first | rfl | (simp; done) | (simp [*]; done)), H', ⟨Nat.le_refl _⟩, ⟨by repeat (first | (with_reducible first | exact HB.out | apply below_alloc | apply pw_below_drewN | apply below_drew1) | exact HB.out)⟩⟩
          case round =>
            clear H'
            try clear c1
            try clear c2
            try clear p2
            try clear c3
            try clear c4
            try clear c4b0
            try clear c4b1
            try clear c7
            try clear c12
            try clear c12b0
            try clear c12b1
            try clear c13
            try clear c13b0
            try clear c13b1
            try clear c13b2
            try clear c14
            try clear c14b0
            try clear c14b1
            try clear c15
            try clear c15b0
            try clear c15b1
            try clear c15b2
            try clear c16
            try clear c17
            try clear c18
            try clear c18b0
            try clear c18b1
            try clear c19
            try clear c20
            try clear p2
            obtain ⟨x15_2, x16_2, rfl, rfl, HA, HK2, HB⟩ := hrel
            cases gk with
            | zero => exact absurd HA.out (by simp [blazonlaw01_NumSums.l0])
            | succ k2 =>
              have H := HA.out
              clear HA
              simp only [blazonlaw01_NumSums.l0] at H
              by_cases c21 : x16_2 < (l2.length : Int)
              · rw [if_pos c21] at H
                have c21b0 : decide (x16_2 < (l2.length : Int)) = true := decide_eq_true c21
                clear c21
                by_cases c22 : 0 ≤ x16_2
                · rw [if_pos c22] at H
                  have c22b0 : decide (0 ≤ x16_2) = true := decide_eq_true c22
                  clear c22
                  replace H := Option.bind_eq_some_iff.mp H
                  obtain ⟨⟨t134, t135⟩, A230, H⟩ := H
                  replace H : (if t135 = true then (blazonlaw01_NumSums.l0 k2 l2 t134 (wrap64 (x16_2 + 1))) else ((num_Sum.f k2 l2).bind fun bt136 => (if bt136.2 = 18 then ((blazonlaw01_awake.f k2).bind fun t138 => (some t138)) else (some false)))) = some r := H
                  have A23 := Aside0.mk A230
                  clear A230
                  by_cases c24 : t135 = true
                  · subst c24
                    have H1 : (blazonlaw01_NumSums.l0 k2 l2 t134 (wrap64 (x16_2 + 1))) = some r := by rw [if_pos rfl] at H; exact H
                    clear H
                    have H := H1
                    clear H1
                    have H' := Aside0.mk H
                    clear H
                    have p133 : 0 ≤ (x16_2 : Int) := of_decide_eq_true (by first | (with_reducible assumption) | assumption)
                    have q133 : x16_2 < (l2.length : Int) := of_decide_eq_true (by first | (with_reducible assumption) | assumption)
                    obtain ⟨ad133, e133, hx133_0⟩ := Kd.at_int HR2.out x16_2 p133 q133
                    cases e133
                    replace hx133_0 := (HB.out.cell (World.block_lt_of_cell? w _ hx133_0)).trans hx133_0
                    replace p133 := eq_true p133
                    replace q133 := eq_true q133
                    go_wp2_with (first | ((with_reducible refine gate_callee (f := 30) rfl ?_); refine goesL_ (some 97) rfl rfl Try.func30 (by kernel_rfl) rfl #[.int .i64 x15_2, .int .i64 (rd l2 x16_2)] rfl (by (try simp only [List.map_toArray, List.map_cons, List.map_nil]); first | done | rfl | (simp only [List.length_drop, List.length_take]; rfl)) ?_; (with_reducible refine (blazonref01_Add.calls x15_2 (rd l2 x16_2) t134 true _ A23.out).mono ?_); rintro e w' ⟨rfl, ⟨nd, rfl⟩⟩; refine ⟨_, rfl, ?_⟩))
                    go_roundg k2
                    case measure => have := HJ10.out; have := HK2.out; omega
                    case rel => exact ⟨(t134), (wrap64 (x16_2 + 1)), (by first | rfl | (simp; done) | (simp [*]; done)), (by first | rfl | (simp; done) | (simp [*]; done)), H', ⟨by have := HJ10.out; have := HK2.out; omega⟩, ⟨by repeat (first | (with_reducible first | exact HB.out | apply below_alloc | apply pw_below_drewN | apply below_drew1) | exact HB.out)⟩⟩
                  · replace c24 := Bool.eq_false_iff.mpr c24
                    subst c24
                    have H1 : ((num_Sum.f k2 l2).bind fun bt136 => (if bt136.2 = 18 then ((blazonlaw01_awake.f k2).bind fun t138 => (some t138)) else (some false))) = some r := by rw [if_neg (show ¬ (false = true) by decide)] at H; exact H
                    clear H
                    have H := H1
                    clear H1
                    replace H := Option.bind_eq_some_iff.mp H
                    obtain ⟨⟨t136, t137⟩, A250, H⟩ := H
                    replace H : (if t137 = 18 then ((blazonlaw01_awake.f k2).bind fun t138 => (some t138)) else (some false)) = some r := H
                    have A25 := Aside0.mk A250
                    clear A250
                    by_cases c26 : t137 = 18
                    · rw [if_pos c26] at H
                      have c26b0 : (t137 == 18) = true := beq_iff_eq.mpr c26
                      have c26b1 : (t137 != 18) = false := bne_eq_false_iff_eq.mpr c26
                      clear c26
                      replace H := Option.bind_eq_some_iff.mp H
                      obtain ⟨t138, A270, H⟩ := H
                      replace H : (some t138) = some r := H
                      have A27 := Aside0.mk A270
                      clear A270
                      obtain rfl := Option.some.inj H
                      have p133 : 0 ≤ (x16_2 : Int) := of_decide_eq_true (by first | (with_reducible assumption) | assumption)
                      have q133 : x16_2 < (l2.length : Int) := of_decide_eq_true (by first | (with_reducible assumption) | assumption)
                      obtain ⟨ad133, e133, hx133_0⟩ := Kd.at_int HR2.out x16_2 p133 q133
                      cases e133
                      replace hx133_0 := (HB.out.cell (World.block_lt_of_cell? w _ hx133_0)).trans hx133_0
                      replace p133 := eq_true p133
                      replace q133 := eq_true q133
                      go_wp2_with (first | ((with_reducible refine gate_callee (f := 30) rfl ?_); refine goesL_ (some 97) rfl rfl Try.func30 (by kernel_rfl) rfl #[.int .i64 x15_2, .int .i64 (rd l2 x16_2)] rfl (by (try simp only [List.map_toArray, List.map_cons, List.map_nil]); first | done | rfl | (simp only [List.length_drop, List.length_take]; rfl)) ?_; (with_reducible refine (blazonref01_Add.calls x15_2 (rd l2 x16_2) t134 false _ A23.out).mono ?_); rintro e w' ⟨rfl, ⟨nd, rfl⟩⟩; refine ⟨_, rfl, ?_⟩) | ((with_reducible refine gate_callee (f := 32) rfl ?_); refine goesL_ (some 104) rfl rfl Try.func32 (by kernel_rfl) rfl #[.slice (some ad133) l2.length c2] rfl (by (try simp only [List.map_toArray, List.map_cons, List.map_nil]); first | done | rfl | (simp only [List.length_drop, List.length_take]; rfl)) ?_; (with_reducible refine (num_Sum.calls k2 _ _ l2 t136 t137 _ ?side1 ?side2 A25.out).mono ?_); (case side1 => repeat (first | exact (Kd.C_below HR2.out (by repeat (first | (with_reducible first | exact HB.out | apply below_alloc | apply pw_below_drewN | apply below_drew1) | exact HB.out))) | (with_reducible refine Kd.C_alloc ?_ _) | (with_reducible refine Kd.C_drewN ?_ _) | (with_reducible refine Kd.C_drew ?_))); (case side2 => exact HC2.out); rintro e w' ⟨rfl, ⟨nd, rfl⟩⟩; refine ⟨_, rfl, ?_⟩) | (go_at_call 18; (with_reducible refine (blazonlaw01_awake.calls k2  t138 _ A27.out).mono ?_); rintro e w28 ⟨rfl, hb⟩; have n0_ := Aside0.mk (below_step (by repeat (first | (with_reducible first | exact HB.out | apply below_alloc | apply pw_below_drewN | apply below_drew1) | exact HB.out)) hb); clear HB; have HB := n0_; clear n0_; (try clear hb); (try clear hb2); (try clear hk); (try clear hi)))
                      go_ret
                      exact ⟨by first | rfl | (simp [errW_none, errW_some] <;> rfl) | (simp [*, errW_none, errW_some] <;> rfl), by repeat (first | (with_reducible first | exact HB.out | apply below_alloc | apply pw_below_drewN | apply below_drew1) | exact HB.out)⟩
                    · rw [if_neg c26] at H
                      have c26b0 : (t137 == 18) = false := beq_eq_false_iff_ne.mpr c26
                      have c26b1 : (t137 != 18) = true := bne_iff_ne.mpr c26
                      obtain rfl := Option.some.inj H
                      have p133 : 0 ≤ (x16_2 : Int) := of_decide_eq_true (by first | (with_reducible assumption) | assumption)
                      have q133 : x16_2 < (l2.length : Int) := of_decide_eq_true (by first | (with_reducible assumption) | assumption)
                      obtain ⟨ad133, e133, hx133_0⟩ := Kd.at_int HR2.out x16_2 p133 q133
                      cases e133
                      replace hx133_0 := (HB.out.cell (World.block_lt_of_cell? w _ hx133_0)).trans hx133_0
                      replace p133 := eq_true p133
                      replace q133 := eq_true q133
                      go_wp2_with (first | ((with_reducible refine gate_callee (f := 30) rfl ?_); refine goesL_ (some 97) rfl rfl Try.func30 (by kernel_rfl) rfl #[.int .i64 x15_2, .int .i64 (rd l2 x16_2)] rfl (by (try simp only [List.map_toArray, List.map_cons, List.map_nil]); first | done | rfl | (simp only [List.length_drop, List.length_take]; rfl)) ?_; (with_reducible refine (blazonref01_Add.calls x15_2 (rd l2 x16_2) t134 false _ A23.out).mono ?_); rintro e w' ⟨rfl, ⟨nd, rfl⟩⟩; refine ⟨_, rfl, ?_⟩) | ((with_reducible refine gate_callee (f := 32) rfl ?_); refine goesL_ (some 104) rfl rfl Try.func32 (by kernel_rfl) rfl #[.slice (some ad133) l2.length c2] rfl (by (try simp only [List.map_toArray, List.map_cons, List.map_nil]); first | done | rfl | (simp only [List.length_drop, List.length_take]; rfl)) ?_; (with_reducible refine (num_Sum.calls k2 _ _ l2 t136 t137 _ ?side1 ?side2 A25.out).mono ?_); (case side1 => repeat (first | exact (Kd.C_below HR2.out (by repeat (first | (with_reducible first | exact HB.out | apply below_alloc | apply pw_below_drewN | apply below_drew1) | exact HB.out))) | (with_reducible refine Kd.C_alloc ?_ _) | (with_reducible refine Kd.C_drewN ?_ _) | (with_reducible refine Kd.C_drew ?_))); (case side2 => exact HC2.out); rintro e w' ⟨rfl, ⟨nd, rfl⟩⟩; refine ⟨_, rfl, ?_⟩))
                      go_ret
                      exact ⟨by first | rfl | (simp [errW_none, errW_some] <;> rfl) | (simp [*, errW_none, errW_some] <;> rfl), by repeat (first | (with_reducible first | exact HB.out | apply below_alloc | apply pw_below_drewN | apply below_drew1) | exact HB.out)⟩
                · rw [if_neg c22] at H
                  exact absurd H (by simp)
              · rw [if_neg c21] at H
                have c21b0 : decide (x16_2 < (l2.length : Int)) = false := decide_eq_false c21
                clear c21
                replace H := Option.bind_eq_some_iff.mp H
                obtain ⟨⟨t130, t131⟩, A290, H⟩ := H
                replace H : (if t130 = x15_2 then (if t131 = 0 then ((blazonlaw01_awake.f k2).bind fun t132 => (some t132)) else (some false)) else (some false)) = some r := H
                have A29 := Aside0.mk A290
                clear A290
                by_cases c30 : t130 = x15_2
                · rw [if_pos c30] at H
                  have c30b0 : (t130 == x15_2) = true := beq_iff_eq.mpr c30
                  have c30b1 : (t130 != x15_2) = false := bne_eq_false_iff_eq.mpr c30
                  clear c30
                  by_cases c31 : t131 = 0
                  · rw [if_pos c31] at H
                    have c31b0 : (t131 == 0) = true := beq_iff_eq.mpr c31
                    have c31b1 : (t131 != 0) = false := bne_eq_false_iff_eq.mpr c31
                    clear c31
                    replace H := Option.bind_eq_some_iff.mp H
                    obtain ⟨t132, A320, H⟩ := H
                    replace H : (some t132) = some r := H
                    have A32 := Aside0.mk A320
                    clear A320
                    obtain rfl := Option.some.inj H
                    go_wp2_with (first | ((with_reducible refine gate_callee (f := 32) rfl ?_); refine goesL_ (some 114) rfl rfl Try.func32 (by kernel_rfl) rfl #[.slice A2 l2.length c2] rfl (by (try simp only [List.map_toArray, List.map_cons, List.map_nil]); first | done | rfl | (simp only [List.length_drop, List.length_take]; rfl)) ?_; (with_reducible refine (num_Sum.calls k2 _ _ l2 t130 t131 _ ?side1 ?side2 A29.out).mono ?_); (case side1 => repeat (first | exact (Kd.C_below HR2.out HB.out) | (with_reducible refine Kd.C_alloc ?_ _) | (with_reducible refine Kd.C_drewN ?_ _) | (with_reducible refine Kd.C_drew ?_))); (case side2 => exact HC2.out); rintro e w' ⟨rfl, ⟨nd, rfl⟩⟩; refine ⟨_, rfl, ?_⟩) | (go_at_call 18; (with_reducible refine (blazonlaw01_awake.calls k2  t132 _ A32.out).mono ?_); rintro e w33 ⟨rfl, hb⟩; have n0_ := Aside0.mk (below_step (by repeat (first | (with_reducible first | exact HB.out | apply below_alloc | apply pw_below_drewN | apply below_drew1) | exact HB.out)) hb); clear HB; have HB := n0_; clear n0_; (try clear hb); (try clear hb2); (try clear hk); (try clear hi)))
                    go_ret
                    exact ⟨by first | rfl | (simp [errW_none, errW_some] <;> rfl) | (simp [*, errW_none, errW_some] <;> rfl), by repeat (first | (with_reducible first | exact HB.out | apply below_alloc | apply pw_below_drewN | apply below_drew1) | exact HB.out)⟩
                  · rw [if_neg c31] at H
                    have c31b0 : (t131 == 0) = false := beq_eq_false_iff_ne.mpr c31
                    have c31b1 : (t131 != 0) = true := bne_iff_ne.mpr c31
                    obtain rfl := Option.some.inj H
                    go_wp2_with (first | ((with_reducible refine gate_callee (f := 32) rfl ?_); refine goesL_ (some 114) rfl rfl Try.func32 (by kernel_rfl) rfl #[.slice A2 l2.length c2] rfl (by (try simp only [List.map_toArray, List.map_cons, List.map_nil]); first | done | rfl | (simp only [List.length_drop, List.length_take]; rfl)) ?_; (with_reducible refine (num_Sum.calls k2 _ _ l2 t130 t131 _ ?side1 ?side2 A29.out).mono ?_); (case side1 => repeat (first | exact (Kd.C_below HR2.out HB.out) | (with_reducible refine Kd.C_alloc ?_ _) | (with_reducible refine Kd.C_drewN ?_ _) | (with_reducible refine Kd.C_drew ?_))); (case side2 => exact HC2.out); rintro e w' ⟨rfl, ⟨nd, rfl⟩⟩; refine ⟨_, rfl, ?_⟩))
                    go_ret
                    exact ⟨by first | rfl | (simp [errW_none, errW_some] <;> rfl) | (simp [*, errW_none, errW_some] <;> rfl), by repeat (first | (with_reducible first | exact HB.out | apply below_alloc | apply pw_below_drewN | apply below_drew1) | exact HB.out)⟩
                · rw [if_neg c30] at H
                  have c30b0 : (t130 == x15_2) = false := beq_eq_false_iff_ne.mpr c30
                  have c30b1 : (t130 != x15_2) = true := bne_iff_ne.mpr c30
                  obtain rfl := Option.some.inj H
                  go_wp2_with (first | ((with_reducible refine gate_callee (f := 32) rfl ?_); refine goesL_ (some 114) rfl rfl Try.func32 (by kernel_rfl) rfl #[.slice A2 l2.length c2] rfl (by (try simp only [List.map_toArray, List.map_cons, List.map_nil]); first | done | rfl | (simp only [List.length_drop, List.length_take]; rfl)) ?_; (with_reducible refine (num_Sum.calls k2 _ _ l2 t130 t131 _ ?side1 ?side2 A29.out).mono ?_); (case side1 => repeat (first | exact (Kd.C_below HR2.out HB.out) | (with_reducible refine Kd.C_alloc ?_ _) | (with_reducible refine Kd.C_drewN ?_ _) | (with_reducible refine Kd.C_drew ?_))); (case side2 => exact HC2.out); rintro e w' ⟨rfl, ⟨nd, rfl⟩⟩; refine ⟨_, rfl, ?_⟩))
                  go_ret
                  exact ⟨by first | rfl | (simp [errW_none, errW_some] <;> rfl) | (simp [*, errW_none, errW_some] <;> rfl), by repeat (first | (with_reducible first | exact HB.out | apply below_alloc | apply pw_below_drewN | apply below_drew1) | exact HB.out)⟩

/-- THE ONE PURE STATEMENT of blazonlaw01_NumSums: yours. -/
def blazonlaw01_NumSums.Pure : Prop := ∀ (a0 : Int) (a1 : Int) (l2 : List Int), (Lit.int .i64 a0).wf = true → (Lit.int .i64 a1).wf = true → l2.length ≤ maxLen → l2.length * 8 ≤ 140737488351232 → (∀ x ∈ l2, (Lit.int .i64 x).wf = true) → ∃ k, blazonlaw01_NumSums.f k a0 a1 l2 = some true
theorem blazonlaw01_NumSums.walk (P : blazonlaw01_NumSums.Pure) (a0 : Int) (a1 : Int) (a2 : Option Addr) (len2 cap2 : Nat) (z2 : List Int) (w : World) (w0 : (Lit.int .i64 a0).wf = true) (w1 : (Lit.int .i64 a1).wf = true) (w2 : (a2 = none ∧ len2 = 0 ∧ cap2 = 0 ∧ z2 = []) ∨ ∃ x, a2 = some x ∧ len2 ≤ cap2 ∧ cap2 ≤ maxLen ∧ z2.length = cap2 ∧ (∀ i, i < z2.length → w.cell? (x.add i) = some (.int .i64 (z2.getD i 0))) ∧ ∀ n ∈ z2, (Lit.int .i64 n).wf = true) (y2 : len2 * 8 ≤ 140737488351232) :
    Calls Try.prog 7 #[.int .i64 a0, .int .i64 a1, .slice a2 len2 cap2] w fun e w' => e = .returned (.bool true) ∧ Below w.heap.size w w' := by
  obtain ⟨l2, rfl, hr2, hm2, hw2, hc2⟩ := ReadsInt.ofRowC w2
  obtain ⟨k, h⟩ := P a0 a1 l2 w0 w1 hm2 y2 hw2
  refine (blazonlaw01_NumSums.calls k a0 a1 _ _ l2 true w (Kd.C_of_reads (d := (0 : Int)) (h1 := fun _ => rfl) hr2) hc2 h).mono ?_
  rintro e w' ⟨rfl, hd⟩
  exact ⟨rfl, hd⟩

/-! ### blazonref01_Lent: function 23 -/
def blazonref01_Lent.f (l0 : List Int) : Option (List Int) := (some (([] : List Int) : List Int)).bind fun y180 => (if y180.length + l0.length < 140737488355328 then ((some (y180 ++ l0 : List Int)).bind fun y183 => ((some (([77, 78, 79] : List Int) : List Int)).bind fun y186 => (if y183.length + y186.length < 140737488355328 then ((some (y183 ++ y186 : List Int)).bind fun y189 => (if 0 ≤ (l0.length : Int) then (if (l0.length : Int) ≤ (y189.length : Int) then (some (y189.take ((l0.length : Int) : Int).toNat)) else (none)) else (none))) else (none)))) else (none))
set_option maxHeartbeats 8000000 in
set_option maxRecDepth 100000 in
theorem blazonref01_Lent.calls (A0 : Option Addr) (c0 : Nat) (l0 : List Int) (r : List Int) (w : World) (hr0 : Kd.C (Kd.int .u8) w A0 l0.length l0) (hc0 : l0.length ≤ c0) (h : blazonref01_Lent.f l0 = some r) :
    Calls Try.prog 23 #[.slice A0 l0.length c0] w fun e w' => ∃ v0_ : Value, e = .returned (v0_) ∧ Kd.L (Kd.int .u8) 5 w' w.heap.size (fun k_ => (w.heap.size ≤ k_)) v0_ r ∧ Below w.heap.size w w' := by
  have HR0 := Aside0.mk hr0
  have HC0 := Aside0.mk hc0
  clear hr0 hc0
  have HB := Aside0.mk (Below.refl w.heap.size w)
  have H : ((some (([] : List Int) : List Int)).bind fun y180 => (if y180.length + l0.length < 140737488355328 then ((some (y180 ++ l0 : List Int)).bind fun y183 => ((some (([77, 78, 79] : List Int) : List Int)).bind fun y186 => (if y183.length + y186.length < 140737488355328 then ((some (y183 ++ y186 : List Int)).bind fun y189 => (if 0 ≤ (l0.length : Int) then (if (l0.length : Int) ≤ (y189.length : Int) then (some (y189.take ((l0.length : Int) : Int).toNat)) else (none)) else (none))) else (none)))) else (none))) = some r := h
  clear h
  obtain ⟨y180, hy180⟩ : ∃ y_ : List Int, y_ = (([] : List Int)) := ⟨_, rfl⟩
  replace H : (if y180.length + l0.length < 140737488355328 then ((some (y180 ++ l0 : List Int)).bind fun y183 => ((some (([77, 78, 79] : List Int) : List Int)).bind fun y186 => (if y183.length + y186.length < 140737488355328 then ((some (y183 ++ y186 : List Int)).bind fun y189 => (if 0 ≤ (l0.length : Int) then (if (l0.length : Int) ≤ (y189.length : Int) then (some (y189.take ((l0.length : Int) : Int).toNat)) else (none)) else (none))) else (none)))) else (none)) = some r := by first | (rw [hy180]; with_reducible exact H) | (have H2_ := (Option.bind_some _ _).symm.trans H; rw [hy180]; with_reducible exact H2_) | (have H2_ := (Option.bind_some _ _).symm.trans H; with_reducible exact H2_) | with_reducible exact H | (rw [hy180]; exact H) | exact H
  have Ny180 := Aside0.mk hy180
  clear hy180
  by_cases c2 : y180.length + l0.length < 140737488355328
  · rw [if_pos c2] at H
    have LMc2 := Aside0.mk c2
    clear c2
    obtain ⟨y183, hy183⟩ : ∃ y_ : List Int, y_ = (y180 ++ l0) := ⟨_, rfl⟩
    replace H : ((some (([77, 78, 79] : List Int) : List Int)).bind fun y186 => (if y183.length + y186.length < 140737488355328 then ((some (y183 ++ y186 : List Int)).bind fun y189 => (if 0 ≤ (l0.length : Int) then (if (l0.length : Int) ≤ (y189.length : Int) then (some (y189.take ((l0.length : Int) : Int).toNat)) else (none)) else (none))) else (none))) = some r := by first | (rw [hy183]; with_reducible exact H) | (have H2_ := (Option.bind_some _ _).symm.trans H; rw [hy183]; with_reducible exact H2_) | (have H2_ := (Option.bind_some _ _).symm.trans H; with_reducible exact H2_) | with_reducible exact H | (rw [hy183]; exact H) | exact H
    have Ny183 := Aside0.mk hy183
    clear hy183
    obtain ⟨y186, hy186⟩ : ∃ y_ : List Int, y_ = (([77, 78, 79] : List Int)) := ⟨_, rfl⟩
    replace H : (if y183.length + y186.length < 140737488355328 then ((some (y183 ++ y186 : List Int)).bind fun y189 => (if 0 ≤ (l0.length : Int) then (if (l0.length : Int) ≤ (y189.length : Int) then (some (y189.take ((l0.length : Int) : Int).toNat)) else (none)) else (none))) else (none)) = some r := by first | (rw [hy186]; with_reducible exact H) | (have H2_ := (Option.bind_some _ _).symm.trans H; rw [hy186]; with_reducible exact H2_) | (have H2_ := (Option.bind_some _ _).symm.trans H; with_reducible exact H2_) | with_reducible exact H | (rw [hy186]; exact H) | exact H
    have Ny186 := Aside0.mk hy186
    clear hy186
    by_cases c3 : y183.length + y186.length < 140737488355328
    · rw [if_pos c3] at H
      have LMc3 := Aside0.mk c3
      clear c3
      obtain ⟨y189, hy189⟩ : ∃ y_ : List Int, y_ = (y183 ++ y186) := ⟨_, rfl⟩
      replace H : (if 0 ≤ (l0.length : Int) then (if (l0.length : Int) ≤ (y189.length : Int) then (some (y189.take ((l0.length : Int) : Int).toNat)) else (none)) else (none)) = some r := by first | (rw [hy189]; with_reducible exact H) | (have H2_ := (Option.bind_some _ _).symm.trans H; rw [hy189]; with_reducible exact H2_) | (have H2_ := (Option.bind_some _ _).symm.trans H; with_reducible exact H2_) | with_reducible exact H | (rw [hy189]; exact H) | exact H
      have Ny189 := Aside0.mk hy189
      clear hy189
      by_cases c4 : 0 ≤ (l0.length : Int)
      · rw [if_pos c4] at H
        have c4b0 := eq_true c4
        have c4b1 : decide (0 ≤ (l0.length : Int)) = true := decide_eq_true c4
        clear c4
        by_cases c5 : (l0.length : Int) ≤ (y189.length : Int)
        · rw [if_pos c5] at H
          have c5b0 := eq_true c5
          have c5b1 : decide ((l0.length : Int) ≤ (y189.length : Int)) = true := decide_eq_true c5
          clear c5
          obtain ⟨y192, hy192⟩ : ∃ y_ : List Int, y_ = (y189.take ((l0.length : Int) : Int).toNat) := ⟨_, rfl⟩
          replace H : (some y192) = some r := by first | (rw [hy192]; with_reducible exact H) | (have H2_ := (Option.bind_some _ _).symm.trans H; rw [hy192]; with_reducible exact H2_) | (have H2_ := (Option.bind_some _ _).symm.trans H; with_reducible exact H2_) | with_reducible exact H | (rw [hy192]; exact H) | exact H
          have Ny192 := Aside0.mk hy192
          clear hy192
          obtain rfl := Option.some.inj H
          go_enter Try.func23, Try.ntmps23
          go_wp2_with (first | ((with_reducible refine gate_dst (N := 4) rfl ?_); refine Kd.R_lit (Kd.int .u8) _ 5 ?hg (N := 4) ?hd (xs := ([] : List Int)) (inner := []) (ok := fun _ => True) (okp := fun _ => True) ?hr ?hp (fun _ hk => hk) trivial (Below.refl _ _) (Nat.le_refl _) (by simp) ?_; (case hd => rfl); (case hg => rfl); (case hr => first | (go_simp; done) | (go_simp; rfl)); (case hp => exact (Reps.none _ _)); intro v181 w6 ho7 hb hg_ hnew_; clear hg_ hnew_; (first | rw [← Ny180.out] at ho7 | (simp only [Int.reduceToNat] at ho7; rw [← Ny180.out] at ho7)); have n0_ := Aside0.mk (Kd.R_lower ho7 (below_size (by repeat (first | (with_reducible first | exact HB.out | apply below_alloc | apply pw_below_drewN | apply below_drew1) | exact HB.out)))); have n1_ := Aside0.mk (below_step (by repeat (first | (with_reducible first | exact HB.out | apply below_alloc | apply pw_below_drewN | apply below_drew1) | exact HB.out)) hb); clear HB; have HO182 := n0_; have HB := n1_; clear n0_ n1_; clear hb ho7) | ((with_reducible refine gate_builtin (b := .append) (xs := #[.tmp 4, .tmp 5]) rfl ?_); at_builtin; refine Kd.R_append_rows (Kd.int .u8) (w0 := w) w.heap.size rfl (.tmp 4) (.tmp 5) 23 5 (.int .u8 0) 1 rfl Try.underlying23 info5 rfl (by decide) (by omega) v181 y180 l0 _ _ _ (fun _ => True) (fun _ => False) rfl rfl ?aO ?aR (fun _ _ h => h) (fun _ h => h.elim) ?aF ?aB ?aS ?aL ?_; (case aR => repeat (first | exact (Kd.C_below HR0.out HB.out) | (with_reducible refine Kd.C_alloc ?_ _) | (with_reducible refine Kd.C_drewN ?_ _) | (with_reducible refine Kd.C_drew ?_))); (case aB => exact (by repeat (first | (with_reducible first | exact HB.out | apply below_alloc | apply pw_below_drewN | apply below_drew1) | exact HB.out))); (case aF => exact (fun _ _ => trivial)); (case aO => exact (by (with_reducible repeat (first | apply Kd.R_alloc | apply Kd.R_drewN | apply Kd.R_drew)); exact HO182.out)); (case aS => exact (below_size (by repeat (first | (with_reducible first | exact HB.out | apply below_alloc | apply pw_below_drewN | apply below_drew1) | exact HB.out)))); (case aL => have := LMc2.out; omega); intro v184 w8 ho hb hg hat; rw [← Ny183.out] at ho; have n0_ := Aside0.mk (hb); have n1_ := Aside0.mk (ho); clear HB; clear HO182; have HB := n0_; have HO185 := n1_; clear n0_ n1_; clear ho hb hg hat) | ((with_reducible refine gate_dst (N := 8) rfl ?_); refine Kd.R_lit (Kd.int .u8) _ 5 ?hg (N := 8) ?hd (xs := ([77, 78, 79] : List Int)) (inner := [.int .u8 77, .int .u8 78, .int .u8 79]) (ok := fun _ => True) (okp := fun _ => True) ?hr ?hp (fun _ hk => hk) trivial (Below.refl _ _) (Nat.le_refl _) (by simp) ?_; (case hd => rfl); (case hg => rfl); (case hr => first | (go_simp; done) | (go_simp; rfl)); (case hp => exact (Reps.one (show Kd.M (Kd.int .u8) _ _ _ 77 [.int .u8 77] from rfl) (Reps.one (show Kd.M (Kd.int .u8) _ _ _ 78 [.int .u8 78] from rfl) (Reps.one (show Kd.M (Kd.int .u8) _ _ _ 79 [.int .u8 79] from rfl) (Reps.none _ _))))); intro v187 w9 ho10 hb hg_ hnew_; clear hg_ hnew_; (first | rw [← Ny186.out] at ho10 | (simp only [Int.reduceToNat] at ho10; rw [← Ny186.out] at ho10)); have n0_ := Aside0.mk (Kd.R_elder' (by (with_reducible repeat (first | apply Kd.R_alloc | apply Kd.R_drewN | apply Kd.R_drew)); exact HO185.out) (Kd.R_base ho10) hb); have n1_ := Aside0.mk (Kd.R_lower (Kd.R_new' ho10 (Kd.R_lt (by (with_reducible repeat (first | apply Kd.R_alloc | apply Kd.R_drewN | apply Kd.R_drew)); exact HO185.out))) (below_size (by repeat (first | (with_reducible first | exact HB.out | apply below_alloc | apply pw_below_drewN | apply below_drew1) | exact HB.out)))); have n2_ := Aside0.mk (below_step (by repeat (first | (with_reducible first | exact HB.out | apply below_alloc | apply pw_below_drewN | apply below_drew1) | exact HB.out)) hb); clear HO185; clear HB; have HO185 := n0_; have HO188 := n1_; have HB := n2_; clear n0_ n1_ n2_; clear hb ho10; obtain ⟨Ao12, co12, eo12⟩ := Kd.R_slice HO188.out; subst eo12) | ((with_reducible refine gate_builtin (b := .append) (xs := #[.tmp 7, .tmp 8]) rfl ?_); at_builtin; refine Kd.R_append_rows (Kd.int .u8) (w0 := w) w.heap.size rfl (.tmp 7) (.tmp 8) 23 5 (.int .u8 0) 1 rfl Try.underlying23 info5 rfl (by decide) (by omega) v184 y183 y186 _ _ _ (fun k_ => some k_ ≠ (.slice Ao12 y186.length co12 : Value).ownBlock) (fun _ => False) rfl rfl ?aO ?aR (fun _ _ h => h) (fun _ h => h.elim) ?aF ?aB ?aS ?aL ?_; (case aR => repeat (first | exact (Kd.R_reads' HO188.out).2.2 | (with_reducible refine Kd.C_alloc ?_ _) | (with_reducible refine Kd.C_drewN ?_ _) | (with_reducible refine Kd.C_drew ?_))); (case aB => exact (by repeat (first | (with_reducible first | exact HB.out | apply below_alloc | apply pw_below_drewN | apply below_drew1) | exact HB.out))); (case aF => exact (fun k_ hk => Kd.fresh' (Kd.R_lt (by (with_reducible repeat (first | apply Kd.R_alloc | apply Kd.R_drewN | apply Kd.R_drew)); exact HO188.out)) k_ hk)); (case aO => exact (by (with_reducible repeat (first | apply Kd.R_alloc | apply Kd.R_drewN | apply Kd.R_drew)); exact Kd.R_mono HO185.out (fun _ hk => hk.2))); (case aS => exact (below_size (by repeat (first | (with_reducible first | exact HB.out | apply below_alloc | apply pw_below_drewN | apply below_drew1) | exact HB.out)))); (case aL => have := LMc3.out; omega); intro v190 w11 ho hb hg hat; rw [← Ny189.out] at ho; have n0_ := Aside0.mk (Kd.R_after (ok := (fun _ => True)) (by (with_reducible repeat (first | apply Kd.R_alloc | apply Kd.R_drewN | apply Kd.R_drew)); exact HO188.out) hg hat); have n1_ := Aside0.mk (hb); have n2_ := Aside0.mk (ho); clear HO188; clear HB; clear HO185; have HO188 := n0_; have HB := n1_; have HO191 := n2_; clear n0_ n1_ n2_; clear ho hb hg hat; obtain ⟨Ao13, co13, eo13⟩ := Kd.R_slice HO191.out; subst eo13; have q14 : ((l0.length : Int) : Int) ≤ ((y189.length : Int) : Int) := of_decide_eq_true (by first | (with_reducible assumption) | assumption); obtain ⟨i014, hi014, _, hsz14, _⟩ := info_parts info5; have hcut14 := cut_to (P := Try.prog) 23 5 .i64 Try.underlying23 hi014 Ao13 y189.length co13 (l0.length : Int) (of_decide_eq_true (by first | (with_reducible assumption) | assumption)) q14 (Kd.R_reads' HO191.out).2.1; have hy14 : y192.length = ((l0.length : Int) : Int).toNat := (by rw [Ny192.out, List.length_take]; omega); have e14 : y189 = y192 ++ [77, 78, 79] := (by rw [Ny192.out, Ny189.out, Ny186.out, Ny183.out, Ny180.out]; simp); have hr14 := Kd.L_of_R (base' := w.heap.size) (xs := y192) (by rw [← e14]; exact Kd.R_mono (Kd.R_bound HO191.out) (fun _ h_ => h_.2.1)); rw [← hy14] at hcut14; clear hy14 e14 hi014 hsz14 HO191; have HO194 := Aside0.mk hr14; clear hr14; replace q14 := eq_true q14))
          go_ret
          exact ⟨_, by first | rfl | (simp [errW_none, errW_some] <;> rfl) | (simp [*, errW_none, errW_some] <;> rfl), by exact HO194.out, by repeat (first | (with_reducible first | exact HB.out | apply below_alloc | apply pw_below_drewN | apply below_drew1) | exact HB.out)⟩
        · rw [if_neg c5] at H
          exact absurd H (by simp)
      · rw [if_neg c4] at H
        exact absurd H (by simp)
    · rw [if_neg c3] at H
      exact absurd H (by simp)
  · rw [if_neg c2] at H
    exact absurd H (by simp)


/-! ### num_Get: function 24 -/
mutual
def num_Get.l0 : Nat → Int → List Int → Int → Int → Option (Int × Int × Int)
  | 0, _, _, _, _ => none
  | k + 1, x2, x8, x9, x10 => if x10 < x9 then (if 0 ≤ x10 then (if x10 < (x8.length : Int) then (if x10 = 9 then (if (IntKind.u64.wrap (Go.bits .andNot .u8 (rd x8 x10) 128)) > 1 then (num_Get.j1 k x2 x10 (rd x8 x10) (IntKind.u64.wrap (Go.bits .andNot .u8 (rd x8 x10) 128)) x8 x9 x10 true) else (num_Get.j1 k x2 x10 (rd x8 x10) (IntKind.u64.wrap (Go.bits .andNot .u8 (rd x8 x10) 128)) x8 x9 x10 (decide (x10 ≥ 10)))) else (num_Get.j1 k x2 x10 (rd x8 x10) (IntKind.u64.wrap (Go.bits .andNot .u8 (rd x8 x10) 128)) x8 x9 x10 (decide (x10 ≥ 10)))) else (none)) else (none)) else (some (0, 0, 2))
def num_Get.j1 : Nat → Int → Int → Int → Int → List Int → Int → Int → Bool → Option (Int × Int × Int)
  | 0, _, _, _, _, _, _, _, _ => none
  | k + 1, x2, x5, x6, x7, x8, x9, x10, x27 => if x27 = true then (some (0, 0, 4)) else (if 0 ≤ (IntKind.u64.wrap (wrap64 (7 * x5))) then (if (x6 / 128) = 1 then (num_Get.l0 k (Go.bits .or .u64 x2 (shl .u64 x7 (IntKind.u64.wrap (wrap64 (7 * x5))))) x8 x9 (wrap64 (x10 + 1))) else (if x7 = 0 then (if x5 > 0 then (some (0, 0, 4)) else (some (Go.bits .or .u64 x2 (shl .u64 x7 (IntKind.u64.wrap (wrap64 (7 * x5)))), wrap64 (x5 + 1), 0))) else (some (Go.bits .or .u64 x2 (shl .u64 x7 (IntKind.u64.wrap (wrap64 (7 * x5)))), wrap64 (x5 + 1), 0)))) else (none))
end
def num_Get.f (k : Nat) (l0 : List Int) : Option (Int × Int × Int) := num_Get.l0 k 0 l0 (l0.length : Int) 0
theorem num_Get.mono_l : ∀ k, (∀ y0 y1 y2 y3, LeO (num_Get.l0 k y0 y1 y2 y3) (num_Get.l0 (k + 1) y0 y1 y2 y3)) ∧ (∀ y0 y1 y2 y3 y4 y5 y6 y7, LeO (num_Get.j1 k y0 y1 y2 y3 y4 y5 y6 y7) (num_Get.j1 (k + 1) y0 y1 y2 y3 y4 y5 y6 y7))
  | 0 => ⟨fun _ _ _ _ r h => by simp [num_Get.l0] at h, fun _ _ _ _ _ _ _ _ r h => by simp [num_Get.j1] at h⟩
  | k + 1 => by
    obtain ⟨ih0, ih1⟩ := num_Get.mono_l k
    refine ⟨?_, ?_⟩
    · intro y0 y1 y2 y3
      unfold num_Get.l0
      repeat' first
      | (with_reducible exact ih0 _ _ _ _)
      | (with_reducible exact ih1 _ _ _ _ _ _ _ _)
      | (with_reducible exact LeO.refl _)
      | (with_reducible exact LeO.none _)
      | (with_reducible refine LeO.ite ?_ ?_)
      | (with_reducible refine LeO.bind ?_ (fun _ => ?_))
      | exact ih0 _ _ _ _
      | exact ih1 _ _ _ _ _ _ _ _
      | exact LeO.none _
      | refine LeO.ite ?_ ?_
      | refine LeO.bind ?_ (fun _ => ?_)
    · intro y0 y1 y2 y3 y4 y5 y6 y7
      unfold num_Get.j1
      repeat' first
      | (with_reducible exact ih0 _ _ _ _)
      | (with_reducible exact ih1 _ _ _ _ _ _ _ _)
      | (with_reducible exact LeO.refl _)
      | (with_reducible exact LeO.none _)
      | (with_reducible refine LeO.ite ?_ ?_)
      | (with_reducible refine LeO.bind ?_ (fun _ => ?_))
      | exact ih0 _ _ _ _
      | exact ih1 _ _ _ _ _ _ _ _
      | exact LeO.none _
      | refine LeO.ite ?_ ?_
      | refine LeO.bind ?_ (fun _ => ?_)
theorem num_Get.mono : ∀ a0 k, LeO (num_Get.f k a0) (num_Get.f (k + 1) a0) := by
  intro a0 k
  obtain ⟨ih0, ih1⟩ := num_Get.mono_l k
  unfold num_Get.f
  repeat' first
      | (with_reducible exact ih0 _ _ _ _)
      | (with_reducible exact ih1 _ _ _ _ _ _ _ _)
      | (with_reducible exact LeO.refl _)
      | (with_reducible exact LeO.none _)
      | (with_reducible refine LeO.ite ?_ ?_)
      | (with_reducible refine LeO.bind ?_ (fun _ => ?_))
      | exact ih0 _ _ _ _
      | exact ih1 _ _ _ _ _ _ _ _
      | exact LeO.none _
      | refine LeO.ite ?_ ?_
      | refine LeO.bind ?_ (fun _ => ?_)
set_option maxHeartbeats 8000000 in
set_option maxRecDepth 100000 in
theorem num_Get.calls (k : Nat) (A0 : Option Addr) (c0 : Nat) (l0 : List Int) (r1 : Int) (r2 : Int) (r3 : Int) (w : World) (hr0 : Kd.C (Kd.int .u8) w A0 l0.length l0) (hc0 : l0.length ≤ c0) (h : num_Get.f k l0 = some (r1, r2, r3)) :
    Calls Try.prog 24 #[.slice A0 l0.length c0] w fun e w' => e = .returned (.tuple #[.int .u64 r1, .int .i64 r2, .int .i64 r3]) ∧ Drawn0 w w' := by
  have HR0 := Aside0.mk hr0
  have HC0 := Aside0.mk hc0
  clear hr0 hc0
  have H : (num_Get.l0 k 0 l0 (l0.length : Int) 0) = some (r1, r2, r3) := h
  clear h
  have H' := Aside0.mk H
  clear H
  go_enter Try.func24, Try.ntmps24
  go_wp2
  go_loopg [2, 10] k (fun kq v2 v10 w' => ∃ (x2_1 : Int) (x10_1 : Int), v2 = .int .u64 x2_1 ∧ v10 = .int .i64 x10_1 ∧ Aside0 (num_Get.l0 kq x2_1 l0 (l0.length : Int) x10_1 = some (r1, r2, r3)) ∧ Aside0 (kq ≤ k) ∧ Drawn0 w w')
  case atStart => exact ⟨(0), (0), (by first | rfl | (simp; done) | (simp [*]; done)), (by first | rfl | (simp; done) | (simp [*]; done)), H', ⟨Nat.le_refl _⟩, by repeat (first | exact Drawn0.refl _ | apply Drawn0.step)⟩
  case round =>
    clear H'
    obtain ⟨x2_1, x10_1, rfl, rfl, HA, HK1, ⟨m1, rfl⟩⟩ := hrel
    cases gk with
    | zero => exact absurd HA.out (by simp [num_Get.l0])
    | succ k1 =>
      have H := HA.out
      clear HA
      simp only [num_Get.l0] at H
      by_cases c2 : x10_1 < (l0.length : Int)
      · rw [if_pos c2] at H
        have c2b0 : decide (x10_1 < (l0.length : Int)) = true := decide_eq_true c2
        clear c2
        by_cases c3 : 0 ≤ x10_1
        · rw [if_pos c3] at H
          have c3b0 : decide (0 ≤ x10_1) = true := decide_eq_true c3
          clear c3
          by_cases c4 : x10_1 < (l0.length : Int)
          · rw [if_pos c4] at H
            have c4b0 : decide (x10_1 < (l0.length : Int)) = true := decide_eq_true c4
            clear c4
            have HC5 := Aside0.mk H
            clear H
            have p139 : 0 ≤ (x10_1 : Int) := of_decide_eq_true (by first | (with_reducible assumption) | assumption)
            have q139 : x10_1 < (l0.length : Int) := of_decide_eq_true (by first | (with_reducible assumption) | assumption)
            obtain ⟨ad139, e139, hx139_0⟩ := Kd.at_int HR0.out x10_1 p139 q139
            cases e139
            replace p139 := eq_true p139
            replace q139 := eq_true q139
            go_upto_region 5 with (fail)
            go_cut [27] (fun v27 wc => ∃ (kq : Nat) (x27_4 : Bool), v27 = .bool x27_4 ∧ Aside0 (num_Get.j1 kq x2_1 x10_1 (rd l0 x10_1) (IntKind.u64.wrap (Go.bits .andNot .u8 (rd l0 x10_1) 128)) l0 (l0.length : Int) x10_1 x27_4 = some (r1, r2, r3)) ∧ Aside0 (kq ≤ k1) ∧ Drawn0 w wc)
            case first =>
              have H := HC5.out
              clear HC5
              by_cases c6 : x10_1 = 9
              · rw [if_pos c6] at H
                have c6b0 : (x10_1 == 9) = true := beq_iff_eq.mpr c6
                have c6b1 : (x10_1 != 9) = false := bne_eq_false_iff_eq.mpr c6
                clear c6
                (first | rw [c6b0] | (simp only [i64_w, i32_w]; rw [c6b0]) | skip)
                by_cases c7 : (IntKind.u64.wrap (Go.bits .andNot .u8 (rd l0 x10_1) 128)) > 1
                · rw [if_pos c7] at H
                  have c7b0 : decide (1 < (IntKind.u64.wrap (Go.bits .andNot .u8 (rd l0 x10_1) 128))) = true := decide_eq_true c7
                  clear c7
                  have H' := Aside0.mk H
                  clear H
                  go_wp2
                  go_meet
                  case rel => exact ⟨_, (true), (by first | rfl | (simp; done) | (simp [*]; done)), H', ⟨by have := HK1.out; first | omega | exact Nat.le_refl _⟩, by repeat (first | exact Drawn0.refl _ | apply Drawn0.step)⟩
                · rw [if_neg c7] at H
                  have c7b0 : decide (1 < (IntKind.u64.wrap (Go.bits .andNot .u8 (rd l0 x10_1) 128))) = false := decide_eq_false c7
                  clear c7
                  have H' := Aside0.mk H
                  clear H
                  go_wp2
                  go_meet
                  case rel => exact ⟨_, (decide (x10_1 ≥ 10)), (by first | rfl | (simp; done) | (simp [*]; done)), H', ⟨by have := HK1.out; first | omega | exact Nat.le_refl _⟩, by repeat (first | exact Drawn0.refl _ | apply Drawn0.step)⟩
              · rw [if_neg c6] at H
                have c6b0 : (x10_1 == 9) = false := beq_eq_false_iff_ne.mpr c6
                have c6b1 : (x10_1 != 9) = true := bne_iff_ne.mpr c6
                (first | rw [c6b0] | (simp only [i64_w, i32_w]; rw [c6b0]) | skip)
                have H' := Aside0.mk H
                clear H
                go_wp2
                go_meet
                case rel => exact ⟨_, (decide (x10_1 ≥ 10)), (by first | rfl | (simp; done) | (simp [*]; done)), H', ⟨by have := HK1.out; first | omega | exact Nat.le_refl _⟩, by repeat (first | exact Drawn0.refl _ | apply Drawn0.step)⟩
            case rest =>
              clear HC5
              try clear p1
              try clear q1
              try clear hx1
              try clear c2
              try clear c2b0
              try clear p2
              try clear c3
              try clear c3b0
              try clear c4
              try clear c4b0
              try clear c6
              try clear c6b0
              try clear c6b1
              try clear c7
              try clear c7b0
              try clear hx139_0
              try clear p139
              try clear q139
              obtain ⟨kq, x27_4, rfl, HA, HJ4, ⟨mc4, rfl⟩⟩ := hcut
              cases kq with
              | zero => exact absurd HA.out (by simp [num_Get.j1])
              | succ kj4 =>
                have H := HA.out
                clear HA
                simp only [num_Get.j1] at H
                by_cases c8 : x27_4 = true
                · subst c8
                  have H1 : (some (0, 0, 4)) = some (r1, r2, r3) := by rw [if_pos rfl] at H; exact H
                  clear H
                  have H := H1
                  clear H1
                  simp only [Option.some.injEq, Prod.mk.injEq] at H
                  obtain ⟨rfl, rfl, rfl⟩ := H
                  go_wp2
                  go_ret3
                  exact ⟨by first | rfl | (simp; done) | (simp [*]; done), by repeat (first | exact Drawn0.refl _ | apply Drawn0.step)⟩
                · replace c8 := Bool.eq_false_iff.mpr c8
                  subst c8
                  have H1 : (if 0 ≤ (IntKind.u64.wrap (wrap64 (7 * x10_1))) then (if ((rd l0 x10_1) / 128) = 1 then (num_Get.l0 kj4 (Go.bits .or .u64 x2_1 (shl .u64 (IntKind.u64.wrap (Go.bits .andNot .u8 (rd l0 x10_1) 128)) (IntKind.u64.wrap (wrap64 (7 * x10_1))))) l0 (l0.length : Int) (wrap64 (x10_1 + 1))) else (if (IntKind.u64.wrap (Go.bits .andNot .u8 (rd l0 x10_1) 128)) = 0 then (if x10_1 > 0 then (some (0, 0, 4)) else (some (Go.bits .or .u64 x2_1 (shl .u64 (IntKind.u64.wrap (Go.bits .andNot .u8 (rd l0 x10_1) 128)) (IntKind.u64.wrap (wrap64 (7 * x10_1)))), wrap64 (x10_1 + 1), 0))) else (some (Go.bits .or .u64 x2_1 (shl .u64 (IntKind.u64.wrap (Go.bits .andNot .u8 (rd l0 x10_1) 128)) (IntKind.u64.wrap (wrap64 (7 * x10_1)))), wrap64 (x10_1 + 1), 0)))) else (none)) = some (r1, r2, r3) := by rw [if_neg (show ¬ (false = true) by decide)] at H; exact H
                  clear H
                  have H := H1
                  clear H1
                  obtain ⟨ji9, hji9⟩ : ∃ j_ : Int, (IntKind.u64.wrap (wrap64 (7 * x10_1))) = j_ := ⟨_, rfl⟩
                  replace H : (if 0 ≤ (ji9) then (if ((rd l0 x10_1) / 128) = 1 then (num_Get.l0 kj4 (Go.bits .or .u64 x2_1 (shl .u64 (IntKind.u64.wrap (Go.bits .andNot .u8 (rd l0 x10_1) 128)) (ji9))) l0 (l0.length : Int) (wrap64 (x10_1 + 1))) else (if (IntKind.u64.wrap (Go.bits .andNot .u8 (rd l0 x10_1) 128)) = 0 then (if x10_1 > 0 then (some (0, 0, 4)) else (some (Go.bits .or .u64 x2_1 (shl .u64 (IntKind.u64.wrap (Go.bits .andNot .u8 (rd l0 x10_1) 128)) (ji9)), wrap64 (x10_1 + 1), 0))) else (some (Go.bits .or .u64 x2_1 (shl .u64 (IntKind.u64.wrap (Go.bits .andNot .u8 (rd l0 x10_1) 128)) (ji9)), wrap64 (x10_1 + 1), 0)))) else (none)) = some (r1, r2, r3) := by first | (rw [hji9] at H; exact H) | (simp only [hji9] at H ⊢; exact H)
                  by_cases c10 : 0 ≤ (ji9)
                  · rw [if_pos c10] at H
                    have c10b0 := eq_true c10
                    have c10b1 : decide (0 ≤ (ji9)) = true := decide_eq_true c10
                    clear c10
                    obtain ⟨ji11, hji11⟩ : ∃ j_ : Int, (shl .u64 (IntKind.u64.wrap (Go.bits .andNot .u8 (rd l0 x10_1) 128)) (ji9)) = j_ := ⟨_, rfl⟩
                    replace H : (if ((rd l0 x10_1) / 128) = 1 then (num_Get.l0 kj4 (Go.bits .or .u64 x2_1 (ji11)) l0 (l0.length : Int) (wrap64 (x10_1 + 1))) else (if (IntKind.u64.wrap (Go.bits .andNot .u8 (rd l0 x10_1) 128)) = 0 then (if x10_1 > 0 then (some (0, 0, 4)) else (some (Go.bits .or .u64 x2_1 (ji11), wrap64 (x10_1 + 1), 0))) else (some (Go.bits .or .u64 x2_1 (ji11), wrap64 (x10_1 + 1), 0)))) = some (r1, r2, r3) := by first | (rw [hji11] at H; exact H) | (simp only [hji11] at H ⊢; exact H)
                    have hji11_ : (IntKind.u64.wrap ((IntKind.u64.wrap (Go.bits .andNot .u8 (rd l0 x10_1) 128)) * 2 ^ min (ji9).toNat 64)) = ji11 := hji11
                    have hji11z : (ji9) ≤ 64 → (IntKind.u64.wrap ((IntKind.u64.wrap (Go.bits .andNot .u8 (rd l0 x10_1) 128)) * 2 ^ (ji9).toNat)) = ji11 := shl_small hji11
                    by_cases c12 : ((rd l0 x10_1) / 128) = 1
                    · rw [if_pos c12] at H
                      have c12b0 : (((rd l0 x10_1) / 128) == 1) = true := beq_iff_eq.mpr c12
                      have c12b1 : (((rd l0 x10_1) / 128) != 1) = false := bne_eq_false_iff_eq.mpr c12
                      clear c12
                      have H' := Aside0.mk H
                      clear H
                      go_wp2
                      go_roundg kj4
                      case measure => have := HK1.out; have := HJ4.out; omega
                      case rel => exact ⟨(Go.bits .or .u64 x2_1 (ji11)), (wrap64 (x10_1 + 1)), (by first | rfl | (simp; done) | (simp only [← hji11] <;> (first | rfl | simp)) | (simp [*]; done)), (by first | rfl | (simp; done) | (simp [*]; done)), H', ⟨by have := HK1.out; have := HJ4.out; omega⟩, by repeat (first | exact Drawn0.refl _ | apply Drawn0.step)⟩
                    · rw [if_neg c12] at H
                      have c12b0 : (((rd l0 x10_1) / 128) == 1) = false := beq_eq_false_iff_ne.mpr c12
                      have c12b1 : (((rd l0 x10_1) / 128) != 1) = true := bne_iff_ne.mpr c12
                      by_cases c13 : (IntKind.u64.wrap (Go.bits .andNot .u8 (rd l0 x10_1) 128)) = 0
                      · rw [if_pos c13] at H
                        have c13b0 : ((IntKind.u64.wrap (Go.bits .andNot .u8 (rd l0 x10_1) 128)) == 0) = true := beq_iff_eq.mpr c13
                        have c13b1 : ((IntKind.u64.wrap (Go.bits .andNot .u8 (rd l0 x10_1) 128)) != 0) = false := bne_eq_false_iff_eq.mpr c13
                        clear c13
                        by_cases c14 : x10_1 > 0
                        · rw [if_pos c14] at H
                          have c14b0 : decide (0 < x10_1) = true := decide_eq_true c14
                          clear c14
                          simp only [Option.some.injEq, Prod.mk.injEq] at H
                          obtain ⟨rfl, rfl, rfl⟩ := H
                          go_wp2
                          go_ret3
                          exact ⟨by first | rfl | (simp; done) | (simp only [← hji9, ← hji11] <;> (first | rfl | simp)) | (simp [*]; done), by repeat (first | exact Drawn0.refl _ | apply Drawn0.step)⟩
                        · rw [if_neg c14] at H
                          have c14b0 : decide (0 < x10_1) = false := decide_eq_false c14
                          clear c14
                          simp only [Option.some.injEq, Prod.mk.injEq] at H
                          obtain ⟨rfl, rfl, rfl⟩ := H
                          go_wp2
                          go_ret3
                          exact ⟨by first | rfl | (simp; done) | (simp only [← hji9, ← hji11] <;> (first | rfl | simp)) | (simp [*]; done), by repeat (first | exact Drawn0.refl _ | apply Drawn0.step)⟩
                      · rw [if_neg c13] at H
                        have c13b0 : ((IntKind.u64.wrap (Go.bits .andNot .u8 (rd l0 x10_1) 128)) == 0) = false := beq_eq_false_iff_ne.mpr c13
                        have c13b1 : ((IntKind.u64.wrap (Go.bits .andNot .u8 (rd l0 x10_1) 128)) != 0) = true := bne_iff_ne.mpr c13
                        simp only [Option.some.injEq, Prod.mk.injEq] at H
                        obtain ⟨rfl, rfl, rfl⟩ := H
                        go_wp2
                        go_ret3
                        exact ⟨by first | rfl | (simp; done) | (simp only [← hji9, ← hji11] <;> (first | rfl | simp)) | (simp [*]; done), by repeat (first | exact Drawn0.refl _ | apply Drawn0.step)⟩
                  · rw [if_neg c10] at H
                    exact absurd H (by simp)
          · rw [if_neg c4] at H
            exact absurd H (by simp)
        · rw [if_neg c3] at H
          exact absurd H (by simp)
      · rw [if_neg c2] at H
        have c2b0 : decide (x10_1 < (l0.length : Int)) = false := decide_eq_false c2
        clear c2
        simp only [Option.some.injEq, Prod.mk.injEq] at H
        obtain ⟨rfl, rfl, rfl⟩ := H
        go_wp2
        go_ret3
        exact ⟨by first | rfl | (simp; done) | (simp [*]; done), by repeat (first | exact Drawn0.refl _ | apply Drawn0.step)⟩

end Go.Proofs.Ytbpagdgbehefkaa.PNum
