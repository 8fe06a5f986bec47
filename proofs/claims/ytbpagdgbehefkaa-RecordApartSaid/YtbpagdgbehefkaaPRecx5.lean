-- By cprint.py, a program of this work. Lean checks it.
import Derived.Test.YtbpagdgbehefkaaPRecx0
import Derived.Test.YtbpagdgbehefkaaPRecx1
import Derived.Test.YtbpagdgbehefkaaPRecx2
namespace Go.Proofs.Ytbpagdgbehefkaa.PRec
open Go.RowKit Go.Proofs.YtbpagdgbehefkaaW.PrintWords Go.Proofs.YtbpagdgbehefkaaW.PrintLast Go.Proofs.YtbpagdgbehefkaaW.PrintMore
set_option linter.unusedVariables false
set_option linter.unusedSimpArgs false

/-! ### blazonref01_Pick: function 35 -/
def blazonref01_Pick.f (a0 : Int) (a1 : Int) : Option (Int) := if a1 < 1 then (some 0) else (if a1 = 0 then (none) else (if (Int.tmod a0 a1) < 0 then (some (wrap64 ((Int.tmod a0 a1) + a1))) else (some (Int.tmod a0 a1))))
set_option maxHeartbeats 2000000 in
set_option maxRecDepth 100000 in
theorem blazonref01_Pick.calls (a0 : Int) (a1 : Int) (r : Int) (c : Nat → Nat) (w : World) (hc : ∀ k, c k < 10)  (H : blazonref01_Pick.f a0 a1 = some r) :
    Calls Try.prog 35 #[.int .i64 a0, .int .i64 a1] w fun e w' => ∃ (c' : Nat → Nat) , e = .returned (.int .i64 r) ∧ Step c w c' w' [] := by
  unfold blazonref01_Pick.f at H
  have HS := Step.refl c w []
  go_enter Try.func35, Try.ntmps35
  refine wp_seq_k fun K3128 hK3128 => ?_
  refine wl_region ?_
  refine st (.int .i64 0) rfl rfl (xr_assign (.int .i64 0) rfl rfl) ?_
  simp only [List.set_cons_zero, List.set_cons_succ]
  refine wl_end ?_
  (try simp only [Act.put, List.setIfInBounds_toArray, List.set_cons_zero, List.set_cons_succ])
  refine hK3128 _ _ ?_
  (try clear hK3128 K3128)
  refine wp_seq_k fun K3129 hK3129 => ?_
  refine wp_seq_k fun K3130 hK3130 => ?_
  refine wl_region ?_
  refine st (.int .i64 a1) rfl rfl (xr_move (.int .i64 a1) rfl rfl) ?_
  simp only [List.set_cons_zero, List.set_cons_succ]
  refine st (.bool (decide (a1 < 1))) rfl rfl (xr_bin (.int .i64 a1) (.int .i64 1) (.bool (decide (a1 < 1))) rfl rfl rfl (B.lss_i64 a1 1)) ?_
  simp only [List.set_cons_zero, List.set_cons_succ]
  refine wl_end ?_
  (try simp only [Act.put, List.setIfInBounds_toArray, List.set_cons_zero, List.set_cons_succ])
  refine hK3130 _ _ ?_
  (try clear hK3130 K3130)
  by_cases c3131 : a1 < 1
  · rw [if_pos c3131] at H
    (try rw [(decide_eq_true c3131)])
    (try simp only [Bool.not_true, Bool.not_false])
    refine wp_cond_true rfl ?_
    refine wp_seq_k fun K3132 hK3132 => ?_
    refine wl_region ?_
    refine st (.int .i64 0) rfl rfl (xr_assign (.int .i64 0) rfl rfl) ?_
    simp only [List.set_cons_zero, List.set_cons_succ]
    refine wl_end ?_
    (try simp only [Act.put, List.setIfInBounds_toArray, List.set_cons_zero, List.set_cons_succ])
    refine hK3132 _ _ ?_
    (try clear hK3132 K3132)
    refine wp_ret ?_
    (try simp only [Exit.inBlock, Exit.then, Exit.noGoto])
    (try simp only [Act.put, List.setIfInBounds_toArray, List.set_cons_zero, List.set_cons_succ])
    obtain rfl := Option.some.inj H
    refine bodyPost_ret (results_tmp rfl _ _ _) rfl ?_
    exact ⟨_, rfl, HS⟩
  · rw [if_neg c3131] at H
    (try rw [(decide_eq_false c3131)])
    (try simp only [Bool.not_true, Bool.not_false])
    refine wp_cond_false rfl ?_
    refine wp_skip ?_
    (try simp only [Act.put, List.setIfInBounds_toArray, List.set_cons_zero, List.set_cons_succ])
    refine hK3129 _ _ ?_
    (try clear hK3129 K3129)
    refine wp_seq_k fun K3133 hK3133 => ?_
    refine wl_region ?_
    refine st (.int .i64 a0) rfl rfl (xr_move (.int .i64 a0) rfl rfl) ?_
    simp only [List.set_cons_zero, List.set_cons_succ]
    refine st (.int .i64 a1) rfl rfl (xr_move (.int .i64 a1) rfl rfl) ?_
    simp only [List.set_cons_zero, List.set_cons_succ]
    by_cases c3134 : a1 = 0
    · rw [if_pos c3134] at H
      exact absurd H (by simp)
    · rw [if_neg c3134] at H
      refine st (.int .i64 (Int.tmod a0 a1)) rfl rfl (xr_bin (.int .i64 a0) (.int .i64 a1) (.int .i64 (Int.tmod a0 a1)) rfl rfl rfl (B.rem_i64 a0 a1 (by assumption))) ?_
      simp only [List.set_cons_zero, List.set_cons_succ]
      refine st (.int .i64 (Int.tmod a0 a1)) rfl rfl (xr_assign (.int .i64 (Int.tmod a0 a1)) rfl rfl) ?_
      simp only [List.set_cons_zero, List.set_cons_succ]
      refine wl_end ?_
      (try simp only [Act.put, List.setIfInBounds_toArray, List.set_cons_zero, List.set_cons_succ])
      refine hK3133 _ _ ?_
      (try clear hK3133 K3133)
      refine wp_seq_k fun K3135 hK3135 => ?_
      refine wp_seq_k fun K3136 hK3136 => ?_
      refine wl_region ?_
      refine st (.int .i64 (Int.tmod a0 a1)) rfl rfl (xr_move (.int .i64 (Int.tmod a0 a1)) rfl rfl) ?_
      simp only [List.set_cons_zero, List.set_cons_succ]
      refine st (.bool (decide ((Int.tmod a0 a1) < 0))) rfl rfl (xr_bin (.int .i64 (Int.tmod a0 a1)) (.int .i64 0) (.bool (decide ((Int.tmod a0 a1) < 0))) rfl rfl rfl (B.lss_i64 (Int.tmod a0 a1) 0)) ?_
      simp only [List.set_cons_zero, List.set_cons_succ]
      refine wl_end ?_
      (try simp only [Act.put, List.setIfInBounds_toArray, List.set_cons_zero, List.set_cons_succ])
      refine hK3136 _ _ ?_
      (try clear hK3136 K3136)
      by_cases c3137 : (Int.tmod a0 a1) < 0
      · rw [if_pos c3137] at H
        (try rw [(decide_eq_true c3137)])
        (try simp only [Bool.not_true, Bool.not_false])
        refine wp_cond_true rfl ?_
        refine wl_region ?_
        refine st (.int .i64 (Int.tmod a0 a1)) rfl rfl (xr_move (.int .i64 (Int.tmod a0 a1)) rfl rfl) ?_
        simp only [List.set_cons_zero, List.set_cons_succ]
        refine st (.int .i64 a1) rfl rfl (xr_move (.int .i64 a1) rfl rfl) ?_
        simp only [List.set_cons_zero, List.set_cons_succ]
        refine st (.int .i64 (wrap64 ((Int.tmod a0 a1) + a1))) rfl rfl (xr_bin (.int .i64 (Int.tmod a0 a1)) (.int .i64 a1) (.int .i64 (wrap64 ((Int.tmod a0 a1) + a1))) rfl rfl rfl (B.add_i64 (Int.tmod a0 a1) a1)) ?_
        simp only [List.set_cons_zero, List.set_cons_succ]
        refine st (.int .i64 (wrap64 ((Int.tmod a0 a1) + a1))) rfl rfl (xr_assign (.int .i64 (wrap64 ((Int.tmod a0 a1) + a1))) rfl rfl) ?_
        simp only [List.set_cons_zero, List.set_cons_succ]
        refine wl_end ?_
        (try simp only [Act.put, List.setIfInBounds_toArray, List.set_cons_zero, List.set_cons_succ])
        refine hK3135 _ _ ?_
        (try clear hK3135 K3135)
        refine wp_seq_k fun K3138 hK3138 => ?_
        refine wl_region ?_
        refine st (.int .i64 (wrap64 ((Int.tmod a0 a1) + a1))) rfl rfl (xr_move (.int .i64 (wrap64 ((Int.tmod a0 a1) + a1))) rfl rfl) ?_
        simp only [List.set_cons_zero, List.set_cons_succ]
        refine st (.int .i64 (wrap64 ((Int.tmod a0 a1) + a1))) rfl rfl (xr_assign (.int .i64 (wrap64 ((Int.tmod a0 a1) + a1))) rfl rfl) ?_
        simp only [List.set_cons_zero, List.set_cons_succ]
        refine wl_end ?_
        (try simp only [Act.put, List.setIfInBounds_toArray, List.set_cons_zero, List.set_cons_succ])
        refine hK3138 _ _ ?_
        (try clear hK3138 K3138)
        refine wp_ret ?_
        (try simp only [Exit.inBlock, Exit.then, Exit.noGoto])
        (try simp only [Act.put, List.setIfInBounds_toArray, List.set_cons_zero, List.set_cons_succ])
        obtain rfl := Option.some.inj H
        refine bodyPost_ret (results_tmp rfl _ _ _) rfl ?_
        exact ⟨_, rfl, HS⟩
      · rw [if_neg c3137] at H
        (try rw [(decide_eq_false c3137)])
        (try simp only [Bool.not_true, Bool.not_false])
        refine wp_cond_false rfl ?_
        refine wp_skip ?_
        (try simp only [Act.put, List.setIfInBounds_toArray, List.set_cons_zero, List.set_cons_succ])
        refine hK3135 _ _ ?_
        (try clear hK3135 K3135)
        refine wp_seq_k fun K3139 hK3139 => ?_
        refine wl_region ?_
        refine st (.int .i64 (Int.tmod a0 a1)) rfl rfl (xr_move (.int .i64 (Int.tmod a0 a1)) rfl rfl) ?_
        simp only [List.set_cons_zero, List.set_cons_succ]
        refine st (.int .i64 (Int.tmod a0 a1)) rfl rfl (xr_assign (.int .i64 (Int.tmod a0 a1)) rfl rfl) ?_
        simp only [List.set_cons_zero, List.set_cons_succ]
        refine wl_end ?_
        (try simp only [Act.put, List.setIfInBounds_toArray, List.set_cons_zero, List.set_cons_succ])
        refine hK3139 _ _ ?_
        (try clear hK3139 K3139)
        refine wp_ret ?_
        (try simp only [Exit.inBlock, Exit.then, Exit.noGoto])
        (try simp only [Act.put, List.setIfInBounds_toArray, List.set_cons_zero, List.set_cons_succ])
        obtain rfl := Option.some.inj H
        refine bodyPost_ret (results_tmp rfl _ _ _) rfl ?_
        exact ⟨_, rfl, HS⟩

/-! ### blazonlaw04_RecordApart: function 15 -/
mutual
def blazonlaw04_RecordApart.j0 : Nat → (List Int) → (List Int) → (List Int) → Int → Bool → Option (Bool)
  | 0, _, _, _, _, _ => none
  | k + 1, t3538, t3552, t3677, t3678, x3705 => if t3678 = 0 then ((blazonref01_Same.f k t3677 t3538).bind fun t3718 => (if t3718 = true then ((blazonref01_Same.f k t3538 t3552).bind fun t3725 => (if t3725 = x3705 then ((blazonlaw04_awake.f k).bind fun t3732 => (some t3732)) else (some false))) else (some false))) else (some false)
def blazonlaw04_RecordApart.j1 : Nat → Int → Int → (List Int) → (List Int) → (List Int) → (List Int) → Int → (List Int) → (Option Int) → Bool → Option (Bool)
  | 0, _, _, _, _, _, _, _, _, _, _ => none
  | k + 1, a0_0, a1_0, l0_1, l1_1, t3538, t3552, t3596, t3597, x3657, x3662 => if x3662 = true then (some false) else ((record_Put.f x3657 ([] : List Int) t3596 t3597).bind fun bt3677 => (if a0_0 = a1_0 then ((blazonref01_Same.f k l0_1 l1_1).bind fun t3739 => (blazonlaw04_RecordApart.j0 k t3538 t3552 bt3677.1 bt3677.2.1 t3739)) else (blazonlaw04_RecordApart.j0 k t3538 t3552 bt3677.1 bt3677.2.1 false)))
def blazonlaw04_RecordApart.j2 : Nat → Int → Int → (List Int) → (List Int) → (List Int) → Bool → Option (Bool)
  | 0, _, _, _, _, _, _ => none
  | k + 1, a0_0, a1_0, l0_1, l1_1, l2, x3511 => if x3511 = true then ((blazonlaw04_awake.f k).bind fun t3522 => (some t3522)) else ((crc_New.f).bind fun t3529 => ((record_Put.f t3529 ([] : List Int) (wrap64 (a0_0)) l0_1).bind fun bt3538 => ((record_Put.f bt3538.2.2 ([] : List Int) (wrap64 (a1_0)) l1_1).bind fun bt3552 => ((some ([] : List Int)).bind fun y3566 => (if y3566.length + bt3538.1.length < 140737488355328 then ((some (y3566 ++ bt3538.1 : List Int)).bind fun y3576 => (if y3576.length + l2.length < 140737488355328 then ((some (y3576 ++ l2 : List Int)).bind fun y3586 => ((record_Get.f bt3552.2.2 y3586).bind fun bt3596 => (if bt3538.2.1 = 0 then (if bt3552.2.1 = 0 then (if bt3596.2.2.2.1 = 0 then (blazonlaw04_RecordApart.j1 k a0_0 a1_0 l0_1 l1_1 bt3538.1 bt3552.1 bt3596.1 bt3596.2.1 bt3596.2.2.2.2 (!decide (bt3596.2.2.1 = (bt3538.1.length : Int)))) else (blazonlaw04_RecordApart.j1 k a0_0 a1_0 l0_1 l1_1 bt3538.1 bt3552.1 bt3596.1 bt3596.2.1 bt3596.2.2.2.2 true)) else (blazonlaw04_RecordApart.j1 k a0_0 a1_0 l0_1 l1_1 bt3538.1 bt3552.1 bt3596.1 bt3596.2.1 bt3596.2.2.2.2 true)) else (blazonlaw04_RecordApart.j1 k a0_0 a1_0 l0_1 l1_1 bt3538.1 bt3552.1 bt3596.1 bt3596.2.1 bt3596.2.2.2.2 true)))) else (none))) else (none))))))
end
def blazonlaw04_RecordApart.f (k : Nat) (a0_0 : Int) (l0_1 : List Int) (a1_0 : Int) (l1_1 : List Int) (l2 : List Int) : Option (Bool) := if (l0_1.length : Int) > 200 then (blazonlaw04_RecordApart.j2 k a0_0 a1_0 l0_1 l1_1 l2 true) else (if (l1_1.length : Int) > 200 then (blazonlaw04_RecordApart.j2 k a0_0 a1_0 l0_1 l1_1 l2 true) else (blazonlaw04_RecordApart.j2 k a0_0 a1_0 l0_1 l1_1 l2 (decide ((l2.length : Int) > 200))))
theorem blazonlaw04_RecordApart.mono_l : ∀ k, (∀ y0 y1 y2 y3 y4, LeO (blazonlaw04_RecordApart.j0 k y0 y1 y2 y3 y4) (blazonlaw04_RecordApart.j0 (k + 1) y0 y1 y2 y3 y4)) ∧ (∀ y0 y1 y2 y3 y4 y5 y6 y7 y8 y9, LeO (blazonlaw04_RecordApart.j1 k y0 y1 y2 y3 y4 y5 y6 y7 y8 y9) (blazonlaw04_RecordApart.j1 (k + 1) y0 y1 y2 y3 y4 y5 y6 y7 y8 y9)) ∧ (∀ y0 y1 y2 y3 y4 y5, LeO (blazonlaw04_RecordApart.j2 k y0 y1 y2 y3 y4 y5) (blazonlaw04_RecordApart.j2 (k + 1) y0 y1 y2 y3 y4 y5))
  | 0 => ⟨fun _ _ _ _ _ r h => by simp [blazonlaw04_RecordApart.j0] at h, fun _ _ _ _ _ _ _ _ _ _ r h => by simp [blazonlaw04_RecordApart.j1] at h, fun _ _ _ _ _ _ r h => by simp [blazonlaw04_RecordApart.j2] at h⟩
  | k + 1 => by
    obtain ⟨ih0, ih1, ih2⟩ := blazonlaw04_RecordApart.mono_l k
    refine ⟨?_, ?_, ?_⟩
    · intro y0 y1 y2 y3 y4
      unfold blazonlaw04_RecordApart.j0
      repeat' first
      | (with_reducible exact ih0 _ _ _ _ _)
      | (with_reducible exact ih1 _ _ _ _ _ _ _ _ _ _)
      | (with_reducible exact ih2 _ _ _ _ _ _)
      | (with_reducible exact blazonlaw04_awake.mono _)
      | (with_reducible exact blazonref01_Same.mono _ _ _)
      | (with_reducible exact LeO.refl _)
      | (with_reducible exact LeO.none _)
      | (with_reducible refine LeO.ite ?_ ?_)
      | (with_reducible refine LeO.bind ?_ (fun _ => ?_))
      | exact ih0 _ _ _ _ _
      | exact ih1 _ _ _ _ _ _ _ _ _ _
      | exact ih2 _ _ _ _ _ _
      | exact blazonlaw04_awake.mono _
      | exact blazonref01_Same.mono _ _ _
      | exact LeO.none _
      | refine LeO.ite ?_ ?_
      | refine LeO.bind ?_ (fun _ => ?_)
    · intro y0 y1 y2 y3 y4 y5 y6 y7 y8 y9
      unfold blazonlaw04_RecordApart.j1
      repeat' first
      | (with_reducible exact ih0 _ _ _ _ _)
      | (with_reducible exact ih1 _ _ _ _ _ _ _ _ _ _)
      | (with_reducible exact ih2 _ _ _ _ _ _)
      | (with_reducible exact blazonlaw04_awake.mono _)
      | (with_reducible exact blazonref01_Same.mono _ _ _)
      | (with_reducible exact LeO.refl _)
      | (with_reducible exact LeO.none _)
      | (with_reducible refine LeO.ite ?_ ?_)
      | (with_reducible refine LeO.bind ?_ (fun _ => ?_))
      | exact ih0 _ _ _ _ _
      | exact ih1 _ _ _ _ _ _ _ _ _ _
      | exact ih2 _ _ _ _ _ _
      | exact blazonlaw04_awake.mono _
      | exact blazonref01_Same.mono _ _ _
      | exact LeO.none _
      | refine LeO.ite ?_ ?_
      | refine LeO.bind ?_ (fun _ => ?_)
    · intro y0 y1 y2 y3 y4 y5
      unfold blazonlaw04_RecordApart.j2
      repeat' first
      | (with_reducible exact ih0 _ _ _ _ _)
      | (with_reducible exact ih1 _ _ _ _ _ _ _ _ _ _)
      | (with_reducible exact ih2 _ _ _ _ _ _)
      | (with_reducible exact blazonlaw04_awake.mono _)
      | (with_reducible exact blazonref01_Same.mono _ _ _)
      | (with_reducible exact LeO.refl _)
      | (with_reducible exact LeO.none _)
      | (with_reducible refine LeO.ite ?_ ?_)
      | (with_reducible refine LeO.bind ?_ (fun _ => ?_))
      | exact ih0 _ _ _ _ _
      | exact ih1 _ _ _ _ _ _ _ _ _ _
      | exact ih2 _ _ _ _ _ _
      | exact blazonlaw04_awake.mono _
      | exact blazonref01_Same.mono _ _ _
      | exact LeO.none _
      | refine LeO.ite ?_ ?_
      | refine LeO.bind ?_ (fun _ => ?_)
theorem blazonlaw04_RecordApart.mono : ∀ a0 a1 a2 a3 a4 k, LeO (blazonlaw04_RecordApart.f k a0 a1 a2 a3 a4) (blazonlaw04_RecordApart.f (k + 1) a0 a1 a2 a3 a4) := by
  intro a0 a1 a2 a3 a4 k
  obtain ⟨ih0, ih1, ih2⟩ := blazonlaw04_RecordApart.mono_l k
  unfold blazonlaw04_RecordApart.f
  repeat' first
      | (with_reducible exact ih0 _ _ _ _ _)
      | (with_reducible exact ih1 _ _ _ _ _ _ _ _ _ _)
      | (with_reducible exact ih2 _ _ _ _ _ _)
      | (with_reducible exact blazonlaw04_awake.mono _)
      | (with_reducible exact blazonref01_Same.mono _ _ _)
      | (with_reducible exact LeO.refl _)
      | (with_reducible exact LeO.none _)
      | (with_reducible refine LeO.ite ?_ ?_)
      | (with_reducible refine LeO.bind ?_ (fun _ => ?_))
      | exact ih0 _ _ _ _ _
      | exact ih1 _ _ _ _ _ _ _ _ _ _
      | exact ih2 _ _ _ _ _ _
      | exact blazonlaw04_awake.mono _
      | exact blazonref01_Same.mono _ _ _
      | exact LeO.none _
      | refine LeO.ite ?_ ?_
      | refine LeO.bind ?_ (fun _ => ?_)
set_option maxHeartbeats 2000000 in
set_option maxRecDepth 100000 in
theorem blazonlaw04_RecordApart.calls (k : Nat) (a0_0 : Int) (A0_1 : Option Addr) (c0_1 : Nat) (l0_1 : List Int) (a1_0 : Int) (A1_1 : Option Addr) (c1_1 : Nat) (l1_1 : List Int) (A2 : Option Addr) (c2 : Nat) (l2 : List Int) (r : Bool) (c : Nat → Nat) (w : World) (hc : ∀ k, c k < 10) (HP0_1 : Ft c [0] w (fun w_ => (Kd.int .u8).C w_ A0_1 l0_1.length l0_1)) (HCP0_1 : l0_1.length ≤ c0_1) (HP1_1 : Ft c [0] w (fun w_ => (Kd.int .u8).C w_ A1_1 l1_1.length l1_1)) (HCP1_1 : l1_1.length ≤ c1_1) (HP2 : Ft c [0] w (fun w_ => (Kd.int .u8).C w_ A2 l2.length l2)) (HCP2 : l2.length ≤ c2) (H : blazonlaw04_RecordApart.f k a0_0 l0_1 a1_0 l1_1 l2 = some r) :
    Calls Try.prog 15 #[.agg #[.int .u8 a0_0, .slice A0_1 l0_1.length c0_1], .agg #[.int .u8 a1_0, .slice A1_1 l1_1.length c1_1], .slice A2 l2.length c2] w fun e w' => ∃ (c' : Nat → Nat) , e = .returned (.bool r) ∧ Step c w c' w' [] := by
  unfold blazonlaw04_RecordApart.f at H
  have HS := Step.refl c w []
  go_enter Try.func15, Try.ntmps15
  refine wp_seq_k fun K3464 hK3464 => ?_
  refine wl_region ?_
  refine bx_new (C := c) 74 [.int .u8 a0_0, .slice A0_1 l0_1.length c0_1] 11 rfl rfl (by first | (go_simp; done) | (go_simp; rfl)) ?_
  intro g3465 w3466 C3467 HX3468 hs3469
  replace HP0_1 := HP0_1.thru hs3469 rfl
  replace HP1_1 := HP1_1.thru hs3469 rfl
  replace HP2 := HP2.thru hs3469 rfl
  replace HS := HS.trans hs3469 hc rfl
  (try simp only [Act.put, List.setIfInBounds_toArray, List.set_cons_zero, List.set_cons_succ])
  refine bx_new (C := C3467) 74 [.int .u8 a1_0, .slice A1_1 l1_1.length c1_1] 12 rfl rfl (by first | (go_simp; done) | (go_simp; rfl)) ?_
  intro g3470 w3471 C3472 HX3473 hs3474
  replace HP0_1 := HP0_1.thru hs3474 rfl
  replace HP1_1 := HP1_1.thru hs3474 rfl
  replace HP2 := HP2.thru hs3474 rfl
  replace HX3468 := HX3468.thru hs3474 rfl
  replace HS := HS.trans hs3474 hc rfl
  (try simp only [Act.put, List.setIfInBounds_toArray, List.set_cons_zero, List.set_cons_succ])
  refine st (.bool false) rfl rfl (xr_assign (.bool false) rfl rfl) ?_
  simp only [List.set_cons_zero, List.set_cons_succ]
  refine wl_end ?_
  (try simp only [Act.put, List.setIfInBounds_toArray, List.set_cons_zero, List.set_cons_succ])
  refine hK3464 _ _ ?_
  (try clear hK3464 K3464)
  refine wp_seq_k fun K3475 hK3475 => ?_
  refine wp_seq_k fun K3503 hK3503 => ?_
  have hj3506 : ∀ (kq3517 : Nat) (C3507 : Nat → Nat) (w3508 : World) (x3511 : Bool) (g3516 : Nat → Value), Step c w C3507 w3508 [] → kq3517 ≤ k → (Ft C3507 [0] w3508 (fun w_ => (Kd.int .u8).C w_ A2 l2.length l2)) → (Ft C3507 [0] w3508 (fun w_ => (Kd.int .u8).C w_ A0_1 l0_1.length l0_1)) → (Bx C3507 11 w3508 g3465 74 [.int .u8 a0_0, .slice A0_1 l0_1.length c0_1]) → (Ft C3507 [0] w3508 (fun w_ => (Kd.int .u8).C w_ A1_1 l1_1.length l1_1)) → (Bx C3507 12 w3508 g3470 74 [.int .u8 a1_0, .slice A1_1 l1_1.length c1_1]) → blazonlaw04_RecordApart.j2 kq3517 a0_0 a1_0 l0_1 l1_1 l2 x3511 = some r → K3503 ⟨#[(g3516 0), (g3516 1), .slice A2 l2.length c2, .pointer (some ⟨g3465, 0, none⟩), .pointer (some ⟨g3470, 0, none⟩), (g3516 5), (g3516 6), (g3516 7), (g3516 8), (g3516 9), (g3516 10), (g3516 11), (g3516 12), (g3516 13), (g3516 14), (g3516 15), (g3516 16), (g3516 17), (g3516 18), (g3516 19), (g3516 20), (g3516 21), (g3516 22), (g3516 23), (g3516 24), (g3516 25), (g3516 26), (g3516 27), (g3516 28), (g3516 29), (g3516 30), (g3516 31), .bool x3511, (g3516 33), (g3516 34), (g3516 35), (g3516 36), (g3516 37), (g3516 38), (g3516 39), (g3516 40), (g3516 41), (g3516 42), (g3516 43), (g3516 44), (g3516 45), (g3516 46), (g3516 47), (g3516 48), (g3516 49), (g3516 50), (g3516 51), (g3516 52), (g3516 53), (g3516 54), (g3516 55), (g3516 56), (g3516 57), (g3516 58), (g3516 59), (g3516 60), (g3516 61), (g3516 62), (g3516 63), (g3516 64), (g3516 65), (g3516 66), (g3516 67), (g3516 68), (g3516 69), (g3516 70), (g3516 71), (g3516 72), (g3516 73), (g3516 74), (g3516 75), (g3516 76), (g3516 77), (g3516 78), (g3516 79), (g3516 80), (g3516 81), (g3516 82), (g3516 83), (g3516 84), (g3516 85), (g3516 86), (g3516 87), (g3516 88), (g3516 89), (g3516 90), (g3516 91), (g3516 92), (g3516 93), (g3516 94), (g3516 95), (g3516 96), (g3516 97), (g3516 98), (g3516 99), (g3516 100), (g3516 101), (g3516 102), (g3516 103), (g3516 104), (g3516 105), (g3516 106), (g3516 107), (g3516 108), (g3516 109), (g3516 110), (g3516 111), (g3516 112), (g3516 113), (g3516 114), (g3516 115), (g3516 116), (g3516 117), (g3516 118)], []⟩ w3508 := by
    intro kq3517 C3507 w3508 x3511 g3516 HS3509 hk3518 HJ3510 HJ3512 HJ3513 HJ3514 HJ3515 H
    cases kq3517 with
    | zero => exact absurd H (by simp [blazonlaw04_RecordApart.j2])
    | succ k3519 =>
      simp only [blazonlaw04_RecordApart.j2] at H
      refine hK3503 _ _ ?_
      (try clear hK3503)
      by_cases c3520 : x3511 = true
      · rw [if_pos c3520] at H
        (try rw [c3520])
        (try simp only [Bool.not_true, Bool.not_false])
        refine wp_cond_true rfl ?_
        refine wp_seq_k fun K3521 hK3521 => ?_
        refine wl_region ?_
        obtain ⟨t3522, A3523, H⟩ := Option.bind_eq_some_iff.mp H
        (try dsimp only at H)
        refine st_call #[] rfl rfl Try.func41 (by kernel_rfl) rfl rfl (by simp only [List.map_toArray, List.map_cons, List.map_nil]; first | done | rfl) ?_
        refine (blazonlaw04_awake.calls k3519 t3522  (fun z_ => pal [(0, 0)] (C3507 z_)) w3508 (fun _ => pal_lt rfl _) A3523).mono ?_
        rintro _ w3525 ⟨C3526, rfl, hs3527⟩
        refine ⟨_, rfl, ?_⟩
        replace hs3527 := Step.lift (U := [(0, 0)]) hs3527 [] rfl rfl
        generalize up C3507 C3526 w3508.heap.size [(0, 0)] = C3526_ at hs3527
        replace HJ3513 := HJ3513.thru hs3527 rfl
        replace HJ3512 := HJ3512.thru hs3527 rfl
        replace HJ3515 := HJ3515.thru hs3527 rfl
        replace HJ3514 := HJ3514.thru hs3527 rfl
        replace HS3509 := HS3509.trans hs3527 hc rfl
        (try simp only [Act.put, List.setIfInBounds_toArray, List.set_cons_zero, List.set_cons_succ])
        refine st (.bool t3522) rfl rfl (xr_assign (.bool t3522) rfl rfl) ?_
        simp only [List.set_cons_zero, List.set_cons_succ]
        refine wl_end ?_
        (try simp only [Act.put, List.setIfInBounds_toArray, List.set_cons_zero, List.set_cons_succ])
        refine hK3521 _ _ ?_
        (try clear hK3521 K3521)
        refine wp_ret ?_
        (try simp only [Exit.inBlock, Exit.then, Exit.noGoto])
        (try simp only [Act.put, List.setIfInBounds_toArray, List.set_cons_zero, List.set_cons_succ])
        obtain rfl := Option.some.inj H
        refine bodyPost_ret (results_tmp rfl _ _ _) rfl ?_
        exact ⟨_, rfl, HS3509⟩
      · rw [if_neg c3520] at H
        (try rw [(Bool.eq_false_iff.mpr c3520)])
        (try simp only [Bool.not_true, Bool.not_false])
        refine wp_cond_false rfl ?_
        refine wp_skip ?_
        (try simp only [Act.put, List.setIfInBounds_toArray, List.set_cons_zero, List.set_cons_succ])
        refine hK3475 _ _ ?_
        (try clear hK3475 K3475)
        refine wp_seq_k fun K3528 hK3528 => ?_
        refine wl_region ?_
        obtain ⟨t3529, A3530, H⟩ := Option.bind_eq_some_iff.mp H
        (try dsimp only at H)
        refine st_call #[] rfl rfl Try.func34 (by kernel_rfl) rfl rfl (by simp only [List.map_toArray, List.map_cons, List.map_nil]; first | done | rfl) ?_
        refine (crc_New.calls t3529  (fun z_ => pal [(0, 0)] (C3507 z_)) w3508 (fun _ => pal_lt rfl _) A3530).mono ?_
        rintro _ w3532 ⟨C3533, v3535, rfl, hs3534, HB3536⟩
        refine ⟨_, rfl, ?_⟩
        replace HB3536 := Ft.res (U := [(0, 0), (5, 13)]) HB3536 hs3534 [13] rfl rfl rfl
        replace hs3534 := Step.lift (U := [(0, 0), (5, 13)]) hs3534 [] rfl rfl
        generalize up C3507 C3533 w3508.heap.size [(0, 0), (5, 13)] = C3533_ at HB3536 hs3534
        replace HJ3510 := HJ3510.thru hs3534 rfl
        replace HJ3513 := HJ3513.thru hs3534 rfl
        replace HJ3512 := HJ3512.thru hs3534 rfl
        replace HJ3515 := HJ3515.thru hs3534 rfl
        replace HJ3514 := HJ3514.thru hs3534 rfl
        replace HS3509 := HS3509.trans hs3534 hc rfl
        (try simp only [Act.put, List.setIfInBounds_toArray, List.set_cons_zero, List.set_cons_succ])
        refine st (v3535) rfl rfl (xr_assign (v3535) rfl rfl) ?_
        simp only [List.set_cons_zero, List.set_cons_succ]
        refine wl_end ?_
        (try simp only [Act.put, List.setIfInBounds_toArray, List.set_cons_zero, List.set_cons_succ])
        refine hK3528 _ _ ?_
        (try clear hK3528 K3528)
        refine wp_seq_k fun K3537 hK3537 => ?_
        refine wl_region ?_
        refine st (v3535) rfl rfl (xr_move (v3535) rfl rfl) ?_
        simp only [List.set_cons_zero, List.set_cons_succ]
        refine st (.pointer (some ⟨g3465, 0, none⟩)) rfl rfl (xr_fieldAddr (.pointer (some ⟨g3465, 0, none⟩)) (.pointer (some ⟨g3465, 0, none⟩)) rfl rfl (bx_field Try.underlying74 rfl rfl (by decide) rfl)) ?_
        simp only [List.set_cons_zero, List.set_cons_succ]
        refine st (.int .u8 a0_0) rfl rfl (xr_load (.pointer (some ⟨g3465, 0, none⟩)) (.int .u8 a0_0) rfl rfl (load_cell Try.underlying5 rfl (bx_cell (l := [.int .u8 a0_0, .slice A0_1 l0_1.length c0_1]) (HJ3513).2 0 rfl))) ?_
        simp only [List.set_cons_zero, List.set_cons_succ]
        refine st (.int .i64 (wrap64 (a0_0))) rfl rfl (xr_conv (.int .u8 a0_0) (.int .i64 (wrap64 (a0_0))) rfl rfl (by first | rfl | (go_simp; done) | (go_simp; rfl) | (go_simp; exact i64_w _) | (go_simp; exact i32_w _))) ?_
        simp only [List.set_cons_zero, List.set_cons_succ]
        refine st (.pointer (some ⟨g3465, 1, none⟩)) rfl rfl (xr_fieldAddr (.pointer (some ⟨g3465, 0, none⟩)) (.pointer (some ⟨g3465, 1, none⟩)) rfl rfl (bx_field Try.underlying74 rfl rfl (by decide) rfl)) ?_
        simp only [List.set_cons_zero, List.set_cons_succ]
        refine st (.slice A0_1 l0_1.length c0_1) rfl rfl (xr_load (.pointer (some ⟨g3465, 1, none⟩)) (.slice A0_1 l0_1.length c0_1) rfl rfl (load_cell Try.underlying23 rfl (bx_cell (l := [.int .u8 a0_0, .slice A0_1 l0_1.length c0_1]) (HJ3513).2 1 rfl))) ?_
        simp only [List.set_cons_zero, List.set_cons_succ]
        refine st (.agg #[.int .i64 (wrap64 (a0_0)), .slice A0_1 l0_1.length c0_1]) rfl rfl (xr_build #[(0, .int .i64 (wrap64 (a0_0))), (1, .slice A0_1 l0_1.length c0_1)] (.agg #[.int .i64 (wrap64 (a0_0)), .slice A0_1 l0_1.length c0_1]) rfl (by simp only [List.map_toArray, List.map_cons, List.map_nil]; first | done | rfl) (by first | rfl | (go_simp; done) | (go_simp; rfl) | (go_simp; exact i64_w _) | (go_simp; exact i32_w _))) ?_
        simp only [List.set_cons_zero, List.set_cons_succ]
        obtain ⟨⟨t3538, t3539, t3540⟩, A3541, H⟩ := Option.bind_eq_some_iff.mp H
        (try dsimp only at H)
        refine st_call #[v3535, .slice none 0 0, .agg #[.int .i64 (wrap64 (a0_0)), .slice A0_1 l0_1.length c0_1]] rfl rfl Try.func42 (by kernel_rfl) rfl rfl (by simp only [List.map_toArray, List.map_cons, List.map_nil]; first | done | rfl) ?_
        refine (record_Put.calls v3535 t3529 none 0 ([] : List Int) (wrap64 (a0_0)) A0_1 c0_1 l0_1 t3538 t3539 t3540  (fun z_ => pal [(0, 0), (13, 1)] (C3533_ z_)) w3532 (fun _ => pal_lt rfl _) (Ft.arg HB3536 rfl) (Ft.arg (show Ft C3533_ [0] w3532 (fun w => (Kd.int .u8).C w none 0 []) from Kd.F_nil _ _ _) rfl) (Nat.le_refl 0) (Ft.arg HJ3512 rfl) HCP0_1 A3541).mono ?_
        rintro _ w3543 ⟨C3544, A3546, cp3547, rfl, hs3545, HO3548, HC3549, HM3550⟩
        refine ⟨_, rfl, ?_⟩
        replace HO3548 := Ft.res (U := [(0, 0), (1, 13)]) HO3548 hs3545 [0] rfl rfl rfl
        replace HM3550 := Ft.res (U := [(0, 0), (1, 13)]) HM3550 hs3545 [13] rfl rfl rfl
        replace hs3545 := Step.lift (U := [(0, 0), (1, 13)]) hs3545 [13] rfl rfl
        generalize up C3533_ C3544 w3532.heap.size [(0, 0), (1, 13)] = C3544_ at HO3548 HM3550 hs3545
        replace HJ3510 := HJ3510.thru hs3545 rfl
        replace HJ3513 := HJ3513.thru hs3545 rfl
        replace HJ3512 := HJ3512.thru hs3545 rfl
        replace HJ3515 := HJ3515.thru hs3545 rfl
        replace HJ3514 := HJ3514.thru hs3545 rfl
        replace HS3509 := HS3509.trans hs3545 hc rfl
        (try simp only [Act.put, List.setIfInBounds_toArray, List.set_cons_zero, List.set_cons_succ])
        refine st (.tuple #[.slice A3546 t3538.length cp3547, .int .i64 t3539]) rfl rfl (xr_move (.tuple #[.slice A3546 t3538.length cp3547, .int .i64 t3539]) rfl rfl) ?_
        simp only [List.set_cons_zero, List.set_cons_succ]
        refine st (.slice A3546 t3538.length cp3547) rfl rfl (xr_extract (.tuple #[.slice A3546 t3538.length cp3547, .int .i64 t3539]) (.slice A3546 t3538.length cp3547) rfl rfl rfl) ?_
        simp only [List.set_cons_zero, List.set_cons_succ]
        refine st (.int .i64 t3539) rfl rfl (xr_extract (.tuple #[.slice A3546 t3538.length cp3547, .int .i64 t3539]) (.int .i64 t3539) rfl rfl rfl) ?_
        simp only [List.set_cons_zero, List.set_cons_succ]
        refine st (.slice A3546 t3538.length cp3547) rfl rfl (xr_assign (.slice A3546 t3538.length cp3547) rfl rfl) ?_
        simp only [List.set_cons_zero, List.set_cons_succ]
        refine st (.int .i64 t3539) rfl rfl (xr_assign (.int .i64 t3539) rfl rfl) ?_
        simp only [List.set_cons_zero, List.set_cons_succ]
        refine wl_end ?_
        (try simp only [Act.put, List.setIfInBounds_toArray, List.set_cons_zero, List.set_cons_succ])
        refine hK3537 _ _ ?_
        (try clear hK3537 K3537)
        refine wp_seq_k fun K3551 hK3551 => ?_
        refine wl_region ?_
        refine st (v3535) rfl rfl (xr_move (v3535) rfl rfl) ?_
        simp only [List.set_cons_zero, List.set_cons_succ]
        refine st (.pointer (some ⟨g3470, 0, none⟩)) rfl rfl (xr_fieldAddr (.pointer (some ⟨g3470, 0, none⟩)) (.pointer (some ⟨g3470, 0, none⟩)) rfl rfl (bx_field Try.underlying74 rfl rfl (by decide) rfl)) ?_
        simp only [List.set_cons_zero, List.set_cons_succ]
        refine st (.int .u8 a1_0) rfl rfl (xr_load (.pointer (some ⟨g3470, 0, none⟩)) (.int .u8 a1_0) rfl rfl (load_cell Try.underlying5 rfl (bx_cell (l := [.int .u8 a1_0, .slice A1_1 l1_1.length c1_1]) (HJ3515).2 0 rfl))) ?_
        simp only [List.set_cons_zero, List.set_cons_succ]
        refine st (.int .i64 (wrap64 (a1_0))) rfl rfl (xr_conv (.int .u8 a1_0) (.int .i64 (wrap64 (a1_0))) rfl rfl (by first | rfl | (go_simp; done) | (go_simp; rfl) | (go_simp; exact i64_w _) | (go_simp; exact i32_w _))) ?_
        simp only [List.set_cons_zero, List.set_cons_succ]
        refine st (.pointer (some ⟨g3470, 1, none⟩)) rfl rfl (xr_fieldAddr (.pointer (some ⟨g3470, 0, none⟩)) (.pointer (some ⟨g3470, 1, none⟩)) rfl rfl (bx_field Try.underlying74 rfl rfl (by decide) rfl)) ?_
        simp only [List.set_cons_zero, List.set_cons_succ]
        refine st (.slice A1_1 l1_1.length c1_1) rfl rfl (xr_load (.pointer (some ⟨g3470, 1, none⟩)) (.slice A1_1 l1_1.length c1_1) rfl rfl (load_cell Try.underlying23 rfl (bx_cell (l := [.int .u8 a1_0, .slice A1_1 l1_1.length c1_1]) (HJ3515).2 1 rfl))) ?_
        simp only [List.set_cons_zero, List.set_cons_succ]
        refine st (.agg #[.int .i64 (wrap64 (a1_0)), .slice A1_1 l1_1.length c1_1]) rfl rfl (xr_build #[(0, .int .i64 (wrap64 (a1_0))), (1, .slice A1_1 l1_1.length c1_1)] (.agg #[.int .i64 (wrap64 (a1_0)), .slice A1_1 l1_1.length c1_1]) rfl (by simp only [List.map_toArray, List.map_cons, List.map_nil]; first | done | rfl) (by first | rfl | (go_simp; done) | (go_simp; rfl) | (go_simp; exact i64_w _) | (go_simp; exact i32_w _))) ?_
        simp only [List.set_cons_zero, List.set_cons_succ]
        obtain ⟨⟨t3552, t3553, t3554⟩, A3555, H⟩ := Option.bind_eq_some_iff.mp H
        (try dsimp only at H)
        refine st_call #[v3535, .slice none 0 0, .agg #[.int .i64 (wrap64 (a1_0)), .slice A1_1 l1_1.length c1_1]] rfl rfl Try.func42 (by kernel_rfl) rfl rfl (by simp only [List.map_toArray, List.map_cons, List.map_nil]; first | done | rfl) ?_
        refine (record_Put.calls v3535 t3540 none 0 ([] : List Int) (wrap64 (a1_0)) A1_1 c1_1 l1_1 t3552 t3553 t3554  (fun z_ => pal [(0, 0), (13, 1)] (C3544_ z_)) w3543 (fun _ => pal_lt rfl _) (Ft.arg HM3550 rfl) (Ft.arg (show Ft C3544_ [0] w3543 (fun w => (Kd.int .u8).C w none 0 []) from Kd.F_nil _ _ _) rfl) (Nat.le_refl 0) (Ft.arg HJ3514 rfl) HCP1_1 A3555).mono ?_
        rintro _ w3557 ⟨C3558, A3560, cp3561, rfl, hs3559, HO3562, HC3563, HM3564⟩
        refine ⟨_, rfl, ?_⟩
        replace HO3562 := Ft.res (U := [(0, 0), (1, 13)]) HO3562 hs3559 [0] rfl rfl rfl
        replace HM3564 := Ft.res (U := [(0, 0), (1, 13)]) HM3564 hs3559 [13] rfl rfl rfl
        replace hs3559 := Step.lift (U := [(0, 0), (1, 13)]) hs3559 [13] rfl rfl
        generalize up C3544_ C3558 w3543.heap.size [(0, 0), (1, 13)] = C3558_ at HO3562 HM3564 hs3559
        replace HJ3510 := HJ3510.thru hs3559 rfl
        replace HJ3513 := HJ3513.thru hs3559 rfl
        replace HJ3512 := HJ3512.thru hs3559 rfl
        replace HJ3515 := HJ3515.thru hs3559 rfl
        replace HJ3514 := HJ3514.thru hs3559 rfl
        replace HO3548 := HO3548.thru hs3559 rfl
        replace HS3509 := HS3509.trans hs3559 hc rfl
        (try simp only [Act.put, List.setIfInBounds_toArray, List.set_cons_zero, List.set_cons_succ])
        refine st (.tuple #[.slice A3560 t3552.length cp3561, .int .i64 t3553]) rfl rfl (xr_move (.tuple #[.slice A3560 t3552.length cp3561, .int .i64 t3553]) rfl rfl) ?_
        simp only [List.set_cons_zero, List.set_cons_succ]
        refine st (.slice A3560 t3552.length cp3561) rfl rfl (xr_extract (.tuple #[.slice A3560 t3552.length cp3561, .int .i64 t3553]) (.slice A3560 t3552.length cp3561) rfl rfl rfl) ?_
        simp only [List.set_cons_zero, List.set_cons_succ]
        refine st (.int .i64 t3553) rfl rfl (xr_extract (.tuple #[.slice A3560 t3552.length cp3561, .int .i64 t3553]) (.int .i64 t3553) rfl rfl rfl) ?_
        simp only [List.set_cons_zero, List.set_cons_succ]
        refine st (.slice A3560 t3552.length cp3561) rfl rfl (xr_assign (.slice A3560 t3552.length cp3561) rfl rfl) ?_
        simp only [List.set_cons_zero, List.set_cons_succ]
        refine st (.int .i64 t3553) rfl rfl (xr_assign (.int .i64 t3553) rfl rfl) ?_
        simp only [List.set_cons_zero, List.set_cons_succ]
        refine wl_end ?_
        (try simp only [Act.put, List.setIfInBounds_toArray, List.set_cons_zero, List.set_cons_succ])
        refine hK3551 _ _ ?_
        (try clear hK3551 K3551)
        refine wp_seq_k fun K3565 hK3565 => ?_
        refine wl_region ?_
        refine st (v3535) rfl rfl (xr_move (v3535) rfl rfl) ?_
        simp only [List.set_cons_zero, List.set_cons_succ]
        obtain ⟨y3566, A3567, H⟩ := Option.bind_eq_some_iff.mp H
        (try dsimp only at H)
        refine Own.lit (Kd.int .u8) (C := C3558_) (i := 14) rfl 5 rfl (xs := ([] : List Int)) (inner := []) (by first | (go_simp; done) | (go_simp; rfl)) (Reps.none _ _) (by simp only [List.length_cons, List.length_nil]; omega) (Option.some.inj A3567) ?_
        intro A3568 cp3569 w3570 C3571 HO3572 HC3573 hs3574
        replace HJ3510 := HJ3510.thru hs3574 rfl
        replace HJ3513 := HJ3513.thru hs3574 rfl
        replace HJ3512 := HJ3512.thru hs3574 rfl
        replace HJ3515 := HJ3515.thru hs3574 rfl
        replace HJ3514 := HJ3514.thru hs3574 rfl
        replace HM3564 := HM3564.thru hs3574 rfl
        replace HO3548 := HO3548.thru hs3574 rfl
        replace HO3562 := HO3562.thru hs3574 rfl
        replace HS3509 := HS3509.trans hs3574 hc rfl
        (try simp only [Act.put, List.setIfInBounds_toArray, List.set_cons_zero, List.set_cons_succ])
        refine st (.slice A3546 t3538.length cp3547) rfl rfl (xr_move (.slice A3546 t3538.length cp3547) rfl rfl) ?_
        simp only [List.set_cons_zero, List.set_cons_succ]
        by_cases c3575 : y3566.length + t3538.length < 140737488355328
        · rw [if_pos c3575] at H
          obtain ⟨y3576, A3577, H⟩ := Option.bind_eq_some_iff.mp H
          (try dsimp only at H)
          refine Own.append_rows (Kd.int .u8) (C := C3571) (i := 14) rfl (.tmp 59) (.tmp 60) 23 5 (.int .u8 0) 1 rfl Try.underlying23 info5 rfl (by decide) (by decide) (.slice A3568 y3566.length cp3569) y3566 t3538 A3546 t3538.length cp3547 rfl rfl HO3572 HO3548 (by decide) (by omega) (Option.some.inj A3577) ?_
          intro A3578 cp3579 w3580 C3581 HO3582 HC3583 hs3584
          replace HJ3510 := HJ3510.thru hs3584 rfl
          replace HJ3513 := HJ3513.thru hs3584 rfl
          replace HJ3512 := HJ3512.thru hs3584 rfl
          replace HJ3515 := HJ3515.thru hs3584 rfl
          replace HJ3514 := HJ3514.thru hs3584 rfl
          replace HM3564 := HM3564.thru hs3584 rfl
          replace HO3548 := HO3548.thru hs3584 rfl
          replace HO3562 := HO3562.thru hs3584 rfl
          replace HS3509 := HS3509.trans hs3584 hc rfl
          (try simp only [Act.put, List.setIfInBounds_toArray, List.set_cons_zero, List.set_cons_succ])
          refine st (.slice A2 l2.length c2) rfl rfl (xr_move (.slice A2 l2.length c2) rfl rfl) ?_
          simp only [List.set_cons_zero, List.set_cons_succ]
          by_cases c3585 : y3576.length + l2.length < 140737488355328
          · rw [if_pos c3585] at H
            obtain ⟨y3586, A3587, H⟩ := Option.bind_eq_some_iff.mp H
            (try dsimp only at H)
            refine Own.append_rows (Kd.int .u8) (C := C3581) (i := 14) rfl (.tmp 61) (.tmp 62) 23 5 (.int .u8 0) 1 rfl Try.underlying23 info5 rfl (by decide) (by decide) (.slice A3578 y3576.length cp3579) y3576 l2 A2 l2.length c2 rfl rfl HO3582 HJ3510 (by decide) (by omega) (Option.some.inj A3587) ?_
            intro A3588 cp3589 w3590 C3591 HO3592 HC3593 hs3594
            replace HJ3513 := HJ3513.thru hs3594 rfl
            replace HJ3512 := HJ3512.thru hs3594 rfl
            replace HJ3515 := HJ3515.thru hs3594 rfl
            replace HJ3514 := HJ3514.thru hs3594 rfl
            replace HM3564 := HM3564.thru hs3594 rfl
            replace HO3548 := HO3548.thru hs3594 rfl
            replace HO3562 := HO3562.thru hs3594 rfl
            replace HS3509 := HS3509.trans hs3594 hc rfl
            (try simp only [Act.put, List.setIfInBounds_toArray, List.set_cons_zero, List.set_cons_succ])
            replace HJ3513 := Bx.recol (a := 14) (b := 0) HJ3513 (by decide)
            replace HJ3512 := Ft.recol (a := 14) (b := 0) HJ3512 (.inl rfl)
            replace HJ3515 := Bx.recol (a := 14) (b := 0) HJ3515 (by decide)
            replace HJ3514 := Ft.recol (a := 14) (b := 0) HJ3514 (.inl rfl)
            replace HM3564 := Ft.recol (a := 14) (b := 0) HM3564 (.inl rfl)
            replace HO3548 := Ft.recol (a := 14) (b := 0) HO3548 (.inl rfl)
            replace HO3562 := Ft.recol (a := 14) (b := 0) HO3562 (.inl rfl)
            have HR3595 := Ft.recolor (a := 14) (b := 0) (HO3592.ft) [0] rfl
            replace HS3509 := Step.recol (a := 14) (b := 0) HS3509 hc (by decide)
            obtain ⟨⟨t3596, t3597, t3598, t3599, t3600⟩, A3601, H⟩ := Option.bind_eq_some_iff.mp H
            (try dsimp only at H)
            refine st_call #[v3535, .slice A3588 y3586.length cp3589] rfl rfl Try.func44 (by kernel_rfl) rfl rfl (by simp only [List.map_toArray, List.map_cons, List.map_nil]; first | done | rfl) ?_
            refine (record_Get.calls v3535 t3554 A3588 cp3589 y3586 t3596 t3597 t3598 t3599 t3600  (fun z_ => pal [(0, 0), (13, 1)] ((recol C3591 14 0) z_)) w3590 (fun _ => pal_lt rfl _) (Ft.arg HM3564 rfl) (Ft.arg HR3595 rfl) HC3593 A3601).mono ?_
            rintro _ w3603 ⟨C3604, A3606, cp3607, rfl, hs3605, HO3608, HC3609, HM3610⟩
            refine ⟨_, rfl, ?_⟩
            replace HO3608 := Own.res (U := [(0, 0), (1, 13), (5, 15)]) (j := 15) HO3608 hs3605 (by rfl) (by decide) rfl rfl
            replace HM3610 := Ft.res (U := [(0, 0), (1, 13), (5, 15)]) HM3610 hs3605 [13] rfl rfl rfl
            replace hs3605 := Step.lift (U := [(0, 0), (1, 13), (5, 15)]) hs3605 [13] rfl rfl
            generalize up (recol C3591 14 0) C3604 w3590.heap.size [(0, 0), (1, 13), (5, 15)] = C3604_ at HO3608 HM3610 hs3605
            replace HJ3513 := HJ3513.thru hs3605 rfl
            replace HJ3512 := HJ3512.thru hs3605 rfl
            replace HJ3515 := HJ3515.thru hs3605 rfl
            replace HJ3514 := HJ3514.thru hs3605 rfl
            replace HO3548 := HO3548.thru hs3605 rfl
            replace HO3562 := HO3562.thru hs3605 rfl
            replace HS3509 := HS3509.trans hs3605 hc rfl
            (try simp only [Act.put, List.setIfInBounds_toArray, List.set_cons_zero, List.set_cons_succ])
            refine st (.tuple #[.agg #[.int .i64 t3596, .slice A3606 t3597.length cp3607], .int .i64 t3598, .int .i64 t3599]) rfl rfl (xr_move (.tuple #[.agg #[.int .i64 t3596, .slice A3606 t3597.length cp3607], .int .i64 t3598, .int .i64 t3599]) rfl rfl) ?_
            simp only [List.set_cons_zero, List.set_cons_succ]
            refine st (.agg #[.int .i64 t3596, .slice A3606 t3597.length cp3607]) rfl rfl (xr_extract (.tuple #[.agg #[.int .i64 t3596, .slice A3606 t3597.length cp3607], .int .i64 t3598, .int .i64 t3599]) (.agg #[.int .i64 t3596, .slice A3606 t3597.length cp3607]) rfl rfl rfl) ?_
            simp only [List.set_cons_zero, List.set_cons_succ]
            refine st (.int .i64 t3598) rfl rfl (xr_extract (.tuple #[.agg #[.int .i64 t3596, .slice A3606 t3597.length cp3607], .int .i64 t3598, .int .i64 t3599]) (.int .i64 t3598) rfl rfl rfl) ?_
            simp only [List.set_cons_zero, List.set_cons_succ]
            refine st (.int .i64 t3599) rfl rfl (xr_extract (.tuple #[.agg #[.int .i64 t3596, .slice A3606 t3597.length cp3607], .int .i64 t3598, .int .i64 t3599]) (.int .i64 t3599) rfl rfl rfl) ?_
            simp only [List.set_cons_zero, List.set_cons_succ]
            refine bx_new (C := C3604_) 63 [.int .i64 0, .slice none 0 0] 16 rfl rfl (by first | (go_simp; done) | (go_simp; rfl)) ?_
            intro g3611 w3612 C3613 HX3614 hs3615
            replace HJ3513 := HJ3513.thru hs3615 rfl
            replace HJ3512 := HJ3512.thru hs3615 rfl
            replace HJ3515 := HJ3515.thru hs3615 rfl
            replace HJ3514 := HJ3514.thru hs3615 rfl
            replace HM3610 := HM3610.thru hs3615 rfl
            replace HO3548 := HO3548.thru hs3615 rfl
            replace HO3562 := HO3562.thru hs3615 rfl
            replace HO3608 := HO3608.thru hs3615 rfl
            replace HS3509 := HS3509.trans hs3615 hc rfl
            (try simp only [Act.put, List.setIfInBounds_toArray, List.set_cons_zero, List.set_cons_succ])
            refine bx_store (C := C3613) (z := 16) (g := g3611) (j := 0) (tb := 63) (u := .agg #[.int .i64 t3596, .slice A3606 t3597.length cp3607]) (seg := [.int .i64 t3596, .slice A3606 t3597.length cp3607]) (xs := [.int .i64 0, .slice none 0 0]) rfl rfl rfl rfl rfl rfl (by first | kernel_rfl | rfl) (by simp [Value.oneCell']) HX3614 (by simp only [List.length_cons, List.length_nil]; omega) rfl ?_
            intro w3616 HX3617 hs3618
            replace HJ3513 := HJ3513.thru hs3618 rfl
            replace HJ3512 := HJ3512.thru hs3618 rfl
            replace HJ3515 := HJ3515.thru hs3618 rfl
            replace HJ3514 := HJ3514.thru hs3618 rfl
            replace HM3610 := HM3610.thru hs3618 rfl
            replace HO3548 := HO3548.thru hs3618 rfl
            replace HO3562 := HO3562.thru hs3618 rfl
            replace HO3608 := HO3608.thru hs3618 rfl
            replace HS3509 := HS3509.trans hs3618 hc rfl
            (try simp only [Act.put, List.setIfInBounds_toArray, List.set_cons_zero, List.set_cons_succ])
            refine st (.int .i64 t3598) rfl rfl (xr_assign (.int .i64 t3598) rfl rfl) ?_
            simp only [List.set_cons_zero, List.set_cons_succ]
            refine st (.int .i64 t3599) rfl rfl (xr_assign (.int .i64 t3599) rfl rfl) ?_
            simp only [List.set_cons_zero, List.set_cons_succ]
            refine wl_end ?_
            (try simp only [Act.put, List.setIfInBounds_toArray, List.set_cons_zero, List.set_cons_succ])
            refine hK3565 _ _ ?_
            (try clear hK3565 K3565)
            refine wp_seq_k fun K3619 hK3619 => ?_
            refine wp_seq_k fun K3649 hK3649 => ?_
            have hj3653 : ∀ (kq3670 : Nat) (C3654 : Nat → Nat) (w3655 : World) (x3662 : Bool) (v3658 : Value) (x3657 : Option Int) (g3669 : Nat → Value), Step c w C3654 w3655 [] → kq3670 ≤ k3519 → (Ft C3654 [17] w3655 (fun w_ => Crc.SumO w_ v3658 x3657)) → (Ft C3654 [0] w3655 (fun w_ => (Kd.int .u8).C w_ A3546 t3538.length t3538)) → (Ft C3654 [0] w3655 (fun w_ => (Kd.int .u8).C w_ A3560 t3552.length t3552)) → (Ft C3654 [0] w3655 (fun w_ => (Kd.int .u8).C w_ A0_1 l0_1.length l0_1)) → (Bx C3654 11 w3655 g3465 74 [.int .u8 a0_0, .slice A0_1 l0_1.length c0_1]) → (Ft C3654 [0] w3655 (fun w_ => (Kd.int .u8).C w_ A1_1 l1_1.length l1_1)) → (Bx C3654 12 w3655 g3470 74 [.int .u8 a1_0, .slice A1_1 l1_1.length c1_1]) → (Own C3654 15 w3655 (Kd.int .u8) 5 (.slice A3606 t3597.length cp3607) t3597) → (Bx C3654 16 w3655 g3611 63 [.int .i64 t3596, .slice A3606 t3597.length cp3607]) → blazonlaw04_RecordApart.j1 kq3670 a0_0 a1_0 l0_1 l1_1 t3538 t3552 t3596 t3597 x3657 x3662 = some r → K3649 ⟨#[(g3669 0), (g3669 1), (g3669 2), .pointer (some ⟨g3465, 0, none⟩), .pointer (some ⟨g3470, 0, none⟩), (g3669 5), (g3669 6), v3658, .slice A3546 t3538.length cp3547, (g3669 9), .slice A3560 t3552.length cp3561, (g3669 11), .pointer (some ⟨g3611, 0, none⟩), (g3669 13), (g3669 14), (g3669 15), (g3669 16), (g3669 17), (g3669 18), (g3669 19), (g3669 20), (g3669 21), (g3669 22), (g3669 23), (g3669 24), (g3669 25), (g3669 26), (g3669 27), (g3669 28), (g3669 29), (g3669 30), (g3669 31), (g3669 32), (g3669 33), (g3669 34), (g3669 35), (g3669 36), (g3669 37), (g3669 38), (g3669 39), (g3669 40), (g3669 41), (g3669 42), (g3669 43), (g3669 44), (g3669 45), (g3669 46), (g3669 47), (g3669 48), (g3669 49), (g3669 50), (g3669 51), (g3669 52), (g3669 53), (g3669 54), (g3669 55), (g3669 56), (g3669 57), (g3669 58), (g3669 59), (g3669 60), (g3669 61), (g3669 62), (g3669 63), (g3669 64), (g3669 65), (g3669 66), (g3669 67), (g3669 68), (g3669 69), (g3669 70), (g3669 71), (g3669 72), (g3669 73), (g3669 74), (g3669 75), (g3669 76), (g3669 77), (g3669 78), (g3669 79), (g3669 80), (g3669 81), (g3669 82), .bool x3662, (g3669 84), (g3669 85), (g3669 86), (g3669 87), (g3669 88), (g3669 89), (g3669 90), (g3669 91), (g3669 92), (g3669 93), (g3669 94), (g3669 95), (g3669 96), (g3669 97), (g3669 98), (g3669 99), (g3669 100), (g3669 101), (g3669 102), (g3669 103), (g3669 104), (g3669 105), (g3669 106), (g3669 107), (g3669 108), (g3669 109), (g3669 110), (g3669 111), (g3669 112), (g3669 113), (g3669 114), (g3669 115), (g3669 116), (g3669 117), (g3669 118)], []⟩ w3655 := by
              intro kq3670 C3654 w3655 x3662 v3658 x3657 g3669 HS3656 hk3671 HJ3659 HJ3660 HJ3661 HJ3663 HJ3664 HJ3665 HJ3666 HJ3667 HJ3668 H
              cases kq3670 with
              | zero => exact absurd H (by simp [blazonlaw04_RecordApart.j1])
              | succ k3672 =>
                simp only [blazonlaw04_RecordApart.j1] at H
                refine hK3649 _ _ ?_
                (try clear hK3649)
                by_cases c3673 : x3662 = true
                · rw [if_pos c3673] at H
                  (try rw [c3673])
                  (try simp only [Bool.not_true, Bool.not_false])
                  refine wp_cond_true rfl ?_
                  refine wp_seq_k fun K3674 hK3674 => ?_
                  refine wl_region ?_
                  refine st (.bool false) rfl rfl (xr_assign (.bool false) rfl rfl) ?_
                  simp only [List.set_cons_zero, List.set_cons_succ]
                  refine wl_end ?_
                  (try simp only [Act.put, List.setIfInBounds_toArray, List.set_cons_zero, List.set_cons_succ])
                  refine hK3674 _ _ ?_
                  (try clear hK3674 K3674)
                  refine wp_ret ?_
                  (try simp only [Exit.inBlock, Exit.then, Exit.noGoto])
                  (try simp only [Act.put, List.setIfInBounds_toArray, List.set_cons_zero, List.set_cons_succ])
                  obtain rfl := Option.some.inj H
                  refine bodyPost_ret (results_tmp rfl _ _ _) rfl ?_
                  exact ⟨_, rfl, HS3656⟩
                · rw [if_neg c3673] at H
                  (try rw [(Bool.eq_false_iff.mpr c3673)])
                  (try simp only [Bool.not_true, Bool.not_false])
                  refine wp_cond_false rfl ?_
                  refine wp_skip ?_
                  (try simp only [Act.put, List.setIfInBounds_toArray, List.set_cons_zero, List.set_cons_succ])
                  refine hK3619 _ _ ?_
                  (try clear hK3619 K3619)
                  refine wp_seq_k fun K3675 hK3675 => ?_
                  refine wl_region ?_
                  refine st (v3658) rfl rfl (xr_move (v3658) rfl rfl) ?_
                  simp only [List.set_cons_zero, List.set_cons_succ]
                  refine st (.agg #[.int .i64 t3596, .slice A3606 t3597.length cp3607]) rfl rfl (xr_load (.pointer (some ⟨g3611, 0, none⟩)) (.agg #[.int .i64 t3596, .slice A3606 t3597.length cp3607]) rfl rfl (load_agg (cs := [.int .i64 t3596, .slice A3606 t3597.length cp3607]) Try.underlying63 rfl (by kernel_rfl) (bx_cells (l := [.int .i64 t3596, .slice A3606 t3597.length cp3607]) (HJ3668).2 0 rfl))) ?_
                  simp only [List.set_cons_zero, List.set_cons_succ]
                  replace HJ3659 := Ft.recol (a := 15) (b := 0) HJ3659 (.inl rfl)
                  replace HJ3660 := Ft.recol (a := 15) (b := 0) HJ3660 (.inl rfl)
                  replace HJ3661 := Ft.recol (a := 15) (b := 0) HJ3661 (.inl rfl)
                  replace HJ3664 := Bx.recol (a := 15) (b := 0) HJ3664 (by decide)
                  replace HJ3663 := Ft.recol (a := 15) (b := 0) HJ3663 (.inl rfl)
                  replace HJ3666 := Bx.recol (a := 15) (b := 0) HJ3666 (by decide)
                  replace HJ3665 := Ft.recol (a := 15) (b := 0) HJ3665 (.inl rfl)
                  replace HJ3668 := Bx.recol (a := 15) (b := 0) HJ3668 (by decide)
                  have HR3676 := Ft.recolor (a := 15) (b := 0) (HJ3667.ft) [0] rfl
                  replace HS3656 := Step.recol (a := 15) (b := 0) HS3656 hc (by decide)
                  obtain ⟨⟨t3677, t3678, t3679⟩, A3680, H⟩ := Option.bind_eq_some_iff.mp H
                  (try dsimp only at H)
                  refine st_call #[v3658, .slice none 0 0, .agg #[.int .i64 t3596, .slice A3606 t3597.length cp3607]] rfl rfl Try.func42 (by kernel_rfl) rfl rfl (by simp only [List.map_toArray, List.map_cons, List.map_nil]; first | done | rfl) ?_
                  refine (record_Put.calls v3658 x3657 none 0 ([] : List Int) t3596 A3606 cp3607 t3597 t3677 t3678 t3679  (fun z_ => pal [(0, 0), (17, 1)] ((recol C3654 15 0) z_)) w3655 (fun _ => pal_lt rfl _) (Ft.arg HJ3659 rfl) (Ft.arg (show Ft (recol C3654 15 0) [0] w3655 (fun w => (Kd.int .u8).C w none 0 []) from Kd.F_nil _ _ _) rfl) (Nat.le_refl 0) (Ft.arg HR3676 rfl) HC3609 A3680).mono ?_
                  rintro _ w3682 ⟨C3683, A3685, cp3686, rfl, hs3684, HO3687, HC3688, HM3689⟩
                  refine ⟨_, rfl, ?_⟩
                  replace HO3687 := Ft.res (U := [(0, 0), (1, 17)]) HO3687 hs3684 [0] rfl rfl rfl
                  replace HM3689 := Ft.res (U := [(0, 0), (1, 17)]) HM3689 hs3684 [17] rfl rfl rfl
                  replace hs3684 := Step.lift (U := [(0, 0), (1, 17)]) hs3684 [17] rfl rfl
                  generalize up (recol C3654 15 0) C3683 w3655.heap.size [(0, 0), (1, 17)] = C3683_ at HO3687 HM3689 hs3684
                  replace HJ3660 := HJ3660.thru hs3684 rfl
                  replace HJ3661 := HJ3661.thru hs3684 rfl
                  replace HJ3664 := HJ3664.thru hs3684 rfl
                  replace HJ3663 := HJ3663.thru hs3684 rfl
                  replace HJ3666 := HJ3666.thru hs3684 rfl
                  replace HJ3665 := HJ3665.thru hs3684 rfl
                  replace HJ3668 := HJ3668.thru hs3684 rfl
                  replace HR3676 := HR3676.thru hs3684 rfl
                  replace HS3656 := HS3656.trans hs3684 hc rfl
                  (try simp only [Act.put, List.setIfInBounds_toArray, List.set_cons_zero, List.set_cons_succ])
                  refine st (.tuple #[.slice A3685 t3677.length cp3686, .int .i64 t3678]) rfl rfl (xr_move (.tuple #[.slice A3685 t3677.length cp3686, .int .i64 t3678]) rfl rfl) ?_
                  simp only [List.set_cons_zero, List.set_cons_succ]
                  refine st (.slice A3685 t3677.length cp3686) rfl rfl (xr_extract (.tuple #[.slice A3685 t3677.length cp3686, .int .i64 t3678]) (.slice A3685 t3677.length cp3686) rfl rfl rfl) ?_
                  simp only [List.set_cons_zero, List.set_cons_succ]
                  refine st (.int .i64 t3678) rfl rfl (xr_extract (.tuple #[.slice A3685 t3677.length cp3686, .int .i64 t3678]) (.int .i64 t3678) rfl rfl rfl) ?_
                  simp only [List.set_cons_zero, List.set_cons_succ]
                  refine st (.slice A3685 t3677.length cp3686) rfl rfl (xr_assign (.slice A3685 t3677.length cp3686) rfl rfl) ?_
                  simp only [List.set_cons_zero, List.set_cons_succ]
                  refine st (.int .i64 t3678) rfl rfl (xr_assign (.int .i64 t3678) rfl rfl) ?_
                  simp only [List.set_cons_zero, List.set_cons_succ]
                  refine wl_end ?_
                  (try simp only [Act.put, List.setIfInBounds_toArray, List.set_cons_zero, List.set_cons_succ])
                  refine hK3675 _ _ ?_
                  (try clear hK3675 K3675)
                  refine wp_seq_k fun K3690 hK3690 => ?_
                  have hj3698 : ∀ (kq3713 : Nat) (C3699 : Nat → Nat) (w3700 : World) (x3705 : Bool) (g3712 : Nat → Value), Step c w C3699 w3700 [] → kq3713 ≤ k3672 → (Ft C3699 [0] w3700 (fun w_ => (Kd.int .u8).C w_ A3546 t3538.length t3538)) → (Ft C3699 [0] w3700 (fun w_ => (Kd.int .u8).C w_ A3560 t3552.length t3552)) → (Ft C3699 [0] w3700 (fun w_ => (Kd.int .u8).C w_ A3685 t3677.length t3677)) → (Ft C3699 [0] w3700 (fun w_ => (Kd.int .u8).C w_ A0_1 l0_1.length l0_1)) → (Bx C3699 11 w3700 g3465 74 [.int .u8 a0_0, .slice A0_1 l0_1.length c0_1]) → (Ft C3699 [0] w3700 (fun w_ => (Kd.int .u8).C w_ A1_1 l1_1.length l1_1)) → (Bx C3699 12 w3700 g3470 74 [.int .u8 a1_0, .slice A1_1 l1_1.length c1_1]) → (Ft C3699 [0] w3700 (fun w_ => (Kd.int .u8).C w_ A3606 t3597.length t3597)) → (Bx C3699 16 w3700 g3611 63 [.int .i64 t3596, .slice A3606 t3597.length cp3607]) → blazonlaw04_RecordApart.j0 kq3713 t3538 t3552 t3677 t3678 x3705 = some r → K3690 ⟨#[(g3712 0), (g3712 1), (g3712 2), (g3712 3), (g3712 4), (g3712 5), (g3712 6), (g3712 7), .slice A3546 t3538.length cp3547, (g3712 9), .slice A3560 t3552.length cp3561, (g3712 11), (g3712 12), (g3712 13), (g3712 14), .slice A3685 t3677.length cp3686, .int .i64 t3678, .bool x3705, (g3712 18), (g3712 19), (g3712 20), (g3712 21), (g3712 22), (g3712 23), (g3712 24), (g3712 25), (g3712 26), (g3712 27), (g3712 28), (g3712 29), (g3712 30), (g3712 31), (g3712 32), (g3712 33), (g3712 34), (g3712 35), (g3712 36), (g3712 37), (g3712 38), (g3712 39), (g3712 40), (g3712 41), (g3712 42), (g3712 43), (g3712 44), (g3712 45), (g3712 46), (g3712 47), (g3712 48), (g3712 49), (g3712 50), (g3712 51), (g3712 52), (g3712 53), (g3712 54), (g3712 55), (g3712 56), (g3712 57), (g3712 58), (g3712 59), (g3712 60), (g3712 61), (g3712 62), (g3712 63), (g3712 64), (g3712 65), (g3712 66), (g3712 67), (g3712 68), (g3712 69), (g3712 70), (g3712 71), (g3712 72), (g3712 73), (g3712 74), (g3712 75), (g3712 76), (g3712 77), (g3712 78), (g3712 79), (g3712 80), (g3712 81), (g3712 82), (g3712 83), (g3712 84), (g3712 85), (g3712 86), (g3712 87), (g3712 88), (g3712 89), (g3712 90), (g3712 91), (g3712 92), (g3712 93), (g3712 94), (g3712 95), (g3712 96), (g3712 97), (g3712 98), (g3712 99), (g3712 100), (g3712 101), (g3712 102), (g3712 103), (g3712 104), (g3712 105), (g3712 106), (g3712 107), (g3712 108), (g3712 109), (g3712 110), (g3712 111), (g3712 112), (g3712 113), (g3712 114), (g3712 115), (g3712 116), (g3712 117), (g3712 118)], []⟩ w3700 := by
                    intro kq3713 C3699 w3700 x3705 g3712 HS3701 hk3714 HJ3702 HJ3703 HJ3704 HJ3706 HJ3707 HJ3708 HJ3709 HJ3710 HJ3711 H
                    cases kq3713 with
                    | zero => exact absurd H (by simp [blazonlaw04_RecordApart.j0])
                    | succ k3715 =>
                      simp only [blazonlaw04_RecordApart.j0] at H
                      refine hK3690 _ _ ?_
                      (try clear hK3690)
                      refine wp_seq_k fun K3716 hK3716 => ?_
                      refine wl_region ?_
                      refine st (.int .i64 t3678) rfl rfl (xr_move (.int .i64 t3678) rfl rfl) ?_
                      simp only [List.set_cons_zero, List.set_cons_succ]
                      refine st (.bool (decide (t3678 = 0))) rfl rfl (xr_bin (.int .i64 t3678) (.int .i64 0) (.bool (decide (t3678 = 0))) rfl rfl rfl (B.eql_i64 t3678 0)) ?_
                      simp only [List.set_cons_zero, List.set_cons_succ]
                      refine st (.bool (decide (t3678 = 0))) rfl rfl (xr_move (.bool (decide (t3678 = 0))) rfl rfl) ?_
                      simp only [List.set_cons_zero, List.set_cons_succ]
                      by_cases c3717 : t3678 = 0
                      · rw [if_pos c3717] at H
                        (try rw [(decide_eq_true c3717)])
                        (try simp only [Bool.not_true, Bool.not_false])
                        refine on_guard (guard_on 2 true 104 rfl rfl rfl) ?_
                        refine st (.slice A3685 t3677.length cp3686) rfl rfl (xr_move (.slice A3685 t3677.length cp3686) rfl rfl) ?_
                        simp only [List.set_cons_zero, List.set_cons_succ]
                        refine on_guard (guard_on 2 true 104 rfl rfl rfl) ?_
                        refine st (.slice A3546 t3538.length cp3547) rfl rfl (xr_move (.slice A3546 t3538.length cp3547) rfl rfl) ?_
                        simp only [List.set_cons_zero, List.set_cons_succ]
                        refine on_guard (guard_on 2 true 104 rfl rfl rfl) ?_
                        obtain ⟨t3718, A3719, H⟩ := Option.bind_eq_some_iff.mp H
                        (try dsimp only at H)
                        refine st_call #[.slice A3685 t3677.length cp3686, .slice A3546 t3538.length cp3547] rfl rfl Try.func17 (by kernel_rfl) rfl rfl (by simp only [List.map_toArray, List.map_cons, List.map_nil]; first | done | rfl) ?_
                        refine (blazonref01_Same.calls k3715 A3685 cp3686 t3677 A3546 cp3547 t3538 t3718  (fun z_ => pal [(0, 0)] (C3699 z_)) w3700 (fun _ => pal_lt rfl _) (Ft.arg HJ3704 rfl) HC3688 (Ft.arg HJ3702 rfl) HC3549 A3719).mono ?_
                        rintro _ w3721 ⟨C3722, rfl, hs3723⟩
                        refine ⟨_, rfl, ?_⟩
                        replace hs3723 := Step.lift (U := [(0, 0)]) hs3723 [] rfl rfl
                        generalize up C3699 C3722 w3700.heap.size [(0, 0)] = C3722_ at hs3723
                        replace HJ3702 := HJ3702.thru hs3723 rfl
                        replace HJ3703 := HJ3703.thru hs3723 rfl
                        replace HJ3707 := HJ3707.thru hs3723 rfl
                        replace HJ3706 := HJ3706.thru hs3723 rfl
                        replace HJ3709 := HJ3709.thru hs3723 rfl
                        replace HJ3708 := HJ3708.thru hs3723 rfl
                        replace HJ3711 := HJ3711.thru hs3723 rfl
                        replace HJ3710 := HJ3710.thru hs3723 rfl
                        replace HS3701 := HS3701.trans hs3723 hc rfl
                        (try simp only [Act.put, List.setIfInBounds_toArray, List.set_cons_zero, List.set_cons_succ])
                        refine st (.bool t3718) rfl rfl (xr_pick true (.bool t3718) rfl rfl rfl) ?_
                        simp only [List.set_cons_zero, List.set_cons_succ]
                        refine st (.bool t3718) rfl rfl (xr_move (.bool t3718) rfl rfl) ?_
                        simp only [List.set_cons_zero, List.set_cons_succ]
                        by_cases c3724 : t3718 = true
                        · rw [if_pos c3724] at H
                          (try rw [c3724])
                          (try simp only [Bool.not_true, Bool.not_false])
                          refine on_guard (guard_on 7 true 109 rfl rfl rfl) ?_
                          refine st (.slice A3546 t3538.length cp3547) rfl rfl (xr_move (.slice A3546 t3538.length cp3547) rfl rfl) ?_
                          simp only [List.set_cons_zero, List.set_cons_succ]
                          refine on_guard (guard_on 7 true 109 rfl rfl rfl) ?_
                          refine st (.slice A3560 t3552.length cp3561) rfl rfl (xr_move (.slice A3560 t3552.length cp3561) rfl rfl) ?_
                          simp only [List.set_cons_zero, List.set_cons_succ]
                          refine on_guard (guard_on 7 true 109 rfl rfl rfl) ?_
                          obtain ⟨t3725, A3726, H⟩ := Option.bind_eq_some_iff.mp H
                          (try dsimp only at H)
                          refine st_call #[.slice A3546 t3538.length cp3547, .slice A3560 t3552.length cp3561] rfl rfl Try.func17 (by kernel_rfl) rfl rfl (by simp only [List.map_toArray, List.map_cons, List.map_nil]; first | done | rfl) ?_
                          refine (blazonref01_Same.calls k3715 A3546 cp3547 t3538 A3560 cp3561 t3552 t3725  (fun z_ => pal [(0, 0)] (C3722_ z_)) w3721 (fun _ => pal_lt rfl _) (Ft.arg HJ3702 rfl) HC3549 (Ft.arg HJ3703 rfl) HC3563 A3726).mono ?_
                          rintro _ w3728 ⟨C3729, rfl, hs3730⟩
                          refine ⟨_, rfl, ?_⟩
                          replace hs3730 := Step.lift (U := [(0, 0)]) hs3730 [] rfl rfl
                          generalize up C3722_ C3729 w3721.heap.size [(0, 0)] = C3729_ at hs3730
                          replace HJ3707 := HJ3707.thru hs3730 rfl
                          replace HJ3706 := HJ3706.thru hs3730 rfl
                          replace HJ3709 := HJ3709.thru hs3730 rfl
                          replace HJ3708 := HJ3708.thru hs3730 rfl
                          replace HJ3711 := HJ3711.thru hs3730 rfl
                          replace HJ3710 := HJ3710.thru hs3730 rfl
                          replace HS3701 := HS3701.trans hs3730 hc rfl
                          (try simp only [Act.put, List.setIfInBounds_toArray, List.set_cons_zero, List.set_cons_succ])
                          refine on_guard (guard_on 7 true 109 rfl rfl rfl) ?_
                          refine st (.bool x3705) rfl rfl (xr_move (.bool x3705) rfl rfl) ?_
                          simp only [List.set_cons_zero, List.set_cons_succ]
                          refine on_guard (guard_on 7 true 109 rfl rfl rfl) ?_
                          refine st (.bool (decide (t3725 = x3705))) rfl rfl (xr_bin (.bool t3725) (.bool x3705) (.bool (decide (t3725 = x3705))) rfl rfl rfl (B.eql_bool Try.underlying4 t3725 x3705)) ?_
                          simp only [List.set_cons_zero, List.set_cons_succ]
                          refine st (.bool (decide (t3725 = x3705))) rfl rfl (xr_pick true (.bool (decide (t3725 = x3705))) rfl rfl rfl) ?_
                          simp only [List.set_cons_zero, List.set_cons_succ]
                          refine st (.bool (decide (t3725 = x3705))) rfl rfl (xr_move (.bool (decide (t3725 = x3705))) rfl rfl) ?_
                          simp only [List.set_cons_zero, List.set_cons_succ]
                          by_cases c3731 : t3725 = x3705
                          · rw [if_pos c3731] at H
                            (try rw [(decide_eq_true c3731)])
                            (try simp only [Bool.not_true, Bool.not_false])
                            refine on_guard (guard_on 14 true 116 rfl rfl rfl) ?_
                            obtain ⟨t3732, A3733, H⟩ := Option.bind_eq_some_iff.mp H
                            (try dsimp only at H)
                            refine st_call #[] rfl rfl Try.func41 (by kernel_rfl) rfl rfl (by simp only [List.map_toArray, List.map_cons, List.map_nil]; first | done | rfl) ?_
                            refine (blazonlaw04_awake.calls k3715 t3732  (fun z_ => pal [(0, 0)] (C3729_ z_)) w3728 (fun _ => pal_lt rfl _) A3733).mono ?_
                            rintro _ w3735 ⟨C3736, rfl, hs3737⟩
                            refine ⟨_, rfl, ?_⟩
                            replace hs3737 := Step.lift (U := [(0, 0)]) hs3737 [] rfl rfl
                            generalize up C3729_ C3736 w3728.heap.size [(0, 0)] = C3736_ at hs3737
                            replace HJ3707 := HJ3707.thru hs3737 rfl
                            replace HJ3706 := HJ3706.thru hs3737 rfl
                            replace HJ3709 := HJ3709.thru hs3737 rfl
                            replace HJ3708 := HJ3708.thru hs3737 rfl
                            replace HJ3711 := HJ3711.thru hs3737 rfl
                            replace HJ3710 := HJ3710.thru hs3737 rfl
                            replace HS3701 := HS3701.trans hs3737 hc rfl
                            (try simp only [Act.put, List.setIfInBounds_toArray, List.set_cons_zero, List.set_cons_succ])
                            refine st (.bool t3732) rfl rfl (xr_pick true (.bool t3732) rfl rfl rfl) ?_
                            simp only [List.set_cons_zero, List.set_cons_succ]
                            refine st (.bool t3732) rfl rfl (xr_assign (.bool t3732) rfl rfl) ?_
                            simp only [List.set_cons_zero, List.set_cons_succ]
                            refine wl_end ?_
                            (try simp only [Act.put, List.setIfInBounds_toArray, List.set_cons_zero, List.set_cons_succ])
                            refine hK3716 _ _ ?_
                            (try clear hK3716 K3716)
                            refine wp_ret ?_
                            (try simp only [Exit.inBlock, Exit.then, Exit.noGoto])
                            (try simp only [Act.put, List.setIfInBounds_toArray, List.set_cons_zero, List.set_cons_succ])
                            obtain rfl := Option.some.inj H
                            refine bodyPost_ret (results_tmp rfl _ _ _) rfl ?_
                            exact ⟨_, rfl, HS3701⟩
                          · rw [if_neg c3731] at H
                            (try rw [(decide_eq_false c3731)])
                            (try simp only [Bool.not_true, Bool.not_false])
                            refine sk_guard (guard_off 14 true 116 rfl rfl false (by decide) rfl) rfl ?_
                            simp only [List.set_cons_zero, List.set_cons_succ]
                            refine st (.bool false) rfl rfl (xr_pick false (.bool false) rfl rfl rfl) ?_
                            simp only [List.set_cons_zero, List.set_cons_succ]
                            refine st (.bool false) rfl rfl (xr_assign (.bool false) rfl rfl) ?_
                            simp only [List.set_cons_zero, List.set_cons_succ]
                            refine wl_end ?_
                            (try simp only [Act.put, List.setIfInBounds_toArray, List.set_cons_zero, List.set_cons_succ])
                            refine hK3716 _ _ ?_
                            (try clear hK3716 K3716)
                            refine wp_ret ?_
                            (try simp only [Exit.inBlock, Exit.then, Exit.noGoto])
                            (try simp only [Act.put, List.setIfInBounds_toArray, List.set_cons_zero, List.set_cons_succ])
                            obtain rfl := Option.some.inj H
                            refine bodyPost_ret (results_tmp rfl _ _ _) rfl ?_
                            exact ⟨_, rfl, HS3701⟩
                        · rw [if_neg c3724] at H
                          (try rw [(Bool.eq_false_iff.mpr c3724)])
                          (try simp only [Bool.not_true, Bool.not_false])
                          refine sk_guard (guard_off 7 true 109 rfl rfl false (by decide) rfl) rfl ?_
                          simp only [List.set_cons_zero, List.set_cons_succ]
                          refine sk_guard (guard_off 7 true 109 rfl rfl false (by decide) rfl) rfl ?_
                          simp only [List.set_cons_zero, List.set_cons_succ]
                          refine sk_guard (guard_off 7 true 109 rfl rfl false (by decide) rfl) rfl ?_
                          simp only [List.set_cons_zero, List.set_cons_succ]
                          refine sk_guard (guard_off 7 true 109 rfl rfl false (by decide) rfl) rfl ?_
                          simp only [List.set_cons_zero, List.set_cons_succ]
                          refine sk_guard (guard_off 7 true 109 rfl rfl false (by decide) rfl) rfl ?_
                          simp only [List.set_cons_zero, List.set_cons_succ]
                          refine st (.bool false) rfl rfl (xr_pick false (.bool false) rfl rfl rfl) ?_
                          simp only [List.set_cons_zero, List.set_cons_succ]
                          refine st (.bool false) rfl rfl (xr_move (.bool false) rfl rfl) ?_
                          simp only [List.set_cons_zero, List.set_cons_succ]
                          refine sk_guard (guard_off 14 true 116 rfl rfl false (by decide) rfl) rfl ?_
                          simp only [List.set_cons_zero, List.set_cons_succ]
                          refine st (.bool false) rfl rfl (xr_pick false (.bool false) rfl rfl rfl) ?_
                          simp only [List.set_cons_zero, List.set_cons_succ]
                          refine st (.bool false) rfl rfl (xr_assign (.bool false) rfl rfl) ?_
                          simp only [List.set_cons_zero, List.set_cons_succ]
                          refine wl_end ?_
                          (try simp only [Act.put, List.setIfInBounds_toArray, List.set_cons_zero, List.set_cons_succ])
                          refine hK3716 _ _ ?_
                          (try clear hK3716 K3716)
                          refine wp_ret ?_
                          (try simp only [Exit.inBlock, Exit.then, Exit.noGoto])
                          (try simp only [Act.put, List.setIfInBounds_toArray, List.set_cons_zero, List.set_cons_succ])
                          obtain rfl := Option.some.inj H
                          refine bodyPost_ret (results_tmp rfl _ _ _) rfl ?_
                          exact ⟨_, rfl, HS3701⟩
                      · rw [if_neg c3717] at H
                        (try rw [(decide_eq_false c3717)])
                        (try simp only [Bool.not_true, Bool.not_false])
                        refine sk_guard (guard_off 2 true 104 rfl rfl false (by decide) rfl) rfl ?_
                        simp only [List.set_cons_zero, List.set_cons_succ]
                        refine sk_guard (guard_off 2 true 104 rfl rfl false (by decide) rfl) rfl ?_
                        simp only [List.set_cons_zero, List.set_cons_succ]
                        refine sk_guard (guard_off 2 true 104 rfl rfl false (by decide) rfl) rfl ?_
                        simp only [List.set_cons_zero, List.set_cons_succ]
                        refine st (.bool false) rfl rfl (xr_pick false (.bool false) rfl rfl rfl) ?_
                        simp only [List.set_cons_zero, List.set_cons_succ]
                        refine st (.bool false) rfl rfl (xr_move (.bool false) rfl rfl) ?_
                        simp only [List.set_cons_zero, List.set_cons_succ]
                        refine sk_guard (guard_off 7 true 109 rfl rfl false (by decide) rfl) rfl ?_
                        simp only [List.set_cons_zero, List.set_cons_succ]
                        refine sk_guard (guard_off 7 true 109 rfl rfl false (by decide) rfl) rfl ?_
                        simp only [List.set_cons_zero, List.set_cons_succ]
                        refine sk_guard (guard_off 7 true 109 rfl rfl false (by decide) rfl) rfl ?_
                        simp only [List.set_cons_zero, List.set_cons_succ]
                        refine sk_guard (guard_off 7 true 109 rfl rfl false (by decide) rfl) rfl ?_
                        simp only [List.set_cons_zero, List.set_cons_succ]
                        refine sk_guard (guard_off 7 true 109 rfl rfl false (by decide) rfl) rfl ?_
                        simp only [List.set_cons_zero, List.set_cons_succ]
                        refine st (.bool false) rfl rfl (xr_pick false (.bool false) rfl rfl rfl) ?_
                        simp only [List.set_cons_zero, List.set_cons_succ]
                        refine st (.bool false) rfl rfl (xr_move (.bool false) rfl rfl) ?_
                        simp only [List.set_cons_zero, List.set_cons_succ]
                        refine sk_guard (guard_off 14 true 116 rfl rfl false (by decide) rfl) rfl ?_
                        simp only [List.set_cons_zero, List.set_cons_succ]
                        refine st (.bool false) rfl rfl (xr_pick false (.bool false) rfl rfl rfl) ?_
                        simp only [List.set_cons_zero, List.set_cons_succ]
                        refine st (.bool false) rfl rfl (xr_assign (.bool false) rfl rfl) ?_
                        simp only [List.set_cons_zero, List.set_cons_succ]
                        refine wl_end ?_
                        (try simp only [Act.put, List.setIfInBounds_toArray, List.set_cons_zero, List.set_cons_succ])
                        refine hK3716 _ _ ?_
                        (try clear hK3716 K3716)
                        refine wp_ret ?_
                        (try simp only [Exit.inBlock, Exit.then, Exit.noGoto])
                        (try simp only [Act.put, List.setIfInBounds_toArray, List.set_cons_zero, List.set_cons_succ])
                        obtain rfl := Option.some.inj H
                        refine bodyPost_ret (results_tmp rfl _ _ _) rfl ?_
                        exact ⟨_, rfl, HS3701⟩
                  refine wl_region ?_
                  refine st (.pointer (some ⟨g3465, 0, none⟩)) rfl rfl (xr_fieldAddr (.pointer (some ⟨g3465, 0, none⟩)) (.pointer (some ⟨g3465, 0, none⟩)) rfl rfl (bx_field Try.underlying74 rfl rfl (by decide) rfl)) ?_
                  simp only [List.set_cons_zero, List.set_cons_succ]
                  refine st (.int .u8 a0_0) rfl rfl (xr_load (.pointer (some ⟨g3465, 0, none⟩)) (.int .u8 a0_0) rfl rfl (load_cell Try.underlying5 rfl (bx_cell (l := [.int .u8 a0_0, .slice A0_1 l0_1.length c0_1]) (HJ3664).2 0 rfl))) ?_
                  simp only [List.set_cons_zero, List.set_cons_succ]
                  refine st (.pointer (some ⟨g3470, 0, none⟩)) rfl rfl (xr_fieldAddr (.pointer (some ⟨g3470, 0, none⟩)) (.pointer (some ⟨g3470, 0, none⟩)) rfl rfl (bx_field Try.underlying74 rfl rfl (by decide) rfl)) ?_
                  simp only [List.set_cons_zero, List.set_cons_succ]
                  refine st (.int .u8 a1_0) rfl rfl (xr_load (.pointer (some ⟨g3470, 0, none⟩)) (.int .u8 a1_0) rfl rfl (load_cell Try.underlying5 rfl (bx_cell (l := [.int .u8 a1_0, .slice A1_1 l1_1.length c1_1]) (HJ3666).2 0 rfl))) ?_
                  simp only [List.set_cons_zero, List.set_cons_succ]
                  refine st (.bool (decide (a0_0 = a1_0))) rfl rfl (xr_bin (.int .u8 a0_0) (.int .u8 a1_0) (.bool (decide (a0_0 = a1_0))) rfl rfl rfl (B.eql_u8 a0_0 a1_0)) ?_
                  simp only [List.set_cons_zero, List.set_cons_succ]
                  refine st (.bool (decide (a0_0 = a1_0))) rfl rfl (xr_move (.bool (decide (a0_0 = a1_0))) rfl rfl) ?_
                  simp only [List.set_cons_zero, List.set_cons_succ]
                  by_cases c3738 : a0_0 = a1_0
                  · rw [if_pos c3738] at H
                    (try rw [(decide_eq_true c3738)])
                    (try simp only [Bool.not_true, Bool.not_false])
                    refine on_guard (guard_on 5 true 95 rfl rfl rfl) ?_
                    refine st (.pointer (some ⟨g3465, 1, none⟩)) rfl rfl (xr_fieldAddr (.pointer (some ⟨g3465, 0, none⟩)) (.pointer (some ⟨g3465, 1, none⟩)) rfl rfl (bx_field Try.underlying74 rfl rfl (by decide) rfl)) ?_
                    simp only [List.set_cons_zero, List.set_cons_succ]
                    refine on_guard (guard_on 5 true 95 rfl rfl rfl) ?_
                    refine st (.slice A0_1 l0_1.length c0_1) rfl rfl (xr_load (.pointer (some ⟨g3465, 1, none⟩)) (.slice A0_1 l0_1.length c0_1) rfl rfl (load_cell Try.underlying23 rfl (bx_cell (l := [.int .u8 a0_0, .slice A0_1 l0_1.length c0_1]) (HJ3664).2 1 rfl))) ?_
                    simp only [List.set_cons_zero, List.set_cons_succ]
                    refine on_guard (guard_on 5 true 95 rfl rfl rfl) ?_
                    refine st (.pointer (some ⟨g3470, 1, none⟩)) rfl rfl (xr_fieldAddr (.pointer (some ⟨g3470, 0, none⟩)) (.pointer (some ⟨g3470, 1, none⟩)) rfl rfl (bx_field Try.underlying74 rfl rfl (by decide) rfl)) ?_
                    simp only [List.set_cons_zero, List.set_cons_succ]
                    refine on_guard (guard_on 5 true 95 rfl rfl rfl) ?_
                    refine st (.slice A1_1 l1_1.length c1_1) rfl rfl (xr_load (.pointer (some ⟨g3470, 1, none⟩)) (.slice A1_1 l1_1.length c1_1) rfl rfl (load_cell Try.underlying23 rfl (bx_cell (l := [.int .u8 a1_0, .slice A1_1 l1_1.length c1_1]) (HJ3666).2 1 rfl))) ?_
                    simp only [List.set_cons_zero, List.set_cons_succ]
                    refine on_guard (guard_on 5 true 95 rfl rfl rfl) ?_
                    obtain ⟨t3739, A3740, H⟩ := Option.bind_eq_some_iff.mp H
                    (try dsimp only at H)
                    refine st_call #[.slice A0_1 l0_1.length c0_1, .slice A1_1 l1_1.length c1_1] rfl rfl Try.func17 (by kernel_rfl) rfl rfl (by simp only [List.map_toArray, List.map_cons, List.map_nil]; first | done | rfl) ?_
                    refine (blazonref01_Same.calls k3672 A0_1 c0_1 l0_1 A1_1 c1_1 l1_1 t3739  (fun z_ => pal [(0, 0)] (C3683_ z_)) w3682 (fun _ => pal_lt rfl _) (Ft.arg HJ3663 rfl) HCP0_1 (Ft.arg HJ3665 rfl) HCP1_1 A3740).mono ?_
                    rintro _ w3742 ⟨C3743, rfl, hs3744⟩
                    refine ⟨_, rfl, ?_⟩
                    replace hs3744 := Step.lift (U := [(0, 0)]) hs3744 [] rfl rfl
                    generalize up C3683_ C3743 w3682.heap.size [(0, 0)] = C3743_ at hs3744
                    replace HJ3660 := HJ3660.thru hs3744 rfl
                    replace HJ3661 := HJ3661.thru hs3744 rfl
                    replace HJ3664 := HJ3664.thru hs3744 rfl
                    replace HJ3663 := HJ3663.thru hs3744 rfl
                    replace HJ3666 := HJ3666.thru hs3744 rfl
                    replace HJ3665 := HJ3665.thru hs3744 rfl
                    replace HJ3668 := HJ3668.thru hs3744 rfl
                    replace HR3676 := HR3676.thru hs3744 rfl
                    replace HO3687 := HO3687.thru hs3744 rfl
                    replace HS3656 := HS3656.trans hs3744 hc rfl
                    (try simp only [Act.put, List.setIfInBounds_toArray, List.set_cons_zero, List.set_cons_succ])
                    refine st (.bool t3739) rfl rfl (xr_pick true (.bool t3739) rfl rfl rfl) ?_
                    simp only [List.set_cons_zero, List.set_cons_succ]
                    refine st (.bool t3739) rfl rfl (xr_assign (.bool t3739) rfl rfl) ?_
                    simp only [List.set_cons_zero, List.set_cons_succ]
                    refine wl_end ?_
                    (try simp only [Act.put, List.setIfInBounds_toArray, List.set_cons_zero, List.set_cons_succ])
                    exact hj3698 _ _ _ (t3739) (fun q_ => List.getD [(g3669 0), (g3669 1), (g3669 2), .pointer (some ⟨g3465, 0, none⟩), .pointer (some ⟨g3470, 0, none⟩), (g3669 5), (g3669 6), v3658, undef, (g3669 9), undef, (g3669 11), .pointer (some ⟨g3611, 0, none⟩), (g3669 13), (g3669 14), undef, undef, undef, (g3669 18), (g3669 19), (g3669 20), (g3669 21), (g3669 22), (g3669 23), (g3669 24), (g3669 25), (g3669 26), (g3669 27), (g3669 28), (g3669 29), (g3669 30), (g3669 31), (g3669 32), (g3669 33), (g3669 34), (g3669 35), (g3669 36), (g3669 37), (g3669 38), (g3669 39), (g3669 40), (g3669 41), (g3669 42), (g3669 43), (g3669 44), (g3669 45), (g3669 46), (g3669 47), (g3669 48), (g3669 49), (g3669 50), (g3669 51), (g3669 52), (g3669 53), (g3669 54), (g3669 55), (g3669 56), (g3669 57), (g3669 58), (g3669 59), (g3669 60), (g3669 61), (g3669 62), (g3669 63), (g3669 64), (g3669 65), (g3669 66), (g3669 67), (g3669 68), (g3669 69), (g3669 70), (g3669 71), (g3669 72), (g3669 73), (g3669 74), (g3669 75), (g3669 76), (g3669 77), (g3669 78), (g3669 79), (g3669 80), (g3669 81), (g3669 82), .bool false, .tuple #[.slice A3685 t3677.length cp3686, .int .i64 t3678], v3658, .agg #[.int .i64 t3596, .slice A3606 t3597.length cp3607], .tuple #[.slice A3685 t3677.length cp3686, .int .i64 t3678], .slice A3685 t3677.length cp3686, .int .i64 t3678, .pointer (some ⟨g3465, 0, none⟩), .int .u8 a0_0, .pointer (some ⟨g3470, 0, none⟩), .int .u8 a1_0, .bool true, .bool true, .pointer (some ⟨g3465, 1, none⟩), .slice A0_1 l0_1.length c0_1, .pointer (some ⟨g3470, 1, none⟩), .slice A1_1 l1_1.length c1_1, .bool t3739, .bool t3739, (g3669 102), (g3669 103), (g3669 104), (g3669 105), (g3669 106), (g3669 107), (g3669 108), (g3669 109), (g3669 110), (g3669 111), (g3669 112), (g3669 113), (g3669 114), (g3669 115), (g3669 116), (g3669 117), (g3669 118)] q_ undef)  HS3656 (by omega) HJ3660 HJ3661 HO3687 HJ3663 HJ3664 HJ3665 HJ3666 HR3676 HJ3668 H
                  · rw [if_neg c3738] at H
                    (try rw [(decide_eq_false c3738)])
                    (try simp only [Bool.not_true, Bool.not_false])
                    refine sk_guard (guard_off 5 true 95 rfl rfl false (by decide) rfl) rfl ?_
                    simp only [List.set_cons_zero, List.set_cons_succ]
                    refine sk_guard (guard_off 5 true 95 rfl rfl false (by decide) rfl) rfl ?_
                    simp only [List.set_cons_zero, List.set_cons_succ]
                    refine sk_guard (guard_off 5 true 95 rfl rfl false (by decide) rfl) rfl ?_
                    simp only [List.set_cons_zero, List.set_cons_succ]
                    refine sk_guard (guard_off 5 true 95 rfl rfl false (by decide) rfl) rfl ?_
                    simp only [List.set_cons_zero, List.set_cons_succ]
                    refine sk_guard (guard_off 5 true 95 rfl rfl false (by decide) rfl) rfl ?_
                    simp only [List.set_cons_zero, List.set_cons_succ]
                    refine st (.bool false) rfl rfl (xr_pick false (.bool false) rfl rfl rfl) ?_
                    simp only [List.set_cons_zero, List.set_cons_succ]
                    refine st (.bool false) rfl rfl (xr_assign (.bool false) rfl rfl) ?_
                    simp only [List.set_cons_zero, List.set_cons_succ]
                    refine wl_end ?_
                    (try simp only [Act.put, List.setIfInBounds_toArray, List.set_cons_zero, List.set_cons_succ])
                    exact hj3698 _ _ _ (false) (fun q_ => List.getD [(g3669 0), (g3669 1), (g3669 2), .pointer (some ⟨g3465, 0, none⟩), .pointer (some ⟨g3470, 0, none⟩), (g3669 5), (g3669 6), v3658, undef, (g3669 9), undef, (g3669 11), .pointer (some ⟨g3611, 0, none⟩), (g3669 13), (g3669 14), undef, undef, undef, (g3669 18), (g3669 19), (g3669 20), (g3669 21), (g3669 22), (g3669 23), (g3669 24), (g3669 25), (g3669 26), (g3669 27), (g3669 28), (g3669 29), (g3669 30), (g3669 31), (g3669 32), (g3669 33), (g3669 34), (g3669 35), (g3669 36), (g3669 37), (g3669 38), (g3669 39), (g3669 40), (g3669 41), (g3669 42), (g3669 43), (g3669 44), (g3669 45), (g3669 46), (g3669 47), (g3669 48), (g3669 49), (g3669 50), (g3669 51), (g3669 52), (g3669 53), (g3669 54), (g3669 55), (g3669 56), (g3669 57), (g3669 58), (g3669 59), (g3669 60), (g3669 61), (g3669 62), (g3669 63), (g3669 64), (g3669 65), (g3669 66), (g3669 67), (g3669 68), (g3669 69), (g3669 70), (g3669 71), (g3669 72), (g3669 73), (g3669 74), (g3669 75), (g3669 76), (g3669 77), (g3669 78), (g3669 79), (g3669 80), (g3669 81), (g3669 82), .bool false, .tuple #[.slice A3685 t3677.length cp3686, .int .i64 t3678], v3658, .agg #[.int .i64 t3596, .slice A3606 t3597.length cp3607], .tuple #[.slice A3685 t3677.length cp3686, .int .i64 t3678], .slice A3685 t3677.length cp3686, .int .i64 t3678, .pointer (some ⟨g3465, 0, none⟩), .int .u8 a0_0, .pointer (some ⟨g3470, 0, none⟩), .int .u8 a1_0, .bool false, .bool false, undef, undef, undef, undef, undef, .bool false, (g3669 102), (g3669 103), (g3669 104), (g3669 105), (g3669 106), (g3669 107), (g3669 108), (g3669 109), (g3669 110), (g3669 111), (g3669 112), (g3669 113), (g3669 114), (g3669 115), (g3669 116), (g3669 117), (g3669 118)] q_ undef)  HS3656 (by omega) HJ3660 HJ3661 HO3687 HJ3663 HJ3664 HJ3665 HJ3666 HR3676 HJ3668 H
            refine wl_region ?_
            refine st (.int .i64 t3539) rfl rfl (xr_move (.int .i64 t3539) rfl rfl) ?_
            simp only [List.set_cons_zero, List.set_cons_succ]
            refine st (.bool (!decide (t3539 = 0))) rfl rfl (xr_bin (.int .i64 t3539) (.int .i64 0) (.bool (!decide (t3539 = 0))) rfl rfl rfl (B.neq_i64 t3539 0)) ?_
            simp only [List.set_cons_zero, List.set_cons_succ]
            refine st (.bool (!decide (t3539 = 0))) rfl rfl (xr_move (.bool (!decide (t3539 = 0))) rfl rfl) ?_
            simp only [List.set_cons_zero, List.set_cons_succ]
            by_cases c3745 : t3539 = 0
            · rw [if_pos c3745] at H
              (try rw [(decide_eq_true c3745)])
              (try simp only [Bool.not_true, Bool.not_false])
              refine on_guard (guard_on 2 false 70 rfl rfl rfl) ?_
              refine st (.int .i64 t3553) rfl rfl (xr_move (.int .i64 t3553) rfl rfl) ?_
              simp only [List.set_cons_zero, List.set_cons_succ]
              refine on_guard (guard_on 2 false 70 rfl rfl rfl) ?_
              refine st (.bool (!decide (t3553 = 0))) rfl rfl (xr_bin (.int .i64 t3553) (.int .i64 0) (.bool (!decide (t3553 = 0))) rfl rfl rfl (B.neq_i64 t3553 0)) ?_
              simp only [List.set_cons_zero, List.set_cons_succ]
              refine st (.bool (!decide (t3553 = 0))) rfl rfl (xr_pick false (.bool (!decide (t3553 = 0))) rfl rfl rfl) ?_
              simp only [List.set_cons_zero, List.set_cons_succ]
              refine st (.bool (!decide (t3553 = 0))) rfl rfl (xr_move (.bool (!decide (t3553 = 0))) rfl rfl) ?_
              simp only [List.set_cons_zero, List.set_cons_succ]
              by_cases c3746 : t3553 = 0
              · rw [if_pos c3746] at H
                (try rw [(decide_eq_true c3746)])
                (try simp only [Bool.not_true, Bool.not_false])
                refine on_guard (guard_on 6 false 74 rfl rfl rfl) ?_
                refine st (.int .i64 t3599) rfl rfl (xr_move (.int .i64 t3599) rfl rfl) ?_
                simp only [List.set_cons_zero, List.set_cons_succ]
                refine on_guard (guard_on 6 false 74 rfl rfl rfl) ?_
                refine st (.bool (!decide (t3599 = 0))) rfl rfl (xr_bin (.int .i64 t3599) (.int .i64 0) (.bool (!decide (t3599 = 0))) rfl rfl rfl (B.neq_i64 t3599 0)) ?_
                simp only [List.set_cons_zero, List.set_cons_succ]
                refine st (.bool (!decide (t3599 = 0))) rfl rfl (xr_pick false (.bool (!decide (t3599 = 0))) rfl rfl rfl) ?_
                simp only [List.set_cons_zero, List.set_cons_succ]
                refine st (.bool (!decide (t3599 = 0))) rfl rfl (xr_move (.bool (!decide (t3599 = 0))) rfl rfl) ?_
                simp only [List.set_cons_zero, List.set_cons_succ]
                by_cases c3747 : t3599 = 0
                · rw [if_pos c3747] at H
                  (try rw [(decide_eq_true c3747)])
                  (try simp only [Bool.not_true, Bool.not_false])
                  refine on_guard (guard_on 10 false 78 rfl rfl rfl) ?_
                  refine st (.int .i64 t3598) rfl rfl (xr_move (.int .i64 t3598) rfl rfl) ?_
                  simp only [List.set_cons_zero, List.set_cons_succ]
                  refine on_guard (guard_on 10 false 78 rfl rfl rfl) ?_
                  refine st (.slice A3546 t3538.length cp3547) rfl rfl (xr_move (.slice A3546 t3538.length cp3547) rfl rfl) ?_
                  simp only [List.set_cons_zero, List.set_cons_succ]
                  refine on_guard (guard_on 10 false 78 rfl rfl rfl) ?_
                  refine st (.int .i64 (t3538.length : Int)) rfl rfl (xr_builtin #[.slice A3546 t3538.length cp3547] (.int .i64 (t3538.length : Int)) rfl (by simp only [List.map_toArray, List.map_cons, List.map_nil]; first | done | rfl) (by first | rfl | (go_simp; done) | (go_simp; rfl) | (go_simp; exact i64_w _) | (go_simp; exact i32_w _))) ?_
                  simp only [List.set_cons_zero, List.set_cons_succ]
                  refine on_guard (guard_on 10 false 78 rfl rfl rfl) ?_
                  refine st (.bool (!decide (t3598 = (t3538.length : Int)))) rfl rfl (xr_bin (.int .i64 t3598) (.int .i64 (t3538.length : Int)) (.bool (!decide (t3598 = (t3538.length : Int)))) rfl rfl rfl (B.neq_i64 t3598 (t3538.length : Int))) ?_
                  simp only [List.set_cons_zero, List.set_cons_succ]
                  refine st (.bool (!decide (t3598 = (t3538.length : Int)))) rfl rfl (xr_pick false (.bool (!decide (t3598 = (t3538.length : Int)))) rfl rfl rfl) ?_
                  simp only [List.set_cons_zero, List.set_cons_succ]
                  refine wl_end ?_
                  replace HJ3513 := Bx.recol (a := 13) (b := 17) HJ3513 (by decide)
                  replace HJ3512 := Ft.recol (a := 13) (b := 17) HJ3512 (.inl rfl)
                  replace HJ3515 := Bx.recol (a := 13) (b := 17) HJ3515 (by decide)
                  replace HJ3514 := Ft.recol (a := 13) (b := 17) HJ3514 (.inl rfl)
                  replace HM3610 := Ft.recolor (a := 13) (b := 17) HM3610 [17] rfl
                  replace HO3548 := Ft.recol (a := 13) (b := 17) HO3548 (.inl rfl)
                  replace HO3562 := Ft.recol (a := 13) (b := 17) HO3562 (.inl rfl)
                  replace HO3608 := Own.recol (a := 13) (b := 17) HO3608 (by decide) (by decide)
                  replace HX3617 := Bx.recol (a := 13) (b := 17) HX3617 (by decide)
                  replace HS3509 := Step.recol (a := 13) (b := 17) HS3509 hc (by decide)
                  (try simp only [Act.put, List.setIfInBounds_toArray, List.set_cons_zero, List.set_cons_succ])
                  exact hj3653 _ _ _ (!decide (t3598 = (t3538.length : Int))) (v3535) (t3600) (fun q_ => List.getD [(g3516 0), (g3516 1), .slice A2 l2.length c2, undef, undef, (g3516 5), (g3516 6), undef, undef, .int .i64 t3539, undef, .int .i64 t3553, undef, .int .i64 t3598, .int .i64 t3599, (g3516 15), (g3516 16), (g3516 17), (g3516 18), (g3516 19), (g3516 20), (g3516 21), (g3516 22), (g3516 23), (g3516 24), (g3516 25), (g3516 26), (g3516 27), (g3516 28), (g3516 29), (g3516 30), (g3516 31), .bool false, (g3516 33), v3535, .tuple #[.slice A3546 t3538.length cp3547, .int .i64 t3539], v3535, .pointer (some ⟨g3465, 0, none⟩), .int .u8 a0_0, .int .i64 (wrap64 (a0_0)), .pointer (some ⟨g3465, 1, none⟩), .slice A0_1 l0_1.length c0_1, .agg #[.int .i64 (wrap64 (a0_0)), .slice A0_1 l0_1.length c0_1], .tuple #[.slice A3546 t3538.length cp3547, .int .i64 t3539], .slice A3546 t3538.length cp3547, .int .i64 t3539, .tuple #[.slice A3560 t3552.length cp3561, .int .i64 t3553], v3535, .pointer (some ⟨g3470, 0, none⟩), .int .u8 a1_0, .int .i64 (wrap64 (a1_0)), .pointer (some ⟨g3470, 1, none⟩), .slice A1_1 l1_1.length c1_1, .agg #[.int .i64 (wrap64 (a1_0)), .slice A1_1 l1_1.length c1_1], .tuple #[.slice A3560 t3552.length cp3561, .int .i64 t3553], .slice A3560 t3552.length cp3561, .int .i64 t3553, .tuple #[.agg #[.int .i64 t3596, .slice A3606 t3597.length cp3607], .int .i64 t3598, .int .i64 t3599], v3535, .slice A3568 y3566.length cp3569, .slice A3546 t3538.length cp3547, .slice A3578 y3576.length cp3579, .slice A2 l2.length c2, .slice A3588 y3586.length cp3589, .tuple #[.agg #[.int .i64 t3596, .slice A3606 t3597.length cp3607], .int .i64 t3598, .int .i64 t3599], .agg #[.int .i64 t3596, .slice A3606 t3597.length cp3607], .int .i64 t3598, .int .i64 t3599, .int .i64 t3539, .bool false, .bool false, .int .i64 t3553, .bool false, .bool false, .bool false, .int .i64 t3599, .bool false, .bool false, .bool false, .int .i64 t3598, .slice A3546 t3538.length cp3547, .int .i64 (t3538.length : Int), .bool (!decide (t3598 = (t3538.length : Int))), undef, (g3516 84), (g3516 85), (g3516 86), (g3516 87), (g3516 88), (g3516 89), (g3516 90), (g3516 91), (g3516 92), (g3516 93), (g3516 94), (g3516 95), (g3516 96), (g3516 97), (g3516 98), (g3516 99), (g3516 100), (g3516 101), (g3516 102), (g3516 103), (g3516 104), (g3516 105), (g3516 106), (g3516 107), (g3516 108), (g3516 109), (g3516 110), (g3516 111), (g3516 112), (g3516 113), (g3516 114), (g3516 115), (g3516 116), (g3516 117), (g3516 118)] q_ undef)  HS3509 (by omega) HM3610 HO3548 HO3562 HJ3512 HJ3513 HJ3514 HJ3515 HO3608 HX3617 H
                · rw [if_neg c3747] at H
                  (try rw [(decide_eq_false c3747)])
                  (try simp only [Bool.not_true, Bool.not_false])
                  refine sk_guard (guard_off 10 false 78 rfl rfl true (by decide) rfl) rfl ?_
                  simp only [List.set_cons_zero, List.set_cons_succ]
                  refine sk_guard (guard_off 10 false 78 rfl rfl true (by decide) rfl) rfl ?_
                  simp only [List.set_cons_zero, List.set_cons_succ]
                  refine sk_guard (guard_off 10 false 78 rfl rfl true (by decide) rfl) rfl ?_
                  simp only [List.set_cons_zero, List.set_cons_succ]
                  refine sk_guard (guard_off 10 false 78 rfl rfl true (by decide) rfl) rfl ?_
                  simp only [List.set_cons_zero, List.set_cons_succ]
                  refine st (.bool true) rfl rfl (xr_pick true (.bool true) rfl rfl rfl) ?_
                  simp only [List.set_cons_zero, List.set_cons_succ]
                  refine wl_end ?_
                  replace HJ3513 := Bx.recol (a := 13) (b := 17) HJ3513 (by decide)
                  replace HJ3512 := Ft.recol (a := 13) (b := 17) HJ3512 (.inl rfl)
                  replace HJ3515 := Bx.recol (a := 13) (b := 17) HJ3515 (by decide)
                  replace HJ3514 := Ft.recol (a := 13) (b := 17) HJ3514 (.inl rfl)
                  replace HM3610 := Ft.recolor (a := 13) (b := 17) HM3610 [17] rfl
                  replace HO3548 := Ft.recol (a := 13) (b := 17) HO3548 (.inl rfl)
                  replace HO3562 := Ft.recol (a := 13) (b := 17) HO3562 (.inl rfl)
                  replace HO3608 := Own.recol (a := 13) (b := 17) HO3608 (by decide) (by decide)
                  replace HX3617 := Bx.recol (a := 13) (b := 17) HX3617 (by decide)
                  replace HS3509 := Step.recol (a := 13) (b := 17) HS3509 hc (by decide)
                  (try simp only [Act.put, List.setIfInBounds_toArray, List.set_cons_zero, List.set_cons_succ])
                  exact hj3653 _ _ _ (true) (v3535) (t3600) (fun q_ => List.getD [(g3516 0), (g3516 1), .slice A2 l2.length c2, undef, undef, (g3516 5), (g3516 6), undef, undef, .int .i64 t3539, undef, .int .i64 t3553, undef, .int .i64 t3598, .int .i64 t3599, (g3516 15), (g3516 16), (g3516 17), (g3516 18), (g3516 19), (g3516 20), (g3516 21), (g3516 22), (g3516 23), (g3516 24), (g3516 25), (g3516 26), (g3516 27), (g3516 28), (g3516 29), (g3516 30), (g3516 31), .bool false, (g3516 33), v3535, .tuple #[.slice A3546 t3538.length cp3547, .int .i64 t3539], v3535, .pointer (some ⟨g3465, 0, none⟩), .int .u8 a0_0, .int .i64 (wrap64 (a0_0)), .pointer (some ⟨g3465, 1, none⟩), .slice A0_1 l0_1.length c0_1, .agg #[.int .i64 (wrap64 (a0_0)), .slice A0_1 l0_1.length c0_1], .tuple #[.slice A3546 t3538.length cp3547, .int .i64 t3539], .slice A3546 t3538.length cp3547, .int .i64 t3539, .tuple #[.slice A3560 t3552.length cp3561, .int .i64 t3553], v3535, .pointer (some ⟨g3470, 0, none⟩), .int .u8 a1_0, .int .i64 (wrap64 (a1_0)), .pointer (some ⟨g3470, 1, none⟩), .slice A1_1 l1_1.length c1_1, .agg #[.int .i64 (wrap64 (a1_0)), .slice A1_1 l1_1.length c1_1], .tuple #[.slice A3560 t3552.length cp3561, .int .i64 t3553], .slice A3560 t3552.length cp3561, .int .i64 t3553, .tuple #[.agg #[.int .i64 t3596, .slice A3606 t3597.length cp3607], .int .i64 t3598, .int .i64 t3599], v3535, .slice A3568 y3566.length cp3569, .slice A3546 t3538.length cp3547, .slice A3578 y3576.length cp3579, .slice A2 l2.length c2, .slice A3588 y3586.length cp3589, .tuple #[.agg #[.int .i64 t3596, .slice A3606 t3597.length cp3607], .int .i64 t3598, .int .i64 t3599], .agg #[.int .i64 t3596, .slice A3606 t3597.length cp3607], .int .i64 t3598, .int .i64 t3599, .int .i64 t3539, .bool false, .bool false, .int .i64 t3553, .bool false, .bool false, .bool false, .int .i64 t3599, .bool true, .bool true, .bool true, undef, undef, undef, undef, undef, (g3516 84), (g3516 85), (g3516 86), (g3516 87), (g3516 88), (g3516 89), (g3516 90), (g3516 91), (g3516 92), (g3516 93), (g3516 94), (g3516 95), (g3516 96), (g3516 97), (g3516 98), (g3516 99), (g3516 100), (g3516 101), (g3516 102), (g3516 103), (g3516 104), (g3516 105), (g3516 106), (g3516 107), (g3516 108), (g3516 109), (g3516 110), (g3516 111), (g3516 112), (g3516 113), (g3516 114), (g3516 115), (g3516 116), (g3516 117), (g3516 118)] q_ undef)  HS3509 (by omega) HM3610 HO3548 HO3562 HJ3512 HJ3513 HJ3514 HJ3515 HO3608 HX3617 H
              · rw [if_neg c3746] at H
                (try rw [(decide_eq_false c3746)])
                (try simp only [Bool.not_true, Bool.not_false])
                refine sk_guard (guard_off 6 false 74 rfl rfl true (by decide) rfl) rfl ?_
                simp only [List.set_cons_zero, List.set_cons_succ]
                refine sk_guard (guard_off 6 false 74 rfl rfl true (by decide) rfl) rfl ?_
                simp only [List.set_cons_zero, List.set_cons_succ]
                refine st (.bool true) rfl rfl (xr_pick true (.bool true) rfl rfl rfl) ?_
                simp only [List.set_cons_zero, List.set_cons_succ]
                refine st (.bool true) rfl rfl (xr_move (.bool true) rfl rfl) ?_
                simp only [List.set_cons_zero, List.set_cons_succ]
                refine sk_guard (guard_off 10 false 78 rfl rfl true (by decide) rfl) rfl ?_
                simp only [List.set_cons_zero, List.set_cons_succ]
                refine sk_guard (guard_off 10 false 78 rfl rfl true (by decide) rfl) rfl ?_
                simp only [List.set_cons_zero, List.set_cons_succ]
                refine sk_guard (guard_off 10 false 78 rfl rfl true (by decide) rfl) rfl ?_
                simp only [List.set_cons_zero, List.set_cons_succ]
                refine sk_guard (guard_off 10 false 78 rfl rfl true (by decide) rfl) rfl ?_
                simp only [List.set_cons_zero, List.set_cons_succ]
                refine st (.bool true) rfl rfl (xr_pick true (.bool true) rfl rfl rfl) ?_
                simp only [List.set_cons_zero, List.set_cons_succ]
                refine wl_end ?_
                replace HJ3513 := Bx.recol (a := 13) (b := 17) HJ3513 (by decide)
                replace HJ3512 := Ft.recol (a := 13) (b := 17) HJ3512 (.inl rfl)
                replace HJ3515 := Bx.recol (a := 13) (b := 17) HJ3515 (by decide)
                replace HJ3514 := Ft.recol (a := 13) (b := 17) HJ3514 (.inl rfl)
                replace HM3610 := Ft.recolor (a := 13) (b := 17) HM3610 [17] rfl
                replace HO3548 := Ft.recol (a := 13) (b := 17) HO3548 (.inl rfl)
                replace HO3562 := Ft.recol (a := 13) (b := 17) HO3562 (.inl rfl)
                replace HO3608 := Own.recol (a := 13) (b := 17) HO3608 (by decide) (by decide)
                replace HX3617 := Bx.recol (a := 13) (b := 17) HX3617 (by decide)
                replace HS3509 := Step.recol (a := 13) (b := 17) HS3509 hc (by decide)
                (try simp only [Act.put, List.setIfInBounds_toArray, List.set_cons_zero, List.set_cons_succ])
                exact hj3653 _ _ _ (true) (v3535) (t3600) (fun q_ => List.getD [(g3516 0), (g3516 1), .slice A2 l2.length c2, undef, undef, (g3516 5), (g3516 6), undef, undef, .int .i64 t3539, undef, .int .i64 t3553, undef, .int .i64 t3598, .int .i64 t3599, (g3516 15), (g3516 16), (g3516 17), (g3516 18), (g3516 19), (g3516 20), (g3516 21), (g3516 22), (g3516 23), (g3516 24), (g3516 25), (g3516 26), (g3516 27), (g3516 28), (g3516 29), (g3516 30), (g3516 31), .bool false, (g3516 33), v3535, .tuple #[.slice A3546 t3538.length cp3547, .int .i64 t3539], v3535, .pointer (some ⟨g3465, 0, none⟩), .int .u8 a0_0, .int .i64 (wrap64 (a0_0)), .pointer (some ⟨g3465, 1, none⟩), .slice A0_1 l0_1.length c0_1, .agg #[.int .i64 (wrap64 (a0_0)), .slice A0_1 l0_1.length c0_1], .tuple #[.slice A3546 t3538.length cp3547, .int .i64 t3539], .slice A3546 t3538.length cp3547, .int .i64 t3539, .tuple #[.slice A3560 t3552.length cp3561, .int .i64 t3553], v3535, .pointer (some ⟨g3470, 0, none⟩), .int .u8 a1_0, .int .i64 (wrap64 (a1_0)), .pointer (some ⟨g3470, 1, none⟩), .slice A1_1 l1_1.length c1_1, .agg #[.int .i64 (wrap64 (a1_0)), .slice A1_1 l1_1.length c1_1], .tuple #[.slice A3560 t3552.length cp3561, .int .i64 t3553], .slice A3560 t3552.length cp3561, .int .i64 t3553, .tuple #[.agg #[.int .i64 t3596, .slice A3606 t3597.length cp3607], .int .i64 t3598, .int .i64 t3599], v3535, .slice A3568 y3566.length cp3569, .slice A3546 t3538.length cp3547, .slice A3578 y3576.length cp3579, .slice A2 l2.length c2, .slice A3588 y3586.length cp3589, .tuple #[.agg #[.int .i64 t3596, .slice A3606 t3597.length cp3607], .int .i64 t3598, .int .i64 t3599], .agg #[.int .i64 t3596, .slice A3606 t3597.length cp3607], .int .i64 t3598, .int .i64 t3599, .int .i64 t3539, .bool false, .bool false, .int .i64 t3553, .bool true, .bool true, .bool true, undef, undef, .bool true, .bool true, undef, undef, undef, undef, undef, (g3516 84), (g3516 85), (g3516 86), (g3516 87), (g3516 88), (g3516 89), (g3516 90), (g3516 91), (g3516 92), (g3516 93), (g3516 94), (g3516 95), (g3516 96), (g3516 97), (g3516 98), (g3516 99), (g3516 100), (g3516 101), (g3516 102), (g3516 103), (g3516 104), (g3516 105), (g3516 106), (g3516 107), (g3516 108), (g3516 109), (g3516 110), (g3516 111), (g3516 112), (g3516 113), (g3516 114), (g3516 115), (g3516 116), (g3516 117), (g3516 118)] q_ undef)  HS3509 (by omega) HM3610 HO3548 HO3562 HJ3512 HJ3513 HJ3514 HJ3515 HO3608 HX3617 H
            · rw [if_neg c3745] at H
              (try rw [(decide_eq_false c3745)])
              (try simp only [Bool.not_true, Bool.not_false])
              refine sk_guard (guard_off 2 false 70 rfl rfl true (by decide) rfl) rfl ?_
              simp only [List.set_cons_zero, List.set_cons_succ]
              refine sk_guard (guard_off 2 false 70 rfl rfl true (by decide) rfl) rfl ?_
              simp only [List.set_cons_zero, List.set_cons_succ]
              refine st (.bool true) rfl rfl (xr_pick true (.bool true) rfl rfl rfl) ?_
              simp only [List.set_cons_zero, List.set_cons_succ]
              refine st (.bool true) rfl rfl (xr_move (.bool true) rfl rfl) ?_
              simp only [List.set_cons_zero, List.set_cons_succ]
              refine sk_guard (guard_off 6 false 74 rfl rfl true (by decide) rfl) rfl ?_
              simp only [List.set_cons_zero, List.set_cons_succ]
              refine sk_guard (guard_off 6 false 74 rfl rfl true (by decide) rfl) rfl ?_
              simp only [List.set_cons_zero, List.set_cons_succ]
              refine st (.bool true) rfl rfl (xr_pick true (.bool true) rfl rfl rfl) ?_
              simp only [List.set_cons_zero, List.set_cons_succ]
              refine st (.bool true) rfl rfl (xr_move (.bool true) rfl rfl) ?_
              simp only [List.set_cons_zero, List.set_cons_succ]
              refine sk_guard (guard_off 10 false 78 rfl rfl true (by decide) rfl) rfl ?_
              simp only [List.set_cons_zero, List.set_cons_succ]
              refine sk_guard (guard_off 10 false 78 rfl rfl true (by decide) rfl) rfl ?_
              simp only [List.set_cons_zero, List.set_cons_succ]
              refine sk_guard (guard_off 10 false 78 rfl rfl true (by decide) rfl) rfl ?_
              simp only [List.set_cons_zero, List.set_cons_succ]
              refine sk_guard (guard_off 10 false 78 rfl rfl true (by decide) rfl) rfl ?_
              simp only [List.set_cons_zero, List.set_cons_succ]
              refine st (.bool true) rfl rfl (xr_pick true (.bool true) rfl rfl rfl) ?_
              simp only [List.set_cons_zero, List.set_cons_succ]
              refine wl_end ?_
              replace HJ3513 := Bx.recol (a := 13) (b := 17) HJ3513 (by decide)
              replace HJ3512 := Ft.recol (a := 13) (b := 17) HJ3512 (.inl rfl)
              replace HJ3515 := Bx.recol (a := 13) (b := 17) HJ3515 (by decide)
              replace HJ3514 := Ft.recol (a := 13) (b := 17) HJ3514 (.inl rfl)
              replace HM3610 := Ft.recolor (a := 13) (b := 17) HM3610 [17] rfl
              replace HO3548 := Ft.recol (a := 13) (b := 17) HO3548 (.inl rfl)
              replace HO3562 := Ft.recol (a := 13) (b := 17) HO3562 (.inl rfl)
              replace HO3608 := Own.recol (a := 13) (b := 17) HO3608 (by decide) (by decide)
              replace HX3617 := Bx.recol (a := 13) (b := 17) HX3617 (by decide)
              replace HS3509 := Step.recol (a := 13) (b := 17) HS3509 hc (by decide)
              (try simp only [Act.put, List.setIfInBounds_toArray, List.set_cons_zero, List.set_cons_succ])
              exact hj3653 _ _ _ (true) (v3535) (t3600) (fun q_ => List.getD [(g3516 0), (g3516 1), .slice A2 l2.length c2, undef, undef, (g3516 5), (g3516 6), undef, undef, .int .i64 t3539, undef, .int .i64 t3553, undef, .int .i64 t3598, .int .i64 t3599, (g3516 15), (g3516 16), (g3516 17), (g3516 18), (g3516 19), (g3516 20), (g3516 21), (g3516 22), (g3516 23), (g3516 24), (g3516 25), (g3516 26), (g3516 27), (g3516 28), (g3516 29), (g3516 30), (g3516 31), .bool false, (g3516 33), v3535, .tuple #[.slice A3546 t3538.length cp3547, .int .i64 t3539], v3535, .pointer (some ⟨g3465, 0, none⟩), .int .u8 a0_0, .int .i64 (wrap64 (a0_0)), .pointer (some ⟨g3465, 1, none⟩), .slice A0_1 l0_1.length c0_1, .agg #[.int .i64 (wrap64 (a0_0)), .slice A0_1 l0_1.length c0_1], .tuple #[.slice A3546 t3538.length cp3547, .int .i64 t3539], .slice A3546 t3538.length cp3547, .int .i64 t3539, .tuple #[.slice A3560 t3552.length cp3561, .int .i64 t3553], v3535, .pointer (some ⟨g3470, 0, none⟩), .int .u8 a1_0, .int .i64 (wrap64 (a1_0)), .pointer (some ⟨g3470, 1, none⟩), .slice A1_1 l1_1.length c1_1, .agg #[.int .i64 (wrap64 (a1_0)), .slice A1_1 l1_1.length c1_1], .tuple #[.slice A3560 t3552.length cp3561, .int .i64 t3553], .slice A3560 t3552.length cp3561, .int .i64 t3553, .tuple #[.agg #[.int .i64 t3596, .slice A3606 t3597.length cp3607], .int .i64 t3598, .int .i64 t3599], v3535, .slice A3568 y3566.length cp3569, .slice A3546 t3538.length cp3547, .slice A3578 y3576.length cp3579, .slice A2 l2.length c2, .slice A3588 y3586.length cp3589, .tuple #[.agg #[.int .i64 t3596, .slice A3606 t3597.length cp3607], .int .i64 t3598, .int .i64 t3599], .agg #[.int .i64 t3596, .slice A3606 t3597.length cp3607], .int .i64 t3598, .int .i64 t3599, .int .i64 t3539, .bool true, .bool true, undef, undef, .bool true, .bool true, undef, undef, .bool true, .bool true, undef, undef, undef, undef, undef, (g3516 84), (g3516 85), (g3516 86), (g3516 87), (g3516 88), (g3516 89), (g3516 90), (g3516 91), (g3516 92), (g3516 93), (g3516 94), (g3516 95), (g3516 96), (g3516 97), (g3516 98), (g3516 99), (g3516 100), (g3516 101), (g3516 102), (g3516 103), (g3516 104), (g3516 105), (g3516 106), (g3516 107), (g3516 108), (g3516 109), (g3516 110), (g3516 111), (g3516 112), (g3516 113), (g3516 114), (g3516 115), (g3516 116), (g3516 117), (g3516 118)] q_ undef)  HS3509 (by omega) HM3610 HO3548 HO3562 HJ3512 HJ3513 HJ3514 HJ3515 HO3608 HX3617 H
          · rw [if_neg c3585] at H
            exact absurd H (by simp)
        · rw [if_neg c3575] at H
          exact absurd H (by simp)
  refine wl_region ?_
  refine st (.pointer (some ⟨g3465, 1, none⟩)) rfl rfl (xr_fieldAddr (.pointer (some ⟨g3465, 0, none⟩)) (.pointer (some ⟨g3465, 1, none⟩)) rfl rfl (bx_field Try.underlying74 rfl rfl (by decide) rfl)) ?_
  simp only [List.set_cons_zero, List.set_cons_succ]
  refine st (.slice A0_1 l0_1.length c0_1) rfl rfl (xr_load (.pointer (some ⟨g3465, 1, none⟩)) (.slice A0_1 l0_1.length c0_1) rfl rfl (load_cell Try.underlying23 rfl (bx_cell (l := [.int .u8 a0_0, .slice A0_1 l0_1.length c0_1]) (HX3468).2 1 rfl))) ?_
  simp only [List.set_cons_zero, List.set_cons_succ]
  refine st (.int .i64 (l0_1.length : Int)) rfl rfl (xr_builtin #[.slice A0_1 l0_1.length c0_1] (.int .i64 (l0_1.length : Int)) rfl (by simp only [List.map_toArray, List.map_cons, List.map_nil]; first | done | rfl) (by first | rfl | (go_simp; done) | (go_simp; rfl) | (go_simp; exact i64_w _) | (go_simp; exact i32_w _))) ?_
  simp only [List.set_cons_zero, List.set_cons_succ]
  refine st (.bool (decide ((l0_1.length : Int) > 200))) rfl rfl (xr_bin (.int .i64 (l0_1.length : Int)) (.int .i64 200) (.bool (decide ((l0_1.length : Int) > 200))) rfl rfl rfl (B.gtr_i64 (l0_1.length : Int) 200)) ?_
  simp only [List.set_cons_zero, List.set_cons_succ]
  refine st (.bool (decide ((l0_1.length : Int) > 200))) rfl rfl (xr_move (.bool (decide ((l0_1.length : Int) > 200))) rfl rfl) ?_
  simp only [List.set_cons_zero, List.set_cons_succ]
  by_cases c3748 : (l0_1.length : Int) > 200
  · rw [if_pos c3748] at H
    (try rw [(decide_eq_true c3748)])
    (try simp only [Bool.not_true, Bool.not_false])
    refine sk_guard (guard_off 4 false 22 rfl rfl true (by decide) rfl) rfl ?_
    simp only [List.set_cons_zero, List.set_cons_succ]
    refine sk_guard (guard_off 4 false 22 rfl rfl true (by decide) rfl) rfl ?_
    simp only [List.set_cons_zero, List.set_cons_succ]
    refine sk_guard (guard_off 4 false 22 rfl rfl true (by decide) rfl) rfl ?_
    simp only [List.set_cons_zero, List.set_cons_succ]
    refine sk_guard (guard_off 4 false 22 rfl rfl true (by decide) rfl) rfl ?_
    simp only [List.set_cons_zero, List.set_cons_succ]
    refine st (.bool true) rfl rfl (xr_pick true (.bool true) rfl rfl rfl) ?_
    simp only [List.set_cons_zero, List.set_cons_succ]
    refine st (.bool true) rfl rfl (xr_move (.bool true) rfl rfl) ?_
    simp only [List.set_cons_zero, List.set_cons_succ]
    refine sk_guard (guard_off 10 false 28 rfl rfl true (by decide) rfl) rfl ?_
    simp only [List.set_cons_zero, List.set_cons_succ]
    refine sk_guard (guard_off 10 false 28 rfl rfl true (by decide) rfl) rfl ?_
    simp only [List.set_cons_zero, List.set_cons_succ]
    refine sk_guard (guard_off 10 false 28 rfl rfl true (by decide) rfl) rfl ?_
    simp only [List.set_cons_zero, List.set_cons_succ]
    refine st (.bool true) rfl rfl (xr_pick true (.bool true) rfl rfl rfl) ?_
    simp only [List.set_cons_zero, List.set_cons_succ]
    refine wl_end ?_
    (try simp only [Act.put, List.setIfInBounds_toArray, List.set_cons_zero, List.set_cons_succ])
    exact hj3506 _ _ _ (true) (fun q_ => List.getD [.agg #[.int .u8 a0_0, .slice A0_1 l0_1.length c0_1], .agg #[.int .u8 a1_0, .slice A1_1 l1_1.length c1_1], undef, undef, undef, undef, .bool false, undef, undef, undef, undef, undef, undef, undef, undef, undef, undef, undef, .pointer (some ⟨g3465, 1, none⟩), .slice A0_1 l0_1.length c0_1, .int .i64 (l0_1.length : Int), .bool true, .bool true, undef, undef, undef, undef, .bool true, .bool true, undef, undef, undef, undef, undef, undef, undef, undef, undef, undef, undef, undef, undef, undef, undef, undef, undef, undef, undef, undef, undef, undef, undef, undef, undef, undef, undef, undef, undef, undef, undef, undef, undef, undef, undef, undef, undef, undef, undef, undef, undef, undef, undef, undef, undef, undef, undef, undef, undef, undef, undef, undef, undef, undef, undef, undef, undef, undef, undef, undef, undef, undef, undef, undef, undef, undef, undef, undef, undef, undef, undef, undef, undef, undef, undef, undef, undef, undef, undef, undef, undef, undef, undef, undef, undef, undef, undef, undef, undef, undef] q_ undef)  HS (by omega) HP2 HP0_1 HX3468 HP1_1 HX3473 H
  · rw [if_neg c3748] at H
    (try rw [(decide_eq_false c3748)])
    (try simp only [Bool.not_true, Bool.not_false])
    refine on_guard (guard_on 4 false 22 rfl rfl rfl) ?_
    refine st (.pointer (some ⟨g3470, 1, none⟩)) rfl rfl (xr_fieldAddr (.pointer (some ⟨g3470, 0, none⟩)) (.pointer (some ⟨g3470, 1, none⟩)) rfl rfl (bx_field Try.underlying74 rfl rfl (by decide) rfl)) ?_
    simp only [List.set_cons_zero, List.set_cons_succ]
    refine on_guard (guard_on 4 false 22 rfl rfl rfl) ?_
    refine st (.slice A1_1 l1_1.length c1_1) rfl rfl (xr_load (.pointer (some ⟨g3470, 1, none⟩)) (.slice A1_1 l1_1.length c1_1) rfl rfl (load_cell Try.underlying23 rfl (bx_cell (l := [.int .u8 a1_0, .slice A1_1 l1_1.length c1_1]) (HX3473).2 1 rfl))) ?_
    simp only [List.set_cons_zero, List.set_cons_succ]
    refine on_guard (guard_on 4 false 22 rfl rfl rfl) ?_
    refine st (.int .i64 (l1_1.length : Int)) rfl rfl (xr_builtin #[.slice A1_1 l1_1.length c1_1] (.int .i64 (l1_1.length : Int)) rfl (by simp only [List.map_toArray, List.map_cons, List.map_nil]; first | done | rfl) (by first | rfl | (go_simp; done) | (go_simp; rfl) | (go_simp; exact i64_w _) | (go_simp; exact i32_w _))) ?_
    simp only [List.set_cons_zero, List.set_cons_succ]
    refine on_guard (guard_on 4 false 22 rfl rfl rfl) ?_
    refine st (.bool (decide ((l1_1.length : Int) > 200))) rfl rfl (xr_bin (.int .i64 (l1_1.length : Int)) (.int .i64 200) (.bool (decide ((l1_1.length : Int) > 200))) rfl rfl rfl (B.gtr_i64 (l1_1.length : Int) 200)) ?_
    simp only [List.set_cons_zero, List.set_cons_succ]
    refine st (.bool (decide ((l1_1.length : Int) > 200))) rfl rfl (xr_pick false (.bool (decide ((l1_1.length : Int) > 200))) rfl rfl rfl) ?_
    simp only [List.set_cons_zero, List.set_cons_succ]
    refine st (.bool (decide ((l1_1.length : Int) > 200))) rfl rfl (xr_move (.bool (decide ((l1_1.length : Int) > 200))) rfl rfl) ?_
    simp only [List.set_cons_zero, List.set_cons_succ]
    by_cases c3749 : (l1_1.length : Int) > 200
    · rw [if_pos c3749] at H
      (try rw [(decide_eq_true c3749)])
      (try simp only [Bool.not_true, Bool.not_false])
      refine sk_guard (guard_off 10 false 28 rfl rfl true (by decide) rfl) rfl ?_
      simp only [List.set_cons_zero, List.set_cons_succ]
      refine sk_guard (guard_off 10 false 28 rfl rfl true (by decide) rfl) rfl ?_
      simp only [List.set_cons_zero, List.set_cons_succ]
      refine sk_guard (guard_off 10 false 28 rfl rfl true (by decide) rfl) rfl ?_
      simp only [List.set_cons_zero, List.set_cons_succ]
      refine st (.bool true) rfl rfl (xr_pick true (.bool true) rfl rfl rfl) ?_
      simp only [List.set_cons_zero, List.set_cons_succ]
      refine wl_end ?_
      (try simp only [Act.put, List.setIfInBounds_toArray, List.set_cons_zero, List.set_cons_succ])
      exact hj3506 _ _ _ (true) (fun q_ => List.getD [.agg #[.int .u8 a0_0, .slice A0_1 l0_1.length c0_1], .agg #[.int .u8 a1_0, .slice A1_1 l1_1.length c1_1], undef, undef, undef, undef, .bool false, undef, undef, undef, undef, undef, undef, undef, undef, undef, undef, undef, .pointer (some ⟨g3465, 1, none⟩), .slice A0_1 l0_1.length c0_1, .int .i64 (l0_1.length : Int), .bool false, .bool false, .pointer (some ⟨g3470, 1, none⟩), .slice A1_1 l1_1.length c1_1, .int .i64 (l1_1.length : Int), .bool true, .bool true, .bool true, undef, undef, undef, undef, undef, undef, undef, undef, undef, undef, undef, undef, undef, undef, undef, undef, undef, undef, undef, undef, undef, undef, undef, undef, undef, undef, undef, undef, undef, undef, undef, undef, undef, undef, undef, undef, undef, undef, undef, undef, undef, undef, undef, undef, undef, undef, undef, undef, undef, undef, undef, undef, undef, undef, undef, undef, undef, undef, undef, undef, undef, undef, undef, undef, undef, undef, undef, undef, undef, undef, undef, undef, undef, undef, undef, undef, undef, undef, undef, undef, undef, undef, undef, undef, undef, undef, undef, undef, undef, undef] q_ undef)  HS (by omega) HP2 HP0_1 HX3468 HP1_1 HX3473 H
    · rw [if_neg c3749] at H
      (try rw [(decide_eq_false c3749)])
      (try simp only [Bool.not_true, Bool.not_false])
      refine on_guard (guard_on 10 false 28 rfl rfl rfl) ?_
      refine st (.slice A2 l2.length c2) rfl rfl (xr_move (.slice A2 l2.length c2) rfl rfl) ?_
      simp only [List.set_cons_zero, List.set_cons_succ]
      refine on_guard (guard_on 10 false 28 rfl rfl rfl) ?_
      refine st (.int .i64 (l2.length : Int)) rfl rfl (xr_builtin #[.slice A2 l2.length c2] (.int .i64 (l2.length : Int)) rfl (by simp only [List.map_toArray, List.map_cons, List.map_nil]; first | done | rfl) (by first | rfl | (go_simp; done) | (go_simp; rfl) | (go_simp; exact i64_w _) | (go_simp; exact i32_w _))) ?_
      simp only [List.set_cons_zero, List.set_cons_succ]
      refine on_guard (guard_on 10 false 28 rfl rfl rfl) ?_
      refine st (.bool (decide ((l2.length : Int) > 200))) rfl rfl (xr_bin (.int .i64 (l2.length : Int)) (.int .i64 200) (.bool (decide ((l2.length : Int) > 200))) rfl rfl rfl (B.gtr_i64 (l2.length : Int) 200)) ?_
      simp only [List.set_cons_zero, List.set_cons_succ]
      refine st (.bool (decide ((l2.length : Int) > 200))) rfl rfl (xr_pick false (.bool (decide ((l2.length : Int) > 200))) rfl rfl rfl) ?_
      simp only [List.set_cons_zero, List.set_cons_succ]
      refine wl_end ?_
      (try simp only [Act.put, List.setIfInBounds_toArray, List.set_cons_zero, List.set_cons_succ])
      exact hj3506 _ _ _ (decide ((l2.length : Int) > 200)) (fun q_ => List.getD [.agg #[.int .u8 a0_0, .slice A0_1 l0_1.length c0_1], .agg #[.int .u8 a1_0, .slice A1_1 l1_1.length c1_1], undef, undef, undef, undef, .bool false, undef, undef, undef, undef, undef, undef, undef, undef, undef, undef, undef, .pointer (some ⟨g3465, 1, none⟩), .slice A0_1 l0_1.length c0_1, .int .i64 (l0_1.length : Int), .bool false, .bool false, .pointer (some ⟨g3470, 1, none⟩), .slice A1_1 l1_1.length c1_1, .int .i64 (l1_1.length : Int), .bool false, .bool false, .bool false, .slice A2 l2.length c2, .int .i64 (l2.length : Int), .bool (decide ((l2.length : Int) > 200)), undef, undef, undef, undef, undef, undef, undef, undef, undef, undef, undef, undef, undef, undef, undef, undef, undef, undef, undef, undef, undef, undef, undef, undef, undef, undef, undef, undef, undef, undef, undef, undef, undef, undef, undef, undef, undef, undef, undef, undef, undef, undef, undef, undef, undef, undef, undef, undef, undef, undef, undef, undef, undef, undef, undef, undef, undef, undef, undef, undef, undef, undef, undef, undef, undef, undef, undef, undef, undef, undef, undef, undef, undef, undef, undef, undef, undef, undef, undef, undef, undef, undef, undef, undef, undef, undef, undef] q_ undef)  HS (by omega) HP2 HP0_1 HX3468 HP1_1 HX3473 H
/-- THE ONE PURE STATEMENT of blazonlaw04_RecordApart. -/
def blazonlaw04_RecordApart.Pure : Prop := ∀ (a0_0 : Int) (l0_1 : List Int) (a1_0 : Int) (l1_1 : List Int) (l2 : List Int), (Lit.int .u8 a0_0).wf = true → l0_1.length ≤ maxLen → l0_1.length * 1 ≤ 140737488351232 → (∀ x_ ∈ l0_1, (Lit.int .u8 x_).wf = true) → (Lit.int .u8 a1_0).wf = true → l1_1.length ≤ maxLen → l1_1.length * 1 ≤ 140737488351232 → (∀ x_ ∈ l1_1, (Lit.int .u8 x_).wf = true) → l2.length ≤ maxLen → l2.length * 1 ≤ 140737488351232 → (∀ x_ ∈ l2, (Lit.int .u8 x_).wf = true) → ∃ k, blazonlaw04_RecordApart.f k a0_0 l0_1 a1_0 l1_1 l2 = some true

end Go.Proofs.Ytbpagdgbehefkaa.PRec
