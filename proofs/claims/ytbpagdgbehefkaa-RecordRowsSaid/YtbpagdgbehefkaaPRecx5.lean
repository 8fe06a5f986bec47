-- By cprint.py, a program of this work. Lean checks it.
import Derived.Test.YtbpagdgbehefkaaPRecx0
namespace Go.Proofs.Ytbpagdgbehefkaa.PRec
open Go.RowKit Go.Proofs.YtbpagdgbehefkaaW.PrintWords Go.Proofs.YtbpagdgbehefkaaW.PrintLast Go.Proofs.YtbpagdgbehefkaaW.PrintMore
set_option linter.unusedVariables false
set_option linter.unusedSimpArgs false

/-! ### blazonref01_Pick: function 35 -/
def blazonref01_Pick.f (a0 : Int) (a1 : Int) : Option (Int) := if a1 < 1 then (some 0) else (if a1 = 0 then (none) else (if (Int.tmod a0 a1) < 0 then (some (wrap64 ((Int.tmod a0 a1) + a1))) else (some (Int.tmod a0 a1))))
set_option maxHeartbeats 2000000 in
set_option maxRecDepth 100000 in
theorem blazonref01_Pick.calls (a0 : Int) (a1 : Int) (r : Int) (c : Nat → Nat) (w : World) (hc : ∀ k, c k < 10)  (H : blazonref01_Pick.f a0 a1 = some r) :
    Calls Try.prog 35 #[.int .i64 a0, .int .i64 a1] w fun e w' => ∃ (c' : Nat → Nat) , e = .returned (.int .i64 r) ∧ Step c w c' w' [] := by
  unfold blazonref01_Pick.f at H
  have HS := Step.refl c w []
  go_enter Try.func35, Try.ntmps35
  refine wp_seq_k fun K3128 hK3128 => ?_
  refine wl_region ?_
  refine st (.int .i64 0) rfl rfl (xr_assign (.int .i64 0) rfl rfl) ?_
  simp only [List.set_cons_zero, List.set_cons_succ]
  refine wl_end ?_
  (try simp only [Act.put, List.setIfInBounds_toArray, List.set_cons_zero, List.set_cons_succ])
  refine hK3128 _ _ ?_
  (try clear hK3128 K3128)
  refine wp_seq_k fun K3129 hK3129 => ?_
  refine wp_seq_k fun K3130 hK3130 => ?_
  refine wl_region ?_
  refine st (.int .i64 a1) rfl rfl (xr_move (.int .i64 a1) rfl rfl) ?_
  simp only [List.set_cons_zero, List.set_cons_succ]
  refine st (.bool (decide (a1 < 1))) rfl rfl (xr_bin (.int .i64 a1) (.int .i64 1) (.bool (decide (a1 < 1))) rfl rfl rfl (B.lss_i64 a1 1)) ?_
  simp only [List.set_cons_zero, List.set_cons_succ]
  refine wl_end ?_
  (try simp only [Act.put, List.setIfInBounds_toArray, List.set_cons_zero, List.set_cons_succ])
  refine hK3130 _ _ ?_
  (try clear hK3130 K3130)
  by_cases c3131 : a1 < 1
  · rw [if_pos c3131] at H
    (try rw [(decide_eq_true c3131)])
    (try simp only [Bool.not_true, Bool.not_false])
    refine wp_cond_true rfl ?_
    refine wp_seq_k fun K3132 hK3132 => ?_
    refine wl_region ?_
    refine st (.int .i64 0) rfl rfl (xr_assign (.int .i64 0) rfl rfl) ?_
    simp only [List.set_cons_zero, List.set_cons_succ]
    refine wl_end ?_
    (try simp only [Act.put, List.setIfInBounds_toArray, List.set_cons_zero, List.set_cons_succ])
    refine hK3132 _ _ ?_
    (try clear hK3132 K3132)
    refine wp_ret ?_
    (try simp only [Exit.inBlock, Exit.then, Exit.noGoto])
    (try simp only [Act.put, List.setIfInBounds_toArray, List.set_cons_zero, List.set_cons_succ])
    obtain rfl := Option.some.inj H
    refine bodyPost_ret (results_tmp rfl _ _ _) rfl ?_
    exact ⟨_, rfl, HS⟩
  · rw [if_neg c3131] at H
    (try rw [(decide_eq_false c3131)])
    (try simp only [Bool.not_true, Bool.not_false])
    refine wp_cond_false rfl ?_
    refine wp_skip ?_
    (try simp only [Act.put, List.setIfInBounds_toArray, List.set_cons_zero, List.set_cons_succ])
    refine hK3129 _ _ ?_
    (try clear hK3129 K3129)
    refine wp_seq_k fun K3133 hK3133 => ?_
    refine wl_region ?_
    refine st (.int .i64 a0) rfl rfl (xr_move (.int .i64 a0) rfl rfl) ?_
    simp only [List.set_cons_zero, List.set_cons_succ]
    refine st (.int .i64 a1) rfl rfl (xr_move (.int .i64 a1) rfl rfl) ?_
    simp only [List.set_cons_zero, List.set_cons_succ]
    by_cases c3134 : a1 = 0
    · rw [if_pos c3134] at H
      exact absurd H (by simp)
    · rw [if_neg c3134] at H
      refine st (.int .i64 (Int.tmod a0 a1)) rfl rfl (xr_bin (.int .i64 a0) (.int .i64 a1) (.int .i64 (Int.tmod a0 a1)) rfl rfl rfl (B.rem_i64 a0 a1 (by assumption))) ?_
      simp only [List.set_cons_zero, List.set_cons_succ]
      refine st (.int .i64 (Int.tmod a0 a1)) rfl rfl (xr_assign (.int .i64 (Int.tmod a0 a1)) rfl rfl) ?_
      simp only [List.set_cons_zero, List.set_cons_succ]
      refine wl_end ?_
      (try simp only [Act.put, List.setIfInBounds_toArray, List.set_cons_zero, List.set_cons_succ])
      refine hK3133 _ _ ?_
      (try clear hK3133 K3133)
      refine wp_seq_k fun K3135 hK3135 => ?_
      refine wp_seq_k fun K3136 hK3136 => ?_
      refine wl_region ?_
      refine st (.int .i64 (Int.tmod a0 a1)) rfl rfl (xr_move (.int .i64 (Int.tmod a0 a1)) rfl rfl) ?_
      simp only [List.set_cons_zero, List.set_cons_succ]
      refine st (.bool (decide ((Int.tmod a0 a1) < 0))) rfl rfl (xr_bin (.int .i64 (Int.tmod a0 a1)) (.int .i64 0) (.bool (decide ((Int.tmod a0 a1) < 0))) rfl rfl rfl (B.lss_i64 (Int.tmod a0 a1) 0)) ?_
      simp only [List.set_cons_zero, List.set_cons_succ]
      refine wl_end ?_
      (try simp only [Act.put, List.setIfInBounds_toArray, List.set_cons_zero, List.set_cons_succ])
      refine hK3136 _ _ ?_
      (try clear hK3136 K3136)
      by_cases c3137 : (Int.tmod a0 a1) < 0
      · rw [if_pos c3137] at H
        (try rw [(decide_eq_true c3137)])
        (try simp only [Bool.not_true, Bool.not_false])
        refine wp_cond_true rfl ?_
        refine wl_region ?_
        refine st (.int .i64 (Int.tmod a0 a1)) rfl rfl (xr_move (.int .i64 (Int.tmod a0 a1)) rfl rfl) ?_
        simp only [List.set_cons_zero, List.set_cons_succ]
        refine st (.int .i64 a1) rfl rfl (xr_move (.int .i64 a1) rfl rfl) ?_
        simp only [List.set_cons_zero, List.set_cons_succ]
        refine st (.int .i64 (wrap64 ((Int.tmod a0 a1) + a1))) rfl rfl (xr_bin (.int .i64 (Int.tmod a0 a1)) (.int .i64 a1) (.int .i64 (wrap64 ((Int.tmod a0 a1) + a1))) rfl rfl rfl (B.add_i64 (Int.tmod a0 a1) a1)) ?_
        simp only [List.set_cons_zero, List.set_cons_succ]
        refine st (.int .i64 (wrap64 ((Int.tmod a0 a1) + a1))) rfl rfl (xr_assign (.int .i64 (wrap64 ((Int.tmod a0 a1) + a1))) rfl rfl) ?_
        simp only [List.set_cons_zero, List.set_cons_succ]
        refine wl_end ?_
        (try simp only [Act.put, List.setIfInBounds_toArray, List.set_cons_zero, List.set_cons_succ])
        refine hK3135 _ _ ?_
        (try clear hK3135 K3135)
        refine wp_seq_k fun K3138 hK3138 => ?_
        refine wl_region ?_
        refine st (.int .i64 (wrap64 ((Int.tmod a0 a1) + a1))) rfl rfl (xr_move (.int .i64 (wrap64 ((Int.tmod a0 a1) + a1))) rfl rfl) ?_
        simp only [List.set_cons_zero, List.set_cons_succ]
        refine st (.int .i64 (wrap64 ((Int.tmod a0 a1) + a1))) rfl rfl (xr_assign (.int .i64 (wrap64 ((Int.tmod a0 a1) + a1))) rfl rfl) ?_
        simp only [List.set_cons_zero, List.set_cons_succ]
        refine wl_end ?_
        (try simp only [Act.put, List.setIfInBounds_toArray, List.set_cons_zero, List.set_cons_succ])
        refine hK3138 _ _ ?_
        (try clear hK3138 K3138)
        refine wp_ret ?_
        (try simp only [Exit.inBlock, Exit.then, Exit.noGoto])
        (try simp only [Act.put, List.setIfInBounds_toArray, List.set_cons_zero, List.set_cons_succ])
        obtain rfl := Option.some.inj H
        refine bodyPost_ret (results_tmp rfl _ _ _) rfl ?_
        exact ⟨_, rfl, HS⟩
      · rw [if_neg c3137] at H
        (try rw [(decide_eq_false c3137)])
        (try simp only [Bool.not_true, Bool.not_false])
        refine wp_cond_false rfl ?_
        refine wp_skip ?_
        (try simp only [Act.put, List.setIfInBounds_toArray, List.set_cons_zero, List.set_cons_succ])
        refine hK3135 _ _ ?_
        (try clear hK3135 K3135)
        refine wp_seq_k fun K3139 hK3139 => ?_
        refine wl_region ?_
        refine st (.int .i64 (Int.tmod a0 a1)) rfl rfl (xr_move (.int .i64 (Int.tmod a0 a1)) rfl rfl) ?_
        simp only [List.set_cons_zero, List.set_cons_succ]
        refine st (.int .i64 (Int.tmod a0 a1)) rfl rfl (xr_assign (.int .i64 (Int.tmod a0 a1)) rfl rfl) ?_
        simp only [List.set_cons_zero, List.set_cons_succ]
        refine wl_end ?_
        (try simp only [Act.put, List.setIfInBounds_toArray, List.set_cons_zero, List.set_cons_succ])
        refine hK3139 _ _ ?_
        (try clear hK3139 K3139)
        refine wp_ret ?_
        (try simp only [Exit.inBlock, Exit.then, Exit.noGoto])
        (try simp only [Act.put, List.setIfInBounds_toArray, List.set_cons_zero, List.set_cons_succ])
        obtain rfl := Option.some.inj H
        refine bodyPost_ret (results_tmp rfl _ _ _) rfl ?_
        exact ⟨_, rfl, HS⟩

end Go.Proofs.Ytbpagdgbehefkaa.PRec
