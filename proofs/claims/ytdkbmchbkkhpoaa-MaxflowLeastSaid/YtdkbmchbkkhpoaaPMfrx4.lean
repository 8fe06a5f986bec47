-- By cprint.py, a program of this work. Lean checks it.
import Derived.Test.YtdkbmchbkkhpoaaPMfrx0
import Derived.Test.YtdkbmchbkkhpoaaPMfrx1
import Derived.Test.YtdkbmchbkkhpoaaPMfrx3
namespace Go.Proofs.Ytdkbmchbkkhpoaa.PMfr
open Go.RowKit Go.Proofs.YtdkbmchbkkhpoaaW.PrintWords Go.Proofs.YtdkbmchbkkhpoaaW.PrintLast Go.Proofs.YtdkbmchbkkhpoaaW.PrintMore
set_option linter.unusedVariables false
set_option linter.unusedSimpArgs false

/-! ### maxflow_Net_Flow: function 18 -/
def maxflow_Net_Flow.f (x0 : Option S74) (a1 : Int) : Option (Int) := onOpt x0 (some 0) (fun o86 => (if o86.f4 = true then (if a1 < 0 then (some 0) else (if a1 ≥ (o86.f1.length : Int) then (some 0) else (if 0 ≤ (wrap64 ((wrap64 (2 * a1)) + 1)) then (if (wrap64 ((wrap64 (2 * a1)) + 1)) < (o86.f0.length : Int) then (some ((rd_T78 o86.f0 (wrap64 ((wrap64 (2 * a1)) + 1))).f1)) else (none)) else (none)))) else (some 0)))
set_option maxHeartbeats 8000000 in
set_option maxRecDepth 100000 in
theorem maxflow_Net_Flow.calls (v0 : Value) (x0 : Option S74) (a1 : Int) (r : Int) (c : Nat → Nat) (w : World) (hc : ∀ k, c k < 10) (HP0 : Ft c [0] w (fun w_ => (Kd.ptr 74 k74).K w_ x0 [v0])) (H : maxflow_Net_Flow.f x0 a1 = some r) :
    Calls Try.prog 18 #[v0, .int .i64 a1] w fun e w' => ∃ (c' : Nat → Nat) , e = .returned (.int .i64 r) ∧ Step c w c' w' [] := by
 unfold maxflow_Net_Flow.f at H
 have HS := Step.refl c w []
 go_enter Try.func18, Try.ntmps18
 refine wp_seq_k fun K53 hK53 => ?_
 refine wl_region ?_
 refine st (.int .i64 0) rfl rfl (xr_assign _ rfl rfl) ?_
 refine wl_end ?_
 (try simp only [ls0, ls1])
 refine hK53 _ _ ?_
 (try clear hK53 K53)
 refine wp_seq_k fun K54 hK54 => ?_
 refine wp_seq_k fun K77 hK77 => ?_
 refine wl_region ?_
 refine mv_ rfl ?_
 simp only [ls0, ls1]
 cases x0 with
 | none =>
  (try simp only [onOpt] at H)
  obtain rfl := ptr_none HP0
  refine st (.bool true) rfl rfl (xr_bin (.pointer none) (.pointer none) (.bool true) rfl rfl rfl (B.eql_nn ⟨_, Try.underlying24⟩ (⟨0, 0, none⟩ : Addr))) ?_
  refine mv_ rfl ?_
  refine sk_guard (guard_off 2 false 7 rfl rfl true (by decide) rfl) rfl ?_
  refine sk_guard (guard_off 2 false 7 rfl rfl true (by decide) rfl) rfl ?_
  simp only [ls0, ls1]
  refine sk_guard (guard_off 2 false 7 rfl rfl true (by decide) rfl) rfl ?_
  refine sk_guard (guard_off 2 false 7 rfl rfl true (by decide) rfl) rfl ?_
  refine sk_guard (guard_off 2 false 7 rfl rfl true (by decide) rfl) rfl ?_
  refine st (.bool true) rfl rfl (xr_pick true _ rfl rfl rfl) ?_
  simp only [ls0, ls1]
  refine mv_ rfl ?_
  refine sk_guard (guard_off 9 false 14 rfl rfl true (by decide) rfl) rfl ?_
  refine sk_guard (guard_off 9 false 14 rfl rfl true (by decide) rfl) rfl ?_
  refine st (.bool true) rfl rfl (xr_pick true _ rfl rfl rfl) ?_
  simp only [ls0, ls1]
  refine mv_ rfl ?_
  refine sk_guard (guard_off 13 false 18 rfl rfl true (by decide) rfl) rfl ?_
  refine sk_guard (guard_off 13 false 18 rfl rfl true (by decide) rfl) rfl ?_
  refine sk_guard (guard_off 13 false 18 rfl rfl true (by decide) rfl) rfl ?_
  simp only [ls0, ls1]
  refine sk_guard (guard_off 13 false 18 rfl rfl true (by decide) rfl) rfl ?_
  refine sk_guard (guard_off 13 false 18 rfl rfl true (by decide) rfl) rfl ?_
  refine sk_guard (guard_off 13 false 18 rfl rfl true (by decide) rfl) rfl ?_
  refine sk_guard (guard_off 13 false 18 rfl rfl true (by decide) rfl) rfl ?_
  simp only [ls0, ls1]
  refine st (.bool true) rfl rfl (xr_pick true _ rfl rfl rfl) ?_
  refine wl_end ?_
  (try simp only [ls0, ls1])
  refine hK77 _ _ ?_
  (try clear hK77 K77)
  refine wp_cond_true rfl ?_
  refine wp_seq_k fun K87 hK87 => ?_
  refine wl_region ?_
  refine st (.int .i64 0) rfl rfl (xr_assign _ rfl rfl) ?_
  refine wl_end ?_
  (try simp only [ls0, ls1])
  refine hK87 _ _ ?_
  (try clear hK87 K87)
  refine wp_ret ?_
  (try simp only [Exit.inBlock, Exit.then, Exit.noGoto])
  (try simp only [ls0, ls1])
  obtain rfl := Option.some.inj H
  refine bodyPost_ret (results_tmp rfl _ _ _) rfl ?_
  exact ⟨_, rfl, HS⟩
 | some o86 =>
  (try simp only [onOpt] at H)
  obtain ⟨g88, cs89, rfl, HX90, HK91⟩ := ptr_some HP0
  obtain ⟨Aq92_0, cpq92_0, Aq92_1, cpq92_1, Aq92_2, cpq92_2, Aq92_5, cpq92_5, Aq92_6, cpq92_6, rfl, HCq92_0, HRq92_0, HCq92_1, HRq92_1, HCq92_2, HRq92_2, HCq92_5, HRq92_5, HCq92_6, HRq92_6⟩ := k74_openF HK91
  replace HRq92_0 : Ft c [0] w (fun w_ => k78.C w_ Aq92_0 o86.f0.length o86.f0) := HRq92_0
  replace HRq92_1 : Ft c [0] w (fun w_ => (Kd.int .i64).C w_ Aq92_1 o86.f1.length o86.f1) := HRq92_1
  replace HRq92_2 : Ft c [0] w (fun w_ => (Kd.slice 3 (Kd.int .i64)).C w_ Aq92_2 o86.f2.length o86.f2) := HRq92_2
  replace HRq92_5 : Ft c [0] w (fun w_ => (Kd.int .i64).C w_ Aq92_5 o86.f5.length o86.f5) := HRq92_5
  replace HRq92_6 : Ft c [0] w (fun w_ => (Kd.int .i64).C w_ Aq92_6 o86.f6.length o86.f6) := HRq92_6
  refine st (.bool false) rfl rfl (xr_bin (.pointer (some ⟨g88, 0, none⟩)) (.pointer none) (.bool false) rfl rfl rfl (B.eql_pn ⟨_, Try.underlying24⟩ ⟨g88, 0, none⟩)) ?_
  refine mv_ rfl ?_
  refine on_guard (guard_on 2 false 7 rfl rfl rfl) ?_
  refine mv_ rfl ?_
  refine on_guard (guard_on 2 false 7 rfl rfl rfl) ?_
  refine st (.pointer (some ⟨g88, 0, none⟩)) rfl rfl (xr_nilCheck _ rfl rfl) ?_
  simp only [ls0, ls1]
  refine on_guard (guard_on 2 false 7 rfl rfl rfl) ?_
  refine st (.pointer (some ⟨g88, 4, none⟩)) rfl rfl (xr_fieldAddr _ _ rfl rfl (bx_field2 Try.underlying74 rfl rfl (by kernel_rfl))) ?_
  refine on_guard (guard_on 2 false 7 rfl rfl rfl) ?_
  refine st (.bool o86.f4) rfl rfl (xr_load _ _ rfl rfl (load_cell Try.underlying4 rfl (bx_cell (Ft.now HX90) 4 rfl))) ?_
  refine on_guard (guard_on 2 false 7 rfl rfl rfl) ?_
  refine st (.bool (!o86.f4)) rfl rfl (xr_un (.bool o86.f4) _ rfl rfl (by first | rfl | (go_simp; done) | (go_simp; rfl) | (go_simp; exact i64_w _) | (go_simp; exact i32_w _))) ?_
  refine st (.bool (!o86.f4)) rfl rfl (xr_pick false _ rfl rfl rfl) ?_
  simp only [ls0, ls1]
  refine mv_ rfl ?_
  by_cases c93 : o86.f4 = true
  ·rw [if_pos c93] at H
   (try rw [c93])
   (try rw [c93] at HX90)
   (try simp only [Bool.not_true, Bool.not_false])
   refine on_guard (guard_on 9 false 14 rfl rfl rfl) ?_
   refine mv_ rfl ?_
   refine on_guard (guard_on 9 false 14 rfl rfl rfl) ?_
   refine st (.bool (decide (a1 < 0))) rfl rfl (xr_bin _ _ _ rfl rfl rfl (B.lss_i64 _ _)) ?_
   refine st (.bool (decide (a1 < 0))) rfl rfl (xr_pick false _ rfl rfl rfl) ?_
   simp only [ls0, ls1]
   refine mv_ rfl ?_
   by_cases c94 : a1 < 0
   ·rw [if_pos c94] at H
    (try rw [(decide_eq_true c94)])
    refine sk_guard (guard_off 13 false 18 rfl rfl true (by decide) rfl) rfl ?_
    refine sk_guard (guard_off 13 false 18 rfl rfl true (by decide) rfl) rfl ?_
    refine sk_guard (guard_off 13 false 18 rfl rfl true (by decide) rfl) rfl ?_
    simp only [ls0, ls1]
    refine sk_guard (guard_off 13 false 18 rfl rfl true (by decide) rfl) rfl ?_
    refine sk_guard (guard_off 13 false 18 rfl rfl true (by decide) rfl) rfl ?_
    refine sk_guard (guard_off 13 false 18 rfl rfl true (by decide) rfl) rfl ?_
    refine sk_guard (guard_off 13 false 18 rfl rfl true (by decide) rfl) rfl ?_
    simp only [ls0, ls1]
    refine st (.bool true) rfl rfl (xr_pick true _ rfl rfl rfl) ?_
    refine wl_end ?_
    (try simp only [ls0, ls1])
    refine hK77 _ _ ?_
    (try clear hK77 K77)
    refine wp_cond_true rfl ?_
    refine wp_seq_k fun K95 hK95 => ?_
    refine wl_region ?_
    refine st (.int .i64 0) rfl rfl (xr_assign _ rfl rfl) ?_
    refine wl_end ?_
    (try simp only [ls0, ls1])
    refine hK95 _ _ ?_
    (try clear hK95 K95)
    refine wp_ret ?_
    (try simp only [Exit.inBlock, Exit.then, Exit.noGoto])
    (try simp only [ls0, ls1])
    obtain rfl := Option.some.inj H
    refine bodyPost_ret (results_tmp rfl _ _ _) rfl ?_
    exact ⟨_, rfl, HS⟩
   rw [if_neg c94] at H
   (try rw [(decide_eq_false c94)])
   refine on_guard (guard_on 13 false 18 rfl rfl rfl) ?_
   refine mv_ rfl ?_
   refine on_guard (guard_on 13 false 18 rfl rfl rfl) ?_
   refine mv_ rfl ?_
   refine on_guard (guard_on 13 false 18 rfl rfl rfl) ?_
   refine st (.pointer (some ⟨g88, 0, none⟩)) rfl rfl (xr_nilCheck _ rfl rfl) ?_
   refine on_guard (guard_on 13 false 18 rfl rfl rfl) ?_
   refine st (.pointer (some ⟨g88, 1, none⟩)) rfl rfl (xr_fieldAddr _ _ rfl rfl (bx_field2 Try.underlying74 rfl rfl (by kernel_rfl))) ?_
   simp only [ls0, ls1]
   refine on_guard (guard_on 13 false 18 rfl rfl rfl) ?_
   refine st (.slice Aq92_1 o86.f1.length cpq92_1) rfl rfl (xr_load _ _ rfl rfl (load_cell Try.underlying42 rfl (bx_cell (Ft.now HX90) 1 rfl))) ?_
   refine on_guard (guard_on 13 false 18 rfl rfl rfl) ?_
   refine st (.int .i64 (o86.f1.length : Int)) rfl rfl (xr_builtin #[.slice Aq92_1 o86.f1.length cpq92_1] (.int .i64 (o86.f1.length : Int)) rfl (mp_ rfl) (by first | rfl | (go_simp; done) | (go_simp; rfl) | (go_simp; exact i64_w _) | (go_simp; exact i32_w _))) ?_
   refine on_guard (guard_on 13 false 18 rfl rfl rfl) ?_
   refine st (.bool (decide (a1 ≥ (o86.f1.length : Int)))) rfl rfl (xr_bin _ _ _ rfl rfl rfl (B.geq_i64 _ _)) ?_
   refine st (.bool (decide (a1 ≥ (o86.f1.length : Int)))) rfl rfl (xr_pick false _ rfl rfl rfl) ?_
   simp only [ls0, ls1]
   refine wl_end ?_
   (try simp only [ls0, ls1])
   refine hK77 _ _ ?_
   (try clear hK77 K77)
   by_cases c96 : a1 ≥ (o86.f1.length : Int)
   ·rw [if_pos c96] at H
    (try rw [(decide_eq_true c96)])
    refine wp_cond_true rfl ?_
    refine wp_seq_k fun K97 hK97 => ?_
    refine wl_region ?_
    refine st (.int .i64 0) rfl rfl (xr_assign _ rfl rfl) ?_
    refine wl_end ?_
    (try simp only [ls0, ls1])
    refine hK97 _ _ ?_
    (try clear hK97 K97)
    refine wp_ret ?_
    (try simp only [Exit.inBlock, Exit.then, Exit.noGoto])
    (try simp only [ls0, ls1])
    obtain rfl := Option.some.inj H
    refine bodyPost_ret (results_tmp rfl _ _ _) rfl ?_
    exact ⟨_, rfl, HS⟩
   rw [if_neg c96] at H
   (try rw [(decide_eq_false c96)])
   refine wp_cond_false rfl ?_
   refine wp_skip ?_
   (try simp only [ls0, ls1])
   refine hK54 _ _ ?_
   (try clear hK54 K54)
   refine wp_seq_k fun K98 hK98 => ?_
   refine wl_region ?_
   refine mv_ rfl ?_
   refine st (.pointer (some ⟨g88, 0, none⟩)) rfl rfl (xr_nilCheck _ rfl rfl) ?_
   refine st (.pointer (some ⟨g88, 0, none⟩)) rfl rfl (xr_fieldAddr _ _ rfl rfl (bx_field2 Try.underlying74 rfl rfl (by kernel_rfl))) ?_
   refine st (.slice Aq92_0 o86.f0.length cpq92_0) rfl rfl (xr_load _ _ rfl rfl (load_cell Try.underlying67 rfl (bx_cell (Ft.now HX90) 0 rfl))) ?_
   simp only [ls0, ls1]
   refine mv_ rfl ?_
   refine st (.int .i64 (wrap64 (2 * a1))) rfl rfl (xr_bin _ _ _ rfl rfl rfl (B.mul_i64 _ _)) ?_
   refine st (.int .i64 (wrap64 ((wrap64 (2 * a1)) + 1))) rfl rfl (xr_bin _ _ _ rfl rfl rfl (B.add_i64 _ _)) ?_
   obtain ⟨c99, H⟩ := if_some H
   obtain ⟨c100, H⟩ := if_some H
   obtain ⟨ad101, hA102⟩ := c_addr (Ft.now HRq92_0) (pos_of (j := (wrap64 ((wrap64 (2 * a1)) + 1))) (by first | assumption | decide) (by first | assumption | omega))
   refine st (.pointer (some (ad101.add ((wrap64 ((wrap64 (2 * a1)) + 1) : Int).toNat * 2)))) rfl rfl (xr_indexAddr _ _ _ rfl rfl rfl (index_at Try.underlying67 info78 hA102 (by first | assumption | decide | omega) (by first | assumption | decide | omega))) ?_
   simp only [ls0, ls1]
   refine st (.pointer (some ((ad101.add ((wrap64 ((wrap64 (2 * a1)) + 1) : Int).toNat * 2)).add 1))) rfl rfl (xr_fieldAddr _ _ rfl rfl (field_at2 Try.underlying78 rfl rfl (by kernel_rfl))) ?_
   refine st (.int .i64 ((rd_T78 o86.f0 (wrap64 ((wrap64 (2 * a1)) + 1))).f1)) rfl rfl (xr_load (.pointer (some ((ad101.add ((wrap64 ((wrap64 (2 * a1)) + 1) : Int).toNat * 2)).add 1))) (.int .i64 ((rd_T78 o86.f0 (wrap64 ((wrap64 (2 * a1)) + 1))).f1)) rfl rfl (by obtain ⟨ad_, cs_, e_, _, hK_, hc_⟩ := Kd.C_get (Ft.now HRq92_0) z78 (wrap64 ((wrap64 (2 * a1)) + 1)) (by first | assumption | decide | omega) (by first | assumption | decide | omega); rw [hA102] at e_; injection e_ with e_; subst e_; obtain rfl := k78_open hK_; exact load_cell Try.underlying2 rfl (by first | (rw [add_add]; exact hc_ 1 _ rfl) | (have h_ := hc_ 1 _ rfl; rw [Nat.add_zero] at h_; exact h_)))) ?_
   refine as_ rfl ?_
   refine wl_end ?_
   (try simp only [ls0, ls1])
   refine hK98 _ _ ?_
   (try clear hK98 K98)
   refine wp_ret ?_
   (try simp only [Exit.inBlock, Exit.then, Exit.noGoto])
   (try simp only [ls0, ls1])
   obtain rfl := Option.some.inj H
   refine bodyPost_ret (results_tmp rfl _ _ _) rfl ?_
   exact ⟨_, rfl, HS⟩
  rw [if_neg c93] at H
  (try rw [(Bool.eq_false_iff.mpr c93)])
  (try rw [(Bool.eq_false_iff.mpr c93)] at HX90)
  (try simp only [Bool.not_true, Bool.not_false])
  refine sk_guard (guard_off 9 false 14 rfl rfl true (by decide) rfl) rfl ?_
  refine sk_guard (guard_off 9 false 14 rfl rfl true (by decide) rfl) rfl ?_
  refine st (.bool true) rfl rfl (xr_pick true _ rfl rfl rfl) ?_
  refine mv_ rfl ?_
  simp only [ls0, ls1]
  refine sk_guard (guard_off 13 false 18 rfl rfl true (by decide) rfl) rfl ?_
  refine sk_guard (guard_off 13 false 18 rfl rfl true (by decide) rfl) rfl ?_
  refine sk_guard (guard_off 13 false 18 rfl rfl true (by decide) rfl) rfl ?_
  refine sk_guard (guard_off 13 false 18 rfl rfl true (by decide) rfl) rfl ?_
  simp only [ls0, ls1]
  refine sk_guard (guard_off 13 false 18 rfl rfl true (by decide) rfl) rfl ?_
  refine sk_guard (guard_off 13 false 18 rfl rfl true (by decide) rfl) rfl ?_
  refine sk_guard (guard_off 13 false 18 rfl rfl true (by decide) rfl) rfl ?_
  refine st (.bool true) rfl rfl (xr_pick true _ rfl rfl rfl) ?_
  simp only [ls0, ls1]
  refine wl_end ?_
  (try simp only [ls0, ls1])
  refine hK77 _ _ ?_
  (try clear hK77 K77)
  refine wp_cond_true rfl ?_
  refine wp_seq_k fun K104 hK104 => ?_
  refine wl_region ?_
  refine st (.int .i64 0) rfl rfl (xr_assign _ rfl rfl) ?_
  refine wl_end ?_
  (try simp only [ls0, ls1])
  refine hK104 _ _ ?_
  (try clear hK104 K104)
  refine wp_ret ?_
  (try simp only [Exit.inBlock, Exit.then, Exit.noGoto])
  (try simp only [ls0, ls1])
  obtain rfl := Option.some.inj H
  refine bodyPost_ret (results_tmp rfl _ _ _) rfl ?_
  exact ⟨_, rfl, HS⟩

/-! ### maxflow_Net_Edges: function 23 -/
def maxflow_Net_Edges.f (x0 : Option S74) : Option (Int) := onOpt x0 (some 0) (fun o15 => (some (o15.f1.length : Int)))
set_option maxHeartbeats 8000000 in
set_option maxRecDepth 100000 in
theorem maxflow_Net_Edges.calls (v0 : Value) (x0 : Option S74) (r : Int) (c : Nat → Nat) (w : World) (hc : ∀ k, c k < 10) (HP0 : Ft c [0] w (fun w_ => (Kd.ptr 74 k74).K w_ x0 [v0])) (H : maxflow_Net_Edges.f x0 = some r) :
    Calls Try.prog 23 #[v0] w fun e w' => ∃ (c' : Nat → Nat) , e = .returned (.int .i64 r) ∧ Step c w c' w' [] := by
 unfold maxflow_Net_Edges.f at H
 have HS := Step.refl c w []
 go_enter Try.func23, Try.ntmps23
 refine wp_seq_k fun K12 hK12 => ?_
 refine wl_region ?_
 refine st (.int .i64 0) rfl rfl (xr_assign _ rfl rfl) ?_
 refine wl_end ?_
 (try simp only [ls0, ls1])
 refine hK12 _ _ ?_
 (try clear hK12 K12)
 refine wp_seq_k fun K13 hK13 => ?_
 refine wp_seq_k fun K14 hK14 => ?_
 refine wl_region ?_
 refine mv_ rfl ?_
 cases x0 with
 | none =>
  (try simp only [onOpt] at H)
  obtain rfl := ptr_none HP0
  refine st (.bool true) rfl rfl (xr_bin (.pointer none) (.pointer none) (.bool true) rfl rfl rfl (B.eql_nn ⟨_, Try.underlying24⟩ (⟨0, 0, none⟩ : Addr))) ?_
  refine wl_end ?_
  (try simp only [ls0, ls1])
  refine hK14 _ _ ?_
  (try clear hK14 K14)
  refine wp_cond_true rfl ?_
  refine wp_seq_k fun K16 hK16 => ?_
  refine wl_region ?_
  refine st (.int .i64 0) rfl rfl (xr_assign _ rfl rfl) ?_
  refine wl_end ?_
  (try simp only [ls0, ls1])
  refine hK16 _ _ ?_
  (try clear hK16 K16)
  refine wp_ret ?_
  (try simp only [Exit.inBlock, Exit.then, Exit.noGoto])
  (try simp only [ls0, ls1])
  obtain rfl := Option.some.inj H
  refine bodyPost_ret (results_tmp rfl _ _ _) rfl ?_
  exact ⟨_, rfl, HS⟩
 | some o15 =>
  (try simp only [onOpt] at H)
  obtain ⟨g17, cs18, rfl, HX19, HK20⟩ := ptr_some HP0
  obtain ⟨Aq21_0, cpq21_0, Aq21_1, cpq21_1, Aq21_2, cpq21_2, Aq21_5, cpq21_5, Aq21_6, cpq21_6, rfl, HCq21_0, HRq21_0, HCq21_1, HRq21_1, HCq21_2, HRq21_2, HCq21_5, HRq21_5, HCq21_6, HRq21_6⟩ := k74_openF HK20
  replace HRq21_0 : Ft c [0] w (fun w_ => k78.C w_ Aq21_0 o15.f0.length o15.f0) := HRq21_0
  replace HRq21_1 : Ft c [0] w (fun w_ => (Kd.int .i64).C w_ Aq21_1 o15.f1.length o15.f1) := HRq21_1
  replace HRq21_2 : Ft c [0] w (fun w_ => (Kd.slice 3 (Kd.int .i64)).C w_ Aq21_2 o15.f2.length o15.f2) := HRq21_2
  replace HRq21_5 : Ft c [0] w (fun w_ => (Kd.int .i64).C w_ Aq21_5 o15.f5.length o15.f5) := HRq21_5
  replace HRq21_6 : Ft c [0] w (fun w_ => (Kd.int .i64).C w_ Aq21_6 o15.f6.length o15.f6) := HRq21_6
  refine st (.bool false) rfl rfl (xr_bin (.pointer (some ⟨g17, 0, none⟩)) (.pointer none) (.bool false) rfl rfl rfl (B.eql_pn ⟨_, Try.underlying24⟩ ⟨g17, 0, none⟩)) ?_
  refine wl_end ?_
  (try simp only [ls0, ls1])
  refine hK14 _ _ ?_
  (try clear hK14 K14)
  refine wp_cond_false rfl ?_
  refine wp_skip ?_
  (try simp only [ls0, ls1])
  refine hK13 _ _ ?_
  (try clear hK13 K13)
  refine wp_seq_k fun K22 hK22 => ?_
  refine wl_region ?_
  refine mv_ rfl ?_
  refine st (.pointer (some ⟨g17, 0, none⟩)) rfl rfl (xr_nilCheck _ rfl rfl) ?_
  refine st (.pointer (some ⟨g17, 1, none⟩)) rfl rfl (xr_fieldAddr _ _ rfl rfl (bx_field2 Try.underlying74 rfl rfl (by kernel_rfl))) ?_
  refine st (.slice Aq21_1 o15.f1.length cpq21_1) rfl rfl (xr_load _ _ rfl rfl (load_cell Try.underlying42 rfl (bx_cell (Ft.now HX19) 1 rfl))) ?_
  simp only [ls0, ls1]
  refine st (.int .i64 (o15.f1.length : Int)) rfl rfl (xr_builtin #[.slice Aq21_1 o15.f1.length cpq21_1] (.int .i64 (o15.f1.length : Int)) rfl (mp_ rfl) (by first | rfl | (go_simp; done) | (go_simp; rfl) | (go_simp; exact i64_w _) | (go_simp; exact i32_w _))) ?_
  refine as_ rfl ?_
  refine wl_end ?_
  (try simp only [ls0, ls1])
  refine hK22 _ _ ?_
  (try clear hK22 K22)
  refine wp_ret ?_
  (try simp only [Exit.inBlock, Exit.then, Exit.noGoto])
  (try simp only [ls0, ls1])
  obtain rfl := Option.some.inj H
  refine bodyPost_ret (results_tmp rfl _ _ _) rfl ?_
  exact ⟨_, rfl, HS⟩

/-! ### sync_atomic_Int64_Load -/
theorem atomic_load {g o : Nat} {w : World} {n : Int} (hc : w.cell? ⟨g, o, none⟩ = some (.int .i64 n)) :
    Calls Try.prog 45 #[.pointer (some ⟨g, o, none⟩)] w fun e w' => e = .returned (.int .i64 n) ∧ w = w' := by
  have hl := run_call_load (P := Try.prog) Try.func50 (by kernel_rfl) (by kernel_rfl) (by kernel_rfl) .i64 (by kernel_rfl) hc
  go_enter Try.func45, Try.ntmps45
  go_wp2
  go_ret
  exact ⟨rfl, rfl⟩

/-! ### maxflow_Net_Steps: function 24 -/
def maxflow_Net_Steps.f (x0 : Option S74) : Option (Int) := onOpt x0 (some 0) (fun o15 => (some o15.f7.f0))
set_option maxHeartbeats 8000000 in
set_option maxRecDepth 100000 in
theorem maxflow_Net_Steps.calls (v0 : Value) (x0 : Option S74) (r : Int) (c : Nat → Nat) (w : World) (hc : ∀ k, c k < 10) (HP0 : Ft c [0] w (fun w_ => (Kd.ptr 74 k74).K w_ x0 [v0])) (H : maxflow_Net_Steps.f x0 = some r) :
    Calls Try.prog 24 #[v0] w fun e w' => ∃ (c' : Nat → Nat) , e = .returned (.int .i64 r) ∧ Step c w c' w' [] := by
 unfold maxflow_Net_Steps.f at H
 have HS := Step.refl c w []
 go_enter Try.func24, Try.ntmps24
 refine wp_seq_k fun K12 hK12 => ?_
 refine wl_region ?_
 refine st (.int .i64 0) rfl rfl (xr_assign _ rfl rfl) ?_
 refine wl_end ?_
 (try simp only [ls0, ls1])
 refine hK12 _ _ ?_
 (try clear hK12 K12)
 refine wp_seq_k fun K13 hK13 => ?_
 refine wp_seq_k fun K14 hK14 => ?_
 refine wl_region ?_
 refine mv_ rfl ?_
 cases x0 with
 | none =>
  (try simp only [onOpt] at H)
  obtain rfl := ptr_none HP0
  refine st (.bool true) rfl rfl (xr_bin (.pointer none) (.pointer none) (.bool true) rfl rfl rfl (B.eql_nn ⟨_, Try.underlying24⟩ (⟨0, 0, none⟩ : Addr))) ?_
  refine wl_end ?_
  (try simp only [ls0, ls1])
  refine hK14 _ _ ?_
  (try clear hK14 K14)
  refine wp_cond_true rfl ?_
  refine wp_seq_k fun K16 hK16 => ?_
  refine wl_region ?_
  refine st (.int .i64 0) rfl rfl (xr_assign _ rfl rfl) ?_
  refine wl_end ?_
  (try simp only [ls0, ls1])
  refine hK16 _ _ ?_
  (try clear hK16 K16)
  refine wp_ret ?_
  (try simp only [Exit.inBlock, Exit.then, Exit.noGoto])
  (try simp only [ls0, ls1])
  obtain rfl := Option.some.inj H
  refine bodyPost_ret (results_tmp rfl _ _ _) rfl ?_
  exact ⟨_, rfl, HS⟩
 | some o15 =>
  (try simp only [onOpt] at H)
  obtain ⟨g17, cs18, rfl, HX19, HK20⟩ := ptr_some HP0
  obtain ⟨Aq21_0, cpq21_0, Aq21_1, cpq21_1, Aq21_2, cpq21_2, Aq21_5, cpq21_5, Aq21_6, cpq21_6, rfl, HCq21_0, HRq21_0, HCq21_1, HRq21_1, HCq21_2, HRq21_2, HCq21_5, HRq21_5, HCq21_6, HRq21_6⟩ := k74_openF HK20
  replace HRq21_0 : Ft c [0] w (fun w_ => k78.C w_ Aq21_0 o15.f0.length o15.f0) := HRq21_0
  replace HRq21_1 : Ft c [0] w (fun w_ => (Kd.int .i64).C w_ Aq21_1 o15.f1.length o15.f1) := HRq21_1
  replace HRq21_2 : Ft c [0] w (fun w_ => (Kd.slice 3 (Kd.int .i64)).C w_ Aq21_2 o15.f2.length o15.f2) := HRq21_2
  replace HRq21_5 : Ft c [0] w (fun w_ => (Kd.int .i64).C w_ Aq21_5 o15.f5.length o15.f5) := HRq21_5
  replace HRq21_6 : Ft c [0] w (fun w_ => (Kd.int .i64).C w_ Aq21_6 o15.f6.length o15.f6) := HRq21_6
  refine st (.bool false) rfl rfl (xr_bin (.pointer (some ⟨g17, 0, none⟩)) (.pointer none) (.bool false) rfl rfl rfl (B.eql_pn ⟨_, Try.underlying24⟩ ⟨g17, 0, none⟩)) ?_
  refine wl_end ?_
  (try simp only [ls0, ls1])
  refine hK14 _ _ ?_
  (try clear hK14 K14)
  refine wp_cond_false rfl ?_
  refine wp_skip ?_
  (try simp only [ls0, ls1])
  refine hK13 _ _ ?_
  (try clear hK13 K13)
  refine wp_seq_k fun K22 hK22 => ?_
  refine wl_region ?_
  refine mv_ rfl ?_
  refine st (.pointer (some ⟨g17, 0, none⟩)) rfl rfl (xr_nilCheck _ rfl rfl) ?_
  refine st (.pointer (some ⟨g17, 7, none⟩)) rfl rfl (xr_fieldAddr _ _ rfl rfl (bx_field2 Try.underlying74 rfl rfl (by kernel_rfl))) ?_
  refine st_call #[.pointer (some ⟨g17, 7, none⟩)] rfl rfl Try.func45 (by kernel_rfl) rfl rfl (mp_ rfl) ?_
  refine (atomic_load (n := o15.f7.f0) (bx_cell (l := [.slice Aq21_0 o15.f0.length cpq21_0, .slice Aq21_1 o15.f1.length cpq21_1, .slice Aq21_2 o15.f2.length cpq21_2, .int .i64 o15.f3, .bool o15.f4, .slice Aq21_5 o15.f5.length cpq21_5, .slice Aq21_6 o15.f6.length cpq21_6, .int .i64 o15.f7.f0]) (Ft.now HX19) 7 (at_get_ (pre := [.slice Aq21_0 o15.f0.length cpq21_0, .slice Aq21_1 o15.f1.length cpq21_1, .slice Aq21_2 o15.f2.length cpq21_2, .int .i64 o15.f3, .bool o15.f4, .slice Aq21_5 o15.f5.length cpq21_5, .slice Aq21_6 o15.f6.length cpq21_6]) (post := []) (by first | (simp only [List.append_assoc, List.cons_append, List.nil_append, List.append_nil]; done) | rfl) rfl))).mono ?_
  rintro _ _ ⟨rfl, rfl⟩
  refine ⟨_, rfl, ?_⟩
  (try simp only [ls0, ls1])
  refine as_ rfl ?_
  refine wl_end ?_
  (try simp only [ls0, ls1])
  refine hK22 _ _ ?_
  (try clear hK22 K22)
  refine wp_ret ?_
  (try simp only [Exit.inBlock, Exit.then, Exit.noGoto])
  (try simp only [ls0, ls1])
  obtain rfl := Option.some.inj H
  refine bodyPost_ret (results_tmp rfl _ _ _) rfl ?_
  exact ⟨_, rfl, HS⟩

/-! ### num_Add: function 43 -/
def num_Add.f (a0 : Int) (a1 : Int) : Option (Int × Int) := if (decide ((wrap64 (a0 + a1)) > a0)) = (decide (a1 > 0)) then (some (wrap64 (a0 + a1), 0)) else (some (0, 18))
set_option maxHeartbeats 8000000 in
set_option maxRecDepth 100000 in
theorem num_Add.calls (a0 : Int) (a1 : Int) (r1 : Int) (r2 : Int) (c : Nat → Nat) (w : World) (hc : ∀ k, c k < 10)  (H : num_Add.f a0 a1 = some (r1, r2)) :
    Calls Try.prog 43 #[.int .i64 a0, .int .i64 a1] w fun e w' => ∃ (c' : Nat → Nat) , e = .returned (.tuple #[.int .i64 r1, .int .i64 r2]) ∧ Step c w c' w' [] := by
 unfold num_Add.f at H
 have HS := Step.refl c w []
 go_enter Try.func43, Try.ntmps43
 refine wp_seq_k fun K8 hK8 => ?_
 refine wl_region ?_
 refine st (.int .i64 0) rfl rfl (xr_assign _ rfl rfl) ?_
 refine st (.int .i64 0) rfl rfl (xr_assign _ rfl rfl) ?_
 refine wl_end ?_
 (try simp only [ls0, ls1])
 refine hK8 _ _ ?_
 (try clear hK8 K8)
 refine wp_seq_k fun K9 hK9 => ?_
 refine wl_region ?_
 refine mv_ rfl ?_
 refine mv_ rfl ?_
 refine st (.int .i64 (wrap64 (a0 + a1))) rfl rfl (xr_bin _ _ _ rfl rfl rfl (B.add_i64 _ _)) ?_
 refine as_ rfl ?_
 simp only [ls0, ls1]
 refine wl_end ?_
 (try simp only [ls0, ls1])
 refine hK9 _ _ ?_
 (try clear hK9 K9)
 refine wp_seq_k fun K10 hK10 => ?_
 refine wp_seq_k fun K11 hK11 => ?_
 refine wl_region ?_
 refine mv_ rfl ?_
 refine mv_ rfl ?_
 refine st (.bool (decide ((wrap64 (a0 + a1)) > a0))) rfl rfl (xr_bin _ _ _ rfl rfl rfl (B.gtr_i64 _ _)) ?_
 refine mv_ rfl ?_
 simp only [ls0, ls1]
 refine st (.bool (decide (a1 > 0))) rfl rfl (xr_bin _ _ _ rfl rfl rfl (B.gtr_i64 _ _)) ?_
 refine st (.bool (!decide ((decide ((wrap64 (a0 + a1)) > a0)) = (decide (a1 > 0))))) rfl rfl (xr_bin _ _ _ rfl rfl rfl (B.neq_bool Try.underlying4 _ _)) ?_
 refine wl_end ?_
 (try simp only [ls0, ls1])
 refine hK11 _ _ ?_
 (try clear hK11 K11)
 by_cases c12 : (decide ((wrap64 (a0 + a1)) > a0)) = (decide (a1 > 0))
 ·rw [if_pos c12] at H
  (try rw [(decide_eq_true c12)])
  (try simp only [Bool.not_true, Bool.not_false])
  refine wp_cond_false rfl ?_
  refine wp_skip ?_
  (try simp only [ls0, ls1])
  refine hK10 _ _ ?_
  (try clear hK10 K10)
  refine wp_seq_k fun K13 hK13 => ?_
  refine wl_region ?_
  refine mv_ rfl ?_
  refine as_ rfl ?_
  refine st (.int .i64 0) rfl rfl (xr_assign _ rfl rfl) ?_
  refine wl_end ?_
  (try simp only [ls0, ls1])
  refine hK13 _ _ ?_
  (try clear hK13 K13)
  refine wp_ret ?_
  (try simp only [Exit.inBlock, Exit.then, Exit.noGoto])
  (try simp only [ls0, ls1])
  simp only [Option.some.injEq, Prod.mk.injEq] at H
  obtain ⟨rfl, rfl⟩ := H
  refine bodyPost_ret (results_tmp2 rfl _ _ _) rfl ?_
  exact ⟨_, rfl, HS⟩
 rw [if_neg c12] at H
 (try rw [(decide_eq_false c12)])
 (try simp only [Bool.not_true, Bool.not_false])
 refine wp_cond_true rfl ?_
 refine wp_seq_k fun K14 hK14 => ?_
 refine wl_region ?_
 refine st (.int .i64 0) rfl rfl (xr_assign _ rfl rfl) ?_
 refine st (.int .i64 18) rfl rfl (xr_assign _ rfl rfl) ?_
 refine wl_end ?_
 (try simp only [ls0, ls1])
 refine hK14 _ _ ?_
 (try clear hK14 K14)
 refine wp_ret ?_
 (try simp only [Exit.inBlock, Exit.then, Exit.noGoto])
 (try simp only [ls0, ls1])
 simp only [Option.some.injEq, Prod.mk.injEq] at H
 obtain ⟨rfl, rfl⟩ := H
 refine bodyPost_ret (results_tmp2 rfl _ _ _) rfl ?_
 exact ⟨_, rfl, HS⟩

/-! ### maxflow_Net_Add: function 21 -/
mutual
def maxflow_Net_Add.j0 : Nat → Bool → Int → Int → Int → Int → (List (S78)) → (List Int) → (List (List Int)) → (List Int) → (List Int) → Int → Option (Int × Int × (List (S78)) × List Int × (List (List Int)) × Int × Bool)
  | 0, _, _, _, _, _, _, _, _, _, _, _ => none
  | k + 1, a0_4, a0_7, a1, a2, a3, l0_0, l0_1, l0_2, l0_5, l0_6, x448 => if l0_1.length < 17592186044416 then ((some (l0_1 ++ [a3] : List Int)).bind fun y458 => ((some ([(⟨a2, a3⟩ : S78), (⟨a1, 0⟩ : S78)] : List (S78))).bind fun y471 => (if l0_0.length + y471.length < 8796093022208 then ((some (l0_0 ++ y471 : List (S78))).bind fun y482 => (if 0 ≤ a1 then (if a1 < (l0_2.length : Int) then (if (rd_L4 l0_2 a1).length < 17592186044416 then ((some ((rd_L4 l0_2 a1) ++ [wrap64 (2 * (l0_1.length : Int))] : List Int)).bind fun y511 => ((some (l0_2.set (a1 : Int).toNat y511 : List (List Int))).bind fun y521 => (if 0 ≤ a2 then (if a2 < (y521.length : Int) then (if (rd_L4 y521 a2).length < 17592186044416 then ((some ((rd_L4 y521 a2) ++ [wrap64 ((wrap64 (2 * (l0_1.length : Int))) + 1)] : List Int)).bind fun y544 => ((some (y521.set (a2 : Int).toNat y544 : List (List Int))).bind fun y554 => ((maxflow_Net_reset.f k y482 y458 y554 x448 a0_4 l0_5 l0_6 a0_7).bind fun bt561 => (some ((l0_1.length : Int), 0, bt561.1, y458, y554, x448, bt561.2))))) else (none)) else (none)) else (none)))) else (none)) else (none)) else (none))) else (none)))) else (none)
def maxflow_Net_Add.j1 : Nat → Int → Bool → Int → Int → Int → Int → (List (S78)) → (List Int) → (List (List Int)) → (List Int) → (List Int) → Int → Bool → Option (Int × Int × (List (S78)) × List Int × (List (List Int)) × Int × Bool)
  | 0, _, _, _, _, _, _, _, _, _, _, _, _, _ => none
  | k + 1, a0_3, a0_4, a0_7, a1, a2, a3, l0_0, l0_1, l0_2, l0_5, l0_6, t577, x591 => if x591 = true then (some (0, 18, l0_0, l0_1, l0_2, a0_3, a0_4)) else (maxflow_Net_Add.j0 k a0_4 a0_7 a1 a2 a3 l0_0 l0_1 l0_2 l0_5 l0_6 t577)
def maxflow_Net_Add.j2 : Nat → Int → Bool → Int → Int → Int → Int → (List (S78)) → (List Int) → (List (List Int)) → (List Int) → (List Int) → Bool → Option (Int × Int × (List (S78)) × List Int × (List (List Int)) × Int × Bool)
  | 0, _, _, _, _, _, _, _, _, _, _, _, _ => none
  | k + 1, a0_3, a0_4, a0_7, a1, a2, a3, l0_0, l0_1, l0_2, l0_5, l0_6, x391 => if x391 = true then (some (0, 1, l0_0, l0_1, l0_2, a0_3, a0_4)) else (if (l0_1.length : Int) = 1048576 then (some (0, 8, l0_0, l0_1, l0_2, a0_3, a0_4)) else (if a3 < 4611686018427387904 then ((num_Add.f a0_3 a3).bind fun bt577 => (if bt577.2 = 0 then (maxflow_Net_Add.j1 k a0_3 a0_4 a0_7 a1 a2 a3 l0_0 l0_1 l0_2 l0_5 l0_6 bt577.1 (decide (bt577.1 ≥ 4611686018427387904))) else (maxflow_Net_Add.j1 k a0_3 a0_4 a0_7 a1 a2 a3 l0_0 l0_1 l0_2 l0_5 l0_6 bt577.1 true))) else (maxflow_Net_Add.j0 k a0_4 a0_7 a1 a2 a3 l0_0 l0_1 l0_2 l0_5 l0_6 a0_3)))
end
def maxflow_Net_Add.f (k : Nat) (l0_0 : List (S78)) (l0_1 : List Int) (l0_2 : List (List Int)) (a0_3 : Int) (a0_4 : Bool) (l0_5 : List Int) (l0_6 : List Int) (a0_7 : Int) (a1 : Int) (a2 : Int) (a3 : Int) : Option (Int × Int × (List (S78)) × List Int × (List (List Int)) × Int × Bool) := (maxflow_Net_in.f (some (⟨l0_0, l0_1, l0_2, a0_3, a0_4, l0_5, l0_6, (⟨a0_7⟩ : S72)⟩ : S74) : Option S74) a1).bind fun t608 => (if t608 = true then ((maxflow_Net_in.f (some (⟨l0_0, l0_1, l0_2, a0_3, a0_4, l0_5, l0_6, (⟨a0_7⟩ : S72)⟩ : S74) : Option S74) a2).bind fun t616 => (if t616 = true then (if a1 = a2 then (maxflow_Net_Add.j2 k a0_3 a0_4 a0_7 a1 a2 a3 l0_0 l0_1 l0_2 l0_5 l0_6 true) else (if a3 < 0 then (maxflow_Net_Add.j2 k a0_3 a0_4 a0_7 a1 a2 a3 l0_0 l0_1 l0_2 l0_5 l0_6 true) else (maxflow_Net_Add.j2 k a0_3 a0_4 a0_7 a1 a2 a3 l0_0 l0_1 l0_2 l0_5 l0_6 (decide (a3 > 4611686018427387904))))) else (maxflow_Net_Add.j2 k a0_3 a0_4 a0_7 a1 a2 a3 l0_0 l0_1 l0_2 l0_5 l0_6 true))) else (maxflow_Net_Add.j2 k a0_3 a0_4 a0_7 a1 a2 a3 l0_0 l0_1 l0_2 l0_5 l0_6 true))

set_option maxHeartbeats 8000000 in
set_option maxRecDepth 100000 in
theorem maxflow_Net_Add.calls (k : Nat) (g0 : Nat) (A0_0 : Option Addr) (c0_0 : Nat) (l0_0 : List (S78)) (A0_1 : Option Addr) (c0_1 : Nat) (l0_1 : List Int) (A0_2 : Option Addr) (c0_2 : Nat) (l0_2 : List (List Int)) (a0_3 : Int) (a0_4 : Bool) (A0_5 : Option Addr) (c0_5 : Nat) (l0_5 : List Int) (A0_6 : Option Addr) (c0_6 : Nat) (l0_6 : List Int) (a0_7 : Int) (a1 : Int) (a2 : Int) (a3 : Int) (r1 : Int) (r2 : Int) (r3 : List (S78)) (r4 : List Int) (r5 : List (List Int)) (r6 : Int) (r7 : Bool) (c : Nat → Nat) (w : World) (hc : ∀ k, c k < 10) (HP0 : Bx c 1 w g0 74 ([.slice A0_0 l0_0.length c0_0, .slice A0_1 l0_1.length c0_1, .slice A0_2 l0_2.length c0_2, .int .i64 a0_3, .bool a0_4, .slice A0_5 l0_5.length c0_5, .slice A0_6 l0_6.length c0_6, .int .i64 a0_7])) (HP0_0 : Own c 3 w k78 78 (.slice A0_0 l0_0.length c0_0) l0_0) (HCP0_0 : l0_0.length ≤ c0_0) (HP0_1 : Own c 2 w (Kd.int .i64) 2 (.slice A0_1 l0_1.length c0_1) l0_1) (HCP0_1 : l0_1.length ≤ c0_1) (HP0_2 : RR c 4 w .i64 47 3 (.slice A0_2 l0_2.length c0_2) l0_2) (HCP0_2 : l0_2.length ≤ c0_2) (HP0_5 : Ft c [0] w (fun w_ => (Kd.int .i64).C w_ A0_5 l0_5.length l0_5)) (HCP0_5 : l0_5.length ≤ c0_5) (HP0_6 : Ft c [0] w (fun w_ => (Kd.int .i64).C w_ A0_6 l0_6.length l0_6)) (HCP0_6 : l0_6.length ≤ c0_6) (H : maxflow_Net_Add.f k l0_0 l0_1 l0_2 a0_3 a0_4 l0_5 l0_6 a0_7 a1 a2 a3 = some (r1, r2, r3, r4, r5, r6, r7)) :
    Calls Try.prog 21 #[.pointer (some ⟨g0, 0, none⟩), .int .i64 a1, .int .i64 a2, .int .i64 a3] w fun e w' => ∃ (c' : Nat → Nat) (A_r3 : Option Addr) (c_r3 : Nat) (A_r4 : Option Addr) (c_r4 : Nat) (A_r5 : Option Addr) (c_r5 : Nat), e = .returned (.tuple #[.int .i64 r1, .int .i64 r2]) ∧ Step c w c' w' [1, 2, 3, 4] ∧ Own c' 3 w' k78 78 (.slice A_r3 r3.length c_r3) r3 ∧ r3.length ≤ c_r3 ∧ Own c' 2 w' (Kd.int .i64) 2 (.slice A_r4 r4.length c_r4) r4 ∧ r4.length ≤ c_r4 ∧ RR c' 4 w' .i64 47 3 (.slice A_r5 r5.length c_r5) r5 ∧ r5.length ≤ c_r5 ∧ Bx c' 1 w' g0 74 ([.slice A_r3 r3.length c_r3, .slice A_r4 r4.length c_r4, .slice A_r5 r5.length c_r5, .int .i64 r6, .bool r7, .slice A0_5 l0_5.length c0_5, .slice A0_6 l0_6.length c0_6, .int .i64 a0_7]) := by
 unfold maxflow_Net_Add.f at H
 have HS := Step.refl c w [1, 2, 3, 4]
 go_enter Try.func21, Try.ntmps21
 refine wp_seq_k fun K313 hK313 => ?_
 refine wl_region ?_
 refine st (.int .i64 0) rfl rfl (xr_assign _ rfl rfl) ?_
 refine st (.int .i64 0) rfl rfl (xr_assign _ rfl rfl) ?_
 refine wl_end ?_
 (try simp only [ls0, ls1])
 refine hK313 _ _ ?_
 (try clear hK313 K313)
 refine wp_seq_k fun K314 hK314 => ?_
 refine wp_seq_k fun K368 hK368 => ?_
 have hj387 : ∀ (kq398 : Nat) (C388 : Nat → Nat) (w389 : World) (x391 : Bool) (g_ : Nat → Value), Step c w C388 w389 [1, 2, 3, 4] → kq398 ≤ k → (Own C388 3 w389 k78 78 (.slice A0_0 l0_0.length c0_0) l0_0) → (Own C388 2 w389 (Kd.int .i64) 2 (.slice A0_1 l0_1.length c0_1) l0_1) → (RR C388 4 w389 .i64 47 3 (.slice A0_2 l0_2.length c0_2) l0_2) → (Ft C388 [0] w389 (fun w_ => (Kd.int .i64).C w_ A0_5 l0_5.length l0_5)) → (Ft C388 [0] w389 (fun w_ => (Kd.int .i64).C w_ A0_6 l0_6.length l0_6)) → (Bx C388 1 w389 g0 74 ([.slice A0_0 l0_0.length c0_0, .slice A0_1 l0_1.length c0_1, .slice A0_2 l0_2.length c0_2, .int .i64 a0_3, .bool a0_4, .slice A0_5 l0_5.length c0_5, .slice A0_6 l0_6.length c0_6, .int .i64 a0_7])) → maxflow_Net_Add.j2 kq398 a0_3 a0_4 a0_7 a1 a2 a3 l0_0 l0_1 l0_2 l0_5 l0_6 x391 = some (r1, r2, r3, r4, r5, r6, r7) → K368 ⟨#[.pointer (some ⟨g0, 0, none⟩), .int .i64 a1, .int .i64 a2, .int .i64 a3, (g_ 4), (g_ 5), (g_ 6), (g_ 7), (g_ 8), (g_ 9), (g_ 10), (g_ 11), (g_ 12), (g_ 13), (g_ 14), (g_ 15), (g_ 16), (g_ 17), (g_ 18), (g_ 19), (g_ 20), (g_ 21), (g_ 22), (g_ 23), (g_ 24), (g_ 25), (g_ 26), (g_ 27), (g_ 28), (g_ 29), (g_ 30), (g_ 31), (g_ 32), (g_ 33), .bool x391, (g_ 35), (g_ 36), (g_ 37), (g_ 38), (g_ 39), (g_ 40), (g_ 41), (g_ 42), (g_ 43), (g_ 44), (g_ 45), (g_ 46), (g_ 47), (g_ 48), (g_ 49), (g_ 50), (g_ 51), (g_ 52), (g_ 53), (g_ 54), (g_ 55), (g_ 56), (g_ 57), (g_ 58), (g_ 59), (g_ 60), (g_ 61), (g_ 62), (g_ 63), (g_ 64), (g_ 65), (g_ 66), (g_ 67), (g_ 68), (g_ 69), (g_ 70), (g_ 71), (g_ 72), (g_ 73), (g_ 74), (g_ 75), (g_ 76), (g_ 77), (g_ 78), (g_ 79), (g_ 80), (g_ 81), (g_ 82), (g_ 83), (g_ 84), (g_ 85), (g_ 86), (g_ 87), (g_ 88), (g_ 89), (g_ 90), (g_ 91), (g_ 92), (g_ 93), (g_ 94), (g_ 95), (g_ 96), (g_ 97), (g_ 98), (g_ 99), (g_ 100), (g_ 101), (g_ 102), (g_ 103), (g_ 104), (g_ 105), (g_ 106), (g_ 107), (g_ 108), (g_ 109), (g_ 110), (g_ 111), (g_ 112), (g_ 113), (g_ 114), (g_ 115), (g_ 116), (g_ 117), (g_ 118), (g_ 119), (g_ 120), (g_ 121), (g_ 122), (g_ 123), (g_ 124), (g_ 125), (g_ 126), (g_ 127), (g_ 128)], []⟩ w389 := by
  intro kq398 C388 w389 x391 g_ HS390 hk399 HJ392 HJ393 HJ394 HJ395 HJ396 HJ397 H
  cases kq398 with
  | zero => exact absurd H (by simp [maxflow_Net_Add.j2])
  | succ k400 =>
   simp only [maxflow_Net_Add.j2] at H
   refine hK368 _ _ ?_
   (try clear hK368)
   by_cases c401 : x391 = true
   ·rw [if_pos c401] at H
    (try rw [c401])
    refine wp_cond_true rfl ?_
    refine wp_seq_k fun K402 hK402 => ?_
    refine wl_region ?_
    refine st (.int .i64 0) rfl rfl (xr_assign _ rfl rfl) ?_
    simp only [ls0, ls1]
    refine st (.int .i64 1) rfl rfl (xr_assign _ rfl rfl) ?_
    refine wl_end ?_
    (try simp only [ls0, ls1])
    refine hK402 _ _ ?_
    (try clear hK402 K402)
    refine wp_ret ?_
    (try simp only [Exit.inBlock, Exit.then, Exit.noGoto])
    (try simp only [ls0, ls1])
    simp only [Option.some.injEq, Prod.mk.injEq] at H
    obtain ⟨rfl, rfl, rfl, rfl, rfl, rfl, rfl⟩ := H
    refine bodyPost_ret (results_tmp2 rfl _ _ _) rfl ?_
    exact ⟨_, A0_0, c0_0, A0_1, c0_1, A0_2, c0_2, rfl, HS390, HJ392, HCP0_0, HJ393, HCP0_1, HJ394, HCP0_2, HJ397⟩
   rw [if_neg c401] at H
   (try rw [(Bool.eq_false_iff.mpr c401)])
   refine wp_cond_false rfl ?_
   refine wp_skip ?_
   (try simp only [ls0, ls1])
   refine hK314 _ _ ?_
   (try clear hK314 K314)
   refine wp_seq_k fun K403 hK403 => ?_
   refine wp_seq_k fun K404 hK404 => ?_
   refine wl_region ?_
   refine mv_ rfl ?_
   refine st (.pointer (some ⟨g0, 0, none⟩)) rfl rfl (xr_nilCheck _ rfl rfl) ?_
   refine st (.pointer (some ⟨g0, 1, none⟩)) rfl rfl (xr_fieldAddr _ _ rfl rfl (bx_field2 Try.underlying74 rfl rfl (by kernel_rfl))) ?_
   refine st (.slice A0_1 l0_1.length c0_1) rfl rfl (xr_load _ _ rfl rfl (load_cell Try.underlying42 rfl (bx_cell (HJ397).2 1 rfl))) ?_
   simp only [ls0, ls1]
   refine st (.int .i64 (l0_1.length : Int)) rfl rfl (xr_builtin #[.slice A0_1 l0_1.length c0_1] (.int .i64 (l0_1.length : Int)) rfl (mp_ rfl) (by first | rfl | (go_simp; done) | (go_simp; rfl) | (go_simp; exact i64_w _) | (go_simp; exact i32_w _))) ?_
   refine st (.bool (decide ((l0_1.length : Int) = 1048576))) rfl rfl (xr_bin _ _ _ rfl rfl rfl (B.eql_i64 _ _)) ?_
   refine wl_end ?_
   (try simp only [ls0, ls1])
   refine hK404 _ _ ?_
   (try clear hK404 K404)
   by_cases c405 : (l0_1.length : Int) = 1048576
   ·rw [if_pos c405] at H
    (try rw [(decide_eq_true c405)])
    refine wp_cond_true rfl ?_
    refine wp_seq_k fun K406 hK406 => ?_
    refine wl_region ?_
    refine st (.int .i64 0) rfl rfl (xr_assign _ rfl rfl) ?_
    refine st (.int .i64 8) rfl rfl (xr_assign _ rfl rfl) ?_
    refine wl_end ?_
    (try simp only [ls0, ls1])
    refine hK406 _ _ ?_
    (try clear hK406 K406)
    refine wp_ret ?_
    (try simp only [Exit.inBlock, Exit.then, Exit.noGoto])
    (try simp only [ls0, ls1])
    simp only [Option.some.injEq, Prod.mk.injEq] at H
    obtain ⟨rfl, rfl, rfl, rfl, rfl, rfl, rfl⟩ := H
    refine bodyPost_ret (results_tmp2 rfl _ _ _) rfl ?_
    exact ⟨_, A0_0, c0_0, A0_1, c0_1, A0_2, c0_2, rfl, HS390, HJ392, HCP0_0, HJ393, HCP0_1, HJ394, HCP0_2, HJ397⟩
   rw [if_neg c405] at H
   (try rw [(decide_eq_false c405)])
   refine wp_cond_false rfl ?_
   refine wp_skip ?_
   (try simp only [ls0, ls1])
   refine hK403 _ _ ?_
   (try clear hK403 K403)
   refine wp_seq_k fun K407 hK407 => ?_
   have hj441 : ∀ (kq452 : Nat) (C442 : Nat → Nat) (w443 : World) (x448 : Int) (g_ : Nat → Value), Step c w C442 w443 [1, 2, 3, 4] → kq452 ≤ k400 → (Own C442 3 w443 k78 78 (.slice A0_0 l0_0.length c0_0) l0_0) → (Own C442 2 w443 (Kd.int .i64) 2 (.slice A0_1 l0_1.length c0_1) l0_1) → (RR C442 4 w443 .i64 47 3 (.slice A0_2 l0_2.length c0_2) l0_2) → (Ft C442 [0] w443 (fun w_ => (Kd.int .i64).C w_ A0_5 l0_5.length l0_5)) → (Ft C442 [0] w443 (fun w_ => (Kd.int .i64).C w_ A0_6 l0_6.length l0_6)) → (Bx C442 1 w443 g0 74 ([.slice A0_0 l0_0.length c0_0, .slice A0_1 l0_1.length c0_1, .slice A0_2 l0_2.length c0_2, .int .i64 x448, .bool a0_4, .slice A0_5 l0_5.length c0_5, .slice A0_6 l0_6.length c0_6, .int .i64 a0_7])) → maxflow_Net_Add.j0 kq452 a0_4 a0_7 a1 a2 a3 l0_0 l0_1 l0_2 l0_5 l0_6 x448 = some (r1, r2, r3, r4, r5, r6, r7) → K407 ⟨#[.pointer (some ⟨g0, 0, none⟩), .int .i64 a1, .int .i64 a2, .int .i64 a3, (g_ 4), (g_ 5), (g_ 6), (g_ 7), (g_ 8), (g_ 9), (g_ 10), (g_ 11), (g_ 12), (g_ 13), (g_ 14), (g_ 15), (g_ 16), (g_ 17), (g_ 18), (g_ 19), (g_ 20), (g_ 21), (g_ 22), (g_ 23), (g_ 24), (g_ 25), (g_ 26), (g_ 27), (g_ 28), (g_ 29), (g_ 30), (g_ 31), (g_ 32), (g_ 33), (g_ 34), (g_ 35), (g_ 36), (g_ 37), (g_ 38), (g_ 39), (g_ 40), (g_ 41), (g_ 42), (g_ 43), (g_ 44), (g_ 45), (g_ 46), (g_ 47), (g_ 48), (g_ 49), (g_ 50), (g_ 51), (g_ 52), (g_ 53), (g_ 54), (g_ 55), (g_ 56), (g_ 57), (g_ 58), (g_ 59), (g_ 60), (g_ 61), (g_ 62), (g_ 63), (g_ 64), (g_ 65), (g_ 66), (g_ 67), (g_ 68), (g_ 69), (g_ 70), (g_ 71), (g_ 72), (g_ 73), (g_ 74), (g_ 75), (g_ 76), (g_ 77), (g_ 78), (g_ 79), (g_ 80), (g_ 81), (g_ 82), (g_ 83), (g_ 84), (g_ 85), (g_ 86), (g_ 87), (g_ 88), (g_ 89), (g_ 90), (g_ 91), (g_ 92), (g_ 93), (g_ 94), (g_ 95), (g_ 96), (g_ 97), (g_ 98), (g_ 99), (g_ 100), (g_ 101), (g_ 102), (g_ 103), (g_ 104), (g_ 105), (g_ 106), (g_ 107), (g_ 108), (g_ 109), (g_ 110), (g_ 111), (g_ 112), (g_ 113), (g_ 114), (g_ 115), (g_ 116), (g_ 117), (g_ 118), (g_ 119), (g_ 120), (g_ 121), (g_ 122), (g_ 123), (g_ 124), (g_ 125), (g_ 126), (g_ 127), (g_ 128)], []⟩ w443 := by
    intro kq452 C442 w443 x448 g_ HS444 hk453 HJ445 HJ446 HJ447 HJ449 HJ450 HJ451 H
    cases kq452 with
    | zero => exact absurd H (by simp [maxflow_Net_Add.j0])
    | succ k454 =>
     simp only [maxflow_Net_Add.j0] at H
     refine hK407 _ _ ?_
     (try clear hK407)
     refine wp_seq_k fun K455 hK455 => ?_
     refine wl_region ?_
     refine mv_ rfl ?_
     refine st (.pointer (some ⟨g0, 0, none⟩)) rfl rfl (xr_nilCheck _ rfl rfl) ?_
     refine st (.pointer (some ⟨g0, 1, none⟩)) rfl rfl (xr_fieldAddr _ _ rfl rfl (bx_field2 Try.underlying74 rfl rfl (by kernel_rfl))) ?_
     refine st (.slice A0_1 l0_1.length c0_1) rfl rfl (xr_load _ _ rfl rfl (load_cell Try.underlying42 rfl (bx_cell (HJ451).2 1 rfl))) ?_
     simp only [ls0, ls1]
     refine st (.int .i64 (l0_1.length : Int)) rfl rfl (xr_builtin #[.slice A0_1 l0_1.length c0_1] (.int .i64 (l0_1.length : Int)) rfl (mp_ rfl) (by first | rfl | (go_simp; done) | (go_simp; rfl) | (go_simp; exact i64_w _) | (go_simp; exact i32_w _))) ?_
     refine as_ rfl ?_
     refine wl_end ?_
     (try simp only [ls0, ls1])
     refine hK455 _ _ ?_
     (try clear hK455 K455)
     refine wp_seq_k fun K456 hK456 => ?_
     refine wl_region ?_
     refine mv_ rfl ?_
     refine mv_ rfl ?_
     refine st (.pointer (some ⟨g0, 0, none⟩)) rfl rfl (xr_nilCheck _ rfl rfl) ?_
     refine st (.pointer (some ⟨g0, 1, none⟩)) rfl rfl (xr_fieldAddr _ _ rfl rfl (bx_field2 Try.underlying74 rfl rfl (by kernel_rfl))) ?_
     simp only [ls0, ls1]
     refine st (.slice A0_1 l0_1.length c0_1) rfl rfl (xr_load _ _ rfl rfl (load_cell Try.underlying42 rfl (bx_cell (HJ451).2 1 rfl))) ?_
     refine mv_ rfl ?_
     refine ev_run (w1 := w443.alloc (.cells #[.int .i64 a3] 2)) (.slice (some ⟨w443.heap.size, 0, none⟩) 1 1) rfl rfl (by first | (go_simp; done) | (go_simp; rfl)) ?_
     (try simp only [Act.put, List.setIfInBounds_toArray, ls0, ls1])
     obtain ⟨c457, H⟩ := if_some H
     obtain ⟨y458, A459, H⟩ := bnd H
     refine Own.append (Kd.int .i64) (C := C442) (i := 2) rfl (.tmp 71) (.tmp 73) 42 2 (.int .i64 0) 8 rfl Try.underlying42 info2 rfl (by decide) (by decide) (.slice A0_1 l0_1.length c0_1) l0_1 a3 [.int .i64 a3] rfl rfl (fk_int .i64 _ _ a3) HJ446 (by decide) (by omega) (Option.some.inj A459) ?_
     intro A460 cp461 w462 C463 HO464 HC465 hs466
     replace HJ451 := HJ451.thru hs466 rfl
     replace HJ445 := HJ445.thru hs466 rfl
     replace HJ447 := HJ447.thru hs466 rfl
     replace HJ449 := HJ449.thru hs466 rfl
     replace HJ450 := HJ450.thru hs466 rfl
     replace HS444 := HS444.trans hs466 hc rfl
     (try simp only [Act.put, List.setIfInBounds_toArray, ls0, ls1])
     refine st (.pointer (some ⟨g0, 0, none⟩)) rfl rfl (xr_nilCheck _ rfl rfl) ?_
     refine st (.pointer (some ⟨g0, 1, none⟩)) rfl rfl (xr_fieldAddr _ _ rfl rfl (bx_field2 Try.underlying74 rfl rfl (by kernel_rfl))) ?_
     refine bx_store (C := C463) (z := 1) (g := g0) (j := 1) (tb := 74) (u := .slice A460 y458.length cp461) (seg := [.slice A460 y458.length cp461]) (xs := [.slice A0_0 l0_0.length c0_0, .slice A0_1 l0_1.length c0_1, .slice A0_2 l0_2.length c0_2, .int .i64 x448, .bool a0_4, .slice A0_5 l0_5.length c0_5, .slice A0_6 l0_6.length c0_6, .int .i64 a0_7]) rfl rfl rfl rfl rfl rfl (by first | kernel_rfl | rfl) (by simp [Value.oneCell']) HJ451 (by simp only [List.length_cons, List.length_nil]; omega) rfl ?_
     intro w467 HX468 hs469
     replace HJ445 := HJ445.thru hs469 rfl
     replace HO464 := HO464.thru hs469 rfl
     replace HJ447 := HJ447.thru hs469 rfl
     replace HJ449 := HJ449.thru hs469 rfl
     replace HJ450 := HJ450.thru hs469 rfl
     replace HS444 := HS444.trans hs469 hc rfl
     (try simp only [Act.put, List.setIfInBounds_toArray, ls0, ls1])
     refine wl_end ?_
     (try simp only [ls0, ls1])
     refine hK456 _ _ ?_
     (try clear hK456 K456)
     refine wp_seq_k fun K470 hK470 => ?_
     refine wl_region ?_
     refine mv_ rfl ?_
     refine mv_ rfl ?_
     refine st (.pointer (some ⟨g0, 0, none⟩)) rfl rfl (xr_nilCheck _ rfl rfl) ?_
     refine st (.pointer (some ⟨g0, 0, none⟩)) rfl rfl (xr_fieldAddr _ _ rfl rfl (bx_field2 Try.underlying74 rfl rfl (by kernel_rfl))) ?_
     simp only [ls0, ls1]
     refine st (.slice A0_0 l0_0.length c0_0) rfl rfl (xr_load _ _ rfl rfl (load_cell Try.underlying67 rfl (bx_cell (HX468).2 0 rfl))) ?_
     refine mv_ rfl ?_
     refine mv_ rfl ?_
     refine st (.agg #[.int .i64 a2, .int .i64 a3]) rfl rfl (xr_build #[(0, .int .i64 a2), (1, .int .i64 a3)] (.agg #[.int .i64 a2, .int .i64 a3]) rfl (mp_ rfl) (by first | rfl | (go_simp; done) | (go_simp; rfl) | (go_simp; exact i64_w _) | (go_simp; exact i32_w _))) ?_
     simp only [ls0, ls1]
     refine mv_ rfl ?_
     refine st (.agg #[.int .i64 a1, .int .i64 0]) rfl rfl (xr_build #[(0, .int .i64 a1), (1, .int .i64 0)] (.agg #[.int .i64 a1, .int .i64 0]) rfl (mp_ rfl) (by first | rfl | (go_simp; done) | (go_simp; rfl) | (go_simp; exact i64_w _) | (go_simp; exact i32_w _))) ?_
     obtain ⟨y471, A472, H⟩ := bnd H
     refine Own.lit k78 (C := C463) (i := 11) rfl 78 rfl (xs := [(⟨a2, a3⟩ : S78), (⟨a1, 0⟩ : S78)]) (inner := [.int .i64 a2, .int .i64 a3, .int .i64 a1, .int .i64 0]) (by first | (go_simp; done) | (go_simp; rfl)) (reps_cons (k78_mkF _ _ (⟨a2, a3⟩ : S78)) rfl (reps_cons (k78_mkF _ _ (⟨a1, 0⟩ : S78)) rfl (Reps.none _ _))) (by simp only [List.length_cons, List.length_nil]; omega) (Option.some.inj A472) ?_
     intro A473 cp474 w475 C476 HO477 HC478 hs479
     replace HX468 := HX468.thru hs479 rfl
     replace HJ445 := HJ445.thru hs479 rfl
     replace HO464 := HO464.thru hs479 rfl
     replace HJ447 := HJ447.thru hs479 rfl
     replace HJ449 := HJ449.thru hs479 rfl
     replace HJ450 := HJ450.thru hs479 rfl
     replace HS444 := HS444.trans hs479 hc rfl
     (try simp only [Act.put, List.setIfInBounds_toArray, ls0, ls1])
     replace HX468 := Bx.recol (a := 11) (b := 0) HX468 (by decide)
     replace HJ445 := Own.recol (a := 11) (b := 0) HJ445 (by decide) (by decide)
     replace HO464 := Own.recol (a := 11) (b := 0) HO464 (by decide) (by decide)
     replace HJ447 := RR.recol (a := 11) (b := 0) HJ447 (by decide) (by decide)
     replace HJ449 := Ft.recol (a := 11) (b := 0) HJ449 (.inl rfl)
     replace HJ450 := Ft.recol (a := 11) (b := 0) HJ450 (.inl rfl)
     have HR480 := Ft.recolor (a := 11) (b := 0) (HO477.ft) [0] rfl
     replace HS444 := Step.recol (a := 11) (b := 0) HS444 hc (by decide)
     obtain ⟨c481, H⟩ := if_some H
     obtain ⟨y482, A483, H⟩ := bnd H
     refine Own.append_rows k78 (C := (recol C476 11 0)) (i := 3) rfl (.tmp 81) (.tmp 87) 67 78 (.agg #[(.int .i64 0), (.int .i64 0)]) 16 rfl Try.underlying67 info78 rfl (by decide) (by decide) (.slice A0_0 l0_0.length c0_0) l0_0 y471 A473 y471.length cp474 rfl rfl HJ445 HR480 (by decide) (by omega) (Option.some.inj A483) ?_
     intro A484 cp485 w486 C487 HO488 HC489 hs490
     replace HX468 := HX468.thru hs490 rfl
     replace HO464 := HO464.thru hs490 rfl
     replace HJ447 := HJ447.thru hs490 rfl
     replace HJ449 := HJ449.thru hs490 rfl
     replace HJ450 := HJ450.thru hs490 rfl
     replace HS444 := HS444.trans hs490 hc rfl
     (try simp only [Act.put, List.setIfInBounds_toArray, ls0, ls1])
     refine st (.pointer (some ⟨g0, 0, none⟩)) rfl rfl (xr_nilCheck _ rfl rfl) ?_
     refine st (.pointer (some ⟨g0, 0, none⟩)) rfl rfl (xr_fieldAddr _ _ rfl rfl (bx_field2 Try.underlying74 rfl rfl (by kernel_rfl))) ?_
     refine bx_store (C := C487) (z := 1) (g := g0) (j := 0) (tb := 74) (u := .slice A484 y482.length cp485) (seg := [.slice A484 y482.length cp485]) (xs := [.slice A0_0 l0_0.length c0_0, .slice A460 y458.length cp461, .slice A0_2 l0_2.length c0_2, .int .i64 x448, .bool a0_4, .slice A0_5 l0_5.length c0_5, .slice A0_6 l0_6.length c0_6, .int .i64 a0_7]) rfl rfl rfl rfl rfl rfl (by first | kernel_rfl | rfl) (by simp [Value.oneCell']) HX468 (by simp only [List.length_cons, List.length_nil]; omega) rfl ?_
     intro w491 HX492 hs493
     replace HO488 := HO488.thru hs493 rfl
     replace HO464 := HO464.thru hs493 rfl
     replace HJ447 := HJ447.thru hs493 rfl
     replace HJ449 := HJ449.thru hs493 rfl
     replace HJ450 := HJ450.thru hs493 rfl
     replace HS444 := HS444.trans hs493 hc rfl
     (try simp only [Act.put, List.setIfInBounds_toArray, ls0, ls1])
     refine wl_end ?_
     (try simp only [ls0, ls1])
     refine hK470 _ _ ?_
     (try clear hK470 K470)
     refine wp_seq_k fun K494 hK494 => ?_
     obtain ⟨g495, vs496, hA497, HB498, hle499, HI500, hm501⟩ := HJ447.open_
     (try simp only [ls0, ls1])
     refine al_start (lb 18 0) rfl rfl rfl (fun w_ => w_.heap[g0]? = some (.cells (List.toArray ([.slice A484 y482.length cp485, .slice A460 y458.length cp461, .slice A0_2 l0_2.length c0_2, .int .i64 x448, .bool a0_4, .slice A0_5 l0_5.length c0_5, .slice A0_6 l0_6.length c0_6, .int .i64 a0_7])) 74 (0, 0)) ∧ w_.heap[g495]? = some (.cells (List.toArray (vs496)) 47 (0, 0))) ⟨(HX492.drew).2, (HB498.drew).2⟩ [17] ?_
     replace HX492 := HX492.drew
     replace HO488 := HO488.drew
     replace HO464 := HO464.drew
     replace HJ447 := HJ447.drew
     replace HJ449 := HJ449.drew
     replace HJ450 := HJ450.drew
     replace HB498 := HB498.drew
     replace HI500 := RRin.drew HI500
     replace HS444 := Step.ofDrew HS444
     generalize w491.drew = w502 at *
     refine al_mv 0 (lb 18 1) rfl rfl (by kernel_rfl) (fun _ _ _ => id) rfl ?_
     refine al_pure 1 92 (.pointer (some ⟨g0, 0, none⟩)) (lb 18 3) rfl rfl (by kernel_rfl) (fun _ _ _ => id) rfl (fun w_ => xr_nilCheck _ rfl rfl) ?_
     refine al_pure 2 93 (.pointer (some ⟨g0, 2, none⟩)) (lb 18 7) rfl rfl (by kernel_rfl) (fun _ _ _ => id) rfl (fun w_ => xr_fieldAddr _ _ rfl rfl (bx_field2 Try.underlying74 rfl rfl (by kernel_rfl))) ?_
     refine al_mv 4 (lb 18 23) rfl rfl (by kernel_rfl) (fun _ _ _ => id) rfl ?_
     simp only [ls0, ls1]
     refine al_mv 5 (lb 18 55) rfl rfl (by kernel_rfl) (fun _ _ _ => id) rfl ?_
     refine al_pure 6 97 (.pointer (some ⟨g0, 0, none⟩)) (lb 18 119) rfl rfl (by kernel_rfl) (fun _ _ _ => id) rfl (fun w_ => xr_nilCheck _ rfl rfl) ?_
     refine al_pure 7 98 (.pointer (some ⟨g0, 2, none⟩)) (lb 18 247) rfl rfl (by kernel_rfl) (fun _ _ _ => id) rfl (fun w_ => xr_fieldAddr _ _ rfl rfl (bx_field2 Try.underlying74 rfl rfl (by kernel_rfl))) ?_
     refine al_mv 9 (lb 18 759) rfl rfl (by kernel_rfl) (fun _ _ _ => id) rfl ?_
     simp only [ls0, ls1]
     refine al_mv 12 (lb 18 4855) rfl rfl (by kernel_rfl) (fun _ _ _ => id) rfl ?_
     refine al_pure 13 104 (.int .i64 (wrap64 (2 * (l0_1.length : Int)))) (lb 18 13047) rfl rfl (by kernel_rfl) (fun _ _ _ => id) rfl (fun w_ => xr_bin _ _ _ rfl rfl rfl (B.mul_i64 _ _)) ?_
     refine al_take 3 94 (.slice A0_2 l0_2.length c0_2) (lb 18 13055) rfl rfl (by kernel_rfl) (fun _ _ _ => id) rfl (fun w_ hS_ => xr_load _ _ rfl rfl (load_cell Try.underlying66 rfl (bx_cell hS_.1 2 rfl))) ⟨(HX492).2, (HB498).2⟩ ?_
     refine al_take 8 99 (.slice A0_2 l0_2.length c0_2) (lb 18 13311) rfl rfl (by kernel_rfl) (fun _ _ _ => id) rfl (fun w_ hS_ => xr_load _ _ rfl rfl (load_cell Try.underlying66 rfl (bx_cell hS_.1 2 rfl))) ⟨(HX492).2, (HB498).2⟩ ?_
     simp only [ls0, ls1]
     obtain ⟨c503, H⟩ := if_some H
     obtain ⟨c504, H⟩ := if_some H
     refine al_pure 10 101 (.pointer (some ((⟨g495, 0, none⟩ : Addr).add ((a1 : Int).toNat * 1)))) (lb 18 14335) rfl rfl (by kernel_rfl) (fun _ _ _ => id) rfl (fun w_ => xr_indexAddr _ _ _ rfl rfl rfl (index_at Try.underlying66 info47 hA497 (by first | assumption | decide | omega) (by first | assumption | decide | omega))) ?_
     obtain ⟨A505, cp506, hv507, HO508, HC509⟩ : ∃ A_ c_, vs496[(a1 : Int).toNat]? = some (.slice A_ (rd_L4 l0_2 a1).length c_) ∧ OwnG false C487 4 w502 .i64 3 (.slice A_ (rd_L4 l0_2 a1).length c_) (rd_L4 l0_2 a1) ∧ (rd_L4 l0_2 a1).length ≤ c_ := RRin.get HI500 hle499 (by first | assumption | decide | omega) (by first | assumption | decide | omega)
     refine al_take 11 102 (.slice A505 (rd_L4 l0_2 a1).length cp506) (lb 18 16383) rfl rfl (by kernel_rfl) (fun _ _ _ => id) rfl (fun w_ hS_ => xr_load _ _ rfl rfl (load_cell Try.underlying47 rfl (rr_cell hS_.2 hv507))) ⟨(HX492).2, (HB498).2⟩ ?_
     refine al_one 14 (lb 18 32767) rfl rfl (by kernel_rfl) rfl (fun K_ hK_ => ?_)
     refine value_ (w1 := w502.alloc (.cells #[.int .i64 (wrap64 (2 * (l0_1.length : Int)))] 3)) (v := .slice (some ⟨w502.heap.size, 0, none⟩) 1 1) rfl rfl (by first | (go_simp; done) | (go_simp; rfl)) ?_
     refine hK_ _ _ ⟨(HX492.alloc _).2, (HB498.alloc _).2⟩ ?_
     clear hK_ K_
     (try simp only [Act.put, List.setIfInBounds_toArray, ls0, ls1])
     obtain ⟨c510, H⟩ := if_some H
     obtain ⟨y511, A512, H⟩ := bnd H
     refine al_one 15 (lb 18 65535) rfl rfl (by kernel_rfl) rfl (fun K_ hK_ => ?_)
     refine rr_append_step (C := C487) (z := 4) rfl (.tmp 102) (.tmp 105) 47 3 8 rfl Try.underlying47 info3 (by decide) (.slice A505 (rd_L4 l0_2 a1).length cp506) (a1 : Int).toNat (rd_L4 l0_2 a1) (wrap64 (2 * (l0_1.length : Int))) rfl rfl HB498 HI500 hv507 (rr_row (by first | assumption | decide | omega) (by first | assumption | decide | omega)) (by decide) (by omega) (Option.some.inj A512) ?_
     intro A513 cp514 w515 C516 HB517 HH518 HC519 hs520
     replace HX492 := HX492.thru hs520 rfl
     replace HO488 := HO488.thru hs520 rfl
     replace HO464 := HO464.thru hs520 rfl
     replace HJ449 := HJ449.thru hs520 rfl
     replace HJ450 := HJ450.thru hs520 rfl
     replace HS444 := HS444.trans hs520 hc rfl
     refine hK_ _ _ ⟨(HX492).2, (HB517).2⟩ ?_
     clear hK_ K_
     (try simp only [Act.put, List.setIfInBounds_toArray, ls0, ls1])
     refine al_pure 16 107 (.pointer (some ((⟨g495, 0, none⟩ : Addr).add ((a1 : Int).toNat * 1)))) (lb 18 131071) rfl rfl (by kernel_rfl) (fun _ _ _ => id) rfl (fun w_ => xr_indexAddr _ _ _ rfl rfl rfl (index_at Try.underlying66 info47 hA497 (by first | assumption | decide | omega) (by first | assumption | decide | omega))) ?_
     obtain ⟨y521, A522, H⟩ := bnd H
     refine al_last 17 (lb 18 262143) rfl rfl (by kernel_rfl) rfl (fun K_ hK_ => ?_)
     refine rr_store_step (C := C516) (z := 4) (c := c0_2) (rows := l0_2) (j := a1) (v1 := .slice A513 y511.length cp514) (xs := y511) rfl rfl rfl rfl rfl (by kernel_rfl) rfl rfl HB517 HH518 (by first | assumption | decide | omega) (by first | assumption | decide | omega) hle499 HCP0_2 hm501 (Option.some.inj A522) ?_
     intro w523 HR524 HC525 hs526
     rw [← hA497] at HR524
     replace HX492 := HX492.thru hs526 rfl
     replace HO488 := HO488.thru hs526 rfl
     replace HO464 := HO464.thru hs526 rfl
     replace HJ449 := HJ449.thru hs526 rfl
     replace HJ450 := HJ450.thru hs526 rfl
     replace HS444 := HS444.trans hs526 hc rfl
     refine hK_ _ _ ?_
     clear hK_ K_
     (try simp only [Act.put, List.setIfInBounds_toArray, ls0, ls1])
     (try rw [show l0_2.length = y521.length by rw [← Option.some.inj A522, List.length_set]] at HX492)
     (try rw [show l0_2.length = y521.length by rw [← Option.some.inj A522, List.length_set]])
     refine al_end (by kernel_rfl) ?_
     (try simp only [ls0, ls1])
     refine hK494 _ _ ?_
     (try clear hK494 K494)
     refine wp_seq_k fun K527 hK527 => ?_
     obtain ⟨g528, vs529, hA530, HB531, hle532, HI533, hm534⟩ := HR524.open_
     (try simp only [ls0, ls1])
     refine al_start (lb 19 0) rfl rfl rfl (fun w_ => w_.heap[g0]? = some (.cells (List.toArray ([.slice A484 y482.length cp485, .slice A460 y458.length cp461, .slice A0_2 y521.length c0_2, .int .i64 x448, .bool a0_4, .slice A0_5 l0_5.length c0_5, .slice A0_6 l0_6.length c0_6, .int .i64 a0_7])) 74 (0, 0)) ∧ w_.heap[g528]? = some (.cells (List.toArray (vs529)) 47 (0, 0))) ⟨(HX492.drew).2, (HB531.drew).2⟩ [18] ?_
     replace HX492 := HX492.drew
     replace HO488 := HO488.drew
     replace HO464 := HO464.drew
     replace HR524 := HR524.drew
     replace HJ449 := HJ449.drew
     replace HJ450 := HJ450.drew
     replace HB531 := HB531.drew
     replace HI533 := RRin.drew HI533
     replace HS444 := Step.ofDrew HS444
     generalize w523.drew = w535 at *
     refine al_mv 0 (lb 19 1) rfl rfl (by kernel_rfl) (fun _ _ _ => id) rfl ?_
     refine al_pure 1 109 (.pointer (some ⟨g0, 0, none⟩)) (lb 19 3) rfl rfl (by kernel_rfl) (fun _ _ _ => id) rfl (fun w_ => xr_nilCheck _ rfl rfl) ?_
     refine al_pure 2 110 (.pointer (some ⟨g0, 2, none⟩)) (lb 19 7) rfl rfl (by kernel_rfl) (fun _ _ _ => id) rfl (fun w_ => xr_fieldAddr _ _ rfl rfl (bx_field2 Try.underlying74 rfl rfl (by kernel_rfl))) ?_
     refine al_mv 4 (lb 19 23) rfl rfl (by kernel_rfl) (fun _ _ _ => id) rfl ?_
     simp only [ls0, ls1]
     refine al_mv 5 (lb 19 55) rfl rfl (by kernel_rfl) (fun _ _ _ => id) rfl ?_
     refine al_pure 6 114 (.pointer (some ⟨g0, 0, none⟩)) (lb 19 119) rfl rfl (by kernel_rfl) (fun _ _ _ => id) rfl (fun w_ => xr_nilCheck _ rfl rfl) ?_
     refine al_pure 7 115 (.pointer (some ⟨g0, 2, none⟩)) (lb 19 247) rfl rfl (by kernel_rfl) (fun _ _ _ => id) rfl (fun w_ => xr_fieldAddr _ _ rfl rfl (bx_field2 Try.underlying74 rfl rfl (by kernel_rfl))) ?_
     refine al_mv 9 (lb 19 759) rfl rfl (by kernel_rfl) (fun _ _ _ => id) rfl ?_
     simp only [ls0, ls1]
     refine al_mv 12 (lb 19 4855) rfl rfl (by kernel_rfl) (fun _ _ _ => id) rfl ?_
     refine al_pure 13 121 (.int .i64 (wrap64 (2 * (l0_1.length : Int)))) (lb 19 13047) rfl rfl (by kernel_rfl) (fun _ _ _ => id) rfl (fun w_ => xr_bin _ _ _ rfl rfl rfl (B.mul_i64 _ _)) ?_
     refine al_pure 14 122 (.int .i64 (wrap64 ((wrap64 (2 * (l0_1.length : Int))) + 1))) (lb 19 29431) rfl rfl (by kernel_rfl) (fun _ _ _ => id) rfl (fun w_ => xr_bin _ _ _ rfl rfl rfl (B.add_i64 _ _)) ?_
     refine al_take 3 111 (.slice A0_2 y521.length c0_2) (lb 19 29439) rfl rfl (by kernel_rfl) (fun _ _ _ => id) rfl (fun w_ hS_ => xr_load _ _ rfl rfl (load_cell Try.underlying66 rfl (bx_cell hS_.1 2 rfl))) ⟨(HX492).2, (HB531).2⟩ ?_
     simp only [ls0, ls1]
     refine al_take 8 116 (.slice A0_2 y521.length c0_2) (lb 19 29695) rfl rfl (by kernel_rfl) (fun _ _ _ => id) rfl (fun w_ hS_ => xr_load _ _ rfl rfl (load_cell Try.underlying66 rfl (bx_cell hS_.1 2 rfl))) ⟨(HX492).2, (HB531).2⟩ ?_
     obtain ⟨c536, H⟩ := if_some H
     obtain ⟨c537, H⟩ := if_some H
     refine al_pure 10 118 (.pointer (some ((⟨g528, 0, none⟩ : Addr).add ((a2 : Int).toNat * 1)))) (lb 19 30719) rfl rfl (by kernel_rfl) (fun _ _ _ => id) rfl (fun w_ => xr_indexAddr _ _ _ rfl rfl rfl (index_at Try.underlying66 info47 hA530 (by first | assumption | decide | omega) (by first | assumption | decide | omega))) ?_
     obtain ⟨A538, cp539, hv540, HO541, HC542⟩ : ∃ A_ c_, vs529[(a2 : Int).toNat]? = some (.slice A_ (rd_L4 y521 a2).length c_) ∧ OwnG false C516 4 w535 .i64 3 (.slice A_ (rd_L4 y521 a2).length c_) (rd_L4 y521 a2) ∧ (rd_L4 y521 a2).length ≤ c_ := RRin.get HI533 hle532 (by first | assumption | decide | omega) (by first | assumption | decide | omega)
     refine al_take 11 119 (.slice A538 (rd_L4 y521 a2).length cp539) (lb 19 32767) rfl rfl (by kernel_rfl) (fun _ _ _ => id) rfl (fun w_ hS_ => xr_load _ _ rfl rfl (load_cell Try.underlying47 rfl (rr_cell hS_.2 hv540))) ⟨(HX492).2, (HB531).2⟩ ?_
     refine al_one 15 (lb 19 65535) rfl rfl (by kernel_rfl) rfl (fun K_ hK_ => ?_)
     refine value_ (w1 := w535.alloc (.cells #[.int .i64 (wrap64 ((wrap64 (2 * (l0_1.length : Int))) + 1))] 3)) (v := .slice (some ⟨w535.heap.size, 0, none⟩) 1 1) rfl rfl (by first | (go_simp; done) | (go_simp; rfl)) ?_
     refine hK_ _ _ ⟨(HX492.alloc _).2, (HB531.alloc _).2⟩ ?_
     clear hK_ K_
     (try simp only [Act.put, List.setIfInBounds_toArray, ls0, ls1])
     obtain ⟨c543, H⟩ := if_some H
     obtain ⟨y544, A545, H⟩ := bnd H
     refine al_one 16 (lb 19 131071) rfl rfl (by kernel_rfl) rfl (fun K_ hK_ => ?_)
     refine rr_append_step (C := C516) (z := 4) rfl (.tmp 119) (.tmp 123) 47 3 8 rfl Try.underlying47 info3 (by decide) (.slice A538 (rd_L4 y521 a2).length cp539) (a2 : Int).toNat (rd_L4 y521 a2) (wrap64 ((wrap64 (2 * (l0_1.length : Int))) + 1)) rfl rfl HB531 HI533 hv540 (rr_row (by first | assumption | decide | omega) (by first | assumption | decide | omega)) (by decide) (by omega) (Option.some.inj A545) ?_
     intro A546 cp547 w548 C549 HB550 HH551 HC552 hs553
     replace HX492 := HX492.thru hs553 rfl
     replace HO488 := HO488.thru hs553 rfl
     replace HO464 := HO464.thru hs553 rfl
     replace HJ449 := HJ449.thru hs553 rfl
     replace HJ450 := HJ450.thru hs553 rfl
     replace HS444 := HS444.trans hs553 hc rfl
     refine hK_ _ _ ⟨(HX492).2, (HB550).2⟩ ?_
     clear hK_ K_
     (try simp only [Act.put, List.setIfInBounds_toArray, ls0, ls1])
     refine al_pure 17 125 (.pointer (some ((⟨g528, 0, none⟩ : Addr).add ((a2 : Int).toNat * 1)))) (lb 19 262143) rfl rfl (by kernel_rfl) (fun _ _ _ => id) rfl (fun w_ => xr_indexAddr _ _ _ rfl rfl rfl (index_at Try.underlying66 info47 hA530 (by first | assumption | decide | omega) (by first | assumption | decide | omega))) ?_
     obtain ⟨y554, A555, H⟩ := bnd H
     refine al_last 18 (lb 19 524287) rfl rfl (by kernel_rfl) rfl (fun K_ hK_ => ?_)
     refine rr_store_step (C := C549) (z := 4) (c := c0_2) (rows := y521) (j := a2) (v1 := .slice A546 y544.length cp547) (xs := y544) rfl rfl rfl rfl rfl (by kernel_rfl) rfl rfl HB550 HH551 (by first | assumption | decide | omega) (by first | assumption | decide | omega) hle532 HC525 hm534 (Option.some.inj A555) ?_
     intro w556 HR557 HC558 hs559
     rw [← hA530] at HR557
     replace HX492 := HX492.thru hs559 rfl
     replace HO488 := HO488.thru hs559 rfl
     replace HO464 := HO464.thru hs559 rfl
     replace HJ449 := HJ449.thru hs559 rfl
     replace HJ450 := HJ450.thru hs559 rfl
     replace HS444 := HS444.trans hs559 hc rfl
     refine hK_ _ _ ?_
     clear hK_ K_
     (try simp only [Act.put, List.setIfInBounds_toArray, ls0, ls1])
     (try rw [show y521.length = y554.length by rw [← Option.some.inj A555, List.length_set]] at HX492)
     (try rw [show y521.length = y554.length by rw [← Option.some.inj A555, List.length_set]])
     refine al_end (by kernel_rfl) ?_
     (try simp only [ls0, ls1])
     refine hK527 _ _ ?_
     (try clear hK527 K527)
     refine wp_seq_k fun K560 hK560 => ?_
     refine wl_region ?_
     refine mv_ rfl ?_
     obtain ⟨⟨t561, t562⟩, A563, H⟩ := bnd H
     (try dsimp only at H)
     refine st_call #[.pointer (some ⟨g0, 0, none⟩)] rfl rfl Try.func36 (by kernel_rfl) rfl rfl (mp_ rfl) ?_
     refine (maxflow_Net_reset.calls k454 g0 A484 cp485 y482 A460 cp461 y458 A0_2 c0_2 y554 x448 a0_4 A0_5 c0_5 l0_5 A0_6 c0_6 l0_6 a0_7 t561 t562  (fun z_ => pal [(0, 0), (1, 1), (2, 0), (3, 2), (4, 0)] (C549 z_)) w556 (fun _ => pal_lt rfl _) (Bx.arg HX492 rfl) (Own.arg HO488 rfl rfl) HC489 (Ft.arg (HO464.ft) rfl) HC465 (Ft.arg (HR557.ft) rfl) HC558 (Ft.arg HJ449 rfl) HCP0_5 (Ft.arg HJ450 rfl) HCP0_6 A563).mono ?_
     rintro _ w565 ⟨C566, A568, cp569, rfl, hs567, HO570, HC571, HX572⟩
     refine ⟨_, rfl, ?_⟩
     replace HO570 := Own.resF (U := [(0, 0), (1, 1), (2, 3)]) (j := 3) (fun _ _ _ _ h_ => h_) HO570 hs567 (by rfl) (by decide) rfl
     replace HX572 := Bx.res (U := [(0, 0), (1, 1), (2, 3)]) (j := 1) HX572 hs567 (by rfl) (by decide) rfl
     replace hs567 := Step.lift (U := [(0, 0), (1, 1), (2, 3)]) hs567 [1, 3] rfl rfl
     generalize up C549 C566 w556.heap.size [(0, 0), (1, 1), (2, 3)] = C566_ at HO570 HX572 hs567
     replace HO464 := HO464.thru hs567 rfl
     replace HR557 := HR557.thru hs567 rfl
     replace HJ449 := HJ449.thru hs567 rfl
     replace HJ450 := HJ450.thru hs567 rfl
     replace HS444 := HS444.trans hs567 hc rfl
     (try simp only [Act.put, List.setIfInBounds_toArray, ls0, ls1])
     refine wl_end ?_
     (try simp only [ls0, ls1])
     refine hK560 _ _ ?_
     (try clear hK560 K560)
     refine wp_seq_k fun K573 hK573 => ?_
     refine wl_region ?_
     refine mv_ rfl ?_
     refine as_ rfl ?_
     refine st (.int .i64 0) rfl rfl (xr_assign _ rfl rfl) ?_
     refine wl_end ?_
     (try simp only [ls0, ls1])
     refine hK573 _ _ ?_
     (try clear hK573 K573)
     refine wp_ret ?_
     (try simp only [Exit.inBlock, Exit.then, Exit.noGoto])
     (try simp only [ls0, ls1])
     simp only [Option.some.injEq, Prod.mk.injEq] at H
     obtain ⟨rfl, rfl, rfl, rfl, rfl, rfl, rfl⟩ := H
     refine bodyPost_ret (results_tmp2 rfl _ _ _) rfl ?_
     exact ⟨_, A568, cp569, A460, cp461, A0_2, c0_2, rfl, HS444, HO570, HC571, HO464, HC465, HR557, HC558, HX572⟩
   refine wp_seq_k fun K574 hK574 => ?_
   refine wl_region ?_
   refine mv_ rfl ?_
   refine st (.bool (decide (a3 < 4611686018427387904))) rfl rfl (xr_bin _ _ _ rfl rfl rfl (B.lss_i64 _ _)) ?_
   refine wl_end ?_
   (try simp only [ls0, ls1])
   refine hK574 _ _ ?_
   (try clear hK574 K574)
   by_cases c575 : a3 < 4611686018427387904
   ·rw [if_pos c575] at H
    (try rw [(decide_eq_true c575)])
    refine wp_cond_true rfl ?_
    refine wp_seq_k fun K576 hK576 => ?_
    refine wl_region ?_
    refine mv_ rfl ?_
    refine st (.pointer (some ⟨g0, 0, none⟩)) rfl rfl (xr_nilCheck _ rfl rfl) ?_
    refine st (.pointer (some ⟨g0, 3, none⟩)) rfl rfl (xr_fieldAddr _ _ rfl rfl (bx_field2 Try.underlying74 rfl rfl (by kernel_rfl))) ?_
    refine st (.int .i64 a0_3) rfl rfl (xr_load _ _ rfl rfl (load_cell Try.underlying2 rfl (bx_cell (HJ397).2 3 rfl))) ?_
    simp only [ls0, ls1]
    refine mv_ rfl ?_
    obtain ⟨⟨t577, t578⟩, A579, H⟩ := bnd H
    (try dsimp only at H)
    refine st_call #[.int .i64 a0_3, .int .i64 a3] rfl rfl Try.func43 (by kernel_rfl) rfl rfl (mp_ rfl) ?_
    refine (num_Add.calls a0_3 a3 t577 t578  (fun z_ => pal [(0, 0)] (C388 z_)) w389 (fun _ => pal_lt rfl _) A579).mono ?_
    rintro _ w581 ⟨C582, rfl, hs583⟩
    refine ⟨_, rfl, ?_⟩
    replace hs583 := Step.lift (U := [(0, 0)]) hs583 [] rfl rfl
    generalize up C388 C582 w389.heap.size [(0, 0)] = C582_ at hs583
    replace HJ397 := HJ397.thru hs583 rfl
    replace HJ392 := HJ392.thru hs583 rfl
    replace HJ393 := HJ393.thru hs583 rfl
    replace HJ394 := HJ394.thru hs583 rfl
    replace HJ395 := HJ395.thru hs583 rfl
    replace HJ396 := HJ396.thru hs583 rfl
    replace HS390 := HS390.trans hs583 hc rfl
    (try simp only [Act.put, List.setIfInBounds_toArray, ls0, ls1])
    refine mv_ rfl ?_
    refine st (.int .i64 t577) rfl rfl (xr_extract (.tuple #[.int .i64 t577, .int .i64 t578]) _ rfl rfl rfl) ?_
    refine st (.int .i64 t578) rfl rfl (xr_extract (.tuple #[.int .i64 t577, .int .i64 t578]) _ rfl rfl rfl) ?_
    refine as_ rfl ?_
    simp only [ls0, ls1]
    refine as_ rfl ?_
    refine wl_end ?_
    (try simp only [ls0, ls1])
    refine hK576 _ _ ?_
    (try clear hK576 K576)
    refine wp_seq_k fun K584 hK584 => ?_
    refine wp_seq_k fun K585 hK585 => ?_
    have hj587 : ∀ (kq598 : Nat) (C588 : Nat → Nat) (w589 : World) (x591 : Bool) (g_ : Nat → Value), Step c w C588 w589 [1, 2, 3, 4] → kq598 ≤ k400 → (Own C588 3 w589 k78 78 (.slice A0_0 l0_0.length c0_0) l0_0) → (Own C588 2 w589 (Kd.int .i64) 2 (.slice A0_1 l0_1.length c0_1) l0_1) → (RR C588 4 w589 .i64 47 3 (.slice A0_2 l0_2.length c0_2) l0_2) → (Ft C588 [0] w589 (fun w_ => (Kd.int .i64).C w_ A0_5 l0_5.length l0_5)) → (Ft C588 [0] w589 (fun w_ => (Kd.int .i64).C w_ A0_6 l0_6.length l0_6)) → (Bx C588 1 w589 g0 74 ([.slice A0_0 l0_0.length c0_0, .slice A0_1 l0_1.length c0_1, .slice A0_2 l0_2.length c0_2, .int .i64 a0_3, .bool a0_4, .slice A0_5 l0_5.length c0_5, .slice A0_6 l0_6.length c0_6, .int .i64 a0_7])) → maxflow_Net_Add.j1 kq598 a0_3 a0_4 a0_7 a1 a2 a3 l0_0 l0_1 l0_2 l0_5 l0_6 t577 x591 = some (r1, r2, r3, r4, r5, r6, r7) → K585 ⟨#[.pointer (some ⟨g0, 0, none⟩), .int .i64 a1, .int .i64 a2, .int .i64 a3, (g_ 4), (g_ 5), (g_ 6), (g_ 7), (g_ 8), (g_ 9), .int .i64 t577, (g_ 11), (g_ 12), (g_ 13), (g_ 14), (g_ 15), (g_ 16), (g_ 17), (g_ 18), (g_ 19), (g_ 20), (g_ 21), (g_ 22), (g_ 23), (g_ 24), (g_ 25), (g_ 26), (g_ 27), (g_ 28), (g_ 29), (g_ 30), (g_ 31), (g_ 32), (g_ 33), (g_ 34), (g_ 35), (g_ 36), (g_ 37), (g_ 38), (g_ 39), (g_ 40), (g_ 41), (g_ 42), (g_ 43), (g_ 44), (g_ 45), (g_ 46), (g_ 47), (g_ 48), (g_ 49), (g_ 50), (g_ 51), (g_ 52), (g_ 53), (g_ 54), (g_ 55), (g_ 56), .bool x591, (g_ 58), (g_ 59), (g_ 60), (g_ 61), (g_ 62), (g_ 63), (g_ 64), (g_ 65), (g_ 66), (g_ 67), (g_ 68), (g_ 69), (g_ 70), (g_ 71), (g_ 72), (g_ 73), (g_ 74), (g_ 75), (g_ 76), (g_ 77), (g_ 78), (g_ 79), (g_ 80), (g_ 81), (g_ 82), (g_ 83), (g_ 84), (g_ 85), (g_ 86), (g_ 87), (g_ 88), (g_ 89), (g_ 90), (g_ 91), (g_ 92), (g_ 93), (g_ 94), (g_ 95), (g_ 96), (g_ 97), (g_ 98), (g_ 99), (g_ 100), (g_ 101), (g_ 102), (g_ 103), (g_ 104), (g_ 105), (g_ 106), (g_ 107), (g_ 108), (g_ 109), (g_ 110), (g_ 111), (g_ 112), (g_ 113), (g_ 114), (g_ 115), (g_ 116), (g_ 117), (g_ 118), (g_ 119), (g_ 120), (g_ 121), (g_ 122), (g_ 123), (g_ 124), (g_ 125), (g_ 126), (g_ 127), (g_ 128)], []⟩ w589 := by
     intro kq598 C588 w589 x591 g_ HS590 hk599 HJ592 HJ593 HJ594 HJ595 HJ596 HJ597 H
     cases kq598 with
     | zero => exact absurd H (by simp [maxflow_Net_Add.j1])
     | succ k600 =>
      simp only [maxflow_Net_Add.j1] at H
      refine hK585 _ _ ?_
      (try clear hK585)
      by_cases c601 : x591 = true
      ·rw [if_pos c601] at H
       (try rw [c601])
       refine wp_cond_true rfl ?_
       refine wp_seq_k fun K602 hK602 => ?_
       refine wl_region ?_
       refine st (.int .i64 0) rfl rfl (xr_assign _ rfl rfl) ?_
       refine st (.int .i64 18) rfl rfl (xr_assign _ rfl rfl) ?_
       refine wl_end ?_
       (try simp only [ls0, ls1])
       refine hK602 _ _ ?_
       (try clear hK602 K602)
       refine wp_ret ?_
       (try simp only [Exit.inBlock, Exit.then, Exit.noGoto])
       (try simp only [ls0, ls1])
       simp only [Option.some.injEq, Prod.mk.injEq] at H
       obtain ⟨rfl, rfl, rfl, rfl, rfl, rfl, rfl⟩ := H
       refine bodyPost_ret (results_tmp2 rfl _ _ _) rfl ?_
       exact ⟨_, A0_0, c0_0, A0_1, c0_1, A0_2, c0_2, rfl, HS590, HJ592, HCP0_0, HJ593, HCP0_1, HJ594, HCP0_2, HJ597⟩
      rw [if_neg c601] at H
      (try rw [(Bool.eq_false_iff.mpr c601)])
      refine wp_cond_false rfl ?_
      refine wp_skip ?_
      (try simp only [ls0, ls1])
      refine hK584 _ _ ?_
      (try clear hK584 K584)
      refine wl_region ?_
      refine mv_ rfl ?_
      refine mv_ rfl ?_
      refine st (.pointer (some ⟨g0, 0, none⟩)) rfl rfl (xr_nilCheck _ rfl rfl) ?_
      refine st (.pointer (some ⟨g0, 3, none⟩)) rfl rfl (xr_fieldAddr _ _ rfl rfl (bx_field2 Try.underlying74 rfl rfl (by kernel_rfl))) ?_
      simp only [ls0, ls1]
      refine bx_store (C := C588) (z := 1) (g := g0) (j := 3) (tb := 74) (u := .int .i64 t577) (seg := [.int .i64 t577]) (xs := [.slice A0_0 l0_0.length c0_0, .slice A0_1 l0_1.length c0_1, .slice A0_2 l0_2.length c0_2, .int .i64 a0_3, .bool a0_4, .slice A0_5 l0_5.length c0_5, .slice A0_6 l0_6.length c0_6, .int .i64 a0_7]) rfl rfl rfl rfl rfl rfl (by first | kernel_rfl | rfl) (by simp [Value.oneCell']) HJ597 (by simp only [List.length_cons, List.length_nil]; omega) rfl ?_
      intro w603 HX604 hs605
      replace HJ592 := HJ592.thru hs605 rfl
      replace HJ593 := HJ593.thru hs605 rfl
      replace HJ594 := HJ594.thru hs605 rfl
      replace HJ595 := HJ595.thru hs605 rfl
      replace HJ596 := HJ596.thru hs605 rfl
      replace HS590 := HS590.trans hs605 hc rfl
      (try simp only [Act.put, List.setIfInBounds_toArray, ls0, ls1])
      refine wl_end ?_
      (try simp only [ls0, ls1])
      exact jmp (fun g_ => hj441 _ _ _ (t577) g_ HS590 (by omega) HJ592 HJ593 HJ594 HJ595 HJ596 HX604 H) rfl
    refine wl_region ?_
    refine mv_ rfl ?_
    refine st (.bool (!decide (t578 = 0))) rfl rfl (xr_bin _ _ _ rfl rfl rfl (B.neq_i64 _ _)) ?_
    refine mv_ rfl ?_
    by_cases c606 : t578 = 0
    ·rw [if_pos c606] at H
     (try rw [(decide_eq_true c606)])
     (try simp only [Bool.not_true, Bool.not_false])
     refine on_guard (guard_on 2 false 54 rfl rfl rfl) ?_
     refine mv_ rfl ?_
     simp only [ls0, ls1]
     refine on_guard (guard_on 2 false 54 rfl rfl rfl) ?_
     refine st (.bool (decide (t577 ≥ 4611686018427387904))) rfl rfl (xr_bin _ _ _ rfl rfl rfl (B.geq_i64 _ _)) ?_
     refine st (.bool (decide (t577 ≥ 4611686018427387904))) rfl rfl (xr_pick false _ rfl rfl rfl) ?_
     refine wl_end ?_
     (try simp only [ls0, ls1])
     exact jmp (fun g_ => hj587 _ _ _ (decide (t577 ≥ 4611686018427387904)) g_ HS390 (by omega) HJ392 HJ393 HJ394 HJ395 HJ396 HJ397 H) rfl
    rw [if_neg c606] at H
    (try rw [(decide_eq_false c606)])
    (try simp only [Bool.not_true, Bool.not_false])
    refine sk_guard (guard_off 2 false 54 rfl rfl true (by decide) rfl) rfl ?_
    refine sk_guard (guard_off 2 false 54 rfl rfl true (by decide) rfl) rfl ?_
    refine st (.bool true) rfl rfl (xr_pick true _ rfl rfl rfl) ?_
    refine wl_end ?_
    (try simp only [ls0, ls1])
    exact jmp (fun g_ => hj587 _ _ _ (true) g_ HS390 (by omega) HJ392 HJ393 HJ394 HJ395 HJ396 HJ397 H) rfl
   rw [if_neg c575] at H
   (try rw [(decide_eq_false c575)])
   refine wp_cond_false rfl ?_
   refine wp_skip ?_
   (try simp only [ls0, ls1])
   exact jmp (fun g_ => hj441 _ _ _ (a0_3) g_ HS390 (by omega) HJ392 HJ393 HJ394 HJ395 HJ396 HJ397 H) rfl
 refine wl_region ?_
 refine mv_ rfl ?_
 refine mv_ rfl ?_
 have HP607 : Ft c [0, 1, 2, 3, 4] w (fun w_ => (Kd.ptr 74 k74).K w_ (some (⟨l0_0, l0_1, l0_2, a0_3, a0_4, l0_5, l0_6, (⟨a0_7⟩ : S72)⟩ : S74)) [.pointer (some ⟨g0, 0, none⟩)]) := ptr_mk (Ft.more (HP0.ft) rfl) (k74_mkF _ _ (⟨l0_0, l0_1, l0_2, a0_3, a0_4, l0_5, l0_6, (⟨a0_7⟩ : S72)⟩ : S74) HCP0_0 (Ft.more (HP0_0.ft) rfl) HCP0_1 (Ft.more (HP0_1.ft) rfl) HCP0_2 (Ft.more (HP0_2.ft) rfl) HCP0_5 (Ft.more HP0_5 rfl) HCP0_6 (Ft.more HP0_6 rfl))
 obtain ⟨t608, A609, H⟩ := bnd H
 refine st_call #[.pointer (some ⟨g0, 0, none⟩), .int .i64 a1] rfl rfl Try.func37 (by kernel_rfl) rfl rfl (mp_ rfl) ?_
 refine (maxflow_Net_in.calls (.pointer (some ⟨g0, 0, none⟩)) (some (⟨l0_0, l0_1, l0_2, a0_3, a0_4, l0_5, l0_6, (⟨a0_7⟩ : S72)⟩ : S74) : Option S74) a1 t608  (fun z_ => pal [(0, 0), (1, 0), (2, 0), (3, 0), (4, 0)] (c z_)) w (fun _ => pal_lt rfl _) (Ft.arg HP607 rfl) A609).mono ?_
 rintro _ w611 ⟨C612, rfl, hs613⟩
 refine ⟨_, rfl, ?_⟩
 replace hs613 := Step.lift (U := [(0, 0)]) hs613 [] rfl rfl
 generalize up c C612 w.heap.size [(0, 0)] = C612_ at hs613
 replace HP0 := HP0.thru hs613 rfl
 replace HP0_0 := HP0_0.thru hs613 rfl
 replace HP0_1 := HP0_1.thru hs613 rfl
 replace HP0_2 := HP0_2.thru hs613 rfl
 replace HP0_5 := HP0_5.thru hs613 rfl
 replace HP0_6 := HP0_6.thru hs613 rfl
 replace HS := HS.trans hs613 hc rfl
 (try simp only [Act.put, List.setIfInBounds_toArray, ls0, ls1])
 refine st (.bool (!t608)) rfl rfl (xr_un (.bool t608) _ rfl rfl (by first | rfl | (go_simp; done) | (go_simp; rfl) | (go_simp; exact i64_w _) | (go_simp; exact i32_w _))) ?_
 refine mv_ rfl ?_
 by_cases c614 : t608 = true
 ·rw [if_pos c614] at H
  (try rw [c614])
  (try simp only [Bool.not_true, Bool.not_false])
  refine on_guard (guard_on 4 false 16 rfl rfl rfl) ?_
  refine mv_ rfl ?_
  refine on_guard (guard_on 4 false 16 rfl rfl rfl) ?_
  refine mv_ rfl ?_
  simp only [ls0, ls1]
  refine on_guard (guard_on 4 false 16 rfl rfl rfl) ?_
  have HP615 : Ft C612_ [0, 1, 2, 3, 4] w611 (fun w_ => (Kd.ptr 74 k74).K w_ (some (⟨l0_0, l0_1, l0_2, a0_3, a0_4, l0_5, l0_6, (⟨a0_7⟩ : S72)⟩ : S74)) [.pointer (some ⟨g0, 0, none⟩)]) := ptr_mk (Ft.more (HP0.ft) rfl) (k74_mkF _ _ (⟨l0_0, l0_1, l0_2, a0_3, a0_4, l0_5, l0_6, (⟨a0_7⟩ : S72)⟩ : S74) HCP0_0 (Ft.more (HP0_0.ft) rfl) HCP0_1 (Ft.more (HP0_1.ft) rfl) HCP0_2 (Ft.more (HP0_2.ft) rfl) HCP0_5 (Ft.more HP0_5 rfl) HCP0_6 (Ft.more HP0_6 rfl))
  obtain ⟨t616, A617, H⟩ := bnd H
  refine st_call #[.pointer (some ⟨g0, 0, none⟩), .int .i64 a2] rfl rfl Try.func37 (by kernel_rfl) rfl rfl (mp_ rfl) ?_
  refine (maxflow_Net_in.calls (.pointer (some ⟨g0, 0, none⟩)) (some (⟨l0_0, l0_1, l0_2, a0_3, a0_4, l0_5, l0_6, (⟨a0_7⟩ : S72)⟩ : S74) : Option S74) a2 t616  (fun z_ => pal [(0, 0), (1, 0), (2, 0), (3, 0), (4, 0)] (C612_ z_)) w611 (fun _ => pal_lt rfl _) (Ft.arg HP615 rfl) A617).mono ?_
  rintro _ w619 ⟨C620, rfl, hs621⟩
  refine ⟨_, rfl, ?_⟩
  replace hs621 := Step.lift (U := [(0, 0)]) hs621 [] rfl rfl
  generalize up C612_ C620 w611.heap.size [(0, 0)] = C620_ at hs621
  replace HP0 := HP0.thru hs621 rfl
  replace HP0_0 := HP0_0.thru hs621 rfl
  replace HP0_1 := HP0_1.thru hs621 rfl
  replace HP0_2 := HP0_2.thru hs621 rfl
  replace HP0_5 := HP0_5.thru hs621 rfl
  replace HP0_6 := HP0_6.thru hs621 rfl
  replace HS := HS.trans hs621 hc rfl
  (try simp only [Act.put, List.setIfInBounds_toArray, ls0, ls1])
  refine on_guard (guard_on 4 false 16 rfl rfl rfl) ?_
  refine st (.bool (!t616)) rfl rfl (xr_un (.bool t616) _ rfl rfl (by first | rfl | (go_simp; done) | (go_simp; rfl) | (go_simp; exact i64_w _) | (go_simp; exact i32_w _))) ?_
  refine st (.bool (!t616)) rfl rfl (xr_pick false _ rfl rfl rfl) ?_
  refine mv_ rfl ?_
  by_cases c622 : t616 = true
  ·rw [if_pos c622] at H
   (try rw [c622])
   (try simp only [Bool.not_true, Bool.not_false])
   refine on_guard (guard_on 10 false 22 rfl rfl rfl) ?_
   refine mv_ rfl ?_
   simp only [ls0, ls1]
   refine on_guard (guard_on 10 false 22 rfl rfl rfl) ?_
   refine mv_ rfl ?_
   refine on_guard (guard_on 10 false 22 rfl rfl rfl) ?_
   refine st (.bool (decide (a1 = a2))) rfl rfl (xr_bin _ _ _ rfl rfl rfl (B.eql_i64 _ _)) ?_
   refine st (.bool (decide (a1 = a2))) rfl rfl (xr_pick false _ rfl rfl rfl) ?_
   refine mv_ rfl ?_
   simp only [ls0, ls1]
   by_cases c623 : a1 = a2
   ·rw [if_pos c623] at H
    (try rw [(decide_eq_true c623)])
    refine sk_guard (guard_off 15 false 27 rfl rfl true (by decide) rfl) rfl ?_
    refine sk_guard (guard_off 15 false 27 rfl rfl true (by decide) rfl) rfl ?_
    refine st (.bool true) rfl rfl (xr_pick true _ rfl rfl rfl) ?_
    refine mv_ rfl ?_
    simp only [ls0, ls1]
    refine sk_guard (guard_off 19 false 31 rfl rfl true (by decide) rfl) rfl ?_
    refine sk_guard (guard_off 19 false 31 rfl rfl true (by decide) rfl) rfl ?_
    refine st (.bool true) rfl rfl (xr_pick true _ rfl rfl rfl) ?_
    refine wl_end ?_
    (try simp only [ls0, ls1])
    exact jmp (fun g_ => hj387 _ _ _ (true) g_ HS (by omega) HP0_0 HP0_1 HP0_2 HP0_5 HP0_6 HP0 H) rfl
   rw [if_neg c623] at H
   (try rw [(decide_eq_false c623)])
   refine on_guard (guard_on 15 false 27 rfl rfl rfl) ?_
   refine mv_ rfl ?_
   refine on_guard (guard_on 15 false 27 rfl rfl rfl) ?_
   refine st (.bool (decide (a3 < 0))) rfl rfl (xr_bin _ _ _ rfl rfl rfl (B.lss_i64 _ _)) ?_
   refine st (.bool (decide (a3 < 0))) rfl rfl (xr_pick false _ rfl rfl rfl) ?_
   refine mv_ rfl ?_
   simp only [ls0, ls1]
   by_cases c624 : a3 < 0
   ·rw [if_pos c624] at H
    (try rw [(decide_eq_true c624)])
    refine sk_guard (guard_off 19 false 31 rfl rfl true (by decide) rfl) rfl ?_
    refine sk_guard (guard_off 19 false 31 rfl rfl true (by decide) rfl) rfl ?_
    refine st (.bool true) rfl rfl (xr_pick true _ rfl rfl rfl) ?_
    refine wl_end ?_
    (try simp only [ls0, ls1])
    exact jmp (fun g_ => hj387 _ _ _ (true) g_ HS (by omega) HP0_0 HP0_1 HP0_2 HP0_5 HP0_6 HP0 H) rfl
   rw [if_neg c624] at H
   (try rw [(decide_eq_false c624)])
   refine on_guard (guard_on 19 false 31 rfl rfl rfl) ?_
   refine mv_ rfl ?_
   refine on_guard (guard_on 19 false 31 rfl rfl rfl) ?_
   refine st (.bool (decide (a3 > 4611686018427387904))) rfl rfl (xr_bin _ _ _ rfl rfl rfl (B.gtr_i64 _ _)) ?_
   refine st (.bool (decide (a3 > 4611686018427387904))) rfl rfl (xr_pick false _ rfl rfl rfl) ?_
   refine wl_end ?_
   (try simp only [ls0, ls1])
   exact jmp (fun g_ => hj387 _ _ _ (decide (a3 > 4611686018427387904)) g_ HS (by omega) HP0_0 HP0_1 HP0_2 HP0_5 HP0_6 HP0 H) rfl
  rw [if_neg c622] at H
  (try rw [(Bool.eq_false_iff.mpr c622)])
  (try simp only [Bool.not_true, Bool.not_false])
  refine sk_guard (guard_off 10 false 22 rfl rfl true (by decide) rfl) rfl ?_
  refine sk_guard (guard_off 10 false 22 rfl rfl true (by decide) rfl) rfl ?_
  refine sk_guard (guard_off 10 false 22 rfl rfl true (by decide) rfl) rfl ?_
  refine st (.bool true) rfl rfl (xr_pick true _ rfl rfl rfl) ?_
  simp only [ls0, ls1]
  refine mv_ rfl ?_
  refine sk_guard (guard_off 15 false 27 rfl rfl true (by decide) rfl) rfl ?_
  refine sk_guard (guard_off 15 false 27 rfl rfl true (by decide) rfl) rfl ?_
  refine st (.bool true) rfl rfl (xr_pick true _ rfl rfl rfl) ?_
  simp only [ls0, ls1]
  refine mv_ rfl ?_
  refine sk_guard (guard_off 19 false 31 rfl rfl true (by decide) rfl) rfl ?_
  refine sk_guard (guard_off 19 false 31 rfl rfl true (by decide) rfl) rfl ?_
  refine st (.bool true) rfl rfl (xr_pick true _ rfl rfl rfl) ?_
  simp only [ls0, ls1]
  refine wl_end ?_
  (try simp only [ls0, ls1])
  exact jmp (fun g_ => hj387 _ _ _ (true) g_ HS (by omega) HP0_0 HP0_1 HP0_2 HP0_5 HP0_6 HP0 H) rfl
 rw [if_neg c614] at H
 (try rw [(Bool.eq_false_iff.mpr c614)])
 (try simp only [Bool.not_true, Bool.not_false])
 refine sk_guard (guard_off 4 false 16 rfl rfl true (by decide) rfl) rfl ?_
 refine sk_guard (guard_off 4 false 16 rfl rfl true (by decide) rfl) rfl ?_
 refine sk_guard (guard_off 4 false 16 rfl rfl true (by decide) rfl) rfl ?_
 refine sk_guard (guard_off 4 false 16 rfl rfl true (by decide) rfl) rfl ?_
 simp only [ls0, ls1]
 refine st (.bool true) rfl rfl (xr_pick true _ rfl rfl rfl) ?_
 refine mv_ rfl ?_
 refine sk_guard (guard_off 10 false 22 rfl rfl true (by decide) rfl) rfl ?_
 refine sk_guard (guard_off 10 false 22 rfl rfl true (by decide) rfl) rfl ?_
 simp only [ls0, ls1]
 refine sk_guard (guard_off 10 false 22 rfl rfl true (by decide) rfl) rfl ?_
 refine st (.bool true) rfl rfl (xr_pick true _ rfl rfl rfl) ?_
 refine mv_ rfl ?_
 refine sk_guard (guard_off 15 false 27 rfl rfl true (by decide) rfl) rfl ?_
 simp only [ls0, ls1]
 refine sk_guard (guard_off 15 false 27 rfl rfl true (by decide) rfl) rfl ?_
 refine st (.bool true) rfl rfl (xr_pick true _ rfl rfl rfl) ?_
 refine mv_ rfl ?_
 refine sk_guard (guard_off 19 false 31 rfl rfl true (by decide) rfl) rfl ?_
 simp only [ls0, ls1]
 refine sk_guard (guard_off 19 false 31 rfl rfl true (by decide) rfl) rfl ?_
 refine st (.bool true) rfl rfl (xr_pick true _ rfl rfl rfl) ?_
 refine wl_end ?_
 (try simp only [ls0, ls1])
 exact jmp (fun g_ => hj387 _ _ _ (true) g_ HS (by omega) HP0_0 HP0_1 HP0_2 HP0_5 HP0_6 HP0 H) rfl

/-! ### maxflow_Net_Max_nil: function 17 -/
def maxflow_Net_Max_nil.f (k : Nat) (a1 : Int) (a2 : Int) : Option (Int × Int) := some (0, 1)

set_option maxHeartbeats 8000000 in
set_option maxRecDepth 100000 in
theorem maxflow_Net_Max_nil.calls (k : Nat) (a1 : Int) (a2 : Int) (r1 : Int) (r2 : Int) (c : Nat → Nat) (w : World) (hc : ∀ k, c k < 10)  (H : maxflow_Net_Max_nil.f k a1 a2 = some (r1, r2)) :
    Calls Try.prog 17 #[.pointer none, .int .i64 a1, .int .i64 a2] w fun e w' => ∃ (c' : Nat → Nat) , e = .returned (.tuple #[.int .i64 r1, .int .i64 r2]) ∧ Step c w c' w' [] := by
 unfold maxflow_Net_Max_nil.f at H
 have HS := Step.refl c w []
 go_enter Try.func17, Try.ntmps17
 refine wp_seq_k fun K10 hK10 => ?_
 refine wl_region ?_
 refine bx_new (C := c) 24 ([.pointer none]) 11 rfl rfl (by first | (go_simp; done) | (go_simp; rfl)) ?_
 intro g11 w12 C13 HX14 hs15
 replace HS := HS.trans hs15 hc rfl
 (try simp only [Act.put, List.setIfInBounds_toArray, ls0, ls1])
 refine st (.int .i64 0) rfl rfl (xr_assign _ rfl rfl) ?_
 refine st (.int .i64 0) rfl rfl (xr_assign _ rfl rfl) ?_
 refine wl_end ?_
 (try simp only [ls0, ls1])
 refine hK10 _ _ ?_
 (try clear hK10 K10)
 refine wp_seq_k fun K16 hK16 => ?_
 refine wp_seq_k fun K17 hK17 => ?_
 refine wl_region ?_
 refine st (.pointer none) rfl rfl (xr_load _ _ rfl rfl (load_cell Try.underlying24 rfl (bx_cell (HX14).2 0 rfl))) ?_
 refine st (.bool true) rfl rfl (xr_bin (.pointer none) (.pointer none) (.bool true) rfl rfl rfl (B.eql_nn ⟨_, Try.underlying24⟩ (⟨0, 0, none⟩ : Addr))) ?_
 refine wl_end ?_
 (try simp only [ls0, ls1])
 refine hK17 _ _ ?_
 (try clear hK17 K17)
 refine wp_cond_true rfl ?_
 refine wp_seq_k fun K18 hK18 => ?_
 refine wl_region ?_
 refine st (.int .i64 0) rfl rfl (xr_assign _ rfl rfl) ?_
 refine st (.int .i64 1) rfl rfl (xr_assign _ rfl rfl) ?_
 refine wl_end ?_
 (try simp only [ls0, ls1])
 refine hK18 _ _ ?_
 (try clear hK18 K18)
 refine wp_ret ?_
 (try simp only [Exit.inBlock, Exit.then, Exit.noGoto])
 (try simp only [ls0, ls1])
 simp only [Option.some.injEq, Prod.mk.injEq] at H
 obtain ⟨rfl, rfl⟩ := H
 refine bodyPost_ret (results_tmp2 rfl _ _ _) rfl ?_
 exact ⟨_, rfl, HS⟩

/-! ### maxflow_Net_Add_nil: function 21 -/
def maxflow_Net_Add_nil.j0 : Nat → Bool → Option (Int × Int)
  | 0, _ => none
  | k + 1, x157 => if x157 = true then (some (0, 1)) else (none)
def maxflow_Net_Add_nil.f (k : Nat) (a1 : Int) (a2 : Int) (a3 : Int) : Option (Int × Int) := (maxflow_Net_in.f (none : Option S74) a1).bind fun t165 => (if t165 = true then ((maxflow_Net_in.f (none : Option S74) a2).bind fun t172 => (if t172 = true then (if a1 = a2 then (maxflow_Net_Add_nil.j0 k true) else (if a3 < 0 then (maxflow_Net_Add_nil.j0 k true) else (maxflow_Net_Add_nil.j0 k (decide (a3 > 4611686018427387904))))) else (maxflow_Net_Add_nil.j0 k true))) else (maxflow_Net_Add_nil.j0 k true))

set_option maxHeartbeats 8000000 in
set_option maxRecDepth 100000 in
theorem maxflow_Net_Add_nil.calls (k : Nat) (a1 : Int) (a2 : Int) (a3 : Int) (r1 : Int) (r2 : Int) (c : Nat → Nat) (w : World) (hc : ∀ k, c k < 10)  (H : maxflow_Net_Add_nil.f k a1 a2 a3 = some (r1, r2)) :
    Calls Try.prog 21 #[.pointer none, .int .i64 a1, .int .i64 a2, .int .i64 a3] w fun e w' => ∃ (c' : Nat → Nat) , e = .returned (.tuple #[.int .i64 r1, .int .i64 r2]) ∧ Step c w c' w' [] := by
 unfold maxflow_Net_Add_nil.f at H
 have HS := Step.refl c w []
 go_enter Try.func21, Try.ntmps21
 refine wp_seq_k fun K91 hK91 => ?_
 refine wl_region ?_
 refine st (.int .i64 0) rfl rfl (xr_assign _ rfl rfl) ?_
 refine st (.int .i64 0) rfl rfl (xr_assign _ rfl rfl) ?_
 refine wl_end ?_
 (try simp only [ls0, ls1])
 refine hK91 _ _ ?_
 (try clear hK91 K91)
 refine wp_seq_k fun K92 hK92 => ?_
 refine wp_seq_k fun K136 hK136 => ?_
 have hj153 : ∀ (kq158 : Nat) (C154 : Nat → Nat) (w155 : World) (x157 : Bool) (g_ : Nat → Value), Step c w C154 w155 [] → kq158 ≤ k → maxflow_Net_Add_nil.j0 kq158 x157 = some (r1, r2) → K136 ⟨#[.pointer none, .int .i64 a1, .int .i64 a2, .int .i64 a3, (g_ 4), (g_ 5), (g_ 6), (g_ 7), (g_ 8), (g_ 9), (g_ 10), (g_ 11), (g_ 12), (g_ 13), (g_ 14), (g_ 15), (g_ 16), (g_ 17), (g_ 18), (g_ 19), (g_ 20), (g_ 21), (g_ 22), (g_ 23), (g_ 24), (g_ 25), (g_ 26), (g_ 27), (g_ 28), (g_ 29), (g_ 30), (g_ 31), (g_ 32), (g_ 33), .bool x157, (g_ 35), (g_ 36), (g_ 37), (g_ 38), (g_ 39), (g_ 40), (g_ 41), (g_ 42), (g_ 43), (g_ 44), (g_ 45), (g_ 46), (g_ 47), (g_ 48), (g_ 49), (g_ 50), (g_ 51), (g_ 52), (g_ 53), (g_ 54), (g_ 55), (g_ 56), (g_ 57), (g_ 58), (g_ 59), (g_ 60), (g_ 61), (g_ 62), (g_ 63), (g_ 64), (g_ 65), (g_ 66), (g_ 67), (g_ 68), (g_ 69), (g_ 70), (g_ 71), (g_ 72), (g_ 73), (g_ 74), (g_ 75), (g_ 76), (g_ 77), (g_ 78), (g_ 79), (g_ 80), (g_ 81), (g_ 82), (g_ 83), (g_ 84), (g_ 85), (g_ 86), (g_ 87), (g_ 88), (g_ 89), (g_ 90), (g_ 91), (g_ 92), (g_ 93), (g_ 94), (g_ 95), (g_ 96), (g_ 97), (g_ 98), (g_ 99), (g_ 100), (g_ 101), (g_ 102), (g_ 103), (g_ 104), (g_ 105), (g_ 106), (g_ 107), (g_ 108), (g_ 109), (g_ 110), (g_ 111), (g_ 112), (g_ 113), (g_ 114), (g_ 115), (g_ 116), (g_ 117), (g_ 118), (g_ 119), (g_ 120), (g_ 121), (g_ 122), (g_ 123), (g_ 124), (g_ 125), (g_ 126), (g_ 127), (g_ 128)], []⟩ w155 := by
  intro kq158 C154 w155 x157 g_ HS156 hk159  H
  cases kq158 with
  | zero => exact absurd H (by simp [maxflow_Net_Add_nil.j0])
  | succ k160 =>
   simp only [maxflow_Net_Add_nil.j0] at H
   refine hK136 _ _ ?_
   (try clear hK136)
   by_cases c161 : x157 = true
   ·rw [if_pos c161] at H
    (try rw [c161])
    refine wp_cond_true rfl ?_
    refine wp_seq_k fun K162 hK162 => ?_
    refine wl_region ?_
    refine st (.int .i64 0) rfl rfl (xr_assign _ rfl rfl) ?_
    simp only [ls0, ls1]
    refine st (.int .i64 1) rfl rfl (xr_assign _ rfl rfl) ?_
    refine wl_end ?_
    (try simp only [ls0, ls1])
    refine hK162 _ _ ?_
    (try clear hK162 K162)
    refine wp_ret ?_
    (try simp only [Exit.inBlock, Exit.then, Exit.noGoto])
    (try simp only [ls0, ls1])
    simp only [Option.some.injEq, Prod.mk.injEq] at H
    obtain ⟨rfl, rfl⟩ := H
    refine bodyPost_ret (results_tmp2 rfl _ _ _) rfl ?_
    exact ⟨_, rfl, HS156⟩
   rw [if_neg c161] at H
   (try rw [(Bool.eq_false_iff.mpr c161)])
   refine wp_cond_false rfl ?_
   refine wp_skip ?_
   (try simp only [ls0, ls1])
   refine hK92 _ _ ?_
   (try clear hK92 K92)
   refine wp_seq_k fun K163 hK163 => ?_
   refine wp_seq_k fun K164 hK164 => ?_
   refine wl_region ?_
   refine mv_ rfl ?_
   exact absurd H (by simp)
 refine wl_region ?_
 refine mv_ rfl ?_
 refine mv_ rfl ?_
 obtain ⟨t165, A166, H⟩ := bnd H
 refine st_call #[.pointer none, .int .i64 a1] rfl rfl Try.func37 (by kernel_rfl) rfl rfl (mp_ rfl) ?_
 refine (maxflow_Net_in.calls (.pointer none) (none : Option S74) a1 t165  (fun z_ => pal [(0, 0)] (c z_)) w (fun _ => pal_lt rfl _) (ptr_nil _ _ _ _ _) A166).mono ?_
 rintro _ w168 ⟨C169, rfl, hs170⟩
 refine ⟨_, rfl, ?_⟩
 replace hs170 := Step.lift (U := [(0, 0)]) hs170 [] rfl rfl
 generalize up c C169 w.heap.size [(0, 0)] = C169_ at hs170
 replace HS := HS.trans hs170 hc rfl
 (try simp only [Act.put, List.setIfInBounds_toArray, ls0, ls1])
 refine st (.bool (!t165)) rfl rfl (xr_un (.bool t165) _ rfl rfl (by first | rfl | (go_simp; done) | (go_simp; rfl) | (go_simp; exact i64_w _) | (go_simp; exact i32_w _))) ?_
 refine mv_ rfl ?_
 by_cases c171 : t165 = true
 ·rw [if_pos c171] at H
  (try rw [c171])
  (try simp only [Bool.not_true, Bool.not_false])
  refine on_guard (guard_on 4 false 16 rfl rfl rfl) ?_
  refine mv_ rfl ?_
  refine on_guard (guard_on 4 false 16 rfl rfl rfl) ?_
  refine mv_ rfl ?_
  simp only [ls0, ls1]
  refine on_guard (guard_on 4 false 16 rfl rfl rfl) ?_
  obtain ⟨t172, A173, H⟩ := bnd H
  refine st_call #[.pointer none, .int .i64 a2] rfl rfl Try.func37 (by kernel_rfl) rfl rfl (mp_ rfl) ?_
  refine (maxflow_Net_in.calls (.pointer none) (none : Option S74) a2 t172  (fun z_ => pal [(0, 0)] (C169_ z_)) w168 (fun _ => pal_lt rfl _) (ptr_nil _ _ _ _ _) A173).mono ?_
  rintro _ w175 ⟨C176, rfl, hs177⟩
  refine ⟨_, rfl, ?_⟩
  replace hs177 := Step.lift (U := [(0, 0)]) hs177 [] rfl rfl
  generalize up C169_ C176 w168.heap.size [(0, 0)] = C176_ at hs177
  replace HS := HS.trans hs177 hc rfl
  (try simp only [Act.put, List.setIfInBounds_toArray, ls0, ls1])
  refine on_guard (guard_on 4 false 16 rfl rfl rfl) ?_
  refine st (.bool (!t172)) rfl rfl (xr_un (.bool t172) _ rfl rfl (by first | rfl | (go_simp; done) | (go_simp; rfl) | (go_simp; exact i64_w _) | (go_simp; exact i32_w _))) ?_
  refine st (.bool (!t172)) rfl rfl (xr_pick false _ rfl rfl rfl) ?_
  refine mv_ rfl ?_
  by_cases c178 : t172 = true
  ·rw [if_pos c178] at H
   (try rw [c178])
   (try simp only [Bool.not_true, Bool.not_false])
   refine on_guard (guard_on 10 false 22 rfl rfl rfl) ?_
   refine mv_ rfl ?_
   simp only [ls0, ls1]
   refine on_guard (guard_on 10 false 22 rfl rfl rfl) ?_
   refine mv_ rfl ?_
   refine on_guard (guard_on 10 false 22 rfl rfl rfl) ?_
   refine st (.bool (decide (a1 = a2))) rfl rfl (xr_bin _ _ _ rfl rfl rfl (B.eql_i64 _ _)) ?_
   refine st (.bool (decide (a1 = a2))) rfl rfl (xr_pick false _ rfl rfl rfl) ?_
   refine mv_ rfl ?_
   simp only [ls0, ls1]
   by_cases c179 : a1 = a2
   ·rw [if_pos c179] at H
    (try rw [(decide_eq_true c179)])
    refine sk_guard (guard_off 15 false 27 rfl rfl true (by decide) rfl) rfl ?_
    refine sk_guard (guard_off 15 false 27 rfl rfl true (by decide) rfl) rfl ?_
    refine st (.bool true) rfl rfl (xr_pick true _ rfl rfl rfl) ?_
    refine mv_ rfl ?_
    simp only [ls0, ls1]
    refine sk_guard (guard_off 19 false 31 rfl rfl true (by decide) rfl) rfl ?_
    refine sk_guard (guard_off 19 false 31 rfl rfl true (by decide) rfl) rfl ?_
    refine st (.bool true) rfl rfl (xr_pick true _ rfl rfl rfl) ?_
    refine wl_end ?_
    (try simp only [ls0, ls1])
    exact jmp (fun g_ => hj153 _ _ _ (true) g_ HS (by omega) H) rfl
   rw [if_neg c179] at H
   (try rw [(decide_eq_false c179)])
   refine on_guard (guard_on 15 false 27 rfl rfl rfl) ?_
   refine mv_ rfl ?_
   refine on_guard (guard_on 15 false 27 rfl rfl rfl) ?_
   refine st (.bool (decide (a3 < 0))) rfl rfl (xr_bin _ _ _ rfl rfl rfl (B.lss_i64 _ _)) ?_
   refine st (.bool (decide (a3 < 0))) rfl rfl (xr_pick false _ rfl rfl rfl) ?_
   refine mv_ rfl ?_
   simp only [ls0, ls1]
   by_cases c180 : a3 < 0
   ·rw [if_pos c180] at H
    (try rw [(decide_eq_true c180)])
    refine sk_guard (guard_off 19 false 31 rfl rfl true (by decide) rfl) rfl ?_
    refine sk_guard (guard_off 19 false 31 rfl rfl true (by decide) rfl) rfl ?_
    refine st (.bool true) rfl rfl (xr_pick true _ rfl rfl rfl) ?_
    refine wl_end ?_
    (try simp only [ls0, ls1])
    exact jmp (fun g_ => hj153 _ _ _ (true) g_ HS (by omega) H) rfl
   rw [if_neg c180] at H
   (try rw [(decide_eq_false c180)])
   refine on_guard (guard_on 19 false 31 rfl rfl rfl) ?_
   refine mv_ rfl ?_
   refine on_guard (guard_on 19 false 31 rfl rfl rfl) ?_
   refine st (.bool (decide (a3 > 4611686018427387904))) rfl rfl (xr_bin _ _ _ rfl rfl rfl (B.gtr_i64 _ _)) ?_
   refine st (.bool (decide (a3 > 4611686018427387904))) rfl rfl (xr_pick false _ rfl rfl rfl) ?_
   refine wl_end ?_
   (try simp only [ls0, ls1])
   exact jmp (fun g_ => hj153 _ _ _ (decide (a3 > 4611686018427387904)) g_ HS (by omega) H) rfl
  rw [if_neg c178] at H
  (try rw [(Bool.eq_false_iff.mpr c178)])
  (try simp only [Bool.not_true, Bool.not_false])
  refine sk_guard (guard_off 10 false 22 rfl rfl true (by decide) rfl) rfl ?_
  refine sk_guard (guard_off 10 false 22 rfl rfl true (by decide) rfl) rfl ?_
  refine sk_guard (guard_off 10 false 22 rfl rfl true (by decide) rfl) rfl ?_
  refine st (.bool true) rfl rfl (xr_pick true _ rfl rfl rfl) ?_
  simp only [ls0, ls1]
  refine mv_ rfl ?_
  refine sk_guard (guard_off 15 false 27 rfl rfl true (by decide) rfl) rfl ?_
  refine sk_guard (guard_off 15 false 27 rfl rfl true (by decide) rfl) rfl ?_
  refine st (.bool true) rfl rfl (xr_pick true _ rfl rfl rfl) ?_
  simp only [ls0, ls1]
  refine mv_ rfl ?_
  refine sk_guard (guard_off 19 false 31 rfl rfl true (by decide) rfl) rfl ?_
  refine sk_guard (guard_off 19 false 31 rfl rfl true (by decide) rfl) rfl ?_
  refine st (.bool true) rfl rfl (xr_pick true _ rfl rfl rfl) ?_
  simp only [ls0, ls1]
  refine wl_end ?_
  (try simp only [ls0, ls1])
  exact jmp (fun g_ => hj153 _ _ _ (true) g_ HS (by omega) H) rfl
 rw [if_neg c171] at H
 (try rw [(Bool.eq_false_iff.mpr c171)])
 (try simp only [Bool.not_true, Bool.not_false])
 refine sk_guard (guard_off 4 false 16 rfl rfl true (by decide) rfl) rfl ?_
 refine sk_guard (guard_off 4 false 16 rfl rfl true (by decide) rfl) rfl ?_
 refine sk_guard (guard_off 4 false 16 rfl rfl true (by decide) rfl) rfl ?_
 refine sk_guard (guard_off 4 false 16 rfl rfl true (by decide) rfl) rfl ?_
 simp only [ls0, ls1]
 refine st (.bool true) rfl rfl (xr_pick true _ rfl rfl rfl) ?_
 refine mv_ rfl ?_
 refine sk_guard (guard_off 10 false 22 rfl rfl true (by decide) rfl) rfl ?_
 refine sk_guard (guard_off 10 false 22 rfl rfl true (by decide) rfl) rfl ?_
 simp only [ls0, ls1]
 refine sk_guard (guard_off 10 false 22 rfl rfl true (by decide) rfl) rfl ?_
 refine st (.bool true) rfl rfl (xr_pick true _ rfl rfl rfl) ?_
 refine mv_ rfl ?_
 refine sk_guard (guard_off 15 false 27 rfl rfl true (by decide) rfl) rfl ?_
 simp only [ls0, ls1]
 refine sk_guard (guard_off 15 false 27 rfl rfl true (by decide) rfl) rfl ?_
 refine st (.bool true) rfl rfl (xr_pick true _ rfl rfl rfl) ?_
 refine mv_ rfl ?_
 refine sk_guard (guard_off 19 false 31 rfl rfl true (by decide) rfl) rfl ?_
 simp only [ls0, ls1]
 refine sk_guard (guard_off 19 false 31 rfl rfl true (by decide) rfl) rfl ?_
 refine st (.bool true) rfl rfl (xr_pick true _ rfl rfl rfl) ?_
 refine wl_end ?_
 (try simp only [ls0, ls1])
 exact jmp (fun g_ => hj153 _ _ _ (true) g_ HS (by omega) H) rfl

/-! ### maxflow_Net_Side_nil: function 25 -/
def maxflow_Net_Side_nil.l0 : Nat → (List Int) → (List Bool) → Int → Option (List Bool)
  | 0, _, _, _ => none
  | k + 1, t119, x174, x181 => if x181 < (t119.length : Int) then (if 0 ≤ x181 then (if x174.length < 140737488355328 then ((some (x174 ++ [decide ((rd t119 x181) > 0)] : List Bool)).bind fun y200 => (maxflow_Net_Side_nil.l0 k t119 y200 (wrap64 (x181 + 1)))) else (none)) else (none)) else (some x174)
def maxflow_Net_Side_nil.f (k : Nat) (a1 : Int) : Option (List Bool) := (maxflow_Net_in.f (none : Option S74) a1).bind fun t109 => (if t109 = true then ((maxflow_Net_reach_nil_maxflow_Net_room.f k a1).bind fun t119 => (maxflow_Net_Side_nil.l0 k t119 ([] : List Bool) 0)) else (some ([] : List Bool)))

set_option maxHeartbeats 8000000 in
set_option maxRecDepth 100000 in
theorem maxflow_Net_Side_nil.calls (k : Nat) (a1 : Int) (r : List Bool) (c : Nat → Nat) (w : World) (hc : ∀ k, c k < 10)  (H : maxflow_Net_Side_nil.f k a1 = some r) :
    Calls Try.prog 25 #[.pointer none, .int .i64 a1] w fun e w' => ∃ (c' : Nat → Nat) (A_r : Option Addr) (c_r : Nat), e = .returned (.slice A_r r.length c_r) ∧ Step c w c' w' [] ∧ Own c' 5 w' Kd.bool 4 (.slice A_r r.length c_r) r ∧ r.length ≤ c_r := by
 unfold maxflow_Net_Side_nil.f at H
 have HS := Step.refl c w []
 go_enter Try.func25, Try.ntmps25
 refine wp_seq_k fun K106 hK106 => ?_
 refine wl_region ?_
 refine st (.slice none 0 0) rfl rfl (xr_assign _ rfl rfl) ?_
 refine wl_end ?_
 (try simp only [ls0, ls1])
 refine hK106 _ _ ?_
 (try clear hK106 K106)
 refine wp_seq_k fun K107 hK107 => ?_
 refine wp_seq_k fun K108 hK108 => ?_
 refine wl_region ?_
 refine mv_ rfl ?_
 refine mv_ rfl ?_
 obtain ⟨t109, A110, H⟩ := bnd H
 refine st_call #[.pointer none, .int .i64 a1] rfl rfl Try.func37 (by kernel_rfl) rfl rfl (mp_ rfl) ?_
 refine (maxflow_Net_in.calls (.pointer none) (none : Option S74) a1 t109  (fun z_ => pal [(0, 0)] (c z_)) w (fun _ => pal_lt rfl _) (ptr_nil _ _ _ _ _) A110).mono ?_
 rintro _ w112 ⟨C113, rfl, hs114⟩
 refine ⟨_, rfl, ?_⟩
 replace hs114 := Step.lift (U := [(0, 0)]) hs114 [] rfl rfl
 generalize up c C113 w.heap.size [(0, 0)] = C113_ at hs114
 replace HS := HS.trans hs114 hc rfl
 (try simp only [Act.put, List.setIfInBounds_toArray, ls0, ls1])
 refine st (.bool (!t109)) rfl rfl (xr_un (.bool t109) _ rfl rfl (by first | rfl | (go_simp; done) | (go_simp; rfl) | (go_simp; exact i64_w _) | (go_simp; exact i32_w _))) ?_
 refine wl_end ?_
 (try simp only [ls0, ls1])
 refine hK108 _ _ ?_
 (try clear hK108 K108)
 by_cases c115 : t109 = true
 ·rw [if_pos c115] at H
  (try rw [c115])
  (try simp only [Bool.not_true, Bool.not_false])
  refine wp_cond_false rfl ?_
  refine wp_skip ?_
  (try simp only [ls0, ls1])
  refine hK107 _ _ ?_
  (try clear hK107 K107)
  refine wp_seq_k fun K116 hK116 => ?_
  refine wl_region ?_
  refine st (.slice none 0 0) rfl rfl (xr_assign _ rfl rfl) ?_
  refine wl_end ?_
  (try simp only [ls0, ls1])
  refine hK116 _ _ ?_
  (try clear hK116 K116)
  refine wp_seq_k fun K117 hK117 => ?_
  refine wp_seq_k fun K118 hK118 => ?_
  refine wl_region ?_
  refine mv_ rfl ?_
  refine mv_ rfl ?_
  refine mv_ rfl ?_
  refine st (.func (.func 40) #[.pointer none] #[]) rfl rfl (xr_makeFunc #[.pointer none] #[] rfl (mp_ rfl) (mp_ rfl)) ?_
  simp only [ls0, ls1]
  obtain ⟨t119, A120, H⟩ := bnd H
  refine st_call #[.pointer none, .int .i64 a1, .func (.func 40) #[.pointer none] #[]] rfl rfl Try.func38 (by kernel_rfl) rfl rfl (mp_ rfl) ?_
  refine (maxflow_Net_reach_nil_maxflow_Net_room.calls k a1 t119  (fun z_ => pal [(0, 0)] (C113_ z_)) w112 (fun _ => pal_lt rfl _) A120).mono ?_
  rintro _ w122 ⟨C123, A125, cp126, rfl, hs124, HO127, HC128⟩
  refine ⟨_, rfl, ?_⟩
  replace HO127 := Own.resF (U := [(0, 0), (5, 11)]) (j := 11) (fun _ _ _ _ h_ => h_) HO127 hs124 (by rfl) (by decide) rfl
  replace hs124 := Step.lift (U := [(0, 0), (5, 11)]) hs124 [] rfl rfl
  generalize up C113_ C123 w112.heap.size [(0, 0), (5, 11)] = C123_ at HO127 hs124
  replace HS := HS.trans hs124 hc rfl
  (try simp only [Act.put, List.setIfInBounds_toArray, ls0, ls1])
  refine st (.int .i64 (t119.length : Int)) rfl rfl (xr_builtin #[.slice A125 t119.length cp126] (.int .i64 (t119.length : Int)) rfl (mp_ rfl) (by first | rfl | (go_simp; done) | (go_simp; rfl) | (go_simp; exact i64_w _) | (go_simp; exact i32_w _))) ?_
  refine st (.int .i64 0) rfl rfl (xr_move _ rfl rfl) ?_
  refine wl_end ?_
  (try simp only [ls0, ls1])
  refine hK118 _ _ ?_
  (try clear hK118 K118)
  refine wp_block ?_
  (try simp only [ls0, ls1])
  refine wp_looped (looped_fin (fun kq184 a_ w183 => ∃ (C182 : Nat → Nat) (x181 : Int) (A175 : Option Addr) (n176 cp177 : Nat) (x174 : List Bool) (g_ : Nat → Value), a_ = ⟨#[(g_ 0), (g_ 1), (g_ 2), (g_ 3), (g_ 4), .slice A175 n176 cp177, (g_ 6), (g_ 7), (g_ 8), (g_ 9), (g_ 10), (g_ 11), (g_ 12), (g_ 13), (g_ 14), (g_ 15), .slice A125 t119.length cp126, .int .i64 (t119.length : Int), .int .i64 x181, (g_ 19), (g_ 20), (g_ 21), (g_ 22), (g_ 23), (g_ 24), (g_ 25), (g_ 26), (g_ 27), (g_ 28)], []⟩ ∧ Step c w C182 w183 [] ∧ kq184 ≤ k ∧ (Own C182 12 w183 Kd.bool 4 (.slice A175 n176 cp177) x174) ∧ (n176 ≤ cp177) ∧ (Own C182 11 w183 (Kd.int .i64) 3 (.slice A125 t119.length cp126) t119) ∧ maxflow_Net_Side_nil.l0 kq184 t119 x174 x181 = some r) ?step fun hL_ => ?init)
  case init =>
   exact jmpL (fun a_ h_ => hL_ k a_ _ h_) (fun g_ => ⟨_, 0, none, 0, 0, ([] : List Bool), g_, rfl, HS, Nat.le_refl _, (Own.nil _ _ _ _ _), (Nat.le_refl 0), HO127, H⟩) rfl
  case step =>
   intro kq184 ih187 a188 w183 hr189
   obtain ⟨C182, x181, A175, n176, cp177, x174, g_, rfl, HS185, hk186, HJ179, HC178, HJ180, H⟩ := hr189
   refine looped_round ?_
   obtain rfl : n176 = x174.length := HJ179.at_.1
   cases kq184 with
   | zero => exact absurd H (by simp [maxflow_Net_Side_nil.l0])
   | succ k190 =>
    simp only [maxflow_Net_Side_nil.l0] at H
    refine wp_seq_k fun K191 hK191 => ?_
    refine wl_region ?_
    refine st (.bool (decide (x181 < (t119.length : Int)))) rfl rfl (xr_bin _ _ _ rfl rfl rfl (B.lss_i64 _ _)) ?_
    refine wl_end ?_
    (try simp only [ls0, ls1])
    refine hK191 _ _ ?_
    (try clear hK191 K191)
    refine wp_seq_k fun K192 hK192 => ?_
    by_cases c193 : x181 < (t119.length : Int)
    ·rw [if_pos c193] at H
     (try rw [(decide_eq_true c193)])
     refine wp_cond_true rfl ?_
     refine wp_skip ?_
     (try simp only [ls0, ls1])
     refine hK192 _ _ ?_
     (try clear hK192 K192)
     refine wp_seq_k fun K194 hK194 => ?_
     refine wp_block ?_
     refine wp_seq_k fun K195 hK195 => ?_
     refine wl_region ?_
     obtain ⟨c196, H⟩ := if_some H
     obtain ⟨g197, hA198⟩ := HJ180.form (pos_of (j := x181) (by first | assumption | decide) (by first | assumption | omega))
     refine st (.pointer (some ((⟨g197, 0, none⟩ : Addr).add ((x181 : Int).toNat * 1)))) rfl rfl (xr_indexAddr _ _ _ rfl rfl rfl (index_at Try.underlying47 info3 hA198 (by first | assumption | decide | omega) (by first | assumption | decide | omega))) ?_
     refine st (.int .i64 (rd t119 x181)) rfl rfl (xr_load _ _ rfl rfl (load_int Try.underlying3 rfl hA198 (Ft.now (HJ180.ft)) (by first | assumption | decide | omega) (by first | assumption | decide | omega))) ?_
     refine as_ rfl ?_
     refine wl_end ?_
     (try simp only [ls0, ls1])
     refine hK195 _ _ ?_
     (try clear hK195 K195)
     refine wl_region ?_
     refine mv_ rfl ?_
     refine mv_ rfl ?_
     refine st (.bool (decide ((rd t119 x181) > 0))) rfl rfl (xr_bin _ _ _ rfl rfl rfl (B.gtr_i64 _ _)) ?_
     refine ev_run (w1 := w183.alloc (.cells #[.bool (decide ((rd t119 x181) > 0))] 4)) (.slice (some ⟨w183.heap.size, 0, none⟩) 1 1) rfl rfl (by first | (go_simp; done) | (go_simp; rfl)) ?_
     (try simp only [Act.put, List.setIfInBounds_toArray, ls0, ls1])
     obtain ⟨c199, H⟩ := if_some H
     obtain ⟨y200, A201, H⟩ := bnd H
     refine Own.append Kd.bool (C := C182) (i := 12) rfl (.tmp 22) (.tmp 25) 43 4 (.bool false) 1 rfl Try.underlying43 info4 rfl (by decide) (by decide) (.slice A175 x174.length cp177) x174 (decide ((rd t119 x181) > 0)) [.bool (decide ((rd t119 x181) > 0))] rfl rfl (fk_bool _ _ (decide ((rd t119 x181) > 0))) HJ179 (by decide) (by omega) (Option.some.inj A201) ?_
     intro A202 cp203 w204 C205 HO206 HC207 hs208
     replace HJ180 := HJ180.thru hs208 rfl
     replace HS185 := HS185.trans hs208 hc rfl
     (try simp only [Act.put, List.setIfInBounds_toArray, ls0, ls1])
     refine as_ rfl ?_
     refine wl_end ?_
     (try simp only [ls0, ls1])
     refine hK194 _ _ ?_
     (try clear hK194 K194)
     refine wl_region ?_
     refine st (.int .i64 (wrap64 (x181 + 1))) rfl rfl (xr_bin _ _ _ rfl rfl rfl (B.add_i64 _ _)) ?_
     refine mv_ rfl ?_
     refine wl_end ?_
     (try simp only [ls0, ls1])
     exact jmpL (fun a_ h_ => ih187 k190 (by omega) a_ _ h_) (fun g_ => ⟨_, wrap64 (x181 + 1), A202, y200.length, cp203, y200, g_, rfl, HS185, (by omega), HO206, HC207, HJ180, H⟩) rfl
    rw [if_neg c193] at H
    (try rw [(decide_eq_false c193)])
    refine wp_cond_false rfl ?_
    refine wp_exit ?_
    (try simp only [ls0, ls1])
    refine hK117 _ _ ?_
    (try clear hK117 K117)
    refine wp_seq_k fun K209 hK209 => ?_
    refine wl_region ?_
    refine mv_ rfl ?_
    refine as_ rfl ?_
    refine wl_end ?_
    (try simp only [ls0, ls1])
    refine hK209 _ _ ?_
    (try clear hK209 K209)
    refine wp_ret ?_
    (try simp only [Exit.inBlock, Exit.then, Exit.noGoto])
    (try simp only [ls0, ls1])
    replace HJ179 := Own.recolor (b := 5) HJ179 (by decide)
    replace HJ180 := Own.recol (a := 12) (b := 5) HJ180 (by decide) (by decide)
    replace HS185 := Step.recol (a := 12) (b := 5) HS185 hc (by decide)
    obtain rfl := Option.some.inj H
    refine bodyPost_ret (results_tmp rfl _ _ _) rfl ?_
    exact ⟨_, A175, cp177, rfl, HS185, HJ179, HC178⟩
 rw [if_neg c115] at H
 (try rw [(Bool.eq_false_iff.mpr c115)])
 (try simp only [Bool.not_true, Bool.not_false])
 refine wp_cond_true rfl ?_
 refine wp_seq_k fun K210 hK210 => ?_
 refine wl_region ?_
 refine st (.slice none 0 0) rfl rfl (xr_assign _ rfl rfl) ?_
 refine wl_end ?_
 (try simp only [ls0, ls1])
 refine hK210 _ _ ?_
 (try clear hK210 K210)
 refine wp_ret ?_
 (try simp only [Exit.inBlock, Exit.then, Exit.noGoto])
 (try simp only [ls0, ls1])
 obtain rfl := Option.some.inj H
 refine bodyPost_ret (results_tmp rfl _ _ _) rfl ?_
 exact ⟨_, none, 0, rfl, HS, (Own.nil _ _ _ _ _), (Nat.le_refl 0)⟩

end Go.Proofs.Ytdkbmchbkkhpoaa.PMfr
