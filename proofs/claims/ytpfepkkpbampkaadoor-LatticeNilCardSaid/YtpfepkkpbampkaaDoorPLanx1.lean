-- By cprint.py, a program of this work. Lean checks it.
import Derived.Test.YtpfepkkpbampkaaDoorPLanx0
namespace Go.Proofs.YtpfepkkpbampkaaDoor.PLan
open Go.RowKit Go.Proofs.YtpfepkkpbampkaaDoorW.PrintWords Go.Proofs.YtpfepkkpbampkaaDoorW.PrintLast Go.Proofs.YtpfepkkpbampkaaDoorW.PrintMore
set_option linter.unusedVariables false
set_option linter.unusedSimpArgs false

/-! ### order_Order_Len: function 21 -/
def order_Order_Len.f (x0 : Option S81) : Option (Int) := onOpt x0 (some 0) (fun o15 => (some (o15.f0.length : Int)))
set_option maxHeartbeats 2000000 in
set_option maxRecDepth 100000 in
theorem order_Order_Len.calls (v0 : Value) (x0 : Option S81) (r : Int) (c : Nat → Nat) (w : World) (hc : ∀ k, c k < 10) (HP0 : Ft c [0] w (fun w_ => (Kd.ptr 81 k81).K w_ x0 [v0])) (H : order_Order_Len.f x0 = some r) :
    Calls Tryd.prog 21 #[v0] w fun e w' => ∃ (c' : Nat → Nat) , e = .returned (.int .i64 r) ∧ Step c w c' w' [] := by
 unfold order_Order_Len.f at H
 have HS := Step.refl c w []
 go_enter Tryd.func21, Tryd.ntmps21
 refine wp_seq_k fun K12 hK12 => ?_
 refine wl_region ?_
 refine st (.int .i64 0) rfl rfl (xr_assign _ rfl rfl) ?_
 refine wl_end ?_
 (try simp only [Act.put, List.setIfInBounds_toArray, ls0, ls1])
 refine hK12 _ _ ?_
 (try clear hK12 K12)
 refine wp_seq_k fun K13 hK13 => ?_
 refine wp_seq_k fun K14 hK14 => ?_
 refine wl_region ?_
 refine st (v0) rfl rfl (xr_move _ rfl rfl) ?_
 cases x0 with
 | none =>
  (try simp only [onOpt] at H)
  obtain rfl := ptr_none HP0
  refine st (.bool true) rfl rfl (xr_bin (.pointer none) (.pointer none) (.bool true) rfl rfl rfl (B.eql_nn ⟨_, Tryd.underlying26⟩ (⟨0, 0, none⟩ : Addr))) ?_
  refine wl_end ?_
  (try simp only [Act.put, List.setIfInBounds_toArray, ls0, ls1])
  refine hK14 _ _ ?_
  (try clear hK14 K14)
  refine wp_cond_true rfl ?_
  refine wp_seq_k fun K16 hK16 => ?_
  refine wl_region ?_
  refine st (.int .i64 0) rfl rfl (xr_assign _ rfl rfl) ?_
  refine wl_end ?_
  (try simp only [Act.put, List.setIfInBounds_toArray, ls0, ls1])
  refine hK16 _ _ ?_
  (try clear hK16 K16)
  refine wp_ret ?_
  (try simp only [Exit.inBlock, Exit.then, Exit.noGoto])
  (try simp only [Act.put, List.setIfInBounds_toArray, ls0, ls1])
  obtain rfl := Option.some.inj H
  refine bodyPost_ret (results_tmp rfl _ _ _) rfl ?_
  exact ⟨_, rfl, HS⟩
 | some o15 =>
  (try simp only [onOpt] at H)
  obtain ⟨g17, cs18, rfl, HX19, HK20⟩ := ptr_some HP0
  obtain ⟨Aq21_0, cpq21_0, vq21_1, rfl, HCq21_0, HRq21_0, HRq21_1, HLq21_2, HLq21_3⟩ := k81_openF HK20
  replace HRq21_0 : Ft c [0] w (fun w_ => Kd.string.C w_ Aq21_0 o15.f0.length o15.f0) := HRq21_0
  replace HRq21_1 : Ft c [0] w (fun w_ => (Kd.mp Value.string (Value.int .i64)).K w_ o15.f1 [vq21_1]) := HRq21_1
  refine st (.bool false) rfl rfl (xr_bin (.pointer (some ⟨g17, 0, none⟩)) (.pointer none) (.bool false) rfl rfl rfl (B.eql_pn ⟨_, Tryd.underlying26⟩ ⟨g17, 0, none⟩)) ?_
  refine wl_end ?_
  (try simp only [Act.put, List.setIfInBounds_toArray, ls0, ls1])
  refine hK14 _ _ ?_
  (try clear hK14 K14)
  refine wp_cond_false rfl ?_
  refine wp_skip ?_
  (try simp only [Act.put, List.setIfInBounds_toArray, ls0, ls1])
  refine hK13 _ _ ?_
  (try clear hK13 K13)
  refine wp_seq_k fun K22 hK22 => ?_
  refine wl_region ?_
  refine st (.pointer (some ⟨g17, 0, none⟩)) rfl rfl (xr_move _ rfl rfl) ?_
  refine st (.pointer (some ⟨g17, 0, none⟩)) rfl rfl (xr_nilCheck _ rfl rfl) ?_
  refine st (.pointer (some ⟨g17, 0, none⟩)) rfl rfl (xr_fieldAddr _ _ rfl rfl (bx_field2 Tryd.underlying81 rfl rfl (by kernel_rfl))) ?_
  refine st (.slice Aq21_0 o15.f0.length cpq21_0) rfl rfl (xr_load _ _ rfl rfl (load_cell Tryd.underlying30 rfl (bx_cell (Ft.now HX19) 0 rfl))) ?_
  simp only [ls0, ls1]
  refine st (.int .i64 (o15.f0.length : Int)) rfl rfl (xr_builtin #[.slice Aq21_0 o15.f0.length cpq21_0] (.int .i64 (o15.f0.length : Int)) rfl (mp_ rfl) (by first | rfl | (go_simp; done) | (go_simp; rfl) | (go_simp; exact i64_w _) | (go_simp; exact i32_w _))) ?_
  refine st (.int .i64 (o15.f0.length : Int)) rfl rfl (xr_assign _ rfl rfl) ?_
  refine wl_end ?_
  (try simp only [Act.put, List.setIfInBounds_toArray, ls0, ls1])
  refine hK22 _ _ ?_
  (try clear hK22 K22)
  refine wp_ret ?_
  (try simp only [Exit.inBlock, Exit.then, Exit.noGoto])
  (try simp only [Act.put, List.setIfInBounds_toArray, ls0, ls1])
  obtain rfl := Option.some.inj H
  refine bodyPost_ret (results_tmp rfl _ _ _) rfl ?_
  exact ⟨_, rfl, HS⟩

/-! ### order_Order_in: function 64 -/
def order_Order_in.f (x0 : Option S81) (a1 : Int) : Option (Bool) := if a1 ≥ 0 then ((order_Order_Len.f x0).bind fun t35 => (some (decide (a1 < t35)))) else (some false)
set_option maxHeartbeats 2000000 in
set_option maxRecDepth 100000 in
theorem order_Order_in.calls (v0 : Value) (x0 : Option S81) (a1 : Int) (r : Bool) (c : Nat → Nat) (w : World) (hc : ∀ k, c k < 10) (HP0 : Ft c [0] w (fun w_ => (Kd.ptr 81 k81).K w_ x0 [v0])) (H : order_Order_in.f x0 a1 = some r) :
    Calls Tryd.prog 64 #[v0, .int .i64 a1] w fun e w' => ∃ (c' : Nat → Nat) , e = .returned (.bool r) ∧ Step c w c' w' [] := by
 unfold order_Order_in.f at H
 have HS := Step.refl c w []
 go_enter Tryd.func64, Tryd.ntmps64
 refine wp_seq_k fun K32 hK32 => ?_
 refine wl_region ?_
 refine st (.bool false) rfl rfl (xr_assign _ rfl rfl) ?_
 refine wl_end ?_
 (try simp only [Act.put, List.setIfInBounds_toArray, ls0, ls1])
 refine hK32 _ _ ?_
 (try clear hK32 K32)
 refine wp_seq_k fun K33 hK33 => ?_
 refine wl_region ?_
 refine st (.int .i64 a1) rfl rfl (xr_move _ rfl rfl) ?_
 refine st (.bool (decide (a1 ≥ 0))) rfl rfl (xr_bin _ _ _ rfl rfl rfl (B.geq_i64 _ _)) ?_
 refine st (.bool (decide (a1 ≥ 0))) rfl rfl (xr_move _ rfl rfl) ?_
 by_cases c34 : a1 ≥ 0
 ·rw [if_pos c34] at H
  (try rw [(decide_eq_true c34)])
  (try simp only [Bool.not_true, Bool.not_false])
  refine on_guard (guard_on 2 true 7 rfl rfl rfl) ?_
  refine st (.int .i64 a1) rfl rfl (xr_move _ rfl rfl) ?_
  simp only [ls0, ls1]
  refine on_guard (guard_on 2 true 7 rfl rfl rfl) ?_
  refine st (v0) rfl rfl (xr_move _ rfl rfl) ?_
  refine on_guard (guard_on 2 true 7 rfl rfl rfl) ?_
  obtain ⟨t35, A36, H⟩ := Option.bind_eq_some_iff.mp H
  (try dsimp only at H)
  refine st_call #[v0] rfl rfl Tryd.func21 (by kernel_rfl) rfl rfl (mp_ rfl) ?_
  refine (order_Order_Len.calls v0 x0 t35  (fun z_ => pal [(0, 0)] (c z_)) w (fun _ => pal_lt rfl _) (Ft.arg HP0 rfl) A36).mono ?_
  rintro _ w38 ⟨C39, rfl, hs40⟩
  refine ⟨_, rfl, ?_⟩
  replace hs40 := Step.lift (U := [(0, 0)]) hs40 [] rfl rfl
  generalize up c C39 w.heap.size [(0, 0)] = C39_ at hs40
  replace HS := HS.trans hs40 hc rfl
  (try simp only [Act.put, List.setIfInBounds_toArray, ls0, ls1])
  refine on_guard (guard_on 2 true 7 rfl rfl rfl) ?_
  refine st (.bool (decide (a1 < t35))) rfl rfl (xr_bin _ _ _ rfl rfl rfl (B.lss_i64 _ _)) ?_
  refine st (.bool (decide (a1 < t35))) rfl rfl (xr_pick true _ rfl rfl rfl) ?_
  refine st (.bool (decide (a1 < t35))) rfl rfl (xr_assign _ rfl rfl) ?_
  refine wl_end ?_
  (try simp only [Act.put, List.setIfInBounds_toArray, ls0, ls1])
  refine hK33 _ _ ?_
  (try clear hK33 K33)
  refine wp_ret ?_
  (try simp only [Exit.inBlock, Exit.then, Exit.noGoto])
  (try simp only [Act.put, List.setIfInBounds_toArray, ls0, ls1])
  obtain rfl := Option.some.inj H
  refine bodyPost_ret (results_tmp rfl _ _ _) rfl ?_
  exact ⟨_, rfl, HS⟩
 ·rw [if_neg c34] at H
  (try rw [(decide_eq_false c34)])
  (try simp only [Bool.not_true, Bool.not_false])
  refine sk_guard (guard_off 2 true 7 rfl rfl false (by decide) rfl) rfl ?_
  refine sk_guard (guard_off 2 true 7 rfl rfl false (by decide) rfl) rfl ?_
  refine sk_guard (guard_off 2 true 7 rfl rfl false (by decide) rfl) rfl ?_
  refine sk_guard (guard_off 2 true 7 rfl rfl false (by decide) rfl) rfl ?_
  simp only [ls0, ls1]
  refine st (.bool false) rfl rfl (xr_pick false _ rfl rfl rfl) ?_
  refine st (.bool false) rfl rfl (xr_assign _ rfl rfl) ?_
  refine wl_end ?_
  (try simp only [Act.put, List.setIfInBounds_toArray, ls0, ls1])
  refine hK33 _ _ ?_
  (try clear hK33 K33)
  refine wp_ret ?_
  (try simp only [Exit.inBlock, Exit.then, Exit.noGoto])
  (try simp only [Act.put, List.setIfInBounds_toArray, ls0, ls1])
  obtain rfl := Option.some.inj H
  refine bodyPost_ret (results_tmp rfl _ _ _) rfl ?_
  exact ⟨_, rfl, HS⟩

/-! ### order_Order_Most: function 24 -/
def order_Order_Most.f (x0 : Option S81) (a1 : Int) (a2 : Int) : Option (Bool) := (order_Order_in.f x0 a1).bind fun t68 => (if t68 = true then ((order_Order_in.f x0 a2).bind fun t75 => (if t75 = true then (onOpt x0 (none) (fun o82 => (if 0 ≤ a1 then (if a1 < 64 then (if 0 ≤ (IntKind.u64.wrap (a2)) then (some (decide ((Go.bits .and .u64 (shr .u64 (List.getD o82.f2 ((a1 : Int).toNat) 0) (IntKind.u64.wrap (a2))) 1) = 1))) else (none)) else (none)) else (none)))) else (some false))) else (some false))
set_option maxHeartbeats 2000000 in
set_option maxRecDepth 100000 in
theorem order_Order_Most.calls (v0 : Value) (x0 : Option S81) (a1 : Int) (a2 : Int) (r : Bool) (c : Nat → Nat) (w : World) (hc : ∀ k, c k < 10) (HP0 : Ft c [0] w (fun w_ => (Kd.ptr 81 k81).K w_ x0 [v0])) (H : order_Order_Most.f x0 a1 a2 = some r) :
    Calls Tryd.prog 24 #[v0, .int .i64 a1, .int .i64 a2] w fun e w' => ∃ (c' : Nat → Nat) , e = .returned (.bool r) ∧ Step c w c' w' [] := by
 unfold order_Order_Most.f at H
 have HS := Step.refl c w []
 go_enter Tryd.func24, Tryd.ntmps24
 refine wp_seq_k fun K66 hK66 => ?_
 refine wl_region ?_
 refine st (.bool false) rfl rfl (xr_assign _ rfl rfl) ?_
 refine wl_end ?_
 (try simp only [Act.put, List.setIfInBounds_toArray, ls0, ls1])
 refine hK66 _ _ ?_
 (try clear hK66 K66)
 refine wp_seq_k fun K67 hK67 => ?_
 refine wl_region ?_
 refine st (v0) rfl rfl (xr_move _ rfl rfl) ?_
 refine st (.int .i64 a1) rfl rfl (xr_move _ rfl rfl) ?_
 obtain ⟨t68, A69, H⟩ := Option.bind_eq_some_iff.mp H
 (try dsimp only at H)
 refine st_call #[v0, .int .i64 a1] rfl rfl Tryd.func64 (by kernel_rfl) rfl rfl (mp_ rfl) ?_
 refine (order_Order_in.calls v0 x0 a1 t68  (fun z_ => pal [(0, 0)] (c z_)) w (fun _ => pal_lt rfl _) (Ft.arg HP0 rfl) A69).mono ?_
 rintro _ w71 ⟨C72, rfl, hs73⟩
 refine ⟨_, rfl, ?_⟩
 replace hs73 := Step.lift (U := [(0, 0)]) hs73 [] rfl rfl
 generalize up c C72 w.heap.size [(0, 0)] = C72_ at hs73
 replace HP0 := HP0.thru hs73 rfl
 replace HS := HS.trans hs73 hc rfl
 (try simp only [Act.put, List.setIfInBounds_toArray, ls0, ls1])
 refine st (.bool t68) rfl rfl (xr_move _ rfl rfl) ?_
 by_cases c74 : t68 = true
 ·rw [if_pos c74] at H
  (try rw [c74])
  (try simp only [Bool.not_true, Bool.not_false])
  refine on_guard (guard_on 3 true 10 rfl rfl rfl) ?_
  refine st (v0) rfl rfl (xr_move _ rfl rfl) ?_
  refine on_guard (guard_on 3 true 10 rfl rfl rfl) ?_
  refine st (.int .i64 a2) rfl rfl (xr_move _ rfl rfl) ?_
  refine on_guard (guard_on 3 true 10 rfl rfl rfl) ?_
  obtain ⟨t75, A76, H⟩ := Option.bind_eq_some_iff.mp H
  (try dsimp only at H)
  refine st_call #[v0, .int .i64 a2] rfl rfl Tryd.func64 (by kernel_rfl) rfl rfl (mp_ rfl) ?_
  refine (order_Order_in.calls v0 x0 a2 t75  (fun z_ => pal [(0, 0)] (C72_ z_)) w71 (fun _ => pal_lt rfl _) (Ft.arg HP0 rfl) A76).mono ?_
  rintro _ w78 ⟨C79, rfl, hs80⟩
  refine ⟨_, rfl, ?_⟩
  replace hs80 := Step.lift (U := [(0, 0)]) hs80 [] rfl rfl
  generalize up C72_ C79 w71.heap.size [(0, 0)] = C79_ at hs80
  replace HP0 := HP0.thru hs80 rfl
  replace HS := HS.trans hs80 hc rfl
  (try simp only [Act.put, List.setIfInBounds_toArray, ls0, ls1])
  refine st (.bool t75) rfl rfl (xr_pick true _ rfl rfl rfl) ?_
  refine st (.bool t75) rfl rfl (xr_move _ rfl rfl) ?_
  by_cases c81 : t75 = true
  ·rw [if_pos c81] at H
   (try rw [c81])
   (try simp only [Bool.not_true, Bool.not_false])
   refine on_guard (guard_on 8 true 15 rfl rfl rfl) ?_
   refine st (v0) rfl rfl (xr_move _ rfl rfl) ?_
   refine on_guard (guard_on 8 true 15 rfl rfl rfl) ?_
   refine st (.int .i64 a1) rfl rfl (xr_move _ rfl rfl) ?_
   simp only [ls0, ls1]
   refine on_guard (guard_on 8 true 15 rfl rfl rfl) ?_
   cases x0 with
   | none =>
    (try simp only [onOpt] at H)
    obtain rfl := ptr_none HP0
    exact absurd H (by simp)
   | some o82 =>
    (try simp only [onOpt] at H)
    obtain ⟨g83, cs84, rfl, HX85, HK86⟩ := ptr_some HP0
    obtain ⟨Aq87_0, cpq87_0, vq87_1, rfl, HCq87_0, HRq87_0, HRq87_1, HLq87_2, HLq87_3⟩ := k81_openF HK86
    replace HRq87_0 : Ft C79_ [0] w78 (fun w_ => Kd.string.C w_ Aq87_0 o82.f0.length o82.f0) := HRq87_0
    replace HRq87_1 : Ft C79_ [0] w78 (fun w_ => (Kd.mp Value.string (Value.int .i64)).K w_ o82.f1 [vq87_1]) := HRq87_1
    refine st (.pointer (some ⟨g83, 0, none⟩)) rfl rfl (xr_nilCheck _ rfl rfl) ?_
    refine on_guard (guard_on 8 true 15 rfl rfl rfl) ?_
    refine st (.pointer (some ⟨g83, 2, none⟩)) rfl rfl (xr_fieldAddr _ _ rfl rfl (bx_field2 Tryd.underlying81 rfl rfl (by kernel_rfl))) ?_
    refine on_guard (guard_on 8 true 15 rfl rfl rfl) ?_
    by_cases c88 : 0 ≤ a1
    ·rw [if_pos c88] at H
     by_cases c89 : a1 < 64
     ·rw [if_pos c89] at H
      refine st (.pointer (some ⟨g83, 2 + ((a1 : Int).toNat), none⟩)) rfl rfl (xr_indexAddr _ _ _ rfl rfl rfl (arr_index (sz := 1) Tryd.underlying79 (by kernel_rfl) (by first | assumption | decide | omega) (by first | assumption | decide | omega) (by omega))) ?_
      refine on_guard (guard_on 8 true 15 rfl rfl rfl) ?_
      refine st (.int .u64 (List.getD o82.f2 ((a1 : Int).toNat) 0)) rfl rfl (xr_load _ _ rfl rfl (arr_load (o := 2) (N := 64) (pre := [.slice Aq87_0 o82.f0.length cpq87_0, vq87_1]) (post := List.map (Value.int .u64) o82.f3) (enc := (Value.int .u64)) (l := o82.f2) (i := (a1 : Int).toNat) 0 Tryd.underlying58 rfl (Ft.now HX85) (by first | (simp only [List.append_assoc, List.cons_append, List.nil_append, List.append_nil]; done) | rfl) rfl HLq87_2 (by omega) (by omega))) ?_
      simp only [ls0, ls1]
      refine on_guard (guard_on 8 true 15 rfl rfl rfl) ?_
      refine st (.int .i64 a2) rfl rfl (xr_move _ rfl rfl) ?_
      refine on_guard (guard_on 8 true 15 rfl rfl rfl) ?_
      refine st (.int .u64 (IntKind.u64.wrap (a2))) rfl rfl (xr_conv (.int .i64 a2) _ rfl rfl (by first | rfl | (go_simp; done) | (go_simp; rfl) | (go_simp; exact i64_w _) | (go_simp; exact i32_w _))) ?_
      refine on_guard (guard_on 8 true 15 rfl rfl rfl) ?_
      by_cases c90 : 0 ≤ (IntKind.u64.wrap (a2))
      ·rw [if_pos c90] at H
       refine st (.int .u64 (shr .u64 (List.getD o82.f2 ((a1 : Int).toNat) 0) (IntKind.u64.wrap (a2)))) rfl rfl (xr_bin _ _ _ rfl rfl rfl (B.shr_u64_u64 _ _ (by assumption))) ?_
       refine on_guard (guard_on 8 true 15 rfl rfl rfl) ?_
       refine st (.int .u64 (Go.bits .and .u64 (shr .u64 (List.getD o82.f2 ((a1 : Int).toNat) 0) (IntKind.u64.wrap (a2))) 1)) rfl rfl (xr_bin _ _ _ rfl rfl rfl (B.and_u64 _ _)) ?_
       simp only [ls0, ls1]
       refine on_guard (guard_on 8 true 15 rfl rfl rfl) ?_
       refine st (.bool (decide ((Go.bits .and .u64 (shr .u64 (List.getD o82.f2 ((a1 : Int).toNat) 0) (IntKind.u64.wrap (a2))) 1) = 1))) rfl rfl (xr_bin _ _ _ rfl rfl rfl (B.eql_u64 _ _)) ?_
       refine st (.bool (decide ((Go.bits .and .u64 (shr .u64 (List.getD o82.f2 ((a1 : Int).toNat) 0) (IntKind.u64.wrap (a2))) 1) = 1))) rfl rfl (xr_pick true _ rfl rfl rfl) ?_
       refine st (.bool (decide ((Go.bits .and .u64 (shr .u64 (List.getD o82.f2 ((a1 : Int).toNat) 0) (IntKind.u64.wrap (a2))) 1) = 1))) rfl rfl (xr_assign _ rfl rfl) ?_
       refine wl_end ?_
       (try simp only [Act.put, List.setIfInBounds_toArray, ls0, ls1])
       refine hK67 _ _ ?_
       (try clear hK67 K67)
       refine wp_ret ?_
       (try simp only [Exit.inBlock, Exit.then, Exit.noGoto])
       (try simp only [Act.put, List.setIfInBounds_toArray, ls0, ls1])
       obtain rfl := Option.some.inj H
       refine bodyPost_ret (results_tmp rfl _ _ _) rfl ?_
       exact ⟨_, rfl, HS⟩
      ·rw [if_neg c90] at H
       exact absurd H (by simp)
     ·rw [if_neg c89] at H
      exact absurd H (by simp)
    ·rw [if_neg c88] at H
     exact absurd H (by simp)
  ·rw [if_neg c81] at H
   (try rw [(Bool.eq_false_iff.mpr c81)])
   (try simp only [Bool.not_true, Bool.not_false])
   refine sk_guard (guard_off 8 true 15 rfl rfl false (by decide) rfl) rfl ?_
   refine sk_guard (guard_off 8 true 15 rfl rfl false (by decide) rfl) rfl ?_
   refine sk_guard (guard_off 8 true 15 rfl rfl false (by decide) rfl) rfl ?_
   refine sk_guard (guard_off 8 true 15 rfl rfl false (by decide) rfl) rfl ?_
   simp only [ls0, ls1]
   refine sk_guard (guard_off 8 true 15 rfl rfl false (by decide) rfl) rfl ?_
   refine sk_guard (guard_off 8 true 15 rfl rfl false (by decide) rfl) rfl ?_
   refine sk_guard (guard_off 8 true 15 rfl rfl false (by decide) rfl) rfl ?_
   refine sk_guard (guard_off 8 true 15 rfl rfl false (by decide) rfl) rfl ?_
   simp only [ls0, ls1]
   refine sk_guard (guard_off 8 true 15 rfl rfl false (by decide) rfl) rfl ?_
   refine sk_guard (guard_off 8 true 15 rfl rfl false (by decide) rfl) rfl ?_
   refine sk_guard (guard_off 8 true 15 rfl rfl false (by decide) rfl) rfl ?_
   refine st (.bool false) rfl rfl (xr_pick false _ rfl rfl rfl) ?_
   simp only [ls0, ls1]
   refine st (.bool false) rfl rfl (xr_assign _ rfl rfl) ?_
   refine wl_end ?_
   (try simp only [Act.put, List.setIfInBounds_toArray, ls0, ls1])
   refine hK67 _ _ ?_
   (try clear hK67 K67)
   refine wp_ret ?_
   (try simp only [Exit.inBlock, Exit.then, Exit.noGoto])
   (try simp only [Act.put, List.setIfInBounds_toArray, ls0, ls1])
   obtain rfl := Option.some.inj H
   refine bodyPost_ret (results_tmp rfl _ _ _) rfl ?_
   exact ⟨_, rfl, HS⟩
 ·rw [if_neg c74] at H
  (try rw [(Bool.eq_false_iff.mpr c74)])
  (try simp only [Bool.not_true, Bool.not_false])
  refine sk_guard (guard_off 3 true 10 rfl rfl false (by decide) rfl) rfl ?_
  refine sk_guard (guard_off 3 true 10 rfl rfl false (by decide) rfl) rfl ?_
  refine sk_guard (guard_off 3 true 10 rfl rfl false (by decide) rfl) rfl ?_
  refine st (.bool false) rfl rfl (xr_pick false _ rfl rfl rfl) ?_
  simp only [ls0, ls1]
  refine st (.bool false) rfl rfl (xr_move _ rfl rfl) ?_
  refine sk_guard (guard_off 8 true 15 rfl rfl false (by decide) rfl) rfl ?_
  refine sk_guard (guard_off 8 true 15 rfl rfl false (by decide) rfl) rfl ?_
  refine sk_guard (guard_off 8 true 15 rfl rfl false (by decide) rfl) rfl ?_
  simp only [ls0, ls1]
  refine sk_guard (guard_off 8 true 15 rfl rfl false (by decide) rfl) rfl ?_
  refine sk_guard (guard_off 8 true 15 rfl rfl false (by decide) rfl) rfl ?_
  refine sk_guard (guard_off 8 true 15 rfl rfl false (by decide) rfl) rfl ?_
  refine sk_guard (guard_off 8 true 15 rfl rfl false (by decide) rfl) rfl ?_
  simp only [ls0, ls1]
  refine sk_guard (guard_off 8 true 15 rfl rfl false (by decide) rfl) rfl ?_
  refine sk_guard (guard_off 8 true 15 rfl rfl false (by decide) rfl) rfl ?_
  refine sk_guard (guard_off 8 true 15 rfl rfl false (by decide) rfl) rfl ?_
  refine sk_guard (guard_off 8 true 15 rfl rfl false (by decide) rfl) rfl ?_
  simp only [ls0, ls1]
  refine st (.bool false) rfl rfl (xr_pick false _ rfl rfl rfl) ?_
  refine st (.bool false) rfl rfl (xr_assign _ rfl rfl) ?_
  refine wl_end ?_
  (try simp only [Act.put, List.setIfInBounds_toArray, ls0, ls1])
  refine hK67 _ _ ?_
  (try clear hK67 K67)
  refine wp_ret ?_
  (try simp only [Exit.inBlock, Exit.then, Exit.noGoto])
  (try simp only [Act.put, List.setIfInBounds_toArray, ls0, ls1])
  obtain rfl := Option.some.inj H
  refine bodyPost_ret (results_tmp rfl _ _ _) rfl ?_
  exact ⟨_, rfl, HS⟩

/-! ### lex_Keyword: function 83 -/
def lex_Keyword.j0 (x204 : Bool) : Option (Bool) := if x204 = true then (some true) else (some false)
def lex_Keyword.f (a0 : ByteArray) : Option (Bool) := if a0 = (⟨#[105, 109, 112, 111, 114, 116]⟩ : ByteArray) then (lex_Keyword.j0 true) else (if a0 = (⟨#[108, 97, 116, 116, 105, 99, 101]⟩ : ByteArray) then (lex_Keyword.j0 true) else (if a0 = (⟨#[101, 102, 102, 101, 99, 116, 115]⟩ : ByteArray) then (lex_Keyword.j0 true) else (if a0 = (⟨#[118, 97, 114]⟩ : ByteArray) then (lex_Keyword.j0 true) else (if a0 = (⟨#[102, 110]⟩ : ByteArray) then (lex_Keyword.j0 true) else (if a0 = (⟨#[108, 101, 116]⟩ : ByteArray) then (lex_Keyword.j0 true) else (if a0 = (⟨#[105, 102]⟩ : ByteArray) then (lex_Keyword.j0 true) else (if a0 = (⟨#[101, 108, 115, 101]⟩ : ByteArray) then (lex_Keyword.j0 true) else (if a0 = (⟨#[119, 104, 105, 108, 101]⟩ : ByteArray) then (lex_Keyword.j0 true) else (if a0 = (⟨#[114, 101, 116, 117, 114, 110]⟩ : ByteArray) then (lex_Keyword.j0 true) else (if a0 = (⟨#[100, 111]⟩ : ByteArray) then (lex_Keyword.j0 true) else (if a0 = (⟨#[116, 114, 117, 101]⟩ : ByteArray) then (lex_Keyword.j0 true) else (if a0 = (⟨#[102, 97, 108, 115, 101]⟩ : ByteArray) then (lex_Keyword.j0 true) else (if a0 = (⟨#[105, 110, 116]⟩ : ByteArray) then (lex_Keyword.j0 true) else (if a0 = (⟨#[98, 111, 111, 108]⟩ : ByteArray) then (lex_Keyword.j0 true) else (lex_Keyword.j0 (decide (a0 = (⟨#[100, 101, 99, 108, 97, 115, 115, 105, 102, 121]⟩ : ByteArray))))))))))))))))))
set_option maxHeartbeats 2000000 in
set_option maxRecDepth 100000 in
theorem lex_Keyword.calls (a0 : ByteArray) (r : Bool) (c : Nat → Nat) (w : World) (hc : ∀ k, c k < 10)  (H : lex_Keyword.f a0 = some r) :
    Calls Tryd.prog 83 #[.string a0] w fun e w' => ∃ (c' : Nat → Nat) , e = .returned (.bool r) ∧ Step c w c' w' [] := by
 unfold lex_Keyword.f at H
 have HS := Step.refl c w []
 go_enter Tryd.func83, Tryd.ntmps83
 refine wp_seq_k fun K166 hK166 => ?_
 refine wl_region ?_
 refine st (.bool false) rfl rfl (xr_assign _ rfl rfl) ?_
 refine wl_end ?_
 (try simp only [Act.put, List.setIfInBounds_toArray, ls0, ls1])
 refine hK166 _ _ ?_
 (try clear hK166 K166)
 refine wp_seq_k fun K167 hK167 => ?_
 refine wp_seq_k fun K168 hK168 => ?_
 refine wl_region ?_
 refine st (.string a0) rfl rfl (xr_move _ rfl rfl) ?_
 refine wl_end ?_
 (try simp only [Act.put, List.setIfInBounds_toArray, ls0, ls1])
 refine hK168 _ _ ?_
 (try clear hK168 K168)
 refine wp_block ?_
 refine wp_seq_k fun K169 hK169 => ?_
 have hj200 : ∀ (C201 : Nat → Nat) (w202 : World) (x204 : Bool) (g205 : Nat → Value), Step c w C201 w202 [] → lex_Keyword.j0 x204 = some r → K169 ⟨#[(g205 0), (g205 1), (g205 2), (g205 3), .bool x204, (g205 5), (g205 6), (g205 7), (g205 8), (g205 9), (g205 10), (g205 11), (g205 12), (g205 13), (g205 14), (g205 15), (g205 16), (g205 17), (g205 18), (g205 19), (g205 20)], []⟩ w202 := by
  intro C201 w202 x204 g205 HS203  H
  unfold lex_Keyword.j0 at H
  refine hK169 _ _ ?_
  (try clear hK169)
  by_cases c208 : x204 = true
  ·rw [if_pos c208] at H
   (try rw [c208])
   (try simp only [Bool.not_true, Bool.not_false])
   refine wp_cond_true rfl ?_
   refine wp_seq_k fun K209 hK209 => ?_
   refine wl_region ?_
   refine st (.bool true) rfl rfl (xr_assign _ rfl rfl) ?_
   refine wl_end ?_
   (try simp only [Act.put, List.setIfInBounds_toArray, ls0, ls1])
   refine hK209 _ _ ?_
   (try clear hK209 K209)
   refine wp_ret ?_
   (try simp only [Exit.inBlock, Exit.then, Exit.noGoto])
   (try simp only [Act.put, List.setIfInBounds_toArray, ls0, ls1])
   obtain rfl := Option.some.inj H
   refine bodyPost_ret (results_tmp rfl _ _ _) rfl ?_
   exact ⟨_, rfl, HS203⟩
  ·rw [if_neg c208] at H
   (try rw [(Bool.eq_false_iff.mpr c208)])
   (try simp only [Bool.not_true, Bool.not_false])
   refine wp_cond_false rfl ?_
   refine wp_skip ?_
   (try simp only [Act.put, List.setIfInBounds_toArray, ls0, ls1])
   refine hK167 _ _ ?_
   (try clear hK167 K167)
   refine wp_seq_k fun K210 hK210 => ?_
   refine wl_region ?_
   refine st (.bool false) rfl rfl (xr_assign _ rfl rfl) ?_
   refine wl_end ?_
   (try simp only [Act.put, List.setIfInBounds_toArray, ls0, ls1])
   refine hK210 _ _ ?_
   (try clear hK210 K210)
   refine wp_ret ?_
   (try simp only [Exit.inBlock, Exit.then, Exit.noGoto])
   (try simp only [Act.put, List.setIfInBounds_toArray, ls0, ls1])
   obtain rfl := Option.some.inj H
   refine bodyPost_ret (results_tmp rfl _ _ _) rfl ?_
   exact ⟨_, rfl, HS203⟩
 refine wp_seq_k fun K211 hK211 => ?_
 refine wl_region ?_
 refine st (.bool (decide (a0 = (⟨#[105, 109, 112, 111, 114, 116]⟩ : ByteArray)))) rfl rfl (xr_bin _ _ _ rfl rfl rfl (B.eql_str _ _)) ?_
 refine st (.bool (decide (a0 = (⟨#[105, 109, 112, 111, 114, 116]⟩ : ByteArray)))) rfl rfl (xr_assign _ rfl rfl) ?_
 refine wl_end ?_
 (try simp only [Act.put, List.setIfInBounds_toArray, ls0, ls1])
 refine hK211 _ _ ?_
 (try clear hK211 K211)
 by_cases c212 : a0 = (⟨#[105, 109, 112, 111, 114, 116]⟩ : ByteArray)
 ·rw [if_pos c212] at H
  (try rw [(decide_eq_true c212)])
  (try simp only [Bool.not_true, Bool.not_false])
  refine wp_cond_true rfl ?_
  refine wp_skip ?_
  (try simp only [Act.put, List.setIfInBounds_toArray, ls0, ls1])
  exact hj200 _ _ (true) (fun q_ => List.getD [.string a0, undef, .bool false, .string a0, undef, .bool true, undef, undef, undef, undef, undef, undef, undef, undef, undef, undef, undef, undef, undef, undef, undef] q_ undef)  HS H
 ·rw [if_neg c212] at H
  (try rw [(decide_eq_false c212)])
  (try simp only [Bool.not_true, Bool.not_false])
  refine wp_cond_false rfl ?_
  refine wp_seq_k fun K213 hK213 => ?_
  refine wl_region ?_
  refine st (.bool (decide (a0 = (⟨#[108, 97, 116, 116, 105, 99, 101]⟩ : ByteArray)))) rfl rfl (xr_bin _ _ _ rfl rfl rfl (B.eql_str _ _)) ?_
  refine st (.bool (decide (a0 = (⟨#[108, 97, 116, 116, 105, 99, 101]⟩ : ByteArray)))) rfl rfl (xr_assign _ rfl rfl) ?_
  refine wl_end ?_
  (try simp only [Act.put, List.setIfInBounds_toArray, ls0, ls1])
  refine hK213 _ _ ?_
  (try clear hK213 K213)
  by_cases c214 : a0 = (⟨#[108, 97, 116, 116, 105, 99, 101]⟩ : ByteArray)
  ·rw [if_pos c214] at H
   (try rw [(decide_eq_true c214)])
   (try simp only [Bool.not_true, Bool.not_false])
   refine wp_cond_true rfl ?_
   refine wp_skip ?_
   (try simp only [Act.put, List.setIfInBounds_toArray, ls0, ls1])
   exact hj200 _ _ (true) (fun q_ => List.getD [.string a0, undef, .bool false, .string a0, undef, .bool false, .bool true, undef, undef, undef, undef, undef, undef, undef, undef, undef, undef, undef, undef, undef, undef] q_ undef)  HS H
  ·rw [if_neg c214] at H
   (try rw [(decide_eq_false c214)])
   (try simp only [Bool.not_true, Bool.not_false])
   refine wp_cond_false rfl ?_
   refine wp_seq_k fun K215 hK215 => ?_
   refine wl_region ?_
   refine st (.bool (decide (a0 = (⟨#[101, 102, 102, 101, 99, 116, 115]⟩ : ByteArray)))) rfl rfl (xr_bin _ _ _ rfl rfl rfl (B.eql_str _ _)) ?_
   refine st (.bool (decide (a0 = (⟨#[101, 102, 102, 101, 99, 116, 115]⟩ : ByteArray)))) rfl rfl (xr_assign _ rfl rfl) ?_
   refine wl_end ?_
   (try simp only [Act.put, List.setIfInBounds_toArray, ls0, ls1])
   refine hK215 _ _ ?_
   (try clear hK215 K215)
   by_cases c216 : a0 = (⟨#[101, 102, 102, 101, 99, 116, 115]⟩ : ByteArray)
   ·rw [if_pos c216] at H
    (try rw [(decide_eq_true c216)])
    (try simp only [Bool.not_true, Bool.not_false])
    refine wp_cond_true rfl ?_
    refine wp_skip ?_
    (try simp only [Act.put, List.setIfInBounds_toArray, ls0, ls1])
    exact hj200 _ _ (true) (fun q_ => List.getD [.string a0, undef, .bool false, .string a0, undef, .bool false, .bool false, .bool true, undef, undef, undef, undef, undef, undef, undef, undef, undef, undef, undef, undef, undef] q_ undef)  HS H
   ·rw [if_neg c216] at H
    (try rw [(decide_eq_false c216)])
    (try simp only [Bool.not_true, Bool.not_false])
    refine wp_cond_false rfl ?_
    refine wp_seq_k fun K217 hK217 => ?_
    refine wl_region ?_
    refine st (.bool (decide (a0 = (⟨#[118, 97, 114]⟩ : ByteArray)))) rfl rfl (xr_bin _ _ _ rfl rfl rfl (B.eql_str _ _)) ?_
    refine st (.bool (decide (a0 = (⟨#[118, 97, 114]⟩ : ByteArray)))) rfl rfl (xr_assign _ rfl rfl) ?_
    refine wl_end ?_
    (try simp only [Act.put, List.setIfInBounds_toArray, ls0, ls1])
    refine hK217 _ _ ?_
    (try clear hK217 K217)
    by_cases c218 : a0 = (⟨#[118, 97, 114]⟩ : ByteArray)
    ·rw [if_pos c218] at H
     (try rw [(decide_eq_true c218)])
     (try simp only [Bool.not_true, Bool.not_false])
     refine wp_cond_true rfl ?_
     refine wp_skip ?_
     (try simp only [Act.put, List.setIfInBounds_toArray, ls0, ls1])
     exact hj200 _ _ (true) (fun q_ => List.getD [.string a0, undef, .bool false, .string a0, undef, .bool false, .bool false, .bool false, .bool true, undef, undef, undef, undef, undef, undef, undef, undef, undef, undef, undef, undef] q_ undef)  HS H
    ·rw [if_neg c218] at H
     (try rw [(decide_eq_false c218)])
     (try simp only [Bool.not_true, Bool.not_false])
     refine wp_cond_false rfl ?_
     refine wp_seq_k fun K219 hK219 => ?_
     refine wl_region ?_
     refine st (.bool (decide (a0 = (⟨#[102, 110]⟩ : ByteArray)))) rfl rfl (xr_bin _ _ _ rfl rfl rfl (B.eql_str _ _)) ?_
     refine st (.bool (decide (a0 = (⟨#[102, 110]⟩ : ByteArray)))) rfl rfl (xr_assign _ rfl rfl) ?_
     refine wl_end ?_
     (try simp only [Act.put, List.setIfInBounds_toArray, ls0, ls1])
     refine hK219 _ _ ?_
     (try clear hK219 K219)
     by_cases c220 : a0 = (⟨#[102, 110]⟩ : ByteArray)
     ·rw [if_pos c220] at H
      (try rw [(decide_eq_true c220)])
      (try simp only [Bool.not_true, Bool.not_false])
      refine wp_cond_true rfl ?_
      refine wp_skip ?_
      (try simp only [Act.put, List.setIfInBounds_toArray, ls0, ls1])
      exact hj200 _ _ (true) (fun q_ => List.getD [.string a0, undef, .bool false, .string a0, undef, .bool false, .bool false, .bool false, .bool false, .bool true, undef, undef, undef, undef, undef, undef, undef, undef, undef, undef, undef] q_ undef)  HS H
     ·rw [if_neg c220] at H
      (try rw [(decide_eq_false c220)])
      (try simp only [Bool.not_true, Bool.not_false])
      refine wp_cond_false rfl ?_
      refine wp_seq_k fun K221 hK221 => ?_
      refine wl_region ?_
      refine st (.bool (decide (a0 = (⟨#[108, 101, 116]⟩ : ByteArray)))) rfl rfl (xr_bin _ _ _ rfl rfl rfl (B.eql_str _ _)) ?_
      refine st (.bool (decide (a0 = (⟨#[108, 101, 116]⟩ : ByteArray)))) rfl rfl (xr_assign _ rfl rfl) ?_
      refine wl_end ?_
      (try simp only [Act.put, List.setIfInBounds_toArray, ls0, ls1])
      refine hK221 _ _ ?_
      (try clear hK221 K221)
      by_cases c222 : a0 = (⟨#[108, 101, 116]⟩ : ByteArray)
      ·rw [if_pos c222] at H
       (try rw [(decide_eq_true c222)])
       (try simp only [Bool.not_true, Bool.not_false])
       refine wp_cond_true rfl ?_
       refine wp_skip ?_
       (try simp only [Act.put, List.setIfInBounds_toArray, ls0, ls1])
       exact hj200 _ _ (true) (fun q_ => List.getD [.string a0, undef, .bool false, .string a0, undef, .bool false, .bool false, .bool false, .bool false, .bool false, .bool true, undef, undef, undef, undef, undef, undef, undef, undef, undef, undef] q_ undef)  HS H
      ·rw [if_neg c222] at H
       (try rw [(decide_eq_false c222)])
       (try simp only [Bool.not_true, Bool.not_false])
       refine wp_cond_false rfl ?_
       refine wp_seq_k fun K223 hK223 => ?_
       refine wl_region ?_
       refine st (.bool (decide (a0 = (⟨#[105, 102]⟩ : ByteArray)))) rfl rfl (xr_bin _ _ _ rfl rfl rfl (B.eql_str _ _)) ?_
       refine st (.bool (decide (a0 = (⟨#[105, 102]⟩ : ByteArray)))) rfl rfl (xr_assign _ rfl rfl) ?_
       refine wl_end ?_
       (try simp only [Act.put, List.setIfInBounds_toArray, ls0, ls1])
       refine hK223 _ _ ?_
       (try clear hK223 K223)
       by_cases c224 : a0 = (⟨#[105, 102]⟩ : ByteArray)
       ·rw [if_pos c224] at H
        (try rw [(decide_eq_true c224)])
        (try simp only [Bool.not_true, Bool.not_false])
        refine wp_cond_true rfl ?_
        refine wp_skip ?_
        (try simp only [Act.put, List.setIfInBounds_toArray, ls0, ls1])
        exact hj200 _ _ (true) (fun q_ => List.getD [.string a0, undef, .bool false, .string a0, undef, .bool false, .bool false, .bool false, .bool false, .bool false, .bool false, .bool true, undef, undef, undef, undef, undef, undef, undef, undef, undef] q_ undef)  HS H
       ·rw [if_neg c224] at H
        (try rw [(decide_eq_false c224)])
        (try simp only [Bool.not_true, Bool.not_false])
        refine wp_cond_false rfl ?_
        refine wp_seq_k fun K225 hK225 => ?_
        refine wl_region ?_
        refine st (.bool (decide (a0 = (⟨#[101, 108, 115, 101]⟩ : ByteArray)))) rfl rfl (xr_bin _ _ _ rfl rfl rfl (B.eql_str _ _)) ?_
        refine st (.bool (decide (a0 = (⟨#[101, 108, 115, 101]⟩ : ByteArray)))) rfl rfl (xr_assign _ rfl rfl) ?_
        refine wl_end ?_
        (try simp only [Act.put, List.setIfInBounds_toArray, ls0, ls1])
        refine hK225 _ _ ?_
        (try clear hK225 K225)
        by_cases c226 : a0 = (⟨#[101, 108, 115, 101]⟩ : ByteArray)
        ·rw [if_pos c226] at H
         (try rw [(decide_eq_true c226)])
         (try simp only [Bool.not_true, Bool.not_false])
         refine wp_cond_true rfl ?_
         refine wp_skip ?_
         (try simp only [Act.put, List.setIfInBounds_toArray, ls0, ls1])
         exact hj200 _ _ (true) (fun q_ => List.getD [.string a0, undef, .bool false, .string a0, undef, .bool false, .bool false, .bool false, .bool false, .bool false, .bool false, .bool false, .bool true, undef, undef, undef, undef, undef, undef, undef, undef] q_ undef)  HS H
        ·rw [if_neg c226] at H
         (try rw [(decide_eq_false c226)])
         (try simp only [Bool.not_true, Bool.not_false])
         refine wp_cond_false rfl ?_
         refine wp_seq_k fun K227 hK227 => ?_
         refine wl_region ?_
         refine st (.bool (decide (a0 = (⟨#[119, 104, 105, 108, 101]⟩ : ByteArray)))) rfl rfl (xr_bin _ _ _ rfl rfl rfl (B.eql_str _ _)) ?_
         refine st (.bool (decide (a0 = (⟨#[119, 104, 105, 108, 101]⟩ : ByteArray)))) rfl rfl (xr_assign _ rfl rfl) ?_
         refine wl_end ?_
         (try simp only [Act.put, List.setIfInBounds_toArray, ls0, ls1])
         refine hK227 _ _ ?_
         (try clear hK227 K227)
         by_cases c228 : a0 = (⟨#[119, 104, 105, 108, 101]⟩ : ByteArray)
         ·rw [if_pos c228] at H
          (try rw [(decide_eq_true c228)])
          (try simp only [Bool.not_true, Bool.not_false])
          refine wp_cond_true rfl ?_
          refine wp_skip ?_
          (try simp only [Act.put, List.setIfInBounds_toArray, ls0, ls1])
          exact hj200 _ _ (true) (fun q_ => List.getD [.string a0, undef, .bool false, .string a0, undef, .bool false, .bool false, .bool false, .bool false, .bool false, .bool false, .bool false, .bool false, .bool true, undef, undef, undef, undef, undef, undef, undef] q_ undef)  HS H
         ·rw [if_neg c228] at H
          (try rw [(decide_eq_false c228)])
          (try simp only [Bool.not_true, Bool.not_false])
          refine wp_cond_false rfl ?_
          refine wp_seq_k fun K229 hK229 => ?_
          refine wl_region ?_
          refine st (.bool (decide (a0 = (⟨#[114, 101, 116, 117, 114, 110]⟩ : ByteArray)))) rfl rfl (xr_bin _ _ _ rfl rfl rfl (B.eql_str _ _)) ?_
          refine st (.bool (decide (a0 = (⟨#[114, 101, 116, 117, 114, 110]⟩ : ByteArray)))) rfl rfl (xr_assign _ rfl rfl) ?_
          refine wl_end ?_
          (try simp only [Act.put, List.setIfInBounds_toArray, ls0, ls1])
          refine hK229 _ _ ?_
          (try clear hK229 K229)
          by_cases c230 : a0 = (⟨#[114, 101, 116, 117, 114, 110]⟩ : ByteArray)
          ·rw [if_pos c230] at H
           (try rw [(decide_eq_true c230)])
           (try simp only [Bool.not_true, Bool.not_false])
           refine wp_cond_true rfl ?_
           refine wp_skip ?_
           (try simp only [Act.put, List.setIfInBounds_toArray, ls0, ls1])
           exact hj200 _ _ (true) (fun q_ => List.getD [.string a0, undef, .bool false, .string a0, undef, .bool false, .bool false, .bool false, .bool false, .bool false, .bool false, .bool false, .bool false, .bool false, .bool true, undef, undef, undef, undef, undef, undef] q_ undef)  HS H
          ·rw [if_neg c230] at H
           (try rw [(decide_eq_false c230)])
           (try simp only [Bool.not_true, Bool.not_false])
           refine wp_cond_false rfl ?_
           refine wp_seq_k fun K231 hK231 => ?_
           refine wl_region ?_
           refine st (.bool (decide (a0 = (⟨#[100, 111]⟩ : ByteArray)))) rfl rfl (xr_bin _ _ _ rfl rfl rfl (B.eql_str _ _)) ?_
           refine st (.bool (decide (a0 = (⟨#[100, 111]⟩ : ByteArray)))) rfl rfl (xr_assign _ rfl rfl) ?_
           refine wl_end ?_
           (try simp only [Act.put, List.setIfInBounds_toArray, ls0, ls1])
           refine hK231 _ _ ?_
           (try clear hK231 K231)
           by_cases c232 : a0 = (⟨#[100, 111]⟩ : ByteArray)
           ·rw [if_pos c232] at H
            (try rw [(decide_eq_true c232)])
            (try simp only [Bool.not_true, Bool.not_false])
            refine wp_cond_true rfl ?_
            refine wp_skip ?_
            (try simp only [Act.put, List.setIfInBounds_toArray, ls0, ls1])
            exact hj200 _ _ (true) (fun q_ => List.getD [.string a0, undef, .bool false, .string a0, undef, .bool false, .bool false, .bool false, .bool false, .bool false, .bool false, .bool false, .bool false, .bool false, .bool false, .bool true, undef, undef, undef, undef, undef] q_ undef)  HS H
           ·rw [if_neg c232] at H
            (try rw [(decide_eq_false c232)])
            (try simp only [Bool.not_true, Bool.not_false])
            refine wp_cond_false rfl ?_
            refine wp_seq_k fun K233 hK233 => ?_
            refine wl_region ?_
            refine st (.bool (decide (a0 = (⟨#[116, 114, 117, 101]⟩ : ByteArray)))) rfl rfl (xr_bin _ _ _ rfl rfl rfl (B.eql_str _ _)) ?_
            refine st (.bool (decide (a0 = (⟨#[116, 114, 117, 101]⟩ : ByteArray)))) rfl rfl (xr_assign _ rfl rfl) ?_
            refine wl_end ?_
            (try simp only [Act.put, List.setIfInBounds_toArray, ls0, ls1])
            refine hK233 _ _ ?_
            (try clear hK233 K233)
            by_cases c234 : a0 = (⟨#[116, 114, 117, 101]⟩ : ByteArray)
            ·rw [if_pos c234] at H
             (try rw [(decide_eq_true c234)])
             (try simp only [Bool.not_true, Bool.not_false])
             refine wp_cond_true rfl ?_
             refine wp_skip ?_
             (try simp only [Act.put, List.setIfInBounds_toArray, ls0, ls1])
             exact hj200 _ _ (true) (fun q_ => List.getD [.string a0, undef, .bool false, .string a0, undef, .bool false, .bool false, .bool false, .bool false, .bool false, .bool false, .bool false, .bool false, .bool false, .bool false, .bool false, .bool true, undef, undef, undef, undef] q_ undef)  HS H
            ·rw [if_neg c234] at H
             (try rw [(decide_eq_false c234)])
             (try simp only [Bool.not_true, Bool.not_false])
             refine wp_cond_false rfl ?_
             refine wp_seq_k fun K235 hK235 => ?_
             refine wl_region ?_
             refine st (.bool (decide (a0 = (⟨#[102, 97, 108, 115, 101]⟩ : ByteArray)))) rfl rfl (xr_bin _ _ _ rfl rfl rfl (B.eql_str _ _)) ?_
             refine st (.bool (decide (a0 = (⟨#[102, 97, 108, 115, 101]⟩ : ByteArray)))) rfl rfl (xr_assign _ rfl rfl) ?_
             refine wl_end ?_
             (try simp only [Act.put, List.setIfInBounds_toArray, ls0, ls1])
             refine hK235 _ _ ?_
             (try clear hK235 K235)
             by_cases c236 : a0 = (⟨#[102, 97, 108, 115, 101]⟩ : ByteArray)
             ·rw [if_pos c236] at H
              (try rw [(decide_eq_true c236)])
              (try simp only [Bool.not_true, Bool.not_false])
              refine wp_cond_true rfl ?_
              refine wp_skip ?_
              (try simp only [Act.put, List.setIfInBounds_toArray, ls0, ls1])
              exact hj200 _ _ (true) (fun q_ => List.getD [.string a0, undef, .bool false, .string a0, undef, .bool false, .bool false, .bool false, .bool false, .bool false, .bool false, .bool false, .bool false, .bool false, .bool false, .bool false, .bool false, .bool true, undef, undef, undef] q_ undef)  HS H
             ·rw [if_neg c236] at H
              (try rw [(decide_eq_false c236)])
              (try simp only [Bool.not_true, Bool.not_false])
              refine wp_cond_false rfl ?_
              refine wp_seq_k fun K237 hK237 => ?_
              refine wl_region ?_
              refine st (.bool (decide (a0 = (⟨#[105, 110, 116]⟩ : ByteArray)))) rfl rfl (xr_bin _ _ _ rfl rfl rfl (B.eql_str _ _)) ?_
              refine st (.bool (decide (a0 = (⟨#[105, 110, 116]⟩ : ByteArray)))) rfl rfl (xr_assign _ rfl rfl) ?_
              refine wl_end ?_
              (try simp only [Act.put, List.setIfInBounds_toArray, ls0, ls1])
              refine hK237 _ _ ?_
              (try clear hK237 K237)
              by_cases c238 : a0 = (⟨#[105, 110, 116]⟩ : ByteArray)
              ·rw [if_pos c238] at H
               (try rw [(decide_eq_true c238)])
               (try simp only [Bool.not_true, Bool.not_false])
               refine wp_cond_true rfl ?_
               refine wp_skip ?_
               (try simp only [Act.put, List.setIfInBounds_toArray, ls0, ls1])
               exact hj200 _ _ (true) (fun q_ => List.getD [.string a0, undef, .bool false, .string a0, undef, .bool false, .bool false, .bool false, .bool false, .bool false, .bool false, .bool false, .bool false, .bool false, .bool false, .bool false, .bool false, .bool false, .bool true, undef, undef] q_ undef)  HS H
              ·rw [if_neg c238] at H
               (try rw [(decide_eq_false c238)])
               (try simp only [Bool.not_true, Bool.not_false])
               refine wp_cond_false rfl ?_
               refine wp_seq_k fun K239 hK239 => ?_
               refine wl_region ?_
               refine st (.bool (decide (a0 = (⟨#[98, 111, 111, 108]⟩ : ByteArray)))) rfl rfl (xr_bin _ _ _ rfl rfl rfl (B.eql_str _ _)) ?_
               refine st (.bool (decide (a0 = (⟨#[98, 111, 111, 108]⟩ : ByteArray)))) rfl rfl (xr_assign _ rfl rfl) ?_
               refine wl_end ?_
               (try simp only [Act.put, List.setIfInBounds_toArray, ls0, ls1])
               refine hK239 _ _ ?_
               (try clear hK239 K239)
               by_cases c240 : a0 = (⟨#[98, 111, 111, 108]⟩ : ByteArray)
               ·rw [if_pos c240] at H
                (try rw [(decide_eq_true c240)])
                (try simp only [Bool.not_true, Bool.not_false])
                refine wp_cond_true rfl ?_
                refine wp_skip ?_
                (try simp only [Act.put, List.setIfInBounds_toArray, ls0, ls1])
                exact hj200 _ _ (true) (fun q_ => List.getD [.string a0, undef, .bool false, .string a0, undef, .bool false, .bool false, .bool false, .bool false, .bool false, .bool false, .bool false, .bool false, .bool false, .bool false, .bool false, .bool false, .bool false, .bool false, .bool true, undef] q_ undef)  HS H
               ·rw [if_neg c240] at H
                (try rw [(decide_eq_false c240)])
                (try simp only [Bool.not_true, Bool.not_false])
                refine wp_cond_false rfl ?_
                refine wl_region ?_
                refine st (.bool (decide (a0 = (⟨#[100, 101, 99, 108, 97, 115, 115, 105, 102, 121]⟩ : ByteArray)))) rfl rfl (xr_bin _ _ _ rfl rfl rfl (B.eql_str _ _)) ?_
                refine st (.bool (decide (a0 = (⟨#[100, 101, 99, 108, 97, 115, 115, 105, 102, 121]⟩ : ByteArray)))) rfl rfl (xr_assign _ rfl rfl) ?_
                refine wl_end ?_
                (try simp only [Act.put, List.setIfInBounds_toArray, ls0, ls1])
                exact hj200 _ _ (decide (a0 = (⟨#[100, 101, 99, 108, 97, 115, 115, 105, 102, 121]⟩ : ByteArray))) (fun q_ => List.getD [.string a0, undef, .bool false, .string a0, undef, .bool false, .bool false, .bool false, .bool false, .bool false, .bool false, .bool false, .bool false, .bool false, .bool false, .bool false, .bool false, .bool false, .bool false, .bool false, .bool (decide (a0 = (⟨#[100, 101, 99, 108, 97, 115, 115, 105, 102, 121]⟩ : ByteArray)))] q_ undef)  HS H

/-! ### lex_letter: function 84 -/
def lex_letter.f (a0 : Int) : Option (Bool) := if (Go.bits .or .u8 a0 32) ≥ 97 then (if (Go.bits .or .u8 a0 32) ≤ 122 then (some true) else (some (decide (a0 = 95)))) else (some (decide (a0 = 95)))
set_option maxHeartbeats 2000000 in
set_option maxRecDepth 100000 in
theorem lex_letter.calls (a0 : Int) (r : Bool) (c : Nat → Nat) (w : World) (hc : ∀ k, c k < 10)  (H : lex_letter.f a0 = some r) :
    Calls Tryd.prog 84 #[.int .u8 a0] w fun e w' => ∃ (c' : Nat → Nat) , e = .returned (.bool r) ∧ Step c w c' w' [] := by
 unfold lex_letter.f at H
 have HS := Step.refl c w []
 go_enter Tryd.func84, Tryd.ntmps84
 refine wp_seq_k fun K245 hK245 => ?_
 refine wl_region ?_
 refine st (.bool false) rfl rfl (xr_assign _ rfl rfl) ?_
 refine wl_end ?_
 (try simp only [Act.put, List.setIfInBounds_toArray, ls0, ls1])
 refine hK245 _ _ ?_
 (try clear hK245 K245)
 refine wp_seq_k fun K246 hK246 => ?_
 refine wl_region ?_
 refine st (.int .u8 a0) rfl rfl (xr_move _ rfl rfl) ?_
 refine st (.int .u8 (Go.bits .or .u8 a0 32)) rfl rfl (xr_bin _ _ _ rfl rfl rfl (B.or_u8 _ _)) ?_
 refine st (.bool (decide ((Go.bits .or .u8 a0 32) ≥ 97))) rfl rfl (xr_bin _ _ _ rfl rfl rfl (B.geq_u8 _ _)) ?_
 refine st (.bool (decide ((Go.bits .or .u8 a0 32) ≥ 97))) rfl rfl (xr_move _ rfl rfl) ?_
 simp only [ls0, ls1]
 by_cases c247 : (Go.bits .or .u8 a0 32) ≥ 97
 ·rw [if_pos c247] at H
  (try rw [(decide_eq_true c247)])
  (try simp only [Bool.not_true, Bool.not_false])
  refine on_guard (guard_on 3 true 6 rfl rfl rfl) ?_
  refine st (.int .u8 a0) rfl rfl (xr_move _ rfl rfl) ?_
  refine on_guard (guard_on 3 true 6 rfl rfl rfl) ?_
  refine st (.int .u8 (Go.bits .or .u8 a0 32)) rfl rfl (xr_bin _ _ _ rfl rfl rfl (B.or_u8 _ _)) ?_
  refine on_guard (guard_on 3 true 6 rfl rfl rfl) ?_
  refine st (.bool (decide ((Go.bits .or .u8 a0 32) ≤ 122))) rfl rfl (xr_bin _ _ _ rfl rfl rfl (B.leq_u8 _ _)) ?_
  refine st (.bool (decide ((Go.bits .or .u8 a0 32) ≤ 122))) rfl rfl (xr_pick true _ rfl rfl rfl) ?_
  simp only [ls0, ls1]
  refine st (.bool (decide ((Go.bits .or .u8 a0 32) ≤ 122))) rfl rfl (xr_move _ rfl rfl) ?_
  by_cases c248 : (Go.bits .or .u8 a0 32) ≤ 122
  ·rw [if_pos c248] at H
   (try rw [(decide_eq_true c248)])
   (try simp only [Bool.not_true, Bool.not_false])
   refine sk_guard (guard_off 8 false 11 rfl rfl true (by decide) rfl) rfl ?_
   refine sk_guard (guard_off 8 false 11 rfl rfl true (by decide) rfl) rfl ?_
   refine st (.bool true) rfl rfl (xr_pick true _ rfl rfl rfl) ?_
   simp only [ls0, ls1]
   refine st (.bool true) rfl rfl (xr_assign _ rfl rfl) ?_
   refine wl_end ?_
   (try simp only [Act.put, List.setIfInBounds_toArray, ls0, ls1])
   refine hK246 _ _ ?_
   (try clear hK246 K246)
   refine wp_ret ?_
   (try simp only [Exit.inBlock, Exit.then, Exit.noGoto])
   (try simp only [Act.put, List.setIfInBounds_toArray, ls0, ls1])
   obtain rfl := Option.some.inj H
   refine bodyPost_ret (results_tmp rfl _ _ _) rfl ?_
   exact ⟨_, rfl, HS⟩
  ·rw [if_neg c248] at H
   (try rw [(decide_eq_false c248)])
   (try simp only [Bool.not_true, Bool.not_false])
   refine on_guard (guard_on 8 false 11 rfl rfl rfl) ?_
   refine st (.int .u8 a0) rfl rfl (xr_move _ rfl rfl) ?_
   refine on_guard (guard_on 8 false 11 rfl rfl rfl) ?_
   refine st (.bool (decide (a0 = 95))) rfl rfl (xr_bin _ _ _ rfl rfl rfl (B.eql_u8 _ _)) ?_
   refine st (.bool (decide (a0 = 95))) rfl rfl (xr_pick false _ rfl rfl rfl) ?_
   refine st (.bool (decide (a0 = 95))) rfl rfl (xr_assign _ rfl rfl) ?_
   simp only [ls0, ls1]
   refine wl_end ?_
   (try simp only [Act.put, List.setIfInBounds_toArray, ls0, ls1])
   refine hK246 _ _ ?_
   (try clear hK246 K246)
   refine wp_ret ?_
   (try simp only [Exit.inBlock, Exit.then, Exit.noGoto])
   (try simp only [Act.put, List.setIfInBounds_toArray, ls0, ls1])
   obtain rfl := Option.some.inj H
   refine bodyPost_ret (results_tmp rfl _ _ _) rfl ?_
   exact ⟨_, rfl, HS⟩
 ·rw [if_neg c247] at H
  (try rw [(decide_eq_false c247)])
  (try simp only [Bool.not_true, Bool.not_false])
  refine sk_guard (guard_off 3 true 6 rfl rfl false (by decide) rfl) rfl ?_
  refine sk_guard (guard_off 3 true 6 rfl rfl false (by decide) rfl) rfl ?_
  refine sk_guard (guard_off 3 true 6 rfl rfl false (by decide) rfl) rfl ?_
  refine st (.bool false) rfl rfl (xr_pick false _ rfl rfl rfl) ?_
  simp only [ls0, ls1]
  refine st (.bool false) rfl rfl (xr_move _ rfl rfl) ?_
  refine on_guard (guard_on 8 false 11 rfl rfl rfl) ?_
  refine st (.int .u8 a0) rfl rfl (xr_move _ rfl rfl) ?_
  refine on_guard (guard_on 8 false 11 rfl rfl rfl) ?_
  refine st (.bool (decide (a0 = 95))) rfl rfl (xr_bin _ _ _ rfl rfl rfl (B.eql_u8 _ _)) ?_
  refine st (.bool (decide (a0 = 95))) rfl rfl (xr_pick false _ rfl rfl rfl) ?_
  simp only [ls0, ls1]
  refine st (.bool (decide (a0 = 95))) rfl rfl (xr_assign _ rfl rfl) ?_
  refine wl_end ?_
  (try simp only [Act.put, List.setIfInBounds_toArray, ls0, ls1])
  refine hK246 _ _ ?_
  (try clear hK246 K246)
  refine wp_ret ?_
  (try simp only [Exit.inBlock, Exit.then, Exit.noGoto])
  (try simp only [Act.put, List.setIfInBounds_toArray, ls0, ls1])
  obtain rfl := Option.some.inj H
  refine bodyPost_ret (results_tmp rfl _ _ _) rfl ?_
  exact ⟨_, rfl, HS⟩

/-! ### lex_digit: function 87 -/
def lex_digit.f (a0 : Int) : Option (Bool) := if a0 ≥ 48 then (some (decide (a0 ≤ 57))) else (some false)
set_option maxHeartbeats 2000000 in
set_option maxRecDepth 100000 in
theorem lex_digit.calls (a0 : Int) (r : Bool) (c : Nat → Nat) (w : World) (hc : ∀ k, c k < 10)  (H : lex_digit.f a0 = some r) :
    Calls Tryd.prog 87 #[.int .u8 a0] w fun e w' => ∃ (c' : Nat → Nat) , e = .returned (.bool r) ∧ Step c w c' w' [] := by
 unfold lex_digit.f at H
 have HS := Step.refl c w []
 go_enter Tryd.func87, Tryd.ntmps87
 refine wp_seq_k fun K311 hK311 => ?_
 refine wl_region ?_
 refine st (.bool false) rfl rfl (xr_assign _ rfl rfl) ?_
 refine wl_end ?_
 (try simp only [Act.put, List.setIfInBounds_toArray, ls0, ls1])
 refine hK311 _ _ ?_
 (try clear hK311 K311)
 refine wp_seq_k fun K312 hK312 => ?_
 refine wl_region ?_
 refine st (.int .u8 a0) rfl rfl (xr_move _ rfl rfl) ?_
 refine st (.bool (decide (a0 ≥ 48))) rfl rfl (xr_bin _ _ _ rfl rfl rfl (B.geq_u8 _ _)) ?_
 refine st (.bool (decide (a0 ≥ 48))) rfl rfl (xr_move _ rfl rfl) ?_
 by_cases c313 : a0 ≥ 48
 ·rw [if_pos c313] at H
  (try rw [(decide_eq_true c313)])
  (try simp only [Bool.not_true, Bool.not_false])
  refine on_guard (guard_on 2 true 5 rfl rfl rfl) ?_
  refine st (.int .u8 a0) rfl rfl (xr_move _ rfl rfl) ?_
  simp only [ls0, ls1]
  refine on_guard (guard_on 2 true 5 rfl rfl rfl) ?_
  refine st (.bool (decide (a0 ≤ 57))) rfl rfl (xr_bin _ _ _ rfl rfl rfl (B.leq_u8 _ _)) ?_
  refine st (.bool (decide (a0 ≤ 57))) rfl rfl (xr_pick true _ rfl rfl rfl) ?_
  refine st (.bool (decide (a0 ≤ 57))) rfl rfl (xr_assign _ rfl rfl) ?_
  refine wl_end ?_
  (try simp only [Act.put, List.setIfInBounds_toArray, ls0, ls1])
  refine hK312 _ _ ?_
  (try clear hK312 K312)
  refine wp_ret ?_
  (try simp only [Exit.inBlock, Exit.then, Exit.noGoto])
  (try simp only [Act.put, List.setIfInBounds_toArray, ls0, ls1])
  obtain rfl := Option.some.inj H
  refine bodyPost_ret (results_tmp rfl _ _ _) rfl ?_
  exact ⟨_, rfl, HS⟩
 ·rw [if_neg c313] at H
  (try rw [(decide_eq_false c313)])
  (try simp only [Bool.not_true, Bool.not_false])
  refine sk_guard (guard_off 2 true 5 rfl rfl false (by decide) rfl) rfl ?_
  refine sk_guard (guard_off 2 true 5 rfl rfl false (by decide) rfl) rfl ?_
  refine st (.bool false) rfl rfl (xr_pick false _ rfl rfl rfl) ?_
  refine st (.bool false) rfl rfl (xr_assign _ rfl rfl) ?_
  simp only [ls0, ls1]
  refine wl_end ?_
  (try simp only [Act.put, List.setIfInBounds_toArray, ls0, ls1])
  refine hK312 _ _ ?_
  (try clear hK312 K312)
  refine wp_ret ?_
  (try simp only [Exit.inBlock, Exit.then, Exit.noGoto])
  (try simp only [Act.put, List.setIfInBounds_toArray, ls0, ls1])
  obtain rfl := Option.some.inj H
  refine bodyPost_ret (results_tmp rfl _ _ _) rfl ?_
  exact ⟨_, rfl, HS⟩

/-! ### lex_Ident_1: function 86 -/
def lex_Ident_1.f (a0 : Int) : Option (Bool) := (lex_letter.f a0).bind fun t322 => (if t322 = true then (some true) else ((lex_digit.f a0).bind fun t329 => (some t329)))
set_option maxHeartbeats 2000000 in
set_option maxRecDepth 100000 in
theorem lex_Ident_1.calls (a0 : Int) (r : Bool) (c : Nat → Nat) (w : World) (hc : ∀ k, c k < 10)  (H : lex_Ident_1.f a0 = some r) :
    Calls Tryd.prog 86 #[.int .u8 a0] w fun e w' => ∃ (c' : Nat → Nat) , e = .returned (.bool r) ∧ Step c w c' w' [] := by
 unfold lex_Ident_1.f at H
 have HS := Step.refl c w []
 go_enter Tryd.func86, Tryd.ntmps86
 refine wp_seq_k fun K320 hK320 => ?_
 refine wl_region ?_
 refine st (.bool false) rfl rfl (xr_assign _ rfl rfl) ?_
 refine wl_end ?_
 (try simp only [Act.put, List.setIfInBounds_toArray, ls0, ls1])
 refine hK320 _ _ ?_
 (try clear hK320 K320)
 refine wp_seq_k fun K321 hK321 => ?_
 refine wl_region ?_
 refine st (.int .u8 a0) rfl rfl (xr_move _ rfl rfl) ?_
 obtain ⟨t322, A323, H⟩ := Option.bind_eq_some_iff.mp H
 (try dsimp only at H)
 refine st_call #[.int .u8 a0] rfl rfl Tryd.func84 (by kernel_rfl) rfl rfl (mp_ rfl) ?_
 refine (lex_letter.calls a0 t322  (fun z_ => pal [(0, 0)] (c z_)) w (fun _ => pal_lt rfl _) A323).mono ?_
 rintro _ w325 ⟨C326, rfl, hs327⟩
 refine ⟨_, rfl, ?_⟩
 replace hs327 := Step.lift (U := [(0, 0)]) hs327 [] rfl rfl
 generalize up c C326 w.heap.size [(0, 0)] = C326_ at hs327
 replace HS := HS.trans hs327 hc rfl
 (try simp only [Act.put, List.setIfInBounds_toArray, ls0, ls1])
 refine st (.bool t322) rfl rfl (xr_move _ rfl rfl) ?_
 by_cases c328 : t322 = true
 ·rw [if_pos c328] at H
  (try rw [c328])
  (try simp only [Bool.not_true, Bool.not_false])
  refine sk_guard (guard_off 2 false 5 rfl rfl true (by decide) rfl) rfl ?_
  refine sk_guard (guard_off 2 false 5 rfl rfl true (by decide) rfl) rfl ?_
  refine st (.bool true) rfl rfl (xr_pick true _ rfl rfl rfl) ?_
  simp only [ls0, ls1]
  refine st (.bool true) rfl rfl (xr_assign _ rfl rfl) ?_
  refine wl_end ?_
  (try simp only [Act.put, List.setIfInBounds_toArray, ls0, ls1])
  refine hK321 _ _ ?_
  (try clear hK321 K321)
  refine wp_ret ?_
  (try simp only [Exit.inBlock, Exit.then, Exit.noGoto])
  (try simp only [Act.put, List.setIfInBounds_toArray, ls0, ls1])
  obtain rfl := Option.some.inj H
  refine bodyPost_ret (results_tmp rfl _ _ _) rfl ?_
  exact ⟨_, rfl, HS⟩
 ·rw [if_neg c328] at H
  (try rw [(Bool.eq_false_iff.mpr c328)])
  (try simp only [Bool.not_true, Bool.not_false])
  refine on_guard (guard_on 2 false 5 rfl rfl rfl) ?_
  refine st (.int .u8 a0) rfl rfl (xr_move _ rfl rfl) ?_
  refine on_guard (guard_on 2 false 5 rfl rfl rfl) ?_
  obtain ⟨t329, A330, H⟩ := Option.bind_eq_some_iff.mp H
  (try dsimp only at H)
  refine st_call #[.int .u8 a0] rfl rfl Tryd.func87 (by kernel_rfl) rfl rfl (mp_ rfl) ?_
  refine (lex_digit.calls a0 t329  (fun z_ => pal [(0, 0)] (C326_ z_)) w325 (fun _ => pal_lt rfl _) A330).mono ?_
  rintro _ w332 ⟨C333, rfl, hs334⟩
  refine ⟨_, rfl, ?_⟩
  replace hs334 := Step.lift (U := [(0, 0)]) hs334 [] rfl rfl
  generalize up C326_ C333 w325.heap.size [(0, 0)] = C333_ at hs334
  replace HS := HS.trans hs334 hc rfl
  (try simp only [Act.put, List.setIfInBounds_toArray, ls0, ls1])
  refine st (.bool t329) rfl rfl (xr_pick false _ rfl rfl rfl) ?_
  refine st (.bool t329) rfl rfl (xr_assign _ rfl rfl) ?_
  refine wl_end ?_
  (try simp only [Act.put, List.setIfInBounds_toArray, ls0, ls1])
  refine hK321 _ _ ?_
  (try clear hK321 K321)
  refine wp_ret ?_
  (try simp only [Exit.inBlock, Exit.then, Exit.noGoto])
  (try simp only [Act.put, List.setIfInBounds_toArray, ls0, ls1])
  obtain rfl := Option.some.inj H
  refine bodyPost_ret (results_tmp rfl _ _ _) rfl ?_
  exact ⟨_, rfl, HS⟩

/-! ### lex_run_lex_Ident_1: function 85 -/
mutual
def lex_run_lex_Ident_1.j0 : Nat → (List Int) → Int → Bool → Option (Int)
  | 0, _, _, _ => none
  | k + 1, l0, x516, x544 => if x544 = true then (lex_run_lex_Ident_1.l0 k l0 (wrap64 (x516 + 1))) else (some x516)
def lex_run_lex_Ident_1.l0 : Nat → (List Int) → Int → Option (Int)
  | 0, _, _ => none
  | k + 1, l0, x516 => if x516 < (l0.length : Int) then (if 0 ≤ x516 then ((lex_Ident_1.f (rd l0 x516)).bind fun t555 => (lex_run_lex_Ident_1.j0 k l0 x516 t555)) else (none)) else (lex_run_lex_Ident_1.j0 k l0 x516 false)
end
def lex_run_lex_Ident_1.f (k : Nat) (l0 : List Int) : Option (Int) := lex_run_lex_Ident_1.l0 k l0 0

set_option maxHeartbeats 2000000 in
set_option maxRecDepth 100000 in
theorem lex_run_lex_Ident_1.calls (k : Nat) (A0 : Option Addr) (c0 : Nat) (l0 : List Int) (r : Int) (c : Nat → Nat) (w : World) (hc : ∀ k, c k < 10) (HP0 : Ft c [0] w (fun w_ => (Kd.int .u8).C w_ A0 l0.length l0)) (HCP0 : l0.length ≤ c0) (H : lex_run_lex_Ident_1.f k l0 = some r) :
    Calls Tryd.prog 85 #[.slice A0 l0.length c0, .func (.func 86) #[] #[]] w fun e w' => ∃ (c' : Nat → Nat) , e = .returned (.int .i64 r) ∧ Step c w c' w' [] := by
 unfold lex_run_lex_Ident_1.f at H
 have HS := Step.refl c w []
 go_enter Tryd.func85, Tryd.ntmps85
 refine wp_seq_k fun K443 hK443 => ?_
 refine wl_region ?_
 refine st (.int .i64 0) rfl rfl (xr_assign _ rfl rfl) ?_
 refine wl_end ?_
 (try simp only [Act.put, List.setIfInBounds_toArray, ls0, ls1])
 refine hK443 _ _ ?_
 (try clear hK443 K443)
 refine wp_seq_k fun K444 hK444 => ?_
 refine wl_region ?_
 refine st (.int .i64 0) rfl rfl (xr_assign _ rfl rfl) ?_
 refine wl_end ?_
 (try simp only [Act.put, List.setIfInBounds_toArray, ls0, ls1])
 refine hK444 _ _ ?_
 (try clear hK444 K444)
 refine wp_seq_k fun K445 hK445 => ?_
 refine wp_block ?_
 (try simp only [Act.put, List.setIfInBounds_toArray, ls0, ls1])
 refine wp_looped (looped_ind (fun kq520 a_ w519 => ∃ (C518 : Nat → Nat) (x516 : Int) (g517 : Nat → Value), a_ = ⟨#[.slice A0 l0.length c0, .func (.func 86) #[] #[], (g517 2), (g517 3), (g517 4), .int .i64 x516, (g517 6), (g517 7), (g517 8), (g517 9), (g517 10), (g517 11), (g517 12), (g517 13), (g517 14), (g517 15), (g517 16), (g517 17), (g517 18), (g517 19), (g517 20)], []⟩ ∧ Step c w C518 w519 [] ∧ kq520 ≤ k ∧ (Ft C518 [0] w519 (fun w_ => (Kd.int .u8).C w_ A0 l0.length l0)) ∧ lex_run_lex_Ident_1.l0 kq520 l0 x516 = some r) ?step k _ _ ?init)
 case init =>
  exact ⟨_, 0, (fun q_ => List.getD [undef, undef, undef, undef, .int .i64 0, undef, undef, undef, undef, undef, undef, undef, undef, undef, undef, undef, undef, undef, undef, undef, undef] q_ undef), rfl, HS, Nat.le_refl _, HP0, H⟩
 case step =>
  intro kq520 ih523 a524 w519 hr525
  obtain ⟨C518, x516, g517, rfl, HS521, hk522, HJ515, H⟩ := hr525
  refine looped_round ?_
  cases kq520 with
  | zero => exact absurd H (by simp [lex_run_lex_Ident_1.l0])
  | succ k526 =>
   simp only [lex_run_lex_Ident_1.l0] at H
   refine wp_seq_k fun K527 hK527 => ?_
   refine wp_seq_k fun K528 hK528 => ?_
   have hj539 : ∀ (kq546 : Nat) (C540 : Nat → Nat) (w541 : World) (x544 : Bool) (g545 : Nat → Value), Step c w C540 w541 [] → kq546 ≤ k526 → (Ft C540 [0] w541 (fun w_ => (Kd.int .u8).C w_ A0 l0.length l0)) → lex_run_lex_Ident_1.j0 kq546 l0 x516 x544 = some r → K528 ⟨#[.slice A0 l0.length c0, .func (.func 86) #[] #[], (g545 2), (g545 3), (g545 4), .int .i64 x516, (g545 6), (g545 7), (g545 8), (g545 9), (g545 10), (g545 11), (g545 12), (g545 13), (g545 14), (g545 15), (g545 16), .bool x544, (g545 18), (g545 19), (g545 20)], []⟩ w541 := by
    intro kq546 C540 w541 x544 g545 HS542 hk547 HJ543 H
    cases kq546 with
    | zero => exact absurd H (by simp [lex_run_lex_Ident_1.j0])
    | succ k548 =>
     simp only [lex_run_lex_Ident_1.j0] at H
     refine hK528 _ _ ?_
     (try clear hK528)
     by_cases c549 : x544 = true
     ·rw [if_pos c549] at H
      (try rw [c549])
      (try simp only [Bool.not_true, Bool.not_false])
      refine wp_cond_true rfl ?_
      refine wp_skip ?_
      (try simp only [Act.put, List.setIfInBounds_toArray, ls0, ls1])
      refine hK527 _ _ ?_
      (try clear hK527 K527)
      refine wp_block ?_
      refine wl_region ?_
      refine st (.int .i64 x516) rfl rfl (xr_move _ rfl rfl) ?_
      refine st (.int .i64 (wrap64 (x516 + 1))) rfl rfl (xr_bin _ _ _ rfl rfl rfl (B.add_i64 _ _)) ?_
      refine st (.int .i64 (wrap64 (x516 + 1))) rfl rfl (xr_assign _ rfl rfl) ?_
      refine wl_end ?_
      (try simp only [Act.put, List.setIfInBounds_toArray, ls0, ls1])
      exact ih523 k548 (by omega) _ _ ⟨_, wrap64 (x516 + 1), (fun q_ => List.getD [undef, undef, (g545 2), (g545 3), (g545 4), undef, (g545 6), (g545 7), (g545 8), (g545 9), (g545 10), (g545 11), (g545 12), (g545 13), (g545 14), (g545 15), (g545 16), .bool true, .int .i64 x516, .int .i64 (wrap64 (x516 + 1)), (g545 20)] q_ undef), rfl, HS542, (by omega), HJ543, H⟩
     ·rw [if_neg c549] at H
      (try rw [(Bool.eq_false_iff.mpr c549)])
      (try simp only [Bool.not_true, Bool.not_false])
      refine wp_cond_false rfl ?_
      refine wp_exit ?_
      (try simp only [Act.put, List.setIfInBounds_toArray, ls0, ls1])
      refine hK445 _ _ ?_
      (try clear hK445 K445)
      refine wp_seq_k fun K550 hK550 => ?_
      refine wl_region ?_
      refine st (.int .i64 x516) rfl rfl (xr_move _ rfl rfl) ?_
      refine st (.int .i64 x516) rfl rfl (xr_assign _ rfl rfl) ?_
      refine wl_end ?_
      (try simp only [Act.put, List.setIfInBounds_toArray, ls0, ls1])
      refine hK550 _ _ ?_
      (try clear hK550 K550)
      refine wp_ret ?_
      (try simp only [Exit.inBlock, Exit.then, Exit.noGoto])
      (try simp only [Act.put, List.setIfInBounds_toArray, ls0, ls1])
      obtain rfl := Option.some.inj H
      refine bodyPost_ret (results_tmp rfl _ _ _) rfl ?_
      exact ⟨_, rfl, HS542⟩
   refine wl_region ?_
   refine st (.int .i64 x516) rfl rfl (xr_move _ rfl rfl) ?_
   refine st (.slice A0 l0.length c0) rfl rfl (xr_move _ rfl rfl) ?_
   refine st (.int .i64 (l0.length : Int)) rfl rfl (xr_builtin #[.slice A0 l0.length c0] (.int .i64 (l0.length : Int)) rfl (mp_ rfl) (by first | rfl | (go_simp; done) | (go_simp; rfl) | (go_simp; exact i64_w _) | (go_simp; exact i32_w _))) ?_
   refine st (.bool (decide (x516 < (l0.length : Int)))) rfl rfl (xr_bin _ _ _ rfl rfl rfl (B.lss_i64 _ _)) ?_
   simp only [ls0, ls1]
   refine st (.bool (decide (x516 < (l0.length : Int)))) rfl rfl (xr_move _ rfl rfl) ?_
   by_cases c551 : x516 < (l0.length : Int)
   ·rw [if_pos c551] at H
    (try rw [(decide_eq_true c551)])
    (try simp only [Bool.not_true, Bool.not_false])
    refine on_guard (guard_on 4 true 10 rfl rfl rfl) ?_
    refine st (.func (.func 86) #[] #[]) rfl rfl (xr_move _ rfl rfl) ?_
    refine on_guard (guard_on 4 true 10 rfl rfl rfl) ?_
    refine st (.slice A0 l0.length c0) rfl rfl (xr_move _ rfl rfl) ?_
    refine on_guard (guard_on 4 true 10 rfl rfl rfl) ?_
    refine st (.int .i64 x516) rfl rfl (xr_move _ rfl rfl) ?_
    simp only [ls0, ls1]
    refine on_guard (guard_on 4 true 10 rfl rfl rfl) ?_
    by_cases c552 : 0 ≤ x516
    ·rw [if_pos c552] at H
     obtain ⟨ad553, hA554⟩ := c_addr (Ft.now HJ515) (pos_of (j := x516) (by first | assumption | decide) (by first | assumption | omega))
     refine st (.pointer (some (ad553.add ((x516 : Int).toNat * 1)))) rfl rfl (xr_indexAddr _ _ _ rfl rfl rfl (index_at Tryd.underlying129 info5 hA554 (by first | assumption | decide | omega) (by first | assumption | decide | omega))) ?_
     refine on_guard (guard_on 4 true 10 rfl rfl rfl) ?_
     refine st (.int .u8 (rd l0 x516)) rfl rfl (xr_load _ _ rfl rfl (load_int Tryd.underlying5 rfl hA554 (Ft.now HJ515) (by first | assumption | decide | omega) (by first | assumption | decide | omega))) ?_
     refine on_guard (guard_on 4 true 10 rfl rfl rfl) ?_
     obtain ⟨t555, A556, H⟩ := Option.bind_eq_some_iff.mp H
     (try dsimp only at H)
     refine st_callV #[.int .u8 (rd l0 x516)] #[] #[.int .u8 (rd l0 x516)] rfl rfl Tryd.func86 (by kernel_rfl) rfl rfl rfl (mp_ rfl) (by rfl) ?_
     refine (lex_Ident_1.calls (rd l0 x516) t555  (fun z_ => pal [(0, 0)] (C518 z_)) w519 (fun _ => pal_lt rfl _) A556).mono ?_
     rintro _ w558 ⟨C559, rfl, hs560⟩
     refine ⟨_, rfl, ?_⟩
     replace hs560 := Step.lift (U := [(0, 0)]) hs560 [] rfl rfl
     generalize up C518 C559 w519.heap.size [(0, 0)] = C559_ at hs560
     replace HJ515 := HJ515.thru hs560 rfl
     replace HS521 := HS521.trans hs560 hc rfl
     (try simp only [Act.put, List.setIfInBounds_toArray, ls0, ls1])
     refine st (.bool t555) rfl rfl (xr_pick true _ rfl rfl rfl) ?_
     refine wl_end ?_
     (try simp only [Act.put, List.setIfInBounds_toArray, ls0, ls1])
     exact hj539 _ _ _ (t555) (fun q_ => List.getD [undef, undef, (g517 2), (g517 3), (g517 4), undef, .int .i64 x516, .slice A0 l0.length c0, .int .i64 (l0.length : Int), .bool true, .bool true, .func (.func 86) #[] #[], .slice A0 l0.length c0, .int .i64 x516, .pointer (some (ad553.add ((x516 : Int).toNat * 1))), .int .u8 (rd l0 x516), .bool t555, undef, (g517 18), (g517 19), (g517 20)] q_ undef)  HS521 (by omega) HJ515 H
    ·rw [if_neg c552] at H
     exact absurd H (by simp)
   ·rw [if_neg c551] at H
    (try rw [(decide_eq_false c551)])
    (try simp only [Bool.not_true, Bool.not_false])
    refine sk_guard (guard_off 4 true 10 rfl rfl false (by decide) rfl) rfl ?_
    refine sk_guard (guard_off 4 true 10 rfl rfl false (by decide) rfl) rfl ?_
    refine sk_guard (guard_off 4 true 10 rfl rfl false (by decide) rfl) rfl ?_
    refine sk_guard (guard_off 4 true 10 rfl rfl false (by decide) rfl) rfl ?_
    simp only [ls0, ls1]
    refine sk_guard (guard_off 4 true 10 rfl rfl false (by decide) rfl) rfl ?_
    refine sk_guard (guard_off 4 true 10 rfl rfl false (by decide) rfl) rfl ?_
    refine st (.bool false) rfl rfl (xr_pick false _ rfl rfl rfl) ?_
    refine wl_end ?_
    (try simp only [Act.put, List.setIfInBounds_toArray, ls0, ls1])
    exact hj539 _ _ _ (false) (fun q_ => List.getD [undef, undef, (g517 2), (g517 3), (g517 4), undef, .int .i64 x516, .slice A0 l0.length c0, .int .i64 (l0.length : Int), .bool false, .bool false, undef, undef, undef, undef, undef, undef, undef, (g517 18), (g517 19), (g517 20)] q_ undef)  HS521 (by omega) HJ515 H

/-! ### lex_Ident: function 71 -/
def lex_Ident.j0 : Nat → ByteArray → Bool → Option (Bool)
  | 0, _, _ => none
  | k + 1, a0, x647 => if x647 = true then (some false) else (if a0.size ≤ 9223372036854775807 then ((some (bytesOf a0 : List Int)).bind fun y656 => ((lex_run_lex_Ident_1.f k y656).bind fun t665 => (some (decide (t665 = (a0.size : Int)))))) else (none))
def lex_Ident.f (k : Nat) (a0 : ByteArray) : Option (Bool) := if a0 = (⟨#[]⟩ : ByteArray) then (lex_Ident.j0 k a0 true) else (if (a0.size : Int) > 24 then (lex_Ident.j0 k a0 true) else ((lex_Keyword.f a0).bind fun t673 => (if t673 = true then (lex_Ident.j0 k a0 true) else (if 0 < (a0.size : Int) then ((lex_letter.f (bt a0 0)).bind fun t681 => (lex_Ident.j0 k a0 (!t681))) else (none)))))

set_option maxHeartbeats 2000000 in
set_option maxRecDepth 100000 in
theorem lex_Ident.calls (k : Nat) (a0 : ByteArray) (r : Bool) (c : Nat → Nat) (w : World) (hc : ∀ k, c k < 10)  (H : lex_Ident.f k a0 = some r) :
    Calls Tryd.prog 71 #[.string a0] w fun e w' => ∃ (c' : Nat → Nat) , e = .returned (.bool r) ∧ Step c w c' w' [] := by
 unfold lex_Ident.f at H
 have HS := Step.refl c w []
 go_enter Tryd.func71, Tryd.ntmps71
 refine wp_seq_k fun K624 hK624 => ?_
 refine wl_region ?_
 refine st (.bool false) rfl rfl (xr_assign _ rfl rfl) ?_
 refine wl_end ?_
 (try simp only [Act.put, List.setIfInBounds_toArray, ls0, ls1])
 refine hK624 _ _ ?_
 (try clear hK624 K624)
 refine wp_seq_k fun K625 hK625 => ?_
 refine wp_seq_k fun K626 hK626 => ?_
 have hj643 : ∀ (kq649 : Nat) (C644 : Nat → Nat) (w645 : World) (x647 : Bool) (g648 : Nat → Value), Step c w C644 w645 [] → kq649 ≤ k → lex_Ident.j0 kq649 a0 x647 = some r → K626 ⟨#[.string a0, (g648 1), (g648 2), (g648 3), (g648 4), (g648 5), (g648 6), (g648 7), (g648 8), (g648 9), (g648 10), (g648 11), (g648 12), (g648 13), (g648 14), (g648 15), (g648 16), (g648 17), (g648 18), .bool x647, (g648 20), (g648 21), (g648 22), (g648 23), (g648 24), (g648 25)], []⟩ w645 := by
  intro kq649 C644 w645 x647 g648 HS646 hk650  H
  cases kq649 with
  | zero => exact absurd H (by simp [lex_Ident.j0])
  | succ k651 =>
   simp only [lex_Ident.j0] at H
   refine hK626 _ _ ?_
   (try clear hK626)
   by_cases c652 : x647 = true
   ·rw [if_pos c652] at H
    (try rw [c652])
    (try simp only [Bool.not_true, Bool.not_false])
    refine wp_cond_true rfl ?_
    refine wp_seq_k fun K653 hK653 => ?_
    refine wl_region ?_
    refine st (.bool false) rfl rfl (xr_assign _ rfl rfl) ?_
    refine wl_end ?_
    (try simp only [Act.put, List.setIfInBounds_toArray, ls0, ls1])
    refine hK653 _ _ ?_
    (try clear hK653 K653)
    refine wp_ret ?_
    (try simp only [Exit.inBlock, Exit.then, Exit.noGoto])
    (try simp only [Act.put, List.setIfInBounds_toArray, ls0, ls1])
    obtain rfl := Option.some.inj H
    refine bodyPost_ret (results_tmp rfl _ _ _) rfl ?_
    exact ⟨_, rfl, HS646⟩
   ·rw [if_neg c652] at H
    (try rw [(Bool.eq_false_iff.mpr c652)])
    (try simp only [Bool.not_true, Bool.not_false])
    refine wp_cond_false rfl ?_
    refine wp_skip ?_
    (try simp only [Act.put, List.setIfInBounds_toArray, ls0, ls1])
    refine hK625 _ _ ?_
    (try clear hK625 K625)
    refine wp_seq_k fun K654 hK654 => ?_
    refine wl_region ?_
    refine st (.string a0) rfl rfl (xr_move _ rfl rfl) ?_
    by_cases c655 : a0.size ≤ 9223372036854775807
    ·rw [if_pos c655] at H
     obtain ⟨y656, A657, H⟩ := Option.bind_eq_some_iff.mp H
     (try dsimp only at H)
     refine own_conv (C := C644) (i := 0) 5 rfl rfl 9 129 _ rfl a0 rfl Tryd.underlying9 Tryd.underlying129 Tryd.underlying5 (by assumption) 11 (Option.some.inj A657) ?_
     intro A658 cp659 w660 C661 HR662 HC663 hs664
     replace HS646 := HS646.trans hs664 hc rfl
     (try simp only [Act.put, List.setIfInBounds_toArray, ls0, ls1])
     obtain ⟨t665, A666, H⟩ := Option.bind_eq_some_iff.mp H
     (try dsimp only at H)
     refine st_call #[.slice A658 y656.length cp659, .func (.func 86) #[] #[]] rfl rfl Tryd.func85 (by kernel_rfl) rfl rfl (mp_ rfl) ?_
     refine (lex_run_lex_Ident_1.calls k651 A658 cp659 y656 t665  (fun z_ => pal [(0, 0), (11, 0)] (C661 z_)) w660 (fun _ => pal_lt rfl _) (Ft.arg HR662 rfl) HC663 A666).mono ?_
     rintro _ w668 ⟨C669, rfl, hs670⟩
     refine ⟨_, rfl, ?_⟩
     replace hs670 := Step.lift (U := [(0, 0)]) hs670 [] rfl rfl
     generalize up C661 C669 w660.heap.size [(0, 0)] = C669_ at hs670
     replace HS646 := HS646.trans hs670 hc rfl
     (try simp only [Act.put, List.setIfInBounds_toArray, ls0, ls1])
     refine st (.string a0) rfl rfl (xr_move _ rfl rfl) ?_
     refine st (.int .i64 (a0.size : Int)) rfl rfl (xr_builtin #[.string a0] (.int .i64 (a0.size : Int)) rfl (mp_ rfl) (by first | rfl | (go_simp; done) | (go_simp; rfl) | (go_simp; exact i64_w _) | (go_simp; exact i32_w _))) ?_
     refine st (.bool (decide (t665 = (a0.size : Int)))) rfl rfl (xr_bin _ _ _ rfl rfl rfl (B.eql_i64 _ _)) ?_
     refine st (.bool (decide (t665 = (a0.size : Int)))) rfl rfl (xr_assign _ rfl rfl) ?_
     simp only [ls0, ls1]
     refine wl_end ?_
     (try simp only [Act.put, List.setIfInBounds_toArray, ls0, ls1])
     refine hK654 _ _ ?_
     (try clear hK654 K654)
     refine wp_ret ?_
     (try simp only [Exit.inBlock, Exit.then, Exit.noGoto])
     (try simp only [Act.put, List.setIfInBounds_toArray, ls0, ls1])
     obtain rfl := Option.some.inj H
     refine bodyPost_ret (results_tmp rfl _ _ _) rfl ?_
     exact ⟨_, rfl, HS646⟩
    ·rw [if_neg c655] at H
     exact absurd H (by simp)
 refine wl_region ?_
 refine st (.string a0) rfl rfl (xr_move _ rfl rfl) ?_
 refine st (.bool (decide (a0 = (⟨#[]⟩ : ByteArray)))) rfl rfl (xr_bin _ _ _ rfl rfl rfl (B.eql_str _ _)) ?_
 refine st (.bool (decide (a0 = (⟨#[]⟩ : ByteArray)))) rfl rfl (xr_move _ rfl rfl) ?_
 by_cases c671 : a0 = (⟨#[]⟩ : ByteArray)
 ·rw [if_pos c671] at H
  (try rw [(decide_eq_true c671)])
  (try simp only [Bool.not_true, Bool.not_false])
  refine sk_guard (guard_off 2 false 5 rfl rfl true (by decide) rfl) rfl ?_
  simp only [ls0, ls1]
  refine sk_guard (guard_off 2 false 5 rfl rfl true (by decide) rfl) rfl ?_
  refine sk_guard (guard_off 2 false 5 rfl rfl true (by decide) rfl) rfl ?_
  refine st (.bool true) rfl rfl (xr_pick true _ rfl rfl rfl) ?_
  refine st (.bool true) rfl rfl (xr_move _ rfl rfl) ?_
  simp only [ls0, ls1]
  refine sk_guard (guard_off 7 false 10 rfl rfl true (by decide) rfl) rfl ?_
  refine sk_guard (guard_off 7 false 10 rfl rfl true (by decide) rfl) rfl ?_
  refine st (.bool true) rfl rfl (xr_pick true _ rfl rfl rfl) ?_
  refine st (.bool true) rfl rfl (xr_move _ rfl rfl) ?_
  simp only [ls0, ls1]
  refine sk_guard (guard_off 11 false 14 rfl rfl true (by decide) rfl) rfl ?_
  refine sk_guard (guard_off 11 false 14 rfl rfl true (by decide) rfl) rfl ?_
  refine sk_guard (guard_off 11 false 14 rfl rfl true (by decide) rfl) rfl ?_
  refine sk_guard (guard_off 11 false 14 rfl rfl true (by decide) rfl) rfl ?_
  simp only [ls0, ls1]
  refine st (.bool true) rfl rfl (xr_pick true _ rfl rfl rfl) ?_
  refine wl_end ?_
  (try simp only [Act.put, List.setIfInBounds_toArray, ls0, ls1])
  exact hj643 _ _ _ (true) (fun q_ => List.getD [undef, undef, .bool false, .string a0, .bool true, .bool true, undef, undef, undef, .bool true, .bool true, undef, undef, .bool true, .bool true, undef, undef, undef, undef, undef, undef, undef, undef, undef, undef, undef] q_ undef)  HS (by omega) H
 ·rw [if_neg c671] at H
  (try rw [(decide_eq_false c671)])
  (try simp only [Bool.not_true, Bool.not_false])
  refine on_guard (guard_on 2 false 5 rfl rfl rfl) ?_
  refine st (.string a0) rfl rfl (xr_move _ rfl rfl) ?_
  refine on_guard (guard_on 2 false 5 rfl rfl rfl) ?_
  refine st (.int .i64 (a0.size : Int)) rfl rfl (xr_builtin #[.string a0] (.int .i64 (a0.size : Int)) rfl (mp_ rfl) (by first | rfl | (go_simp; done) | (go_simp; rfl) | (go_simp; exact i64_w _) | (go_simp; exact i32_w _))) ?_
  refine on_guard (guard_on 2 false 5 rfl rfl rfl) ?_
  refine st (.bool (decide ((a0.size : Int) > 24))) rfl rfl (xr_bin _ _ _ rfl rfl rfl (B.gtr_i64 _ _)) ?_
  refine st (.bool (decide ((a0.size : Int) > 24))) rfl rfl (xr_pick false _ rfl rfl rfl) ?_
  simp only [ls0, ls1]
  refine st (.bool (decide ((a0.size : Int) > 24))) rfl rfl (xr_move _ rfl rfl) ?_
  by_cases c672 : (a0.size : Int) > 24
  ·rw [if_pos c672] at H
   (try rw [(decide_eq_true c672)])
   (try simp only [Bool.not_true, Bool.not_false])
   refine sk_guard (guard_off 7 false 10 rfl rfl true (by decide) rfl) rfl ?_
   refine sk_guard (guard_off 7 false 10 rfl rfl true (by decide) rfl) rfl ?_
   refine st (.bool true) rfl rfl (xr_pick true _ rfl rfl rfl) ?_
   simp only [ls0, ls1]
   refine st (.bool true) rfl rfl (xr_move _ rfl rfl) ?_
   refine sk_guard (guard_off 11 false 14 rfl rfl true (by decide) rfl) rfl ?_
   refine sk_guard (guard_off 11 false 14 rfl rfl true (by decide) rfl) rfl ?_
   refine sk_guard (guard_off 11 false 14 rfl rfl true (by decide) rfl) rfl ?_
   simp only [ls0, ls1]
   refine sk_guard (guard_off 11 false 14 rfl rfl true (by decide) rfl) rfl ?_
   refine st (.bool true) rfl rfl (xr_pick true _ rfl rfl rfl) ?_
   refine wl_end ?_
   (try simp only [Act.put, List.setIfInBounds_toArray, ls0, ls1])
   exact hj643 _ _ _ (true) (fun q_ => List.getD [undef, undef, .bool false, .string a0, .bool false, .bool false, .string a0, .int .i64 (a0.size : Int), .bool true, .bool true, .bool true, undef, undef, .bool true, .bool true, undef, undef, undef, undef, undef, undef, undef, undef, undef, undef, undef] q_ undef)  HS (by omega) H
  ·rw [if_neg c672] at H
   (try rw [(decide_eq_false c672)])
   (try simp only [Bool.not_true, Bool.not_false])
   refine on_guard (guard_on 7 false 10 rfl rfl rfl) ?_
   refine st (.string a0) rfl rfl (xr_move _ rfl rfl) ?_
   refine on_guard (guard_on 7 false 10 rfl rfl rfl) ?_
   obtain ⟨t673, A674, H⟩ := Option.bind_eq_some_iff.mp H
   (try dsimp only at H)
   refine st_call #[.string a0] rfl rfl Tryd.func83 (by kernel_rfl) rfl rfl (mp_ rfl) ?_
   refine (lex_Keyword.calls a0 t673  (fun z_ => pal [(0, 0)] (c z_)) w (fun _ => pal_lt rfl _) A674).mono ?_
   rintro _ w676 ⟨C677, rfl, hs678⟩
   refine ⟨_, rfl, ?_⟩
   replace hs678 := Step.lift (U := [(0, 0)]) hs678 [] rfl rfl
   generalize up c C677 w.heap.size [(0, 0)] = C677_ at hs678
   replace HS := HS.trans hs678 hc rfl
   (try simp only [Act.put, List.setIfInBounds_toArray, ls0, ls1])
   refine st (.bool t673) rfl rfl (xr_pick false _ rfl rfl rfl) ?_
   refine st (.bool t673) rfl rfl (xr_move _ rfl rfl) ?_
   by_cases c679 : t673 = true
   ·rw [if_pos c679] at H
    (try rw [c679])
    (try simp only [Bool.not_true, Bool.not_false])
    refine sk_guard (guard_off 11 false 14 rfl rfl true (by decide) rfl) rfl ?_
    refine sk_guard (guard_off 11 false 14 rfl rfl true (by decide) rfl) rfl ?_
    simp only [ls0, ls1]
    refine sk_guard (guard_off 11 false 14 rfl rfl true (by decide) rfl) rfl ?_
    refine sk_guard (guard_off 11 false 14 rfl rfl true (by decide) rfl) rfl ?_
    refine st (.bool true) rfl rfl (xr_pick true _ rfl rfl rfl) ?_
    refine wl_end ?_
    (try simp only [Act.put, List.setIfInBounds_toArray, ls0, ls1])
    exact hj643 _ _ _ (true) (fun q_ => List.getD [undef, undef, .bool false, .string a0, .bool false, .bool false, .string a0, .int .i64 (a0.size : Int), .bool false, .bool false, .bool false, .string a0, .bool true, .bool true, .bool true, undef, undef, undef, undef, undef, undef, undef, undef, undef, undef, undef] q_ undef)  HS (by omega) H
   ·rw [if_neg c679] at H
    (try rw [(Bool.eq_false_iff.mpr c679)])
    (try simp only [Bool.not_true, Bool.not_false])
    refine on_guard (guard_on 11 false 14 rfl rfl rfl) ?_
    refine st (.string a0) rfl rfl (xr_move _ rfl rfl) ?_
    refine on_guard (guard_on 11 false 14 rfl rfl rfl) ?_
    by_cases c680 : 0 < (a0.size : Int)
    ·rw [if_pos c680] at H
     refine st (.int .u8 (bt a0 0)) rfl rfl (xr_index _ _ _ rfl rfl rfl (index_str Tryd.underlying9 (by first | assumption | decide | omega) (by first | assumption | decide | omega))) ?_
     refine on_guard (guard_on 11 false 14 rfl rfl rfl) ?_
     obtain ⟨t681, A682, H⟩ := Option.bind_eq_some_iff.mp H
     (try dsimp only at H)
     refine st_call #[.int .u8 (bt a0 0)] rfl rfl Tryd.func84 (by kernel_rfl) rfl rfl (mp_ rfl) ?_
     refine (lex_letter.calls (bt a0 0) t681  (fun z_ => pal [(0, 0)] (C677_ z_)) w676 (fun _ => pal_lt rfl _) A682).mono ?_
     rintro _ w684 ⟨C685, rfl, hs686⟩
     refine ⟨_, rfl, ?_⟩
     replace hs686 := Step.lift (U := [(0, 0)]) hs686 [] rfl rfl
     generalize up C677_ C685 w676.heap.size [(0, 0)] = C685_ at hs686
     replace HS := HS.trans hs686 hc rfl
     (try simp only [Act.put, List.setIfInBounds_toArray, ls0, ls1])
     refine on_guard (guard_on 11 false 14 rfl rfl rfl) ?_
     refine st (.bool (!t681)) rfl rfl (xr_un (.bool t681) _ rfl rfl (by first | rfl | (go_simp; done) | (go_simp; rfl) | (go_simp; exact i64_w _) | (go_simp; exact i32_w _))) ?_
     refine st (.bool (!t681)) rfl rfl (xr_pick false _ rfl rfl rfl) ?_
     refine wl_end ?_
     (try simp only [Act.put, List.setIfInBounds_toArray, ls0, ls1])
     exact hj643 _ _ _ (!t681) (fun q_ => List.getD [undef, undef, .bool false, .string a0, .bool false, .bool false, .string a0, .int .i64 (a0.size : Int), .bool false, .bool false, .bool false, .string a0, .bool false, .bool false, .bool false, .string a0, .int .u8 (bt a0 0), .bool t681, .bool (!t681), undef, undef, undef, undef, undef, undef, undef] q_ undef)  HS (by omega) H
    ·rw [if_neg c680] at H
     exact absurd H (by simp)

/-! ### order_Order_add: function 72 -/
def order_Order_add.f (l0_0 : List ByteArray) (m0_1 : List (ByteArray × Int)) (a0_2 : List Int) (a0_3 : List Int) (a1 : ByteArray) : Option (Int × Bool × List ByteArray × (List (ByteArray × Int)) × (List Int)) := if mhas m0_1 a1 = true then (some (mget 0 m0_1 a1, true, l0_0, m0_1, a0_2)) else (if (l0_0.length : Int) = 64 then (some (0, false, l0_0, m0_1, a0_2)) else ((some (mput m0_1 a1 (l0_0.length : Int) : List (ByteArray × Int))).bind fun y819 => (if l0_0.length < 8796093022208 then ((some (l0_0 ++ [a1] : List ByteArray)).bind fun y826 => (if 0 ≤ (IntKind.u64.wrap ((l0_0.length : Int))) then (if 0 ≤ (l0_0.length : Int) then (if (l0_0.length : Int) < 64 then ((some (List.set a0_2 (((l0_0.length : Int) : Int).toNat) (shl .u64 1 (IntKind.u64.wrap ((l0_0.length : Int)))) : List Int)).bind fun y842 => (some ((l0_0.length : Int), true, y826, y819, y842))) else (none)) else (none)) else (none))) else (none))))
set_option maxHeartbeats 2000000 in
set_option maxRecDepth 100000 in
theorem order_Order_add.calls (g0 : Nat) (A0_0 : Option Addr) (c0_0 : Nat) (l0_0 : List ByteArray) (b0_1 : Nat) (m0_1 : List (ByteArray × Int)) (a0_2 : List Int) (a0_3 : List Int) (a1 : ByteArray) (r1 : Int) (r2 : Bool) (r3 : List ByteArray) (r4 : List (ByteArray × Int)) (r5 : List Int) (c : Nat → Nat) (w : World) (hc : ∀ k, c k < 10) (HP0 : Bx c 1 w g0 81 ([.slice A0_0 l0_0.length c0_0, .map (some b0_1)] ++ (List.map (Value.int .u64) a0_2 ++ (List.map (Value.int .u64) a0_3)))) (HP0_0 : Own c 3 w Kd.string 9 (.slice A0_0 l0_0.length c0_0) l0_0) (HCP0_0 : l0_0.length ≤ c0_0) (HP0_1 : Mp Value.string (Value.int .i64) c 2 w b0_1 m0_1) (HL0_2 : a0_2.length = 64) (HL0_3 : a0_3.length = 64) (H : order_Order_add.f l0_0 m0_1 a0_2 a0_3 a1 = some (r1, r2, r3, r4, r5)) :
    Calls Tryd.prog 72 #[.pointer (some ⟨g0, 0, none⟩), .string a1] w fun e w' => ∃ (c' : Nat → Nat) (A_r3 : Option Addr) (c_r3 : Nat) (b_r4 : Nat), e = .returned (.tuple #[.int .i64 r1, .bool r2]) ∧ Step c w c' w' [1, 2, 3] ∧ Own c' 3 w' Kd.string 9 (.slice A_r3 r3.length c_r3) r3 ∧ r3.length ≤ c_r3 ∧ Mp Value.string (Value.int .i64) c' 2 w' b_r4 r4 ∧ r5.length = 64 ∧ Bx c' 1 w' g0 81 ([.slice A_r3 r3.length c_r3, .map (some b_r4)] ++ (List.map (Value.int .u64) r5 ++ (List.map (Value.int .u64) a0_3))) := by
 unfold order_Order_add.f at H
 have HS := Step.refl c w [1, 2, 3]
 go_enter Tryd.func72, Tryd.ntmps72
 refine wp_seq_k fun K807 hK807 => ?_
 refine wl_region ?_
 refine st (.int .i64 0) rfl rfl (xr_assign _ rfl rfl) ?_
 refine st (.bool false) rfl rfl (xr_assign _ rfl rfl) ?_
 refine wl_end ?_
 (try simp only [Act.put, List.setIfInBounds_toArray, ls0, ls1])
 refine hK807 _ _ ?_
 (try clear hK807 K807)
 refine wp_seq_k fun K808 hK808 => ?_
 refine wp_seq_k fun K809 hK809 => ?_
 refine wl_region ?_
 refine st (.pointer (some ⟨g0, 0, none⟩)) rfl rfl (xr_move _ rfl rfl) ?_
 refine st (.pointer (some ⟨g0, 0, none⟩)) rfl rfl (xr_nilCheck _ rfl rfl) ?_
 refine st (.pointer (some ⟨g0, 1, none⟩)) rfl rfl (xr_fieldAddr _ _ rfl rfl (bx_field2 Tryd.underlying81 rfl rfl (by kernel_rfl))) ?_
 refine st (.map (some b0_1)) rfl rfl (xr_load _ _ rfl rfl (load_cell Tryd.underlying78 rfl (bx_cell (HP0).2 1 rfl))) ?_
 simp only [ls0, ls1]
 refine st (.string a1) rfl rfl (xr_move _ rfl rfl) ?_
 refine st (.tuple #[.int .i64 (mget 0 m0_1 a1), .bool (mhas m0_1 a1)]) rfl rfl (xr_lookup (.map (some b0_1)) (.string a1) (.tuple #[.int .i64 (mget 0 m0_1 a1), .bool (mhas m0_1 a1)]) rfl rfl rfl (look_map (z := 0) (keyK_str Tryd.underlying9) Tryd.underlying78 info3 (HP0_1).2 a1 true)) ?_
 refine st (.tuple #[.int .i64 (mget 0 m0_1 a1), .bool (mhas m0_1 a1)]) rfl rfl (xr_move _ rfl rfl) ?_
 refine st (.int .i64 (mget 0 m0_1 a1)) rfl rfl (xr_extract (.tuple #[.int .i64 (mget 0 m0_1 a1), .bool (mhas m0_1 a1)]) _ rfl rfl rfl) ?_
 simp only [ls0, ls1]
 refine st (.bool (mhas m0_1 a1)) rfl rfl (xr_extract (.tuple #[.int .i64 (mget 0 m0_1 a1), .bool (mhas m0_1 a1)]) _ rfl rfl rfl) ?_
 refine st (.int .i64 (mget 0 m0_1 a1)) rfl rfl (xr_assign _ rfl rfl) ?_
 refine st (.bool (mhas m0_1 a1)) rfl rfl (xr_assign _ rfl rfl) ?_
 refine wl_end ?_
 (try simp only [Act.put, List.setIfInBounds_toArray, ls0, ls1])
 refine hK809 _ _ ?_
 (try clear hK809 K809)
 refine wp_seq_k fun K810 hK810 => ?_
 refine wl_region ?_
 refine st (.bool (mhas m0_1 a1)) rfl rfl (xr_move _ rfl rfl) ?_
 refine wl_end ?_
 (try simp only [Act.put, List.setIfInBounds_toArray, ls0, ls1])
 refine hK810 _ _ ?_
 (try clear hK810 K810)
 by_cases c811 : mhas m0_1 a1 = true
 ·rw [if_pos c811] at H
  (try rw [c811])
  (try simp only [Bool.not_true, Bool.not_false])
  refine wp_cond_true rfl ?_
  refine wp_seq_k fun K812 hK812 => ?_
  refine wl_region ?_
  refine st (.int .i64 (mget 0 m0_1 a1)) rfl rfl (xr_move _ rfl rfl) ?_
  refine st (.int .i64 (mget 0 m0_1 a1)) rfl rfl (xr_assign _ rfl rfl) ?_
  refine st (.bool true) rfl rfl (xr_assign _ rfl rfl) ?_
  refine wl_end ?_
  (try simp only [Act.put, List.setIfInBounds_toArray, ls0, ls1])
  refine hK812 _ _ ?_
  (try clear hK812 K812)
  refine wp_ret ?_
  (try simp only [Exit.inBlock, Exit.then, Exit.noGoto])
  (try simp only [Act.put, List.setIfInBounds_toArray, ls0, ls1])
  simp only [Option.some.injEq, Prod.mk.injEq] at H
  obtain ⟨rfl, rfl, rfl, rfl, rfl⟩ := H
  refine bodyPost_ret (results_tmp2 rfl _ _ _) rfl ?_
  exact ⟨_, A0_0, c0_0, b0_1, rfl, HS, HP0_0, HCP0_0, HP0_1, HL0_2, HP0⟩
 ·rw [if_neg c811] at H
  (try rw [(Bool.eq_false_iff.mpr c811)])
  (try simp only [Bool.not_true, Bool.not_false])
  refine wp_cond_false rfl ?_
  refine wp_skip ?_
  (try simp only [Act.put, List.setIfInBounds_toArray, ls0, ls1])
  refine hK808 _ _ ?_
  (try clear hK808 K808)
  refine wp_seq_k fun K813 hK813 => ?_
  refine wp_seq_k fun K814 hK814 => ?_
  refine wl_region ?_
  refine st (.pointer (some ⟨g0, 0, none⟩)) rfl rfl (xr_move _ rfl rfl) ?_
  refine st (.pointer (some ⟨g0, 0, none⟩)) rfl rfl (xr_nilCheck _ rfl rfl) ?_
  refine st (.pointer (some ⟨g0, 0, none⟩)) rfl rfl (xr_fieldAddr _ _ rfl rfl (bx_field2 Tryd.underlying81 rfl rfl (by kernel_rfl))) ?_
  refine st (.slice A0_0 l0_0.length c0_0) rfl rfl (xr_load _ _ rfl rfl (load_cell Tryd.underlying30 rfl (bx_cell (HP0).2 0 rfl))) ?_
  simp only [ls0, ls1]
  refine st (.int .i64 (l0_0.length : Int)) rfl rfl (xr_builtin #[.slice A0_0 l0_0.length c0_0] (.int .i64 (l0_0.length : Int)) rfl (mp_ rfl) (by first | rfl | (go_simp; done) | (go_simp; rfl) | (go_simp; exact i64_w _) | (go_simp; exact i32_w _))) ?_
  refine st (.bool (decide ((l0_0.length : Int) = 64))) rfl rfl (xr_bin _ _ _ rfl rfl rfl (B.eql_i64 _ _)) ?_
  refine wl_end ?_
  (try simp only [Act.put, List.setIfInBounds_toArray, ls0, ls1])
  refine hK814 _ _ ?_
  (try clear hK814 K814)
  by_cases c815 : (l0_0.length : Int) = 64
  ·rw [if_pos c815] at H
   (try rw [(decide_eq_true c815)])
   (try simp only [Bool.not_true, Bool.not_false])
   refine wp_cond_true rfl ?_
   refine wp_seq_k fun K816 hK816 => ?_
   refine wl_region ?_
   refine st (.int .i64 0) rfl rfl (xr_assign _ rfl rfl) ?_
   refine st (.bool false) rfl rfl (xr_assign _ rfl rfl) ?_
   refine wl_end ?_
   (try simp only [Act.put, List.setIfInBounds_toArray, ls0, ls1])
   refine hK816 _ _ ?_
   (try clear hK816 K816)
   refine wp_ret ?_
   (try simp only [Exit.inBlock, Exit.then, Exit.noGoto])
   (try simp only [Act.put, List.setIfInBounds_toArray, ls0, ls1])
   simp only [Option.some.injEq, Prod.mk.injEq] at H
   obtain ⟨rfl, rfl, rfl, rfl, rfl⟩ := H
   refine bodyPost_ret (results_tmp2 rfl _ _ _) rfl ?_
   exact ⟨_, A0_0, c0_0, b0_1, rfl, HS, HP0_0, HCP0_0, HP0_1, HL0_2, HP0⟩
  ·rw [if_neg c815] at H
   (try rw [(decide_eq_false c815)])
   (try simp only [Bool.not_true, Bool.not_false])
   refine wp_cond_false rfl ?_
   refine wp_skip ?_
   (try simp only [Act.put, List.setIfInBounds_toArray, ls0, ls1])
   refine hK813 _ _ ?_
   (try clear hK813 K813)
   refine wp_seq_k fun K817 hK817 => ?_
   refine wl_region ?_
   refine st (.pointer (some ⟨g0, 0, none⟩)) rfl rfl (xr_move _ rfl rfl) ?_
   refine st (.pointer (some ⟨g0, 0, none⟩)) rfl rfl (xr_nilCheck _ rfl rfl) ?_
   refine st (.pointer (some ⟨g0, 0, none⟩)) rfl rfl (xr_fieldAddr _ _ rfl rfl (bx_field2 Tryd.underlying81 rfl rfl (by kernel_rfl))) ?_
   refine st (.slice A0_0 l0_0.length c0_0) rfl rfl (xr_load _ _ rfl rfl (load_cell Tryd.underlying30 rfl (bx_cell (HP0).2 0 rfl))) ?_
   simp only [ls0, ls1]
   refine st (.int .i64 (l0_0.length : Int)) rfl rfl (xr_builtin #[.slice A0_0 l0_0.length c0_0] (.int .i64 (l0_0.length : Int)) rfl (mp_ rfl) (by first | rfl | (go_simp; done) | (go_simp; rfl) | (go_simp; exact i64_w _) | (go_simp; exact i32_w _))) ?_
   refine st (.int .i64 (l0_0.length : Int)) rfl rfl (xr_assign _ rfl rfl) ?_
   refine wl_end ?_
   (try simp only [Act.put, List.setIfInBounds_toArray, ls0, ls1])
   refine hK817 _ _ ?_
   (try clear hK817 K817)
   refine wp_seq_k fun K818 hK818 => ?_
   refine wl_region ?_
   refine st (.pointer (some ⟨g0, 0, none⟩)) rfl rfl (xr_move _ rfl rfl) ?_
   refine st (.pointer (some ⟨g0, 0, none⟩)) rfl rfl (xr_nilCheck _ rfl rfl) ?_
   refine st (.pointer (some ⟨g0, 1, none⟩)) rfl rfl (xr_fieldAddr _ _ rfl rfl (bx_field2 Tryd.underlying81 rfl rfl (by kernel_rfl))) ?_
   refine st (.map (some b0_1)) rfl rfl (xr_load _ _ rfl rfl (load_cell Tryd.underlying78 rfl (bx_cell (HP0).2 1 rfl))) ?_
   simp only [ls0, ls1]
   refine st (.string a1) rfl rfl (xr_move _ rfl rfl) ?_
   refine st (.int .i64 (l0_0.length : Int)) rfl rfl (xr_move _ rfl rfl) ?_
   obtain ⟨y819, A820, H⟩ := Option.bind_eq_some_iff.mp H
   (try dsimp only at H)
   refine mp_store (C := c) (lm := m0_1) a1 (l0_0.length : Int) (keyK_str Tryd.underlying9) Tryd.underlying78 rfl rfl rfl rfl rfl rfl HP0_1 (Option.some.inj A820) ?_
   intro w821 HM822 hs823
   replace HP0 := HP0.thru hs823 rfl
   replace HP0_0 := HP0_0.thru hs823 rfl
   replace HS := HS.trans hs823 hc rfl
   (try simp only [Act.put, List.setIfInBounds_toArray, ls0, ls1])
   refine wl_end ?_
   (try simp only [Act.put, List.setIfInBounds_toArray, ls0, ls1])
   refine hK818 _ _ ?_
   (try clear hK818 K818)
   refine wp_seq_k fun K824 hK824 => ?_
   refine wl_region ?_
   refine st (.pointer (some ⟨g0, 0, none⟩)) rfl rfl (xr_move _ rfl rfl) ?_
   refine st (.pointer (some ⟨g0, 0, none⟩)) rfl rfl (xr_move _ rfl rfl) ?_
   refine st (.pointer (some ⟨g0, 0, none⟩)) rfl rfl (xr_nilCheck _ rfl rfl) ?_
   refine st (.pointer (some ⟨g0, 0, none⟩)) rfl rfl (xr_fieldAddr _ _ rfl rfl (bx_field2 Tryd.underlying81 rfl rfl (by kernel_rfl))) ?_
   simp only [ls0, ls1]
   refine st (.slice A0_0 l0_0.length c0_0) rfl rfl (xr_load _ _ rfl rfl (load_cell Tryd.underlying30 rfl (bx_cell (HP0).2 0 rfl))) ?_
   refine st (.string a1) rfl rfl (xr_move _ rfl rfl) ?_
   refine ev_run (w1 := w821.alloc (.cells #[.string a1] 9)) (.slice (some ⟨w821.heap.size, 0, none⟩) 1 1) rfl rfl (by first | (go_simp; done) | (go_simp; rfl)) ?_
   (try simp only [Act.put, List.setIfInBounds_toArray, ls0, ls1])
   by_cases c825 : l0_0.length < 8796093022208
   ·rw [if_pos c825] at H
    obtain ⟨y826, A827, H⟩ := Option.bind_eq_some_iff.mp H
    (try dsimp only at H)
    refine Own.append Kd.string (C := c) (i := 3) rfl (.tmp 41) (.tmp 43) 30 9 (.string ⟨#[]⟩) 16 rfl Tryd.underlying30 info9 rfl (by decide) (by decide) (.slice A0_0 l0_0.length c0_0) l0_0 a1 [.string a1] rfl rfl (fk_str _ _ a1) HP0_0 (by decide) (by omega) (Option.some.inj A827) ?_
    intro A828 cp829 w830 C831 HO832 HC833 hs834
    replace HP0 := HP0.thru hs834 rfl
    replace HM822 := HM822.thru hs834 rfl
    replace HS := HS.trans hs834 hc rfl
    (try simp only [Act.put, List.setIfInBounds_toArray, ls0, ls1])
    refine st (.pointer (some ⟨g0, 0, none⟩)) rfl rfl (xr_nilCheck _ rfl rfl) ?_
    refine st (.pointer (some ⟨g0, 0, none⟩)) rfl rfl (xr_fieldAddr _ _ rfl rfl (bx_field2 Tryd.underlying81 rfl rfl (by kernel_rfl))) ?_
    refine bx_store (C := C831) (z := 1) (g := g0) (j := 0) (tb := 81) (u := .slice A828 y826.length cp829) (seg := [.slice A828 y826.length cp829]) (xs := [.slice A0_0 l0_0.length c0_0, .map (some b0_1)] ++ (List.map (Value.int .u64) a0_2 ++ (List.map (Value.int .u64) a0_3))) rfl rfl rfl rfl rfl rfl (by first | kernel_rfl | rfl) (by simp [Value.oneCell']) HP0 (by simp [HL0_2, HL0_3]) rfl ?_
    intro w835 HX836 hs837
    replace HX836 : Bx C831 1 w835 g0 81 ([.slice A828 y826.length cp829, .map (some b0_1)] ++ (List.map (Value.int .u64) a0_2 ++ (List.map (Value.int .u64) a0_3))) := HX836
    replace HO832 := HO832.thru hs837 rfl
    replace HM822 := HM822.thru hs837 rfl
    replace HS := HS.trans hs837 hc rfl
    (try simp only [Act.put, List.setIfInBounds_toArray, ls0, ls1])
    refine wl_end ?_
    (try simp only [Act.put, List.setIfInBounds_toArray, ls0, ls1])
    refine hK824 _ _ ?_
    (try clear hK824 K824)
    refine wp_seq_k fun K838 hK838 => ?_
    refine wl_region ?_
    refine st (.pointer (some ⟨g0, 0, none⟩)) rfl rfl (xr_move _ rfl rfl) ?_
    refine st (.int .i64 (l0_0.length : Int)) rfl rfl (xr_move _ rfl rfl) ?_
    refine st (.int .i64 (l0_0.length : Int)) rfl rfl (xr_move _ rfl rfl) ?_
    refine st (.int .u64 (IntKind.u64.wrap ((l0_0.length : Int)))) rfl rfl (xr_conv (.int .i64 (l0_0.length : Int)) _ rfl rfl (by first | rfl | (go_simp; done) | (go_simp; rfl) | (go_simp; exact i64_w _) | (go_simp; exact i32_w _))) ?_
    simp only [ls0, ls1]
    by_cases c839 : 0 ≤ (IntKind.u64.wrap ((l0_0.length : Int)))
    ·rw [if_pos c839] at H
     refine st (.int .u64 (shl .u64 1 (IntKind.u64.wrap ((l0_0.length : Int))))) rfl rfl (xr_bin _ _ _ rfl rfl rfl (B.shl_u64_u64 _ _ (by assumption))) ?_
     refine st (.pointer (some ⟨g0, 0, none⟩)) rfl rfl (xr_nilCheck _ rfl rfl) ?_
     refine st (.pointer (some ⟨g0, 2, none⟩)) rfl rfl (xr_fieldAddr _ _ rfl rfl (bx_field2 Tryd.underlying81 rfl rfl (by kernel_rfl))) ?_
     by_cases c840 : 0 ≤ (l0_0.length : Int)
     ·rw [if_pos c840] at H
      by_cases c841 : (l0_0.length : Int) < 64
      ·rw [if_pos c841] at H
       refine st (.pointer (some ⟨g0, 2 + (((l0_0.length : Int) : Int).toNat), none⟩)) rfl rfl (xr_indexAddr _ _ _ rfl rfl rfl (arr_index (sz := 1) Tryd.underlying79 (by kernel_rfl) (by first | assumption | decide | omega) (by first | assumption | decide | omega) (by omega))) ?_
       simp only [ls0, ls1]
       obtain ⟨y842, A843, H⟩ := Option.bind_eq_some_iff.mp H
       (try dsimp only at H)
       refine arr_store (C := C831) (z := 1) (g := g0) (tb := 81) (of := 2) (N := 64) (pre := [.slice A828 y826.length cp829, .map (some b0_1)]) (post := List.map (Value.int .u64) a0_3) (enc := (Value.int .u64)) (l0 := a0_2) (i := ((l0_0.length : Int) : Int).toNat) (shl .u64 1 (IntKind.u64.wrap ((l0_0.length : Int)))) rfl rfl rfl rfl rfl rfl (by kernel_rfl) rfl HX836 (by first | (simp only [List.append_assoc, List.cons_append, List.nil_append, List.append_nil]; done) | rfl) rfl HL0_2 (by omega) (by omega) (Option.some.inj A843) (xs' := [.slice A828 y826.length cp829, .map (some b0_1)] ++ (List.map (Value.int .u64) y842 ++ (List.map (Value.int .u64) a0_3))) (by first | (simp only [List.append_assoc, List.cons_append, List.nil_append, List.append_nil]; done) | rfl) ?_
       intro w844 HX845 HL847 hs846
       replace HO832 := HO832.thru hs846 rfl
       replace HM822 := HM822.thru hs846 rfl
       replace HS := HS.trans hs846 hc rfl
       (try simp only [Act.put, List.setIfInBounds_toArray, ls0, ls1])
       refine wl_end ?_
       (try simp only [Act.put, List.setIfInBounds_toArray, ls0, ls1])
       refine hK838 _ _ ?_
       (try clear hK838 K838)
       refine wp_seq_k fun K848 hK848 => ?_
       refine wl_region ?_
       refine st (.int .i64 (l0_0.length : Int)) rfl rfl (xr_move _ rfl rfl) ?_
       refine st (.int .i64 (l0_0.length : Int)) rfl rfl (xr_assign _ rfl rfl) ?_
       refine st (.bool true) rfl rfl (xr_assign _ rfl rfl) ?_
       refine wl_end ?_
       (try simp only [Act.put, List.setIfInBounds_toArray, ls0, ls1])
       refine hK848 _ _ ?_
       (try clear hK848 K848)
       refine wp_ret ?_
       (try simp only [Exit.inBlock, Exit.then, Exit.noGoto])
       (try simp only [Act.put, List.setIfInBounds_toArray, ls0, ls1])
       simp only [Option.some.injEq, Prod.mk.injEq] at H
       obtain ⟨rfl, rfl, rfl, rfl, rfl⟩ := H
       refine bodyPost_ret (results_tmp2 rfl _ _ _) rfl ?_
       exact ⟨_, A828, cp829, b0_1, rfl, HS, HO832, HC833, HM822, HL847, HX845⟩
      ·rw [if_neg c841] at H
       exact absurd H (by simp)
     ·rw [if_neg c840] at H
      exact absurd H (by simp)
    ·rw [if_neg c839] at H
     exact absurd H (by simp)
   ·rw [if_neg c825] at H
    exact absurd H (by simp)

/-! ### order_Order_add_nil: function 72 -/
def order_Order_add_nil.f (a1 : ByteArray) : Option (Int × Bool) := none
set_option maxHeartbeats 2000000 in
set_option maxRecDepth 100000 in
theorem order_Order_add_nil.calls (a1 : ByteArray) (r1 : Int) (r2 : Bool) (c : Nat → Nat) (w : World) (hc : ∀ k, c k < 10)  (H : order_Order_add_nil.f a1 = some (r1, r2)) :
    Calls Tryd.prog 72 #[.pointer none, .string a1] w fun e w' => ∃ (c' : Nat → Nat) , e = .returned (.tuple #[.int .i64 r1, .bool r2]) ∧ Step c w c' w' [] := by
 unfold order_Order_add_nil.f at H
 have HS := Step.refl c w []
 go_enter Tryd.func72, Tryd.ntmps72
 refine wp_seq_k fun K931 hK931 => ?_
 refine wl_region ?_
 refine st (.int .i64 0) rfl rfl (xr_assign _ rfl rfl) ?_
 refine st (.bool false) rfl rfl (xr_assign _ rfl rfl) ?_
 refine wl_end ?_
 (try simp only [Act.put, List.setIfInBounds_toArray, ls0, ls1])
 refine hK931 _ _ ?_
 (try clear hK931 K931)
 refine wp_seq_k fun K932 hK932 => ?_
 refine wp_seq_k fun K933 hK933 => ?_
 refine wl_region ?_
 refine st (.pointer none) rfl rfl (xr_move _ rfl rfl) ?_
 exact absurd H (by simp)

end Go.Proofs.YtpfepkkpbampkaaDoor.PLan
