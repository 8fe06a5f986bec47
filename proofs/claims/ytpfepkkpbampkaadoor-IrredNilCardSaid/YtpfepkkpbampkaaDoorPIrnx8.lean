-- By cprint.py, a program of this work. Lean checks it.
import Derived.Test.YtpfepkkpbampkaaDoorPIrnx0
import Derived.Test.YtpfepkkpbampkaaDoorPIrnx7
namespace Go.Proofs.YtpfepkkpbampkaaDoor.PIrn
open Go.RowKit Go.Proofs.YtpfepkkpbampkaaDoorW.PrintWords Go.Proofs.YtpfepkkpbampkaaDoorW.PrintLast Go.Proofs.YtpfepkkpbampkaaDoorW.PrintMore
set_option linter.unusedVariables false
set_option linter.unusedSimpArgs false

/-! ### irred_Irred_Elem: function 43 -/
def irred_Irred_Elem.j0 (a1 : Int) (x0 : Option S118) (x54 : Bool) : Option (Int) := if x54 = true then (some (-1)) else (onOpt x0 (none) (fun o60 => (if 0 ≤ a1 then (if a1 < (o60.f1.length : Int) then (some (rd o60.f1 a1)) else (none)) else (none))))
def irred_Irred_Elem.f (x0 : Option S118) (a1 : Int) : Option (Int) := if a1 < 0 then (irred_Irred_Elem.j0 a1 x0 true) else ((irred_Irred_Len.f x0).bind fun t71 => (irred_Irred_Elem.j0 a1 x0 (decide (a1 ≥ t71))))
set_option maxHeartbeats 2000000 in
set_option maxRecDepth 100000 in
theorem irred_Irred_Elem.calls (v0 : Value) (x0 : Option S118) (a1 : Int) (r : Int) (c : Nat → Nat) (w : World) (hc : ∀ k, c k < 10) (HP0 : Ft c [0] w (fun w_ => (Kd.ptr 118 k118).K w_ x0 [v0])) (H : irred_Irred_Elem.f x0 a1 = some r) :
    Calls Tryd.prog 43 #[v0, .int .i64 a1] w fun e w' => ∃ (c' : Nat → Nat) , e = .returned (.int .i64 r) ∧ Step c w c' w' [] := by
 unfold irred_Irred_Elem.f at H
 have HS := Step.refl c w []
 go_enter Tryd.func43, Tryd.ntmps43
 refine wp_seq_k fun K39 hK39 => ?_
 refine wl_region ?_
 refine st (.int .i64 0) rfl rfl (xr_assign _ rfl rfl) ?_
 refine wl_end ?_
 (try simp only [ls0, ls1])
 refine hK39 _ _ ?_
 (try clear hK39 K39)
 refine wp_seq_k fun K40 hK40 => ?_
 refine wp_seq_k fun K41 hK41 => ?_
 have hj49 : ∀ (C50 : Nat → Nat) (w51 : World) (x54 : Bool) (g_ : Nat → Value), Step c w C50 w51 [] → (Ft C50 [0] w51 (fun w_ => (Kd.ptr 118 k118).K w_ x0 [v0])) → irred_Irred_Elem.j0 a1 x0 x54 = some r → K41 ⟨#[v0, .int .i64 a1, (g_ 2), (g_ 3), (g_ 4), (g_ 5), (g_ 6), (g_ 7), (g_ 8), (g_ 9), (g_ 10), (g_ 11), .bool x54, (g_ 13), (g_ 14), (g_ 15), (g_ 16), (g_ 17), (g_ 18), (g_ 19)], []⟩ w51 := by
  intro C50 w51 x54 g_ HS52 HJ53 H
  unfold irred_Irred_Elem.j0 at H
  refine hK41 _ _ ?_
  (try clear hK41)
  by_cases c57 : x54 = true
  ·rw [if_pos c57] at H
   (try rw [c57])
   refine wp_cond_true rfl ?_
   refine wp_seq_k fun K58 hK58 => ?_
   refine wl_region ?_
   refine st (.int .i64 (-1)) rfl rfl (xr_assign _ rfl rfl) ?_
   refine wl_end ?_
   (try simp only [ls0, ls1])
   refine hK58 _ _ ?_
   (try clear hK58 K58)
   refine wp_ret ?_
   (try simp only [Exit.inBlock, Exit.then, Exit.noGoto])
   (try simp only [ls0, ls1])
   obtain rfl := Option.some.inj H
   refine bodyPost_ret (results_tmp rfl _ _ _) rfl ?_
   exact ⟨_, rfl, HS52⟩
  rw [if_neg c57] at H
  (try rw [(Bool.eq_false_iff.mpr c57)])
  refine wp_cond_false rfl ?_
  refine wp_skip ?_
  (try simp only [ls0, ls1])
  refine hK40 _ _ ?_
  (try clear hK40 K40)
  refine wp_seq_k fun K59 hK59 => ?_
  refine wl_region ?_
  refine mv_ rfl ?_
  cases x0 with
  | none =>
   (try simp only [onOpt] at H)
   obtain rfl := ptr_none HJ53
   exact absurd H (by simp)
  | some o60 =>
   (try simp only [onOpt] at H)
   obtain ⟨g61, cs62, rfl, HX63, HK64⟩ := ptr_some HJ53
   obtain ⟨vq65_0, Aq65_1, cpq65_1, Aq65_2, cpq65_2, rfl, HRq65_0, HCq65_1, HRq65_1, HCq65_2, HRq65_2⟩ := k118_openF HK64
   replace HRq65_0 : Ft C50 [0] w51 (fun w_ => (Kd.ptr 107 k107).K w_ o60.f0 [vq65_0]) := HRq65_0
   replace HRq65_1 : Ft C50 [0] w51 (fun w_ => (Kd.int .i64).C w_ Aq65_1 o60.f1.length o60.f1) := HRq65_1
   replace HRq65_2 : Ft C50 [0] w51 (fun w_ => (Kd.int .u64).C w_ Aq65_2 o60.f2.length o60.f2) := HRq65_2
   refine st (.pointer (some ⟨g61, 0, none⟩)) rfl rfl (xr_nilCheck _ rfl rfl) ?_
   refine st (.pointer (some ⟨g61, 1, none⟩)) rfl rfl (xr_fieldAddr _ _ rfl rfl (bx_field2 Tryd.underlying118 rfl rfl (by kernel_rfl))) ?_
   refine st (.slice Aq65_1 o60.f1.length cpq65_1) rfl rfl (xr_load _ _ rfl rfl (load_cell Tryd.underlying23 rfl (bx_cell (Ft.now HX63) 1 rfl))) ?_
   simp only [ls0, ls1]
   refine mv_ rfl ?_
   obtain ⟨c66, H⟩ := if_some H
   obtain ⟨c67, H⟩ := if_some H
   obtain ⟨ad68, hA69⟩ := c_addr (Ft.now HRq65_1) (pos_of (j := a1) (by first | assumption | decide) (by first | assumption | omega))
   refine st (.pointer (some (ad68.add ((a1 : Int).toNat * 1)))) rfl rfl (xr_indexAddr _ _ _ rfl rfl rfl (index_at Tryd.underlying23 info3 hA69 (by first | assumption | decide | omega) (by first | assumption | decide | omega))) ?_
   refine st (.int .i64 (rd o60.f1 a1)) rfl rfl (xr_load _ _ rfl rfl (load_int Tryd.underlying3 rfl hA69 (Ft.now HRq65_1) (by first | assumption | decide | omega) (by first | assumption | decide | omega))) ?_
   refine as_ rfl ?_
   simp only [ls0, ls1]
   refine wl_end ?_
   (try simp only [ls0, ls1])
   refine hK59 _ _ ?_
   (try clear hK59 K59)
   refine wp_ret ?_
   (try simp only [Exit.inBlock, Exit.then, Exit.noGoto])
   (try simp only [ls0, ls1])
   obtain rfl := Option.some.inj H
   refine bodyPost_ret (results_tmp rfl _ _ _) rfl ?_
   exact ⟨_, rfl, HS52⟩
 refine wl_region ?_
 refine mv_ rfl ?_
 refine st (.bool (decide (a1 < 0))) rfl rfl (xr_bin _ _ _ rfl rfl rfl (B.lss_i64 _ _)) ?_
 refine mv_ rfl ?_
 by_cases c70 : a1 < 0
 ·rw [if_pos c70] at H
  (try rw [(decide_eq_true c70)])
  refine sk_guard (guard_off 2 false 7 rfl rfl true (by decide) rfl) rfl ?_
  simp only [ls0, ls1]
  refine sk_guard (guard_off 2 false 7 rfl rfl true (by decide) rfl) rfl ?_
  refine sk_guard (guard_off 2 false 7 rfl rfl true (by decide) rfl) rfl ?_
  refine sk_guard (guard_off 2 false 7 rfl rfl true (by decide) rfl) rfl ?_
  refine st (.bool true) rfl rfl (xr_pick true _ rfl rfl rfl) ?_
  simp only [ls0, ls1]
  refine wl_end ?_
  (try simp only [ls0, ls1])
  exact jmp (fun g_ => hj49 _ _ (true) g_ HS HP0 H) rfl
 rw [if_neg c70] at H
 (try rw [(decide_eq_false c70)])
 refine on_guard (guard_on 2 false 7 rfl rfl rfl) ?_
 refine mv_ rfl ?_
 refine on_guard (guard_on 2 false 7 rfl rfl rfl) ?_
 refine mv_ rfl ?_
 refine on_guard (guard_on 2 false 7 rfl rfl rfl) ?_
 obtain ⟨t71, A72, H⟩ := bnd H
 refine st_call #[v0] rfl rfl Tryd.func42 (by kernel_rfl) rfl rfl (mp_ rfl) ?_
 refine (irred_Irred_Len.calls v0 x0 t71  (fun z_ => pal [(0, 0)] (c z_)) w (fun _ => pal_lt rfl _) (Ft.arg HP0 rfl) A72).mono ?_
 rintro _ w74 ⟨C75, rfl, hs76⟩
 refine ⟨_, rfl, ?_⟩
 replace hs76 := Step.lift (U := [(0, 0)]) hs76 [] rfl rfl
 generalize up c C75 w.heap.size [(0, 0)] = C75_ at hs76
 replace HP0 := HP0.thru hs76 rfl
 replace HS := HS.trans hs76 hc rfl
 (try simp only [ls0, ls1])
 refine on_guard (guard_on 2 false 7 rfl rfl rfl) ?_
 refine st (.bool (decide (a1 ≥ t71))) rfl rfl (xr_bin _ _ _ rfl rfl rfl (B.geq_i64 _ _)) ?_
 refine st (.bool (decide (a1 ≥ t71))) rfl rfl (xr_pick false _ rfl rfl rfl) ?_
 refine wl_end ?_
 (try simp only [ls0, ls1])
 exact jmp (fun g_ => hj49 _ _ (decide (a1 ≥ t71)) g_ HS HP0 H) rfl

/-! ### irred_Irred_in: function 69 -/
def irred_Irred_in.f (x0 : Option S118) (a1 : Int) : Option (Bool) := onOpt x0 (some false) (fun o12 => (if a1 ≥ 0 then (some (decide (a1 < (o12.f2.length : Int)))) else (some false)))
set_option maxHeartbeats 2000000 in
set_option maxRecDepth 100000 in
theorem irred_Irred_in.calls (v0 : Value) (x0 : Option S118) (a1 : Int) (r : Bool) (c : Nat → Nat) (w : World) (hc : ∀ k, c k < 10) (HP0 : Ft c [0] w (fun w_ => (Kd.ptr 118 k118).K w_ x0 [v0])) (H : irred_Irred_in.f x0 a1 = some r) :
    Calls Tryd.prog 69 #[v0, .int .i64 a1] w fun e w' => ∃ (c' : Nat → Nat) , e = .returned (.bool r) ∧ Step c w c' w' [] := by
 unfold irred_Irred_in.f at H
 have HS := Step.refl c w []
 go_enter Tryd.func69, Tryd.ntmps69
 refine wp_seq_k fun K10 hK10 => ?_
 refine wl_region ?_
 refine st (.bool false) rfl rfl (xr_assign _ rfl rfl) ?_
 refine wl_end ?_
 (try simp only [ls0, ls1])
 refine hK10 _ _ ?_
 (try clear hK10 K10)
 refine wp_seq_k fun K11 hK11 => ?_
 refine wl_region ?_
 refine mv_ rfl ?_
 cases x0 with
 | none =>
  (try simp only [onOpt] at H)
  obtain rfl := ptr_none HP0
  refine st (.bool false) rfl rfl (xr_bin (.pointer none) (.pointer none) (.bool false) rfl rfl rfl (B.neq_nn ⟨_, Tryd.underlying60⟩ (⟨0, 0, none⟩ : Addr))) ?_
  refine mv_ rfl ?_
  refine sk_guard (guard_off 2 true 7 rfl rfl false (by decide) rfl) rfl ?_
  simp only [ls0, ls1]
  refine sk_guard (guard_off 2 true 7 rfl rfl false (by decide) rfl) rfl ?_
  refine st (.bool false) rfl rfl (xr_pick false _ rfl rfl rfl) ?_
  refine mv_ rfl ?_
  refine sk_guard (guard_off 6 true 11 rfl rfl false (by decide) rfl) rfl ?_
  simp only [ls0, ls1]
  refine sk_guard (guard_off 6 true 11 rfl rfl false (by decide) rfl) rfl ?_
  refine sk_guard (guard_off 6 true 11 rfl rfl false (by decide) rfl) rfl ?_
  refine sk_guard (guard_off 6 true 11 rfl rfl false (by decide) rfl) rfl ?_
  refine sk_guard (guard_off 6 true 11 rfl rfl false (by decide) rfl) rfl ?_
  simp only [ls0, ls1]
  refine sk_guard (guard_off 6 true 11 rfl rfl false (by decide) rfl) rfl ?_
  refine sk_guard (guard_off 6 true 11 rfl rfl false (by decide) rfl) rfl ?_
  refine st (.bool false) rfl rfl (xr_pick false _ rfl rfl rfl) ?_
  refine as_ rfl ?_
  simp only [ls0, ls1]
  refine wl_end ?_
  (try simp only [ls0, ls1])
  refine hK11 _ _ ?_
  (try clear hK11 K11)
  refine wp_ret ?_
  (try simp only [Exit.inBlock, Exit.then, Exit.noGoto])
  (try simp only [ls0, ls1])
  obtain rfl := Option.some.inj H
  refine bodyPost_ret (results_tmp rfl _ _ _) rfl ?_
  exact ⟨_, rfl, HS⟩
 | some o12 =>
  (try simp only [onOpt] at H)
  obtain ⟨g13, cs14, rfl, HX15, HK16⟩ := ptr_some HP0
  obtain ⟨vq17_0, Aq17_1, cpq17_1, Aq17_2, cpq17_2, rfl, HRq17_0, HCq17_1, HRq17_1, HCq17_2, HRq17_2⟩ := k118_openF HK16
  replace HRq17_0 : Ft c [0] w (fun w_ => (Kd.ptr 107 k107).K w_ o12.f0 [vq17_0]) := HRq17_0
  replace HRq17_1 : Ft c [0] w (fun w_ => (Kd.int .i64).C w_ Aq17_1 o12.f1.length o12.f1) := HRq17_1
  replace HRq17_2 : Ft c [0] w (fun w_ => (Kd.int .u64).C w_ Aq17_2 o12.f2.length o12.f2) := HRq17_2
  refine st (.bool true) rfl rfl (xr_bin (.pointer (some ⟨g13, 0, none⟩)) (.pointer none) (.bool true) rfl rfl rfl (B.neq_pn ⟨_, Tryd.underlying60⟩ ⟨g13, 0, none⟩)) ?_
  refine mv_ rfl ?_
  refine on_guard (guard_on 2 true 7 rfl rfl rfl) ?_
  refine mv_ rfl ?_
  refine on_guard (guard_on 2 true 7 rfl rfl rfl) ?_
  refine st (.bool (decide (a1 ≥ 0))) rfl rfl (xr_bin _ _ _ rfl rfl rfl (B.geq_i64 _ _)) ?_
  simp only [ls0, ls1]
  refine st (.bool (decide (a1 ≥ 0))) rfl rfl (xr_pick true _ rfl rfl rfl) ?_
  refine mv_ rfl ?_
  by_cases c18 : a1 ≥ 0
  ·rw [if_pos c18] at H
   (try rw [(decide_eq_true c18)])
   refine on_guard (guard_on 6 true 11 rfl rfl rfl) ?_
   refine mv_ rfl ?_
   refine on_guard (guard_on 6 true 11 rfl rfl rfl) ?_
   refine mv_ rfl ?_
   simp only [ls0, ls1]
   refine on_guard (guard_on 6 true 11 rfl rfl rfl) ?_
   refine st (.pointer (some ⟨g13, 0, none⟩)) rfl rfl (xr_nilCheck _ rfl rfl) ?_
   refine on_guard (guard_on 6 true 11 rfl rfl rfl) ?_
   refine st (.pointer (some ⟨g13, 2, none⟩)) rfl rfl (xr_fieldAddr _ _ rfl rfl (bx_field2 Tryd.underlying118 rfl rfl (by kernel_rfl))) ?_
   refine on_guard (guard_on 6 true 11 rfl rfl rfl) ?_
   refine st (.slice Aq17_2 o12.f2.length cpq17_2) rfl rfl (xr_load _ _ rfl rfl (load_cell Tryd.underlying116 rfl (bx_cell (Ft.now HX15) 2 rfl))) ?_
   refine on_guard (guard_on 6 true 11 rfl rfl rfl) ?_
   refine st (.int .i64 (o12.f2.length : Int)) rfl rfl (xr_builtin #[.slice Aq17_2 o12.f2.length cpq17_2] (.int .i64 (o12.f2.length : Int)) rfl (mp_ rfl) (by first | rfl | (go_simp; done) | (go_simp; rfl) | (go_simp; exact i64_w _) | (go_simp; exact i32_w _))) ?_
   simp only [ls0, ls1]
   refine on_guard (guard_on 6 true 11 rfl rfl rfl) ?_
   refine st (.bool (decide (a1 < (o12.f2.length : Int)))) rfl rfl (xr_bin _ _ _ rfl rfl rfl (B.lss_i64 _ _)) ?_
   refine st (.bool (decide (a1 < (o12.f2.length : Int)))) rfl rfl (xr_pick true _ rfl rfl rfl) ?_
   refine as_ rfl ?_
   refine wl_end ?_
   (try simp only [ls0, ls1])
   refine hK11 _ _ ?_
   (try clear hK11 K11)
   refine wp_ret ?_
   (try simp only [Exit.inBlock, Exit.then, Exit.noGoto])
   (try simp only [ls0, ls1])
   obtain rfl := Option.some.inj H
   refine bodyPost_ret (results_tmp rfl _ _ _) rfl ?_
   exact ⟨_, rfl, HS⟩
  rw [if_neg c18] at H
  (try rw [(decide_eq_false c18)])
  refine sk_guard (guard_off 6 true 11 rfl rfl false (by decide) rfl) rfl ?_
  refine sk_guard (guard_off 6 true 11 rfl rfl false (by decide) rfl) rfl ?_
  refine sk_guard (guard_off 6 true 11 rfl rfl false (by decide) rfl) rfl ?_
  refine sk_guard (guard_off 6 true 11 rfl rfl false (by decide) rfl) rfl ?_
  simp only [ls0, ls1]
  refine sk_guard (guard_off 6 true 11 rfl rfl false (by decide) rfl) rfl ?_
  refine sk_guard (guard_off 6 true 11 rfl rfl false (by decide) rfl) rfl ?_
  refine sk_guard (guard_off 6 true 11 rfl rfl false (by decide) rfl) rfl ?_
  refine st (.bool false) rfl rfl (xr_pick false _ rfl rfl rfl) ?_
  simp only [ls0, ls1]
  refine as_ rfl ?_
  refine wl_end ?_
  (try simp only [ls0, ls1])
  refine hK11 _ _ ?_
  (try clear hK11 K11)
  refine wp_ret ?_
  (try simp only [Exit.inBlock, Exit.then, Exit.noGoto])
  (try simp only [ls0, ls1])
  obtain rfl := Option.some.inj H
  refine bodyPost_ret (results_tmp rfl _ _ _) rfl ?_
  exact ⟨_, rfl, HS⟩

/-! ### irred_Irred_Set: function 44 -/
def irred_Irred_Set.f (x0 : Option S118) (a1 : Int) : Option (Int) := (irred_Irred_in.f x0 a1).bind fun t26 => (if t26 = true then (onOpt x0 (none) (fun o34 => (if 0 ≤ a1 then (if a1 < (o34.f2.length : Int) then (some (rd o34.f2 a1)) else (none)) else (none)))) else (some 0))
set_option maxHeartbeats 2000000 in
set_option maxRecDepth 100000 in
theorem irred_Irred_Set.calls (v0 : Value) (x0 : Option S118) (a1 : Int) (r : Int) (c : Nat → Nat) (w : World) (hc : ∀ k, c k < 10) (HP0 : Ft c [0] w (fun w_ => (Kd.ptr 118 k118).K w_ x0 [v0])) (H : irred_Irred_Set.f x0 a1 = some r) :
    Calls Tryd.prog 44 #[v0, .int .i64 a1] w fun e w' => ∃ (c' : Nat → Nat) , e = .returned (.int .u64 r) ∧ Step c w c' w' [] := by
 unfold irred_Irred_Set.f at H
 have HS := Step.refl c w []
 go_enter Tryd.func44, Tryd.ntmps44
 refine wp_seq_k fun K23 hK23 => ?_
 refine wl_region ?_
 refine st (.int .u64 0) rfl rfl (xr_assign _ rfl rfl) ?_
 refine wl_end ?_
 (try simp only [ls0, ls1])
 refine hK23 _ _ ?_
 (try clear hK23 K23)
 refine wp_seq_k fun K24 hK24 => ?_
 refine wp_seq_k fun K25 hK25 => ?_
 refine wl_region ?_
 refine mv_ rfl ?_
 refine mv_ rfl ?_
 obtain ⟨t26, A27, H⟩ := bnd H
 refine st_call #[v0, .int .i64 a1] rfl rfl Tryd.func69 (by kernel_rfl) rfl rfl (mp_ rfl) ?_
 refine (irred_Irred_in.calls v0 x0 a1 t26  (fun z_ => pal [(0, 0)] (c z_)) w (fun _ => pal_lt rfl _) (Ft.arg HP0 rfl) A27).mono ?_
 rintro _ w29 ⟨C30, rfl, hs31⟩
 refine ⟨_, rfl, ?_⟩
 replace hs31 := Step.lift (U := [(0, 0)]) hs31 [] rfl rfl
 generalize up c C30 w.heap.size [(0, 0)] = C30_ at hs31
 replace HP0 := HP0.thru hs31 rfl
 replace HS := HS.trans hs31 hc rfl
 (try simp only [ls0, ls1])
 refine st (.bool (!t26)) rfl rfl (xr_un (.bool t26) _ rfl rfl (by first | rfl | (go_simp; done) | (go_simp; rfl) | (go_simp; exact i64_w _) | (go_simp; exact i32_w _))) ?_
 refine wl_end ?_
 (try simp only [ls0, ls1])
 refine hK25 _ _ ?_
 (try clear hK25 K25)
 by_cases c32 : t26 = true
 ·rw [if_pos c32] at H
  (try rw [c32])
  (try simp only [Bool.not_true, Bool.not_false])
  refine wp_cond_false rfl ?_
  refine wp_skip ?_
  (try simp only [ls0, ls1])
  refine hK24 _ _ ?_
  (try clear hK24 K24)
  refine wp_seq_k fun K33 hK33 => ?_
  refine wl_region ?_
  refine mv_ rfl ?_
  cases x0 with
  | none =>
   (try simp only [onOpt] at H)
   obtain rfl := ptr_none HP0
   exact absurd H (by simp)
  | some o34 =>
   (try simp only [onOpt] at H)
   obtain ⟨g35, cs36, rfl, HX37, HK38⟩ := ptr_some HP0
   obtain ⟨vq39_0, Aq39_1, cpq39_1, Aq39_2, cpq39_2, rfl, HRq39_0, HCq39_1, HRq39_1, HCq39_2, HRq39_2⟩ := k118_openF HK38
   replace HRq39_0 : Ft C30_ [0] w29 (fun w_ => (Kd.ptr 107 k107).K w_ o34.f0 [vq39_0]) := HRq39_0
   replace HRq39_1 : Ft C30_ [0] w29 (fun w_ => (Kd.int .i64).C w_ Aq39_1 o34.f1.length o34.f1) := HRq39_1
   replace HRq39_2 : Ft C30_ [0] w29 (fun w_ => (Kd.int .u64).C w_ Aq39_2 o34.f2.length o34.f2) := HRq39_2
   refine st (.pointer (some ⟨g35, 0, none⟩)) rfl rfl (xr_nilCheck _ rfl rfl) ?_
   refine st (.pointer (some ⟨g35, 2, none⟩)) rfl rfl (xr_fieldAddr _ _ rfl rfl (bx_field2 Tryd.underlying118 rfl rfl (by kernel_rfl))) ?_
   refine st (.slice Aq39_2 o34.f2.length cpq39_2) rfl rfl (xr_load _ _ rfl rfl (load_cell Tryd.underlying116 rfl (bx_cell (Ft.now HX37) 2 rfl))) ?_
   simp only [ls0, ls1]
   refine mv_ rfl ?_
   obtain ⟨c40, H⟩ := if_some H
   obtain ⟨c41, H⟩ := if_some H
   obtain ⟨ad42, hA43⟩ := c_addr (Ft.now HRq39_2) (pos_of (j := a1) (by first | assumption | decide) (by first | assumption | omega))
   refine st (.pointer (some (ad42.add ((a1 : Int).toNat * 1)))) rfl rfl (xr_indexAddr _ _ _ rfl rfl rfl (index_at Tryd.underlying116 info58 hA43 (by first | assumption | decide | omega) (by first | assumption | decide | omega))) ?_
   refine st (.int .u64 (rd o34.f2 a1)) rfl rfl (xr_load _ _ rfl rfl (load_int Tryd.underlying58 rfl hA43 (Ft.now HRq39_2) (by first | assumption | decide | omega) (by first | assumption | decide | omega))) ?_
   refine as_ rfl ?_
   simp only [ls0, ls1]
   refine wl_end ?_
   (try simp only [ls0, ls1])
   refine hK33 _ _ ?_
   (try clear hK33 K33)
   refine wp_ret ?_
   (try simp only [Exit.inBlock, Exit.then, Exit.noGoto])
   (try simp only [ls0, ls1])
   obtain rfl := Option.some.inj H
   refine bodyPost_ret (results_tmp rfl _ _ _) rfl ?_
   exact ⟨_, rfl, HS⟩
 rw [if_neg c32] at H
 (try rw [(Bool.eq_false_iff.mpr c32)])
 (try simp only [Bool.not_true, Bool.not_false])
 refine wp_cond_true rfl ?_
 refine wp_seq_k fun K44 hK44 => ?_
 refine wl_region ?_
 refine st (.int .u64 0) rfl rfl (xr_assign _ rfl rfl) ?_
 refine wl_end ?_
 (try simp only [ls0, ls1])
 refine hK44 _ _ ?_
 (try clear hK44 K44)
 refine wp_ret ?_
 (try simp only [Exit.inBlock, Exit.then, Exit.noGoto])
 (try simp only [ls0, ls1])
 obtain rfl := Option.some.inj H
 refine bodyPost_ret (results_tmp rfl _ _ _) rfl ?_
 exact ⟨_, rfl, HS⟩

/-! ### blazonlaw15_awake: function 34 -/
def blazonlaw15_awake.f (k : Nat)  : Option (Bool) := (some ([(⟨(⟨#[98, 111, 116]⟩ : ByteArray), (⟨#[108]⟩ : ByteArray), 0⟩ : S53), (⟨(⟨#[98, 111, 116]⟩ : ByteArray), (⟨#[114]⟩ : ByteArray), 0⟩ : S53), (⟨(⟨#[108]⟩ : ByteArray), (⟨#[116, 111, 112]⟩ : ByteArray), 0⟩ : S53), (⟨(⟨#[114]⟩ : ByteArray), (⟨#[116, 111, 112]⟩ : ByteArray), 0⟩ : S53)] : List (S53))).bind fun y79 => ((blazonlaw15_made.f k y79).bind fun bt89 => ((irred_Irred_Len.f bt89.1).bind fun t126 => (if t126 = 2 then ((irred_Irred_Elem.f bt89.1 0).bind fun t133 => (if t133 = 1 then ((irred_Irred_Elem.f bt89.1 1).bind fun t140 => (if t140 = 2 then ((irred_Irred_Set.f bt89.1 3).bind fun t147 => (some (decide (t147 = 3)))) else (some false))) else (some false))) else (some false))))

set_option maxHeartbeats 2000000 in
set_option maxRecDepth 100000 in
theorem blazonlaw15_awake.calls (k : Nat)  (r : Bool) (c : Nat → Nat) (w : World) (hc : ∀ k, c k < 10) (HG : Ft c [0] w GTab) (H : blazonlaw15_awake.f k = some r) :
    Calls Tryd.prog 34 #[] w fun e w' => ∃ (c' : Nat → Nat) , e = .returned (.bool r) ∧ Step c w c' w' [] := by
 unfold blazonlaw15_awake.f at H
 have HS := Step.refl c w []
 go_enter Tryd.func34, Tryd.ntmps34
 refine wp_seq_k fun K77 hK77 => ?_
 refine wl_region ?_
 refine st (.bool false) rfl rfl (xr_assign _ rfl rfl) ?_
 refine wl_end ?_
 (try simp only [ls0, ls1])
 refine hK77 _ _ ?_
 (try clear hK77 K77)
 refine wp_seq_k fun K78 hK78 => ?_
 refine wl_region ?_
 refine st (.agg #[.string (⟨#[98, 111, 116]⟩ : ByteArray), .string (⟨#[108]⟩ : ByteArray), .int .i64 0]) rfl rfl (xr_build #[(0, .string (⟨#[98, 111, 116]⟩ : ByteArray)), (1, .string (⟨#[108]⟩ : ByteArray))] (.agg #[.string (⟨#[98, 111, 116]⟩ : ByteArray), .string (⟨#[108]⟩ : ByteArray), .int .i64 0]) rfl (mp_ rfl) (by first | rfl | (go_simp; done) | (go_simp; rfl) | (go_simp; exact i64_w _) | (go_simp; exact i32_w _))) ?_
 refine st (.agg #[.string (⟨#[98, 111, 116]⟩ : ByteArray), .string (⟨#[114]⟩ : ByteArray), .int .i64 0]) rfl rfl (xr_build #[(0, .string (⟨#[98, 111, 116]⟩ : ByteArray)), (1, .string (⟨#[114]⟩ : ByteArray))] (.agg #[.string (⟨#[98, 111, 116]⟩ : ByteArray), .string (⟨#[114]⟩ : ByteArray), .int .i64 0]) rfl (mp_ rfl) (by first | rfl | (go_simp; done) | (go_simp; rfl) | (go_simp; exact i64_w _) | (go_simp; exact i32_w _))) ?_
 refine st (.agg #[.string (⟨#[108]⟩ : ByteArray), .string (⟨#[116, 111, 112]⟩ : ByteArray), .int .i64 0]) rfl rfl (xr_build #[(0, .string (⟨#[108]⟩ : ByteArray)), (1, .string (⟨#[116, 111, 112]⟩ : ByteArray))] (.agg #[.string (⟨#[108]⟩ : ByteArray), .string (⟨#[116, 111, 112]⟩ : ByteArray), .int .i64 0]) rfl (mp_ rfl) (by first | rfl | (go_simp; done) | (go_simp; rfl) | (go_simp; exact i64_w _) | (go_simp; exact i32_w _))) ?_
 refine st (.agg #[.string (⟨#[114]⟩ : ByteArray), .string (⟨#[116, 111, 112]⟩ : ByteArray), .int .i64 0]) rfl rfl (xr_build #[(0, .string (⟨#[114]⟩ : ByteArray)), (1, .string (⟨#[116, 111, 112]⟩ : ByteArray))] (.agg #[.string (⟨#[114]⟩ : ByteArray), .string (⟨#[116, 111, 112]⟩ : ByteArray), .int .i64 0]) rfl (mp_ rfl) (by first | rfl | (go_simp; done) | (go_simp; rfl) | (go_simp; exact i64_w _) | (go_simp; exact i32_w _))) ?_
 simp only [ls0, ls1]
 obtain ⟨y79, A80, H⟩ := bnd H
 refine Own.lit k53 (C := c) (i := 11) rfl 53 rfl (xs := [(⟨(⟨#[98, 111, 116]⟩ : ByteArray), (⟨#[108]⟩ : ByteArray), 0⟩ : S53), (⟨(⟨#[98, 111, 116]⟩ : ByteArray), (⟨#[114]⟩ : ByteArray), 0⟩ : S53), (⟨(⟨#[108]⟩ : ByteArray), (⟨#[116, 111, 112]⟩ : ByteArray), 0⟩ : S53), (⟨(⟨#[114]⟩ : ByteArray), (⟨#[116, 111, 112]⟩ : ByteArray), 0⟩ : S53)]) (inner := [.string (⟨#[98, 111, 116]⟩ : ByteArray), .string (⟨#[108]⟩ : ByteArray), .int .i64 0, .string (⟨#[98, 111, 116]⟩ : ByteArray), .string (⟨#[114]⟩ : ByteArray), .int .i64 0, .string (⟨#[108]⟩ : ByteArray), .string (⟨#[116, 111, 112]⟩ : ByteArray), .int .i64 0, .string (⟨#[114]⟩ : ByteArray), .string (⟨#[116, 111, 112]⟩ : ByteArray), .int .i64 0]) (by first | (go_simp; done) | (go_simp; rfl)) (reps_cons (k53_mkF _ _ (⟨(⟨#[98, 111, 116]⟩ : ByteArray), (⟨#[108]⟩ : ByteArray), 0⟩ : S53)) rfl (reps_cons (k53_mkF _ _ (⟨(⟨#[98, 111, 116]⟩ : ByteArray), (⟨#[114]⟩ : ByteArray), 0⟩ : S53)) rfl (reps_cons (k53_mkF _ _ (⟨(⟨#[108]⟩ : ByteArray), (⟨#[116, 111, 112]⟩ : ByteArray), 0⟩ : S53)) rfl (reps_cons (k53_mkF _ _ (⟨(⟨#[114]⟩ : ByteArray), (⟨#[116, 111, 112]⟩ : ByteArray), 0⟩ : S53)) rfl (Reps.none _ _))))) (by simp only [List.length_cons, List.length_nil]; omega) (Option.some.inj A80) ?_
 intro A81 cp82 w83 C84 HO85 HC86 hs87
 replace HG := HG.thru hs87 rfl
 replace HS := HS.trans hs87 hc rfl
 (try simp only [ls0, ls1])
 replace HG := Ft.recol (a := 11) (b := 0) HG (.inl rfl)
 have HR88 := Ft.recolor (a := 11) (b := 0) (HO85.ft) [0] rfl
 replace HS := Step.recol (a := 11) (b := 0) HS hc (by decide)
 obtain ⟨⟨t89, t90, t91, t92, t93⟩, A94, H⟩ := bnd H
 (try dsimp only at H)
 refine st_call #[.slice A81 y79.length cp82] rfl rfl Tryd.func35 (by kernel_rfl) rfl rfl (mp_ rfl) ?_
 refine (blazonlaw15_made.calls k A81 cp82 y79 t89 t90 t91 t92 t93  (fun z_ => pal [(0, 0)] ((recol C84 11 0) z_)) w83 (fun _ => pal_lt rfl _) (Ft.arg HG rfl) (Ft.arg HR88 rfl) HC86 A94).mono ?_
 rintro _ w96 ⟨C97, v99, A101, cp102, A105, cp106, A109, cp110, A113, cp114, rfl, hs98, HB100, HO103, HC104, HO107, HC108, HO111, HC112, HO115, HC116⟩
 refine ⟨_, rfl, ?_⟩
 replace HB100 := Ft.res (U := [(0, 0), (5, 12), (6, 13)]) HB100 hs98 [0] rfl rfl rfl
 replace HO103 := Ft.res (U := [(0, 0), (5, 12), (6, 13)]) HO103 hs98 [0] rfl rfl rfl
 replace HO107 := Ft.res (U := [(0, 0), (5, 12), (6, 13)]) HO107 hs98 [0] rfl rfl rfl
 replace HO111 := Own.res (U := [(0, 0), (5, 12), (6, 13)]) (j := 12) HO111 hs98 (by rfl) (by decide) rfl rfl
 replace HO115 := Own.res (U := [(0, 0), (5, 12), (6, 13)]) (j := 13) HO115 hs98 (by rfl) (by decide) rfl rfl
 replace hs98 := Step.lift (U := [(0, 0), (5, 12), (6, 13)]) hs98 [] rfl rfl
 generalize up (recol C84 11 0) C97 w83.heap.size [(0, 0), (5, 12), (6, 13)] = C97_ at HB100 HO103 HO107 HO111 HO115 hs98
 replace HG := HG.thru hs98 rfl
 replace HS := HS.trans hs98 hc rfl
 (try simp only [ls0, ls1])
 refine mv_ rfl ?_
 refine st (v99) rfl rfl (xr_extract (.tuple #[v99, .agg #[.slice A101 t90.length cp102, .slice A105 t91.length cp106, .slice A109 t92.length cp110, .slice A113 t93.length cp114]]) _ rfl rfl rfl) ?_
 refine st (.agg #[.slice A101 t90.length cp102, .slice A105 t91.length cp106, .slice A109 t92.length cp110, .slice A113 t93.length cp114]) rfl rfl (xr_extract (.tuple #[v99, .agg #[.slice A101 t90.length cp102, .slice A105 t91.length cp106, .slice A109 t92.length cp110, .slice A113 t93.length cp114]]) _ rfl rfl rfl) ?_
 refine bx_new (C := C97_) 41 ([.slice none 0 0, .slice none 0 0, .slice none 0 0, .slice none 0 0]) 14 rfl rfl (by first | (go_simp; done) | (go_simp; rfl)) ?_
 intro g117 w118 C119 HX120 hs121
 replace HG := HG.thru hs121 rfl
 replace HB100 := HB100.thru hs121 rfl
 replace HO103 := HO103.thru hs121 rfl
 replace HO107 := HO107.thru hs121 rfl
 replace HO111 := HO111.thru hs121 rfl
 replace HO115 := HO115.thru hs121 rfl
 replace HS := HS.trans hs121 hc rfl
 (try simp only [ls0, ls1])
 refine as_ rfl ?_
 refine bx_store (C := C119) (z := 14) (g := g117) (j := 0) (tb := 41) (u := .agg #[.slice A101 t90.length cp102, .slice A105 t91.length cp106, .slice A109 t92.length cp110, .slice A113 t93.length cp114]) (seg := [.slice A101 t90.length cp102, .slice A105 t91.length cp106, .slice A109 t92.length cp110, .slice A113 t93.length cp114]) (xs := [.slice none 0 0, .slice none 0 0, .slice none 0 0, .slice none 0 0]) rfl rfl rfl rfl rfl rfl (by first | kernel_rfl | rfl) (by simp [Value.oneCell']) HX120 (by simp only [List.length_cons, List.length_nil]; omega) rfl ?_
 intro w122 HX123 hs124
 replace HG := HG.thru hs124 rfl
 replace HB100 := HB100.thru hs124 rfl
 replace HO103 := HO103.thru hs124 rfl
 replace HO107 := HO107.thru hs124 rfl
 replace HO111 := HO111.thru hs124 rfl
 replace HO115 := HO115.thru hs124 rfl
 replace HS := HS.trans hs124 hc rfl
 (try simp only [ls0, ls1])
 refine wl_end ?_
 (try simp only [ls0, ls1])
 refine hK78 _ _ ?_
 (try clear hK78 K78)
 refine wp_seq_k fun K125 hK125 => ?_
 refine wl_region ?_
 refine mv_ rfl ?_
 obtain ⟨t126, A127, H⟩ := bnd H
 refine st_call #[v99] rfl rfl Tryd.func42 (by kernel_rfl) rfl rfl (mp_ rfl) ?_
 refine (irred_Irred_Len.calls v99 t89 t126  (fun z_ => pal [(0, 0)] (C119 z_)) w122 (fun _ => pal_lt rfl _) (Ft.arg HB100 rfl) A127).mono ?_
 rintro _ w129 ⟨C130, rfl, hs131⟩
 refine ⟨_, rfl, ?_⟩
 replace hs131 := Step.lift (U := [(0, 0)]) hs131 [] rfl rfl
 generalize up C119 C130 w122.heap.size [(0, 0)] = C130_ at hs131
 replace HG := HG.thru hs131 rfl
 replace HB100 := HB100.thru hs131 rfl
 replace HO103 := HO103.thru hs131 rfl
 replace HO107 := HO107.thru hs131 rfl
 replace HO111 := HO111.thru hs131 rfl
 replace HO115 := HO115.thru hs131 rfl
 replace HX123 := HX123.thru hs131 rfl
 replace HS := HS.trans hs131 hc rfl
 (try simp only [ls0, ls1])
 refine st (.bool (decide (t126 = 2))) rfl rfl (xr_bin _ _ _ rfl rfl rfl (B.eql_i64 _ _)) ?_
 refine mv_ rfl ?_
 by_cases c132 : t126 = 2
 ·rw [if_pos c132] at H
  (try rw [(decide_eq_true c132)])
  refine on_guard (guard_on 3 true 15 rfl rfl rfl) ?_
  refine mv_ rfl ?_
  refine on_guard (guard_on 3 true 15 rfl rfl rfl) ?_
  obtain ⟨t133, A134, H⟩ := bnd H
  refine st_call #[v99, .int .i64 0] rfl rfl Tryd.func43 (by kernel_rfl) rfl rfl (mp_ rfl) ?_
  refine (irred_Irred_Elem.calls v99 t89 0 t133  (fun z_ => pal [(0, 0)] (C130_ z_)) w129 (fun _ => pal_lt rfl _) (Ft.arg HB100 rfl) A134).mono ?_
  rintro _ w136 ⟨C137, rfl, hs138⟩
  refine ⟨_, rfl, ?_⟩
  replace hs138 := Step.lift (U := [(0, 0)]) hs138 [] rfl rfl
  generalize up C130_ C137 w129.heap.size [(0, 0)] = C137_ at hs138
  replace HG := HG.thru hs138 rfl
  replace HB100 := HB100.thru hs138 rfl
  replace HO103 := HO103.thru hs138 rfl
  replace HO107 := HO107.thru hs138 rfl
  replace HO111 := HO111.thru hs138 rfl
  replace HO115 := HO115.thru hs138 rfl
  replace HX123 := HX123.thru hs138 rfl
  replace HS := HS.trans hs138 hc rfl
  (try simp only [ls0, ls1])
  refine on_guard (guard_on 3 true 15 rfl rfl rfl) ?_
  refine st (.bool (decide (t133 = 1))) rfl rfl (xr_bin _ _ _ rfl rfl rfl (B.eql_i64 _ _)) ?_
  refine st (.bool (decide (t133 = 1))) rfl rfl (xr_pick true _ rfl rfl rfl) ?_
  refine mv_ rfl ?_
  by_cases c139 : t133 = 1
  ·rw [if_pos c139] at H
   (try rw [(decide_eq_true c139)])
   refine on_guard (guard_on 8 true 20 rfl rfl rfl) ?_
   refine mv_ rfl ?_
   simp only [ls0, ls1]
   refine on_guard (guard_on 8 true 20 rfl rfl rfl) ?_
   obtain ⟨t140, A141, H⟩ := bnd H
   refine st_call #[v99, .int .i64 1] rfl rfl Tryd.func43 (by kernel_rfl) rfl rfl (mp_ rfl) ?_
   refine (irred_Irred_Elem.calls v99 t89 1 t140  (fun z_ => pal [(0, 0)] (C137_ z_)) w136 (fun _ => pal_lt rfl _) (Ft.arg HB100 rfl) A141).mono ?_
   rintro _ w143 ⟨C144, rfl, hs145⟩
   refine ⟨_, rfl, ?_⟩
   replace hs145 := Step.lift (U := [(0, 0)]) hs145 [] rfl rfl
   generalize up C137_ C144 w136.heap.size [(0, 0)] = C144_ at hs145
   replace HG := HG.thru hs145 rfl
   replace HB100 := HB100.thru hs145 rfl
   replace HO103 := HO103.thru hs145 rfl
   replace HO107 := HO107.thru hs145 rfl
   replace HO111 := HO111.thru hs145 rfl
   replace HO115 := HO115.thru hs145 rfl
   replace HX123 := HX123.thru hs145 rfl
   replace HS := HS.trans hs145 hc rfl
   (try simp only [ls0, ls1])
   refine on_guard (guard_on 8 true 20 rfl rfl rfl) ?_
   refine st (.bool (decide (t140 = 2))) rfl rfl (xr_bin _ _ _ rfl rfl rfl (B.eql_i64 _ _)) ?_
   refine st (.bool (decide (t140 = 2))) rfl rfl (xr_pick true _ rfl rfl rfl) ?_
   refine mv_ rfl ?_
   by_cases c146 : t140 = 2
   ·rw [if_pos c146] at H
    (try rw [(decide_eq_true c146)])
    refine on_guard (guard_on 13 true 25 rfl rfl rfl) ?_
    refine mv_ rfl ?_
    simp only [ls0, ls1]
    refine on_guard (guard_on 13 true 25 rfl rfl rfl) ?_
    obtain ⟨t147, A148, H⟩ := bnd H
    refine st_call #[v99, .int .i64 3] rfl rfl Tryd.func44 (by kernel_rfl) rfl rfl (mp_ rfl) ?_
    refine (irred_Irred_Set.calls v99 t89 3 t147  (fun z_ => pal [(0, 0)] (C144_ z_)) w143 (fun _ => pal_lt rfl _) (Ft.arg HB100 rfl) A148).mono ?_
    rintro _ w150 ⟨C151, rfl, hs152⟩
    refine ⟨_, rfl, ?_⟩
    replace hs152 := Step.lift (U := [(0, 0)]) hs152 [] rfl rfl
    generalize up C144_ C151 w143.heap.size [(0, 0)] = C151_ at hs152
    replace HG := HG.thru hs152 rfl
    replace HO103 := HO103.thru hs152 rfl
    replace HO107 := HO107.thru hs152 rfl
    replace HO111 := HO111.thru hs152 rfl
    replace HO115 := HO115.thru hs152 rfl
    replace HX123 := HX123.thru hs152 rfl
    replace HS := HS.trans hs152 hc rfl
    (try simp only [ls0, ls1])
    refine on_guard (guard_on 13 true 25 rfl rfl rfl) ?_
    refine st (.bool (decide (t147 = 3))) rfl rfl (xr_bin _ _ _ rfl rfl rfl (B.eql_u64 _ _)) ?_
    refine st (.bool (decide (t147 = 3))) rfl rfl (xr_pick true _ rfl rfl rfl) ?_
    refine as_ rfl ?_
    refine wl_end ?_
    (try simp only [ls0, ls1])
    refine hK125 _ _ ?_
    (try clear hK125 K125)
    refine wp_ret ?_
    (try simp only [Exit.inBlock, Exit.then, Exit.noGoto])
    (try simp only [ls0, ls1])
    obtain rfl := Option.some.inj H
    refine bodyPost_ret (results_tmp rfl _ _ _) rfl ?_
    exact ⟨_, rfl, HS⟩
   rw [if_neg c146] at H
   (try rw [(decide_eq_false c146)])
   refine sk_guard (guard_off 13 true 25 rfl rfl false (by decide) rfl) rfl ?_
   refine sk_guard (guard_off 13 true 25 rfl rfl false (by decide) rfl) rfl ?_
   refine sk_guard (guard_off 13 true 25 rfl rfl false (by decide) rfl) rfl ?_
   refine st (.bool false) rfl rfl (xr_pick false _ rfl rfl rfl) ?_
   simp only [ls0, ls1]
   refine as_ rfl ?_
   refine wl_end ?_
   (try simp only [ls0, ls1])
   refine hK125 _ _ ?_
   (try clear hK125 K125)
   refine wp_ret ?_
   (try simp only [Exit.inBlock, Exit.then, Exit.noGoto])
   (try simp only [ls0, ls1])
   obtain rfl := Option.some.inj H
   refine bodyPost_ret (results_tmp rfl _ _ _) rfl ?_
   exact ⟨_, rfl, HS⟩
  rw [if_neg c139] at H
  (try rw [(decide_eq_false c139)])
  refine sk_guard (guard_off 8 true 20 rfl rfl false (by decide) rfl) rfl ?_
  refine sk_guard (guard_off 8 true 20 rfl rfl false (by decide) rfl) rfl ?_
  refine sk_guard (guard_off 8 true 20 rfl rfl false (by decide) rfl) rfl ?_
  refine st (.bool false) rfl rfl (xr_pick false _ rfl rfl rfl) ?_
  simp only [ls0, ls1]
  refine mv_ rfl ?_
  refine sk_guard (guard_off 13 true 25 rfl rfl false (by decide) rfl) rfl ?_
  refine sk_guard (guard_off 13 true 25 rfl rfl false (by decide) rfl) rfl ?_
  refine sk_guard (guard_off 13 true 25 rfl rfl false (by decide) rfl) rfl ?_
  simp only [ls0, ls1]
  refine st (.bool false) rfl rfl (xr_pick false _ rfl rfl rfl) ?_
  refine as_ rfl ?_
  refine wl_end ?_
  (try simp only [ls0, ls1])
  refine hK125 _ _ ?_
  (try clear hK125 K125)
  refine wp_ret ?_
  (try simp only [Exit.inBlock, Exit.then, Exit.noGoto])
  (try simp only [ls0, ls1])
  obtain rfl := Option.some.inj H
  refine bodyPost_ret (results_tmp rfl _ _ _) rfl ?_
  exact ⟨_, rfl, HS⟩
 rw [if_neg c132] at H
 (try rw [(decide_eq_false c132)])
 refine sk_guard (guard_off 3 true 15 rfl rfl false (by decide) rfl) rfl ?_
 refine sk_guard (guard_off 3 true 15 rfl rfl false (by decide) rfl) rfl ?_
 refine sk_guard (guard_off 3 true 15 rfl rfl false (by decide) rfl) rfl ?_
 refine st (.bool false) rfl rfl (xr_pick false _ rfl rfl rfl) ?_
 simp only [ls0, ls1]
 refine mv_ rfl ?_
 refine sk_guard (guard_off 8 true 20 rfl rfl false (by decide) rfl) rfl ?_
 refine sk_guard (guard_off 8 true 20 rfl rfl false (by decide) rfl) rfl ?_
 refine sk_guard (guard_off 8 true 20 rfl rfl false (by decide) rfl) rfl ?_
 simp only [ls0, ls1]
 refine st (.bool false) rfl rfl (xr_pick false _ rfl rfl rfl) ?_
 refine mv_ rfl ?_
 refine sk_guard (guard_off 13 true 25 rfl rfl false (by decide) rfl) rfl ?_
 refine sk_guard (guard_off 13 true 25 rfl rfl false (by decide) rfl) rfl ?_
 simp only [ls0, ls1]
 refine sk_guard (guard_off 13 true 25 rfl rfl false (by decide) rfl) rfl ?_
 refine st (.bool false) rfl rfl (xr_pick false _ rfl rfl rfl) ?_
 refine as_ rfl ?_
 refine wl_end ?_
 (try simp only [ls0, ls1])
 refine hK125 _ _ ?_
 (try clear hK125 K125)
 refine wp_ret ?_
 (try simp only [Exit.inBlock, Exit.then, Exit.noGoto])
 (try simp only [ls0, ls1])
 obtain rfl := Option.some.inj H
 refine bodyPost_ret (results_tmp rfl _ _ _) rfl ?_
 exact ⟨_, rfl, HS⟩

/-! ### irred_Irred_some: function 66 -/
mutual
def irred_Irred_some.l0 : Nat → Int → Int → Int → Option (List Int)
  | 0, _, _, _ => none
  | k + 1, a1, t158, x182 => if x182 < t158 then (if 0 ≤ (IntKind.u64.wrap (x182)) then (if (Go.bits .and .u64 (shr .u64 a1 (IntKind.u64.wrap (x182))) 1) = 1 then (none) else (irred_Irred_some.l0 k a1 t158 (wrap64 (x182 + 1)))) else (none)) else (some ([] : List Int))
def irred_Irred_some.l1 : Nat → Int → S118 → Int → (List Int) → Int → Option (List Int)
  | 0, _, _, _, _, _ => none
  | k + 1, a1, o164, t158, x264, x270 => if x270 < t158 then (if 0 ≤ (IntKind.u64.wrap (x270)) then (if (Go.bits .and .u64 (shr .u64 a1 (IntKind.u64.wrap (x270))) 1) = 1 then (if 0 ≤ x270 then (if x270 < (o164.f1.length : Int) then (if x264.length < 17592186044416 then ((some (x264 ++ [rd o164.f1 x270] : List Int)).bind fun y297 => (irred_Irred_some.l1 k a1 o164 t158 y297 (wrap64 (x270 + 1)))) else (none)) else (none)) else (none)) else (irred_Irred_some.l1 k a1 o164 t158 x264 (wrap64 (x270 + 1)))) else (none)) else (some x264)
end
def irred_Irred_some.f (k : Nat) (x0 : Option S118) (a1 : Int) : Option (List Int) := (irred_Irred_Len.f x0).bind fun t158 => (onOpt x0 (irred_Irred_some.l0 k a1 t158 0) (fun o164 => (irred_Irred_some.l1 k a1 o164 t158 ([] : List Int) 0)))

set_option maxHeartbeats 2000000 in
set_option maxRecDepth 100000 in
theorem irred_Irred_some.calls (k : Nat) (v0 : Value) (x0 : Option S118) (a1 : Int) (r : List Int) (c : Nat → Nat) (w : World) (hc : ∀ k, c k < 10) (HP0 : Ft c [0] w (fun w_ => (Kd.ptr 118 k118).K w_ x0 [v0])) (H : irred_Irred_some.f k x0 a1 = some r) :
    Calls Tryd.prog 66 #[v0, .int .u64 a1] w fun e w' => ∃ (c' : Nat → Nat) (A_r : Option Addr) (c_r : Nat), e = .returned (.slice A_r r.length c_r) ∧ Step c w c' w' [] ∧ Own c' 5 w' (Kd.int .i64) 3 (.slice A_r r.length c_r) r ∧ r.length ≤ c_r := by
 unfold irred_Irred_some.f at H
 have HS := Step.refl c w []
 go_enter Tryd.func66, Tryd.ntmps66
 refine wp_seq_k fun K154 hK154 => ?_
 refine wl_region ?_
 refine st (.slice none 0 0) rfl rfl (xr_assign _ rfl rfl) ?_
 refine wl_end ?_
 (try simp only [ls0, ls1])
 refine hK154 _ _ ?_
 (try clear hK154 K154)
 refine wp_seq_k fun K155 hK155 => ?_
 refine wl_region ?_
 refine st (.slice none 0 0) rfl rfl (xr_assign _ rfl rfl) ?_
 refine wl_end ?_
 (try simp only [ls0, ls1])
 refine hK155 _ _ ?_
 (try clear hK155 K155)
 refine wp_seq_k fun K156 hK156 => ?_
 refine wp_seq_k fun K157 hK157 => ?_
 refine wl_region ?_
 refine mv_ rfl ?_
 obtain ⟨t158, A159, H⟩ := bnd H
 refine st_call #[v0] rfl rfl Tryd.func42 (by kernel_rfl) rfl rfl (mp_ rfl) ?_
 refine (irred_Irred_Len.calls v0 x0 t158  (fun z_ => pal [(0, 0)] (c z_)) w (fun _ => pal_lt rfl _) (Ft.arg HP0 rfl) A159).mono ?_
 rintro _ w161 ⟨C162, rfl, hs163⟩
 refine ⟨_, rfl, ?_⟩
 replace hs163 := Step.lift (U := [(0, 0)]) hs163 [] rfl rfl
 generalize up c C162 w.heap.size [(0, 0)] = C162_ at hs163
 replace HP0 := HP0.thru hs163 rfl
 replace HS := HS.trans hs163 hc rfl
 (try simp only [ls0, ls1])
 refine st (.int .i64 0) rfl rfl (xr_move _ rfl rfl) ?_
 refine wl_end ?_
 (try simp only [ls0, ls1])
 refine hK157 _ _ ?_
 (try clear hK157 K157)
 refine wp_block ?_
 cases x0 with
 | none =>
  (try simp only [onOpt] at H)
  obtain rfl := ptr_none HP0
  (try simp only [ls0, ls1])
  refine wp_looped (looped_fin (fun kq185 a_ w184 => ∃ (C183 : Nat → Nat) (x182 : Int) (g_ : Nat → Value), a_ = ⟨#[.pointer none, .int .u64 a1, (g_ 2), (g_ 3), (g_ 4), .slice none 0 0, (g_ 6), (g_ 7), .int .i64 t158, .int .i64 x182, (g_ 10), (g_ 11), (g_ 12), (g_ 13), (g_ 14), (g_ 15), (g_ 16), (g_ 17), (g_ 18), (g_ 19), (g_ 20), (g_ 21), (g_ 22), (g_ 23), (g_ 24), (g_ 25), (g_ 26), (g_ 27), (g_ 28), (g_ 29)], []⟩ ∧ Step c w C183 w184 [] ∧ kq185 ≤ k ∧ irred_Irred_some.l0 kq185 a1 t158 x182 = some r) ?step fun hL_ => ?init)
  case init =>
   exact jmpL (fun a_ h_ => hL_ k a_ _ h_) (fun g_ => ⟨_, 0, g_, rfl, HS, Nat.le_refl _, H⟩) rfl
  case step =>
   intro kq185 ih188 a189 w184 hr190
   obtain ⟨C183, x182, g_, rfl, HS186, hk187, H⟩ := hr190
   refine looped_round ?_
   cases kq185 with
   | zero => exact absurd H (by simp [irred_Irred_some.l0])
   | succ k191 =>
    simp only [irred_Irred_some.l0] at H
    refine wp_seq_k fun K192 hK192 => ?_
    refine wl_region ?_
    refine st (.bool (decide (x182 < t158))) rfl rfl (xr_bin _ _ _ rfl rfl rfl (B.lss_i64 _ _)) ?_
    refine wl_end ?_
    (try simp only [ls0, ls1])
    refine hK192 _ _ ?_
    (try clear hK192 K192)
    refine wp_seq_k fun K193 hK193 => ?_
    by_cases c194 : x182 < t158
    ·rw [if_pos c194] at H
     (try rw [(decide_eq_true c194)])
     refine wp_cond_true rfl ?_
     refine wp_skip ?_
     (try simp only [ls0, ls1])
     refine hK193 _ _ ?_
     (try clear hK193 K193)
     refine wp_seq_k fun K195 hK195 => ?_
     refine wp_block ?_
     refine wp_seq_k fun K196 hK196 => ?_
     refine wl_region ?_
     refine mv_ rfl ?_
     refine as_ rfl ?_
     refine wl_end ?_
     (try simp only [ls0, ls1])
     refine hK196 _ _ ?_
     (try clear hK196 K196)
     refine wp_seq_k fun K197 hK197 => ?_
     refine wl_region ?_
     refine mv_ rfl ?_
     refine mv_ rfl ?_
     refine st (.int .u64 (IntKind.u64.wrap (x182))) rfl rfl (xr_conv (.int .i64 x182) _ rfl rfl (by first | rfl | (go_simp; done) | (go_simp; rfl) | (go_simp; exact i64_w _) | (go_simp; exact i32_w _))) ?_
     obtain ⟨c198, H⟩ := if_some H
     refine st (.int .u64 (shr .u64 a1 (IntKind.u64.wrap (x182)))) rfl rfl (xr_bin _ _ _ rfl rfl rfl (B.shr_u64_u64 _ _ (by assumption))) ?_
     simp only [ls0, ls1]
     refine st (.int .u64 (Go.bits .and .u64 (shr .u64 a1 (IntKind.u64.wrap (x182))) 1)) rfl rfl (xr_bin _ _ _ rfl rfl rfl (B.and_u64 _ _)) ?_
     refine st (.bool (decide ((Go.bits .and .u64 (shr .u64 a1 (IntKind.u64.wrap (x182))) 1) = 1))) rfl rfl (xr_bin _ _ _ rfl rfl rfl (B.eql_u64 _ _)) ?_
     refine wl_end ?_
     (try simp only [ls0, ls1])
     refine hK197 _ _ ?_
     (try clear hK197 K197)
     by_cases c199 : (Go.bits .and .u64 (shr .u64 a1 (IntKind.u64.wrap (x182))) 1) = 1
     ·rw [if_pos c199] at H
      (try rw [(decide_eq_true c199)])
      refine wp_cond_true rfl ?_
      refine wl_region ?_
      refine mv_ rfl ?_
      refine mv_ rfl ?_
      exact absurd H (by simp)
     rw [if_neg c199] at H
     (try rw [(decide_eq_false c199)])
     refine wp_cond_false rfl ?_
     refine wp_skip ?_
     (try simp only [ls0, ls1])
     refine hK195 _ _ ?_
     (try clear hK195 K195)
     refine wl_region ?_
     refine st (.int .i64 (wrap64 (x182 + 1))) rfl rfl (xr_bin _ _ _ rfl rfl rfl (B.add_i64 _ _)) ?_
     refine mv_ rfl ?_
     refine wl_end ?_
     (try simp only [ls0, ls1])
     exact jmpL (fun a_ h_ => ih188 k191 (by omega) a_ _ h_) (fun g_ => ⟨_, wrap64 (x182 + 1), g_, rfl, HS186, (by omega), H⟩) rfl
    rw [if_neg c194] at H
    (try rw [(decide_eq_false c194)])
    refine wp_cond_false rfl ?_
    refine wp_exit ?_
    (try simp only [ls0, ls1])
    refine hK156 _ _ ?_
    (try clear hK156 K156)
    refine wp_seq_k fun K200 hK200 => ?_
    refine wl_region ?_
    refine mv_ rfl ?_
    refine as_ rfl ?_
    refine wl_end ?_
    (try simp only [ls0, ls1])
    refine hK200 _ _ ?_
    (try clear hK200 K200)
    refine wp_ret ?_
    (try simp only [Exit.inBlock, Exit.then, Exit.noGoto])
    (try simp only [ls0, ls1])
    obtain rfl := Option.some.inj H
    refine bodyPost_ret (results_tmp rfl _ _ _) rfl ?_
    exact ⟨_, none, 0, rfl, HS186, (Own.nil _ _ _ _ _), (Nat.le_refl 0)⟩
 | some o164 =>
  (try simp only [onOpt] at H)
  obtain ⟨g201, cs202, rfl, HX203, HK204⟩ := ptr_some HP0
  obtain ⟨vq205_0, Aq205_1, cpq205_1, Aq205_2, cpq205_2, rfl, HRq205_0, HCq205_1, HRq205_1, HCq205_2, HRq205_2⟩ := k118_openF HK204
  replace HRq205_0 : Ft C162_ [0] w161 (fun w_ => (Kd.ptr 107 k107).K w_ o164.f0 [vq205_0]) := HRq205_0
  replace HRq205_1 : Ft C162_ [0] w161 (fun w_ => (Kd.int .i64).C w_ Aq205_1 o164.f1.length o164.f1) := HRq205_1
  replace HRq205_2 : Ft C162_ [0] w161 (fun w_ => (Kd.int .u64).C w_ Aq205_2 o164.f2.length o164.f2) := HRq205_2
  (try simp only [ls0, ls1])
  refine wp_looped (looped_fin (fun kq277 a_ w276 => ∃ (C275 : Nat → Nat) (x270 : Int) (A265 : Option Addr) (n266 cp267 : Nat) (x264 : List Int) (g_ : Nat → Value), a_ = ⟨#[.pointer (some ⟨g201, 0, none⟩), .int .u64 a1, (g_ 2), (g_ 3), (g_ 4), .slice A265 n266 cp267, (g_ 6), (g_ 7), .int .i64 t158, .int .i64 x270, (g_ 10), (g_ 11), (g_ 12), (g_ 13), (g_ 14), (g_ 15), (g_ 16), (g_ 17), (g_ 18), (g_ 19), (g_ 20), (g_ 21), (g_ 22), (g_ 23), (g_ 24), (g_ 25), (g_ 26), (g_ 27), (g_ 28), (g_ 29)], []⟩ ∧ Step c w C275 w276 [] ∧ kq277 ≤ k ∧ (Own C275 12 w276 (Kd.int .i64) 3 (.slice A265 n266 cp267) x264) ∧ (n266 ≤ cp267) ∧ (Ft C275 [0] w276 (fun w_ => (Kd.ptr 107 k107).K w_ o164.f0 [vq205_0])) ∧ (Ft C275 [0] w276 (fun w_ => (Kd.int .i64).C w_ Aq205_1 o164.f1.length o164.f1)) ∧ (Ft C275 [0] w276 (fun w_ => (Kd.int .u64).C w_ Aq205_2 o164.f2.length o164.f2)) ∧ (Ft C275 [0] w276 (fun w_ => w_.heap[g201]? = some (.cells (List.toArray ([vq205_0, .slice Aq205_1 o164.f1.length cpq205_1, .slice Aq205_2 o164.f2.length cpq205_2])) 118 (0, 0)))) ∧ irred_Irred_some.l1 kq277 a1 o164 t158 x264 x270 = some r) ?step fun hL_ => ?init)
  case init =>
   exact jmpL (fun a_ h_ => hL_ k a_ _ h_) (fun g_ => ⟨_, 0, none, 0, 0, ([] : List Int), g_, rfl, HS, Nat.le_refl _, (Own.nil _ _ _ _ _), (Nat.le_refl 0), HRq205_0, HRq205_1, HRq205_2, HX203, H⟩) rfl
  case step =>
   intro kq277 ih280 a281 w276 hr282
   obtain ⟨C275, x270, A265, n266, cp267, x264, g_, rfl, HS278, hk279, HJ269, HC268, HJ271, HJ272, HJ273, HJ274, H⟩ := hr282
   refine looped_round ?_
   obtain rfl : n266 = x264.length := HJ269.at_.1
   cases kq277 with
   | zero => exact absurd H (by simp [irred_Irred_some.l1])
   | succ k283 =>
    simp only [irred_Irred_some.l1] at H
    refine wp_seq_k fun K284 hK284 => ?_
    refine wl_region ?_
    refine st (.bool (decide (x270 < t158))) rfl rfl (xr_bin _ _ _ rfl rfl rfl (B.lss_i64 _ _)) ?_
    refine wl_end ?_
    (try simp only [ls0, ls1])
    refine hK284 _ _ ?_
    (try clear hK284 K284)
    refine wp_seq_k fun K285 hK285 => ?_
    by_cases c286 : x270 < t158
    ·rw [if_pos c286] at H
     (try rw [(decide_eq_true c286)])
     refine wp_cond_true rfl ?_
     refine wp_skip ?_
     (try simp only [ls0, ls1])
     refine hK285 _ _ ?_
     (try clear hK285 K285)
     refine wp_seq_k fun K287 hK287 => ?_
     refine wp_block ?_
     refine wp_seq_k fun K288 hK288 => ?_
     refine wl_region ?_
     refine mv_ rfl ?_
     refine as_ rfl ?_
     refine wl_end ?_
     (try simp only [ls0, ls1])
     refine hK288 _ _ ?_
     (try clear hK288 K288)
     refine wp_seq_k fun K289 hK289 => ?_
     refine wl_region ?_
     refine mv_ rfl ?_
     refine mv_ rfl ?_
     refine st (.int .u64 (IntKind.u64.wrap (x270))) rfl rfl (xr_conv (.int .i64 x270) _ rfl rfl (by first | rfl | (go_simp; done) | (go_simp; rfl) | (go_simp; exact i64_w _) | (go_simp; exact i32_w _))) ?_
     obtain ⟨c290, H⟩ := if_some H
     refine st (.int .u64 (shr .u64 a1 (IntKind.u64.wrap (x270)))) rfl rfl (xr_bin _ _ _ rfl rfl rfl (B.shr_u64_u64 _ _ (by assumption))) ?_
     simp only [ls0, ls1]
     refine st (.int .u64 (Go.bits .and .u64 (shr .u64 a1 (IntKind.u64.wrap (x270))) 1)) rfl rfl (xr_bin _ _ _ rfl rfl rfl (B.and_u64 _ _)) ?_
     refine st (.bool (decide ((Go.bits .and .u64 (shr .u64 a1 (IntKind.u64.wrap (x270))) 1) = 1))) rfl rfl (xr_bin _ _ _ rfl rfl rfl (B.eql_u64 _ _)) ?_
     refine wl_end ?_
     (try simp only [ls0, ls1])
     refine hK289 _ _ ?_
     (try clear hK289 K289)
     by_cases c291 : (Go.bits .and .u64 (shr .u64 a1 (IntKind.u64.wrap (x270))) 1) = 1
     ·rw [if_pos c291] at H
      (try rw [(decide_eq_true c291)])
      refine wp_cond_true rfl ?_
      refine wl_region ?_
      refine mv_ rfl ?_
      refine mv_ rfl ?_
      refine st (.pointer (some ⟨g201, 0, none⟩)) rfl rfl (xr_nilCheck _ rfl rfl) ?_
      refine st (.pointer (some ⟨g201, 1, none⟩)) rfl rfl (xr_fieldAddr _ _ rfl rfl (bx_field2 Tryd.underlying118 rfl rfl (by kernel_rfl))) ?_
      simp only [ls0, ls1]
      refine st (.slice Aq205_1 o164.f1.length cpq205_1) rfl rfl (xr_load _ _ rfl rfl (load_cell Tryd.underlying23 rfl (bx_cell (Ft.now HJ274) 1 rfl))) ?_
      refine mv_ rfl ?_
      obtain ⟨c292, H⟩ := if_some H
      obtain ⟨c293, H⟩ := if_some H
      obtain ⟨ad294, hA295⟩ := c_addr (Ft.now HJ272) (pos_of (j := x270) (by first | assumption | decide) (by first | assumption | omega))
      refine st (.pointer (some (ad294.add ((x270 : Int).toNat * 1)))) rfl rfl (xr_indexAddr _ _ _ rfl rfl rfl (index_at Tryd.underlying23 info3 hA295 (by first | assumption | decide | omega) (by first | assumption | decide | omega))) ?_
      refine st (.int .i64 (rd o164.f1 x270)) rfl rfl (xr_load _ _ rfl rfl (load_int Tryd.underlying3 rfl hA295 (Ft.now HJ272) (by first | assumption | decide | omega) (by first | assumption | decide | omega))) ?_
      simp only [ls0, ls1]
      refine ev_run (w1 := w276.alloc (.cells #[.int .i64 (rd o164.f1 x270)] 3)) (.slice (some ⟨w276.heap.size, 0, none⟩) 1 1) rfl rfl (by first | (go_simp; done) | (go_simp; rfl)) ?_
      (try simp only [Act.put, List.setIfInBounds_toArray, ls0, ls1])
      obtain ⟨c296, H⟩ := if_some H
      obtain ⟨y297, A298, H⟩ := bnd H
      refine Own.append (Kd.int .i64) (C := C275) (i := 12) rfl (.tmp 18) (.tmp 26) 23 3 (.int .i64 0) 8 rfl Tryd.underlying23 info3 rfl (by decide) (by decide) (.slice A265 x264.length cp267) x264 (rd o164.f1 x270) [.int .i64 (rd o164.f1 x270)] rfl rfl (fk_int .i64 _ _ (rd o164.f1 x270)) HJ269 (by decide) (by omega) (Option.some.inj A298) ?_
      intro A299 cp300 w301 C302 HO303 HC304 hs305
      replace HJ274 := HJ274.thru hs305 rfl
      replace HJ271 := HJ271.thru hs305 rfl
      replace HJ272 := HJ272.thru hs305 rfl
      replace HJ273 := HJ273.thru hs305 rfl
      replace HS278 := HS278.trans hs305 hc rfl
      (try simp only [ls0, ls1])
      refine as_ rfl ?_
      refine wl_end ?_
      (try simp only [ls0, ls1])
      refine hK287 _ _ ?_
      (try clear hK287 K287)
      refine wl_region ?_
      refine st (.int .i64 (wrap64 (x270 + 1))) rfl rfl (xr_bin _ _ _ rfl rfl rfl (B.add_i64 _ _)) ?_
      refine mv_ rfl ?_
      refine wl_end ?_
      (try simp only [ls0, ls1])
      exact jmpL (fun a_ h_ => ih280 k283 (by omega) a_ _ h_) (fun g_ => ⟨_, wrap64 (x270 + 1), A299, y297.length, cp300, y297, g_, rfl, HS278, (by omega), HO303, HC304, HJ271, HJ272, HJ273, HJ274, H⟩) rfl
     rw [if_neg c291] at H
     (try rw [(decide_eq_false c291)])
     refine wp_cond_false rfl ?_
     refine wp_skip ?_
     (try simp only [ls0, ls1])
     refine hK287 _ _ ?_
     (try clear hK287 K287)
     refine wl_region ?_
     refine st (.int .i64 (wrap64 (x270 + 1))) rfl rfl (xr_bin _ _ _ rfl rfl rfl (B.add_i64 _ _)) ?_
     refine mv_ rfl ?_
     refine wl_end ?_
     (try simp only [ls0, ls1])
     exact jmpL (fun a_ h_ => ih280 k283 (by omega) a_ _ h_) (fun g_ => ⟨_, wrap64 (x270 + 1), A265, x264.length, cp267, x264, g_, rfl, HS278, (by omega), HJ269, HC268, HJ271, HJ272, HJ273, HJ274, H⟩) rfl
    rw [if_neg c286] at H
    (try rw [(decide_eq_false c286)])
    refine wp_cond_false rfl ?_
    refine wp_exit ?_
    (try simp only [ls0, ls1])
    refine hK156 _ _ ?_
    (try clear hK156 K156)
    refine wp_seq_k fun K306 hK306 => ?_
    refine wl_region ?_
    refine mv_ rfl ?_
    refine as_ rfl ?_
    refine wl_end ?_
    (try simp only [ls0, ls1])
    refine hK306 _ _ ?_
    (try clear hK306 K306)
    refine wp_ret ?_
    (try simp only [Exit.inBlock, Exit.then, Exit.noGoto])
    (try simp only [ls0, ls1])
    replace HJ269 := Own.recolor (b := 5) HJ269 (by decide)
    replace HJ274 := Ft.recol (a := 12) (b := 5) HJ274 (.inl rfl)
    replace HJ271 := Ft.recol (a := 12) (b := 5) HJ271 (.inl rfl)
    replace HJ272 := Ft.recol (a := 12) (b := 5) HJ272 (.inl rfl)
    replace HJ273 := Ft.recol (a := 12) (b := 5) HJ273 (.inl rfl)
    replace HS278 := Step.recol (a := 12) (b := 5) HS278 hc (by decide)
    obtain rfl := Option.some.inj H
    refine bodyPost_ret (results_tmp rfl _ _ _) rfl ?_
    exact ⟨_, A265, cp267, rfl, HS278, HJ269, HC268⟩

/-! ### irred_Irred_Of: function 36 -/
def irred_Irred_Of.f (k : Nat) (x0 : Option S118) (a1 : Int) : Option (Int) := onOpt x0 (some (-1)) (fun o33 => ((irred_Irred_some.f k (some (⟨o33.f0, o33.f1, o33.f2⟩ : S118) : Option S118) a1).bind fun t43 => ((lattice_Lattice_JoinAll.f k o33.f0 t43).bind fun t53 => (some t53))))

set_option maxHeartbeats 2000000 in
set_option maxRecDepth 100000 in
theorem irred_Irred_Of.calls (k : Nat) (v0 : Value) (x0 : Option S118) (a1 : Int) (r : Int) (c : Nat → Nat) (w : World) (hc : ∀ k, c k < 10) (HP0 : Ft c [0] w (fun w_ => (Kd.ptr 118 k118).K w_ x0 [v0])) (H : irred_Irred_Of.f k x0 a1 = some r) :
    Calls Tryd.prog 36 #[v0, .int .u64 a1] w fun e w' => ∃ (c' : Nat → Nat) , e = .returned (.int .i64 r) ∧ Step c w c' w' [] := by
 unfold irred_Irred_Of.f at H
 have HS := Step.refl c w []
 go_enter Tryd.func36, Tryd.ntmps36
 refine wp_seq_k fun K30 hK30 => ?_
 refine wl_region ?_
 refine st (.int .i64 0) rfl rfl (xr_assign _ rfl rfl) ?_
 refine wl_end ?_
 (try simp only [ls0, ls1])
 refine hK30 _ _ ?_
 (try clear hK30 K30)
 refine wp_seq_k fun K31 hK31 => ?_
 refine wp_seq_k fun K32 hK32 => ?_
 refine wl_region ?_
 refine mv_ rfl ?_
 cases x0 with
 | none =>
  (try simp only [onOpt] at H)
  obtain rfl := ptr_none HP0
  refine st (.bool true) rfl rfl (xr_bin (.pointer none) (.pointer none) (.bool true) rfl rfl rfl (B.eql_nn ⟨_, Tryd.underlying60⟩ (⟨0, 0, none⟩ : Addr))) ?_
  refine wl_end ?_
  (try simp only [ls0, ls1])
  refine hK32 _ _ ?_
  (try clear hK32 K32)
  refine wp_cond_true rfl ?_
  refine wp_seq_k fun K34 hK34 => ?_
  refine wl_region ?_
  refine st (.int .i64 (-1)) rfl rfl (xr_assign _ rfl rfl) ?_
  refine wl_end ?_
  (try simp only [ls0, ls1])
  refine hK34 _ _ ?_
  (try clear hK34 K34)
  refine wp_ret ?_
  (try simp only [Exit.inBlock, Exit.then, Exit.noGoto])
  (try simp only [ls0, ls1])
  obtain rfl := Option.some.inj H
  refine bodyPost_ret (results_tmp rfl _ _ _) rfl ?_
  exact ⟨_, rfl, HS⟩
 | some o33 =>
  (try simp only [onOpt] at H)
  obtain ⟨g35, cs36, rfl, HX37, HK38⟩ := ptr_some HP0
  obtain ⟨vq39_0, Aq39_1, cpq39_1, Aq39_2, cpq39_2, rfl, HRq39_0, HCq39_1, HRq39_1, HCq39_2, HRq39_2⟩ := k118_openF HK38
  replace HRq39_0 : Ft c [0] w (fun w_ => (Kd.ptr 107 k107).K w_ o33.f0 [vq39_0]) := HRq39_0
  replace HRq39_1 : Ft c [0] w (fun w_ => (Kd.int .i64).C w_ Aq39_1 o33.f1.length o33.f1) := HRq39_1
  replace HRq39_2 : Ft c [0] w (fun w_ => (Kd.int .u64).C w_ Aq39_2 o33.f2.length o33.f2) := HRq39_2
  refine st (.bool false) rfl rfl (xr_bin (.pointer (some ⟨g35, 0, none⟩)) (.pointer none) (.bool false) rfl rfl rfl (B.eql_pn ⟨_, Tryd.underlying60⟩ ⟨g35, 0, none⟩)) ?_
  refine wl_end ?_
  (try simp only [ls0, ls1])
  refine hK32 _ _ ?_
  (try clear hK32 K32)
  refine wp_cond_false rfl ?_
  refine wp_skip ?_
  (try simp only [ls0, ls1])
  refine hK31 _ _ ?_
  (try clear hK31 K31)
  refine wp_seq_k fun K40 hK40 => ?_
  (try simp only [ls0, ls1])
  refine al_start (lb 9 0) rfl rfl rfl (fun w_ => w_.heap[g35]? = some (.cells (List.toArray ([vq39_0, .slice Aq39_1 o33.f1.length cpq39_1, .slice Aq39_2 o33.f2.length cpq39_2])) 118 (0, 0))) (Ft.now (HX37.drew)) [] ?_
  replace HX37 := HX37.drew
  replace HRq39_0 := HRq39_0.drew
  replace HRq39_1 := HRq39_1.drew
  replace HRq39_2 := HRq39_2.drew
  replace HS := Step.ofDrew HS
  generalize w.drew = w41 at *
  refine al_mv 0 (lb 9 1) rfl rfl (by kernel_rfl) (fun _ _ _ => id) rfl ?_
  refine al_pure 1 8 (.pointer (some ⟨g35, 0, none⟩)) (lb 9 3) rfl rfl (by kernel_rfl) (fun _ _ _ => id) rfl (fun w_ => xr_nilCheck _ rfl rfl) ?_
  refine al_pure 2 9 (.pointer (some ⟨g35, 0, none⟩)) (lb 9 7) rfl rfl (by kernel_rfl) (fun _ _ _ => id) rfl (fun w_ => xr_fieldAddr _ _ rfl rfl (bx_field2 Tryd.underlying118 rfl rfl (by kernel_rfl))) ?_
  refine al_mv 4 (lb 9 23) rfl rfl (by kernel_rfl) (fun _ _ _ => id) rfl ?_
  simp only [ls0, ls1]
  refine al_mv 5 (lb 9 55) rfl rfl (by kernel_rfl) (fun _ _ _ => id) rfl ?_
  refine al_take 3 10 (vq39_0) (lb 9 63) rfl rfl (by kernel_rfl) (fun _ _ _ => id) rfl (fun w_ hS_ => xr_load _ _ rfl rfl (load_cell Tryd.underlying36 rfl (bx_cell hS_ 0 rfl))) (Ft.now (HX37)) ?_
  have HP42 : Ft c [0] w41 (fun w_ => (Kd.ptr 118 k118).K w_ (some (⟨o33.f0, o33.f1, o33.f2⟩ : S118)) [.pointer (some ⟨g35, 0, none⟩)]) := ptr_mk (Ft.more HX37 rfl) (k118_mkF _ _ (⟨o33.f0, o33.f1, o33.f2⟩ : S118) (Ft.more HRq39_0 rfl) HCq39_1 (Ft.more HRq39_1 rfl) HCq39_2 (Ft.more HRq39_2 rfl))
  obtain ⟨t43, A44, H⟩ := bnd H
  refine al_one 6 (lb 9 127) rfl rfl (by kernel_rfl) rfl (fun K_ hK_ => ?_)
  refine goes_ Tryd.func66 (by kernel_rfl) rfl #[.pointer (some ⟨g35, 0, none⟩), .int .u64 a1] rfl rfl rfl (mpe_ rfl) ?_
  refine (irred_Irred_some.calls k (.pointer (some ⟨g35, 0, none⟩)) (some (⟨o33.f0, o33.f1, o33.f2⟩ : S118) : Option S118) a1 t43  (fun z_ => pal [(0, 0)] (c z_)) w41 (fun _ => pal_lt rfl _) (Ft.arg HP42 rfl) A44).mono ?_
  rintro _ w46 ⟨C47, A49, cp50, rfl, hs48, HO51, HC52⟩
  refine ⟨_, rfl, ?_⟩
  replace HO51 := Own.res (U := [(0, 0), (5, 12)]) (j := 12) HO51 hs48 (by rfl) (by decide) rfl rfl
  replace hs48 := Step.lift (U := [(0, 0), (5, 12)]) hs48 [] rfl rfl
  generalize up c C47 w41.heap.size [(0, 0), (5, 12)] = C47_ at HO51 hs48
  replace HX37 := HX37.thru hs48 rfl
  replace HRq39_0 := HRq39_0.thru hs48 rfl
  replace HRq39_1 := HRq39_1.thru hs48 rfl
  replace HRq39_2 := HRq39_2.thru hs48 rfl
  replace HS := HS.trans hs48 hc rfl
  refine hK_ _ _ (Ft.now (HX37)) ?_
  clear hK_ K_
  (try simp only [Act.put, List.setIfInBounds_toArray, ls0, ls1])
  obtain ⟨t53, A54, H⟩ := bnd H
  refine al_one 7 (lb 9 255) rfl rfl (by kernel_rfl) rfl (fun K_ hK_ => ?_)
  refine goes_ Tryd.func19 (by kernel_rfl) rfl #[vq39_0, .slice A49 t43.length cp50] rfl rfl rfl (mpe_ rfl) ?_
  refine (lattice_Lattice_JoinAll.calls k vq39_0 o33.f0 A49 cp50 t43 t53  (fun z_ => pal [(0, 0), (12, 0)] (C47_ z_)) w46 (fun _ => pal_lt rfl _) (Ft.arg HRq39_0 rfl) (Ft.arg (HO51.ft) rfl) HC52 A54).mono ?_
  rintro _ w56 ⟨C57, rfl, hs58⟩
  refine ⟨_, rfl, ?_⟩
  replace hs58 := Step.lift (U := [(0, 0)]) hs58 [] rfl rfl
  generalize up C47_ C57 w46.heap.size [(0, 0)] = C57_ at hs58
  replace HX37 := HX37.thru hs58 rfl
  replace HRq39_0 := HRq39_0.thru hs58 rfl
  replace HRq39_1 := HRq39_1.thru hs58 rfl
  replace HRq39_2 := HRq39_2.thru hs58 rfl
  replace HS := HS.trans hs58 hc rfl
  refine hK_ _ _ (Ft.now (HX37)) ?_
  clear hK_ K_
  (try simp only [Act.put, List.setIfInBounds_toArray, ls0, ls1])
  refine al_as 8 (lb 9 511) rfl rfl (by kernel_rfl) (fun _ _ _ => id) rfl ?_
  refine al_end (by kernel_rfl) ?_
  (try simp only [ls0, ls1])
  refine hK40 _ _ ?_
  (try clear hK40 K40)
  refine wp_ret ?_
  (try simp only [Exit.inBlock, Exit.then, Exit.noGoto])
  (try simp only [ls0, ls1])
  obtain rfl := Option.some.inj H
  refine bodyPost_ret (results_tmp rfl _ _ _) rfl ?_
  exact ⟨_, rfl, HS⟩

/-! ### irred_Irred_Down: function 38 -/
def irred_Irred_Down.l0 : Nat → S118 → (List Int) → Int → Int → Option (Int)
  | 0, _, _, _, _ => none
  | k + 1, o94, t104, x150, x152 => if x152 < (t104.length : Int) then (if 0 ≤ x152 then (if 0 ≤ (rd t104 x152) then (if (rd t104 x152) < (o94.f2.length : Int) then (irred_Irred_Down.l0 k o94 t104 (Go.bits .or .u64 x150 (rd o94.f2 (rd t104 x152))) (wrap64 (x152 + 1))) else (none)) else (none)) else (none)) else (some x150)
def irred_Irred_Down.f (k : Nat) (x0 : Option S118) (a1 : Int) : Option (Int) := onOpt x0 (some 0) (fun o94 => ((irred_Irred_some.f k (some (⟨o94.f0, o94.f1, o94.f2⟩ : S118) : Option S118) a1).bind fun t104 => (irred_Irred_Down.l0 k o94 t104 0 0)))

set_option maxHeartbeats 2000000 in
set_option maxRecDepth 100000 in
theorem irred_Irred_Down.calls (k : Nat) (v0 : Value) (x0 : Option S118) (a1 : Int) (r : Int) (c : Nat → Nat) (w : World) (hc : ∀ k, c k < 10) (HP0 : Ft c [0] w (fun w_ => (Kd.ptr 118 k118).K w_ x0 [v0])) (H : irred_Irred_Down.f k x0 a1 = some r) :
    Calls Tryd.prog 38 #[v0, .int .u64 a1] w fun e w' => ∃ (c' : Nat → Nat) , e = .returned (.int .u64 r) ∧ Step c w c' w' [] := by
 unfold irred_Irred_Down.f at H
 have HS := Step.refl c w []
 go_enter Tryd.func38, Tryd.ntmps38
 refine wp_seq_k fun K90 hK90 => ?_
 refine wl_region ?_
 refine st (.int .u64 0) rfl rfl (xr_assign _ rfl rfl) ?_
 refine wl_end ?_
 (try simp only [ls0, ls1])
 refine hK90 _ _ ?_
 (try clear hK90 K90)
 refine wp_seq_k fun K91 hK91 => ?_
 refine wl_region ?_
 refine st (.int .u64 0) rfl rfl (xr_assign _ rfl rfl) ?_
 refine wl_end ?_
 (try simp only [ls0, ls1])
 refine hK91 _ _ ?_
 (try clear hK91 K91)
 refine wp_seq_k fun K92 hK92 => ?_
 refine wp_seq_k fun K93 hK93 => ?_
 refine wl_region ?_
 refine mv_ rfl ?_
 cases x0 with
 | none =>
  (try simp only [onOpt] at H)
  obtain rfl := ptr_none HP0
  refine st (.bool true) rfl rfl (xr_bin (.pointer none) (.pointer none) (.bool true) rfl rfl rfl (B.eql_nn ⟨_, Tryd.underlying60⟩ (⟨0, 0, none⟩ : Addr))) ?_
  refine wl_end ?_
  (try simp only [ls0, ls1])
  refine hK93 _ _ ?_
  (try clear hK93 K93)
  refine wp_cond_true rfl ?_
  refine wp_seq_k fun K95 hK95 => ?_
  refine wl_region ?_
  refine mv_ rfl ?_
  refine as_ rfl ?_
  refine wl_end ?_
  (try simp only [ls0, ls1])
  refine hK95 _ _ ?_
  (try clear hK95 K95)
  refine wp_ret ?_
  (try simp only [Exit.inBlock, Exit.then, Exit.noGoto])
  (try simp only [ls0, ls1])
  obtain rfl := Option.some.inj H
  refine bodyPost_ret (results_tmp rfl _ _ _) rfl ?_
  exact ⟨_, rfl, HS⟩
 | some o94 =>
  (try simp only [onOpt] at H)
  obtain ⟨g96, cs97, rfl, HX98, HK99⟩ := ptr_some HP0
  obtain ⟨vq100_0, Aq100_1, cpq100_1, Aq100_2, cpq100_2, rfl, HRq100_0, HCq100_1, HRq100_1, HCq100_2, HRq100_2⟩ := k118_openF HK99
  replace HRq100_0 : Ft c [0] w (fun w_ => (Kd.ptr 107 k107).K w_ o94.f0 [vq100_0]) := HRq100_0
  replace HRq100_1 : Ft c [0] w (fun w_ => (Kd.int .i64).C w_ Aq100_1 o94.f1.length o94.f1) := HRq100_1
  replace HRq100_2 : Ft c [0] w (fun w_ => (Kd.int .u64).C w_ Aq100_2 o94.f2.length o94.f2) := HRq100_2
  refine st (.bool false) rfl rfl (xr_bin (.pointer (some ⟨g96, 0, none⟩)) (.pointer none) (.bool false) rfl rfl rfl (B.eql_pn ⟨_, Tryd.underlying60⟩ ⟨g96, 0, none⟩)) ?_
  refine wl_end ?_
  (try simp only [ls0, ls1])
  refine hK93 _ _ ?_
  (try clear hK93 K93)
  refine wp_cond_false rfl ?_
  refine wp_skip ?_
  (try simp only [ls0, ls1])
  refine hK92 _ _ ?_
  (try clear hK92 K92)
  refine wp_seq_k fun K101 hK101 => ?_
  refine wp_seq_k fun K102 hK102 => ?_
  refine wl_region ?_
  refine mv_ rfl ?_
  refine mv_ rfl ?_
  have HP103 : Ft c [0] w (fun w_ => (Kd.ptr 118 k118).K w_ (some (⟨o94.f0, o94.f1, o94.f2⟩ : S118)) [.pointer (some ⟨g96, 0, none⟩)]) := ptr_mk (Ft.more HX98 rfl) (k118_mkF _ _ (⟨o94.f0, o94.f1, o94.f2⟩ : S118) (Ft.more HRq100_0 rfl) HCq100_1 (Ft.more HRq100_1 rfl) HCq100_2 (Ft.more HRq100_2 rfl))
  obtain ⟨t104, A105, H⟩ := bnd H
  refine st_call #[.pointer (some ⟨g96, 0, none⟩), .int .u64 a1] rfl rfl Tryd.func66 (by kernel_rfl) rfl rfl (mp_ rfl) ?_
  refine (irred_Irred_some.calls k (.pointer (some ⟨g96, 0, none⟩)) (some (⟨o94.f0, o94.f1, o94.f2⟩ : S118) : Option S118) a1 t104  (fun z_ => pal [(0, 0)] (c z_)) w (fun _ => pal_lt rfl _) (Ft.arg HP103 rfl) A105).mono ?_
  rintro _ w107 ⟨C108, A110, cp111, rfl, hs109, HO112, HC113⟩
  refine ⟨_, rfl, ?_⟩
  replace HO112 := Own.res (U := [(0, 0), (5, 12)]) (j := 12) HO112 hs109 (by rfl) (by decide) rfl rfl
  replace hs109 := Step.lift (U := [(0, 0), (5, 12)]) hs109 [] rfl rfl
  generalize up c C108 w.heap.size [(0, 0), (5, 12)] = C108_ at HO112 hs109
  replace HX98 := HX98.thru hs109 rfl
  replace HRq100_0 := HRq100_0.thru hs109 rfl
  replace HRq100_1 := HRq100_1.thru hs109 rfl
  replace HRq100_2 := HRq100_2.thru hs109 rfl
  replace HS := HS.trans hs109 hc rfl
  (try simp only [ls0, ls1])
  refine st (.int .i64 (t104.length : Int)) rfl rfl (xr_builtin #[.slice A110 t104.length cp111] (.int .i64 (t104.length : Int)) rfl (mp_ rfl) (by first | rfl | (go_simp; done) | (go_simp; rfl) | (go_simp; exact i64_w _) | (go_simp; exact i32_w _))) ?_
  refine st (.int .i64 0) rfl rfl (xr_move _ rfl rfl) ?_
  refine wl_end ?_
  (try simp only [ls0, ls1])
  refine hK102 _ _ ?_
  (try clear hK102 K102)
  refine wp_block ?_
  (try simp only [ls0, ls1])
  refine wp_looped (looped_fin (fun kq159 a_ w158 => ∃ (C157 : Nat → Nat) (x150 : Int) (x152 : Int) (g_ : Nat → Value), a_ = ⟨#[.pointer (some ⟨g96, 0, none⟩), (g_ 1), (g_ 2), (g_ 3), (g_ 4), .int .u64 x150, (g_ 6), (g_ 7), (g_ 8), (g_ 9), (g_ 10), (g_ 11), (g_ 12), .slice A110 t104.length cp111, .int .i64 (t104.length : Int), .int .i64 x152, (g_ 16), (g_ 17), (g_ 18), (g_ 19), (g_ 20), (g_ 21), (g_ 22), (g_ 23), (g_ 24), (g_ 25), (g_ 26), (g_ 27), (g_ 28), (g_ 29)], []⟩ ∧ Step c w C157 w158 [] ∧ kq159 ≤ k ∧ (Own C157 12 w158 (Kd.int .i64) 3 (.slice A110 t104.length cp111) t104) ∧ (Ft C157 [0] w158 (fun w_ => (Kd.ptr 107 k107).K w_ o94.f0 [vq100_0])) ∧ (Ft C157 [0] w158 (fun w_ => (Kd.int .i64).C w_ Aq100_1 o94.f1.length o94.f1)) ∧ (Ft C157 [0] w158 (fun w_ => (Kd.int .u64).C w_ Aq100_2 o94.f2.length o94.f2)) ∧ (Ft C157 [0] w158 (fun w_ => w_.heap[g96]? = some (.cells (List.toArray ([vq100_0, .slice Aq100_1 o94.f1.length cpq100_1, .slice Aq100_2 o94.f2.length cpq100_2])) 118 (0, 0)))) ∧ irred_Irred_Down.l0 kq159 o94 t104 x150 x152 = some r) ?step fun hL_ => ?init)
  case init =>
   exact jmpL (fun a_ h_ => hL_ k a_ _ h_) (fun g_ => ⟨_, 0, 0, g_, rfl, HS, Nat.le_refl _, HO112, HRq100_0, HRq100_1, HRq100_2, HX98, H⟩) rfl
  case step =>
   intro kq159 ih162 a163 w158 hr164
   obtain ⟨C157, x150, x152, g_, rfl, HS160, hk161, HJ151, HJ153, HJ154, HJ155, HJ156, H⟩ := hr164
   refine looped_round ?_
   cases kq159 with
   | zero => exact absurd H (by simp [irred_Irred_Down.l0])
   | succ k165 =>
    simp only [irred_Irred_Down.l0] at H
    refine wp_seq_k fun K166 hK166 => ?_
    refine wl_region ?_
    refine st (.bool (decide (x152 < (t104.length : Int)))) rfl rfl (xr_bin _ _ _ rfl rfl rfl (B.lss_i64 _ _)) ?_
    refine wl_end ?_
    (try simp only [ls0, ls1])
    refine hK166 _ _ ?_
    (try clear hK166 K166)
    refine wp_seq_k fun K167 hK167 => ?_
    by_cases c168 : x152 < (t104.length : Int)
    ·rw [if_pos c168] at H
     (try rw [(decide_eq_true c168)])
     refine wp_cond_true rfl ?_
     refine wp_skip ?_
     (try simp only [ls0, ls1])
     refine hK167 _ _ ?_
     (try clear hK167 K167)
     refine wp_seq_k fun K169 hK169 => ?_
     refine wp_block ?_
     refine wp_seq_k fun K170 hK170 => ?_
     refine wl_region ?_
     obtain ⟨c171, H⟩ := if_some H
     obtain ⟨g172, hA173⟩ := HJ151.form (pos_of (j := x152) (by first | assumption | decide) (by first | assumption | omega))
     refine st (.pointer (some ((⟨g172, 0, none⟩ : Addr).add ((x152 : Int).toNat * 1)))) rfl rfl (xr_indexAddr _ _ _ rfl rfl rfl (index_at Tryd.underlying23 info3 hA173 (by first | assumption | decide | omega) (by first | assumption | decide | omega))) ?_
     refine st (.int .i64 (rd t104 x152)) rfl rfl (xr_load _ _ rfl rfl (load_int Tryd.underlying3 rfl hA173 (Ft.now (HJ151.ft)) (by first | assumption | decide | omega) (by first | assumption | decide | omega))) ?_
     refine as_ rfl ?_
     refine wl_end ?_
     (try simp only [ls0, ls1])
     refine hK170 _ _ ?_
     (try clear hK170 K170)
     refine wl_region ?_
     refine mv_ rfl ?_
     refine mv_ rfl ?_
     refine st (.pointer (some ⟨g96, 0, none⟩)) rfl rfl (xr_nilCheck _ rfl rfl) ?_
     refine st (.pointer (some ⟨g96, 2, none⟩)) rfl rfl (xr_fieldAddr _ _ rfl rfl (bx_field2 Tryd.underlying118 rfl rfl (by kernel_rfl))) ?_
     simp only [ls0, ls1]
     refine st (.slice Aq100_2 o94.f2.length cpq100_2) rfl rfl (xr_load _ _ rfl rfl (load_cell Tryd.underlying116 rfl (bx_cell (Ft.now HJ156) 2 rfl))) ?_
     refine mv_ rfl ?_
     obtain ⟨c174, H⟩ := if_some H
     obtain ⟨c175, H⟩ := if_some H
     obtain ⟨ad176, hA177⟩ := c_addr (Ft.now HJ155) (pos_of (j := (rd t104 x152)) (by first | assumption | decide) (by first | assumption | omega))
     refine st (.pointer (some (ad176.add ((rd t104 x152 : Int).toNat * 1)))) rfl rfl (xr_indexAddr _ _ _ rfl rfl rfl (index_at Tryd.underlying116 info58 hA177 (by first | assumption | decide | omega) (by first | assumption | decide | omega))) ?_
     refine st (.int .u64 (rd o94.f2 (rd t104 x152))) rfl rfl (xr_load _ _ rfl rfl (load_int Tryd.underlying58 rfl hA177 (Ft.now HJ155) (by first | assumption | decide | omega) (by first | assumption | decide | omega))) ?_
     simp only [ls0, ls1]
     refine st (.int .u64 (Go.bits .or .u64 x150 (rd o94.f2 (rd t104 x152)))) rfl rfl (xr_bin _ _ _ rfl rfl rfl (B.or_u64 _ _)) ?_
     refine as_ rfl ?_
     refine wl_end ?_
     (try simp only [ls0, ls1])
     refine hK169 _ _ ?_
     (try clear hK169 K169)
     refine wl_region ?_
     refine st (.int .i64 (wrap64 (x152 + 1))) rfl rfl (xr_bin _ _ _ rfl rfl rfl (B.add_i64 _ _)) ?_
     refine mv_ rfl ?_
     refine wl_end ?_
     (try simp only [ls0, ls1])
     exact jmpL (fun a_ h_ => ih162 k165 (by omega) a_ _ h_) (fun g_ => ⟨_, Go.bits .or .u64 x150 (rd o94.f2 (rd t104 x152)), wrap64 (x152 + 1), g_, rfl, HS160, (by omega), HJ151, HJ153, HJ154, HJ155, HJ156, H⟩) rfl
    rw [if_neg c168] at H
    (try rw [(decide_eq_false c168)])
    refine wp_cond_false rfl ?_
    refine wp_exit ?_
    (try simp only [ls0, ls1])
    refine hK101 _ _ ?_
    (try clear hK101 K101)
    refine wp_seq_k fun K178 hK178 => ?_
    refine wl_region ?_
    refine mv_ rfl ?_
    refine as_ rfl ?_
    refine wl_end ?_
    (try simp only [ls0, ls1])
    refine hK178 _ _ ?_
    (try clear hK178 K178)
    refine wp_ret ?_
    (try simp only [Exit.inBlock, Exit.then, Exit.noGoto])
    (try simp only [ls0, ls1])
    obtain rfl := Option.some.inj H
    refine bodyPost_ret (results_tmp rfl _ _ _) rfl ?_
    exact ⟨_, rfl, HS160⟩

/-! ### irred_Irred_Is: function 40 -/
def irred_Irred_Is.f (k : Nat) (x0 : Option S118) (a1 : Int) : Option (Bool) := onOpt x0 (some false) (fun o18 => ((irred_Irred_Down.f k (some (⟨o18.f0, o18.f1, o18.f2⟩ : S118) : Option S118) a1).bind fun t25 => (some (decide (t25 = a1)))))

set_option maxHeartbeats 2000000 in
set_option maxRecDepth 100000 in
theorem irred_Irred_Is.calls (k : Nat) (v0 : Value) (x0 : Option S118) (a1 : Int) (r : Bool) (c : Nat → Nat) (w : World) (hc : ∀ k, c k < 10) (HP0 : Ft c [0] w (fun w_ => (Kd.ptr 118 k118).K w_ x0 [v0])) (H : irred_Irred_Is.f k x0 a1 = some r) :
    Calls Tryd.prog 40 #[v0, .int .u64 a1] w fun e w' => ∃ (c' : Nat → Nat) , e = .returned (.bool r) ∧ Step c w c' w' [] := by
 unfold irred_Irred_Is.f at H
 have HS := Step.refl c w []
 go_enter Tryd.func40, Tryd.ntmps40
 refine wp_seq_k fun K16 hK16 => ?_
 refine wl_region ?_
 refine st (.bool false) rfl rfl (xr_assign _ rfl rfl) ?_
 refine wl_end ?_
 (try simp only [ls0, ls1])
 refine hK16 _ _ ?_
 (try clear hK16 K16)
 refine wp_seq_k fun K17 hK17 => ?_
 refine wl_region ?_
 refine mv_ rfl ?_
 cases x0 with
 | none =>
  (try simp only [onOpt] at H)
  obtain rfl := ptr_none HP0
  refine st (.bool false) rfl rfl (xr_bin (.pointer none) (.pointer none) (.bool false) rfl rfl rfl (B.neq_nn ⟨_, Tryd.underlying60⟩ (⟨0, 0, none⟩ : Addr))) ?_
  refine mv_ rfl ?_
  refine sk_guard (guard_off 2 true 7 rfl rfl false (by decide) rfl) rfl ?_
  simp only [ls0, ls1]
  refine sk_guard (guard_off 2 true 7 rfl rfl false (by decide) rfl) rfl ?_
  refine sk_guard (guard_off 2 true 7 rfl rfl false (by decide) rfl) rfl ?_
  refine sk_guard (guard_off 2 true 7 rfl rfl false (by decide) rfl) rfl ?_
  refine sk_guard (guard_off 2 true 7 rfl rfl false (by decide) rfl) rfl ?_
  simp only [ls0, ls1]
  refine st (.bool false) rfl rfl (xr_pick false _ rfl rfl rfl) ?_
  refine as_ rfl ?_
  refine wl_end ?_
  (try simp only [ls0, ls1])
  refine hK17 _ _ ?_
  (try clear hK17 K17)
  refine wp_ret ?_
  (try simp only [Exit.inBlock, Exit.then, Exit.noGoto])
  (try simp only [ls0, ls1])
  obtain rfl := Option.some.inj H
  refine bodyPost_ret (results_tmp rfl _ _ _) rfl ?_
  exact ⟨_, rfl, HS⟩
 | some o18 =>
  (try simp only [onOpt] at H)
  obtain ⟨g19, cs20, rfl, HX21, HK22⟩ := ptr_some HP0
  obtain ⟨vq23_0, Aq23_1, cpq23_1, Aq23_2, cpq23_2, rfl, HRq23_0, HCq23_1, HRq23_1, HCq23_2, HRq23_2⟩ := k118_openF HK22
  replace HRq23_0 : Ft c [0] w (fun w_ => (Kd.ptr 107 k107).K w_ o18.f0 [vq23_0]) := HRq23_0
  replace HRq23_1 : Ft c [0] w (fun w_ => (Kd.int .i64).C w_ Aq23_1 o18.f1.length o18.f1) := HRq23_1
  replace HRq23_2 : Ft c [0] w (fun w_ => (Kd.int .u64).C w_ Aq23_2 o18.f2.length o18.f2) := HRq23_2
  refine st (.bool true) rfl rfl (xr_bin (.pointer (some ⟨g19, 0, none⟩)) (.pointer none) (.bool true) rfl rfl rfl (B.neq_pn ⟨_, Tryd.underlying60⟩ ⟨g19, 0, none⟩)) ?_
  refine mv_ rfl ?_
  refine on_guard (guard_on 2 true 7 rfl rfl rfl) ?_
  refine mv_ rfl ?_
  refine on_guard (guard_on 2 true 7 rfl rfl rfl) ?_
  refine mv_ rfl ?_
  simp only [ls0, ls1]
  refine on_guard (guard_on 2 true 7 rfl rfl rfl) ?_
  have HP24 : Ft c [0] w (fun w_ => (Kd.ptr 118 k118).K w_ (some (⟨o18.f0, o18.f1, o18.f2⟩ : S118)) [.pointer (some ⟨g19, 0, none⟩)]) := ptr_mk (Ft.more HX21 rfl) (k118_mkF _ _ (⟨o18.f0, o18.f1, o18.f2⟩ : S118) (Ft.more HRq23_0 rfl) HCq23_1 (Ft.more HRq23_1 rfl) HCq23_2 (Ft.more HRq23_2 rfl))
  obtain ⟨t25, A26, H⟩ := bnd H
  refine st_call #[.pointer (some ⟨g19, 0, none⟩), .int .u64 a1] rfl rfl Tryd.func38 (by kernel_rfl) rfl rfl (mp_ rfl) ?_
  refine (irred_Irred_Down.calls k (.pointer (some ⟨g19, 0, none⟩)) (some (⟨o18.f0, o18.f1, o18.f2⟩ : S118) : Option S118) a1 t25  (fun z_ => pal [(0, 0)] (c z_)) w (fun _ => pal_lt rfl _) (Ft.arg HP24 rfl) A26).mono ?_
  rintro _ w28 ⟨C29, rfl, hs30⟩
  refine ⟨_, rfl, ?_⟩
  replace hs30 := Step.lift (U := [(0, 0)]) hs30 [] rfl rfl
  generalize up c C29 w.heap.size [(0, 0)] = C29_ at hs30
  replace HX21 := HX21.thru hs30 rfl
  replace HRq23_0 := HRq23_0.thru hs30 rfl
  replace HRq23_1 := HRq23_1.thru hs30 rfl
  replace HRq23_2 := HRq23_2.thru hs30 rfl
  replace HS := HS.trans hs30 hc rfl
  (try simp only [ls0, ls1])
  refine on_guard (guard_on 2 true 7 rfl rfl rfl) ?_
  refine mv_ rfl ?_
  refine on_guard (guard_on 2 true 7 rfl rfl rfl) ?_
  refine st (.bool (decide (t25 = a1))) rfl rfl (xr_bin _ _ _ rfl rfl rfl (B.eql_u64 _ _)) ?_
  refine st (.bool (decide (t25 = a1))) rfl rfl (xr_pick true _ rfl rfl rfl) ?_
  refine as_ rfl ?_
  simp only [ls0, ls1]
  refine wl_end ?_
  (try simp only [ls0, ls1])
  refine hK17 _ _ ?_
  (try clear hK17 K17)
  refine wp_ret ?_
  (try simp only [Exit.inBlock, Exit.then, Exit.noGoto])
  (try simp only [ls0, ls1])
  obtain rfl := Option.some.inj H
  refine bodyPost_ret (results_tmp rfl _ _ _) rfl ?_
  exact ⟨_, rfl, HS⟩

/-! ### bits_OnesCount64: function 70 -/
def bits_OnesCount64.f (a0 : Int) : Option (Int) := (some (Go.bits .and .u64 (shr .u64 (IntKind.u64.wrap ((Go.bits .and .u64 (shr .u64 a0 1) 6148914691236517205) + (Go.bits .and .u64 a0 6148914691236517205))) 2) 3689348814741910323 : Int)).bind fun y20 => ((some (Go.bits .and .u64 (IntKind.u64.wrap ((Go.bits .and .u64 (shr .u64 a0 1) 6148914691236517205) + (Go.bits .and .u64 a0 6148914691236517205))) 3689348814741910323 : Int)).bind fun y22 => ((some (IntKind.u64.wrap ((Go.bits .and .u64 (IntKind.u64.wrap ((shr .u64 (IntKind.u64.wrap (y20 + y22)) 4) + (IntKind.u64.wrap (y20 + y22)))) 1085102592571150095) + (shr .u64 (Go.bits .and .u64 (IntKind.u64.wrap ((shr .u64 (IntKind.u64.wrap (y20 + y22)) 4) + (IntKind.u64.wrap (y20 + y22)))) 1085102592571150095) 8)) : Int)).bind fun y26 => ((some (Go.bits .and .i64 (wrap64 (IntKind.u64.wrap ((IntKind.u64.wrap (y26 + (shr .u64 y26 16))) + (shr .u64 (IntKind.u64.wrap (y26 + (shr .u64 y26 16))) 32)))) 127 : Int)).bind fun y31 => (some y31))))
set_option maxHeartbeats 2000000 in
set_option maxRecDepth 100000 in
theorem bits_OnesCount64.calls (a0 : Int) (r : Int) (c : Nat → Nat) (w : World) (hc : ∀ k, c k < 10)  (H : bits_OnesCount64.f a0 = some r) :
    Calls Tryd.prog 70 #[.int .u64 a0] w fun e w' => ∃ (c' : Nat → Nat) , e = .returned (.int .i64 r) ∧ Step c w c' w' [] := by
 unfold bits_OnesCount64.f at H
 have HS := Step.refl c w []
 go_enter Tryd.func70, Tryd.ntmps70
 refine wp_seq_k fun K17 hK17 => ?_
 refine wl_region ?_
 refine st (.int .i64 0) rfl rfl (xr_assign _ rfl rfl) ?_
 refine wl_end ?_
 (try simp only [ls0, ls1])
 refine hK17 _ _ ?_
 (try clear hK17 K17)
 refine wp_seq_k fun K18 hK18 => ?_
 refine wl_region ?_
 refine mv_ rfl ?_
 refine st (.int .u64 (shr .u64 a0 1)) rfl rfl (xr_bin _ _ _ rfl rfl rfl (B.shr_u64_u64 _ _ (by decide))) ?_
 refine st (.int .u64 (Go.bits .and .u64 (shr .u64 a0 1) 6148914691236517205)) rfl rfl (xr_bin _ _ _ rfl rfl rfl (B.and_u64 _ _)) ?_
 refine mv_ rfl ?_
 simp only [ls0, ls1]
 refine st (.int .u64 (Go.bits .and .u64 a0 6148914691236517205)) rfl rfl (xr_bin _ _ _ rfl rfl rfl (B.and_u64 _ _)) ?_
 refine st (.int .u64 (IntKind.u64.wrap ((Go.bits .and .u64 (shr .u64 a0 1) 6148914691236517205) + (Go.bits .and .u64 a0 6148914691236517205)))) rfl rfl (xr_bin _ _ _ rfl rfl rfl (B.add_u64 _ _)) ?_
 refine as_ rfl ?_
 refine wl_end ?_
 (try simp only [ls0, ls1])
 refine hK18 _ _ ?_
 (try clear hK18 K18)
 refine wp_seq_k fun K19 hK19 => ?_
 refine wl_region ?_
 refine mv_ rfl ?_
 refine st (.int .u64 (shr .u64 (IntKind.u64.wrap ((Go.bits .and .u64 (shr .u64 a0 1) 6148914691236517205) + (Go.bits .and .u64 a0 6148914691236517205))) 2)) rfl rfl (xr_bin _ _ _ rfl rfl rfl (B.shr_u64_u64 _ _ (by decide))) ?_
 obtain ⟨y20, A21, H⟩ := bnd H
 refine st (.int .u64 (Go.bits .and .u64 (shr .u64 (IntKind.u64.wrap ((Go.bits .and .u64 (shr .u64 a0 1) 6148914691236517205) + (Go.bits .and .u64 a0 6148914691236517205))) 2) 3689348814741910323)) rfl rfl (xr_bin _ _ _ rfl rfl rfl (B.and_u64 _ _)) ?_
 rw [Option.some.inj A21]
 refine mv_ rfl ?_
 simp only [ls0, ls1]
 obtain ⟨y22, A23, H⟩ := bnd H
 refine st (.int .u64 (Go.bits .and .u64 (IntKind.u64.wrap ((Go.bits .and .u64 (shr .u64 a0 1) 6148914691236517205) + (Go.bits .and .u64 a0 6148914691236517205))) 3689348814741910323)) rfl rfl (xr_bin _ _ _ rfl rfl rfl (B.and_u64 _ _)) ?_
 rw [Option.some.inj A23]
 refine st (.int .u64 (IntKind.u64.wrap (y20 + y22))) rfl rfl (xr_bin _ _ _ rfl rfl rfl (B.add_u64 _ _)) ?_
 refine as_ rfl ?_
 refine wl_end ?_
 (try simp only [ls0, ls1])
 refine hK19 _ _ ?_
 (try clear hK19 K19)
 refine wp_seq_k fun K24 hK24 => ?_
 refine wl_region ?_
 refine mv_ rfl ?_
 refine st (.int .u64 (shr .u64 (IntKind.u64.wrap (y20 + y22)) 4)) rfl rfl (xr_bin _ _ _ rfl rfl rfl (B.shr_u64_u64 _ _ (by decide))) ?_
 refine mv_ rfl ?_
 refine st (.int .u64 (IntKind.u64.wrap ((shr .u64 (IntKind.u64.wrap (y20 + y22)) 4) + (IntKind.u64.wrap (y20 + y22))))) rfl rfl (xr_bin _ _ _ rfl rfl rfl (B.add_u64 _ _)) ?_
 simp only [ls0, ls1]
 refine st (.int .u64 (Go.bits .and .u64 (IntKind.u64.wrap ((shr .u64 (IntKind.u64.wrap (y20 + y22)) 4) + (IntKind.u64.wrap (y20 + y22)))) 1085102592571150095)) rfl rfl (xr_bin _ _ _ rfl rfl rfl (B.and_u64 _ _)) ?_
 refine as_ rfl ?_
 refine wl_end ?_
 (try simp only [ls0, ls1])
 refine hK24 _ _ ?_
 (try clear hK24 K24)
 refine wp_seq_k fun K25 hK25 => ?_
 refine wl_region ?_
 refine mv_ rfl ?_
 refine mv_ rfl ?_
 refine st (.int .u64 (shr .u64 (Go.bits .and .u64 (IntKind.u64.wrap ((shr .u64 (IntKind.u64.wrap (y20 + y22)) 4) + (IntKind.u64.wrap (y20 + y22)))) 1085102592571150095) 8)) rfl rfl (xr_bin _ _ _ rfl rfl rfl (B.shr_u64_u64 _ _ (by decide))) ?_
 obtain ⟨y26, A27, H⟩ := bnd H
 refine st (.int .u64 (IntKind.u64.wrap ((Go.bits .and .u64 (IntKind.u64.wrap ((shr .u64 (IntKind.u64.wrap (y20 + y22)) 4) + (IntKind.u64.wrap (y20 + y22)))) 1085102592571150095) + (shr .u64 (Go.bits .and .u64 (IntKind.u64.wrap ((shr .u64 (IntKind.u64.wrap (y20 + y22)) 4) + (IntKind.u64.wrap (y20 + y22)))) 1085102592571150095) 8)))) rfl rfl (xr_bin _ _ _ rfl rfl rfl (B.add_u64 _ _)) ?_
 simp only [ls0, ls1]
 rw [Option.some.inj A27]
 refine as_ rfl ?_
 refine wl_end ?_
 (try simp only [ls0, ls1])
 refine hK25 _ _ ?_
 (try clear hK25 K25)
 refine wp_seq_k fun K28 hK28 => ?_
 refine wl_region ?_
 refine mv_ rfl ?_
 refine mv_ rfl ?_
 refine st (.int .u64 (shr .u64 y26 16)) rfl rfl (xr_bin _ _ _ rfl rfl rfl (B.shr_u64_u64 _ _ (by decide))) ?_
 refine st (.int .u64 (IntKind.u64.wrap (y26 + (shr .u64 y26 16)))) rfl rfl (xr_bin _ _ _ rfl rfl rfl (B.add_u64 _ _)) ?_
 simp only [ls0, ls1]
 refine as_ rfl ?_
 refine wl_end ?_
 (try simp only [ls0, ls1])
 refine hK28 _ _ ?_
 (try clear hK28 K28)
 refine wp_seq_k fun K29 hK29 => ?_
 refine wl_region ?_
 refine mv_ rfl ?_
 refine mv_ rfl ?_
 refine st (.int .u64 (shr .u64 (IntKind.u64.wrap (y26 + (shr .u64 y26 16))) 32)) rfl rfl (xr_bin _ _ _ rfl rfl rfl (B.shr_u64_u64 _ _ (by decide))) ?_
 refine st (.int .u64 (IntKind.u64.wrap ((IntKind.u64.wrap (y26 + (shr .u64 y26 16))) + (shr .u64 (IntKind.u64.wrap (y26 + (shr .u64 y26 16))) 32)))) rfl rfl (xr_bin _ _ _ rfl rfl rfl (B.add_u64 _ _)) ?_
 simp only [ls0, ls1]
 refine as_ rfl ?_
 refine wl_end ?_
 (try simp only [ls0, ls1])
 refine hK29 _ _ ?_
 (try clear hK29 K29)
 refine wp_seq_k fun K30 hK30 => ?_
 refine wl_region ?_
 refine mv_ rfl ?_
 refine st (.int .i64 (wrap64 (IntKind.u64.wrap ((IntKind.u64.wrap (y26 + (shr .u64 y26 16))) + (shr .u64 (IntKind.u64.wrap (y26 + (shr .u64 y26 16))) 32))))) rfl rfl (xr_conv (.int .u64 (IntKind.u64.wrap ((IntKind.u64.wrap (y26 + (shr .u64 y26 16))) + (shr .u64 (IntKind.u64.wrap (y26 + (shr .u64 y26 16))) 32)))) _ rfl rfl (by first | rfl | (go_simp; done) | (go_simp; rfl) | (go_simp; exact i64_w _) | (go_simp; exact i32_w _))) ?_
 obtain ⟨y31, A32, H⟩ := bnd H
 refine st (.int .i64 (Go.bits .and .i64 (wrap64 (IntKind.u64.wrap ((IntKind.u64.wrap (y26 + (shr .u64 y26 16))) + (shr .u64 (IntKind.u64.wrap (y26 + (shr .u64 y26 16))) 32)))) 127)) rfl rfl (xr_bin _ _ _ rfl rfl rfl (B.and_i64 _ _)) ?_
 rw [Option.some.inj A32]
 refine as_ rfl ?_
 simp only [ls0, ls1]
 refine wl_end ?_
 (try simp only [ls0, ls1])
 refine hK30 _ _ ?_
 (try clear hK30 K30)
 refine wp_ret ?_
 (try simp only [Exit.inBlock, Exit.then, Exit.noGoto])
 (try simp only [ls0, ls1])
 obtain rfl := Option.some.inj H
 refine bodyPost_ret (results_tmp rfl _ _ _) rfl ?_
 exact ⟨_, rfl, HS⟩

/-! ### irred_Irred_Apart: function 46 -/
def irred_Irred_Apart.j0 (a1 : Int) (a2 : Int) (x0 : Option S118) (x157 : Bool) : Option (Int) := if x157 = true then (some (-1)) else (onOpt x0 (none) (fun o163 => (if 0 ≤ a1 then (if a1 < (o163.f2.length : Int) then (if 0 ≤ a2 then (if a2 < (o163.f2.length : Int) then ((bits_OnesCount64.f (Go.bits .xor .u64 (rd o163.f2 a1) (rd o163.f2 a2))).bind fun t178 => (some t178)) else (none)) else (none)) else (none)) else (none))))
def irred_Irred_Apart.f (x0 : Option S118) (a1 : Int) (a2 : Int) : Option (Int) := (irred_Irred_in.f x0 a1).bind fun t184 => (if t184 = true then ((irred_Irred_in.f x0 a2).bind fun t191 => (irred_Irred_Apart.j0 a1 a2 x0 (!t191))) else (irred_Irred_Apart.j0 a1 a2 x0 true))
set_option maxHeartbeats 2000000 in
set_option maxRecDepth 100000 in
theorem irred_Irred_Apart.calls (v0 : Value) (x0 : Option S118) (a1 : Int) (a2 : Int) (r : Int) (c : Nat → Nat) (w : World) (hc : ∀ k, c k < 10) (HP0 : Ft c [0] w (fun w_ => (Kd.ptr 118 k118).K w_ x0 [v0])) (H : irred_Irred_Apart.f x0 a1 a2 = some r) :
    Calls Tryd.prog 46 #[v0, .int .i64 a1, .int .i64 a2] w fun e w' => ∃ (c' : Nat → Nat) , e = .returned (.int .i64 r) ∧ Step c w c' w' [] := by
 unfold irred_Irred_Apart.f at H
 have HS := Step.refl c w []
 go_enter Tryd.func46, Tryd.ntmps46
 refine wp_seq_k fun K99 hK99 => ?_
 refine wl_region ?_
 refine st (.int .i64 0) rfl rfl (xr_assign _ rfl rfl) ?_
 refine wl_end ?_
 (try simp only [ls0, ls1])
 refine hK99 _ _ ?_
 (try clear hK99 K99)
 refine wp_seq_k fun K100 hK100 => ?_
 refine wp_seq_k fun K138 hK138 => ?_
 have hj152 : ∀ (C153 : Nat → Nat) (w154 : World) (x157 : Bool) (g_ : Nat → Value), Step c w C153 w154 [] → (Ft C153 [0] w154 (fun w_ => (Kd.ptr 118 k118).K w_ x0 [v0])) → irred_Irred_Apart.j0 a1 a2 x0 x157 = some r → K138 ⟨#[v0, .int .i64 a1, .int .i64 a2, (g_ 3), (g_ 4), (g_ 5), (g_ 6), (g_ 7), (g_ 8), (g_ 9), (g_ 10), (g_ 11), (g_ 12), (g_ 13), (g_ 14), (g_ 15), .bool x157, (g_ 17), (g_ 18), (g_ 19), (g_ 20), (g_ 21), (g_ 22), (g_ 23), (g_ 24), (g_ 25), (g_ 26), (g_ 27), (g_ 28), (g_ 29), (g_ 30), (g_ 31), (g_ 32)], []⟩ w154 := by
  intro C153 w154 x157 g_ HS155 HJ156 H
  unfold irred_Irred_Apart.j0 at H
  refine hK138 _ _ ?_
  (try clear hK138)
  by_cases c160 : x157 = true
  ·rw [if_pos c160] at H
   (try rw [c160])
   refine wp_cond_true rfl ?_
   refine wp_seq_k fun K161 hK161 => ?_
   refine wl_region ?_
   refine st (.int .i64 (-1)) rfl rfl (xr_assign _ rfl rfl) ?_
   simp only [ls0, ls1]
   refine wl_end ?_
   (try simp only [ls0, ls1])
   refine hK161 _ _ ?_
   (try clear hK161 K161)
   refine wp_ret ?_
   (try simp only [Exit.inBlock, Exit.then, Exit.noGoto])
   (try simp only [ls0, ls1])
   obtain rfl := Option.some.inj H
   refine bodyPost_ret (results_tmp rfl _ _ _) rfl ?_
   exact ⟨_, rfl, HS155⟩
  rw [if_neg c160] at H
  (try rw [(Bool.eq_false_iff.mpr c160)])
  refine wp_cond_false rfl ?_
  refine wp_skip ?_
  (try simp only [ls0, ls1])
  refine hK100 _ _ ?_
  (try clear hK100 K100)
  refine wp_seq_k fun K162 hK162 => ?_
  cases x0 with
  | none =>
   (try simp only [onOpt] at H)
   obtain rfl := ptr_none HJ156
   exact absurd H (by simp)
  | some o163 =>
   (try simp only [onOpt] at H)
   obtain ⟨g164, cs165, rfl, HX166, HK167⟩ := ptr_some HJ156
   obtain ⟨vq168_0, Aq168_1, cpq168_1, Aq168_2, cpq168_2, rfl, HRq168_0, HCq168_1, HRq168_1, HCq168_2, HRq168_2⟩ := k118_openF HK167
   replace HRq168_0 : Ft C153 [0] w154 (fun w_ => (Kd.ptr 107 k107).K w_ o163.f0 [vq168_0]) := HRq168_0
   replace HRq168_1 : Ft C153 [0] w154 (fun w_ => (Kd.int .i64).C w_ Aq168_1 o163.f1.length o163.f1) := HRq168_1
   replace HRq168_2 : Ft C153 [0] w154 (fun w_ => (Kd.int .u64).C w_ Aq168_2 o163.f2.length o163.f2) := HRq168_2
   (try simp only [ls0, ls1])
   refine al_start (lb 17 0) rfl rfl rfl (fun w_ => (Kd.int .i64).C w_ Aq168_1 o163.f1.length o163.f1 ∧ (Kd.int .u64).C w_ Aq168_2 o163.f2.length o163.f2 ∧ w_.heap[g164]? = some (.cells (List.toArray ([vq168_0, .slice Aq168_1 o163.f1.length cpq168_1, .slice Aq168_2 o163.f2.length cpq168_2])) 118 (0, 0))) ⟨(Ft.now (HRq168_1).drew), (Ft.now (HRq168_2).drew), (Ft.now (HX166.drew))⟩ [] ?_
   replace HX166 := HX166.drew
   replace HRq168_0 := HRq168_0.drew
   replace HRq168_1 := HRq168_1.drew
   replace HRq168_2 := HRq168_2.drew
   replace HS155 := Step.ofDrew HS155
   generalize w154.drew = w169 at *
   refine al_mv 0 (lb 17 1) rfl rfl (by kernel_rfl) (fun _ _ _ => id) rfl ?_
   refine al_pure 1 18 (.pointer (some ⟨g164, 0, none⟩)) (lb 17 3) rfl rfl (by kernel_rfl) (fun _ _ _ => id) rfl (fun w_ => xr_nilCheck _ rfl rfl) ?_
   refine al_pure 2 19 (.pointer (some ⟨g164, 2, none⟩)) (lb 17 7) rfl rfl (by kernel_rfl) (fun _ _ _ => id) rfl (fun w_ => xr_fieldAddr _ _ rfl rfl (bx_field2 Tryd.underlying118 rfl rfl (by kernel_rfl))) ?_
   refine al_mv 4 (lb 17 23) rfl rfl (by kernel_rfl) (fun _ _ _ => id) rfl ?_
   simp only [ls0, ls1]
   refine al_mv 7 (lb 17 151) rfl rfl (by kernel_rfl) (fun _ _ _ => id) rfl ?_
   refine al_pure 8 25 (.pointer (some ⟨g164, 0, none⟩)) (lb 17 407) rfl rfl (by kernel_rfl) (fun _ _ _ => id) rfl (fun w_ => xr_nilCheck _ rfl rfl) ?_
   refine al_pure 9 26 (.pointer (some ⟨g164, 2, none⟩)) (lb 17 919) rfl rfl (by kernel_rfl) (fun _ _ _ => id) rfl (fun w_ => xr_fieldAddr _ _ rfl rfl (bx_field2 Tryd.underlying118 rfl rfl (by kernel_rfl))) ?_
   refine al_mv 11 (lb 17 2967) rfl rfl (by kernel_rfl) (fun _ _ _ => id) rfl ?_
   simp only [ls0, ls1]
   refine al_take 3 20 (.slice Aq168_2 o163.f2.length cpq168_2) (lb 17 2975) rfl rfl (by kernel_rfl) (fun _ _ _ => id) rfl (fun w_ hS_ => xr_load _ _ rfl rfl (load_cell Tryd.underlying116 rfl (bx_cell hS_.2.2 2 rfl))) ⟨(Ft.now HRq168_1), (Ft.now HRq168_2), (Ft.now (HX166))⟩ ?_
   obtain ⟨c170, H⟩ := if_some H
   obtain ⟨c171, H⟩ := if_some H
   obtain ⟨ad172, hA173⟩ := c_addr (Ft.now HRq168_2) (pos_of (j := a1) (by first | assumption | decide) (by first | assumption | omega))
   refine al_pure 5 22 (.pointer (some (ad172.add ((a1 : Int).toNat * 1)))) (lb 17 3007) rfl rfl (by kernel_rfl) (fun _ _ _ => id) rfl (fun w_ => xr_indexAddr _ _ _ rfl rfl rfl (index_at Tryd.underlying116 info58 hA173 (by first | assumption | decide | omega) (by first | assumption | decide | omega))) ?_
   refine al_take 6 23 (.int .u64 (rd o163.f2 a1)) (lb 17 3071) rfl rfl (by kernel_rfl) (fun _ _ _ => id) rfl (fun w_ hS_ => xr_load _ _ rfl rfl (load_int Tryd.underlying58 rfl hA173 hS_.2.1 (by first | assumption | decide | omega) (by first | assumption | decide | omega))) ⟨(Ft.now HRq168_1), (Ft.now HRq168_2), (Ft.now (HX166))⟩ ?_
   refine al_take 10 27 (.slice Aq168_2 o163.f2.length cpq168_2) (lb 17 4095) rfl rfl (by kernel_rfl) (fun _ _ _ => id) rfl (fun w_ hS_ => xr_load _ _ rfl rfl (load_cell Tryd.underlying116 rfl (bx_cell hS_.2.2 2 rfl))) ⟨(Ft.now HRq168_1), (Ft.now HRq168_2), (Ft.now (HX166))⟩ ?_
   simp only [ls0, ls1]
   obtain ⟨c174, H⟩ := if_some H
   obtain ⟨c175, H⟩ := if_some H
   obtain ⟨ad176, hA177⟩ := c_addr (Ft.now HRq168_2) (pos_of (j := a2) (by first | assumption | decide) (by first | assumption | omega))
   refine al_pure 12 29 (.pointer (some (ad176.add ((a2 : Int).toNat * 1)))) (lb 17 8191) rfl rfl (by kernel_rfl) (fun _ _ _ => id) rfl (fun w_ => xr_indexAddr _ _ _ rfl rfl rfl (index_at Tryd.underlying116 info58 hA177 (by first | assumption | decide | omega) (by first | assumption | decide | omega))) ?_
   refine al_take 13 30 (.int .u64 (rd o163.f2 a2)) (lb 17 16383) rfl rfl (by kernel_rfl) (fun _ _ _ => id) rfl (fun w_ hS_ => xr_load _ _ rfl rfl (load_int Tryd.underlying58 rfl hA177 hS_.2.1 (by first | assumption | decide | omega) (by first | assumption | decide | omega))) ⟨(Ft.now HRq168_1), (Ft.now HRq168_2), (Ft.now (HX166))⟩ ?_
   refine al_pure 14 31 (.int .u64 (Go.bits .xor .u64 (rd o163.f2 a1) (rd o163.f2 a2))) (lb 17 32767) rfl rfl (by kernel_rfl) (fun _ _ _ => id) rfl (fun w_ => xr_bin _ _ _ rfl rfl rfl (B.xor_u64 _ _)) ?_
   obtain ⟨t178, A179, H⟩ := bnd H
   refine al_one 15 (lb 17 65535) rfl rfl (by kernel_rfl) rfl (fun K_ hK_ => ?_)
   refine goes_ Tryd.func70 (by kernel_rfl) rfl #[.int .u64 (Go.bits .xor .u64 (rd o163.f2 a1) (rd o163.f2 a2))] rfl rfl rfl (mpe_ rfl) ?_
   refine (bits_OnesCount64.calls (Go.bits .xor .u64 (rd o163.f2 a1) (rd o163.f2 a2)) t178  (fun z_ => pal [(0, 0)] (C153 z_)) w169 (fun _ => pal_lt rfl _) A179).mono ?_
   rintro _ w181 ⟨C182, rfl, hs183⟩
   refine ⟨_, rfl, ?_⟩
   replace hs183 := Step.lift (U := [(0, 0)]) hs183 [] rfl rfl
   generalize up C153 C182 w169.heap.size [(0, 0)] = C182_ at hs183
   replace HX166 := HX166.thru hs183 rfl
   replace HRq168_0 := HRq168_0.thru hs183 rfl
   replace HRq168_1 := HRq168_1.thru hs183 rfl
   replace HRq168_2 := HRq168_2.thru hs183 rfl
   replace HS155 := HS155.trans hs183 hc rfl
   refine hK_ _ _ ⟨(Ft.now HRq168_1), (Ft.now HRq168_2), (Ft.now (HX166))⟩ ?_
   clear hK_ K_
   (try simp only [Act.put, List.setIfInBounds_toArray, ls0, ls1])
   refine al_as 16 (lb 17 131071) rfl rfl (by kernel_rfl) (fun _ _ _ => id) rfl ?_
   refine al_end (by kernel_rfl) ?_
   (try simp only [ls0, ls1])
   refine hK162 _ _ ?_
   (try clear hK162 K162)
   refine wp_ret ?_
   (try simp only [Exit.inBlock, Exit.then, Exit.noGoto])
   (try simp only [ls0, ls1])
   obtain rfl := Option.some.inj H
   refine bodyPost_ret (results_tmp rfl _ _ _) rfl ?_
   exact ⟨_, rfl, HS155⟩
 refine wl_region ?_
 refine mv_ rfl ?_
 refine mv_ rfl ?_
 obtain ⟨t184, A185, H⟩ := bnd H
 refine st_call #[v0, .int .i64 a1] rfl rfl Tryd.func69 (by kernel_rfl) rfl rfl (mp_ rfl) ?_
 refine (irred_Irred_in.calls v0 x0 a1 t184  (fun z_ => pal [(0, 0)] (c z_)) w (fun _ => pal_lt rfl _) (Ft.arg HP0 rfl) A185).mono ?_
 rintro _ w187 ⟨C188, rfl, hs189⟩
 refine ⟨_, rfl, ?_⟩
 replace hs189 := Step.lift (U := [(0, 0)]) hs189 [] rfl rfl
 generalize up c C188 w.heap.size [(0, 0)] = C188_ at hs189
 replace HP0 := HP0.thru hs189 rfl
 replace HS := HS.trans hs189 hc rfl
 (try simp only [ls0, ls1])
 refine st (.bool (!t184)) rfl rfl (xr_un (.bool t184) _ rfl rfl (by first | rfl | (go_simp; done) | (go_simp; rfl) | (go_simp; exact i64_w _) | (go_simp; exact i32_w _))) ?_
 refine mv_ rfl ?_
 by_cases c190 : t184 = true
 ·rw [if_pos c190] at H
  (try rw [c190])
  (try simp only [Bool.not_true, Bool.not_false])
  refine on_guard (guard_on 4 false 11 rfl rfl rfl) ?_
  refine mv_ rfl ?_
  refine on_guard (guard_on 4 false 11 rfl rfl rfl) ?_
  refine mv_ rfl ?_
  simp only [ls0, ls1]
  refine on_guard (guard_on 4 false 11 rfl rfl rfl) ?_
  obtain ⟨t191, A192, H⟩ := bnd H
  refine st_call #[v0, .int .i64 a2] rfl rfl Tryd.func69 (by kernel_rfl) rfl rfl (mp_ rfl) ?_
  refine (irred_Irred_in.calls v0 x0 a2 t191  (fun z_ => pal [(0, 0)] (C188_ z_)) w187 (fun _ => pal_lt rfl _) (Ft.arg HP0 rfl) A192).mono ?_
  rintro _ w194 ⟨C195, rfl, hs196⟩
  refine ⟨_, rfl, ?_⟩
  replace hs196 := Step.lift (U := [(0, 0)]) hs196 [] rfl rfl
  generalize up C188_ C195 w187.heap.size [(0, 0)] = C195_ at hs196
  replace HP0 := HP0.thru hs196 rfl
  replace HS := HS.trans hs196 hc rfl
  (try simp only [ls0, ls1])
  refine on_guard (guard_on 4 false 11 rfl rfl rfl) ?_
  refine st (.bool (!t191)) rfl rfl (xr_un (.bool t191) _ rfl rfl (by first | rfl | (go_simp; done) | (go_simp; rfl) | (go_simp; exact i64_w _) | (go_simp; exact i32_w _))) ?_
  refine st (.bool (!t191)) rfl rfl (xr_pick false _ rfl rfl rfl) ?_
  refine wl_end ?_
  (try simp only [ls0, ls1])
  exact jmp (fun g_ => hj152 _ _ (!t191) g_ HS HP0 H) rfl
 rw [if_neg c190] at H
 (try rw [(Bool.eq_false_iff.mpr c190)])
 (try simp only [Bool.not_true, Bool.not_false])
 refine sk_guard (guard_off 4 false 11 rfl rfl true (by decide) rfl) rfl ?_
 refine sk_guard (guard_off 4 false 11 rfl rfl true (by decide) rfl) rfl ?_
 refine sk_guard (guard_off 4 false 11 rfl rfl true (by decide) rfl) rfl ?_
 refine sk_guard (guard_off 4 false 11 rfl rfl true (by decide) rfl) rfl ?_
 simp only [ls0, ls1]
 refine st (.bool true) rfl rfl (xr_pick true _ rfl rfl rfl) ?_
 refine wl_end ?_
 (try simp only [ls0, ls1])
 exact jmp (fun g_ => hj152 _ _ (true) g_ HS HP0 H) rfl

end Go.Proofs.YtpfepkkpbampkaaDoor.PIrn
