-- By cprint.py, a program of this work. Lean checks it.
import Derived.Test.YtbpagdgbehefkaaPRecx0
import Derived.Test.YtbpagdgbehefkaaPRecx1
namespace Go.Proofs.Ytbpagdgbehefkaa.PRec
open Go.RowKit Go.Proofs.YtbpagdgbehefkaaW.PrintWords Go.Proofs.YtbpagdgbehefkaaW.PrintLast Go.Proofs.YtbpagdgbehefkaaW.PrintMore
set_option linter.unusedVariables false
set_option linter.unusedSimpArgs false

/-! ### record_Get: function 44 -/
def record_Get.f (x0 : Option Int) (l1 : List Int) : Option (Int × List Int × Int × Int × (Option Int)) := if (l1.length : Int) < 9 then (some (0, ([] : List Int), 0, 2, x0)) else ((num_Get4.f l1).bind fun bt787 => (if 4 ≤ (l1.length : Int) then ((some (l1.drop (4 : Int).toNat : List Int)).bind fun y796 => ((num_Get4.f y796).bind fun bt804 => (if bt787.1 > 65536 then (some (0, ([] : List Int), 0, 3, x0)) else (if (wrap64 (bt787.1)) > (wrap64 ((l1.length : Int) - 9)) then (some (0, ([] : List Int), 0, 2, x0)) else (if 9 ≤ (wrap64 (9 + (wrap64 (bt787.1)))) then (if (wrap64 (9 + (wrap64 (bt787.1)))) ≤ (l1.length : Int) then ((some ((l1.take (wrap64 (9 + (wrap64 (bt787.1))) : Int).toNat).drop (9 : Int).toNat : List Int)).bind fun y839 => (if 8 < (l1.length : Int) then ((record_sum.f x0 (rd l1 8) y839).bind fun bt852 => (if bt852.1 = bt804.1 then ((slices_Clone_byte_byte.f y839).bind fun t865 => (some (wrap64 (rd l1 8), t865, wrap64 (9 + (wrap64 (bt787.1))), 0, bt852.2))) else (some (0, ([] : List Int), 0, 5, bt852.2)))) else (none))) else (none)) else (none)))))) else (none)))
set_option maxHeartbeats 2000000 in
set_option maxRecDepth 100000 in
theorem record_Get.calls (v0 : Value) (x0 : Option Int) (A1 : Option Addr) (c1 : Nat) (l1 : List Int) (r1 : Int) (r2 : List Int) (r3 : Int) (r4 : Int) (r5 : Option Int) (c : Nat → Nat) (w : World) (hc : ∀ k, c k < 10) (HP0 : Ft c [1] w (fun w_ => Crc.SumO w_ v0 x0)) (HP1 : Ft c [0] w (fun w_ => (Kd.int .u8).C w_ A1 l1.length l1)) (HCP1 : l1.length ≤ c1) (H : record_Get.f x0 l1 = some (r1, r2, r3, r4, r5)) :
    Calls Try.prog 44 #[v0, .slice A1 l1.length c1] w fun e w' => ∃ (c' : Nat → Nat) (A_r2 : Option Addr) (c_r2 : Nat), e = .returned (.tuple #[.agg #[.int .i64 r1, .slice A_r2 r2.length c_r2], .int .i64 r3, .int .i64 r4]) ∧ Step c w c' w' [1] ∧ Own c' 5 w' (Kd.int .u8) 5 (.slice A_r2 r2.length c_r2) r2 ∧ r2.length ≤ c_r2 ∧ Ft c' [1] w' (fun w_ => Crc.SumO w_ v0 r5) := by
  unfold record_Get.f at H
  have HS := Step.refl c w [1]
  go_enter Try.func44, Try.ntmps44
  refine wp_seq_k fun K773 hK773 => ?_
  refine wl_region ?_
  refine bx_new (C := c) 63 [.int .i64 0, .slice none 0 0] 11 rfl rfl (by first | (go_simp; done) | (go_simp; rfl)) ?_
  intro g774 w775 C776 HX777 hs778
  replace HP0 := HP0.thru hs778 rfl
  replace HP1 := HP1.thru hs778 rfl
  replace HS := HS.trans hs778 hc rfl
  (try simp only [Act.put, List.setIfInBounds_toArray, List.set_cons_zero, List.set_cons_succ])
  refine st (.int .i64 0) rfl rfl (xr_assign (.int .i64 0) rfl rfl) ?_
  simp only [List.set_cons_zero, List.set_cons_succ]
  refine st (.int .i64 0) rfl rfl (xr_assign (.int .i64 0) rfl rfl) ?_
  simp only [List.set_cons_zero, List.set_cons_succ]
  refine wl_end ?_
  (try simp only [Act.put, List.setIfInBounds_toArray, List.set_cons_zero, List.set_cons_succ])
  refine hK773 _ _ ?_
  (try clear hK773 K773)
  refine wp_seq_k fun K779 hK779 => ?_
  refine wp_seq_k fun K780 hK780 => ?_
  refine wl_region ?_
  refine st (.slice A1 l1.length c1) rfl rfl (xr_move (.slice A1 l1.length c1) rfl rfl) ?_
  simp only [List.set_cons_zero, List.set_cons_succ]
  refine st (.int .i64 (l1.length : Int)) rfl rfl (xr_builtin #[.slice A1 l1.length c1] (.int .i64 (l1.length : Int)) rfl (by simp only [List.map_toArray, List.map_cons, List.map_nil]; first | done | rfl) (by first | rfl | (go_simp; done) | (go_simp; rfl) | (go_simp; exact i64_w _) | (go_simp; exact i32_w _))) ?_
  simp only [List.set_cons_zero, List.set_cons_succ]
  refine st (.bool (decide ((l1.length : Int) < 9))) rfl rfl (xr_bin (.int .i64 (l1.length : Int)) (.int .i64 9) (.bool (decide ((l1.length : Int) < 9))) rfl rfl rfl (B.lss_i64 (l1.length : Int) 9)) ?_
  simp only [List.set_cons_zero, List.set_cons_succ]
  refine wl_end ?_
  (try simp only [Act.put, List.setIfInBounds_toArray, List.set_cons_zero, List.set_cons_succ])
  refine hK780 _ _ ?_
  (try clear hK780 K780)
  by_cases c781 : (l1.length : Int) < 9
  · rw [if_pos c781] at H
    (try rw [(decide_eq_true c781)])
    (try simp only [Bool.not_true, Bool.not_false])
    refine wp_cond_true rfl ?_
    refine wp_seq_k fun K782 hK782 => ?_
    refine wl_region ?_
    refine st (.agg #[.int .i64 0, .slice none 0 0]) rfl rfl (xr_build #[] (.agg #[.int .i64 0, .slice none 0 0]) rfl (by simp only [List.map_toArray, List.map_cons, List.map_nil]; first | done | rfl) (by first | rfl | (go_simp; done) | (go_simp; rfl) | (go_simp; exact i64_w _) | (go_simp; exact i32_w _))) ?_
    simp only [List.set_cons_zero, List.set_cons_succ]
    refine bx_store (C := C776) (z := 11) (g := g774) (j := 0) (tb := 63) (u := .agg #[.int .i64 0, .slice none 0 0]) (seg := [.int .i64 0, .slice none 0 0]) (xs := [.int .i64 0, .slice none 0 0]) rfl rfl rfl rfl rfl rfl (by first | kernel_rfl | rfl) (by simp [Value.oneCell']) HX777 (by simp only [List.length_cons, List.length_nil]; omega) rfl ?_
    intro w783 HX784 hs785
    replace HP0 := HP0.thru hs785 rfl
    replace HS := HS.trans hs785 hc rfl
    (try simp only [Act.put, List.setIfInBounds_toArray, List.set_cons_zero, List.set_cons_succ])
    refine st (.int .i64 0) rfl rfl (xr_assign (.int .i64 0) rfl rfl) ?_
    simp only [List.set_cons_zero, List.set_cons_succ]
    refine st (.int .i64 2) rfl rfl (xr_assign (.int .i64 2) rfl rfl) ?_
    simp only [List.set_cons_zero, List.set_cons_succ]
    refine wl_end ?_
    (try simp only [Act.put, List.setIfInBounds_toArray, List.set_cons_zero, List.set_cons_succ])
    refine hK782 _ _ ?_
    (try clear hK782 K782)
    refine wp_ret ?_
    (try simp only [Exit.inBlock, Exit.then, Exit.noGoto])
    (try simp only [Act.put, List.setIfInBounds_toArray, List.set_cons_zero, List.set_cons_succ])
    simp only [Option.some.injEq, Prod.mk.injEq] at H
    obtain ⟨rfl, rfl, rfl, rfl, rfl⟩ := H
    refine bodyPost_ret (res_ctt rfl rfl (load_of (load_agg (cs := [.int .i64 0, .slice none 0 0]) Try.underlying63 rfl (by kernel_rfl) (bx_cells (l := [.int .i64 0, .slice none 0 0]) (HX784).2 0 rfl)))) rfl ?_
    exact ⟨_, none, 0, rfl, HS, (Own.nil _ _ _ _ _), (Nat.le_refl 0), HP0⟩
  · rw [if_neg c781] at H
    (try rw [(decide_eq_false c781)])
    (try simp only [Bool.not_true, Bool.not_false])
    refine wp_cond_false rfl ?_
    refine wp_skip ?_
    (try simp only [Act.put, List.setIfInBounds_toArray, List.set_cons_zero, List.set_cons_succ])
    refine hK779 _ _ ?_
    (try clear hK779 K779)
    refine wp_seq_k fun K786 hK786 => ?_
    refine wl_region ?_
    refine st (.slice A1 l1.length c1) rfl rfl (xr_move (.slice A1 l1.length c1) rfl rfl) ?_
    simp only [List.set_cons_zero, List.set_cons_succ]
    obtain ⟨⟨t787, t788⟩, A789, H⟩ := Option.bind_eq_some_iff.mp H
    (try dsimp only at H)
    refine st_call #[.slice A1 l1.length c1] rfl rfl Try.func20 (by kernel_rfl) rfl rfl (by simp only [List.map_toArray, List.map_cons, List.map_nil]; first | done | rfl) ?_
    refine (num_Get4.calls A1 c1 l1 t787 t788  (fun z_ => pal [(0, 0)] (C776 z_)) w775 (fun _ => pal_lt rfl _) (Ft.arg HP1 rfl) HCP1 A789).mono ?_
    rintro _ w791 ⟨C792, rfl, hs793⟩
    refine ⟨_, rfl, ?_⟩
    replace hs793 := Step.lift (U := [(0, 0)]) hs793 [] rfl rfl
    generalize up C776 C792 w775.heap.size [(0, 0)] = C792_ at hs793
    replace HP0 := HP0.thru hs793 rfl
    replace HP1 := HP1.thru hs793 rfl
    replace HX777 := HX777.thru hs793 rfl
    replace HS := HS.trans hs793 hc rfl
    (try simp only [Act.put, List.setIfInBounds_toArray, List.set_cons_zero, List.set_cons_succ])
    refine st (.tuple #[.int .u32 t787, .int .i64 t788]) rfl rfl (xr_move (.tuple #[.int .u32 t787, .int .i64 t788]) rfl rfl) ?_
    simp only [List.set_cons_zero, List.set_cons_succ]
    refine st (.int .u32 t787) rfl rfl (xr_extract (.tuple #[.int .u32 t787, .int .i64 t788]) (.int .u32 t787) rfl rfl rfl) ?_
    simp only [List.set_cons_zero, List.set_cons_succ]
    refine st (.int .i64 t788) rfl rfl (xr_extract (.tuple #[.int .u32 t787, .int .i64 t788]) (.int .i64 t788) rfl rfl rfl) ?_
    simp only [List.set_cons_zero, List.set_cons_succ]
    refine st (.int .u32 t787) rfl rfl (xr_assign (.int .u32 t787) rfl rfl) ?_
    simp only [List.set_cons_zero, List.set_cons_succ]
    refine st (.int .i64 t788) rfl rfl (xr_assign (.int .i64 t788) rfl rfl) ?_
    simp only [List.set_cons_zero, List.set_cons_succ]
    refine wl_end ?_
    (try simp only [Act.put, List.setIfInBounds_toArray, List.set_cons_zero, List.set_cons_succ])
    refine hK786 _ _ ?_
    (try clear hK786 K786)
    refine wp_seq_k fun K794 hK794 => ?_
    refine wl_region ?_
    refine st (.slice A1 l1.length c1) rfl rfl (xr_move (.slice A1 l1.length c1) rfl rfl) ?_
    simp only [List.set_cons_zero, List.set_cons_succ]
    by_cases c795 : 4 ≤ (l1.length : Int)
    · rw [if_pos c795] at H
      obtain ⟨y796, A797, H⟩ := Option.bind_eq_some_iff.mp H
      (try dsimp only at H)
      obtain ⟨iz803, hiz803, _, hzz803, _⟩ := info_parts info5
      obtain ⟨A798, cp799, hr802, HR800, HC801⟩ := cutFrom (t := 23) (Kd.int .u8) 5 .i64 Try.underlying23 hiz803 hzz803 HP1 HCP1 (by first | assumption | omega | decide) (by first | assumption | omega | decide) (Option.some.inj A797)
      refine st (.slice A798 y796.length cp799) rfl rfl (xr_slice (.slice A1 l1.length c1) (some (.int .i64 4)) none none (.slice A798 y796.length cp799) rfl rfl rfl rfl rfl (hr802 _)) ?_
      simp only [List.set_cons_zero, List.set_cons_succ]
      clear hr802 hiz803 hzz803
      obtain ⟨⟨t804, t805⟩, A806, H⟩ := Option.bind_eq_some_iff.mp H
      (try dsimp only at H)
      refine st_call #[.slice A798 y796.length cp799] rfl rfl Try.func20 (by kernel_rfl) rfl rfl (by simp only [List.map_toArray, List.map_cons, List.map_nil]; first | done | rfl) ?_
      refine (num_Get4.calls A798 cp799 y796 t804 t805  (fun z_ => pal [(0, 0)] (C792_ z_)) w791 (fun _ => pal_lt rfl _) (Ft.arg HR800 rfl) HC801 A806).mono ?_
      rintro _ w808 ⟨C809, rfl, hs810⟩
      refine ⟨_, rfl, ?_⟩
      replace hs810 := Step.lift (U := [(0, 0)]) hs810 [] rfl rfl
      generalize up C792_ C809 w791.heap.size [(0, 0)] = C809_ at hs810
      replace HP0 := HP0.thru hs810 rfl
      replace HP1 := HP1.thru hs810 rfl
      replace HX777 := HX777.thru hs810 rfl
      replace HS := HS.trans hs810 hc rfl
      (try simp only [Act.put, List.setIfInBounds_toArray, List.set_cons_zero, List.set_cons_succ])
      refine st (.tuple #[.int .u32 t804, .int .i64 t805]) rfl rfl (xr_move (.tuple #[.int .u32 t804, .int .i64 t805]) rfl rfl) ?_
      simp only [List.set_cons_zero, List.set_cons_succ]
      refine st (.int .u32 t804) rfl rfl (xr_extract (.tuple #[.int .u32 t804, .int .i64 t805]) (.int .u32 t804) rfl rfl rfl) ?_
      simp only [List.set_cons_zero, List.set_cons_succ]
      refine st (.int .i64 t805) rfl rfl (xr_extract (.tuple #[.int .u32 t804, .int .i64 t805]) (.int .i64 t805) rfl rfl rfl) ?_
      simp only [List.set_cons_zero, List.set_cons_succ]
      refine st (.int .u32 t804) rfl rfl (xr_assign (.int .u32 t804) rfl rfl) ?_
      simp only [List.set_cons_zero, List.set_cons_succ]
      refine st (.int .i64 t805) rfl rfl (xr_assign (.int .i64 t805) rfl rfl) ?_
      simp only [List.set_cons_zero, List.set_cons_succ]
      refine wl_end ?_
      (try simp only [Act.put, List.setIfInBounds_toArray, List.set_cons_zero, List.set_cons_succ])
      refine hK794 _ _ ?_
      (try clear hK794 K794)
      refine wp_seq_k fun K811 hK811 => ?_
      refine wp_block ?_
      refine wp_seq_k fun K824 hK824 => ?_
      refine wl_region ?_
      refine st (.int .u32 t787) rfl rfl (xr_move (.int .u32 t787) rfl rfl) ?_
      simp only [List.set_cons_zero, List.set_cons_succ]
      refine st (.bool (decide (t787 > 65536))) rfl rfl (xr_bin (.int .u32 t787) (.int .u32 65536) (.bool (decide (t787 > 65536))) rfl rfl rfl (B.gtr_u32 t787 65536)) ?_
      simp only [List.set_cons_zero, List.set_cons_succ]
      refine st (.bool (decide (t787 > 65536))) rfl rfl (xr_assign (.bool (decide (t787 > 65536))) rfl rfl) ?_
      simp only [List.set_cons_zero, List.set_cons_succ]
      refine wl_end ?_
      (try simp only [Act.put, List.setIfInBounds_toArray, List.set_cons_zero, List.set_cons_succ])
      refine hK824 _ _ ?_
      (try clear hK824 K824)
      by_cases c825 : t787 > 65536
      · rw [if_pos c825] at H
        (try rw [(decide_eq_true c825)])
        (try simp only [Bool.not_true, Bool.not_false])
        refine wp_cond_true rfl ?_
        refine wp_seq_k fun K826 hK826 => ?_
        refine wl_region ?_
        refine st (.agg #[.int .i64 0, .slice none 0 0]) rfl rfl (xr_build #[] (.agg #[.int .i64 0, .slice none 0 0]) rfl (by simp only [List.map_toArray, List.map_cons, List.map_nil]; first | done | rfl) (by first | rfl | (go_simp; done) | (go_simp; rfl) | (go_simp; exact i64_w _) | (go_simp; exact i32_w _))) ?_
        simp only [List.set_cons_zero, List.set_cons_succ]
        refine bx_store (C := C809_) (z := 11) (g := g774) (j := 0) (tb := 63) (u := .agg #[.int .i64 0, .slice none 0 0]) (seg := [.int .i64 0, .slice none 0 0]) (xs := [.int .i64 0, .slice none 0 0]) rfl rfl rfl rfl rfl rfl (by first | kernel_rfl | rfl) (by simp [Value.oneCell']) HX777 (by simp only [List.length_cons, List.length_nil]; omega) rfl ?_
        intro w827 HX828 hs829
        replace HP0 := HP0.thru hs829 rfl
        replace HS := HS.trans hs829 hc rfl
        (try simp only [Act.put, List.setIfInBounds_toArray, List.set_cons_zero, List.set_cons_succ])
        refine st (.int .i64 0) rfl rfl (xr_assign (.int .i64 0) rfl rfl) ?_
        simp only [List.set_cons_zero, List.set_cons_succ]
        refine st (.int .i64 3) rfl rfl (xr_assign (.int .i64 3) rfl rfl) ?_
        simp only [List.set_cons_zero, List.set_cons_succ]
        refine wl_end ?_
        (try simp only [Act.put, List.setIfInBounds_toArray, List.set_cons_zero, List.set_cons_succ])
        refine hK826 _ _ ?_
        (try clear hK826 K826)
        refine wp_ret ?_
        (try simp only [Exit.inBlock, Exit.then, Exit.noGoto])
        (try simp only [Act.put, List.setIfInBounds_toArray, List.set_cons_zero, List.set_cons_succ])
        simp only [Option.some.injEq, Prod.mk.injEq] at H
        obtain ⟨rfl, rfl, rfl, rfl, rfl⟩ := H
        refine bodyPost_ret (res_ctt rfl rfl (load_of (load_agg (cs := [.int .i64 0, .slice none 0 0]) Try.underlying63 rfl (by kernel_rfl) (bx_cells (l := [.int .i64 0, .slice none 0 0]) (HX828).2 0 rfl)))) rfl ?_
        exact ⟨_, none, 0, rfl, HS, (Own.nil _ _ _ _ _), (Nat.le_refl 0), HP0⟩
      · rw [if_neg c825] at H
        (try rw [(decide_eq_false c825)])
        (try simp only [Bool.not_true, Bool.not_false])
        refine wp_cond_false rfl ?_
        refine wp_seq_k fun K830 hK830 => ?_
        refine wl_region ?_
        refine st (.int .u32 t787) rfl rfl (xr_move (.int .u32 t787) rfl rfl) ?_
        simp only [List.set_cons_zero, List.set_cons_succ]
        refine st (.int .i64 (wrap64 (t787))) rfl rfl (xr_conv (.int .u32 t787) (.int .i64 (wrap64 (t787))) rfl rfl (by first | rfl | (go_simp; done) | (go_simp; rfl) | (go_simp; exact i64_w _) | (go_simp; exact i32_w _))) ?_
        simp only [List.set_cons_zero, List.set_cons_succ]
        refine st (.slice A1 l1.length c1) rfl rfl (xr_move (.slice A1 l1.length c1) rfl rfl) ?_
        simp only [List.set_cons_zero, List.set_cons_succ]
        refine st (.int .i64 (l1.length : Int)) rfl rfl (xr_builtin #[.slice A1 l1.length c1] (.int .i64 (l1.length : Int)) rfl (by simp only [List.map_toArray, List.map_cons, List.map_nil]; first | done | rfl) (by first | rfl | (go_simp; done) | (go_simp; rfl) | (go_simp; exact i64_w _) | (go_simp; exact i32_w _))) ?_
        simp only [List.set_cons_zero, List.set_cons_succ]
        refine st (.int .i64 (wrap64 ((l1.length : Int) - 9))) rfl rfl (xr_bin (.int .i64 (l1.length : Int)) (.int .i64 9) (.int .i64 (wrap64 ((l1.length : Int) - 9))) rfl rfl rfl (B.sub_i64 (l1.length : Int) 9)) ?_
        simp only [List.set_cons_zero, List.set_cons_succ]
        refine st (.bool (decide ((wrap64 (t787)) > (wrap64 ((l1.length : Int) - 9))))) rfl rfl (xr_bin (.int .i64 (wrap64 (t787))) (.int .i64 (wrap64 ((l1.length : Int) - 9))) (.bool (decide ((wrap64 (t787)) > (wrap64 ((l1.length : Int) - 9))))) rfl rfl rfl (B.gtr_i64 (wrap64 (t787)) (wrap64 ((l1.length : Int) - 9)))) ?_
        simp only [List.set_cons_zero, List.set_cons_succ]
        refine st (.bool (decide ((wrap64 (t787)) > (wrap64 ((l1.length : Int) - 9))))) rfl rfl (xr_assign (.bool (decide ((wrap64 (t787)) > (wrap64 ((l1.length : Int) - 9))))) rfl rfl) ?_
        simp only [List.set_cons_zero, List.set_cons_succ]
        refine wl_end ?_
        (try simp only [Act.put, List.setIfInBounds_toArray, List.set_cons_zero, List.set_cons_succ])
        refine hK830 _ _ ?_
        (try clear hK830 K830)
        by_cases c831 : (wrap64 (t787)) > (wrap64 ((l1.length : Int) - 9))
        · rw [if_pos c831] at H
          (try rw [(decide_eq_true c831)])
          (try simp only [Bool.not_true, Bool.not_false])
          refine wp_cond_true rfl ?_
          refine wp_seq_k fun K832 hK832 => ?_
          refine wl_region ?_
          refine st (.agg #[.int .i64 0, .slice none 0 0]) rfl rfl (xr_build #[] (.agg #[.int .i64 0, .slice none 0 0]) rfl (by simp only [List.map_toArray, List.map_cons, List.map_nil]; first | done | rfl) (by first | rfl | (go_simp; done) | (go_simp; rfl) | (go_simp; exact i64_w _) | (go_simp; exact i32_w _))) ?_
          simp only [List.set_cons_zero, List.set_cons_succ]
          refine bx_store (C := C809_) (z := 11) (g := g774) (j := 0) (tb := 63) (u := .agg #[.int .i64 0, .slice none 0 0]) (seg := [.int .i64 0, .slice none 0 0]) (xs := [.int .i64 0, .slice none 0 0]) rfl rfl rfl rfl rfl rfl (by first | kernel_rfl | rfl) (by simp [Value.oneCell']) HX777 (by simp only [List.length_cons, List.length_nil]; omega) rfl ?_
          intro w833 HX834 hs835
          replace HP0 := HP0.thru hs835 rfl
          replace HS := HS.trans hs835 hc rfl
          (try simp only [Act.put, List.setIfInBounds_toArray, List.set_cons_zero, List.set_cons_succ])
          refine st (.int .i64 0) rfl rfl (xr_assign (.int .i64 0) rfl rfl) ?_
          simp only [List.set_cons_zero, List.set_cons_succ]
          refine st (.int .i64 2) rfl rfl (xr_assign (.int .i64 2) rfl rfl) ?_
          simp only [List.set_cons_zero, List.set_cons_succ]
          refine wl_end ?_
          (try simp only [Act.put, List.setIfInBounds_toArray, List.set_cons_zero, List.set_cons_succ])
          refine hK832 _ _ ?_
          (try clear hK832 K832)
          refine wp_ret ?_
          (try simp only [Exit.inBlock, Exit.then, Exit.noGoto])
          (try simp only [Act.put, List.setIfInBounds_toArray, List.set_cons_zero, List.set_cons_succ])
          simp only [Option.some.injEq, Prod.mk.injEq] at H
          obtain ⟨rfl, rfl, rfl, rfl, rfl⟩ := H
          refine bodyPost_ret (res_ctt rfl rfl (load_of (load_agg (cs := [.int .i64 0, .slice none 0 0]) Try.underlying63 rfl (by kernel_rfl) (bx_cells (l := [.int .i64 0, .slice none 0 0]) (HX834).2 0 rfl)))) rfl ?_
          exact ⟨_, none, 0, rfl, HS, (Own.nil _ _ _ _ _), (Nat.le_refl 0), HP0⟩
        · rw [if_neg c831] at H
          (try rw [(decide_eq_false c831)])
          (try simp only [Bool.not_true, Bool.not_false])
          refine wp_cond_false rfl ?_
          refine wp_skip ?_
          (try simp only [Act.put, List.setIfInBounds_toArray, List.set_cons_zero, List.set_cons_succ])
          refine hK811 _ _ ?_
          (try clear hK811 K811)
          refine wp_seq_k fun K836 hK836 => ?_
          refine wl_region ?_
          refine st (.slice A1 l1.length c1) rfl rfl (xr_move (.slice A1 l1.length c1) rfl rfl) ?_
          simp only [List.set_cons_zero, List.set_cons_succ]
          refine st (.int .u32 t787) rfl rfl (xr_move (.int .u32 t787) rfl rfl) ?_
          simp only [List.set_cons_zero, List.set_cons_succ]
          refine st (.int .i64 (wrap64 (t787))) rfl rfl (xr_conv (.int .u32 t787) (.int .i64 (wrap64 (t787))) rfl rfl (by first | rfl | (go_simp; done) | (go_simp; rfl) | (go_simp; exact i64_w _) | (go_simp; exact i32_w _))) ?_
          simp only [List.set_cons_zero, List.set_cons_succ]
          refine st (.int .i64 (wrap64 (9 + (wrap64 (t787))))) rfl rfl (xr_bin (.int .i64 9) (.int .i64 (wrap64 (t787))) (.int .i64 (wrap64 (9 + (wrap64 (t787))))) rfl rfl rfl (B.add_i64 9 (wrap64 (t787)))) ?_
          simp only [List.set_cons_zero, List.set_cons_succ]
          by_cases c837 : 9 ≤ (wrap64 (9 + (wrap64 (t787))))
          · rw [if_pos c837] at H
            by_cases c838 : (wrap64 (9 + (wrap64 (t787)))) ≤ (l1.length : Int)
            · rw [if_pos c838] at H
              obtain ⟨y839, A840, H⟩ := Option.bind_eq_some_iff.mp H
              (try dsimp only at H)
              obtain ⟨iz846, hiz846, _, hzz846, _⟩ := info_parts info5
              obtain ⟨A841, cp842, hr845, HR843, HC844⟩ := cutMid (t := 23) (Kd.int .u8) 5 .i64 .i64 Try.underlying23 hiz846 hzz846 HP1 HCP1 (by first | assumption | omega | decide) (by first | assumption | omega | decide) (by first | assumption | omega | decide) (Option.some.inj A840)
              refine st (.slice A841 y839.length cp842) rfl rfl (xr_slice (.slice A1 l1.length c1) (some (.int .i64 9)) (some (.int .i64 (wrap64 (9 + (wrap64 (t787)))))) none (.slice A841 y839.length cp842) rfl rfl rfl rfl rfl (hr845 _)) ?_
              simp only [List.set_cons_zero, List.set_cons_succ]
              clear hr845 hiz846 hzz846
              refine st (.slice A841 y839.length cp842) rfl rfl (xr_assign (.slice A841 y839.length cp842) rfl rfl) ?_
              simp only [List.set_cons_zero, List.set_cons_succ]
              refine wl_end ?_
              (try simp only [Act.put, List.setIfInBounds_toArray, List.set_cons_zero, List.set_cons_succ])
              refine hK836 _ _ ?_
              (try clear hK836 K836)
              refine wp_seq_k fun K847 hK847 => ?_
              refine wp_seq_k fun K848 hK848 => ?_
              refine wl_region ?_
              refine st (v0) rfl rfl (xr_move (v0) rfl rfl) ?_
              simp only [List.set_cons_zero, List.set_cons_succ]
              refine st (.slice A1 l1.length c1) rfl rfl (xr_move (.slice A1 l1.length c1) rfl rfl) ?_
              simp only [List.set_cons_zero, List.set_cons_succ]
              by_cases c849 : 8 < (l1.length : Int)
              · rw [if_pos c849] at H
                obtain ⟨ad850, hA851⟩ := c_addr (Ft.now HP1) (pos_of (j := 8) (by first | assumption | decide) (by first | assumption | omega))
                refine st (.pointer (some (ad850.add ((8 : Int).toNat * 1)))) rfl rfl (xr_indexAddr (.slice A1 l1.length c1) (.int .i64 8) (.pointer (some (ad850.add ((8 : Int).toNat * 1)))) rfl rfl rfl (index_at Try.underlying23 info5 hA851 (by first | assumption | decide | omega) (by first | assumption | decide | omega))) ?_
                simp only [List.set_cons_zero, List.set_cons_succ]
                refine st (.int .u8 (rd l1 8)) rfl rfl (xr_load (.pointer (some (ad850.add ((8 : Int).toNat * 1)))) (.int .u8 (rd l1 8)) rfl rfl (load_int Try.underlying5 rfl hA851 (Ft.now HP1) (by first | assumption | decide | omega) (by first | assumption | decide | omega))) ?_
                simp only [List.set_cons_zero, List.set_cons_succ]
                refine st (.slice A841 y839.length cp842) rfl rfl (xr_move (.slice A841 y839.length cp842) rfl rfl) ?_
                simp only [List.set_cons_zero, List.set_cons_succ]
                obtain ⟨⟨t852, t853⟩, A854, H⟩ := Option.bind_eq_some_iff.mp H
                (try dsimp only at H)
                refine st_call #[v0, .int .u8 (rd l1 8), .slice A841 y839.length cp842] rfl rfl Try.func50 (by kernel_rfl) rfl rfl (by simp only [List.map_toArray, List.map_cons, List.map_nil]; first | done | rfl) ?_
                refine (record_sum.calls v0 x0 (rd l1 8) A841 cp842 y839 t852 t853  (fun z_ => pal [(0, 0), (1, 1)] (C809_ z_)) w808 (fun _ => pal_lt rfl _) (Ft.arg HP0 rfl) (Ft.arg HR843 rfl) HC844 A854).mono ?_
                rintro _ w856 ⟨C857, rfl, hs858, HM859⟩
                refine ⟨_, rfl, ?_⟩
                replace HM859 := Ft.res (U := [(0, 0), (1, 1)]) HM859 hs858 [1] rfl rfl rfl
                replace hs858 := Step.lift (U := [(0, 0), (1, 1)]) hs858 [1] rfl rfl
                generalize up C809_ C857 w808.heap.size [(0, 0), (1, 1)] = C857_ at HM859 hs858
                replace HP1 := HP1.thru hs858 rfl
                replace HX777 := HX777.thru hs858 rfl
                replace HR843 := HR843.thru hs858 rfl
                replace HS := HS.trans hs858 hc rfl
                (try simp only [Act.put, List.setIfInBounds_toArray, List.set_cons_zero, List.set_cons_succ])
                refine st (.int .u32 t804) rfl rfl (xr_move (.int .u32 t804) rfl rfl) ?_
                simp only [List.set_cons_zero, List.set_cons_succ]
                refine st (.bool (!decide (t852 = t804))) rfl rfl (xr_bin (.int .u32 t852) (.int .u32 t804) (.bool (!decide (t852 = t804))) rfl rfl rfl (B.neq_u32 t852 t804)) ?_
                simp only [List.set_cons_zero, List.set_cons_succ]
                refine wl_end ?_
                (try simp only [Act.put, List.setIfInBounds_toArray, List.set_cons_zero, List.set_cons_succ])
                refine hK848 _ _ ?_
                (try clear hK848 K848)
                by_cases c860 : t852 = t804
                · rw [if_pos c860] at H
                  (try rw [(decide_eq_true c860)])
                  (try simp only [Bool.not_true, Bool.not_false])
                  refine wp_cond_false rfl ?_
                  refine wp_skip ?_
                  (try simp only [Act.put, List.setIfInBounds_toArray, List.set_cons_zero, List.set_cons_succ])
                  refine hK847 _ _ ?_
                  (try clear hK847 K847)
                  refine wp_seq_k fun K861 hK861 => ?_
                  (try simp only [Act.put, List.setIfInBounds_toArray, List.set_cons_zero, List.set_cons_succ])
                  refine al_start #[false, false, false, false, false, false, false, false, false, false, false, false, false] rfl rfl rfl (fun w_ => (Kd.int .u8).C w_ A1 l1.length l1) (Ft.now (HP1).drew) ?_
                  replace HM859 := HM859.drew
                  replace HP1 := HP1.drew
                  replace HX777 := HX777.drew
                  replace HR843 := HR843.drew
                  replace HS := Step.ofDrew HS
                  generalize w856.drew = w862 at *
                  refine al_pure 0 53 (.slice A1 l1.length c1) #[true, false, false, false, false, false, false, false, false, false, false, false, false] rfl rfl (by kernel_rfl) (fun _ _ _ h_ => h_) rfl (fun w_ => xr_move (.slice A1 l1.length c1) rfl rfl) ?_
                  simp only [List.set_cons_zero, List.set_cons_succ]
                  obtain ⟨ad863, hA864⟩ := c_addr (Ft.now HP1) (pos_of (j := 8) (by first | assumption | decide) (by first | assumption | omega))
                  refine al_pure 1 54 (.pointer (some (ad863.add ((8 : Int).toNat * 1)))) #[true, true, false, false, false, false, false, false, false, false, false, false, false] rfl rfl (by kernel_rfl) (fun _ _ _ h_ => h_) rfl (fun w_ => xr_indexAddr (.slice A1 l1.length c1) (.int .i64 8) (.pointer (some (ad863.add ((8 : Int).toNat * 1)))) rfl rfl rfl (index_at Try.underlying23 info5 hA864 (by first | assumption | decide | omega) (by first | assumption | decide | omega))) ?_
                  simp only [List.set_cons_zero, List.set_cons_succ]
                  refine al_pure 4 57 (.slice A841 y839.length cp842) #[true, true, false, false, true, false, false, false, false, false, false, false, false] rfl rfl (by kernel_rfl) (fun _ _ _ h_ => h_) rfl (fun w_ => xr_move (.slice A841 y839.length cp842) rfl rfl) ?_
                  simp only [List.set_cons_zero, List.set_cons_succ]
                  refine al_pure 7 60 (.int .u32 t787) #[true, true, false, false, true, false, false, true, false, false, false, false, false] rfl rfl (by kernel_rfl) (fun _ _ _ h_ => h_) rfl (fun w_ => xr_move (.int .u32 t787) rfl rfl) ?_
                  simp only [List.set_cons_zero, List.set_cons_succ]
                  refine al_pure 8 61 (.int .i64 (wrap64 (t787))) #[true, true, false, false, true, false, false, true, true, false, false, false, false] rfl rfl (by kernel_rfl) (fun _ _ _ h_ => h_) rfl (fun w_ => xr_conv (.int .u32 t787) (.int .i64 (wrap64 (t787))) rfl rfl (by first | rfl | (go_simp; done) | (go_simp; rfl) | (go_simp; exact i64_w _) | (go_simp; exact i32_w _))) ?_
                  simp only [List.set_cons_zero, List.set_cons_succ]
                  refine al_pure 9 62 (.int .i64 (wrap64 (9 + (wrap64 (t787))))) #[true, true, false, false, true, false, false, true, true, true, false, false, false] rfl rfl (by kernel_rfl) (fun _ _ _ h_ => h_) rfl (fun w_ => xr_bin (.int .i64 9) (.int .i64 (wrap64 (t787))) (.int .i64 (wrap64 (9 + (wrap64 (t787))))) rfl rfl rfl (B.add_i64 9 (wrap64 (t787)))) ?_
                  simp only [List.set_cons_zero, List.set_cons_succ]
                  refine al_take 2 55 (.int .u8 (rd l1 8)) #[true, true, true, false, true, false, false, true, true, true, false, false, false] rfl rfl (by kernel_rfl) (fun _ _ _ h_ => h_) rfl (fun w_ hS_ => xr_load (.pointer (some (ad863.add ((8 : Int).toNat * 1)))) (.int .u8 (rd l1 8)) rfl rfl (load_int Try.underlying5 rfl hA864 hS_ (by first | assumption | decide | omega) (by first | assumption | decide | omega))) (Ft.now HP1) ?_
                  simp only [List.set_cons_zero, List.set_cons_succ]
                  refine al_pure 3 56 (.int .i64 (wrap64 (rd l1 8))) #[true, true, true, true, true, false, false, true, true, true, false, false, false] rfl rfl (by kernel_rfl) (fun _ _ _ h_ => h_) rfl (fun w_ => xr_conv (.int .u8 (rd l1 8)) (.int .i64 (wrap64 (rd l1 8))) rfl rfl (by first | rfl | (go_simp; done) | (go_simp; rfl) | (go_simp; exact i64_w _) | (go_simp; exact i32_w _))) ?_
                  simp only [List.set_cons_zero, List.set_cons_succ]
                  obtain ⟨t865, A866, H⟩ := Option.bind_eq_some_iff.mp H
                  (try dsimp only at H)
                  refine al_one 5 #[true, true, true, true, true, true, false, true, true, true, false, false, false] rfl rfl (by kernel_rfl) (fun K_ hK_ => ?_)
                  refine goes_ Try.func49 (by kernel_rfl) rfl #[.slice A841 y839.length cp842] rfl rfl rfl (by rw [map_ev]; simp only [List.map_toArray, List.map_cons, List.map_nil]; first | done | rfl) ?_
                  refine (slices_Clone_byte_byte.calls A841 cp842 y839 t865  (fun z_ => pal [(0, 0)] (C857_ z_)) w862 (fun _ => pal_lt rfl _) (Ft.arg HR843 rfl) HC844 A866).mono ?_
                  rintro _ w868 ⟨C869, A871, cp872, rfl, hs870, HO873, HC874⟩
                  refine ⟨_, rfl, ?_⟩
                  replace HO873 := Own.res (U := [(0, 0), (5, 12)]) (j := 12) HO873 hs870 (by rfl) (by decide) rfl rfl
                  replace hs870 := Step.lift (U := [(0, 0), (5, 12)]) hs870 [] rfl rfl
                  generalize up C857_ C869 w862.heap.size [(0, 0), (5, 12)] = C869_ at HO873 hs870
                  replace HM859 := HM859.thru hs870 rfl
                  replace HP1 := HP1.thru hs870 rfl
                  replace HX777 := HX777.thru hs870 rfl
                  replace HS := HS.trans hs870 hc rfl
                  refine hK_ _ _ (Ft.now HP1) ?_
                  clear hK_ K_
                  (try simp only [Act.put, List.setIfInBounds_toArray, List.set_cons_zero, List.set_cons_succ])
                  refine al_pure 6 59 (.agg #[.int .i64 (wrap64 (rd l1 8)), .slice A871 t865.length cp872]) #[true, true, true, true, true, true, true, true, true, true, false, false, false] rfl rfl (by kernel_rfl) (fun _ _ _ h_ => h_) rfl (fun w_ => xr_build #[(0, .int .i64 (wrap64 (rd l1 8))), (1, .slice A871 t865.length cp872)] (.agg #[.int .i64 (wrap64 (rd l1 8)), .slice A871 t865.length cp872]) rfl (by simp only [List.map_toArray, List.map_cons, List.map_nil]; first | done | rfl) (by first | rfl | (go_simp; done) | (go_simp; rfl) | (go_simp; exact i64_w _) | (go_simp; exact i32_w _))) ?_
                  simp only [List.set_cons_zero, List.set_cons_succ]
                  refine al_one 10 #[true, true, true, true, true, true, true, true, true, true, true, false, false] rfl rfl (by kernel_rfl) (fun K_ hK_ => ?_)
                  refine bx_store_step (C := C869_) (z := 11) (g := g774) (j := 0) (tb := 63) (u := .agg #[.int .i64 (wrap64 (rd l1 8)), .slice A871 t865.length cp872]) (seg := [.int .i64 (wrap64 (rd l1 8)), .slice A871 t865.length cp872]) (xs := [.int .i64 0, .slice none 0 0]) rfl rfl rfl rfl rfl rfl (by first | kernel_rfl | rfl) (by simp [Value.oneCell']) HX777 (by simp only [List.length_cons, List.length_nil]; omega) rfl ?_
                  intro w875 HX876 hs877
                  replace HM859 := HM859.thru hs877 rfl
                  replace HP1 := HP1.thru hs877 rfl
                  replace HO873 := HO873.thru hs877 rfl
                  replace HS := HS.trans hs877 hc rfl
                  refine hK_ _ _ (Ft.now HP1) ?_
                  clear hK_ K_
                  (try simp only [Act.put, List.setIfInBounds_toArray, List.set_cons_zero, List.set_cons_succ])
                  refine al_pure 11 5 (.int .i64 (wrap64 (9 + (wrap64 (t787))))) #[true, true, true, true, true, true, true, true, true, true, true, true, false] rfl rfl (by kernel_rfl) (fun _ _ _ h_ => h_) rfl (fun w_ => xr_assign (.int .i64 (wrap64 (9 + (wrap64 (t787))))) rfl rfl) ?_
                  simp only [List.set_cons_zero, List.set_cons_succ]
                  refine al_pure 12 6 (.int .i64 0) #[true, true, true, true, true, true, true, true, true, true, true, true, true] rfl rfl (by kernel_rfl) (fun _ _ _ h_ => h_) rfl (fun w_ => xr_assign (.int .i64 0) rfl rfl) ?_
                  simp only [List.set_cons_zero, List.set_cons_succ]
                  refine al_end (by kernel_rfl) ?_
                  (try simp only [Act.put, List.setIfInBounds_toArray, List.set_cons_zero, List.set_cons_succ])
                  refine hK861 _ _ ?_
                  (try clear hK861 K861)
                  refine wp_ret ?_
                  (try simp only [Exit.inBlock, Exit.then, Exit.noGoto])
                  (try simp only [Act.put, List.setIfInBounds_toArray, List.set_cons_zero, List.set_cons_succ])
                  replace HM859 := Ft.recol (a := 12) (b := 5) HM859 (.inl rfl)
                  replace HP1 := Ft.recol (a := 12) (b := 5) HP1 (.inl rfl)
                  replace HX876 := Bx.recol (a := 12) (b := 5) HX876 (by decide)
                  replace HO873 := Own.recolor (b := 5) HO873 (by decide)
                  replace HS := Step.recol (a := 12) (b := 5) HS hc (by decide)
                  simp only [Option.some.injEq, Prod.mk.injEq] at H
                  obtain ⟨rfl, rfl, rfl, rfl, rfl⟩ := H
                  refine bodyPost_ret (res_ctt rfl rfl (load_of (load_agg (cs := [.int .i64 (wrap64 (rd l1 8)), .slice A871 t865.length cp872]) Try.underlying63 rfl (by kernel_rfl) (bx_cells (l := [.int .i64 (wrap64 (rd l1 8)), .slice A871 t865.length cp872]) (HX876).2 0 rfl)))) rfl ?_
                  exact ⟨_, A871, cp872, rfl, HS, HO873, HC874, HM859⟩
                · rw [if_neg c860] at H
                  (try rw [(decide_eq_false c860)])
                  (try simp only [Bool.not_true, Bool.not_false])
                  refine wp_cond_true rfl ?_
                  refine wp_seq_k fun K878 hK878 => ?_
                  refine wl_region ?_
                  refine st (.agg #[.int .i64 0, .slice none 0 0]) rfl rfl (xr_build #[] (.agg #[.int .i64 0, .slice none 0 0]) rfl (by simp only [List.map_toArray, List.map_cons, List.map_nil]; first | done | rfl) (by first | rfl | (go_simp; done) | (go_simp; rfl) | (go_simp; exact i64_w _) | (go_simp; exact i32_w _))) ?_
                  simp only [List.set_cons_zero, List.set_cons_succ]
                  refine bx_store (C := C857_) (z := 11) (g := g774) (j := 0) (tb := 63) (u := .agg #[.int .i64 0, .slice none 0 0]) (seg := [.int .i64 0, .slice none 0 0]) (xs := [.int .i64 0, .slice none 0 0]) rfl rfl rfl rfl rfl rfl (by first | kernel_rfl | rfl) (by simp [Value.oneCell']) HX777 (by simp only [List.length_cons, List.length_nil]; omega) rfl ?_
                  intro w879 HX880 hs881
                  replace HM859 := HM859.thru hs881 rfl
                  replace HS := HS.trans hs881 hc rfl
                  (try simp only [Act.put, List.setIfInBounds_toArray, List.set_cons_zero, List.set_cons_succ])
                  refine st (.int .i64 0) rfl rfl (xr_assign (.int .i64 0) rfl rfl) ?_
                  simp only [List.set_cons_zero, List.set_cons_succ]
                  refine st (.int .i64 5) rfl rfl (xr_assign (.int .i64 5) rfl rfl) ?_
                  simp only [List.set_cons_zero, List.set_cons_succ]
                  refine wl_end ?_
                  (try simp only [Act.put, List.setIfInBounds_toArray, List.set_cons_zero, List.set_cons_succ])
                  refine hK878 _ _ ?_
                  (try clear hK878 K878)
                  refine wp_ret ?_
                  (try simp only [Exit.inBlock, Exit.then, Exit.noGoto])
                  (try simp only [Act.put, List.setIfInBounds_toArray, List.set_cons_zero, List.set_cons_succ])
                  simp only [Option.some.injEq, Prod.mk.injEq] at H
                  obtain ⟨rfl, rfl, rfl, rfl, rfl⟩ := H
                  refine bodyPost_ret (res_ctt rfl rfl (load_of (load_agg (cs := [.int .i64 0, .slice none 0 0]) Try.underlying63 rfl (by kernel_rfl) (bx_cells (l := [.int .i64 0, .slice none 0 0]) (HX880).2 0 rfl)))) rfl ?_
                  exact ⟨_, none, 0, rfl, HS, (Own.nil _ _ _ _ _), (Nat.le_refl 0), HM859⟩
              · rw [if_neg c849] at H
                exact absurd H (by simp)
            · rw [if_neg c838] at H
              exact absurd H (by simp)
          · rw [if_neg c837] at H
            exact absurd H (by simp)
    · rw [if_neg c795] at H
      exact absurd H (by simp)

/-! ### record_All: function 46 -/
def record_All.l0 : Nat → (List Int) → (Option Int) → (List (S63)) → Int → Option ((List (S63)) × Int × (Option Int))
  | 0, _, _, _, _ => none
  | k + 1, l1, x1194, x1197, x1203 => if 0 ≤ x1203 then (if x1203 ≤ (l1.length : Int) then ((some (l1.drop (x1203 : Int).toNat : List Int)).bind fun y1217 => ((record_Get.f x1194 y1217).bind fun bt1225 => (if bt1225.2.2.2.1 = 0 then (if x1197.length < 4398046511104 then ((some (x1197 ++ [(⟨bt1225.1, bt1225.2.1⟩ : S63)] : List (S63))).bind fun y1254 => (record_All.l0 k l1 bt1225.2.2.2.2 y1254 (wrap64 (x1203 + bt1225.2.2.1)))) else (none)) else (some (x1197, x1203, bt1225.2.2.2.2))))) else (none)) else (none)
def record_All.f (k : Nat) (x0 : Option Int) (l1 : List Int) : Option ((List (S63)) × Int × (Option Int)) := record_All.l0 k l1 x0 ([] : List (S63)) 0
theorem record_All.mono_l : ∀ k, (∀ y0 y1 y2 y3, LeO (record_All.l0 k y0 y1 y2 y3) (record_All.l0 (k + 1) y0 y1 y2 y3))
  | 0 => fun _ _ _ _ r h => by simp [record_All.l0] at h
  | k + 1 => by
    have ih0 := record_All.mono_l k
    · intro y0 y1 y2 y3
      unfold record_All.l0
      repeat' first
      | (with_reducible exact ih0 _ _ _ _)
      | (with_reducible exact LeO.refl _)
      | (with_reducible exact LeO.none _)
      | (with_reducible refine LeO.ite ?_ ?_)
      | (with_reducible refine LeO.bind ?_ (fun _ => ?_))
      | exact ih0 _ _ _ _
      | exact LeO.none _
      | refine LeO.ite ?_ ?_
      | refine LeO.bind ?_ (fun _ => ?_)
theorem record_All.mono : ∀ a0 a1 k, LeO (record_All.f k a0 a1) (record_All.f (k + 1) a0 a1) := by
  intro a0 a1 k
  have ih0 := record_All.mono_l k
  unfold record_All.f
  repeat' first
      | (with_reducible exact ih0 _ _ _ _)
      | (with_reducible exact LeO.refl _)
      | (with_reducible exact LeO.none _)
      | (with_reducible refine LeO.ite ?_ ?_)
      | (with_reducible refine LeO.bind ?_ (fun _ => ?_))
      | exact ih0 _ _ _ _
      | exact LeO.none _
      | refine LeO.ite ?_ ?_
      | refine LeO.bind ?_ (fun _ => ?_)
set_option maxHeartbeats 2000000 in
set_option maxRecDepth 100000 in
theorem record_All.calls (k : Nat) (v0 : Value) (x0 : Option Int) (A1 : Option Addr) (c1 : Nat) (l1 : List Int) (r1 : List (S63)) (r2 : Int) (r3 : Option Int) (c : Nat → Nat) (w : World) (hc : ∀ k, c k < 10) (HP0 : Ft c [1] w (fun w_ => Crc.SumO w_ v0 x0)) (HP1 : Ft c [0] w (fun w_ => (Kd.int .u8).C w_ A1 l1.length l1)) (HCP1 : l1.length ≤ c1) (H : record_All.f k x0 l1 = some (r1, r2, r3)) :
    Calls Try.prog 46 #[v0, .slice A1 l1.length c1] w fun e w' => ∃ (c' : Nat → Nat) (A_r1 : Option Addr) (c_r1 : Nat), e = .returned (.tuple #[.slice A_r1 r1.length c_r1, .int .i64 r2]) ∧ Step c w c' w' [1] ∧ Own c' 5 w' k63 63 (.slice A_r1 r1.length c_r1) r1 ∧ r1.length ≤ c_r1 ∧ Ft c' [1] w' (fun w_ => Crc.SumO w_ v0 r3) := by
  unfold record_All.f at H
  have HS := Step.refl c w [1]
  go_enter Try.func46, Try.ntmps46
  refine wp_seq_k fun K1081 hK1081 => ?_
  refine wl_region ?_
  refine st (.slice none 0 0) rfl rfl (xr_assign (.slice none 0 0) rfl rfl) ?_
  simp only [List.set_cons_zero, List.set_cons_succ]
  refine st (.int .i64 0) rfl rfl (xr_assign (.int .i64 0) rfl rfl) ?_
  simp only [List.set_cons_zero, List.set_cons_succ]
  refine wl_end ?_
  (try simp only [Act.put, List.setIfInBounds_toArray, List.set_cons_zero, List.set_cons_succ])
  refine hK1081 _ _ ?_
  (try clear hK1081 K1081)
  refine wp_scope_straight ?_
  refine wp_seq_k fun K1082 hK1082 => ?_
  refine wp_label ?_
  (try simp only [Act.put, List.setIfInBounds_toArray, List.set_cons_zero, List.set_cons_succ])
  refine hK1082 _ _ ?_
  (try clear hK1082 K1082)
  refine wp_seq_k fun K1083 hK1083 => ?_
  refine wp_block ?_
  (try simp only [Act.put, List.setIfInBounds_toArray, List.set_cons_zero, List.set_cons_succ])
  refine wp_looped (looped_ind (fun kq1207 a_ w1206 => ∃ (C1205 : Nat → Nat) (x1203 : Int) (x1194 : Option Int) (A1198 : Option Addr) (n1199 cp1200 : Nat) (x1197 : List (S63)) (g1204 : Nat → Value), a_ = ⟨#[v0, .slice A1 l1.length c1, (g1204 2), (g1204 3), .slice A1198 n1199 cp1200, .int .i64 x1203, (g1204 6), (g1204 7), (g1204 8), (g1204 9), (g1204 10), (g1204 11), (g1204 12), (g1204 13), (g1204 14), (g1204 15), (g1204 16), (g1204 17), (g1204 18), (g1204 19), (g1204 20), (g1204 21), (g1204 22), (g1204 23), (g1204 24), (g1204 25), (g1204 26), (g1204 27), (g1204 28)], []⟩ ∧ Step c w C1205 w1206 [1] ∧ kq1207 ≤ k ∧ (Ft C1205 [1] w1206 (fun w_ => Crc.SumO w_ v0 x1194)) ∧ (Ft C1205 [0] w1206 (fun w_ => (Kd.int .u8).C w_ A1 l1.length l1)) ∧ (Own C1205 11 w1206 k63 63 (.slice A1198 n1199 cp1200) x1197) ∧ (n1199 ≤ cp1200) ∧ record_All.l0 kq1207 l1 x1194 x1197 x1203 = some (r1, r2, r3)) ?step k _ _ ?init)
  case init =>
    exact ⟨_, 0, x0, none, 0, 0, ([] : List (S63)), (fun q_ => List.getD [undef, undef, undef, undef, undef, undef, undef, undef, undef, undef, undef, undef, undef, undef, undef, undef, undef, undef, undef, undef, undef, undef, undef, undef, undef, undef, undef, undef, undef] q_ undef), rfl, HS, Nat.le_refl _, HP0, HP1, (Own.nil _ _ _ _ _), (Nat.le_refl 0), H⟩
  case step =>
    intro kq1207 ih1210 a1211 w1206 hr1212
    obtain ⟨C1205, x1203, x1194, A1198, n1199, cp1200, x1197, g1204, rfl, HS1208, hk1209, HJ1195, HJ1196, HJ1202, HC1201, H⟩ := hr1212
    refine looped_round ?_
    obtain rfl : n1199 = x1197.length := HJ1202.at_.1
    cases kq1207 with
    | zero => exact absurd H (by simp [record_All.l0])
    | succ k1213 =>
      simp only [record_All.l0] at H
      refine wp_block ?_
      refine wp_seq_k fun K1214 hK1214 => ?_
      refine wl_region ?_
      refine st (v0) rfl rfl (xr_move (v0) rfl rfl) ?_
      simp only [List.set_cons_zero, List.set_cons_succ]
      refine st (.slice A1 l1.length c1) rfl rfl (xr_move (.slice A1 l1.length c1) rfl rfl) ?_
      simp only [List.set_cons_zero, List.set_cons_succ]
      refine st (.int .i64 x1203) rfl rfl (xr_move (.int .i64 x1203) rfl rfl) ?_
      simp only [List.set_cons_zero, List.set_cons_succ]
      by_cases c1215 : 0 ≤ x1203
      · rw [if_pos c1215] at H
        by_cases c1216 : x1203 ≤ (l1.length : Int)
        · rw [if_pos c1216] at H
          obtain ⟨y1217, A1218, H⟩ := Option.bind_eq_some_iff.mp H
          (try dsimp only at H)
          obtain ⟨iz1224, hiz1224, _, hzz1224, _⟩ := info_parts info5
          obtain ⟨A1219, cp1220, hr1223, HR1221, HC1222⟩ := cutFrom (t := 23) (Kd.int .u8) 5 .i64 Try.underlying23 hiz1224 hzz1224 HJ1196 HCP1 (by first | assumption | omega | decide) (by first | assumption | omega | decide) (Option.some.inj A1218)
          refine st (.slice A1219 y1217.length cp1220) rfl rfl (xr_slice (.slice A1 l1.length c1) (some (.int .i64 x1203)) none none (.slice A1219 y1217.length cp1220) rfl rfl rfl rfl rfl (hr1223 _)) ?_
          simp only [List.set_cons_zero, List.set_cons_succ]
          clear hr1223 hiz1224 hzz1224
          obtain ⟨⟨t1225, t1226, t1227, t1228, t1229⟩, A1230, H⟩ := Option.bind_eq_some_iff.mp H
          (try dsimp only at H)
          refine st_call #[v0, .slice A1219 y1217.length cp1220] rfl rfl Try.func44 (by kernel_rfl) rfl rfl (by simp only [List.map_toArray, List.map_cons, List.map_nil]; first | done | rfl) ?_
          refine (record_Get.calls v0 x1194 A1219 cp1220 y1217 t1225 t1226 t1227 t1228 t1229  (fun z_ => pal [(0, 0), (1, 1)] (C1205 z_)) w1206 (fun _ => pal_lt rfl _) (Ft.arg HJ1195 rfl) (Ft.arg HR1221 rfl) HC1222 A1230).mono ?_
          rintro _ w1232 ⟨C1233, A1235, cp1236, rfl, hs1234, HO1237, HC1238, HM1239⟩
          refine ⟨_, rfl, ?_⟩
          replace HO1237 := Own.res (U := [(0, 0), (1, 1), (5, 12)]) (j := 12) HO1237 hs1234 (by rfl) (by decide) rfl rfl
          replace HM1239 := Ft.res (U := [(0, 0), (1, 1), (5, 12)]) HM1239 hs1234 [1] rfl rfl rfl
          replace hs1234 := Step.lift (U := [(0, 0), (1, 1), (5, 12)]) hs1234 [1] rfl rfl
          generalize up C1205 C1233 w1206.heap.size [(0, 0), (1, 1), (5, 12)] = C1233_ at HO1237 HM1239 hs1234
          replace HJ1196 := HJ1196.thru hs1234 rfl
          replace HJ1202 := HJ1202.thru hs1234 rfl
          replace HS1208 := HS1208.trans hs1234 hc rfl
          (try simp only [Act.put, List.setIfInBounds_toArray, List.set_cons_zero, List.set_cons_succ])
          refine st (.tuple #[.agg #[.int .i64 t1225, .slice A1235 t1226.length cp1236], .int .i64 t1227, .int .i64 t1228]) rfl rfl (xr_move (.tuple #[.agg #[.int .i64 t1225, .slice A1235 t1226.length cp1236], .int .i64 t1227, .int .i64 t1228]) rfl rfl) ?_
          simp only [List.set_cons_zero, List.set_cons_succ]
          refine st (.agg #[.int .i64 t1225, .slice A1235 t1226.length cp1236]) rfl rfl (xr_extract (.tuple #[.agg #[.int .i64 t1225, .slice A1235 t1226.length cp1236], .int .i64 t1227, .int .i64 t1228]) (.agg #[.int .i64 t1225, .slice A1235 t1226.length cp1236]) rfl rfl rfl) ?_
          simp only [List.set_cons_zero, List.set_cons_succ]
          refine st (.int .i64 t1227) rfl rfl (xr_extract (.tuple #[.agg #[.int .i64 t1225, .slice A1235 t1226.length cp1236], .int .i64 t1227, .int .i64 t1228]) (.int .i64 t1227) rfl rfl rfl) ?_
          simp only [List.set_cons_zero, List.set_cons_succ]
          refine st (.int .i64 t1228) rfl rfl (xr_extract (.tuple #[.agg #[.int .i64 t1225, .slice A1235 t1226.length cp1236], .int .i64 t1227, .int .i64 t1228]) (.int .i64 t1228) rfl rfl rfl) ?_
          simp only [List.set_cons_zero, List.set_cons_succ]
          refine bx_new (C := C1233_) 63 [.int .i64 0, .slice none 0 0] 13 rfl rfl (by first | (go_simp; done) | (go_simp; rfl)) ?_
          intro g1240 w1241 C1242 HX1243 hs1244
          replace HM1239 := HM1239.thru hs1244 rfl
          replace HJ1196 := HJ1196.thru hs1244 rfl
          replace HJ1202 := HJ1202.thru hs1244 rfl
          replace HO1237 := HO1237.thru hs1244 rfl
          replace HS1208 := HS1208.trans hs1244 hc rfl
          (try simp only [Act.put, List.setIfInBounds_toArray, List.set_cons_zero, List.set_cons_succ])
          refine bx_store (C := C1242) (z := 13) (g := g1240) (j := 0) (tb := 63) (u := .agg #[.int .i64 t1225, .slice A1235 t1226.length cp1236]) (seg := [.int .i64 t1225, .slice A1235 t1226.length cp1236]) (xs := [.int .i64 0, .slice none 0 0]) rfl rfl rfl rfl rfl rfl (by first | kernel_rfl | rfl) (by simp [Value.oneCell']) HX1243 (by simp only [List.length_cons, List.length_nil]; omega) rfl ?_
          intro w1245 HX1246 hs1247
          replace HM1239 := HM1239.thru hs1247 rfl
          replace HJ1196 := HJ1196.thru hs1247 rfl
          replace HJ1202 := HJ1202.thru hs1247 rfl
          replace HO1237 := HO1237.thru hs1247 rfl
          replace HS1208 := HS1208.trans hs1247 hc rfl
          (try simp only [Act.put, List.setIfInBounds_toArray, List.set_cons_zero, List.set_cons_succ])
          refine st (.int .i64 t1227) rfl rfl (xr_assign (.int .i64 t1227) rfl rfl) ?_
          simp only [List.set_cons_zero, List.set_cons_succ]
          refine st (.int .i64 t1228) rfl rfl (xr_assign (.int .i64 t1228) rfl rfl) ?_
          simp only [List.set_cons_zero, List.set_cons_succ]
          refine wl_end ?_
          (try simp only [Act.put, List.setIfInBounds_toArray, List.set_cons_zero, List.set_cons_succ])
          refine hK1214 _ _ ?_
          (try clear hK1214 K1214)
          refine wp_seq_k fun K1248 hK1248 => ?_
          refine wp_seq_k fun K1249 hK1249 => ?_
          refine wl_region ?_
          refine st (.int .i64 t1228) rfl rfl (xr_move (.int .i64 t1228) rfl rfl) ?_
          simp only [List.set_cons_zero, List.set_cons_succ]
          refine st (.bool (!decide (t1228 = 0))) rfl rfl (xr_bin (.int .i64 t1228) (.int .i64 0) (.bool (!decide (t1228 = 0))) rfl rfl rfl (B.neq_i64 t1228 0)) ?_
          simp only [List.set_cons_zero, List.set_cons_succ]
          refine wl_end ?_
          (try simp only [Act.put, List.setIfInBounds_toArray, List.set_cons_zero, List.set_cons_succ])
          refine hK1249 _ _ ?_
          (try clear hK1249 K1249)
          by_cases c1250 : t1228 = 0
          · rw [if_pos c1250] at H
            (try rw [(decide_eq_true c1250)])
            (try simp only [Bool.not_true, Bool.not_false])
            refine wp_cond_false rfl ?_
            refine wp_skip ?_
            (try simp only [Act.put, List.setIfInBounds_toArray, List.set_cons_zero, List.set_cons_succ])
            refine hK1248 _ _ ?_
            (try clear hK1248 K1248)
            refine wp_seq_k fun K1251 hK1251 => ?_
            refine wl_region ?_
            refine st (.slice A1198 x1197.length cp1200) rfl rfl (xr_move (.slice A1198 x1197.length cp1200) rfl rfl) ?_
            simp only [List.set_cons_zero, List.set_cons_succ]
            refine st (.agg #[.int .i64 t1225, .slice A1235 t1226.length cp1236]) rfl rfl (xr_load (.pointer (some ⟨g1240, 0, none⟩)) (.agg #[.int .i64 t1225, .slice A1235 t1226.length cp1236]) rfl rfl (load_agg (cs := [.int .i64 t1225, .slice A1235 t1226.length cp1236]) Try.underlying63 rfl (by kernel_rfl) (bx_cells (l := [.int .i64 t1225, .slice A1235 t1226.length cp1236]) (HX1246).2 0 rfl))) ?_
            simp only [List.set_cons_zero, List.set_cons_succ]
            replace HM1239 := Ft.recol (a := 12) (b := 0) HM1239 (.inl rfl)
            replace HJ1196 := Ft.recol (a := 12) (b := 0) HJ1196 (.inl rfl)
            replace HJ1202 := Own.recol (a := 12) (b := 0) HJ1202 (by decide) (by decide)
            have HR1252 := Ft.recolor (a := 12) (b := 0) (HO1237.ft) [0] rfl
            replace HX1246 := Bx.recol (a := 12) (b := 0) HX1246 (by decide)
            replace HS1208 := Step.recol (a := 12) (b := 0) HS1208 hc (by decide)
            refine ev_run (w1 := w1245.alloc (.cells #[.int .i64 t1225, .slice A1235 t1226.length cp1236] 63)) (.slice (some ⟨w1245.heap.size, 0, none⟩) 1 1) rfl rfl (by first | (go_simp; done) | (go_simp; rfl)) ?_
            (try simp only [Act.put, List.setIfInBounds_toArray, List.set_cons_zero, List.set_cons_succ])
            by_cases c1253 : x1197.length < 4398046511104
            · rw [if_pos c1253] at H
              obtain ⟨y1254, A1255, H⟩ := Option.bind_eq_some_iff.mp H
              (try dsimp only at H)
              refine Own.append k63 (C := (recol C1242 12 0)) (i := 11) rfl (.tmp 20) (.tmp 22) 75 63 (.agg #[(.int .i64 0), (.slice none 0 0)]) 32 rfl Try.underlying75 info63 rfl (by decide) (by decide) (.slice A1198 x1197.length cp1200) x1197 (⟨t1225, t1226⟩ : S63) [.int .i64 t1225, .slice A1235 t1226.length cp1236] rfl rfl (k63_mkF _ _ (⟨t1225, t1226⟩ : S63) HC1238 (Kd.F_mono (d := (Kd.int .u8)) HR1252 (fun k_ h_ => by simpa using h_))) HJ1202 (by decide) (by omega) (Option.some.inj A1255) ?_
              intro A1256 cp1257 w1258 C1259 HO1260 HC1261 hs1262
              replace HM1239 := HM1239.thru hs1262 rfl
              replace HJ1196 := HJ1196.thru hs1262 rfl
              replace HR1252 := HR1252.thru hs1262 rfl
              replace HX1246 := HX1246.thru hs1262 rfl
              replace HS1208 := HS1208.trans hs1262 hc rfl
              (try simp only [Act.put, List.setIfInBounds_toArray, List.set_cons_zero, List.set_cons_succ])
              refine st (.slice A1256 y1254.length cp1257) rfl rfl (xr_assign (.slice A1256 y1254.length cp1257) rfl rfl) ?_
              simp only [List.set_cons_zero, List.set_cons_succ]
              refine wl_end ?_
              (try simp only [Act.put, List.setIfInBounds_toArray, List.set_cons_zero, List.set_cons_succ])
              refine hK1251 _ _ ?_
              (try clear hK1251 K1251)
              refine wl_region ?_
              refine st (.int .i64 x1203) rfl rfl (xr_move (.int .i64 x1203) rfl rfl) ?_
              simp only [List.set_cons_zero, List.set_cons_succ]
              refine st (.int .i64 t1227) rfl rfl (xr_move (.int .i64 t1227) rfl rfl) ?_
              simp only [List.set_cons_zero, List.set_cons_succ]
              refine st (.int .i64 (wrap64 (x1203 + t1227))) rfl rfl (xr_bin (.int .i64 x1203) (.int .i64 t1227) (.int .i64 (wrap64 (x1203 + t1227))) rfl rfl rfl (B.add_i64 x1203 t1227)) ?_
              simp only [List.set_cons_zero, List.set_cons_succ]
              refine st (.int .i64 (wrap64 (x1203 + t1227))) rfl rfl (xr_assign (.int .i64 (wrap64 (x1203 + t1227))) rfl rfl) ?_
              simp only [List.set_cons_zero, List.set_cons_succ]
              refine wl_end ?_
              (try simp only [Act.put, List.setIfInBounds_toArray, List.set_cons_zero, List.set_cons_succ])
              exact ih1210 k1213 (by omega) _ _ ⟨_, wrap64 (x1203 + t1227), t1229, A1256, y1254.length, cp1257, y1254, (fun q_ => List.getD [undef, undef, (g1204 2), (g1204 3), undef, undef, .pointer (some ⟨g1240, 0, none⟩), .int .i64 t1227, .int .i64 t1228, .tuple #[.agg #[.int .i64 t1225, .slice A1235 t1226.length cp1236], .int .i64 t1227, .int .i64 t1228], v0, .slice A1 l1.length c1, .int .i64 x1203, .slice A1219 y1217.length cp1220, .tuple #[.agg #[.int .i64 t1225, .slice A1235 t1226.length cp1236], .int .i64 t1227, .int .i64 t1228], .agg #[.int .i64 t1225, .slice A1235 t1226.length cp1236], .int .i64 t1227, .int .i64 t1228, .int .i64 t1228, .bool false, .slice A1198 x1197.length cp1200, .agg #[.int .i64 t1225, .slice A1235 t1226.length cp1236], .slice (some ⟨w1245.heap.size, 0, none⟩) 1 1, .slice A1256 y1254.length cp1257, .int .i64 x1203, .int .i64 t1227, .int .i64 (wrap64 (x1203 + t1227)), (g1204 27), (g1204 28)] q_ undef), rfl, HS1208, (by omega), HM1239, HJ1196, HO1260, HC1261, H⟩
            · rw [if_neg c1253] at H
              exact absurd H (by simp)
          · rw [if_neg c1250] at H
            (try rw [(decide_eq_false c1250)])
            (try simp only [Bool.not_true, Bool.not_false])
            refine wp_cond_true rfl ?_
            refine wp_exit ?_
            (try simp only [Act.put, List.setIfInBounds_toArray, List.set_cons_zero, List.set_cons_succ])
            refine hK1083 _ _ ?_
            (try clear hK1083 K1083)
            refine wp_seq_k fun K1263 hK1263 => ?_
            refine wl_region ?_
            refine st (.slice A1198 x1197.length cp1200) rfl rfl (xr_move (.slice A1198 x1197.length cp1200) rfl rfl) ?_
            simp only [List.set_cons_zero, List.set_cons_succ]
            refine st (.int .i64 x1203) rfl rfl (xr_move (.int .i64 x1203) rfl rfl) ?_
            simp only [List.set_cons_zero, List.set_cons_succ]
            refine st (.slice A1198 x1197.length cp1200) rfl rfl (xr_assign (.slice A1198 x1197.length cp1200) rfl rfl) ?_
            simp only [List.set_cons_zero, List.set_cons_succ]
            refine st (.int .i64 x1203) rfl rfl (xr_assign (.int .i64 x1203) rfl rfl) ?_
            simp only [List.set_cons_zero, List.set_cons_succ]
            refine wl_end ?_
            (try simp only [Act.put, List.setIfInBounds_toArray, List.set_cons_zero, List.set_cons_succ])
            refine hK1263 _ _ ?_
            (try clear hK1263 K1263)
            refine wp_ret ?_
            (try simp only [Exit.inBlock, Exit.then, Exit.noGoto])
            (try simp only [Act.put, List.setIfInBounds_toArray, List.set_cons_zero, List.set_cons_succ])
            replace HM1239 := Ft.recol (a := 11) (b := 5) HM1239 (.inl rfl)
            replace HJ1196 := Ft.recol (a := 11) (b := 5) HJ1196 (.inl rfl)
            replace HJ1202 := Own.recolor (b := 5) HJ1202 (by decide)
            replace HO1237 := Own.recol (a := 11) (b := 5) HO1237 (by decide) (by decide)
            replace HX1246 := Bx.recol (a := 11) (b := 5) HX1246 (by decide)
            replace HS1208 := Step.recol (a := 11) (b := 5) HS1208 hc (by decide)
            simp only [Option.some.injEq, Prod.mk.injEq] at H
            obtain ⟨rfl, rfl, rfl⟩ := H
            refine bodyPost_ret (results_tmp2 rfl _ _ _) rfl ?_
            exact ⟨_, A1198, cp1200, rfl, HS1208, HJ1202, HC1201, HM1239⟩
        · rw [if_neg c1216] at H
          exact absurd H (by simp)
      · rw [if_neg c1215] at H
        exact absurd H (by simp)

/-! ### blazonlaw04_awake: function 41 -/
def blazonlaw04_awake.j0 : Nat → (List Int) → Bool → Option (Bool)
  | 0, _, _ => none
  | k + 1, t1362, x1398 => if x1398 = true then (some false) else (if 8 ≤ (t1362.length : Int) then ((some (t1362.take (8 : Int).toNat : List Int)).bind fun y1408 => ((crc_New.f).bind fun t1416 => ((record_All.f k t1416 y1408).bind fun bt1424 => (if (bt1424.1.length : Int) = 0 then (some (decide (bt1424.2.1 = 0))) else (some false))))) else (none))
def blazonlaw04_awake.f (k : Nat)  : Option (Bool) := (crc_New.f).bind fun t1354 => ((record_Put.f t1354 ([] : List Int) 7 ([] : List Int)).bind fun bt1362 => (if (bt1362.1.length : Int) = 9 then (blazonlaw04_awake.j0 k bt1362.1 (!decide (bt1362.2.1 = 0))) else (blazonlaw04_awake.j0 k bt1362.1 true)))
theorem blazonlaw04_awake.mono_l : ∀ k, (∀ y0 y1, LeO (blazonlaw04_awake.j0 k y0 y1) (blazonlaw04_awake.j0 (k + 1) y0 y1))
  | 0 => fun _ _ r h => by simp [blazonlaw04_awake.j0] at h
  | k + 1 => by
    have ih0 := blazonlaw04_awake.mono_l k
    · intro y0 y1
      unfold blazonlaw04_awake.j0
      repeat' first
      | (with_reducible exact ih0 _ _)
      | (with_reducible exact record_All.mono _ _ _)
      | (with_reducible exact LeO.refl _)
      | (with_reducible exact LeO.none _)
      | (with_reducible refine LeO.ite ?_ ?_)
      | (with_reducible refine LeO.bind ?_ (fun _ => ?_))
      | exact ih0 _ _
      | exact record_All.mono _ _ _
      | exact LeO.none _
      | refine LeO.ite ?_ ?_
      | refine LeO.bind ?_ (fun _ => ?_)
theorem blazonlaw04_awake.mono : ∀ k, LeO (blazonlaw04_awake.f k ) (blazonlaw04_awake.f (k + 1) ) := by
  intro  k
  have ih0 := blazonlaw04_awake.mono_l k
  unfold blazonlaw04_awake.f
  repeat' first
      | (with_reducible exact ih0 _ _)
      | (with_reducible exact record_All.mono _ _ _)
      | (with_reducible exact LeO.refl _)
      | (with_reducible exact LeO.none _)
      | (with_reducible refine LeO.ite ?_ ?_)
      | (with_reducible refine LeO.bind ?_ (fun _ => ?_))
      | exact ih0 _ _
      | exact record_All.mono _ _ _
      | exact LeO.none _
      | refine LeO.ite ?_ ?_
      | refine LeO.bind ?_ (fun _ => ?_)
set_option maxHeartbeats 2000000 in
set_option maxRecDepth 100000 in
theorem blazonlaw04_awake.calls (k : Nat)  (r : Bool) (c : Nat → Nat) (w : World) (hc : ∀ k, c k < 10)  (H : blazonlaw04_awake.f k = some r) :
    Calls Try.prog 41 #[] w fun e w' => ∃ (c' : Nat → Nat) , e = .returned (.bool r) ∧ Step c w c' w' [] := by
  unfold blazonlaw04_awake.f at H
  have HS := Step.refl c w []
  go_enter Try.func41, Try.ntmps41
  refine wp_seq_k fun K1352 hK1352 => ?_
  refine wl_region ?_
  refine st (.bool false) rfl rfl (xr_assign (.bool false) rfl rfl) ?_
  simp only [List.set_cons_zero, List.set_cons_succ]
  refine wl_end ?_
  (try simp only [Act.put, List.setIfInBounds_toArray, List.set_cons_zero, List.set_cons_succ])
  refine hK1352 _ _ ?_
  (try clear hK1352 K1352)
  refine wp_seq_k fun K1353 hK1353 => ?_
  refine wl_region ?_
  obtain ⟨t1354, A1355, H⟩ := Option.bind_eq_some_iff.mp H
  (try dsimp only at H)
  refine st_call #[] rfl rfl Try.func34 (by kernel_rfl) rfl rfl (by simp only [List.map_toArray, List.map_cons, List.map_nil]; first | done | rfl) ?_
  refine (crc_New.calls t1354  (fun z_ => pal [(0, 0)] (c z_)) w (fun _ => pal_lt rfl _) A1355).mono ?_
  rintro _ w1357 ⟨C1358, v1360, rfl, hs1359, HB1361⟩
  refine ⟨_, rfl, ?_⟩
  replace HB1361 := Ft.res (U := [(0, 0), (5, 11)]) HB1361 hs1359 [11] rfl rfl rfl
  replace hs1359 := Step.lift (U := [(0, 0), (5, 11)]) hs1359 [] rfl rfl
  generalize up c C1358 w.heap.size [(0, 0), (5, 11)] = C1358_ at HB1361 hs1359
  replace HS := HS.trans hs1359 hc rfl
  (try simp only [Act.put, List.setIfInBounds_toArray, List.set_cons_zero, List.set_cons_succ])
  refine st (.agg #[.int .i64 7, .slice none 0 0]) rfl rfl (xr_build #[(0, .int .i64 7)] (.agg #[.int .i64 7, .slice none 0 0]) rfl (by simp only [List.map_toArray, List.map_cons, List.map_nil]; first | done | rfl) (by first | rfl | (go_simp; done) | (go_simp; rfl) | (go_simp; exact i64_w _) | (go_simp; exact i32_w _))) ?_
  simp only [List.set_cons_zero, List.set_cons_succ]
  obtain ⟨⟨t1362, t1363, t1364⟩, A1365, H⟩ := Option.bind_eq_some_iff.mp H
  (try dsimp only at H)
  refine st_call #[v1360, .slice none 0 0, .agg #[.int .i64 7, .slice none 0 0]] rfl rfl Try.func42 (by kernel_rfl) rfl rfl (by simp only [List.map_toArray, List.map_cons, List.map_nil]; first | done | rfl) ?_
  refine (record_Put.calls v1360 t1354 none 0 ([] : List Int) 7 none 0 ([] : List Int) t1362 t1363 t1364  (fun z_ => pal [(0, 0), (11, 1)] (C1358_ z_)) w1357 (fun _ => pal_lt rfl _) (Ft.arg HB1361 rfl) (Ft.arg (show Ft C1358_ [0] w1357 (fun w => (Kd.int .u8).C w none 0 []) from Kd.F_nil _ _ _) rfl) (Nat.le_refl 0) (Ft.arg (show Ft C1358_ [0] w1357 (fun w => (Kd.int .u8).C w none 0 []) from Kd.F_nil _ _ _) rfl) (Nat.le_refl 0) A1365).mono ?_
  rintro _ w1367 ⟨C1368, A1370, cp1371, rfl, hs1369, HO1372, HC1373, HM1374⟩
  refine ⟨_, rfl, ?_⟩
  replace HO1372 := Ft.res (U := [(0, 0), (1, 11)]) HO1372 hs1369 [0] rfl rfl rfl
  replace HM1374 := Ft.res (U := [(0, 0), (1, 11)]) HM1374 hs1369 [11] rfl rfl rfl
  replace hs1369 := Step.lift (U := [(0, 0), (1, 11)]) hs1369 [11] rfl rfl
  generalize up C1358_ C1368 w1357.heap.size [(0, 0), (1, 11)] = C1368_ at HO1372 HM1374 hs1369
  replace HS := HS.trans hs1369 hc rfl
  (try simp only [Act.put, List.setIfInBounds_toArray, List.set_cons_zero, List.set_cons_succ])
  refine st (.tuple #[.slice A1370 t1362.length cp1371, .int .i64 t1363]) rfl rfl (xr_move (.tuple #[.slice A1370 t1362.length cp1371, .int .i64 t1363]) rfl rfl) ?_
  simp only [List.set_cons_zero, List.set_cons_succ]
  refine st (.slice A1370 t1362.length cp1371) rfl rfl (xr_extract (.tuple #[.slice A1370 t1362.length cp1371, .int .i64 t1363]) (.slice A1370 t1362.length cp1371) rfl rfl rfl) ?_
  simp only [List.set_cons_zero, List.set_cons_succ]
  refine st (.int .i64 t1363) rfl rfl (xr_extract (.tuple #[.slice A1370 t1362.length cp1371, .int .i64 t1363]) (.int .i64 t1363) rfl rfl rfl) ?_
  simp only [List.set_cons_zero, List.set_cons_succ]
  refine st (.slice A1370 t1362.length cp1371) rfl rfl (xr_assign (.slice A1370 t1362.length cp1371) rfl rfl) ?_
  simp only [List.set_cons_zero, List.set_cons_succ]
  refine st (.int .i64 t1363) rfl rfl (xr_assign (.int .i64 t1363) rfl rfl) ?_
  simp only [List.set_cons_zero, List.set_cons_succ]
  refine wl_end ?_
  (try simp only [Act.put, List.setIfInBounds_toArray, List.set_cons_zero, List.set_cons_succ])
  refine hK1353 _ _ ?_
  (try clear hK1353 K1353)
  refine wp_seq_k fun K1375 hK1375 => ?_
  refine wp_seq_k fun K1391 hK1391 => ?_
  have hj1393 : ∀ (kq1400 : Nat) (C1394 : Nat → Nat) (w1395 : World) (x1398 : Bool) (g1399 : Nat → Value), Step c w C1394 w1395 [] → kq1400 ≤ k → (Ft C1394 [0] w1395 (fun w_ => (Kd.int .u8).C w_ A1370 t1362.length t1362)) → blazonlaw04_awake.j0 kq1400 t1362 x1398 = some r → K1391 ⟨#[(g1399 0), .slice A1370 t1362.length cp1371, (g1399 2), (g1399 3), (g1399 4), (g1399 5), (g1399 6), (g1399 7), (g1399 8), (g1399 9), (g1399 10), (g1399 11), (g1399 12), (g1399 13), (g1399 14), (g1399 15), (g1399 16), .bool x1398, (g1399 18), (g1399 19), (g1399 20), (g1399 21), (g1399 22), (g1399 23), (g1399 24), (g1399 25), (g1399 26), (g1399 27), (g1399 28), (g1399 29), (g1399 30), (g1399 31)], []⟩ w1395 := by
    intro kq1400 C1394 w1395 x1398 g1399 HS1396 hk1401 HJ1397 H
    cases kq1400 with
    | zero => exact absurd H (by simp [blazonlaw04_awake.j0])
    | succ k1402 =>
      simp only [blazonlaw04_awake.j0] at H
      refine hK1391 _ _ ?_
      (try clear hK1391)
      by_cases c1403 : x1398 = true
      · rw [if_pos c1403] at H
        (try rw [c1403])
        (try simp only [Bool.not_true, Bool.not_false])
        refine wp_cond_true rfl ?_
        refine wp_seq_k fun K1404 hK1404 => ?_
        refine wl_region ?_
        refine st (.bool false) rfl rfl (xr_assign (.bool false) rfl rfl) ?_
        simp only [List.set_cons_zero, List.set_cons_succ]
        refine wl_end ?_
        (try simp only [Act.put, List.setIfInBounds_toArray, List.set_cons_zero, List.set_cons_succ])
        refine hK1404 _ _ ?_
        (try clear hK1404 K1404)
        refine wp_ret ?_
        (try simp only [Exit.inBlock, Exit.then, Exit.noGoto])
        (try simp only [Act.put, List.setIfInBounds_toArray, List.set_cons_zero, List.set_cons_succ])
        obtain rfl := Option.some.inj H
        refine bodyPost_ret (results_tmp rfl _ _ _) rfl ?_
        exact ⟨_, rfl, HS1396⟩
      · rw [if_neg c1403] at H
        (try rw [(Bool.eq_false_iff.mpr c1403)])
        (try simp only [Bool.not_true, Bool.not_false])
        refine wp_cond_false rfl ?_
        refine wp_skip ?_
        (try simp only [Act.put, List.setIfInBounds_toArray, List.set_cons_zero, List.set_cons_succ])
        refine hK1375 _ _ ?_
        (try clear hK1375 K1375)
        refine wp_seq_k fun K1405 hK1405 => ?_
        (try simp only [Act.put, List.setIfInBounds_toArray, List.set_cons_zero, List.set_cons_succ])
        refine al_start #[false, false, false, false, false, false, false, false, false] rfl rfl rfl (fun w_ => True) trivial ?_
        replace HJ1397 := HJ1397.drew
        replace HS1396 := Step.ofDrew HS1396
        generalize w1395.drew = w1406 at *
        refine al_pure 1 20 (.slice A1370 t1362.length cp1371) #[false, true, false, false, false, false, false, false, false] rfl rfl (by kernel_rfl) (fun _ _ _ h_ => h_) rfl (fun w_ => xr_move (.slice A1370 t1362.length cp1371) rfl rfl) ?_
        simp only [List.set_cons_zero, List.set_cons_succ]
        by_cases c1407 : 8 ≤ (t1362.length : Int)
        · rw [if_pos c1407] at H
          obtain ⟨y1408, A1409, H⟩ := Option.bind_eq_some_iff.mp H
          (try dsimp only at H)
          obtain ⟨iz1415, hiz1415, _, hzz1415, _⟩ := info_parts info5
          obtain ⟨hr1414, HR1412, HC1413⟩ := cutTo (t := 23) (Kd.int .u8) 5 .i64 Try.underlying23 hiz1415 HJ1397 HC1373 (by first | assumption | omega | decide) (by first | assumption | omega | decide) (Option.some.inj A1409)
          refine al_pure 2 21 (.slice A1370 y1408.length cp1371) #[false, true, true, false, false, false, false, false, false] rfl rfl (by kernel_rfl) (fun _ _ _ h_ => h_) rfl (fun w_ => xr_slice (.slice A1370 t1362.length cp1371) none (some (.int .i64 8)) none (.slice A1370 y1408.length cp1371) rfl rfl rfl rfl rfl (hr1414 _)) ?_
          simp only [List.set_cons_zero, List.set_cons_succ]
          clear hr1414 hiz1415 hzz1415
          obtain ⟨t1416, A1417, H⟩ := Option.bind_eq_some_iff.mp H
          (try dsimp only at H)
          refine al_one 0 #[true, true, true, false, false, false, false, false, false] rfl rfl (by kernel_rfl) (fun K_ hK_ => ?_)
          refine goes_ Try.func34 (by kernel_rfl) rfl #[] rfl rfl rfl (by rw [map_ev]; simp only [List.map_toArray, List.map_cons, List.map_nil]; first | done | rfl) ?_
          refine (crc_New.calls t1416  (fun z_ => pal [(0, 0)] (C1394 z_)) w1406 (fun _ => pal_lt rfl _) A1417).mono ?_
          rintro _ w1419 ⟨C1420, v1422, rfl, hs1421, HB1423⟩
          refine ⟨_, rfl, ?_⟩
          replace HB1423 := Ft.res (U := [(0, 0), (5, 12)]) HB1423 hs1421 [12] rfl rfl rfl
          replace hs1421 := Step.lift (U := [(0, 0), (5, 12)]) hs1421 [] rfl rfl
          generalize up C1394 C1420 w1406.heap.size [(0, 0), (5, 12)] = C1420_ at HB1423 hs1421
          replace HJ1397 := HJ1397.thru hs1421 rfl
          replace HR1412 := HR1412.thru hs1421 rfl
          replace HS1396 := HS1396.trans hs1421 hc rfl
          refine hK_ _ _ trivial ?_
          clear hK_ K_
          (try simp only [Act.put, List.setIfInBounds_toArray, List.set_cons_zero, List.set_cons_succ])
          obtain ⟨⟨t1424, t1425, t1426⟩, A1427, H⟩ := Option.bind_eq_some_iff.mp H
          (try dsimp only at H)
          refine al_one 3 #[true, true, true, true, false, false, false, false, false] rfl rfl (by kernel_rfl) (fun K_ hK_ => ?_)
          refine goes_ Try.func46 (by kernel_rfl) rfl #[v1422, .slice A1370 y1408.length cp1371] rfl rfl rfl (by rw [map_ev]; simp only [List.map_toArray, List.map_cons, List.map_nil]; first | done | rfl) ?_
          refine (record_All.calls k1402 v1422 t1416 A1370 cp1371 y1408 t1424 t1425 t1426  (fun z_ => pal [(0, 0), (12, 1)] (C1420_ z_)) w1419 (fun _ => pal_lt rfl _) (Ft.arg HB1423 rfl) (Ft.arg HR1412 rfl) HC1413 A1427).mono ?_
          rintro _ w1429 ⟨C1430, A1432, cp1433, rfl, hs1431, HO1434, HC1435, HM1436⟩
          refine ⟨_, rfl, ?_⟩
          replace HO1434 := Own.res (U := [(0, 0), (1, 12), (5, 13)]) (j := 13) HO1434 hs1431 (by rfl) (by decide) rfl rfl
          replace HM1436 := Ft.res (U := [(0, 0), (1, 12), (5, 13)]) HM1436 hs1431 [12] rfl rfl rfl
          replace hs1431 := Step.lift (U := [(0, 0), (1, 12), (5, 13)]) hs1431 [12] rfl rfl
          generalize up C1420_ C1430 w1419.heap.size [(0, 0), (1, 12), (5, 13)] = C1430_ at HO1434 HM1436 hs1431
          replace HS1396 := HS1396.trans hs1431 hc rfl
          refine hK_ _ _ trivial ?_
          clear hK_ K_
          (try simp only [Act.put, List.setIfInBounds_toArray, List.set_cons_zero, List.set_cons_succ])
          refine al_pure 4 18 (.tuple #[.slice A1432 t1424.length cp1433, .int .i64 t1425]) #[true, true, true, true, true, false, false, false, false] rfl rfl (by kernel_rfl) (fun _ _ _ h_ => h_) rfl (fun w_ => xr_move (.tuple #[.slice A1432 t1424.length cp1433, .int .i64 t1425]) rfl rfl) ?_
          simp only [List.set_cons_zero, List.set_cons_succ]
          refine al_pure 5 23 (.slice A1432 t1424.length cp1433) #[true, true, true, true, true, true, false, false, false] rfl rfl (by kernel_rfl) (fun _ _ _ h_ => h_) rfl (fun w_ => xr_extract (.tuple #[.slice A1432 t1424.length cp1433, .int .i64 t1425]) (.slice A1432 t1424.length cp1433) rfl rfl rfl) ?_
          simp only [List.set_cons_zero, List.set_cons_succ]
          refine al_pure 6 24 (.int .i64 t1425) #[true, true, true, true, true, true, true, false, false] rfl rfl (by kernel_rfl) (fun _ _ _ h_ => h_) rfl (fun w_ => xr_extract (.tuple #[.slice A1432 t1424.length cp1433, .int .i64 t1425]) (.int .i64 t1425) rfl rfl rfl) ?_
          simp only [List.set_cons_zero, List.set_cons_succ]
          refine al_pure 7 3 (.slice A1432 t1424.length cp1433) #[true, true, true, true, true, true, true, true, false] rfl rfl (by kernel_rfl) (fun _ _ _ h_ => h_) rfl (fun w_ => xr_assign (.slice A1432 t1424.length cp1433) rfl rfl) ?_
          simp only [List.set_cons_zero, List.set_cons_succ]
          refine al_pure 8 4 (.int .i64 t1425) #[true, true, true, true, true, true, true, true, true] rfl rfl (by kernel_rfl) (fun _ _ _ h_ => h_) rfl (fun w_ => xr_assign (.int .i64 t1425) rfl rfl) ?_
          simp only [List.set_cons_zero, List.set_cons_succ]
          refine al_end (by kernel_rfl) ?_
          (try simp only [Act.put, List.setIfInBounds_toArray, List.set_cons_zero, List.set_cons_succ])
          refine hK1405 _ _ ?_
          (try clear hK1405 K1405)
          refine wp_seq_k fun K1437 hK1437 => ?_
          refine wl_region ?_
          refine st (.slice A1432 t1424.length cp1433) rfl rfl (xr_move (.slice A1432 t1424.length cp1433) rfl rfl) ?_
          simp only [List.set_cons_zero, List.set_cons_succ]
          refine st (.int .i64 (t1424.length : Int)) rfl rfl (xr_builtin #[.slice A1432 t1424.length cp1433] (.int .i64 (t1424.length : Int)) rfl (by simp only [List.map_toArray, List.map_cons, List.map_nil]; first | done | rfl) (by first | rfl | (go_simp; done) | (go_simp; rfl) | (go_simp; exact i64_w _) | (go_simp; exact i32_w _))) ?_
          simp only [List.set_cons_zero, List.set_cons_succ]
          refine st (.bool (decide ((t1424.length : Int) = 0))) rfl rfl (xr_bin (.int .i64 (t1424.length : Int)) (.int .i64 0) (.bool (decide ((t1424.length : Int) = 0))) rfl rfl rfl (B.eql_i64 (t1424.length : Int) 0)) ?_
          simp only [List.set_cons_zero, List.set_cons_succ]
          refine st (.bool (decide ((t1424.length : Int) = 0))) rfl rfl (xr_move (.bool (decide ((t1424.length : Int) = 0))) rfl rfl) ?_
          simp only [List.set_cons_zero, List.set_cons_succ]
          by_cases c1438 : (t1424.length : Int) = 0
          · rw [if_pos c1438] at H
            (try rw [(decide_eq_true c1438)])
            (try simp only [Bool.not_true, Bool.not_false])
            refine on_guard (guard_on 3 true 28 rfl rfl rfl) ?_
            refine st (.int .i64 t1425) rfl rfl (xr_move (.int .i64 t1425) rfl rfl) ?_
            simp only [List.set_cons_zero, List.set_cons_succ]
            refine on_guard (guard_on 3 true 28 rfl rfl rfl) ?_
            refine st (.bool (decide (t1425 = 0))) rfl rfl (xr_bin (.int .i64 t1425) (.int .i64 0) (.bool (decide (t1425 = 0))) rfl rfl rfl (B.eql_i64 t1425 0)) ?_
            simp only [List.set_cons_zero, List.set_cons_succ]
            refine st (.bool (decide (t1425 = 0))) rfl rfl (xr_pick true (.bool (decide (t1425 = 0))) rfl rfl rfl) ?_
            simp only [List.set_cons_zero, List.set_cons_succ]
            refine st (.bool (decide (t1425 = 0))) rfl rfl (xr_assign (.bool (decide (t1425 = 0))) rfl rfl) ?_
            simp only [List.set_cons_zero, List.set_cons_succ]
            refine wl_end ?_
            (try simp only [Act.put, List.setIfInBounds_toArray, List.set_cons_zero, List.set_cons_succ])
            refine hK1437 _ _ ?_
            (try clear hK1437 K1437)
            refine wp_ret ?_
            (try simp only [Exit.inBlock, Exit.then, Exit.noGoto])
            (try simp only [Act.put, List.setIfInBounds_toArray, List.set_cons_zero, List.set_cons_succ])
            obtain rfl := Option.some.inj H
            refine bodyPost_ret (results_tmp rfl _ _ _) rfl ?_
            exact ⟨_, rfl, HS1396⟩
          · rw [if_neg c1438] at H
            (try rw [(decide_eq_false c1438)])
            (try simp only [Bool.not_true, Bool.not_false])
            refine sk_guard (guard_off 3 true 28 rfl rfl false (by decide) rfl) rfl ?_
            simp only [List.set_cons_zero, List.set_cons_succ]
            refine sk_guard (guard_off 3 true 28 rfl rfl false (by decide) rfl) rfl ?_
            simp only [List.set_cons_zero, List.set_cons_succ]
            refine st (.bool false) rfl rfl (xr_pick false (.bool false) rfl rfl rfl) ?_
            simp only [List.set_cons_zero, List.set_cons_succ]
            refine st (.bool false) rfl rfl (xr_assign (.bool false) rfl rfl) ?_
            simp only [List.set_cons_zero, List.set_cons_succ]
            refine wl_end ?_
            (try simp only [Act.put, List.setIfInBounds_toArray, List.set_cons_zero, List.set_cons_succ])
            refine hK1437 _ _ ?_
            (try clear hK1437 K1437)
            refine wp_ret ?_
            (try simp only [Exit.inBlock, Exit.then, Exit.noGoto])
            (try simp only [Act.put, List.setIfInBounds_toArray, List.set_cons_zero, List.set_cons_succ])
            obtain rfl := Option.some.inj H
            refine bodyPost_ret (results_tmp rfl _ _ _) rfl ?_
            exact ⟨_, rfl, HS1396⟩
        · rw [if_neg c1407] at H
          exact absurd H (by simp)
  refine wl_region ?_
  refine st (.slice A1370 t1362.length cp1371) rfl rfl (xr_move (.slice A1370 t1362.length cp1371) rfl rfl) ?_
  simp only [List.set_cons_zero, List.set_cons_succ]
  refine st (.int .i64 (t1362.length : Int)) rfl rfl (xr_builtin #[.slice A1370 t1362.length cp1371] (.int .i64 (t1362.length : Int)) rfl (by simp only [List.map_toArray, List.map_cons, List.map_nil]; first | done | rfl) (by first | rfl | (go_simp; done) | (go_simp; rfl) | (go_simp; exact i64_w _) | (go_simp; exact i32_w _))) ?_
  simp only [List.set_cons_zero, List.set_cons_succ]
  refine st (.bool (!decide ((t1362.length : Int) = 9))) rfl rfl (xr_bin (.int .i64 (t1362.length : Int)) (.int .i64 9) (.bool (!decide ((t1362.length : Int) = 9))) rfl rfl rfl (B.neq_i64 (t1362.length : Int) 9)) ?_
  simp only [List.set_cons_zero, List.set_cons_succ]
  refine st (.bool (!decide ((t1362.length : Int) = 9))) rfl rfl (xr_move (.bool (!decide ((t1362.length : Int) = 9))) rfl rfl) ?_
  simp only [List.set_cons_zero, List.set_cons_succ]
  by_cases c1439 : (t1362.length : Int) = 9
  · rw [if_pos c1439] at H
    (try rw [(decide_eq_true c1439)])
    (try simp only [Bool.not_true, Bool.not_false])
    refine on_guard (guard_on 3 false 14 rfl rfl rfl) ?_
    refine st (.int .i64 t1363) rfl rfl (xr_move (.int .i64 t1363) rfl rfl) ?_
    simp only [List.set_cons_zero, List.set_cons_succ]
    refine on_guard (guard_on 3 false 14 rfl rfl rfl) ?_
    refine st (.bool (!decide (t1363 = 0))) rfl rfl (xr_bin (.int .i64 t1363) (.int .i64 0) (.bool (!decide (t1363 = 0))) rfl rfl rfl (B.neq_i64 t1363 0)) ?_
    simp only [List.set_cons_zero, List.set_cons_succ]
    refine st (.bool (!decide (t1363 = 0))) rfl rfl (xr_pick false (.bool (!decide (t1363 = 0))) rfl rfl rfl) ?_
    simp only [List.set_cons_zero, List.set_cons_succ]
    refine wl_end ?_
    (try simp only [Act.put, List.setIfInBounds_toArray, List.set_cons_zero, List.set_cons_succ])
    exact hj1393 _ _ _ (!decide (t1363 = 0)) (fun q_ => List.getD [.bool false, undef, .int .i64 t1363, undef, undef, .tuple #[.slice A1370 t1362.length cp1371, .int .i64 t1363], v1360, .agg #[.int .i64 7, .slice none 0 0], .tuple #[.slice A1370 t1362.length cp1371, .int .i64 t1363], .slice A1370 t1362.length cp1371, .int .i64 t1363, .slice A1370 t1362.length cp1371, .int .i64 (t1362.length : Int), .bool false, .bool false, .int .i64 t1363, .bool (!decide (t1363 = 0)), undef, undef, undef, undef, undef, undef, undef, undef, undef, undef, undef, undef, undef, undef, undef] q_ undef)  HS (by omega) HO1372 H
  · rw [if_neg c1439] at H
    (try rw [(decide_eq_false c1439)])
    (try simp only [Bool.not_true, Bool.not_false])
    refine sk_guard (guard_off 3 false 14 rfl rfl true (by decide) rfl) rfl ?_
    simp only [List.set_cons_zero, List.set_cons_succ]
    refine sk_guard (guard_off 3 false 14 rfl rfl true (by decide) rfl) rfl ?_
    simp only [List.set_cons_zero, List.set_cons_succ]
    refine st (.bool true) rfl rfl (xr_pick true (.bool true) rfl rfl rfl) ?_
    simp only [List.set_cons_zero, List.set_cons_succ]
    refine wl_end ?_
    (try simp only [Act.put, List.setIfInBounds_toArray, List.set_cons_zero, List.set_cons_succ])
    exact hj1393 _ _ _ (true) (fun q_ => List.getD [.bool false, undef, .int .i64 t1363, undef, undef, .tuple #[.slice A1370 t1362.length cp1371, .int .i64 t1363], v1360, .agg #[.int .i64 7, .slice none 0 0], .tuple #[.slice A1370 t1362.length cp1371, .int .i64 t1363], .slice A1370 t1362.length cp1371, .int .i64 t1363, .slice A1370 t1362.length cp1371, .int .i64 (t1362.length : Int), .bool true, .bool true, undef, undef, undef, undef, undef, undef, undef, undef, undef, undef, undef, undef, undef, undef, undef, undef, undef] q_ undef)  HS (by omega) HO1372 H

/-! ### blazonref01_Four: function 21 -/
def blazonref01_Four.l0 : Nat → Int → (List Int) → Int → Option (List Int)
  | 0, _, _, _ => none
  | k + 1, x1560, x1561, x1567 => if x1567 < 4 then (if x1561.length < 140737488355328 then ((some (x1561 ++ [(Int.tmod x1560 256) % 256] : List Int)).bind fun y1584 => (blazonref01_Four.l0 k ((Int.tdiv x1560 256) % 4294967296) y1584 (wrap64 (x1567 + 1)))) else (none)) else (some x1561)
def blazonref01_Four.f (k : Nat) (a0 : Int) : Option (List Int) := blazonref01_Four.l0 k a0 ([] : List Int) 0
theorem blazonref01_Four.mono_l : ∀ k, (∀ y0 y1 y2, LeO (blazonref01_Four.l0 k y0 y1 y2) (blazonref01_Four.l0 (k + 1) y0 y1 y2))
  | 0 => fun _ _ _ r h => by simp [blazonref01_Four.l0] at h
  | k + 1 => by
    have ih0 := blazonref01_Four.mono_l k
    · intro y0 y1 y2
      unfold blazonref01_Four.l0
      repeat' first
      | (with_reducible exact ih0 _ _ _)
      | (with_reducible exact LeO.refl _)
      | (with_reducible exact LeO.none _)
      | (with_reducible refine LeO.ite ?_ ?_)
      | (with_reducible refine LeO.bind ?_ (fun _ => ?_))
      | exact ih0 _ _ _
      | exact LeO.none _
      | refine LeO.ite ?_ ?_
      | refine LeO.bind ?_ (fun _ => ?_)
theorem blazonref01_Four.mono : ∀ a0 k, LeO (blazonref01_Four.f k a0) (blazonref01_Four.f (k + 1) a0) := by
  intro a0 k
  have ih0 := blazonref01_Four.mono_l k
  unfold blazonref01_Four.f
  repeat' first
      | (with_reducible exact ih0 _ _ _)
      | (with_reducible exact LeO.refl _)
      | (with_reducible exact LeO.none _)
      | (with_reducible refine LeO.ite ?_ ?_)
      | (with_reducible refine LeO.bind ?_ (fun _ => ?_))
      | exact ih0 _ _ _
      | exact LeO.none _
      | refine LeO.ite ?_ ?_
      | refine LeO.bind ?_ (fun _ => ?_)
set_option maxHeartbeats 2000000 in
set_option maxRecDepth 100000 in
theorem blazonref01_Four.calls (k : Nat) (a0 : Int) (r : List Int) (c : Nat → Nat) (w : World) (hc : ∀ k, c k < 10)  (H : blazonref01_Four.f k a0 = some r) :
    Calls Try.prog 21 #[.int .u32 a0] w fun e w' => ∃ (c' : Nat → Nat) (A_r : Option Addr) (c_r : Nat), e = .returned (.slice A_r r.length c_r) ∧ Step c w c' w' [] ∧ Own c' 5 w' (Kd.int .u8) 5 (.slice A_r r.length c_r) r ∧ r.length ≤ c_r := by
  unfold blazonref01_Four.f at H
  have HS := Step.refl c w []
  go_enter Try.func21, Try.ntmps21
  refine wp_seq_k fun K1517 hK1517 => ?_
  refine wl_region ?_
  refine st (.slice none 0 0) rfl rfl (xr_assign (.slice none 0 0) rfl rfl) ?_
  simp only [List.set_cons_zero, List.set_cons_succ]
  refine wl_end ?_
  (try simp only [Act.put, List.setIfInBounds_toArray, List.set_cons_zero, List.set_cons_succ])
  refine hK1517 _ _ ?_
  (try clear hK1517 K1517)
  refine wp_seq_k fun K1518 hK1518 => ?_
  refine wl_region ?_
  refine st (.slice none 0 0) rfl rfl (xr_assign (.slice none 0 0) rfl rfl) ?_
  simp only [List.set_cons_zero, List.set_cons_succ]
  refine wl_end ?_
  (try simp only [Act.put, List.setIfInBounds_toArray, List.set_cons_zero, List.set_cons_succ])
  refine hK1518 _ _ ?_
  (try clear hK1518 K1518)
  refine wp_seq_k fun K1519 hK1519 => ?_
  refine wp_seq_k fun K1520 hK1520 => ?_
  refine wl_region ?_
  refine st (.int .i64 0) rfl rfl (xr_assign (.int .i64 0) rfl rfl) ?_
  simp only [List.set_cons_zero, List.set_cons_succ]
  refine wl_end ?_
  (try simp only [Act.put, List.setIfInBounds_toArray, List.set_cons_zero, List.set_cons_succ])
  refine hK1520 _ _ ?_
  (try clear hK1520 K1520)
  refine wp_block ?_
  (try simp only [Act.put, List.setIfInBounds_toArray, List.set_cons_zero, List.set_cons_succ])
  refine wp_looped (looped_ind (fun kq1571 a_ w1570 => ∃ (C1569 : Nat → Nat) (x1560 : Int) (x1567 : Int) (A1562 : Option Addr) (n1563 cp1564 : Nat) (x1561 : List Int) (g1568 : Nat → Value), a_ = ⟨#[.int .u32 x1560, (g1568 1), (g1568 2), .slice A1562 n1563 cp1564, .int .i64 x1567, (g1568 5), (g1568 6), (g1568 7), (g1568 8), (g1568 9), (g1568 10), (g1568 11), (g1568 12), (g1568 13), (g1568 14), (g1568 15), (g1568 16), (g1568 17)], []⟩ ∧ Step c w C1569 w1570 [] ∧ kq1571 ≤ k ∧ (Own C1569 11 w1570 (Kd.int .u8) 5 (.slice A1562 n1563 cp1564) x1561) ∧ (n1563 ≤ cp1564) ∧ blazonref01_Four.l0 kq1571 x1560 x1561 x1567 = some r) ?step k _ _ ?init)
  case init =>
    exact ⟨_, a0, 0, none, 0, 0, ([] : List Int), (fun q_ => List.getD [undef, undef, .slice none 0 0, undef, undef, undef, undef, undef, undef, undef, undef, undef, undef, undef, undef, undef, undef, undef] q_ undef), rfl, HS, Nat.le_refl _, (Own.nil _ _ _ _ _), (Nat.le_refl 0), H⟩
  case step =>
    intro kq1571 ih1574 a1575 w1570 hr1576
    obtain ⟨C1569, x1560, x1567, A1562, n1563, cp1564, x1561, g1568, rfl, HS1572, hk1573, HJ1566, HC1565, H⟩ := hr1576
    refine looped_round ?_
    obtain rfl : n1563 = x1561.length := HJ1566.at_.1
    cases kq1571 with
    | zero => exact absurd H (by simp [blazonref01_Four.l0])
    | succ k1577 =>
      simp only [blazonref01_Four.l0] at H
      refine wp_seq_k fun K1578 hK1578 => ?_
      refine wp_seq_k fun K1579 hK1579 => ?_
      refine wl_region ?_
      refine st (.int .i64 x1567) rfl rfl (xr_move (.int .i64 x1567) rfl rfl) ?_
      simp only [List.set_cons_zero, List.set_cons_succ]
      refine st (.bool (decide (x1567 < 4))) rfl rfl (xr_bin (.int .i64 x1567) (.int .i64 4) (.bool (decide (x1567 < 4))) rfl rfl rfl (B.lss_i64 x1567 4)) ?_
      simp only [List.set_cons_zero, List.set_cons_succ]
      refine wl_end ?_
      (try simp only [Act.put, List.setIfInBounds_toArray, List.set_cons_zero, List.set_cons_succ])
      refine hK1579 _ _ ?_
      (try clear hK1579 K1579)
      by_cases c1580 : x1567 < 4
      · rw [if_pos c1580] at H
        (try rw [(decide_eq_true c1580)])
        (try simp only [Bool.not_true, Bool.not_false])
        refine wp_cond_true rfl ?_
        refine wp_skip ?_
        (try simp only [Act.put, List.setIfInBounds_toArray, List.set_cons_zero, List.set_cons_succ])
        refine hK1578 _ _ ?_
        (try clear hK1578 K1578)
        refine wp_seq_k fun K1581 hK1581 => ?_
        refine wp_block ?_
        refine wp_seq_k fun K1582 hK1582 => ?_
        refine wl_region ?_
        refine st (.slice A1562 x1561.length cp1564) rfl rfl (xr_move (.slice A1562 x1561.length cp1564) rfl rfl) ?_
        simp only [List.set_cons_zero, List.set_cons_succ]
        refine st (.int .u32 x1560) rfl rfl (xr_move (.int .u32 x1560) rfl rfl) ?_
        simp only [List.set_cons_zero, List.set_cons_succ]
        refine st (.int .u32 (Int.tmod x1560 256)) rfl rfl (xr_bin (.int .u32 x1560) (.int .u32 256) (.int .u32 (Int.tmod x1560 256)) rfl rfl rfl (B.rem_u32 x1560 256 (by decide))) ?_
        simp only [List.set_cons_zero, List.set_cons_succ]
        refine st (.int .u8 ((Int.tmod x1560 256) % 256)) rfl rfl (xr_conv (.int .u32 (Int.tmod x1560 256)) (.int .u8 ((Int.tmod x1560 256) % 256)) rfl rfl (by first | rfl | (go_simp; done) | (go_simp; rfl) | (go_simp; exact i64_w _) | (go_simp; exact i32_w _))) ?_
        simp only [List.set_cons_zero, List.set_cons_succ]
        refine ev_run (w1 := w1570.alloc (.cells #[.int .u8 ((Int.tmod x1560 256) % 256)] 5)) (.slice (some ⟨w1570.heap.size, 0, none⟩) 1 1) rfl rfl (by first | (go_simp; done) | (go_simp; rfl)) ?_
        (try simp only [Act.put, List.setIfInBounds_toArray, List.set_cons_zero, List.set_cons_succ])
        by_cases c1583 : x1561.length < 140737488355328
        · rw [if_pos c1583] at H
          obtain ⟨y1584, A1585, H⟩ := Option.bind_eq_some_iff.mp H
          (try dsimp only at H)
          refine Own.append (Kd.int .u8) (C := C1569) (i := 11) rfl (.tmp 9) (.tmp 13) 23 5 (.int .u8 0) 1 rfl Try.underlying23 info5 rfl (by decide) (by decide) (.slice A1562 x1561.length cp1564) x1561 ((Int.tmod x1560 256) % 256) [.int .u8 ((Int.tmod x1560 256) % 256)] rfl rfl (fk_int .u8 _ _ ((Int.tmod x1560 256) % 256)) HJ1566 (by decide) (by omega) (Option.some.inj A1585) ?_
          intro A1586 cp1587 w1588 C1589 HO1590 HC1591 hs1592
          replace HS1572 := HS1572.trans hs1592 hc rfl
          (try simp only [Act.put, List.setIfInBounds_toArray, List.set_cons_zero, List.set_cons_succ])
          refine st (.slice A1586 y1584.length cp1587) rfl rfl (xr_assign (.slice A1586 y1584.length cp1587) rfl rfl) ?_
          simp only [List.set_cons_zero, List.set_cons_succ]
          refine wl_end ?_
          (try simp only [Act.put, List.setIfInBounds_toArray, List.set_cons_zero, List.set_cons_succ])
          refine hK1582 _ _ ?_
          (try clear hK1582 K1582)
          refine wl_region ?_
          refine st (.int .u32 x1560) rfl rfl (xr_move (.int .u32 x1560) rfl rfl) ?_
          simp only [List.set_cons_zero, List.set_cons_succ]
          refine st (.int .u32 ((Int.tdiv x1560 256) % 4294967296)) rfl rfl (xr_bin (.int .u32 x1560) (.int .u32 256) (.int .u32 ((Int.tdiv x1560 256) % 4294967296)) rfl rfl rfl (B.quo_u32 x1560 256 (by decide))) ?_
          simp only [List.set_cons_zero, List.set_cons_succ]
          refine st (.int .u32 ((Int.tdiv x1560 256) % 4294967296)) rfl rfl (xr_assign (.int .u32 ((Int.tdiv x1560 256) % 4294967296)) rfl rfl) ?_
          simp only [List.set_cons_zero, List.set_cons_succ]
          refine wl_end ?_
          (try simp only [Act.put, List.setIfInBounds_toArray, List.set_cons_zero, List.set_cons_succ])
          refine hK1581 _ _ ?_
          (try clear hK1581 K1581)
          refine wl_region ?_
          refine st (.int .i64 x1567) rfl rfl (xr_move (.int .i64 x1567) rfl rfl) ?_
          simp only [List.set_cons_zero, List.set_cons_succ]
          refine st (.int .i64 (wrap64 (x1567 + 1))) rfl rfl (xr_bin (.int .i64 x1567) (.int .i64 1) (.int .i64 (wrap64 (x1567 + 1))) rfl rfl rfl (B.add_i64 x1567 1)) ?_
          simp only [List.set_cons_zero, List.set_cons_succ]
          refine st (.int .i64 (wrap64 (x1567 + 1))) rfl rfl (xr_assign (.int .i64 (wrap64 (x1567 + 1))) rfl rfl) ?_
          simp only [List.set_cons_zero, List.set_cons_succ]
          refine wl_end ?_
          (try simp only [Act.put, List.setIfInBounds_toArray, List.set_cons_zero, List.set_cons_succ])
          exact ih1574 k1577 (by omega) _ _ ⟨_, (Int.tdiv x1560 256) % 4294967296, wrap64 (x1567 + 1), A1586, y1584.length, cp1587, y1584, (fun q_ => List.getD [undef, (g1568 1), (g1568 2), undef, undef, .int .i64 x1567, .bool true, .int .i64 x1567, .int .i64 (wrap64 (x1567 + 1)), .slice A1562 x1561.length cp1564, .int .u32 x1560, .int .u32 (Int.tmod x1560 256), .int .u8 ((Int.tmod x1560 256) % 256), .slice (some ⟨w1570.heap.size, 0, none⟩) 1 1, .slice A1586 y1584.length cp1587, .int .u32 x1560, .int .u32 ((Int.tdiv x1560 256) % 4294967296), (g1568 17)] q_ undef), rfl, HS1572, (by omega), HO1590, HC1591, H⟩
        · rw [if_neg c1583] at H
          exact absurd H (by simp)
      · rw [if_neg c1580] at H
        (try rw [(decide_eq_false c1580)])
        (try simp only [Bool.not_true, Bool.not_false])
        refine wp_cond_false rfl ?_
        refine wp_exit ?_
        (try simp only [Act.put, List.setIfInBounds_toArray, List.set_cons_zero, List.set_cons_succ])
        refine hK1519 _ _ ?_
        (try clear hK1519 K1519)
        refine wp_seq_k fun K1593 hK1593 => ?_
        refine wl_region ?_
        refine st (.slice A1562 x1561.length cp1564) rfl rfl (xr_move (.slice A1562 x1561.length cp1564) rfl rfl) ?_
        simp only [List.set_cons_zero, List.set_cons_succ]
        refine st (.slice A1562 x1561.length cp1564) rfl rfl (xr_assign (.slice A1562 x1561.length cp1564) rfl rfl) ?_
        simp only [List.set_cons_zero, List.set_cons_succ]
        refine wl_end ?_
        (try simp only [Act.put, List.setIfInBounds_toArray, List.set_cons_zero, List.set_cons_succ])
        refine hK1593 _ _ ?_
        (try clear hK1593 K1593)
        refine wp_ret ?_
        (try simp only [Exit.inBlock, Exit.then, Exit.noGoto])
        (try simp only [Act.put, List.setIfInBounds_toArray, List.set_cons_zero, List.set_cons_succ])
        replace HJ1566 := Own.recolor (b := 5) HJ1566 (by decide)
        replace HS1572 := Step.recol (a := 11) (b := 5) HS1572 hc (by decide)
        obtain rfl := Option.some.inj H
        refine bodyPost_ret (results_tmp rfl _ _ _) rfl ?_
        exact ⟨_, A1562, cp1564, rfl, HS1572, HJ1566, HC1565⟩

/-! ### blazonref02_More: function 39 -/
mutual
def blazonref02_More.l0 : Nat → (List Int) → Int → Int → Int → Option (Int)
  | 0, _, _, _, _ => none
  | k + 1, l1, x1889, x1931, x1932 => if x1932 < 8 then (if (Int.tmod x1931 2) = 1 then (blazonref02_More.l0 k l1 x1889 (Go.bits .xor .u32 ((Int.tdiv x1931 2) % 4294967296) 3988292384) (wrap64 (x1932 + 1))) else (blazonref02_More.l0 k l1 x1889 ((Int.tdiv x1931 2) % 4294967296) (wrap64 (x1932 + 1)))) else (blazonref02_More.l1 k l1 x1931 (wrap64 (x1889 + 1)))
def blazonref02_More.l1 : Nat → (List Int) → Int → Int → Option (Int)
  | 0, _, _, _ => none
  | k + 1, l1, x1888, x1889 => if x1889 < (l1.length : Int) then (if 0 ≤ x1889 then (blazonref02_More.l0 k l1 x1889 (Go.bits .xor .u32 x1888 ((rd l1 x1889) % 4294967296)) 0) else (none)) else (some ((4294967295 - x1888) % 4294967296))
end
def blazonref02_More.f (k : Nat) (a0 : Int) (l1 : List Int) : Option (Int) := blazonref02_More.l1 k l1 ((4294967295 - a0) % 4294967296) 0
theorem blazonref02_More.mono_l : ∀ k, (∀ y0 y1 y2 y3, LeO (blazonref02_More.l0 k y0 y1 y2 y3) (blazonref02_More.l0 (k + 1) y0 y1 y2 y3)) ∧ (∀ y0 y1 y2, LeO (blazonref02_More.l1 k y0 y1 y2) (blazonref02_More.l1 (k + 1) y0 y1 y2))
  | 0 => ⟨fun _ _ _ _ r h => by simp [blazonref02_More.l0] at h, fun _ _ _ r h => by simp [blazonref02_More.l1] at h⟩
  | k + 1 => by
    obtain ⟨ih0, ih1⟩ := blazonref02_More.mono_l k
    refine ⟨?_, ?_⟩
    · intro y0 y1 y2 y3
      unfold blazonref02_More.l0
      repeat' first
      | (with_reducible exact ih0 _ _ _ _)
      | (with_reducible exact ih1 _ _ _)
      | (with_reducible exact LeO.refl _)
      | (with_reducible exact LeO.none _)
      | (with_reducible refine LeO.ite ?_ ?_)
      | (with_reducible refine LeO.bind ?_ (fun _ => ?_))
      | exact ih0 _ _ _ _
      | exact ih1 _ _ _
      | exact LeO.none _
      | refine LeO.ite ?_ ?_
      | refine LeO.bind ?_ (fun _ => ?_)
    · intro y0 y1 y2
      unfold blazonref02_More.l1
      repeat' first
      | (with_reducible exact ih0 _ _ _ _)
      | (with_reducible exact ih1 _ _ _)
      | (with_reducible exact LeO.refl _)
      | (with_reducible exact LeO.none _)
      | (with_reducible refine LeO.ite ?_ ?_)
      | (with_reducible refine LeO.bind ?_ (fun _ => ?_))
      | exact ih0 _ _ _ _
      | exact ih1 _ _ _
      | exact LeO.none _
      | refine LeO.ite ?_ ?_
      | refine LeO.bind ?_ (fun _ => ?_)
theorem blazonref02_More.mono : ∀ a0 a1 k, LeO (blazonref02_More.f k a0 a1) (blazonref02_More.f (k + 1) a0 a1) := by
  intro a0 a1 k
  obtain ⟨ih0, ih1⟩ := blazonref02_More.mono_l k
  unfold blazonref02_More.f
  repeat' first
      | (with_reducible exact ih0 _ _ _ _)
      | (with_reducible exact ih1 _ _ _)
      | (with_reducible exact LeO.refl _)
      | (with_reducible exact LeO.none _)
      | (with_reducible refine LeO.ite ?_ ?_)
      | (with_reducible refine LeO.bind ?_ (fun _ => ?_))
      | exact ih0 _ _ _ _
      | exact ih1 _ _ _
      | exact LeO.none _
      | refine LeO.ite ?_ ?_
      | refine LeO.bind ?_ (fun _ => ?_)
set_option maxHeartbeats 2000000 in
set_option maxRecDepth 100000 in
theorem blazonref02_More.calls (k : Nat) (a0 : Int) (A1 : Option Addr) (c1 : Nat) (l1 : List Int) (r : Int) (c : Nat → Nat) (w : World) (hc : ∀ k, c k < 10) (HP1 : Ft c [0] w (fun w_ => (Kd.int .u8).C w_ A1 l1.length l1)) (HCP1 : l1.length ≤ c1) (H : blazonref02_More.f k a0 l1 = some r) :
    Calls Try.prog 39 #[.int .u32 a0, .slice A1 l1.length c1] w fun e w' => ∃ (c' : Nat → Nat) , e = .returned (.int .u32 r) ∧ Step c w c' w' [] := by
  unfold blazonref02_More.f at H
  have HS := Step.refl c w []
  go_enter Try.func39, Try.ntmps39
  refine wp_seq_k fun K1773 hK1773 => ?_
  refine wl_region ?_
  refine st (.int .u32 0) rfl rfl (xr_assign (.int .u32 0) rfl rfl) ?_
  simp only [List.set_cons_zero, List.set_cons_succ]
  refine wl_end ?_
  (try simp only [Act.put, List.setIfInBounds_toArray, List.set_cons_zero, List.set_cons_succ])
  refine hK1773 _ _ ?_
  (try clear hK1773 K1773)
  refine wp_seq_k fun K1774 hK1774 => ?_
  refine wl_region ?_
  refine st (.int .u32 a0) rfl rfl (xr_move (.int .u32 a0) rfl rfl) ?_
  simp only [List.set_cons_zero, List.set_cons_succ]
  refine st (.int .u32 ((4294967295 - a0) % 4294967296)) rfl rfl (xr_bin (.int .u32 4294967295) (.int .u32 a0) (.int .u32 ((4294967295 - a0) % 4294967296)) rfl rfl rfl (B.sub_u32 4294967295 a0)) ?_
  simp only [List.set_cons_zero, List.set_cons_succ]
  refine st (.int .u32 ((4294967295 - a0) % 4294967296)) rfl rfl (xr_assign (.int .u32 ((4294967295 - a0) % 4294967296)) rfl rfl) ?_
  simp only [List.set_cons_zero, List.set_cons_succ]
  refine wl_end ?_
  (try simp only [Act.put, List.setIfInBounds_toArray, List.set_cons_zero, List.set_cons_succ])
  refine hK1774 _ _ ?_
  (try clear hK1774 K1774)
  refine wp_seq_k fun K1775 hK1775 => ?_
  refine wp_seq_k fun K1776 hK1776 => ?_
  refine wl_region ?_
  refine st (.int .i64 0) rfl rfl (xr_assign (.int .i64 0) rfl rfl) ?_
  simp only [List.set_cons_zero, List.set_cons_succ]
  refine wl_end ?_
  (try simp only [Act.put, List.setIfInBounds_toArray, List.set_cons_zero, List.set_cons_succ])
  refine hK1776 _ _ ?_
  (try clear hK1776 K1776)
  refine wp_block ?_
  (try simp only [Act.put, List.setIfInBounds_toArray, List.set_cons_zero, List.set_cons_succ])
  refine wp_looped (looped_ind (fun kq1893 a_ w1892 => ∃ (C1891 : Nat → Nat) (x1888 : Int) (x1889 : Int) (g1890 : Nat → Value), a_ = ⟨#[(g1890 0), .slice A1 l1.length c1, (g1890 2), (g1890 3), (g1890 4), .int .u32 x1888, .int .i64 x1889, (g1890 7), (g1890 8), (g1890 9), (g1890 10), (g1890 11), (g1890 12), (g1890 13), (g1890 14), (g1890 15), (g1890 16), (g1890 17), (g1890 18), (g1890 19), (g1890 20), (g1890 21), (g1890 22), (g1890 23), (g1890 24), (g1890 25), (g1890 26), (g1890 27), (g1890 28), (g1890 29), (g1890 30), (g1890 31), (g1890 32), (g1890 33), (g1890 34), (g1890 35), (g1890 36), (g1890 37)], []⟩ ∧ Step c w C1891 w1892 [] ∧ kq1893 ≤ k ∧ (Ft C1891 [0] w1892 (fun w_ => (Kd.int .u8).C w_ A1 l1.length l1)) ∧ blazonref02_More.l1 kq1893 l1 x1888 x1889 = some r) ?step k _ _ ?init)
  case init =>
    exact ⟨_, (4294967295 - a0) % 4294967296, 0, (fun q_ => List.getD [.int .u32 a0, undef, undef, undef, .int .u32 0, undef, undef, undef, undef, .int .u32 a0, .int .u32 ((4294967295 - a0) % 4294967296), undef, undef, undef, undef, undef, undef, undef, undef, undef, undef, undef, undef, undef, undef, undef, undef, undef, undef, undef, undef, undef, undef, undef, undef, undef, undef, undef] q_ undef), rfl, HS, Nat.le_refl _, HP1, H⟩
  case step =>
    intro kq1893 ih1896 a1897 w1892 hr1898
    obtain ⟨C1891, x1888, x1889, g1890, rfl, HS1894, hk1895, HJ1887, H⟩ := hr1898
    refine looped_round ?_
    cases kq1893 with
    | zero => exact absurd H (by simp [blazonref02_More.l1])
    | succ k1899 =>
      simp only [blazonref02_More.l1] at H
      refine wp_seq_k fun K1900 hK1900 => ?_
      refine wp_seq_k fun K1901 hK1901 => ?_
      refine wl_region ?_
      refine st (.int .i64 x1889) rfl rfl (xr_move (.int .i64 x1889) rfl rfl) ?_
      simp only [List.set_cons_zero, List.set_cons_succ]
      refine st (.slice A1 l1.length c1) rfl rfl (xr_move (.slice A1 l1.length c1) rfl rfl) ?_
      simp only [List.set_cons_zero, List.set_cons_succ]
      refine st (.int .i64 (l1.length : Int)) rfl rfl (xr_builtin #[.slice A1 l1.length c1] (.int .i64 (l1.length : Int)) rfl (by simp only [List.map_toArray, List.map_cons, List.map_nil]; first | done | rfl) (by first | rfl | (go_simp; done) | (go_simp; rfl) | (go_simp; exact i64_w _) | (go_simp; exact i32_w _))) ?_
      simp only [List.set_cons_zero, List.set_cons_succ]
      refine st (.bool (decide (x1889 < (l1.length : Int)))) rfl rfl (xr_bin (.int .i64 x1889) (.int .i64 (l1.length : Int)) (.bool (decide (x1889 < (l1.length : Int)))) rfl rfl rfl (B.lss_i64 x1889 (l1.length : Int))) ?_
      simp only [List.set_cons_zero, List.set_cons_succ]
      refine wl_end ?_
      (try simp only [Act.put, List.setIfInBounds_toArray, List.set_cons_zero, List.set_cons_succ])
      refine hK1901 _ _ ?_
      (try clear hK1901 K1901)
      by_cases c1902 : x1889 < (l1.length : Int)
      · rw [if_pos c1902] at H
        (try rw [(decide_eq_true c1902)])
        (try simp only [Bool.not_true, Bool.not_false])
        refine wp_cond_true rfl ?_
        refine wp_skip ?_
        (try simp only [Act.put, List.setIfInBounds_toArray, List.set_cons_zero, List.set_cons_succ])
        refine hK1900 _ _ ?_
        (try clear hK1900 K1900)
        refine wp_seq_k fun K1903 hK1903 => ?_
        refine wp_block ?_
        refine wp_seq_k fun K1904 hK1904 => ?_
        refine wl_region ?_
        refine st (.int .u32 x1888) rfl rfl (xr_move (.int .u32 x1888) rfl rfl) ?_
        simp only [List.set_cons_zero, List.set_cons_succ]
        refine st (.slice A1 l1.length c1) rfl rfl (xr_move (.slice A1 l1.length c1) rfl rfl) ?_
        simp only [List.set_cons_zero, List.set_cons_succ]
        refine st (.int .i64 x1889) rfl rfl (xr_move (.int .i64 x1889) rfl rfl) ?_
        simp only [List.set_cons_zero, List.set_cons_succ]
        by_cases c1905 : 0 ≤ x1889
        · rw [if_pos c1905] at H
          obtain ⟨ad1906, hA1907⟩ := c_addr (Ft.now HJ1887) (pos_of (j := x1889) (by first | assumption | decide) (by first | assumption | omega))
          refine st (.pointer (some (ad1906.add ((x1889 : Int).toNat * 1)))) rfl rfl (xr_indexAddr (.slice A1 l1.length c1) (.int .i64 x1889) (.pointer (some (ad1906.add ((x1889 : Int).toNat * 1)))) rfl rfl rfl (index_at Try.underlying23 info5 hA1907 (by first | assumption | decide | omega) (by first | assumption | decide | omega))) ?_
          simp only [List.set_cons_zero, List.set_cons_succ]
          refine st (.int .u8 (rd l1 x1889)) rfl rfl (xr_load (.pointer (some (ad1906.add ((x1889 : Int).toNat * 1)))) (.int .u8 (rd l1 x1889)) rfl rfl (load_int Try.underlying5 rfl hA1907 (Ft.now HJ1887) (by first | assumption | decide | omega) (by first | assumption | decide | omega))) ?_
          simp only [List.set_cons_zero, List.set_cons_succ]
          refine st (.int .u32 ((rd l1 x1889) % 4294967296)) rfl rfl (xr_conv (.int .u8 (rd l1 x1889)) (.int .u32 ((rd l1 x1889) % 4294967296)) rfl rfl (by first | rfl | (go_simp; done) | (go_simp; rfl) | (go_simp; exact i64_w _) | (go_simp; exact i32_w _))) ?_
          simp only [List.set_cons_zero, List.set_cons_succ]
          refine st (.int .u32 (Go.bits .xor .u32 x1888 ((rd l1 x1889) % 4294967296))) rfl rfl (xr_bin (.int .u32 x1888) (.int .u32 ((rd l1 x1889) % 4294967296)) (.int .u32 (Go.bits .xor .u32 x1888 ((rd l1 x1889) % 4294967296))) rfl rfl rfl (B.xor_u32 x1888 ((rd l1 x1889) % 4294967296))) ?_
          simp only [List.set_cons_zero, List.set_cons_succ]
          refine st (.int .u32 (Go.bits .xor .u32 x1888 ((rd l1 x1889) % 4294967296))) rfl rfl (xr_assign (.int .u32 (Go.bits .xor .u32 x1888 ((rd l1 x1889) % 4294967296))) rfl rfl) ?_
          simp only [List.set_cons_zero, List.set_cons_succ]
          refine wl_end ?_
          (try simp only [Act.put, List.setIfInBounds_toArray, List.set_cons_zero, List.set_cons_succ])
          refine hK1904 _ _ ?_
          (try clear hK1904 K1904)
          refine wp_seq_k fun K1908 hK1908 => ?_
          refine wl_region ?_
          refine st (.int .i64 0) rfl rfl (xr_assign (.int .i64 0) rfl rfl) ?_
          simp only [List.set_cons_zero, List.set_cons_succ]
          refine wl_end ?_
          (try simp only [Act.put, List.setIfInBounds_toArray, List.set_cons_zero, List.set_cons_succ])
          refine hK1908 _ _ ?_
          (try clear hK1908 K1908)
          refine wp_block ?_
          (try simp only [Act.put, List.setIfInBounds_toArray, List.set_cons_zero, List.set_cons_succ])
          refine wp_looped (looped_ind (fun kq1936 a_ w1935 => ∃ (C1934 : Nat → Nat) (x1931 : Int) (x1932 : Int) (g1933 : Nat → Value), a_ = ⟨#[(g1933 0), .slice A1 l1.length c1, (g1933 2), (g1933 3), (g1933 4), .int .u32 x1931, .int .i64 x1889, .int .i64 x1932, (g1933 8), (g1933 9), (g1933 10), (g1933 11), (g1933 12), (g1933 13), (g1933 14), (g1933 15), (g1933 16), (g1933 17), (g1933 18), (g1933 19), (g1933 20), (g1933 21), (g1933 22), (g1933 23), (g1933 24), (g1933 25), (g1933 26), (g1933 27), (g1933 28), (g1933 29), (g1933 30), (g1933 31), (g1933 32), (g1933 33), (g1933 34), (g1933 35), (g1933 36), (g1933 37)], []⟩ ∧ Step c w C1934 w1935 [] ∧ kq1936 ≤ k1899 ∧ (Ft C1934 [0] w1935 (fun w_ => (Kd.int .u8).C w_ A1 l1.length l1)) ∧ blazonref02_More.l0 kq1936 l1 x1889 x1931 x1932 = some r) ?step k1899 _ _ ?init)
          case init =>
            exact ⟨_, Go.bits .xor .u32 x1888 ((rd l1 x1889) % 4294967296), 0, (fun q_ => List.getD [(g1890 0), undef, (g1890 2), (g1890 3), (g1890 4), undef, undef, undef, (g1890 8), (g1890 9), (g1890 10), .int .i64 x1889, .slice A1 l1.length c1, .int .i64 (l1.length : Int), .bool true, (g1890 15), (g1890 16), .int .u32 x1888, .slice A1 l1.length c1, .int .i64 x1889, .pointer (some (ad1906.add ((x1889 : Int).toNat * 1))), .int .u8 (rd l1 x1889), .int .u32 ((rd l1 x1889) % 4294967296), .int .u32 (Go.bits .xor .u32 x1888 ((rd l1 x1889) % 4294967296)), (g1890 24), (g1890 25), (g1890 26), (g1890 27), (g1890 28), (g1890 29), (g1890 30), (g1890 31), (g1890 32), (g1890 33), (g1890 34), (g1890 35), (g1890 36), (g1890 37)] q_ undef), rfl, HS1894, Nat.le_refl _, HJ1887, H⟩
          case step =>
            intro kq1936 ih1939 a1940 w1935 hr1941
            obtain ⟨C1934, x1931, x1932, g1933, rfl, HS1937, hk1938, HJ1930, H⟩ := hr1941
            refine looped_round ?_
            cases kq1936 with
            | zero => exact absurd H (by simp [blazonref02_More.l0])
            | succ k1942 =>
              simp only [blazonref02_More.l0] at H
              refine wp_seq_k fun K1943 hK1943 => ?_
              refine wp_seq_k fun K1944 hK1944 => ?_
              refine wl_region ?_
              refine st (.int .i64 x1932) rfl rfl (xr_move (.int .i64 x1932) rfl rfl) ?_
              simp only [List.set_cons_zero, List.set_cons_succ]
              refine st (.bool (decide (x1932 < 8))) rfl rfl (xr_bin (.int .i64 x1932) (.int .i64 8) (.bool (decide (x1932 < 8))) rfl rfl rfl (B.lss_i64 x1932 8)) ?_
              simp only [List.set_cons_zero, List.set_cons_succ]
              refine wl_end ?_
              (try simp only [Act.put, List.setIfInBounds_toArray, List.set_cons_zero, List.set_cons_succ])
              refine hK1944 _ _ ?_
              (try clear hK1944 K1944)
              by_cases c1945 : x1932 < 8
              · rw [if_pos c1945] at H
                (try rw [(decide_eq_true c1945)])
                (try simp only [Bool.not_true, Bool.not_false])
                refine wp_cond_true rfl ?_
                refine wp_skip ?_
                (try simp only [Act.put, List.setIfInBounds_toArray, List.set_cons_zero, List.set_cons_succ])
                refine hK1943 _ _ ?_
                (try clear hK1943 K1943)
                refine wp_seq_k fun K1946 hK1946 => ?_
                refine wp_block ?_
                refine wp_seq_k fun K1947 hK1947 => ?_
                refine wl_region ?_
                refine st (.int .u32 x1931) rfl rfl (xr_move (.int .u32 x1931) rfl rfl) ?_
                simp only [List.set_cons_zero, List.set_cons_succ]
                refine st (.int .u32 (Int.tmod x1931 2)) rfl rfl (xr_bin (.int .u32 x1931) (.int .u32 2) (.int .u32 (Int.tmod x1931 2)) rfl rfl rfl (B.rem_u32 x1931 2 (by decide))) ?_
                simp only [List.set_cons_zero, List.set_cons_succ]
                refine st (.int .u32 (Int.tmod x1931 2)) rfl rfl (xr_assign (.int .u32 (Int.tmod x1931 2)) rfl rfl) ?_
                simp only [List.set_cons_zero, List.set_cons_succ]
                refine wl_end ?_
                (try simp only [Act.put, List.setIfInBounds_toArray, List.set_cons_zero, List.set_cons_succ])
                refine hK1947 _ _ ?_
                (try clear hK1947 K1947)
                refine wp_seq_k fun K1948 hK1948 => ?_
                refine wl_region ?_
                refine st (.int .u32 x1931) rfl rfl (xr_move (.int .u32 x1931) rfl rfl) ?_
                simp only [List.set_cons_zero, List.set_cons_succ]
                refine st (.int .u32 ((Int.tdiv x1931 2) % 4294967296)) rfl rfl (xr_bin (.int .u32 x1931) (.int .u32 2) (.int .u32 ((Int.tdiv x1931 2) % 4294967296)) rfl rfl rfl (B.quo_u32 x1931 2 (by decide))) ?_
                simp only [List.set_cons_zero, List.set_cons_succ]
                refine st (.int .u32 ((Int.tdiv x1931 2) % 4294967296)) rfl rfl (xr_assign (.int .u32 ((Int.tdiv x1931 2) % 4294967296)) rfl rfl) ?_
                simp only [List.set_cons_zero, List.set_cons_succ]
                refine wl_end ?_
                (try simp only [Act.put, List.setIfInBounds_toArray, List.set_cons_zero, List.set_cons_succ])
                refine hK1948 _ _ ?_
                (try clear hK1948 K1948)
                refine wp_seq_k fun K1949 hK1949 => ?_
                refine wl_region ?_
                refine st (.int .u32 (Int.tmod x1931 2)) rfl rfl (xr_move (.int .u32 (Int.tmod x1931 2)) rfl rfl) ?_
                simp only [List.set_cons_zero, List.set_cons_succ]
                refine st (.bool (decide ((Int.tmod x1931 2) = 1))) rfl rfl (xr_bin (.int .u32 (Int.tmod x1931 2)) (.int .u32 1) (.bool (decide ((Int.tmod x1931 2) = 1))) rfl rfl rfl (B.eql_u32 (Int.tmod x1931 2) 1)) ?_
                simp only [List.set_cons_zero, List.set_cons_succ]
                refine wl_end ?_
                (try simp only [Act.put, List.setIfInBounds_toArray, List.set_cons_zero, List.set_cons_succ])
                refine hK1949 _ _ ?_
                (try clear hK1949 K1949)
                by_cases c1950 : (Int.tmod x1931 2) = 1
                · rw [if_pos c1950] at H
                  (try rw [(decide_eq_true c1950)])
                  (try simp only [Bool.not_true, Bool.not_false])
                  refine wp_cond_true rfl ?_
                  refine wl_region ?_
                  refine st (.int .u32 ((Int.tdiv x1931 2) % 4294967296)) rfl rfl (xr_move (.int .u32 ((Int.tdiv x1931 2) % 4294967296)) rfl rfl) ?_
                  simp only [List.set_cons_zero, List.set_cons_succ]
                  refine st (.int .u32 (Go.bits .xor .u32 ((Int.tdiv x1931 2) % 4294967296) 3988292384)) rfl rfl (xr_bin (.int .u32 ((Int.tdiv x1931 2) % 4294967296)) (.int .u32 3988292384) (.int .u32 (Go.bits .xor .u32 ((Int.tdiv x1931 2) % 4294967296) 3988292384)) rfl rfl rfl (B.xor_u32 ((Int.tdiv x1931 2) % 4294967296) 3988292384)) ?_
                  simp only [List.set_cons_zero, List.set_cons_succ]
                  refine st (.int .u32 (Go.bits .xor .u32 ((Int.tdiv x1931 2) % 4294967296) 3988292384)) rfl rfl (xr_assign (.int .u32 (Go.bits .xor .u32 ((Int.tdiv x1931 2) % 4294967296) 3988292384)) rfl rfl) ?_
                  simp only [List.set_cons_zero, List.set_cons_succ]
                  refine wl_end ?_
                  (try simp only [Act.put, List.setIfInBounds_toArray, List.set_cons_zero, List.set_cons_succ])
                  refine hK1946 _ _ ?_
                  (try clear hK1946 K1946)
                  refine wl_region ?_
                  refine st (.int .i64 x1932) rfl rfl (xr_move (.int .i64 x1932) rfl rfl) ?_
                  simp only [List.set_cons_zero, List.set_cons_succ]
                  refine st (.int .i64 (wrap64 (x1932 + 1))) rfl rfl (xr_bin (.int .i64 x1932) (.int .i64 1) (.int .i64 (wrap64 (x1932 + 1))) rfl rfl rfl (B.add_i64 x1932 1)) ?_
                  simp only [List.set_cons_zero, List.set_cons_succ]
                  refine st (.int .i64 (wrap64 (x1932 + 1))) rfl rfl (xr_assign (.int .i64 (wrap64 (x1932 + 1))) rfl rfl) ?_
                  simp only [List.set_cons_zero, List.set_cons_succ]
                  refine wl_end ?_
                  (try simp only [Act.put, List.setIfInBounds_toArray, List.set_cons_zero, List.set_cons_succ])
                  exact ih1939 k1942 (by omega) _ _ ⟨_, Go.bits .xor .u32 ((Int.tdiv x1931 2) % 4294967296) 3988292384, wrap64 (x1932 + 1), (fun q_ => List.getD [(g1933 0), undef, (g1933 2), (g1933 3), (g1933 4), undef, undef, undef, .int .u32 (Int.tmod x1931 2), (g1933 9), (g1933 10), (g1933 11), (g1933 12), (g1933 13), (g1933 14), (g1933 15), (g1933 16), (g1933 17), (g1933 18), (g1933 19), (g1933 20), (g1933 21), (g1933 22), (g1933 23), .int .i64 x1932, .bool true, .int .i64 x1932, .int .i64 (wrap64 (x1932 + 1)), .int .u32 x1931, .int .u32 (Int.tmod x1931 2), .int .u32 x1931, .int .u32 ((Int.tdiv x1931 2) % 4294967296), .int .u32 (Int.tmod x1931 2), .bool true, .int .u32 ((Int.tdiv x1931 2) % 4294967296), .int .u32 (Go.bits .xor .u32 ((Int.tdiv x1931 2) % 4294967296) 3988292384), (g1933 36), (g1933 37)] q_ undef), rfl, HS1937, (by omega), HJ1930, H⟩
                · rw [if_neg c1950] at H
                  (try rw [(decide_eq_false c1950)])
                  (try simp only [Bool.not_true, Bool.not_false])
                  refine wp_cond_false rfl ?_
                  refine wp_skip ?_
                  (try simp only [Act.put, List.setIfInBounds_toArray, List.set_cons_zero, List.set_cons_succ])
                  refine hK1946 _ _ ?_
                  (try clear hK1946 K1946)
                  refine wl_region ?_
                  refine st (.int .i64 x1932) rfl rfl (xr_move (.int .i64 x1932) rfl rfl) ?_
                  simp only [List.set_cons_zero, List.set_cons_succ]
                  refine st (.int .i64 (wrap64 (x1932 + 1))) rfl rfl (xr_bin (.int .i64 x1932) (.int .i64 1) (.int .i64 (wrap64 (x1932 + 1))) rfl rfl rfl (B.add_i64 x1932 1)) ?_
                  simp only [List.set_cons_zero, List.set_cons_succ]
                  refine st (.int .i64 (wrap64 (x1932 + 1))) rfl rfl (xr_assign (.int .i64 (wrap64 (x1932 + 1))) rfl rfl) ?_
                  simp only [List.set_cons_zero, List.set_cons_succ]
                  refine wl_end ?_
                  (try simp only [Act.put, List.setIfInBounds_toArray, List.set_cons_zero, List.set_cons_succ])
                  exact ih1939 k1942 (by omega) _ _ ⟨_, (Int.tdiv x1931 2) % 4294967296, wrap64 (x1932 + 1), (fun q_ => List.getD [(g1933 0), undef, (g1933 2), (g1933 3), (g1933 4), undef, undef, undef, .int .u32 (Int.tmod x1931 2), (g1933 9), (g1933 10), (g1933 11), (g1933 12), (g1933 13), (g1933 14), (g1933 15), (g1933 16), (g1933 17), (g1933 18), (g1933 19), (g1933 20), (g1933 21), (g1933 22), (g1933 23), .int .i64 x1932, .bool true, .int .i64 x1932, .int .i64 (wrap64 (x1932 + 1)), .int .u32 x1931, .int .u32 (Int.tmod x1931 2), .int .u32 x1931, .int .u32 ((Int.tdiv x1931 2) % 4294967296), .int .u32 (Int.tmod x1931 2), .bool false, (g1933 34), (g1933 35), (g1933 36), (g1933 37)] q_ undef), rfl, HS1937, (by omega), HJ1930, H⟩
              · rw [if_neg c1945] at H
                (try rw [(decide_eq_false c1945)])
                (try simp only [Bool.not_true, Bool.not_false])
                refine wp_cond_false rfl ?_
                refine wp_exit ?_
                (try simp only [Act.put, List.setIfInBounds_toArray, List.set_cons_zero, List.set_cons_succ])
                refine hK1903 _ _ ?_
                (try clear hK1903 K1903)
                refine wl_region ?_
                refine st (.int .i64 x1889) rfl rfl (xr_move (.int .i64 x1889) rfl rfl) ?_
                simp only [List.set_cons_zero, List.set_cons_succ]
                refine st (.int .i64 (wrap64 (x1889 + 1))) rfl rfl (xr_bin (.int .i64 x1889) (.int .i64 1) (.int .i64 (wrap64 (x1889 + 1))) rfl rfl rfl (B.add_i64 x1889 1)) ?_
                simp only [List.set_cons_zero, List.set_cons_succ]
                refine st (.int .i64 (wrap64 (x1889 + 1))) rfl rfl (xr_assign (.int .i64 (wrap64 (x1889 + 1))) rfl rfl) ?_
                simp only [List.set_cons_zero, List.set_cons_succ]
                refine wl_end ?_
                (try simp only [Act.put, List.setIfInBounds_toArray, List.set_cons_zero, List.set_cons_succ])
                exact ih1896 k1942 (by omega) _ _ ⟨_, x1931, wrap64 (x1889 + 1), (fun q_ => List.getD [(g1933 0), undef, (g1933 2), (g1933 3), (g1933 4), undef, undef, .int .i64 x1932, (g1933 8), (g1933 9), (g1933 10), (g1933 11), (g1933 12), (g1933 13), (g1933 14), .int .i64 x1889, .int .i64 (wrap64 (x1889 + 1)), (g1933 17), (g1933 18), (g1933 19), (g1933 20), (g1933 21), (g1933 22), (g1933 23), .int .i64 x1932, .bool false, (g1933 26), (g1933 27), (g1933 28), (g1933 29), (g1933 30), (g1933 31), (g1933 32), (g1933 33), (g1933 34), (g1933 35), (g1933 36), (g1933 37)] q_ undef), rfl, HS1937, (by omega), HJ1930, H⟩
        · rw [if_neg c1905] at H
          exact absurd H (by simp)
      · rw [if_neg c1902] at H
        (try rw [(decide_eq_false c1902)])
        (try simp only [Bool.not_true, Bool.not_false])
        refine wp_cond_false rfl ?_
        refine wp_exit ?_
        (try simp only [Act.put, List.setIfInBounds_toArray, List.set_cons_zero, List.set_cons_succ])
        refine hK1775 _ _ ?_
        (try clear hK1775 K1775)
        refine wp_seq_k fun K1951 hK1951 => ?_
        refine wl_region ?_
        refine st (.int .u32 x1888) rfl rfl (xr_move (.int .u32 x1888) rfl rfl) ?_
        simp only [List.set_cons_zero, List.set_cons_succ]
        refine st (.int .u32 ((4294967295 - x1888) % 4294967296)) rfl rfl (xr_bin (.int .u32 4294967295) (.int .u32 x1888) (.int .u32 ((4294967295 - x1888) % 4294967296)) rfl rfl rfl (B.sub_u32 4294967295 x1888)) ?_
        simp only [List.set_cons_zero, List.set_cons_succ]
        refine st (.int .u32 ((4294967295 - x1888) % 4294967296)) rfl rfl (xr_assign (.int .u32 ((4294967295 - x1888) % 4294967296)) rfl rfl) ?_
        simp only [List.set_cons_zero, List.set_cons_succ]
        refine wl_end ?_
        (try simp only [Act.put, List.setIfInBounds_toArray, List.set_cons_zero, List.set_cons_succ])
        refine hK1951 _ _ ?_
        (try clear hK1951 K1951)
        refine wp_ret ?_
        (try simp only [Exit.inBlock, Exit.then, Exit.noGoto])
        (try simp only [Act.put, List.setIfInBounds_toArray, List.set_cons_zero, List.set_cons_succ])
        obtain rfl := Option.some.inj H
        refine bodyPost_ret (results_tmp rfl _ _ _) rfl ?_
        exact ⟨_, rfl, HS1894⟩

end Go.Proofs.Ytbpagdgbehefkaa.PRec
