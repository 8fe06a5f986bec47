-- By cprint.py, a program of this work. Lean checks it.
import Derived.Test.YtbpagdgbehefkaaPNshx0
import Derived.Test.YtbpagdgbehefkaaPNshx1
namespace Go.Proofs.Ytbpagdgbehefkaa.PNsh
open Go.RowKit Go.Proofs.YtbpagdgbehefkaaW.PrintWords Go.Proofs.YtbpagdgbehefkaaW.PrintLast Go.Proofs.YtbpagdgbehefkaaW.PrintMore
set_option linter.unusedVariables false
set_option linter.unusedSimpArgs false

/-! ### blazonlaw01_NumShorts: function 5 -/
def blazonlaw01_NumShorts.f (k : Nat) (a0 : Int) (l1 : List Int) : Option (Bool) := if (l1.length : Int) > 2000 then ((blazonlaw01_awake.f k).bind fun t126 => (some t126)) else ((blazonref01_Lent.f l1).bind fun t133 => ((num_Get.f k t133).bind fun bt146 => ((blazonref01_GetShort.f k l1).bind fun bt155 => (if 0 ≤ (l1.length : Int) then (if (l1.length : Int) ≤ (t133.length : Int) then ((some (t133.take ((l1.length : Int) : Int).toNat : List Int)).bind fun y166 => ((num_Put_full.f k y166 a0).bind fun t171 => (if bt146.1 = bt155.1 then (if bt146.2.1 = bt155.2.1 then (if bt146.2.2 = bt155.2.2 then ((blazonref01_Kept.f k t133 l1).bind fun t186 => (if t186 = true then (if (t171.length : Int) ≥ (l1.length : Int) then (if (l1.length : Int) ≤ (t171.length : Int) then ((some (t171.take ((l1.length : Int) : Int).toNat : List Int)).bind fun y195 => ((blazonref01_Same.f k y195 l1).bind fun t203 => (if t203 = true then ((some (t171.drop ((l1.length : Int) : Int).toNat : List Int)).bind fun y210 => ((blazonref01_Short.f k a0).bind fun t218 => ((blazonref01_Same.f k y210 t218).bind fun t228 => (if t228 = true then ((blazonlaw01_awake.f k).bind fun t235 => (some t235)) else (some false))))) else (some false)))) else (none)) else (some false)) else (some false))) else (some false)) else (some false)) else (some false)))) else (none)) else (none)))))

set_option maxHeartbeats 8000000 in
set_option maxRecDepth 100000 in
theorem blazonlaw01_NumShorts.calls (k : Nat) (a0 : Int) (A1 : Option Addr) (c1 : Nat) (l1 : List Int) (r : Bool) (c : Nat → Nat) (w : World) (hc : ∀ k, c k < 10) (HP1 : Ft c [0] w (fun w_ => (Kd.int .u8).C w_ A1 l1.length l1)) (HCP1 : l1.length ≤ c1) (H : blazonlaw01_NumShorts.f k a0 l1 = some r) :
    Calls Try.prog 5 #[.int .u64 a0, .slice A1 l1.length c1] w fun e w' => ∃ (c' : Nat → Nat) , e = .returned (.bool r) ∧ Step c w c' w' [] := by
 unfold blazonlaw01_NumShorts.f at H
 have HS := Step.refl c w []
 go_enter Try.func5, Try.ntmps5
 refine wp_seq_k fun K121 hK121 => ?_
 refine wl_region ?_
 refine st (.bool false) rfl rfl (xr_assign _ rfl rfl) ?_
 refine wl_end ?_
 (try simp only [ls0, ls1])
 refine hK121 _ _ ?_
 (try clear hK121 K121)
 refine wp_seq_k fun K122 hK122 => ?_
 refine wp_seq_k fun K123 hK123 => ?_
 refine wl_region ?_
 refine mv_ rfl ?_
 refine st (.int .i64 (l1.length : Int)) rfl rfl (xr_builtin #[.slice A1 l1.length c1] (.int .i64 (l1.length : Int)) rfl (mp_ rfl) (by first | rfl | (go_simp; done) | (go_simp; rfl) | (go_simp; exact i64_w _) | (go_simp; exact i32_w _))) ?_
 refine st (.bool (decide ((l1.length : Int) > 2000))) rfl rfl (xr_bin _ _ _ rfl rfl rfl (B.gtr_i64 _ _)) ?_
 refine wl_end ?_
 (try simp only [ls0, ls1])
 refine hK123 _ _ ?_
 (try clear hK123 K123)
 by_cases c124 : (l1.length : Int) > 2000
 ·rw [if_pos c124] at H
  (try rw [(decide_eq_true c124)])
  refine wp_cond_true rfl ?_
  refine wp_seq_k fun K125 hK125 => ?_
  refine wl_region ?_
  obtain ⟨t126, A127, H⟩ := bnd H
  refine st_call #[] rfl rfl Try.func18 (by kernel_rfl) rfl rfl (mp_ rfl) ?_
  refine (blazonlaw01_awake.calls k t126  (fun z_ => pal [(0, 0)] (c z_)) w (fun _ => pal_lt rfl _) A127).mono ?_
  rintro _ w129 ⟨C130, rfl, hs131⟩
  refine ⟨_, rfl, ?_⟩
  replace hs131 := Step.lift (U := [(0, 0)]) hs131 [] rfl rfl
  generalize up c C130 w.heap.size [(0, 0)] = C130_ at hs131
  replace HS := HS.trans hs131 hc rfl
  (try simp only [ls0, ls1])
  refine as_ rfl ?_
  refine wl_end ?_
  (try simp only [ls0, ls1])
  refine hK125 _ _ ?_
  (try clear hK125 K125)
  refine wp_ret ?_
  (try simp only [Exit.inBlock, Exit.then, Exit.noGoto])
  (try simp only [ls0, ls1])
  obtain rfl := Option.some.inj H
  refine bodyPost_ret (results_tmp rfl _ _ _) rfl ?_
  exact ⟨_, rfl, HS⟩
 rw [if_neg c124] at H
 (try rw [(decide_eq_false c124)])
 refine wp_cond_false rfl ?_
 refine wp_skip ?_
 (try simp only [ls0, ls1])
 refine hK122 _ _ ?_
 (try clear hK122 K122)
 refine wp_seq_k fun K132 hK132 => ?_
 refine wl_region ?_
 refine mv_ rfl ?_
 obtain ⟨t133, A134, H⟩ := bnd H
 refine st_call #[.slice A1 l1.length c1] rfl rfl Try.func23 (by kernel_rfl) rfl rfl (mp_ rfl) ?_
 refine (blazonref01_Lent.calls A1 c1 l1 t133  (fun z_ => pal [(0, 0)] (c z_)) w (fun _ => pal_lt rfl _) (Ft.arg HP1 rfl) HCP1 A134).mono ?_
 rintro _ w136 ⟨C137, A139, cp140, rfl, hs138, HO141, HC142, HT143, HTC144⟩
 refine ⟨_, rfl, ?_⟩
 replace HO141 := Ft.res (U := [(0, 0)]) HO141 hs138 [0] rfl rfl rfl
 replace HT143 := Ft.res (U := [(0, 0)]) HT143 hs138 [0] rfl rfl rfl
 replace hs138 := Step.lift (U := [(0, 0)]) hs138 [] rfl rfl
 generalize up c C137 w.heap.size [(0, 0)] = C137_ at HO141 HT143 hs138
 replace HP1 := HP1.thru hs138 rfl
 replace HS := HS.trans hs138 hc rfl
 (try simp only [ls0, ls1])
 refine as_ rfl ?_
 refine wl_end ?_
 (try simp only [ls0, ls1])
 refine hK132 _ _ ?_
 (try clear hK132 K132)
 refine wp_seq_k fun K145 hK145 => ?_
 refine wl_region ?_
 refine mv_ rfl ?_
 obtain ⟨⟨t146, t147, t148⟩, A149, H⟩ := bnd H
 (try dsimp only at H)
 refine st_call #[.slice A139 t133.length cp140] rfl rfl Try.func24 (by kernel_rfl) rfl rfl (mp_ rfl) ?_
 refine (num_Get.calls k A139 cp140 t133 t146 t147 t148  (fun z_ => pal [(0, 0)] (C137_ z_)) w136 (fun _ => pal_lt rfl _) (Ft.arg HO141 rfl) HC142 A149).mono ?_
 rintro _ w151 ⟨C152, rfl, hs153⟩
 refine ⟨_, rfl, ?_⟩
 replace hs153 := Step.lift (U := [(0, 0)]) hs153 [] rfl rfl
 generalize up C137_ C152 w136.heap.size [(0, 0)] = C152_ at hs153
 replace HP1 := HP1.thru hs153 rfl
 replace HO141 := HO141.thru hs153 rfl
 replace HT143 := HT143.thru hs153 rfl
 replace HS := HS.trans hs153 hc rfl
 (try simp only [ls0, ls1])
 refine mv_ rfl ?_
 refine st (.int .u64 t146) rfl rfl (xr_extract (.tuple #[.int .u64 t146, .int .i64 t147, .int .i64 t148]) _ rfl rfl rfl) ?_
 refine st (.int .i64 t147) rfl rfl (xr_extract (.tuple #[.int .u64 t146, .int .i64 t147, .int .i64 t148]) _ rfl rfl rfl) ?_
 refine st (.int .i64 t148) rfl rfl (xr_extract (.tuple #[.int .u64 t146, .int .i64 t147, .int .i64 t148]) _ rfl rfl rfl) ?_
 simp only [ls0, ls1]
 refine as_ rfl ?_
 refine as_ rfl ?_
 refine as_ rfl ?_
 refine wl_end ?_
 (try simp only [ls0, ls1])
 refine hK145 _ _ ?_
 (try clear hK145 K145)
 refine wp_seq_k fun K154 hK154 => ?_
 refine wl_region ?_
 refine mv_ rfl ?_
 obtain ⟨⟨t155, t156, t157⟩, A158, H⟩ := bnd H
 (try dsimp only at H)
 refine st_call #[.slice A1 l1.length c1] rfl rfl Try.func25 (by kernel_rfl) rfl rfl (mp_ rfl) ?_
 refine (blazonref01_GetShort.calls k A1 c1 l1 t155 t156 t157  (fun z_ => pal [(0, 0)] (C152_ z_)) w151 (fun _ => pal_lt rfl _) (Ft.arg HP1 rfl) HCP1 A158).mono ?_
 rintro _ w160 ⟨C161, rfl, hs162⟩
 refine ⟨_, rfl, ?_⟩
 replace hs162 := Step.lift (U := [(0, 0)]) hs162 [] rfl rfl
 generalize up C152_ C161 w151.heap.size [(0, 0)] = C161_ at hs162
 replace HP1 := HP1.thru hs162 rfl
 replace HO141 := HO141.thru hs162 rfl
 replace HT143 := HT143.thru hs162 rfl
 replace HS := HS.trans hs162 hc rfl
 (try simp only [ls0, ls1])
 refine mv_ rfl ?_
 refine st (.int .u64 t155) rfl rfl (xr_extract (.tuple #[.int .u64 t155, .int .i64 t156, .int .i64 t157]) _ rfl rfl rfl) ?_
 refine st (.int .i64 t156) rfl rfl (xr_extract (.tuple #[.int .u64 t155, .int .i64 t156, .int .i64 t157]) _ rfl rfl rfl) ?_
 refine st (.int .i64 t157) rfl rfl (xr_extract (.tuple #[.int .u64 t155, .int .i64 t156, .int .i64 t157]) _ rfl rfl rfl) ?_
 simp only [ls0, ls1]
 refine as_ rfl ?_
 refine as_ rfl ?_
 refine as_ rfl ?_
 refine wl_end ?_
 (try simp only [ls0, ls1])
 refine hK154 _ _ ?_
 (try clear hK154 K154)
 refine wp_seq_k fun K163 hK163 => ?_
 refine wl_region ?_
 refine mv_ rfl ?_
 refine mv_ rfl ?_
 refine st (.int .i64 (l1.length : Int)) rfl rfl (xr_builtin #[.slice A1 l1.length c1] (.int .i64 (l1.length : Int)) rfl (mp_ rfl) (by first | rfl | (go_simp; done) | (go_simp; rfl) | (go_simp; exact i64_w _) | (go_simp; exact i32_w _))) ?_
 refine mv_ rfl ?_
 simp only [ls0, ls1]
 refine st (.int .i64 (l1.length : Int)) rfl rfl (xr_builtin #[.slice A1 l1.length c1] (.int .i64 (l1.length : Int)) rfl (mp_ rfl) (by first | rfl | (go_simp; done) | (go_simp; rfl) | (go_simp; exact i64_w _) | (go_simp; exact i32_w _))) ?_
 obtain ⟨c164, H⟩ := if_some H
 obtain ⟨c165, H⟩ := if_some H
 obtain ⟨y166, A167, H⟩ := bnd H
 obtain ⟨iz170, hiz170, _, hzz170, _⟩ := info_parts info5
 obtain ⟨hr169, HR168⟩ := cutFull (t := 23) (Kd.int .u8) 5 .i64 .i64 Try.underlying23 hiz170 HO141 HC142 (by first | assumption | omega | decide) (by first | assumption | omega | decide) (Option.some.inj A167)
 refine st (.slice A139 y166.length y166.length) rfl rfl (xr_slice (.slice A139 t133.length cp140) none (some (.int .i64 (l1.length : Int))) (some (.int .i64 (l1.length : Int))) (.slice A139 y166.length y166.length) rfl rfl rfl rfl rfl (hr169 _)) ?_
 clear hr169 hiz170 hzz170
 refine mv_ rfl ?_
 obtain ⟨t171, A172, H⟩ := bnd H
 refine st_call #[.slice A139 y166.length y166.length, .int .u64 a0] rfl rfl Try.func16 (by kernel_rfl) rfl rfl (mp_ rfl) ?_
 refine (num_Put_full.calls k A139 y166 a0 t171  (fun z_ => pal [(0, 0)] (C161_ z_)) w160 (fun _ => pal_lt rfl _) (Ft.arg HR168 rfl) A172).mono ?_
 rintro _ w174 ⟨C175, A177, cp178, rfl, hs176, HO179, HC180⟩
 refine ⟨_, rfl, ?_⟩
 replace HO179 := Ft.res (U := [(0, 0)]) HO179 hs176 [0] rfl rfl rfl
 replace hs176 := Step.lift (U := [(0, 0)]) hs176 [] rfl rfl
 generalize up C161_ C175 w160.heap.size [(0, 0)] = C175_ at HO179 hs176
 replace HP1 := HP1.thru hs176 rfl
 replace HO141 := HO141.thru hs176 rfl
 replace HT143 := HT143.thru hs176 rfl
 replace HS := HS.trans hs176 hc rfl
 (try simp only [ls0, ls1])
 refine as_ rfl ?_
 refine wl_end ?_
 (try simp only [ls0, ls1])
 refine hK163 _ _ ?_
 (try clear hK163 K163)
 refine wp_seq_k fun K181 hK181 => ?_
 (try simp only [ls0, ls1])
 refine al_start (lb 46 0) rfl rfl rfl (fun w_ => True) trivial [] ?_
 replace HP1 := HP1.drew
 replace HO141 := HO141.drew
 replace HT143 := HT143.drew
 replace HO179 := HO179.drew
 replace HS := Step.ofDrew HS
 generalize w174.drew = w182 at *
 refine al_mv 0 (lb 46 1) rfl rfl (by kernel_rfl) (fun _ _ _ => id) rfl ?_
 refine al_mv 1 (lb 46 3) rfl rfl (by kernel_rfl) (fun _ _ _ => id) rfl ?_
 refine al_pure 2 41 (.bool (decide (t146 = t155))) (lb 46 7) rfl rfl (by kernel_rfl) (fun _ _ _ => id) rfl (fun w_ => xr_bin _ _ _ rfl rfl rfl (B.eql_u64 _ _)) ?_
 refine al_mv 3 (lb 46 15) rfl rfl (by kernel_rfl) (fun _ _ _ => id) rfl ?_
 simp only [ls0, ls1]
 by_cases c183 : t146 = t155
 ·rw [if_pos c183] at H
  (try rw [(decide_eq_true c183)])
  refine al_mv 4 (lb 46 31) rfl rfl (by kernel_rfl) (fun _ _ _ => id) (guard_on 3 true 42 rfl rfl rfl) ?_
  refine al_mv 5 (lb 46 63) rfl rfl (by kernel_rfl) (fun _ _ _ => id) (guard_on 3 true 42 rfl rfl rfl) ?_
  refine al_pure 6 45 (.bool (decide (t147 = t156))) (lb 46 127) rfl rfl (by kernel_rfl) (fun _ _ _ => id) (guard_on 3 true 42 rfl rfl rfl) (fun w_ => xr_bin _ _ _ rfl rfl rfl (B.eql_i64 _ _)) ?_
  refine al_pure 7 46 (.bool (decide (t147 = t156))) (lb 46 255) rfl rfl (by kernel_rfl) (fun _ _ _ => id) rfl (fun w_ => xr_pick true _ rfl rfl rfl) ?_
  simp only [ls0, ls1]
  refine al_mv 8 (lb 46 511) rfl rfl (by kernel_rfl) (fun _ _ _ => id) rfl ?_
  by_cases c184 : t147 = t156
  ·rw [if_pos c184] at H
   (try rw [(decide_eq_true c184)])
   refine al_mv 9 (lb 46 1023) rfl rfl (by kernel_rfl) (fun _ _ _ => id) (guard_on 8 true 47 rfl rfl rfl) ?_
   refine al_mv 10 (lb 46 2047) rfl rfl (by kernel_rfl) (fun _ _ _ => id) (guard_on 8 true 47 rfl rfl rfl) ?_
   refine al_pure 11 50 (.bool (decide (t148 = t157))) (lb 46 4095) rfl rfl (by kernel_rfl) (fun _ _ _ => id) (guard_on 8 true 47 rfl rfl rfl) (fun w_ => xr_bin _ _ _ rfl rfl rfl (B.eql_i64 _ _)) ?_
   simp only [ls0, ls1]
   refine al_pure 12 51 (.bool (decide (t148 = t157))) (lb 46 8191) rfl rfl (by kernel_rfl) (fun _ _ _ => id) rfl (fun w_ => xr_pick true _ rfl rfl rfl) ?_
   refine al_mv 13 (lb 46 16383) rfl rfl (by kernel_rfl) (fun _ _ _ => id) rfl ?_
   by_cases c185 : t148 = t157
   ·rw [if_pos c185] at H
    (try rw [(decide_eq_true c185)])
    refine al_mv 14 (lb 46 32767) rfl rfl (by kernel_rfl) (fun _ _ _ => id) (guard_on 13 true 52 rfl rfl rfl) ?_
    refine al_mv 15 (lb 46 65535) rfl rfl (by kernel_rfl) (fun _ _ _ => id) (guard_on 13 true 52 rfl rfl rfl) ?_
    simp only [ls0, ls1]
    obtain ⟨t186, A187, H⟩ := bnd H
    refine al_one 16 (lb 46 131071) rfl rfl (by kernel_rfl) rfl (fun K_ hK_ => ?_)
    refine goes_ Try.func26 (by kernel_rfl) rfl #[.slice A139 t133.length cp140, .slice A1 l1.length c1] (guard_on 13 true 52 rfl rfl rfl) rfl rfl (mpe_ rfl) ?_
    refine (blazonref01_Kept.calls k A139 cp140 t133 A1 c1 l1 t186  (fun z_ => pal [(0, 0)] (C175_ z_)) w182 (fun _ => pal_lt rfl _) (Ft.arg HO141 rfl) HC142 (Ft.arg HT143 rfl) HTC144 (Ft.arg HP1 rfl) HCP1 A187).mono ?_
    rintro _ w189 ⟨C190, rfl, hs191⟩
    refine ⟨_, rfl, ?_⟩
    replace hs191 := Step.lift (U := [(0, 0)]) hs191 [] rfl rfl
    generalize up C175_ C190 w182.heap.size [(0, 0)] = C190_ at hs191
    replace HP1 := HP1.thru hs191 rfl
    replace HT143 := HT143.thru hs191 rfl
    replace HO179 := HO179.thru hs191 rfl
    replace HS := HS.trans hs191 hc rfl
    refine hK_ _ _ trivial ?_
    clear hK_ K_
    (try simp only [Act.put, List.setIfInBounds_toArray, ls0, ls1])
    refine al_pure 17 56 (.bool t186) (lb 46 262143) rfl rfl (by kernel_rfl) (fun _ _ _ => id) rfl (fun w_ => xr_pick true _ rfl rfl rfl) ?_
    refine al_mv 18 (lb 46 524287) rfl rfl (by kernel_rfl) (fun _ _ _ => id) rfl ?_
    by_cases c192 : t186 = true
    ·rw [if_pos c192] at H
     (try rw [c192])
     refine al_mv 19 (lb 46 1048575) rfl rfl (by kernel_rfl) (fun _ _ _ => id) (guard_on 18 true 57 rfl rfl rfl) ?_
     refine al_pure 20 59 (.int .i64 (t171.length : Int)) (lb 46 2097151) rfl rfl (by kernel_rfl) (fun _ _ _ => id) (guard_on 18 true 57 rfl rfl rfl) (fun w_ => xr_builtin #[.slice A177 t171.length cp178] (.int .i64 (t171.length : Int)) rfl (mp_ rfl) (by first | rfl | (go_simp; done) | (go_simp; rfl) | (go_simp; exact i64_w _) | (go_simp; exact i32_w _))) ?_
     simp only [ls0, ls1]
     refine al_mv 21 (lb 46 4194303) rfl rfl (by kernel_rfl) (fun _ _ _ => id) (guard_on 18 true 57 rfl rfl rfl) ?_
     refine al_pure 22 61 (.int .i64 (l1.length : Int)) (lb 46 8388607) rfl rfl (by kernel_rfl) (fun _ _ _ => id) (guard_on 18 true 57 rfl rfl rfl) (fun w_ => xr_builtin #[.slice A1 l1.length c1] (.int .i64 (l1.length : Int)) rfl (mp_ rfl) (by first | rfl | (go_simp; done) | (go_simp; rfl) | (go_simp; exact i64_w _) | (go_simp; exact i32_w _))) ?_
     refine al_pure 23 62 (.bool (decide ((t171.length : Int) ≥ (l1.length : Int)))) (lb 46 16777215) rfl rfl (by kernel_rfl) (fun _ _ _ => id) (guard_on 18 true 57 rfl rfl rfl) (fun w_ => xr_bin _ _ _ rfl rfl rfl (B.geq_i64 _ _)) ?_
     refine al_pure 24 63 (.bool (decide ((t171.length : Int) ≥ (l1.length : Int)))) (lb 46 33554431) rfl rfl (by kernel_rfl) (fun _ _ _ => id) rfl (fun w_ => xr_pick true _ rfl rfl rfl) ?_
     simp only [ls0, ls1]
     refine al_mv 25 (lb 46 67108863) rfl rfl (by kernel_rfl) (fun _ _ _ => id) rfl ?_
     by_cases c193 : (t171.length : Int) ≥ (l1.length : Int)
     ·rw [if_pos c193] at H
      (try rw [(decide_eq_true c193)])
      refine al_mv 26 (lb 46 134217727) rfl rfl (by kernel_rfl) (fun _ _ _ => id) (guard_on 25 true 64 rfl rfl rfl) ?_
      refine al_mv 27 (lb 46 268435455) rfl rfl (by kernel_rfl) (fun _ _ _ => id) (guard_on 25 true 64 rfl rfl rfl) ?_
      refine al_pure 28 67 (.int .i64 (l1.length : Int)) (lb 46 536870911) rfl rfl (by kernel_rfl) (fun _ _ _ => id) (guard_on 25 true 64 rfl rfl rfl) (fun w_ => xr_builtin #[.slice A1 l1.length c1] (.int .i64 (l1.length : Int)) rfl (mp_ rfl) (by first | rfl | (go_simp; done) | (go_simp; rfl) | (go_simp; exact i64_w _) | (go_simp; exact i32_w _))) ?_
      simp only [ls0, ls1]
      obtain ⟨c194, H⟩ := if_some H
      obtain ⟨y195, A196, H⟩ := bnd H
      obtain ⟨iz202, hiz202, _, hzz202, _⟩ := info_parts info5
      obtain ⟨hr201, HR199, HC200⟩ := cutTo (t := 23) (Kd.int .u8) 5 .i64 Try.underlying23 hiz202 HO179 HC180 (by first | assumption | omega | decide) (by first | assumption | omega | decide) (Option.some.inj A196)
      refine al_pure 29 68 (.slice A177 y195.length cp178) (lb 46 1073741823) rfl rfl (by kernel_rfl) (fun _ _ _ => id) (guard_on 25 true 64 rfl rfl rfl) (fun w_ => xr_slice (.slice A177 t171.length cp178) none (some (.int .i64 (l1.length : Int))) none (.slice A177 y195.length cp178) rfl rfl rfl rfl rfl (hr201 _)) ?_
      clear hr201 hiz202 hzz202
      refine al_mv 30 (lb 46 2147483647) rfl rfl (by kernel_rfl) (fun _ _ _ => id) (guard_on 25 true 64 rfl rfl rfl) ?_
      obtain ⟨t203, A204, H⟩ := bnd H
      refine al_one 31 (lb 46 4294967295) rfl rfl (by kernel_rfl) rfl (fun K_ hK_ => ?_)
      refine goes_ Try.func17 (by kernel_rfl) rfl #[.slice A177 y195.length cp178, .slice A1 l1.length c1] (guard_on 25 true 64 rfl rfl rfl) rfl rfl (mpe_ rfl) ?_
      refine (blazonref01_Same.calls k A177 cp178 y195 A1 c1 l1 t203  (fun z_ => pal [(0, 0)] (C190_ z_)) w189 (fun _ => pal_lt rfl _) (Ft.arg HR199 rfl) HC200 (Ft.arg HP1 rfl) HCP1 A204).mono ?_
      rintro _ w206 ⟨C207, rfl, hs208⟩
      refine ⟨_, rfl, ?_⟩
      replace hs208 := Step.lift (U := [(0, 0)]) hs208 [] rfl rfl
      generalize up C190_ C207 w189.heap.size [(0, 0)] = C207_ at hs208
      replace HP1 := HP1.thru hs208 rfl
      replace HT143 := HT143.thru hs208 rfl
      replace HO179 := HO179.thru hs208 rfl
      replace HS := HS.trans hs208 hc rfl
      refine hK_ _ _ trivial ?_
      clear hK_ K_
      (try simp only [Act.put, List.setIfInBounds_toArray, ls0, ls1])
      refine al_pure 32 71 (.bool t203) (lb 46 8589934591) rfl rfl (by kernel_rfl) (fun _ _ _ => id) rfl (fun w_ => xr_pick true _ rfl rfl rfl) ?_
      refine al_mv 33 (lb 46 17179869183) rfl rfl (by kernel_rfl) (fun _ _ _ => id) rfl ?_
      by_cases c209 : t203 = true
      ·rw [if_pos c209] at H
       (try rw [c209])
       refine al_mv 34 (lb 46 34359738367) rfl rfl (by kernel_rfl) (fun _ _ _ => id) (guard_on 33 true 72 rfl rfl rfl) ?_
       refine al_mv 35 (lb 46 68719476735) rfl rfl (by kernel_rfl) (fun _ _ _ => id) (guard_on 33 true 72 rfl rfl rfl) ?_
       simp only [ls0, ls1]
       refine al_pure 36 75 (.int .i64 (l1.length : Int)) (lb 46 137438953471) rfl rfl (by kernel_rfl) (fun _ _ _ => id) (guard_on 33 true 72 rfl rfl rfl) (fun w_ => xr_builtin #[.slice A1 l1.length c1] (.int .i64 (l1.length : Int)) rfl (mp_ rfl) (by first | rfl | (go_simp; done) | (go_simp; rfl) | (go_simp; exact i64_w _) | (go_simp; exact i32_w _))) ?_
       obtain ⟨y210, A211, H⟩ := bnd H
       obtain ⟨iz217, hiz217, _, hzz217, _⟩ := info_parts info5
       obtain ⟨A212, cp213, hr216, HR214, HC215⟩ := cutFrom (t := 23) (Kd.int .u8) 5 .i64 Try.underlying23 hiz217 hzz217 HO179 HC180 (by first | assumption | omega | decide) (by first | assumption | omega | decide) (Option.some.inj A211)
       refine al_pure 37 76 (.slice A212 y210.length cp213) (lb 46 274877906943) rfl rfl (by kernel_rfl) (fun _ _ _ => id) (guard_on 33 true 72 rfl rfl rfl) (fun w_ => xr_slice (.slice A177 t171.length cp178) (some (.int .i64 (l1.length : Int))) none none (.slice A212 y210.length cp213) rfl rfl rfl rfl rfl (hr216 _)) ?_
       clear hr216 hiz217 hzz217
       refine al_mv 38 (lb 46 549755813887) rfl rfl (by kernel_rfl) (fun _ _ _ => id) (guard_on 33 true 72 rfl rfl rfl) ?_
       obtain ⟨t218, A219, H⟩ := bnd H
       refine al_one 39 (lb 46 1099511627775) rfl rfl (by kernel_rfl) rfl (fun K_ hK_ => ?_)
       refine goes_ Try.func27 (by kernel_rfl) rfl #[.int .u64 a0] (guard_on 33 true 72 rfl rfl rfl) rfl rfl (mpe_ rfl) ?_
       refine (blazonref01_Short.calls k a0 t218  (fun z_ => pal [(0, 0)] (C207_ z_)) w206 (fun _ => pal_lt rfl _) A219).mono ?_
       rintro _ w221 ⟨C222, A224, cp225, rfl, hs223, HO226, HC227⟩
       refine ⟨_, rfl, ?_⟩
       replace HO226 := Own.res (U := [(0, 0), (5, 12)]) (j := 12) HO226 hs223 (by rfl) (by decide) rfl rfl
       replace hs223 := Step.lift (U := [(0, 0), (5, 12)]) hs223 [] rfl rfl
       generalize up C207_ C222 w206.heap.size [(0, 0), (5, 12)] = C222_ at HO226 hs223
       replace HT143 := HT143.thru hs223 rfl
       replace HR214 := HR214.thru hs223 rfl
       replace HS := HS.trans hs223 hc rfl
       refine hK_ _ _ trivial ?_
       clear hK_ K_
       (try simp only [Act.put, List.setIfInBounds_toArray, ls0, ls1])
       obtain ⟨t228, A229, H⟩ := bnd H
       refine al_one 40 (lb 46 2199023255551) rfl rfl (by kernel_rfl) rfl (fun K_ hK_ => ?_)
       refine goes_ Try.func17 (by kernel_rfl) rfl #[.slice A212 y210.length cp213, .slice A224 t218.length cp225] (guard_on 33 true 72 rfl rfl rfl) rfl rfl (mpe_ rfl) ?_
       refine (blazonref01_Same.calls k A212 cp213 y210 A224 cp225 t218 t228  (fun z_ => pal [(0, 0), (12, 0)] (C222_ z_)) w221 (fun _ => pal_lt rfl _) (Ft.arg HR214 rfl) HC215 (Ft.arg (HO226.ft) rfl) HC227 A229).mono ?_
       rintro _ w231 ⟨C232, rfl, hs233⟩
       refine ⟨_, rfl, ?_⟩
       replace hs233 := Step.lift (U := [(0, 0)]) hs233 [] rfl rfl
       generalize up C222_ C232 w221.heap.size [(0, 0)] = C232_ at hs233
       replace HT143 := HT143.thru hs233 rfl
       replace HS := HS.trans hs233 hc rfl
       refine hK_ _ _ trivial ?_
       clear hK_ K_
       (try simp only [Act.put, List.setIfInBounds_toArray, ls0, ls1])
       refine al_pure 41 80 (.bool t228) (lb 46 4398046511103) rfl rfl (by kernel_rfl) (fun _ _ _ => id) rfl (fun w_ => xr_pick true _ rfl rfl rfl) ?_
       refine al_mv 42 (lb 46 8796093022207) rfl rfl (by kernel_rfl) (fun _ _ _ => id) rfl ?_
       by_cases c234 : t228 = true
       ·rw [if_pos c234] at H
        (try rw [c234])
        obtain ⟨t235, A236, H⟩ := bnd H
        refine al_one 43 (lb 46 17592186044415) rfl rfl (by kernel_rfl) rfl (fun K_ hK_ => ?_)
        refine goes_ Try.func18 (by kernel_rfl) rfl #[] (guard_on 42 true 81 rfl rfl rfl) rfl rfl (mpe_ rfl) ?_
        refine (blazonlaw01_awake.calls k t235  (fun z_ => pal [(0, 0)] (C232_ z_)) w231 (fun _ => pal_lt rfl _) A236).mono ?_
        rintro _ w238 ⟨C239, rfl, hs240⟩
        refine ⟨_, rfl, ?_⟩
        replace hs240 := Step.lift (U := [(0, 0)]) hs240 [] rfl rfl
        generalize up C232_ C239 w231.heap.size [(0, 0)] = C239_ at hs240
        replace HT143 := HT143.thru hs240 rfl
        replace HS := HS.trans hs240 hc rfl
        refine hK_ _ _ trivial ?_
        clear hK_ K_
        (try simp only [Act.put, List.setIfInBounds_toArray, ls0, ls1])
        refine al_pure 44 83 (.bool t235) (lb 46 35184372088831) rfl rfl (by kernel_rfl) (fun _ _ _ => id) rfl (fun w_ => xr_pick true _ rfl rfl rfl) ?_
        refine al_as 45 (lb 46 70368744177663) rfl rfl (by kernel_rfl) (fun _ _ _ => id) rfl ?_
        refine al_end (by kernel_rfl) ?_
        (try simp only [ls0, ls1])
        refine hK181 _ _ ?_
        (try clear hK181 K181)
        refine wp_ret ?_
        (try simp only [Exit.inBlock, Exit.then, Exit.noGoto])
        (try simp only [ls0, ls1])
        obtain rfl := Option.some.inj H
        refine bodyPost_ret (results_tmp rfl _ _ _) rfl ?_
        exact ⟨_, rfl, HS⟩
       rw [if_neg c234] at H
       (try rw [(Bool.eq_false_iff.mpr c234)])
       refine al_off 43 82 (lb 46 17592186044415) rfl rfl (by kernel_rfl) (fun _ _ _ => id) (guard_off 42 true 81 rfl rfl false (by decide) rfl) ?_
       refine al_pure 44 83 (.bool false) (lb 46 35184372088831) rfl rfl (by kernel_rfl) (fun _ _ _ => id) rfl (fun w_ => xr_pick false _ rfl rfl rfl) ?_
       refine al_as 45 (lb 46 70368744177663) rfl rfl (by kernel_rfl) (fun _ _ _ => id) rfl ?_
       refine al_end (by kernel_rfl) ?_
       (try simp only [ls0, ls1])
       refine hK181 _ _ ?_
       (try clear hK181 K181)
       refine wp_ret ?_
       (try simp only [Exit.inBlock, Exit.then, Exit.noGoto])
       (try simp only [ls0, ls1])
       obtain rfl := Option.some.inj H
       refine bodyPost_ret (results_tmp rfl _ _ _) rfl ?_
       exact ⟨_, rfl, HS⟩
      rw [if_neg c209] at H
      (try rw [(Bool.eq_false_iff.mpr c209)])
      refine al_off 34 73 (lb 46 34359738367) rfl rfl (by kernel_rfl) (fun _ _ _ => id) (guard_off 33 true 72 rfl rfl false (by decide) rfl) ?_
      refine al_off 35 74 (lb 46 68719476735) rfl rfl (by kernel_rfl) (fun _ _ _ => id) (guard_off 33 true 72 rfl rfl false (by decide) rfl) ?_
      refine al_off 36 75 (lb 46 137438953471) rfl rfl (by kernel_rfl) (fun _ _ _ => id) (guard_off 33 true 72 rfl rfl false (by decide) rfl) ?_
      refine al_off 37 76 (lb 46 274877906943) rfl rfl (by kernel_rfl) (fun _ _ _ => id) (guard_off 33 true 72 rfl rfl false (by decide) rfl) ?_
      simp only [ls0, ls1]
      refine al_off 38 77 (lb 46 549755813887) rfl rfl (by kernel_rfl) (fun _ _ _ => id) (guard_off 33 true 72 rfl rfl false (by decide) rfl) ?_
      refine al_off 39 78 (lb 46 1099511627775) rfl rfl (by kernel_rfl) (fun _ _ _ => id) (guard_off 33 true 72 rfl rfl false (by decide) rfl) ?_
      refine al_off 40 79 (lb 46 2199023255551) rfl rfl (by kernel_rfl) (fun _ _ _ => id) (guard_off 33 true 72 rfl rfl false (by decide) rfl) ?_
      refine al_pure 41 80 (.bool false) (lb 46 4398046511103) rfl rfl (by kernel_rfl) (fun _ _ _ => id) rfl (fun w_ => xr_pick false _ rfl rfl rfl) ?_
      simp only [ls0, ls1]
      refine al_mv 42 (lb 46 8796093022207) rfl rfl (by kernel_rfl) (fun _ _ _ => id) rfl ?_
      refine al_off 43 82 (lb 46 17592186044415) rfl rfl (by kernel_rfl) (fun _ _ _ => id) (guard_off 42 true 81 rfl rfl false (by decide) rfl) ?_
      refine al_pure 44 83 (.bool false) (lb 46 35184372088831) rfl rfl (by kernel_rfl) (fun _ _ _ => id) rfl (fun w_ => xr_pick false _ rfl rfl rfl) ?_
      refine al_as 45 (lb 46 70368744177663) rfl rfl (by kernel_rfl) (fun _ _ _ => id) rfl ?_
      simp only [ls0, ls1]
      refine al_end (by kernel_rfl) ?_
      (try simp only [ls0, ls1])
      refine hK181 _ _ ?_
      (try clear hK181 K181)
      refine wp_ret ?_
      (try simp only [Exit.inBlock, Exit.then, Exit.noGoto])
      (try simp only [ls0, ls1])
      obtain rfl := Option.some.inj H
      refine bodyPost_ret (results_tmp rfl _ _ _) rfl ?_
      exact ⟨_, rfl, HS⟩
     rw [if_neg c193] at H
     (try rw [(decide_eq_false c193)])
     refine al_off 26 65 (lb 46 134217727) rfl rfl (by kernel_rfl) (fun _ _ _ => id) (guard_off 25 true 64 rfl rfl false (by decide) rfl) ?_
     refine al_off 27 66 (lb 46 268435455) rfl rfl (by kernel_rfl) (fun _ _ _ => id) (guard_off 25 true 64 rfl rfl false (by decide) rfl) ?_
     refine al_off 28 67 (lb 46 536870911) rfl rfl (by kernel_rfl) (fun _ _ _ => id) (guard_off 25 true 64 rfl rfl false (by decide) rfl) ?_
     refine al_off 29 68 (lb 46 1073741823) rfl rfl (by kernel_rfl) (fun _ _ _ => id) (guard_off 25 true 64 rfl rfl false (by decide) rfl) ?_
     simp only [ls0, ls1]
     refine al_off 30 69 (lb 46 2147483647) rfl rfl (by kernel_rfl) (fun _ _ _ => id) (guard_off 25 true 64 rfl rfl false (by decide) rfl) ?_
     refine al_off 31 70 (lb 46 4294967295) rfl rfl (by kernel_rfl) (fun _ _ _ => id) (guard_off 25 true 64 rfl rfl false (by decide) rfl) ?_
     refine al_pure 32 71 (.bool false) (lb 46 8589934591) rfl rfl (by kernel_rfl) (fun _ _ _ => id) rfl (fun w_ => xr_pick false _ rfl rfl rfl) ?_
     refine al_mv 33 (lb 46 17179869183) rfl rfl (by kernel_rfl) (fun _ _ _ => id) rfl ?_
     simp only [ls0, ls1]
     refine al_off 34 73 (lb 46 34359738367) rfl rfl (by kernel_rfl) (fun _ _ _ => id) (guard_off 33 true 72 rfl rfl false (by decide) rfl) ?_
     refine al_off 35 74 (lb 46 68719476735) rfl rfl (by kernel_rfl) (fun _ _ _ => id) (guard_off 33 true 72 rfl rfl false (by decide) rfl) ?_
     refine al_off 36 75 (lb 46 137438953471) rfl rfl (by kernel_rfl) (fun _ _ _ => id) (guard_off 33 true 72 rfl rfl false (by decide) rfl) ?_
     refine al_off 37 76 (lb 46 274877906943) rfl rfl (by kernel_rfl) (fun _ _ _ => id) (guard_off 33 true 72 rfl rfl false (by decide) rfl) ?_
     simp only [ls0, ls1]
     refine al_off 38 77 (lb 46 549755813887) rfl rfl (by kernel_rfl) (fun _ _ _ => id) (guard_off 33 true 72 rfl rfl false (by decide) rfl) ?_
     refine al_off 39 78 (lb 46 1099511627775) rfl rfl (by kernel_rfl) (fun _ _ _ => id) (guard_off 33 true 72 rfl rfl false (by decide) rfl) ?_
     refine al_off 40 79 (lb 46 2199023255551) rfl rfl (by kernel_rfl) (fun _ _ _ => id) (guard_off 33 true 72 rfl rfl false (by decide) rfl) ?_
     refine al_pure 41 80 (.bool false) (lb 46 4398046511103) rfl rfl (by kernel_rfl) (fun _ _ _ => id) rfl (fun w_ => xr_pick false _ rfl rfl rfl) ?_
     simp only [ls0, ls1]
     refine al_mv 42 (lb 46 8796093022207) rfl rfl (by kernel_rfl) (fun _ _ _ => id) rfl ?_
     refine al_off 43 82 (lb 46 17592186044415) rfl rfl (by kernel_rfl) (fun _ _ _ => id) (guard_off 42 true 81 rfl rfl false (by decide) rfl) ?_
     refine al_pure 44 83 (.bool false) (lb 46 35184372088831) rfl rfl (by kernel_rfl) (fun _ _ _ => id) rfl (fun w_ => xr_pick false _ rfl rfl rfl) ?_
     refine al_as 45 (lb 46 70368744177663) rfl rfl (by kernel_rfl) (fun _ _ _ => id) rfl ?_
     simp only [ls0, ls1]
     refine al_end (by kernel_rfl) ?_
     (try simp only [ls0, ls1])
     refine hK181 _ _ ?_
     (try clear hK181 K181)
     refine wp_ret ?_
     (try simp only [Exit.inBlock, Exit.then, Exit.noGoto])
     (try simp only [ls0, ls1])
     obtain rfl := Option.some.inj H
     refine bodyPost_ret (results_tmp rfl _ _ _) rfl ?_
     exact ⟨_, rfl, HS⟩
    rw [if_neg c192] at H
    (try rw [(Bool.eq_false_iff.mpr c192)])
    refine al_off 19 58 (lb 46 1048575) rfl rfl (by kernel_rfl) (fun _ _ _ => id) (guard_off 18 true 57 rfl rfl false (by decide) rfl) ?_
    refine al_off 20 59 (lb 46 2097151) rfl rfl (by kernel_rfl) (fun _ _ _ => id) (guard_off 18 true 57 rfl rfl false (by decide) rfl) ?_
    refine al_off 21 60 (lb 46 4194303) rfl rfl (by kernel_rfl) (fun _ _ _ => id) (guard_off 18 true 57 rfl rfl false (by decide) rfl) ?_
    refine al_off 22 61 (lb 46 8388607) rfl rfl (by kernel_rfl) (fun _ _ _ => id) (guard_off 18 true 57 rfl rfl false (by decide) rfl) ?_
    simp only [ls0, ls1]
    refine al_off 23 62 (lb 46 16777215) rfl rfl (by kernel_rfl) (fun _ _ _ => id) (guard_off 18 true 57 rfl rfl false (by decide) rfl) ?_
    refine al_pure 24 63 (.bool false) (lb 46 33554431) rfl rfl (by kernel_rfl) (fun _ _ _ => id) rfl (fun w_ => xr_pick false _ rfl rfl rfl) ?_
    refine al_mv 25 (lb 46 67108863) rfl rfl (by kernel_rfl) (fun _ _ _ => id) rfl ?_
    refine al_off 26 65 (lb 46 134217727) rfl rfl (by kernel_rfl) (fun _ _ _ => id) (guard_off 25 true 64 rfl rfl false (by decide) rfl) ?_
    simp only [ls0, ls1]
    refine al_off 27 66 (lb 46 268435455) rfl rfl (by kernel_rfl) (fun _ _ _ => id) (guard_off 25 true 64 rfl rfl false (by decide) rfl) ?_
    refine al_off 28 67 (lb 46 536870911) rfl rfl (by kernel_rfl) (fun _ _ _ => id) (guard_off 25 true 64 rfl rfl false (by decide) rfl) ?_
    refine al_off 29 68 (lb 46 1073741823) rfl rfl (by kernel_rfl) (fun _ _ _ => id) (guard_off 25 true 64 rfl rfl false (by decide) rfl) ?_
    refine al_off 30 69 (lb 46 2147483647) rfl rfl (by kernel_rfl) (fun _ _ _ => id) (guard_off 25 true 64 rfl rfl false (by decide) rfl) ?_
    simp only [ls0, ls1]
    refine al_off 31 70 (lb 46 4294967295) rfl rfl (by kernel_rfl) (fun _ _ _ => id) (guard_off 25 true 64 rfl rfl false (by decide) rfl) ?_
    refine al_pure 32 71 (.bool false) (lb 46 8589934591) rfl rfl (by kernel_rfl) (fun _ _ _ => id) rfl (fun w_ => xr_pick false _ rfl rfl rfl) ?_
    refine al_mv 33 (lb 46 17179869183) rfl rfl (by kernel_rfl) (fun _ _ _ => id) rfl ?_
    refine al_off 34 73 (lb 46 34359738367) rfl rfl (by kernel_rfl) (fun _ _ _ => id) (guard_off 33 true 72 rfl rfl false (by decide) rfl) ?_
    simp only [ls0, ls1]
    refine al_off 35 74 (lb 46 68719476735) rfl rfl (by kernel_rfl) (fun _ _ _ => id) (guard_off 33 true 72 rfl rfl false (by decide) rfl) ?_
    refine al_off 36 75 (lb 46 137438953471) rfl rfl (by kernel_rfl) (fun _ _ _ => id) (guard_off 33 true 72 rfl rfl false (by decide) rfl) ?_
    refine al_off 37 76 (lb 46 274877906943) rfl rfl (by kernel_rfl) (fun _ _ _ => id) (guard_off 33 true 72 rfl rfl false (by decide) rfl) ?_
    refine al_off 38 77 (lb 46 549755813887) rfl rfl (by kernel_rfl) (fun _ _ _ => id) (guard_off 33 true 72 rfl rfl false (by decide) rfl) ?_
    simp only [ls0, ls1]
    refine al_off 39 78 (lb 46 1099511627775) rfl rfl (by kernel_rfl) (fun _ _ _ => id) (guard_off 33 true 72 rfl rfl false (by decide) rfl) ?_
    refine al_off 40 79 (lb 46 2199023255551) rfl rfl (by kernel_rfl) (fun _ _ _ => id) (guard_off 33 true 72 rfl rfl false (by decide) rfl) ?_
    refine al_pure 41 80 (.bool false) (lb 46 4398046511103) rfl rfl (by kernel_rfl) (fun _ _ _ => id) rfl (fun w_ => xr_pick false _ rfl rfl rfl) ?_
    refine al_mv 42 (lb 46 8796093022207) rfl rfl (by kernel_rfl) (fun _ _ _ => id) rfl ?_
    simp only [ls0, ls1]
    refine al_off 43 82 (lb 46 17592186044415) rfl rfl (by kernel_rfl) (fun _ _ _ => id) (guard_off 42 true 81 rfl rfl false (by decide) rfl) ?_
    refine al_pure 44 83 (.bool false) (lb 46 35184372088831) rfl rfl (by kernel_rfl) (fun _ _ _ => id) rfl (fun w_ => xr_pick false _ rfl rfl rfl) ?_
    refine al_as 45 (lb 46 70368744177663) rfl rfl (by kernel_rfl) (fun _ _ _ => id) rfl ?_
    refine al_end (by kernel_rfl) ?_
    (try simp only [ls0, ls1])
    refine hK181 _ _ ?_
    (try clear hK181 K181)
    refine wp_ret ?_
    (try simp only [Exit.inBlock, Exit.then, Exit.noGoto])
    (try simp only [ls0, ls1])
    obtain rfl := Option.some.inj H
    refine bodyPost_ret (results_tmp rfl _ _ _) rfl ?_
    exact ⟨_, rfl, HS⟩
   rw [if_neg c185] at H
   (try rw [(decide_eq_false c185)])
   refine al_off 14 53 (lb 46 32767) rfl rfl (by kernel_rfl) (fun _ _ _ => id) (guard_off 13 true 52 rfl rfl false (by decide) rfl) ?_
   refine al_off 15 54 (lb 46 65535) rfl rfl (by kernel_rfl) (fun _ _ _ => id) (guard_off 13 true 52 rfl rfl false (by decide) rfl) ?_
   refine al_off 16 55 (lb 46 131071) rfl rfl (by kernel_rfl) (fun _ _ _ => id) (guard_off 13 true 52 rfl rfl false (by decide) rfl) ?_
   refine al_pure 17 56 (.bool false) (lb 46 262143) rfl rfl (by kernel_rfl) (fun _ _ _ => id) rfl (fun w_ => xr_pick false _ rfl rfl rfl) ?_
   simp only [ls0, ls1]
   refine al_mv 18 (lb 46 524287) rfl rfl (by kernel_rfl) (fun _ _ _ => id) rfl ?_
   refine al_off 19 58 (lb 46 1048575) rfl rfl (by kernel_rfl) (fun _ _ _ => id) (guard_off 18 true 57 rfl rfl false (by decide) rfl) ?_
   refine al_off 20 59 (lb 46 2097151) rfl rfl (by kernel_rfl) (fun _ _ _ => id) (guard_off 18 true 57 rfl rfl false (by decide) rfl) ?_
   refine al_off 21 60 (lb 46 4194303) rfl rfl (by kernel_rfl) (fun _ _ _ => id) (guard_off 18 true 57 rfl rfl false (by decide) rfl) ?_
   simp only [ls0, ls1]
   refine al_off 22 61 (lb 46 8388607) rfl rfl (by kernel_rfl) (fun _ _ _ => id) (guard_off 18 true 57 rfl rfl false (by decide) rfl) ?_
   refine al_off 23 62 (lb 46 16777215) rfl rfl (by kernel_rfl) (fun _ _ _ => id) (guard_off 18 true 57 rfl rfl false (by decide) rfl) ?_
   refine al_pure 24 63 (.bool false) (lb 46 33554431) rfl rfl (by kernel_rfl) (fun _ _ _ => id) rfl (fun w_ => xr_pick false _ rfl rfl rfl) ?_
   refine al_mv 25 (lb 46 67108863) rfl rfl (by kernel_rfl) (fun _ _ _ => id) rfl ?_
   simp only [ls0, ls1]
   refine al_off 26 65 (lb 46 134217727) rfl rfl (by kernel_rfl) (fun _ _ _ => id) (guard_off 25 true 64 rfl rfl false (by decide) rfl) ?_
   refine al_off 27 66 (lb 46 268435455) rfl rfl (by kernel_rfl) (fun _ _ _ => id) (guard_off 25 true 64 rfl rfl false (by decide) rfl) ?_
   refine al_off 28 67 (lb 46 536870911) rfl rfl (by kernel_rfl) (fun _ _ _ => id) (guard_off 25 true 64 rfl rfl false (by decide) rfl) ?_
   refine al_off 29 68 (lb 46 1073741823) rfl rfl (by kernel_rfl) (fun _ _ _ => id) (guard_off 25 true 64 rfl rfl false (by decide) rfl) ?_
   simp only [ls0, ls1]
   refine al_off 30 69 (lb 46 2147483647) rfl rfl (by kernel_rfl) (fun _ _ _ => id) (guard_off 25 true 64 rfl rfl false (by decide) rfl) ?_
   refine al_off 31 70 (lb 46 4294967295) rfl rfl (by kernel_rfl) (fun _ _ _ => id) (guard_off 25 true 64 rfl rfl false (by decide) rfl) ?_
   refine al_pure 32 71 (.bool false) (lb 46 8589934591) rfl rfl (by kernel_rfl) (fun _ _ _ => id) rfl (fun w_ => xr_pick false _ rfl rfl rfl) ?_
   refine al_mv 33 (lb 46 17179869183) rfl rfl (by kernel_rfl) (fun _ _ _ => id) rfl ?_
   simp only [ls0, ls1]
   refine al_off 34 73 (lb 46 34359738367) rfl rfl (by kernel_rfl) (fun _ _ _ => id) (guard_off 33 true 72 rfl rfl false (by decide) rfl) ?_
   refine al_off 35 74 (lb 46 68719476735) rfl rfl (by kernel_rfl) (fun _ _ _ => id) (guard_off 33 true 72 rfl rfl false (by decide) rfl) ?_
   refine al_off 36 75 (lb 46 137438953471) rfl rfl (by kernel_rfl) (fun _ _ _ => id) (guard_off 33 true 72 rfl rfl false (by decide) rfl) ?_
   refine al_off 37 76 (lb 46 274877906943) rfl rfl (by kernel_rfl) (fun _ _ _ => id) (guard_off 33 true 72 rfl rfl false (by decide) rfl) ?_
   simp only [ls0, ls1]
   refine al_off 38 77 (lb 46 549755813887) rfl rfl (by kernel_rfl) (fun _ _ _ => id) (guard_off 33 true 72 rfl rfl false (by decide) rfl) ?_
   refine al_off 39 78 (lb 46 1099511627775) rfl rfl (by kernel_rfl) (fun _ _ _ => id) (guard_off 33 true 72 rfl rfl false (by decide) rfl) ?_
   refine al_off 40 79 (lb 46 2199023255551) rfl rfl (by kernel_rfl) (fun _ _ _ => id) (guard_off 33 true 72 rfl rfl false (by decide) rfl) ?_
   refine al_pure 41 80 (.bool false) (lb 46 4398046511103) rfl rfl (by kernel_rfl) (fun _ _ _ => id) rfl (fun w_ => xr_pick false _ rfl rfl rfl) ?_
   simp only [ls0, ls1]
   refine al_mv 42 (lb 46 8796093022207) rfl rfl (by kernel_rfl) (fun _ _ _ => id) rfl ?_
   refine al_off 43 82 (lb 46 17592186044415) rfl rfl (by kernel_rfl) (fun _ _ _ => id) (guard_off 42 true 81 rfl rfl false (by decide) rfl) ?_
   refine al_pure 44 83 (.bool false) (lb 46 35184372088831) rfl rfl (by kernel_rfl) (fun _ _ _ => id) rfl (fun w_ => xr_pick false _ rfl rfl rfl) ?_
   refine al_as 45 (lb 46 70368744177663) rfl rfl (by kernel_rfl) (fun _ _ _ => id) rfl ?_
   simp only [ls0, ls1]
   refine al_end (by kernel_rfl) ?_
   (try simp only [ls0, ls1])
   refine hK181 _ _ ?_
   (try clear hK181 K181)
   refine wp_ret ?_
   (try simp only [Exit.inBlock, Exit.then, Exit.noGoto])
   (try simp only [ls0, ls1])
   obtain rfl := Option.some.inj H
   refine bodyPost_ret (results_tmp rfl _ _ _) rfl ?_
   exact ⟨_, rfl, HS⟩
  rw [if_neg c184] at H
  (try rw [(decide_eq_false c184)])
  refine al_off 9 48 (lb 46 1023) rfl rfl (by kernel_rfl) (fun _ _ _ => id) (guard_off 8 true 47 rfl rfl false (by decide) rfl) ?_
  refine al_off 10 49 (lb 46 2047) rfl rfl (by kernel_rfl) (fun _ _ _ => id) (guard_off 8 true 47 rfl rfl false (by decide) rfl) ?_
  refine al_off 11 50 (lb 46 4095) rfl rfl (by kernel_rfl) (fun _ _ _ => id) (guard_off 8 true 47 rfl rfl false (by decide) rfl) ?_
  refine al_pure 12 51 (.bool false) (lb 46 8191) rfl rfl (by kernel_rfl) (fun _ _ _ => id) rfl (fun w_ => xr_pick false _ rfl rfl rfl) ?_
  simp only [ls0, ls1]
  refine al_mv 13 (lb 46 16383) rfl rfl (by kernel_rfl) (fun _ _ _ => id) rfl ?_
  refine al_off 14 53 (lb 46 32767) rfl rfl (by kernel_rfl) (fun _ _ _ => id) (guard_off 13 true 52 rfl rfl false (by decide) rfl) ?_
  refine al_off 15 54 (lb 46 65535) rfl rfl (by kernel_rfl) (fun _ _ _ => id) (guard_off 13 true 52 rfl rfl false (by decide) rfl) ?_
  refine al_off 16 55 (lb 46 131071) rfl rfl (by kernel_rfl) (fun _ _ _ => id) (guard_off 13 true 52 rfl rfl false (by decide) rfl) ?_
  simp only [ls0, ls1]
  refine al_pure 17 56 (.bool false) (lb 46 262143) rfl rfl (by kernel_rfl) (fun _ _ _ => id) rfl (fun w_ => xr_pick false _ rfl rfl rfl) ?_
  refine al_mv 18 (lb 46 524287) rfl rfl (by kernel_rfl) (fun _ _ _ => id) rfl ?_
  refine al_off 19 58 (lb 46 1048575) rfl rfl (by kernel_rfl) (fun _ _ _ => id) (guard_off 18 true 57 rfl rfl false (by decide) rfl) ?_
  refine al_off 20 59 (lb 46 2097151) rfl rfl (by kernel_rfl) (fun _ _ _ => id) (guard_off 18 true 57 rfl rfl false (by decide) rfl) ?_
  simp only [ls0, ls1]
  refine al_off 21 60 (lb 46 4194303) rfl rfl (by kernel_rfl) (fun _ _ _ => id) (guard_off 18 true 57 rfl rfl false (by decide) rfl) ?_
  refine al_off 22 61 (lb 46 8388607) rfl rfl (by kernel_rfl) (fun _ _ _ => id) (guard_off 18 true 57 rfl rfl false (by decide) rfl) ?_
  refine al_off 23 62 (lb 46 16777215) rfl rfl (by kernel_rfl) (fun _ _ _ => id) (guard_off 18 true 57 rfl rfl false (by decide) rfl) ?_
  refine al_pure 24 63 (.bool false) (lb 46 33554431) rfl rfl (by kernel_rfl) (fun _ _ _ => id) rfl (fun w_ => xr_pick false _ rfl rfl rfl) ?_
  simp only [ls0, ls1]
  refine al_mv 25 (lb 46 67108863) rfl rfl (by kernel_rfl) (fun _ _ _ => id) rfl ?_
  refine al_off 26 65 (lb 46 134217727) rfl rfl (by kernel_rfl) (fun _ _ _ => id) (guard_off 25 true 64 rfl rfl false (by decide) rfl) ?_
  refine al_off 27 66 (lb 46 268435455) rfl rfl (by kernel_rfl) (fun _ _ _ => id) (guard_off 25 true 64 rfl rfl false (by decide) rfl) ?_
  refine al_off 28 67 (lb 46 536870911) rfl rfl (by kernel_rfl) (fun _ _ _ => id) (guard_off 25 true 64 rfl rfl false (by decide) rfl) ?_
  simp only [ls0, ls1]
  refine al_off 29 68 (lb 46 1073741823) rfl rfl (by kernel_rfl) (fun _ _ _ => id) (guard_off 25 true 64 rfl rfl false (by decide) rfl) ?_
  refine al_off 30 69 (lb 46 2147483647) rfl rfl (by kernel_rfl) (fun _ _ _ => id) (guard_off 25 true 64 rfl rfl false (by decide) rfl) ?_
  refine al_off 31 70 (lb 46 4294967295) rfl rfl (by kernel_rfl) (fun _ _ _ => id) (guard_off 25 true 64 rfl rfl false (by decide) rfl) ?_
  refine al_pure 32 71 (.bool false) (lb 46 8589934591) rfl rfl (by kernel_rfl) (fun _ _ _ => id) rfl (fun w_ => xr_pick false _ rfl rfl rfl) ?_
  simp only [ls0, ls1]
  refine al_mv 33 (lb 46 17179869183) rfl rfl (by kernel_rfl) (fun _ _ _ => id) rfl ?_
  refine al_off 34 73 (lb 46 34359738367) rfl rfl (by kernel_rfl) (fun _ _ _ => id) (guard_off 33 true 72 rfl rfl false (by decide) rfl) ?_
  refine al_off 35 74 (lb 46 68719476735) rfl rfl (by kernel_rfl) (fun _ _ _ => id) (guard_off 33 true 72 rfl rfl false (by decide) rfl) ?_
  refine al_off 36 75 (lb 46 137438953471) rfl rfl (by kernel_rfl) (fun _ _ _ => id) (guard_off 33 true 72 rfl rfl false (by decide) rfl) ?_
  simp only [ls0, ls1]
  refine al_off 37 76 (lb 46 274877906943) rfl rfl (by kernel_rfl) (fun _ _ _ => id) (guard_off 33 true 72 rfl rfl false (by decide) rfl) ?_
  refine al_off 38 77 (lb 46 549755813887) rfl rfl (by kernel_rfl) (fun _ _ _ => id) (guard_off 33 true 72 rfl rfl false (by decide) rfl) ?_
  refine al_off 39 78 (lb 46 1099511627775) rfl rfl (by kernel_rfl) (fun _ _ _ => id) (guard_off 33 true 72 rfl rfl false (by decide) rfl) ?_
  refine al_off 40 79 (lb 46 2199023255551) rfl rfl (by kernel_rfl) (fun _ _ _ => id) (guard_off 33 true 72 rfl rfl false (by decide) rfl) ?_
  simp only [ls0, ls1]
  refine al_pure 41 80 (.bool false) (lb 46 4398046511103) rfl rfl (by kernel_rfl) (fun _ _ _ => id) rfl (fun w_ => xr_pick false _ rfl rfl rfl) ?_
  refine al_mv 42 (lb 46 8796093022207) rfl rfl (by kernel_rfl) (fun _ _ _ => id) rfl ?_
  refine al_off 43 82 (lb 46 17592186044415) rfl rfl (by kernel_rfl) (fun _ _ _ => id) (guard_off 42 true 81 rfl rfl false (by decide) rfl) ?_
  refine al_pure 44 83 (.bool false) (lb 46 35184372088831) rfl rfl (by kernel_rfl) (fun _ _ _ => id) rfl (fun w_ => xr_pick false _ rfl rfl rfl) ?_
  simp only [ls0, ls1]
  refine al_as 45 (lb 46 70368744177663) rfl rfl (by kernel_rfl) (fun _ _ _ => id) rfl ?_
  refine al_end (by kernel_rfl) ?_
  (try simp only [ls0, ls1])
  refine hK181 _ _ ?_
  (try clear hK181 K181)
  refine wp_ret ?_
  (try simp only [Exit.inBlock, Exit.then, Exit.noGoto])
  (try simp only [ls0, ls1])
  obtain rfl := Option.some.inj H
  refine bodyPost_ret (results_tmp rfl _ _ _) rfl ?_
  exact ⟨_, rfl, HS⟩
 rw [if_neg c183] at H
 (try rw [(decide_eq_false c183)])
 refine al_off 4 43 (lb 46 31) rfl rfl (by kernel_rfl) (fun _ _ _ => id) (guard_off 3 true 42 rfl rfl false (by decide) rfl) ?_
 refine al_off 5 44 (lb 46 63) rfl rfl (by kernel_rfl) (fun _ _ _ => id) (guard_off 3 true 42 rfl rfl false (by decide) rfl) ?_
 refine al_off 6 45 (lb 46 127) rfl rfl (by kernel_rfl) (fun _ _ _ => id) (guard_off 3 true 42 rfl rfl false (by decide) rfl) ?_
 refine al_pure 7 46 (.bool false) (lb 46 255) rfl rfl (by kernel_rfl) (fun _ _ _ => id) rfl (fun w_ => xr_pick false _ rfl rfl rfl) ?_
 simp only [ls0, ls1]
 refine al_mv 8 (lb 46 511) rfl rfl (by kernel_rfl) (fun _ _ _ => id) rfl ?_
 refine al_off 9 48 (lb 46 1023) rfl rfl (by kernel_rfl) (fun _ _ _ => id) (guard_off 8 true 47 rfl rfl false (by decide) rfl) ?_
 refine al_off 10 49 (lb 46 2047) rfl rfl (by kernel_rfl) (fun _ _ _ => id) (guard_off 8 true 47 rfl rfl false (by decide) rfl) ?_
 refine al_off 11 50 (lb 46 4095) rfl rfl (by kernel_rfl) (fun _ _ _ => id) (guard_off 8 true 47 rfl rfl false (by decide) rfl) ?_
 simp only [ls0, ls1]
 refine al_pure 12 51 (.bool false) (lb 46 8191) rfl rfl (by kernel_rfl) (fun _ _ _ => id) rfl (fun w_ => xr_pick false _ rfl rfl rfl) ?_
 refine al_mv 13 (lb 46 16383) rfl rfl (by kernel_rfl) (fun _ _ _ => id) rfl ?_
 refine al_off 14 53 (lb 46 32767) rfl rfl (by kernel_rfl) (fun _ _ _ => id) (guard_off 13 true 52 rfl rfl false (by decide) rfl) ?_
 refine al_off 15 54 (lb 46 65535) rfl rfl (by kernel_rfl) (fun _ _ _ => id) (guard_off 13 true 52 rfl rfl false (by decide) rfl) ?_
 simp only [ls0, ls1]
 refine al_off 16 55 (lb 46 131071) rfl rfl (by kernel_rfl) (fun _ _ _ => id) (guard_off 13 true 52 rfl rfl false (by decide) rfl) ?_
 refine al_pure 17 56 (.bool false) (lb 46 262143) rfl rfl (by kernel_rfl) (fun _ _ _ => id) rfl (fun w_ => xr_pick false _ rfl rfl rfl) ?_
 refine al_mv 18 (lb 46 524287) rfl rfl (by kernel_rfl) (fun _ _ _ => id) rfl ?_
 refine al_off 19 58 (lb 46 1048575) rfl rfl (by kernel_rfl) (fun _ _ _ => id) (guard_off 18 true 57 rfl rfl false (by decide) rfl) ?_
 simp only [ls0, ls1]
 refine al_off 20 59 (lb 46 2097151) rfl rfl (by kernel_rfl) (fun _ _ _ => id) (guard_off 18 true 57 rfl rfl false (by decide) rfl) ?_
 refine al_off 21 60 (lb 46 4194303) rfl rfl (by kernel_rfl) (fun _ _ _ => id) (guard_off 18 true 57 rfl rfl false (by decide) rfl) ?_
 refine al_off 22 61 (lb 46 8388607) rfl rfl (by kernel_rfl) (fun _ _ _ => id) (guard_off 18 true 57 rfl rfl false (by decide) rfl) ?_
 refine al_off 23 62 (lb 46 16777215) rfl rfl (by kernel_rfl) (fun _ _ _ => id) (guard_off 18 true 57 rfl rfl false (by decide) rfl) ?_
 simp only [ls0, ls1]
 refine al_pure 24 63 (.bool false) (lb 46 33554431) rfl rfl (by kernel_rfl) (fun _ _ _ => id) rfl (fun w_ => xr_pick false _ rfl rfl rfl) ?_
 refine al_mv 25 (lb 46 67108863) rfl rfl (by kernel_rfl) (fun _ _ _ => id) rfl ?_
 refine al_off 26 65 (lb 46 134217727) rfl rfl (by kernel_rfl) (fun _ _ _ => id) (guard_off 25 true 64 rfl rfl false (by decide) rfl) ?_
 refine al_off 27 66 (lb 46 268435455) rfl rfl (by kernel_rfl) (fun _ _ _ => id) (guard_off 25 true 64 rfl rfl false (by decide) rfl) ?_
 simp only [ls0, ls1]
 refine al_off 28 67 (lb 46 536870911) rfl rfl (by kernel_rfl) (fun _ _ _ => id) (guard_off 25 true 64 rfl rfl false (by decide) rfl) ?_
 refine al_off 29 68 (lb 46 1073741823) rfl rfl (by kernel_rfl) (fun _ _ _ => id) (guard_off 25 true 64 rfl rfl false (by decide) rfl) ?_
 refine al_off 30 69 (lb 46 2147483647) rfl rfl (by kernel_rfl) (fun _ _ _ => id) (guard_off 25 true 64 rfl rfl false (by decide) rfl) ?_
 refine al_off 31 70 (lb 46 4294967295) rfl rfl (by kernel_rfl) (fun _ _ _ => id) (guard_off 25 true 64 rfl rfl false (by decide) rfl) ?_
 simp only [ls0, ls1]
 refine al_pure 32 71 (.bool false) (lb 46 8589934591) rfl rfl (by kernel_rfl) (fun _ _ _ => id) rfl (fun w_ => xr_pick false _ rfl rfl rfl) ?_
 refine al_mv 33 (lb 46 17179869183) rfl rfl (by kernel_rfl) (fun _ _ _ => id) rfl ?_
 refine al_off 34 73 (lb 46 34359738367) rfl rfl (by kernel_rfl) (fun _ _ _ => id) (guard_off 33 true 72 rfl rfl false (by decide) rfl) ?_
 refine al_off 35 74 (lb 46 68719476735) rfl rfl (by kernel_rfl) (fun _ _ _ => id) (guard_off 33 true 72 rfl rfl false (by decide) rfl) ?_
 simp only [ls0, ls1]
 refine al_off 36 75 (lb 46 137438953471) rfl rfl (by kernel_rfl) (fun _ _ _ => id) (guard_off 33 true 72 rfl rfl false (by decide) rfl) ?_
 refine al_off 37 76 (lb 46 274877906943) rfl rfl (by kernel_rfl) (fun _ _ _ => id) (guard_off 33 true 72 rfl rfl false (by decide) rfl) ?_
 refine al_off 38 77 (lb 46 549755813887) rfl rfl (by kernel_rfl) (fun _ _ _ => id) (guard_off 33 true 72 rfl rfl false (by decide) rfl) ?_
 refine al_off 39 78 (lb 46 1099511627775) rfl rfl (by kernel_rfl) (fun _ _ _ => id) (guard_off 33 true 72 rfl rfl false (by decide) rfl) ?_
 simp only [ls0, ls1]
 refine al_off 40 79 (lb 46 2199023255551) rfl rfl (by kernel_rfl) (fun _ _ _ => id) (guard_off 33 true 72 rfl rfl false (by decide) rfl) ?_
 refine al_pure 41 80 (.bool false) (lb 46 4398046511103) rfl rfl (by kernel_rfl) (fun _ _ _ => id) rfl (fun w_ => xr_pick false _ rfl rfl rfl) ?_
 refine al_mv 42 (lb 46 8796093022207) rfl rfl (by kernel_rfl) (fun _ _ _ => id) rfl ?_
 refine al_off 43 82 (lb 46 17592186044415) rfl rfl (by kernel_rfl) (fun _ _ _ => id) (guard_off 42 true 81 rfl rfl false (by decide) rfl) ?_
 simp only [ls0, ls1]
 refine al_pure 44 83 (.bool false) (lb 46 35184372088831) rfl rfl (by kernel_rfl) (fun _ _ _ => id) rfl (fun w_ => xr_pick false _ rfl rfl rfl) ?_
 refine al_as 45 (lb 46 70368744177663) rfl rfl (by kernel_rfl) (fun _ _ _ => id) rfl ?_
 refine al_end (by kernel_rfl) ?_
 (try simp only [ls0, ls1])
 refine hK181 _ _ ?_
 (try clear hK181 K181)
 refine wp_ret ?_
 (try simp only [Exit.inBlock, Exit.then, Exit.noGoto])
 (try simp only [ls0, ls1])
 obtain rfl := Option.some.inj H
 refine bodyPost_ret (results_tmp rfl _ _ _) rfl ?_
 exact ⟨_, rfl, HS⟩
/-- THE ONE PURE STATEMENT of blazonlaw01_NumShorts. -/
def blazonlaw01_NumShorts.Pure : Prop := ∀ (a0 : Int) (l1 : List Int), (Lit.int .u64 a0).wf = true → l1.length ≤ maxLen → l1.length * 1 ≤ 140737488351232 → (∀ x ∈ l1, (Lit.int .u8 x).wf = true) → ∃ k, blazonlaw01_NumShorts.f k a0 l1 = some true
theorem blazonlaw01_NumShorts.walk (P : blazonlaw01_NumShorts.Pure) (a0 : Int) (a1 : Option Addr) (len1 cap1 : Nat) (z1 : List Int) (w : World) (w0 : (Lit.int .u64 a0).wf = true) (w1 : (a1 = none ∧ len1 = 0 ∧ cap1 = 0 ∧ z1 = []) ∨ ∃ x, a1 = some x ∧ len1 ≤ cap1 ∧ cap1 ≤ maxLen ∧ z1.length = cap1 ∧ (∀ i, i < z1.length → w.cell? (x.add i) = some (.int .u8 (z1.getD i 0))) ∧ ∀ n ∈ z1, (Lit.int .u8 n).wf = true) (y1 : len1 * 1 ≤ 140737488351232) :
    Calls Try.prog 5 #[.int .u64 a0, .slice a1 len1 cap1] w fun e w' => e = .returned (.bool true) ∧ Below w.heap.size w w' := by
  obtain ⟨l1, rfl, hr1, hm1, hw1, hc1⟩ := ReadsInt.ofRowC w1
  obtain ⟨k, h⟩ := P a0 l1 w0 hm1 y1 hw1
  refine (blazonlaw01_NumShorts.calls k a0 _ _ l1 true (fun _ => 0) w (fun _ => (by decide : (0 : Nat) < 10)) (Ft.of_C (Kd.heap_int .u8) (Kd.C_of_reads (d := (0 : Int)) (h1 := fun _ => rfl) hr1)) hc1 h).mono ?_
  rintro e w' ⟨c', rfl, hs⟩
  exact ⟨rfl, hs.below (fun _ => by simp)⟩

end Go.Proofs.Ytbpagdgbehefkaa.PNsh
