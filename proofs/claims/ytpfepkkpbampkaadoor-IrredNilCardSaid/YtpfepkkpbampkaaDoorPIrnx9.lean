-- By cprint.py, a program of this work. Lean checks it.
import Derived.Test.YtpfepkkpbampkaaDoorPIrnx0
import Derived.Test.YtpfepkkpbampkaaDoorPIrnx7
import Derived.Test.YtpfepkkpbampkaaDoorPIrnx8
namespace Go.Proofs.YtpfepkkpbampkaaDoor.PIrn
open Go.RowKit Go.Proofs.YtpfepkkpbampkaaDoorW.PrintWords Go.Proofs.YtpfepkkpbampkaaDoorW.PrintLast Go.Proofs.YtpfepkkpbampkaaDoorW.PrintMore
set_option linter.unusedVariables false
set_option linter.unusedSimpArgs false

/-! ### blazonlaw15_IrredNil: function 12 -/
def blazonlaw15_IrredNil.f (k : Nat) (a0 : Int) (a1 : Int) (a2 : Int) : Option (Bool) := (irred_New.f k (none : Option S107)).bind fun t75 => (onOpt t75 ((irred_Irred_Len.f (none : Option S118)).bind fun t85 => (if t85 = 0 then ((irred_Irred_Elem.f (none : Option S118) a0).bind fun t92 => (if t92 = (-1) then ((irred_Irred_Set.f (none : Option S118) a0).bind fun t99 => (if t99 = 0 then ((irred_Irred_Of.f k (none : Option S118) a2).bind fun t106 => (if t106 = (-1) then ((irred_Irred_Down.f k (none : Option S118) a2).bind fun t113 => (if t113 = 0 then ((irred_Irred_Is.f k (none : Option S118) a2).bind fun t120 => (if t120 = true then (some false) else ((irred_Irred_Apart.f (none : Option S118) a0 a1).bind fun t127 => (if t127 = (-1) then ((blazonlaw15_awake.f k).bind fun t134 => (some t134)) else (some false))))) else (some false))) else (some false))) else (some false))) else (some false))) else (some false))) (fun o84 => (some false)))

set_option maxHeartbeats 2000000 in
set_option maxRecDepth 100000 in
theorem blazonlaw15_IrredNil.calls (k : Nat) (a0 : Int) (a1 : Int) (a2 : Int) (r : Bool) (c : Nat → Nat) (w : World) (hc : ∀ k, c k < 10) (HG : Ft c [0] w GTab) (H : blazonlaw15_IrredNil.f k a0 a1 a2 = some r) :
    Calls Tryd.prog 12 #[.int .i64 a0, .int .i64 a1, .int .u64 a2] w fun e w' => ∃ (c' : Nat → Nat) , e = .returned (.bool r) ∧ Step c w c' w' [] := by
 unfold blazonlaw15_IrredNil.f at H
 have HS := Step.refl c w []
 go_enter Tryd.func12, Tryd.ntmps12
 refine wp_seq_k fun K73 hK73 => ?_
 refine wl_region ?_
 refine st (.bool false) rfl rfl (xr_assign _ rfl rfl) ?_
 refine wl_end ?_
 (try simp only [ls0, ls1])
 refine hK73 _ _ ?_
 (try clear hK73 K73)
 refine wp_seq_k fun K74 hK74 => ?_
 refine wl_region ?_
 obtain ⟨t75, A76, H⟩ := bnd H
 refine st_call #[.pointer none] rfl rfl Tryd.func48 (by kernel_rfl) rfl rfl (mp_ rfl) ?_
 refine (irred_New.calls k (.pointer none) (none : Option S107) t75  (fun z_ => pal [(0, 0)] (c z_)) w (fun _ => pal_lt rfl _) (ptr_nil _ _ _ _ _) A76).mono ?_
 rintro _ w78 ⟨C79, v81, rfl, hs80, HB82⟩
 refine ⟨_, rfl, ?_⟩
 replace HB82 := Ft.res (U := [(0, 0)]) HB82 hs80 [0] rfl rfl rfl
 replace hs80 := Step.lift (U := [(0, 0)]) hs80 [] rfl rfl
 generalize up c C79 w.heap.size [(0, 0)] = C79_ at HB82 hs80
 replace HG := HG.thru hs80 rfl
 replace HS := HS.trans hs80 hc rfl
 (try simp only [ls0, ls1])
 refine as_ rfl ?_
 refine wl_end ?_
 (try simp only [ls0, ls1])
 refine hK74 _ _ ?_
 (try clear hK74 K74)
 refine wp_seq_k fun K83 hK83 => ?_
 refine wl_region ?_
 refine mv_ rfl ?_
 cases t75 with
 | none =>
  (try simp only [onOpt] at H)
  obtain rfl := ptr_none HB82
  refine st (.bool true) rfl rfl (xr_bin (.pointer none) (.pointer none) (.bool true) rfl rfl rfl (B.eql_nn ⟨_, Tryd.underlying60⟩ (⟨0, 0, none⟩ : Addr))) ?_
  refine mv_ rfl ?_
  refine on_guard (guard_on 2 true 11 rfl rfl rfl) ?_
  refine mv_ rfl ?_
  simp only [ls0, ls1]
  refine on_guard (guard_on 2 true 11 rfl rfl rfl) ?_
  obtain ⟨t85, A86, H⟩ := bnd H
  refine st_call #[.pointer none] rfl rfl Tryd.func42 (by kernel_rfl) rfl rfl (mp_ rfl) ?_
  refine (irred_Irred_Len.calls (.pointer none) (none : Option S118) t85  (fun z_ => pal [(0, 0)] (C79_ z_)) w78 (fun _ => pal_lt rfl _) (ptr_nil _ _ _ _ _) A86).mono ?_
  rintro _ w88 ⟨C89, rfl, hs90⟩
  refine ⟨_, rfl, ?_⟩
  replace hs90 := Step.lift (U := [(0, 0)]) hs90 [] rfl rfl
  generalize up C79_ C89 w78.heap.size [(0, 0)] = C89_ at hs90
  replace HG := HG.thru hs90 rfl
  replace HS := HS.trans hs90 hc rfl
  (try simp only [ls0, ls1])
  refine on_guard (guard_on 2 true 11 rfl rfl rfl) ?_
  refine st (.bool (decide (t85 = 0))) rfl rfl (xr_bin _ _ _ rfl rfl rfl (B.eql_i64 _ _)) ?_
  refine st (.bool (decide (t85 = 0))) rfl rfl (xr_pick true _ rfl rfl rfl) ?_
  refine mv_ rfl ?_
  by_cases c91 : t85 = 0
  ·rw [if_pos c91] at H
   (try rw [(decide_eq_true c91)])
   refine on_guard (guard_on 7 true 16 rfl rfl rfl) ?_
   refine mv_ rfl ?_
   simp only [ls0, ls1]
   refine on_guard (guard_on 7 true 16 rfl rfl rfl) ?_
   refine mv_ rfl ?_
   refine on_guard (guard_on 7 true 16 rfl rfl rfl) ?_
   obtain ⟨t92, A93, H⟩ := bnd H
   refine st_call #[.pointer none, .int .i64 a0] rfl rfl Tryd.func43 (by kernel_rfl) rfl rfl (mp_ rfl) ?_
   refine (irred_Irred_Elem.calls (.pointer none) (none : Option S118) a0 t92  (fun z_ => pal [(0, 0)] (C89_ z_)) w88 (fun _ => pal_lt rfl _) (ptr_nil _ _ _ _ _) A93).mono ?_
   rintro _ w95 ⟨C96, rfl, hs97⟩
   refine ⟨_, rfl, ?_⟩
   replace hs97 := Step.lift (U := [(0, 0)]) hs97 [] rfl rfl
   generalize up C89_ C96 w88.heap.size [(0, 0)] = C96_ at hs97
   replace HG := HG.thru hs97 rfl
   replace HS := HS.trans hs97 hc rfl
   (try simp only [ls0, ls1])
   refine on_guard (guard_on 7 true 16 rfl rfl rfl) ?_
   refine st (.bool (decide (t92 = (-1)))) rfl rfl (xr_bin _ _ _ rfl rfl rfl (B.eql_i64 _ _)) ?_
   refine st (.bool (decide (t92 = (-1)))) rfl rfl (xr_pick true _ rfl rfl rfl) ?_
   refine mv_ rfl ?_
   by_cases c98 : t92 = (-1)
   ·rw [if_pos c98] at H
    (try rw [(decide_eq_true c98)])
    refine on_guard (guard_on 13 true 22 rfl rfl rfl) ?_
    refine mv_ rfl ?_
    simp only [ls0, ls1]
    refine on_guard (guard_on 13 true 22 rfl rfl rfl) ?_
    refine mv_ rfl ?_
    refine on_guard (guard_on 13 true 22 rfl rfl rfl) ?_
    obtain ⟨t99, A100, H⟩ := bnd H
    refine st_call #[.pointer none, .int .i64 a0] rfl rfl Tryd.func44 (by kernel_rfl) rfl rfl (mp_ rfl) ?_
    refine (irred_Irred_Set.calls (.pointer none) (none : Option S118) a0 t99  (fun z_ => pal [(0, 0)] (C96_ z_)) w95 (fun _ => pal_lt rfl _) (ptr_nil _ _ _ _ _) A100).mono ?_
    rintro _ w102 ⟨C103, rfl, hs104⟩
    refine ⟨_, rfl, ?_⟩
    replace hs104 := Step.lift (U := [(0, 0)]) hs104 [] rfl rfl
    generalize up C96_ C103 w95.heap.size [(0, 0)] = C103_ at hs104
    replace HG := HG.thru hs104 rfl
    replace HS := HS.trans hs104 hc rfl
    (try simp only [ls0, ls1])
    refine on_guard (guard_on 13 true 22 rfl rfl rfl) ?_
    refine st (.bool (decide (t99 = 0))) rfl rfl (xr_bin _ _ _ rfl rfl rfl (B.eql_u64 _ _)) ?_
    refine st (.bool (decide (t99 = 0))) rfl rfl (xr_pick true _ rfl rfl rfl) ?_
    refine mv_ rfl ?_
    by_cases c105 : t99 = 0
    ·rw [if_pos c105] at H
     (try rw [(decide_eq_true c105)])
     refine on_guard (guard_on 19 true 28 rfl rfl rfl) ?_
     refine mv_ rfl ?_
     simp only [ls0, ls1]
     refine on_guard (guard_on 19 true 28 rfl rfl rfl) ?_
     refine mv_ rfl ?_
     refine on_guard (guard_on 19 true 28 rfl rfl rfl) ?_
     obtain ⟨t106, A107, H⟩ := bnd H
     refine st_call #[.pointer none, .int .u64 a2] rfl rfl Tryd.func36 (by kernel_rfl) rfl rfl (mp_ rfl) ?_
     refine (irred_Irred_Of.calls k (.pointer none) (none : Option S118) a2 t106  (fun z_ => pal [(0, 0)] (C103_ z_)) w102 (fun _ => pal_lt rfl _) (ptr_nil _ _ _ _ _) A107).mono ?_
     rintro _ w109 ⟨C110, rfl, hs111⟩
     refine ⟨_, rfl, ?_⟩
     replace hs111 := Step.lift (U := [(0, 0)]) hs111 [] rfl rfl
     generalize up C103_ C110 w102.heap.size [(0, 0)] = C110_ at hs111
     replace HG := HG.thru hs111 rfl
     replace HS := HS.trans hs111 hc rfl
     (try simp only [ls0, ls1])
     refine on_guard (guard_on 19 true 28 rfl rfl rfl) ?_
     refine st (.bool (decide (t106 = (-1)))) rfl rfl (xr_bin _ _ _ rfl rfl rfl (B.eql_i64 _ _)) ?_
     refine st (.bool (decide (t106 = (-1)))) rfl rfl (xr_pick true _ rfl rfl rfl) ?_
     refine mv_ rfl ?_
     by_cases c112 : t106 = (-1)
     ·rw [if_pos c112] at H
      (try rw [(decide_eq_true c112)])
      refine on_guard (guard_on 25 true 34 rfl rfl rfl) ?_
      refine mv_ rfl ?_
      simp only [ls0, ls1]
      refine on_guard (guard_on 25 true 34 rfl rfl rfl) ?_
      refine mv_ rfl ?_
      refine on_guard (guard_on 25 true 34 rfl rfl rfl) ?_
      obtain ⟨t113, A114, H⟩ := bnd H
      refine st_call #[.pointer none, .int .u64 a2] rfl rfl Tryd.func38 (by kernel_rfl) rfl rfl (mp_ rfl) ?_
      refine (irred_Irred_Down.calls k (.pointer none) (none : Option S118) a2 t113  (fun z_ => pal [(0, 0)] (C110_ z_)) w109 (fun _ => pal_lt rfl _) (ptr_nil _ _ _ _ _) A114).mono ?_
      rintro _ w116 ⟨C117, rfl, hs118⟩
      refine ⟨_, rfl, ?_⟩
      replace hs118 := Step.lift (U := [(0, 0)]) hs118 [] rfl rfl
      generalize up C110_ C117 w109.heap.size [(0, 0)] = C117_ at hs118
      replace HG := HG.thru hs118 rfl
      replace HS := HS.trans hs118 hc rfl
      (try simp only [ls0, ls1])
      refine on_guard (guard_on 25 true 34 rfl rfl rfl) ?_
      refine st (.bool (decide (t113 = 0))) rfl rfl (xr_bin _ _ _ rfl rfl rfl (B.eql_u64 _ _)) ?_
      refine st (.bool (decide (t113 = 0))) rfl rfl (xr_pick true _ rfl rfl rfl) ?_
      refine mv_ rfl ?_
      by_cases c119 : t113 = 0
      ·rw [if_pos c119] at H
       (try rw [(decide_eq_true c119)])
       refine on_guard (guard_on 31 true 40 rfl rfl rfl) ?_
       refine mv_ rfl ?_
       simp only [ls0, ls1]
       refine on_guard (guard_on 31 true 40 rfl rfl rfl) ?_
       refine mv_ rfl ?_
       refine on_guard (guard_on 31 true 40 rfl rfl rfl) ?_
       obtain ⟨t120, A121, H⟩ := bnd H
       refine st_call #[.pointer none, .int .u64 a2] rfl rfl Tryd.func40 (by kernel_rfl) rfl rfl (mp_ rfl) ?_
       refine (irred_Irred_Is.calls k (.pointer none) (none : Option S118) a2 t120  (fun z_ => pal [(0, 0)] (C117_ z_)) w116 (fun _ => pal_lt rfl _) (ptr_nil _ _ _ _ _) A121).mono ?_
       rintro _ w123 ⟨C124, rfl, hs125⟩
       refine ⟨_, rfl, ?_⟩
       replace hs125 := Step.lift (U := [(0, 0)]) hs125 [] rfl rfl
       generalize up C117_ C124 w116.heap.size [(0, 0)] = C124_ at hs125
       replace HG := HG.thru hs125 rfl
       replace HS := HS.trans hs125 hc rfl
       (try simp only [ls0, ls1])
       refine on_guard (guard_on 31 true 40 rfl rfl rfl) ?_
       refine st (.bool (!t120)) rfl rfl (xr_un (.bool t120) _ rfl rfl (by first | rfl | (go_simp; done) | (go_simp; rfl) | (go_simp; exact i64_w _) | (go_simp; exact i32_w _))) ?_
       refine st (.bool (!t120)) rfl rfl (xr_pick true _ rfl rfl rfl) ?_
       refine mv_ rfl ?_
       by_cases c126 : t120 = true
       ·rw [if_pos c126] at H
        (try rw [c126])
        (try simp only [Bool.not_true, Bool.not_false])
        refine sk_guard (guard_off 37 true 46 rfl rfl false (by decide) rfl) rfl ?_
        simp only [ls0, ls1]
        refine sk_guard (guard_off 37 true 46 rfl rfl false (by decide) rfl) rfl ?_
        refine sk_guard (guard_off 37 true 46 rfl rfl false (by decide) rfl) rfl ?_
        refine sk_guard (guard_off 37 true 46 rfl rfl false (by decide) rfl) rfl ?_
        refine sk_guard (guard_off 37 true 46 rfl rfl false (by decide) rfl) rfl ?_
        simp only [ls0, ls1]
        refine st (.bool false) rfl rfl (xr_pick false _ rfl rfl rfl) ?_
        refine mv_ rfl ?_
        refine sk_guard (guard_off 44 true 53 rfl rfl false (by decide) rfl) rfl ?_
        refine st (.bool false) rfl rfl (xr_pick false _ rfl rfl rfl) ?_
        simp only [ls0, ls1]
        refine as_ rfl ?_
        refine wl_end ?_
        (try simp only [ls0, ls1])
        refine hK83 _ _ ?_
        (try clear hK83 K83)
        refine wp_ret ?_
        (try simp only [Exit.inBlock, Exit.then, Exit.noGoto])
        (try simp only [ls0, ls1])
        obtain rfl := Option.some.inj H
        refine bodyPost_ret (results_tmp rfl _ _ _) rfl ?_
        exact ⟨_, rfl, HS⟩
       rw [if_neg c126] at H
       (try rw [(Bool.eq_false_iff.mpr c126)])
       (try simp only [Bool.not_true, Bool.not_false])
       refine on_guard (guard_on 37 true 46 rfl rfl rfl) ?_
       refine mv_ rfl ?_
       refine on_guard (guard_on 37 true 46 rfl rfl rfl) ?_
       refine mv_ rfl ?_
       refine on_guard (guard_on 37 true 46 rfl rfl rfl) ?_
       refine mv_ rfl ?_
       refine on_guard (guard_on 37 true 46 rfl rfl rfl) ?_
       obtain ⟨t127, A128, H⟩ := bnd H
       refine st_call #[.pointer none, .int .i64 a0, .int .i64 a1] rfl rfl Tryd.func46 (by kernel_rfl) rfl rfl (mp_ rfl) ?_
       refine (irred_Irred_Apart.calls (.pointer none) (none : Option S118) a0 a1 t127  (fun z_ => pal [(0, 0)] (C124_ z_)) w123 (fun _ => pal_lt rfl _) (ptr_nil _ _ _ _ _) A128).mono ?_
       rintro _ w130 ⟨C131, rfl, hs132⟩
       refine ⟨_, rfl, ?_⟩
       replace hs132 := Step.lift (U := [(0, 0)]) hs132 [] rfl rfl
       generalize up C124_ C131 w123.heap.size [(0, 0)] = C131_ at hs132
       replace HG := HG.thru hs132 rfl
       replace HS := HS.trans hs132 hc rfl
       (try simp only [ls0, ls1])
       refine on_guard (guard_on 37 true 46 rfl rfl rfl) ?_
       refine st (.bool (decide (t127 = (-1)))) rfl rfl (xr_bin _ _ _ rfl rfl rfl (B.eql_i64 _ _)) ?_
       refine st (.bool (decide (t127 = (-1)))) rfl rfl (xr_pick true _ rfl rfl rfl) ?_
       refine mv_ rfl ?_
       by_cases c133 : t127 = (-1)
       ·rw [if_pos c133] at H
        (try rw [(decide_eq_true c133)])
        refine on_guard (guard_on 44 true 53 rfl rfl rfl) ?_
        obtain ⟨t134, A135, H⟩ := bnd H
        refine st_call #[] rfl rfl Tryd.func34 (by kernel_rfl) rfl rfl (mp_ rfl) ?_
        refine (blazonlaw15_awake.calls k t134  (fun z_ => pal [(0, 0)] (C131_ z_)) w130 (fun _ => pal_lt rfl _) (Ft.arg HG rfl) A135).mono ?_
        rintro _ w137 ⟨C138, rfl, hs139⟩
        refine ⟨_, rfl, ?_⟩
        replace hs139 := Step.lift (U := [(0, 0)]) hs139 [] rfl rfl
        generalize up C131_ C138 w130.heap.size [(0, 0)] = C138_ at hs139
        replace HG := HG.thru hs139 rfl
        replace HS := HS.trans hs139 hc rfl
        (try simp only [ls0, ls1])
        refine st (.bool t134) rfl rfl (xr_pick true _ rfl rfl rfl) ?_
        refine as_ rfl ?_
        refine wl_end ?_
        (try simp only [ls0, ls1])
        refine hK83 _ _ ?_
        (try clear hK83 K83)
        refine wp_ret ?_
        (try simp only [Exit.inBlock, Exit.then, Exit.noGoto])
        (try simp only [ls0, ls1])
        obtain rfl := Option.some.inj H
        refine bodyPost_ret (results_tmp rfl _ _ _) rfl ?_
        exact ⟨_, rfl, HS⟩
       rw [if_neg c133] at H
       (try rw [(decide_eq_false c133)])
       refine sk_guard (guard_off 44 true 53 rfl rfl false (by decide) rfl) rfl ?_
       refine st (.bool false) rfl rfl (xr_pick false _ rfl rfl rfl) ?_
       refine as_ rfl ?_
       refine wl_end ?_
       (try simp only [ls0, ls1])
       refine hK83 _ _ ?_
       (try clear hK83 K83)
       refine wp_ret ?_
       (try simp only [Exit.inBlock, Exit.then, Exit.noGoto])
       (try simp only [ls0, ls1])
       obtain rfl := Option.some.inj H
       refine bodyPost_ret (results_tmp rfl _ _ _) rfl ?_
       exact ⟨_, rfl, HS⟩
      rw [if_neg c119] at H
      (try rw [(decide_eq_false c119)])
      refine sk_guard (guard_off 31 true 40 rfl rfl false (by decide) rfl) rfl ?_
      refine sk_guard (guard_off 31 true 40 rfl rfl false (by decide) rfl) rfl ?_
      refine sk_guard (guard_off 31 true 40 rfl rfl false (by decide) rfl) rfl ?_
      refine sk_guard (guard_off 31 true 40 rfl rfl false (by decide) rfl) rfl ?_
      simp only [ls0, ls1]
      refine st (.bool false) rfl rfl (xr_pick false _ rfl rfl rfl) ?_
      refine mv_ rfl ?_
      refine sk_guard (guard_off 37 true 46 rfl rfl false (by decide) rfl) rfl ?_
      refine sk_guard (guard_off 37 true 46 rfl rfl false (by decide) rfl) rfl ?_
      simp only [ls0, ls1]
      refine sk_guard (guard_off 37 true 46 rfl rfl false (by decide) rfl) rfl ?_
      refine sk_guard (guard_off 37 true 46 rfl rfl false (by decide) rfl) rfl ?_
      refine sk_guard (guard_off 37 true 46 rfl rfl false (by decide) rfl) rfl ?_
      refine st (.bool false) rfl rfl (xr_pick false _ rfl rfl rfl) ?_
      simp only [ls0, ls1]
      refine mv_ rfl ?_
      refine sk_guard (guard_off 44 true 53 rfl rfl false (by decide) rfl) rfl ?_
      refine st (.bool false) rfl rfl (xr_pick false _ rfl rfl rfl) ?_
      refine as_ rfl ?_
      simp only [ls0, ls1]
      refine wl_end ?_
      (try simp only [ls0, ls1])
      refine hK83 _ _ ?_
      (try clear hK83 K83)
      refine wp_ret ?_
      (try simp only [Exit.inBlock, Exit.then, Exit.noGoto])
      (try simp only [ls0, ls1])
      obtain rfl := Option.some.inj H
      refine bodyPost_ret (results_tmp rfl _ _ _) rfl ?_
      exact ⟨_, rfl, HS⟩
     rw [if_neg c112] at H
     (try rw [(decide_eq_false c112)])
     refine sk_guard (guard_off 25 true 34 rfl rfl false (by decide) rfl) rfl ?_
     refine sk_guard (guard_off 25 true 34 rfl rfl false (by decide) rfl) rfl ?_
     refine sk_guard (guard_off 25 true 34 rfl rfl false (by decide) rfl) rfl ?_
     refine sk_guard (guard_off 25 true 34 rfl rfl false (by decide) rfl) rfl ?_
     simp only [ls0, ls1]
     refine st (.bool false) rfl rfl (xr_pick false _ rfl rfl rfl) ?_
     refine mv_ rfl ?_
     refine sk_guard (guard_off 31 true 40 rfl rfl false (by decide) rfl) rfl ?_
     refine sk_guard (guard_off 31 true 40 rfl rfl false (by decide) rfl) rfl ?_
     simp only [ls0, ls1]
     refine sk_guard (guard_off 31 true 40 rfl rfl false (by decide) rfl) rfl ?_
     refine sk_guard (guard_off 31 true 40 rfl rfl false (by decide) rfl) rfl ?_
     refine st (.bool false) rfl rfl (xr_pick false _ rfl rfl rfl) ?_
     refine mv_ rfl ?_
     simp only [ls0, ls1]
     refine sk_guard (guard_off 37 true 46 rfl rfl false (by decide) rfl) rfl ?_
     refine sk_guard (guard_off 37 true 46 rfl rfl false (by decide) rfl) rfl ?_
     refine sk_guard (guard_off 37 true 46 rfl rfl false (by decide) rfl) rfl ?_
     refine sk_guard (guard_off 37 true 46 rfl rfl false (by decide) rfl) rfl ?_
     simp only [ls0, ls1]
     refine sk_guard (guard_off 37 true 46 rfl rfl false (by decide) rfl) rfl ?_
     refine st (.bool false) rfl rfl (xr_pick false _ rfl rfl rfl) ?_
     refine mv_ rfl ?_
     refine sk_guard (guard_off 44 true 53 rfl rfl false (by decide) rfl) rfl ?_
     simp only [ls0, ls1]
     refine st (.bool false) rfl rfl (xr_pick false _ rfl rfl rfl) ?_
     refine as_ rfl ?_
     refine wl_end ?_
     (try simp only [ls0, ls1])
     refine hK83 _ _ ?_
     (try clear hK83 K83)
     refine wp_ret ?_
     (try simp only [Exit.inBlock, Exit.then, Exit.noGoto])
     (try simp only [ls0, ls1])
     obtain rfl := Option.some.inj H
     refine bodyPost_ret (results_tmp rfl _ _ _) rfl ?_
     exact ⟨_, rfl, HS⟩
    rw [if_neg c105] at H
    (try rw [(decide_eq_false c105)])
    refine sk_guard (guard_off 19 true 28 rfl rfl false (by decide) rfl) rfl ?_
    refine sk_guard (guard_off 19 true 28 rfl rfl false (by decide) rfl) rfl ?_
    refine sk_guard (guard_off 19 true 28 rfl rfl false (by decide) rfl) rfl ?_
    refine sk_guard (guard_off 19 true 28 rfl rfl false (by decide) rfl) rfl ?_
    simp only [ls0, ls1]
    refine st (.bool false) rfl rfl (xr_pick false _ rfl rfl rfl) ?_
    refine mv_ rfl ?_
    refine sk_guard (guard_off 25 true 34 rfl rfl false (by decide) rfl) rfl ?_
    refine sk_guard (guard_off 25 true 34 rfl rfl false (by decide) rfl) rfl ?_
    simp only [ls0, ls1]
    refine sk_guard (guard_off 25 true 34 rfl rfl false (by decide) rfl) rfl ?_
    refine sk_guard (guard_off 25 true 34 rfl rfl false (by decide) rfl) rfl ?_
    refine st (.bool false) rfl rfl (xr_pick false _ rfl rfl rfl) ?_
    refine mv_ rfl ?_
    simp only [ls0, ls1]
    refine sk_guard (guard_off 31 true 40 rfl rfl false (by decide) rfl) rfl ?_
    refine sk_guard (guard_off 31 true 40 rfl rfl false (by decide) rfl) rfl ?_
    refine sk_guard (guard_off 31 true 40 rfl rfl false (by decide) rfl) rfl ?_
    refine sk_guard (guard_off 31 true 40 rfl rfl false (by decide) rfl) rfl ?_
    simp only [ls0, ls1]
    refine st (.bool false) rfl rfl (xr_pick false _ rfl rfl rfl) ?_
    refine mv_ rfl ?_
    refine sk_guard (guard_off 37 true 46 rfl rfl false (by decide) rfl) rfl ?_
    refine sk_guard (guard_off 37 true 46 rfl rfl false (by decide) rfl) rfl ?_
    simp only [ls0, ls1]
    refine sk_guard (guard_off 37 true 46 rfl rfl false (by decide) rfl) rfl ?_
    refine sk_guard (guard_off 37 true 46 rfl rfl false (by decide) rfl) rfl ?_
    refine sk_guard (guard_off 37 true 46 rfl rfl false (by decide) rfl) rfl ?_
    refine st (.bool false) rfl rfl (xr_pick false _ rfl rfl rfl) ?_
    simp only [ls0, ls1]
    refine mv_ rfl ?_
    refine sk_guard (guard_off 44 true 53 rfl rfl false (by decide) rfl) rfl ?_
    refine st (.bool false) rfl rfl (xr_pick false _ rfl rfl rfl) ?_
    refine as_ rfl ?_
    simp only [ls0, ls1]
    refine wl_end ?_
    (try simp only [ls0, ls1])
    refine hK83 _ _ ?_
    (try clear hK83 K83)
    refine wp_ret ?_
    (try simp only [Exit.inBlock, Exit.then, Exit.noGoto])
    (try simp only [ls0, ls1])
    obtain rfl := Option.some.inj H
    refine bodyPost_ret (results_tmp rfl _ _ _) rfl ?_
    exact ⟨_, rfl, HS⟩
   rw [if_neg c98] at H
   (try rw [(decide_eq_false c98)])
   refine sk_guard (guard_off 13 true 22 rfl rfl false (by decide) rfl) rfl ?_
   refine sk_guard (guard_off 13 true 22 rfl rfl false (by decide) rfl) rfl ?_
   refine sk_guard (guard_off 13 true 22 rfl rfl false (by decide) rfl) rfl ?_
   refine sk_guard (guard_off 13 true 22 rfl rfl false (by decide) rfl) rfl ?_
   simp only [ls0, ls1]
   refine st (.bool false) rfl rfl (xr_pick false _ rfl rfl rfl) ?_
   refine mv_ rfl ?_
   refine sk_guard (guard_off 19 true 28 rfl rfl false (by decide) rfl) rfl ?_
   refine sk_guard (guard_off 19 true 28 rfl rfl false (by decide) rfl) rfl ?_
   simp only [ls0, ls1]
   refine sk_guard (guard_off 19 true 28 rfl rfl false (by decide) rfl) rfl ?_
   refine sk_guard (guard_off 19 true 28 rfl rfl false (by decide) rfl) rfl ?_
   refine st (.bool false) rfl rfl (xr_pick false _ rfl rfl rfl) ?_
   refine mv_ rfl ?_
   simp only [ls0, ls1]
   refine sk_guard (guard_off 25 true 34 rfl rfl false (by decide) rfl) rfl ?_
   refine sk_guard (guard_off 25 true 34 rfl rfl false (by decide) rfl) rfl ?_
   refine sk_guard (guard_off 25 true 34 rfl rfl false (by decide) rfl) rfl ?_
   refine sk_guard (guard_off 25 true 34 rfl rfl false (by decide) rfl) rfl ?_
   simp only [ls0, ls1]
   refine st (.bool false) rfl rfl (xr_pick false _ rfl rfl rfl) ?_
   refine mv_ rfl ?_
   refine sk_guard (guard_off 31 true 40 rfl rfl false (by decide) rfl) rfl ?_
   refine sk_guard (guard_off 31 true 40 rfl rfl false (by decide) rfl) rfl ?_
   simp only [ls0, ls1]
   refine sk_guard (guard_off 31 true 40 rfl rfl false (by decide) rfl) rfl ?_
   refine sk_guard (guard_off 31 true 40 rfl rfl false (by decide) rfl) rfl ?_
   refine st (.bool false) rfl rfl (xr_pick false _ rfl rfl rfl) ?_
   refine mv_ rfl ?_
   simp only [ls0, ls1]
   refine sk_guard (guard_off 37 true 46 rfl rfl false (by decide) rfl) rfl ?_
   refine sk_guard (guard_off 37 true 46 rfl rfl false (by decide) rfl) rfl ?_
   refine sk_guard (guard_off 37 true 46 rfl rfl false (by decide) rfl) rfl ?_
   refine sk_guard (guard_off 37 true 46 rfl rfl false (by decide) rfl) rfl ?_
   simp only [ls0, ls1]
   refine sk_guard (guard_off 37 true 46 rfl rfl false (by decide) rfl) rfl ?_
   refine st (.bool false) rfl rfl (xr_pick false _ rfl rfl rfl) ?_
   refine mv_ rfl ?_
   refine sk_guard (guard_off 44 true 53 rfl rfl false (by decide) rfl) rfl ?_
   simp only [ls0, ls1]
   refine st (.bool false) rfl rfl (xr_pick false _ rfl rfl rfl) ?_
   refine as_ rfl ?_
   refine wl_end ?_
   (try simp only [ls0, ls1])
   refine hK83 _ _ ?_
   (try clear hK83 K83)
   refine wp_ret ?_
   (try simp only [Exit.inBlock, Exit.then, Exit.noGoto])
   (try simp only [ls0, ls1])
   obtain rfl := Option.some.inj H
   refine bodyPost_ret (results_tmp rfl _ _ _) rfl ?_
   exact ⟨_, rfl, HS⟩
  rw [if_neg c91] at H
  (try rw [(decide_eq_false c91)])
  refine sk_guard (guard_off 7 true 16 rfl rfl false (by decide) rfl) rfl ?_
  refine sk_guard (guard_off 7 true 16 rfl rfl false (by decide) rfl) rfl ?_
  refine sk_guard (guard_off 7 true 16 rfl rfl false (by decide) rfl) rfl ?_
  refine sk_guard (guard_off 7 true 16 rfl rfl false (by decide) rfl) rfl ?_
  simp only [ls0, ls1]
  refine st (.bool false) rfl rfl (xr_pick false _ rfl rfl rfl) ?_
  refine mv_ rfl ?_
  refine sk_guard (guard_off 13 true 22 rfl rfl false (by decide) rfl) rfl ?_
  refine sk_guard (guard_off 13 true 22 rfl rfl false (by decide) rfl) rfl ?_
  simp only [ls0, ls1]
  refine sk_guard (guard_off 13 true 22 rfl rfl false (by decide) rfl) rfl ?_
  refine sk_guard (guard_off 13 true 22 rfl rfl false (by decide) rfl) rfl ?_
  refine st (.bool false) rfl rfl (xr_pick false _ rfl rfl rfl) ?_
  refine mv_ rfl ?_
  simp only [ls0, ls1]
  refine sk_guard (guard_off 19 true 28 rfl rfl false (by decide) rfl) rfl ?_
  refine sk_guard (guard_off 19 true 28 rfl rfl false (by decide) rfl) rfl ?_
  refine sk_guard (guard_off 19 true 28 rfl rfl false (by decide) rfl) rfl ?_
  refine sk_guard (guard_off 19 true 28 rfl rfl false (by decide) rfl) rfl ?_
  simp only [ls0, ls1]
  refine st (.bool false) rfl rfl (xr_pick false _ rfl rfl rfl) ?_
  refine mv_ rfl ?_
  refine sk_guard (guard_off 25 true 34 rfl rfl false (by decide) rfl) rfl ?_
  refine sk_guard (guard_off 25 true 34 rfl rfl false (by decide) rfl) rfl ?_
  simp only [ls0, ls1]
  refine sk_guard (guard_off 25 true 34 rfl rfl false (by decide) rfl) rfl ?_
  refine sk_guard (guard_off 25 true 34 rfl rfl false (by decide) rfl) rfl ?_
  refine st (.bool false) rfl rfl (xr_pick false _ rfl rfl rfl) ?_
  refine mv_ rfl ?_
  simp only [ls0, ls1]
  refine sk_guard (guard_off 31 true 40 rfl rfl false (by decide) rfl) rfl ?_
  refine sk_guard (guard_off 31 true 40 rfl rfl false (by decide) rfl) rfl ?_
  refine sk_guard (guard_off 31 true 40 rfl rfl false (by decide) rfl) rfl ?_
  refine sk_guard (guard_off 31 true 40 rfl rfl false (by decide) rfl) rfl ?_
  simp only [ls0, ls1]
  refine st (.bool false) rfl rfl (xr_pick false _ rfl rfl rfl) ?_
  refine mv_ rfl ?_
  refine sk_guard (guard_off 37 true 46 rfl rfl false (by decide) rfl) rfl ?_
  refine sk_guard (guard_off 37 true 46 rfl rfl false (by decide) rfl) rfl ?_
  simp only [ls0, ls1]
  refine sk_guard (guard_off 37 true 46 rfl rfl false (by decide) rfl) rfl ?_
  refine sk_guard (guard_off 37 true 46 rfl rfl false (by decide) rfl) rfl ?_
  refine sk_guard (guard_off 37 true 46 rfl rfl false (by decide) rfl) rfl ?_
  refine st (.bool false) rfl rfl (xr_pick false _ rfl rfl rfl) ?_
  simp only [ls0, ls1]
  refine mv_ rfl ?_
  refine sk_guard (guard_off 44 true 53 rfl rfl false (by decide) rfl) rfl ?_
  refine st (.bool false) rfl rfl (xr_pick false _ rfl rfl rfl) ?_
  refine as_ rfl ?_
  simp only [ls0, ls1]
  refine wl_end ?_
  (try simp only [ls0, ls1])
  refine hK83 _ _ ?_
  (try clear hK83 K83)
  refine wp_ret ?_
  (try simp only [Exit.inBlock, Exit.then, Exit.noGoto])
  (try simp only [ls0, ls1])
  obtain rfl := Option.some.inj H
  refine bodyPost_ret (results_tmp rfl _ _ _) rfl ?_
  exact ⟨_, rfl, HS⟩
 | some o84 =>
  (try simp only [onOpt] at H)
  obtain ⟨g140, cs141, rfl, HX142, HK143⟩ := ptr_some HB82
  obtain ⟨vq144_0, Aq144_1, cpq144_1, Aq144_2, cpq144_2, rfl, HRq144_0, HCq144_1, HRq144_1, HCq144_2, HRq144_2⟩ := k118_openF HK143
  replace HRq144_0 : Ft C79_ [0] w78 (fun w_ => (Kd.ptr 107 k107).K w_ o84.f0 [vq144_0]) := HRq144_0
  replace HRq144_1 : Ft C79_ [0] w78 (fun w_ => (Kd.int .i64).C w_ Aq144_1 o84.f1.length o84.f1) := HRq144_1
  replace HRq144_2 : Ft C79_ [0] w78 (fun w_ => (Kd.int .u64).C w_ Aq144_2 o84.f2.length o84.f2) := HRq144_2
  refine st (.bool false) rfl rfl (xr_bin (.pointer (some ⟨g140, 0, none⟩)) (.pointer none) (.bool false) rfl rfl rfl (B.eql_pn ⟨_, Tryd.underlying60⟩ ⟨g140, 0, none⟩)) ?_
  refine mv_ rfl ?_
  refine sk_guard (guard_off 2 true 11 rfl rfl false (by decide) rfl) rfl ?_
  refine sk_guard (guard_off 2 true 11 rfl rfl false (by decide) rfl) rfl ?_
  simp only [ls0, ls1]
  refine sk_guard (guard_off 2 true 11 rfl rfl false (by decide) rfl) rfl ?_
  refine st (.bool false) rfl rfl (xr_pick false _ rfl rfl rfl) ?_
  refine mv_ rfl ?_
  refine sk_guard (guard_off 7 true 16 rfl rfl false (by decide) rfl) rfl ?_
  simp only [ls0, ls1]
  refine sk_guard (guard_off 7 true 16 rfl rfl false (by decide) rfl) rfl ?_
  refine sk_guard (guard_off 7 true 16 rfl rfl false (by decide) rfl) rfl ?_
  refine sk_guard (guard_off 7 true 16 rfl rfl false (by decide) rfl) rfl ?_
  refine st (.bool false) rfl rfl (xr_pick false _ rfl rfl rfl) ?_
  simp only [ls0, ls1]
  refine mv_ rfl ?_
  refine sk_guard (guard_off 13 true 22 rfl rfl false (by decide) rfl) rfl ?_
  refine sk_guard (guard_off 13 true 22 rfl rfl false (by decide) rfl) rfl ?_
  refine sk_guard (guard_off 13 true 22 rfl rfl false (by decide) rfl) rfl ?_
  simp only [ls0, ls1]
  refine sk_guard (guard_off 13 true 22 rfl rfl false (by decide) rfl) rfl ?_
  refine st (.bool false) rfl rfl (xr_pick false _ rfl rfl rfl) ?_
  refine mv_ rfl ?_
  refine sk_guard (guard_off 19 true 28 rfl rfl false (by decide) rfl) rfl ?_
  simp only [ls0, ls1]
  refine sk_guard (guard_off 19 true 28 rfl rfl false (by decide) rfl) rfl ?_
  refine sk_guard (guard_off 19 true 28 rfl rfl false (by decide) rfl) rfl ?_
  refine sk_guard (guard_off 19 true 28 rfl rfl false (by decide) rfl) rfl ?_
  refine st (.bool false) rfl rfl (xr_pick false _ rfl rfl rfl) ?_
  simp only [ls0, ls1]
  refine mv_ rfl ?_
  refine sk_guard (guard_off 25 true 34 rfl rfl false (by decide) rfl) rfl ?_
  refine sk_guard (guard_off 25 true 34 rfl rfl false (by decide) rfl) rfl ?_
  refine sk_guard (guard_off 25 true 34 rfl rfl false (by decide) rfl) rfl ?_
  simp only [ls0, ls1]
  refine sk_guard (guard_off 25 true 34 rfl rfl false (by decide) rfl) rfl ?_
  refine st (.bool false) rfl rfl (xr_pick false _ rfl rfl rfl) ?_
  refine mv_ rfl ?_
  refine sk_guard (guard_off 31 true 40 rfl rfl false (by decide) rfl) rfl ?_
  simp only [ls0, ls1]
  refine sk_guard (guard_off 31 true 40 rfl rfl false (by decide) rfl) rfl ?_
  refine sk_guard (guard_off 31 true 40 rfl rfl false (by decide) rfl) rfl ?_
  refine sk_guard (guard_off 31 true 40 rfl rfl false (by decide) rfl) rfl ?_
  refine st (.bool false) rfl rfl (xr_pick false _ rfl rfl rfl) ?_
  simp only [ls0, ls1]
  refine mv_ rfl ?_
  refine sk_guard (guard_off 37 true 46 rfl rfl false (by decide) rfl) rfl ?_
  refine sk_guard (guard_off 37 true 46 rfl rfl false (by decide) rfl) rfl ?_
  refine sk_guard (guard_off 37 true 46 rfl rfl false (by decide) rfl) rfl ?_
  simp only [ls0, ls1]
  refine sk_guard (guard_off 37 true 46 rfl rfl false (by decide) rfl) rfl ?_
  refine sk_guard (guard_off 37 true 46 rfl rfl false (by decide) rfl) rfl ?_
  refine st (.bool false) rfl rfl (xr_pick false _ rfl rfl rfl) ?_
  refine mv_ rfl ?_
  simp only [ls0, ls1]
  refine sk_guard (guard_off 44 true 53 rfl rfl false (by decide) rfl) rfl ?_
  refine st (.bool false) rfl rfl (xr_pick false _ rfl rfl rfl) ?_
  refine as_ rfl ?_
  refine wl_end ?_
  (try simp only [ls0, ls1])
  refine hK83 _ _ ?_
  (try clear hK83 K83)
  refine wp_ret ?_
  (try simp only [Exit.inBlock, Exit.then, Exit.noGoto])
  (try simp only [ls0, ls1])
  obtain rfl := Option.some.inj H
  refine bodyPost_ret (results_tmp rfl _ _ _) rfl ?_
  exact ⟨_, rfl, HS⟩
/-- THE ONE PURE STATEMENT of blazonlaw15_IrredNil. -/
def blazonlaw15_IrredNil.Pure : Prop := ∀ (a0 : Int) (a1 : Int) (a2 : Int), (Lit.int .i64 a0).wf = true → (Lit.int .i64 a1).wf = true → (Lit.int .u64 a2).wf = true → ∃ k, blazonlaw15_IrredNil.f k a0 a1 a2 = some true

end Go.Proofs.YtpfepkkpbampkaaDoor.PIrn
