-- By cprint.py, a program of this work. Lean checks it.
import Derived.Test.YtdkbmchbkkhpoaaPMlsx0
namespace Go.Proofs.Ytdkbmchbkkhpoaa.PMls
open Go.RowKit Go.Proofs.YtdkbmchbkkhpoaaW.PrintWords Go.Proofs.YtdkbmchbkkhpoaaW.PrintLast Go.Proofs.YtdkbmchbkkhpoaaW.PrintMore
set_option linter.unusedVariables false
set_option linter.unusedSimpArgs false

/-! ### maxflow_New: function 15 -/
def maxflow_New.f (a0 : Int) : Option (Option Go.Proofs.Ytdkbmchbkkhpoaa.PMfr.S74) := Go.Proofs.Ytdkbmchbkkhpoaa.PMfr.New.f a0
theorem maxflow_New.calls (a0 : Int) (r : Option Go.Proofs.Ytdkbmchbkkhpoaa.PMfr.S74) (c : Nat → Nat) (w : World) (hc : ∀ k, c k < 10) (H : maxflow_New.f a0 = some r) :
    Calls Try.prog 15 #[.int .i64 a0] w fun e w' => ∃ (c' : Nat → Nat) (v_r : Value), e = .returned v_r ∧ Step c w c' w' [] ∧ Ft c' [5] w' (fun w_ => Go.Proofs.Ytdkbmchbkkhpoaa.PMfr.NetO w_ v_r r) := Go.Proofs.Ytdkbmchbkkhpoaa.PMfr.New.oc a0 r c w hc H

/-! ### maxflow_Net_Max: function 17 -/
def maxflow_Net_Max.f (k : Nat) (x0 : Option Go.Proofs.Ytdkbmchbkkhpoaa.PMfr.S74) (a1 a2 : Int) : Option (Int × Int × Option Go.Proofs.Ytdkbmchbkkhpoaa.PMfr.S74) := Go.Proofs.Ytdkbmchbkkhpoaa.PMfr.Max.o k x0 a1 a2
theorem maxflow_Net_Max.calls (k : Nat) (v0 : Value) (x0 : Option Go.Proofs.Ytdkbmchbkkhpoaa.PMfr.S74) (a1 a2 : Int) (r1 r2 : Int) (r3 : Option Go.Proofs.Ytdkbmchbkkhpoaa.PMfr.S74) (c : Nat → Nat) (w : World) (hc : ∀ k, c k < 10) (HP0 : Ft c [1] w (fun w_ => Go.Proofs.Ytdkbmchbkkhpoaa.PMfr.NetO w_ v0 x0)) (H : maxflow_Net_Max.f k x0 a1 a2 = some (r1, r2, r3)) :
    Calls Try.prog 17 #[v0, .int .i64 a1, .int .i64 a2] w fun e w' => ∃ (c' : Nat → Nat), e = .returned (.tuple #[.int .i64 r1, .int .i64 r2]) ∧ Step c w c' w' [1] ∧ Ft c' [1] w' (fun w_ => Go.Proofs.Ytdkbmchbkkhpoaa.PMfr.NetO w_ v0 r3) := Go.Proofs.Ytdkbmchbkkhpoaa.PMfr.Max.oc k v0 x0 a1 a2 r1 r2 r3 c w hc HP0 H

/-! ### maxflow_Net_Flow: function 18 -/
def maxflow_Net_Flow.f (x0 : Option Go.Proofs.Ytdkbmchbkkhpoaa.PMfr.S74) (a1 : Int) : Option (Int × Option Go.Proofs.Ytdkbmchbkkhpoaa.PMfr.S74) := Go.Proofs.Ytdkbmchbkkhpoaa.PMfr.Flow.o x0 a1
theorem maxflow_Net_Flow.calls (v0 : Value) (x0 : Option Go.Proofs.Ytdkbmchbkkhpoaa.PMfr.S74) (a1 : Int) (r1 : Int) (r2 : Option Go.Proofs.Ytdkbmchbkkhpoaa.PMfr.S74) (c : Nat → Nat) (w : World) (hc : ∀ k, c k < 10) (HP0 : Ft c [1] w (fun w_ => Go.Proofs.Ytdkbmchbkkhpoaa.PMfr.NetO w_ v0 x0)) (H : maxflow_Net_Flow.f x0 a1 = some (r1, r2)) :
    Calls Try.prog 18 #[v0, .int .i64 a1] w fun e w' => ∃ (c' : Nat → Nat), e = .returned (.int .i64 r1) ∧ Step c w c' w' [1] ∧ Ft c' [1] w' (fun w_ => Go.Proofs.Ytdkbmchbkkhpoaa.PMfr.NetO w_ v0 r2) := Go.Proofs.Ytdkbmchbkkhpoaa.PMfr.Flow.oc v0 x0 a1 r1 r2 c w hc HP0 H

/-! ### maxflow_Net_Add: function 21 -/
def maxflow_Net_Add.f (k : Nat) (x0 : Option Go.Proofs.Ytdkbmchbkkhpoaa.PMfr.S74) (a1 a2 a3 : Int) : Option (Int × Int × Option Go.Proofs.Ytdkbmchbkkhpoaa.PMfr.S74) := Go.Proofs.Ytdkbmchbkkhpoaa.PMfr.Add.o k x0 a1 a2 a3
theorem maxflow_Net_Add.calls (k : Nat) (v0 : Value) (x0 : Option Go.Proofs.Ytdkbmchbkkhpoaa.PMfr.S74) (a1 a2 a3 : Int) (r1 r2 : Int) (r3 : Option Go.Proofs.Ytdkbmchbkkhpoaa.PMfr.S74) (c : Nat → Nat) (w : World) (hc : ∀ k, c k < 10) (HP0 : Ft c [1] w (fun w_ => Go.Proofs.Ytdkbmchbkkhpoaa.PMfr.NetO w_ v0 x0)) (H : maxflow_Net_Add.f k x0 a1 a2 a3 = some (r1, r2, r3)) :
    Calls Try.prog 21 #[v0, .int .i64 a1, .int .i64 a2, .int .i64 a3] w fun e w' => ∃ (c' : Nat → Nat), e = .returned (.tuple #[.int .i64 r1, .int .i64 r2]) ∧ Step c w c' w' [1] ∧ Ft c' [1] w' (fun w_ => Go.Proofs.Ytdkbmchbkkhpoaa.PMfr.NetO w_ v0 r3) := Go.Proofs.Ytdkbmchbkkhpoaa.PMfr.Add.oc k v0 x0 a1 a2 a3 r1 r2 r3 c w hc HP0 H

/-! ### blazonlaw25_awake: function 14 -/
def blazonlaw25_awake.f (k : Nat)  : Option (Bool) := (maxflow_New.f 3).bind fun t57 => ((maxflow_Net_Add.f k t57 0 1 3).bind fun bt66 => ((maxflow_Net_Add.f k bt66.2.2 1 2 2).bind fun bt76 => ((maxflow_Net_Max.f k bt76.2.2 0 2).bind fun bt86 => (if bt66.2.1 = 0 then (if bt76.2.1 = 0 then (if bt76.1 = 1 then (if bt86.1 = 2 then (if bt86.2.1 = 0 then ((maxflow_Net_Flow.f bt86.2.2 0).bind fun bt101 => (some (decide (bt101.1 = 2)))) else (some false)) else (some false)) else (some false)) else (some false)) else (some false)))))

set_option maxHeartbeats 8000000 in
set_option maxRecDepth 100000 in
theorem blazonlaw25_awake.calls (k : Nat)  (r : Bool) (c : Nat → Nat) (w : World) (hc : ∀ k, c k < 10)  (H : blazonlaw25_awake.f k = some r) :
    Calls Try.prog 14 #[] w fun e w' => ∃ (c' : Nat → Nat) , e = .returned (.bool r) ∧ Step c w c' w' [] := by
 unfold blazonlaw25_awake.f at H
 have HS := Step.refl c w []
 go_enter Try.func14, Try.ntmps14
 refine wp_seq_k fun K55 hK55 => ?_
 refine wl_region ?_
 refine st (.bool false) rfl rfl (xr_assign _ rfl rfl) ?_
 refine wl_end ?_
 (try simp only [ls0, ls1])
 refine hK55 _ _ ?_
 (try clear hK55 K55)
 refine wp_seq_k fun K56 hK56 => ?_
 refine wl_region ?_
 obtain ⟨t57, A58, H⟩ := bnd H
 refine st_call #[.int .i64 3] rfl rfl Try.func15 (by kernel_rfl) rfl rfl (mp_ rfl) ?_
 refine (maxflow_New.calls 3 t57  (fun z_ => pal [(0, 0)] (c z_)) w (fun _ => pal_lt rfl _) A58).mono ?_
 rintro _ w60 ⟨C61, v63, rfl, hs62, HB64⟩
 refine ⟨_, rfl, ?_⟩
 replace HB64 := Ft.res (U := [(0, 0), (5, 11)]) HB64 hs62 [11] rfl rfl rfl
 replace hs62 := Step.lift (U := [(0, 0), (5, 11)]) hs62 [] rfl rfl
 generalize up c C61 w.heap.size [(0, 0), (5, 11)] = C61_ at HB64 hs62
 replace HS := HS.trans hs62 hc rfl
 (try simp only [Act.put, List.setIfInBounds_toArray, ls0, ls1])
 refine as_ rfl ?_
 refine wl_end ?_
 (try simp only [ls0, ls1])
 refine hK56 _ _ ?_
 (try clear hK56 K56)
 refine wp_seq_k fun K65 hK65 => ?_
 refine wl_region ?_
 refine mv_ rfl ?_
 obtain ⟨⟨t66, t67, t68⟩, A69, H⟩ := bnd H
 (try dsimp only at H)
 refine st_call #[v63, .int .i64 0, .int .i64 1, .int .i64 3] rfl rfl Try.func21 (by kernel_rfl) rfl rfl (mp_ rfl) ?_
 refine (maxflow_Net_Add.calls k v63 t57 0 1 3 t66 t67 t68  (fun z_ => pal [(0, 0), (11, 1)] (C61_ z_)) w60 (fun _ => pal_lt rfl _) (Ft.arg HB64 rfl) A69).mono ?_
 rintro _ w71 ⟨C72, rfl, hs73, HM74⟩
 refine ⟨_, rfl, ?_⟩
 replace HM74 := Ft.res (U := [(0, 0), (1, 11)]) HM74 hs73 [11] rfl rfl rfl
 replace hs73 := Step.lift (U := [(0, 0), (1, 11)]) hs73 [11] rfl rfl
 generalize up C61_ C72 w60.heap.size [(0, 0), (1, 11)] = C72_ at HM74 hs73
 replace HS := HS.trans hs73 hc rfl
 (try simp only [Act.put, List.setIfInBounds_toArray, ls0, ls1])
 refine mv_ rfl ?_
 refine st (.int .i64 t66) rfl rfl (xr_extract (.tuple #[.int .i64 t66, .int .i64 t67]) _ rfl rfl rfl) ?_
 refine st (.int .i64 t67) rfl rfl (xr_extract (.tuple #[.int .i64 t66, .int .i64 t67]) _ rfl rfl rfl) ?_
 refine as_ rfl ?_
 simp only [ls0, ls1]
 refine as_ rfl ?_
 refine wl_end ?_
 (try simp only [ls0, ls1])
 refine hK65 _ _ ?_
 (try clear hK65 K65)
 refine wp_seq_k fun K75 hK75 => ?_
 refine wl_region ?_
 refine mv_ rfl ?_
 obtain ⟨⟨t76, t77, t78⟩, A79, H⟩ := bnd H
 (try dsimp only at H)
 refine st_call #[v63, .int .i64 1, .int .i64 2, .int .i64 2] rfl rfl Try.func21 (by kernel_rfl) rfl rfl (mp_ rfl) ?_
 refine (maxflow_Net_Add.calls k v63 t68 1 2 2 t76 t77 t78  (fun z_ => pal [(0, 0), (11, 1)] (C72_ z_)) w71 (fun _ => pal_lt rfl _) (Ft.arg HM74 rfl) A79).mono ?_
 rintro _ w81 ⟨C82, rfl, hs83, HM84⟩
 refine ⟨_, rfl, ?_⟩
 replace HM84 := Ft.res (U := [(0, 0), (1, 11)]) HM84 hs83 [11] rfl rfl rfl
 replace hs83 := Step.lift (U := [(0, 0), (1, 11)]) hs83 [11] rfl rfl
 generalize up C72_ C82 w71.heap.size [(0, 0), (1, 11)] = C82_ at HM84 hs83
 replace HS := HS.trans hs83 hc rfl
 (try simp only [Act.put, List.setIfInBounds_toArray, ls0, ls1])
 refine mv_ rfl ?_
 refine st (.int .i64 t76) rfl rfl (xr_extract (.tuple #[.int .i64 t76, .int .i64 t77]) _ rfl rfl rfl) ?_
 refine st (.int .i64 t77) rfl rfl (xr_extract (.tuple #[.int .i64 t76, .int .i64 t77]) _ rfl rfl rfl) ?_
 refine as_ rfl ?_
 simp only [ls0, ls1]
 refine as_ rfl ?_
 refine wl_end ?_
 (try simp only [ls0, ls1])
 refine hK75 _ _ ?_
 (try clear hK75 K75)
 refine wp_seq_k fun K85 hK85 => ?_
 refine wl_region ?_
 refine mv_ rfl ?_
 obtain ⟨⟨t86, t87, t88⟩, A89, H⟩ := bnd H
 (try dsimp only at H)
 refine st_call #[v63, .int .i64 0, .int .i64 2] rfl rfl Try.func17 (by kernel_rfl) rfl rfl (mp_ rfl) ?_
 refine (maxflow_Net_Max.calls k v63 t78 0 2 t86 t87 t88  (fun z_ => pal [(0, 0), (11, 1)] (C82_ z_)) w81 (fun _ => pal_lt rfl _) (Ft.arg HM84 rfl) A89).mono ?_
 rintro _ w91 ⟨C92, rfl, hs93, HM94⟩
 refine ⟨_, rfl, ?_⟩
 replace HM94 := Ft.res (U := [(0, 0), (1, 11)]) HM94 hs93 [11] rfl rfl rfl
 replace hs93 := Step.lift (U := [(0, 0), (1, 11)]) hs93 [11] rfl rfl
 generalize up C82_ C92 w81.heap.size [(0, 0), (1, 11)] = C92_ at HM94 hs93
 replace HS := HS.trans hs93 hc rfl
 (try simp only [Act.put, List.setIfInBounds_toArray, ls0, ls1])
 refine mv_ rfl ?_
 refine st (.int .i64 t86) rfl rfl (xr_extract (.tuple #[.int .i64 t86, .int .i64 t87]) _ rfl rfl rfl) ?_
 refine st (.int .i64 t87) rfl rfl (xr_extract (.tuple #[.int .i64 t86, .int .i64 t87]) _ rfl rfl rfl) ?_
 refine as_ rfl ?_
 simp only [ls0, ls1]
 refine as_ rfl ?_
 refine wl_end ?_
 (try simp only [ls0, ls1])
 refine hK85 _ _ ?_
 (try clear hK85 K85)
 refine wp_seq_k fun K95 hK95 => ?_
 refine wl_region ?_
 refine mv_ rfl ?_
 refine st (.bool (decide (t67 = 0))) rfl rfl (xr_bin _ _ _ rfl rfl rfl (B.eql_i64 _ _)) ?_
 refine mv_ rfl ?_
 by_cases c96 : t67 = 0
 ·rw [if_pos c96] at H
  (try rw [(decide_eq_true c96)])
  refine on_guard (guard_on 2 true 26 rfl rfl rfl) ?_
  refine mv_ rfl ?_
  simp only [ls0, ls1]
  refine on_guard (guard_on 2 true 26 rfl rfl rfl) ?_
  refine st (.bool (decide (t77 = 0))) rfl rfl (xr_bin _ _ _ rfl rfl rfl (B.eql_i64 _ _)) ?_
  refine st (.bool (decide (t77 = 0))) rfl rfl (xr_pick true _ rfl rfl rfl) ?_
  refine mv_ rfl ?_
  by_cases c97 : t77 = 0
  ·rw [if_pos c97] at H
   (try rw [(decide_eq_true c97)])
   refine on_guard (guard_on 6 true 30 rfl rfl rfl) ?_
   refine mv_ rfl ?_
   simp only [ls0, ls1]
   refine on_guard (guard_on 6 true 30 rfl rfl rfl) ?_
   refine st (.bool (decide (t76 = 1))) rfl rfl (xr_bin _ _ _ rfl rfl rfl (B.eql_i64 _ _)) ?_
   refine st (.bool (decide (t76 = 1))) rfl rfl (xr_pick true _ rfl rfl rfl) ?_
   refine mv_ rfl ?_
   by_cases c98 : t76 = 1
   ·rw [if_pos c98] at H
    (try rw [(decide_eq_true c98)])
    refine on_guard (guard_on 10 true 34 rfl rfl rfl) ?_
    refine mv_ rfl ?_
    simp only [ls0, ls1]
    refine on_guard (guard_on 10 true 34 rfl rfl rfl) ?_
    refine st (.bool (decide (t86 = 2))) rfl rfl (xr_bin _ _ _ rfl rfl rfl (B.eql_i64 _ _)) ?_
    refine st (.bool (decide (t86 = 2))) rfl rfl (xr_pick true _ rfl rfl rfl) ?_
    refine mv_ rfl ?_
    by_cases c99 : t86 = 2
    ·rw [if_pos c99] at H
     (try rw [(decide_eq_true c99)])
     refine on_guard (guard_on 14 true 38 rfl rfl rfl) ?_
     refine mv_ rfl ?_
     simp only [ls0, ls1]
     refine on_guard (guard_on 14 true 38 rfl rfl rfl) ?_
     refine st (.bool (decide (t87 = 0))) rfl rfl (xr_bin _ _ _ rfl rfl rfl (B.eql_i64 _ _)) ?_
     refine st (.bool (decide (t87 = 0))) rfl rfl (xr_pick true _ rfl rfl rfl) ?_
     refine mv_ rfl ?_
     by_cases c100 : t87 = 0
     ·rw [if_pos c100] at H
      (try rw [(decide_eq_true c100)])
      refine on_guard (guard_on 18 true 42 rfl rfl rfl) ?_
      refine mv_ rfl ?_
      simp only [ls0, ls1]
      refine on_guard (guard_on 18 true 42 rfl rfl rfl) ?_
      obtain ⟨⟨t101, t102⟩, A103, H⟩ := bnd H
      (try dsimp only at H)
      refine st_call #[v63, .int .i64 0] rfl rfl Try.func18 (by kernel_rfl) rfl rfl (mp_ rfl) ?_
      refine (maxflow_Net_Flow.calls v63 t88 0 t101 t102  (fun z_ => pal [(0, 0), (11, 1)] (C92_ z_)) w91 (fun _ => pal_lt rfl _) (Ft.arg HM94 rfl) A103).mono ?_
      rintro _ w105 ⟨C106, rfl, hs107, HM108⟩
      refine ⟨_, rfl, ?_⟩
      replace HM108 := Ft.res (U := [(0, 0), (1, 11)]) HM108 hs107 [11] rfl rfl rfl
      replace hs107 := Step.lift (U := [(0, 0), (1, 11)]) hs107 [11] rfl rfl
      generalize up C92_ C106 w91.heap.size [(0, 0), (1, 11)] = C106_ at HM108 hs107
      replace HS := HS.trans hs107 hc rfl
      (try simp only [Act.put, List.setIfInBounds_toArray, ls0, ls1])
      refine on_guard (guard_on 18 true 42 rfl rfl rfl) ?_
      refine st (.bool (decide (t101 = 2))) rfl rfl (xr_bin _ _ _ rfl rfl rfl (B.eql_i64 _ _)) ?_
      refine st (.bool (decide (t101 = 2))) rfl rfl (xr_pick true _ rfl rfl rfl) ?_
      refine as_ rfl ?_
      refine wl_end ?_
      (try simp only [ls0, ls1])
      refine hK95 _ _ ?_
      (try clear hK95 K95)
      refine wp_ret ?_
      (try simp only [Exit.inBlock, Exit.then, Exit.noGoto])
      (try simp only [ls0, ls1])
      obtain rfl := Option.some.inj H
      refine bodyPost_ret (results_tmp rfl _ _ _) rfl ?_
      exact ⟨_, rfl, HS⟩
     rw [if_neg c100] at H
     (try rw [(decide_eq_false c100)])
     refine sk_guard (guard_off 18 true 42 rfl rfl false (by decide) rfl) rfl ?_
     refine sk_guard (guard_off 18 true 42 rfl rfl false (by decide) rfl) rfl ?_
     refine sk_guard (guard_off 18 true 42 rfl rfl false (by decide) rfl) rfl ?_
     refine st (.bool false) rfl rfl (xr_pick false _ rfl rfl rfl) ?_
     simp only [ls0, ls1]
     refine as_ rfl ?_
     refine wl_end ?_
     (try simp only [ls0, ls1])
     refine hK95 _ _ ?_
     (try clear hK95 K95)
     refine wp_ret ?_
     (try simp only [Exit.inBlock, Exit.then, Exit.noGoto])
     (try simp only [ls0, ls1])
     obtain rfl := Option.some.inj H
     refine bodyPost_ret (results_tmp rfl _ _ _) rfl ?_
     exact ⟨_, rfl, HS⟩
    rw [if_neg c99] at H
    (try rw [(decide_eq_false c99)])
    refine sk_guard (guard_off 14 true 38 rfl rfl false (by decide) rfl) rfl ?_
    refine sk_guard (guard_off 14 true 38 rfl rfl false (by decide) rfl) rfl ?_
    refine st (.bool false) rfl rfl (xr_pick false _ rfl rfl rfl) ?_
    refine mv_ rfl ?_
    simp only [ls0, ls1]
    refine sk_guard (guard_off 18 true 42 rfl rfl false (by decide) rfl) rfl ?_
    refine sk_guard (guard_off 18 true 42 rfl rfl false (by decide) rfl) rfl ?_
    refine sk_guard (guard_off 18 true 42 rfl rfl false (by decide) rfl) rfl ?_
    refine st (.bool false) rfl rfl (xr_pick false _ rfl rfl rfl) ?_
    simp only [ls0, ls1]
    refine as_ rfl ?_
    refine wl_end ?_
    (try simp only [ls0, ls1])
    refine hK95 _ _ ?_
    (try clear hK95 K95)
    refine wp_ret ?_
    (try simp only [Exit.inBlock, Exit.then, Exit.noGoto])
    (try simp only [ls0, ls1])
    obtain rfl := Option.some.inj H
    refine bodyPost_ret (results_tmp rfl _ _ _) rfl ?_
    exact ⟨_, rfl, HS⟩
   rw [if_neg c98] at H
   (try rw [(decide_eq_false c98)])
   refine sk_guard (guard_off 10 true 34 rfl rfl false (by decide) rfl) rfl ?_
   refine sk_guard (guard_off 10 true 34 rfl rfl false (by decide) rfl) rfl ?_
   refine st (.bool false) rfl rfl (xr_pick false _ rfl rfl rfl) ?_
   refine mv_ rfl ?_
   simp only [ls0, ls1]
   refine sk_guard (guard_off 14 true 38 rfl rfl false (by decide) rfl) rfl ?_
   refine sk_guard (guard_off 14 true 38 rfl rfl false (by decide) rfl) rfl ?_
   refine st (.bool false) rfl rfl (xr_pick false _ rfl rfl rfl) ?_
   refine mv_ rfl ?_
   simp only [ls0, ls1]
   refine sk_guard (guard_off 18 true 42 rfl rfl false (by decide) rfl) rfl ?_
   refine sk_guard (guard_off 18 true 42 rfl rfl false (by decide) rfl) rfl ?_
   refine sk_guard (guard_off 18 true 42 rfl rfl false (by decide) rfl) rfl ?_
   refine st (.bool false) rfl rfl (xr_pick false _ rfl rfl rfl) ?_
   simp only [ls0, ls1]
   refine as_ rfl ?_
   refine wl_end ?_
   (try simp only [ls0, ls1])
   refine hK95 _ _ ?_
   (try clear hK95 K95)
   refine wp_ret ?_
   (try simp only [Exit.inBlock, Exit.then, Exit.noGoto])
   (try simp only [ls0, ls1])
   obtain rfl := Option.some.inj H
   refine bodyPost_ret (results_tmp rfl _ _ _) rfl ?_
   exact ⟨_, rfl, HS⟩
  rw [if_neg c97] at H
  (try rw [(decide_eq_false c97)])
  refine sk_guard (guard_off 6 true 30 rfl rfl false (by decide) rfl) rfl ?_
  refine sk_guard (guard_off 6 true 30 rfl rfl false (by decide) rfl) rfl ?_
  refine st (.bool false) rfl rfl (xr_pick false _ rfl rfl rfl) ?_
  refine mv_ rfl ?_
  simp only [ls0, ls1]
  refine sk_guard (guard_off 10 true 34 rfl rfl false (by decide) rfl) rfl ?_
  refine sk_guard (guard_off 10 true 34 rfl rfl false (by decide) rfl) rfl ?_
  refine st (.bool false) rfl rfl (xr_pick false _ rfl rfl rfl) ?_
  refine mv_ rfl ?_
  simp only [ls0, ls1]
  refine sk_guard (guard_off 14 true 38 rfl rfl false (by decide) rfl) rfl ?_
  refine sk_guard (guard_off 14 true 38 rfl rfl false (by decide) rfl) rfl ?_
  refine st (.bool false) rfl rfl (xr_pick false _ rfl rfl rfl) ?_
  refine mv_ rfl ?_
  simp only [ls0, ls1]
  refine sk_guard (guard_off 18 true 42 rfl rfl false (by decide) rfl) rfl ?_
  refine sk_guard (guard_off 18 true 42 rfl rfl false (by decide) rfl) rfl ?_
  refine sk_guard (guard_off 18 true 42 rfl rfl false (by decide) rfl) rfl ?_
  refine st (.bool false) rfl rfl (xr_pick false _ rfl rfl rfl) ?_
  simp only [ls0, ls1]
  refine as_ rfl ?_
  refine wl_end ?_
  (try simp only [ls0, ls1])
  refine hK95 _ _ ?_
  (try clear hK95 K95)
  refine wp_ret ?_
  (try simp only [Exit.inBlock, Exit.then, Exit.noGoto])
  (try simp only [ls0, ls1])
  obtain rfl := Option.some.inj H
  refine bodyPost_ret (results_tmp rfl _ _ _) rfl ?_
  exact ⟨_, rfl, HS⟩
 rw [if_neg c96] at H
 (try rw [(decide_eq_false c96)])
 refine sk_guard (guard_off 2 true 26 rfl rfl false (by decide) rfl) rfl ?_
 refine sk_guard (guard_off 2 true 26 rfl rfl false (by decide) rfl) rfl ?_
 refine st (.bool false) rfl rfl (xr_pick false _ rfl rfl rfl) ?_
 refine mv_ rfl ?_
 simp only [ls0, ls1]
 refine sk_guard (guard_off 6 true 30 rfl rfl false (by decide) rfl) rfl ?_
 refine sk_guard (guard_off 6 true 30 rfl rfl false (by decide) rfl) rfl ?_
 refine st (.bool false) rfl rfl (xr_pick false _ rfl rfl rfl) ?_
 refine mv_ rfl ?_
 simp only [ls0, ls1]
 refine sk_guard (guard_off 10 true 34 rfl rfl false (by decide) rfl) rfl ?_
 refine sk_guard (guard_off 10 true 34 rfl rfl false (by decide) rfl) rfl ?_
 refine st (.bool false) rfl rfl (xr_pick false _ rfl rfl rfl) ?_
 refine mv_ rfl ?_
 simp only [ls0, ls1]
 refine sk_guard (guard_off 14 true 38 rfl rfl false (by decide) rfl) rfl ?_
 refine sk_guard (guard_off 14 true 38 rfl rfl false (by decide) rfl) rfl ?_
 refine st (.bool false) rfl rfl (xr_pick false _ rfl rfl rfl) ?_
 refine mv_ rfl ?_
 simp only [ls0, ls1]
 refine sk_guard (guard_off 18 true 42 rfl rfl false (by decide) rfl) rfl ?_
 refine sk_guard (guard_off 18 true 42 rfl rfl false (by decide) rfl) rfl ?_
 refine sk_guard (guard_off 18 true 42 rfl rfl false (by decide) rfl) rfl ?_
 refine st (.bool false) rfl rfl (xr_pick false _ rfl rfl rfl) ?_
 simp only [ls0, ls1]
 refine as_ rfl ?_
 refine wl_end ?_
 (try simp only [ls0, ls1])
 refine hK95 _ _ ?_
 (try clear hK95 K95)
 refine wp_ret ?_
 (try simp only [Exit.inBlock, Exit.then, Exit.noGoto])
 (try simp only [ls0, ls1])
 obtain rfl := Option.some.inj H
 refine bodyPost_ret (results_tmp rfl _ _ _) rfl ?_
 exact ⟨_, rfl, HS⟩

/-! ### blazonref01_Add: function 44 -/
def blazonref01_Add.j0 (a0 : Int) (a1 : Int) (x33 : Bool) : Option (Int × Bool) := if x33 = true then (some (0, false)) else (some (wrap64 (a0 + a1), true))
def blazonref01_Add.f (a0 : Int) (a1 : Int) : Option (Int × Bool) := if a1 > 0 then (if a0 > (wrap64 (9223372036854775807 - a1)) then (blazonref01_Add.j0 a0 a1 true) else (if a1 < 0 then (blazonref01_Add.j0 a0 a1 (decide (a0 < (wrap64 ((-9223372036854775808) - a1))))) else (blazonref01_Add.j0 a0 a1 false))) else (if a1 < 0 then (blazonref01_Add.j0 a0 a1 (decide (a0 < (wrap64 ((-9223372036854775808) - a1))))) else (blazonref01_Add.j0 a0 a1 false))
set_option maxHeartbeats 8000000 in
set_option maxRecDepth 100000 in
theorem blazonref01_Add.calls (a0 : Int) (a1 : Int) (r1 : Int) (r2 : Bool) (c : Nat → Nat) (w : World) (hc : ∀ k, c k < 10)  (H : blazonref01_Add.f a0 a1 = some (r1, r2)) :
    Calls Try.prog 44 #[.int .i64 a0, .int .i64 a1] w fun e w' => ∃ (c' : Nat → Nat) , e = .returned (.tuple #[.int .i64 r1, .bool r2]) ∧ Step c w c' w' [] := by
 unfold blazonref01_Add.f at H
 have HS := Step.refl c w []
 go_enter Try.func44, Try.ntmps44
 refine wp_seq_k fun K22 hK22 => ?_
 refine wl_region ?_
 refine st (.int .i64 0) rfl rfl (xr_assign _ rfl rfl) ?_
 refine st (.bool false) rfl rfl (xr_assign _ rfl rfl) ?_
 refine wl_end ?_
 (try simp only [ls0, ls1])
 refine hK22 _ _ ?_
 (try clear hK22 K22)
 refine wp_seq_k fun K23 hK23 => ?_
 refine wp_seq_k fun K24 hK24 => ?_
 have hj29 : ∀ (C30 : Nat → Nat) (w31 : World) (x33 : Bool) (g_ : Nat → Value), Step c w C30 w31 [] → blazonref01_Add.j0 a0 a1 x33 = some (r1, r2) → K24 ⟨#[.int .i64 a0, .int .i64 a1, (g_ 2), (g_ 3), (g_ 4), (g_ 5), (g_ 6), (g_ 7), (g_ 8), (g_ 9), (g_ 10), (g_ 11), (g_ 12), (g_ 13), (g_ 14), (g_ 15), (g_ 16), (g_ 17), (g_ 18), (g_ 19), (g_ 20), (g_ 21), (g_ 22), .bool x33, (g_ 24), (g_ 25), (g_ 26)], []⟩ w31 := by
  intro C30 w31 x33 g_ HS32  H
  unfold blazonref01_Add.j0 at H
  refine hK24 _ _ ?_
  (try clear hK24)
  by_cases c36 : x33 = true
  ·rw [if_pos c36] at H
   (try rw [c36])
   refine wp_cond_true rfl ?_
   refine wp_seq_k fun K37 hK37 => ?_
   refine wl_region ?_
   refine st (.int .i64 0) rfl rfl (xr_assign _ rfl rfl) ?_
   refine st (.bool false) rfl rfl (xr_assign _ rfl rfl) ?_
   simp only [ls0, ls1]
   refine wl_end ?_
   (try simp only [ls0, ls1])
   refine hK37 _ _ ?_
   (try clear hK37 K37)
   refine wp_ret ?_
   (try simp only [Exit.inBlock, Exit.then, Exit.noGoto])
   (try simp only [ls0, ls1])
   simp only [Option.some.injEq, Prod.mk.injEq] at H
   obtain ⟨rfl, rfl⟩ := H
   refine bodyPost_ret (results_tmp2 rfl _ _ _) rfl ?_
   exact ⟨_, rfl, HS32⟩
  rw [if_neg c36] at H
  (try rw [(Bool.eq_false_iff.mpr c36)])
  refine wp_cond_false rfl ?_
  refine wp_skip ?_
  (try simp only [ls0, ls1])
  refine hK23 _ _ ?_
  (try clear hK23 K23)
  refine wp_seq_k fun K38 hK38 => ?_
  refine wl_region ?_
  refine mv_ rfl ?_
  refine mv_ rfl ?_
  refine st (.int .i64 (wrap64 (a0 + a1))) rfl rfl (xr_bin _ _ _ rfl rfl rfl (B.add_i64 _ _)) ?_
  refine as_ rfl ?_
  simp only [ls0, ls1]
  refine st (.bool true) rfl rfl (xr_assign _ rfl rfl) ?_
  refine wl_end ?_
  (try simp only [ls0, ls1])
  refine hK38 _ _ ?_
  (try clear hK38 K38)
  refine wp_ret ?_
  (try simp only [Exit.inBlock, Exit.then, Exit.noGoto])
  (try simp only [ls0, ls1])
  simp only [Option.some.injEq, Prod.mk.injEq] at H
  obtain ⟨rfl, rfl⟩ := H
  refine bodyPost_ret (results_tmp2 rfl _ _ _) rfl ?_
  exact ⟨_, rfl, HS32⟩
 refine wl_region ?_
 refine mv_ rfl ?_
 refine st (.bool (decide (a1 > 0))) rfl rfl (xr_bin _ _ _ rfl rfl rfl (B.gtr_i64 _ _)) ?_
 refine mv_ rfl ?_
 by_cases c39 : a1 > 0
 ·rw [if_pos c39] at H
  (try rw [(decide_eq_true c39)])
  refine on_guard (guard_on 2 true 8 rfl rfl rfl) ?_
  refine mv_ rfl ?_
  simp only [ls0, ls1]
  refine on_guard (guard_on 2 true 8 rfl rfl rfl) ?_
  refine mv_ rfl ?_
  refine on_guard (guard_on 2 true 8 rfl rfl rfl) ?_
  refine st (.int .i64 (wrap64 (9223372036854775807 - a1))) rfl rfl (xr_bin _ _ _ rfl rfl rfl (B.sub_i64 _ _)) ?_
  refine on_guard (guard_on 2 true 8 rfl rfl rfl) ?_
  refine st (.bool (decide (a0 > (wrap64 (9223372036854775807 - a1))))) rfl rfl (xr_bin _ _ _ rfl rfl rfl (B.gtr_i64 _ _)) ?_
  refine st (.bool (decide (a0 > (wrap64 (9223372036854775807 - a1))))) rfl rfl (xr_pick true _ rfl rfl rfl) ?_
  simp only [ls0, ls1]
  refine mv_ rfl ?_
  by_cases c40 : a0 > (wrap64 (9223372036854775807 - a1))
  ·rw [if_pos c40] at H
   (try rw [(decide_eq_true c40)])
   refine sk_guard (guard_off 8 false 14 rfl rfl true (by decide) rfl) rfl ?_
   refine sk_guard (guard_off 8 false 14 rfl rfl true (by decide) rfl) rfl ?_
   refine sk_guard (guard_off 8 false 14 rfl rfl true (by decide) rfl) rfl ?_
   simp only [ls0, ls1]
   refine sk_guard (guard_und 11 true 17 rfl rfl rfl) rfl ?_
   refine sk_guard (guard_und 11 true 17 rfl rfl rfl) rfl ?_
   refine sk_guard (guard_und 11 true 17 rfl rfl rfl) rfl ?_
   refine sk_guard (guard_und 11 true 17 rfl rfl rfl) rfl ?_
   simp only [ls0, ls1]
   refine sk_guard (guard_off 8 false 14 rfl rfl true (by decide) rfl) rfl ?_
   refine st (.bool true) rfl rfl (xr_pick true _ rfl rfl rfl) ?_
   refine wl_end ?_
   (try simp only [ls0, ls1])
   exact jmp (fun g_ => hj29 _ _ (true) g_ HS H) rfl
  rw [if_neg c40] at H
  (try rw [(decide_eq_false c40)])
  refine on_guard (guard_on 8 false 14 rfl rfl rfl) ?_
  refine mv_ rfl ?_
  refine on_guard (guard_on 8 false 14 rfl rfl rfl) ?_
  refine st (.bool (decide (a1 < 0))) rfl rfl (xr_bin _ _ _ rfl rfl rfl (B.lss_i64 _ _)) ?_
  refine on_guard (guard_on 8 false 14 rfl rfl rfl) ?_
  refine mv_ rfl ?_
  by_cases c41 : a1 < 0
  ·rw [if_pos c41] at H
   (try rw [(decide_eq_true c41)])
   refine on_guard (guard_on 11 true 17 rfl rfl rfl) ?_
   refine mv_ rfl ?_
   simp only [ls0, ls1]
   refine on_guard (guard_on 11 true 17 rfl rfl rfl) ?_
   refine mv_ rfl ?_
   refine on_guard (guard_on 11 true 17 rfl rfl rfl) ?_
   refine st (.int .i64 (wrap64 ((-9223372036854775808) - a1))) rfl rfl (xr_bin _ _ _ rfl rfl rfl (B.sub_i64 _ _)) ?_
   refine on_guard (guard_on 11 true 17 rfl rfl rfl) ?_
   refine st (.bool (decide (a0 < (wrap64 ((-9223372036854775808) - a1))))) rfl rfl (xr_bin _ _ _ rfl rfl rfl (B.lss_i64 _ _)) ?_
   refine on_guard (guard_on 8 false 14 rfl rfl rfl) ?_
   refine st (.bool (decide (a0 < (wrap64 ((-9223372036854775808) - a1))))) rfl rfl (xr_pick true _ rfl rfl rfl) ?_
   simp only [ls0, ls1]
   refine st (.bool (decide (a0 < (wrap64 ((-9223372036854775808) - a1))))) rfl rfl (xr_pick false _ rfl rfl rfl) ?_
   refine wl_end ?_
   (try simp only [ls0, ls1])
   exact jmp (fun g_ => hj29 _ _ (decide (a0 < (wrap64 ((-9223372036854775808) - a1)))) g_ HS H) rfl
  rw [if_neg c41] at H
  (try rw [(decide_eq_false c41)])
  refine sk_guard (guard_off 11 true 17 rfl rfl false (by decide) rfl) rfl ?_
  refine sk_guard (guard_off 11 true 17 rfl rfl false (by decide) rfl) rfl ?_
  refine sk_guard (guard_off 11 true 17 rfl rfl false (by decide) rfl) rfl ?_
  refine sk_guard (guard_off 11 true 17 rfl rfl false (by decide) rfl) rfl ?_
  simp only [ls0, ls1]
  refine on_guard (guard_on 8 false 14 rfl rfl rfl) ?_
  refine st (.bool false) rfl rfl (xr_pick false _ rfl rfl rfl) ?_
  refine st (.bool false) rfl rfl (xr_pick false _ rfl rfl rfl) ?_
  refine wl_end ?_
  (try simp only [ls0, ls1])
  exact jmp (fun g_ => hj29 _ _ (false) g_ HS H) rfl
 rw [if_neg c39] at H
 (try rw [(decide_eq_false c39)])
 refine sk_guard (guard_off 2 true 8 rfl rfl false (by decide) rfl) rfl ?_
 refine sk_guard (guard_off 2 true 8 rfl rfl false (by decide) rfl) rfl ?_
 refine sk_guard (guard_off 2 true 8 rfl rfl false (by decide) rfl) rfl ?_
 refine sk_guard (guard_off 2 true 8 rfl rfl false (by decide) rfl) rfl ?_
 simp only [ls0, ls1]
 refine st (.bool false) rfl rfl (xr_pick false _ rfl rfl rfl) ?_
 refine mv_ rfl ?_
 refine on_guard (guard_on 8 false 14 rfl rfl rfl) ?_
 refine mv_ rfl ?_
 refine on_guard (guard_on 8 false 14 rfl rfl rfl) ?_
 refine st (.bool (decide (a1 < 0))) rfl rfl (xr_bin _ _ _ rfl rfl rfl (B.lss_i64 _ _)) ?_
 simp only [ls0, ls1]
 refine on_guard (guard_on 8 false 14 rfl rfl rfl) ?_
 refine mv_ rfl ?_
 by_cases c42 : a1 < 0
 ·rw [if_pos c42] at H
  (try rw [(decide_eq_true c42)])
  refine on_guard (guard_on 11 true 17 rfl rfl rfl) ?_
  refine mv_ rfl ?_
  refine on_guard (guard_on 11 true 17 rfl rfl rfl) ?_
  refine mv_ rfl ?_
  refine on_guard (guard_on 11 true 17 rfl rfl rfl) ?_
  refine st (.int .i64 (wrap64 ((-9223372036854775808) - a1))) rfl rfl (xr_bin _ _ _ rfl rfl rfl (B.sub_i64 _ _)) ?_
  simp only [ls0, ls1]
  refine on_guard (guard_on 11 true 17 rfl rfl rfl) ?_
  refine st (.bool (decide (a0 < (wrap64 ((-9223372036854775808) - a1))))) rfl rfl (xr_bin _ _ _ rfl rfl rfl (B.lss_i64 _ _)) ?_
  refine on_guard (guard_on 8 false 14 rfl rfl rfl) ?_
  refine st (.bool (decide (a0 < (wrap64 ((-9223372036854775808) - a1))))) rfl rfl (xr_pick true _ rfl rfl rfl) ?_
  refine st (.bool (decide (a0 < (wrap64 ((-9223372036854775808) - a1))))) rfl rfl (xr_pick false _ rfl rfl rfl) ?_
  refine wl_end ?_
  (try simp only [ls0, ls1])
  exact jmp (fun g_ => hj29 _ _ (decide (a0 < (wrap64 ((-9223372036854775808) - a1)))) g_ HS H) rfl
 rw [if_neg c42] at H
 (try rw [(decide_eq_false c42)])
 refine sk_guard (guard_off 11 true 17 rfl rfl false (by decide) rfl) rfl ?_
 refine sk_guard (guard_off 11 true 17 rfl rfl false (by decide) rfl) rfl ?_
 refine sk_guard (guard_off 11 true 17 rfl rfl false (by decide) rfl) rfl ?_
 refine sk_guard (guard_off 11 true 17 rfl rfl false (by decide) rfl) rfl ?_
 simp only [ls0, ls1]
 refine on_guard (guard_on 8 false 14 rfl rfl rfl) ?_
 refine st (.bool false) rfl rfl (xr_pick false _ rfl rfl rfl) ?_
 refine st (.bool false) rfl rfl (xr_pick false _ rfl rfl rfl) ?_
 refine wl_end ?_
 (try simp only [ls0, ls1])
 exact jmp (fun g_ => hj29 _ _ (false) g_ HS H) rfl

/-! ### blazonref25_Add: function 22 -/
mutual
def blazonref25_Add.j0 : Nat → (List (S35)) → Int → Int → Bool → Option (Int)
  | 0, _, _, _, _ => none
  | k + 1, l1, t631, x606, x646 => if x646 = true then (some 18) else (blazonref25_Add.l0 k l1 t631 (wrap64 (x606 + 1)))
def blazonref25_Add.l0 : Nat → (List (S35)) → Int → Int → Option (Int)
  | 0, _, _, _ => none
  | k + 1, l1, x605, x606 => if x606 < (l1.length : Int) then (if 0 ≤ x606 then (if ((rd_T35 l1 x606).f2) < 4611686018427387904 then ((blazonref01_Add.f x605 ((rd_T35 l1 x606).f2)).bind fun bt631 => (if bt631.2 = true then (blazonref25_Add.j0 k l1 bt631.1 x606 (decide (bt631.1 ≥ 4611686018427387904))) else (blazonref25_Add.j0 k l1 bt631.1 x606 true))) else (blazonref25_Add.l0 k l1 x605 (wrap64 (x606 + 1)))) else (none)) else (if x605 ≥ 4611686018427387904 then (some 18) else (some 0))
def blazonref25_Add.j1 : Nat → Int → (List (S35)) → Bool → Option (Int)
  | 0, _, _, _ => none
  | k + 1, a2_2, l1, x377 => if x377 = true then (some 1) else (if a2_2 = 4611686018427387904 then (some 0) else (blazonref25_Add.l0 k l1 a2_2 0))
end
def blazonref25_Add.f (k : Nat) (a0 : Int) (l1 : List (S35)) (a2_0 : Int) (a2_1 : Int) (a2_2 : Int) : Option (Int) := if a2_0 < 0 then (blazonref25_Add.j1 k a2_2 l1 true) else (if a2_1 < 0 then (blazonref25_Add.j1 k a2_2 l1 true) else (if a2_0 ≥ a0 then (blazonref25_Add.j1 k a2_2 l1 true) else (if a2_1 ≥ a0 then (blazonref25_Add.j1 k a2_2 l1 true) else (if a2_0 = a2_1 then (blazonref25_Add.j1 k a2_2 l1 true) else (if a2_2 < 0 then (blazonref25_Add.j1 k a2_2 l1 true) else (blazonref25_Add.j1 k a2_2 l1 (decide (a2_2 > 4611686018427387904))))))))

set_option maxHeartbeats 8000000 in
set_option maxRecDepth 100000 in
theorem blazonref25_Add.calls (k : Nat) (a0 : Int) (A1 : Option Addr) (c1 : Nat) (l1 : List (S35)) (a2_0 : Int) (a2_1 : Int) (a2_2 : Int) (r : Int) (c : Nat → Nat) (w : World) (hc : ∀ k, c k < 10) (HP1 : Ft c [0] w (fun w_ => k35.C w_ A1 l1.length l1)) (HCP1 : l1.length ≤ c1) (H : blazonref25_Add.f k a0 l1 a2_0 a2_1 a2_2 = some r) :
    Calls Try.prog 22 #[.int .i64 a0, .slice A1 l1.length c1, .agg #[.int .i64 a2_0, .int .i64 a2_1, .int .i64 a2_2]] w fun e w' => ∃ (c' : Nat → Nat) , e = .returned (.int .i64 r) ∧ Step c w c' w' [] := by
 unfold blazonref25_Add.f at H
 have HS := Step.refl c w []
 go_enter Try.func22, Try.ntmps22
 refine wp_seq_k fun K333 hK333 => ?_
 refine wl_region ?_
 refine bx_new (C := c) 35 ([.int .i64 a2_0, .int .i64 a2_1, .int .i64 a2_2]) 11 rfl rfl (by first | (go_simp; done) | (go_simp; rfl)) ?_
 intro g334 w335 C336 HX337 hs338
 replace HP1 := HP1.thru hs338 rfl
 replace HS := HS.trans hs338 hc rfl
 (try simp only [Act.put, List.setIfInBounds_toArray, ls0, ls1])
 refine st (.int .i64 0) rfl rfl (xr_assign _ rfl rfl) ?_
 refine wl_end ?_
 (try simp only [ls0, ls1])
 refine hK333 _ _ ?_
 (try clear hK333 K333)
 refine wp_seq_k fun K339 hK339 => ?_
 refine wp_seq_k fun K365 hK365 => ?_
 have hj372 : ∀ (kq379 : Nat) (C373 : Nat → Nat) (w374 : World) (x377 : Bool) (g_ : Nat → Value), Step c w C373 w374 [] → kq379 ≤ k → (Ft C373 [0] w374 (fun w_ => k35.C w_ A1 l1.length l1)) → (Bx C373 11 w374 g334 35 ([.int .i64 a2_0, .int .i64 a2_1, .int .i64 a2_2])) → blazonref25_Add.j1 kq379 a2_2 l1 x377 = some r → K365 ⟨#[(g_ 0), .slice A1 l1.length c1, (g_ 2), (g_ 3), (g_ 4), .pointer (some ⟨g334, 0, none⟩), (g_ 6), (g_ 7), (g_ 8), (g_ 9), (g_ 10), (g_ 11), (g_ 12), (g_ 13), (g_ 14), (g_ 15), (g_ 16), (g_ 17), (g_ 18), (g_ 19), (g_ 20), (g_ 21), (g_ 22), (g_ 23), (g_ 24), (g_ 25), (g_ 26), (g_ 27), (g_ 28), (g_ 29), (g_ 30), (g_ 31), (g_ 32), (g_ 33), (g_ 34), (g_ 35), (g_ 36), (g_ 37), (g_ 38), (g_ 39), (g_ 40), (g_ 41), (g_ 42), (g_ 43), (g_ 44), (g_ 45), (g_ 46), .bool x377, (g_ 48), (g_ 49), (g_ 50), (g_ 51), (g_ 52), (g_ 53), (g_ 54), (g_ 55), (g_ 56), (g_ 57), (g_ 58), (g_ 59), (g_ 60), (g_ 61), (g_ 62), (g_ 63), (g_ 64), (g_ 65), (g_ 66), (g_ 67), (g_ 68), (g_ 69), (g_ 70), (g_ 71), (g_ 72), (g_ 73), (g_ 74), (g_ 75), (g_ 76), (g_ 77), (g_ 78), (g_ 79), (g_ 80), (g_ 81), (g_ 82), (g_ 83)], []⟩ w374 := by
  intro kq379 C373 w374 x377 g_ HS375 hk380 HJ376 HJ378 H
  cases kq379 with
  | zero => exact absurd H (by simp [blazonref25_Add.j1])
  | succ k381 =>
   simp only [blazonref25_Add.j1] at H
   refine hK365 _ _ ?_
   (try clear hK365)
   by_cases c382 : x377 = true
   ·rw [if_pos c382] at H
    (try rw [c382])
    refine wp_cond_true rfl ?_
    refine wp_seq_k fun K383 hK383 => ?_
    refine wl_region ?_
    refine st (.int .i64 1) rfl rfl (xr_assign _ rfl rfl) ?_
    refine wl_end ?_
    (try simp only [ls0, ls1])
    refine hK383 _ _ ?_
    (try clear hK383 K383)
    refine wp_ret ?_
    (try simp only [Exit.inBlock, Exit.then, Exit.noGoto])
    (try simp only [ls0, ls1])
    obtain rfl := Option.some.inj H
    refine bodyPost_ret (results_tmp rfl _ _ _) rfl ?_
    exact ⟨_, rfl, HS375⟩
   rw [if_neg c382] at H
   (try rw [(Bool.eq_false_iff.mpr c382)])
   refine wp_cond_false rfl ?_
   refine wp_skip ?_
   (try simp only [ls0, ls1])
   refine hK339 _ _ ?_
   (try clear hK339 K339)
   refine wp_seq_k fun K384 hK384 => ?_
   refine wp_seq_k fun K385 hK385 => ?_
   refine wl_region ?_
   refine st (.pointer (some ⟨g334, 2, none⟩)) rfl rfl (xr_fieldAddr _ _ rfl rfl (bx_field2 Try.underlying35 rfl rfl (by kernel_rfl))) ?_
   refine st (.int .i64 a2_2) rfl rfl (xr_load _ _ rfl rfl (load_cell Try.underlying2 rfl (bx_cell (HJ378).2 2 rfl))) ?_
   refine st (.bool (decide (a2_2 = 4611686018427387904))) rfl rfl (xr_bin _ _ _ rfl rfl rfl (B.eql_i64 _ _)) ?_
   refine wl_end ?_
   (try simp only [ls0, ls1])
   refine hK385 _ _ ?_
   (try clear hK385 K385)
   by_cases c386 : a2_2 = 4611686018427387904
   ·rw [if_pos c386] at H
    (try rw [(decide_eq_true c386)])
    refine wp_cond_true rfl ?_
    refine wp_seq_k fun K387 hK387 => ?_
    refine wl_region ?_
    refine st (.int .i64 0) rfl rfl (xr_assign _ rfl rfl) ?_
    refine wl_end ?_
    (try simp only [ls0, ls1])
    refine hK387 _ _ ?_
    (try clear hK387 K387)
    refine wp_ret ?_
    (try simp only [Exit.inBlock, Exit.then, Exit.noGoto])
    (try simp only [ls0, ls1])
    obtain rfl := Option.some.inj H
    refine bodyPost_ret (results_tmp rfl _ _ _) rfl ?_
    exact ⟨_, rfl, HS375⟩
   rw [if_neg c386] at H
   (try rw [(decide_eq_false c386)])
   refine wp_cond_false rfl ?_
   refine wp_skip ?_
   (try simp only [ls0, ls1])
   refine hK384 _ _ ?_
   (try clear hK384 K384)
   refine wp_seq_k fun K388 hK388 => ?_
   refine wl_region ?_
   refine st (.pointer (some ⟨g334, 2, none⟩)) rfl rfl (xr_fieldAddr _ _ rfl rfl (bx_field2 Try.underlying35 rfl rfl (by kernel_rfl))) ?_
   refine st (.int .i64 a2_2) rfl rfl (xr_load _ _ rfl rfl (load_cell Try.underlying2 rfl (bx_cell (HJ378).2 2 rfl))) ?_
   refine as_ rfl ?_
   refine wl_end ?_
   (try simp only [ls0, ls1])
   refine hK388 _ _ ?_
   (try clear hK388 K388)
   refine wp_seq_k fun K389 hK389 => ?_
   refine wp_seq_k fun K522 hK522 => ?_
   refine wl_region ?_
   refine st (.int .i64 0) rfl rfl (xr_assign _ rfl rfl) ?_
   refine wl_end ?_
   (try simp only [ls0, ls1])
   refine hK522 _ _ ?_
   (try clear hK522 K522)
   refine wp_block ?_
   (try simp only [ls0, ls1])
   refine wp_looped (looped_fin (fun kq610 a_ w609 => ∃ (C608 : Nat → Nat) (x605 : Int) (x606 : Int) (g_ : Nat → Value), a_ = ⟨#[(g_ 0), .slice A1 l1.length c1, (g_ 2), (g_ 3), (g_ 4), (g_ 5), (g_ 6), .int .i64 x605, .int .i64 x606, (g_ 9), (g_ 10), (g_ 11), (g_ 12), (g_ 13), (g_ 14), (g_ 15), (g_ 16), (g_ 17), (g_ 18), (g_ 19), (g_ 20), (g_ 21), (g_ 22), (g_ 23), (g_ 24), (g_ 25), (g_ 26), (g_ 27), (g_ 28), (g_ 29), (g_ 30), (g_ 31), (g_ 32), (g_ 33), (g_ 34), (g_ 35), (g_ 36), (g_ 37), (g_ 38), (g_ 39), (g_ 40), (g_ 41), (g_ 42), (g_ 43), (g_ 44), (g_ 45), (g_ 46), (g_ 47), (g_ 48), (g_ 49), (g_ 50), (g_ 51), (g_ 52), (g_ 53), (g_ 54), (g_ 55), (g_ 56), (g_ 57), (g_ 58), (g_ 59), (g_ 60), (g_ 61), (g_ 62), (g_ 63), (g_ 64), (g_ 65), (g_ 66), (g_ 67), (g_ 68), (g_ 69), (g_ 70), (g_ 71), (g_ 72), (g_ 73), (g_ 74), (g_ 75), (g_ 76), (g_ 77), (g_ 78), (g_ 79), (g_ 80), (g_ 81), (g_ 82), (g_ 83)], []⟩ ∧ Step c w C608 w609 [] ∧ kq610 ≤ k381 ∧ (Ft C608 [0] w609 (fun w_ => k35.C w_ A1 l1.length l1)) ∧ (Bx C608 11 w609 g334 35 ([.int .i64 a2_0, .int .i64 a2_1, .int .i64 a2_2])) ∧ blazonref25_Add.l0 kq610 l1 x605 x606 = some r) ?step fun hL_ => ?init)
   case init =>
    exact jmpL (fun a_ h_ => hL_ k381 a_ _ h_) (fun g_ => ⟨_, a2_2, 0, g_, rfl, HS375, Nat.le_refl _, HJ376, HJ378, H⟩) rfl
   case step =>
    intro kq610 ih613 a614 w609 hr615
    obtain ⟨C608, x605, x606, g_, rfl, HS611, hk612, HJ604, HJ607, H⟩ := hr615
    refine looped_round ?_
    cases kq610 with
    | zero => exact absurd H (by simp [blazonref25_Add.l0])
    | succ k616 =>
     simp only [blazonref25_Add.l0] at H
     refine wp_seq_k fun K617 hK617 => ?_
     refine wp_seq_k fun K618 hK618 => ?_
     refine wl_region ?_
     refine mv_ rfl ?_
     refine mv_ rfl ?_
     refine st (.int .i64 (l1.length : Int)) rfl rfl (xr_builtin #[.slice A1 l1.length c1] (.int .i64 (l1.length : Int)) rfl (mp_ rfl) (by first | rfl | (go_simp; done) | (go_simp; rfl) | (go_simp; exact i64_w _) | (go_simp; exact i32_w _))) ?_
     refine st (.bool (decide (x606 < (l1.length : Int)))) rfl rfl (xr_bin _ _ _ rfl rfl rfl (B.lss_i64 _ _)) ?_
     simp only [ls0, ls1]
     refine wl_end ?_
     (try simp only [ls0, ls1])
     refine hK618 _ _ ?_
     (try clear hK618 K618)
     by_cases c619 : x606 < (l1.length : Int)
     ·rw [if_pos c619] at H
      (try rw [(decide_eq_true c619)])
      refine wp_cond_true rfl ?_
      refine wp_skip ?_
      (try simp only [ls0, ls1])
      refine hK617 _ _ ?_
      (try clear hK617 K617)
      refine wp_seq_k fun K620 hK620 => ?_
      refine wp_block ?_
      refine wp_seq_k fun K621 hK621 => ?_
      refine wl_region ?_
      refine mv_ rfl ?_
      refine mv_ rfl ?_
      obtain ⟨c622, H⟩ := if_some H
      obtain ⟨ad623, hA624⟩ := c_addr (Ft.now HJ604) (pos_of (j := x606) (by first | assumption | decide) (by first | assumption | omega))
      refine st (.pointer (some (ad623.add ((x606 : Int).toNat * 3)))) rfl rfl (xr_indexAddr _ _ _ rfl rfl rfl (index_at Try.underlying22 info35 hA624 (by first | assumption | decide | omega) (by first | assumption | decide | omega))) ?_
      refine st (.pointer (some ((ad623.add ((x606 : Int).toNat * 3)).add 2))) rfl rfl (xr_fieldAddr _ _ rfl rfl (field_at2 Try.underlying35 rfl rfl (by kernel_rfl))) ?_
      simp only [ls0, ls1]
      refine st (.int .i64 ((rd_T35 l1 x606).f2)) rfl rfl (xr_load (.pointer (some ((ad623.add ((x606 : Int).toNat * 3)).add 2))) (.int .i64 ((rd_T35 l1 x606).f2)) rfl rfl (by obtain ⟨ad_, cs_, e_, _, hK_, hc_⟩ := Kd.C_get (Ft.now HJ604) z35 x606 (by first | assumption | decide | omega) (by first | assumption | decide | omega); rw [hA624] at e_; injection e_ with e_; subst e_; obtain rfl := k35_open hK_; exact load_cell Try.underlying2 rfl (by first | (rw [add_add]; exact hc_ 2 _ rfl) | (have h_ := hc_ 2 _ rfl; rw [Nat.add_zero] at h_; exact h_)))) ?_
      refine st (.bool (decide (((rd_T35 l1 x606).f2) < 4611686018427387904))) rfl rfl (xr_bin _ _ _ rfl rfl rfl (B.lss_i64 _ _)) ?_
      refine wl_end ?_
      (try simp only [ls0, ls1])
      refine hK621 _ _ ?_
      (try clear hK621 K621)
      by_cases c626 : ((rd_T35 l1 x606).f2) < 4611686018427387904
      ·rw [if_pos c626] at H
       (try rw [(decide_eq_true c626)])
       refine wp_cond_true rfl ?_
       refine wp_seq_k fun K627 hK627 => ?_
       refine wl_region ?_
       refine mv_ rfl ?_
       refine mv_ rfl ?_
       refine mv_ rfl ?_
       obtain ⟨ad628, hA629⟩ := c_addr (Ft.now HJ604) (pos_of (j := x606) (by first | assumption | decide) (by first | assumption | omega))
       refine st (.pointer (some (ad628.add ((x606 : Int).toNat * 3)))) rfl rfl (xr_indexAddr _ _ _ rfl rfl rfl (index_at Try.underlying22 info35 hA629 (by first | assumption | decide | omega) (by first | assumption | decide | omega))) ?_
       simp only [ls0, ls1]
       refine st (.pointer (some ((ad628.add ((x606 : Int).toNat * 3)).add 2))) rfl rfl (xr_fieldAddr _ _ rfl rfl (field_at2 Try.underlying35 rfl rfl (by kernel_rfl))) ?_
       refine st (.int .i64 ((rd_T35 l1 x606).f2)) rfl rfl (xr_load (.pointer (some ((ad628.add ((x606 : Int).toNat * 3)).add 2))) (.int .i64 ((rd_T35 l1 x606).f2)) rfl rfl (by obtain ⟨ad_, cs_, e_, _, hK_, hc_⟩ := Kd.C_get (Ft.now HJ604) z35 x606 (by first | assumption | decide | omega) (by first | assumption | decide | omega); rw [hA629] at e_; injection e_ with e_; subst e_; obtain rfl := k35_open hK_; exact load_cell Try.underlying2 rfl (by first | (rw [add_add]; exact hc_ 2 _ rfl) | (have h_ := hc_ 2 _ rfl; rw [Nat.add_zero] at h_; exact h_)))) ?_
       obtain ⟨⟨t631, t632⟩, A633, H⟩ := bnd H
       (try dsimp only at H)
       refine st_call #[.int .i64 x605, .int .i64 ((rd_T35 l1 x606).f2)] rfl rfl Try.func44 (by kernel_rfl) rfl rfl (mp_ rfl) ?_
       refine (blazonref01_Add.calls x605 ((rd_T35 l1 x606).f2) t631 t632  (fun z_ => pal [(0, 0)] (C608 z_)) w609 (fun _ => pal_lt rfl _) A633).mono ?_
       rintro _ w635 ⟨C636, rfl, hs637⟩
       refine ⟨_, rfl, ?_⟩
       replace hs637 := Step.lift (U := [(0, 0)]) hs637 [] rfl rfl
       generalize up C608 C636 w609.heap.size [(0, 0)] = C636_ at hs637
       replace HJ604 := HJ604.thru hs637 rfl
       replace HJ607 := HJ607.thru hs637 rfl
       replace HS611 := HS611.trans hs637 hc rfl
       (try simp only [Act.put, List.setIfInBounds_toArray, ls0, ls1])
       refine mv_ rfl ?_
       refine st (.int .i64 t631) rfl rfl (xr_extract (.tuple #[.int .i64 t631, .bool t632]) _ rfl rfl rfl) ?_
       refine st (.bool t632) rfl rfl (xr_extract (.tuple #[.int .i64 t631, .bool t632]) _ rfl rfl rfl) ?_
       refine as_ rfl ?_
       simp only [ls0, ls1]
       refine as_ rfl ?_
       refine wl_end ?_
       (try simp only [ls0, ls1])
       refine hK627 _ _ ?_
       (try clear hK627 K627)
       refine wp_seq_k fun K638 hK638 => ?_
       refine wp_seq_k fun K639 hK639 => ?_
       have hj641 : ∀ (kq648 : Nat) (C642 : Nat → Nat) (w643 : World) (x646 : Bool) (g_ : Nat → Value), Step c w C642 w643 [] → kq648 ≤ k616 → (Ft C642 [0] w643 (fun w_ => k35.C w_ A1 l1.length l1)) → (Bx C642 11 w643 g334 35 ([.int .i64 a2_0, .int .i64 a2_1, .int .i64 a2_2])) → blazonref25_Add.j0 kq648 l1 t631 x606 x646 = some r → K639 ⟨#[(g_ 0), .slice A1 l1.length c1, (g_ 2), (g_ 3), (g_ 4), (g_ 5), (g_ 6), (g_ 7), .int .i64 x606, .int .i64 t631, (g_ 10), (g_ 11), (g_ 12), (g_ 13), (g_ 14), (g_ 15), (g_ 16), (g_ 17), (g_ 18), (g_ 19), (g_ 20), (g_ 21), (g_ 22), (g_ 23), (g_ 24), (g_ 25), (g_ 26), (g_ 27), (g_ 28), (g_ 29), (g_ 30), (g_ 31), (g_ 32), (g_ 33), (g_ 34), (g_ 35), (g_ 36), (g_ 37), (g_ 38), (g_ 39), (g_ 40), (g_ 41), (g_ 42), (g_ 43), (g_ 44), (g_ 45), (g_ 46), (g_ 47), (g_ 48), (g_ 49), (g_ 50), (g_ 51), (g_ 52), (g_ 53), (g_ 54), (g_ 55), (g_ 56), (g_ 57), (g_ 58), (g_ 59), (g_ 60), (g_ 61), (g_ 62), (g_ 63), (g_ 64), (g_ 65), (g_ 66), (g_ 67), (g_ 68), (g_ 69), (g_ 70), (g_ 71), (g_ 72), (g_ 73), (g_ 74), (g_ 75), (g_ 76), (g_ 77), (g_ 78), (g_ 79), .bool x646, (g_ 81), (g_ 82), (g_ 83)], []⟩ w643 := by
        intro kq648 C642 w643 x646 g_ HS644 hk649 HJ645 HJ647 H
        cases kq648 with
        | zero => exact absurd H (by simp [blazonref25_Add.j0])
        | succ k650 =>
         simp only [blazonref25_Add.j0] at H
         refine hK639 _ _ ?_
         (try clear hK639)
         by_cases c651 : x646 = true
         ·rw [if_pos c651] at H
          (try rw [c651])
          refine wp_cond_true rfl ?_
          refine wp_seq_k fun K652 hK652 => ?_
          refine wl_region ?_
          refine st (.int .i64 18) rfl rfl (xr_assign _ rfl rfl) ?_
          refine wl_end ?_
          (try simp only [ls0, ls1])
          refine hK652 _ _ ?_
          (try clear hK652 K652)
          refine wp_ret ?_
          (try simp only [Exit.inBlock, Exit.then, Exit.noGoto])
          (try simp only [ls0, ls1])
          obtain rfl := Option.some.inj H
          refine bodyPost_ret (results_tmp rfl _ _ _) rfl ?_
          exact ⟨_, rfl, HS644⟩
         rw [if_neg c651] at H
         (try rw [(Bool.eq_false_iff.mpr c651)])
         refine wp_cond_false rfl ?_
         refine wp_skip ?_
         (try simp only [ls0, ls1])
         refine hK638 _ _ ?_
         (try clear hK638 K638)
         refine wl_region ?_
         refine mv_ rfl ?_
         refine as_ rfl ?_
         refine wl_end ?_
         (try simp only [ls0, ls1])
         refine hK620 _ _ ?_
         (try clear hK620 K620)
         refine wl_region ?_
         refine mv_ rfl ?_
         refine st (.int .i64 (wrap64 (x606 + 1))) rfl rfl (xr_bin _ _ _ rfl rfl rfl (B.add_i64 _ _)) ?_
         refine as_ rfl ?_
         refine wl_end ?_
         (try simp only [ls0, ls1])
         exact jmpL (fun a_ h_ => ih613 k650 (by omega) a_ _ h_) (fun g_ => ⟨_, t631, wrap64 (x606 + 1), g_, rfl, HS644, (by omega), HJ645, HJ647, H⟩) rfl
       refine wl_region ?_
       refine mv_ rfl ?_
       refine st (.bool (!t632)) rfl rfl (xr_un (.bool t632) _ rfl rfl (by first | rfl | (go_simp; done) | (go_simp; rfl) | (go_simp; exact i64_w _) | (go_simp; exact i32_w _))) ?_
       refine mv_ rfl ?_
       by_cases c653 : t632 = true
       ·rw [if_pos c653] at H
        (try rw [c653])
        (try simp only [Bool.not_true, Bool.not_false])
        refine on_guard (guard_on 2 false 77 rfl rfl rfl) ?_
        refine mv_ rfl ?_
        simp only [ls0, ls1]
        refine on_guard (guard_on 2 false 77 rfl rfl rfl) ?_
        refine st (.bool (decide (t631 ≥ 4611686018427387904))) rfl rfl (xr_bin _ _ _ rfl rfl rfl (B.geq_i64 _ _)) ?_
        refine st (.bool (decide (t631 ≥ 4611686018427387904))) rfl rfl (xr_pick false _ rfl rfl rfl) ?_
        refine wl_end ?_
        (try simp only [ls0, ls1])
        exact jmp (fun g_ => hj641 _ _ _ (decide (t631 ≥ 4611686018427387904)) g_ HS611 (by omega) HJ604 HJ607 H) rfl
       rw [if_neg c653] at H
       (try rw [(Bool.eq_false_iff.mpr c653)])
       (try simp only [Bool.not_true, Bool.not_false])
       refine sk_guard (guard_off 2 false 77 rfl rfl true (by decide) rfl) rfl ?_
       refine sk_guard (guard_off 2 false 77 rfl rfl true (by decide) rfl) rfl ?_
       refine st (.bool true) rfl rfl (xr_pick true _ rfl rfl rfl) ?_
       refine wl_end ?_
       (try simp only [ls0, ls1])
       exact jmp (fun g_ => hj641 _ _ _ (true) g_ HS611 (by omega) HJ604 HJ607 H) rfl
      rw [if_neg c626] at H
      (try rw [(decide_eq_false c626)])
      refine wp_cond_false rfl ?_
      refine wp_skip ?_
      (try simp only [ls0, ls1])
      refine hK620 _ _ ?_
      (try clear hK620 K620)
      refine wl_region ?_
      refine mv_ rfl ?_
      refine st (.int .i64 (wrap64 (x606 + 1))) rfl rfl (xr_bin _ _ _ rfl rfl rfl (B.add_i64 _ _)) ?_
      refine as_ rfl ?_
      refine wl_end ?_
      (try simp only [ls0, ls1])
      exact jmpL (fun a_ h_ => ih613 k616 (by omega) a_ _ h_) (fun g_ => ⟨_, x605, wrap64 (x606 + 1), g_, rfl, HS611, (by omega), HJ604, HJ607, H⟩) rfl
     rw [if_neg c619] at H
     (try rw [(decide_eq_false c619)])
     refine wp_cond_false rfl ?_
     refine wp_exit ?_
     (try simp only [ls0, ls1])
     refine hK389 _ _ ?_
     (try clear hK389 K389)
     refine wp_seq_k fun K654 hK654 => ?_
     refine wp_seq_k fun K655 hK655 => ?_
     refine wl_region ?_
     refine mv_ rfl ?_
     refine st (.bool (decide (x605 ≥ 4611686018427387904))) rfl rfl (xr_bin _ _ _ rfl rfl rfl (B.geq_i64 _ _)) ?_
     refine wl_end ?_
     (try simp only [ls0, ls1])
     refine hK655 _ _ ?_
     (try clear hK655 K655)
     by_cases c656 : x605 ≥ 4611686018427387904
     ·rw [if_pos c656] at H
      (try rw [(decide_eq_true c656)])
      refine wp_cond_true rfl ?_
      refine wp_seq_k fun K657 hK657 => ?_
      refine wl_region ?_
      refine st (.int .i64 18) rfl rfl (xr_assign _ rfl rfl) ?_
      refine wl_end ?_
      (try simp only [ls0, ls1])
      refine hK657 _ _ ?_
      (try clear hK657 K657)
      refine wp_ret ?_
      (try simp only [Exit.inBlock, Exit.then, Exit.noGoto])
      (try simp only [ls0, ls1])
      obtain rfl := Option.some.inj H
      refine bodyPost_ret (results_tmp rfl _ _ _) rfl ?_
      exact ⟨_, rfl, HS611⟩
     rw [if_neg c656] at H
     (try rw [(decide_eq_false c656)])
     refine wp_cond_false rfl ?_
     refine wp_skip ?_
     (try simp only [ls0, ls1])
     refine hK654 _ _ ?_
     (try clear hK654 K654)
     refine wp_seq_k fun K658 hK658 => ?_
     refine wl_region ?_
     refine st (.int .i64 0) rfl rfl (xr_assign _ rfl rfl) ?_
     refine wl_end ?_
     (try simp only [ls0, ls1])
     refine hK658 _ _ ?_
     (try clear hK658 K658)
     refine wp_ret ?_
     (try simp only [Exit.inBlock, Exit.then, Exit.noGoto])
     (try simp only [ls0, ls1])
     obtain rfl := Option.some.inj H
     refine bodyPost_ret (results_tmp rfl _ _ _) rfl ?_
     exact ⟨_, rfl, HS611⟩
 refine wl_region ?_
 refine st (.pointer (some ⟨g334, 0, none⟩)) rfl rfl (xr_fieldAddr _ _ rfl rfl (bx_field2 Try.underlying35 rfl rfl (by kernel_rfl))) ?_
 refine st (.int .i64 a2_0) rfl rfl (xr_load _ _ rfl rfl (load_cell Try.underlying3 rfl (bx_cell (HX337).2 0 rfl))) ?_
 refine st (.bool (decide (a2_0 < 0))) rfl rfl (xr_bin _ _ _ rfl rfl rfl (B.lss_i64 _ _)) ?_
 refine mv_ rfl ?_
 simp only [ls0, ls1]
 by_cases c659 : a2_0 < 0
 ·rw [if_pos c659] at H
  (try rw [(decide_eq_true c659)])
  refine sk_guard (guard_off 3 false 14 rfl rfl true (by decide) rfl) rfl ?_
  refine sk_guard (guard_off 3 false 14 rfl rfl true (by decide) rfl) rfl ?_
  refine sk_guard (guard_off 3 false 14 rfl rfl true (by decide) rfl) rfl ?_
  refine st (.bool true) rfl rfl (xr_pick true _ rfl rfl rfl) ?_
  simp only [ls0, ls1]
  refine mv_ rfl ?_
  refine sk_guard (guard_off 8 false 19 rfl rfl true (by decide) rfl) rfl ?_
  refine sk_guard (guard_off 8 false 19 rfl rfl true (by decide) rfl) rfl ?_
  refine sk_guard (guard_off 8 false 19 rfl rfl true (by decide) rfl) rfl ?_
  simp only [ls0, ls1]
  refine sk_guard (guard_off 8 false 19 rfl rfl true (by decide) rfl) rfl ?_
  refine st (.bool true) rfl rfl (xr_pick true _ rfl rfl rfl) ?_
  refine mv_ rfl ?_
  refine sk_guard (guard_off 14 false 25 rfl rfl true (by decide) rfl) rfl ?_
  simp only [ls0, ls1]
  refine sk_guard (guard_off 14 false 25 rfl rfl true (by decide) rfl) rfl ?_
  refine sk_guard (guard_off 14 false 25 rfl rfl true (by decide) rfl) rfl ?_
  refine sk_guard (guard_off 14 false 25 rfl rfl true (by decide) rfl) rfl ?_
  refine st (.bool true) rfl rfl (xr_pick true _ rfl rfl rfl) ?_
  simp only [ls0, ls1]
  refine mv_ rfl ?_
  refine sk_guard (guard_off 20 false 31 rfl rfl true (by decide) rfl) rfl ?_
  refine sk_guard (guard_off 20 false 31 rfl rfl true (by decide) rfl) rfl ?_
  refine sk_guard (guard_off 20 false 31 rfl rfl true (by decide) rfl) rfl ?_
  simp only [ls0, ls1]
  refine sk_guard (guard_off 20 false 31 rfl rfl true (by decide) rfl) rfl ?_
  refine sk_guard (guard_off 20 false 31 rfl rfl true (by decide) rfl) rfl ?_
  refine st (.bool true) rfl rfl (xr_pick true _ rfl rfl rfl) ?_
  refine mv_ rfl ?_
  simp only [ls0, ls1]
  refine sk_guard (guard_off 27 false 38 rfl rfl true (by decide) rfl) rfl ?_
  refine sk_guard (guard_off 27 false 38 rfl rfl true (by decide) rfl) rfl ?_
  refine sk_guard (guard_off 27 false 38 rfl rfl true (by decide) rfl) rfl ?_
  refine st (.bool true) rfl rfl (xr_pick true _ rfl rfl rfl) ?_
  simp only [ls0, ls1]
  refine mv_ rfl ?_
  refine sk_guard (guard_off 32 false 43 rfl rfl true (by decide) rfl) rfl ?_
  refine sk_guard (guard_off 32 false 43 rfl rfl true (by decide) rfl) rfl ?_
  refine sk_guard (guard_off 32 false 43 rfl rfl true (by decide) rfl) rfl ?_
  simp only [ls0, ls1]
  refine st (.bool true) rfl rfl (xr_pick true _ rfl rfl rfl) ?_
  refine wl_end ?_
  (try simp only [ls0, ls1])
  exact jmp (fun g_ => hj372 _ _ _ (true) g_ HS (by omega) HP1 HX337 H) rfl
 rw [if_neg c659] at H
 (try rw [(decide_eq_false c659)])
 refine on_guard (guard_on 3 false 14 rfl rfl rfl) ?_
 refine st (.pointer (some ⟨g334, 1, none⟩)) rfl rfl (xr_fieldAddr _ _ rfl rfl (bx_field2 Try.underlying35 rfl rfl (by kernel_rfl))) ?_
 refine on_guard (guard_on 3 false 14 rfl rfl rfl) ?_
 refine st (.int .i64 a2_1) rfl rfl (xr_load _ _ rfl rfl (load_cell Try.underlying3 rfl (bx_cell (HX337).2 1 rfl))) ?_
 refine on_guard (guard_on 3 false 14 rfl rfl rfl) ?_
 refine st (.bool (decide (a2_1 < 0))) rfl rfl (xr_bin _ _ _ rfl rfl rfl (B.lss_i64 _ _)) ?_
 refine st (.bool (decide (a2_1 < 0))) rfl rfl (xr_pick false _ rfl rfl rfl) ?_
 simp only [ls0, ls1]
 refine mv_ rfl ?_
 by_cases c660 : a2_1 < 0
 ·rw [if_pos c660] at H
  (try rw [(decide_eq_true c660)])
  refine sk_guard (guard_off 8 false 19 rfl rfl true (by decide) rfl) rfl ?_
  refine sk_guard (guard_off 8 false 19 rfl rfl true (by decide) rfl) rfl ?_
  refine sk_guard (guard_off 8 false 19 rfl rfl true (by decide) rfl) rfl ?_
  simp only [ls0, ls1]
  refine sk_guard (guard_off 8 false 19 rfl rfl true (by decide) rfl) rfl ?_
  refine st (.bool true) rfl rfl (xr_pick true _ rfl rfl rfl) ?_
  refine mv_ rfl ?_
  refine sk_guard (guard_off 14 false 25 rfl rfl true (by decide) rfl) rfl ?_
  simp only [ls0, ls1]
  refine sk_guard (guard_off 14 false 25 rfl rfl true (by decide) rfl) rfl ?_
  refine sk_guard (guard_off 14 false 25 rfl rfl true (by decide) rfl) rfl ?_
  refine sk_guard (guard_off 14 false 25 rfl rfl true (by decide) rfl) rfl ?_
  refine st (.bool true) rfl rfl (xr_pick true _ rfl rfl rfl) ?_
  simp only [ls0, ls1]
  refine mv_ rfl ?_
  refine sk_guard (guard_off 20 false 31 rfl rfl true (by decide) rfl) rfl ?_
  refine sk_guard (guard_off 20 false 31 rfl rfl true (by decide) rfl) rfl ?_
  refine sk_guard (guard_off 20 false 31 rfl rfl true (by decide) rfl) rfl ?_
  simp only [ls0, ls1]
  refine sk_guard (guard_off 20 false 31 rfl rfl true (by decide) rfl) rfl ?_
  refine sk_guard (guard_off 20 false 31 rfl rfl true (by decide) rfl) rfl ?_
  refine st (.bool true) rfl rfl (xr_pick true _ rfl rfl rfl) ?_
  refine mv_ rfl ?_
  simp only [ls0, ls1]
  refine sk_guard (guard_off 27 false 38 rfl rfl true (by decide) rfl) rfl ?_
  refine sk_guard (guard_off 27 false 38 rfl rfl true (by decide) rfl) rfl ?_
  refine sk_guard (guard_off 27 false 38 rfl rfl true (by decide) rfl) rfl ?_
  refine st (.bool true) rfl rfl (xr_pick true _ rfl rfl rfl) ?_
  simp only [ls0, ls1]
  refine mv_ rfl ?_
  refine sk_guard (guard_off 32 false 43 rfl rfl true (by decide) rfl) rfl ?_
  refine sk_guard (guard_off 32 false 43 rfl rfl true (by decide) rfl) rfl ?_
  refine sk_guard (guard_off 32 false 43 rfl rfl true (by decide) rfl) rfl ?_
  simp only [ls0, ls1]
  refine st (.bool true) rfl rfl (xr_pick true _ rfl rfl rfl) ?_
  refine wl_end ?_
  (try simp only [ls0, ls1])
  exact jmp (fun g_ => hj372 _ _ _ (true) g_ HS (by omega) HP1 HX337 H) rfl
 rw [if_neg c660] at H
 (try rw [(decide_eq_false c660)])
 refine on_guard (guard_on 8 false 19 rfl rfl rfl) ?_
 refine st (.pointer (some ⟨g334, 0, none⟩)) rfl rfl (xr_fieldAddr _ _ rfl rfl (bx_field2 Try.underlying35 rfl rfl (by kernel_rfl))) ?_
 refine on_guard (guard_on 8 false 19 rfl rfl rfl) ?_
 refine st (.int .i64 a2_0) rfl rfl (xr_load _ _ rfl rfl (load_cell Try.underlying3 rfl (bx_cell (HX337).2 0 rfl))) ?_
 refine on_guard (guard_on 8 false 19 rfl rfl rfl) ?_
 refine mv_ rfl ?_
 refine on_guard (guard_on 8 false 19 rfl rfl rfl) ?_
 refine st (.bool (decide (a2_0 ≥ a0))) rfl rfl (xr_bin _ _ _ rfl rfl rfl (B.geq_i64 _ _)) ?_
 simp only [ls0, ls1]
 refine st (.bool (decide (a2_0 ≥ a0))) rfl rfl (xr_pick false _ rfl rfl rfl) ?_
 refine mv_ rfl ?_
 by_cases c661 : a2_0 ≥ a0
 ·rw [if_pos c661] at H
  (try rw [(decide_eq_true c661)])
  refine sk_guard (guard_off 14 false 25 rfl rfl true (by decide) rfl) rfl ?_
  refine sk_guard (guard_off 14 false 25 rfl rfl true (by decide) rfl) rfl ?_
  simp only [ls0, ls1]
  refine sk_guard (guard_off 14 false 25 rfl rfl true (by decide) rfl) rfl ?_
  refine sk_guard (guard_off 14 false 25 rfl rfl true (by decide) rfl) rfl ?_
  refine st (.bool true) rfl rfl (xr_pick true _ rfl rfl rfl) ?_
  refine mv_ rfl ?_
  simp only [ls0, ls1]
  refine sk_guard (guard_off 20 false 31 rfl rfl true (by decide) rfl) rfl ?_
  refine sk_guard (guard_off 20 false 31 rfl rfl true (by decide) rfl) rfl ?_
  refine sk_guard (guard_off 20 false 31 rfl rfl true (by decide) rfl) rfl ?_
  refine sk_guard (guard_off 20 false 31 rfl rfl true (by decide) rfl) rfl ?_
  simp only [ls0, ls1]
  refine sk_guard (guard_off 20 false 31 rfl rfl true (by decide) rfl) rfl ?_
  refine st (.bool true) rfl rfl (xr_pick true _ rfl rfl rfl) ?_
  refine mv_ rfl ?_
  refine sk_guard (guard_off 27 false 38 rfl rfl true (by decide) rfl) rfl ?_
  simp only [ls0, ls1]
  refine sk_guard (guard_off 27 false 38 rfl rfl true (by decide) rfl) rfl ?_
  refine sk_guard (guard_off 27 false 38 rfl rfl true (by decide) rfl) rfl ?_
  refine st (.bool true) rfl rfl (xr_pick true _ rfl rfl rfl) ?_
  refine mv_ rfl ?_
  simp only [ls0, ls1]
  refine sk_guard (guard_off 32 false 43 rfl rfl true (by decide) rfl) rfl ?_
  refine sk_guard (guard_off 32 false 43 rfl rfl true (by decide) rfl) rfl ?_
  refine sk_guard (guard_off 32 false 43 rfl rfl true (by decide) rfl) rfl ?_
  refine st (.bool true) rfl rfl (xr_pick true _ rfl rfl rfl) ?_
  simp only [ls0, ls1]
  refine wl_end ?_
  (try simp only [ls0, ls1])
  exact jmp (fun g_ => hj372 _ _ _ (true) g_ HS (by omega) HP1 HX337 H) rfl
 rw [if_neg c661] at H
 (try rw [(decide_eq_false c661)])
 refine on_guard (guard_on 14 false 25 rfl rfl rfl) ?_
 refine st (.pointer (some ⟨g334, 1, none⟩)) rfl rfl (xr_fieldAddr _ _ rfl rfl (bx_field2 Try.underlying35 rfl rfl (by kernel_rfl))) ?_
 refine on_guard (guard_on 14 false 25 rfl rfl rfl) ?_
 refine st (.int .i64 a2_1) rfl rfl (xr_load _ _ rfl rfl (load_cell Try.underlying3 rfl (bx_cell (HX337).2 1 rfl))) ?_
 refine on_guard (guard_on 14 false 25 rfl rfl rfl) ?_
 refine mv_ rfl ?_
 refine on_guard (guard_on 14 false 25 rfl rfl rfl) ?_
 refine st (.bool (decide (a2_1 ≥ a0))) rfl rfl (xr_bin _ _ _ rfl rfl rfl (B.geq_i64 _ _)) ?_
 simp only [ls0, ls1]
 refine st (.bool (decide (a2_1 ≥ a0))) rfl rfl (xr_pick false _ rfl rfl rfl) ?_
 refine mv_ rfl ?_
 by_cases c662 : a2_1 ≥ a0
 ·rw [if_pos c662] at H
  (try rw [(decide_eq_true c662)])
  refine sk_guard (guard_off 20 false 31 rfl rfl true (by decide) rfl) rfl ?_
  refine sk_guard (guard_off 20 false 31 rfl rfl true (by decide) rfl) rfl ?_
  simp only [ls0, ls1]
  refine sk_guard (guard_off 20 false 31 rfl rfl true (by decide) rfl) rfl ?_
  refine sk_guard (guard_off 20 false 31 rfl rfl true (by decide) rfl) rfl ?_
  refine sk_guard (guard_off 20 false 31 rfl rfl true (by decide) rfl) rfl ?_
  refine st (.bool true) rfl rfl (xr_pick true _ rfl rfl rfl) ?_
  simp only [ls0, ls1]
  refine mv_ rfl ?_
  refine sk_guard (guard_off 27 false 38 rfl rfl true (by decide) rfl) rfl ?_
  refine sk_guard (guard_off 27 false 38 rfl rfl true (by decide) rfl) rfl ?_
  refine sk_guard (guard_off 27 false 38 rfl rfl true (by decide) rfl) rfl ?_
  simp only [ls0, ls1]
  refine st (.bool true) rfl rfl (xr_pick true _ rfl rfl rfl) ?_
  refine mv_ rfl ?_
  refine sk_guard (guard_off 32 false 43 rfl rfl true (by decide) rfl) rfl ?_
  refine sk_guard (guard_off 32 false 43 rfl rfl true (by decide) rfl) rfl ?_
  simp only [ls0, ls1]
  refine sk_guard (guard_off 32 false 43 rfl rfl true (by decide) rfl) rfl ?_
  refine st (.bool true) rfl rfl (xr_pick true _ rfl rfl rfl) ?_
  refine wl_end ?_
  (try simp only [ls0, ls1])
  exact jmp (fun g_ => hj372 _ _ _ (true) g_ HS (by omega) HP1 HX337 H) rfl
 rw [if_neg c662] at H
 (try rw [(decide_eq_false c662)])
 refine on_guard (guard_on 20 false 31 rfl rfl rfl) ?_
 refine st (.pointer (some ⟨g334, 0, none⟩)) rfl rfl (xr_fieldAddr _ _ rfl rfl (bx_field2 Try.underlying35 rfl rfl (by kernel_rfl))) ?_
 refine on_guard (guard_on 20 false 31 rfl rfl rfl) ?_
 refine st (.int .i64 a2_0) rfl rfl (xr_load _ _ rfl rfl (load_cell Try.underlying3 rfl (bx_cell (HX337).2 0 rfl))) ?_
 refine on_guard (guard_on 20 false 31 rfl rfl rfl) ?_
 refine st (.pointer (some ⟨g334, 1, none⟩)) rfl rfl (xr_fieldAddr _ _ rfl rfl (bx_field2 Try.underlying35 rfl rfl (by kernel_rfl))) ?_
 refine on_guard (guard_on 20 false 31 rfl rfl rfl) ?_
 refine st (.int .i64 a2_1) rfl rfl (xr_load _ _ rfl rfl (load_cell Try.underlying3 rfl (bx_cell (HX337).2 1 rfl))) ?_
 simp only [ls0, ls1]
 refine on_guard (guard_on 20 false 31 rfl rfl rfl) ?_
 refine st (.bool (decide (a2_0 = a2_1))) rfl rfl (xr_bin _ _ _ rfl rfl rfl (B.eql_i64 _ _)) ?_
 refine st (.bool (decide (a2_0 = a2_1))) rfl rfl (xr_pick false _ rfl rfl rfl) ?_
 refine mv_ rfl ?_
 by_cases c663 : a2_0 = a2_1
 ·rw [if_pos c663] at H
  (try rw [(decide_eq_true c663)])
  refine sk_guard (guard_off 27 false 38 rfl rfl true (by decide) rfl) rfl ?_
  simp only [ls0, ls1]
  refine sk_guard (guard_off 27 false 38 rfl rfl true (by decide) rfl) rfl ?_
  refine sk_guard (guard_off 27 false 38 rfl rfl true (by decide) rfl) rfl ?_
  refine st (.bool true) rfl rfl (xr_pick true _ rfl rfl rfl) ?_
  refine mv_ rfl ?_
  simp only [ls0, ls1]
  refine sk_guard (guard_off 32 false 43 rfl rfl true (by decide) rfl) rfl ?_
  refine sk_guard (guard_off 32 false 43 rfl rfl true (by decide) rfl) rfl ?_
  refine sk_guard (guard_off 32 false 43 rfl rfl true (by decide) rfl) rfl ?_
  refine st (.bool true) rfl rfl (xr_pick true _ rfl rfl rfl) ?_
  simp only [ls0, ls1]
  refine wl_end ?_
  (try simp only [ls0, ls1])
  exact jmp (fun g_ => hj372 _ _ _ (true) g_ HS (by omega) HP1 HX337 H) rfl
 rw [if_neg c663] at H
 (try rw [(decide_eq_false c663)])
 refine on_guard (guard_on 27 false 38 rfl rfl rfl) ?_
 refine st (.pointer (some ⟨g334, 2, none⟩)) rfl rfl (xr_fieldAddr _ _ rfl rfl (bx_field2 Try.underlying35 rfl rfl (by kernel_rfl))) ?_
 refine on_guard (guard_on 27 false 38 rfl rfl rfl) ?_
 refine st (.int .i64 a2_2) rfl rfl (xr_load _ _ rfl rfl (load_cell Try.underlying2 rfl (bx_cell (HX337).2 2 rfl))) ?_
 refine on_guard (guard_on 27 false 38 rfl rfl rfl) ?_
 refine st (.bool (decide (a2_2 < 0))) rfl rfl (xr_bin _ _ _ rfl rfl rfl (B.lss_i64 _ _)) ?_
 refine st (.bool (decide (a2_2 < 0))) rfl rfl (xr_pick false _ rfl rfl rfl) ?_
 simp only [ls0, ls1]
 refine mv_ rfl ?_
 by_cases c664 : a2_2 < 0
 ·rw [if_pos c664] at H
  (try rw [(decide_eq_true c664)])
  refine sk_guard (guard_off 32 false 43 rfl rfl true (by decide) rfl) rfl ?_
  refine sk_guard (guard_off 32 false 43 rfl rfl true (by decide) rfl) rfl ?_
  refine sk_guard (guard_off 32 false 43 rfl rfl true (by decide) rfl) rfl ?_
  simp only [ls0, ls1]
  refine st (.bool true) rfl rfl (xr_pick true _ rfl rfl rfl) ?_
  refine wl_end ?_
  (try simp only [ls0, ls1])
  exact jmp (fun g_ => hj372 _ _ _ (true) g_ HS (by omega) HP1 HX337 H) rfl
 rw [if_neg c664] at H
 (try rw [(decide_eq_false c664)])
 refine on_guard (guard_on 32 false 43 rfl rfl rfl) ?_
 refine st (.pointer (some ⟨g334, 2, none⟩)) rfl rfl (xr_fieldAddr _ _ rfl rfl (bx_field2 Try.underlying35 rfl rfl (by kernel_rfl))) ?_
 refine on_guard (guard_on 32 false 43 rfl rfl rfl) ?_
 refine st (.int .i64 a2_2) rfl rfl (xr_load _ _ rfl rfl (load_cell Try.underlying2 rfl (bx_cell (HX337).2 2 rfl))) ?_
 refine on_guard (guard_on 32 false 43 rfl rfl rfl) ?_
 refine st (.bool (decide (a2_2 > 4611686018427387904))) rfl rfl (xr_bin _ _ _ rfl rfl rfl (B.gtr_i64 _ _)) ?_
 refine st (.bool (decide (a2_2 > 4611686018427387904))) rfl rfl (xr_pick false _ rfl rfl rfl) ?_
 simp only [ls0, ls1]
 refine wl_end ?_
 (try simp only [ls0, ls1])
 exact jmp (fun g_ => hj372 _ _ _ (decide (a2_2 > 4611686018427387904)) g_ HS (by omega) HP1 HX337 H) rfl

/-! ### maxflow_Net_Edges: function 23 -/
def maxflow_Net_Edges.f (x0 : Option Go.Proofs.Ytdkbmchbkkhpoaa.PMfr.S74) : Option (Int × Option Go.Proofs.Ytdkbmchbkkhpoaa.PMfr.S74) := Go.Proofs.Ytdkbmchbkkhpoaa.PMfr.Edges.o x0
theorem maxflow_Net_Edges.calls (v0 : Value) (x0 : Option Go.Proofs.Ytdkbmchbkkhpoaa.PMfr.S74) (r1 : Int) (r2 : Option Go.Proofs.Ytdkbmchbkkhpoaa.PMfr.S74) (c : Nat → Nat) (w : World) (hc : ∀ k, c k < 10) (HP0 : Ft c [1] w (fun w_ => Go.Proofs.Ytdkbmchbkkhpoaa.PMfr.NetO w_ v0 x0)) (H : maxflow_Net_Edges.f x0 = some (r1, r2)) :
    Calls Try.prog 23 #[v0] w fun e w' => ∃ (c' : Nat → Nat), e = .returned (.int .i64 r1) ∧ Step c w c' w' [1] ∧ Ft c' [1] w' (fun w_ => Go.Proofs.Ytdkbmchbkkhpoaa.PMfr.NetO w_ v0 r2) := Go.Proofs.Ytdkbmchbkkhpoaa.PMfr.Edges.oc v0 x0 r1 r2 c w hc HP0 H

/-! ### blazonlaw25_built: function 16 -/
mutual
def blazonlaw25_built.j0 : Nat → Int → (List (S35)) → Int → (Option Go.Proofs.Ytdkbmchbkkhpoaa.PMfr.S74) → (List (S35)) → Int → Bool → Option ((Option Go.Proofs.Ytdkbmchbkkhpoaa.PMfr.S74) × (List (S35)))
  | 0, _, _, _, _, _, _, _ => none
  | k + 1, a0, l1, t1252, t1253, x1219, x1225, x1302 => if x1302 = true then (some ((none : Option Go.Proofs.Ytdkbmchbkkhpoaa.PMfr.S74), ([] : List (S35)))) else (if t1252 = 0 then (if 0 ≤ x1225 then (if x1225 < (l1.length : Int) then (if x1219.length < 5864062014805 then ((some (x1219 ++ [(⟨(rd_T35 l1 x1225).f0, (rd_T35 l1 x1225).f1, (rd_T35 l1 x1225).f2⟩ : S35)] : List (S35))).bind fun y1316 => (blazonlaw25_built.l0 k a0 l1 t1253 y1316 (wrap64 (x1225 + 1)))) else (none)) else (none)) else (none)) else (blazonlaw25_built.l0 k a0 l1 t1253 x1219 (wrap64 (x1225 + 1))))
def blazonlaw25_built.l0 : Nat → Int → (List (S35)) → (Option Go.Proofs.Ytdkbmchbkkhpoaa.PMfr.S74) → (List (S35)) → Int → Option ((Option Go.Proofs.Ytdkbmchbkkhpoaa.PMfr.S74) × (List (S35)))
  | 0, _, _, _, _, _ => none
  | k + 1, a0, l1, x1217, x1219, x1225 => if x1225 < (l1.length : Int) then (if 0 ≤ x1225 then ((maxflow_Net_Add.f k x1217 ((rd_T35 l1 x1225).f0) ((rd_T35 l1 x1225).f1) ((rd_T35 l1 x1225).f2)).bind fun bt1251 => ((blazonref25_Add.f k a0 x1219 ((rd_T35 l1 x1225).f0) ((rd_T35 l1 x1225).f1) ((rd_T35 l1 x1225).f2)).bind fun t1264 => (if bt1251.2.1 = t1264 then (if bt1251.2.1 = 0 then (if bt1251.1 = (x1219.length : Int) then (blazonlaw25_built.j0 k a0 l1 bt1251.2.1 bt1251.2.2 x1219 x1225 false) else (blazonlaw25_built.j0 k a0 l1 bt1251.2.1 bt1251.2.2 x1219 x1225 true)) else (blazonlaw25_built.j0 k a0 l1 bt1251.2.1 bt1251.2.2 x1219 x1225 (!decide (bt1251.1 = 0)))) else (blazonlaw25_built.j0 k a0 l1 bt1251.2.1 bt1251.2.2 x1219 x1225 true)))) else (none)) else ((maxflow_Net_Edges.f x1217).bind fun bt1330 => (if bt1330.1 = (x1219.length : Int) then (some (bt1330.2, x1219)) else (some ((none : Option Go.Proofs.Ytdkbmchbkkhpoaa.PMfr.S74), ([] : List (S35))))))
end
def blazonlaw25_built.f (k : Nat) (a0 : Int) (l1 : List (S35)) : Option ((Option Go.Proofs.Ytdkbmchbkkhpoaa.PMfr.S74) × (List (S35))) := (maxflow_New.f a0).bind fun t673 => (onOpt t673 (some ((none : Option Go.Proofs.Ytdkbmchbkkhpoaa.PMfr.S74), ([] : List (S35)))) (fun o683 => (blazonlaw25_built.l0 k a0 l1 (some o683 : Option Go.Proofs.Ytdkbmchbkkhpoaa.PMfr.S74) ([] : List (S35)) 0)))

set_option maxHeartbeats 8000000 in
set_option maxRecDepth 100000 in
theorem blazonlaw25_built.calls (k : Nat) (a0 : Int) (A1 : Option Addr) (c1 : Nat) (l1 : List (S35)) (r1 : Option Go.Proofs.Ytdkbmchbkkhpoaa.PMfr.S74) (r2 : List (S35)) (c : Nat → Nat) (w : World) (hc : ∀ k, c k < 10) (HP1 : Ft c [0] w (fun w_ => k35.C w_ A1 l1.length l1)) (HCP1 : l1.length ≤ c1) (H : blazonlaw25_built.f k a0 l1 = some (r1, r2)) :
    Calls Try.prog 16 #[.int .i64 a0, .slice A1 l1.length c1] w fun e w' => ∃ (c' : Nat → Nat) (v_r1 : Value) (A_r2 : Option Addr) (c_r2 : Nat), e = .returned (.tuple #[v_r1, .slice A_r2 r2.length c_r2]) ∧ Step c w c' w' [] ∧ Ft c' [5] w' (fun w_ => Go.Proofs.Ytdkbmchbkkhpoaa.PMfr.NetO w_ v_r1 r1) ∧ Own c' 6 w' k35 35 (.slice A_r2 r2.length c_r2) r2 ∧ r2.length ≤ c_r2 := by
 unfold blazonlaw25_built.f at H
 have HS := Step.refl c w []
 go_enter Try.func16, Try.ntmps16
 refine wp_seq_k fun K671 hK671 => ?_
 refine wl_region ?_
 refine st (.pointer none) rfl rfl (xr_assign _ rfl rfl) ?_
 refine st (.slice none 0 0) rfl rfl (xr_assign _ rfl rfl) ?_
 refine wl_end ?_
 (try simp only [ls0, ls1])
 refine hK671 _ _ ?_
 (try clear hK671 K671)
 refine wp_seq_k fun K672 hK672 => ?_
 refine wl_region ?_
 refine mv_ rfl ?_
 obtain ⟨t673, A674, H⟩ := bnd H
 refine st_call #[.int .i64 a0] rfl rfl Try.func15 (by kernel_rfl) rfl rfl (mp_ rfl) ?_
 refine (maxflow_New.calls a0 t673  (fun z_ => pal [(0, 0)] (c z_)) w (fun _ => pal_lt rfl _) A674).mono ?_
 rintro _ w676 ⟨C677, v679, rfl, hs678, HB680⟩
 refine ⟨_, rfl, ?_⟩
 replace HB680 := Ft.res (U := [(0, 0), (5, 11)]) HB680 hs678 [11] rfl rfl rfl
 replace hs678 := Step.lift (U := [(0, 0), (5, 11)]) hs678 [] rfl rfl
 generalize up c C677 w.heap.size [(0, 0), (5, 11)] = C677_ at HB680 hs678
 replace HP1 := HP1.thru hs678 rfl
 replace HS := HS.trans hs678 hc rfl
 (try simp only [Act.put, List.setIfInBounds_toArray, ls0, ls1])
 refine as_ rfl ?_
 refine wl_end ?_
 (try simp only [ls0, ls1])
 refine hK672 _ _ ?_
 (try clear hK672 K672)
 refine wp_seq_k fun K681 hK681 => ?_
 refine wp_seq_k fun K682 hK682 => ?_
 refine wl_region ?_
 refine mv_ rfl ?_
 cases t673 with
 | none =>
  (try simp only [onOpt] at H)
  obtain rfl := Go.Proofs.Ytdkbmchbkkhpoaa.PMfr.NetO.isNone HB680
  refine st (.bool true) rfl rfl (xr_bin (.pointer none) (.pointer none) (.bool true) rfl rfl rfl (B.eql_nn ⟨_, Try.underlying24⟩ (⟨0, 0, none⟩ : Addr))) ?_
  refine wl_end ?_
  (try simp only [ls0, ls1])
  refine hK682 _ _ ?_
  (try clear hK682 K682)
  refine wp_cond_true rfl ?_
  refine wp_seq_k fun K684 hK684 => ?_
  refine wl_region ?_
  refine st (.pointer none) rfl rfl (xr_assign _ rfl rfl) ?_
  refine st (.slice none 0 0) rfl rfl (xr_assign _ rfl rfl) ?_
  refine wl_end ?_
  (try simp only [ls0, ls1])
  refine hK684 _ _ ?_
  (try clear hK684 K684)
  refine wp_ret ?_
  (try simp only [Exit.inBlock, Exit.then, Exit.noGoto])
  (try simp only [ls0, ls1])
  simp only [Option.some.injEq, Prod.mk.injEq] at H
  obtain ⟨rfl, rfl⟩ := H
  refine bodyPost_ret (results_tmp2 rfl _ _ _) rfl ?_
  exact ⟨_, (.pointer none), none, 0, rfl, HS, (Go.Proofs.Ytdkbmchbkkhpoaa.PMfr.NetO.nil _ _ _), (Own.nil _ _ _ _ _), (Nat.le_refl 0)⟩
 | some o683 =>
  (try simp only [onOpt] at H)
  obtain ⟨g685, rfl⟩ := Go.Proofs.Ytdkbmchbkkhpoaa.PMfr.NetO.isSome HB680
  refine st (.bool false) rfl rfl (xr_bin (.pointer (some ⟨g685, 0, none⟩)) (.pointer none) (.bool false) rfl rfl rfl (B.eql_pn ⟨_, Try.underlying24⟩ ⟨g685, 0, none⟩)) ?_
  refine wl_end ?_
  (try simp only [ls0, ls1])
  refine hK682 _ _ ?_
  (try clear hK682 K682)
  refine wp_cond_false rfl ?_
  refine wp_skip ?_
  (try simp only [ls0, ls1])
  refine hK681 _ _ ?_
  (try clear hK681 K681)
  refine wp_seq_k fun K686 hK686 => ?_
  refine wl_region ?_
  refine st (.slice none 0 0) rfl rfl (xr_assign _ rfl rfl) ?_
  refine wl_end ?_
  (try simp only [ls0, ls1])
  refine hK686 _ _ ?_
  (try clear hK686 K686)
  refine wp_seq_k fun K687 hK687 => ?_
  refine wp_seq_k fun K1008 hK1008 => ?_
  refine wl_region ?_
  refine st (.int .i64 0) rfl rfl (xr_assign _ rfl rfl) ?_
  refine wl_end ?_
  (try simp only [ls0, ls1])
  refine hK1008 _ _ ?_
  (try clear hK1008 K1008)
  refine wp_block ?_
  (try simp only [ls0, ls1])
  refine wp_looped (looped_fin (fun kq1228 a_ w1227 => ∃ (C1226 : Nat → Nat) (x1225 : Int) (x1217 : Option Go.Proofs.Ytdkbmchbkkhpoaa.PMfr.S74) (A1220 : Option Addr) (n1221 cp1222 : Nat) (x1219 : List (S35)) (g_ : Nat → Value), a_ = ⟨#[.int .i64 a0, .slice A1 l1.length c1, (g_ 2), (g_ 3), (g_ 4), (g_ 5), .pointer (some ⟨g685, 0, none⟩), .slice A1220 n1221 cp1222, .int .i64 x1225, (g_ 9), (g_ 10), (g_ 11), (g_ 12), (g_ 13), (g_ 14), (g_ 15), (g_ 16), (g_ 17), (g_ 18), (g_ 19), (g_ 20), (g_ 21), (g_ 22), (g_ 23), (g_ 24), (g_ 25), (g_ 26), (g_ 27), (g_ 28), (g_ 29), (g_ 30), (g_ 31), (g_ 32), (g_ 33), (g_ 34), (g_ 35), (g_ 36), (g_ 37), (g_ 38), (g_ 39), (g_ 40), (g_ 41), (g_ 42), (g_ 43), (g_ 44), (g_ 45), (g_ 46), (g_ 47), (g_ 48), (g_ 49), (g_ 50), (g_ 51), (g_ 52), (g_ 53), (g_ 54), (g_ 55), (g_ 56), (g_ 57), (g_ 58), (g_ 59), (g_ 60), (g_ 61), (g_ 62), (g_ 63), (g_ 64), (g_ 65), (g_ 66), (g_ 67), (g_ 68), (g_ 69), (g_ 70), (g_ 71), (g_ 72), (g_ 73), (g_ 74), (g_ 75), (g_ 76), (g_ 77), (g_ 78), (g_ 79), (g_ 80), (g_ 81), (g_ 82), (g_ 83), (g_ 84), (g_ 85)], []⟩ ∧ Step c w C1226 w1227 [] ∧ kq1228 ≤ k ∧ (Ft C1226 [0] w1227 (fun w_ => k35.C w_ A1 l1.length l1)) ∧ (Ft C1226 [12] w1227 (fun w_ => Go.Proofs.Ytdkbmchbkkhpoaa.PMfr.NetO w_ (.pointer (some ⟨g685, 0, none⟩)) x1217)) ∧ (Own C1226 13 w1227 k35 35 (.slice A1220 n1221 cp1222) x1219) ∧ (n1221 ≤ cp1222) ∧ blazonlaw25_built.l0 kq1228 a0 l1 x1217 x1219 x1225 = some (r1, r2)) ?step fun hL_ => ?init)
  case init =>
   replace HP1 := Ft.recol (a := 11) (b := 12) HP1 (.inl rfl)
   replace HB680 := Ft.recolor (a := 11) (b := 12) HB680 [12] rfl
   replace HS := Step.recol (a := 11) (b := 12) HS hc (by decide)
   exact jmpL (fun a_ h_ => hL_ k a_ _ h_) (fun g_ => ⟨_, 0, (some o683 : Option Go.Proofs.Ytdkbmchbkkhpoaa.PMfr.S74), none, 0, 0, ([] : List (S35)), g_, rfl, HS, Nat.le_refl _, HP1, HB680, (Own.nil _ _ _ _ _), (Nat.le_refl 0), H⟩) rfl
  case step =>
   intro kq1228 ih1231 a1232 w1227 hr1233
   obtain ⟨C1226, x1225, x1217, A1220, n1221, cp1222, x1219, g_, rfl, HS1229, hk1230, HJ1216, HJ1218, HJ1224, HC1223, H⟩ := hr1233
   refine looped_round ?_
   obtain rfl : n1221 = x1219.length := HJ1224.at_.1
   cases kq1228 with
   | zero => exact absurd H (by simp [blazonlaw25_built.l0])
   | succ k1234 =>
    simp only [blazonlaw25_built.l0] at H
    refine wp_seq_k fun K1235 hK1235 => ?_
    refine wp_seq_k fun K1236 hK1236 => ?_
    refine wl_region ?_
    refine mv_ rfl ?_
    refine mv_ rfl ?_
    refine st (.int .i64 (l1.length : Int)) rfl rfl (xr_builtin #[.slice A1 l1.length c1] (.int .i64 (l1.length : Int)) rfl (mp_ rfl) (by first | rfl | (go_simp; done) | (go_simp; rfl) | (go_simp; exact i64_w _) | (go_simp; exact i32_w _))) ?_
    refine st (.bool (decide (x1225 < (l1.length : Int)))) rfl rfl (xr_bin _ _ _ rfl rfl rfl (B.lss_i64 _ _)) ?_
    simp only [ls0, ls1]
    refine wl_end ?_
    (try simp only [ls0, ls1])
    refine hK1236 _ _ ?_
    (try clear hK1236 K1236)
    by_cases c1237 : x1225 < (l1.length : Int)
    ·rw [if_pos c1237] at H
     (try rw [(decide_eq_true c1237)])
     refine wp_cond_true rfl ?_
     refine wp_skip ?_
     (try simp only [ls0, ls1])
     refine hK1235 _ _ ?_
     (try clear hK1235 K1235)
     refine wp_seq_k fun K1238 hK1238 => ?_
     refine wp_block ?_
     refine wp_seq_k fun K1239 hK1239 => ?_
     (try simp only [ls0, ls1])
     refine al_start (lb 22 0) rfl rfl rfl (fun w_ => k35.C w_ A1 l1.length l1) (Ft.now (HJ1216).drew) [] ?_
     replace HJ1216 := HJ1216.drew
     replace HJ1218 := HJ1218.drew
     replace HJ1224 := HJ1224.drew
     replace HS1229 := Step.ofDrew HS1229
     generalize w1227.drew = w1240 at *
     refine al_mv 0 (lb 22 1) rfl rfl (by kernel_rfl) (fun _ _ _ => id) rfl ?_
     refine al_mv 1 (lb 22 3) rfl rfl (by kernel_rfl) (fun _ _ _ => id) rfl ?_
     refine al_mv 2 (lb 22 7) rfl rfl (by kernel_rfl) (fun _ _ _ => id) rfl ?_
     obtain ⟨c1241, H⟩ := if_some H
     obtain ⟨ad1242, hA1243⟩ := c_addr (Ft.now HJ1216) (pos_of (j := x1225) (by first | assumption | decide) (by first | assumption | omega))
     refine al_pure 3 26 (.pointer (some (ad1242.add ((x1225 : Int).toNat * 3)))) (lb 22 15) rfl rfl (by kernel_rfl) (fun _ _ _ => id) rfl (fun w_ => xr_indexAddr _ _ _ rfl rfl rfl (index_at Try.underlying22 info35 hA1243 (by first | assumption | decide | omega) (by first | assumption | decide | omega))) ?_
     simp only [ls0, ls1]
     refine al_pure 4 27 (.pointer (some ((ad1242.add ((x1225 : Int).toNat * 3)).add 0))) (lb 22 31) rfl rfl (by kernel_rfl) (fun _ _ _ => id) rfl (fun w_ => xr_fieldAddr _ _ rfl rfl (field_at2 Try.underlying35 rfl rfl (by kernel_rfl))) ?_
     refine al_mv 6 (lb 22 95) rfl rfl (by kernel_rfl) (fun _ _ _ => id) rfl ?_
     refine al_mv 7 (lb 22 223) rfl rfl (by kernel_rfl) (fun _ _ _ => id) rfl ?_
     obtain ⟨ad1244, hA1245⟩ := c_addr (Ft.now HJ1216) (pos_of (j := x1225) (by first | assumption | decide) (by first | assumption | omega))
     refine al_pure 8 31 (.pointer (some (ad1244.add ((x1225 : Int).toNat * 3)))) (lb 22 479) rfl rfl (by kernel_rfl) (fun _ _ _ => id) rfl (fun w_ => xr_indexAddr _ _ _ rfl rfl rfl (index_at Try.underlying22 info35 hA1245 (by first | assumption | decide | omega) (by first | assumption | decide | omega))) ?_
     simp only [ls0, ls1]
     refine al_pure 9 32 (.pointer (some ((ad1244.add ((x1225 : Int).toNat * 3)).add 1))) (lb 22 991) rfl rfl (by kernel_rfl) (fun _ _ _ => id) rfl (fun w_ => xr_fieldAddr _ _ rfl rfl (field_at2 Try.underlying35 rfl rfl (by kernel_rfl))) ?_
     refine al_mv 11 (lb 22 3039) rfl rfl (by kernel_rfl) (fun _ _ _ => id) rfl ?_
     refine al_mv 12 (lb 22 7135) rfl rfl (by kernel_rfl) (fun _ _ _ => id) rfl ?_
     obtain ⟨ad1246, hA1247⟩ := c_addr (Ft.now HJ1216) (pos_of (j := x1225) (by first | assumption | decide) (by first | assumption | omega))
     refine al_pure 13 36 (.pointer (some (ad1246.add ((x1225 : Int).toNat * 3)))) (lb 22 15327) rfl rfl (by kernel_rfl) (fun _ _ _ => id) rfl (fun w_ => xr_indexAddr _ _ _ rfl rfl rfl (index_at Try.underlying22 info35 hA1247 (by first | assumption | decide | omega) (by first | assumption | decide | omega))) ?_
     simp only [ls0, ls1]
     refine al_pure 14 37 (.pointer (some ((ad1246.add ((x1225 : Int).toNat * 3)).add 2))) (lb 22 31711) rfl rfl (by kernel_rfl) (fun _ _ _ => id) rfl (fun w_ => xr_fieldAddr _ _ rfl rfl (field_at2 Try.underlying35 rfl rfl (by kernel_rfl))) ?_
     refine al_take 5 28 (.int .i64 ((rd_T35 l1 x1225).f0)) (lb 22 31743) rfl rfl (by kernel_rfl) (fun _ _ _ => id) rfl (fun w_ hS_ => xr_load (.pointer (some ((ad1242.add ((x1225 : Int).toNat * 3)).add 0))) (.int .i64 ((rd_T35 l1 x1225).f0)) rfl rfl (by obtain ⟨ad_, cs_, e_, _, hK_, hc_⟩ := Kd.C_get hS_ z35 x1225 (by first | assumption | decide | omega) (by first | assumption | decide | omega); rw [hA1243] at e_; injection e_ with e_; subst e_; obtain rfl := k35_open hK_; exact load_cell Try.underlying3 rfl (by first | (rw [add_add]; exact hc_ 0 _ rfl) | (have h_ := hc_ 0 _ rfl; rw [Nat.add_zero] at h_; exact h_)))) (Ft.now HJ1216) ?_
     refine al_take 10 33 (.int .i64 ((rd_T35 l1 x1225).f1)) (lb 22 32767) rfl rfl (by kernel_rfl) (fun _ _ _ => id) rfl (fun w_ hS_ => xr_load (.pointer (some ((ad1244.add ((x1225 : Int).toNat * 3)).add 1))) (.int .i64 ((rd_T35 l1 x1225).f1)) rfl rfl (by obtain ⟨ad_, cs_, e_, _, hK_, hc_⟩ := Kd.C_get hS_ z35 x1225 (by first | assumption | decide | omega) (by first | assumption | decide | omega); rw [hA1245] at e_; injection e_ with e_; subst e_; obtain rfl := k35_open hK_; exact load_cell Try.underlying3 rfl (by first | (rw [add_add]; exact hc_ 1 _ rfl) | (have h_ := hc_ 1 _ rfl; rw [Nat.add_zero] at h_; exact h_)))) (Ft.now HJ1216) ?_
     refine al_take 15 38 (.int .i64 ((rd_T35 l1 x1225).f2)) (lb 22 65535) rfl rfl (by kernel_rfl) (fun _ _ _ => id) rfl (fun w_ hS_ => xr_load (.pointer (some ((ad1246.add ((x1225 : Int).toNat * 3)).add 2))) (.int .i64 ((rd_T35 l1 x1225).f2)) rfl rfl (by obtain ⟨ad_, cs_, e_, _, hK_, hc_⟩ := Kd.C_get hS_ z35 x1225 (by first | assumption | decide | omega) (by first | assumption | decide | omega); rw [hA1247] at e_; injection e_ with e_; subst e_; obtain rfl := k35_open hK_; exact load_cell Try.underlying2 rfl (by first | (rw [add_add]; exact hc_ 2 _ rfl) | (have h_ := hc_ 2 _ rfl; rw [Nat.add_zero] at h_; exact h_)))) (Ft.now HJ1216) ?_
     simp only [ls0, ls1]
     obtain ⟨⟨t1251, t1252, t1253⟩, A1254, H⟩ := bnd H
     (try dsimp only at H)
     refine al_one 16 (lb 22 131071) rfl rfl (by kernel_rfl) rfl (fun K_ hK_ => ?_)
     refine goes_ Try.func21 (by kernel_rfl) rfl #[.pointer (some ⟨g685, 0, none⟩), .int .i64 ((rd_T35 l1 x1225).f0), .int .i64 ((rd_T35 l1 x1225).f1), .int .i64 ((rd_T35 l1 x1225).f2)] rfl rfl rfl (mpe_ rfl) ?_
     refine (maxflow_Net_Add.calls k1234 (.pointer (some ⟨g685, 0, none⟩)) x1217 ((rd_T35 l1 x1225).f0) ((rd_T35 l1 x1225).f1) ((rd_T35 l1 x1225).f2) t1251 t1252 t1253  (fun z_ => pal [(0, 0), (12, 1)] (C1226 z_)) w1240 (fun _ => pal_lt rfl _) (Ft.arg HJ1218 rfl) A1254).mono ?_
     rintro _ w1256 ⟨C1257, rfl, hs1258, HM1259⟩
     refine ⟨_, rfl, ?_⟩
     replace HM1259 := Ft.res (U := [(0, 0), (1, 12)]) HM1259 hs1258 [12] rfl rfl rfl
     replace hs1258 := Step.lift (U := [(0, 0), (1, 12)]) hs1258 [12] rfl rfl
     generalize up C1226 C1257 w1240.heap.size [(0, 0), (1, 12)] = C1257_ at HM1259 hs1258
     replace HJ1216 := HJ1216.thru hs1258 rfl
     replace HJ1224 := HJ1224.thru hs1258 rfl
     replace HS1229 := HS1229.trans hs1258 hc rfl
     refine hK_ _ _ (Ft.now HJ1216) ?_
     clear hK_ K_
     (try simp only [Act.put, List.setIfInBounds_toArray, ls0, ls1])
     refine al_mv 17 (lb 22 262143) rfl rfl (by kernel_rfl) (fun _ _ _ => id) rfl ?_
     refine al_pure 18 40 (.int .i64 t1251) (lb 22 524287) rfl rfl (by kernel_rfl) (fun _ _ _ => id) rfl (fun w_ => xr_extract (.tuple #[.int .i64 t1251, .int .i64 t1252]) _ rfl rfl rfl) ?_
     refine al_pure 19 41 (.int .i64 t1252) (lb 22 1048575) rfl rfl (by kernel_rfl) (fun _ _ _ => id) rfl (fun w_ => xr_extract (.tuple #[.int .i64 t1251, .int .i64 t1252]) _ rfl rfl rfl) ?_
     refine al_as 20 (lb 22 2097151) rfl rfl (by kernel_rfl) (fun _ _ _ => id) rfl ?_
     simp only [ls0, ls1]
     refine al_as 21 (lb 22 4194303) rfl rfl (by kernel_rfl) (fun _ _ _ => id) rfl ?_
     refine al_end (by kernel_rfl) ?_
     (try simp only [ls0, ls1])
     refine hK1239 _ _ ?_
     (try clear hK1239 K1239)
     refine wp_seq_k fun K1260 hK1260 => ?_
     refine wl_region ?_
     refine mv_ rfl ?_
     refine mv_ rfl ?_
     refine mv_ rfl ?_
     refine mv_ rfl ?_
     simp only [ls0, ls1]
     obtain ⟨ad1261, hA1262⟩ := c_addr (Ft.now HJ1216) (pos_of (j := x1225) (by first | assumption | decide) (by first | assumption | omega))
     refine st (.pointer (some (ad1261.add ((x1225 : Int).toNat * 3)))) rfl rfl (xr_indexAddr _ _ _ rfl rfl rfl (index_at Try.underlying22 info35 hA1262 (by first | assumption | decide | omega) (by first | assumption | decide | omega))) ?_
     refine st (.agg #[.int .i64 ((rd_T35 l1 x1225).f0), .int .i64 ((rd_T35 l1 x1225).f1), .int .i64 ((rd_T35 l1 x1225).f2)]) rfl rfl (xr_load (.pointer (some (ad1261.add ((x1225 : Int).toNat * 3)))) (.agg #[.int .i64 ((rd_T35 l1 x1225).f0), .int .i64 ((rd_T35 l1 x1225).f1), .int .i64 ((rd_T35 l1 x1225).f2)]) rfl rfl (by obtain ⟨ad_, cs_, e_, _, hK_, hc_⟩ := Kd.C_get (Ft.now HJ1216) z35 x1225 (by first | assumption | decide | omega) (by first | assumption | decide | omega); rw [hA1262] at e_; injection e_ with e_; subst e_; obtain rfl := k35_open hK_; exact load_agg (cs := [.int .i64 ((rd_T35 l1 x1225).f0), .int .i64 ((rd_T35 l1 x1225).f1), .int .i64 ((rd_T35 l1 x1225).f2)]) Try.underlying35 rfl (by kernel_rfl) (fun j_ u_ hu_ => by first | (rw [add_add]; exact hc_ _ _ hu_) | exact add_cells hc_ hu_))) ?_
     obtain ⟨t1264, A1265, H⟩ := bnd H
     refine st_call #[.int .i64 a0, .slice A1220 x1219.length cp1222, .agg #[.int .i64 ((rd_T35 l1 x1225).f0), .int .i64 ((rd_T35 l1 x1225).f1), .int .i64 ((rd_T35 l1 x1225).f2)]] rfl rfl Try.func22 (by kernel_rfl) rfl rfl (mp_ rfl) ?_
     refine (blazonref25_Add.calls k1234 a0 A1220 cp1222 x1219 ((rd_T35 l1 x1225).f0) ((rd_T35 l1 x1225).f1) ((rd_T35 l1 x1225).f2) t1264  (fun z_ => pal [(0, 0), (13, 0)] (C1257_ z_)) w1256 (fun _ => pal_lt rfl _) (Ft.arg (HJ1224.ft) rfl) HC1223 A1265).mono ?_
     rintro _ w1267 ⟨C1268, rfl, hs1269⟩
     refine ⟨_, rfl, ?_⟩
     replace hs1269 := Step.lift (U := [(0, 0)]) hs1269 [] rfl rfl
     generalize up C1257_ C1268 w1256.heap.size [(0, 0)] = C1268_ at hs1269
     replace HJ1216 := HJ1216.thru hs1269 rfl
     replace HM1259 := HM1259.thru hs1269 rfl
     replace HJ1224 := HJ1224.thru hs1269 rfl
     replace HS1229 := HS1229.trans hs1269 hc rfl
     (try simp only [Act.put, List.setIfInBounds_toArray, ls0, ls1])
     refine as_ rfl ?_
     refine wl_end ?_
     (try simp only [ls0, ls1])
     refine hK1260 _ _ ?_
     (try clear hK1260 K1260)
     refine wp_seq_k fun K1270 hK1270 => ?_
     refine wp_seq_k fun K1291 hK1291 => ?_
     have hj1295 : ∀ (kq1303 : Nat) (C1296 : Nat → Nat) (w1297 : World) (x1302 : Bool) (g_ : Nat → Value), Step c w C1296 w1297 [] → kq1303 ≤ k1234 → (Ft C1296 [0] w1297 (fun w_ => k35.C w_ A1 l1.length l1)) → (Ft C1296 [12] w1297 (fun w_ => Go.Proofs.Ytdkbmchbkkhpoaa.PMfr.NetO w_ (.pointer (some ⟨g685, 0, none⟩)) t1253)) → (Own C1296 13 w1297 k35 35 (.slice A1220 x1219.length cp1222) x1219) → blazonlaw25_built.j0 kq1303 a0 l1 t1252 t1253 x1219 x1225 x1302 = some (r1, r2) → K1291 ⟨#[.int .i64 a0, .slice A1 l1.length c1, (g_ 2), (g_ 3), (g_ 4), (g_ 5), .pointer (some ⟨g685, 0, none⟩), .slice A1220 x1219.length cp1222, .int .i64 x1225, (g_ 9), .int .i64 t1252, (g_ 11), (g_ 12), (g_ 13), (g_ 14), (g_ 15), (g_ 16), (g_ 17), (g_ 18), (g_ 19), (g_ 20), (g_ 21), (g_ 22), (g_ 23), (g_ 24), (g_ 25), (g_ 26), (g_ 27), (g_ 28), (g_ 29), (g_ 30), (g_ 31), (g_ 32), (g_ 33), (g_ 34), (g_ 35), (g_ 36), (g_ 37), (g_ 38), (g_ 39), (g_ 40), (g_ 41), (g_ 42), (g_ 43), (g_ 44), (g_ 45), (g_ 46), (g_ 47), (g_ 48), (g_ 49), (g_ 50), (g_ 51), (g_ 52), (g_ 53), (g_ 54), (g_ 55), (g_ 56), (g_ 57), (g_ 58), (g_ 59), (g_ 60), (g_ 61), (g_ 62), (g_ 63), (g_ 64), (g_ 65), (g_ 66), (g_ 67), (g_ 68), .bool x1302, (g_ 70), (g_ 71), (g_ 72), (g_ 73), (g_ 74), (g_ 75), (g_ 76), (g_ 77), (g_ 78), (g_ 79), (g_ 80), (g_ 81), (g_ 82), (g_ 83), (g_ 84), (g_ 85)], []⟩ w1297 := by
      intro kq1303 C1296 w1297 x1302 g_ HS1298 hk1304 HJ1299 HJ1300 HJ1301 H
      cases kq1303 with
      | zero => exact absurd H (by simp [blazonlaw25_built.j0])
      | succ k1305 =>
       simp only [blazonlaw25_built.j0] at H
       refine hK1291 _ _ ?_
       (try clear hK1291)
       by_cases c1306 : x1302 = true
       ·rw [if_pos c1306] at H
        (try rw [c1306])
        refine wp_cond_true rfl ?_
        refine wp_seq_k fun K1307 hK1307 => ?_
        refine wl_region ?_
        refine st (.pointer none) rfl rfl (xr_assign _ rfl rfl) ?_
        simp only [ls0, ls1]
        refine st (.slice none 0 0) rfl rfl (xr_assign _ rfl rfl) ?_
        refine wl_end ?_
        (try simp only [ls0, ls1])
        refine hK1307 _ _ ?_
        (try clear hK1307 K1307)
        refine wp_ret ?_
        (try simp only [Exit.inBlock, Exit.then, Exit.noGoto])
        (try simp only [ls0, ls1])
        simp only [Option.some.injEq, Prod.mk.injEq] at H
        obtain ⟨rfl, rfl⟩ := H
        refine bodyPost_ret (results_tmp2 rfl _ _ _) rfl ?_
        exact ⟨_, (.pointer none), none, 0, rfl, HS1298, (Go.Proofs.Ytdkbmchbkkhpoaa.PMfr.NetO.nil _ _ _), (Own.nil _ _ _ _ _), (Nat.le_refl 0)⟩
       rw [if_neg c1306] at H
       (try rw [(Bool.eq_false_iff.mpr c1306)])
       refine wp_cond_false rfl ?_
       refine wp_skip ?_
       (try simp only [ls0, ls1])
       refine hK1270 _ _ ?_
       (try clear hK1270 K1270)
       refine wp_seq_k fun K1308 hK1308 => ?_
       refine wl_region ?_
       refine mv_ rfl ?_
       refine st (.bool (decide (t1252 = 0))) rfl rfl (xr_bin _ _ _ rfl rfl rfl (B.eql_i64 _ _)) ?_
       refine wl_end ?_
       (try simp only [ls0, ls1])
       refine hK1308 _ _ ?_
       (try clear hK1308 K1308)
       by_cases c1309 : t1252 = 0
       ·rw [if_pos c1309] at H
        (try rw [(decide_eq_true c1309)])
        refine wp_cond_true rfl ?_
        refine wl_region ?_
        refine mv_ rfl ?_
        refine mv_ rfl ?_
        refine mv_ rfl ?_
        obtain ⟨c1310, H⟩ := if_some H
        obtain ⟨c1311, H⟩ := if_some H
        obtain ⟨ad1312, hA1313⟩ := c_addr (Ft.now HJ1299) (pos_of (j := x1225) (by first | assumption | decide) (by first | assumption | omega))
        refine st (.pointer (some (ad1312.add ((x1225 : Int).toNat * 3)))) rfl rfl (xr_indexAddr _ _ _ rfl rfl rfl (index_at Try.underlying22 info35 hA1313 (by first | assumption | decide | omega) (by first | assumption | decide | omega))) ?_
        simp only [ls0, ls1]
        refine st (.agg #[.int .i64 ((rd_T35 l1 x1225).f0), .int .i64 ((rd_T35 l1 x1225).f1), .int .i64 ((rd_T35 l1 x1225).f2)]) rfl rfl (xr_load (.pointer (some (ad1312.add ((x1225 : Int).toNat * 3)))) (.agg #[.int .i64 ((rd_T35 l1 x1225).f0), .int .i64 ((rd_T35 l1 x1225).f1), .int .i64 ((rd_T35 l1 x1225).f2)]) rfl rfl (by obtain ⟨ad_, cs_, e_, _, hK_, hc_⟩ := Kd.C_get (Ft.now HJ1299) z35 x1225 (by first | assumption | decide | omega) (by first | assumption | decide | omega); rw [hA1313] at e_; injection e_ with e_; subst e_; obtain rfl := k35_open hK_; exact load_agg (cs := [.int .i64 ((rd_T35 l1 x1225).f0), .int .i64 ((rd_T35 l1 x1225).f1), .int .i64 ((rd_T35 l1 x1225).f2)]) Try.underlying35 rfl (by kernel_rfl) (fun j_ u_ hu_ => by first | (rw [add_add]; exact hc_ _ _ hu_) | exact add_cells hc_ hu_))) ?_
        refine ev_run (w1 := w1297.alloc (.cells #[.int .i64 ((rd_T35 l1 x1225).f0), .int .i64 ((rd_T35 l1 x1225).f1), .int .i64 ((rd_T35 l1 x1225).f2)] 35)) (.slice (some ⟨w1297.heap.size, 0, none⟩) 1 1) rfl rfl (by first | (go_simp; done) | (go_simp; rfl)) ?_
        (try simp only [Act.put, List.setIfInBounds_toArray, ls0, ls1])
        obtain ⟨c1315, H⟩ := if_some H
        obtain ⟨y1316, A1317, H⟩ := bnd H
        refine Own.append k35 (C := C1296) (i := 13) rfl (.tmp 72) (.tmp 77) 22 35 (.agg #[(.int .i64 0), (.int .i64 0), (.int .i64 0)]) 24 rfl Try.underlying22 info35 rfl (by decide) (by decide) (.slice A1220 x1219.length cp1222) x1219 (⟨(rd_T35 l1 x1225).f0, (rd_T35 l1 x1225).f1, (rd_T35 l1 x1225).f2⟩ : S35) [.int .i64 ((rd_T35 l1 x1225).f0), .int .i64 ((rd_T35 l1 x1225).f1), .int .i64 ((rd_T35 l1 x1225).f2)] rfl rfl (k35_mkF _ _ (⟨(rd_T35 l1 x1225).f0, (rd_T35 l1 x1225).f1, (rd_T35 l1 x1225).f2⟩ : S35)) HJ1301 (by decide) (by omega) (Option.some.inj A1317) ?_
        intro A1318 cp1319 w1320 C1321 HO1322 HC1323 hs1324
        replace HJ1299 := HJ1299.thru hs1324 rfl
        replace HJ1300 := HJ1300.thru hs1324 rfl
        replace HS1298 := HS1298.trans hs1324 hc rfl
        (try simp only [Act.put, List.setIfInBounds_toArray, ls0, ls1])
        refine as_ rfl ?_
        refine wl_end ?_
        (try simp only [ls0, ls1])
        refine hK1238 _ _ ?_
        (try clear hK1238 K1238)
        refine wl_region ?_
        refine mv_ rfl ?_
        refine st (.int .i64 (wrap64 (x1225 + 1))) rfl rfl (xr_bin _ _ _ rfl rfl rfl (B.add_i64 _ _)) ?_
        refine as_ rfl ?_
        refine wl_end ?_
        (try simp only [ls0, ls1])
        exact jmpL (fun a_ h_ => ih1231 k1305 (by omega) a_ _ h_) (fun g_ => ⟨_, wrap64 (x1225 + 1), t1253, A1318, y1316.length, cp1319, y1316, g_, rfl, HS1298, (by omega), HJ1299, HJ1300, HO1322, HC1323, H⟩) rfl
       rw [if_neg c1309] at H
       (try rw [(decide_eq_false c1309)])
       refine wp_cond_false rfl ?_
       refine wp_skip ?_
       (try simp only [ls0, ls1])
       refine hK1238 _ _ ?_
       (try clear hK1238 K1238)
       refine wl_region ?_
       refine mv_ rfl ?_
       refine st (.int .i64 (wrap64 (x1225 + 1))) rfl rfl (xr_bin _ _ _ rfl rfl rfl (B.add_i64 _ _)) ?_
       refine as_ rfl ?_
       refine wl_end ?_
       (try simp only [ls0, ls1])
       exact jmpL (fun a_ h_ => ih1231 k1305 (by omega) a_ _ h_) (fun g_ => ⟨_, wrap64 (x1225 + 1), t1253, A1220, x1219.length, cp1222, x1219, g_, rfl, HS1298, (by omega), HJ1299, HJ1300, HJ1301, HC1223, H⟩) rfl
     refine wl_region ?_
     refine mv_ rfl ?_
     refine mv_ rfl ?_
     refine st (.bool (!decide (t1252 = t1264))) rfl rfl (xr_bin _ _ _ rfl rfl rfl (B.neq_i64 _ _)) ?_
     refine mv_ rfl ?_
     simp only [ls0, ls1]
     by_cases c1325 : t1252 = t1264
     ·rw [if_pos c1325] at H
      (try rw [(decide_eq_true c1325)])
      (try simp only [Bool.not_true, Bool.not_false])
      refine on_guard (guard_on 3 false 52 rfl rfl rfl) ?_
      refine mv_ rfl ?_
      refine on_guard (guard_on 3 false 52 rfl rfl rfl) ?_
      refine st (.bool (decide (t1252 = 0))) rfl rfl (xr_bin _ _ _ rfl rfl rfl (B.eql_i64 _ _)) ?_
      refine on_guard (guard_on 3 false 52 rfl rfl rfl) ?_
      refine mv_ rfl ?_
      by_cases c1326 : t1252 = 0
      ·rw [if_pos c1326] at H
       (try rw [(decide_eq_true c1326)])
       refine on_guard (guard_on 6 true 55 rfl rfl rfl) ?_
       refine mv_ rfl ?_
       simp only [ls0, ls1]
       refine on_guard (guard_on 6 true 55 rfl rfl rfl) ?_
       refine mv_ rfl ?_
       refine on_guard (guard_on 6 true 55 rfl rfl rfl) ?_
       refine st (.int .i64 (x1219.length : Int)) rfl rfl (xr_builtin #[.slice A1220 x1219.length cp1222] (.int .i64 (x1219.length : Int)) rfl (mp_ rfl) (by first | rfl | (go_simp; done) | (go_simp; rfl) | (go_simp; exact i64_w _) | (go_simp; exact i32_w _))) ?_
       refine on_guard (guard_on 6 true 55 rfl rfl rfl) ?_
       refine st (.bool (!decide (t1251 = (x1219.length : Int)))) rfl rfl (xr_bin _ _ _ rfl rfl rfl (B.neq_i64 _ _)) ?_
       refine on_guard (guard_on 3 false 52 rfl rfl rfl) ?_
       refine st (.bool (!decide (t1251 = (x1219.length : Int)))) rfl rfl (xr_pick true _ rfl rfl rfl) ?_
       simp only [ls0, ls1]
       refine st (.bool (!decide (t1251 = (x1219.length : Int)))) rfl rfl (xr_pick false _ rfl rfl rfl) ?_
       refine mv_ rfl ?_
       by_cases c1327 : t1251 = (x1219.length : Int)
       ·rw [if_pos c1327] at H
        (try rw [(decide_eq_true c1327)])
        (try simp only [Bool.not_true, Bool.not_false])
        refine on_guard (guard_on 13 false 62 rfl rfl rfl) ?_
        refine mv_ rfl ?_
        refine on_guard (guard_on 13 false 62 rfl rfl rfl) ?_
        refine st (.bool (!decide (t1252 = 0))) rfl rfl (xr_bin _ _ _ rfl rfl rfl (B.neq_i64 _ _)) ?_
        simp only [ls0, ls1]
        refine on_guard (guard_on 13 false 62 rfl rfl rfl) ?_
        refine mv_ rfl ?_
        (try rw [(decide_eq_true c1326)])
        (try simp only [Bool.not_true, Bool.not_false])
        refine sk_guard (guard_off 16 true 65 rfl rfl false (by decide) rfl) rfl ?_
        refine sk_guard (guard_off 16 true 65 rfl rfl false (by decide) rfl) rfl ?_
        refine on_guard (guard_on 13 false 62 rfl rfl rfl) ?_
        refine st (.bool false) rfl rfl (xr_pick false _ rfl rfl rfl) ?_
        simp only [ls0, ls1]
        refine st (.bool false) rfl rfl (xr_pick false _ rfl rfl rfl) ?_
        refine wl_end ?_
        (try simp only [ls0, ls1])
        exact jmp (fun g_ => hj1295 _ _ _ (false) g_ HS1229 (by omega) HJ1216 HM1259 HJ1224 H) rfl
       rw [if_neg c1327] at H
       (try rw [(decide_eq_false c1327)])
       (try simp only [Bool.not_true, Bool.not_false])
       refine sk_guard (guard_off 13 false 62 rfl rfl true (by decide) rfl) rfl ?_
       refine sk_guard (guard_off 13 false 62 rfl rfl true (by decide) rfl) rfl ?_
       refine sk_guard (guard_off 13 false 62 rfl rfl true (by decide) rfl) rfl ?_
       refine sk_guard (guard_und 16 true 65 rfl rfl rfl) rfl ?_
       simp only [ls0, ls1]
       refine sk_guard (guard_und 16 true 65 rfl rfl rfl) rfl ?_
       refine sk_guard (guard_off 13 false 62 rfl rfl true (by decide) rfl) rfl ?_
       refine st (.bool true) rfl rfl (xr_pick true _ rfl rfl rfl) ?_
       refine wl_end ?_
       (try simp only [ls0, ls1])
       exact jmp (fun g_ => hj1295 _ _ _ (true) g_ HS1229 (by omega) HJ1216 HM1259 HJ1224 H) rfl
      rw [if_neg c1326] at H
      (try rw [(decide_eq_false c1326)])
      refine sk_guard (guard_off 6 true 55 rfl rfl false (by decide) rfl) rfl ?_
      refine sk_guard (guard_off 6 true 55 rfl rfl false (by decide) rfl) rfl ?_
      refine sk_guard (guard_off 6 true 55 rfl rfl false (by decide) rfl) rfl ?_
      refine sk_guard (guard_off 6 true 55 rfl rfl false (by decide) rfl) rfl ?_
      simp only [ls0, ls1]
      refine on_guard (guard_on 3 false 52 rfl rfl rfl) ?_
      refine st (.bool false) rfl rfl (xr_pick false _ rfl rfl rfl) ?_
      refine st (.bool false) rfl rfl (xr_pick false _ rfl rfl rfl) ?_
      refine mv_ rfl ?_
      refine on_guard (guard_on 13 false 62 rfl rfl rfl) ?_
      refine mv_ rfl ?_
      simp only [ls0, ls1]
      refine on_guard (guard_on 13 false 62 rfl rfl rfl) ?_
      refine st (.bool (!decide (t1252 = 0))) rfl rfl (xr_bin _ _ _ rfl rfl rfl (B.neq_i64 _ _)) ?_
      refine on_guard (guard_on 13 false 62 rfl rfl rfl) ?_
      refine mv_ rfl ?_
      (try rw [(decide_eq_false c1326)])
      (try simp only [Bool.not_true, Bool.not_false])
      refine on_guard (guard_on 16 true 65 rfl rfl rfl) ?_
      refine mv_ rfl ?_
      refine on_guard (guard_on 16 true 65 rfl rfl rfl) ?_
      refine st (.bool (!decide (t1251 = 0))) rfl rfl (xr_bin _ _ _ rfl rfl rfl (B.neq_i64 _ _)) ?_
      simp only [ls0, ls1]
      refine on_guard (guard_on 13 false 62 rfl rfl rfl) ?_
      refine st (.bool (!decide (t1251 = 0))) rfl rfl (xr_pick true _ rfl rfl rfl) ?_
      refine st (.bool (!decide (t1251 = 0))) rfl rfl (xr_pick false _ rfl rfl rfl) ?_
      refine wl_end ?_
      (try simp only [ls0, ls1])
      exact jmp (fun g_ => hj1295 _ _ _ (!decide (t1251 = 0)) g_ HS1229 (by omega) HJ1216 HM1259 HJ1224 H) rfl
     rw [if_neg c1325] at H
     (try rw [(decide_eq_false c1325)])
     (try simp only [Bool.not_true, Bool.not_false])
     refine sk_guard (guard_off 3 false 52 rfl rfl true (by decide) rfl) rfl ?_
     refine sk_guard (guard_off 3 false 52 rfl rfl true (by decide) rfl) rfl ?_
     refine sk_guard (guard_off 3 false 52 rfl rfl true (by decide) rfl) rfl ?_
     refine sk_guard (guard_und 6 true 55 rfl rfl rfl) rfl ?_
     simp only [ls0, ls1]
     refine sk_guard (guard_und 6 true 55 rfl rfl rfl) rfl ?_
     refine sk_guard (guard_und 6 true 55 rfl rfl rfl) rfl ?_
     refine sk_guard (guard_und 6 true 55 rfl rfl rfl) rfl ?_
     refine sk_guard (guard_off 3 false 52 rfl rfl true (by decide) rfl) rfl ?_
     simp only [ls0, ls1]
     refine st (.bool true) rfl rfl (xr_pick true _ rfl rfl rfl) ?_
     refine mv_ rfl ?_
     refine sk_guard (guard_off 13 false 62 rfl rfl true (by decide) rfl) rfl ?_
     refine sk_guard (guard_off 13 false 62 rfl rfl true (by decide) rfl) rfl ?_
     simp only [ls0, ls1]
     refine sk_guard (guard_off 13 false 62 rfl rfl true (by decide) rfl) rfl ?_
     refine sk_guard (guard_und 16 true 65 rfl rfl rfl) rfl ?_
     refine sk_guard (guard_und 16 true 65 rfl rfl rfl) rfl ?_
     refine sk_guard (guard_off 13 false 62 rfl rfl true (by decide) rfl) rfl ?_
     simp only [ls0, ls1]
     refine st (.bool true) rfl rfl (xr_pick true _ rfl rfl rfl) ?_
     refine wl_end ?_
     (try simp only [ls0, ls1])
     exact jmp (fun g_ => hj1295 _ _ _ (true) g_ HS1229 (by omega) HJ1216 HM1259 HJ1224 H) rfl
    rw [if_neg c1237] at H
    (try rw [(decide_eq_false c1237)])
    refine wp_cond_false rfl ?_
    refine wp_exit ?_
    (try simp only [ls0, ls1])
    refine hK687 _ _ ?_
    (try clear hK687 K687)
    refine wp_seq_k fun K1328 hK1328 => ?_
    refine wp_seq_k fun K1329 hK1329 => ?_
    refine wl_region ?_
    refine mv_ rfl ?_
    obtain ⟨⟨t1330, t1331⟩, A1332, H⟩ := bnd H
    (try dsimp only at H)
    refine st_call #[.pointer (some ⟨g685, 0, none⟩)] rfl rfl Try.func23 (by kernel_rfl) rfl rfl (mp_ rfl) ?_
    refine (maxflow_Net_Edges.calls (.pointer (some ⟨g685, 0, none⟩)) x1217 t1330 t1331  (fun z_ => pal [(0, 0), (12, 1)] (C1226 z_)) w1227 (fun _ => pal_lt rfl _) (Ft.arg HJ1218 rfl) A1332).mono ?_
    rintro _ w1334 ⟨C1335, rfl, hs1336, HM1337⟩
    refine ⟨_, rfl, ?_⟩
    replace HM1337 := Ft.res (U := [(0, 0), (1, 12)]) HM1337 hs1336 [12] rfl rfl rfl
    replace hs1336 := Step.lift (U := [(0, 0), (1, 12)]) hs1336 [12] rfl rfl
    generalize up C1226 C1335 w1227.heap.size [(0, 0), (1, 12)] = C1335_ at HM1337 hs1336
    replace HJ1224 := HJ1224.thru hs1336 rfl
    replace HS1229 := HS1229.trans hs1336 hc rfl
    (try simp only [Act.put, List.setIfInBounds_toArray, ls0, ls1])
    refine mv_ rfl ?_
    refine st (.int .i64 (x1219.length : Int)) rfl rfl (xr_builtin #[.slice A1220 x1219.length cp1222] (.int .i64 (x1219.length : Int)) rfl (mp_ rfl) (by first | rfl | (go_simp; done) | (go_simp; rfl) | (go_simp; exact i64_w _) | (go_simp; exact i32_w _))) ?_
    refine st (.bool (!decide (t1330 = (x1219.length : Int)))) rfl rfl (xr_bin _ _ _ rfl rfl rfl (B.neq_i64 _ _)) ?_
    refine wl_end ?_
    (try simp only [ls0, ls1])
    refine hK1329 _ _ ?_
    (try clear hK1329 K1329)
    by_cases c1338 : t1330 = (x1219.length : Int)
    ·rw [if_pos c1338] at H
     (try rw [(decide_eq_true c1338)])
     (try simp only [Bool.not_true, Bool.not_false])
     refine wp_cond_false rfl ?_
     refine wp_skip ?_
     (try simp only [ls0, ls1])
     refine hK1328 _ _ ?_
     (try clear hK1328 K1328)
     refine wp_seq_k fun K1339 hK1339 => ?_
     refine wl_region ?_
     refine mv_ rfl ?_
     refine mv_ rfl ?_
     refine as_ rfl ?_
     refine as_ rfl ?_
     simp only [ls0, ls1]
     refine wl_end ?_
     (try simp only [ls0, ls1])
     refine hK1339 _ _ ?_
     (try clear hK1339 K1339)
     refine wp_ret ?_
     (try simp only [Exit.inBlock, Exit.then, Exit.noGoto])
     (try simp only [ls0, ls1])
     replace HM1337 := Ft.recolor (a := 12) (b := 5) HM1337 [5] rfl
     replace HJ1224 := Own.recol (a := 12) (b := 5) HJ1224 (by decide) (by decide)
     replace HS1229 := Step.recol (a := 12) (b := 5) HS1229 hc (by decide)
     replace HM1337 := Ft.recol (a := 13) (b := 6) HM1337 (.inl rfl)
     replace HJ1224 := Own.recolor (b := 6) HJ1224 (by decide)
     replace HS1229 := Step.recol (a := 13) (b := 6) HS1229 hc (by decide)
     simp only [Option.some.injEq, Prod.mk.injEq] at H
     obtain ⟨rfl, rfl⟩ := H
     refine bodyPost_ret (results_tmp2 rfl _ _ _) rfl ?_
     exact ⟨_, (.pointer (some ⟨g685, 0, none⟩)), A1220, cp1222, rfl, HS1229, HM1337, HJ1224, HC1223⟩
    rw [if_neg c1338] at H
    (try rw [(decide_eq_false c1338)])
    (try simp only [Bool.not_true, Bool.not_false])
    refine wp_cond_true rfl ?_
    refine wp_seq_k fun K1340 hK1340 => ?_
    refine wl_region ?_
    refine st (.pointer none) rfl rfl (xr_assign _ rfl rfl) ?_
    refine st (.slice none 0 0) rfl rfl (xr_assign _ rfl rfl) ?_
    refine wl_end ?_
    (try simp only [ls0, ls1])
    refine hK1340 _ _ ?_
    (try clear hK1340 K1340)
    refine wp_ret ?_
    (try simp only [Exit.inBlock, Exit.then, Exit.noGoto])
    (try simp only [ls0, ls1])
    simp only [Option.some.injEq, Prod.mk.injEq] at H
    obtain ⟨rfl, rfl⟩ := H
    refine bodyPost_ret (results_tmp2 rfl _ _ _) rfl ?_
    exact ⟨_, (.pointer none), none, 0, rfl, HS1229, (Go.Proofs.Ytdkbmchbkkhpoaa.PMfr.NetO.nil _ _ _), (Own.nil _ _ _ _ _), (Nat.le_refl 0)⟩

end Go.Proofs.Ytdkbmchbkkhpoaa.PMls
