-- By cprint.py, a program of this work. Lean checks it.
import Derived.Test.YtdkbmchbkkhpoaaPMnlx0
namespace Go.Proofs.Ytdkbmchbkkhpoaa.PMnl
open Go.RowKit Go.Proofs.YtdkbmchbkkhpoaaW.PrintWords Go.Proofs.YtdkbmchbkkhpoaaW.PrintLast Go.Proofs.YtdkbmchbkkhpoaaW.PrintMore
set_option linter.unusedVariables false
set_option linter.unusedSimpArgs false

/-! ### maxflow_New: function 15 -/
def maxflow_New.f (a0 : Int) : Option (Option Go.Proofs.Ytdkbmchbkkhpoaa.PMfr.S74) := Go.Proofs.Ytdkbmchbkkhpoaa.PMfr.New.f a0
theorem maxflow_New.calls (a0 : Int) (r : Option Go.Proofs.Ytdkbmchbkkhpoaa.PMfr.S74) (c : Nat → Nat) (w : World) (hc : ∀ k, c k < 10) (H : maxflow_New.f a0 = some r) :
    Calls Try.prog 15 #[.int .i64 a0] w fun e w' => ∃ (c' : Nat → Nat) (v_r : Value), e = .returned v_r ∧ Step c w c' w' [] ∧ Ft c' [5] w' (fun w_ => Go.Proofs.Ytdkbmchbkkhpoaa.PMfr.NetO w_ v_r r) := Go.Proofs.Ytdkbmchbkkhpoaa.PMfr.New.oc a0 r c w hc H

/-! ### maxflow_Net_Max: function 17 -/
def maxflow_Net_Max.f (k : Nat) (x0 : Option Go.Proofs.Ytdkbmchbkkhpoaa.PMfr.S74) (a1 a2 : Int) : Option (Int × Int × Option Go.Proofs.Ytdkbmchbkkhpoaa.PMfr.S74) := Go.Proofs.Ytdkbmchbkkhpoaa.PMfr.Max.o k x0 a1 a2
theorem maxflow_Net_Max.calls (k : Nat) (v0 : Value) (x0 : Option Go.Proofs.Ytdkbmchbkkhpoaa.PMfr.S74) (a1 a2 : Int) (r1 r2 : Int) (r3 : Option Go.Proofs.Ytdkbmchbkkhpoaa.PMfr.S74) (c : Nat → Nat) (w : World) (hc : ∀ k, c k < 10) (HP0 : Ft c [1] w (fun w_ => Go.Proofs.Ytdkbmchbkkhpoaa.PMfr.NetO w_ v0 x0)) (H : maxflow_Net_Max.f k x0 a1 a2 = some (r1, r2, r3)) :
    Calls Try.prog 17 #[v0, .int .i64 a1, .int .i64 a2] w fun e w' => ∃ (c' : Nat → Nat), e = .returned (.tuple #[.int .i64 r1, .int .i64 r2]) ∧ Step c w c' w' [1] ∧ Ft c' [1] w' (fun w_ => Go.Proofs.Ytdkbmchbkkhpoaa.PMfr.NetO w_ v0 r3) := Go.Proofs.Ytdkbmchbkkhpoaa.PMfr.Max.oc k v0 x0 a1 a2 r1 r2 r3 c w hc HP0 H

/-! ### maxflow_Net_Flow: function 18 -/
def maxflow_Net_Flow.f (x0 : Option Go.Proofs.Ytdkbmchbkkhpoaa.PMfr.S74) (a1 : Int) : Option (Int × Option Go.Proofs.Ytdkbmchbkkhpoaa.PMfr.S74) := Go.Proofs.Ytdkbmchbkkhpoaa.PMfr.Flow.o x0 a1
theorem maxflow_Net_Flow.calls (v0 : Value) (x0 : Option Go.Proofs.Ytdkbmchbkkhpoaa.PMfr.S74) (a1 : Int) (r1 : Int) (r2 : Option Go.Proofs.Ytdkbmchbkkhpoaa.PMfr.S74) (c : Nat → Nat) (w : World) (hc : ∀ k, c k < 10) (HP0 : Ft c [1] w (fun w_ => Go.Proofs.Ytdkbmchbkkhpoaa.PMfr.NetO w_ v0 x0)) (H : maxflow_Net_Flow.f x0 a1 = some (r1, r2)) :
    Calls Try.prog 18 #[v0, .int .i64 a1] w fun e w' => ∃ (c' : Nat → Nat), e = .returned (.int .i64 r1) ∧ Step c w c' w' [1] ∧ Ft c' [1] w' (fun w_ => Go.Proofs.Ytdkbmchbkkhpoaa.PMfr.NetO w_ v0 r2) := Go.Proofs.Ytdkbmchbkkhpoaa.PMfr.Flow.oc v0 x0 a1 r1 r2 c w hc HP0 H

/-! ### maxflow_Net_Add: function 21 -/
def maxflow_Net_Add.f (k : Nat) (x0 : Option Go.Proofs.Ytdkbmchbkkhpoaa.PMfr.S74) (a1 a2 a3 : Int) : Option (Int × Int × Option Go.Proofs.Ytdkbmchbkkhpoaa.PMfr.S74) := Go.Proofs.Ytdkbmchbkkhpoaa.PMfr.Add.o k x0 a1 a2 a3
theorem maxflow_Net_Add.calls (k : Nat) (v0 : Value) (x0 : Option Go.Proofs.Ytdkbmchbkkhpoaa.PMfr.S74) (a1 a2 a3 : Int) (r1 r2 : Int) (r3 : Option Go.Proofs.Ytdkbmchbkkhpoaa.PMfr.S74) (c : Nat → Nat) (w : World) (hc : ∀ k, c k < 10) (HP0 : Ft c [1] w (fun w_ => Go.Proofs.Ytdkbmchbkkhpoaa.PMfr.NetO w_ v0 x0)) (H : maxflow_Net_Add.f k x0 a1 a2 a3 = some (r1, r2, r3)) :
    Calls Try.prog 21 #[v0, .int .i64 a1, .int .i64 a2, .int .i64 a3] w fun e w' => ∃ (c' : Nat → Nat), e = .returned (.tuple #[.int .i64 r1, .int .i64 r2]) ∧ Step c w c' w' [1] ∧ Ft c' [1] w' (fun w_ => Go.Proofs.Ytdkbmchbkkhpoaa.PMfr.NetO w_ v0 r3) := Go.Proofs.Ytdkbmchbkkhpoaa.PMfr.Add.oc k v0 x0 a1 a2 a3 r1 r2 r3 c w hc HP0 H

/-! ### blazonlaw25_awake: function 14 -/
def blazonlaw25_awake.f (k : Nat)  : Option (Bool) := (maxflow_New.f 3).bind fun t57 => ((maxflow_Net_Add.f k t57 0 1 3).bind fun bt66 => ((maxflow_Net_Add.f k bt66.2.2 1 2 2).bind fun bt76 => ((maxflow_Net_Max.f k bt76.2.2 0 2).bind fun bt86 => (if bt66.2.1 = 0 then (if bt76.2.1 = 0 then (if bt76.1 = 1 then (if bt86.1 = 2 then (if bt86.2.1 = 0 then ((maxflow_Net_Flow.f bt86.2.2 0).bind fun bt101 => (some (decide (bt101.1 = 2)))) else (some false)) else (some false)) else (some false)) else (some false)) else (some false)))))

set_option maxHeartbeats 8000000 in
set_option maxRecDepth 100000 in
theorem blazonlaw25_awake.calls (k : Nat)  (r : Bool) (c : Nat → Nat) (w : World) (hc : ∀ k, c k < 10)  (H : blazonlaw25_awake.f k = some r) :
    Calls Try.prog 14 #[] w fun e w' => ∃ (c' : Nat → Nat) , e = .returned (.bool r) ∧ Step c w c' w' [] := by
 unfold blazonlaw25_awake.f at H
 have HS := Step.refl c w []
 go_enter Try.func14, Try.ntmps14
 refine wp_seq_k fun K55 hK55 => ?_
 refine wl_region ?_
 refine st (.bool false) rfl rfl (xr_assign _ rfl rfl) ?_
 refine wl_end ?_
 (try simp only [ls0, ls1])
 refine hK55 _ _ ?_
 (try clear hK55 K55)
 refine wp_seq_k fun K56 hK56 => ?_
 refine wl_region ?_
 obtain ⟨t57, A58, H⟩ := bnd H
 refine st_call #[.int .i64 3] rfl rfl Try.func15 (by kernel_rfl) rfl rfl (mp_ rfl) ?_
 refine (maxflow_New.calls 3 t57  (fun z_ => pal [(0, 0)] (c z_)) w (fun _ => pal_lt rfl _) A58).mono ?_
 rintro _ w60 ⟨C61, v63, rfl, hs62, HB64⟩
 refine ⟨_, rfl, ?_⟩
 replace HB64 := Ft.res (U := [(0, 0), (5, 11)]) HB64 hs62 [11] rfl rfl rfl
 replace hs62 := Step.lift (U := [(0, 0), (5, 11)]) hs62 [] rfl rfl
 generalize up c C61 w.heap.size [(0, 0), (5, 11)] = C61_ at HB64 hs62
 replace HS := HS.trans hs62 hc rfl
 (try simp only [Act.put, List.setIfInBounds_toArray, ls0, ls1])
 refine as_ rfl ?_
 refine wl_end ?_
 (try simp only [ls0, ls1])
 refine hK56 _ _ ?_
 (try clear hK56 K56)
 refine wp_seq_k fun K65 hK65 => ?_
 refine wl_region ?_
 refine mv_ rfl ?_
 obtain ⟨⟨t66, t67, t68⟩, A69, H⟩ := bnd H
 (try dsimp only at H)
 refine st_call #[v63, .int .i64 0, .int .i64 1, .int .i64 3] rfl rfl Try.func21 (by kernel_rfl) rfl rfl (mp_ rfl) ?_
 refine (maxflow_Net_Add.calls k v63 t57 0 1 3 t66 t67 t68  (fun z_ => pal [(0, 0), (11, 1)] (C61_ z_)) w60 (fun _ => pal_lt rfl _) (Ft.arg HB64 rfl) A69).mono ?_
 rintro _ w71 ⟨C72, rfl, hs73, HM74⟩
 refine ⟨_, rfl, ?_⟩
 replace HM74 := Ft.res (U := [(0, 0), (1, 11)]) HM74 hs73 [11] rfl rfl rfl
 replace hs73 := Step.lift (U := [(0, 0), (1, 11)]) hs73 [11] rfl rfl
 generalize up C61_ C72 w60.heap.size [(0, 0), (1, 11)] = C72_ at HM74 hs73
 replace HS := HS.trans hs73 hc rfl
 (try simp only [Act.put, List.setIfInBounds_toArray, ls0, ls1])
 refine mv_ rfl ?_
 refine st (.int .i64 t66) rfl rfl (xr_extract (.tuple #[.int .i64 t66, .int .i64 t67]) _ rfl rfl rfl) ?_
 refine st (.int .i64 t67) rfl rfl (xr_extract (.tuple #[.int .i64 t66, .int .i64 t67]) _ rfl rfl rfl) ?_
 refine as_ rfl ?_
 simp only [ls0, ls1]
 refine as_ rfl ?_
 refine wl_end ?_
 (try simp only [ls0, ls1])
 refine hK65 _ _ ?_
 (try clear hK65 K65)
 refine wp_seq_k fun K75 hK75 => ?_
 refine wl_region ?_
 refine mv_ rfl ?_
 obtain ⟨⟨t76, t77, t78⟩, A79, H⟩ := bnd H
 (try dsimp only at H)
 refine st_call #[v63, .int .i64 1, .int .i64 2, .int .i64 2] rfl rfl Try.func21 (by kernel_rfl) rfl rfl (mp_ rfl) ?_
 refine (maxflow_Net_Add.calls k v63 t68 1 2 2 t76 t77 t78  (fun z_ => pal [(0, 0), (11, 1)] (C72_ z_)) w71 (fun _ => pal_lt rfl _) (Ft.arg HM74 rfl) A79).mono ?_
 rintro _ w81 ⟨C82, rfl, hs83, HM84⟩
 refine ⟨_, rfl, ?_⟩
 replace HM84 := Ft.res (U := [(0, 0), (1, 11)]) HM84 hs83 [11] rfl rfl rfl
 replace hs83 := Step.lift (U := [(0, 0), (1, 11)]) hs83 [11] rfl rfl
 generalize up C72_ C82 w71.heap.size [(0, 0), (1, 11)] = C82_ at HM84 hs83
 replace HS := HS.trans hs83 hc rfl
 (try simp only [Act.put, List.setIfInBounds_toArray, ls0, ls1])
 refine mv_ rfl ?_
 refine st (.int .i64 t76) rfl rfl (xr_extract (.tuple #[.int .i64 t76, .int .i64 t77]) _ rfl rfl rfl) ?_
 refine st (.int .i64 t77) rfl rfl (xr_extract (.tuple #[.int .i64 t76, .int .i64 t77]) _ rfl rfl rfl) ?_
 refine as_ rfl ?_
 simp only [ls0, ls1]
 refine as_ rfl ?_
 refine wl_end ?_
 (try simp only [ls0, ls1])
 refine hK75 _ _ ?_
 (try clear hK75 K75)
 refine wp_seq_k fun K85 hK85 => ?_
 refine wl_region ?_
 refine mv_ rfl ?_
 obtain ⟨⟨t86, t87, t88⟩, A89, H⟩ := bnd H
 (try dsimp only at H)
 refine st_call #[v63, .int .i64 0, .int .i64 2] rfl rfl Try.func17 (by kernel_rfl) rfl rfl (mp_ rfl) ?_
 refine (maxflow_Net_Max.calls k v63 t78 0 2 t86 t87 t88  (fun z_ => pal [(0, 0), (11, 1)] (C82_ z_)) w81 (fun _ => pal_lt rfl _) (Ft.arg HM84 rfl) A89).mono ?_
 rintro _ w91 ⟨C92, rfl, hs93, HM94⟩
 refine ⟨_, rfl, ?_⟩
 replace HM94 := Ft.res (U := [(0, 0), (1, 11)]) HM94 hs93 [11] rfl rfl rfl
 replace hs93 := Step.lift (U := [(0, 0), (1, 11)]) hs93 [11] rfl rfl
 generalize up C82_ C92 w81.heap.size [(0, 0), (1, 11)] = C92_ at HM94 hs93
 replace HS := HS.trans hs93 hc rfl
 (try simp only [Act.put, List.setIfInBounds_toArray, ls0, ls1])
 refine mv_ rfl ?_
 refine st (.int .i64 t86) rfl rfl (xr_extract (.tuple #[.int .i64 t86, .int .i64 t87]) _ rfl rfl rfl) ?_
 refine st (.int .i64 t87) rfl rfl (xr_extract (.tuple #[.int .i64 t86, .int .i64 t87]) _ rfl rfl rfl) ?_
 refine as_ rfl ?_
 simp only [ls0, ls1]
 refine as_ rfl ?_
 refine wl_end ?_
 (try simp only [ls0, ls1])
 refine hK85 _ _ ?_
 (try clear hK85 K85)
 refine wp_seq_k fun K95 hK95 => ?_
 refine wl_region ?_
 refine mv_ rfl ?_
 refine st (.bool (decide (t67 = 0))) rfl rfl (xr_bin _ _ _ rfl rfl rfl (B.eql_i64 _ _)) ?_
 refine mv_ rfl ?_
 by_cases c96 : t67 = 0
 ·rw [if_pos c96] at H
  (try rw [(decide_eq_true c96)])
  refine on_guard (guard_on 2 true 26 rfl rfl rfl) ?_
  refine mv_ rfl ?_
  simp only [ls0, ls1]
  refine on_guard (guard_on 2 true 26 rfl rfl rfl) ?_
  refine st (.bool (decide (t77 = 0))) rfl rfl (xr_bin _ _ _ rfl rfl rfl (B.eql_i64 _ _)) ?_
  refine st (.bool (decide (t77 = 0))) rfl rfl (xr_pick true _ rfl rfl rfl) ?_
  refine mv_ rfl ?_
  by_cases c97 : t77 = 0
  ·rw [if_pos c97] at H
   (try rw [(decide_eq_true c97)])
   refine on_guard (guard_on 6 true 30 rfl rfl rfl) ?_
   refine mv_ rfl ?_
   simp only [ls0, ls1]
   refine on_guard (guard_on 6 true 30 rfl rfl rfl) ?_
   refine st (.bool (decide (t76 = 1))) rfl rfl (xr_bin _ _ _ rfl rfl rfl (B.eql_i64 _ _)) ?_
   refine st (.bool (decide (t76 = 1))) rfl rfl (xr_pick true _ rfl rfl rfl) ?_
   refine mv_ rfl ?_
   by_cases c98 : t76 = 1
   ·rw [if_pos c98] at H
    (try rw [(decide_eq_true c98)])
    refine on_guard (guard_on 10 true 34 rfl rfl rfl) ?_
    refine mv_ rfl ?_
    simp only [ls0, ls1]
    refine on_guard (guard_on 10 true 34 rfl rfl rfl) ?_
    refine st (.bool (decide (t86 = 2))) rfl rfl (xr_bin _ _ _ rfl rfl rfl (B.eql_i64 _ _)) ?_
    refine st (.bool (decide (t86 = 2))) rfl rfl (xr_pick true _ rfl rfl rfl) ?_
    refine mv_ rfl ?_
    by_cases c99 : t86 = 2
    ·rw [if_pos c99] at H
     (try rw [(decide_eq_true c99)])
     refine on_guard (guard_on 14 true 38 rfl rfl rfl) ?_
     refine mv_ rfl ?_
     simp only [ls0, ls1]
     refine on_guard (guard_on 14 true 38 rfl rfl rfl) ?_
     refine st (.bool (decide (t87 = 0))) rfl rfl (xr_bin _ _ _ rfl rfl rfl (B.eql_i64 _ _)) ?_
     refine st (.bool (decide (t87 = 0))) rfl rfl (xr_pick true _ rfl rfl rfl) ?_
     refine mv_ rfl ?_
     by_cases c100 : t87 = 0
     ·rw [if_pos c100] at H
      (try rw [(decide_eq_true c100)])
      refine on_guard (guard_on 18 true 42 rfl rfl rfl) ?_
      refine mv_ rfl ?_
      simp only [ls0, ls1]
      refine on_guard (guard_on 18 true 42 rfl rfl rfl) ?_
      obtain ⟨⟨t101, t102⟩, A103, H⟩ := bnd H
      (try dsimp only at H)
      refine st_call #[v63, .int .i64 0] rfl rfl Try.func18 (by kernel_rfl) rfl rfl (mp_ rfl) ?_
      refine (maxflow_Net_Flow.calls v63 t88 0 t101 t102  (fun z_ => pal [(0, 0), (11, 1)] (C92_ z_)) w91 (fun _ => pal_lt rfl _) (Ft.arg HM94 rfl) A103).mono ?_
      rintro _ w105 ⟨C106, rfl, hs107, HM108⟩
      refine ⟨_, rfl, ?_⟩
      replace HM108 := Ft.res (U := [(0, 0), (1, 11)]) HM108 hs107 [11] rfl rfl rfl
      replace hs107 := Step.lift (U := [(0, 0), (1, 11)]) hs107 [11] rfl rfl
      generalize up C92_ C106 w91.heap.size [(0, 0), (1, 11)] = C106_ at HM108 hs107
      replace HS := HS.trans hs107 hc rfl
      (try simp only [Act.put, List.setIfInBounds_toArray, ls0, ls1])
      refine on_guard (guard_on 18 true 42 rfl rfl rfl) ?_
      refine st (.bool (decide (t101 = 2))) rfl rfl (xr_bin _ _ _ rfl rfl rfl (B.eql_i64 _ _)) ?_
      refine st (.bool (decide (t101 = 2))) rfl rfl (xr_pick true _ rfl rfl rfl) ?_
      refine as_ rfl ?_
      refine wl_end ?_
      (try simp only [ls0, ls1])
      refine hK95 _ _ ?_
      (try clear hK95 K95)
      refine wp_ret ?_
      (try simp only [Exit.inBlock, Exit.then, Exit.noGoto])
      (try simp only [ls0, ls1])
      obtain rfl := Option.some.inj H
      refine bodyPost_ret (results_tmp rfl _ _ _) rfl ?_
      exact ⟨_, rfl, HS⟩
     rw [if_neg c100] at H
     (try rw [(decide_eq_false c100)])
     refine sk_guard (guard_off 18 true 42 rfl rfl false (by decide) rfl) rfl ?_
     refine sk_guard (guard_off 18 true 42 rfl rfl false (by decide) rfl) rfl ?_
     refine sk_guard (guard_off 18 true 42 rfl rfl false (by decide) rfl) rfl ?_
     refine st (.bool false) rfl rfl (xr_pick false _ rfl rfl rfl) ?_
     simp only [ls0, ls1]
     refine as_ rfl ?_
     refine wl_end ?_
     (try simp only [ls0, ls1])
     refine hK95 _ _ ?_
     (try clear hK95 K95)
     refine wp_ret ?_
     (try simp only [Exit.inBlock, Exit.then, Exit.noGoto])
     (try simp only [ls0, ls1])
     obtain rfl := Option.some.inj H
     refine bodyPost_ret (results_tmp rfl _ _ _) rfl ?_
     exact ⟨_, rfl, HS⟩
    rw [if_neg c99] at H
    (try rw [(decide_eq_false c99)])
    refine sk_guard (guard_off 14 true 38 rfl rfl false (by decide) rfl) rfl ?_
    refine sk_guard (guard_off 14 true 38 rfl rfl false (by decide) rfl) rfl ?_
    refine st (.bool false) rfl rfl (xr_pick false _ rfl rfl rfl) ?_
    refine mv_ rfl ?_
    simp only [ls0, ls1]
    refine sk_guard (guard_off 18 true 42 rfl rfl false (by decide) rfl) rfl ?_
    refine sk_guard (guard_off 18 true 42 rfl rfl false (by decide) rfl) rfl ?_
    refine sk_guard (guard_off 18 true 42 rfl rfl false (by decide) rfl) rfl ?_
    refine st (.bool false) rfl rfl (xr_pick false _ rfl rfl rfl) ?_
    simp only [ls0, ls1]
    refine as_ rfl ?_
    refine wl_end ?_
    (try simp only [ls0, ls1])
    refine hK95 _ _ ?_
    (try clear hK95 K95)
    refine wp_ret ?_
    (try simp only [Exit.inBlock, Exit.then, Exit.noGoto])
    (try simp only [ls0, ls1])
    obtain rfl := Option.some.inj H
    refine bodyPost_ret (results_tmp rfl _ _ _) rfl ?_
    exact ⟨_, rfl, HS⟩
   rw [if_neg c98] at H
   (try rw [(decide_eq_false c98)])
   refine sk_guard (guard_off 10 true 34 rfl rfl false (by decide) rfl) rfl ?_
   refine sk_guard (guard_off 10 true 34 rfl rfl false (by decide) rfl) rfl ?_
   refine st (.bool false) rfl rfl (xr_pick false _ rfl rfl rfl) ?_
   refine mv_ rfl ?_
   simp only [ls0, ls1]
   refine sk_guard (guard_off 14 true 38 rfl rfl false (by decide) rfl) rfl ?_
   refine sk_guard (guard_off 14 true 38 rfl rfl false (by decide) rfl) rfl ?_
   refine st (.bool false) rfl rfl (xr_pick false _ rfl rfl rfl) ?_
   refine mv_ rfl ?_
   simp only [ls0, ls1]
   refine sk_guard (guard_off 18 true 42 rfl rfl false (by decide) rfl) rfl ?_
   refine sk_guard (guard_off 18 true 42 rfl rfl false (by decide) rfl) rfl ?_
   refine sk_guard (guard_off 18 true 42 rfl rfl false (by decide) rfl) rfl ?_
   refine st (.bool false) rfl rfl (xr_pick false _ rfl rfl rfl) ?_
   simp only [ls0, ls1]
   refine as_ rfl ?_
   refine wl_end ?_
   (try simp only [ls0, ls1])
   refine hK95 _ _ ?_
   (try clear hK95 K95)
   refine wp_ret ?_
   (try simp only [Exit.inBlock, Exit.then, Exit.noGoto])
   (try simp only [ls0, ls1])
   obtain rfl := Option.some.inj H
   refine bodyPost_ret (results_tmp rfl _ _ _) rfl ?_
   exact ⟨_, rfl, HS⟩
  rw [if_neg c97] at H
  (try rw [(decide_eq_false c97)])
  refine sk_guard (guard_off 6 true 30 rfl rfl false (by decide) rfl) rfl ?_
  refine sk_guard (guard_off 6 true 30 rfl rfl false (by decide) rfl) rfl ?_
  refine st (.bool false) rfl rfl (xr_pick false _ rfl rfl rfl) ?_
  refine mv_ rfl ?_
  simp only [ls0, ls1]
  refine sk_guard (guard_off 10 true 34 rfl rfl false (by decide) rfl) rfl ?_
  refine sk_guard (guard_off 10 true 34 rfl rfl false (by decide) rfl) rfl ?_
  refine st (.bool false) rfl rfl (xr_pick false _ rfl rfl rfl) ?_
  refine mv_ rfl ?_
  simp only [ls0, ls1]
  refine sk_guard (guard_off 14 true 38 rfl rfl false (by decide) rfl) rfl ?_
  refine sk_guard (guard_off 14 true 38 rfl rfl false (by decide) rfl) rfl ?_
  refine st (.bool false) rfl rfl (xr_pick false _ rfl rfl rfl) ?_
  refine mv_ rfl ?_
  simp only [ls0, ls1]
  refine sk_guard (guard_off 18 true 42 rfl rfl false (by decide) rfl) rfl ?_
  refine sk_guard (guard_off 18 true 42 rfl rfl false (by decide) rfl) rfl ?_
  refine sk_guard (guard_off 18 true 42 rfl rfl false (by decide) rfl) rfl ?_
  refine st (.bool false) rfl rfl (xr_pick false _ rfl rfl rfl) ?_
  simp only [ls0, ls1]
  refine as_ rfl ?_
  refine wl_end ?_
  (try simp only [ls0, ls1])
  refine hK95 _ _ ?_
  (try clear hK95 K95)
  refine wp_ret ?_
  (try simp only [Exit.inBlock, Exit.then, Exit.noGoto])
  (try simp only [ls0, ls1])
  obtain rfl := Option.some.inj H
  refine bodyPost_ret (results_tmp rfl _ _ _) rfl ?_
  exact ⟨_, rfl, HS⟩
 rw [if_neg c96] at H
 (try rw [(decide_eq_false c96)])
 refine sk_guard (guard_off 2 true 26 rfl rfl false (by decide) rfl) rfl ?_
 refine sk_guard (guard_off 2 true 26 rfl rfl false (by decide) rfl) rfl ?_
 refine st (.bool false) rfl rfl (xr_pick false _ rfl rfl rfl) ?_
 refine mv_ rfl ?_
 simp only [ls0, ls1]
 refine sk_guard (guard_off 6 true 30 rfl rfl false (by decide) rfl) rfl ?_
 refine sk_guard (guard_off 6 true 30 rfl rfl false (by decide) rfl) rfl ?_
 refine st (.bool false) rfl rfl (xr_pick false _ rfl rfl rfl) ?_
 refine mv_ rfl ?_
 simp only [ls0, ls1]
 refine sk_guard (guard_off 10 true 34 rfl rfl false (by decide) rfl) rfl ?_
 refine sk_guard (guard_off 10 true 34 rfl rfl false (by decide) rfl) rfl ?_
 refine st (.bool false) rfl rfl (xr_pick false _ rfl rfl rfl) ?_
 refine mv_ rfl ?_
 simp only [ls0, ls1]
 refine sk_guard (guard_off 14 true 38 rfl rfl false (by decide) rfl) rfl ?_
 refine sk_guard (guard_off 14 true 38 rfl rfl false (by decide) rfl) rfl ?_
 refine st (.bool false) rfl rfl (xr_pick false _ rfl rfl rfl) ?_
 refine mv_ rfl ?_
 simp only [ls0, ls1]
 refine sk_guard (guard_off 18 true 42 rfl rfl false (by decide) rfl) rfl ?_
 refine sk_guard (guard_off 18 true 42 rfl rfl false (by decide) rfl) rfl ?_
 refine sk_guard (guard_off 18 true 42 rfl rfl false (by decide) rfl) rfl ?_
 refine st (.bool false) rfl rfl (xr_pick false _ rfl rfl rfl) ?_
 simp only [ls0, ls1]
 refine as_ rfl ?_
 refine wl_end ?_
 (try simp only [ls0, ls1])
 refine hK95 _ _ ?_
 (try clear hK95 K95)
 refine wp_ret ?_
 (try simp only [Exit.inBlock, Exit.then, Exit.noGoto])
 (try simp only [ls0, ls1])
 obtain rfl := Option.some.inj H
 refine bodyPost_ret (results_tmp rfl _ _ _) rfl ?_
 exact ⟨_, rfl, HS⟩

/-! ### maxflow_Net_Edges: function 23 -/
def maxflow_Net_Edges.f (x0 : Option Go.Proofs.Ytdkbmchbkkhpoaa.PMfr.S74) : Option (Int × Option Go.Proofs.Ytdkbmchbkkhpoaa.PMfr.S74) := Go.Proofs.Ytdkbmchbkkhpoaa.PMfr.Edges.o x0
theorem maxflow_Net_Edges.calls (v0 : Value) (x0 : Option Go.Proofs.Ytdkbmchbkkhpoaa.PMfr.S74) (r1 : Int) (r2 : Option Go.Proofs.Ytdkbmchbkkhpoaa.PMfr.S74) (c : Nat → Nat) (w : World) (hc : ∀ k, c k < 10) (HP0 : Ft c [1] w (fun w_ => Go.Proofs.Ytdkbmchbkkhpoaa.PMfr.NetO w_ v0 x0)) (H : maxflow_Net_Edges.f x0 = some (r1, r2)) :
    Calls Try.prog 23 #[v0] w fun e w' => ∃ (c' : Nat → Nat), e = .returned (.int .i64 r1) ∧ Step c w c' w' [1] ∧ Ft c' [1] w' (fun w_ => Go.Proofs.Ytdkbmchbkkhpoaa.PMfr.NetO w_ v0 r2) := Go.Proofs.Ytdkbmchbkkhpoaa.PMfr.Edges.oc v0 x0 r1 r2 c w hc HP0 H

/-! ### maxflow_Net_Steps: function 24 -/
def maxflow_Net_Steps.f (x0 : Option Go.Proofs.Ytdkbmchbkkhpoaa.PMfr.S74) : Option (Int × Option Go.Proofs.Ytdkbmchbkkhpoaa.PMfr.S74) := Go.Proofs.Ytdkbmchbkkhpoaa.PMfr.Steps.o x0
theorem maxflow_Net_Steps.calls (v0 : Value) (x0 : Option Go.Proofs.Ytdkbmchbkkhpoaa.PMfr.S74) (r1 : Int) (r2 : Option Go.Proofs.Ytdkbmchbkkhpoaa.PMfr.S74) (c : Nat → Nat) (w : World) (hc : ∀ k, c k < 10) (HP0 : Ft c [1] w (fun w_ => Go.Proofs.Ytdkbmchbkkhpoaa.PMfr.NetO w_ v0 x0)) (H : maxflow_Net_Steps.f x0 = some (r1, r2)) :
    Calls Try.prog 24 #[v0] w fun e w' => ∃ (c' : Nat → Nat), e = .returned (.int .i64 r1) ∧ Step c w c' w' [1] ∧ Ft c' [1] w' (fun w_ => Go.Proofs.Ytdkbmchbkkhpoaa.PMfr.NetO w_ v0 r2) := Go.Proofs.Ytdkbmchbkkhpoaa.PMfr.Steps.oc v0 x0 r1 r2 c w hc HP0 H

/-! ### maxflow_Net_Side: function 25 -/
def maxflow_Net_Side.f (k : Nat) (x0 : Option Go.Proofs.Ytdkbmchbkkhpoaa.PMfr.S74) (a1 : Int) : Option (List Bool × Option Go.Proofs.Ytdkbmchbkkhpoaa.PMfr.S74) := Go.Proofs.Ytdkbmchbkkhpoaa.PMfr.Side.o k x0 a1
theorem maxflow_Net_Side.calls (k : Nat) (v0 : Value) (x0 : Option Go.Proofs.Ytdkbmchbkkhpoaa.PMfr.S74) (a1 : Int) (r1 : List Bool) (r2 : Option Go.Proofs.Ytdkbmchbkkhpoaa.PMfr.S74) (c : Nat → Nat) (w : World) (hc : ∀ k, c k < 10) (HP0 : Ft c [1] w (fun w_ => Go.Proofs.Ytdkbmchbkkhpoaa.PMfr.NetO w_ v0 x0)) (H : maxflow_Net_Side.f k x0 a1 = some (r1, r2)) :
    Calls Try.prog 25 #[v0, .int .i64 a1] w fun e w' => ∃ (c' : Nat → Nat) (A_r1 : Option Addr) (c_r1 : Nat), e = .returned (.slice A_r1 r1.length c_r1) ∧ Step c w c' w' [1] ∧ Own c' 5 w' Kd.bool 4 (.slice A_r1 r1.length c_r1) r1 ∧ r1.length ≤ c_r1 ∧ Ft c' [1] w' (fun w_ => Go.Proofs.Ytdkbmchbkkhpoaa.PMfr.NetO w_ v0 r2) := Go.Proofs.Ytdkbmchbkkhpoaa.PMfr.Side.oc k v0 x0 a1 r1 r2 c w hc HP0 H

/-! ### blazonlaw25_MaxflowNil: function 8 -/
def blazonlaw25_MaxflowNil.f (k : Nat) (a0 : Int) (a1 : Int) (a2 : Int) : Option (Bool) := (maxflow_Net_Add.f k (none : Option Go.Proofs.Ytdkbmchbkkhpoaa.PMfr.S74) a0 a1 a2).bind fun bt89 => ((maxflow_Net_Max.f k (none : Option Go.Proofs.Ytdkbmchbkkhpoaa.PMfr.S74) a0 a1).bind fun bt98 => (if bt89.2.1 = 1 then (if bt98.2.1 = 1 then ((maxflow_Net_Flow.f (none : Option Go.Proofs.Ytdkbmchbkkhpoaa.PMfr.S74) a0).bind fun bt109 => (if bt109.1 = 0 then ((maxflow_Net_Side.f k (none : Option Go.Proofs.Ytdkbmchbkkhpoaa.PMfr.S74) a0).bind fun bt117 => (if (bt117.1.length : Int) = 0 then ((maxflow_Net_Edges.f (none : Option Go.Proofs.Ytdkbmchbkkhpoaa.PMfr.S74)).bind fun bt129 => (if bt129.1 = 0 then ((maxflow_Net_Steps.f (none : Option Go.Proofs.Ytdkbmchbkkhpoaa.PMfr.S74)).bind fun bt137 => (if bt137.1 = 0 then ((maxflow_New.f 65537).bind fun t145 => (onOpt t145 ((maxflow_New.f 65536).bind fun t154 => (onOpt t154 (some false) (fun o162 => ((blazonlaw25_awake.f k).bind fun t164 => (some t164))))) (fun o153 => (some false)))) else (some false))) else (some false))) else (some false))) else (some false))) else (some false)) else (some false)))

set_option maxHeartbeats 8000000 in
set_option maxRecDepth 100000 in
theorem blazonlaw25_MaxflowNil.calls (k : Nat) (a0 : Int) (a1 : Int) (a2 : Int) (r : Bool) (c : Nat → Nat) (w : World) (hc : ∀ k, c k < 10)  (H : blazonlaw25_MaxflowNil.f k a0 a1 a2 = some r) :
    Calls Try.prog 8 #[.int .i64 a0, .int .i64 a1, .int .i64 a2] w fun e w' => ∃ (c' : Nat → Nat) , e = .returned (.bool r) ∧ Step c w c' w' [] := by
 unfold blazonlaw25_MaxflowNil.f at H
 have HS := Step.refl c w []
 go_enter Try.func8, Try.ntmps8
 refine wp_seq_k fun K86 hK86 => ?_
 refine wl_region ?_
 refine st (.bool false) rfl rfl (xr_assign _ rfl rfl) ?_
 refine wl_end ?_
 (try simp only [ls0, ls1])
 refine hK86 _ _ ?_
 (try clear hK86 K86)
 refine wp_seq_k fun K87 hK87 => ?_
 refine wl_region ?_
 refine st (.pointer none) rfl rfl (xr_assign _ rfl rfl) ?_
 refine wl_end ?_
 (try simp only [ls0, ls1])
 refine hK87 _ _ ?_
 (try clear hK87 K87)
 refine wp_seq_k fun K88 hK88 => ?_
 refine wl_region ?_
 refine mv_ rfl ?_
 refine mv_ rfl ?_
 refine mv_ rfl ?_
 refine mv_ rfl ?_
 simp only [ls0, ls1]
 obtain ⟨⟨t89, t90, t91⟩, A92, H⟩ := bnd H
 (try dsimp only at H)
 refine st_call #[.pointer none, .int .i64 a0, .int .i64 a1, .int .i64 a2] rfl rfl Try.func21 (by kernel_rfl) rfl rfl (mp_ rfl) ?_
 refine (maxflow_Net_Add.calls k (.pointer none) (none : Option Go.Proofs.Ytdkbmchbkkhpoaa.PMfr.S74) a0 a1 a2 t89 t90 t91  (fun z_ => pal [(0, 0)] (c z_)) w (fun _ => pal_lt rfl _) (Go.Proofs.Ytdkbmchbkkhpoaa.PMfr.NetO.nil _ _ _) A92).mono ?_
 rintro _ w94 ⟨C95, rfl, hs96, _⟩
 refine ⟨_, rfl, ?_⟩
 replace hs96 := Step.lift (U := [(0, 0)]) hs96 [] rfl rfl
 generalize up c C95 w.heap.size [(0, 0)] = C95_ at hs96
 replace HS := HS.trans hs96 hc rfl
 (try simp only [Act.put, List.setIfInBounds_toArray, ls0, ls1])
 refine mv_ rfl ?_
 refine st (.int .i64 t89) rfl rfl (xr_extract (.tuple #[.int .i64 t89, .int .i64 t90]) _ rfl rfl rfl) ?_
 refine st (.int .i64 t90) rfl rfl (xr_extract (.tuple #[.int .i64 t89, .int .i64 t90]) _ rfl rfl rfl) ?_
 refine as_ rfl ?_
 simp only [ls0, ls1]
 refine as_ rfl ?_
 refine wl_end ?_
 (try simp only [ls0, ls1])
 refine hK88 _ _ ?_
 (try clear hK88 K88)
 refine wp_seq_k fun K97 hK97 => ?_
 refine wl_region ?_
 refine mv_ rfl ?_
 refine mv_ rfl ?_
 refine mv_ rfl ?_
 obtain ⟨⟨t98, t99, t100⟩, A101, H⟩ := bnd H
 (try dsimp only at H)
 refine st_call #[.pointer none, .int .i64 a0, .int .i64 a1] rfl rfl Try.func17 (by kernel_rfl) rfl rfl (mp_ rfl) ?_
 refine (maxflow_Net_Max.calls k (.pointer none) (none : Option Go.Proofs.Ytdkbmchbkkhpoaa.PMfr.S74) a0 a1 t98 t99 t100  (fun z_ => pal [(0, 0)] (C95_ z_)) w94 (fun _ => pal_lt rfl _) (Go.Proofs.Ytdkbmchbkkhpoaa.PMfr.NetO.nil _ _ _) A101).mono ?_
 rintro _ w103 ⟨C104, rfl, hs105, _⟩
 refine ⟨_, rfl, ?_⟩
 replace hs105 := Step.lift (U := [(0, 0)]) hs105 [] rfl rfl
 generalize up C95_ C104 w94.heap.size [(0, 0)] = C104_ at hs105
 replace HS := HS.trans hs105 hc rfl
 (try simp only [Act.put, List.setIfInBounds_toArray, ls0, ls1])
 refine mv_ rfl ?_
 refine st (.int .i64 t98) rfl rfl (xr_extract (.tuple #[.int .i64 t98, .int .i64 t99]) _ rfl rfl rfl) ?_
 refine st (.int .i64 t99) rfl rfl (xr_extract (.tuple #[.int .i64 t98, .int .i64 t99]) _ rfl rfl rfl) ?_
 refine as_ rfl ?_
 simp only [ls0, ls1]
 refine as_ rfl ?_
 refine wl_end ?_
 (try simp only [ls0, ls1])
 refine hK97 _ _ ?_
 (try clear hK97 K97)
 refine wp_seq_k fun K106 hK106 => ?_
 refine wl_region ?_
 refine mv_ rfl ?_
 refine st (.bool (decide (t90 = 1))) rfl rfl (xr_bin _ _ _ rfl rfl rfl (B.eql_i64 _ _)) ?_
 refine mv_ rfl ?_
 by_cases c107 : t90 = 1
 ·rw [if_pos c107] at H
  (try rw [(decide_eq_true c107)])
  refine on_guard (guard_on 2 true 29 rfl rfl rfl) ?_
  refine mv_ rfl ?_
  simp only [ls0, ls1]
  refine on_guard (guard_on 2 true 29 rfl rfl rfl) ?_
  refine st (.bool (decide (t99 = 1))) rfl rfl (xr_bin _ _ _ rfl rfl rfl (B.eql_i64 _ _)) ?_
  refine st (.bool (decide (t99 = 1))) rfl rfl (xr_pick true _ rfl rfl rfl) ?_
  refine mv_ rfl ?_
  by_cases c108 : t99 = 1
  ·rw [if_pos c108] at H
   (try rw [(decide_eq_true c108)])
   refine on_guard (guard_on 6 true 33 rfl rfl rfl) ?_
   refine mv_ rfl ?_
   simp only [ls0, ls1]
   refine on_guard (guard_on 6 true 33 rfl rfl rfl) ?_
   refine mv_ rfl ?_
   refine on_guard (guard_on 6 true 33 rfl rfl rfl) ?_
   obtain ⟨⟨t109, t110⟩, A111, H⟩ := bnd H
   (try dsimp only at H)
   refine st_call #[.pointer none, .int .i64 a0] rfl rfl Try.func18 (by kernel_rfl) rfl rfl (mp_ rfl) ?_
   refine (maxflow_Net_Flow.calls (.pointer none) (none : Option Go.Proofs.Ytdkbmchbkkhpoaa.PMfr.S74) a0 t109 t110  (fun z_ => pal [(0, 0)] (C104_ z_)) w103 (fun _ => pal_lt rfl _) (Go.Proofs.Ytdkbmchbkkhpoaa.PMfr.NetO.nil _ _ _) A111).mono ?_
   rintro _ w113 ⟨C114, rfl, hs115, _⟩
   refine ⟨_, rfl, ?_⟩
   replace hs115 := Step.lift (U := [(0, 0)]) hs115 [] rfl rfl
   generalize up C104_ C114 w103.heap.size [(0, 0)] = C114_ at hs115
   replace HS := HS.trans hs115 hc rfl
   (try simp only [Act.put, List.setIfInBounds_toArray, ls0, ls1])
   refine on_guard (guard_on 6 true 33 rfl rfl rfl) ?_
   refine st (.bool (decide (t109 = 0))) rfl rfl (xr_bin _ _ _ rfl rfl rfl (B.eql_i64 _ _)) ?_
   refine st (.bool (decide (t109 = 0))) rfl rfl (xr_pick true _ rfl rfl rfl) ?_
   refine mv_ rfl ?_
   by_cases c116 : t109 = 0
   ·rw [if_pos c116] at H
    (try rw [(decide_eq_true c116)])
    refine on_guard (guard_on 12 true 39 rfl rfl rfl) ?_
    refine mv_ rfl ?_
    simp only [ls0, ls1]
    refine on_guard (guard_on 12 true 39 rfl rfl rfl) ?_
    refine mv_ rfl ?_
    refine on_guard (guard_on 12 true 39 rfl rfl rfl) ?_
    obtain ⟨⟨t117, t118⟩, A119, H⟩ := bnd H
    (try dsimp only at H)
    refine st_call #[.pointer none, .int .i64 a0] rfl rfl Try.func25 (by kernel_rfl) rfl rfl (mp_ rfl) ?_
    refine (maxflow_Net_Side.calls k (.pointer none) (none : Option Go.Proofs.Ytdkbmchbkkhpoaa.PMfr.S74) a0 t117 t118  (fun z_ => pal [(0, 0)] (C114_ z_)) w113 (fun _ => pal_lt rfl _) (Go.Proofs.Ytdkbmchbkkhpoaa.PMfr.NetO.nil _ _ _) A119).mono ?_
    rintro _ w121 ⟨C122, A124, cp125, rfl, hs123, HO126, HC127, _⟩
    refine ⟨_, rfl, ?_⟩
    replace HO126 := Own.resF (U := [(0, 0), (5, 11)]) (j := 11) (fun _ _ _ _ h_ => h_) HO126 hs123 (by rfl) (by decide) rfl
    replace hs123 := Step.lift (U := [(0, 0), (5, 11)]) hs123 [] rfl rfl
    generalize up C114_ C122 w113.heap.size [(0, 0), (5, 11)] = C122_ at HO126 hs123
    replace HS := HS.trans hs123 hc rfl
    (try simp only [Act.put, List.setIfInBounds_toArray, ls0, ls1])
    refine on_guard (guard_on 12 true 39 rfl rfl rfl) ?_
    refine st (.int .i64 (t117.length : Int)) rfl rfl (xr_builtin #[.slice A124 t117.length cp125] (.int .i64 (t117.length : Int)) rfl (mp_ rfl) (by first | rfl | (go_simp; done) | (go_simp; rfl) | (go_simp; exact i64_w _) | (go_simp; exact i32_w _))) ?_
    refine on_guard (guard_on 12 true 39 rfl rfl rfl) ?_
    refine st (.bool (decide ((t117.length : Int) = 0))) rfl rfl (xr_bin _ _ _ rfl rfl rfl (B.eql_i64 _ _)) ?_
    refine st (.bool (decide ((t117.length : Int) = 0))) rfl rfl (xr_pick true _ rfl rfl rfl) ?_
    refine mv_ rfl ?_
    simp only [ls0, ls1]
    by_cases c128 : (t117.length : Int) = 0
    ·rw [if_pos c128] at H
     (try rw [(decide_eq_true c128)])
     refine on_guard (guard_on 19 true 46 rfl rfl rfl) ?_
     refine mv_ rfl ?_
     refine on_guard (guard_on 19 true 46 rfl rfl rfl) ?_
     obtain ⟨⟨t129, t130⟩, A131, H⟩ := bnd H
     (try dsimp only at H)
     refine st_call #[.pointer none] rfl rfl Try.func23 (by kernel_rfl) rfl rfl (mp_ rfl) ?_
     refine (maxflow_Net_Edges.calls (.pointer none) (none : Option Go.Proofs.Ytdkbmchbkkhpoaa.PMfr.S74) t129 t130  (fun z_ => pal [(0, 0)] (C122_ z_)) w121 (fun _ => pal_lt rfl _) (Go.Proofs.Ytdkbmchbkkhpoaa.PMfr.NetO.nil _ _ _) A131).mono ?_
     rintro _ w133 ⟨C134, rfl, hs135, _⟩
     refine ⟨_, rfl, ?_⟩
     replace hs135 := Step.lift (U := [(0, 0)]) hs135 [] rfl rfl
     generalize up C122_ C134 w121.heap.size [(0, 0)] = C134_ at hs135
     replace HS := HS.trans hs135 hc rfl
     (try simp only [Act.put, List.setIfInBounds_toArray, ls0, ls1])
     refine on_guard (guard_on 19 true 46 rfl rfl rfl) ?_
     refine st (.bool (decide (t129 = 0))) rfl rfl (xr_bin _ _ _ rfl rfl rfl (B.eql_i64 _ _)) ?_
     refine st (.bool (decide (t129 = 0))) rfl rfl (xr_pick true _ rfl rfl rfl) ?_
     refine mv_ rfl ?_
     by_cases c136 : t129 = 0
     ·rw [if_pos c136] at H
      (try rw [(decide_eq_true c136)])
      refine on_guard (guard_on 24 true 51 rfl rfl rfl) ?_
      refine mv_ rfl ?_
      simp only [ls0, ls1]
      refine on_guard (guard_on 24 true 51 rfl rfl rfl) ?_
      obtain ⟨⟨t137, t138⟩, A139, H⟩ := bnd H
      (try dsimp only at H)
      refine st_call #[.pointer none] rfl rfl Try.func24 (by kernel_rfl) rfl rfl (mp_ rfl) ?_
      refine (maxflow_Net_Steps.calls (.pointer none) (none : Option Go.Proofs.Ytdkbmchbkkhpoaa.PMfr.S74) t137 t138  (fun z_ => pal [(0, 0)] (C134_ z_)) w133 (fun _ => pal_lt rfl _) (Go.Proofs.Ytdkbmchbkkhpoaa.PMfr.NetO.nil _ _ _) A139).mono ?_
      rintro _ w141 ⟨C142, rfl, hs143, _⟩
      refine ⟨_, rfl, ?_⟩
      replace hs143 := Step.lift (U := [(0, 0)]) hs143 [] rfl rfl
      generalize up C134_ C142 w133.heap.size [(0, 0)] = C142_ at hs143
      replace HS := HS.trans hs143 hc rfl
      (try simp only [Act.put, List.setIfInBounds_toArray, ls0, ls1])
      refine on_guard (guard_on 24 true 51 rfl rfl rfl) ?_
      refine st (.bool (decide (t137 = 0))) rfl rfl (xr_bin _ _ _ rfl rfl rfl (B.eql_i64 _ _)) ?_
      refine st (.bool (decide (t137 = 0))) rfl rfl (xr_pick true _ rfl rfl rfl) ?_
      refine mv_ rfl ?_
      by_cases c144 : t137 = 0
      ·rw [if_pos c144] at H
       (try rw [(decide_eq_true c144)])
       refine on_guard (guard_on 29 true 56 rfl rfl rfl) ?_
       obtain ⟨t145, A146, H⟩ := bnd H
       refine st_call #[.int .i64 65537] rfl rfl Try.func15 (by kernel_rfl) rfl rfl (mp_ rfl) ?_
       refine (maxflow_New.calls 65537 t145  (fun z_ => pal [(0, 0)] (C142_ z_)) w141 (fun _ => pal_lt rfl _) A146).mono ?_
       rintro _ w148 ⟨C149, v151, rfl, hs150, HB152⟩
       refine ⟨_, rfl, ?_⟩
       replace HB152 := Ft.res (U := [(0, 0), (5, 12)]) HB152 hs150 [12] rfl rfl rfl
       replace hs150 := Step.lift (U := [(0, 0), (5, 12)]) hs150 [] rfl rfl
       generalize up C142_ C149 w141.heap.size [(0, 0), (5, 12)] = C149_ at HB152 hs150
       replace HS := HS.trans hs150 hc rfl
       (try simp only [Act.put, List.setIfInBounds_toArray, ls0, ls1])
       refine on_guard (guard_on 29 true 56 rfl rfl rfl) ?_
       cases t145 with
       | none =>
        (try simp only [onOpt] at H)
        obtain rfl := Go.Proofs.Ytdkbmchbkkhpoaa.PMfr.NetO.isNone HB152
        refine st (.bool true) rfl rfl (xr_bin (.pointer none) (.pointer none) (.bool true) rfl rfl rfl (B.eql_nn ⟨_, Try.underlying24⟩ (⟨0, 0, none⟩ : Addr))) ?_
        refine st (.bool true) rfl rfl (xr_pick true _ rfl rfl rfl) ?_
        refine mv_ rfl ?_
        refine on_guard (guard_on 33 true 60 rfl rfl rfl) ?_
        obtain ⟨t154, A155, H⟩ := bnd H
        refine st_call #[.int .i64 65536] rfl rfl Try.func15 (by kernel_rfl) rfl rfl (mp_ rfl) ?_
        refine (maxflow_New.calls 65536 t154  (fun z_ => pal [(0, 0)] (C149_ z_)) w148 (fun _ => pal_lt rfl _) A155).mono ?_
        rintro _ w157 ⟨C158, v160, rfl, hs159, HB161⟩
        refine ⟨_, rfl, ?_⟩
        replace HB161 := Ft.res (U := [(0, 0), (5, 13)]) HB161 hs159 [13] rfl rfl rfl
        replace hs159 := Step.lift (U := [(0, 0), (5, 13)]) hs159 [] rfl rfl
        generalize up C149_ C158 w148.heap.size [(0, 0), (5, 13)] = C158_ at HB161 hs159
        replace HS := HS.trans hs159 hc rfl
        (try simp only [Act.put, List.setIfInBounds_toArray, ls0, ls1])
        refine on_guard (guard_on 33 true 60 rfl rfl rfl) ?_
        cases t154 with
        | none =>
         (try simp only [onOpt] at H)
         obtain rfl := Go.Proofs.Ytdkbmchbkkhpoaa.PMfr.NetO.isNone HB161
         refine st (.bool false) rfl rfl (xr_bin (.pointer none) (.pointer none) (.bool false) rfl rfl rfl (B.neq_nn ⟨_, Try.underlying24⟩ (⟨0, 0, none⟩ : Addr))) ?_
         refine st (.bool false) rfl rfl (xr_pick true _ rfl rfl rfl) ?_
         refine mv_ rfl ?_
         refine sk_guard (guard_off 37 true 64 rfl rfl false (by decide) rfl) rfl ?_
         simp only [ls0, ls1]
         refine st (.bool false) rfl rfl (xr_pick false _ rfl rfl rfl) ?_
         refine as_ rfl ?_
         refine wl_end ?_
         (try simp only [ls0, ls1])
         refine hK106 _ _ ?_
         (try clear hK106 K106)
         refine wp_ret ?_
         (try simp only [Exit.inBlock, Exit.then, Exit.noGoto])
         (try simp only [ls0, ls1])
         obtain rfl := Option.some.inj H
         refine bodyPost_ret (results_tmp rfl _ _ _) rfl ?_
         exact ⟨_, rfl, HS⟩
        | some o162 =>
         (try simp only [onOpt] at H)
         obtain ⟨g163, rfl⟩ := Go.Proofs.Ytdkbmchbkkhpoaa.PMfr.NetO.isSome HB161
         refine st (.bool true) rfl rfl (xr_bin (.pointer (some ⟨g163, 0, none⟩)) (.pointer none) (.bool true) rfl rfl rfl (B.neq_pn ⟨_, Try.underlying24⟩ ⟨g163, 0, none⟩)) ?_
         refine st (.bool true) rfl rfl (xr_pick true _ rfl rfl rfl) ?_
         refine mv_ rfl ?_
         refine on_guard (guard_on 37 true 64 rfl rfl rfl) ?_
         obtain ⟨t164, A165, H⟩ := bnd H
         refine st_call #[] rfl rfl Try.func14 (by kernel_rfl) rfl rfl (mp_ rfl) ?_
         refine (blazonlaw25_awake.calls k t164  (fun z_ => pal [(0, 0)] (C158_ z_)) w157 (fun _ => pal_lt rfl _) A165).mono ?_
         rintro _ w167 ⟨C168, rfl, hs169⟩
         refine ⟨_, rfl, ?_⟩
         replace hs169 := Step.lift (U := [(0, 0)]) hs169 [] rfl rfl
         generalize up C158_ C168 w157.heap.size [(0, 0)] = C168_ at hs169
         replace HS := HS.trans hs169 hc rfl
         (try simp only [Act.put, List.setIfInBounds_toArray, ls0, ls1])
         refine st (.bool t164) rfl rfl (xr_pick true _ rfl rfl rfl) ?_
         refine as_ rfl ?_
         refine wl_end ?_
         (try simp only [ls0, ls1])
         refine hK106 _ _ ?_
         (try clear hK106 K106)
         refine wp_ret ?_
         (try simp only [Exit.inBlock, Exit.then, Exit.noGoto])
         (try simp only [ls0, ls1])
         obtain rfl := Option.some.inj H
         refine bodyPost_ret (results_tmp rfl _ _ _) rfl ?_
         exact ⟨_, rfl, HS⟩
       | some o153 =>
        (try simp only [onOpt] at H)
        obtain ⟨g170, rfl⟩ := Go.Proofs.Ytdkbmchbkkhpoaa.PMfr.NetO.isSome HB152
        refine st (.bool false) rfl rfl (xr_bin (.pointer (some ⟨g170, 0, none⟩)) (.pointer none) (.bool false) rfl rfl rfl (B.eql_pn ⟨_, Try.underlying24⟩ ⟨g170, 0, none⟩)) ?_
        refine st (.bool false) rfl rfl (xr_pick true _ rfl rfl rfl) ?_
        refine mv_ rfl ?_
        refine sk_guard (guard_off 33 true 60 rfl rfl false (by decide) rfl) rfl ?_
        simp only [ls0, ls1]
        refine sk_guard (guard_off 33 true 60 rfl rfl false (by decide) rfl) rfl ?_
        refine st (.bool false) rfl rfl (xr_pick false _ rfl rfl rfl) ?_
        refine mv_ rfl ?_
        refine sk_guard (guard_off 37 true 64 rfl rfl false (by decide) rfl) rfl ?_
        simp only [ls0, ls1]
        refine st (.bool false) rfl rfl (xr_pick false _ rfl rfl rfl) ?_
        refine as_ rfl ?_
        refine wl_end ?_
        (try simp only [ls0, ls1])
        refine hK106 _ _ ?_
        (try clear hK106 K106)
        refine wp_ret ?_
        (try simp only [Exit.inBlock, Exit.then, Exit.noGoto])
        (try simp only [ls0, ls1])
        obtain rfl := Option.some.inj H
        refine bodyPost_ret (results_tmp rfl _ _ _) rfl ?_
        exact ⟨_, rfl, HS⟩
      rw [if_neg c144] at H
      (try rw [(decide_eq_false c144)])
      refine sk_guard (guard_off 29 true 56 rfl rfl false (by decide) rfl) rfl ?_
      refine sk_guard (guard_off 29 true 56 rfl rfl false (by decide) rfl) rfl ?_
      refine st (.bool false) rfl rfl (xr_pick false _ rfl rfl rfl) ?_
      refine mv_ rfl ?_
      simp only [ls0, ls1]
      refine sk_guard (guard_off 33 true 60 rfl rfl false (by decide) rfl) rfl ?_
      refine sk_guard (guard_off 33 true 60 rfl rfl false (by decide) rfl) rfl ?_
      refine st (.bool false) rfl rfl (xr_pick false _ rfl rfl rfl) ?_
      refine mv_ rfl ?_
      simp only [ls0, ls1]
      refine sk_guard (guard_off 37 true 64 rfl rfl false (by decide) rfl) rfl ?_
      refine st (.bool false) rfl rfl (xr_pick false _ rfl rfl rfl) ?_
      refine as_ rfl ?_
      refine wl_end ?_
      (try simp only [ls0, ls1])
      refine hK106 _ _ ?_
      (try clear hK106 K106)
      refine wp_ret ?_
      (try simp only [Exit.inBlock, Exit.then, Exit.noGoto])
      (try simp only [ls0, ls1])
      obtain rfl := Option.some.inj H
      refine bodyPost_ret (results_tmp rfl _ _ _) rfl ?_
      exact ⟨_, rfl, HS⟩
     rw [if_neg c136] at H
     (try rw [(decide_eq_false c136)])
     refine sk_guard (guard_off 24 true 51 rfl rfl false (by decide) rfl) rfl ?_
     refine sk_guard (guard_off 24 true 51 rfl rfl false (by decide) rfl) rfl ?_
     refine sk_guard (guard_off 24 true 51 rfl rfl false (by decide) rfl) rfl ?_
     refine st (.bool false) rfl rfl (xr_pick false _ rfl rfl rfl) ?_
     simp only [ls0, ls1]
     refine mv_ rfl ?_
     refine sk_guard (guard_off 29 true 56 rfl rfl false (by decide) rfl) rfl ?_
     refine sk_guard (guard_off 29 true 56 rfl rfl false (by decide) rfl) rfl ?_
     refine st (.bool false) rfl rfl (xr_pick false _ rfl rfl rfl) ?_
     simp only [ls0, ls1]
     refine mv_ rfl ?_
     refine sk_guard (guard_off 33 true 60 rfl rfl false (by decide) rfl) rfl ?_
     refine sk_guard (guard_off 33 true 60 rfl rfl false (by decide) rfl) rfl ?_
     refine st (.bool false) rfl rfl (xr_pick false _ rfl rfl rfl) ?_
     simp only [ls0, ls1]
     refine mv_ rfl ?_
     refine sk_guard (guard_off 37 true 64 rfl rfl false (by decide) rfl) rfl ?_
     refine st (.bool false) rfl rfl (xr_pick false _ rfl rfl rfl) ?_
     refine as_ rfl ?_
     simp only [ls0, ls1]
     refine wl_end ?_
     (try simp only [ls0, ls1])
     refine hK106 _ _ ?_
     (try clear hK106 K106)
     refine wp_ret ?_
     (try simp only [Exit.inBlock, Exit.then, Exit.noGoto])
     (try simp only [ls0, ls1])
     obtain rfl := Option.some.inj H
     refine bodyPost_ret (results_tmp rfl _ _ _) rfl ?_
     exact ⟨_, rfl, HS⟩
    rw [if_neg c128] at H
    (try rw [(decide_eq_false c128)])
    refine sk_guard (guard_off 19 true 46 rfl rfl false (by decide) rfl) rfl ?_
    refine sk_guard (guard_off 19 true 46 rfl rfl false (by decide) rfl) rfl ?_
    refine sk_guard (guard_off 19 true 46 rfl rfl false (by decide) rfl) rfl ?_
    refine st (.bool false) rfl rfl (xr_pick false _ rfl rfl rfl) ?_
    simp only [ls0, ls1]
    refine mv_ rfl ?_
    refine sk_guard (guard_off 24 true 51 rfl rfl false (by decide) rfl) rfl ?_
    refine sk_guard (guard_off 24 true 51 rfl rfl false (by decide) rfl) rfl ?_
    refine sk_guard (guard_off 24 true 51 rfl rfl false (by decide) rfl) rfl ?_
    simp only [ls0, ls1]
    refine st (.bool false) rfl rfl (xr_pick false _ rfl rfl rfl) ?_
    refine mv_ rfl ?_
    refine sk_guard (guard_off 29 true 56 rfl rfl false (by decide) rfl) rfl ?_
    refine sk_guard (guard_off 29 true 56 rfl rfl false (by decide) rfl) rfl ?_
    simp only [ls0, ls1]
    refine st (.bool false) rfl rfl (xr_pick false _ rfl rfl rfl) ?_
    refine mv_ rfl ?_
    refine sk_guard (guard_off 33 true 60 rfl rfl false (by decide) rfl) rfl ?_
    refine sk_guard (guard_off 33 true 60 rfl rfl false (by decide) rfl) rfl ?_
    simp only [ls0, ls1]
    refine st (.bool false) rfl rfl (xr_pick false _ rfl rfl rfl) ?_
    refine mv_ rfl ?_
    refine sk_guard (guard_off 37 true 64 rfl rfl false (by decide) rfl) rfl ?_
    refine st (.bool false) rfl rfl (xr_pick false _ rfl rfl rfl) ?_
    simp only [ls0, ls1]
    refine as_ rfl ?_
    refine wl_end ?_
    (try simp only [ls0, ls1])
    refine hK106 _ _ ?_
    (try clear hK106 K106)
    refine wp_ret ?_
    (try simp only [Exit.inBlock, Exit.then, Exit.noGoto])
    (try simp only [ls0, ls1])
    obtain rfl := Option.some.inj H
    refine bodyPost_ret (results_tmp rfl _ _ _) rfl ?_
    exact ⟨_, rfl, HS⟩
   rw [if_neg c116] at H
   (try rw [(decide_eq_false c116)])
   refine sk_guard (guard_off 12 true 39 rfl rfl false (by decide) rfl) rfl ?_
   refine sk_guard (guard_off 12 true 39 rfl rfl false (by decide) rfl) rfl ?_
   refine sk_guard (guard_off 12 true 39 rfl rfl false (by decide) rfl) rfl ?_
   refine sk_guard (guard_off 12 true 39 rfl rfl false (by decide) rfl) rfl ?_
   simp only [ls0, ls1]
   refine sk_guard (guard_off 12 true 39 rfl rfl false (by decide) rfl) rfl ?_
   refine st (.bool false) rfl rfl (xr_pick false _ rfl rfl rfl) ?_
   refine mv_ rfl ?_
   refine sk_guard (guard_off 19 true 46 rfl rfl false (by decide) rfl) rfl ?_
   simp only [ls0, ls1]
   refine sk_guard (guard_off 19 true 46 rfl rfl false (by decide) rfl) rfl ?_
   refine sk_guard (guard_off 19 true 46 rfl rfl false (by decide) rfl) rfl ?_
   refine st (.bool false) rfl rfl (xr_pick false _ rfl rfl rfl) ?_
   refine mv_ rfl ?_
   simp only [ls0, ls1]
   refine sk_guard (guard_off 24 true 51 rfl rfl false (by decide) rfl) rfl ?_
   refine sk_guard (guard_off 24 true 51 rfl rfl false (by decide) rfl) rfl ?_
   refine sk_guard (guard_off 24 true 51 rfl rfl false (by decide) rfl) rfl ?_
   refine st (.bool false) rfl rfl (xr_pick false _ rfl rfl rfl) ?_
   simp only [ls0, ls1]
   refine mv_ rfl ?_
   refine sk_guard (guard_off 29 true 56 rfl rfl false (by decide) rfl) rfl ?_
   refine sk_guard (guard_off 29 true 56 rfl rfl false (by decide) rfl) rfl ?_
   refine st (.bool false) rfl rfl (xr_pick false _ rfl rfl rfl) ?_
   simp only [ls0, ls1]
   refine mv_ rfl ?_
   refine sk_guard (guard_off 33 true 60 rfl rfl false (by decide) rfl) rfl ?_
   refine sk_guard (guard_off 33 true 60 rfl rfl false (by decide) rfl) rfl ?_
   refine st (.bool false) rfl rfl (xr_pick false _ rfl rfl rfl) ?_
   simp only [ls0, ls1]
   refine mv_ rfl ?_
   refine sk_guard (guard_off 37 true 64 rfl rfl false (by decide) rfl) rfl ?_
   refine st (.bool false) rfl rfl (xr_pick false _ rfl rfl rfl) ?_
   refine as_ rfl ?_
   simp only [ls0, ls1]
   refine wl_end ?_
   (try simp only [ls0, ls1])
   refine hK106 _ _ ?_
   (try clear hK106 K106)
   refine wp_ret ?_
   (try simp only [Exit.inBlock, Exit.then, Exit.noGoto])
   (try simp only [ls0, ls1])
   obtain rfl := Option.some.inj H
   refine bodyPost_ret (results_tmp rfl _ _ _) rfl ?_
   exact ⟨_, rfl, HS⟩
  rw [if_neg c108] at H
  (try rw [(decide_eq_false c108)])
  refine sk_guard (guard_off 6 true 33 rfl rfl false (by decide) rfl) rfl ?_
  refine sk_guard (guard_off 6 true 33 rfl rfl false (by decide) rfl) rfl ?_
  refine sk_guard (guard_off 6 true 33 rfl rfl false (by decide) rfl) rfl ?_
  refine sk_guard (guard_off 6 true 33 rfl rfl false (by decide) rfl) rfl ?_
  simp only [ls0, ls1]
  refine st (.bool false) rfl rfl (xr_pick false _ rfl rfl rfl) ?_
  refine mv_ rfl ?_
  refine sk_guard (guard_off 12 true 39 rfl rfl false (by decide) rfl) rfl ?_
  refine sk_guard (guard_off 12 true 39 rfl rfl false (by decide) rfl) rfl ?_
  simp only [ls0, ls1]
  refine sk_guard (guard_off 12 true 39 rfl rfl false (by decide) rfl) rfl ?_
  refine sk_guard (guard_off 12 true 39 rfl rfl false (by decide) rfl) rfl ?_
  refine sk_guard (guard_off 12 true 39 rfl rfl false (by decide) rfl) rfl ?_
  refine st (.bool false) rfl rfl (xr_pick false _ rfl rfl rfl) ?_
  simp only [ls0, ls1]
  refine mv_ rfl ?_
  refine sk_guard (guard_off 19 true 46 rfl rfl false (by decide) rfl) rfl ?_
  refine sk_guard (guard_off 19 true 46 rfl rfl false (by decide) rfl) rfl ?_
  refine sk_guard (guard_off 19 true 46 rfl rfl false (by decide) rfl) rfl ?_
  simp only [ls0, ls1]
  refine st (.bool false) rfl rfl (xr_pick false _ rfl rfl rfl) ?_
  refine mv_ rfl ?_
  refine sk_guard (guard_off 24 true 51 rfl rfl false (by decide) rfl) rfl ?_
  refine sk_guard (guard_off 24 true 51 rfl rfl false (by decide) rfl) rfl ?_
  simp only [ls0, ls1]
  refine sk_guard (guard_off 24 true 51 rfl rfl false (by decide) rfl) rfl ?_
  refine st (.bool false) rfl rfl (xr_pick false _ rfl rfl rfl) ?_
  refine mv_ rfl ?_
  refine sk_guard (guard_off 29 true 56 rfl rfl false (by decide) rfl) rfl ?_
  simp only [ls0, ls1]
  refine sk_guard (guard_off 29 true 56 rfl rfl false (by decide) rfl) rfl ?_
  refine st (.bool false) rfl rfl (xr_pick false _ rfl rfl rfl) ?_
  refine mv_ rfl ?_
  refine sk_guard (guard_off 33 true 60 rfl rfl false (by decide) rfl) rfl ?_
  simp only [ls0, ls1]
  refine sk_guard (guard_off 33 true 60 rfl rfl false (by decide) rfl) rfl ?_
  refine st (.bool false) rfl rfl (xr_pick false _ rfl rfl rfl) ?_
  refine mv_ rfl ?_
  refine sk_guard (guard_off 37 true 64 rfl rfl false (by decide) rfl) rfl ?_
  simp only [ls0, ls1]
  refine st (.bool false) rfl rfl (xr_pick false _ rfl rfl rfl) ?_
  refine as_ rfl ?_
  refine wl_end ?_
  (try simp only [ls0, ls1])
  refine hK106 _ _ ?_
  (try clear hK106 K106)
  refine wp_ret ?_
  (try simp only [Exit.inBlock, Exit.then, Exit.noGoto])
  (try simp only [ls0, ls1])
  obtain rfl := Option.some.inj H
  refine bodyPost_ret (results_tmp rfl _ _ _) rfl ?_
  exact ⟨_, rfl, HS⟩
 rw [if_neg c107] at H
 (try rw [(decide_eq_false c107)])
 refine sk_guard (guard_off 2 true 29 rfl rfl false (by decide) rfl) rfl ?_
 refine sk_guard (guard_off 2 true 29 rfl rfl false (by decide) rfl) rfl ?_
 refine st (.bool false) rfl rfl (xr_pick false _ rfl rfl rfl) ?_
 refine mv_ rfl ?_
 simp only [ls0, ls1]
 refine sk_guard (guard_off 6 true 33 rfl rfl false (by decide) rfl) rfl ?_
 refine sk_guard (guard_off 6 true 33 rfl rfl false (by decide) rfl) rfl ?_
 refine sk_guard (guard_off 6 true 33 rfl rfl false (by decide) rfl) rfl ?_
 refine sk_guard (guard_off 6 true 33 rfl rfl false (by decide) rfl) rfl ?_
 simp only [ls0, ls1]
 refine st (.bool false) rfl rfl (xr_pick false _ rfl rfl rfl) ?_
 refine mv_ rfl ?_
 refine sk_guard (guard_off 12 true 39 rfl rfl false (by decide) rfl) rfl ?_
 refine sk_guard (guard_off 12 true 39 rfl rfl false (by decide) rfl) rfl ?_
 simp only [ls0, ls1]
 refine sk_guard (guard_off 12 true 39 rfl rfl false (by decide) rfl) rfl ?_
 refine sk_guard (guard_off 12 true 39 rfl rfl false (by decide) rfl) rfl ?_
 refine sk_guard (guard_off 12 true 39 rfl rfl false (by decide) rfl) rfl ?_
 refine st (.bool false) rfl rfl (xr_pick false _ rfl rfl rfl) ?_
 simp only [ls0, ls1]
 refine mv_ rfl ?_
 refine sk_guard (guard_off 19 true 46 rfl rfl false (by decide) rfl) rfl ?_
 refine sk_guard (guard_off 19 true 46 rfl rfl false (by decide) rfl) rfl ?_
 refine sk_guard (guard_off 19 true 46 rfl rfl false (by decide) rfl) rfl ?_
 simp only [ls0, ls1]
 refine st (.bool false) rfl rfl (xr_pick false _ rfl rfl rfl) ?_
 refine mv_ rfl ?_
 refine sk_guard (guard_off 24 true 51 rfl rfl false (by decide) rfl) rfl ?_
 refine sk_guard (guard_off 24 true 51 rfl rfl false (by decide) rfl) rfl ?_
 simp only [ls0, ls1]
 refine sk_guard (guard_off 24 true 51 rfl rfl false (by decide) rfl) rfl ?_
 refine st (.bool false) rfl rfl (xr_pick false _ rfl rfl rfl) ?_
 refine mv_ rfl ?_
 refine sk_guard (guard_off 29 true 56 rfl rfl false (by decide) rfl) rfl ?_
 simp only [ls0, ls1]
 refine sk_guard (guard_off 29 true 56 rfl rfl false (by decide) rfl) rfl ?_
 refine st (.bool false) rfl rfl (xr_pick false _ rfl rfl rfl) ?_
 refine mv_ rfl ?_
 refine sk_guard (guard_off 33 true 60 rfl rfl false (by decide) rfl) rfl ?_
 simp only [ls0, ls1]
 refine sk_guard (guard_off 33 true 60 rfl rfl false (by decide) rfl) rfl ?_
 refine st (.bool false) rfl rfl (xr_pick false _ rfl rfl rfl) ?_
 refine mv_ rfl ?_
 refine sk_guard (guard_off 37 true 64 rfl rfl false (by decide) rfl) rfl ?_
 simp only [ls0, ls1]
 refine st (.bool false) rfl rfl (xr_pick false _ rfl rfl rfl) ?_
 refine as_ rfl ?_
 refine wl_end ?_
 (try simp only [ls0, ls1])
 refine hK106 _ _ ?_
 (try clear hK106 K106)
 refine wp_ret ?_
 (try simp only [Exit.inBlock, Exit.then, Exit.noGoto])
 (try simp only [ls0, ls1])
 obtain rfl := Option.some.inj H
 refine bodyPost_ret (results_tmp rfl _ _ _) rfl ?_
 exact ⟨_, rfl, HS⟩
/-- THE ONE PURE STATEMENT of blazonlaw25_MaxflowNil. -/
def blazonlaw25_MaxflowNil.Pure : Prop := ∀ (a0 : Int) (a1 : Int) (a2 : Int), (Lit.int .i64 a0).wf = true → (Lit.int .i64 a1).wf = true → (Lit.int .i64 a2).wf = true → ∃ k, blazonlaw25_MaxflowNil.f k a0 a1 a2 = some true
theorem blazonlaw25_MaxflowNil.walk (P : blazonlaw25_MaxflowNil.Pure) (a0 : Int) (a1 : Int) (a2 : Int) (w : World) (w0 : (Lit.int .i64 a0).wf = true) (w1 : (Lit.int .i64 a1).wf = true) (w2 : (Lit.int .i64 a2).wf = true) :
    Calls Try.prog 8 #[.int .i64 a0, .int .i64 a1, .int .i64 a2] w fun e w' => e = .returned (.bool true) ∧ Below w.heap.size w w' := by
  obtain ⟨k, h⟩ := P a0 a1 a2 w0 w1 w2
  refine (blazonlaw25_MaxflowNil.calls k a0 a1 a2 true (fun _ => 0) w (fun _ => (by decide : (0 : Nat) < 10)) h).mono ?_
  rintro e w' ⟨c', rfl, hs⟩
  exact ⟨rfl, hs.below (fun _ => by simp)⟩

end Go.Proofs.Ytdkbmchbkkhpoaa.PMnl
