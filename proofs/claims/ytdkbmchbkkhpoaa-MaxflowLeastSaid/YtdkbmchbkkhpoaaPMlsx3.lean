-- By cprint.py, a program of this work. Lean checks it.
import Derived.Test.YtdkbmchbkkhpoaaPMlsx0
import Derived.Test.YtdkbmchbkkhpoaaPMlsx1
import Derived.Test.YtdkbmchbkkhpoaaPMlsx2
namespace Go.Proofs.Ytdkbmchbkkhpoaa.PMls
open Go.RowKit Go.Proofs.YtdkbmchbkkhpoaaW.PrintWords Go.Proofs.YtdkbmchbkkhpoaaW.PrintLast Go.Proofs.YtdkbmchbkkhpoaaW.PrintMore
set_option linter.unusedVariables false
set_option linter.unusedSimpArgs false

/-! ### blazonlaw25_MaxflowLeast: function 3 -/
mutual
def blazonlaw25_MaxflowLeast.j0 : Nat → Int → Int → Int → (List (S35)) → Int → Int → (Option Go.Proofs.Ytdkbmchbkkhpoaa.PMfr.S74) → Bool → Option (Bool)
  | 0, _, _, _, _, _, _, _, _ => none
  | k + 1, a0, a2, a3, t286, t304, t305, t306, x363 => if x363 = true then (if t304 = 0 then (if t305 = 1 then ((maxflow_Net_Flow.f t306 0).bind fun bt371 => (if bt371.1 = 0 then ((blazonlaw25_awake.f k).bind fun t380 => (some t380)) else (some false))) else (some false)) else (some false)) else ((blazonref25_Endless.f k a0 t286 a2 a3).bind fun t388 => (if t388 = true then (if t304 = 0 then (if t305 = 18 then ((maxflow_Net_Flow.f t306 0).bind fun bt398 => (if bt398.1 = 0 then ((blazonlaw25_awake.f k).bind fun t407 => (some t407)) else (some false))) else (some false)) else (some false)) else ((maxflow_Net_Max.f k t306 a2 a3).bind fun bt414 => ((blazonref25_Least.f k a0 t286 a2 a3).bind fun t424 => (if t304 = t424 then (if t305 = 0 then (if bt414.1 = t304 then (if bt414.2.1 = 0 then ((blazonlaw25_awake.f k).bind fun t434 => (some t434)) else (some false)) else (some false)) else (some false)) else (some false))))))
def blazonlaw25_MaxflowLeast.j1 : Nat → Int → Int → Int → (List (S35)) → Bool → Option (Bool)
  | 0, _, _, _, _, _ => none
  | k + 1, a0, a2, a3, l1, x252 => if x252 = true then ((blazonlaw25_awake.f k).bind fun t258 => (some t258)) else (if a0 < 1 then ((maxflow_New.f a0).bind fun t268 => (onOpt t268 ((blazonlaw25_awake.f k).bind fun t277 => (some t277)) (fun o276 => (some false)))) else ((blazonlaw25_built.f k a0 l1).bind fun bt285 => (onOpt bt285.1 (some false) (fun o300 => ((maxflow_Net_Max.f k (some o300 : Option Go.Proofs.Ytdkbmchbkkhpoaa.PMfr.S74) a2 a3).bind fun bt304 => (if a2 < 0 then (blazonlaw25_MaxflowLeast.j0 k a0 a2 a3 bt285.2 bt304.1 bt304.2.1 bt304.2.2 true) else (if a3 < 0 then (blazonlaw25_MaxflowLeast.j0 k a0 a2 a3 bt285.2 bt304.1 bt304.2.1 bt304.2.2 true) else (if a2 ≥ a0 then (blazonlaw25_MaxflowLeast.j0 k a0 a2 a3 bt285.2 bt304.1 bt304.2.1 bt304.2.2 true) else (if a3 ≥ a0 then (blazonlaw25_MaxflowLeast.j0 k a0 a2 a3 bt285.2 bt304.1 bt304.2.1 bt304.2.2 true) else (blazonlaw25_MaxflowLeast.j0 k a0 a2 a3 bt285.2 bt304.1 bt304.2.1 bt304.2.2 (decide (a2 = a3))))))))))))
end
def blazonlaw25_MaxflowLeast.f (k : Nat) (a0 : Int) (l1 : List (S35)) (a2 : Int) (a3 : Int) : Option (Bool) := if a0 > 10 then (blazonlaw25_MaxflowLeast.j1 k a0 a2 a3 l1 true) else (blazonlaw25_MaxflowLeast.j1 k a0 a2 a3 l1 (decide ((l1.length : Int) > 40)))

set_option maxHeartbeats 8000000 in
set_option maxRecDepth 100000 in
theorem blazonlaw25_MaxflowLeast.calls (k : Nat) (a0 : Int) (A1 : Option Addr) (c1 : Nat) (l1 : List (S35)) (a2 : Int) (a3 : Int) (r : Bool) (c : Nat → Nat) (w : World) (hc : ∀ k, c k < 10) (HP1 : Ft c [0] w (fun w_ => k35.C w_ A1 l1.length l1)) (HCP1 : l1.length ≤ c1) (H : blazonlaw25_MaxflowLeast.f k a0 l1 a2 a3 = some r) :
    Calls Try.prog 3 #[.int .i64 a0, .slice A1 l1.length c1, .int .i64 a2, .int .i64 a3] w fun e w' => ∃ (c' : Nat → Nat) , e = .returned (.bool r) ∧ Step c w c' w' [] := by
 unfold blazonlaw25_MaxflowLeast.f at H
 have HS := Step.refl c w []
 go_enter Try.func3, Try.ntmps3
 refine wp_seq_k fun K223 hK223 => ?_
 refine wl_region ?_
 refine st (.bool false) rfl rfl (xr_assign _ rfl rfl) ?_
 refine wl_end ?_
 (try simp only [ls0, ls1])
 refine hK223 _ _ ?_
 (try clear hK223 K223)
 refine wp_seq_k fun K224 hK224 => ?_
 refine wp_seq_k fun K245 hK245 => ?_
 have hj247 : ∀ (kq253 : Nat) (C248 : Nat → Nat) (w249 : World) (x252 : Bool) (g_ : Nat → Value), Step c w C248 w249 [] → kq253 ≤ k → (Ft C248 [0] w249 (fun w_ => k35.C w_ A1 l1.length l1)) → blazonlaw25_MaxflowLeast.j1 kq253 a0 a2 a3 l1 x252 = some r → K245 ⟨#[.int .i64 a0, .slice A1 l1.length c1, .int .i64 a2, .int .i64 a3, (g_ 4), (g_ 5), (g_ 6), (g_ 7), (g_ 8), (g_ 9), (g_ 10), (g_ 11), (g_ 12), (g_ 13), (g_ 14), (g_ 15), (g_ 16), (g_ 17), (g_ 18), (g_ 19), (g_ 20), .bool x252, (g_ 22), (g_ 23), (g_ 24), (g_ 25), (g_ 26), (g_ 27), (g_ 28), (g_ 29), (g_ 30), (g_ 31), (g_ 32), (g_ 33), (g_ 34), (g_ 35), (g_ 36), (g_ 37), (g_ 38), (g_ 39), (g_ 40), (g_ 41), (g_ 42), (g_ 43), (g_ 44), (g_ 45), (g_ 46), (g_ 47), (g_ 48), (g_ 49), (g_ 50), (g_ 51), (g_ 52), (g_ 53), (g_ 54), (g_ 55), (g_ 56), (g_ 57), (g_ 58), (g_ 59), (g_ 60), (g_ 61), (g_ 62), (g_ 63), (g_ 64), (g_ 65), (g_ 66), (g_ 67), (g_ 68), (g_ 69), (g_ 70), (g_ 71), (g_ 72), (g_ 73), (g_ 74), (g_ 75), (g_ 76), (g_ 77), (g_ 78), (g_ 79), (g_ 80), (g_ 81), (g_ 82), (g_ 83), (g_ 84), (g_ 85), (g_ 86), (g_ 87), (g_ 88), (g_ 89), (g_ 90), (g_ 91), (g_ 92), (g_ 93), (g_ 94), (g_ 95), (g_ 96), (g_ 97), (g_ 98), (g_ 99), (g_ 100), (g_ 101), (g_ 102), (g_ 103), (g_ 104), (g_ 105), (g_ 106), (g_ 107), (g_ 108), (g_ 109), (g_ 110), (g_ 111), (g_ 112), (g_ 113), (g_ 114), (g_ 115), (g_ 116), (g_ 117), (g_ 118), (g_ 119), (g_ 120), (g_ 121), (g_ 122), (g_ 123), (g_ 124), (g_ 125), (g_ 126), (g_ 127), (g_ 128), (g_ 129)], []⟩ w249 := by
  intro kq253 C248 w249 x252 g_ HS250 hk254 HJ251 H
  cases kq253 with
  | zero => exact absurd H (by simp [blazonlaw25_MaxflowLeast.j1])
  | succ k255 =>
   simp only [blazonlaw25_MaxflowLeast.j1] at H
   refine hK245 _ _ ?_
   (try clear hK245)
   by_cases c256 : x252 = true
   ·rw [if_pos c256] at H
    (try rw [c256])
    refine wp_cond_true rfl ?_
    refine wp_seq_k fun K257 hK257 => ?_
    refine wl_region ?_
    obtain ⟨t258, A259, H⟩ := bnd H
    refine st_call #[] rfl rfl Try.func14 (by kernel_rfl) rfl rfl (mp_ rfl) ?_
    refine (blazonlaw25_awake.calls k255 t258  (fun z_ => pal [(0, 0)] (C248 z_)) w249 (fun _ => pal_lt rfl _) A259).mono ?_
    rintro _ w261 ⟨C262, rfl, hs263⟩
    refine ⟨_, rfl, ?_⟩
    replace hs263 := Step.lift (U := [(0, 0)]) hs263 [] rfl rfl
    generalize up C248 C262 w249.heap.size [(0, 0)] = C262_ at hs263
    replace HS250 := HS250.trans hs263 hc rfl
    (try simp only [Act.put, List.setIfInBounds_toArray, ls0, ls1])
    refine as_ rfl ?_
    refine wl_end ?_
    (try simp only [ls0, ls1])
    refine hK257 _ _ ?_
    (try clear hK257 K257)
    refine wp_ret ?_
    (try simp only [Exit.inBlock, Exit.then, Exit.noGoto])
    (try simp only [ls0, ls1])
    obtain rfl := Option.some.inj H
    refine bodyPost_ret (results_tmp rfl _ _ _) rfl ?_
    exact ⟨_, rfl, HS250⟩
   rw [if_neg c256] at H
   (try rw [(Bool.eq_false_iff.mpr c256)])
   refine wp_cond_false rfl ?_
   refine wp_skip ?_
   (try simp only [ls0, ls1])
   refine hK224 _ _ ?_
   (try clear hK224 K224)
   refine wp_seq_k fun K264 hK264 => ?_
   refine wp_seq_k fun K265 hK265 => ?_
   refine wl_region ?_
   refine mv_ rfl ?_
   refine st (.bool (decide (a0 < 1))) rfl rfl (xr_bin _ _ _ rfl rfl rfl (B.lss_i64 _ _)) ?_
   refine wl_end ?_
   (try simp only [ls0, ls1])
   refine hK265 _ _ ?_
   (try clear hK265 K265)
   by_cases c266 : a0 < 1
   ·rw [if_pos c266] at H
    (try rw [(decide_eq_true c266)])
    refine wp_cond_true rfl ?_
    refine wp_seq_k fun K267 hK267 => ?_
    refine wl_region ?_
    refine mv_ rfl ?_
    obtain ⟨t268, A269, H⟩ := bnd H
    refine st_call #[.int .i64 a0] rfl rfl Try.func15 (by kernel_rfl) rfl rfl (mp_ rfl) ?_
    refine (maxflow_New.calls a0 t268  (fun z_ => pal [(0, 0)] (C248 z_)) w249 (fun _ => pal_lt rfl _) A269).mono ?_
    rintro _ w271 ⟨C272, v274, rfl, hs273, HB275⟩
    refine ⟨_, rfl, ?_⟩
    replace HB275 := Ft.res (U := [(0, 0), (5, 11)]) HB275 hs273 [11] rfl rfl rfl
    replace hs273 := Step.lift (U := [(0, 0), (5, 11)]) hs273 [] rfl rfl
    generalize up C248 C272 w249.heap.size [(0, 0), (5, 11)] = C272_ at HB275 hs273
    replace HS250 := HS250.trans hs273 hc rfl
    (try simp only [Act.put, List.setIfInBounds_toArray, ls0, ls1])
    cases t268 with
    | none =>
     (try simp only [onOpt] at H)
     obtain rfl := Go.Proofs.Ytdkbmchbkkhpoaa.PMfr.NetO.isNone HB275
     refine st (.bool true) rfl rfl (xr_bin (.pointer none) (.pointer none) (.bool true) rfl rfl rfl (B.eql_nn ⟨_, Try.underlying24⟩ (⟨0, 0, none⟩ : Addr))) ?_
     refine mv_ rfl ?_
     refine on_guard (guard_on 3 true 28 rfl rfl rfl) ?_
     obtain ⟨t277, A278, H⟩ := bnd H
     refine st_call #[] rfl rfl Try.func14 (by kernel_rfl) rfl rfl (mp_ rfl) ?_
     refine (blazonlaw25_awake.calls k255 t277  (fun z_ => pal [(0, 0)] (C272_ z_)) w271 (fun _ => pal_lt rfl _) A278).mono ?_
     rintro _ w280 ⟨C281, rfl, hs282⟩
     refine ⟨_, rfl, ?_⟩
     replace hs282 := Step.lift (U := [(0, 0)]) hs282 [] rfl rfl
     generalize up C272_ C281 w271.heap.size [(0, 0)] = C281_ at hs282
     replace HS250 := HS250.trans hs282 hc rfl
     (try simp only [Act.put, List.setIfInBounds_toArray, ls0, ls1])
     refine st (.bool t277) rfl rfl (xr_pick true _ rfl rfl rfl) ?_
     refine as_ rfl ?_
     refine wl_end ?_
     (try simp only [ls0, ls1])
     refine hK267 _ _ ?_
     (try clear hK267 K267)
     refine wp_ret ?_
     (try simp only [Exit.inBlock, Exit.then, Exit.noGoto])
     (try simp only [ls0, ls1])
     obtain rfl := Option.some.inj H
     refine bodyPost_ret (results_tmp rfl _ _ _) rfl ?_
     exact ⟨_, rfl, HS250⟩
    | some o276 =>
     (try simp only [onOpt] at H)
     obtain ⟨g283, rfl⟩ := Go.Proofs.Ytdkbmchbkkhpoaa.PMfr.NetO.isSome HB275
     refine st (.bool false) rfl rfl (xr_bin (.pointer (some ⟨g283, 0, none⟩)) (.pointer none) (.bool false) rfl rfl rfl (B.eql_pn ⟨_, Try.underlying24⟩ ⟨g283, 0, none⟩)) ?_
     refine mv_ rfl ?_
     refine sk_guard (guard_off 3 true 28 rfl rfl false (by decide) rfl) rfl ?_
     refine st (.bool false) rfl rfl (xr_pick false _ rfl rfl rfl) ?_
     simp only [ls0, ls1]
     refine as_ rfl ?_
     refine wl_end ?_
     (try simp only [ls0, ls1])
     refine hK267 _ _ ?_
     (try clear hK267 K267)
     refine wp_ret ?_
     (try simp only [Exit.inBlock, Exit.then, Exit.noGoto])
     (try simp only [ls0, ls1])
     obtain rfl := Option.some.inj H
     refine bodyPost_ret (results_tmp rfl _ _ _) rfl ?_
     exact ⟨_, rfl, HS250⟩
   rw [if_neg c266] at H
   (try rw [(decide_eq_false c266)])
   refine wp_cond_false rfl ?_
   refine wp_skip ?_
   (try simp only [ls0, ls1])
   refine hK264 _ _ ?_
   (try clear hK264 K264)
   refine wp_seq_k fun K284 hK284 => ?_
   refine wl_region ?_
   refine mv_ rfl ?_
   refine mv_ rfl ?_
   obtain ⟨⟨t285, t286⟩, A287, H⟩ := bnd H
   (try dsimp only at H)
   refine st_call #[.int .i64 a0, .slice A1 l1.length c1] rfl rfl Try.func16 (by kernel_rfl) rfl rfl (mp_ rfl) ?_
   refine (blazonlaw25_built.calls k255 a0 A1 c1 l1 t285 t286  (fun z_ => pal [(0, 0)] (C248 z_)) w249 (fun _ => pal_lt rfl _) (Ft.arg HJ251 rfl) HCP1 A287).mono ?_
   rintro _ w289 ⟨C290, v292, A294, cp295, rfl, hs291, HB293, HO296, HC297⟩
   refine ⟨_, rfl, ?_⟩
   replace HB293 := Ft.res (U := [(0, 0), (5, 11), (6, 12)]) HB293 hs291 [11] rfl rfl rfl
   replace HO296 := Own.resF (U := [(0, 0), (5, 11), (6, 12)]) (j := 12) (fun _ _ _ _ h_ => h_) HO296 hs291 (by rfl) (by decide) rfl
   replace hs291 := Step.lift (U := [(0, 0), (5, 11), (6, 12)]) hs291 [] rfl rfl
   generalize up C248 C290 w249.heap.size [(0, 0), (5, 11), (6, 12)] = C290_ at HB293 HO296 hs291
   replace HS250 := HS250.trans hs291 hc rfl
   (try simp only [Act.put, List.setIfInBounds_toArray, ls0, ls1])
   refine mv_ rfl ?_
   refine st (v292) rfl rfl (xr_extract (.tuple #[v292, .slice A294 t286.length cp295]) _ rfl rfl rfl) ?_
   refine st (.slice A294 t286.length cp295) rfl rfl (xr_extract (.tuple #[v292, .slice A294 t286.length cp295]) _ rfl rfl rfl) ?_
   refine as_ rfl ?_
   simp only [ls0, ls1]
   refine as_ rfl ?_
   refine wl_end ?_
   (try simp only [ls0, ls1])
   refine hK284 _ _ ?_
   (try clear hK284 K284)
   refine wp_seq_k fun K298 hK298 => ?_
   refine wp_seq_k fun K299 hK299 => ?_
   refine wl_region ?_
   refine mv_ rfl ?_
   cases t285 with
   | none =>
    (try simp only [onOpt] at H)
    obtain rfl := Go.Proofs.Ytdkbmchbkkhpoaa.PMfr.NetO.isNone HB293
    refine st (.bool true) rfl rfl (xr_bin (.pointer none) (.pointer none) (.bool true) rfl rfl rfl (B.eql_nn ⟨_, Try.underlying24⟩ (⟨0, 0, none⟩ : Addr))) ?_
    refine wl_end ?_
    (try simp only [ls0, ls1])
    refine hK299 _ _ ?_
    (try clear hK299 K299)
    refine wp_cond_true rfl ?_
    refine wp_seq_k fun K301 hK301 => ?_
    refine wl_region ?_
    refine st (.bool false) rfl rfl (xr_assign _ rfl rfl) ?_
    refine wl_end ?_
    (try simp only [ls0, ls1])
    refine hK301 _ _ ?_
    (try clear hK301 K301)
    refine wp_ret ?_
    (try simp only [Exit.inBlock, Exit.then, Exit.noGoto])
    (try simp only [ls0, ls1])
    obtain rfl := Option.some.inj H
    refine bodyPost_ret (results_tmp rfl _ _ _) rfl ?_
    exact ⟨_, rfl, HS250⟩
   | some o300 =>
    (try simp only [onOpt] at H)
    obtain ⟨g302, rfl⟩ := Go.Proofs.Ytdkbmchbkkhpoaa.PMfr.NetO.isSome HB293
    refine st (.bool false) rfl rfl (xr_bin (.pointer (some ⟨g302, 0, none⟩)) (.pointer none) (.bool false) rfl rfl rfl (B.eql_pn ⟨_, Try.underlying24⟩ ⟨g302, 0, none⟩)) ?_
    refine wl_end ?_
    (try simp only [ls0, ls1])
    refine hK299 _ _ ?_
    (try clear hK299 K299)
    refine wp_cond_false rfl ?_
    refine wp_skip ?_
    (try simp only [ls0, ls1])
    refine hK298 _ _ ?_
    (try clear hK298 K298)
    refine wp_seq_k fun K303 hK303 => ?_
    refine wl_region ?_
    refine mv_ rfl ?_
    refine mv_ rfl ?_
    refine mv_ rfl ?_
    obtain ⟨⟨t304, t305, t306⟩, A307, H⟩ := bnd H
    (try dsimp only at H)
    refine st_call #[.pointer (some ⟨g302, 0, none⟩), .int .i64 a2, .int .i64 a3] rfl rfl Try.func17 (by kernel_rfl) rfl rfl (mp_ rfl) ?_
    refine (maxflow_Net_Max.calls k255 (.pointer (some ⟨g302, 0, none⟩)) (some o300 : Option Go.Proofs.Ytdkbmchbkkhpoaa.PMfr.S74) a2 a3 t304 t305 t306  (fun z_ => pal [(0, 0), (11, 1)] (C290_ z_)) w289 (fun _ => pal_lt rfl _) (Ft.arg HB293 rfl) A307).mono ?_
    rintro _ w309 ⟨C310, rfl, hs311, HM312⟩
    refine ⟨_, rfl, ?_⟩
    replace HM312 := Ft.res (U := [(0, 0), (1, 11)]) HM312 hs311 [11] rfl rfl rfl
    replace hs311 := Step.lift (U := [(0, 0), (1, 11)]) hs311 [11] rfl rfl
    generalize up C290_ C310 w289.heap.size [(0, 0), (1, 11)] = C310_ at HM312 hs311
    replace HO296 := HO296.thru hs311 rfl
    replace HS250 := HS250.trans hs311 hc rfl
    (try simp only [Act.put, List.setIfInBounds_toArray, ls0, ls1])
    refine mv_ rfl ?_
    refine st (.int .i64 t304) rfl rfl (xr_extract (.tuple #[.int .i64 t304, .int .i64 t305]) _ rfl rfl rfl) ?_
    refine st (.int .i64 t305) rfl rfl (xr_extract (.tuple #[.int .i64 t304, .int .i64 t305]) _ rfl rfl rfl) ?_
    refine as_ rfl ?_
    simp only [ls0, ls1]
    refine as_ rfl ?_
    refine wl_end ?_
    (try simp only [ls0, ls1])
    refine hK303 _ _ ?_
    (try clear hK303 K303)
    refine wp_seq_k fun K313 hK313 => ?_
    refine wp_seq_k fun K352 hK352 => ?_
    have hj357 : ∀ (kq364 : Nat) (C358 : Nat → Nat) (w359 : World) (x363 : Bool) (g_ : Nat → Value), Step c w C358 w359 [] → kq364 ≤ k255 → (Ft C358 [11] w359 (fun w_ => Go.Proofs.Ytdkbmchbkkhpoaa.PMfr.NetO w_ (.pointer (some ⟨g302, 0, none⟩)) t306)) → (Own C358 12 w359 k35 35 (.slice A294 t286.length cp295) t286) → blazonlaw25_MaxflowLeast.j0 kq364 a0 a2 a3 t286 t304 t305 t306 x363 = some r → K352 ⟨#[.int .i64 a0, (g_ 1), .int .i64 a2, .int .i64 a3, (g_ 4), (g_ 5), (g_ 6), (g_ 7), (g_ 8), .pointer (some ⟨g302, 0, none⟩), .slice A294 t286.length cp295, .int .i64 t304, .int .i64 t305, (g_ 13), (g_ 14), (g_ 15), (g_ 16), (g_ 17), (g_ 18), (g_ 19), (g_ 20), (g_ 21), (g_ 22), (g_ 23), (g_ 24), (g_ 25), (g_ 26), (g_ 27), (g_ 28), (g_ 29), (g_ 30), (g_ 31), (g_ 32), (g_ 33), (g_ 34), (g_ 35), (g_ 36), (g_ 37), (g_ 38), (g_ 39), (g_ 40), (g_ 41), (g_ 42), (g_ 43), (g_ 44), (g_ 45), (g_ 46), (g_ 47), (g_ 48), (g_ 49), (g_ 50), (g_ 51), (g_ 52), (g_ 53), (g_ 54), (g_ 55), (g_ 56), (g_ 57), (g_ 58), (g_ 59), (g_ 60), (g_ 61), (g_ 62), (g_ 63), (g_ 64), (g_ 65), .bool x363, (g_ 67), (g_ 68), (g_ 69), (g_ 70), (g_ 71), (g_ 72), (g_ 73), (g_ 74), (g_ 75), (g_ 76), (g_ 77), (g_ 78), (g_ 79), (g_ 80), (g_ 81), (g_ 82), (g_ 83), (g_ 84), (g_ 85), (g_ 86), (g_ 87), (g_ 88), (g_ 89), (g_ 90), (g_ 91), (g_ 92), (g_ 93), (g_ 94), (g_ 95), (g_ 96), (g_ 97), (g_ 98), (g_ 99), (g_ 100), (g_ 101), (g_ 102), (g_ 103), (g_ 104), (g_ 105), (g_ 106), (g_ 107), (g_ 108), (g_ 109), (g_ 110), (g_ 111), (g_ 112), (g_ 113), (g_ 114), (g_ 115), (g_ 116), (g_ 117), (g_ 118), (g_ 119), (g_ 120), (g_ 121), (g_ 122), (g_ 123), (g_ 124), (g_ 125), (g_ 126), (g_ 127), (g_ 128), (g_ 129)], []⟩ w359 := by
     intro kq364 C358 w359 x363 g_ HS360 hk365 HJ361 HJ362 H
     cases kq364 with
     | zero => exact absurd H (by simp [blazonlaw25_MaxflowLeast.j0])
     | succ k366 =>
      simp only [blazonlaw25_MaxflowLeast.j0] at H
      refine hK352 _ _ ?_
      (try clear hK352)
      by_cases c367 : x363 = true
      ·rw [if_pos c367] at H
       (try rw [c367])
       refine wp_cond_true rfl ?_
       refine wp_seq_k fun K368 hK368 => ?_
       refine wl_region ?_
       refine mv_ rfl ?_
       refine st (.bool (decide (t304 = 0))) rfl rfl (xr_bin _ _ _ rfl rfl rfl (B.eql_i64 _ _)) ?_
       simp only [ls0, ls1]
       refine mv_ rfl ?_
       by_cases c369 : t304 = 0
       ·rw [if_pos c369] at H
        (try rw [(decide_eq_true c369)])
        refine on_guard (guard_on 2 true 69 rfl rfl rfl) ?_
        refine mv_ rfl ?_
        refine on_guard (guard_on 2 true 69 rfl rfl rfl) ?_
        refine st (.bool (decide (t305 = 1))) rfl rfl (xr_bin _ _ _ rfl rfl rfl (B.eql_i64 _ _)) ?_
        refine st (.bool (decide (t305 = 1))) rfl rfl (xr_pick true _ rfl rfl rfl) ?_
        simp only [ls0, ls1]
        refine mv_ rfl ?_
        by_cases c370 : t305 = 1
        ·rw [if_pos c370] at H
         (try rw [(decide_eq_true c370)])
         refine on_guard (guard_on 6 true 73 rfl rfl rfl) ?_
         refine mv_ rfl ?_
         refine on_guard (guard_on 6 true 73 rfl rfl rfl) ?_
         obtain ⟨⟨t371, t372⟩, A373, H⟩ := bnd H
         (try dsimp only at H)
         refine st_call #[.pointer (some ⟨g302, 0, none⟩), .int .i64 0] rfl rfl Try.func18 (by kernel_rfl) rfl rfl (mp_ rfl) ?_
         refine (maxflow_Net_Flow.calls (.pointer (some ⟨g302, 0, none⟩)) t306 0 t371 t372  (fun z_ => pal [(0, 0), (11, 1)] (C358 z_)) w359 (fun _ => pal_lt rfl _) (Ft.arg HJ361 rfl) A373).mono ?_
         rintro _ w375 ⟨C376, rfl, hs377, HM378⟩
         refine ⟨_, rfl, ?_⟩
         replace HM378 := Ft.res (U := [(0, 0), (1, 11)]) HM378 hs377 [11] rfl rfl rfl
         replace hs377 := Step.lift (U := [(0, 0), (1, 11)]) hs377 [11] rfl rfl
         generalize up C358 C376 w359.heap.size [(0, 0), (1, 11)] = C376_ at HM378 hs377
         replace HS360 := HS360.trans hs377 hc rfl
         (try simp only [Act.put, List.setIfInBounds_toArray, ls0, ls1])
         refine on_guard (guard_on 6 true 73 rfl rfl rfl) ?_
         refine st (.bool (decide (t371 = 0))) rfl rfl (xr_bin _ _ _ rfl rfl rfl (B.eql_i64 _ _)) ?_
         refine st (.bool (decide (t371 = 0))) rfl rfl (xr_pick true _ rfl rfl rfl) ?_
         refine mv_ rfl ?_
         by_cases c379 : t371 = 0
         ·rw [if_pos c379] at H
          (try rw [(decide_eq_true c379)])
          refine on_guard (guard_on 11 true 78 rfl rfl rfl) ?_
          obtain ⟨t380, A381, H⟩ := bnd H
          refine st_call #[] rfl rfl Try.func14 (by kernel_rfl) rfl rfl (mp_ rfl) ?_
          refine (blazonlaw25_awake.calls k366 t380  (fun z_ => pal [(0, 0)] (C376_ z_)) w375 (fun _ => pal_lt rfl _) A381).mono ?_
          rintro _ w383 ⟨C384, rfl, hs385⟩
          refine ⟨_, rfl, ?_⟩
          replace hs385 := Step.lift (U := [(0, 0)]) hs385 [] rfl rfl
          generalize up C376_ C384 w375.heap.size [(0, 0)] = C384_ at hs385
          replace HS360 := HS360.trans hs385 hc rfl
          (try simp only [Act.put, List.setIfInBounds_toArray, ls0, ls1])
          refine st (.bool t380) rfl rfl (xr_pick true _ rfl rfl rfl) ?_
          refine as_ rfl ?_
          refine wl_end ?_
          (try simp only [ls0, ls1])
          refine hK368 _ _ ?_
          (try clear hK368 K368)
          refine wp_ret ?_
          (try simp only [Exit.inBlock, Exit.then, Exit.noGoto])
          (try simp only [ls0, ls1])
          obtain rfl := Option.some.inj H
          refine bodyPost_ret (results_tmp rfl _ _ _) rfl ?_
          exact ⟨_, rfl, HS360⟩
         rw [if_neg c379] at H
         (try rw [(decide_eq_false c379)])
         refine sk_guard (guard_off 11 true 78 rfl rfl false (by decide) rfl) rfl ?_
         refine st (.bool false) rfl rfl (xr_pick false _ rfl rfl rfl) ?_
         refine as_ rfl ?_
         refine wl_end ?_
         (try simp only [ls0, ls1])
         refine hK368 _ _ ?_
         (try clear hK368 K368)
         refine wp_ret ?_
         (try simp only [Exit.inBlock, Exit.then, Exit.noGoto])
         (try simp only [ls0, ls1])
         obtain rfl := Option.some.inj H
         refine bodyPost_ret (results_tmp rfl _ _ _) rfl ?_
         exact ⟨_, rfl, HS360⟩
        rw [if_neg c370] at H
        (try rw [(decide_eq_false c370)])
        refine sk_guard (guard_off 6 true 73 rfl rfl false (by decide) rfl) rfl ?_
        refine sk_guard (guard_off 6 true 73 rfl rfl false (by decide) rfl) rfl ?_
        refine sk_guard (guard_off 6 true 73 rfl rfl false (by decide) rfl) rfl ?_
        refine st (.bool false) rfl rfl (xr_pick false _ rfl rfl rfl) ?_
        simp only [ls0, ls1]
        refine mv_ rfl ?_
        refine sk_guard (guard_off 11 true 78 rfl rfl false (by decide) rfl) rfl ?_
        refine st (.bool false) rfl rfl (xr_pick false _ rfl rfl rfl) ?_
        refine as_ rfl ?_
        simp only [ls0, ls1]
        refine wl_end ?_
        (try simp only [ls0, ls1])
        refine hK368 _ _ ?_
        (try clear hK368 K368)
        refine wp_ret ?_
        (try simp only [Exit.inBlock, Exit.then, Exit.noGoto])
        (try simp only [ls0, ls1])
        obtain rfl := Option.some.inj H
        refine bodyPost_ret (results_tmp rfl _ _ _) rfl ?_
        exact ⟨_, rfl, HS360⟩
       rw [if_neg c369] at H
       (try rw [(decide_eq_false c369)])
       refine sk_guard (guard_off 2 true 69 rfl rfl false (by decide) rfl) rfl ?_
       refine sk_guard (guard_off 2 true 69 rfl rfl false (by decide) rfl) rfl ?_
       refine st (.bool false) rfl rfl (xr_pick false _ rfl rfl rfl) ?_
       refine mv_ rfl ?_
       simp only [ls0, ls1]
       refine sk_guard (guard_off 6 true 73 rfl rfl false (by decide) rfl) rfl ?_
       refine sk_guard (guard_off 6 true 73 rfl rfl false (by decide) rfl) rfl ?_
       refine sk_guard (guard_off 6 true 73 rfl rfl false (by decide) rfl) rfl ?_
       refine st (.bool false) rfl rfl (xr_pick false _ rfl rfl rfl) ?_
       simp only [ls0, ls1]
       refine mv_ rfl ?_
       refine sk_guard (guard_off 11 true 78 rfl rfl false (by decide) rfl) rfl ?_
       refine st (.bool false) rfl rfl (xr_pick false _ rfl rfl rfl) ?_
       refine as_ rfl ?_
       simp only [ls0, ls1]
       refine wl_end ?_
       (try simp only [ls0, ls1])
       refine hK368 _ _ ?_
       (try clear hK368 K368)
       refine wp_ret ?_
       (try simp only [Exit.inBlock, Exit.then, Exit.noGoto])
       (try simp only [ls0, ls1])
       obtain rfl := Option.some.inj H
       refine bodyPost_ret (results_tmp rfl _ _ _) rfl ?_
       exact ⟨_, rfl, HS360⟩
      rw [if_neg c367] at H
      (try rw [(Bool.eq_false_iff.mpr c367)])
      refine wp_cond_false rfl ?_
      refine wp_skip ?_
      (try simp only [ls0, ls1])
      refine hK313 _ _ ?_
      (try clear hK313 K313)
      refine wp_seq_k fun K386 hK386 => ?_
      refine wp_seq_k fun K387 hK387 => ?_
      refine wl_region ?_
      refine mv_ rfl ?_
      refine mv_ rfl ?_
      refine mv_ rfl ?_
      refine mv_ rfl ?_
      simp only [ls0, ls1]
      obtain ⟨t388, A389, H⟩ := bnd H
      refine st_call #[.int .i64 a0, .slice A294 t286.length cp295, .int .i64 a2, .int .i64 a3] rfl rfl Try.func19 (by kernel_rfl) rfl rfl (mp_ rfl) ?_
      refine (blazonref25_Endless.calls k366 a0 A294 cp295 t286 a2 a3 t388  (fun z_ => pal [(0, 0), (12, 0)] (C358 z_)) w359 (fun _ => pal_lt rfl _) (Ft.arg (HJ362.ft) rfl) HC297 A389).mono ?_
      rintro _ w391 ⟨C392, rfl, hs393⟩
      refine ⟨_, rfl, ?_⟩
      replace hs393 := Step.lift (U := [(0, 0)]) hs393 [] rfl rfl
      generalize up C358 C392 w359.heap.size [(0, 0)] = C392_ at hs393
      replace HJ361 := HJ361.thru hs393 rfl
      replace HJ362 := HJ362.thru hs393 rfl
      replace HS360 := HS360.trans hs393 hc rfl
      (try simp only [Act.put, List.setIfInBounds_toArray, ls0, ls1])
      refine wl_end ?_
      (try simp only [ls0, ls1])
      refine hK387 _ _ ?_
      (try clear hK387 K387)
      by_cases c394 : t388 = true
      ·rw [if_pos c394] at H
       (try rw [c394])
       refine wp_cond_true rfl ?_
       refine wp_seq_k fun K395 hK395 => ?_
       refine wl_region ?_
       refine mv_ rfl ?_
       refine st (.bool (decide (t304 = 0))) rfl rfl (xr_bin _ _ _ rfl rfl rfl (B.eql_i64 _ _)) ?_
       refine mv_ rfl ?_
       by_cases c396 : t304 = 0
       ·rw [if_pos c396] at H
        (try rw [(decide_eq_true c396)])
        refine on_guard (guard_on 2 true 88 rfl rfl rfl) ?_
        refine mv_ rfl ?_
        simp only [ls0, ls1]
        refine on_guard (guard_on 2 true 88 rfl rfl rfl) ?_
        refine st (.bool (decide (t305 = 18))) rfl rfl (xr_bin _ _ _ rfl rfl rfl (B.eql_i64 _ _)) ?_
        refine st (.bool (decide (t305 = 18))) rfl rfl (xr_pick true _ rfl rfl rfl) ?_
        refine mv_ rfl ?_
        by_cases c397 : t305 = 18
        ·rw [if_pos c397] at H
         (try rw [(decide_eq_true c397)])
         refine on_guard (guard_on 6 true 92 rfl rfl rfl) ?_
         refine mv_ rfl ?_
         simp only [ls0, ls1]
         refine on_guard (guard_on 6 true 92 rfl rfl rfl) ?_
         obtain ⟨⟨t398, t399⟩, A400, H⟩ := bnd H
         (try dsimp only at H)
         refine st_call #[.pointer (some ⟨g302, 0, none⟩), .int .i64 0] rfl rfl Try.func18 (by kernel_rfl) rfl rfl (mp_ rfl) ?_
         refine (maxflow_Net_Flow.calls (.pointer (some ⟨g302, 0, none⟩)) t306 0 t398 t399  (fun z_ => pal [(0, 0), (11, 1)] (C392_ z_)) w391 (fun _ => pal_lt rfl _) (Ft.arg HJ361 rfl) A400).mono ?_
         rintro _ w402 ⟨C403, rfl, hs404, HM405⟩
         refine ⟨_, rfl, ?_⟩
         replace HM405 := Ft.res (U := [(0, 0), (1, 11)]) HM405 hs404 [11] rfl rfl rfl
         replace hs404 := Step.lift (U := [(0, 0), (1, 11)]) hs404 [11] rfl rfl
         generalize up C392_ C403 w391.heap.size [(0, 0), (1, 11)] = C403_ at HM405 hs404
         replace HS360 := HS360.trans hs404 hc rfl
         (try simp only [Act.put, List.setIfInBounds_toArray, ls0, ls1])
         refine on_guard (guard_on 6 true 92 rfl rfl rfl) ?_
         refine st (.bool (decide (t398 = 0))) rfl rfl (xr_bin _ _ _ rfl rfl rfl (B.eql_i64 _ _)) ?_
         refine st (.bool (decide (t398 = 0))) rfl rfl (xr_pick true _ rfl rfl rfl) ?_
         refine mv_ rfl ?_
         by_cases c406 : t398 = 0
         ·rw [if_pos c406] at H
          (try rw [(decide_eq_true c406)])
          refine on_guard (guard_on 11 true 97 rfl rfl rfl) ?_
          obtain ⟨t407, A408, H⟩ := bnd H
          refine st_call #[] rfl rfl Try.func14 (by kernel_rfl) rfl rfl (mp_ rfl) ?_
          refine (blazonlaw25_awake.calls k366 t407  (fun z_ => pal [(0, 0)] (C403_ z_)) w402 (fun _ => pal_lt rfl _) A408).mono ?_
          rintro _ w410 ⟨C411, rfl, hs412⟩
          refine ⟨_, rfl, ?_⟩
          replace hs412 := Step.lift (U := [(0, 0)]) hs412 [] rfl rfl
          generalize up C403_ C411 w402.heap.size [(0, 0)] = C411_ at hs412
          replace HS360 := HS360.trans hs412 hc rfl
          (try simp only [Act.put, List.setIfInBounds_toArray, ls0, ls1])
          refine st (.bool t407) rfl rfl (xr_pick true _ rfl rfl rfl) ?_
          refine as_ rfl ?_
          refine wl_end ?_
          (try simp only [ls0, ls1])
          refine hK395 _ _ ?_
          (try clear hK395 K395)
          refine wp_ret ?_
          (try simp only [Exit.inBlock, Exit.then, Exit.noGoto])
          (try simp only [ls0, ls1])
          obtain rfl := Option.some.inj H
          refine bodyPost_ret (results_tmp rfl _ _ _) rfl ?_
          exact ⟨_, rfl, HS360⟩
         rw [if_neg c406] at H
         (try rw [(decide_eq_false c406)])
         refine sk_guard (guard_off 11 true 97 rfl rfl false (by decide) rfl) rfl ?_
         refine st (.bool false) rfl rfl (xr_pick false _ rfl rfl rfl) ?_
         refine as_ rfl ?_
         refine wl_end ?_
         (try simp only [ls0, ls1])
         refine hK395 _ _ ?_
         (try clear hK395 K395)
         refine wp_ret ?_
         (try simp only [Exit.inBlock, Exit.then, Exit.noGoto])
         (try simp only [ls0, ls1])
         obtain rfl := Option.some.inj H
         refine bodyPost_ret (results_tmp rfl _ _ _) rfl ?_
         exact ⟨_, rfl, HS360⟩
        rw [if_neg c397] at H
        (try rw [(decide_eq_false c397)])
        refine sk_guard (guard_off 6 true 92 rfl rfl false (by decide) rfl) rfl ?_
        refine sk_guard (guard_off 6 true 92 rfl rfl false (by decide) rfl) rfl ?_
        refine sk_guard (guard_off 6 true 92 rfl rfl false (by decide) rfl) rfl ?_
        refine st (.bool false) rfl rfl (xr_pick false _ rfl rfl rfl) ?_
        simp only [ls0, ls1]
        refine mv_ rfl ?_
        refine sk_guard (guard_off 11 true 97 rfl rfl false (by decide) rfl) rfl ?_
        refine st (.bool false) rfl rfl (xr_pick false _ rfl rfl rfl) ?_
        refine as_ rfl ?_
        simp only [ls0, ls1]
        refine wl_end ?_
        (try simp only [ls0, ls1])
        refine hK395 _ _ ?_
        (try clear hK395 K395)
        refine wp_ret ?_
        (try simp only [Exit.inBlock, Exit.then, Exit.noGoto])
        (try simp only [ls0, ls1])
        obtain rfl := Option.some.inj H
        refine bodyPost_ret (results_tmp rfl _ _ _) rfl ?_
        exact ⟨_, rfl, HS360⟩
       rw [if_neg c396] at H
       (try rw [(decide_eq_false c396)])
       refine sk_guard (guard_off 2 true 88 rfl rfl false (by decide) rfl) rfl ?_
       refine sk_guard (guard_off 2 true 88 rfl rfl false (by decide) rfl) rfl ?_
       refine st (.bool false) rfl rfl (xr_pick false _ rfl rfl rfl) ?_
       refine mv_ rfl ?_
       simp only [ls0, ls1]
       refine sk_guard (guard_off 6 true 92 rfl rfl false (by decide) rfl) rfl ?_
       refine sk_guard (guard_off 6 true 92 rfl rfl false (by decide) rfl) rfl ?_
       refine sk_guard (guard_off 6 true 92 rfl rfl false (by decide) rfl) rfl ?_
       refine st (.bool false) rfl rfl (xr_pick false _ rfl rfl rfl) ?_
       simp only [ls0, ls1]
       refine mv_ rfl ?_
       refine sk_guard (guard_off 11 true 97 rfl rfl false (by decide) rfl) rfl ?_
       refine st (.bool false) rfl rfl (xr_pick false _ rfl rfl rfl) ?_
       refine as_ rfl ?_
       simp only [ls0, ls1]
       refine wl_end ?_
       (try simp only [ls0, ls1])
       refine hK395 _ _ ?_
       (try clear hK395 K395)
       refine wp_ret ?_
       (try simp only [Exit.inBlock, Exit.then, Exit.noGoto])
       (try simp only [ls0, ls1])
       obtain rfl := Option.some.inj H
       refine bodyPost_ret (results_tmp rfl _ _ _) rfl ?_
       exact ⟨_, rfl, HS360⟩
      rw [if_neg c394] at H
      (try rw [(Bool.eq_false_iff.mpr c394)])
      refine wp_cond_false rfl ?_
      refine wp_skip ?_
      (try simp only [ls0, ls1])
      refine hK386 _ _ ?_
      (try clear hK386 K386)
      refine wp_seq_k fun K413 hK413 => ?_
      refine wl_region ?_
      refine mv_ rfl ?_
      refine mv_ rfl ?_
      refine mv_ rfl ?_
      obtain ⟨⟨t414, t415, t416⟩, A417, H⟩ := bnd H
      (try dsimp only at H)
      refine st_call #[.pointer (some ⟨g302, 0, none⟩), .int .i64 a2, .int .i64 a3] rfl rfl Try.func17 (by kernel_rfl) rfl rfl (mp_ rfl) ?_
      refine (maxflow_Net_Max.calls k366 (.pointer (some ⟨g302, 0, none⟩)) t306 a2 a3 t414 t415 t416  (fun z_ => pal [(0, 0), (11, 1)] (C392_ z_)) w391 (fun _ => pal_lt rfl _) (Ft.arg HJ361 rfl) A417).mono ?_
      rintro _ w419 ⟨C420, rfl, hs421, HM422⟩
      refine ⟨_, rfl, ?_⟩
      replace HM422 := Ft.res (U := [(0, 0), (1, 11)]) HM422 hs421 [11] rfl rfl rfl
      replace hs421 := Step.lift (U := [(0, 0), (1, 11)]) hs421 [11] rfl rfl
      generalize up C392_ C420 w391.heap.size [(0, 0), (1, 11)] = C420_ at HM422 hs421
      replace HJ362 := HJ362.thru hs421 rfl
      replace HS360 := HS360.trans hs421 hc rfl
      (try simp only [Act.put, List.setIfInBounds_toArray, ls0, ls1])
      refine mv_ rfl ?_
      refine st (.int .i64 t414) rfl rfl (xr_extract (.tuple #[.int .i64 t414, .int .i64 t415]) _ rfl rfl rfl) ?_
      refine st (.int .i64 t415) rfl rfl (xr_extract (.tuple #[.int .i64 t414, .int .i64 t415]) _ rfl rfl rfl) ?_
      refine as_ rfl ?_
      simp only [ls0, ls1]
      refine as_ rfl ?_
      refine wl_end ?_
      (try simp only [ls0, ls1])
      refine hK413 _ _ ?_
      (try clear hK413 K413)
      refine wp_seq_k fun K423 hK423 => ?_
      refine wl_region ?_
      refine mv_ rfl ?_
      refine mv_ rfl ?_
      refine mv_ rfl ?_
      refine mv_ rfl ?_
      simp only [ls0, ls1]
      refine mv_ rfl ?_
      obtain ⟨t424, A425, H⟩ := bnd H
      refine st_call #[.int .i64 a0, .slice A294 t286.length cp295, .int .i64 a2, .int .i64 a3] rfl rfl Try.func20 (by kernel_rfl) rfl rfl (mp_ rfl) ?_
      refine (blazonref25_Least.calls k366 a0 A294 cp295 t286 a2 a3 t424  (fun z_ => pal [(0, 0), (12, 0)] (C420_ z_)) w419 (fun _ => pal_lt rfl _) (Ft.arg (HJ362.ft) rfl) HC297 A425).mono ?_
      rintro _ w427 ⟨C428, rfl, hs429⟩
      refine ⟨_, rfl, ?_⟩
      replace hs429 := Step.lift (U := [(0, 0)]) hs429 [] rfl rfl
      generalize up C420_ C428 w419.heap.size [(0, 0)] = C428_ at hs429
      replace HS360 := HS360.trans hs429 hc rfl
      (try simp only [Act.put, List.setIfInBounds_toArray, ls0, ls1])
      refine st (.bool (decide (t304 = t424))) rfl rfl (xr_bin _ _ _ rfl rfl rfl (B.eql_i64 _ _)) ?_
      refine mv_ rfl ?_
      by_cases c430 : t304 = t424
      ·rw [if_pos c430] at H
       (try rw [(decide_eq_true c430)])
       refine on_guard (guard_on 7 true 114 rfl rfl rfl) ?_
       refine mv_ rfl ?_
       refine on_guard (guard_on 7 true 114 rfl rfl rfl) ?_
       refine st (.bool (decide (t305 = 0))) rfl rfl (xr_bin _ _ _ rfl rfl rfl (B.eql_i64 _ _)) ?_
       simp only [ls0, ls1]
       refine st (.bool (decide (t305 = 0))) rfl rfl (xr_pick true _ rfl rfl rfl) ?_
       refine mv_ rfl ?_
       by_cases c431 : t305 = 0
       ·rw [if_pos c431] at H
        (try rw [(decide_eq_true c431)])
        refine on_guard (guard_on 11 true 118 rfl rfl rfl) ?_
        refine mv_ rfl ?_
        refine on_guard (guard_on 11 true 118 rfl rfl rfl) ?_
        refine mv_ rfl ?_
        simp only [ls0, ls1]
        refine on_guard (guard_on 11 true 118 rfl rfl rfl) ?_
        refine st (.bool (decide (t414 = t304))) rfl rfl (xr_bin _ _ _ rfl rfl rfl (B.eql_i64 _ _)) ?_
        refine st (.bool (decide (t414 = t304))) rfl rfl (xr_pick true _ rfl rfl rfl) ?_
        refine mv_ rfl ?_
        by_cases c432 : t414 = t304
        ·rw [if_pos c432] at H
         (try rw [(decide_eq_true c432)])
         refine on_guard (guard_on 16 true 123 rfl rfl rfl) ?_
         refine mv_ rfl ?_
         simp only [ls0, ls1]
         refine on_guard (guard_on 16 true 123 rfl rfl rfl) ?_
         refine st (.bool (decide (t415 = 0))) rfl rfl (xr_bin _ _ _ rfl rfl rfl (B.eql_i64 _ _)) ?_
         refine st (.bool (decide (t415 = 0))) rfl rfl (xr_pick true _ rfl rfl rfl) ?_
         refine mv_ rfl ?_
         by_cases c433 : t415 = 0
         ·rw [if_pos c433] at H
          (try rw [(decide_eq_true c433)])
          refine on_guard (guard_on 20 true 127 rfl rfl rfl) ?_
          obtain ⟨t434, A435, H⟩ := bnd H
          refine st_call #[] rfl rfl Try.func14 (by kernel_rfl) rfl rfl (mp_ rfl) ?_
          refine (blazonlaw25_awake.calls k366 t434  (fun z_ => pal [(0, 0)] (C428_ z_)) w427 (fun _ => pal_lt rfl _) A435).mono ?_
          rintro _ w437 ⟨C438, rfl, hs439⟩
          refine ⟨_, rfl, ?_⟩
          replace hs439 := Step.lift (U := [(0, 0)]) hs439 [] rfl rfl
          generalize up C428_ C438 w427.heap.size [(0, 0)] = C438_ at hs439
          replace HS360 := HS360.trans hs439 hc rfl
          (try simp only [Act.put, List.setIfInBounds_toArray, ls0, ls1])
          refine st (.bool t434) rfl rfl (xr_pick true _ rfl rfl rfl) ?_
          refine as_ rfl ?_
          refine wl_end ?_
          (try simp only [ls0, ls1])
          refine hK423 _ _ ?_
          (try clear hK423 K423)
          refine wp_ret ?_
          (try simp only [Exit.inBlock, Exit.then, Exit.noGoto])
          (try simp only [ls0, ls1])
          obtain rfl := Option.some.inj H
          refine bodyPost_ret (results_tmp rfl _ _ _) rfl ?_
          exact ⟨_, rfl, HS360⟩
         rw [if_neg c433] at H
         (try rw [(decide_eq_false c433)])
         refine sk_guard (guard_off 20 true 127 rfl rfl false (by decide) rfl) rfl ?_
         refine st (.bool false) rfl rfl (xr_pick false _ rfl rfl rfl) ?_
         refine as_ rfl ?_
         refine wl_end ?_
         (try simp only [ls0, ls1])
         refine hK423 _ _ ?_
         (try clear hK423 K423)
         refine wp_ret ?_
         (try simp only [Exit.inBlock, Exit.then, Exit.noGoto])
         (try simp only [ls0, ls1])
         obtain rfl := Option.some.inj H
         refine bodyPost_ret (results_tmp rfl _ _ _) rfl ?_
         exact ⟨_, rfl, HS360⟩
        rw [if_neg c432] at H
        (try rw [(decide_eq_false c432)])
        refine sk_guard (guard_off 16 true 123 rfl rfl false (by decide) rfl) rfl ?_
        refine sk_guard (guard_off 16 true 123 rfl rfl false (by decide) rfl) rfl ?_
        refine st (.bool false) rfl rfl (xr_pick false _ rfl rfl rfl) ?_
        refine mv_ rfl ?_
        simp only [ls0, ls1]
        refine sk_guard (guard_off 20 true 127 rfl rfl false (by decide) rfl) rfl ?_
        refine st (.bool false) rfl rfl (xr_pick false _ rfl rfl rfl) ?_
        refine as_ rfl ?_
        refine wl_end ?_
        (try simp only [ls0, ls1])
        refine hK423 _ _ ?_
        (try clear hK423 K423)
        refine wp_ret ?_
        (try simp only [Exit.inBlock, Exit.then, Exit.noGoto])
        (try simp only [ls0, ls1])
        obtain rfl := Option.some.inj H
        refine bodyPost_ret (results_tmp rfl _ _ _) rfl ?_
        exact ⟨_, rfl, HS360⟩
       rw [if_neg c431] at H
       (try rw [(decide_eq_false c431)])
       refine sk_guard (guard_off 11 true 118 rfl rfl false (by decide) rfl) rfl ?_
       refine sk_guard (guard_off 11 true 118 rfl rfl false (by decide) rfl) rfl ?_
       refine sk_guard (guard_off 11 true 118 rfl rfl false (by decide) rfl) rfl ?_
       refine st (.bool false) rfl rfl (xr_pick false _ rfl rfl rfl) ?_
       simp only [ls0, ls1]
       refine mv_ rfl ?_
       refine sk_guard (guard_off 16 true 123 rfl rfl false (by decide) rfl) rfl ?_
       refine sk_guard (guard_off 16 true 123 rfl rfl false (by decide) rfl) rfl ?_
       refine st (.bool false) rfl rfl (xr_pick false _ rfl rfl rfl) ?_
       simp only [ls0, ls1]
       refine mv_ rfl ?_
       refine sk_guard (guard_off 20 true 127 rfl rfl false (by decide) rfl) rfl ?_
       refine st (.bool false) rfl rfl (xr_pick false _ rfl rfl rfl) ?_
       refine as_ rfl ?_
       simp only [ls0, ls1]
       refine wl_end ?_
       (try simp only [ls0, ls1])
       refine hK423 _ _ ?_
       (try clear hK423 K423)
       refine wp_ret ?_
       (try simp only [Exit.inBlock, Exit.then, Exit.noGoto])
       (try simp only [ls0, ls1])
       obtain rfl := Option.some.inj H
       refine bodyPost_ret (results_tmp rfl _ _ _) rfl ?_
       exact ⟨_, rfl, HS360⟩
      rw [if_neg c430] at H
      (try rw [(decide_eq_false c430)])
      refine sk_guard (guard_off 7 true 114 rfl rfl false (by decide) rfl) rfl ?_
      refine sk_guard (guard_off 7 true 114 rfl rfl false (by decide) rfl) rfl ?_
      refine st (.bool false) rfl rfl (xr_pick false _ rfl rfl rfl) ?_
      refine mv_ rfl ?_
      simp only [ls0, ls1]
      refine sk_guard (guard_off 11 true 118 rfl rfl false (by decide) rfl) rfl ?_
      refine sk_guard (guard_off 11 true 118 rfl rfl false (by decide) rfl) rfl ?_
      refine sk_guard (guard_off 11 true 118 rfl rfl false (by decide) rfl) rfl ?_
      refine st (.bool false) rfl rfl (xr_pick false _ rfl rfl rfl) ?_
      simp only [ls0, ls1]
      refine mv_ rfl ?_
      refine sk_guard (guard_off 16 true 123 rfl rfl false (by decide) rfl) rfl ?_
      refine sk_guard (guard_off 16 true 123 rfl rfl false (by decide) rfl) rfl ?_
      refine st (.bool false) rfl rfl (xr_pick false _ rfl rfl rfl) ?_
      simp only [ls0, ls1]
      refine mv_ rfl ?_
      refine sk_guard (guard_off 20 true 127 rfl rfl false (by decide) rfl) rfl ?_
      refine st (.bool false) rfl rfl (xr_pick false _ rfl rfl rfl) ?_
      refine as_ rfl ?_
      simp only [ls0, ls1]
      refine wl_end ?_
      (try simp only [ls0, ls1])
      refine hK423 _ _ ?_
      (try clear hK423 K423)
      refine wp_ret ?_
      (try simp only [Exit.inBlock, Exit.then, Exit.noGoto])
      (try simp only [ls0, ls1])
      obtain rfl := Option.some.inj H
      refine bodyPost_ret (results_tmp rfl _ _ _) rfl ?_
      exact ⟨_, rfl, HS360⟩
    refine wl_region ?_
    refine mv_ rfl ?_
    refine st (.bool (decide (a2 < 0))) rfl rfl (xr_bin _ _ _ rfl rfl rfl (B.lss_i64 _ _)) ?_
    refine mv_ rfl ?_
    by_cases c440 : a2 < 0
    ·rw [if_pos c440] at H
     (try rw [(decide_eq_true c440)])
     refine sk_guard (guard_off 2 false 48 rfl rfl true (by decide) rfl) rfl ?_
     simp only [ls0, ls1]
     refine sk_guard (guard_off 2 false 48 rfl rfl true (by decide) rfl) rfl ?_
     refine st (.bool true) rfl rfl (xr_pick true _ rfl rfl rfl) ?_
     refine mv_ rfl ?_
     refine sk_guard (guard_off 6 false 52 rfl rfl true (by decide) rfl) rfl ?_
     simp only [ls0, ls1]
     refine sk_guard (guard_off 6 false 52 rfl rfl true (by decide) rfl) rfl ?_
     refine sk_guard (guard_off 6 false 52 rfl rfl true (by decide) rfl) rfl ?_
     refine st (.bool true) rfl rfl (xr_pick true _ rfl rfl rfl) ?_
     refine mv_ rfl ?_
     simp only [ls0, ls1]
     refine sk_guard (guard_off 11 false 57 rfl rfl true (by decide) rfl) rfl ?_
     refine sk_guard (guard_off 11 false 57 rfl rfl true (by decide) rfl) rfl ?_
     refine sk_guard (guard_off 11 false 57 rfl rfl true (by decide) rfl) rfl ?_
     refine st (.bool true) rfl rfl (xr_pick true _ rfl rfl rfl) ?_
     simp only [ls0, ls1]
     refine mv_ rfl ?_
     refine sk_guard (guard_off 16 false 62 rfl rfl true (by decide) rfl) rfl ?_
     refine sk_guard (guard_off 16 false 62 rfl rfl true (by decide) rfl) rfl ?_
     refine sk_guard (guard_off 16 false 62 rfl rfl true (by decide) rfl) rfl ?_
     simp only [ls0, ls1]
     refine st (.bool true) rfl rfl (xr_pick true _ rfl rfl rfl) ?_
     refine wl_end ?_
     (try simp only [ls0, ls1])
     exact jmp (fun g_ => hj357 _ _ _ (true) g_ HS250 (by omega) HM312 HO296 H) rfl
    rw [if_neg c440] at H
    (try rw [(decide_eq_false c440)])
    refine on_guard (guard_on 2 false 48 rfl rfl rfl) ?_
    refine mv_ rfl ?_
    refine on_guard (guard_on 2 false 48 rfl rfl rfl) ?_
    refine st (.bool (decide (a3 < 0))) rfl rfl (xr_bin _ _ _ rfl rfl rfl (B.lss_i64 _ _)) ?_
    refine st (.bool (decide (a3 < 0))) rfl rfl (xr_pick false _ rfl rfl rfl) ?_
    refine mv_ rfl ?_
    simp only [ls0, ls1]
    by_cases c441 : a3 < 0
    ·rw [if_pos c441] at H
     (try rw [(decide_eq_true c441)])
     refine sk_guard (guard_off 6 false 52 rfl rfl true (by decide) rfl) rfl ?_
     refine sk_guard (guard_off 6 false 52 rfl rfl true (by decide) rfl) rfl ?_
     refine sk_guard (guard_off 6 false 52 rfl rfl true (by decide) rfl) rfl ?_
     refine st (.bool true) rfl rfl (xr_pick true _ rfl rfl rfl) ?_
     simp only [ls0, ls1]
     refine mv_ rfl ?_
     refine sk_guard (guard_off 11 false 57 rfl rfl true (by decide) rfl) rfl ?_
     refine sk_guard (guard_off 11 false 57 rfl rfl true (by decide) rfl) rfl ?_
     refine sk_guard (guard_off 11 false 57 rfl rfl true (by decide) rfl) rfl ?_
     simp only [ls0, ls1]
     refine st (.bool true) rfl rfl (xr_pick true _ rfl rfl rfl) ?_
     refine mv_ rfl ?_
     refine sk_guard (guard_off 16 false 62 rfl rfl true (by decide) rfl) rfl ?_
     refine sk_guard (guard_off 16 false 62 rfl rfl true (by decide) rfl) rfl ?_
     simp only [ls0, ls1]
     refine sk_guard (guard_off 16 false 62 rfl rfl true (by decide) rfl) rfl ?_
     refine st (.bool true) rfl rfl (xr_pick true _ rfl rfl rfl) ?_
     refine wl_end ?_
     (try simp only [ls0, ls1])
     exact jmp (fun g_ => hj357 _ _ _ (true) g_ HS250 (by omega) HM312 HO296 H) rfl
    rw [if_neg c441] at H
    (try rw [(decide_eq_false c441)])
    refine on_guard (guard_on 6 false 52 rfl rfl rfl) ?_
    refine mv_ rfl ?_
    refine on_guard (guard_on 6 false 52 rfl rfl rfl) ?_
    refine mv_ rfl ?_
    refine on_guard (guard_on 6 false 52 rfl rfl rfl) ?_
    refine st (.bool (decide (a2 ≥ a0))) rfl rfl (xr_bin _ _ _ rfl rfl rfl (B.geq_i64 _ _)) ?_
    refine st (.bool (decide (a2 ≥ a0))) rfl rfl (xr_pick false _ rfl rfl rfl) ?_
    simp only [ls0, ls1]
    refine mv_ rfl ?_
    by_cases c442 : a2 ≥ a0
    ·rw [if_pos c442] at H
     (try rw [(decide_eq_true c442)])
     refine sk_guard (guard_off 11 false 57 rfl rfl true (by decide) rfl) rfl ?_
     refine sk_guard (guard_off 11 false 57 rfl rfl true (by decide) rfl) rfl ?_
     refine sk_guard (guard_off 11 false 57 rfl rfl true (by decide) rfl) rfl ?_
     simp only [ls0, ls1]
     refine st (.bool true) rfl rfl (xr_pick true _ rfl rfl rfl) ?_
     refine mv_ rfl ?_
     refine sk_guard (guard_off 16 false 62 rfl rfl true (by decide) rfl) rfl ?_
     refine sk_guard (guard_off 16 false 62 rfl rfl true (by decide) rfl) rfl ?_
     simp only [ls0, ls1]
     refine sk_guard (guard_off 16 false 62 rfl rfl true (by decide) rfl) rfl ?_
     refine st (.bool true) rfl rfl (xr_pick true _ rfl rfl rfl) ?_
     refine wl_end ?_
     (try simp only [ls0, ls1])
     exact jmp (fun g_ => hj357 _ _ _ (true) g_ HS250 (by omega) HM312 HO296 H) rfl
    rw [if_neg c442] at H
    (try rw [(decide_eq_false c442)])
    refine on_guard (guard_on 11 false 57 rfl rfl rfl) ?_
    refine mv_ rfl ?_
    refine on_guard (guard_on 11 false 57 rfl rfl rfl) ?_
    refine mv_ rfl ?_
    refine on_guard (guard_on 11 false 57 rfl rfl rfl) ?_
    refine st (.bool (decide (a3 ≥ a0))) rfl rfl (xr_bin _ _ _ rfl rfl rfl (B.geq_i64 _ _)) ?_
    refine st (.bool (decide (a3 ≥ a0))) rfl rfl (xr_pick false _ rfl rfl rfl) ?_
    simp only [ls0, ls1]
    refine mv_ rfl ?_
    by_cases c443 : a3 ≥ a0
    ·rw [if_pos c443] at H
     (try rw [(decide_eq_true c443)])
     refine sk_guard (guard_off 16 false 62 rfl rfl true (by decide) rfl) rfl ?_
     refine sk_guard (guard_off 16 false 62 rfl rfl true (by decide) rfl) rfl ?_
     refine sk_guard (guard_off 16 false 62 rfl rfl true (by decide) rfl) rfl ?_
     simp only [ls0, ls1]
     refine st (.bool true) rfl rfl (xr_pick true _ rfl rfl rfl) ?_
     refine wl_end ?_
     (try simp only [ls0, ls1])
     exact jmp (fun g_ => hj357 _ _ _ (true) g_ HS250 (by omega) HM312 HO296 H) rfl
    rw [if_neg c443] at H
    (try rw [(decide_eq_false c443)])
    refine on_guard (guard_on 16 false 62 rfl rfl rfl) ?_
    refine mv_ rfl ?_
    refine on_guard (guard_on 16 false 62 rfl rfl rfl) ?_
    refine mv_ rfl ?_
    refine on_guard (guard_on 16 false 62 rfl rfl rfl) ?_
    refine st (.bool (decide (a2 = a3))) rfl rfl (xr_bin _ _ _ rfl rfl rfl (B.eql_i64 _ _)) ?_
    refine st (.bool (decide (a2 = a3))) rfl rfl (xr_pick false _ rfl rfl rfl) ?_
    simp only [ls0, ls1]
    refine wl_end ?_
    (try simp only [ls0, ls1])
    exact jmp (fun g_ => hj357 _ _ _ (decide (a2 = a3)) g_ HS250 (by omega) HM312 HO296 H) rfl
 refine wl_region ?_
 refine mv_ rfl ?_
 refine st (.bool (decide (a0 > 10))) rfl rfl (xr_bin _ _ _ rfl rfl rfl (B.gtr_i64 _ _)) ?_
 refine mv_ rfl ?_
 by_cases c444 : a0 > 10
 ·rw [if_pos c444] at H
  (try rw [(decide_eq_true c444)])
  refine sk_guard (guard_off 2 false 17 rfl rfl true (by decide) rfl) rfl ?_
  simp only [ls0, ls1]
  refine sk_guard (guard_off 2 false 17 rfl rfl true (by decide) rfl) rfl ?_
  refine sk_guard (guard_off 2 false 17 rfl rfl true (by decide) rfl) rfl ?_
  refine st (.bool true) rfl rfl (xr_pick true _ rfl rfl rfl) ?_
  refine wl_end ?_
  (try simp only [ls0, ls1])
  exact jmp (fun g_ => hj247 _ _ _ (true) g_ HS (by omega) HP1 H) rfl
 rw [if_neg c444] at H
 (try rw [(decide_eq_false c444)])
 refine on_guard (guard_on 2 false 17 rfl rfl rfl) ?_
 refine mv_ rfl ?_
 refine on_guard (guard_on 2 false 17 rfl rfl rfl) ?_
 refine st (.int .i64 (l1.length : Int)) rfl rfl (xr_builtin #[.slice A1 l1.length c1] (.int .i64 (l1.length : Int)) rfl (mp_ rfl) (by first | rfl | (go_simp; done) | (go_simp; rfl) | (go_simp; exact i64_w _) | (go_simp; exact i32_w _))) ?_
 refine on_guard (guard_on 2 false 17 rfl rfl rfl) ?_
 refine st (.bool (decide ((l1.length : Int) > 40))) rfl rfl (xr_bin _ _ _ rfl rfl rfl (B.gtr_i64 _ _)) ?_
 refine st (.bool (decide ((l1.length : Int) > 40))) rfl rfl (xr_pick false _ rfl rfl rfl) ?_
 simp only [ls0, ls1]
 refine wl_end ?_
 (try simp only [ls0, ls1])
 exact jmp (fun g_ => hj247 _ _ _ (decide ((l1.length : Int) > 40)) g_ HS (by omega) HP1 H) rfl
/-- THE ONE PURE STATEMENT of blazonlaw25_MaxflowLeast. -/
def blazonlaw25_MaxflowLeast.Pure : Prop := ∀ (a0 : Int) (l1 : List (S35)) (a2 : Int) (a3 : Int), (Lit.int .i64 a0).wf = true → l1.length ≤ maxLen → l1.length * 24 ≤ 140737488351232 → (∀ x_ ∈ l1, Ok35 x_) → (Lit.int .i64 a2).wf = true → (Lit.int .i64 a3).wf = true → ∃ k, blazonlaw25_MaxflowLeast.f k a0 l1 a2 a3 = some true

end Go.Proofs.Ytdkbmchbkkhpoaa.PMls
