-- By cprint.py, a program of this work. Lean checks it.
import Derived.Test.YtdkbmchbkkhpoaaPMpax0
import Derived.Test.YtdkbmchbkkhpoaaPMpax1
namespace Go.Proofs.Ytdkbmchbkkhpoaa.PMpa
open Go.RowKit Go.Proofs.YtdkbmchbkkhpoaaW.PrintWords Go.Proofs.YtdkbmchbkkhpoaaW.PrintLast Go.Proofs.YtdkbmchbkkhpoaaW.PrintMore
set_option linter.unusedVariables false
set_option linter.unusedSimpArgs false

/-! ### blazonlaw25_MaxflowParts: function 6 -/
mutual
def blazonlaw25_MaxflowParts.j0 : Nat → Int → Int → Go.Proofs.Ytdkbmchbkkhpoaa.PMfr.S74 → (Option Go.Proofs.Ytdkbmchbkkhpoaa.PMfr.S74) → Bool → Option (Bool)
  | 0, _, _, _, _, _ => none
  | k + 1, a2, a3, o357, x535, x538 => if x538 = true then (some false) else ((maxflow_Net_Max.f k (some o357 : Option Go.Proofs.Ytdkbmchbkkhpoaa.PMfr.S74) a2 a3).bind fun bt545 => ((maxflow_Net_Max.f k x535 a2 a3).bind fun bt555 => (if bt545.1 = bt555.1 then (if bt545.2.1 = bt555.2.1 then ((blazonlaw25_awake.f k).bind fun t567 => (some t567)) else (some false)) else (some false))))
def blazonlaw25_MaxflowParts.j1 : Nat → Int → Int → Int → Int → Int → Go.Proofs.Ytdkbmchbkkhpoaa.PMfr.S74 → (List (S35)) → Bool → Option (Bool)
  | 0, _, _, _, _, _, _, _, _ => none
  | k + 1, a0, a2, a3, a4, a5, o357, t343, x425 => if x425 = true then ((blazonlaw25_awake.f k).bind fun t431 => (some t431)) else ((some ([] : List (S35))).bind fun y438 => (if y438.length + t343.length < 5864062014805 then ((some (y438 ++ t343 : List (S35))).bind fun y449 => (if 0 ≤ (Int.tmod (wrap64 (a4)) (t343.length : Int)) then (if (Int.tmod (wrap64 (a4)) (t343.length : Int)) < (t343.length : Int) then (if (Int.tmod (wrap64 (a4)) (t343.length : Int)) < (y449.length : Int) then ((some (y449.set (Int.tmod (wrap64 (a4)) (t343.length : Int) : Int).toNat (⟨(rd_T35 y449 (Int.tmod (wrap64 (a4)) (t343.length : Int))).f0, (rd_T35 y449 (Int.tmod (wrap64 (a4)) (t343.length : Int))).f1, wrap64 (((rd_T35 t343 (Int.tmod (wrap64 (a4)) (t343.length : Int))).f2) - (wrap64 (a5)))⟩ : S35) : List (S35))).bind fun y467 => (if y467.length < 5864062014805 then ((some (y467 ++ [(⟨(rd_T35 t343 (Int.tmod (wrap64 (a4)) (t343.length : Int))).f0, (rd_T35 t343 (Int.tmod (wrap64 (a4)) (t343.length : Int))).f1, wrap64 (a5)⟩ : S35)] : List (S35))).bind fun y483 => ((blazonlaw25_built.f k a0 y483).bind fun bt494 => (onOpt bt494.1 (blazonlaw25_MaxflowParts.j0 k a2 a3 o357 (none : Option Go.Proofs.Ytdkbmchbkkhpoaa.PMfr.S74) true) (fun o573 => (blazonlaw25_MaxflowParts.j0 k a2 a3 o357 (some o573 : Option Go.Proofs.Ytdkbmchbkkhpoaa.PMfr.S74) (!decide ((bt494.2.length : Int) = (y483.length : Int)))))))) else (none))) else (none)) else (none)) else (none))) else (none)))
def blazonlaw25_MaxflowParts.j2 : Nat → Int → Int → Int → Int → Int → (List (S35)) → Bool → Option (Bool)
  | 0, _, _, _, _, _, _, _ => none
  | k + 1, a0, a2, a3, a4, a5, l1, x329 => if x329 = true then ((blazonlaw25_awake.f k).bind fun t335 => (some t335)) else ((blazonlaw25_built.f k a0 l1).bind fun bt342 => (onOpt bt342.1 (some false) (fun o357 => (if (bt342.2.length : Int) = 0 then ((blazonlaw25_awake.f k).bind fun t364 => (some t364)) else (if 0 ≤ (Int.tmod (wrap64 (a4)) (bt342.2.length : Int)) then (if (Int.tmod (wrap64 (a4)) (bt342.2.length : Int)) < (bt342.2.length : Int) then (if ((rd_T35 bt342.2 (Int.tmod (wrap64 (a4)) (bt342.2.length : Int))).f2) = 4611686018427387904 then (blazonlaw25_MaxflowParts.j1 k a0 a2 a3 a4 a5 o357 bt342.2 true) else (blazonlaw25_MaxflowParts.j1 k a0 a2 a3 a4 a5 o357 bt342.2 (decide ((wrap64 (a5)) > ((rd_T35 bt342.2 (Int.tmod (wrap64 (a4)) (bt342.2.length : Int))).f2))))) else (none)) else (none))))))
end
def blazonlaw25_MaxflowParts.f (k : Nat) (a0 : Int) (l1 : List (S35)) (a2 : Int) (a3 : Int) (a4 : Int) (a5 : Int) : Option (Bool) := if a0 < 1 then (blazonlaw25_MaxflowParts.j2 k a0 a2 a3 a4 a5 l1 true) else (if a0 > 60 then (blazonlaw25_MaxflowParts.j2 k a0 a2 a3 a4 a5 l1 true) else (if (l1.length : Int) > 199 then (blazonlaw25_MaxflowParts.j2 k a0 a2 a3 a4 a5 l1 true) else (blazonlaw25_MaxflowParts.j2 k a0 a2 a3 a4 a5 l1 (decide ((l1.length : Int) = 0)))))

set_option maxHeartbeats 8000000 in
set_option maxRecDepth 100000 in
theorem blazonlaw25_MaxflowParts.calls (k : Nat) (a0 : Int) (A1 : Option Addr) (c1 : Nat) (l1 : List (S35)) (a2 : Int) (a3 : Int) (a4 : Int) (a5 : Int) (r : Bool) (c : Nat → Nat) (w : World) (hc : ∀ k, c k < 10) (HP1 : Ft c [0] w (fun w_ => k35.C w_ A1 l1.length l1)) (HCP1 : l1.length ≤ c1) (H : blazonlaw25_MaxflowParts.f k a0 l1 a2 a3 a4 a5 = some r) :
    Calls Try.prog 6 #[.int .i64 a0, .slice A1 l1.length c1, .int .i64 a2, .int .i64 a3, .int .u8 a4, .int .u8 a5] w fun e w' => ∃ (c' : Nat → Nat) , e = .returned (.bool r) ∧ Step c w c' w' [] := by
 unfold blazonlaw25_MaxflowParts.f at H
 have HS := Step.refl c w []
 go_enter Try.func6, Try.ntmps6
 refine wp_seq_k fun K294 hK294 => ?_
 refine wl_region ?_
 refine st (.bool false) rfl rfl (xr_assign _ rfl rfl) ?_
 refine wl_end ?_
 (try simp only [ls0, ls1])
 refine hK294 _ _ ?_
 (try clear hK294 K294)
 refine wp_seq_k fun K295 hK295 => ?_
 refine wp_seq_k fun K320 hK320 => ?_
 have hj324 : ∀ (kq330 : Nat) (C325 : Nat → Nat) (w326 : World) (x329 : Bool) (g_ : Nat → Value), Step c w C325 w326 [] → kq330 ≤ k → (Ft C325 [0] w326 (fun w_ => k35.C w_ A1 l1.length l1)) → blazonlaw25_MaxflowParts.j2 kq330 a0 a2 a3 a4 a5 l1 x329 = some r → K320 ⟨#[.int .i64 a0, .slice A1 l1.length c1, .int .i64 a2, .int .i64 a3, .int .u8 a4, .int .u8 a5, (g_ 6), (g_ 7), (g_ 8), (g_ 9), (g_ 10), (g_ 11), (g_ 12), (g_ 13), (g_ 14), (g_ 15), (g_ 16), (g_ 17), (g_ 18), (g_ 19), (g_ 20), (g_ 21), (g_ 22), (g_ 23), (g_ 24), (g_ 25), (g_ 26), (g_ 27), (g_ 28), (g_ 29), (g_ 30), (g_ 31), (g_ 32), (g_ 33), (g_ 34), (g_ 35), (g_ 36), (g_ 37), .bool x329, (g_ 39), (g_ 40), (g_ 41), (g_ 42), (g_ 43), (g_ 44), (g_ 45), (g_ 46), (g_ 47), (g_ 48), (g_ 49), (g_ 50), (g_ 51), (g_ 52), (g_ 53), (g_ 54), (g_ 55), (g_ 56), (g_ 57), (g_ 58), (g_ 59), (g_ 60), (g_ 61), (g_ 62), (g_ 63), (g_ 64), (g_ 65), (g_ 66), (g_ 67), (g_ 68), (g_ 69), (g_ 70), (g_ 71), (g_ 72), (g_ 73), (g_ 74), (g_ 75), (g_ 76), (g_ 77), (g_ 78), (g_ 79), (g_ 80), (g_ 81), (g_ 82), (g_ 83), (g_ 84), (g_ 85), (g_ 86), (g_ 87), (g_ 88), (g_ 89), (g_ 90), (g_ 91), (g_ 92), (g_ 93), (g_ 94), (g_ 95), (g_ 96), (g_ 97), (g_ 98), (g_ 99), (g_ 100), (g_ 101), (g_ 102), (g_ 103), (g_ 104), (g_ 105), (g_ 106), (g_ 107), (g_ 108), (g_ 109), (g_ 110), (g_ 111), (g_ 112), (g_ 113), (g_ 114), (g_ 115), (g_ 116), (g_ 117), (g_ 118), (g_ 119), (g_ 120), (g_ 121), (g_ 122), (g_ 123), (g_ 124), (g_ 125), (g_ 126), (g_ 127), (g_ 128), (g_ 129), (g_ 130), (g_ 131), (g_ 132), (g_ 133), (g_ 134), (g_ 135), (g_ 136), (g_ 137), (g_ 138), (g_ 139), (g_ 140), (g_ 141), (g_ 142), (g_ 143), (g_ 144)], []⟩ w326 := by
  intro kq330 C325 w326 x329 g_ HS327 hk331 HJ328 H
  cases kq330 with
  | zero => exact absurd H (by simp [blazonlaw25_MaxflowParts.j2])
  | succ k332 =>
   simp only [blazonlaw25_MaxflowParts.j2] at H
   refine hK320 _ _ ?_
   (try clear hK320)
   by_cases c333 : x329 = true
   ·rw [if_pos c333] at H
    (try rw [c333])
    refine wp_cond_true rfl ?_
    refine wp_seq_k fun K334 hK334 => ?_
    refine wl_region ?_
    obtain ⟨t335, A336, H⟩ := bnd H
    refine st_call #[] rfl rfl Try.func14 (by kernel_rfl) rfl rfl (mp_ rfl) ?_
    refine (blazonlaw25_awake.calls k332 t335  (fun z_ => pal [(0, 0)] (C325 z_)) w326 (fun _ => pal_lt rfl _) A336).mono ?_
    rintro _ w338 ⟨C339, rfl, hs340⟩
    refine ⟨_, rfl, ?_⟩
    replace hs340 := Step.lift (U := [(0, 0)]) hs340 [] rfl rfl
    generalize up C325 C339 w326.heap.size [(0, 0)] = C339_ at hs340
    replace HS327 := HS327.trans hs340 hc rfl
    (try simp only [Act.put, List.setIfInBounds_toArray, ls0, ls1])
    refine as_ rfl ?_
    refine wl_end ?_
    (try simp only [ls0, ls1])
    refine hK334 _ _ ?_
    (try clear hK334 K334)
    refine wp_ret ?_
    (try simp only [Exit.inBlock, Exit.then, Exit.noGoto])
    (try simp only [ls0, ls1])
    obtain rfl := Option.some.inj H
    refine bodyPost_ret (results_tmp rfl _ _ _) rfl ?_
    exact ⟨_, rfl, HS327⟩
   rw [if_neg c333] at H
   (try rw [(Bool.eq_false_iff.mpr c333)])
   refine wp_cond_false rfl ?_
   refine wp_skip ?_
   (try simp only [ls0, ls1])
   refine hK295 _ _ ?_
   (try clear hK295 K295)
   refine wp_seq_k fun K341 hK341 => ?_
   refine wl_region ?_
   refine mv_ rfl ?_
   refine mv_ rfl ?_
   obtain ⟨⟨t342, t343⟩, A344, H⟩ := bnd H
   (try dsimp only at H)
   refine st_call #[.int .i64 a0, .slice A1 l1.length c1] rfl rfl Try.func16 (by kernel_rfl) rfl rfl (mp_ rfl) ?_
   refine (blazonlaw25_built.calls k332 a0 A1 c1 l1 t342 t343  (fun z_ => pal [(0, 0)] (C325 z_)) w326 (fun _ => pal_lt rfl _) (Ft.arg HJ328 rfl) HCP1 A344).mono ?_
   rintro _ w346 ⟨C347, v349, A351, cp352, rfl, hs348, HB350, HO353, HC354⟩
   refine ⟨_, rfl, ?_⟩
   replace HB350 := Ft.res (U := [(0, 0), (5, 11), (6, 12)]) HB350 hs348 [11] rfl rfl rfl
   replace HO353 := Own.resF (U := [(0, 0), (5, 11), (6, 12)]) (j := 12) (fun _ _ _ _ h_ => h_) HO353 hs348 (by rfl) (by decide) rfl
   replace hs348 := Step.lift (U := [(0, 0), (5, 11), (6, 12)]) hs348 [] rfl rfl
   generalize up C325 C347 w326.heap.size [(0, 0), (5, 11), (6, 12)] = C347_ at HB350 HO353 hs348
   replace HS327 := HS327.trans hs348 hc rfl
   (try simp only [Act.put, List.setIfInBounds_toArray, ls0, ls1])
   refine mv_ rfl ?_
   refine st (v349) rfl rfl (xr_extract (.tuple #[v349, .slice A351 t343.length cp352]) _ rfl rfl rfl) ?_
   refine st (.slice A351 t343.length cp352) rfl rfl (xr_extract (.tuple #[v349, .slice A351 t343.length cp352]) _ rfl rfl rfl) ?_
   refine as_ rfl ?_
   simp only [ls0, ls1]
   refine as_ rfl ?_
   refine wl_end ?_
   (try simp only [ls0, ls1])
   refine hK341 _ _ ?_
   (try clear hK341 K341)
   refine wp_seq_k fun K355 hK355 => ?_
   refine wp_seq_k fun K356 hK356 => ?_
   refine wl_region ?_
   refine mv_ rfl ?_
   cases t342 with
   | none =>
    (try simp only [onOpt] at H)
    obtain rfl := Go.Proofs.Ytdkbmchbkkhpoaa.PMfr.NetO.isNone HB350
    refine st (.bool true) rfl rfl (xr_bin (.pointer none) (.pointer none) (.bool true) rfl rfl rfl (B.eql_nn ⟨_, Try.underlying24⟩ (⟨0, 0, none⟩ : Addr))) ?_
    refine wl_end ?_
    (try simp only [ls0, ls1])
    refine hK356 _ _ ?_
    (try clear hK356 K356)
    refine wp_cond_true rfl ?_
    refine wp_seq_k fun K358 hK358 => ?_
    refine wl_region ?_
    refine st (.bool false) rfl rfl (xr_assign _ rfl rfl) ?_
    refine wl_end ?_
    (try simp only [ls0, ls1])
    refine hK358 _ _ ?_
    (try clear hK358 K358)
    refine wp_ret ?_
    (try simp only [Exit.inBlock, Exit.then, Exit.noGoto])
    (try simp only [ls0, ls1])
    obtain rfl := Option.some.inj H
    refine bodyPost_ret (results_tmp rfl _ _ _) rfl ?_
    exact ⟨_, rfl, HS327⟩
   | some o357 =>
    (try simp only [onOpt] at H)
    obtain ⟨g359, rfl⟩ := Go.Proofs.Ytdkbmchbkkhpoaa.PMfr.NetO.isSome HB350
    refine st (.bool false) rfl rfl (xr_bin (.pointer (some ⟨g359, 0, none⟩)) (.pointer none) (.bool false) rfl rfl rfl (B.eql_pn ⟨_, Try.underlying24⟩ ⟨g359, 0, none⟩)) ?_
    refine wl_end ?_
    (try simp only [ls0, ls1])
    refine hK356 _ _ ?_
    (try clear hK356 K356)
    refine wp_cond_false rfl ?_
    refine wp_skip ?_
    (try simp only [ls0, ls1])
    refine hK355 _ _ ?_
    (try clear hK355 K355)
    refine wp_seq_k fun K360 hK360 => ?_
    refine wp_seq_k fun K361 hK361 => ?_
    refine wl_region ?_
    refine mv_ rfl ?_
    refine st (.int .i64 (t343.length : Int)) rfl rfl (xr_builtin #[.slice A351 t343.length cp352] (.int .i64 (t343.length : Int)) rfl (mp_ rfl) (by first | rfl | (go_simp; done) | (go_simp; rfl) | (go_simp; exact i64_w _) | (go_simp; exact i32_w _))) ?_
    refine st (.bool (decide ((t343.length : Int) = 0))) rfl rfl (xr_bin _ _ _ rfl rfl rfl (B.eql_i64 _ _)) ?_
    refine wl_end ?_
    (try simp only [ls0, ls1])
    refine hK361 _ _ ?_
    (try clear hK361 K361)
    by_cases c362 : (t343.length : Int) = 0
    ·rw [if_pos c362] at H
     (try rw [(decide_eq_true c362)])
     refine wp_cond_true rfl ?_
     refine wp_seq_k fun K363 hK363 => ?_
     refine wl_region ?_
     obtain ⟨t364, A365, H⟩ := bnd H
     refine st_call #[] rfl rfl Try.func14 (by kernel_rfl) rfl rfl (mp_ rfl) ?_
     refine (blazonlaw25_awake.calls k332 t364  (fun z_ => pal [(0, 0)] (C347_ z_)) w346 (fun _ => pal_lt rfl _) A365).mono ?_
     rintro _ w367 ⟨C368, rfl, hs369⟩
     refine ⟨_, rfl, ?_⟩
     replace hs369 := Step.lift (U := [(0, 0)]) hs369 [] rfl rfl
     generalize up C347_ C368 w346.heap.size [(0, 0)] = C368_ at hs369
     replace HS327 := HS327.trans hs369 hc rfl
     (try simp only [Act.put, List.setIfInBounds_toArray, ls0, ls1])
     refine as_ rfl ?_
     refine wl_end ?_
     (try simp only [ls0, ls1])
     refine hK363 _ _ ?_
     (try clear hK363 K363)
     refine wp_ret ?_
     (try simp only [Exit.inBlock, Exit.then, Exit.noGoto])
     (try simp only [ls0, ls1])
     obtain rfl := Option.some.inj H
     refine bodyPost_ret (results_tmp rfl _ _ _) rfl ?_
     exact ⟨_, rfl, HS327⟩
    rw [if_neg c362] at H
    (try rw [(decide_eq_false c362)])
    refine wp_cond_false rfl ?_
    refine wp_skip ?_
    (try simp only [ls0, ls1])
    refine hK360 _ _ ?_
    (try clear hK360 K360)
    refine wp_seq_k fun K370 hK370 => ?_
    refine wl_region ?_
    refine mv_ rfl ?_
    refine st (.int .i64 (wrap64 (a4))) rfl rfl (xr_conv (.int .u8 a4) _ rfl rfl (by first | rfl | (go_simp; done) | (go_simp; rfl) | (go_simp; exact i64_w _) | (go_simp; exact i32_w _))) ?_
    refine mv_ rfl ?_
    refine st (.int .i64 (t343.length : Int)) rfl rfl (xr_builtin #[.slice A351 t343.length cp352] (.int .i64 (t343.length : Int)) rfl (mp_ rfl) (by first | rfl | (go_simp; done) | (go_simp; rfl) | (go_simp; exact i64_w _) | (go_simp; exact i32_w _))) ?_
    simp only [ls0, ls1]
    refine st (.int .i64 (Int.tmod (wrap64 (a4)) (t343.length : Int))) rfl rfl (xr_bin _ _ _ rfl rfl rfl (B.rem_i64 _ _ (by assumption))) ?_
    refine as_ rfl ?_
    refine wl_end ?_
    (try simp only [ls0, ls1])
    refine hK370 _ _ ?_
    (try clear hK370 K370)
    refine wp_seq_k fun K371 hK371 => ?_
    refine wp_seq_k fun K409 hK409 => ?_
    have hj419 : ∀ (kq426 : Nat) (C420 : Nat → Nat) (w421 : World) (x425 : Bool) (g_ : Nat → Value), Step c w C420 w421 [] → kq426 ≤ k332 → (Ft C420 [11] w421 (fun w_ => Go.Proofs.Ytdkbmchbkkhpoaa.PMfr.NetO w_ (.pointer (some ⟨g359, 0, none⟩)) (some o357 : Option Go.Proofs.Ytdkbmchbkkhpoaa.PMfr.S74))) → (Own C420 12 w421 k35 35 (.slice A351 t343.length cp352) t343) → blazonlaw25_MaxflowParts.j1 kq426 a0 a2 a3 a4 a5 o357 t343 x425 = some r → K409 ⟨#[.int .i64 a0, (g_ 1), .int .i64 a2, .int .i64 a3, (g_ 4), .int .u8 a5, (g_ 6), (g_ 7), (g_ 8), (g_ 9), (g_ 10), (g_ 11), (g_ 12), .pointer (some ⟨g359, 0, none⟩), .slice A351 t343.length cp352, .int .i64 (Int.tmod (wrap64 (a4)) (t343.length : Int)), (g_ 16), (g_ 17), (g_ 18), (g_ 19), (g_ 20), (g_ 21), (g_ 22), (g_ 23), (g_ 24), (g_ 25), (g_ 26), (g_ 27), (g_ 28), (g_ 29), (g_ 30), (g_ 31), (g_ 32), (g_ 33), (g_ 34), (g_ 35), (g_ 36), (g_ 37), (g_ 38), (g_ 39), (g_ 40), (g_ 41), (g_ 42), (g_ 43), (g_ 44), (g_ 45), (g_ 46), (g_ 47), (g_ 48), (g_ 49), (g_ 50), (g_ 51), (g_ 52), (g_ 53), (g_ 54), (g_ 55), (g_ 56), (g_ 57), (g_ 58), (g_ 59), (g_ 60), (g_ 61), (g_ 62), (g_ 63), (g_ 64), (g_ 65), (g_ 66), (g_ 67), (g_ 68), (g_ 69), (g_ 70), (g_ 71), .bool x425, (g_ 73), (g_ 74), (g_ 75), (g_ 76), (g_ 77), (g_ 78), (g_ 79), (g_ 80), (g_ 81), (g_ 82), (g_ 83), (g_ 84), (g_ 85), (g_ 86), (g_ 87), (g_ 88), (g_ 89), (g_ 90), (g_ 91), (g_ 92), (g_ 93), (g_ 94), (g_ 95), (g_ 96), (g_ 97), (g_ 98), (g_ 99), (g_ 100), (g_ 101), (g_ 102), (g_ 103), (g_ 104), (g_ 105), (g_ 106), (g_ 107), (g_ 108), (g_ 109), (g_ 110), (g_ 111), (g_ 112), (g_ 113), (g_ 114), (g_ 115), (g_ 116), (g_ 117), (g_ 118), (g_ 119), (g_ 120), (g_ 121), (g_ 122), (g_ 123), (g_ 124), (g_ 125), (g_ 126), (g_ 127), (g_ 128), (g_ 129), (g_ 130), (g_ 131), (g_ 132), (g_ 133), (g_ 134), (g_ 135), (g_ 136), (g_ 137), (g_ 138), (g_ 139), (g_ 140), (g_ 141), (g_ 142), (g_ 143), (g_ 144)], []⟩ w421 := by
     intro kq426 C420 w421 x425 g_ HS422 hk427 HJ423 HJ424 H
     cases kq426 with
     | zero => exact absurd H (by simp [blazonlaw25_MaxflowParts.j1])
     | succ k428 =>
      simp only [blazonlaw25_MaxflowParts.j1] at H
      refine hK409 _ _ ?_
      (try clear hK409)
      by_cases c429 : x425 = true
      ·rw [if_pos c429] at H
       (try rw [c429])
       refine wp_cond_true rfl ?_
       refine wp_seq_k fun K430 hK430 => ?_
       refine wl_region ?_
       obtain ⟨t431, A432, H⟩ := bnd H
       refine st_call #[] rfl rfl Try.func14 (by kernel_rfl) rfl rfl (mp_ rfl) ?_
       refine (blazonlaw25_awake.calls k428 t431  (fun z_ => pal [(0, 0)] (C420 z_)) w421 (fun _ => pal_lt rfl _) A432).mono ?_
       rintro _ w434 ⟨C435, rfl, hs436⟩
       refine ⟨_, rfl, ?_⟩
       replace hs436 := Step.lift (U := [(0, 0)]) hs436 [] rfl rfl
       generalize up C420 C435 w421.heap.size [(0, 0)] = C435_ at hs436
       replace HS422 := HS422.trans hs436 hc rfl
       (try simp only [Act.put, List.setIfInBounds_toArray, ls0, ls1])
       refine as_ rfl ?_
       refine wl_end ?_
       (try simp only [ls0, ls1])
       refine hK430 _ _ ?_
       (try clear hK430 K430)
       refine wp_ret ?_
       (try simp only [Exit.inBlock, Exit.then, Exit.noGoto])
       (try simp only [ls0, ls1])
       obtain rfl := Option.some.inj H
       refine bodyPost_ret (results_tmp rfl _ _ _) rfl ?_
       exact ⟨_, rfl, HS422⟩
      rw [if_neg c429] at H
      (try rw [(Bool.eq_false_iff.mpr c429)])
      refine wp_cond_false rfl ?_
      refine wp_skip ?_
      (try simp only [ls0, ls1])
      refine hK371 _ _ ?_
      (try clear hK371 K371)
      refine wp_seq_k fun K437 hK437 => ?_
      refine wl_region ?_
      obtain ⟨y438, A439, H⟩ := bnd H
      refine Own.lit k35 (C := C420) (i := 13) rfl 35 rfl (xs := ([] : List (S35))) (inner := []) (by first | (go_simp; done) | (go_simp; rfl)) (Reps.none _ _) (by simp only [List.length_cons, List.length_nil]; omega) (Option.some.inj A439) ?_
      intro A440 cp441 w442 C443 HO444 HC445 hs446
      replace HJ423 := HJ423.thru hs446 rfl
      replace HJ424 := HJ424.thru hs446 rfl
      replace HS422 := HS422.trans hs446 hc rfl
      (try simp only [Act.put, List.setIfInBounds_toArray, ls0, ls1])
      refine mv_ rfl ?_
      replace HJ423 := Ft.recol (a := 12) (b := 0) HJ423 (.inl rfl)
      have HR447 := Ft.recolor (a := 12) (b := 0) (HJ424.ft) [0] rfl
      replace HO444 := Own.recol (a := 12) (b := 0) HO444 (by decide) (by decide)
      replace HS422 := Step.recol (a := 12) (b := 0) HS422 hc (by decide)
      obtain ⟨c448, H⟩ := if_some H
      obtain ⟨y449, A450, H⟩ := bnd H
      refine Own.append_rows k35 (C := (recol C443 12 0)) (i := 13) rfl (.tmp 74) (.tmp 75) 22 35 (.agg #[(.int .i64 0), (.int .i64 0), (.int .i64 0)]) 24 rfl Try.underlying22 info35 rfl (by decide) (by decide) (.slice A440 y438.length cp441) y438 t343 A351 t343.length cp352 rfl rfl HO444 HR447 (by decide) (by omega) (Option.some.inj A450) ?_
      intro A451 cp452 w453 C454 HO455 HC456 hs457
      replace HJ423 := HJ423.thru hs457 rfl
      replace HR447 := HR447.thru hs457 rfl
      replace HS422 := HS422.trans hs457 hc rfl
      (try simp only [Act.put, List.setIfInBounds_toArray, ls0, ls1])
      refine as_ rfl ?_
      refine wl_end ?_
      (try simp only [ls0, ls1])
      refine hK437 _ _ ?_
      (try clear hK437 K437)
      refine wp_seq_k fun K458 hK458 => ?_
      refine wl_region ?_
      refine mv_ rfl ?_
      refine mv_ rfl ?_
      refine mv_ rfl ?_
      refine mv_ rfl ?_
      simp only [ls0, ls1]
      obtain ⟨c459, H⟩ := if_some H
      obtain ⟨c460, H⟩ := if_some H
      obtain ⟨ad461, hA462⟩ := c_addr (Ft.now HR447) (pos_of (j := (Int.tmod (wrap64 (a4)) (t343.length : Int))) (by first | assumption | decide) (by first | assumption | omega))
      refine st (.pointer (some (ad461.add ((Int.tmod (wrap64 (a4)) (t343.length : Int) : Int).toNat * 3)))) rfl rfl (xr_indexAddr _ _ _ rfl rfl rfl (index_at Try.underlying22 info35 hA462 (by first | assumption | decide | omega) (by first | assumption | decide | omega))) ?_
      refine st (.pointer (some ((ad461.add ((Int.tmod (wrap64 (a4)) (t343.length : Int) : Int).toNat * 3)).add 2))) rfl rfl (xr_fieldAddr _ _ rfl rfl (field_at2 Try.underlying35 rfl rfl (by kernel_rfl))) ?_
      refine st (.int .i64 ((rd_T35 t343 (Int.tmod (wrap64 (a4)) (t343.length : Int))).f2)) rfl rfl (xr_load (.pointer (some ((ad461.add ((Int.tmod (wrap64 (a4)) (t343.length : Int) : Int).toNat * 3)).add 2))) (.int .i64 ((rd_T35 t343 (Int.tmod (wrap64 (a4)) (t343.length : Int))).f2)) rfl rfl (by obtain ⟨ad_, cs_, e_, _, hK_, hc_⟩ := Kd.C_get (Ft.now HR447) z35 (Int.tmod (wrap64 (a4)) (t343.length : Int)) (by first | assumption | decide | omega) (by first | assumption | decide | omega); rw [hA462] at e_; injection e_ with e_; subst e_; obtain rfl := k35_open hK_; exact load_cell Try.underlying2 rfl (by first | (rw [add_add]; exact hc_ 2 _ rfl) | (have h_ := hc_ 2 _ rfl; rw [Nat.add_zero] at h_; exact h_)))) ?_
      refine mv_ rfl ?_
      simp only [ls0, ls1]
      refine st (.int .i64 (wrap64 (a5))) rfl rfl (xr_conv (.int .u8 a5) _ rfl rfl (by first | rfl | (go_simp; done) | (go_simp; rfl) | (go_simp; exact i64_w _) | (go_simp; exact i32_w _))) ?_
      refine st (.int .i64 (wrap64 (((rd_T35 t343 (Int.tmod (wrap64 (a4)) (t343.length : Int))).f2) - (wrap64 (a5))))) rfl rfl (xr_bin _ _ _ rfl rfl rfl (B.sub_i64 _ _)) ?_
      obtain ⟨c464, H⟩ := if_some H
      obtain ⟨g465, hA466⟩ := HO455.form (pos_of (j := (Int.tmod (wrap64 (a4)) (t343.length : Int))) (by first | assumption | decide) (by first | assumption | omega))
      refine st (.pointer (some ((⟨g465, 0, none⟩ : Addr).add ((Int.tmod (wrap64 (a4)) (t343.length : Int) : Int).toNat * 3)))) rfl rfl (xr_indexAddr _ _ _ rfl rfl rfl (index_at Try.underlying22 info35 hA466 (by first | assumption | decide | omega) (by first | assumption | decide | omega))) ?_
      refine st (.pointer (some (((⟨g465, 0, none⟩ : Addr).add ((Int.tmod (wrap64 (a4)) (t343.length : Int) : Int).toNat * 3)).add 2))) rfl rfl (xr_fieldAddr _ _ rfl rfl (field_at2 Try.underlying35 rfl rfl (by kernel_rfl))) ?_
      simp only [ls0, ls1]
      obtain ⟨y467, A468, H⟩ := bnd H
      refine Own.storef k35 (C := C454) (i := 13) rfl rfl 2 _ _ rfl 35 3 (Int.tmod (wrap64 (a4)) (t343.length : Int)) 2 y449 (⟨(rd_T35 y449 (Int.tmod (wrap64 (a4)) (t343.length : Int))).f0, (rd_T35 y449 (Int.tmod (wrap64 (a4)) (t343.length : Int))).f1, wrap64 (((rd_T35 t343 (Int.tmod (wrap64 (a4)) (t343.length : Int))).f2) - (wrap64 (a5)))⟩ : S35) (.int .i64 (wrap64 (((rd_T35 t343 (Int.tmod (wrap64 (a4)) (t343.length : Int))).f2) - (wrap64 (a5))))) [.int .i64 (wrap64 (((rd_T35 t343 (Int.tmod (wrap64 (a4)) (t343.length : Int))).f2) - (wrap64 (a5))))] [.int .i64 ((rd_T35 y449 (Int.tmod (wrap64 (a4)) (t343.length : Int))).f0), .int .i64 ((rd_T35 y449 (Int.tmod (wrap64 (a4)) (t343.length : Int))).f1), .int .i64 ((rd_T35 y449 (Int.tmod (wrap64 (a4)) (t343.length : Int))).f2)] z35 hA466 rfl rfl rfl rfl (by kernel_rfl) (by simp [Value.oneCell']) (fun _ h_ => k35_open h_) (by first | decide | simp) HO455 (by decide) (by first | assumption | decide | omega) (by first | assumption | decide | omega) (k35_mkF _ _ (⟨(rd_T35 y449 (Int.tmod (wrap64 (a4)) (t343.length : Int))).f0, (rd_T35 y449 (Int.tmod (wrap64 (a4)) (t343.length : Int))).f1, wrap64 (((rd_T35 t343 (Int.tmod (wrap64 (a4)) (t343.length : Int))).f2) - (wrap64 (a5)))⟩ : S35)) (Option.some.inj A468) ?_
      intro w469 C470 HO471 HC473 hs472
      replace HJ423 := HJ423.thru hs472 rfl
      replace HR447 := HR447.thru hs472 rfl
      replace HS422 := HS422.trans hs472 hc rfl
      (try simp only [ls0, ls1])
      (try rw [show y449.length = y467.length by rw [← Option.some.inj A468, List.length_set]])
      refine wl_end ?_
      (try simp only [ls0, ls1])
      refine hK458 _ _ ?_
      (try clear hK458 K458)
      refine wp_seq_k fun K474 hK474 => ?_
      (try simp only [ls0, ls1])
      refine al_start (lb 17 0) rfl rfl rfl (fun w_ => k35.C w_ A351 t343.length t343) (Ft.now ((HR447).drew)) [] ?_
      replace HJ423 := HJ423.drew
      replace HR447 := HR447.drew
      replace HO471 := HO471.drew
      replace HS422 := Step.ofDrew HS422
      generalize w469.drew = w475 at *
      refine al_mv 0 (lb 17 1) rfl rfl (by kernel_rfl) (fun _ _ _ => id) rfl ?_
      refine al_mv 1 (lb 17 3) rfl rfl (by kernel_rfl) (fun _ _ _ => id) rfl ?_
      refine al_mv 2 (lb 17 7) rfl rfl (by kernel_rfl) (fun _ _ _ => id) rfl ?_
      obtain ⟨ad476, hA477⟩ := c_addr (Ft.now HR447) (pos_of (j := (Int.tmod (wrap64 (a4)) (t343.length : Int))) (by first | assumption | decide) (by first | assumption | omega))
      refine al_pure 3 92 (.pointer (some (ad476.add ((Int.tmod (wrap64 (a4)) (t343.length : Int) : Int).toNat * 3)))) (lb 17 15) rfl rfl (by kernel_rfl) (fun _ _ _ => id) rfl (fun w_ => xr_indexAddr _ _ _ rfl rfl rfl (index_at Try.underlying22 info35 hA477 (by first | assumption | decide | omega) (by first | assumption | decide | omega))) ?_
      simp only [ls0, ls1]
      refine al_pure 4 93 (.pointer (some ((ad476.add ((Int.tmod (wrap64 (a4)) (t343.length : Int) : Int).toNat * 3)).add 0))) (lb 17 31) rfl rfl (by kernel_rfl) (fun _ _ _ => id) rfl (fun w_ => xr_fieldAddr _ _ rfl rfl (field_at2 Try.underlying35 rfl rfl (by kernel_rfl))) ?_
      refine al_mv 6 (lb 17 95) rfl rfl (by kernel_rfl) (fun _ _ _ => id) rfl ?_
      refine al_mv 7 (lb 17 223) rfl rfl (by kernel_rfl) (fun _ _ _ => id) rfl ?_
      obtain ⟨ad478, hA479⟩ := c_addr (Ft.now HR447) (pos_of (j := (Int.tmod (wrap64 (a4)) (t343.length : Int))) (by first | assumption | decide) (by first | assumption | omega))
      refine al_pure 8 97 (.pointer (some (ad478.add ((Int.tmod (wrap64 (a4)) (t343.length : Int) : Int).toNat * 3)))) (lb 17 479) rfl rfl (by kernel_rfl) (fun _ _ _ => id) rfl (fun w_ => xr_indexAddr _ _ _ rfl rfl rfl (index_at Try.underlying22 info35 hA479 (by first | assumption | decide | omega) (by first | assumption | decide | omega))) ?_
      simp only [ls0, ls1]
      refine al_pure 9 98 (.pointer (some ((ad478.add ((Int.tmod (wrap64 (a4)) (t343.length : Int) : Int).toNat * 3)).add 1))) (lb 17 991) rfl rfl (by kernel_rfl) (fun _ _ _ => id) rfl (fun w_ => xr_fieldAddr _ _ rfl rfl (field_at2 Try.underlying35 rfl rfl (by kernel_rfl))) ?_
      refine al_mv 11 (lb 17 3039) rfl rfl (by kernel_rfl) (fun _ _ _ => id) rfl ?_
      refine al_pure 12 101 (.int .i64 (wrap64 (a5))) (lb 17 7135) rfl rfl (by kernel_rfl) (fun _ _ _ => id) rfl (fun w_ => xr_conv (.int .u8 a5) _ rfl rfl (by first | rfl | (go_simp; done) | (go_simp; rfl) | (go_simp; exact i64_w _) | (go_simp; exact i32_w _))) ?_
      refine al_take 5 94 (.int .i64 ((rd_T35 t343 (Int.tmod (wrap64 (a4)) (t343.length : Int))).f0)) (lb 17 7167) rfl rfl (by kernel_rfl) (fun _ _ _ => id) rfl (fun w_ hS_ => xr_load (.pointer (some ((ad476.add ((Int.tmod (wrap64 (a4)) (t343.length : Int) : Int).toNat * 3)).add 0))) (.int .i64 ((rd_T35 t343 (Int.tmod (wrap64 (a4)) (t343.length : Int))).f0)) rfl rfl (by obtain ⟨ad_, cs_, e_, _, hK_, hc_⟩ := Kd.C_get hS_ z35 (Int.tmod (wrap64 (a4)) (t343.length : Int)) (by first | assumption | decide | omega) (by first | assumption | decide | omega); rw [hA477] at e_; injection e_ with e_; subst e_; obtain rfl := k35_open hK_; exact load_cell Try.underlying3 rfl (by first | (rw [add_add]; exact hc_ 0 _ rfl) | (have h_ := hc_ 0 _ rfl; rw [Nat.add_zero] at h_; exact h_)))) (Ft.now HR447) ?_
      simp only [ls0, ls1]
      refine al_take 10 99 (.int .i64 ((rd_T35 t343 (Int.tmod (wrap64 (a4)) (t343.length : Int))).f1)) (lb 17 8191) rfl rfl (by kernel_rfl) (fun _ _ _ => id) rfl (fun w_ hS_ => xr_load (.pointer (some ((ad478.add ((Int.tmod (wrap64 (a4)) (t343.length : Int) : Int).toNat * 3)).add 1))) (.int .i64 ((rd_T35 t343 (Int.tmod (wrap64 (a4)) (t343.length : Int))).f1)) rfl rfl (by obtain ⟨ad_, cs_, e_, _, hK_, hc_⟩ := Kd.C_get hS_ z35 (Int.tmod (wrap64 (a4)) (t343.length : Int)) (by first | assumption | decide | omega) (by first | assumption | decide | omega); rw [hA479] at e_; injection e_ with e_; subst e_; obtain rfl := k35_open hK_; exact load_cell Try.underlying3 rfl (by first | (rw [add_add]; exact hc_ 1 _ rfl) | (have h_ := hc_ 1 _ rfl; rw [Nat.add_zero] at h_; exact h_)))) (Ft.now HR447) ?_
      refine al_pure 13 102 (.agg #[.int .i64 ((rd_T35 t343 (Int.tmod (wrap64 (a4)) (t343.length : Int))).f0), .int .i64 ((rd_T35 t343 (Int.tmod (wrap64 (a4)) (t343.length : Int))).f1), .int .i64 (wrap64 (a5))]) (lb 17 16383) rfl rfl (by kernel_rfl) (fun _ _ _ => id) rfl (fun w_ => xr_build #[(0, .int .i64 ((rd_T35 t343 (Int.tmod (wrap64 (a4)) (t343.length : Int))).f0)), (1, .int .i64 ((rd_T35 t343 (Int.tmod (wrap64 (a4)) (t343.length : Int))).f1)), (2, .int .i64 (wrap64 (a5)))] (.agg #[.int .i64 ((rd_T35 t343 (Int.tmod (wrap64 (a4)) (t343.length : Int))).f0), .int .i64 ((rd_T35 t343 (Int.tmod (wrap64 (a4)) (t343.length : Int))).f1), .int .i64 (wrap64 (a5))]) rfl (mp_ rfl) (by first | rfl | (go_simp; done) | (go_simp; rfl) | (go_simp; exact i64_w _) | (go_simp; exact i32_w _))) ?_
      refine al_one 14 (lb 17 32767) rfl rfl (by kernel_rfl) rfl (fun K_ hK_ => ?_)
      refine value_ (w1 := w475.alloc (.cells #[.int .i64 ((rd_T35 t343 (Int.tmod (wrap64 (a4)) (t343.length : Int))).f0), .int .i64 ((rd_T35 t343 (Int.tmod (wrap64 (a4)) (t343.length : Int))).f1), .int .i64 (wrap64 (a5))] 35)) (v := .slice (some ⟨w475.heap.size, 0, none⟩) 1 1) rfl rfl (by first | (go_simp; done) | (go_simp; rfl)) ?_
      refine hK_ _ _ (Ft.now ((HR447).alloc _)) ?_
      clear hK_ K_
      (try simp only [Act.put, List.setIfInBounds_toArray, ls0, ls1])
      obtain ⟨c482, H⟩ := if_some H
      obtain ⟨y483, A484, H⟩ := bnd H
      refine al_one 15 (lb 17 65535) rfl rfl (by kernel_rfl) rfl (fun K_ hK_ => ?_)
      refine Own.append_step k35 (C := C470) (i := 13) rfl (.tmp 89) (.tmp 103) 22 35 (.agg #[(.int .i64 0), (.int .i64 0), (.int .i64 0)]) 24 rfl Try.underlying22 info35 rfl (by decide) (by decide) (.slice A451 y467.length cp452) y467 (⟨(rd_T35 t343 (Int.tmod (wrap64 (a4)) (t343.length : Int))).f0, (rd_T35 t343 (Int.tmod (wrap64 (a4)) (t343.length : Int))).f1, wrap64 (a5)⟩ : S35) [.int .i64 ((rd_T35 t343 (Int.tmod (wrap64 (a4)) (t343.length : Int))).f0), .int .i64 ((rd_T35 t343 (Int.tmod (wrap64 (a4)) (t343.length : Int))).f1), .int .i64 (wrap64 (a5))] rfl rfl (k35_mkF _ _ (⟨(rd_T35 t343 (Int.tmod (wrap64 (a4)) (t343.length : Int))).f0, (rd_T35 t343 (Int.tmod (wrap64 (a4)) (t343.length : Int))).f1, wrap64 (a5)⟩ : S35)) HO471 (by decide) (by omega) (Option.some.inj A484) ?_
      intro A485 cp486 w487 C488 HO489 HC490 hs491
      replace HJ423 := HJ423.thru hs491 rfl
      replace HR447 := HR447.thru hs491 rfl
      replace HS422 := HS422.trans hs491 hc rfl
      refine hK_ _ _ (Ft.now HR447) ?_
      clear hK_ K_
      (try simp only [Act.put, List.setIfInBounds_toArray, ls0, ls1])
      refine al_as 16 (lb 17 131071) rfl rfl (by kernel_rfl) (fun _ _ _ => id) rfl ?_
      refine al_end (by kernel_rfl) ?_
      (try simp only [ls0, ls1])
      refine hK474 _ _ ?_
      (try clear hK474 K474)
      refine wp_seq_k fun K492 hK492 => ?_
      refine wl_region ?_
      refine mv_ rfl ?_
      refine mv_ rfl ?_
      replace HJ423 := Ft.recol (a := 13) (b := 0) HJ423 (.inl rfl)
      replace HR447 := Ft.recol (a := 13) (b := 0) HR447 (.inl rfl)
      have HR493 := Ft.recolor (a := 13) (b := 0) (HO489.ft) [0] rfl
      replace HS422 := Step.recol (a := 13) (b := 0) HS422 hc (by decide)
      obtain ⟨⟨t494, t495⟩, A496, H⟩ := bnd H
      (try dsimp only at H)
      refine st_call #[.int .i64 a0, .slice A485 y483.length cp486] rfl rfl Try.func16 (by kernel_rfl) rfl rfl (mp_ rfl) ?_
      refine (blazonlaw25_built.calls k428 a0 A485 cp486 y483 t494 t495  (fun z_ => pal [(0, 0)] ((recol C488 13 0) z_)) w487 (fun _ => pal_lt rfl _) (Ft.arg HR493 rfl) HC490 A496).mono ?_
      rintro _ w498 ⟨C499, v501, A503, cp504, rfl, hs500, HB502, HO505, HC506⟩
      refine ⟨_, rfl, ?_⟩
      replace HB502 := Ft.res (U := [(0, 0), (5, 14), (6, 15)]) HB502 hs500 [14] rfl rfl rfl
      replace HO505 := Own.resF (U := [(0, 0), (5, 14), (6, 15)]) (j := 15) (fun _ _ _ _ h_ => h_) HO505 hs500 (by rfl) (by decide) rfl
      replace hs500 := Step.lift (U := [(0, 0), (5, 14), (6, 15)]) hs500 [] rfl rfl
      generalize up (recol C488 13 0) C499 w487.heap.size [(0, 0), (5, 14), (6, 15)] = C499_ at HB502 HO505 hs500
      replace HJ423 := HJ423.thru hs500 rfl
      replace HR493 := HR493.thru hs500 rfl
      replace HS422 := HS422.trans hs500 hc rfl
      (try simp only [Act.put, List.setIfInBounds_toArray, ls0, ls1])
      refine mv_ rfl ?_
      refine st (v501) rfl rfl (xr_extract (.tuple #[v501, .slice A503 t495.length cp504]) _ rfl rfl rfl) ?_
      refine st (.slice A503 t495.length cp504) rfl rfl (xr_extract (.tuple #[v501, .slice A503 t495.length cp504]) _ rfl rfl rfl) ?_
      refine as_ rfl ?_
      simp only [ls0, ls1]
      refine as_ rfl ?_
      refine wl_end ?_
      (try simp only [ls0, ls1])
      refine hK492 _ _ ?_
      (try clear hK492 K492)
      refine wp_seq_k fun K507 hK507 => ?_
      refine wp_seq_k fun K527 hK527 => ?_
      have hj530 : ∀ (kq539 : Nat) (C531 : Nat → Nat) (w532 : World) (x538 : Bool) (v536 : Value) (x535 : Option Go.Proofs.Ytdkbmchbkkhpoaa.PMfr.S74) (g_ : Nat → Value), Step c w C531 w532 [] → kq539 ≤ k428 → (Ft C531 [11] w532 (fun w_ => Go.Proofs.Ytdkbmchbkkhpoaa.PMfr.NetO w_ (.pointer (some ⟨g359, 0, none⟩)) (some o357 : Option Go.Proofs.Ytdkbmchbkkhpoaa.PMfr.S74))) → (Ft C531 [16] w532 (fun w_ => Go.Proofs.Ytdkbmchbkkhpoaa.PMfr.NetO w_ v536 x535)) → blazonlaw25_MaxflowParts.j0 kq539 a2 a3 o357 x535 x538 = some r → K527 ⟨#[(g_ 0), (g_ 1), .int .i64 a2, .int .i64 a3, (g_ 4), (g_ 5), (g_ 6), (g_ 7), (g_ 8), (g_ 9), (g_ 10), (g_ 11), (g_ 12), .pointer (some ⟨g359, 0, none⟩), (g_ 14), (g_ 15), (g_ 16), v536, (g_ 18), (g_ 19), (g_ 20), (g_ 21), (g_ 22), (g_ 23), (g_ 24), (g_ 25), (g_ 26), (g_ 27), (g_ 28), (g_ 29), (g_ 30), (g_ 31), (g_ 32), (g_ 33), (g_ 34), (g_ 35), (g_ 36), (g_ 37), (g_ 38), (g_ 39), (g_ 40), (g_ 41), (g_ 42), (g_ 43), (g_ 44), (g_ 45), (g_ 46), (g_ 47), (g_ 48), (g_ 49), (g_ 50), (g_ 51), (g_ 52), (g_ 53), (g_ 54), (g_ 55), (g_ 56), (g_ 57), (g_ 58), (g_ 59), (g_ 60), (g_ 61), (g_ 62), (g_ 63), (g_ 64), (g_ 65), (g_ 66), (g_ 67), (g_ 68), (g_ 69), (g_ 70), (g_ 71), (g_ 72), (g_ 73), (g_ 74), (g_ 75), (g_ 76), (g_ 77), (g_ 78), (g_ 79), (g_ 80), (g_ 81), (g_ 82), (g_ 83), (g_ 84), (g_ 85), (g_ 86), (g_ 87), (g_ 88), (g_ 89), (g_ 90), (g_ 91), (g_ 92), (g_ 93), (g_ 94), (g_ 95), (g_ 96), (g_ 97), (g_ 98), (g_ 99), (g_ 100), (g_ 101), (g_ 102), (g_ 103), (g_ 104), (g_ 105), (g_ 106), (g_ 107), (g_ 108), (g_ 109), (g_ 110), (g_ 111), (g_ 112), (g_ 113), (g_ 114), (g_ 115), (g_ 116), (g_ 117), (g_ 118), .bool x538, (g_ 120), (g_ 121), (g_ 122), (g_ 123), (g_ 124), (g_ 125), (g_ 126), (g_ 127), (g_ 128), (g_ 129), (g_ 130), (g_ 131), (g_ 132), (g_ 133), (g_ 134), (g_ 135), (g_ 136), (g_ 137), (g_ 138), (g_ 139), (g_ 140), (g_ 141), (g_ 142), (g_ 143), (g_ 144)], []⟩ w532 := by
       intro kq539 C531 w532 x538 v536 x535 g_ HS533 hk540 HJ534 HJ537 H
       cases kq539 with
       | zero => exact absurd H (by simp [blazonlaw25_MaxflowParts.j0])
       | succ k541 =>
        simp only [blazonlaw25_MaxflowParts.j0] at H
        refine hK527 _ _ ?_
        (try clear hK527)
        by_cases c542 : x538 = true
        ·rw [if_pos c542] at H
         (try rw [c542])
         refine wp_cond_true rfl ?_
         refine wp_seq_k fun K543 hK543 => ?_
         refine wl_region ?_
         refine st (.bool false) rfl rfl (xr_assign _ rfl rfl) ?_
         refine wl_end ?_
         (try simp only [ls0, ls1])
         refine hK543 _ _ ?_
         (try clear hK543 K543)
         refine wp_ret ?_
         (try simp only [Exit.inBlock, Exit.then, Exit.noGoto])
         (try simp only [ls0, ls1])
         obtain rfl := Option.some.inj H
         refine bodyPost_ret (results_tmp rfl _ _ _) rfl ?_
         exact ⟨_, rfl, HS533⟩
        rw [if_neg c542] at H
        (try rw [(Bool.eq_false_iff.mpr c542)])
        refine wp_cond_false rfl ?_
        refine wp_skip ?_
        (try simp only [ls0, ls1])
        refine hK507 _ _ ?_
        (try clear hK507 K507)
        refine wp_seq_k fun K544 hK544 => ?_
        refine wl_region ?_
        refine mv_ rfl ?_
        refine mv_ rfl ?_
        refine mv_ rfl ?_
        obtain ⟨⟨t545, t546, t547⟩, A548, H⟩ := bnd H
        (try dsimp only at H)
        refine st_call #[.pointer (some ⟨g359, 0, none⟩), .int .i64 a2, .int .i64 a3] rfl rfl Try.func17 (by kernel_rfl) rfl rfl (mp_ rfl) ?_
        refine (maxflow_Net_Max.calls k541 (.pointer (some ⟨g359, 0, none⟩)) (some o357 : Option Go.Proofs.Ytdkbmchbkkhpoaa.PMfr.S74) a2 a3 t545 t546 t547  (fun z_ => pal [(0, 0), (11, 1)] (C531 z_)) w532 (fun _ => pal_lt rfl _) (Ft.arg HJ534 rfl) A548).mono ?_
        rintro _ w550 ⟨C551, rfl, hs552, HM553⟩
        refine ⟨_, rfl, ?_⟩
        replace HM553 := Ft.res (U := [(0, 0), (1, 11)]) HM553 hs552 [11] rfl rfl rfl
        replace hs552 := Step.lift (U := [(0, 0), (1, 11)]) hs552 [11] rfl rfl
        generalize up C531 C551 w532.heap.size [(0, 0), (1, 11)] = C551_ at HM553 hs552
        replace HJ537 := HJ537.thru hs552 rfl
        replace HS533 := HS533.trans hs552 hc rfl
        (try simp only [Act.put, List.setIfInBounds_toArray, ls0, ls1])
        refine mv_ rfl ?_
        refine st (.int .i64 t545) rfl rfl (xr_extract (.tuple #[.int .i64 t545, .int .i64 t546]) _ rfl rfl rfl) ?_
        refine st (.int .i64 t546) rfl rfl (xr_extract (.tuple #[.int .i64 t545, .int .i64 t546]) _ rfl rfl rfl) ?_
        refine as_ rfl ?_
        simp only [ls0, ls1]
        refine as_ rfl ?_
        refine wl_end ?_
        (try simp only [ls0, ls1])
        refine hK544 _ _ ?_
        (try clear hK544 K544)
        refine wp_seq_k fun K554 hK554 => ?_
        refine wl_region ?_
        refine mv_ rfl ?_
        refine mv_ rfl ?_
        refine mv_ rfl ?_
        obtain ⟨⟨t555, t556, t557⟩, A558, H⟩ := bnd H
        (try dsimp only at H)
        refine st_call #[v536, .int .i64 a2, .int .i64 a3] rfl rfl Try.func17 (by kernel_rfl) rfl rfl (mp_ rfl) ?_
        refine (maxflow_Net_Max.calls k541 v536 x535 a2 a3 t555 t556 t557  (fun z_ => pal [(0, 0), (16, 1)] (C551_ z_)) w550 (fun _ => pal_lt rfl _) (Ft.arg HJ537 rfl) A558).mono ?_
        rintro _ w560 ⟨C561, rfl, hs562, HM563⟩
        refine ⟨_, rfl, ?_⟩
        replace HM563 := Ft.res (U := [(0, 0), (1, 16)]) HM563 hs562 [16] rfl rfl rfl
        replace hs562 := Step.lift (U := [(0, 0), (1, 16)]) hs562 [16] rfl rfl
        generalize up C551_ C561 w550.heap.size [(0, 0), (1, 16)] = C561_ at HM563 hs562
        replace HS533 := HS533.trans hs562 hc rfl
        (try simp only [Act.put, List.setIfInBounds_toArray, ls0, ls1])
        refine mv_ rfl ?_
        refine st (.int .i64 t555) rfl rfl (xr_extract (.tuple #[.int .i64 t555, .int .i64 t556]) _ rfl rfl rfl) ?_
        refine st (.int .i64 t556) rfl rfl (xr_extract (.tuple #[.int .i64 t555, .int .i64 t556]) _ rfl rfl rfl) ?_
        refine as_ rfl ?_
        simp only [ls0, ls1]
        refine as_ rfl ?_
        refine wl_end ?_
        (try simp only [ls0, ls1])
        refine hK554 _ _ ?_
        (try clear hK554 K554)
        refine wp_seq_k fun K564 hK564 => ?_
        refine wl_region ?_
        refine mv_ rfl ?_
        refine mv_ rfl ?_
        refine st (.bool (decide (t545 = t555))) rfl rfl (xr_bin _ _ _ rfl rfl rfl (B.eql_i64 _ _)) ?_
        refine mv_ rfl ?_
        simp only [ls0, ls1]
        by_cases c565 : t545 = t555
        ·rw [if_pos c565] at H
         (try rw [(decide_eq_true c565)])
         refine on_guard (guard_on 3 true 137 rfl rfl rfl) ?_
         refine mv_ rfl ?_
         refine on_guard (guard_on 3 true 137 rfl rfl rfl) ?_
         refine mv_ rfl ?_
         refine on_guard (guard_on 3 true 137 rfl rfl rfl) ?_
         refine st (.bool (decide (t546 = t556))) rfl rfl (xr_bin _ _ _ rfl rfl rfl (B.eql_i64 _ _)) ?_
         refine st (.bool (decide (t546 = t556))) rfl rfl (xr_pick true _ rfl rfl rfl) ?_
         simp only [ls0, ls1]
         refine mv_ rfl ?_
         by_cases c566 : t546 = t556
         ·rw [if_pos c566] at H
          (try rw [(decide_eq_true c566)])
          refine on_guard (guard_on 8 true 142 rfl rfl rfl) ?_
          obtain ⟨t567, A568, H⟩ := bnd H
          refine st_call #[] rfl rfl Try.func14 (by kernel_rfl) rfl rfl (mp_ rfl) ?_
          refine (blazonlaw25_awake.calls k541 t567  (fun z_ => pal [(0, 0)] (C561_ z_)) w560 (fun _ => pal_lt rfl _) A568).mono ?_
          rintro _ w570 ⟨C571, rfl, hs572⟩
          refine ⟨_, rfl, ?_⟩
          replace hs572 := Step.lift (U := [(0, 0)]) hs572 [] rfl rfl
          generalize up C561_ C571 w560.heap.size [(0, 0)] = C571_ at hs572
          replace HS533 := HS533.trans hs572 hc rfl
          (try simp only [Act.put, List.setIfInBounds_toArray, ls0, ls1])
          refine st (.bool t567) rfl rfl (xr_pick true _ rfl rfl rfl) ?_
          refine as_ rfl ?_
          refine wl_end ?_
          (try simp only [ls0, ls1])
          refine hK564 _ _ ?_
          (try clear hK564 K564)
          refine wp_ret ?_
          (try simp only [Exit.inBlock, Exit.then, Exit.noGoto])
          (try simp only [ls0, ls1])
          obtain rfl := Option.some.inj H
          refine bodyPost_ret (results_tmp rfl _ _ _) rfl ?_
          exact ⟨_, rfl, HS533⟩
         rw [if_neg c566] at H
         (try rw [(decide_eq_false c566)])
         refine sk_guard (guard_off 8 true 142 rfl rfl false (by decide) rfl) rfl ?_
         refine st (.bool false) rfl rfl (xr_pick false _ rfl rfl rfl) ?_
         refine as_ rfl ?_
         refine wl_end ?_
         (try simp only [ls0, ls1])
         refine hK564 _ _ ?_
         (try clear hK564 K564)
         refine wp_ret ?_
         (try simp only [Exit.inBlock, Exit.then, Exit.noGoto])
         (try simp only [ls0, ls1])
         obtain rfl := Option.some.inj H
         refine bodyPost_ret (results_tmp rfl _ _ _) rfl ?_
         exact ⟨_, rfl, HS533⟩
        rw [if_neg c565] at H
        (try rw [(decide_eq_false c565)])
        refine sk_guard (guard_off 3 true 137 rfl rfl false (by decide) rfl) rfl ?_
        refine sk_guard (guard_off 3 true 137 rfl rfl false (by decide) rfl) rfl ?_
        refine sk_guard (guard_off 3 true 137 rfl rfl false (by decide) rfl) rfl ?_
        refine st (.bool false) rfl rfl (xr_pick false _ rfl rfl rfl) ?_
        simp only [ls0, ls1]
        refine mv_ rfl ?_
        refine sk_guard (guard_off 8 true 142 rfl rfl false (by decide) rfl) rfl ?_
        refine st (.bool false) rfl rfl (xr_pick false _ rfl rfl rfl) ?_
        refine as_ rfl ?_
        simp only [ls0, ls1]
        refine wl_end ?_
        (try simp only [ls0, ls1])
        refine hK564 _ _ ?_
        (try clear hK564 K564)
        refine wp_ret ?_
        (try simp only [Exit.inBlock, Exit.then, Exit.noGoto])
        (try simp only [ls0, ls1])
        obtain rfl := Option.some.inj H
        refine bodyPost_ret (results_tmp rfl _ _ _) rfl ?_
        exact ⟨_, rfl, HS533⟩
      refine wl_region ?_
      refine mv_ rfl ?_
      cases t494 with
      | none =>
       (try simp only [onOpt] at H)
       obtain rfl := Go.Proofs.Ytdkbmchbkkhpoaa.PMfr.NetO.isNone HB502
       refine st (.bool true) rfl rfl (xr_bin (.pointer none) (.pointer none) (.bool true) rfl rfl rfl (B.eql_nn ⟨_, Try.underlying24⟩ (⟨0, 0, none⟩ : Addr))) ?_
       refine mv_ rfl ?_
       refine sk_guard (guard_off 2 false 113 rfl rfl true (by decide) rfl) rfl ?_
       simp only [ls0, ls1]
       refine sk_guard (guard_off 2 false 113 rfl rfl true (by decide) rfl) rfl ?_
       refine sk_guard (guard_off 2 false 113 rfl rfl true (by decide) rfl) rfl ?_
       refine sk_guard (guard_off 2 false 113 rfl rfl true (by decide) rfl) rfl ?_
       refine sk_guard (guard_off 2 false 113 rfl rfl true (by decide) rfl) rfl ?_
       simp only [ls0, ls1]
       refine st (.bool true) rfl rfl (xr_pick true _ rfl rfl rfl) ?_
       refine wl_end ?_
       (try simp only [ls0, ls1])
       exact jmp (fun g_ => hj530 _ _ _ (true) (.pointer none) ((none : Option Go.Proofs.Ytdkbmchbkkhpoaa.PMfr.S74)) g_ HS422 (by omega) HJ423 (Go.Proofs.Ytdkbmchbkkhpoaa.PMfr.NetO.nil _ _ _) H) rfl
      | some o573 =>
       (try simp only [onOpt] at H)
       obtain ⟨g574, rfl⟩ := Go.Proofs.Ytdkbmchbkkhpoaa.PMfr.NetO.isSome HB502
       refine st (.bool false) rfl rfl (xr_bin (.pointer (some ⟨g574, 0, none⟩)) (.pointer none) (.bool false) rfl rfl rfl (B.eql_pn ⟨_, Try.underlying24⟩ ⟨g574, 0, none⟩)) ?_
       refine mv_ rfl ?_
       refine on_guard (guard_on 2 false 113 rfl rfl rfl) ?_
       refine mv_ rfl ?_
       refine on_guard (guard_on 2 false 113 rfl rfl rfl) ?_
       refine st (.int .i64 (t495.length : Int)) rfl rfl (xr_builtin #[.slice A503 t495.length cp504] (.int .i64 (t495.length : Int)) rfl (mp_ rfl) (by first | rfl | (go_simp; done) | (go_simp; rfl) | (go_simp; exact i64_w _) | (go_simp; exact i32_w _))) ?_
       simp only [ls0, ls1]
       refine on_guard (guard_on 2 false 113 rfl rfl rfl) ?_
       refine mv_ rfl ?_
       refine on_guard (guard_on 2 false 113 rfl rfl rfl) ?_
       refine st (.int .i64 (y483.length : Int)) rfl rfl (xr_builtin #[.slice A485 y483.length cp486] (.int .i64 (y483.length : Int)) rfl (mp_ rfl) (by first | rfl | (go_simp; done) | (go_simp; rfl) | (go_simp; exact i64_w _) | (go_simp; exact i32_w _))) ?_
       refine on_guard (guard_on 2 false 113 rfl rfl rfl) ?_
       refine st (.bool (!decide ((t495.length : Int) = (y483.length : Int)))) rfl rfl (xr_bin _ _ _ rfl rfl rfl (B.neq_i64 _ _)) ?_
       refine st (.bool (!decide ((t495.length : Int) = (y483.length : Int)))) rfl rfl (xr_pick false _ rfl rfl rfl) ?_
       simp only [ls0, ls1]
       refine wl_end ?_
       replace HJ423 := Ft.recol (a := 14) (b := 16) HJ423 (.inl rfl)
       replace HR493 := Ft.recol (a := 14) (b := 16) HR493 (.inl rfl)
       replace HB502 := Ft.recolor (a := 14) (b := 16) HB502 [16] rfl
       replace HO505 := Own.recol (a := 14) (b := 16) HO505 (by decide) (by decide)
       replace HS422 := Step.recol (a := 14) (b := 16) HS422 hc (by decide)
       (try simp only [ls0, ls1])
       exact jmp (fun g_ => hj530 _ _ _ (!decide ((t495.length : Int) = (y483.length : Int))) (.pointer (some ⟨g574, 0, none⟩)) ((some o573 : Option Go.Proofs.Ytdkbmchbkkhpoaa.PMfr.S74)) g_ HS422 (by omega) HJ423 HB502 H) rfl
    refine wl_region ?_
    refine mv_ rfl ?_
    refine mv_ rfl ?_
    obtain ⟨c575, H⟩ := if_some H
    obtain ⟨c576, H⟩ := if_some H
    obtain ⟨g577, hA578⟩ := HO353.form (pos_of (j := (Int.tmod (wrap64 (a4)) (t343.length : Int))) (by first | assumption | decide) (by first | assumption | omega))
    refine st (.pointer (some ((⟨g577, 0, none⟩ : Addr).add ((Int.tmod (wrap64 (a4)) (t343.length : Int) : Int).toNat * 3)))) rfl rfl (xr_indexAddr _ _ _ rfl rfl rfl (index_at Try.underlying22 info35 hA578 (by first | assumption | decide | omega) (by first | assumption | decide | omega))) ?_
    refine st (.pointer (some (((⟨g577, 0, none⟩ : Addr).add ((Int.tmod (wrap64 (a4)) (t343.length : Int) : Int).toNat * 3)).add 2))) rfl rfl (xr_fieldAddr _ _ rfl rfl (field_at2 Try.underlying35 rfl rfl (by kernel_rfl))) ?_
    simp only [ls0, ls1]
    refine st (.int .i64 ((rd_T35 t343 (Int.tmod (wrap64 (a4)) (t343.length : Int))).f2)) rfl rfl (xr_load (.pointer (some (((⟨g577, 0, none⟩ : Addr).add ((Int.tmod (wrap64 (a4)) (t343.length : Int) : Int).toNat * 3)).add 2))) (.int .i64 ((rd_T35 t343 (Int.tmod (wrap64 (a4)) (t343.length : Int))).f2)) rfl rfl (by obtain ⟨ad_, cs_, e_, _, hK_, hc_⟩ := Kd.C_get (Ft.now (HO353.ft)) z35 (Int.tmod (wrap64 (a4)) (t343.length : Int)) (by first | assumption | decide | omega) (by first | assumption | decide | omega); rw [hA578] at e_; injection e_ with e_; subst e_; obtain rfl := k35_open hK_; exact load_cell Try.underlying2 rfl (by first | (rw [add_add]; exact hc_ 2 _ rfl) | (have h_ := hc_ 2 _ rfl; rw [Nat.add_zero] at h_; exact h_)))) ?_
    refine st (.bool (decide (((rd_T35 t343 (Int.tmod (wrap64 (a4)) (t343.length : Int))).f2) = 4611686018427387904))) rfl rfl (xr_bin _ _ _ rfl rfl rfl (B.eql_i64 _ _)) ?_
    refine mv_ rfl ?_
    by_cases c580 : ((rd_T35 t343 (Int.tmod (wrap64 (a4)) (t343.length : Int))).f2) = 4611686018427387904
    ·rw [if_pos c580] at H
     (try rw [(decide_eq_true c580)])
     refine sk_guard (guard_off 6 false 63 rfl rfl true (by decide) rfl) rfl ?_
     simp only [ls0, ls1]
     refine sk_guard (guard_off 6 false 63 rfl rfl true (by decide) rfl) rfl ?_
     refine sk_guard (guard_off 6 false 63 rfl rfl true (by decide) rfl) rfl ?_
     refine sk_guard (guard_off 6 false 63 rfl rfl true (by decide) rfl) rfl ?_
     refine sk_guard (guard_off 6 false 63 rfl rfl true (by decide) rfl) rfl ?_
     simp only [ls0, ls1]
     refine sk_guard (guard_off 6 false 63 rfl rfl true (by decide) rfl) rfl ?_
     refine sk_guard (guard_off 6 false 63 rfl rfl true (by decide) rfl) rfl ?_
     refine sk_guard (guard_off 6 false 63 rfl rfl true (by decide) rfl) rfl ?_
     refine st (.bool true) rfl rfl (xr_pick true _ rfl rfl rfl) ?_
     simp only [ls0, ls1]
     refine wl_end ?_
     (try simp only [ls0, ls1])
     exact jmp (fun g_ => hj419 _ _ _ (true) g_ HS327 (by omega) HB350 HO353 H) rfl
    rw [if_neg c580] at H
    (try rw [(decide_eq_false c580)])
    refine on_guard (guard_on 6 false 63 rfl rfl rfl) ?_
    refine mv_ rfl ?_
    refine on_guard (guard_on 6 false 63 rfl rfl rfl) ?_
    refine st (.int .i64 (wrap64 (a5))) rfl rfl (xr_conv (.int .u8 a5) _ rfl rfl (by first | rfl | (go_simp; done) | (go_simp; rfl) | (go_simp; exact i64_w _) | (go_simp; exact i32_w _))) ?_
    refine on_guard (guard_on 6 false 63 rfl rfl rfl) ?_
    refine mv_ rfl ?_
    refine on_guard (guard_on 6 false 63 rfl rfl rfl) ?_
    refine mv_ rfl ?_
    simp only [ls0, ls1]
    refine on_guard (guard_on 6 false 63 rfl rfl rfl) ?_
    obtain ⟨g581, hA582⟩ := HO353.form (pos_of (j := (Int.tmod (wrap64 (a4)) (t343.length : Int))) (by first | assumption | decide) (by first | assumption | omega))
    refine st (.pointer (some ((⟨g581, 0, none⟩ : Addr).add ((Int.tmod (wrap64 (a4)) (t343.length : Int) : Int).toNat * 3)))) rfl rfl (xr_indexAddr _ _ _ rfl rfl rfl (index_at Try.underlying22 info35 hA582 (by first | assumption | decide | omega) (by first | assumption | decide | omega))) ?_
    refine on_guard (guard_on 6 false 63 rfl rfl rfl) ?_
    refine st (.pointer (some (((⟨g581, 0, none⟩ : Addr).add ((Int.tmod (wrap64 (a4)) (t343.length : Int) : Int).toNat * 3)).add 2))) rfl rfl (xr_fieldAddr _ _ rfl rfl (field_at2 Try.underlying35 rfl rfl (by kernel_rfl))) ?_
    refine on_guard (guard_on 6 false 63 rfl rfl rfl) ?_
    refine st (.int .i64 ((rd_T35 t343 (Int.tmod (wrap64 (a4)) (t343.length : Int))).f2)) rfl rfl (xr_load (.pointer (some (((⟨g581, 0, none⟩ : Addr).add ((Int.tmod (wrap64 (a4)) (t343.length : Int) : Int).toNat * 3)).add 2))) (.int .i64 ((rd_T35 t343 (Int.tmod (wrap64 (a4)) (t343.length : Int))).f2)) rfl rfl (by obtain ⟨ad_, cs_, e_, _, hK_, hc_⟩ := Kd.C_get (Ft.now (HO353.ft)) z35 (Int.tmod (wrap64 (a4)) (t343.length : Int)) (by first | assumption | decide | omega) (by first | assumption | decide | omega); rw [hA582] at e_; injection e_ with e_; subst e_; obtain rfl := k35_open hK_; exact load_cell Try.underlying2 rfl (by first | (rw [add_add]; exact hc_ 2 _ rfl) | (have h_ := hc_ 2 _ rfl; rw [Nat.add_zero] at h_; exact h_)))) ?_
    refine on_guard (guard_on 6 false 63 rfl rfl rfl) ?_
    refine st (.bool (decide ((wrap64 (a5)) > ((rd_T35 t343 (Int.tmod (wrap64 (a4)) (t343.length : Int))).f2)))) rfl rfl (xr_bin _ _ _ rfl rfl rfl (B.gtr_i64 _ _)) ?_
    simp only [ls0, ls1]
    refine st (.bool (decide ((wrap64 (a5)) > ((rd_T35 t343 (Int.tmod (wrap64 (a4)) (t343.length : Int))).f2)))) rfl rfl (xr_pick false _ rfl rfl rfl) ?_
    refine wl_end ?_
    (try simp only [ls0, ls1])
    exact jmp (fun g_ => hj419 _ _ _ (decide ((wrap64 (a5)) > ((rd_T35 t343 (Int.tmod (wrap64 (a4)) (t343.length : Int))).f2))) g_ HS327 (by omega) HB350 HO353 H) rfl
 refine wl_region ?_
 refine mv_ rfl ?_
 refine st (.bool (decide (a0 < 1))) rfl rfl (xr_bin _ _ _ rfl rfl rfl (B.lss_i64 _ _)) ?_
 refine mv_ rfl ?_
 by_cases c584 : a0 < 1
 ·rw [if_pos c584] at H
  (try rw [(decide_eq_true c584)])
  refine sk_guard (guard_off 2 false 25 rfl rfl true (by decide) rfl) rfl ?_
  simp only [ls0, ls1]
  refine sk_guard (guard_off 2 false 25 rfl rfl true (by decide) rfl) rfl ?_
  refine st (.bool true) rfl rfl (xr_pick true _ rfl rfl rfl) ?_
  refine mv_ rfl ?_
  refine sk_guard (guard_off 6 false 29 rfl rfl true (by decide) rfl) rfl ?_
  simp only [ls0, ls1]
  refine sk_guard (guard_off 6 false 29 rfl rfl true (by decide) rfl) rfl ?_
  refine sk_guard (guard_off 6 false 29 rfl rfl true (by decide) rfl) rfl ?_
  refine st (.bool true) rfl rfl (xr_pick true _ rfl rfl rfl) ?_
  refine mv_ rfl ?_
  simp only [ls0, ls1]
  refine sk_guard (guard_off 11 false 34 rfl rfl true (by decide) rfl) rfl ?_
  refine sk_guard (guard_off 11 false 34 rfl rfl true (by decide) rfl) rfl ?_
  refine sk_guard (guard_off 11 false 34 rfl rfl true (by decide) rfl) rfl ?_
  refine st (.bool true) rfl rfl (xr_pick true _ rfl rfl rfl) ?_
  simp only [ls0, ls1]
  refine wl_end ?_
  (try simp only [ls0, ls1])
  exact jmp (fun g_ => hj324 _ _ _ (true) g_ HS (by omega) HP1 H) rfl
 rw [if_neg c584] at H
 (try rw [(decide_eq_false c584)])
 refine on_guard (guard_on 2 false 25 rfl rfl rfl) ?_
 refine mv_ rfl ?_
 refine on_guard (guard_on 2 false 25 rfl rfl rfl) ?_
 refine st (.bool (decide (a0 > 60))) rfl rfl (xr_bin _ _ _ rfl rfl rfl (B.gtr_i64 _ _)) ?_
 refine st (.bool (decide (a0 > 60))) rfl rfl (xr_pick false _ rfl rfl rfl) ?_
 refine mv_ rfl ?_
 simp only [ls0, ls1]
 by_cases c585 : a0 > 60
 ·rw [if_pos c585] at H
  (try rw [(decide_eq_true c585)])
  refine sk_guard (guard_off 6 false 29 rfl rfl true (by decide) rfl) rfl ?_
  refine sk_guard (guard_off 6 false 29 rfl rfl true (by decide) rfl) rfl ?_
  refine sk_guard (guard_off 6 false 29 rfl rfl true (by decide) rfl) rfl ?_
  refine st (.bool true) rfl rfl (xr_pick true _ rfl rfl rfl) ?_
  simp only [ls0, ls1]
  refine mv_ rfl ?_
  refine sk_guard (guard_off 11 false 34 rfl rfl true (by decide) rfl) rfl ?_
  refine sk_guard (guard_off 11 false 34 rfl rfl true (by decide) rfl) rfl ?_
  refine sk_guard (guard_off 11 false 34 rfl rfl true (by decide) rfl) rfl ?_
  simp only [ls0, ls1]
  refine st (.bool true) rfl rfl (xr_pick true _ rfl rfl rfl) ?_
  refine wl_end ?_
  (try simp only [ls0, ls1])
  exact jmp (fun g_ => hj324 _ _ _ (true) g_ HS (by omega) HP1 H) rfl
 rw [if_neg c585] at H
 (try rw [(decide_eq_false c585)])
 refine on_guard (guard_on 6 false 29 rfl rfl rfl) ?_
 refine mv_ rfl ?_
 refine on_guard (guard_on 6 false 29 rfl rfl rfl) ?_
 refine st (.int .i64 (l1.length : Int)) rfl rfl (xr_builtin #[.slice A1 l1.length c1] (.int .i64 (l1.length : Int)) rfl (mp_ rfl) (by first | rfl | (go_simp; done) | (go_simp; rfl) | (go_simp; exact i64_w _) | (go_simp; exact i32_w _))) ?_
 refine on_guard (guard_on 6 false 29 rfl rfl rfl) ?_
 refine st (.bool (decide ((l1.length : Int) > 199))) rfl rfl (xr_bin _ _ _ rfl rfl rfl (B.gtr_i64 _ _)) ?_
 refine st (.bool (decide ((l1.length : Int) > 199))) rfl rfl (xr_pick false _ rfl rfl rfl) ?_
 simp only [ls0, ls1]
 refine mv_ rfl ?_
 by_cases c586 : (l1.length : Int) > 199
 ·rw [if_pos c586] at H
  (try rw [(decide_eq_true c586)])
  refine sk_guard (guard_off 11 false 34 rfl rfl true (by decide) rfl) rfl ?_
  refine sk_guard (guard_off 11 false 34 rfl rfl true (by decide) rfl) rfl ?_
  refine sk_guard (guard_off 11 false 34 rfl rfl true (by decide) rfl) rfl ?_
  simp only [ls0, ls1]
  refine st (.bool true) rfl rfl (xr_pick true _ rfl rfl rfl) ?_
  refine wl_end ?_
  (try simp only [ls0, ls1])
  exact jmp (fun g_ => hj324 _ _ _ (true) g_ HS (by omega) HP1 H) rfl
 rw [if_neg c586] at H
 (try rw [(decide_eq_false c586)])
 refine on_guard (guard_on 11 false 34 rfl rfl rfl) ?_
 refine mv_ rfl ?_
 refine on_guard (guard_on 11 false 34 rfl rfl rfl) ?_
 refine st (.int .i64 (l1.length : Int)) rfl rfl (xr_builtin #[.slice A1 l1.length c1] (.int .i64 (l1.length : Int)) rfl (mp_ rfl) (by first | rfl | (go_simp; done) | (go_simp; rfl) | (go_simp; exact i64_w _) | (go_simp; exact i32_w _))) ?_
 refine on_guard (guard_on 11 false 34 rfl rfl rfl) ?_
 refine st (.bool (decide ((l1.length : Int) = 0))) rfl rfl (xr_bin _ _ _ rfl rfl rfl (B.eql_i64 _ _)) ?_
 refine st (.bool (decide ((l1.length : Int) = 0))) rfl rfl (xr_pick false _ rfl rfl rfl) ?_
 simp only [ls0, ls1]
 refine wl_end ?_
 (try simp only [ls0, ls1])
 exact jmp (fun g_ => hj324 _ _ _ (decide ((l1.length : Int) = 0)) g_ HS (by omega) HP1 H) rfl
/-- THE ONE PURE STATEMENT of blazonlaw25_MaxflowParts. -/
def blazonlaw25_MaxflowParts.Pure : Prop := ∀ (a0 : Int) (l1 : List (S35)) (a2 : Int) (a3 : Int) (a4 : Int) (a5 : Int), (Lit.int .i64 a0).wf = true → l1.length ≤ maxLen → l1.length * 24 ≤ 140737488351232 → (∀ x_ ∈ l1, Ok35 x_) → (Lit.int .i64 a2).wf = true → (Lit.int .i64 a3).wf = true → (Lit.int .u8 a4).wf = true → (Lit.int .u8 a5).wf = true → ∃ k, blazonlaw25_MaxflowParts.f k a0 l1 a2 a3 a4 a5 = some true

end Go.Proofs.Ytdkbmchbkkhpoaa.PMpa
