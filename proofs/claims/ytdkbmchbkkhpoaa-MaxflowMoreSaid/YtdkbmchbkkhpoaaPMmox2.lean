-- By cprint.py, a program of this work. Lean checks it.
import Derived.Test.YtdkbmchbkkhpoaaPMmox0
import Derived.Test.YtdkbmchbkkhpoaaPMmox1
namespace Go.Proofs.Ytdkbmchbkkhpoaa.PMmo
open Go.RowKit Go.Proofs.YtdkbmchbkkhpoaaW.PrintWords Go.Proofs.YtdkbmchbkkhpoaaW.PrintLast Go.Proofs.YtdkbmchbkkhpoaaW.PrintMore
set_option linter.unusedVariables false
set_option linter.unusedSimpArgs false

/-! ### blazonlaw25_MaxflowMore: function 4 -/
mutual
def blazonlaw25_MaxflowMore.j0 : Nat → Int → Int → Int → Bool → Option (Bool)
  | 0, _, _, _, _ => none
  | k + 1, a4_2, t238, t267, x306 => if x306 = true then ((blazonlaw25_awake.f k).bind fun t313 => (some t313)) else (if t267 ≥ t238 then (if (wrap64 (t267 - t238)) ≤ a4_2 then ((blazonlaw25_awake.f k).bind fun t322 => (some t322)) else (some false)) else (some false))
def blazonlaw25_MaxflowMore.j1 : Nat → Int → Int → Int → Int → Int → Int → (List (S35)) → Bool → Option (Bool)
  | 0, _, _, _, _, _, _, _, _ => none
  | k + 1, a0, a2, a3, a4_0, a4_1, a4_2, l1, x205 => if x205 = true then ((blazonlaw25_awake.f k).bind fun t212 => (some t212)) else ((blazonlaw25_built.f k a0 l1).bind fun bt219 => (onOpt bt219.1 (some false) (fun o234 => ((maxflow_Net_Max.f k (some o234 : Option Go.Proofs.Ytdkbmchbkkhpoaa.PMfr.S74) a2 a3).bind fun bt238 => ((maxflow_Net_Add.f k bt238.2.2 a4_0 a4_1 a4_2).bind fun bt248 => ((blazonref25_Add.f k a0 bt219.2 a4_0 a4_1 a4_2).bind fun t259 => (if bt248.2.1 = t259 then ((maxflow_Net_Max.f k bt248.2.2 a2 a3).bind fun bt267 => (if bt238.2.1 = 0 then (if bt248.2.1 = 0 then (blazonlaw25_MaxflowMore.j0 k a4_2 bt238.1 bt267.1 (!decide (bt267.2.1 = 0))) else (blazonlaw25_MaxflowMore.j0 k a4_2 bt238.1 bt267.1 true)) else (blazonlaw25_MaxflowMore.j0 k a4_2 bt238.1 bt267.1 true))) else (some false))))))))
end
def blazonlaw25_MaxflowMore.f (k : Nat) (a0 : Int) (l1 : List (S35)) (a2 : Int) (a3 : Int) (a4_0 : Int) (a4_1 : Int) (a4_2 : Int) : Option (Bool) := if a0 < 1 then (blazonlaw25_MaxflowMore.j1 k a0 a2 a3 a4_0 a4_1 a4_2 l1 true) else (if a0 > 60 then (blazonlaw25_MaxflowMore.j1 k a0 a2 a3 a4_0 a4_1 a4_2 l1 true) else (blazonlaw25_MaxflowMore.j1 k a0 a2 a3 a4_0 a4_1 a4_2 l1 (decide ((l1.length : Int) > 200))))

set_option maxHeartbeats 8000000 in
set_option maxRecDepth 100000 in
theorem blazonlaw25_MaxflowMore.calls (k : Nat) (a0 : Int) (A1 : Option Addr) (c1 : Nat) (l1 : List (S35)) (a2 : Int) (a3 : Int) (a4_0 : Int) (a4_1 : Int) (a4_2 : Int) (r : Bool) (c : Nat → Nat) (w : World) (hc : ∀ k, c k < 10) (HP1 : Ft c [0] w (fun w_ => k35.C w_ A1 l1.length l1)) (HCP1 : l1.length ≤ c1) (H : blazonlaw25_MaxflowMore.f k a0 l1 a2 a3 a4_0 a4_1 a4_2 = some r) :
    Calls Try.prog 4 #[.int .i64 a0, .slice A1 l1.length c1, .int .i64 a2, .int .i64 a3, .agg #[.int .i64 a4_0, .int .i64 a4_1, .int .i64 a4_2]] w fun e w' => ∃ (c' : Nat → Nat) , e = .returned (.bool r) ∧ Step c w c' w' [] := by
 unfold blazonlaw25_MaxflowMore.f at H
 have HS := Step.refl c w []
 go_enter Try.func4, Try.ntmps4
 refine wp_seq_k fun K167 hK167 => ?_
 refine wl_region ?_
 refine bx_new (C := c) 35 ([.int .i64 a4_0, .int .i64 a4_1, .int .i64 a4_2]) 11 rfl rfl (by first | (go_simp; done) | (go_simp; rfl)) ?_
 intro g168 w169 C170 HX171 hs172
 replace HP1 := HP1.thru hs172 rfl
 replace HS := HS.trans hs172 hc rfl
 (try simp only [Act.put, List.setIfInBounds_toArray, ls0, ls1])
 refine st (.bool false) rfl rfl (xr_assign _ rfl rfl) ?_
 refine wl_end ?_
 (try simp only [ls0, ls1])
 refine hK167 _ _ ?_
 (try clear hK167 K167)
 refine wp_seq_k fun K173 hK173 => ?_
 refine wp_seq_k fun K197 hK197 => ?_
 have hj200 : ∀ (kq207 : Nat) (C201 : Nat → Nat) (w202 : World) (x205 : Bool) (g_ : Nat → Value), Step c w C201 w202 [] → kq207 ≤ k → (Ft C201 [0] w202 (fun w_ => k35.C w_ A1 l1.length l1)) → (Bx C201 11 w202 g168 35 ([.int .i64 a4_0, .int .i64 a4_1, .int .i64 a4_2])) → blazonlaw25_MaxflowMore.j1 kq207 a0 a2 a3 a4_0 a4_1 a4_2 l1 x205 = some r → K197 ⟨#[.int .i64 a0, .slice A1 l1.length c1, .int .i64 a2, .int .i64 a3, (g_ 4), (g_ 5), (g_ 6), (g_ 7), (g_ 8), .pointer (some ⟨g168, 0, none⟩), (g_ 10), (g_ 11), (g_ 12), (g_ 13), (g_ 14), (g_ 15), (g_ 16), (g_ 17), (g_ 18), (g_ 19), (g_ 20), (g_ 21), (g_ 22), (g_ 23), (g_ 24), (g_ 25), (g_ 26), (g_ 27), (g_ 28), .bool x205, (g_ 30), (g_ 31), (g_ 32), (g_ 33), (g_ 34), (g_ 35), (g_ 36), (g_ 37), (g_ 38), (g_ 39), (g_ 40), (g_ 41), (g_ 42), (g_ 43), (g_ 44), (g_ 45), (g_ 46), (g_ 47), (g_ 48), (g_ 49), (g_ 50), (g_ 51), (g_ 52), (g_ 53), (g_ 54), (g_ 55), (g_ 56), (g_ 57), (g_ 58), (g_ 59), (g_ 60), (g_ 61), (g_ 62), (g_ 63), (g_ 64), (g_ 65), (g_ 66), (g_ 67), (g_ 68), (g_ 69), (g_ 70), (g_ 71), (g_ 72), (g_ 73), (g_ 74), (g_ 75), (g_ 76), (g_ 77), (g_ 78), (g_ 79), (g_ 80), (g_ 81), (g_ 82), (g_ 83), (g_ 84), (g_ 85), (g_ 86), (g_ 87), (g_ 88), (g_ 89), (g_ 90), (g_ 91), (g_ 92), (g_ 93), (g_ 94)], []⟩ w202 := by
  intro kq207 C201 w202 x205 g_ HS203 hk208 HJ204 HJ206 H
  cases kq207 with
  | zero => exact absurd H (by simp [blazonlaw25_MaxflowMore.j1])
  | succ k209 =>
   simp only [blazonlaw25_MaxflowMore.j1] at H
   refine hK197 _ _ ?_
   (try clear hK197)
   by_cases c210 : x205 = true
   ·rw [if_pos c210] at H
    (try rw [c210])
    refine wp_cond_true rfl ?_
    refine wp_seq_k fun K211 hK211 => ?_
    refine wl_region ?_
    obtain ⟨t212, A213, H⟩ := bnd H
    refine st_call #[] rfl rfl Try.func14 (by kernel_rfl) rfl rfl (mp_ rfl) ?_
    refine (blazonlaw25_awake.calls k209 t212  (fun z_ => pal [(0, 0)] (C201 z_)) w202 (fun _ => pal_lt rfl _) A213).mono ?_
    rintro _ w215 ⟨C216, rfl, hs217⟩
    refine ⟨_, rfl, ?_⟩
    replace hs217 := Step.lift (U := [(0, 0)]) hs217 [] rfl rfl
    generalize up C201 C216 w202.heap.size [(0, 0)] = C216_ at hs217
    replace HJ206 := HJ206.thru hs217 rfl
    replace HS203 := HS203.trans hs217 hc rfl
    (try simp only [Act.put, List.setIfInBounds_toArray, ls0, ls1])
    refine as_ rfl ?_
    refine wl_end ?_
    (try simp only [ls0, ls1])
    refine hK211 _ _ ?_
    (try clear hK211 K211)
    refine wp_ret ?_
    (try simp only [Exit.inBlock, Exit.then, Exit.noGoto])
    (try simp only [ls0, ls1])
    obtain rfl := Option.some.inj H
    refine bodyPost_ret (results_tmp rfl _ _ _) rfl ?_
    exact ⟨_, rfl, HS203⟩
   rw [if_neg c210] at H
   (try rw [(Bool.eq_false_iff.mpr c210)])
   refine wp_cond_false rfl ?_
   refine wp_skip ?_
   (try simp only [ls0, ls1])
   refine hK173 _ _ ?_
   (try clear hK173 K173)
   refine wp_seq_k fun K218 hK218 => ?_
   refine wl_region ?_
   refine mv_ rfl ?_
   refine mv_ rfl ?_
   obtain ⟨⟨t219, t220⟩, A221, H⟩ := bnd H
   (try dsimp only at H)
   refine st_call #[.int .i64 a0, .slice A1 l1.length c1] rfl rfl Try.func16 (by kernel_rfl) rfl rfl (mp_ rfl) ?_
   refine (blazonlaw25_built.calls k209 a0 A1 c1 l1 t219 t220  (fun z_ => pal [(0, 0)] (C201 z_)) w202 (fun _ => pal_lt rfl _) (Ft.arg HJ204 rfl) HCP1 A221).mono ?_
   rintro _ w223 ⟨C224, v226, A228, cp229, rfl, hs225, HB227, HO230, HC231⟩
   refine ⟨_, rfl, ?_⟩
   replace HB227 := Ft.res (U := [(0, 0), (5, 12), (6, 13)]) HB227 hs225 [12] rfl rfl rfl
   replace HO230 := Own.resF (U := [(0, 0), (5, 12), (6, 13)]) (j := 13) (fun _ _ _ _ h_ => h_) HO230 hs225 (by rfl) (by decide) rfl
   replace hs225 := Step.lift (U := [(0, 0), (5, 12), (6, 13)]) hs225 [] rfl rfl
   generalize up C201 C224 w202.heap.size [(0, 0), (5, 12), (6, 13)] = C224_ at HB227 HO230 hs225
   replace HJ206 := HJ206.thru hs225 rfl
   replace HS203 := HS203.trans hs225 hc rfl
   (try simp only [Act.put, List.setIfInBounds_toArray, ls0, ls1])
   refine mv_ rfl ?_
   refine st (v226) rfl rfl (xr_extract (.tuple #[v226, .slice A228 t220.length cp229]) _ rfl rfl rfl) ?_
   refine st (.slice A228 t220.length cp229) rfl rfl (xr_extract (.tuple #[v226, .slice A228 t220.length cp229]) _ rfl rfl rfl) ?_
   refine as_ rfl ?_
   simp only [ls0, ls1]
   refine as_ rfl ?_
   refine wl_end ?_
   (try simp only [ls0, ls1])
   refine hK218 _ _ ?_
   (try clear hK218 K218)
   refine wp_seq_k fun K232 hK232 => ?_
   refine wp_seq_k fun K233 hK233 => ?_
   refine wl_region ?_
   refine mv_ rfl ?_
   cases t219 with
   | none =>
    (try simp only [onOpt] at H)
    obtain rfl := Go.Proofs.Ytdkbmchbkkhpoaa.PMfr.NetO.isNone HB227
    refine st (.bool true) rfl rfl (xr_bin (.pointer none) (.pointer none) (.bool true) rfl rfl rfl (B.eql_nn ⟨_, Try.underlying24⟩ (⟨0, 0, none⟩ : Addr))) ?_
    refine wl_end ?_
    (try simp only [ls0, ls1])
    refine hK233 _ _ ?_
    (try clear hK233 K233)
    refine wp_cond_true rfl ?_
    refine wp_seq_k fun K235 hK235 => ?_
    refine wl_region ?_
    refine st (.bool false) rfl rfl (xr_assign _ rfl rfl) ?_
    refine wl_end ?_
    (try simp only [ls0, ls1])
    refine hK235 _ _ ?_
    (try clear hK235 K235)
    refine wp_ret ?_
    (try simp only [Exit.inBlock, Exit.then, Exit.noGoto])
    (try simp only [ls0, ls1])
    obtain rfl := Option.some.inj H
    refine bodyPost_ret (results_tmp rfl _ _ _) rfl ?_
    exact ⟨_, rfl, HS203⟩
   | some o234 =>
    (try simp only [onOpt] at H)
    obtain ⟨g236, rfl⟩ := Go.Proofs.Ytdkbmchbkkhpoaa.PMfr.NetO.isSome HB227
    refine st (.bool false) rfl rfl (xr_bin (.pointer (some ⟨g236, 0, none⟩)) (.pointer none) (.bool false) rfl rfl rfl (B.eql_pn ⟨_, Try.underlying24⟩ ⟨g236, 0, none⟩)) ?_
    refine wl_end ?_
    (try simp only [ls0, ls1])
    refine hK233 _ _ ?_
    (try clear hK233 K233)
    refine wp_cond_false rfl ?_
    refine wp_skip ?_
    (try simp only [ls0, ls1])
    refine hK232 _ _ ?_
    (try clear hK232 K232)
    refine wp_seq_k fun K237 hK237 => ?_
    refine wl_region ?_
    refine mv_ rfl ?_
    refine mv_ rfl ?_
    refine mv_ rfl ?_
    obtain ⟨⟨t238, t239, t240⟩, A241, H⟩ := bnd H
    (try dsimp only at H)
    refine st_call #[.pointer (some ⟨g236, 0, none⟩), .int .i64 a2, .int .i64 a3] rfl rfl Try.func17 (by kernel_rfl) rfl rfl (mp_ rfl) ?_
    refine (maxflow_Net_Max.calls k209 (.pointer (some ⟨g236, 0, none⟩)) (some o234 : Option Go.Proofs.Ytdkbmchbkkhpoaa.PMfr.S74) a2 a3 t238 t239 t240  (fun z_ => pal [(0, 0), (12, 1)] (C224_ z_)) w223 (fun _ => pal_lt rfl _) (Ft.arg HB227 rfl) A241).mono ?_
    rintro _ w243 ⟨C244, rfl, hs245, HM246⟩
    refine ⟨_, rfl, ?_⟩
    replace HM246 := Ft.res (U := [(0, 0), (1, 12)]) HM246 hs245 [12] rfl rfl rfl
    replace hs245 := Step.lift (U := [(0, 0), (1, 12)]) hs245 [12] rfl rfl
    generalize up C224_ C244 w223.heap.size [(0, 0), (1, 12)] = C244_ at HM246 hs245
    replace HJ206 := HJ206.thru hs245 rfl
    replace HO230 := HO230.thru hs245 rfl
    replace HS203 := HS203.trans hs245 hc rfl
    (try simp only [Act.put, List.setIfInBounds_toArray, ls0, ls1])
    refine mv_ rfl ?_
    refine st (.int .i64 t238) rfl rfl (xr_extract (.tuple #[.int .i64 t238, .int .i64 t239]) _ rfl rfl rfl) ?_
    refine st (.int .i64 t239) rfl rfl (xr_extract (.tuple #[.int .i64 t238, .int .i64 t239]) _ rfl rfl rfl) ?_
    refine as_ rfl ?_
    simp only [ls0, ls1]
    refine as_ rfl ?_
    refine wl_end ?_
    (try simp only [ls0, ls1])
    refine hK237 _ _ ?_
    (try clear hK237 K237)
    refine wp_seq_k fun K247 hK247 => ?_
    refine wl_region ?_
    refine mv_ rfl ?_
    refine st (.pointer (some ⟨g168, 0, none⟩)) rfl rfl (xr_fieldAddr _ _ rfl rfl (bx_field2 Try.underlying35 rfl rfl (by kernel_rfl))) ?_
    refine st (.int .i64 a4_0) rfl rfl (xr_load _ _ rfl rfl (load_cell Try.underlying3 rfl (bx_cell (HJ206).2 0 rfl))) ?_
    refine st (.pointer (some ⟨g168, 1, none⟩)) rfl rfl (xr_fieldAddr _ _ rfl rfl (bx_field2 Try.underlying35 rfl rfl (by kernel_rfl))) ?_
    simp only [ls0, ls1]
    refine st (.int .i64 a4_1) rfl rfl (xr_load _ _ rfl rfl (load_cell Try.underlying3 rfl (bx_cell (HJ206).2 1 rfl))) ?_
    refine st (.pointer (some ⟨g168, 2, none⟩)) rfl rfl (xr_fieldAddr _ _ rfl rfl (bx_field2 Try.underlying35 rfl rfl (by kernel_rfl))) ?_
    refine st (.int .i64 a4_2) rfl rfl (xr_load _ _ rfl rfl (load_cell Try.underlying2 rfl (bx_cell (HJ206).2 2 rfl))) ?_
    obtain ⟨⟨t248, t249, t250⟩, A251, H⟩ := bnd H
    (try dsimp only at H)
    refine st_call #[.pointer (some ⟨g236, 0, none⟩), .int .i64 a4_0, .int .i64 a4_1, .int .i64 a4_2] rfl rfl Try.func21 (by kernel_rfl) rfl rfl (mp_ rfl) ?_
    refine (maxflow_Net_Add.calls k209 (.pointer (some ⟨g236, 0, none⟩)) t240 a4_0 a4_1 a4_2 t248 t249 t250  (fun z_ => pal [(0, 0), (12, 1)] (C244_ z_)) w243 (fun _ => pal_lt rfl _) (Ft.arg HM246 rfl) A251).mono ?_
    rintro _ w253 ⟨C254, rfl, hs255, HM256⟩
    refine ⟨_, rfl, ?_⟩
    replace HM256 := Ft.res (U := [(0, 0), (1, 12)]) HM256 hs255 [12] rfl rfl rfl
    replace hs255 := Step.lift (U := [(0, 0), (1, 12)]) hs255 [12] rfl rfl
    generalize up C244_ C254 w243.heap.size [(0, 0), (1, 12)] = C254_ at HM256 hs255
    replace HJ206 := HJ206.thru hs255 rfl
    replace HO230 := HO230.thru hs255 rfl
    replace HS203 := HS203.trans hs255 hc rfl
    (try simp only [Act.put, List.setIfInBounds_toArray, ls0, ls1])
    refine mv_ rfl ?_
    refine st (.int .i64 t248) rfl rfl (xr_extract (.tuple #[.int .i64 t248, .int .i64 t249]) _ rfl rfl rfl) ?_
    refine st (.int .i64 t249) rfl rfl (xr_extract (.tuple #[.int .i64 t248, .int .i64 t249]) _ rfl rfl rfl) ?_
    refine as_ rfl ?_
    simp only [ls0, ls1]
    refine as_ rfl ?_
    refine wl_end ?_
    (try simp only [ls0, ls1])
    refine hK247 _ _ ?_
    (try clear hK247 K247)
    refine wp_seq_k fun K257 hK257 => ?_
    refine wp_seq_k fun K258 hK258 => ?_
    refine wl_region ?_
    refine mv_ rfl ?_
    refine mv_ rfl ?_
    refine mv_ rfl ?_
    refine st (.agg #[.int .i64 a4_0, .int .i64 a4_1, .int .i64 a4_2]) rfl rfl (xr_load _ _ rfl rfl (load_agg (cs := [.int .i64 a4_0, .int .i64 a4_1, .int .i64 a4_2]) Try.underlying35 rfl (by kernel_rfl) (bx_cells (HJ206).2 0 rfl))) ?_
    simp only [ls0, ls1]
    obtain ⟨t259, A260, H⟩ := bnd H
    refine st_call #[.int .i64 a0, .slice A228 t220.length cp229, .agg #[.int .i64 a4_0, .int .i64 a4_1, .int .i64 a4_2]] rfl rfl Try.func22 (by kernel_rfl) rfl rfl (mp_ rfl) ?_
    refine (blazonref25_Add.calls k209 a0 A228 cp229 t220 a4_0 a4_1 a4_2 t259  (fun z_ => pal [(0, 0), (13, 0)] (C254_ z_)) w253 (fun _ => pal_lt rfl _) (Ft.arg (HO230.ft) rfl) HC231 A260).mono ?_
    rintro _ w262 ⟨C263, rfl, hs264⟩
    refine ⟨_, rfl, ?_⟩
    replace hs264 := Step.lift (U := [(0, 0)]) hs264 [] rfl rfl
    generalize up C254_ C263 w253.heap.size [(0, 0)] = C263_ at hs264
    replace HJ206 := HJ206.thru hs264 rfl
    replace HM256 := HM256.thru hs264 rfl
    replace HS203 := HS203.trans hs264 hc rfl
    (try simp only [Act.put, List.setIfInBounds_toArray, ls0, ls1])
    refine st (.bool (!decide (t249 = t259))) rfl rfl (xr_bin _ _ _ rfl rfl rfl (B.neq_i64 _ _)) ?_
    refine wl_end ?_
    (try simp only [ls0, ls1])
    refine hK258 _ _ ?_
    (try clear hK258 K258)
    by_cases c265 : t249 = t259
    ·rw [if_pos c265] at H
     (try rw [(decide_eq_true c265)])
     (try simp only [Bool.not_true, Bool.not_false])
     refine wp_cond_false rfl ?_
     refine wp_skip ?_
     (try simp only [ls0, ls1])
     refine hK257 _ _ ?_
     (try clear hK257 K257)
     refine wp_seq_k fun K266 hK266 => ?_
     refine wl_region ?_
     refine mv_ rfl ?_
     refine mv_ rfl ?_
     refine mv_ rfl ?_
     obtain ⟨⟨t267, t268, t269⟩, A270, H⟩ := bnd H
     (try dsimp only at H)
     refine st_call #[.pointer (some ⟨g236, 0, none⟩), .int .i64 a2, .int .i64 a3] rfl rfl Try.func17 (by kernel_rfl) rfl rfl (mp_ rfl) ?_
     refine (maxflow_Net_Max.calls k209 (.pointer (some ⟨g236, 0, none⟩)) t250 a2 a3 t267 t268 t269  (fun z_ => pal [(0, 0), (12, 1)] (C263_ z_)) w262 (fun _ => pal_lt rfl _) (Ft.arg HM256 rfl) A270).mono ?_
     rintro _ w272 ⟨C273, rfl, hs274, HM275⟩
     refine ⟨_, rfl, ?_⟩
     replace HM275 := Ft.res (U := [(0, 0), (1, 12)]) HM275 hs274 [12] rfl rfl rfl
     replace hs274 := Step.lift (U := [(0, 0), (1, 12)]) hs274 [12] rfl rfl
     generalize up C263_ C273 w262.heap.size [(0, 0), (1, 12)] = C273_ at HM275 hs274
     replace HJ206 := HJ206.thru hs274 rfl
     replace HS203 := HS203.trans hs274 hc rfl
     (try simp only [Act.put, List.setIfInBounds_toArray, ls0, ls1])
     refine mv_ rfl ?_
     refine st (.int .i64 t267) rfl rfl (xr_extract (.tuple #[.int .i64 t267, .int .i64 t268]) _ rfl rfl rfl) ?_
     refine st (.int .i64 t268) rfl rfl (xr_extract (.tuple #[.int .i64 t267, .int .i64 t268]) _ rfl rfl rfl) ?_
     refine as_ rfl ?_
     simp only [ls0, ls1]
     refine as_ rfl ?_
     refine wl_end ?_
     (try simp only [ls0, ls1])
     refine hK266 _ _ ?_
     (try clear hK266 K266)
     refine wp_seq_k fun K276 hK276 => ?_
     refine wp_seq_k fun K299 hK299 => ?_
     have hj302 : ∀ (kq308 : Nat) (C303 : Nat → Nat) (w304 : World) (x306 : Bool) (g_ : Nat → Value), Step c w C303 w304 [] → kq308 ≤ k209 → (Bx C303 11 w304 g168 35 ([.int .i64 a4_0, .int .i64 a4_1, .int .i64 a4_2])) → blazonlaw25_MaxflowMore.j0 kq308 a4_2 t238 t267 x306 = some r → K299 ⟨#[(g_ 0), (g_ 1), (g_ 2), (g_ 3), (g_ 4), (g_ 5), (g_ 6), (g_ 7), (g_ 8), .pointer (some ⟨g168, 0, none⟩), (g_ 10), (g_ 11), (g_ 12), .int .i64 t238, (g_ 14), (g_ 15), (g_ 16), .int .i64 t267, (g_ 18), (g_ 19), (g_ 20), (g_ 21), (g_ 22), (g_ 23), (g_ 24), (g_ 25), (g_ 26), (g_ 27), (g_ 28), (g_ 29), (g_ 30), (g_ 31), (g_ 32), (g_ 33), (g_ 34), (g_ 35), (g_ 36), (g_ 37), (g_ 38), (g_ 39), (g_ 40), (g_ 41), (g_ 42), (g_ 43), (g_ 44), (g_ 45), (g_ 46), (g_ 47), (g_ 48), (g_ 49), (g_ 50), (g_ 51), (g_ 52), (g_ 53), (g_ 54), (g_ 55), (g_ 56), (g_ 57), (g_ 58), (g_ 59), (g_ 60), (g_ 61), (g_ 62), (g_ 63), (g_ 64), (g_ 65), (g_ 66), (g_ 67), (g_ 68), (g_ 69), (g_ 70), (g_ 71), (g_ 72), (g_ 73), (g_ 74), (g_ 75), (g_ 76), (g_ 77), (g_ 78), .bool x306, (g_ 80), (g_ 81), (g_ 82), (g_ 83), (g_ 84), (g_ 85), (g_ 86), (g_ 87), (g_ 88), (g_ 89), (g_ 90), (g_ 91), (g_ 92), (g_ 93), (g_ 94)], []⟩ w304 := by
      intro kq308 C303 w304 x306 g_ HS305 hk309 HJ307 H
      cases kq308 with
      | zero => exact absurd H (by simp [blazonlaw25_MaxflowMore.j0])
      | succ k310 =>
       simp only [blazonlaw25_MaxflowMore.j0] at H
       refine hK299 _ _ ?_
       (try clear hK299)
       by_cases c311 : x306 = true
       ·rw [if_pos c311] at H
        (try rw [c311])
        refine wp_cond_true rfl ?_
        refine wp_seq_k fun K312 hK312 => ?_
        refine wl_region ?_
        obtain ⟨t313, A314, H⟩ := bnd H
        refine st_call #[] rfl rfl Try.func14 (by kernel_rfl) rfl rfl (mp_ rfl) ?_
        refine (blazonlaw25_awake.calls k310 t313  (fun z_ => pal [(0, 0)] (C303 z_)) w304 (fun _ => pal_lt rfl _) A314).mono ?_
        rintro _ w316 ⟨C317, rfl, hs318⟩
        refine ⟨_, rfl, ?_⟩
        replace hs318 := Step.lift (U := [(0, 0)]) hs318 [] rfl rfl
        generalize up C303 C317 w304.heap.size [(0, 0)] = C317_ at hs318
        replace HJ307 := HJ307.thru hs318 rfl
        replace HS305 := HS305.trans hs318 hc rfl
        (try simp only [Act.put, List.setIfInBounds_toArray, ls0, ls1])
        refine as_ rfl ?_
        refine wl_end ?_
        (try simp only [ls0, ls1])
        refine hK312 _ _ ?_
        (try clear hK312 K312)
        refine wp_ret ?_
        (try simp only [Exit.inBlock, Exit.then, Exit.noGoto])
        (try simp only [ls0, ls1])
        obtain rfl := Option.some.inj H
        refine bodyPost_ret (results_tmp rfl _ _ _) rfl ?_
        exact ⟨_, rfl, HS305⟩
       rw [if_neg c311] at H
       (try rw [(Bool.eq_false_iff.mpr c311)])
       refine wp_cond_false rfl ?_
       refine wp_skip ?_
       (try simp only [ls0, ls1])
       refine hK276 _ _ ?_
       (try clear hK276 K276)
       refine wp_seq_k fun K319 hK319 => ?_
       refine wl_region ?_
       refine mv_ rfl ?_
       refine mv_ rfl ?_
       refine st (.bool (decide (t267 ≥ t238))) rfl rfl (xr_bin _ _ _ rfl rfl rfl (B.geq_i64 _ _)) ?_
       refine mv_ rfl ?_
       simp only [ls0, ls1]
       by_cases c320 : t267 ≥ t238
       ·rw [if_pos c320] at H
        (try rw [(decide_eq_true c320)])
        refine on_guard (guard_on 3 true 84 rfl rfl rfl) ?_
        refine mv_ rfl ?_
        refine on_guard (guard_on 3 true 84 rfl rfl rfl) ?_
        refine mv_ rfl ?_
        refine on_guard (guard_on 3 true 84 rfl rfl rfl) ?_
        refine st (.int .i64 (wrap64 (t267 - t238))) rfl rfl (xr_bin _ _ _ rfl rfl rfl (B.sub_i64 _ _)) ?_
        refine on_guard (guard_on 3 true 84 rfl rfl rfl) ?_
        refine st (.pointer (some ⟨g168, 2, none⟩)) rfl rfl (xr_fieldAddr _ _ rfl rfl (bx_field2 Try.underlying35 rfl rfl (by kernel_rfl))) ?_
        simp only [ls0, ls1]
        refine on_guard (guard_on 3 true 84 rfl rfl rfl) ?_
        refine st (.int .i64 a4_2) rfl rfl (xr_load _ _ rfl rfl (load_cell Try.underlying2 rfl (bx_cell (HJ307).2 2 rfl))) ?_
        refine on_guard (guard_on 3 true 84 rfl rfl rfl) ?_
        refine st (.bool (decide ((wrap64 (t267 - t238)) ≤ a4_2))) rfl rfl (xr_bin _ _ _ rfl rfl rfl (B.leq_i64 _ _)) ?_
        refine st (.bool (decide ((wrap64 (t267 - t238)) ≤ a4_2))) rfl rfl (xr_pick true _ rfl rfl rfl) ?_
        refine mv_ rfl ?_
        simp only [ls0, ls1]
        by_cases c321 : (wrap64 (t267 - t238)) ≤ a4_2
        ·rw [if_pos c321] at H
         (try rw [(decide_eq_true c321)])
         refine on_guard (guard_on 11 true 92 rfl rfl rfl) ?_
         obtain ⟨t322, A323, H⟩ := bnd H
         refine st_call #[] rfl rfl Try.func14 (by kernel_rfl) rfl rfl (mp_ rfl) ?_
         refine (blazonlaw25_awake.calls k310 t322  (fun z_ => pal [(0, 0)] (C303 z_)) w304 (fun _ => pal_lt rfl _) A323).mono ?_
         rintro _ w325 ⟨C326, rfl, hs327⟩
         refine ⟨_, rfl, ?_⟩
         replace hs327 := Step.lift (U := [(0, 0)]) hs327 [] rfl rfl
         generalize up C303 C326 w304.heap.size [(0, 0)] = C326_ at hs327
         replace HJ307 := HJ307.thru hs327 rfl
         replace HS305 := HS305.trans hs327 hc rfl
         (try simp only [Act.put, List.setIfInBounds_toArray, ls0, ls1])
         refine st (.bool t322) rfl rfl (xr_pick true _ rfl rfl rfl) ?_
         refine as_ rfl ?_
         refine wl_end ?_
         (try simp only [ls0, ls1])
         refine hK319 _ _ ?_
         (try clear hK319 K319)
         refine wp_ret ?_
         (try simp only [Exit.inBlock, Exit.then, Exit.noGoto])
         (try simp only [ls0, ls1])
         obtain rfl := Option.some.inj H
         refine bodyPost_ret (results_tmp rfl _ _ _) rfl ?_
         exact ⟨_, rfl, HS305⟩
        rw [if_neg c321] at H
        (try rw [(decide_eq_false c321)])
        refine sk_guard (guard_off 11 true 92 rfl rfl false (by decide) rfl) rfl ?_
        refine st (.bool false) rfl rfl (xr_pick false _ rfl rfl rfl) ?_
        refine as_ rfl ?_
        refine wl_end ?_
        (try simp only [ls0, ls1])
        refine hK319 _ _ ?_
        (try clear hK319 K319)
        refine wp_ret ?_
        (try simp only [Exit.inBlock, Exit.then, Exit.noGoto])
        (try simp only [ls0, ls1])
        obtain rfl := Option.some.inj H
        refine bodyPost_ret (results_tmp rfl _ _ _) rfl ?_
        exact ⟨_, rfl, HS305⟩
       rw [if_neg c320] at H
       (try rw [(decide_eq_false c320)])
       refine sk_guard (guard_off 3 true 84 rfl rfl false (by decide) rfl) rfl ?_
       refine sk_guard (guard_off 3 true 84 rfl rfl false (by decide) rfl) rfl ?_
       refine sk_guard (guard_off 3 true 84 rfl rfl false (by decide) rfl) rfl ?_
       refine sk_guard (guard_off 3 true 84 rfl rfl false (by decide) rfl) rfl ?_
       simp only [ls0, ls1]
       refine sk_guard (guard_off 3 true 84 rfl rfl false (by decide) rfl) rfl ?_
       refine sk_guard (guard_off 3 true 84 rfl rfl false (by decide) rfl) rfl ?_
       refine st (.bool false) rfl rfl (xr_pick false _ rfl rfl rfl) ?_
       refine mv_ rfl ?_
       simp only [ls0, ls1]
       refine sk_guard (guard_off 11 true 92 rfl rfl false (by decide) rfl) rfl ?_
       refine st (.bool false) rfl rfl (xr_pick false _ rfl rfl rfl) ?_
       refine as_ rfl ?_
       refine wl_end ?_
       (try simp only [ls0, ls1])
       refine hK319 _ _ ?_
       (try clear hK319 K319)
       refine wp_ret ?_
       (try simp only [Exit.inBlock, Exit.then, Exit.noGoto])
       (try simp only [ls0, ls1])
       obtain rfl := Option.some.inj H
       refine bodyPost_ret (results_tmp rfl _ _ _) rfl ?_
       exact ⟨_, rfl, HS305⟩
     refine wl_region ?_
     refine mv_ rfl ?_
     refine st (.bool (!decide (t239 = 0))) rfl rfl (xr_bin _ _ _ rfl rfl rfl (B.neq_i64 _ _)) ?_
     refine mv_ rfl ?_
     by_cases c328 : t239 = 0
     ·rw [if_pos c328] at H
      (try rw [(decide_eq_true c328)])
      (try simp only [Bool.not_true, Bool.not_false])
      refine on_guard (guard_on 2 false 72 rfl rfl rfl) ?_
      refine mv_ rfl ?_
      simp only [ls0, ls1]
      refine on_guard (guard_on 2 false 72 rfl rfl rfl) ?_
      refine st (.bool (!decide (t249 = 0))) rfl rfl (xr_bin _ _ _ rfl rfl rfl (B.neq_i64 _ _)) ?_
      refine st (.bool (!decide (t249 = 0))) rfl rfl (xr_pick false _ rfl rfl rfl) ?_
      refine mv_ rfl ?_
      by_cases c329 : t249 = 0
      ·rw [if_pos c329] at H
       (try rw [(decide_eq_true c329)])
       (try simp only [Bool.not_true, Bool.not_false])
       refine on_guard (guard_on 6 false 76 rfl rfl rfl) ?_
       refine mv_ rfl ?_
       simp only [ls0, ls1]
       refine on_guard (guard_on 6 false 76 rfl rfl rfl) ?_
       refine st (.bool (!decide (t268 = 0))) rfl rfl (xr_bin _ _ _ rfl rfl rfl (B.neq_i64 _ _)) ?_
       refine st (.bool (!decide (t268 = 0))) rfl rfl (xr_pick false _ rfl rfl rfl) ?_
       refine wl_end ?_
       (try simp only [ls0, ls1])
       exact jmp (fun g_ => hj302 _ _ _ (!decide (t268 = 0)) g_ HS203 (by omega) HJ206 H) rfl
      rw [if_neg c329] at H
      (try rw [(decide_eq_false c329)])
      (try simp only [Bool.not_true, Bool.not_false])
      refine sk_guard (guard_off 6 false 76 rfl rfl true (by decide) rfl) rfl ?_
      refine sk_guard (guard_off 6 false 76 rfl rfl true (by decide) rfl) rfl ?_
      refine st (.bool true) rfl rfl (xr_pick true _ rfl rfl rfl) ?_
      refine wl_end ?_
      (try simp only [ls0, ls1])
      exact jmp (fun g_ => hj302 _ _ _ (true) g_ HS203 (by omega) HJ206 H) rfl
     rw [if_neg c328] at H
     (try rw [(decide_eq_false c328)])
     (try simp only [Bool.not_true, Bool.not_false])
     refine sk_guard (guard_off 2 false 72 rfl rfl true (by decide) rfl) rfl ?_
     refine sk_guard (guard_off 2 false 72 rfl rfl true (by decide) rfl) rfl ?_
     refine st (.bool true) rfl rfl (xr_pick true _ rfl rfl rfl) ?_
     refine mv_ rfl ?_
     simp only [ls0, ls1]
     refine sk_guard (guard_off 6 false 76 rfl rfl true (by decide) rfl) rfl ?_
     refine sk_guard (guard_off 6 false 76 rfl rfl true (by decide) rfl) rfl ?_
     refine st (.bool true) rfl rfl (xr_pick true _ rfl rfl rfl) ?_
     refine wl_end ?_
     (try simp only [ls0, ls1])
     exact jmp (fun g_ => hj302 _ _ _ (true) g_ HS203 (by omega) HJ206 H) rfl
    rw [if_neg c265] at H
    (try rw [(decide_eq_false c265)])
    (try simp only [Bool.not_true, Bool.not_false])
    refine wp_cond_true rfl ?_
    refine wp_seq_k fun K330 hK330 => ?_
    refine wl_region ?_
    refine st (.bool false) rfl rfl (xr_assign _ rfl rfl) ?_
    refine wl_end ?_
    (try simp only [ls0, ls1])
    refine hK330 _ _ ?_
    (try clear hK330 K330)
    refine wp_ret ?_
    (try simp only [Exit.inBlock, Exit.then, Exit.noGoto])
    (try simp only [ls0, ls1])
    obtain rfl := Option.some.inj H
    refine bodyPost_ret (results_tmp rfl _ _ _) rfl ?_
    exact ⟨_, rfl, HS203⟩
 refine wl_region ?_
 refine mv_ rfl ?_
 refine st (.bool (decide (a0 < 1))) rfl rfl (xr_bin _ _ _ rfl rfl rfl (B.lss_i64 _ _)) ?_
 refine mv_ rfl ?_
 by_cases c331 : a0 < 1
 ·rw [if_pos c331] at H
  (try rw [(decide_eq_true c331)])
  refine sk_guard (guard_off 2 false 21 rfl rfl true (by decide) rfl) rfl ?_
  simp only [ls0, ls1]
  refine sk_guard (guard_off 2 false 21 rfl rfl true (by decide) rfl) rfl ?_
  refine st (.bool true) rfl rfl (xr_pick true _ rfl rfl rfl) ?_
  refine mv_ rfl ?_
  refine sk_guard (guard_off 6 false 25 rfl rfl true (by decide) rfl) rfl ?_
  simp only [ls0, ls1]
  refine sk_guard (guard_off 6 false 25 rfl rfl true (by decide) rfl) rfl ?_
  refine sk_guard (guard_off 6 false 25 rfl rfl true (by decide) rfl) rfl ?_
  refine st (.bool true) rfl rfl (xr_pick true _ rfl rfl rfl) ?_
  refine wl_end ?_
  (try simp only [ls0, ls1])
  exact jmp (fun g_ => hj200 _ _ _ (true) g_ HS (by omega) HP1 HX171 H) rfl
 rw [if_neg c331] at H
 (try rw [(decide_eq_false c331)])
 refine on_guard (guard_on 2 false 21 rfl rfl rfl) ?_
 refine mv_ rfl ?_
 refine on_guard (guard_on 2 false 21 rfl rfl rfl) ?_
 refine st (.bool (decide (a0 > 60))) rfl rfl (xr_bin _ _ _ rfl rfl rfl (B.gtr_i64 _ _)) ?_
 refine st (.bool (decide (a0 > 60))) rfl rfl (xr_pick false _ rfl rfl rfl) ?_
 refine mv_ rfl ?_
 simp only [ls0, ls1]
 by_cases c332 : a0 > 60
 ·rw [if_pos c332] at H
  (try rw [(decide_eq_true c332)])
  refine sk_guard (guard_off 6 false 25 rfl rfl true (by decide) rfl) rfl ?_
  refine sk_guard (guard_off 6 false 25 rfl rfl true (by decide) rfl) rfl ?_
  refine sk_guard (guard_off 6 false 25 rfl rfl true (by decide) rfl) rfl ?_
  refine st (.bool true) rfl rfl (xr_pick true _ rfl rfl rfl) ?_
  simp only [ls0, ls1]
  refine wl_end ?_
  (try simp only [ls0, ls1])
  exact jmp (fun g_ => hj200 _ _ _ (true) g_ HS (by omega) HP1 HX171 H) rfl
 rw [if_neg c332] at H
 (try rw [(decide_eq_false c332)])
 refine on_guard (guard_on 6 false 25 rfl rfl rfl) ?_
 refine mv_ rfl ?_
 refine on_guard (guard_on 6 false 25 rfl rfl rfl) ?_
 refine st (.int .i64 (l1.length : Int)) rfl rfl (xr_builtin #[.slice A1 l1.length c1] (.int .i64 (l1.length : Int)) rfl (mp_ rfl) (by first | rfl | (go_simp; done) | (go_simp; rfl) | (go_simp; exact i64_w _) | (go_simp; exact i32_w _))) ?_
 refine on_guard (guard_on 6 false 25 rfl rfl rfl) ?_
 refine st (.bool (decide ((l1.length : Int) > 200))) rfl rfl (xr_bin _ _ _ rfl rfl rfl (B.gtr_i64 _ _)) ?_
 refine st (.bool (decide ((l1.length : Int) > 200))) rfl rfl (xr_pick false _ rfl rfl rfl) ?_
 simp only [ls0, ls1]
 refine wl_end ?_
 (try simp only [ls0, ls1])
 exact jmp (fun g_ => hj200 _ _ _ (decide ((l1.length : Int) > 200)) g_ HS (by omega) HP1 HX171 H) rfl
/-- THE ONE PURE STATEMENT of blazonlaw25_MaxflowMore. -/
def blazonlaw25_MaxflowMore.Pure : Prop := ∀ (a0 : Int) (l1 : List (S35)) (a2 : Int) (a3 : Int) (a4_0 : Int) (a4_1 : Int) (a4_2 : Int), (Lit.int .i64 a0).wf = true → l1.length ≤ maxLen → l1.length * 24 ≤ 140737488351232 → (∀ x_ ∈ l1, Ok35 x_) → (Lit.int .i64 a2).wf = true → (Lit.int .i64 a3).wf = true → (Lit.int .i64 a4_0).wf = true → (Lit.int .i64 a4_1).wf = true → (Lit.int .i64 a4_2).wf = true → ∃ k, blazonlaw25_MaxflowMore.f k a0 l1 a2 a3 a4_0 a4_1 a4_2 = some true

end Go.Proofs.Ytdkbmchbkkhpoaa.PMmo
