-- By cprint.py, a program of this work. Lean checks it.
import Derived.Test.YteoccoklbmjiaaaPExlx0
import Derived.Test.YteoccoklbmjiaaaPExlx7
namespace Go.Proofs.Yteoccoklbmjiaaa.PExl
open Go.RowKit Go.Proofs.YteoccoklbmjiaaaW.PrintWords Go.Proofs.YteoccoklbmjiaaaW.PrintLast Go.Proofs.YteoccoklbmjiaaaW.PrintMore
set_option linter.unusedVariables false
set_option linter.unusedSimpArgs false

/-! ### blazonlaw08_later: function 38 -/
def blazonlaw08_later.l0 (r_ : Rec_blazonlaw08_later) : Nat → Int → Int → Int → ByteArray → ByteArray → (List (S44)) → (List (S44)) → Int → Option (Int × Int × Int × ByteArray × ByteArray × (List (S44)))
  | 0, _, _, _, _, _, _, _, _ => none
  | k + 1, a0_0, a0_1, a0_2, a0_3, a0_4, l0_5, x265, x271 => if x271 < (l0_5.length : Int) then (if 0 ≤ x271 then ((r_.blazonlaw08_later ((rd_T44 l0_5 x271).f0) ((rd_T44 l0_5 x271).f1) ((rd_T44 l0_5 x271).f2) ((rd_T44 l0_5 x271).f3) ((rd_T44 l0_5 x271).f4) ((rd_T44 l0_5 x271).f5)).bind fun bt293 => (if x265.length < 1759218604441 then ((some (x265 ++ [(⟨bt293.1, bt293.2.1, bt293.2.2.1, bt293.2.2.2.1, bt293.2.2.2.2.1, bt293.2.2.2.2.2⟩ : S44)] : List (S44))).bind fun y310 => (blazonlaw08_later.l0 r_ k a0_0 a0_1 a0_2 a0_3 a0_4 l0_5 y310 (wrap64 (x271 + 1)))) else (none))) else (none)) else (some (a0_0, wrap64 (a0_1 + 1), a0_2, a0_3, a0_4, x265))
def blazonlaw08_later.g (r_ : Rec_blazonlaw08_later) (k : Nat) (a0_0 : Int) (a0_1 : Int) (a0_2 : Int) (a0_3 : ByteArray) (a0_4 : ByteArray) (l0_5 : List (S44)) : Option (Int × Int × Int × ByteArray × ByteArray × (List (S44))) := blazonlaw08_later.l0 r_ k a0_0 a0_1 a0_2 a0_3 a0_4 l0_5 ([] : List (S44)) 0

set_option maxHeartbeats 8000000 in
set_option maxRecDepth 100000 in
theorem blazonlaw08_later.step (r_ : Rec_blazonlaw08_later) (IH : Rec_blazonlaw08_later.Good r_) (k : Nat) (a0_0 : Int) (a0_1 : Int) (a0_2 : Int) (a0_3 : ByteArray) (a0_4 : ByteArray) (A0_5 : Option Addr) (c0_5 : Nat) (l0_5 : List (S44)) (r1 : Int) (r2 : Int) (r3 : Int) (r4 : ByteArray) (r5 : ByteArray) (r6 : List (S44)) (c : Nat → Nat) (w : World) (hc : ∀ k, c k < 10) (HP0_5 : Ft c [0] w (fun w_ => k44.C w_ A0_5 l0_5.length l0_5)) (HCP0_5 : l0_5.length ≤ c0_5) (H : blazonlaw08_later.g r_ k a0_0 a0_1 a0_2 a0_3 a0_4 l0_5 = some (r1, r2, r3, r4, r5, r6)) :
    Calls Try.prog 38 #[.agg #[.int .i64 a0_0, .int .i64 a0_1, .int .i64 a0_2, .string a0_3, .string a0_4, .slice A0_5 l0_5.length c0_5]] w fun e w' => ∃ (c' : Nat → Nat) (A_r6 : Option Addr) (c_r6 : Nat), e = .returned (.agg #[.int .i64 r1, .int .i64 r2, .int .i64 r3, .string r4, .string r5, .slice A_r6 r6.length c_r6]) ∧ Step c w c' w' [] ∧ Own c' 5 w' k44 44 (.slice A_r6 r6.length c_r6) r6 ∧ r6.length ≤ c_r6 := by
 unfold blazonlaw08_later.g at H
 have HS := Step.refl c w []
 go_enter Try.func38, Try.ntmps38
 refine wp_seq_k fun K164 hK164 => ?_
 refine wl_region ?_
 refine bx_new (C := c) 44 ([.int .i64 a0_0, .int .i64 a0_1, .int .i64 a0_2, .string a0_3, .string a0_4, .slice A0_5 l0_5.length c0_5]) 11 rfl rfl (by first | (go_simp; done) | (go_simp; rfl)) ?_
 intro g165 w166 C167 HX168 hs169
 replace HP0_5 := HP0_5.thru hs169 rfl
 replace HS := HS.trans hs169 hc rfl
 (try simp only [ls0, ls1])
 refine bx_new (C := C167) 44 ([.int .i64 0, .int .i64 0, .int .i64 0, .string (⟨#[]⟩ : ByteArray), .string (⟨#[]⟩ : ByteArray), .slice none 0 0]) 12 rfl rfl (by first | (go_simp; done) | (go_simp; rfl)) ?_
 intro g170 w171 C172 HX173 hs174
 replace HP0_5 := HP0_5.thru hs174 rfl
 replace HX168 := HX168.thru hs174 rfl
 replace HS := HS.trans hs174 hc rfl
 (try simp only [ls0, ls1])
 refine wl_end ?_
 (try simp only [ls0, ls1])
 refine hK164 _ _ ?_
 (try clear hK164 K164)
 refine wp_seq_k fun K175 hK175 => ?_
 refine wl_region ?_
 refine st (.pointer (some ⟨g165, 1, none⟩)) rfl rfl (xr_fieldAddr _ _ rfl rfl (bx_field2 Try.underlying44 rfl rfl (by kernel_rfl))) ?_
 refine st (.int .i64 a0_1) rfl rfl (xr_load _ _ rfl rfl (load_cell Try.underlying3 rfl (bx_cell (HX168).2 1 rfl))) ?_
 refine st (.int .i64 (wrap64 (a0_1 + 1))) rfl rfl (xr_bin _ _ _ rfl rfl rfl (B.add_i64 _ _)) ?_
 refine st (.pointer (some ⟨g165, 1, none⟩)) rfl rfl (xr_fieldAddr _ _ rfl rfl (bx_field2 Try.underlying44 rfl rfl (by kernel_rfl))) ?_
 simp only [ls0, ls1]
 refine bx_store (C := C172) (z := 11) (g := g165) (j := 1) (tb := 44) (u := .int .i64 (wrap64 (a0_1 + 1))) (seg := [.int .i64 (wrap64 (a0_1 + 1))]) (xs := [.int .i64 a0_0, .int .i64 a0_1, .int .i64 a0_2, .string a0_3, .string a0_4, .slice A0_5 l0_5.length c0_5]) rfl rfl rfl rfl rfl rfl (by first | kernel_rfl | rfl) (by simp [Value.oneCell']) HX168 (by simp only [List.length_cons, List.length_nil]; omega) rfl ?_
 intro w176 HX177 hs178
 replace HP0_5 := HP0_5.thru hs178 rfl
 replace HX173 := HX173.thru hs178 rfl
 replace HS := HS.trans hs178 hc rfl
 (try simp only [ls0, ls1])
 refine wl_end ?_
 (try simp only [ls0, ls1])
 refine hK175 _ _ ?_
 (try clear hK175 K175)
 refine wp_seq_k fun K179 hK179 => ?_
 refine wl_region ?_
 refine st (.slice none 0 0) rfl rfl (xr_assign _ rfl rfl) ?_
 refine wl_end ?_
 (try simp only [ls0, ls1])
 refine hK179 _ _ ?_
 (try clear hK179 K179)
 refine wp_seq_k fun K180 hK180 => ?_
 refine wp_seq_k fun K181 hK181 => ?_
 refine wl_region ?_
 refine st (.int .i64 0) rfl rfl (xr_assign _ rfl rfl) ?_
 refine wl_end ?_
 (try simp only [ls0, ls1])
 refine hK181 _ _ ?_
 (try clear hK181 K181)
 refine wp_block ?_
 (try simp only [ls0, ls1])
 refine wp_looped (looped_fin (fun kq277 a_ w276 => ∃ (C275 : Nat → Nat) (x271 : Int) (A266 : Option Addr) (n267 cp268 : Nat) (x265 : List (S44)) (g_ : Nat → Value), a_ = ⟨#[(g_ 0), .pointer (some ⟨g165, 0, none⟩), .pointer (some ⟨g170, 0, none⟩), .slice A266 n267 cp268, .int .i64 x271, (g_ 5), (g_ 6), (g_ 7), (g_ 8), (g_ 9), (g_ 10), (g_ 11), (g_ 12), (g_ 13), (g_ 14), (g_ 15), (g_ 16), (g_ 17), (g_ 18), (g_ 19), (g_ 20), (g_ 21), (g_ 22), (g_ 23), (g_ 24), (g_ 25), (g_ 26), (g_ 27)], []⟩ ∧ Step c w C275 w276 [] ∧ kq277 ≤ k ∧ (Own C275 13 w276 k44 44 (.slice A266 n267 cp268) x265) ∧ (n267 ≤ cp268) ∧ (Ft C275 [0] w276 (fun w_ => k44.C w_ A0_5 l0_5.length l0_5)) ∧ (Bx C275 11 w276 g165 44 ([.int .i64 a0_0, .int .i64 (wrap64 (a0_1 + 1)), .int .i64 a0_2, .string a0_3, .string a0_4, .slice A0_5 l0_5.length c0_5])) ∧ (Bx C275 12 w276 g170 44 ([.int .i64 0, .int .i64 0, .int .i64 0, .string (⟨#[]⟩ : ByteArray), .string (⟨#[]⟩ : ByteArray), .slice none 0 0])) ∧ blazonlaw08_later.l0 r_ kq277 a0_0 a0_1 a0_2 a0_3 a0_4 l0_5 x265 x271 = some (r1, r2, r3, r4, r5, r6)) ?step fun hL_ => ?init)
 case init =>
  exact jmpL (fun a_ h_ => hL_ k a_ _ h_) (fun g_ => ⟨_, 0, none, 0, 0, ([] : List (S44)), g_, rfl, HS, Nat.le_refl _, (Own.nil _ _ _ _ _), (Nat.le_refl 0), HP0_5, HX177, HX173, H⟩) rfl
 case step =>
  intro kq277 ih280 a281 w276 hr282
  obtain ⟨C275, x271, A266, n267, cp268, x265, g_, rfl, HS278, hk279, HJ270, HC269, HJ272, HJ273, HJ274, H⟩ := hr282
  refine looped_round ?_
  obtain rfl : n267 = x265.length := HJ270.at_.1
  cases kq277 with
  | zero => exact absurd H (by simp [blazonlaw08_later.l0])
  | succ k283 =>
   simp only [blazonlaw08_later.l0] at H
   refine wp_seq_k fun K284 hK284 => ?_
   refine wp_seq_k fun K285 hK285 => ?_
   refine wl_region ?_
   refine mv_ rfl ?_
   refine st (.pointer (some ⟨g165, 5, none⟩)) rfl rfl (xr_fieldAddr _ _ rfl rfl (bx_field2 Try.underlying44 rfl rfl (by kernel_rfl))) ?_
   refine st (.slice A0_5 l0_5.length c0_5) rfl rfl (xr_load _ _ rfl rfl (load_cell Try.underlying42 rfl (bx_cell (HJ273).2 5 rfl))) ?_
   refine st (.int .i64 (l0_5.length : Int)) rfl rfl (xr_builtin #[.slice A0_5 l0_5.length c0_5] (.int .i64 (l0_5.length : Int)) rfl (mp_ rfl) (by first | rfl | (go_simp; done) | (go_simp; rfl) | (go_simp; exact i64_w _) | (go_simp; exact i32_w _))) ?_
   simp only [ls0, ls1]
   refine st (.bool (decide (x271 < (l0_5.length : Int)))) rfl rfl (xr_bin _ _ _ rfl rfl rfl (B.lss_i64 _ _)) ?_
   refine wl_end ?_
   (try simp only [ls0, ls1])
   refine hK285 _ _ ?_
   (try clear hK285 K285)
   by_cases c286 : x271 < (l0_5.length : Int)
   ·rw [if_pos c286] at H
    (try rw [(decide_eq_true c286)])
    refine wp_cond_true rfl ?_
    refine wp_skip ?_
    (try simp only [ls0, ls1])
    refine hK284 _ _ ?_
    (try clear hK284 K284)
    refine wp_seq_k fun K287 hK287 => ?_
    refine wp_block ?_
    refine wl_region ?_
    refine mv_ rfl ?_
    refine st (.pointer (some ⟨g165, 5, none⟩)) rfl rfl (xr_fieldAddr _ _ rfl rfl (bx_field2 Try.underlying44 rfl rfl (by kernel_rfl))) ?_
    refine st (.slice A0_5 l0_5.length c0_5) rfl rfl (xr_load _ _ rfl rfl (load_cell Try.underlying42 rfl (bx_cell (HJ273).2 5 rfl))) ?_
    refine mv_ rfl ?_
    simp only [ls0, ls1]
    obtain ⟨c288, H⟩ := if_some H
    obtain ⟨ad289, hA290⟩ := c_addr (Ft.now HJ272) (pos_of (j := x271) (by first | assumption | decide) (by first | assumption | omega))
    refine st (.pointer (some (ad289.add ((x271 : Int).toNat * 6)))) rfl rfl (xr_indexAddr _ _ _ rfl rfl rfl (index_at Try.underlying42 info44 hA290 (by first | assumption | decide | omega) (by first | assumption | decide | omega))) ?_
    obtain ⟨csq292, _, hKq292, hcq292, hinq292⟩ := Ft.elem HJ272 hA290 z44 x271 (by first | assumption | decide | omega) (by first | assumption | decide | omega) (by decide)
    obtain ⟨Aq292_5, cpq292_5, rfl, HCq292_5, HRq292_5⟩ := k44_openF hKq292
    replace HRq292_5 : Ft C275 [0] w276 (fun w_ => k44.C w_ Aq292_5 (rd_T44 l0_5 x271).f5.length (rd_T44 l0_5 x271).f5) := HRq292_5
    refine st (.agg #[.int .i64 ((rd_T44 l0_5 x271).f0), .int .i64 ((rd_T44 l0_5 x271).f1), .int .i64 ((rd_T44 l0_5 x271).f2), .string ((rd_T44 l0_5 x271).f3), .string ((rd_T44 l0_5 x271).f4), .slice Aq292_5 (rd_T44 l0_5 x271).f5.length cpq292_5]) rfl rfl (xr_load (.pointer (some (ad289.add ((x271 : Int).toNat * 6)))) (.agg #[.int .i64 ((rd_T44 l0_5 x271).f0), .int .i64 ((rd_T44 l0_5 x271).f1), .int .i64 ((rd_T44 l0_5 x271).f2), .string ((rd_T44 l0_5 x271).f3), .string ((rd_T44 l0_5 x271).f4), .slice Aq292_5 (rd_T44 l0_5 x271).f5.length cpq292_5]) rfl rfl (load_agg (cs := [.int .i64 ((rd_T44 l0_5 x271).f0), .int .i64 ((rd_T44 l0_5 x271).f1), .int .i64 ((rd_T44 l0_5 x271).f2), .string ((rd_T44 l0_5 x271).f3), .string ((rd_T44 l0_5 x271).f4), .slice Aq292_5 (rd_T44 l0_5 x271).f5.length cpq292_5]) Try.underlying44 rfl (by kernel_rfl) (fun j_ u_ hu_ => by exact hcq292 j_ u_ hu_))) ?_
    obtain ⟨⟨t293, t294, t295, t296, t297, t298⟩, A299, H⟩ := bnd H
    (try dsimp only at H)
    refine st_call #[.agg #[.int .i64 ((rd_T44 l0_5 x271).f0), .int .i64 ((rd_T44 l0_5 x271).f1), .int .i64 ((rd_T44 l0_5 x271).f2), .string ((rd_T44 l0_5 x271).f3), .string ((rd_T44 l0_5 x271).f4), .slice Aq292_5 (rd_T44 l0_5 x271).f5.length cpq292_5]] rfl rfl Try.func38 (by kernel_rfl) rfl rfl (mp_ rfl) ?_
    refine (IH.blazonlaw08_later ((rd_T44 l0_5 x271).f0) ((rd_T44 l0_5 x271).f1) ((rd_T44 l0_5 x271).f2) ((rd_T44 l0_5 x271).f3) ((rd_T44 l0_5 x271).f4) Aq292_5 cpq292_5 ((rd_T44 l0_5 x271).f5) t293 t294 t295 t296 t297 t298  (fun z_ => pal [(0, 0)] (C275 z_)) w276 (fun _ => pal_lt rfl _) (Ft.arg HRq292_5 rfl) HCq292_5 A299).mono ?_
    rintro _ w301 ⟨C302, A304, cp305, rfl, hs303, HO306, HC307⟩
    refine ⟨_, rfl, ?_⟩
    replace HO306 := Own.res (U := [(0, 0), (5, 14)]) (j := 14) HO306 hs303 (by rfl) (by decide) rfl rfl
    replace hs303 := Step.lift (U := [(0, 0), (5, 14)]) hs303 [] rfl rfl
    generalize up C275 C302 w276.heap.size [(0, 0), (5, 14)] = C302_ at HO306 hs303
    replace HJ270 := HJ270.thru hs303 rfl
    replace HJ273 := HJ273.thru hs303 rfl
    replace HJ272 := HJ272.thru hs303 rfl
    replace HJ274 := HJ274.thru hs303 rfl
    replace HS278 := HS278.trans hs303 hc rfl
    (try simp only [ls0, ls1])
    replace HJ270 := Own.recol (a := 14) (b := 0) HJ270 (by decide) (by decide)
    replace HJ273 := Bx.recol (a := 14) (b := 0) HJ273 (by decide)
    replace HJ272 := Ft.recol (a := 14) (b := 0) HJ272 (.inl rfl)
    replace HJ274 := Bx.recol (a := 14) (b := 0) HJ274 (by decide)
    have HR308 := Ft.recolor (a := 14) (b := 0) (HO306.ft) [0] rfl
    replace HS278 := Step.recol (a := 14) (b := 0) HS278 hc (by decide)
    refine ev_run (w1 := w301.alloc (.cells #[.int .i64 t293, .int .i64 t294, .int .i64 t295, .string t296, .string t297, .slice A304 t298.length cp305] 44)) (.slice (some ⟨w301.heap.size, 0, none⟩) 1 1) rfl rfl (by first | (go_simp; done) | (go_simp; rfl)) ?_
    (try simp only [Act.put, List.setIfInBounds_toArray, ls0, ls1])
    obtain ⟨c309, H⟩ := if_some H
    obtain ⟨y310, A311, H⟩ := bnd H
    refine Own.append k44 (C := (recol C302_ 14 0)) (i := 13) rfl (.tmp 16) (.tmp 23) 42 44 (.agg #[(.int .i64 0), (.int .i64 0), (.int .i64 0), (.string ⟨#[]⟩), (.string ⟨#[]⟩), (.slice none 0 0)]) 80 rfl Try.underlying42 info44 rfl (by decide) (by decide) (.slice A266 x265.length cp268) x265 (⟨t293, t294, t295, t296, t297, t298⟩ : S44) [.int .i64 t293, .int .i64 t294, .int .i64 t295, .string t296, .string t297, .slice A304 t298.length cp305] rfl rfl (k44_mkF _ _ (⟨t293, t294, t295, t296, t297, t298⟩ : S44) HC307 (Kd.F_mono (d := k44) HR308 (fun k_ h_ => by simpa using h_))) HJ270 (by decide) (by omega) (Option.some.inj A311) ?_
    intro A312 cp313 w314 C315 HO316 HC317 hs318
    replace HJ273 := HJ273.thru hs318 rfl
    replace HJ272 := HJ272.thru hs318 rfl
    replace HJ274 := HJ274.thru hs318 rfl
    replace HS278 := HS278.trans hs318 hc rfl
    (try simp only [ls0, ls1])
    refine as_ rfl ?_
    refine wl_end ?_
    (try simp only [ls0, ls1])
    refine hK287 _ _ ?_
    (try clear hK287 K287)
    refine wl_region ?_
    refine mv_ rfl ?_
    refine st (.int .i64 (wrap64 (x271 + 1))) rfl rfl (xr_bin _ _ _ rfl rfl rfl (B.add_i64 _ _)) ?_
    refine as_ rfl ?_
    refine wl_end ?_
    (try simp only [ls0, ls1])
    exact jmpL (fun a_ h_ => ih280 k283 (by omega) a_ _ h_) (fun g_ => ⟨_, wrap64 (x271 + 1), A312, y310.length, cp313, y310, g_, rfl, HS278, (by omega), HO316, HC317, HJ272, HJ273, HJ274, H⟩) rfl
   rw [if_neg c286] at H
   (try rw [(decide_eq_false c286)])
   refine wp_cond_false rfl ?_
   refine wp_exit ?_
   (try simp only [ls0, ls1])
   refine hK180 _ _ ?_
   (try clear hK180 K180)
   refine wp_seq_k fun K319 hK319 => ?_
   refine wl_region ?_
   refine mv_ rfl ?_
   refine st (.pointer (some ⟨g165, 5, none⟩)) rfl rfl (xr_fieldAddr _ _ rfl rfl (bx_field2 Try.underlying44 rfl rfl (by kernel_rfl))) ?_
   refine bx_store (C := C275) (z := 11) (g := g165) (j := 5) (tb := 44) (u := .slice A266 x265.length cp268) (seg := [.slice A266 x265.length cp268]) (xs := [.int .i64 a0_0, .int .i64 (wrap64 (a0_1 + 1)), .int .i64 a0_2, .string a0_3, .string a0_4, .slice A0_5 l0_5.length c0_5]) rfl rfl rfl rfl rfl rfl (by first | kernel_rfl | rfl) (by simp [Value.oneCell']) HJ273 (by simp only [List.length_cons, List.length_nil]; omega) rfl ?_
   intro w320 HX321 hs322
   replace HJ270 := HJ270.thru hs322 rfl
   replace HJ274 := HJ274.thru hs322 rfl
   replace HS278 := HS278.trans hs322 hc rfl
   (try simp only [ls0, ls1])
   refine wl_end ?_
   (try simp only [ls0, ls1])
   refine hK319 _ _ ?_
   (try clear hK319 K319)
   refine wp_seq_k fun K323 hK323 => ?_
   refine wl_region ?_
   refine st (.agg #[.int .i64 a0_0, .int .i64 (wrap64 (a0_1 + 1)), .int .i64 a0_2, .string a0_3, .string a0_4, .slice A266 x265.length cp268]) rfl rfl (xr_load _ _ rfl rfl (load_agg (cs := [.int .i64 a0_0, .int .i64 (wrap64 (a0_1 + 1)), .int .i64 a0_2, .string a0_3, .string a0_4, .slice A266 x265.length cp268]) Try.underlying44 rfl (by kernel_rfl) (bx_cells (HX321).2 0 rfl))) ?_
   refine bx_store (C := C275) (z := 12) (g := g170) (j := 0) (tb := 44) (u := .agg #[.int .i64 a0_0, .int .i64 (wrap64 (a0_1 + 1)), .int .i64 a0_2, .string a0_3, .string a0_4, .slice A266 x265.length cp268]) (seg := [.int .i64 a0_0, .int .i64 (wrap64 (a0_1 + 1)), .int .i64 a0_2, .string a0_3, .string a0_4, .slice A266 x265.length cp268]) (xs := [.int .i64 0, .int .i64 0, .int .i64 0, .string (⟨#[]⟩ : ByteArray), .string (⟨#[]⟩ : ByteArray), .slice none 0 0]) rfl rfl rfl rfl rfl rfl (by first | kernel_rfl | rfl) (by simp [Value.oneCell']) HJ274 (by simp only [List.length_cons, List.length_nil]; omega) rfl ?_
   intro w324 HX325 hs326
   replace HJ270 := HJ270.thru hs326 rfl
   replace HX321 := HX321.thru hs326 rfl
   replace HS278 := HS278.trans hs326 hc rfl
   (try simp only [ls0, ls1])
   refine wl_end ?_
   (try simp only [ls0, ls1])
   refine hK323 _ _ ?_
   (try clear hK323 K323)
   refine wp_ret ?_
   (try simp only [Exit.inBlock, Exit.then, Exit.noGoto])
   (try simp only [ls0, ls1])
   replace HJ270 := Own.recolor (b := 5) HJ270 (by decide)
   replace HX321 := Bx.recol (a := 13) (b := 5) HX321 (by decide)
   replace HX325 := Bx.recol (a := 13) (b := 5) HX325 (by decide)
   replace HS278 := Step.recol (a := 13) (b := 5) HS278 hc (by decide)
   simp only [Option.some.injEq, Prod.mk.injEq] at H
   obtain ⟨rfl, rfl, rfl, rfl, rfl, rfl⟩ := H
   refine bodyPost_ret (res_c rfl rfl (load_of (load_agg (cs := [.int .i64 a0_0, .int .i64 (wrap64 (a0_1 + 1)), .int .i64 a0_2, .string a0_3, .string a0_4, .slice A266 x265.length cp268]) Try.underlying44 rfl (by kernel_rfl) (bx_cells (HX325).2 0 rfl)))) rfl ?_
   exact ⟨_, A266, cp268, rfl, HS278, HJ270, HC269⟩

def Rec_blazonlaw08_later.at : Nat → Rec_blazonlaw08_later
  | 0 => ⟨fun x0 x1 x2 x3 x4 x5 => none⟩
  | k + 1 => ⟨fun x0 x1 x2 x3 x4 x5 => blazonlaw08_later.g (Rec_blazonlaw08_later.at k) k x0 x1 x2 x3 x4 x5⟩
theorem Rec_blazonlaw08_later.good : ∀ k, Rec_blazonlaw08_later.Good (Rec_blazonlaw08_later.at k)
  | 0 => ⟨(by intros; rename_i H; exact absurd H (by simp [Rec_blazonlaw08_later.at]))⟩
  | k + 1 => ⟨blazonlaw08_later.step (Rec_blazonlaw08_later.at k) (Rec_blazonlaw08_later.good k) k⟩
def blazonlaw08_later.f (k : Nat) (x0 : Int) (x1 : Int) (x2 : Int) (x3 : ByteArray) (x4 : ByteArray) (x5 : List (S44)) : Option (Int × Int × Int × ByteArray × ByteArray × (List (S44))) := (Rec_blazonlaw08_later.at k).blazonlaw08_later x0 x1 x2 x3 x4 x5
theorem blazonlaw08_later.calls : ∀ (k : Nat) (a0_0 : Int) (a0_1 : Int) (a0_2 : Int) (a0_3 : ByteArray) (a0_4 : ByteArray) (A0_5 : Option Addr) (c0_5 : Nat) (l0_5 : List (S44)) (r1 : Int) (r2 : Int) (r3 : Int) (r4 : ByteArray) (r5 : ByteArray) (r6 : List (S44)) (c : Nat → Nat) (w : World) (hc : ∀ k, c k < 10) (HP0_5 : Ft c [0] w (fun w_ => k44.C w_ A0_5 l0_5.length l0_5)) (HCP0_5 : l0_5.length ≤ c0_5) (H : blazonlaw08_later.f k a0_0 a0_1 a0_2 a0_3 a0_4 l0_5 = some (r1, r2, r3, r4, r5, r6)),
    Calls Try.prog 38 #[.agg #[.int .i64 a0_0, .int .i64 a0_1, .int .i64 a0_2, .string a0_3, .string a0_4, .slice A0_5 l0_5.length c0_5]] w fun e w' => ∃ (c' : Nat → Nat) (A_r6 : Option Addr) (c_r6 : Nat), e = .returned (.agg #[.int .i64 r1, .int .i64 r2, .int .i64 r3, .string r4, .string r5, .slice A_r6 r6.length c_r6]) ∧ Step c w c' w' [] ∧ Own c' 5 w' k44 44 (.slice A_r6 r6.length c_r6) r6 ∧ r6.length ≤ c_r6 := fun k => (Rec_blazonlaw08_later.good k).blazonlaw08_later

/-! ### blazonlaw08_ExprLater: function 10 -/
mutual
def blazonlaw08_ExprLater.l0 : Nat → Int → Int → Int → Int → ByteArray → ByteArray → (List (S44)) → Int → Int → Int → Int → ByteArray → ByteArray → (List (S44)) → Option (Bool)
  | 0, _, _, _, _, _, _, _, _, _, _, _, _, _, _ => none
  | k + 1, a1, t582, t583, t584, t585, t586, t587, x710, x711, x712, x713, x714, x715, x716 => if x710 < (Int.tmod (wrap64 (a1)) 100) then ((blazonlaw08_later.f k x711 x712 x713 x714 x715 x716).bind fun bt738 => (blazonlaw08_ExprLater.l0 k a1 t582 t583 t584 t585 t586 t587 (wrap64 (x710 + 1)) bt738.1 bt738.2.1 bt738.2.2.1 bt738.2.2.2.1 bt738.2.2.2.2.1 bt738.2.2.2.2.2)) else ((blazonref08_Same.f k x711 x712 x713 x714 x715 x716 t582 t583 t584 t585 t586 t587).bind fun t758 => (if t758 = true then ((blazonlaw08_awake.f k).bind fun t765 => (some t765)) else (some false)))
def blazonlaw08_ExprLater.j0 : Nat → Int → Int → Int → Int → ByteArray → ByteArray → (List (S44)) → Int → Int → Int → Int → ByteArray → ByteArray → (List (S44)) → Bool → Option (Bool)
  | 0, _, _, _, _, _, _, _, _, _, _, _, _, _, _, _ => none
  | k + 1, a1, t545, t546, t547, t548, t549, t550, t552, t582, t583, t584, t585, t586, t587, x631 => if x631 = true then (some false) else (if t552 = 0 then (blazonlaw08_ExprLater.l0 k a1 t582 t583 t584 t585 t586 t587 0 t545 t546 t547 t548 t549 t550) else ((blazonlaw08_awake.f k).bind fun t772 => (some t772)))
def blazonlaw08_ExprLater.l1 : Nat → Int → (List Int) → (List Int) → Int → Option (Bool)
  | 0, _, _, _, _ => none
  | k + 1, a1, l0, x514, x520 => if x520 < (Int.tmod (wrap64 (a1)) 100) then (if x514.length < 140737488355328 then ((some (x514 ++ [32] : List Int)).bind fun y535 => (blazonlaw08_ExprLater.l1 k a1 l0 y535 (wrap64 (x520 + 1)))) else (none)) else ((expr_Parse.f k l0).bind fun bt545 => (if x514.length + l0.length < 140737488355328 then ((some (x514 ++ l0 : List Int)).bind fun y572 => ((expr_Parse.f k y572).bind fun bt582 => (if bt545.2.2.2.2.2.2.2 = bt582.2.2.2.2.2.2.2 then (blazonlaw08_ExprLater.j0 k a1 bt545.1 bt545.2.1 bt545.2.2.1 bt545.2.2.2.1 bt545.2.2.2.2.1 bt545.2.2.2.2.2.1 bt545.2.2.2.2.2.2.2 bt582.1 bt582.2.1 bt582.2.2.1 bt582.2.2.2.1 bt582.2.2.2.2.1 bt582.2.2.2.2.2.1 (!decide (bt582.2.2.2.2.2.2.1 = (wrap64 (bt545.2.2.2.2.2.2.1 + (Int.tmod (wrap64 (a1)) 100)))))) else (blazonlaw08_ExprLater.j0 k a1 bt545.1 bt545.2.1 bt545.2.2.1 bt545.2.2.2.1 bt545.2.2.2.2.1 bt545.2.2.2.2.2.1 bt545.2.2.2.2.2.2.2 bt582.1 bt582.2.1 bt582.2.2.1 bt582.2.2.2.1 bt582.2.2.2.2.1 bt582.2.2.2.2.2.1 true)))) else (none)))
end
def blazonlaw08_ExprLater.f (k : Nat) (l0 : List Int) (a1 : Int) : Option (Bool) := if (l0.length : Int) > 900 then ((blazonlaw08_awake.f k).bind fun t395 => (some t395)) else (blazonlaw08_ExprLater.l1 k a1 l0 ([] : List Int) 0)

set_option maxHeartbeats 8000000 in
set_option maxRecDepth 100000 in
theorem blazonlaw08_ExprLater.calls (k : Nat) (A0 : Option Addr) (c0 : Nat) (l0 : List Int) (a1 : Int) (r : Bool) (c : Nat → Nat) (w : World) (hc : ∀ k, c k < 10) (HP0 : Ft c [0] w (fun w_ => (Kd.int .u8).C w_ A0 l0.length l0)) (HCP0 : l0.length ≤ c0) (H : blazonlaw08_ExprLater.f k l0 a1 = some r) :
    Calls Try.prog 10 #[.slice A0 l0.length c0, .int .u8 a1] w fun e w' => ∃ (c' : Nat → Nat) , e = .returned (.bool r) ∧ Step c w c' w' [] := by
 unfold blazonlaw08_ExprLater.f at H
 have HS := Step.refl c w []
 go_enter Try.func10, Try.ntmps10
 refine wp_seq_k fun K390 hK390 => ?_
 refine wl_region ?_
 refine st (.bool false) rfl rfl (xr_assign _ rfl rfl) ?_
 refine wl_end ?_
 (try simp only [ls0, ls1])
 refine hK390 _ _ ?_
 (try clear hK390 K390)
 refine wp_seq_k fun K391 hK391 => ?_
 refine wp_seq_k fun K392 hK392 => ?_
 refine wl_region ?_
 refine mv_ rfl ?_
 refine st (.int .i64 (l0.length : Int)) rfl rfl (xr_builtin #[.slice A0 l0.length c0] (.int .i64 (l0.length : Int)) rfl (mp_ rfl) (by first | rfl | (go_simp; done) | (go_simp; rfl) | (go_simp; exact i64_w _) | (go_simp; exact i32_w _))) ?_
 refine st (.bool (decide ((l0.length : Int) > 900))) rfl rfl (xr_bin _ _ _ rfl rfl rfl (B.gtr_i64 _ _)) ?_
 refine wl_end ?_
 (try simp only [ls0, ls1])
 refine hK392 _ _ ?_
 (try clear hK392 K392)
 by_cases c393 : (l0.length : Int) > 900
 ·rw [if_pos c393] at H
  (try rw [(decide_eq_true c393)])
  refine wp_cond_true rfl ?_
  refine wp_seq_k fun K394 hK394 => ?_
  refine wl_region ?_
  obtain ⟨t395, A396, H⟩ := bnd H
  refine st_call #[] rfl rfl Try.func32 (by kernel_rfl) rfl rfl (mp_ rfl) ?_
  refine (blazonlaw08_awake.calls k t395  (fun z_ => pal [(0, 0)] (c z_)) w (fun _ => pal_lt rfl _) A396).mono ?_
  rintro _ w398 ⟨C399, rfl, hs400⟩
  refine ⟨_, rfl, ?_⟩
  replace hs400 := Step.lift (U := [(0, 0)]) hs400 [] rfl rfl
  generalize up c C399 w.heap.size [(0, 0)] = C399_ at hs400
  replace HS := HS.trans hs400 hc rfl
  (try simp only [ls0, ls1])
  refine as_ rfl ?_
  refine wl_end ?_
  (try simp only [ls0, ls1])
  refine hK394 _ _ ?_
  (try clear hK394 K394)
  refine wp_ret ?_
  (try simp only [Exit.inBlock, Exit.then, Exit.noGoto])
  (try simp only [ls0, ls1])
  obtain rfl := Option.some.inj H
  refine bodyPost_ret (results_tmp rfl _ _ _) rfl ?_
  exact ⟨_, rfl, HS⟩
 rw [if_neg c393] at H
 (try rw [(decide_eq_false c393)])
 refine wp_cond_false rfl ?_
 refine wp_skip ?_
 (try simp only [ls0, ls1])
 refine hK391 _ _ ?_
 (try clear hK391 K391)
 refine wp_seq_k fun K401 hK401 => ?_
 refine wl_region ?_
 refine mv_ rfl ?_
 refine st (.int .i64 (wrap64 (a1))) rfl rfl (xr_conv (.int .u8 a1) _ rfl rfl (by first | rfl | (go_simp; done) | (go_simp; rfl) | (go_simp; exact i64_w _) | (go_simp; exact i32_w _))) ?_
 refine st (.int .i64 (Int.tmod (wrap64 (a1)) 100)) rfl rfl (xr_bin _ _ _ rfl rfl rfl (B.rem_i64 _ _ (by decide))) ?_
 refine as_ rfl ?_
 simp only [ls0, ls1]
 refine wl_end ?_
 (try simp only [ls0, ls1])
 refine hK401 _ _ ?_
 (try clear hK401 K401)
 refine wp_seq_k fun K402 hK402 => ?_
 refine wl_region ?_
 refine st (.slice none 0 0) rfl rfl (xr_assign _ rfl rfl) ?_
 refine wl_end ?_
 (try simp only [ls0, ls1])
 refine hK402 _ _ ?_
 (try clear hK402 K402)
 refine wp_seq_k fun K403 hK403 => ?_
 refine wp_seq_k fun K474 hK474 => ?_
 refine wl_region ?_
 refine st (.int .i64 0) rfl rfl (xr_assign _ rfl rfl) ?_
 refine wl_end ?_
 (try simp only [ls0, ls1])
 refine hK474 _ _ ?_
 (try clear hK474 K474)
 refine wp_block ?_
 (try simp only [ls0, ls1])
 refine wp_looped (looped_fin (fun kq523 a_ w522 => ∃ (C521 : Nat → Nat) (x520 : Int) (A515 : Option Addr) (n516 cp517 : Nat) (x514 : List Int) (g_ : Nat → Value), a_ = ⟨#[.slice A0 l0.length c0, (g_ 1), (g_ 2), (g_ 3), (g_ 4), .int .i64 (Int.tmod (wrap64 (a1)) 100), .slice A515 n516 cp517, .int .i64 x520, (g_ 8), (g_ 9), (g_ 10), (g_ 11), (g_ 12), (g_ 13), (g_ 14), (g_ 15), (g_ 16), (g_ 17), (g_ 18), (g_ 19), (g_ 20), (g_ 21), (g_ 22), (g_ 23), (g_ 24), (g_ 25), (g_ 26), (g_ 27), (g_ 28), (g_ 29), (g_ 30), (g_ 31), (g_ 32), (g_ 33), (g_ 34), (g_ 35), (g_ 36), (g_ 37), (g_ 38), (g_ 39), (g_ 40), (g_ 41), (g_ 42), (g_ 43), (g_ 44), (g_ 45), (g_ 46), (g_ 47), (g_ 48), (g_ 49), (g_ 50), (g_ 51), (g_ 52), (g_ 53), (g_ 54), (g_ 55), (g_ 56), (g_ 57), (g_ 58), (g_ 59), (g_ 60), (g_ 61), (g_ 62), (g_ 63), (g_ 64), (g_ 65), (g_ 66), (g_ 67), (g_ 68), (g_ 69)], []⟩ ∧ Step c w C521 w522 [] ∧ kq523 ≤ k ∧ (Ft C521 [0] w522 (fun w_ => (Kd.int .u8).C w_ A0 l0.length l0)) ∧ (Own C521 11 w522 (Kd.int .u8) 5 (.slice A515 n516 cp517) x514) ∧ (n516 ≤ cp517) ∧ blazonlaw08_ExprLater.l1 kq523 a1 l0 x514 x520 = some r) ?step fun hL_ => ?init)
 case init =>
  exact jmpL (fun a_ h_ => hL_ k a_ _ h_) (fun g_ => ⟨_, 0, none, 0, 0, ([] : List Int), g_, rfl, HS, Nat.le_refl _, HP0, (Own.nil _ _ _ _ _), (Nat.le_refl 0), H⟩) rfl
 case step =>
  intro kq523 ih526 a527 w522 hr528
  obtain ⟨C521, x520, A515, n516, cp517, x514, g_, rfl, HS524, hk525, HJ513, HJ519, HC518, H⟩ := hr528
  refine looped_round ?_
  obtain rfl : n516 = x514.length := HJ519.at_.1
  cases kq523 with
  | zero => exact absurd H (by simp [blazonlaw08_ExprLater.l1])
  | succ k529 =>
   simp only [blazonlaw08_ExprLater.l1] at H
   refine wp_seq_k fun K530 hK530 => ?_
   refine wp_seq_k fun K531 hK531 => ?_
   refine wl_region ?_
   refine mv_ rfl ?_
   refine mv_ rfl ?_
   refine st (.bool (decide (x520 < (Int.tmod (wrap64 (a1)) 100)))) rfl rfl (xr_bin _ _ _ rfl rfl rfl (B.lss_i64 _ _)) ?_
   refine wl_end ?_
   (try simp only [ls0, ls1])
   refine hK531 _ _ ?_
   (try clear hK531 K531)
   by_cases c532 : x520 < (Int.tmod (wrap64 (a1)) 100)
   ·rw [if_pos c532] at H
    (try rw [(decide_eq_true c532)])
    refine wp_cond_true rfl ?_
    refine wp_skip ?_
    (try simp only [ls0, ls1])
    refine hK530 _ _ ?_
    (try clear hK530 K530)
    refine wp_seq_k fun K533 hK533 => ?_
    refine wp_block ?_
    refine wl_region ?_
    refine mv_ rfl ?_
    refine ev_run (w1 := w522.alloc (.cells #[.int .u8 32] 5)) (.slice (some ⟨w522.heap.size, 0, none⟩) 1 1) rfl rfl (by first | (go_simp; done) | (go_simp; rfl)) ?_
    (try simp only [Act.put, List.setIfInBounds_toArray, ls0, ls1])
    obtain ⟨c534, H⟩ := if_some H
    obtain ⟨y535, A536, H⟩ := bnd H
    refine Own.append (Kd.int .u8) (C := C521) (i := 11) rfl (.tmp 27) (.tmp 28) 22 5 (.int .u8 0) 1 rfl Try.underlying22 info5 rfl (by decide) (by decide) (.slice A515 x514.length cp517) x514 32 [.int .u8 32] rfl rfl (fk_int .u8 _ _ 32) HJ519 (by decide) (by omega) (Option.some.inj A536) ?_
    intro A537 cp538 w539 C540 HO541 HC542 hs543
    replace HJ513 := HJ513.thru hs543 rfl
    replace HS524 := HS524.trans hs543 hc rfl
    (try simp only [ls0, ls1])
    refine as_ rfl ?_
    refine wl_end ?_
    (try simp only [ls0, ls1])
    refine hK533 _ _ ?_
    (try clear hK533 K533)
    refine wl_region ?_
    refine mv_ rfl ?_
    refine st (.int .i64 (wrap64 (x520 + 1))) rfl rfl (xr_bin _ _ _ rfl rfl rfl (B.add_i64 _ _)) ?_
    refine as_ rfl ?_
    refine wl_end ?_
    (try simp only [ls0, ls1])
    exact jmpL (fun a_ h_ => ih526 k529 (by omega) a_ _ h_) (fun g_ => ⟨_, wrap64 (x520 + 1), A537, y535.length, cp538, y535, g_, rfl, HS524, (by omega), HJ513, HO541, HC542, H⟩) rfl
   rw [if_neg c532] at H
   (try rw [(decide_eq_false c532)])
   refine wp_cond_false rfl ?_
   refine wp_exit ?_
   (try simp only [ls0, ls1])
   refine hK403 _ _ ?_
   (try clear hK403 K403)
   refine wp_seq_k fun K544 hK544 => ?_
   refine wl_region ?_
   refine mv_ rfl ?_
   obtain ⟨⟨t545, t546, t547, t548, t549, t550, t551, t552⟩, A553, H⟩ := bnd H
   (try dsimp only at H)
   refine st_call #[.slice A0 l0.length c0] rfl rfl Try.func33 (by kernel_rfl) rfl rfl (mp_ rfl) ?_
   refine (expr_Parse.calls k529 A0 c0 l0 t545 t546 t547 t548 t549 t550 t551 t552  (fun z_ => pal [(0, 0)] (C521 z_)) w522 (fun _ => pal_lt rfl _) (Ft.arg HJ513 rfl) HCP0 A553).mono ?_
   rintro _ w555 ⟨C556, A558, cp559, rfl, hs557, HO560, HC561⟩
   refine ⟨_, rfl, ?_⟩
   replace HO560 := Ft.res (U := [(0, 0)]) HO560 hs557 [0] rfl rfl rfl
   replace hs557 := Step.lift (U := [(0, 0)]) hs557 [] rfl rfl
   generalize up C521 C556 w522.heap.size [(0, 0)] = C556_ at HO560 hs557
   replace HJ513 := HJ513.thru hs557 rfl
   replace HJ519 := HJ519.thru hs557 rfl
   replace HS524 := HS524.trans hs557 hc rfl
   (try simp only [ls0, ls1])
   refine mv_ rfl ?_
   refine st (.agg #[.int .i64 t545, .int .i64 t546, .int .i64 t547, .string t548, .string t549, .slice A558 t550.length cp559]) rfl rfl (xr_extract (.tuple #[.agg #[.int .i64 t545, .int .i64 t546, .int .i64 t547, .string t548, .string t549, .slice A558 t550.length cp559], .int .i64 t551, .int .i64 t552]) _ rfl rfl rfl) ?_
   refine st (.int .i64 t551) rfl rfl (xr_extract (.tuple #[.agg #[.int .i64 t545, .int .i64 t546, .int .i64 t547, .string t548, .string t549, .slice A558 t550.length cp559], .int .i64 t551, .int .i64 t552]) _ rfl rfl rfl) ?_
   refine st (.int .i64 t552) rfl rfl (xr_extract (.tuple #[.agg #[.int .i64 t545, .int .i64 t546, .int .i64 t547, .string t548, .string t549, .slice A558 t550.length cp559], .int .i64 t551, .int .i64 t552]) _ rfl rfl rfl) ?_
   simp only [ls0, ls1]
   refine bx_new (C := C556_) 44 ([.int .i64 0, .int .i64 0, .int .i64 0, .string (⟨#[]⟩ : ByteArray), .string (⟨#[]⟩ : ByteArray), .slice none 0 0]) 12 rfl rfl (by first | (go_simp; done) | (go_simp; rfl)) ?_
   intro g562 w563 C564 HX565 hs566
   replace HJ513 := HJ513.thru hs566 rfl
   replace HJ519 := HJ519.thru hs566 rfl
   replace HO560 := HO560.thru hs566 rfl
   replace HS524 := HS524.trans hs566 hc rfl
   (try simp only [ls0, ls1])
   refine bx_store (C := C564) (z := 12) (g := g562) (j := 0) (tb := 44) (u := .agg #[.int .i64 t545, .int .i64 t546, .int .i64 t547, .string t548, .string t549, .slice A558 t550.length cp559]) (seg := [.int .i64 t545, .int .i64 t546, .int .i64 t547, .string t548, .string t549, .slice A558 t550.length cp559]) (xs := [.int .i64 0, .int .i64 0, .int .i64 0, .string (⟨#[]⟩ : ByteArray), .string (⟨#[]⟩ : ByteArray), .slice none 0 0]) rfl rfl rfl rfl rfl rfl (by first | kernel_rfl | rfl) (by simp [Value.oneCell']) HX565 (by simp only [List.length_cons, List.length_nil]; omega) rfl ?_
   intro w567 HX568 hs569
   replace HJ513 := HJ513.thru hs569 rfl
   replace HJ519 := HJ519.thru hs569 rfl
   replace HO560 := HO560.thru hs569 rfl
   replace HS524 := HS524.trans hs569 hc rfl
   (try simp only [ls0, ls1])
   refine as_ rfl ?_
   refine as_ rfl ?_
   refine wl_end ?_
   (try simp only [ls0, ls1])
   refine hK544 _ _ ?_
   (try clear hK544 K544)
   refine wp_seq_k fun K570 hK570 => ?_
   refine wl_region ?_
   refine mv_ rfl ?_
   refine mv_ rfl ?_
   obtain ⟨c571, H⟩ := if_some H
   obtain ⟨y572, A573, H⟩ := bnd H
   refine Own.append_rows (Kd.int .u8) (C := C564) (i := 11) rfl (.tmp 37) (.tmp 38) 22 5 (.int .u8 0) 1 rfl Try.underlying22 info5 rfl (by decide) (by decide) (.slice A515 x514.length cp517) x514 l0 A0 l0.length c0 rfl rfl HJ519 HJ513 (by decide) (by omega) (Option.some.inj A573) ?_
   intro A574 cp575 w576 C577 HO578 HC579 hs580
   replace HO560 := HO560.thru hs580 rfl
   replace HX568 := HX568.thru hs580 rfl
   replace HS524 := HS524.trans hs580 hc rfl
   (try simp only [ls0, ls1])
   replace HO560 := Ft.recol (a := 11) (b := 0) HO560 (.inl rfl)
   replace HX568 := Bx.recol (a := 11) (b := 0) HX568 (by decide)
   have HR581 := Ft.recolor (a := 11) (b := 0) (HO578.ft) [0] rfl
   replace HS524 := Step.recol (a := 11) (b := 0) HS524 hc (by decide)
   obtain ⟨⟨t582, t583, t584, t585, t586, t587, t588, t589⟩, A590, H⟩ := bnd H
   (try dsimp only at H)
   refine st_call #[.slice A574 y572.length cp575] rfl rfl Try.func33 (by kernel_rfl) rfl rfl (mp_ rfl) ?_
   refine (expr_Parse.calls k529 A574 cp575 y572 t582 t583 t584 t585 t586 t587 t588 t589  (fun z_ => pal [(0, 0)] ((recol C577 11 0) z_)) w576 (fun _ => pal_lt rfl _) (Ft.arg HR581 rfl) HC579 A590).mono ?_
   rintro _ w592 ⟨C593, A595, cp596, rfl, hs594, HO597, HC598⟩
   refine ⟨_, rfl, ?_⟩
   replace HO597 := Ft.res (U := [(0, 0)]) HO597 hs594 [0] rfl rfl rfl
   replace hs594 := Step.lift (U := [(0, 0)]) hs594 [] rfl rfl
   generalize up (recol C577 11 0) C593 w576.heap.size [(0, 0)] = C593_ at HO597 hs594
   replace HO560 := HO560.thru hs594 rfl
   replace HX568 := HX568.thru hs594 rfl
   replace HS524 := HS524.trans hs594 hc rfl
   (try simp only [ls0, ls1])
   refine mv_ rfl ?_
   refine st (.agg #[.int .i64 t582, .int .i64 t583, .int .i64 t584, .string t585, .string t586, .slice A595 t587.length cp596]) rfl rfl (xr_extract (.tuple #[.agg #[.int .i64 t582, .int .i64 t583, .int .i64 t584, .string t585, .string t586, .slice A595 t587.length cp596], .int .i64 t588, .int .i64 t589]) _ rfl rfl rfl) ?_
   refine st (.int .i64 t588) rfl rfl (xr_extract (.tuple #[.agg #[.int .i64 t582, .int .i64 t583, .int .i64 t584, .string t585, .string t586, .slice A595 t587.length cp596], .int .i64 t588, .int .i64 t589]) _ rfl rfl rfl) ?_
   refine st (.int .i64 t589) rfl rfl (xr_extract (.tuple #[.agg #[.int .i64 t582, .int .i64 t583, .int .i64 t584, .string t585, .string t586, .slice A595 t587.length cp596], .int .i64 t588, .int .i64 t589]) _ rfl rfl rfl) ?_
   simp only [ls0, ls1]
   refine bx_new (C := C593_) 44 ([.int .i64 0, .int .i64 0, .int .i64 0, .string (⟨#[]⟩ : ByteArray), .string (⟨#[]⟩ : ByteArray), .slice none 0 0]) 13 rfl rfl (by first | (go_simp; done) | (go_simp; rfl)) ?_
   intro g599 w600 C601 HX602 hs603
   replace HO560 := HO560.thru hs603 rfl
   replace HX568 := HX568.thru hs603 rfl
   replace HO597 := HO597.thru hs603 rfl
   replace HS524 := HS524.trans hs603 hc rfl
   (try simp only [ls0, ls1])
   refine bx_store (C := C601) (z := 13) (g := g599) (j := 0) (tb := 44) (u := .agg #[.int .i64 t582, .int .i64 t583, .int .i64 t584, .string t585, .string t586, .slice A595 t587.length cp596]) (seg := [.int .i64 t582, .int .i64 t583, .int .i64 t584, .string t585, .string t586, .slice A595 t587.length cp596]) (xs := [.int .i64 0, .int .i64 0, .int .i64 0, .string (⟨#[]⟩ : ByteArray), .string (⟨#[]⟩ : ByteArray), .slice none 0 0]) rfl rfl rfl rfl rfl rfl (by first | kernel_rfl | rfl) (by simp [Value.oneCell']) HX602 (by simp only [List.length_cons, List.length_nil]; omega) rfl ?_
   intro w604 HX605 hs606
   replace HO560 := HO560.thru hs606 rfl
   replace HX568 := HX568.thru hs606 rfl
   replace HO597 := HO597.thru hs606 rfl
   replace HS524 := HS524.trans hs606 hc rfl
   (try simp only [ls0, ls1])
   refine as_ rfl ?_
   refine as_ rfl ?_
   refine wl_end ?_
   (try simp only [ls0, ls1])
   refine hK570 _ _ ?_
   (try clear hK570 K570)
   refine wp_seq_k fun K607 hK607 => ?_
   refine wp_seq_k fun K625 hK625 => ?_
   have hj627 : ∀ (kq636 : Nat) (C628 : Nat → Nat) (w629 : World) (x631 : Bool) (g_ : Nat → Value), Step c w C628 w629 [] → kq636 ≤ k529 → (Ft C628 [0] w629 (fun w_ => k44.C w_ A558 t550.length t550)) → (Bx C628 12 w629 g562 44 ([.int .i64 t545, .int .i64 t546, .int .i64 t547, .string t548, .string t549, .slice A558 t550.length cp559])) → (Ft C628 [0] w629 (fun w_ => k44.C w_ A595 t587.length t587)) → (Bx C628 13 w629 g599 44 ([.int .i64 t582, .int .i64 t583, .int .i64 t584, .string t585, .string t586, .slice A595 t587.length cp596])) → blazonlaw08_ExprLater.j0 kq636 a1 t545 t546 t547 t548 t549 t550 t552 t582 t583 t584 t585 t586 t587 x631 = some r → K625 ⟨#[(g_ 0), (g_ 1), (g_ 2), (g_ 3), (g_ 4), .int .i64 (Int.tmod (wrap64 (a1)) 100), (g_ 6), (g_ 7), .pointer (some ⟨g562, 0, none⟩), (g_ 9), .int .i64 t552, .pointer (some ⟨g599, 0, none⟩), (g_ 12), (g_ 13), (g_ 14), (g_ 15), (g_ 16), (g_ 17), (g_ 18), (g_ 19), (g_ 20), (g_ 21), (g_ 22), (g_ 23), (g_ 24), (g_ 25), (g_ 26), (g_ 27), (g_ 28), (g_ 29), (g_ 30), (g_ 31), (g_ 32), (g_ 33), (g_ 34), (g_ 35), (g_ 36), (g_ 37), (g_ 38), (g_ 39), (g_ 40), (g_ 41), (g_ 42), (g_ 43), (g_ 44), (g_ 45), (g_ 46), (g_ 47), (g_ 48), (g_ 49), (g_ 50), (g_ 51), (g_ 52), .bool x631, (g_ 54), (g_ 55), (g_ 56), (g_ 57), (g_ 58), (g_ 59), (g_ 60), (g_ 61), (g_ 62), (g_ 63), (g_ 64), (g_ 65), (g_ 66), (g_ 67), (g_ 68), (g_ 69)], []⟩ w629 := by
    intro kq636 C628 w629 x631 g_ HS630 hk637 HJ632 HJ633 HJ634 HJ635 H
    cases kq636 with
    | zero => exact absurd H (by simp [blazonlaw08_ExprLater.j0])
    | succ k638 =>
     simp only [blazonlaw08_ExprLater.j0] at H
     refine hK625 _ _ ?_
     (try clear hK625)
     by_cases c639 : x631 = true
     ·rw [if_pos c639] at H
      (try rw [c639])
      refine wp_cond_true rfl ?_
      refine wp_seq_k fun K640 hK640 => ?_
      refine wl_region ?_
      refine st (.bool false) rfl rfl (xr_assign _ rfl rfl) ?_
      refine wl_end ?_
      (try simp only [ls0, ls1])
      refine hK640 _ _ ?_
      (try clear hK640 K640)
      refine wp_ret ?_
      (try simp only [Exit.inBlock, Exit.then, Exit.noGoto])
      (try simp only [ls0, ls1])
      obtain rfl := Option.some.inj H
      refine bodyPost_ret (results_tmp rfl _ _ _) rfl ?_
      exact ⟨_, rfl, HS630⟩
     rw [if_neg c639] at H
     (try rw [(Bool.eq_false_iff.mpr c639)])
     refine wp_cond_false rfl ?_
     refine wp_skip ?_
     (try simp only [ls0, ls1])
     refine hK607 _ _ ?_
     (try clear hK607 K607)
     refine wp_seq_k fun K641 hK641 => ?_
     refine wp_seq_k fun K642 hK642 => ?_
     refine wl_region ?_
     refine mv_ rfl ?_
     refine st (.bool (!decide (t552 = 0))) rfl rfl (xr_bin _ _ _ rfl rfl rfl (B.neq_i64 _ _)) ?_
     refine wl_end ?_
     (try simp only [ls0, ls1])
     refine hK642 _ _ ?_
     (try clear hK642 K642)
     by_cases c643 : t552 = 0
     ·rw [if_pos c643] at H
      (try rw [(decide_eq_true c643)])
      (try simp only [Bool.not_true, Bool.not_false])
      refine wp_cond_false rfl ?_
      refine wp_skip ?_
      (try simp only [ls0, ls1])
      refine hK641 _ _ ?_
      (try clear hK641 K641)
      refine wp_seq_k fun K644 hK644 => ?_
      refine wp_seq_k fun K645 hK645 => ?_
      refine wl_region ?_
      refine st (.int .i64 0) rfl rfl (xr_assign _ rfl rfl) ?_
      refine wl_end ?_
      (try simp only [ls0, ls1])
      refine hK645 _ _ ?_
      (try clear hK645 K645)
      refine wp_block ?_
      (try simp only [ls0, ls1])
      refine wp_looped (looped_fin (fun kq727 a_ w726 => ∃ (C725 : Nat → Nat) (x710 : Int) (x711 : Int) (x712 : Int) (x713 : Int) (x714 : ByteArray) (x715 : ByteArray) (A717 : Option Addr) (n718 cp719 : Nat) (x716 : List (S44)) (g_ : Nat → Value), a_ = ⟨#[(g_ 0), (g_ 1), (g_ 2), (g_ 3), (g_ 4), .int .i64 (Int.tmod (wrap64 (a1)) 100), (g_ 6), (g_ 7), .pointer (some ⟨g562, 0, none⟩), (g_ 9), (g_ 10), .pointer (some ⟨g599, 0, none⟩), (g_ 12), (g_ 13), .int .i64 x710, (g_ 15), (g_ 16), (g_ 17), (g_ 18), (g_ 19), (g_ 20), (g_ 21), (g_ 22), (g_ 23), (g_ 24), (g_ 25), (g_ 26), (g_ 27), (g_ 28), (g_ 29), (g_ 30), (g_ 31), (g_ 32), (g_ 33), (g_ 34), (g_ 35), (g_ 36), (g_ 37), (g_ 38), (g_ 39), (g_ 40), (g_ 41), (g_ 42), (g_ 43), (g_ 44), (g_ 45), (g_ 46), (g_ 47), (g_ 48), (g_ 49), (g_ 50), (g_ 51), (g_ 52), (g_ 53), (g_ 54), (g_ 55), (g_ 56), (g_ 57), (g_ 58), (g_ 59), (g_ 60), (g_ 61), (g_ 62), (g_ 63), (g_ 64), (g_ 65), (g_ 66), (g_ 67), (g_ 68), (g_ 69)], []⟩ ∧ Step c w C725 w726 [] ∧ kq727 ≤ k638 ∧ (Ft C725 [0] w726 (fun w_ => k44.C w_ A717 n718 x716)) ∧ (n718 ≤ cp719) ∧ (Bx C725 12 w726 g562 44 ([.int .i64 x711, .int .i64 x712, .int .i64 x713, .string x714, .string x715, .slice A717 n718 cp719])) ∧ (Ft C725 [0] w726 (fun w_ => k44.C w_ A595 t587.length t587)) ∧ (Bx C725 13 w726 g599 44 ([.int .i64 t582, .int .i64 t583, .int .i64 t584, .string t585, .string t586, .slice A595 t587.length cp596])) ∧ blazonlaw08_ExprLater.l0 kq727 a1 t582 t583 t584 t585 t586 t587 x710 x711 x712 x713 x714 x715 x716 = some r) ?step fun hL_ => ?init)
      case init =>
       exact jmpL (fun a_ h_ => hL_ k638 a_ _ h_) (fun g_ => ⟨_, 0, t545, t546, t547, t548, t549, A558, t550.length, cp559, t550, g_, rfl, HS630, Nat.le_refl _, HJ632, HC561, HJ633, HJ634, HJ635, H⟩) rfl
      case step =>
       intro kq727 ih730 a731 w726 hr732
       obtain ⟨C725, x710, x711, x712, x713, x714, x715, A717, n718, cp719, x716, g_, rfl, HS728, hk729, HJ721, HC720, HJ722, HJ723, HJ724, H⟩ := hr732
       refine looped_round ?_
       obtain rfl : n718 = x716.length := (Ft.now HJ721).1.symm
       cases kq727 with
       | zero => exact absurd H (by simp [blazonlaw08_ExprLater.l0])
       | succ k733 =>
        simp only [blazonlaw08_ExprLater.l0] at H
        refine wp_seq_k fun K734 hK734 => ?_
        refine wp_seq_k fun K735 hK735 => ?_
        refine wl_region ?_
        refine mv_ rfl ?_
        refine mv_ rfl ?_
        refine st (.bool (decide (x710 < (Int.tmod (wrap64 (a1)) 100)))) rfl rfl (xr_bin _ _ _ rfl rfl rfl (B.lss_i64 _ _)) ?_
        refine wl_end ?_
        (try simp only [ls0, ls1])
        refine hK735 _ _ ?_
        (try clear hK735 K735)
        by_cases c736 : x710 < (Int.tmod (wrap64 (a1)) 100)
        ·rw [if_pos c736] at H
         (try rw [(decide_eq_true c736)])
         refine wp_cond_true rfl ?_
         refine wp_skip ?_
         (try simp only [ls0, ls1])
         refine hK734 _ _ ?_
         (try clear hK734 K734)
         refine wp_seq_k fun K737 hK737 => ?_
         refine wp_block ?_
         refine wl_region ?_
         refine st (.agg #[.int .i64 x711, .int .i64 x712, .int .i64 x713, .string x714, .string x715, .slice A717 x716.length cp719]) rfl rfl (xr_load _ _ rfl rfl (load_agg (cs := [.int .i64 x711, .int .i64 x712, .int .i64 x713, .string x714, .string x715, .slice A717 x716.length cp719]) Try.underlying44 rfl (by kernel_rfl) (bx_cells (HJ722).2 0 rfl))) ?_
         obtain ⟨⟨t738, t739, t740, t741, t742, t743⟩, A744, H⟩ := bnd H
         (try dsimp only at H)
         refine st_call #[.agg #[.int .i64 x711, .int .i64 x712, .int .i64 x713, .string x714, .string x715, .slice A717 x716.length cp719]] rfl rfl Try.func38 (by kernel_rfl) rfl rfl (mp_ rfl) ?_
         refine (blazonlaw08_later.calls k733 x711 x712 x713 x714 x715 A717 cp719 x716 t738 t739 t740 t741 t742 t743  (fun z_ => pal [(0, 0)] (C725 z_)) w726 (fun _ => pal_lt rfl _) (Ft.arg HJ721 rfl) HC720 A744).mono ?_
         rintro _ w746 ⟨C747, A749, cp750, rfl, hs748, HO751, HC752⟩
         refine ⟨_, rfl, ?_⟩
         replace HO751 := Own.res (U := [(0, 0), (5, 14)]) (j := 14) HO751 hs748 (by rfl) (by decide) rfl rfl
         replace hs748 := Step.lift (U := [(0, 0), (5, 14)]) hs748 [] rfl rfl
         generalize up C725 C747 w726.heap.size [(0, 0), (5, 14)] = C747_ at HO751 hs748
         replace HJ722 := HJ722.thru hs748 rfl
         replace HJ721 := HJ721.thru hs748 rfl
         replace HJ724 := HJ724.thru hs748 rfl
         replace HJ723 := HJ723.thru hs748 rfl
         replace HS728 := HS728.trans hs748 hc rfl
         (try simp only [ls0, ls1])
         refine bx_store (C := C747_) (z := 12) (g := g562) (j := 0) (tb := 44) (u := .agg #[.int .i64 t738, .int .i64 t739, .int .i64 t740, .string t741, .string t742, .slice A749 t743.length cp750]) (seg := [.int .i64 t738, .int .i64 t739, .int .i64 t740, .string t741, .string t742, .slice A749 t743.length cp750]) (xs := [.int .i64 x711, .int .i64 x712, .int .i64 x713, .string x714, .string x715, .slice A717 x716.length cp719]) rfl rfl rfl rfl rfl rfl (by first | kernel_rfl | rfl) (by simp [Value.oneCell']) HJ722 (by simp only [List.length_cons, List.length_nil]; omega) rfl ?_
         intro w753 HX754 hs755
         replace HO751 := HO751.thru hs755 rfl
         replace HJ724 := HJ724.thru hs755 rfl
         replace HJ723 := HJ723.thru hs755 rfl
         replace HS728 := HS728.trans hs755 hc rfl
         (try simp only [ls0, ls1])
         refine wl_end ?_
         (try simp only [ls0, ls1])
         refine hK737 _ _ ?_
         (try clear hK737 K737)
         refine wl_region ?_
         refine mv_ rfl ?_
         refine st (.int .i64 (wrap64 (x710 + 1))) rfl rfl (xr_bin _ _ _ rfl rfl rfl (B.add_i64 _ _)) ?_
         refine as_ rfl ?_
         refine wl_end ?_
         (try simp only [ls0, ls1])
         replace HX754 := Bx.recol (a := 14) (b := 0) HX754 (by decide)
         have HR756 := Ft.recolor (a := 14) (b := 0) (HO751.ft) [0] rfl
         replace HJ724 := Bx.recol (a := 14) (b := 0) HJ724 (by decide)
         replace HJ723 := Ft.recol (a := 14) (b := 0) HJ723 (.inl rfl)
         replace HS728 := Step.recol (a := 14) (b := 0) HS728 hc (by decide)
         exact jmpL (fun a_ h_ => ih730 k733 (by omega) a_ _ h_) (fun g_ => ⟨_, wrap64 (x710 + 1), t738, t739, t740, t741, t742, A749, t743.length, cp750, t743, g_, rfl, HS728, (by omega), HR756, HC752, HX754, HJ723, HJ724, H⟩) rfl
        rw [if_neg c736] at H
        (try rw [(decide_eq_false c736)])
        refine wp_cond_false rfl ?_
        refine wp_exit ?_
        (try simp only [ls0, ls1])
        refine hK644 _ _ ?_
        (try clear hK644 K644)
        refine wp_seq_k fun K757 hK757 => ?_
        refine wl_region ?_
        refine st (.agg #[.int .i64 x711, .int .i64 x712, .int .i64 x713, .string x714, .string x715, .slice A717 x716.length cp719]) rfl rfl (xr_load _ _ rfl rfl (load_agg (cs := [.int .i64 x711, .int .i64 x712, .int .i64 x713, .string x714, .string x715, .slice A717 x716.length cp719]) Try.underlying44 rfl (by kernel_rfl) (bx_cells (HJ722).2 0 rfl))) ?_
        refine st (.agg #[.int .i64 t582, .int .i64 t583, .int .i64 t584, .string t585, .string t586, .slice A595 t587.length cp596]) rfl rfl (xr_load _ _ rfl rfl (load_agg (cs := [.int .i64 t582, .int .i64 t583, .int .i64 t584, .string t585, .string t586, .slice A595 t587.length cp596]) Try.underlying44 rfl (by kernel_rfl) (bx_cells (HJ724).2 0 rfl))) ?_
        obtain ⟨t758, A759, H⟩ := bnd H
        refine st_call #[.agg #[.int .i64 x711, .int .i64 x712, .int .i64 x713, .string x714, .string x715, .slice A717 x716.length cp719], .agg #[.int .i64 t582, .int .i64 t583, .int .i64 t584, .string t585, .string t586, .slice A595 t587.length cp596]] rfl rfl Try.func35 (by kernel_rfl) rfl rfl (mp_ rfl) ?_
        refine (blazonref08_Same.calls k733 x711 x712 x713 x714 x715 A717 cp719 x716 t582 t583 t584 t585 t586 A595 cp596 t587 t758  (fun z_ => pal [(0, 0)] (C725 z_)) w726 (fun _ => pal_lt rfl _) (Ft.arg HJ721 rfl) HC720 (Ft.arg HJ723 rfl) HC598 A759).mono ?_
        rintro _ w761 ⟨C762, rfl, hs763⟩
        refine ⟨_, rfl, ?_⟩
        replace hs763 := Step.lift (U := [(0, 0)]) hs763 [] rfl rfl
        generalize up C725 C762 w726.heap.size [(0, 0)] = C762_ at hs763
        replace HJ722 := HJ722.thru hs763 rfl
        replace HJ721 := HJ721.thru hs763 rfl
        replace HJ724 := HJ724.thru hs763 rfl
        replace HJ723 := HJ723.thru hs763 rfl
        replace HS728 := HS728.trans hs763 hc rfl
        (try simp only [ls0, ls1])
        refine mv_ rfl ?_
        by_cases c764 : t758 = true
        ·rw [if_pos c764] at H
         (try rw [c764])
         refine on_guard (guard_on 3 true 67 rfl rfl rfl) ?_
         obtain ⟨t765, A766, H⟩ := bnd H
         refine st_call #[] rfl rfl Try.func32 (by kernel_rfl) rfl rfl (mp_ rfl) ?_
         refine (blazonlaw08_awake.calls k733 t765  (fun z_ => pal [(0, 0)] (C762_ z_)) w761 (fun _ => pal_lt rfl _) A766).mono ?_
         rintro _ w768 ⟨C769, rfl, hs770⟩
         refine ⟨_, rfl, ?_⟩
         replace hs770 := Step.lift (U := [(0, 0)]) hs770 [] rfl rfl
         generalize up C762_ C769 w761.heap.size [(0, 0)] = C769_ at hs770
         replace HJ722 := HJ722.thru hs770 rfl
         replace HJ721 := HJ721.thru hs770 rfl
         replace HJ724 := HJ724.thru hs770 rfl
         replace HJ723 := HJ723.thru hs770 rfl
         replace HS728 := HS728.trans hs770 hc rfl
         (try simp only [ls0, ls1])
         refine st (.bool t765) rfl rfl (xr_pick true _ rfl rfl rfl) ?_
         refine as_ rfl ?_
         refine wl_end ?_
         (try simp only [ls0, ls1])
         refine hK757 _ _ ?_
         (try clear hK757 K757)
         refine wp_ret ?_
         (try simp only [Exit.inBlock, Exit.then, Exit.noGoto])
         (try simp only [ls0, ls1])
         obtain rfl := Option.some.inj H
         refine bodyPost_ret (results_tmp rfl _ _ _) rfl ?_
         exact ⟨_, rfl, HS728⟩
        rw [if_neg c764] at H
        (try rw [(Bool.eq_false_iff.mpr c764)])
        refine sk_guard (guard_off 3 true 67 rfl rfl false (by decide) rfl) rfl ?_
        refine st (.bool false) rfl rfl (xr_pick false _ rfl rfl rfl) ?_
        refine as_ rfl ?_
        refine wl_end ?_
        (try simp only [ls0, ls1])
        refine hK757 _ _ ?_
        (try clear hK757 K757)
        refine wp_ret ?_
        (try simp only [Exit.inBlock, Exit.then, Exit.noGoto])
        (try simp only [ls0, ls1])
        obtain rfl := Option.some.inj H
        refine bodyPost_ret (results_tmp rfl _ _ _) rfl ?_
        exact ⟨_, rfl, HS728⟩
     rw [if_neg c643] at H
     (try rw [(decide_eq_false c643)])
     (try simp only [Bool.not_true, Bool.not_false])
     refine wp_cond_true rfl ?_
     refine wp_seq_k fun K771 hK771 => ?_
     refine wl_region ?_
     obtain ⟨t772, A773, H⟩ := bnd H
     refine st_call #[] rfl rfl Try.func32 (by kernel_rfl) rfl rfl (mp_ rfl) ?_
     refine (blazonlaw08_awake.calls k638 t772  (fun z_ => pal [(0, 0)] (C628 z_)) w629 (fun _ => pal_lt rfl _) A773).mono ?_
     rintro _ w775 ⟨C776, rfl, hs777⟩
     refine ⟨_, rfl, ?_⟩
     replace hs777 := Step.lift (U := [(0, 0)]) hs777 [] rfl rfl
     generalize up C628 C776 w629.heap.size [(0, 0)] = C776_ at hs777
     replace HJ633 := HJ633.thru hs777 rfl
     replace HJ632 := HJ632.thru hs777 rfl
     replace HJ635 := HJ635.thru hs777 rfl
     replace HJ634 := HJ634.thru hs777 rfl
     replace HS630 := HS630.trans hs777 hc rfl
     (try simp only [ls0, ls1])
     refine as_ rfl ?_
     refine wl_end ?_
     (try simp only [ls0, ls1])
     refine hK771 _ _ ?_
     (try clear hK771 K771)
     refine wp_ret ?_
     (try simp only [Exit.inBlock, Exit.then, Exit.noGoto])
     (try simp only [ls0, ls1])
     obtain rfl := Option.some.inj H
     refine bodyPost_ret (results_tmp rfl _ _ _) rfl ?_
     exact ⟨_, rfl, HS630⟩
   refine wl_region ?_
   refine mv_ rfl ?_
   refine mv_ rfl ?_
   refine st (.bool (!decide (t552 = t589))) rfl rfl (xr_bin _ _ _ rfl rfl rfl (B.neq_i64 _ _)) ?_
   refine mv_ rfl ?_
   simp only [ls0, ls1]
   by_cases c778 : t552 = t589
   ·rw [if_pos c778] at H
    (try rw [(decide_eq_true c778)])
    (try simp only [Bool.not_true, Bool.not_false])
    refine on_guard (guard_on 3 false 47 rfl rfl rfl) ?_
    refine mv_ rfl ?_
    refine on_guard (guard_on 3 false 47 rfl rfl rfl) ?_
    refine mv_ rfl ?_
    refine on_guard (guard_on 3 false 47 rfl rfl rfl) ?_
    refine mv_ rfl ?_
    refine on_guard (guard_on 3 false 47 rfl rfl rfl) ?_
    refine st (.int .i64 (wrap64 (t551 + (Int.tmod (wrap64 (a1)) 100)))) rfl rfl (xr_bin _ _ _ rfl rfl rfl (B.add_i64 _ _)) ?_
    simp only [ls0, ls1]
    refine on_guard (guard_on 3 false 47 rfl rfl rfl) ?_
    refine st (.bool (!decide (t588 = (wrap64 (t551 + (Int.tmod (wrap64 (a1)) 100)))))) rfl rfl (xr_bin _ _ _ rfl rfl rfl (B.neq_i64 _ _)) ?_
    refine st (.bool (!decide (t588 = (wrap64 (t551 + (Int.tmod (wrap64 (a1)) 100)))))) rfl rfl (xr_pick false _ rfl rfl rfl) ?_
    refine wl_end ?_
    (try simp only [ls0, ls1])
    exact jmp (fun g_ => hj627 _ _ _ (!decide (t588 = (wrap64 (t551 + (Int.tmod (wrap64 (a1)) 100))))) g_ HS524 (by omega) HO560 HX568 HO597 HX605 H) rfl
   rw [if_neg c778] at H
   (try rw [(decide_eq_false c778)])
   (try simp only [Bool.not_true, Bool.not_false])
   refine sk_guard (guard_off 3 false 47 rfl rfl true (by decide) rfl) rfl ?_
   refine sk_guard (guard_off 3 false 47 rfl rfl true (by decide) rfl) rfl ?_
   refine sk_guard (guard_off 3 false 47 rfl rfl true (by decide) rfl) rfl ?_
   refine sk_guard (guard_off 3 false 47 rfl rfl true (by decide) rfl) rfl ?_
   simp only [ls0, ls1]
   refine sk_guard (guard_off 3 false 47 rfl rfl true (by decide) rfl) rfl ?_
   refine st (.bool true) rfl rfl (xr_pick true _ rfl rfl rfl) ?_
   refine wl_end ?_
   (try simp only [ls0, ls1])
   exact jmp (fun g_ => hj627 _ _ _ (true) g_ HS524 (by omega) HO560 HX568 HO597 HX605 H) rfl
/-- THE ONE PURE STATEMENT of blazonlaw08_ExprLater. -/
def blazonlaw08_ExprLater.Pure : Prop := ∀ (l0 : List Int) (a1 : Int), l0.length ≤ maxLen → l0.length * 1 ≤ 140737488351232 → (∀ x ∈ l0, (Lit.int .u8 x).wf = true) → (Lit.int .u8 a1).wf = true → ∃ k, blazonlaw08_ExprLater.f k l0 a1 = some true
theorem blazonlaw08_ExprLater.walk (P : blazonlaw08_ExprLater.Pure) (a0 : Option Addr) (len0 cap0 : Nat) (z0 : List Int) (a1 : Int) (w : World) (w0 : (a0 = none ∧ len0 = 0 ∧ cap0 = 0 ∧ z0 = []) ∨ ∃ x, a0 = some x ∧ len0 ≤ cap0 ∧ cap0 ≤ maxLen ∧ z0.length = cap0 ∧ (∀ i, i < z0.length → w.cell? (x.add i) = some (.int .u8 (z0.getD i 0))) ∧ ∀ n ∈ z0, (Lit.int .u8 n).wf = true) (y0 : len0 * 1 ≤ 140737488351232) (w1 : (Lit.int .u8 a1).wf = true) :
    Calls Try.prog 10 #[.slice a0 len0 cap0, .int .u8 a1] w fun e w' => e = .returned (.bool true) ∧ Below w.heap.size w w' := by
  obtain ⟨l0, rfl, hr0, hm0, hw0, hc0⟩ := ReadsInt.ofRowC w0
  obtain ⟨k, h⟩ := P l0 a1 hm0 y0 hw0 w1
  refine (blazonlaw08_ExprLater.calls k _ _ l0 a1 true (fun _ => 0) w (fun _ => (by decide : (0 : Nat) < 10)) (Ft.of_C (Kd.heap_int .u8) (Kd.C_of_reads (d := (0 : Int)) (h1 := fun _ => rfl) hr0)) hc0 h).mono ?_
  rintro e w' ⟨c', rfl, hs⟩
  exact ⟨rfl, hs.below (fun _ => by simp)⟩

end Go.Proofs.Yteoccoklbmjiaaa.PExl
