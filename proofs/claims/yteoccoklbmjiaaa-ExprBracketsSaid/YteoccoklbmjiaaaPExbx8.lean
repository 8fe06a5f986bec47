-- By cprint.py, a program of this work. Lean checks it.
import Derived.Test.YteoccoklbmjiaaaPExbx0
import Derived.Test.YteoccoklbmjiaaaPExbx7
namespace Go.Proofs.Yteoccoklbmjiaaa.PExb
open Go.RowKit Go.Proofs.YteoccoklbmjiaaaW.PrintWords Go.Proofs.YteoccoklbmjiaaaW.PrintLast Go.Proofs.YteoccoklbmjiaaaW.PrintMore
set_option linter.unusedVariables false
set_option linter.unusedSimpArgs false

/-! ### blazonlaw08_later: function 38 -/
def blazonlaw08_later.l0 (r_ : Rec_blazonlaw08_later) : Nat → Int → Int → Int → ByteArray → ByteArray → (List (S44)) → (List (S44)) → Int → Option (Int × Int × Int × ByteArray × ByteArray × (List (S44)))
  | 0, _, _, _, _, _, _, _, _ => none
  | k + 1, a0_0, a0_1, a0_2, a0_3, a0_4, l0_5, x265, x271 => if x271 < (l0_5.length : Int) then (if 0 ≤ x271 then ((r_.blazonlaw08_later ((rd_T44 l0_5 x271).f0) ((rd_T44 l0_5 x271).f1) ((rd_T44 l0_5 x271).f2) ((rd_T44 l0_5 x271).f3) ((rd_T44 l0_5 x271).f4) ((rd_T44 l0_5 x271).f5)).bind fun bt293 => (if x265.length < 1759218604441 then ((some (x265 ++ [(⟨bt293.1, bt293.2.1, bt293.2.2.1, bt293.2.2.2.1, bt293.2.2.2.2.1, bt293.2.2.2.2.2⟩ : S44)] : List (S44))).bind fun y310 => (blazonlaw08_later.l0 r_ k a0_0 a0_1 a0_2 a0_3 a0_4 l0_5 y310 (wrap64 (x271 + 1)))) else (none))) else (none)) else (some (a0_0, wrap64 (a0_1 + 1), a0_2, a0_3, a0_4, x265))
def blazonlaw08_later.g (r_ : Rec_blazonlaw08_later) (k : Nat) (a0_0 : Int) (a0_1 : Int) (a0_2 : Int) (a0_3 : ByteArray) (a0_4 : ByteArray) (l0_5 : List (S44)) : Option (Int × Int × Int × ByteArray × ByteArray × (List (S44))) := blazonlaw08_later.l0 r_ k a0_0 a0_1 a0_2 a0_3 a0_4 l0_5 ([] : List (S44)) 0

set_option maxHeartbeats 8000000 in
set_option maxRecDepth 100000 in
theorem blazonlaw08_later.step (r_ : Rec_blazonlaw08_later) (IH : Rec_blazonlaw08_later.Good r_) (k : Nat) (a0_0 : Int) (a0_1 : Int) (a0_2 : Int) (a0_3 : ByteArray) (a0_4 : ByteArray) (A0_5 : Option Addr) (c0_5 : Nat) (l0_5 : List (S44)) (r1 : Int) (r2 : Int) (r3 : Int) (r4 : ByteArray) (r5 : ByteArray) (r6 : List (S44)) (c : Nat → Nat) (w : World) (hc : ∀ k, c k < 10) (HP0_5 : Ft c [0] w (fun w_ => k44.C w_ A0_5 l0_5.length l0_5)) (HCP0_5 : l0_5.length ≤ c0_5) (H : blazonlaw08_later.g r_ k a0_0 a0_1 a0_2 a0_3 a0_4 l0_5 = some (r1, r2, r3, r4, r5, r6)) :
    Calls Try.prog 38 #[.agg #[.int .i64 a0_0, .int .i64 a0_1, .int .i64 a0_2, .string a0_3, .string a0_4, .slice A0_5 l0_5.length c0_5]] w fun e w' => ∃ (c' : Nat → Nat) (A_r6 : Option Addr) (c_r6 : Nat), e = .returned (.agg #[.int .i64 r1, .int .i64 r2, .int .i64 r3, .string r4, .string r5, .slice A_r6 r6.length c_r6]) ∧ Step c w c' w' [] ∧ Own c' 5 w' k44 44 (.slice A_r6 r6.length c_r6) r6 ∧ r6.length ≤ c_r6 := by
 unfold blazonlaw08_later.g at H
 have HS := Step.refl c w []
 go_enter Try.func38, Try.ntmps38
 refine wp_seq_k fun K164 hK164 => ?_
 refine wl_region ?_
 refine bx_new (C := c) 44 ([.int .i64 a0_0, .int .i64 a0_1, .int .i64 a0_2, .string a0_3, .string a0_4, .slice A0_5 l0_5.length c0_5]) 11 rfl rfl (by first | (go_simp; done) | (go_simp; rfl)) ?_
 intro g165 w166 C167 HX168 hs169
 replace HP0_5 := HP0_5.thru hs169 rfl
 replace HS := HS.trans hs169 hc rfl
 (try simp only [ls0, ls1])
 refine bx_new (C := C167) 44 ([.int .i64 0, .int .i64 0, .int .i64 0, .string (⟨#[]⟩ : ByteArray), .string (⟨#[]⟩ : ByteArray), .slice none 0 0]) 12 rfl rfl (by first | (go_simp; done) | (go_simp; rfl)) ?_
 intro g170 w171 C172 HX173 hs174
 replace HP0_5 := HP0_5.thru hs174 rfl
 replace HX168 := HX168.thru hs174 rfl
 replace HS := HS.trans hs174 hc rfl
 (try simp only [ls0, ls1])
 refine wl_end ?_
 (try simp only [ls0, ls1])
 refine hK164 _ _ ?_
 (try clear hK164 K164)
 refine wp_seq_k fun K175 hK175 => ?_
 refine wl_region ?_
 refine st (.pointer (some ⟨g165, 1, none⟩)) rfl rfl (xr_fieldAddr _ _ rfl rfl (bx_field2 Try.underlying44 rfl rfl (by kernel_rfl))) ?_
 refine st (.int .i64 a0_1) rfl rfl (xr_load _ _ rfl rfl (load_cell Try.underlying3 rfl (bx_cell (HX168).2 1 rfl))) ?_
 refine st (.int .i64 (wrap64 (a0_1 + 1))) rfl rfl (xr_bin _ _ _ rfl rfl rfl (B.add_i64 _ _)) ?_
 refine st (.pointer (some ⟨g165, 1, none⟩)) rfl rfl (xr_fieldAddr _ _ rfl rfl (bx_field2 Try.underlying44 rfl rfl (by kernel_rfl))) ?_
 simp only [ls0, ls1]
 refine bx_store (C := C172) (z := 11) (g := g165) (j := 1) (tb := 44) (u := .int .i64 (wrap64 (a0_1 + 1))) (seg := [.int .i64 (wrap64 (a0_1 + 1))]) (xs := [.int .i64 a0_0, .int .i64 a0_1, .int .i64 a0_2, .string a0_3, .string a0_4, .slice A0_5 l0_5.length c0_5]) rfl rfl rfl rfl rfl rfl (by first | kernel_rfl | rfl) (by simp [Value.oneCell']) HX168 (by simp only [List.length_cons, List.length_nil]; omega) rfl ?_
 intro w176 HX177 hs178
 replace HP0_5 := HP0_5.thru hs178 rfl
 replace HX173 := HX173.thru hs178 rfl
 replace HS := HS.trans hs178 hc rfl
 (try simp only [ls0, ls1])
 refine wl_end ?_
 (try simp only [ls0, ls1])
 refine hK175 _ _ ?_
 (try clear hK175 K175)
 refine wp_seq_k fun K179 hK179 => ?_
 refine wl_region ?_
 refine st (.slice none 0 0) rfl rfl (xr_assign _ rfl rfl) ?_
 refine wl_end ?_
 (try simp only [ls0, ls1])
 refine hK179 _ _ ?_
 (try clear hK179 K179)
 refine wp_seq_k fun K180 hK180 => ?_
 refine wp_seq_k fun K181 hK181 => ?_
 refine wl_region ?_
 refine st (.int .i64 0) rfl rfl (xr_assign _ rfl rfl) ?_
 refine wl_end ?_
 (try simp only [ls0, ls1])
 refine hK181 _ _ ?_
 (try clear hK181 K181)
 refine wp_block ?_
 (try simp only [ls0, ls1])
 refine wp_looped (looped_fin (fun kq277 a_ w276 => ∃ (C275 : Nat → Nat) (x271 : Int) (A266 : Option Addr) (n267 cp268 : Nat) (x265 : List (S44)) (g_ : Nat → Value), a_ = ⟨#[(g_ 0), .pointer (some ⟨g165, 0, none⟩), .pointer (some ⟨g170, 0, none⟩), .slice A266 n267 cp268, .int .i64 x271, (g_ 5), (g_ 6), (g_ 7), (g_ 8), (g_ 9), (g_ 10), (g_ 11), (g_ 12), (g_ 13), (g_ 14), (g_ 15), (g_ 16), (g_ 17), (g_ 18), (g_ 19), (g_ 20), (g_ 21), (g_ 22), (g_ 23), (g_ 24), (g_ 25), (g_ 26), (g_ 27)], []⟩ ∧ Step c w C275 w276 [] ∧ kq277 ≤ k ∧ (Own C275 13 w276 k44 44 (.slice A266 n267 cp268) x265) ∧ (n267 ≤ cp268) ∧ (Ft C275 [0] w276 (fun w_ => k44.C w_ A0_5 l0_5.length l0_5)) ∧ (Bx C275 11 w276 g165 44 ([.int .i64 a0_0, .int .i64 (wrap64 (a0_1 + 1)), .int .i64 a0_2, .string a0_3, .string a0_4, .slice A0_5 l0_5.length c0_5])) ∧ (Bx C275 12 w276 g170 44 ([.int .i64 0, .int .i64 0, .int .i64 0, .string (⟨#[]⟩ : ByteArray), .string (⟨#[]⟩ : ByteArray), .slice none 0 0])) ∧ blazonlaw08_later.l0 r_ kq277 a0_0 a0_1 a0_2 a0_3 a0_4 l0_5 x265 x271 = some (r1, r2, r3, r4, r5, r6)) ?step fun hL_ => ?init)
 case init =>
  exact jmpL (fun a_ h_ => hL_ k a_ _ h_) (fun g_ => ⟨_, 0, none, 0, 0, ([] : List (S44)), g_, rfl, HS, Nat.le_refl _, (Own.nil _ _ _ _ _), (Nat.le_refl 0), HP0_5, HX177, HX173, H⟩) rfl
 case step =>
  intro kq277 ih280 a281 w276 hr282
  obtain ⟨C275, x271, A266, n267, cp268, x265, g_, rfl, HS278, hk279, HJ270, HC269, HJ272, HJ273, HJ274, H⟩ := hr282
  refine looped_round ?_
  obtain rfl : n267 = x265.length := HJ270.at_.1
  cases kq277 with
  | zero => exact absurd H (by simp [blazonlaw08_later.l0])
  | succ k283 =>
   simp only [blazonlaw08_later.l0] at H
   refine wp_seq_k fun K284 hK284 => ?_
   refine wp_seq_k fun K285 hK285 => ?_
   refine wl_region ?_
   refine mv_ rfl ?_
   refine st (.pointer (some ⟨g165, 5, none⟩)) rfl rfl (xr_fieldAddr _ _ rfl rfl (bx_field2 Try.underlying44 rfl rfl (by kernel_rfl))) ?_
   refine st (.slice A0_5 l0_5.length c0_5) rfl rfl (xr_load _ _ rfl rfl (load_cell Try.underlying42 rfl (bx_cell (HJ273).2 5 rfl))) ?_
   refine st (.int .i64 (l0_5.length : Int)) rfl rfl (xr_builtin #[.slice A0_5 l0_5.length c0_5] (.int .i64 (l0_5.length : Int)) rfl (mp_ rfl) (by first | rfl | (go_simp; done) | (go_simp; rfl) | (go_simp; exact i64_w _) | (go_simp; exact i32_w _))) ?_
   simp only [ls0, ls1]
   refine st (.bool (decide (x271 < (l0_5.length : Int)))) rfl rfl (xr_bin _ _ _ rfl rfl rfl (B.lss_i64 _ _)) ?_
   refine wl_end ?_
   (try simp only [ls0, ls1])
   refine hK285 _ _ ?_
   (try clear hK285 K285)
   by_cases c286 : x271 < (l0_5.length : Int)
   ·rw [if_pos c286] at H
    (try rw [(decide_eq_true c286)])
    refine wp_cond_true rfl ?_
    refine wp_skip ?_
    (try simp only [ls0, ls1])
    refine hK284 _ _ ?_
    (try clear hK284 K284)
    refine wp_seq_k fun K287 hK287 => ?_
    refine wp_block ?_
    refine wl_region ?_
    refine mv_ rfl ?_
    refine st (.pointer (some ⟨g165, 5, none⟩)) rfl rfl (xr_fieldAddr _ _ rfl rfl (bx_field2 Try.underlying44 rfl rfl (by kernel_rfl))) ?_
    refine st (.slice A0_5 l0_5.length c0_5) rfl rfl (xr_load _ _ rfl rfl (load_cell Try.underlying42 rfl (bx_cell (HJ273).2 5 rfl))) ?_
    refine mv_ rfl ?_
    simp only [ls0, ls1]
    obtain ⟨c288, H⟩ := if_some H
    obtain ⟨ad289, hA290⟩ := c_addr (Ft.now HJ272) (pos_of (j := x271) (by first | assumption | decide) (by first | assumption | omega))
    refine st (.pointer (some (ad289.add ((x271 : Int).toNat * 6)))) rfl rfl (xr_indexAddr _ _ _ rfl rfl rfl (index_at Try.underlying42 info44 hA290 (by first | assumption | decide | omega) (by first | assumption | decide | omega))) ?_
    obtain ⟨csq292, _, hKq292, hcq292, hinq292⟩ := Ft.elem HJ272 hA290 z44 x271 (by first | assumption | decide | omega) (by first | assumption | decide | omega) (by decide)
    obtain ⟨Aq292_5, cpq292_5, rfl, HCq292_5, HRq292_5⟩ := k44_openF hKq292
    replace HRq292_5 : Ft C275 [0] w276 (fun w_ => k44.C w_ Aq292_5 (rd_T44 l0_5 x271).f5.length (rd_T44 l0_5 x271).f5) := HRq292_5
    refine st (.agg #[.int .i64 ((rd_T44 l0_5 x271).f0), .int .i64 ((rd_T44 l0_5 x271).f1), .int .i64 ((rd_T44 l0_5 x271).f2), .string ((rd_T44 l0_5 x271).f3), .string ((rd_T44 l0_5 x271).f4), .slice Aq292_5 (rd_T44 l0_5 x271).f5.length cpq292_5]) rfl rfl (xr_load (.pointer (some (ad289.add ((x271 : Int).toNat * 6)))) (.agg #[.int .i64 ((rd_T44 l0_5 x271).f0), .int .i64 ((rd_T44 l0_5 x271).f1), .int .i64 ((rd_T44 l0_5 x271).f2), .string ((rd_T44 l0_5 x271).f3), .string ((rd_T44 l0_5 x271).f4), .slice Aq292_5 (rd_T44 l0_5 x271).f5.length cpq292_5]) rfl rfl (load_agg (cs := [.int .i64 ((rd_T44 l0_5 x271).f0), .int .i64 ((rd_T44 l0_5 x271).f1), .int .i64 ((rd_T44 l0_5 x271).f2), .string ((rd_T44 l0_5 x271).f3), .string ((rd_T44 l0_5 x271).f4), .slice Aq292_5 (rd_T44 l0_5 x271).f5.length cpq292_5]) Try.underlying44 rfl (by kernel_rfl) (fun j_ u_ hu_ => by exact hcq292 j_ u_ hu_))) ?_
    obtain ⟨⟨t293, t294, t295, t296, t297, t298⟩, A299, H⟩ := bnd H
    (try dsimp only at H)
    refine st_call #[.agg #[.int .i64 ((rd_T44 l0_5 x271).f0), .int .i64 ((rd_T44 l0_5 x271).f1), .int .i64 ((rd_T44 l0_5 x271).f2), .string ((rd_T44 l0_5 x271).f3), .string ((rd_T44 l0_5 x271).f4), .slice Aq292_5 (rd_T44 l0_5 x271).f5.length cpq292_5]] rfl rfl Try.func38 (by kernel_rfl) rfl rfl (mp_ rfl) ?_
    refine (IH.blazonlaw08_later ((rd_T44 l0_5 x271).f0) ((rd_T44 l0_5 x271).f1) ((rd_T44 l0_5 x271).f2) ((rd_T44 l0_5 x271).f3) ((rd_T44 l0_5 x271).f4) Aq292_5 cpq292_5 ((rd_T44 l0_5 x271).f5) t293 t294 t295 t296 t297 t298  (fun z_ => pal [(0, 0)] (C275 z_)) w276 (fun _ => pal_lt rfl _) (Ft.arg HRq292_5 rfl) HCq292_5 A299).mono ?_
    rintro _ w301 ⟨C302, A304, cp305, rfl, hs303, HO306, HC307⟩
    refine ⟨_, rfl, ?_⟩
    replace HO306 := Own.res (U := [(0, 0), (5, 14)]) (j := 14) HO306 hs303 (by rfl) (by decide) rfl rfl
    replace hs303 := Step.lift (U := [(0, 0), (5, 14)]) hs303 [] rfl rfl
    generalize up C275 C302 w276.heap.size [(0, 0), (5, 14)] = C302_ at HO306 hs303
    replace HJ270 := HJ270.thru hs303 rfl
    replace HJ273 := HJ273.thru hs303 rfl
    replace HJ272 := HJ272.thru hs303 rfl
    replace HJ274 := HJ274.thru hs303 rfl
    replace HS278 := HS278.trans hs303 hc rfl
    (try simp only [ls0, ls1])
    replace HJ270 := Own.recol (a := 14) (b := 0) HJ270 (by decide) (by decide)
    replace HJ273 := Bx.recol (a := 14) (b := 0) HJ273 (by decide)
    replace HJ272 := Ft.recol (a := 14) (b := 0) HJ272 (.inl rfl)
    replace HJ274 := Bx.recol (a := 14) (b := 0) HJ274 (by decide)
    have HR308 := Ft.recolor (a := 14) (b := 0) (HO306.ft) [0] rfl
    replace HS278 := Step.recol (a := 14) (b := 0) HS278 hc (by decide)
    refine ev_run (w1 := w301.alloc (.cells #[.int .i64 t293, .int .i64 t294, .int .i64 t295, .string t296, .string t297, .slice A304 t298.length cp305] 44)) (.slice (some ⟨w301.heap.size, 0, none⟩) 1 1) rfl rfl (by first | (go_simp; done) | (go_simp; rfl)) ?_
    (try simp only [Act.put, List.setIfInBounds_toArray, ls0, ls1])
    obtain ⟨c309, H⟩ := if_some H
    obtain ⟨y310, A311, H⟩ := bnd H
    refine Own.append k44 (C := (recol C302_ 14 0)) (i := 13) rfl (.tmp 16) (.tmp 23) 42 44 (.agg #[(.int .i64 0), (.int .i64 0), (.int .i64 0), (.string ⟨#[]⟩), (.string ⟨#[]⟩), (.slice none 0 0)]) 80 rfl Try.underlying42 info44 rfl (by decide) (by decide) (.slice A266 x265.length cp268) x265 (⟨t293, t294, t295, t296, t297, t298⟩ : S44) [.int .i64 t293, .int .i64 t294, .int .i64 t295, .string t296, .string t297, .slice A304 t298.length cp305] rfl rfl (k44_mkF _ _ (⟨t293, t294, t295, t296, t297, t298⟩ : S44) HC307 (Kd.F_mono (d := k44) HR308 (fun k_ h_ => by simpa using h_))) HJ270 (by decide) (by omega) (Option.some.inj A311) ?_
    intro A312 cp313 w314 C315 HO316 HC317 hs318
    replace HJ273 := HJ273.thru hs318 rfl
    replace HJ272 := HJ272.thru hs318 rfl
    replace HJ274 := HJ274.thru hs318 rfl
    replace HS278 := HS278.trans hs318 hc rfl
    (try simp only [ls0, ls1])
    refine as_ rfl ?_
    refine wl_end ?_
    (try simp only [ls0, ls1])
    refine hK287 _ _ ?_
    (try clear hK287 K287)
    refine wl_region ?_
    refine mv_ rfl ?_
    refine st (.int .i64 (wrap64 (x271 + 1))) rfl rfl (xr_bin _ _ _ rfl rfl rfl (B.add_i64 _ _)) ?_
    refine as_ rfl ?_
    refine wl_end ?_
    (try simp only [ls0, ls1])
    exact jmpL (fun a_ h_ => ih280 k283 (by omega) a_ _ h_) (fun g_ => ⟨_, wrap64 (x271 + 1), A312, y310.length, cp313, y310, g_, rfl, HS278, (by omega), HO316, HC317, HJ272, HJ273, HJ274, H⟩) rfl
   rw [if_neg c286] at H
   (try rw [(decide_eq_false c286)])
   refine wp_cond_false rfl ?_
   refine wp_exit ?_
   (try simp only [ls0, ls1])
   refine hK180 _ _ ?_
   (try clear hK180 K180)
   refine wp_seq_k fun K319 hK319 => ?_
   refine wl_region ?_
   refine mv_ rfl ?_
   refine st (.pointer (some ⟨g165, 5, none⟩)) rfl rfl (xr_fieldAddr _ _ rfl rfl (bx_field2 Try.underlying44 rfl rfl (by kernel_rfl))) ?_
   refine bx_store (C := C275) (z := 11) (g := g165) (j := 5) (tb := 44) (u := .slice A266 x265.length cp268) (seg := [.slice A266 x265.length cp268]) (xs := [.int .i64 a0_0, .int .i64 (wrap64 (a0_1 + 1)), .int .i64 a0_2, .string a0_3, .string a0_4, .slice A0_5 l0_5.length c0_5]) rfl rfl rfl rfl rfl rfl (by first | kernel_rfl | rfl) (by simp [Value.oneCell']) HJ273 (by simp only [List.length_cons, List.length_nil]; omega) rfl ?_
   intro w320 HX321 hs322
   replace HJ270 := HJ270.thru hs322 rfl
   replace HJ274 := HJ274.thru hs322 rfl
   replace HS278 := HS278.trans hs322 hc rfl
   (try simp only [ls0, ls1])
   refine wl_end ?_
   (try simp only [ls0, ls1])
   refine hK319 _ _ ?_
   (try clear hK319 K319)
   refine wp_seq_k fun K323 hK323 => ?_
   refine wl_region ?_
   refine st (.agg #[.int .i64 a0_0, .int .i64 (wrap64 (a0_1 + 1)), .int .i64 a0_2, .string a0_3, .string a0_4, .slice A266 x265.length cp268]) rfl rfl (xr_load _ _ rfl rfl (load_agg (cs := [.int .i64 a0_0, .int .i64 (wrap64 (a0_1 + 1)), .int .i64 a0_2, .string a0_3, .string a0_4, .slice A266 x265.length cp268]) Try.underlying44 rfl (by kernel_rfl) (bx_cells (HX321).2 0 rfl))) ?_
   refine bx_store (C := C275) (z := 12) (g := g170) (j := 0) (tb := 44) (u := .agg #[.int .i64 a0_0, .int .i64 (wrap64 (a0_1 + 1)), .int .i64 a0_2, .string a0_3, .string a0_4, .slice A266 x265.length cp268]) (seg := [.int .i64 a0_0, .int .i64 (wrap64 (a0_1 + 1)), .int .i64 a0_2, .string a0_3, .string a0_4, .slice A266 x265.length cp268]) (xs := [.int .i64 0, .int .i64 0, .int .i64 0, .string (⟨#[]⟩ : ByteArray), .string (⟨#[]⟩ : ByteArray), .slice none 0 0]) rfl rfl rfl rfl rfl rfl (by first | kernel_rfl | rfl) (by simp [Value.oneCell']) HJ274 (by simp only [List.length_cons, List.length_nil]; omega) rfl ?_
   intro w324 HX325 hs326
   replace HJ270 := HJ270.thru hs326 rfl
   replace HX321 := HX321.thru hs326 rfl
   replace HS278 := HS278.trans hs326 hc rfl
   (try simp only [ls0, ls1])
   refine wl_end ?_
   (try simp only [ls0, ls1])
   refine hK323 _ _ ?_
   (try clear hK323 K323)
   refine wp_ret ?_
   (try simp only [Exit.inBlock, Exit.then, Exit.noGoto])
   (try simp only [ls0, ls1])
   replace HJ270 := Own.recolor (b := 5) HJ270 (by decide)
   replace HX321 := Bx.recol (a := 13) (b := 5) HX321 (by decide)
   replace HX325 := Bx.recol (a := 13) (b := 5) HX325 (by decide)
   replace HS278 := Step.recol (a := 13) (b := 5) HS278 hc (by decide)
   simp only [Option.some.injEq, Prod.mk.injEq] at H
   obtain ⟨rfl, rfl, rfl, rfl, rfl, rfl⟩ := H
   refine bodyPost_ret (res_c rfl rfl (load_of (load_agg (cs := [.int .i64 a0_0, .int .i64 (wrap64 (a0_1 + 1)), .int .i64 a0_2, .string a0_3, .string a0_4, .slice A266 x265.length cp268]) Try.underlying44 rfl (by kernel_rfl) (bx_cells (HX325).2 0 rfl)))) rfl ?_
   exact ⟨_, A266, cp268, rfl, HS278, HJ270, HC269⟩

def Rec_blazonlaw08_later.at : Nat → Rec_blazonlaw08_later
  | 0 => ⟨fun x0 x1 x2 x3 x4 x5 => none⟩
  | k + 1 => ⟨fun x0 x1 x2 x3 x4 x5 => blazonlaw08_later.g (Rec_blazonlaw08_later.at k) k x0 x1 x2 x3 x4 x5⟩
theorem Rec_blazonlaw08_later.good : ∀ k, Rec_blazonlaw08_later.Good (Rec_blazonlaw08_later.at k)
  | 0 => ⟨(by intros; rename_i H; exact absurd H (by simp [Rec_blazonlaw08_later.at]))⟩
  | k + 1 => ⟨blazonlaw08_later.step (Rec_blazonlaw08_later.at k) (Rec_blazonlaw08_later.good k) k⟩
def blazonlaw08_later.f (k : Nat) (x0 : Int) (x1 : Int) (x2 : Int) (x3 : ByteArray) (x4 : ByteArray) (x5 : List (S44)) : Option (Int × Int × Int × ByteArray × ByteArray × (List (S44))) := (Rec_blazonlaw08_later.at k).blazonlaw08_later x0 x1 x2 x3 x4 x5
theorem blazonlaw08_later.calls : ∀ (k : Nat) (a0_0 : Int) (a0_1 : Int) (a0_2 : Int) (a0_3 : ByteArray) (a0_4 : ByteArray) (A0_5 : Option Addr) (c0_5 : Nat) (l0_5 : List (S44)) (r1 : Int) (r2 : Int) (r3 : Int) (r4 : ByteArray) (r5 : ByteArray) (r6 : List (S44)) (c : Nat → Nat) (w : World) (hc : ∀ k, c k < 10) (HP0_5 : Ft c [0] w (fun w_ => k44.C w_ A0_5 l0_5.length l0_5)) (HCP0_5 : l0_5.length ≤ c0_5) (H : blazonlaw08_later.f k a0_0 a0_1 a0_2 a0_3 a0_4 l0_5 = some (r1, r2, r3, r4, r5, r6)),
    Calls Try.prog 38 #[.agg #[.int .i64 a0_0, .int .i64 a0_1, .int .i64 a0_2, .string a0_3, .string a0_4, .slice A0_5 l0_5.length c0_5]] w fun e w' => ∃ (c' : Nat → Nat) (A_r6 : Option Addr) (c_r6 : Nat), e = .returned (.agg #[.int .i64 r1, .int .i64 r2, .int .i64 r3, .string r4, .string r5, .slice A_r6 r6.length c_r6]) ∧ Step c w c' w' [] ∧ Own c' 5 w' k44 44 (.slice A_r6 r6.length c_r6) r6 ∧ r6.length ≤ c_r6 := fun k => (Rec_blazonlaw08_later.good k).blazonlaw08_later

/-! ### blazonlaw08_ExprBrackets: function 9 -/
mutual
def blazonlaw08_ExprBrackets.j0 : Nat → Int → Int → Int → ByteArray → ByteArray → (List (S44)) → Int → Int → Int → ByteArray → ByteArray → (List (S44)) → Int → Bool → Option (Bool)
  | 0, _, _, _, _, _, _, _, _, _, _, _, _, _, _ => none
  | k + 1, t438, t439, t440, t441, t442, t443, t494, t495, t496, t497, t498, t499, t501, x549 => if x549 = true then ((blazonlaw08_awake.f k).bind fun t559 => (some t559)) else (if t501 = 0 then ((blazonlaw08_later.f k t438 t439 t440 t441 t442 t443).bind fun bt568 => ((blazonref08_Same.f k bt568.1 bt568.2.1 bt568.2.2.1 bt568.2.2.2.1 bt568.2.2.2.2.1 bt568.2.2.2.2.2 t494 t495 t496 t497 t498 t499).bind fun t583 => (if t583 = true then ((blazonlaw08_awake.f k).bind fun t590 => (some t590)) else (some false)))) else (some false))
def blazonlaw08_ExprBrackets.l0 : Nat → (List Int) → Int → Option (Bool)
  | 0, _, _ => none
  | k + 1, l0, x411 => if x411 < (l0.length : Int) then (if 0 ≤ x411 then (if (rd l0 x411) = 35 then ((blazonlaw08_awake.f k).bind fun t431 => (some t431)) else (blazonlaw08_ExprBrackets.l0 k l0 (wrap64 (x411 + 1)))) else (none)) else ((expr_Parse.f k l0).bind fun bt438 => ((some ([40] : List Int)).bind fun y464 => (if y464.length + l0.length < 140737488355328 then ((some (y464 ++ l0 : List Int)).bind fun y474 => (if y474.length < 140737488355328 then ((some (y474 ++ [41] : List Int)).bind fun y484 => ((expr_Parse.f k y484).bind fun bt494 => (if bt438.2.2.2.2.2.2.2 = 0 then (blazonlaw08_ExprBrackets.j0 k bt438.1 bt438.2.1 bt438.2.2.1 bt438.2.2.2.1 bt438.2.2.2.2.1 bt438.2.2.2.2.2.1 bt494.1 bt494.2.1 bt494.2.2.1 bt494.2.2.2.1 bt494.2.2.2.2.1 bt494.2.2.2.2.2.1 bt494.2.2.2.2.2.2.2 (decide (bt494.2.2.2.2.2.2.2 = 12))) else (blazonlaw08_ExprBrackets.j0 k bt438.1 bt438.2.1 bt438.2.2.1 bt438.2.2.2.1 bt438.2.2.2.2.1 bt438.2.2.2.2.2.1 bt494.1 bt494.2.1 bt494.2.2.1 bt494.2.2.2.1 bt494.2.2.2.2.1 bt494.2.2.2.2.2.1 bt494.2.2.2.2.2.2.2 true)))) else (none))) else (none))))
end
def blazonlaw08_ExprBrackets.f (k : Nat) (l0 : List Int) : Option (Bool) := if (l0.length : Int) > 900 then ((blazonlaw08_awake.f k).bind fun t304 => (some t304)) else (blazonlaw08_ExprBrackets.l0 k l0 0)

set_option maxHeartbeats 8000000 in
set_option maxRecDepth 100000 in
theorem blazonlaw08_ExprBrackets.calls (k : Nat) (A0 : Option Addr) (c0 : Nat) (l0 : List Int) (r : Bool) (c : Nat → Nat) (w : World) (hc : ∀ k, c k < 10) (HP0 : Ft c [0] w (fun w_ => (Kd.int .u8).C w_ A0 l0.length l0)) (HCP0 : l0.length ≤ c0) (H : blazonlaw08_ExprBrackets.f k l0 = some r) :
    Calls Try.prog 9 #[.slice A0 l0.length c0] w fun e w' => ∃ (c' : Nat → Nat) , e = .returned (.bool r) ∧ Step c w c' w' [] := by
 unfold blazonlaw08_ExprBrackets.f at H
 have HS := Step.refl c w []
 go_enter Try.func9, Try.ntmps9
 refine wp_seq_k fun K299 hK299 => ?_
 refine wl_region ?_
 refine st (.bool false) rfl rfl (xr_assign _ rfl rfl) ?_
 refine wl_end ?_
 (try simp only [ls0, ls1])
 refine hK299 _ _ ?_
 (try clear hK299 K299)
 refine wp_seq_k fun K300 hK300 => ?_
 refine wp_seq_k fun K301 hK301 => ?_
 refine wl_region ?_
 refine mv_ rfl ?_
 refine st (.int .i64 (l0.length : Int)) rfl rfl (xr_builtin #[.slice A0 l0.length c0] (.int .i64 (l0.length : Int)) rfl (mp_ rfl) (by first | rfl | (go_simp; done) | (go_simp; rfl) | (go_simp; exact i64_w _) | (go_simp; exact i32_w _))) ?_
 refine st (.bool (decide ((l0.length : Int) > 900))) rfl rfl (xr_bin _ _ _ rfl rfl rfl (B.gtr_i64 _ _)) ?_
 refine wl_end ?_
 (try simp only [ls0, ls1])
 refine hK301 _ _ ?_
 (try clear hK301 K301)
 by_cases c302 : (l0.length : Int) > 900
 ·rw [if_pos c302] at H
  (try rw [(decide_eq_true c302)])
  refine wp_cond_true rfl ?_
  refine wp_seq_k fun K303 hK303 => ?_
  refine wl_region ?_
  obtain ⟨t304, A305, H⟩ := bnd H
  refine st_call #[] rfl rfl Try.func32 (by kernel_rfl) rfl rfl (mp_ rfl) ?_
  refine (blazonlaw08_awake.calls k t304  (fun z_ => pal [(0, 0)] (c z_)) w (fun _ => pal_lt rfl _) A305).mono ?_
  rintro _ w307 ⟨C308, rfl, hs309⟩
  refine ⟨_, rfl, ?_⟩
  replace hs309 := Step.lift (U := [(0, 0)]) hs309 [] rfl rfl
  generalize up c C308 w.heap.size [(0, 0)] = C308_ at hs309
  replace HS := HS.trans hs309 hc rfl
  (try simp only [ls0, ls1])
  refine as_ rfl ?_
  refine wl_end ?_
  (try simp only [ls0, ls1])
  refine hK303 _ _ ?_
  (try clear hK303 K303)
  refine wp_ret ?_
  (try simp only [Exit.inBlock, Exit.then, Exit.noGoto])
  (try simp only [ls0, ls1])
  obtain rfl := Option.some.inj H
  refine bodyPost_ret (results_tmp rfl _ _ _) rfl ?_
  exact ⟨_, rfl, HS⟩
 rw [if_neg c302] at H
 (try rw [(decide_eq_false c302)])
 refine wp_cond_false rfl ?_
 refine wp_skip ?_
 (try simp only [ls0, ls1])
 refine hK300 _ _ ?_
 (try clear hK300 K300)
 refine wp_seq_k fun K310 hK310 => ?_
 refine wp_seq_k fun K374 hK374 => ?_
 refine wl_region ?_
 refine st (.int .i64 0) rfl rfl (xr_assign _ rfl rfl) ?_
 refine wl_end ?_
 (try simp only [ls0, ls1])
 refine hK374 _ _ ?_
 (try clear hK374 K374)
 refine wp_block ?_
 (try simp only [ls0, ls1])
 refine wp_looped (looped_fin (fun kq414 a_ w413 => ∃ (C412 : Nat → Nat) (x411 : Int) (g_ : Nat → Value), a_ = ⟨#[.slice A0 l0.length c0, (g_ 1), (g_ 2), .int .i64 x411, (g_ 4), (g_ 5), (g_ 6), (g_ 7), (g_ 8), (g_ 9), (g_ 10), (g_ 11), (g_ 12), (g_ 13), (g_ 14), (g_ 15), (g_ 16), (g_ 17), (g_ 18), (g_ 19), (g_ 20), (g_ 21), (g_ 22), (g_ 23), (g_ 24), (g_ 25), (g_ 26), (g_ 27), (g_ 28), (g_ 29), (g_ 30), (g_ 31), (g_ 32), (g_ 33), (g_ 34), (g_ 35), (g_ 36), (g_ 37), (g_ 38), (g_ 39), (g_ 40), (g_ 41), (g_ 42), (g_ 43), (g_ 44), (g_ 45), (g_ 46), (g_ 47), (g_ 48), (g_ 49), (g_ 50), (g_ 51), (g_ 52), (g_ 53), (g_ 54), (g_ 55), (g_ 56), (g_ 57), (g_ 58), (g_ 59)], []⟩ ∧ Step c w C412 w413 [] ∧ kq414 ≤ k ∧ (Ft C412 [0] w413 (fun w_ => (Kd.int .u8).C w_ A0 l0.length l0)) ∧ blazonlaw08_ExprBrackets.l0 kq414 l0 x411 = some r) ?step fun hL_ => ?init)
 case init =>
  exact jmpL (fun a_ h_ => hL_ k a_ _ h_) (fun g_ => ⟨_, 0, g_, rfl, HS, Nat.le_refl _, HP0, H⟩) rfl
 case step =>
  intro kq414 ih417 a418 w413 hr419
  obtain ⟨C412, x411, g_, rfl, HS415, hk416, HJ410, H⟩ := hr419
  refine looped_round ?_
  cases kq414 with
  | zero => exact absurd H (by simp [blazonlaw08_ExprBrackets.l0])
  | succ k420 =>
   simp only [blazonlaw08_ExprBrackets.l0] at H
   refine wp_seq_k fun K421 hK421 => ?_
   refine wp_seq_k fun K422 hK422 => ?_
   refine wl_region ?_
   refine mv_ rfl ?_
   refine mv_ rfl ?_
   refine st (.int .i64 (l0.length : Int)) rfl rfl (xr_builtin #[.slice A0 l0.length c0] (.int .i64 (l0.length : Int)) rfl (mp_ rfl) (by first | rfl | (go_simp; done) | (go_simp; rfl) | (go_simp; exact i64_w _) | (go_simp; exact i32_w _))) ?_
   refine st (.bool (decide (x411 < (l0.length : Int)))) rfl rfl (xr_bin _ _ _ rfl rfl rfl (B.lss_i64 _ _)) ?_
   simp only [ls0, ls1]
   refine wl_end ?_
   (try simp only [ls0, ls1])
   refine hK422 _ _ ?_
   (try clear hK422 K422)
   by_cases c423 : x411 < (l0.length : Int)
   ·rw [if_pos c423] at H
    (try rw [(decide_eq_true c423)])
    refine wp_cond_true rfl ?_
    refine wp_skip ?_
    (try simp only [ls0, ls1])
    refine hK421 _ _ ?_
    (try clear hK421 K421)
    refine wp_seq_k fun K424 hK424 => ?_
    refine wp_block ?_
    refine wp_seq_k fun K425 hK425 => ?_
    refine wl_region ?_
    refine mv_ rfl ?_
    refine mv_ rfl ?_
    obtain ⟨c426, H⟩ := if_some H
    obtain ⟨ad427, hA428⟩ := c_addr (Ft.now HJ410) (pos_of (j := x411) (by first | assumption | decide) (by first | assumption | omega))
    refine st (.pointer (some (ad427.add ((x411 : Int).toNat * 1)))) rfl rfl (xr_indexAddr _ _ _ rfl rfl rfl (index_at Try.underlying22 info5 hA428 (by first | assumption | decide | omega) (by first | assumption | decide | omega))) ?_
    refine st (.int .u8 (rd l0 x411)) rfl rfl (xr_load _ _ rfl rfl (load_int Try.underlying5 rfl hA428 (Ft.now HJ410) (by first | assumption | decide | omega) (by first | assumption | decide | omega))) ?_
    simp only [ls0, ls1]
    refine st (.bool (decide ((rd l0 x411) = 35))) rfl rfl (xr_bin _ _ _ rfl rfl rfl (B.eql_u8 _ _)) ?_
    refine wl_end ?_
    (try simp only [ls0, ls1])
    refine hK425 _ _ ?_
    (try clear hK425 K425)
    by_cases c429 : (rd l0 x411) = 35
    ·rw [if_pos c429] at H
     (try rw [(decide_eq_true c429)])
     refine wp_cond_true rfl ?_
     refine wp_seq_k fun K430 hK430 => ?_
     refine wl_region ?_
     obtain ⟨t431, A432, H⟩ := bnd H
     refine st_call #[] rfl rfl Try.func32 (by kernel_rfl) rfl rfl (mp_ rfl) ?_
     refine (blazonlaw08_awake.calls k420 t431  (fun z_ => pal [(0, 0)] (C412 z_)) w413 (fun _ => pal_lt rfl _) A432).mono ?_
     rintro _ w434 ⟨C435, rfl, hs436⟩
     refine ⟨_, rfl, ?_⟩
     replace hs436 := Step.lift (U := [(0, 0)]) hs436 [] rfl rfl
     generalize up C412 C435 w413.heap.size [(0, 0)] = C435_ at hs436
     replace HS415 := HS415.trans hs436 hc rfl
     (try simp only [ls0, ls1])
     refine as_ rfl ?_
     refine wl_end ?_
     (try simp only [ls0, ls1])
     refine hK430 _ _ ?_
     (try clear hK430 K430)
     refine wp_ret ?_
     (try simp only [Exit.inBlock, Exit.then, Exit.noGoto])
     (try simp only [ls0, ls1])
     obtain rfl := Option.some.inj H
     refine bodyPost_ret (results_tmp rfl _ _ _) rfl ?_
     exact ⟨_, rfl, HS415⟩
    rw [if_neg c429] at H
    (try rw [(decide_eq_false c429)])
    refine wp_cond_false rfl ?_
    refine wp_skip ?_
    (try simp only [ls0, ls1])
    refine hK424 _ _ ?_
    (try clear hK424 K424)
    refine wl_region ?_
    refine mv_ rfl ?_
    refine st (.int .i64 (wrap64 (x411 + 1))) rfl rfl (xr_bin _ _ _ rfl rfl rfl (B.add_i64 _ _)) ?_
    refine as_ rfl ?_
    refine wl_end ?_
    (try simp only [ls0, ls1])
    exact jmpL (fun a_ h_ => ih417 k420 (by omega) a_ _ h_) (fun g_ => ⟨_, wrap64 (x411 + 1), g_, rfl, HS415, (by omega), HJ410, H⟩) rfl
   rw [if_neg c423] at H
   (try rw [(decide_eq_false c423)])
   refine wp_cond_false rfl ?_
   refine wp_exit ?_
   (try simp only [ls0, ls1])
   refine hK310 _ _ ?_
   (try clear hK310 K310)
   refine wp_seq_k fun K437 hK437 => ?_
   refine wl_region ?_
   refine mv_ rfl ?_
   obtain ⟨⟨t438, t439, t440, t441, t442, t443, t444, t445⟩, A446, H⟩ := bnd H
   (try dsimp only at H)
   refine st_call #[.slice A0 l0.length c0] rfl rfl Try.func33 (by kernel_rfl) rfl rfl (mp_ rfl) ?_
   refine (expr_Parse.calls k420 A0 c0 l0 t438 t439 t440 t441 t442 t443 t444 t445  (fun z_ => pal [(0, 0)] (C412 z_)) w413 (fun _ => pal_lt rfl _) (Ft.arg HJ410 rfl) HCP0 A446).mono ?_
   rintro _ w448 ⟨C449, A451, cp452, rfl, hs450, HO453, HC454⟩
   refine ⟨_, rfl, ?_⟩
   replace HO453 := Ft.res (U := [(0, 0)]) HO453 hs450 [0] rfl rfl rfl
   replace hs450 := Step.lift (U := [(0, 0)]) hs450 [] rfl rfl
   generalize up C412 C449 w413.heap.size [(0, 0)] = C449_ at HO453 hs450
   replace HJ410 := HJ410.thru hs450 rfl
   replace HS415 := HS415.trans hs450 hc rfl
   (try simp only [ls0, ls1])
   refine mv_ rfl ?_
   refine st (.agg #[.int .i64 t438, .int .i64 t439, .int .i64 t440, .string t441, .string t442, .slice A451 t443.length cp452]) rfl rfl (xr_extract (.tuple #[.agg #[.int .i64 t438, .int .i64 t439, .int .i64 t440, .string t441, .string t442, .slice A451 t443.length cp452], .int .i64 t444, .int .i64 t445]) _ rfl rfl rfl) ?_
   refine st (.int .i64 t444) rfl rfl (xr_extract (.tuple #[.agg #[.int .i64 t438, .int .i64 t439, .int .i64 t440, .string t441, .string t442, .slice A451 t443.length cp452], .int .i64 t444, .int .i64 t445]) _ rfl rfl rfl) ?_
   refine st (.int .i64 t445) rfl rfl (xr_extract (.tuple #[.agg #[.int .i64 t438, .int .i64 t439, .int .i64 t440, .string t441, .string t442, .slice A451 t443.length cp452], .int .i64 t444, .int .i64 t445]) _ rfl rfl rfl) ?_
   simp only [ls0, ls1]
   refine bx_new (C := C449_) 44 ([.int .i64 0, .int .i64 0, .int .i64 0, .string (⟨#[]⟩ : ByteArray), .string (⟨#[]⟩ : ByteArray), .slice none 0 0]) 11 rfl rfl (by first | (go_simp; done) | (go_simp; rfl)) ?_
   intro g455 w456 C457 HX458 hs459
   replace HJ410 := HJ410.thru hs459 rfl
   replace HO453 := HO453.thru hs459 rfl
   replace HS415 := HS415.trans hs459 hc rfl
   (try simp only [ls0, ls1])
   refine bx_store (C := C457) (z := 11) (g := g455) (j := 0) (tb := 44) (u := .agg #[.int .i64 t438, .int .i64 t439, .int .i64 t440, .string t441, .string t442, .slice A451 t443.length cp452]) (seg := [.int .i64 t438, .int .i64 t439, .int .i64 t440, .string t441, .string t442, .slice A451 t443.length cp452]) (xs := [.int .i64 0, .int .i64 0, .int .i64 0, .string (⟨#[]⟩ : ByteArray), .string (⟨#[]⟩ : ByteArray), .slice none 0 0]) rfl rfl rfl rfl rfl rfl (by first | kernel_rfl | rfl) (by simp [Value.oneCell']) HX458 (by simp only [List.length_cons, List.length_nil]; omega) rfl ?_
   intro w460 HX461 hs462
   replace HJ410 := HJ410.thru hs462 rfl
   replace HO453 := HO453.thru hs462 rfl
   replace HS415 := HS415.trans hs462 hc rfl
   (try simp only [ls0, ls1])
   refine as_ rfl ?_
   refine as_ rfl ?_
   refine wl_end ?_
   (try simp only [ls0, ls1])
   refine hK437 _ _ ?_
   (try clear hK437 K437)
   refine wp_seq_k fun K463 hK463 => ?_
   refine wl_region ?_
   obtain ⟨y464, A465, H⟩ := bnd H
   refine Own.lit (Kd.int .u8) (C := C457) (i := 12) rfl 5 rfl (xs := [40]) (inner := [.int .u8 40]) (by first | (go_simp; done) | (go_simp; rfl)) (reps_cons (fk_int .u8 _ _ 40) rfl (Reps.none _ _)) (by simp only [List.length_cons, List.length_nil]; omega) (Option.some.inj A465) ?_
   intro A466 cp467 w468 C469 HO470 HC471 hs472
   replace HJ410 := HJ410.thru hs472 rfl
   replace HO453 := HO453.thru hs472 rfl
   replace HX461 := HX461.thru hs472 rfl
   replace HS415 := HS415.trans hs472 hc rfl
   (try simp only [ls0, ls1])
   refine mv_ rfl ?_
   obtain ⟨c473, H⟩ := if_some H
   obtain ⟨y474, A475, H⟩ := bnd H
   refine Own.append_rows (Kd.int .u8) (C := C469) (i := 12) rfl (.tmp 33) (.tmp 34) 22 5 (.int .u8 0) 1 rfl Try.underlying22 info5 rfl (by decide) (by decide) (.slice A466 y464.length cp467) y464 l0 A0 l0.length c0 rfl rfl HO470 HJ410 (by decide) (by omega) (Option.some.inj A475) ?_
   intro A476 cp477 w478 C479 HO480 HC481 hs482
   replace HO453 := HO453.thru hs482 rfl
   replace HX461 := HX461.thru hs482 rfl
   replace HS415 := HS415.trans hs482 hc rfl
   (try simp only [ls0, ls1])
   refine ev_run (w1 := w478.alloc (.cells #[.int .u8 41] 5)) (.slice (some ⟨w478.heap.size, 0, none⟩) 1 1) rfl rfl (by first | (go_simp; done) | (go_simp; rfl)) ?_
   (try simp only [Act.put, List.setIfInBounds_toArray, ls0, ls1])
   obtain ⟨c483, H⟩ := if_some H
   obtain ⟨y484, A485, H⟩ := bnd H
   refine Own.append (Kd.int .u8) (C := C479) (i := 12) rfl (.tmp 35) (.tmp 36) 22 5 (.int .u8 0) 1 rfl Try.underlying22 info5 rfl (by decide) (by decide) (.slice A476 y474.length cp477) y474 41 [.int .u8 41] rfl rfl (fk_int .u8 _ _ 41) HO480 (by decide) (by omega) (Option.some.inj A485) ?_
   intro A486 cp487 w488 C489 HO490 HC491 hs492
   replace HO453 := HO453.thru hs492 rfl
   replace HX461 := HX461.thru hs492 rfl
   replace HS415 := HS415.trans hs492 hc rfl
   (try simp only [ls0, ls1])
   replace HO453 := Ft.recol (a := 12) (b := 0) HO453 (.inl rfl)
   replace HX461 := Bx.recol (a := 12) (b := 0) HX461 (by decide)
   have HR493 := Ft.recolor (a := 12) (b := 0) (HO490.ft) [0] rfl
   replace HS415 := Step.recol (a := 12) (b := 0) HS415 hc (by decide)
   obtain ⟨⟨t494, t495, t496, t497, t498, t499, t500, t501⟩, A502, H⟩ := bnd H
   (try dsimp only at H)
   refine st_call #[.slice A486 y484.length cp487] rfl rfl Try.func33 (by kernel_rfl) rfl rfl (mp_ rfl) ?_
   refine (expr_Parse.calls k420 A486 cp487 y484 t494 t495 t496 t497 t498 t499 t500 t501  (fun z_ => pal [(0, 0)] ((recol C489 12 0) z_)) w488 (fun _ => pal_lt rfl _) (Ft.arg HR493 rfl) HC491 A502).mono ?_
   rintro _ w504 ⟨C505, A507, cp508, rfl, hs506, HO509, HC510⟩
   refine ⟨_, rfl, ?_⟩
   replace HO509 := Ft.res (U := [(0, 0)]) HO509 hs506 [0] rfl rfl rfl
   replace hs506 := Step.lift (U := [(0, 0)]) hs506 [] rfl rfl
   generalize up (recol C489 12 0) C505 w488.heap.size [(0, 0)] = C505_ at HO509 hs506
   replace HO453 := HO453.thru hs506 rfl
   replace HX461 := HX461.thru hs506 rfl
   replace HS415 := HS415.trans hs506 hc rfl
   (try simp only [ls0, ls1])
   refine mv_ rfl ?_
   refine st (.agg #[.int .i64 t494, .int .i64 t495, .int .i64 t496, .string t497, .string t498, .slice A507 t499.length cp508]) rfl rfl (xr_extract (.tuple #[.agg #[.int .i64 t494, .int .i64 t495, .int .i64 t496, .string t497, .string t498, .slice A507 t499.length cp508], .int .i64 t500, .int .i64 t501]) _ rfl rfl rfl) ?_
   refine st (.int .i64 t500) rfl rfl (xr_extract (.tuple #[.agg #[.int .i64 t494, .int .i64 t495, .int .i64 t496, .string t497, .string t498, .slice A507 t499.length cp508], .int .i64 t500, .int .i64 t501]) _ rfl rfl rfl) ?_
   refine st (.int .i64 t501) rfl rfl (xr_extract (.tuple #[.agg #[.int .i64 t494, .int .i64 t495, .int .i64 t496, .string t497, .string t498, .slice A507 t499.length cp508], .int .i64 t500, .int .i64 t501]) _ rfl rfl rfl) ?_
   simp only [ls0, ls1]
   refine bx_new (C := C505_) 44 ([.int .i64 0, .int .i64 0, .int .i64 0, .string (⟨#[]⟩ : ByteArray), .string (⟨#[]⟩ : ByteArray), .slice none 0 0]) 13 rfl rfl (by first | (go_simp; done) | (go_simp; rfl)) ?_
   intro g511 w512 C513 HX514 hs515
   replace HO453 := HO453.thru hs515 rfl
   replace HX461 := HX461.thru hs515 rfl
   replace HO509 := HO509.thru hs515 rfl
   replace HS415 := HS415.trans hs515 hc rfl
   (try simp only [ls0, ls1])
   refine bx_store (C := C513) (z := 13) (g := g511) (j := 0) (tb := 44) (u := .agg #[.int .i64 t494, .int .i64 t495, .int .i64 t496, .string t497, .string t498, .slice A507 t499.length cp508]) (seg := [.int .i64 t494, .int .i64 t495, .int .i64 t496, .string t497, .string t498, .slice A507 t499.length cp508]) (xs := [.int .i64 0, .int .i64 0, .int .i64 0, .string (⟨#[]⟩ : ByteArray), .string (⟨#[]⟩ : ByteArray), .slice none 0 0]) rfl rfl rfl rfl rfl rfl (by first | kernel_rfl | rfl) (by simp [Value.oneCell']) HX514 (by simp only [List.length_cons, List.length_nil]; omega) rfl ?_
   intro w516 HX517 hs518
   replace HO453 := HO453.thru hs518 rfl
   replace HX461 := HX461.thru hs518 rfl
   replace HO509 := HO509.thru hs518 rfl
   replace HS415 := HS415.trans hs518 hc rfl
   (try simp only [ls0, ls1])
   refine as_ rfl ?_
   refine as_ rfl ?_
   refine wl_end ?_
   (try simp only [ls0, ls1])
   refine hK463 _ _ ?_
   (try clear hK463 K463)
   refine wp_seq_k fun K519 hK519 => ?_
   refine wp_seq_k fun K543 hK543 => ?_
   have hj545 : ∀ (kq554 : Nat) (C546 : Nat → Nat) (w547 : World) (x549 : Bool) (g_ : Nat → Value), Step c w C546 w547 [] → kq554 ≤ k420 → (Ft C546 [0] w547 (fun w_ => k44.C w_ A451 t443.length t443)) → (Bx C546 11 w547 g455 44 ([.int .i64 t438, .int .i64 t439, .int .i64 t440, .string t441, .string t442, .slice A451 t443.length cp452])) → (Ft C546 [0] w547 (fun w_ => k44.C w_ A507 t499.length t499)) → (Bx C546 13 w547 g511 44 ([.int .i64 t494, .int .i64 t495, .int .i64 t496, .string t497, .string t498, .slice A507 t499.length cp508])) → blazonlaw08_ExprBrackets.j0 kq554 t438 t439 t440 t441 t442 t443 t494 t495 t496 t497 t498 t499 t501 x549 = some r → K543 ⟨#[(g_ 0), (g_ 1), (g_ 2), (g_ 3), .pointer (some ⟨g455, 0, none⟩), (g_ 5), (g_ 6), .pointer (some ⟨g511, 0, none⟩), (g_ 8), .int .i64 t501, (g_ 10), (g_ 11), (g_ 12), (g_ 13), (g_ 14), (g_ 15), (g_ 16), (g_ 17), (g_ 18), (g_ 19), (g_ 20), (g_ 21), (g_ 22), (g_ 23), (g_ 24), (g_ 25), (g_ 26), (g_ 27), (g_ 28), (g_ 29), (g_ 30), (g_ 31), (g_ 32), (g_ 33), (g_ 34), (g_ 35), (g_ 36), (g_ 37), (g_ 38), (g_ 39), (g_ 40), (g_ 41), (g_ 42), (g_ 43), (g_ 44), (g_ 45), (g_ 46), .bool x549, (g_ 48), (g_ 49), (g_ 50), (g_ 51), (g_ 52), (g_ 53), (g_ 54), (g_ 55), (g_ 56), (g_ 57), (g_ 58), (g_ 59)], []⟩ w547 := by
    intro kq554 C546 w547 x549 g_ HS548 hk555 HJ550 HJ551 HJ552 HJ553 H
    cases kq554 with
    | zero => exact absurd H (by simp [blazonlaw08_ExprBrackets.j0])
    | succ k556 =>
     simp only [blazonlaw08_ExprBrackets.j0] at H
     refine hK543 _ _ ?_
     (try clear hK543)
     by_cases c557 : x549 = true
     ·rw [if_pos c557] at H
      (try rw [c557])
      refine wp_cond_true rfl ?_
      refine wp_seq_k fun K558 hK558 => ?_
      refine wl_region ?_
      obtain ⟨t559, A560, H⟩ := bnd H
      refine st_call #[] rfl rfl Try.func32 (by kernel_rfl) rfl rfl (mp_ rfl) ?_
      refine (blazonlaw08_awake.calls k556 t559  (fun z_ => pal [(0, 0)] (C546 z_)) w547 (fun _ => pal_lt rfl _) A560).mono ?_
      rintro _ w562 ⟨C563, rfl, hs564⟩
      refine ⟨_, rfl, ?_⟩
      replace hs564 := Step.lift (U := [(0, 0)]) hs564 [] rfl rfl
      generalize up C546 C563 w547.heap.size [(0, 0)] = C563_ at hs564
      replace HJ551 := HJ551.thru hs564 rfl
      replace HJ550 := HJ550.thru hs564 rfl
      replace HJ553 := HJ553.thru hs564 rfl
      replace HJ552 := HJ552.thru hs564 rfl
      replace HS548 := HS548.trans hs564 hc rfl
      (try simp only [ls0, ls1])
      refine as_ rfl ?_
      refine wl_end ?_
      (try simp only [ls0, ls1])
      refine hK558 _ _ ?_
      (try clear hK558 K558)
      refine wp_ret ?_
      (try simp only [Exit.inBlock, Exit.then, Exit.noGoto])
      (try simp only [ls0, ls1])
      obtain rfl := Option.some.inj H
      refine bodyPost_ret (results_tmp rfl _ _ _) rfl ?_
      exact ⟨_, rfl, HS548⟩
     rw [if_neg c557] at H
     (try rw [(Bool.eq_false_iff.mpr c557)])
     refine wp_cond_false rfl ?_
     refine wp_skip ?_
     (try simp only [ls0, ls1])
     refine hK519 _ _ ?_
     (try clear hK519 K519)
     refine wp_seq_k fun K565 hK565 => ?_
     (try simp only [ls0, ls1])
     refine al_start (lb 12 0) rfl rfl rfl (fun w_ => w_.heap[g455]? = some (.cells (List.toArray ([.int .i64 t438, .int .i64 t439, .int .i64 t440, .string t441, .string t442, .slice A451 t443.length cp452])) 44 (0, 0)) ∧ w_.heap[g511]? = some (.cells (List.toArray ([.int .i64 t494, .int .i64 t495, .int .i64 t496, .string t497, .string t498, .slice A507 t499.length cp508])) 44 (0, 0))) ⟨(HJ551.drew).2, (HJ553.drew).2⟩ [9] ?_
     replace HJ551 := HJ551.drew
     replace HJ550 := HJ550.drew
     replace HJ553 := HJ553.drew
     replace HJ552 := HJ552.drew
     replace HS548 := Step.ofDrew HS548
     generalize w547.drew = w566 at *
     refine al_mv 0 (lb 12 1) rfl rfl (by kernel_rfl) (fun _ _ _ => id) rfl ?_
     refine al_pure 1 50 (.bool (decide (t501 = 0))) (lb 12 3) rfl rfl (by kernel_rfl) (fun _ _ _ => id) rfl (fun w_ => xr_bin _ _ _ rfl rfl rfl (B.eql_i64 _ _)) ?_
     refine al_mv 2 (lb 12 7) rfl rfl (by kernel_rfl) (fun _ _ _ => id) rfl ?_
     by_cases c567 : t501 = 0
     ·rw [if_pos c567] at H
      (try rw [(decide_eq_true c567)])
      refine al_take 3 52 (.agg #[.int .i64 t438, .int .i64 t439, .int .i64 t440, .string t441, .string t442, .slice A451 t443.length cp452]) (lb 12 15) rfl rfl (by kernel_rfl) (fun _ _ _ => id) (guard_on 2 true 51 rfl rfl rfl) (fun w_ hS_ => xr_load _ _ rfl rfl (load_agg (cs := [.int .i64 t438, .int .i64 t439, .int .i64 t440, .string t441, .string t442, .slice A451 t443.length cp452]) Try.underlying44 rfl (by kernel_rfl) (bx_cells hS_.1 0 rfl))) ⟨(HJ551).2, (HJ553).2⟩ ?_
      simp only [ls0, ls1]
      refine al_take 5 54 (.agg #[.int .i64 t494, .int .i64 t495, .int .i64 t496, .string t497, .string t498, .slice A507 t499.length cp508]) (lb 12 47) rfl rfl (by kernel_rfl) (fun _ _ _ => id) (guard_on 2 true 51 rfl rfl rfl) (fun w_ hS_ => xr_load _ _ rfl rfl (load_agg (cs := [.int .i64 t494, .int .i64 t495, .int .i64 t496, .string t497, .string t498, .slice A507 t499.length cp508]) Try.underlying44 rfl (by kernel_rfl) (bx_cells hS_.2 0 rfl))) ⟨(HJ551).2, (HJ553).2⟩ ?_
      obtain ⟨⟨t568, t569, t570, t571, t572, t573⟩, A574, H⟩ := bnd H
      (try dsimp only at H)
      refine al_one 4 (lb 12 63) rfl rfl (by kernel_rfl) rfl (fun K_ hK_ => ?_)
      refine goes_ Try.func38 (by kernel_rfl) rfl #[.agg #[.int .i64 t438, .int .i64 t439, .int .i64 t440, .string t441, .string t442, .slice A451 t443.length cp452]] (guard_on 2 true 51 rfl rfl rfl) rfl rfl (mpe_ rfl) ?_
      refine (blazonlaw08_later.calls k556 t438 t439 t440 t441 t442 A451 cp452 t443 t568 t569 t570 t571 t572 t573  (fun z_ => pal [(0, 0)] (C546 z_)) w566 (fun _ => pal_lt rfl _) (Ft.arg HJ550 rfl) HC454 A574).mono ?_
      rintro _ w576 ⟨C577, A579, cp580, rfl, hs578, HO581, HC582⟩
      refine ⟨_, rfl, ?_⟩
      replace HO581 := Own.res (U := [(0, 0), (5, 14)]) (j := 14) HO581 hs578 (by rfl) (by decide) rfl rfl
      replace hs578 := Step.lift (U := [(0, 0), (5, 14)]) hs578 [] rfl rfl
      generalize up C546 C577 w566.heap.size [(0, 0), (5, 14)] = C577_ at HO581 hs578
      replace HJ551 := HJ551.thru hs578 rfl
      replace HJ550 := HJ550.thru hs578 rfl
      replace HJ553 := HJ553.thru hs578 rfl
      replace HJ552 := HJ552.thru hs578 rfl
      replace HS548 := HS548.trans hs578 hc rfl
      refine hK_ _ _ ⟨(HJ551).2, (HJ553).2⟩ ?_
      clear hK_ K_
      (try simp only [Act.put, List.setIfInBounds_toArray, ls0, ls1])
      obtain ⟨t583, A584, H⟩ := bnd H
      refine al_one 6 (lb 12 127) rfl rfl (by kernel_rfl) rfl (fun K_ hK_ => ?_)
      refine goes_ Try.func35 (by kernel_rfl) rfl #[.agg #[.int .i64 t568, .int .i64 t569, .int .i64 t570, .string t571, .string t572, .slice A579 t573.length cp580], .agg #[.int .i64 t494, .int .i64 t495, .int .i64 t496, .string t497, .string t498, .slice A507 t499.length cp508]] (guard_on 2 true 51 rfl rfl rfl) rfl rfl (mpe_ rfl) ?_
      refine (blazonref08_Same.calls k556 t568 t569 t570 t571 t572 A579 cp580 t573 t494 t495 t496 t497 t498 A507 cp508 t499 t583  (fun z_ => pal [(0, 0), (14, 0)] (C577_ z_)) w576 (fun _ => pal_lt rfl _) (Ft.arg (HO581.ft) rfl) HC582 (Ft.arg HJ552 rfl) HC510 A584).mono ?_
      rintro _ w586 ⟨C587, rfl, hs588⟩
      refine ⟨_, rfl, ?_⟩
      replace hs588 := Step.lift (U := [(0, 0)]) hs588 [] rfl rfl
      generalize up C577_ C587 w576.heap.size [(0, 0)] = C587_ at hs588
      replace HJ551 := HJ551.thru hs588 rfl
      replace HJ550 := HJ550.thru hs588 rfl
      replace HJ553 := HJ553.thru hs588 rfl
      replace HJ552 := HJ552.thru hs588 rfl
      replace HS548 := HS548.trans hs588 hc rfl
      refine hK_ _ _ ⟨(HJ551).2, (HJ553).2⟩ ?_
      clear hK_ K_
      (try simp only [Act.put, List.setIfInBounds_toArray, ls0, ls1])
      refine al_pure 7 56 (.bool t583) (lb 12 255) rfl rfl (by kernel_rfl) (fun _ _ _ => id) rfl (fun w_ => xr_pick true _ rfl rfl rfl) ?_
      refine al_mv 8 (lb 12 511) rfl rfl (by kernel_rfl) (fun _ _ _ => id) rfl ?_
      by_cases c589 : t583 = true
      ·rw [if_pos c589] at H
       (try rw [c589])
       obtain ⟨t590, A591, H⟩ := bnd H
       refine al_last 9 (lb 12 1023) rfl rfl (by kernel_rfl) rfl (fun K_ hK_ => ?_)
       refine goes_ Try.func32 (by kernel_rfl) rfl #[] (guard_on 8 true 57 rfl rfl rfl) rfl rfl (mpe_ rfl) ?_
       refine (blazonlaw08_awake.calls k556 t590  (fun z_ => pal [(0, 0)] (C587_ z_)) w586 (fun _ => pal_lt rfl _) A591).mono ?_
       rintro _ w593 ⟨C594, rfl, hs595⟩
       refine ⟨_, rfl, ?_⟩
       replace hs595 := Step.lift (U := [(0, 0)]) hs595 [] rfl rfl
       generalize up C587_ C594 w586.heap.size [(0, 0)] = C594_ at hs595
       replace HJ551 := HJ551.thru hs595 rfl
       replace HJ550 := HJ550.thru hs595 rfl
       replace HJ553 := HJ553.thru hs595 rfl
       replace HJ552 := HJ552.thru hs595 rfl
       replace HS548 := HS548.trans hs595 hc rfl
       refine hK_ _ _ ?_
       clear hK_ K_
       (try simp only [Act.put, List.setIfInBounds_toArray, ls0, ls1])
       refine al_pure 10 59 (.bool t590) (lb 12 2047) rfl rfl (by kernel_rfl) (fun _ _ _ => id) rfl (fun w_ => xr_pick true _ rfl rfl rfl) ?_
       refine al_as 11 (lb 12 4095) rfl rfl (by kernel_rfl) (fun _ _ _ => id) rfl ?_
       refine al_end (by kernel_rfl) ?_
       (try simp only [ls0, ls1])
       refine hK565 _ _ ?_
       (try clear hK565 K565)
       refine wp_ret ?_
       (try simp only [Exit.inBlock, Exit.then, Exit.noGoto])
       (try simp only [ls0, ls1])
       obtain rfl := Option.some.inj H
       refine bodyPost_ret (results_tmp rfl _ _ _) rfl ?_
       exact ⟨_, rfl, HS548⟩
      rw [if_neg c589] at H
      (try rw [(Bool.eq_false_iff.mpr c589)])
      refine al_off 9 58 (lb 12 1023) rfl rfl (by kernel_rfl) (fun _ _ _ => id) (guard_off 8 true 57 rfl rfl false (by decide) rfl) ?_
      refine al_pure 10 59 (.bool false) (lb 12 2047) rfl rfl (by kernel_rfl) (fun _ _ _ => id) rfl (fun w_ => xr_pick false _ rfl rfl rfl) ?_
      refine al_as 11 (lb 12 4095) rfl rfl (by kernel_rfl) (fun _ _ _ => id) rfl ?_
      refine al_end (by kernel_rfl) ?_
      (try simp only [ls0, ls1])
      refine hK565 _ _ ?_
      (try clear hK565 K565)
      refine wp_ret ?_
      (try simp only [Exit.inBlock, Exit.then, Exit.noGoto])
      (try simp only [ls0, ls1])
      obtain rfl := Option.some.inj H
      refine bodyPost_ret (results_tmp rfl _ _ _) rfl ?_
      exact ⟨_, rfl, HS548⟩
     rw [if_neg c567] at H
     (try rw [(decide_eq_false c567)])
     refine al_off 3 52 (lb 12 15) rfl rfl (by kernel_rfl) (fun _ _ _ => id) (guard_off 2 true 51 rfl rfl false (by decide) rfl) ?_
     refine al_off 4 53 (lb 12 31) rfl rfl (by kernel_rfl) (fun _ _ _ => id) (guard_off 2 true 51 rfl rfl false (by decide) rfl) ?_
     refine al_off 5 54 (lb 12 63) rfl rfl (by kernel_rfl) (fun _ _ _ => id) (guard_off 2 true 51 rfl rfl false (by decide) rfl) ?_
     refine al_off 6 55 (lb 12 127) rfl rfl (by kernel_rfl) (fun _ _ _ => id) (guard_off 2 true 51 rfl rfl false (by decide) rfl) ?_
     simp only [ls0, ls1]
     refine al_pure 7 56 (.bool false) (lb 12 255) rfl rfl (by kernel_rfl) (fun _ _ _ => id) rfl (fun w_ => xr_pick false _ rfl rfl rfl) ?_
     refine al_mv 8 (lb 12 511) rfl rfl (by kernel_rfl) (fun _ _ _ => id) rfl ?_
     refine al_off 9 58 (lb 12 1023) rfl rfl (by kernel_rfl) (fun _ _ _ => id) (guard_off 8 true 57 rfl rfl false (by decide) rfl) ?_
     refine al_pure 10 59 (.bool false) (lb 12 2047) rfl rfl (by kernel_rfl) (fun _ _ _ => id) rfl (fun w_ => xr_pick false _ rfl rfl rfl) ?_
     simp only [ls0, ls1]
     refine al_as 11 (lb 12 4095) rfl rfl (by kernel_rfl) (fun _ _ _ => id) rfl ?_
     refine al_end (by kernel_rfl) ?_
     (try simp only [ls0, ls1])
     refine hK565 _ _ ?_
     (try clear hK565 K565)
     refine wp_ret ?_
     (try simp only [Exit.inBlock, Exit.then, Exit.noGoto])
     (try simp only [ls0, ls1])
     obtain rfl := Option.some.inj H
     refine bodyPost_ret (results_tmp rfl _ _ _) rfl ?_
     exact ⟨_, rfl, HS548⟩
   refine wl_region ?_
   refine mv_ rfl ?_
   refine st (.bool (!decide (t445 = 0))) rfl rfl (xr_bin _ _ _ rfl rfl rfl (B.neq_i64 _ _)) ?_
   refine mv_ rfl ?_
   by_cases c596 : t445 = 0
   ·rw [if_pos c596] at H
    (try rw [(decide_eq_true c596)])
    (try simp only [Bool.not_true, Bool.not_false])
    refine on_guard (guard_on 2 false 44 rfl rfl rfl) ?_
    refine mv_ rfl ?_
    simp only [ls0, ls1]
    refine on_guard (guard_on 2 false 44 rfl rfl rfl) ?_
    refine st (.bool (decide (t501 = 12))) rfl rfl (xr_bin _ _ _ rfl rfl rfl (B.eql_i64 _ _)) ?_
    refine st (.bool (decide (t501 = 12))) rfl rfl (xr_pick false _ rfl rfl rfl) ?_
    refine wl_end ?_
    (try simp only [ls0, ls1])
    exact jmp (fun g_ => hj545 _ _ _ (decide (t501 = 12)) g_ HS415 (by omega) HO453 HX461 HO509 HX517 H) rfl
   rw [if_neg c596] at H
   (try rw [(decide_eq_false c596)])
   (try simp only [Bool.not_true, Bool.not_false])
   refine sk_guard (guard_off 2 false 44 rfl rfl true (by decide) rfl) rfl ?_
   refine sk_guard (guard_off 2 false 44 rfl rfl true (by decide) rfl) rfl ?_
   refine st (.bool true) rfl rfl (xr_pick true _ rfl rfl rfl) ?_
   refine wl_end ?_
   (try simp only [ls0, ls1])
   exact jmp (fun g_ => hj545 _ _ _ (true) g_ HS415 (by omega) HO453 HX461 HO509 HX517 H) rfl
/-- THE ONE PURE STATEMENT of blazonlaw08_ExprBrackets. -/
def blazonlaw08_ExprBrackets.Pure : Prop := ∀ (l0 : List Int), l0.length ≤ maxLen → l0.length * 1 ≤ 140737488351232 → (∀ x ∈ l0, (Lit.int .u8 x).wf = true) → ∃ k, blazonlaw08_ExprBrackets.f k l0 = some true
theorem blazonlaw08_ExprBrackets.walk (P : blazonlaw08_ExprBrackets.Pure) (a0 : Option Addr) (len0 cap0 : Nat) (z0 : List Int) (w : World) (w0 : (a0 = none ∧ len0 = 0 ∧ cap0 = 0 ∧ z0 = []) ∨ ∃ x, a0 = some x ∧ len0 ≤ cap0 ∧ cap0 ≤ maxLen ∧ z0.length = cap0 ∧ (∀ i, i < z0.length → w.cell? (x.add i) = some (.int .u8 (z0.getD i 0))) ∧ ∀ n ∈ z0, (Lit.int .u8 n).wf = true) (y0 : len0 * 1 ≤ 140737488351232) :
    Calls Try.prog 9 #[.slice a0 len0 cap0] w fun e w' => e = .returned (.bool true) ∧ Below w.heap.size w w' := by
  obtain ⟨l0, rfl, hr0, hm0, hw0, hc0⟩ := ReadsInt.ofRowC w0
  obtain ⟨k, h⟩ := P l0 hm0 y0 hw0
  refine (blazonlaw08_ExprBrackets.calls k _ _ l0 true (fun _ => 0) w (fun _ => (by decide : (0 : Nat) < 10)) (Ft.of_C (Kd.heap_int .u8) (Kd.C_of_reads (d := (0 : Int)) (h1 := fun _ => rfl) hr0)) hc0 h).mono ?_
  rintro e w' ⟨c', rfl, hs⟩
  exact ⟨rfl, hs.below (fun _ => by simp)⟩

end Go.Proofs.Yteoccoklbmjiaaa.PExb
