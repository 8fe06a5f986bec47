-- By cprint.py, a program of this work. Lean checks it.
import Derived.Test.YteoccoklbmjiaaaPStnx0
import Derived.Test.YteoccoklbmjiaaaPStnx2
namespace Go.Proofs.Yteoccoklbmjiaaa.PStn
open Go.RowKit Go.Proofs.YteoccoklbmjiaaaW.PrintWords Go.Proofs.YteoccoklbmjiaaaW.PrintLast Go.Proofs.YteoccoklbmjiaaaW.PrintMore
set_option linter.unusedVariables false
set_option linter.unusedSimpArgs false

/-! ### stmt_Mark: function 60 -/
def stmt_Mark.j0 : Nat → Int → (List Int) → (List (S28)) → Int → Int → Bool → Int → Bool → Option (Bool × Bool × ByteArray × Int × Int × Int × Int)
  | 0, _, _, _, _, _, _, _, _ => none
  | k + 1, a0_3, l0_0, l0_1, t180, t187, x267, x270, x273 => if x267 = true then (some (false, x273, (⟨#[]⟩ : ByteArray), t180, t187, 0, x270)) else ((expr_Cursor_Pos.f (some (⟨l0_0, l0_1, x270, a0_3⟩ : S111) : Option S111)).bind fun t285 => ((stmt_name_fp82_2.f k l0_0 l0_1 x270 a0_3 true x273 (⟨#[]⟩ : ByteArray) t285 t187).bind fun bt299 => (if bt299.1 = 0 then ((expr_Cursor_End.f (some (⟨l0_0, l0_1, bt299.2.1, a0_3⟩ : S111) : Option S111)).bind fun t313 => (some (true, x273, bt299.2.2, t285, t313, 0, bt299.2.1))) else (some (false, false, (⟨#[]⟩ : ByteArray), 0, 0, bt299.1, bt299.2.1)))))
def stmt_Mark.f (k : Nat) (l0_0 : List Int) (l0_1 : List (S28)) (a0_2 : Int) (a0_3 : Int) : Option (Bool × Bool × ByteArray × Int × Int × Int × Int) := (expr_Cursor_End.f (some (⟨l0_0, l0_1, a0_2, a0_3⟩ : S111) : Option S111)).bind fun t180 => ((expr_Cursor_End.f (some (⟨l0_0, l0_1, a0_2, a0_3⟩ : S111) : Option S111)).bind fun t187 => ((expr_Cursor_Take.f l0_0 l0_1 a0_2 a0_3 (⟨#[64, 61]⟩ : ByteArray)).bind fun bt202 => (if bt202.1 = true then (stmt_Mark.j0 k a0_3 l0_0 l0_1 t180 t187 false bt202.2 true) else ((expr_Cursor_Take.f l0_0 l0_1 bt202.2 a0_3 (⟨#[64]⟩ : ByteArray)).bind fun bt331 => (stmt_Mark.j0 k a0_3 l0_0 l0_1 t180 t187 (!bt331.1) bt331.2 false)))))

set_option maxHeartbeats 8000000 in
set_option maxRecDepth 100000 in
theorem stmt_Mark.calls (k : Nat) (g0 : Nat) (A0_0 : Option Addr) (c0_0 : Nat) (l0_0 : List Int) (A0_1 : Option Addr) (c0_1 : Nat) (l0_1 : List (S28)) (a0_2 : Int) (a0_3 : Int) (r1 : Bool) (r2 : Bool) (r3 : ByteArray) (r4 : Int) (r5 : Int) (r6 : Int) (r7 : Int) (c : Nat → Nat) (w : World) (hc : ∀ k, c k < 10) (HP0 : Bx c 1 w g0 111 ([.slice A0_0 l0_0.length c0_0, .slice A0_1 l0_1.length c0_1, .int .i64 a0_2, .int .i64 a0_3])) (HP0_0 : Ft c [0] w (fun w_ => (Kd.int .u8).C w_ A0_0 l0_0.length l0_0)) (HCP0_0 : l0_0.length ≤ c0_0) (HP0_1 : Ft c [0] w (fun w_ => k28.C w_ A0_1 l0_1.length l0_1)) (HCP0_1 : l0_1.length ≤ c0_1) (H : stmt_Mark.f k l0_0 l0_1 a0_2 a0_3 = some (r1, r2, r3, r4, r5, r6, r7)) :
    Calls Try.prog 60 #[.pointer (some ⟨g0, 0, none⟩)] w fun e w' => ∃ (c' : Nat → Nat) , e = .returned (.tuple #[.agg #[.bool r1, .bool r2, .string r3, .int .i64 r4, .int .i64 r5], .int .i64 r6]) ∧ Step c w c' w' [1] ∧ Bx c' 1 w' g0 111 ([.slice A0_0 l0_0.length c0_0, .slice A0_1 l0_1.length c0_1, .int .i64 r7, .int .i64 a0_3]) := by
 unfold stmt_Mark.f at H
 have HS := Step.refl c w [1]
 go_enter Try.func60, Try.ntmps60
 refine wp_seq_k fun K170 hK170 => ?_
 refine wl_region ?_
 refine bx_new (C := c) 82 ([.bool false, .bool false, .string (⟨#[]⟩ : ByteArray), .int .i64 0, .int .i64 0]) 11 rfl rfl (by first | (go_simp; done) | (go_simp; rfl)) ?_
 intro g171 w172 C173 HX174 hs175
 replace HP0 := HP0.thru hs175 rfl
 replace HP0_0 := HP0_0.thru hs175 rfl
 replace HP0_1 := HP0_1.thru hs175 rfl
 replace HS := HS.trans hs175 hc rfl
 (try simp only [ls0, ls1])
 refine st (.int .i64 0) rfl rfl (xr_assign _ rfl rfl) ?_
 refine wl_end ?_
 (try simp only [ls0, ls1])
 refine hK170 _ _ ?_
 (try clear hK170 K170)
 refine wp_seq_k fun K176 hK176 => ?_
 refine wp_seq_k fun K177 hK177 => ?_
 refine wl_region ?_
 refine mv_ rfl ?_
 refine st (.bool false) rfl rfl (xr_bin (.pointer (some ⟨g0, 0, none⟩)) (.pointer none) (.bool false) rfl rfl rfl (B.eql_pn ⟨_, Try.underlying57⟩ ⟨g0, 0, none⟩)) ?_
 refine wl_end ?_
 (try simp only [ls0, ls1])
 refine hK177 _ _ ?_
 (try clear hK177 K177)
 refine wp_cond_false rfl ?_
 refine wp_skip ?_
 (try simp only [ls0, ls1])
 refine hK176 _ _ ?_
 (try clear hK176 K176)
 refine wp_seq_k fun K178 hK178 => ?_
 refine wl_region ?_
 refine mv_ rfl ?_
 have HP179 : Ft C173 [0, 1] w172 (fun w_ => (Kd.ptr 111 k111).K w_ (some (⟨l0_0, l0_1, a0_2, a0_3⟩ : S111)) [.pointer (some ⟨g0, 0, none⟩)]) := ptr_mk (Ft.more (HP0.ft) rfl) (k111_mkF _ _ (⟨l0_0, l0_1, a0_2, a0_3⟩ : S111) HCP0_0 (Ft.more HP0_0 rfl) HCP0_1 (Ft.more HP0_1 rfl))
 obtain ⟨t180, A181, H⟩ := bnd H
 refine st_call #[.pointer (some ⟨g0, 0, none⟩)] rfl rfl Try.func50 (by kernel_rfl) rfl rfl (mp_ rfl) ?_
 refine (expr_Cursor_End.calls (.pointer (some ⟨g0, 0, none⟩)) (some (⟨l0_0, l0_1, a0_2, a0_3⟩ : S111) : Option S111) t180  (fun z_ => pal [(0, 0), (1, 0)] (C173 z_)) w172 (fun _ => pal_lt rfl _) (Ft.arg HP179 rfl) A181).mono ?_
 rintro _ w183 ⟨C184, rfl, hs185⟩
 refine ⟨_, rfl, ?_⟩
 replace hs185 := Step.lift (U := [(0, 0)]) hs185 [] rfl rfl
 generalize up C173 C184 w172.heap.size [(0, 0)] = C184_ at hs185
 replace HP0 := HP0.thru hs185 rfl
 replace HP0_0 := HP0_0.thru hs185 rfl
 replace HP0_1 := HP0_1.thru hs185 rfl
 replace HX174 := HX174.thru hs185 rfl
 replace HS := HS.trans hs185 hc rfl
 (try simp only [ls0, ls1])
 refine mv_ rfl ?_
 have HP186 : Ft C184_ [0, 1] w183 (fun w_ => (Kd.ptr 111 k111).K w_ (some (⟨l0_0, l0_1, a0_2, a0_3⟩ : S111)) [.pointer (some ⟨g0, 0, none⟩)]) := ptr_mk (Ft.more (HP0.ft) rfl) (k111_mkF _ _ (⟨l0_0, l0_1, a0_2, a0_3⟩ : S111) HCP0_0 (Ft.more HP0_0 rfl) HCP0_1 (Ft.more HP0_1 rfl))
 obtain ⟨t187, A188, H⟩ := bnd H
 refine st_call #[.pointer (some ⟨g0, 0, none⟩)] rfl rfl Try.func50 (by kernel_rfl) rfl rfl (mp_ rfl) ?_
 refine (expr_Cursor_End.calls (.pointer (some ⟨g0, 0, none⟩)) (some (⟨l0_0, l0_1, a0_2, a0_3⟩ : S111) : Option S111) t187  (fun z_ => pal [(0, 0), (1, 0)] (C184_ z_)) w183 (fun _ => pal_lt rfl _) (Ft.arg HP186 rfl) A188).mono ?_
 rintro _ w190 ⟨C191, rfl, hs192⟩
 refine ⟨_, rfl, ?_⟩
 replace hs192 := Step.lift (U := [(0, 0)]) hs192 [] rfl rfl
 generalize up C184_ C191 w183.heap.size [(0, 0)] = C191_ at hs192
 replace HP0 := HP0.thru hs192 rfl
 replace HP0_0 := HP0_0.thru hs192 rfl
 replace HP0_1 := HP0_1.thru hs192 rfl
 replace HX174 := HX174.thru hs192 rfl
 replace HS := HS.trans hs192 hc rfl
 (try simp only [ls0, ls1])
 refine st (.agg #[.bool false, .bool false, .string (⟨#[]⟩ : ByteArray), .int .i64 t180, .int .i64 t187]) rfl rfl (xr_build #[(3, .int .i64 t180), (4, .int .i64 t187)] (.agg #[.bool false, .bool false, .string (⟨#[]⟩ : ByteArray), .int .i64 t180, .int .i64 t187]) rfl (mp_ rfl) (by first | rfl | (go_simp; done) | (go_simp; rfl) | (go_simp; exact i64_w _) | (go_simp; exact i32_w _))) ?_
 refine bx_new (C := C191_) 82 ([.bool false, .bool false, .string (⟨#[]⟩ : ByteArray), .int .i64 0, .int .i64 0]) 12 rfl rfl (by first | (go_simp; done) | (go_simp; rfl)) ?_
 intro g193 w194 C195 HX196 hs197
 replace HP0 := HP0.thru hs197 rfl
 replace HP0_0 := HP0_0.thru hs197 rfl
 replace HP0_1 := HP0_1.thru hs197 rfl
 replace HX174 := HX174.thru hs197 rfl
 replace HS := HS.trans hs197 hc rfl
 (try simp only [ls0, ls1])
 refine bx_store (C := C195) (z := 12) (g := g193) (j := 0) (tb := 82) (u := .agg #[.bool false, .bool false, .string (⟨#[]⟩ : ByteArray), .int .i64 t180, .int .i64 t187]) (seg := [.bool false, .bool false, .string (⟨#[]⟩ : ByteArray), .int .i64 t180, .int .i64 t187]) (xs := [.bool false, .bool false, .string (⟨#[]⟩ : ByteArray), .int .i64 0, .int .i64 0]) rfl rfl rfl rfl rfl rfl (by first | kernel_rfl | rfl) (by simp [Value.oneCell']) HX196 (by simp only [List.length_cons, List.length_nil]; omega) rfl ?_
 intro w198 HX199 hs200
 replace HP0 := HP0.thru hs200 rfl
 replace HP0_0 := HP0_0.thru hs200 rfl
 replace HP0_1 := HP0_1.thru hs200 rfl
 replace HX174 := HX174.thru hs200 rfl
 replace HS := HS.trans hs200 hc rfl
 (try simp only [ls0, ls1])
 refine wl_end ?_
 (try simp only [ls0, ls1])
 refine hK178 _ _ ?_
 (try clear hK178 K178)
 refine wp_seq_k fun K201 hK201 => ?_
 refine wl_region ?_
 refine mv_ rfl ?_
 obtain ⟨⟨t202, t203⟩, A204, H⟩ := bnd H
 (try dsimp only at H)
 refine st_call #[.pointer (some ⟨g0, 0, none⟩), .string (⟨#[64, 61]⟩ : ByteArray)] rfl rfl Try.func48 (by kernel_rfl) rfl rfl (mp_ rfl) ?_
 refine (expr_Cursor_Take.calls g0 A0_0 c0_0 l0_0 A0_1 c0_1 l0_1 a0_2 a0_3 (⟨#[64, 61]⟩ : ByteArray) t202 t203  (fun z_ => pal [(0, 0), (1, 1)] (C195 z_)) w198 (fun _ => pal_lt rfl _) (Bx.arg HP0 rfl) (Ft.arg HP0_0 rfl) HCP0_0 (Ft.arg HP0_1 rfl) HCP0_1 A204).mono ?_
 rintro _ w206 ⟨C207, rfl, hs208, HX209⟩
 refine ⟨_, rfl, ?_⟩
 replace HX209 := Bx.res (U := [(0, 0), (1, 1)]) (j := 1) HX209 hs208 (by rfl) (by decide) rfl
 replace hs208 := Step.lift (U := [(0, 0), (1, 1)]) hs208 [1] rfl rfl
 generalize up C195 C207 w198.heap.size [(0, 0), (1, 1)] = C207_ at HX209 hs208
 replace HP0_0 := HP0_0.thru hs208 rfl
 replace HP0_1 := HP0_1.thru hs208 rfl
 replace HX174 := HX174.thru hs208 rfl
 replace HX199 := HX199.thru hs208 rfl
 replace HS := HS.trans hs208 hc rfl
 (try simp only [ls0, ls1])
 refine st (.pointer (some ⟨g193, 1, none⟩)) rfl rfl (xr_fieldAddr _ _ rfl rfl (bx_field2 Try.underlying82 rfl rfl (by kernel_rfl))) ?_
 refine bx_store (C := C207_) (z := 12) (g := g193) (j := 1) (tb := 82) (u := .bool t202) (seg := [.bool t202]) (xs := [.bool false, .bool false, .string (⟨#[]⟩ : ByteArray), .int .i64 t180, .int .i64 t187]) rfl rfl rfl rfl rfl rfl (by first | kernel_rfl | rfl) (by simp [Value.oneCell']) HX199 (by simp only [List.length_cons, List.length_nil]; omega) rfl ?_
 intro w210 HX211 hs212
 replace HX209 := HX209.thru hs212 rfl
 replace HP0_0 := HP0_0.thru hs212 rfl
 replace HP0_1 := HP0_1.thru hs212 rfl
 replace HX174 := HX174.thru hs212 rfl
 replace HS := HS.trans hs212 hc rfl
 (try simp only [ls0, ls1])
 refine wl_end ?_
 (try simp only [ls0, ls1])
 refine hK201 _ _ ?_
 (try clear hK201 K201)
 refine wp_seq_k fun K213 hK213 => ?_
 refine wp_seq_k fun K253 hK253 => ?_
 have hj263 : ∀ (kq275 : Nat) (C264 : Nat → Nat) (w265 : World) (x267 : Bool) (x270 : Int) (x273 : Bool) (g_ : Nat → Value), Step c w C264 w265 [1] → kq275 ≤ k → (Ft C264 [0] w265 (fun w_ => (Kd.int .u8).C w_ A0_0 l0_0.length l0_0)) → (Ft C264 [0] w265 (fun w_ => k28.C w_ A0_1 l0_1.length l0_1)) → (Bx C264 1 w265 g0 111 ([.slice A0_0 l0_0.length c0_0, .slice A0_1 l0_1.length c0_1, .int .i64 x270, .int .i64 a0_3])) → (Bx C264 11 w265 g171 82 ([.bool false, .bool false, .string (⟨#[]⟩ : ByteArray), .int .i64 0, .int .i64 0])) → (Bx C264 12 w265 g193 82 ([.bool false, .bool x273, .string (⟨#[]⟩ : ByteArray), .int .i64 t180, .int .i64 t187])) → stmt_Mark.j0 kq275 a0_3 l0_0 l0_1 t180 t187 x267 x270 x273 = some (r1, r2, r3, r4, r5, r6, r7) → K253 ⟨#[.pointer (some ⟨g0, 0, none⟩), (g_ 1), .pointer (some ⟨g171, 0, none⟩), (g_ 3), .pointer (some ⟨g193, 0, none⟩), (g_ 5), (g_ 6), (g_ 7), (g_ 8), (g_ 9), (g_ 10), (g_ 11), (g_ 12), (g_ 13), (g_ 14), (g_ 15), (g_ 16), (g_ 17), (g_ 18), (g_ 19), (g_ 20), (g_ 21), (g_ 22), (g_ 23), .bool x267, (g_ 25), (g_ 26), (g_ 27), (g_ 28), (g_ 29), (g_ 30), (g_ 31), (g_ 32), (g_ 33), (g_ 34), (g_ 35), (g_ 36), (g_ 37), (g_ 38), (g_ 39), (g_ 40)], []⟩ w265 := by
  intro kq275 C264 w265 x267 x270 x273 g_ HS266 hk276 HJ268 HJ269 HJ271 HJ272 HJ274 H
  cases kq275 with
  | zero => exact absurd H (by simp [stmt_Mark.j0])
  | succ k277 =>
   simp only [stmt_Mark.j0] at H
   refine hK253 _ _ ?_
   (try clear hK253)
   by_cases c278 : x267 = true
   ·rw [if_pos c278] at H
    (try rw [c278])
    refine wp_cond_true rfl ?_
    refine wp_seq_k fun K279 hK279 => ?_
    refine wl_region ?_
    refine st (.agg #[.bool false, .bool x273, .string (⟨#[]⟩ : ByteArray), .int .i64 t180, .int .i64 t187]) rfl rfl (xr_load _ _ rfl rfl (load_agg (cs := [.bool false, .bool x273, .string (⟨#[]⟩ : ByteArray), .int .i64 t180, .int .i64 t187]) Try.underlying82 rfl (by kernel_rfl) (bx_cells (HJ274).2 0 rfl))) ?_
    refine bx_store (C := C264) (z := 11) (g := g171) (j := 0) (tb := 82) (u := .agg #[.bool false, .bool x273, .string (⟨#[]⟩ : ByteArray), .int .i64 t180, .int .i64 t187]) (seg := [.bool false, .bool x273, .string (⟨#[]⟩ : ByteArray), .int .i64 t180, .int .i64 t187]) (xs := [.bool false, .bool false, .string (⟨#[]⟩ : ByteArray), .int .i64 0, .int .i64 0]) rfl rfl rfl rfl rfl rfl (by first | kernel_rfl | rfl) (by simp [Value.oneCell']) HJ272 (by simp only [List.length_cons, List.length_nil]; omega) rfl ?_
    intro w280 HX281 hs282
    replace HJ271 := HJ271.thru hs282 rfl
    replace HJ268 := HJ268.thru hs282 rfl
    replace HJ269 := HJ269.thru hs282 rfl
    replace HJ274 := HJ274.thru hs282 rfl
    replace HS266 := HS266.trans hs282 hc rfl
    (try simp only [ls0, ls1])
    refine st (.int .i64 0) rfl rfl (xr_assign _ rfl rfl) ?_
    refine wl_end ?_
    (try simp only [ls0, ls1])
    refine hK279 _ _ ?_
    (try clear hK279 K279)
    refine wp_ret ?_
    (try simp only [Exit.inBlock, Exit.then, Exit.noGoto])
    (try simp only [ls0, ls1])
    simp only [Option.some.injEq, Prod.mk.injEq] at H
    obtain ⟨rfl, rfl, rfl, rfl, rfl, rfl, rfl⟩ := H
    refine bodyPost_ret (res_ct rfl rfl (load_of (load_agg (cs := [.bool false, .bool x273, .string (⟨#[]⟩ : ByteArray), .int .i64 t180, .int .i64 t187]) Try.underlying82 rfl (by kernel_rfl) (bx_cells (HX281).2 0 rfl)))) rfl ?_
    exact ⟨_, rfl, HS266, HJ271⟩
   rw [if_neg c278] at H
   (try rw [(Bool.eq_false_iff.mpr c278)])
   refine wp_cond_false rfl ?_
   refine wp_skip ?_
   (try simp only [ls0, ls1])
   refine hK213 _ _ ?_
   (try clear hK213 K213)
   refine wp_seq_k fun K283 hK283 => ?_
   refine wl_region ?_
   refine mv_ rfl ?_
   have HP284 : Ft C264 [0, 1] w265 (fun w_ => (Kd.ptr 111 k111).K w_ (some (⟨l0_0, l0_1, x270, a0_3⟩ : S111)) [.pointer (some ⟨g0, 0, none⟩)]) := ptr_mk (Ft.more (HJ271.ft) rfl) (k111_mkF _ _ (⟨l0_0, l0_1, x270, a0_3⟩ : S111) HCP0_0 (Ft.more HJ268 rfl) HCP0_1 (Ft.more HJ269 rfl))
   obtain ⟨t285, A286, H⟩ := bnd H
   refine st_call #[.pointer (some ⟨g0, 0, none⟩)] rfl rfl Try.func44 (by kernel_rfl) rfl rfl (mp_ rfl) ?_
   refine (expr_Cursor_Pos.calls (.pointer (some ⟨g0, 0, none⟩)) (some (⟨l0_0, l0_1, x270, a0_3⟩ : S111) : Option S111) t285  (fun z_ => pal [(0, 0), (1, 0)] (C264 z_)) w265 (fun _ => pal_lt rfl _) (Ft.arg HP284 rfl) A286).mono ?_
   rintro _ w288 ⟨C289, rfl, hs290⟩
   refine ⟨_, rfl, ?_⟩
   replace hs290 := Step.lift (U := [(0, 0)]) hs290 [] rfl rfl
   generalize up C264 C289 w265.heap.size [(0, 0)] = C289_ at hs290
   replace HJ271 := HJ271.thru hs290 rfl
   replace HJ268 := HJ268.thru hs290 rfl
   replace HJ269 := HJ269.thru hs290 rfl
   replace HJ272 := HJ272.thru hs290 rfl
   replace HJ274 := HJ274.thru hs290 rfl
   replace HS266 := HS266.trans hs290 hc rfl
   (try simp only [ls0, ls1])
   refine st (.pointer (some ⟨g193, 0, none⟩)) rfl rfl (xr_fieldAddr _ _ rfl rfl (bx_field2 Try.underlying82 rfl rfl (by kernel_rfl))) ?_
   refine bx_store (C := C289_) (z := 12) (g := g193) (j := 0) (tb := 82) (u := .bool true) (seg := [.bool true]) (xs := [.bool false, .bool x273, .string (⟨#[]⟩ : ByteArray), .int .i64 t180, .int .i64 t187]) rfl rfl rfl rfl rfl rfl (by first | kernel_rfl | rfl) (by simp [Value.oneCell']) HJ274 (by simp only [List.length_cons, List.length_nil]; omega) rfl ?_
   intro w291 HX292 hs293
   replace HJ271 := HJ271.thru hs293 rfl
   replace HJ268 := HJ268.thru hs293 rfl
   replace HJ269 := HJ269.thru hs293 rfl
   replace HJ272 := HJ272.thru hs293 rfl
   replace HS266 := HS266.trans hs293 hc rfl
   (try simp only [ls0, ls1])
   refine st (.pointer (some ⟨g193, 3, none⟩)) rfl rfl (xr_fieldAddr _ _ rfl rfl (bx_field2 Try.underlying82 rfl rfl (by kernel_rfl))) ?_
   refine bx_store (C := C289_) (z := 12) (g := g193) (j := 3) (tb := 82) (u := .int .i64 t285) (seg := [.int .i64 t285]) (xs := [.bool true, .bool x273, .string (⟨#[]⟩ : ByteArray), .int .i64 t180, .int .i64 t187]) rfl rfl rfl rfl rfl rfl (by first | kernel_rfl | rfl) (by simp [Value.oneCell']) HX292 (by simp only [List.length_cons, List.length_nil]; omega) rfl ?_
   intro w294 HX295 hs296
   replace HJ271 := HJ271.thru hs296 rfl
   replace HJ268 := HJ268.thru hs296 rfl
   replace HJ269 := HJ269.thru hs296 rfl
   replace HJ272 := HJ272.thru hs296 rfl
   replace HS266 := HS266.trans hs296 hc rfl
   (try simp only [ls0, ls1])
   refine wl_end ?_
   (try simp only [ls0, ls1])
   refine hK283 _ _ ?_
   (try clear hK283 K283)
   refine wp_seq_k fun K297 hK297 => ?_
   refine wp_seq_k fun K298 hK298 => ?_
   refine wl_region ?_
   refine mv_ rfl ?_
   refine st (.pointer (some ⟨g193, 2, none⟩)) rfl rfl (xr_fieldAddr _ _ rfl rfl (bx_field2 Try.underlying82 rfl rfl (by kernel_rfl))) ?_
   obtain ⟨⟨t299, t300, t301⟩, A302, H⟩ := bnd H
   (try dsimp only at H)
   refine st_call #[.pointer (some ⟨g0, 0, none⟩), .pointer (some ⟨g193, 2, none⟩)] rfl rfl Try.func87 (by kernel_rfl) rfl rfl (mp_ rfl) ?_
   refine (stmt_name_fp82_2.calls k277 g0 A0_0 c0_0 l0_0 A0_1 c0_1 l0_1 x270 a0_3 g193 true x273 (⟨#[]⟩ : ByteArray) t285 t187 t299 t300 t301  (fun z_ => pal [(0, 0), (1, 2), (12, 1)] (C289_ z_)) w294 (fun _ => pal_lt rfl _) (Bx.arg HJ271 rfl) (Ft.arg HJ268 rfl) HCP0_0 (Ft.arg HJ269 rfl) HCP0_1 (Bx.arg HX295 rfl) A302).mono ?_
   rintro _ w304 ⟨C305, rfl, hs306, HX307, HX308⟩
   refine ⟨_, rfl, ?_⟩
   replace HX307 := Bx.res (U := [(0, 0), (2, 1), (1, 12)]) (j := 1) HX307 hs306 (by rfl) (by decide) rfl
   replace HX308 := Bx.res (U := [(0, 0), (2, 1), (1, 12)]) (j := 12) HX308 hs306 (by rfl) (by decide) rfl
   replace hs306 := Step.lift (U := [(0, 0), (2, 1), (1, 12)]) hs306 [1, 12] rfl rfl
   generalize up C289_ C305 w294.heap.size [(0, 0), (2, 1), (1, 12)] = C305_ at HX307 HX308 hs306
   replace HJ268 := HJ268.thru hs306 rfl
   replace HJ269 := HJ269.thru hs306 rfl
   replace HJ272 := HJ272.thru hs306 rfl
   replace HS266 := HS266.trans hs306 hc rfl
   (try simp only [ls0, ls1])
   refine as_ rfl ?_
   refine wl_end ?_
   (try simp only [ls0, ls1])
   refine hK298 _ _ ?_
   (try clear hK298 K298)
   refine wp_seq_k fun K309 hK309 => ?_
   refine wl_region ?_
   refine mv_ rfl ?_
   refine st (.bool (!decide (t299 = 0))) rfl rfl (xr_bin _ _ _ rfl rfl rfl (B.neq_i64 _ _)) ?_
   refine wl_end ?_
   (try simp only [ls0, ls1])
   refine hK309 _ _ ?_
   (try clear hK309 K309)
   by_cases c310 : t299 = 0
   ·rw [if_pos c310] at H
    (try rw [(decide_eq_true c310)])
    (try simp only [Bool.not_true, Bool.not_false])
    refine wp_cond_false rfl ?_
    refine wp_skip ?_
    (try simp only [ls0, ls1])
    refine hK297 _ _ ?_
    (try clear hK297 K297)
    refine wp_seq_k fun K311 hK311 => ?_
    refine wl_region ?_
    refine mv_ rfl ?_
    have HP312 : Ft C305_ [0, 1] w304 (fun w_ => (Kd.ptr 111 k111).K w_ (some (⟨l0_0, l0_1, t300, a0_3⟩ : S111)) [.pointer (some ⟨g0, 0, none⟩)]) := ptr_mk (Ft.more (HX307.ft) rfl) (k111_mkF _ _ (⟨l0_0, l0_1, t300, a0_3⟩ : S111) HCP0_0 (Ft.more HJ268 rfl) HCP0_1 (Ft.more HJ269 rfl))
    obtain ⟨t313, A314, H⟩ := bnd H
    refine st_call #[.pointer (some ⟨g0, 0, none⟩)] rfl rfl Try.func50 (by kernel_rfl) rfl rfl (mp_ rfl) ?_
    refine (expr_Cursor_End.calls (.pointer (some ⟨g0, 0, none⟩)) (some (⟨l0_0, l0_1, t300, a0_3⟩ : S111) : Option S111) t313  (fun z_ => pal [(0, 0), (1, 0)] (C305_ z_)) w304 (fun _ => pal_lt rfl _) (Ft.arg HP312 rfl) A314).mono ?_
    rintro _ w316 ⟨C317, rfl, hs318⟩
    refine ⟨_, rfl, ?_⟩
    replace hs318 := Step.lift (U := [(0, 0)]) hs318 [] rfl rfl
    generalize up C305_ C317 w304.heap.size [(0, 0)] = C317_ at hs318
    replace HX307 := HX307.thru hs318 rfl
    replace HJ268 := HJ268.thru hs318 rfl
    replace HJ269 := HJ269.thru hs318 rfl
    replace HJ272 := HJ272.thru hs318 rfl
    replace HX308 := HX308.thru hs318 rfl
    replace HS266 := HS266.trans hs318 hc rfl
    (try simp only [ls0, ls1])
    refine st (.pointer (some ⟨g193, 4, none⟩)) rfl rfl (xr_fieldAddr _ _ rfl rfl (bx_field2 Try.underlying82 rfl rfl (by kernel_rfl))) ?_
    refine bx_store (C := C317_) (z := 12) (g := g193) (j := 4) (tb := 82) (u := .int .i64 t313) (seg := [.int .i64 t313]) (xs := [.bool true, .bool x273, .string t301, .int .i64 t285, .int .i64 t187]) rfl rfl rfl rfl rfl rfl (by first | kernel_rfl | rfl) (by simp [Value.oneCell']) HX308 (by simp only [List.length_cons, List.length_nil]; omega) rfl ?_
    intro w319 HX320 hs321
    replace HX307 := HX307.thru hs321 rfl
    replace HJ268 := HJ268.thru hs321 rfl
    replace HJ269 := HJ269.thru hs321 rfl
    replace HJ272 := HJ272.thru hs321 rfl
    replace HS266 := HS266.trans hs321 hc rfl
    (try simp only [ls0, ls1])
    refine wl_end ?_
    (try simp only [ls0, ls1])
    refine hK311 _ _ ?_
    (try clear hK311 K311)
    refine wp_seq_k fun K322 hK322 => ?_
    refine wl_region ?_
    refine st (.agg #[.bool true, .bool x273, .string t301, .int .i64 t285, .int .i64 t313]) rfl rfl (xr_load _ _ rfl rfl (load_agg (cs := [.bool true, .bool x273, .string t301, .int .i64 t285, .int .i64 t313]) Try.underlying82 rfl (by kernel_rfl) (bx_cells (HX320).2 0 rfl))) ?_
    refine bx_store (C := C317_) (z := 11) (g := g171) (j := 0) (tb := 82) (u := .agg #[.bool true, .bool x273, .string t301, .int .i64 t285, .int .i64 t313]) (seg := [.bool true, .bool x273, .string t301, .int .i64 t285, .int .i64 t313]) (xs := [.bool false, .bool false, .string (⟨#[]⟩ : ByteArray), .int .i64 0, .int .i64 0]) rfl rfl rfl rfl rfl rfl (by first | kernel_rfl | rfl) (by simp [Value.oneCell']) HJ272 (by simp only [List.length_cons, List.length_nil]; omega) rfl ?_
    intro w323 HX324 hs325
    replace HX307 := HX307.thru hs325 rfl
    replace HJ268 := HJ268.thru hs325 rfl
    replace HJ269 := HJ269.thru hs325 rfl
    replace HX320 := HX320.thru hs325 rfl
    replace HS266 := HS266.trans hs325 hc rfl
    (try simp only [ls0, ls1])
    refine st (.int .i64 0) rfl rfl (xr_assign _ rfl rfl) ?_
    refine wl_end ?_
    (try simp only [ls0, ls1])
    refine hK322 _ _ ?_
    (try clear hK322 K322)
    refine wp_ret ?_
    (try simp only [Exit.inBlock, Exit.then, Exit.noGoto])
    (try simp only [ls0, ls1])
    simp only [Option.some.injEq, Prod.mk.injEq] at H
    obtain ⟨rfl, rfl, rfl, rfl, rfl, rfl, rfl⟩ := H
    refine bodyPost_ret (res_ct rfl rfl (load_of (load_agg (cs := [.bool true, .bool x273, .string t301, .int .i64 t285, .int .i64 t313]) Try.underlying82 rfl (by kernel_rfl) (bx_cells (HX324).2 0 rfl)))) rfl ?_
    exact ⟨_, rfl, HS266, HX307⟩
   rw [if_neg c310] at H
   (try rw [(decide_eq_false c310)])
   (try simp only [Bool.not_true, Bool.not_false])
   refine wp_cond_true rfl ?_
   refine wp_seq_k fun K326 hK326 => ?_
   refine wl_region ?_
   refine st (.agg #[.bool false, .bool false, .string (⟨#[]⟩ : ByteArray), .int .i64 0, .int .i64 0]) rfl rfl (xr_build #[] (.agg #[.bool false, .bool false, .string (⟨#[]⟩ : ByteArray), .int .i64 0, .int .i64 0]) rfl (mp_ rfl) (by first | rfl | (go_simp; done) | (go_simp; rfl) | (go_simp; exact i64_w _) | (go_simp; exact i32_w _))) ?_
   refine mv_ rfl ?_
   refine bx_store (C := C305_) (z := 11) (g := g171) (j := 0) (tb := 82) (u := .agg #[.bool false, .bool false, .string (⟨#[]⟩ : ByteArray), .int .i64 0, .int .i64 0]) (seg := [.bool false, .bool false, .string (⟨#[]⟩ : ByteArray), .int .i64 0, .int .i64 0]) (xs := [.bool false, .bool false, .string (⟨#[]⟩ : ByteArray), .int .i64 0, .int .i64 0]) rfl rfl rfl rfl rfl rfl (by first | kernel_rfl | rfl) (by simp [Value.oneCell']) HJ272 (by simp only [List.length_cons, List.length_nil]; omega) rfl ?_
   intro w327 HX328 hs329
   replace HX307 := HX307.thru hs329 rfl
   replace HJ268 := HJ268.thru hs329 rfl
   replace HJ269 := HJ269.thru hs329 rfl
   replace HX308 := HX308.thru hs329 rfl
   replace HS266 := HS266.trans hs329 hc rfl
   (try simp only [ls0, ls1])
   refine as_ rfl ?_
   refine wl_end ?_
   (try simp only [ls0, ls1])
   refine hK326 _ _ ?_
   (try clear hK326 K326)
   refine wp_ret ?_
   (try simp only [Exit.inBlock, Exit.then, Exit.noGoto])
   (try simp only [ls0, ls1])
   simp only [Option.some.injEq, Prod.mk.injEq] at H
   obtain ⟨rfl, rfl, rfl, rfl, rfl, rfl, rfl⟩ := H
   refine bodyPost_ret (res_ct rfl rfl (load_of (load_agg (cs := [.bool false, .bool false, .string (⟨#[]⟩ : ByteArray), .int .i64 0, .int .i64 0]) Try.underlying82 rfl (by kernel_rfl) (bx_cells (HX328).2 0 rfl)))) rfl ?_
   exact ⟨_, rfl, HS266, HX307⟩
 refine wl_region ?_
 refine st (.pointer (some ⟨g193, 1, none⟩)) rfl rfl (xr_fieldAddr _ _ rfl rfl (bx_field2 Try.underlying82 rfl rfl (by kernel_rfl))) ?_
 refine st (.bool t202) rfl rfl (xr_load _ _ rfl rfl (load_cell Try.underlying4 rfl (bx_cell (HX211).2 1 rfl))) ?_
 refine st (.bool (!t202)) rfl rfl (xr_un (.bool t202) _ rfl rfl (by first | rfl | (go_simp; done) | (go_simp; rfl) | (go_simp; exact i64_w _) | (go_simp; exact i32_w _))) ?_
 refine mv_ rfl ?_
 simp only [ls0, ls1]
 by_cases c330 : t202 = true
 ·rw [if_pos c330] at H
  (try rw [c330])
  (try rw [c330] at HX211)
  (try simp only [Bool.not_true, Bool.not_false])
  refine sk_guard (guard_off 3 true 20 rfl rfl false (by decide) rfl) rfl ?_
  refine sk_guard (guard_off 3 true 20 rfl rfl false (by decide) rfl) rfl ?_
  refine sk_guard (guard_off 3 true 20 rfl rfl false (by decide) rfl) rfl ?_
  refine st (.bool false) rfl rfl (xr_pick false _ rfl rfl rfl) ?_
  simp only [ls0, ls1]
  refine wl_end ?_
  (try simp only [ls0, ls1])
  exact jmp (fun g_ => hj263 _ _ _ (false) (t203) (true) g_ HS (by omega) HP0_0 HP0_1 HX209 HX174 HX211 H) rfl
 rw [if_neg c330] at H
 (try rw [(Bool.eq_false_iff.mpr c330)])
 (try rw [(Bool.eq_false_iff.mpr c330)] at HX211)
 (try simp only [Bool.not_true, Bool.not_false])
 refine on_guard (guard_on 3 true 20 rfl rfl rfl) ?_
 refine mv_ rfl ?_
 refine on_guard (guard_on 3 true 20 rfl rfl rfl) ?_
 obtain ⟨⟨t331, t332⟩, A333, H⟩ := bnd H
 (try dsimp only at H)
 refine st_call #[.pointer (some ⟨g0, 0, none⟩), .string (⟨#[64]⟩ : ByteArray)] rfl rfl Try.func48 (by kernel_rfl) rfl rfl (mp_ rfl) ?_
 refine (expr_Cursor_Take.calls g0 A0_0 c0_0 l0_0 A0_1 c0_1 l0_1 t203 a0_3 (⟨#[64]⟩ : ByteArray) t331 t332  (fun z_ => pal [(0, 0), (1, 1)] (C207_ z_)) w210 (fun _ => pal_lt rfl _) (Bx.arg HX209 rfl) (Ft.arg HP0_0 rfl) HCP0_0 (Ft.arg HP0_1 rfl) HCP0_1 A333).mono ?_
 rintro _ w335 ⟨C336, rfl, hs337, HX338⟩
 refine ⟨_, rfl, ?_⟩
 replace HX338 := Bx.res (U := [(0, 0), (1, 1)]) (j := 1) HX338 hs337 (by rfl) (by decide) rfl
 replace hs337 := Step.lift (U := [(0, 0), (1, 1)]) hs337 [1] rfl rfl
 generalize up C207_ C336 w210.heap.size [(0, 0), (1, 1)] = C336_ at HX338 hs337
 replace HP0_0 := HP0_0.thru hs337 rfl
 replace HP0_1 := HP0_1.thru hs337 rfl
 replace HX174 := HX174.thru hs337 rfl
 replace HX211 := HX211.thru hs337 rfl
 replace HS := HS.trans hs337 hc rfl
 (try simp only [ls0, ls1])
 refine on_guard (guard_on 3 true 20 rfl rfl rfl) ?_
 refine st (.bool (!t331)) rfl rfl (xr_un (.bool t331) _ rfl rfl (by first | rfl | (go_simp; done) | (go_simp; rfl) | (go_simp; exact i64_w _) | (go_simp; exact i32_w _))) ?_
 refine st (.bool (!t331)) rfl rfl (xr_pick true _ rfl rfl rfl) ?_
 refine wl_end ?_
 (try simp only [ls0, ls1])
 exact jmp (fun g_ => hj263 _ _ _ (!t331) (t332) (false) g_ HS (by omega) HP0_0 HP0_1 HX338 HX174 HX211 H) rfl

/-! ### expr_Cursor_Take_nil: function 48 -/
def expr_Cursor_Take_nil.f (a1 : ByteArray) : Option (Bool) := some false
set_option maxHeartbeats 8000000 in
set_option maxRecDepth 100000 in
theorem expr_Cursor_Take_nil.calls (a1 : ByteArray) (r : Bool) (c : Nat → Nat) (w : World) (hc : ∀ k, c k < 10)  (H : expr_Cursor_Take_nil.f a1 = some r) :
    Calls Try.prog 48 #[.pointer none, .string a1] w fun e w' => ∃ (c' : Nat → Nat) , e = .returned (.bool r) ∧ Step c w c' w' [] := by
 unfold expr_Cursor_Take_nil.f at H
 have HS := Step.refl c w []
 go_enter Try.func48, Try.ntmps48
 refine wp_seq_k fun K7 hK7 => ?_
 refine wl_region ?_
 refine st (.bool false) rfl rfl (xr_assign _ rfl rfl) ?_
 refine wl_end ?_
 (try simp only [ls0, ls1])
 refine hK7 _ _ ?_
 (try clear hK7 K7)
 refine wp_seq_k fun K8 hK8 => ?_
 refine wp_seq_k fun K11 hK11 => ?_
 refine wl_region ?_
 refine mv_ rfl ?_
 refine st (.bool true) rfl rfl (xr_bin (.pointer none) (.pointer none) (.bool true) rfl rfl rfl (B.eql_nn ⟨_, Try.underlying57⟩ (⟨0, 0, none⟩ : Addr))) ?_
 refine mv_ rfl ?_
 refine sk_guard (guard_off 2 false 7 rfl rfl true (by decide) rfl) rfl ?_
 simp only [ls0, ls1]
 refine sk_guard (guard_off 2 false 7 rfl rfl true (by decide) rfl) rfl ?_
 refine st (.bool true) rfl rfl (xr_pick true _ rfl rfl rfl) ?_
 refine mv_ rfl ?_
 refine sk_guard (guard_off 6 false 11 rfl rfl true (by decide) rfl) rfl ?_
 simp only [ls0, ls1]
 refine sk_guard (guard_off 6 false 11 rfl rfl true (by decide) rfl) rfl ?_
 refine sk_guard (guard_off 6 false 11 rfl rfl true (by decide) rfl) rfl ?_
 refine sk_guard (guard_off 6 false 11 rfl rfl true (by decide) rfl) rfl ?_
 refine st (.bool true) rfl rfl (xr_pick true _ rfl rfl rfl) ?_
 simp only [ls0, ls1]
 refine wl_end ?_
 (try simp only [ls0, ls1])
 refine hK11 _ _ ?_
 (try clear hK11 K11)
 refine wp_cond_true rfl ?_
 refine wp_seq_k fun K12 hK12 => ?_
 refine wl_region ?_
 refine st (.bool false) rfl rfl (xr_assign _ rfl rfl) ?_
 refine wl_end ?_
 (try simp only [ls0, ls1])
 refine hK12 _ _ ?_
 (try clear hK12 K12)
 refine wp_ret ?_
 (try simp only [Exit.inBlock, Exit.then, Exit.noGoto])
 (try simp only [ls0, ls1])
 obtain rfl := Option.some.inj H
 refine bodyPost_ret (results_tmp rfl _ _ _) rfl ?_
 exact ⟨_, rfl, HS⟩

/-! ### stmt_must: function 109 -/
def stmt_must.l0 : Nat → Int → (List Int) → (List (S28)) → (List ByteArray) → Int → Int → Option (Int × Int)
  | 0, _, _, _, _, _, _ => none
  | k + 1, a0_3, l0_0, l0_1, l1, x139, x142 => if x139 < (l1.length : Int) then (if 0 ≤ x139 then ((expr_Cursor_Take.f l0_0 l0_1 x142 a0_3 (rdOf ByteArray.empty l1 x139)).bind fun bt162 => (if bt162.1 = true then (stmt_must.l0 k a0_3 l0_0 l0_1 l1 (wrap64 (x139 + 1)) bt162.2) else (some (11, bt162.2)))) else (none)) else (some (0, x142))
def stmt_must.f (k : Nat) (l0_0 : List Int) (l0_1 : List (S28)) (a0_2 : Int) (a0_3 : Int) (l1 : List ByteArray) : Option (Int × Int) := stmt_must.l0 k a0_3 l0_0 l0_1 l1 0 a0_2

set_option maxHeartbeats 8000000 in
set_option maxRecDepth 100000 in
theorem stmt_must.calls (k : Nat) (g0 : Nat) (A0_0 : Option Addr) (c0_0 : Nat) (l0_0 : List Int) (A0_1 : Option Addr) (c0_1 : Nat) (l0_1 : List (S28)) (a0_2 : Int) (a0_3 : Int) (A1 : Option Addr) (c1 : Nat) (l1 : List ByteArray) (r1 : Int) (r2 : Int) (c : Nat → Nat) (w : World) (hc : ∀ k, c k < 10) (HP0 : Bx c 1 w g0 111 ([.slice A0_0 l0_0.length c0_0, .slice A0_1 l0_1.length c0_1, .int .i64 a0_2, .int .i64 a0_3])) (HP0_0 : Ft c [0] w (fun w_ => (Kd.int .u8).C w_ A0_0 l0_0.length l0_0)) (HCP0_0 : l0_0.length ≤ c0_0) (HP0_1 : Ft c [0] w (fun w_ => k28.C w_ A0_1 l0_1.length l0_1)) (HCP0_1 : l0_1.length ≤ c0_1) (HP1 : Ft c [0] w (fun w_ => Kd.string.C w_ A1 l1.length l1)) (HCP1 : l1.length ≤ c1) (H : stmt_must.f k l0_0 l0_1 a0_2 a0_3 l1 = some (r1, r2)) :
    Calls Try.prog 109 #[.pointer (some ⟨g0, 0, none⟩), .slice A1 l1.length c1] w fun e w' => ∃ (c' : Nat → Nat) , e = .returned (.int .i64 r1) ∧ Step c w c' w' [1] ∧ Bx c' 1 w' g0 111 ([.slice A0_0 l0_0.length c0_0, .slice A0_1 l0_1.length c0_1, .int .i64 r2, .int .i64 a0_3]) := by
 unfold stmt_must.f at H
 have HS := Step.refl c w [1]
 go_enter Try.func109, Try.ntmps109
 refine wp_seq_k fun K87 hK87 => ?_
 refine wl_region ?_
 refine st (.int .i64 0) rfl rfl (xr_assign _ rfl rfl) ?_
 refine wl_end ?_
 (try simp only [ls0, ls1])
 refine hK87 _ _ ?_
 (try clear hK87 K87)
 refine wp_seq_k fun K88 hK88 => ?_
 refine wp_seq_k fun K89 hK89 => ?_
 refine wl_region ?_
 refine mv_ rfl ?_
 refine st (.int .i64 (l1.length : Int)) rfl rfl (xr_builtin #[.slice A1 l1.length c1] (.int .i64 (l1.length : Int)) rfl (mp_ rfl) (by first | rfl | (go_simp; done) | (go_simp; rfl) | (go_simp; exact i64_w _) | (go_simp; exact i32_w _))) ?_
 refine st (.int .i64 0) rfl rfl (xr_move _ rfl rfl) ?_
 refine wl_end ?_
 (try simp only [ls0, ls1])
 refine hK89 _ _ ?_
 (try clear hK89 K89)
 refine wp_block ?_
 (try simp only [ls0, ls1])
 refine wp_looped (looped_fin (fun kq146 a_ w145 => ∃ (C144 : Nat → Nat) (x139 : Int) (x142 : Int) (g_ : Nat → Value), a_ = ⟨#[.pointer (some ⟨g0, 0, none⟩), (g_ 1), (g_ 2), (g_ 3), (g_ 4), (g_ 5), (g_ 6), .slice A1 l1.length c1, .int .i64 (l1.length : Int), .int .i64 x139, (g_ 10), (g_ 11), (g_ 12), (g_ 13), (g_ 14), (g_ 15), (g_ 16), (g_ 17)], []⟩ ∧ Step c w C144 w145 [1] ∧ kq146 ≤ k ∧ (Ft C144 [0] w145 (fun w_ => Kd.string.C w_ A1 l1.length l1)) ∧ (Ft C144 [0] w145 (fun w_ => (Kd.int .u8).C w_ A0_0 l0_0.length l0_0)) ∧ (Ft C144 [0] w145 (fun w_ => k28.C w_ A0_1 l0_1.length l0_1)) ∧ (Bx C144 1 w145 g0 111 ([.slice A0_0 l0_0.length c0_0, .slice A0_1 l0_1.length c0_1, .int .i64 x142, .int .i64 a0_3])) ∧ stmt_must.l0 kq146 a0_3 l0_0 l0_1 l1 x139 x142 = some (r1, r2)) ?step fun hL_ => ?init)
 case init =>
  exact jmpL (fun a_ h_ => hL_ k a_ _ h_) (fun g_ => ⟨_, 0, a0_2, g_, rfl, HS, Nat.le_refl _, HP1, HP0_0, HP0_1, HP0, H⟩) rfl
 case step =>
  intro kq146 ih149 a150 w145 hr151
  obtain ⟨C144, x139, x142, g_, rfl, HS147, hk148, HJ138, HJ140, HJ141, HJ143, H⟩ := hr151
  refine looped_round ?_
  cases kq146 with
  | zero => exact absurd H (by simp [stmt_must.l0])
  | succ k152 =>
   simp only [stmt_must.l0] at H
   refine wp_seq_k fun K153 hK153 => ?_
   refine wl_region ?_
   refine st (.bool (decide (x139 < (l1.length : Int)))) rfl rfl (xr_bin _ _ _ rfl rfl rfl (B.lss_i64 _ _)) ?_
   refine wl_end ?_
   (try simp only [ls0, ls1])
   refine hK153 _ _ ?_
   (try clear hK153 K153)
   refine wp_seq_k fun K154 hK154 => ?_
   by_cases c155 : x139 < (l1.length : Int)
   ·rw [if_pos c155] at H
    (try rw [(decide_eq_true c155)])
    refine wp_cond_true rfl ?_
    refine wp_skip ?_
    (try simp only [ls0, ls1])
    refine hK154 _ _ ?_
    (try clear hK154 K154)
    refine wp_seq_k fun K156 hK156 => ?_
    refine wp_block ?_
    refine wp_seq_k fun K157 hK157 => ?_
    refine wl_region ?_
    obtain ⟨c158, H⟩ := if_some H
    obtain ⟨ad159, hA160⟩ := c_addr (Ft.now HJ138) (pos_of (j := x139) (by first | assumption | decide) (by first | assumption | omega))
    refine st (.pointer (some (ad159.add ((x139 : Int).toNat * 1)))) rfl rfl (xr_indexAddr _ _ _ rfl rfl rfl (index_at Try.underlying105 info9 hA160 (by first | assumption | decide | omega) (by first | assumption | decide | omega))) ?_
    refine st (.string (rdOf ByteArray.empty l1 x139)) rfl rfl (xr_load _ _ rfl rfl (load_str Try.underlying9 rfl hA160 (Ft.now HJ138) (by first | assumption | decide | omega) (by first | assumption | decide | omega))) ?_
    refine as_ rfl ?_
    refine wl_end ?_
    (try simp only [ls0, ls1])
    refine hK157 _ _ ?_
    (try clear hK157 K157)
    refine wp_seq_k fun K161 hK161 => ?_
    refine wl_region ?_
    refine mv_ rfl ?_
    refine mv_ rfl ?_
    obtain ⟨⟨t162, t163⟩, A164, H⟩ := bnd H
    (try dsimp only at H)
    refine st_call #[.pointer (some ⟨g0, 0, none⟩), .string (rdOf ByteArray.empty l1 x139)] rfl rfl Try.func48 (by kernel_rfl) rfl rfl (mp_ rfl) ?_
    refine (expr_Cursor_Take.calls g0 A0_0 c0_0 l0_0 A0_1 c0_1 l0_1 x142 a0_3 (rdOf ByteArray.empty l1 x139) t162 t163  (fun z_ => pal [(0, 0), (1, 1)] (C144 z_)) w145 (fun _ => pal_lt rfl _) (Bx.arg HJ143 rfl) (Ft.arg HJ140 rfl) HCP0_0 (Ft.arg HJ141 rfl) HCP0_1 A164).mono ?_
    rintro _ w166 ⟨C167, rfl, hs168, HX169⟩
    refine ⟨_, rfl, ?_⟩
    replace HX169 := Bx.res (U := [(0, 0), (1, 1)]) (j := 1) HX169 hs168 (by rfl) (by decide) rfl
    replace hs168 := Step.lift (U := [(0, 0), (1, 1)]) hs168 [1] rfl rfl
    generalize up C144 C167 w145.heap.size [(0, 0), (1, 1)] = C167_ at HX169 hs168
    replace HJ138 := HJ138.thru hs168 rfl
    replace HJ140 := HJ140.thru hs168 rfl
    replace HJ141 := HJ141.thru hs168 rfl
    replace HS147 := HS147.trans hs168 hc rfl
    (try simp only [ls0, ls1])
    refine st (.bool (!t162)) rfl rfl (xr_un (.bool t162) _ rfl rfl (by first | rfl | (go_simp; done) | (go_simp; rfl) | (go_simp; exact i64_w _) | (go_simp; exact i32_w _))) ?_
    refine wl_end ?_
    (try simp only [ls0, ls1])
    refine hK161 _ _ ?_
    (try clear hK161 K161)
    by_cases c170 : t162 = true
    ·rw [if_pos c170] at H
     (try rw [c170])
     (try simp only [Bool.not_true, Bool.not_false])
     refine wp_cond_false rfl ?_
     refine wp_skip ?_
     (try simp only [ls0, ls1])
     refine hK156 _ _ ?_
     (try clear hK156 K156)
     refine wl_region ?_
     refine st (.int .i64 (wrap64 (x139 + 1))) rfl rfl (xr_bin _ _ _ rfl rfl rfl (B.add_i64 _ _)) ?_
     refine mv_ rfl ?_
     refine wl_end ?_
     (try simp only [ls0, ls1])
     exact jmpL (fun a_ h_ => ih149 k152 (by omega) a_ _ h_) (fun g_ => ⟨_, wrap64 (x139 + 1), t163, g_, rfl, HS147, (by omega), HJ138, HJ140, HJ141, HX169, H⟩) rfl
    rw [if_neg c170] at H
    (try rw [(Bool.eq_false_iff.mpr c170)])
    (try simp only [Bool.not_true, Bool.not_false])
    refine wp_cond_true rfl ?_
    refine wp_seq_k fun K171 hK171 => ?_
    refine wl_region ?_
    refine st (.int .i64 11) rfl rfl (xr_assign _ rfl rfl) ?_
    refine wl_end ?_
    (try simp only [ls0, ls1])
    refine hK171 _ _ ?_
    (try clear hK171 K171)
    refine wp_ret ?_
    (try simp only [Exit.inBlock, Exit.then, Exit.noGoto])
    (try simp only [ls0, ls1])
    simp only [Option.some.injEq, Prod.mk.injEq] at H
    obtain ⟨rfl, rfl⟩ := H
    refine bodyPost_ret (results_tmp rfl _ _ _) rfl ?_
    exact ⟨_, rfl, HS147, HX169⟩
   rw [if_neg c155] at H
   (try rw [(decide_eq_false c155)])
   refine wp_cond_false rfl ?_
   refine wp_exit ?_
   (try simp only [ls0, ls1])
   refine hK88 _ _ ?_
   (try clear hK88 K88)
   refine wp_seq_k fun K172 hK172 => ?_
   refine wl_region ?_
   refine st (.int .i64 0) rfl rfl (xr_assign _ rfl rfl) ?_
   refine wl_end ?_
   (try simp only [ls0, ls1])
   refine hK172 _ _ ?_
   (try clear hK172 K172)
   refine wp_ret ?_
   (try simp only [Exit.inBlock, Exit.then, Exit.noGoto])
   (try simp only [ls0, ls1])
   simp only [Option.some.injEq, Prod.mk.injEq] at H
   obtain ⟨rfl, rfl⟩ := H
   refine bodyPost_ret (results_tmp rfl _ _ _) rfl ?_
   exact ⟨_, rfl, HS147, HJ143⟩

structure Rec_expr_Height where
  expr_Height : Int → Int → Int → ByteArray → ByteArray → (List (S44)) → Option (Int)
structure Rec_expr_Height.Good (r_ : Rec_expr_Height) : Prop where
  expr_Height : ∀ (a0_0 : Int) (a0_1 : Int) (a0_2 : Int) (a0_3 : ByteArray) (a0_4 : ByteArray) (A0_5 : Option Addr) (c0_5 : Nat) (l0_5 : List (S44)) (r : Int) (c : Nat → Nat) (w : World) (hc : ∀ k, c k < 10) (HP0_5 : Ft c [0] w (fun w_ => k44.C w_ A0_5 l0_5.length l0_5)) (HCP0_5 : l0_5.length ≤ c0_5) (H : r_.expr_Height a0_0 a0_1 a0_2 a0_3 a0_4 l0_5 = some r),
    Calls Try.prog 36 #[.agg #[.int .i64 a0_0, .int .i64 a0_1, .int .i64 a0_2, .string a0_3, .string a0_4, .slice A0_5 l0_5.length c0_5]] w fun e w' => ∃ (c' : Nat → Nat) , e = .returned (.int .i64 r) ∧ Step c w c' w' []

/-! ### expr_Height: function 36 -/
def expr_Height.l0 (r_ : Rec_expr_Height) : Nat → (List (S44)) → Int → Int → Option (Int)
  | 0, _, _, _ => none
  | k + 1, l0_5, x165, x167 => if x167 < (l0_5.length : Int) then (if 0 ≤ x167 then ((r_.expr_Height ((rd_T44 l0_5 x167).f0) ((rd_T44 l0_5 x167).f1) ((rd_T44 l0_5 x167).f2) ((rd_T44 l0_5 x167).f3) ((rd_T44 l0_5 x167).f4) ((rd_T44 l0_5 x167).f5)).bind fun t196 => (expr_Height.l0 r_ k l0_5 (mx x165 t196) (wrap64 (x167 + 1)))) else (none)) else (some (wrap64 (x165 + 1)))
def expr_Height.g (r_ : Rec_expr_Height) (k : Nat) (a0_0 : Int) (a0_1 : Int) (a0_2 : Int) (a0_3 : ByteArray) (a0_4 : ByteArray) (l0_5 : List (S44)) : Option (Int) := expr_Height.l0 r_ k l0_5 0 0

set_option maxHeartbeats 8000000 in
set_option maxRecDepth 100000 in
theorem expr_Height.step (r_ : Rec_expr_Height) (IH : Rec_expr_Height.Good r_) (k : Nat) (a0_0 : Int) (a0_1 : Int) (a0_2 : Int) (a0_3 : ByteArray) (a0_4 : ByteArray) (A0_5 : Option Addr) (c0_5 : Nat) (l0_5 : List (S44)) (r : Int) (c : Nat → Nat) (w : World) (hc : ∀ k, c k < 10) (HP0_5 : Ft c [0] w (fun w_ => k44.C w_ A0_5 l0_5.length l0_5)) (HCP0_5 : l0_5.length ≤ c0_5) (H : expr_Height.g r_ k a0_0 a0_1 a0_2 a0_3 a0_4 l0_5 = some r) :
    Calls Try.prog 36 #[.agg #[.int .i64 a0_0, .int .i64 a0_1, .int .i64 a0_2, .string a0_3, .string a0_4, .slice A0_5 l0_5.length c0_5]] w fun e w' => ∃ (c' : Nat → Nat) , e = .returned (.int .i64 r) ∧ Step c w c' w' [] := by
 unfold expr_Height.g at H
 have HS := Step.refl c w []
 go_enter Try.func36, Try.ntmps36
 refine wp_seq_k fun K102 hK102 => ?_
 refine wl_region ?_
 refine bx_new (C := c) 44 ([.int .i64 a0_0, .int .i64 a0_1, .int .i64 a0_2, .string a0_3, .string a0_4, .slice A0_5 l0_5.length c0_5]) 11 rfl rfl (by first | (go_simp; done) | (go_simp; rfl)) ?_
 intro g103 w104 C105 HX106 hs107
 replace HP0_5 := HP0_5.thru hs107 rfl
 replace HS := HS.trans hs107 hc rfl
 (try simp only [ls0, ls1])
 refine st (.int .i64 0) rfl rfl (xr_assign _ rfl rfl) ?_
 refine wl_end ?_
 (try simp only [ls0, ls1])
 refine hK102 _ _ ?_
 (try clear hK102 K102)
 refine wp_seq_k fun K108 hK108 => ?_
 refine wl_region ?_
 refine st (.int .i64 0) rfl rfl (xr_assign _ rfl rfl) ?_
 refine wl_end ?_
 (try simp only [ls0, ls1])
 refine hK108 _ _ ?_
 (try clear hK108 K108)
 refine wp_seq_k fun K109 hK109 => ?_
 refine wp_seq_k fun K110 hK110 => ?_
 refine wl_region ?_
 refine st (.pointer (some ⟨g103, 5, none⟩)) rfl rfl (xr_fieldAddr _ _ rfl rfl (bx_field2 Try.underlying44 rfl rfl (by kernel_rfl))) ?_
 refine st (.slice A0_5 l0_5.length c0_5) rfl rfl (xr_load _ _ rfl rfl (load_cell Try.underlying42 rfl (bx_cell (HX106).2 5 rfl))) ?_
 refine st (.int .i64 (l0_5.length : Int)) rfl rfl (xr_builtin #[.slice A0_5 l0_5.length c0_5] (.int .i64 (l0_5.length : Int)) rfl (mp_ rfl) (by first | rfl | (go_simp; done) | (go_simp; rfl) | (go_simp; exact i64_w _) | (go_simp; exact i32_w _))) ?_
 refine st (.int .i64 0) rfl rfl (xr_move _ rfl rfl) ?_
 simp only [ls0, ls1]
 refine wl_end ?_
 (try simp only [ls0, ls1])
 refine hK110 _ _ ?_
 (try clear hK110 K110)
 refine wp_block ?_
 (try simp only [ls0, ls1])
 refine wp_looped (looped_fin (fun kq171 a_ w170 => ∃ (C169 : Nat → Nat) (x165 : Int) (x167 : Int) (g_ : Nat → Value), a_ = ⟨#[(g_ 0), (g_ 1), (g_ 2), .int .i64 x165, (g_ 4), (g_ 5), (g_ 6), .slice A0_5 l0_5.length c0_5, .int .i64 (l0_5.length : Int), .int .i64 x167, (g_ 10), (g_ 11), (g_ 12), (g_ 13), (g_ 14), (g_ 15), (g_ 16), (g_ 17), (g_ 18), (g_ 19)], []⟩ ∧ Step c w C169 w170 [] ∧ kq171 ≤ k ∧ (Ft C169 [0] w170 (fun w_ => k44.C w_ A0_5 l0_5.length l0_5)) ∧ (Bx C169 11 w170 g103 44 ([.int .i64 a0_0, .int .i64 a0_1, .int .i64 a0_2, .string a0_3, .string a0_4, .slice A0_5 l0_5.length c0_5])) ∧ expr_Height.l0 r_ kq171 l0_5 x165 x167 = some r) ?step fun hL_ => ?init)
 case init =>
  exact jmpL (fun a_ h_ => hL_ k a_ _ h_) (fun g_ => ⟨_, 0, 0, g_, rfl, HS, Nat.le_refl _, HP0_5, HX106, H⟩) rfl
 case step =>
  intro kq171 ih174 a175 w170 hr176
  obtain ⟨C169, x165, x167, g_, rfl, HS172, hk173, HJ166, HJ168, H⟩ := hr176
  refine looped_round ?_
  cases kq171 with
  | zero => exact absurd H (by simp [expr_Height.l0])
  | succ k177 =>
   simp only [expr_Height.l0] at H
   refine wp_seq_k fun K178 hK178 => ?_
   refine wl_region ?_
   refine st (.bool (decide (x167 < (l0_5.length : Int)))) rfl rfl (xr_bin _ _ _ rfl rfl rfl (B.lss_i64 _ _)) ?_
   refine wl_end ?_
   (try simp only [ls0, ls1])
   refine hK178 _ _ ?_
   (try clear hK178 K178)
   refine wp_seq_k fun K179 hK179 => ?_
   by_cases c180 : x167 < (l0_5.length : Int)
   ·rw [if_pos c180] at H
    (try rw [(decide_eq_true c180)])
    refine wp_cond_true rfl ?_
    refine wp_skip ?_
    (try simp only [ls0, ls1])
    refine hK179 _ _ ?_
    (try clear hK179 K179)
    refine wp_seq_k fun K181 hK181 => ?_
    refine wp_block ?_
    refine wp_seq_k fun K182 hK182 => ?_
    refine wl_region ?_
    obtain ⟨c183, H⟩ := if_some H
    obtain ⟨ad184, hA185⟩ := c_addr (Ft.now HJ166) (pos_of (j := x167) (by first | assumption | decide) (by first | assumption | omega))
    refine st (.pointer (some (ad184.add ((x167 : Int).toNat * 6)))) rfl rfl (xr_indexAddr _ _ _ rfl rfl rfl (index_at Try.underlying42 info44 hA185 (by first | assumption | decide | omega) (by first | assumption | decide | omega))) ?_
    obtain ⟨csq187, _, hKq187, hcq187, hinq187⟩ := Ft.elem HJ166 hA185 z44 x167 (by first | assumption | decide | omega) (by first | assumption | decide | omega) (by decide)
    obtain ⟨Aq187_5, cpq187_5, rfl, HCq187_5, HRq187_5⟩ := k44_openF hKq187
    replace HRq187_5 : Ft C169 [0] w170 (fun w_ => k44.C w_ Aq187_5 (rd_T44 l0_5 x167).f5.length (rd_T44 l0_5 x167).f5) := HRq187_5
    refine st (.agg #[.int .i64 ((rd_T44 l0_5 x167).f0), .int .i64 ((rd_T44 l0_5 x167).f1), .int .i64 ((rd_T44 l0_5 x167).f2), .string ((rd_T44 l0_5 x167).f3), .string ((rd_T44 l0_5 x167).f4), .slice Aq187_5 (rd_T44 l0_5 x167).f5.length cpq187_5]) rfl rfl (xr_load (.pointer (some (ad184.add ((x167 : Int).toNat * 6)))) (.agg #[.int .i64 ((rd_T44 l0_5 x167).f0), .int .i64 ((rd_T44 l0_5 x167).f1), .int .i64 ((rd_T44 l0_5 x167).f2), .string ((rd_T44 l0_5 x167).f3), .string ((rd_T44 l0_5 x167).f4), .slice Aq187_5 (rd_T44 l0_5 x167).f5.length cpq187_5]) rfl rfl (load_agg (cs := [.int .i64 ((rd_T44 l0_5 x167).f0), .int .i64 ((rd_T44 l0_5 x167).f1), .int .i64 ((rd_T44 l0_5 x167).f2), .string ((rd_T44 l0_5 x167).f3), .string ((rd_T44 l0_5 x167).f4), .slice Aq187_5 (rd_T44 l0_5 x167).f5.length cpq187_5]) Try.underlying44 rfl (by kernel_rfl) (fun j_ u_ hu_ => by exact hcq187 j_ u_ hu_))) ?_
    refine bx_new (C := C169) 44 ([.int .i64 0, .int .i64 0, .int .i64 0, .string (⟨#[]⟩ : ByteArray), .string (⟨#[]⟩ : ByteArray), .slice none 0 0]) 12 rfl rfl (by first | (go_simp; done) | (go_simp; rfl)) ?_
    intro g188 w189 C190 HX191 hs192
    replace HJ166 := HJ166.thru hs192 rfl
    replace HJ168 := HJ168.thru hs192 rfl
    replace HRq187_5 := HRq187_5.thru hs192 rfl
    replace HS172 := HS172.trans hs192 hc rfl
    (try simp only [ls0, ls1])
    refine bx_store (C := C190) (z := 12) (g := g188) (j := 0) (tb := 44) (u := .agg #[.int .i64 ((rd_T44 l0_5 x167).f0), .int .i64 ((rd_T44 l0_5 x167).f1), .int .i64 ((rd_T44 l0_5 x167).f2), .string ((rd_T44 l0_5 x167).f3), .string ((rd_T44 l0_5 x167).f4), .slice Aq187_5 (rd_T44 l0_5 x167).f5.length cpq187_5]) (seg := [.int .i64 ((rd_T44 l0_5 x167).f0), .int .i64 ((rd_T44 l0_5 x167).f1), .int .i64 ((rd_T44 l0_5 x167).f2), .string ((rd_T44 l0_5 x167).f3), .string ((rd_T44 l0_5 x167).f4), .slice Aq187_5 (rd_T44 l0_5 x167).f5.length cpq187_5]) (xs := [.int .i64 0, .int .i64 0, .int .i64 0, .string (⟨#[]⟩ : ByteArray), .string (⟨#[]⟩ : ByteArray), .slice none 0 0]) rfl rfl rfl rfl rfl rfl (by first | kernel_rfl | rfl) (by simp [Value.oneCell']) HX191 (by simp only [List.length_cons, List.length_nil]; omega) rfl ?_
    intro w193 HX194 hs195
    replace HJ166 := HJ166.thru hs195 rfl
    replace HJ168 := HJ168.thru hs195 rfl
    replace HRq187_5 := HRq187_5.thru hs195 rfl
    replace HS172 := HS172.trans hs195 hc rfl
    (try simp only [ls0, ls1])
    refine wl_end ?_
    (try simp only [ls0, ls1])
    refine hK182 _ _ ?_
    (try clear hK182 K182)
    refine wl_region ?_
    refine mv_ rfl ?_
    refine st (.agg #[.int .i64 ((rd_T44 l0_5 x167).f0), .int .i64 ((rd_T44 l0_5 x167).f1), .int .i64 ((rd_T44 l0_5 x167).f2), .string ((rd_T44 l0_5 x167).f3), .string ((rd_T44 l0_5 x167).f4), .slice Aq187_5 (rd_T44 l0_5 x167).f5.length cpq187_5]) rfl rfl (xr_load _ _ rfl rfl (load_agg (cs := [.int .i64 ((rd_T44 l0_5 x167).f0), .int .i64 ((rd_T44 l0_5 x167).f1), .int .i64 ((rd_T44 l0_5 x167).f2), .string ((rd_T44 l0_5 x167).f3), .string ((rd_T44 l0_5 x167).f4), .slice Aq187_5 (rd_T44 l0_5 x167).f5.length cpq187_5]) Try.underlying44 rfl (by kernel_rfl) (bx_cells (HX194).2 0 rfl))) ?_
    obtain ⟨t196, A197, H⟩ := bnd H
    refine st_call #[.agg #[.int .i64 ((rd_T44 l0_5 x167).f0), .int .i64 ((rd_T44 l0_5 x167).f1), .int .i64 ((rd_T44 l0_5 x167).f2), .string ((rd_T44 l0_5 x167).f3), .string ((rd_T44 l0_5 x167).f4), .slice Aq187_5 (rd_T44 l0_5 x167).f5.length cpq187_5]] rfl rfl Try.func36 (by kernel_rfl) rfl rfl (mp_ rfl) ?_
    refine (IH.expr_Height ((rd_T44 l0_5 x167).f0) ((rd_T44 l0_5 x167).f1) ((rd_T44 l0_5 x167).f2) ((rd_T44 l0_5 x167).f3) ((rd_T44 l0_5 x167).f4) Aq187_5 cpq187_5 ((rd_T44 l0_5 x167).f5) t196  (fun z_ => pal [(0, 0)] (C190 z_)) w193 (fun _ => pal_lt rfl _) (Ft.arg HRq187_5 rfl) HCq187_5 A197).mono ?_
    rintro _ w199 ⟨C200, rfl, hs201⟩
    refine ⟨_, rfl, ?_⟩
    replace hs201 := Step.lift (U := [(0, 0)]) hs201 [] rfl rfl
    generalize up C190 C200 w193.heap.size [(0, 0)] = C200_ at hs201
    replace HJ166 := HJ166.thru hs201 rfl
    replace HJ168 := HJ168.thru hs201 rfl
    replace HRq187_5 := HRq187_5.thru hs201 rfl
    replace HX194 := HX194.thru hs201 rfl
    replace HS172 := HS172.trans hs201 hc rfl
    (try simp only [ls0, ls1])
    refine st (.int .i64 (mx x165 t196)) rfl rfl (xr_builtin #[.int .i64 x165, .int .i64 t196] (.int .i64 (mx x165 t196)) rfl (mp_ rfl) (by first | rfl | (go_simp; done) | (go_simp; rfl) | (go_simp; exact i64_w _) | (go_simp; exact i32_w _))) ?_
    refine as_ rfl ?_
    refine wl_end ?_
    (try simp only [ls0, ls1])
    refine hK181 _ _ ?_
    (try clear hK181 K181)
    refine wl_region ?_
    refine st (.int .i64 (wrap64 (x167 + 1))) rfl rfl (xr_bin _ _ _ rfl rfl rfl (B.add_i64 _ _)) ?_
    refine mv_ rfl ?_
    refine wl_end ?_
    (try simp only [ls0, ls1])
    exact jmpL (fun a_ h_ => ih174 k177 (by omega) a_ _ h_) (fun g_ => ⟨_, mx x165 t196, wrap64 (x167 + 1), g_, rfl, HS172, (by omega), HJ166, HJ168, H⟩) rfl
   rw [if_neg c180] at H
   (try rw [(decide_eq_false c180)])
   refine wp_cond_false rfl ?_
   refine wp_exit ?_
   (try simp only [ls0, ls1])
   refine hK109 _ _ ?_
   (try clear hK109 K109)
   refine wp_seq_k fun K202 hK202 => ?_
   refine wl_region ?_
   refine mv_ rfl ?_
   refine st (.int .i64 (wrap64 (x165 + 1))) rfl rfl (xr_bin _ _ _ rfl rfl rfl (B.add_i64 _ _)) ?_
   refine as_ rfl ?_
   refine wl_end ?_
   (try simp only [ls0, ls1])
   refine hK202 _ _ ?_
   (try clear hK202 K202)
   refine wp_ret ?_
   (try simp only [Exit.inBlock, Exit.then, Exit.noGoto])
   (try simp only [ls0, ls1])
   obtain rfl := Option.some.inj H
   refine bodyPost_ret (results_tmp rfl _ _ _) rfl ?_
   exact ⟨_, rfl, HS172⟩

def Rec_expr_Height.at : Nat → Rec_expr_Height
  | 0 => ⟨fun x0 x1 x2 x3 x4 x5 => none⟩
  | k + 1 => ⟨fun x0 x1 x2 x3 x4 x5 => expr_Height.g (Rec_expr_Height.at k) k x0 x1 x2 x3 x4 x5⟩
theorem Rec_expr_Height.good : ∀ k, Rec_expr_Height.Good (Rec_expr_Height.at k)
  | 0 => ⟨(by intros; rename_i H; exact absurd H (by simp [Rec_expr_Height.at]))⟩
  | k + 1 => ⟨expr_Height.step (Rec_expr_Height.at k) (Rec_expr_Height.good k) k⟩
def expr_Height.f (k : Nat) (x0 : Int) (x1 : Int) (x2 : Int) (x3 : ByteArray) (x4 : ByteArray) (x5 : List (S44)) : Option (Int) := (Rec_expr_Height.at k).expr_Height x0 x1 x2 x3 x4 x5
theorem expr_Height.calls : ∀ (k : Nat) (a0_0 : Int) (a0_1 : Int) (a0_2 : Int) (a0_3 : ByteArray) (a0_4 : ByteArray) (A0_5 : Option Addr) (c0_5 : Nat) (l0_5 : List (S44)) (r : Int) (c : Nat → Nat) (w : World) (hc : ∀ k, c k < 10) (HP0_5 : Ft c [0] w (fun w_ => k44.C w_ A0_5 l0_5.length l0_5)) (HCP0_5 : l0_5.length ≤ c0_5) (H : expr_Height.f k a0_0 a0_1 a0_2 a0_3 a0_4 l0_5 = some r),
    Calls Try.prog 36 #[.agg #[.int .i64 a0_0, .int .i64 a0_1, .int .i64 a0_2, .string a0_3, .string a0_4, .slice A0_5 l0_5.length c0_5]] w fun e w' => ∃ (c' : Nat → Nat) , e = .returned (.int .i64 r) ∧ Step c w c' w' [] := fun k => (Rec_expr_Height.good k).expr_Height

/-! ### expr_Cursor_held: function 104 -/
def expr_Cursor_held.f (k : Nat) (l0_0 : List Int) (l0_1 : List (S28)) (a0_2 : Int) (a0_3 : Int) (a1_0 : Int) (a1_1 : Int) (a1_2 : Int) (a1_3 : ByteArray) (a1_4 : ByteArray) (l1_5 : List (S44)) (a2 : Int) : Option (Int × Int × Int × ByteArray × ByteArray × (List (S44)) × Int × Int) := (expr_Height.f k a1_0 a1_1 a1_2 a1_3 a1_4 l1_5).bind fun t46 => (if t46 > 32 then (some (0, 0, 0, (⟨#[]⟩ : ByteArray), (⟨#[]⟩ : ByteArray), ([] : List (S44)), 12, a2)) else (some (a1_0, a1_1, a1_2, a1_3, a1_4, l1_5, 0, a0_2)))

set_option maxHeartbeats 8000000 in
set_option maxRecDepth 100000 in
theorem expr_Cursor_held.calls (k : Nat) (g0 : Nat) (A0_0 : Option Addr) (c0_0 : Nat) (l0_0 : List Int) (A0_1 : Option Addr) (c0_1 : Nat) (l0_1 : List (S28)) (a0_2 : Int) (a0_3 : Int) (a1_0 : Int) (a1_1 : Int) (a1_2 : Int) (a1_3 : ByteArray) (a1_4 : ByteArray) (A1_5 : Option Addr) (c1_5 : Nat) (l1_5 : List (S44)) (a2 : Int) (r1 : Int) (r2 : Int) (r3 : Int) (r4 : ByteArray) (r5 : ByteArray) (r6 : List (S44)) (r7 : Int) (r8 : Int) (c : Nat → Nat) (w : World) (hc : ∀ k, c k < 10) (HP0 : Bx c 1 w g0 111 ([.slice A0_0 l0_0.length c0_0, .slice A0_1 l0_1.length c0_1, .int .i64 a0_2, .int .i64 a0_3])) (HP0_0 : Ft c [0] w (fun w_ => (Kd.int .u8).C w_ A0_0 l0_0.length l0_0)) (HCP0_0 : l0_0.length ≤ c0_0) (HP0_1 : Ft c [0] w (fun w_ => k28.C w_ A0_1 l0_1.length l0_1)) (HCP0_1 : l0_1.length ≤ c0_1) (HP1_5 : Ft c [0] w (fun w_ => k44.C w_ A1_5 l1_5.length l1_5)) (HCP1_5 : l1_5.length ≤ c1_5) (H : expr_Cursor_held.f k l0_0 l0_1 a0_2 a0_3 a1_0 a1_1 a1_2 a1_3 a1_4 l1_5 a2 = some (r1, r2, r3, r4, r5, r6, r7, r8)) :
    Calls Try.prog 104 #[.pointer (some ⟨g0, 0, none⟩), .agg #[.int .i64 a1_0, .int .i64 a1_1, .int .i64 a1_2, .string a1_3, .string a1_4, .slice A1_5 l1_5.length c1_5], .int .i64 a2] w fun e w' => ∃ (c' : Nat → Nat) (A_r6 : Option Addr) (c_r6 : Nat), e = .returned (.tuple #[.agg #[.int .i64 r1, .int .i64 r2, .int .i64 r3, .string r4, .string r5, .slice A_r6 r6.length c_r6], .int .i64 r7]) ∧ Step c w c' w' [1] ∧ Ft c' [0] w' (fun w_ => k44.C w_ A_r6 r6.length r6) ∧ r6.length ≤ c_r6 ∧ Bx c' 1 w' g0 111 ([.slice A0_0 l0_0.length c0_0, .slice A0_1 l0_1.length c0_1, .int .i64 r8, .int .i64 a0_3]) := by
 unfold expr_Cursor_held.f at H
 have HS := Step.refl c w [1]
 go_enter Try.func104, Try.ntmps104
 refine wp_seq_k fun K33 hK33 => ?_
 refine wl_region ?_
 refine bx_new (C := c) 44 ([.int .i64 a1_0, .int .i64 a1_1, .int .i64 a1_2, .string a1_3, .string a1_4, .slice A1_5 l1_5.length c1_5]) 11 rfl rfl (by first | (go_simp; done) | (go_simp; rfl)) ?_
 intro g34 w35 C36 HX37 hs38
 replace HP0 := HP0.thru hs38 rfl
 replace HP0_0 := HP0_0.thru hs38 rfl
 replace HP0_1 := HP0_1.thru hs38 rfl
 replace HP1_5 := HP1_5.thru hs38 rfl
 replace HS := HS.trans hs38 hc rfl
 (try simp only [ls0, ls1])
 refine bx_new (C := C36) 44 ([.int .i64 0, .int .i64 0, .int .i64 0, .string (⟨#[]⟩ : ByteArray), .string (⟨#[]⟩ : ByteArray), .slice none 0 0]) 12 rfl rfl (by first | (go_simp; done) | (go_simp; rfl)) ?_
 intro g39 w40 C41 HX42 hs43
 replace HP0 := HP0.thru hs43 rfl
 replace HP0_0 := HP0_0.thru hs43 rfl
 replace HP0_1 := HP0_1.thru hs43 rfl
 replace HP1_5 := HP1_5.thru hs43 rfl
 replace HX37 := HX37.thru hs43 rfl
 replace HS := HS.trans hs43 hc rfl
 (try simp only [ls0, ls1])
 refine st (.int .i64 0) rfl rfl (xr_assign _ rfl rfl) ?_
 refine wl_end ?_
 (try simp only [ls0, ls1])
 refine hK33 _ _ ?_
 (try clear hK33 K33)
 refine wp_seq_k fun K44 hK44 => ?_
 refine wp_seq_k fun K45 hK45 => ?_
 refine wl_region ?_
 refine st (.agg #[.int .i64 a1_0, .int .i64 a1_1, .int .i64 a1_2, .string a1_3, .string a1_4, .slice A1_5 l1_5.length c1_5]) rfl rfl (xr_load _ _ rfl rfl (load_agg (cs := [.int .i64 a1_0, .int .i64 a1_1, .int .i64 a1_2, .string a1_3, .string a1_4, .slice A1_5 l1_5.length c1_5]) Try.underlying44 rfl (by kernel_rfl) (bx_cells (HX37).2 0 rfl))) ?_
 obtain ⟨t46, A47, H⟩ := bnd H
 refine st_call #[.agg #[.int .i64 a1_0, .int .i64 a1_1, .int .i64 a1_2, .string a1_3, .string a1_4, .slice A1_5 l1_5.length c1_5]] rfl rfl Try.func36 (by kernel_rfl) rfl rfl (mp_ rfl) ?_
 refine (expr_Height.calls k a1_0 a1_1 a1_2 a1_3 a1_4 A1_5 c1_5 l1_5 t46  (fun z_ => pal [(0, 0)] (C41 z_)) w40 (fun _ => pal_lt rfl _) (Ft.arg HP1_5 rfl) HCP1_5 A47).mono ?_
 rintro _ w49 ⟨C50, rfl, hs51⟩
 refine ⟨_, rfl, ?_⟩
 replace hs51 := Step.lift (U := [(0, 0)]) hs51 [] rfl rfl
 generalize up C41 C50 w40.heap.size [(0, 0)] = C50_ at hs51
 replace HP0 := HP0.thru hs51 rfl
 replace HP0_0 := HP0_0.thru hs51 rfl
 replace HP0_1 := HP0_1.thru hs51 rfl
 replace HP1_5 := HP1_5.thru hs51 rfl
 replace HX37 := HX37.thru hs51 rfl
 replace HX42 := HX42.thru hs51 rfl
 replace HS := HS.trans hs51 hc rfl
 (try simp only [ls0, ls1])
 refine st (.bool (decide (t46 > 32))) rfl rfl (xr_bin _ _ _ rfl rfl rfl (B.gtr_i64 _ _)) ?_
 refine wl_end ?_
 (try simp only [ls0, ls1])
 refine hK45 _ _ ?_
 (try clear hK45 K45)
 by_cases c52 : t46 > 32
 ·rw [if_pos c52] at H
  (try rw [(decide_eq_true c52)])
  refine wp_cond_true rfl ?_
  refine wp_seq_k fun K53 hK53 => ?_
  refine wl_region ?_
  refine mv_ rfl ?_
  refine mv_ rfl ?_
  refine st (.pointer (some ⟨g0, 0, none⟩)) rfl rfl (xr_nilCheck _ rfl rfl) ?_
  refine st (.pointer (some ⟨g0, 2, none⟩)) rfl rfl (xr_fieldAddr _ _ rfl rfl (bx_field2 Try.underlying111 rfl rfl (by kernel_rfl))) ?_
  simp only [ls0, ls1]
  refine bx_store (C := C50_) (z := 1) (g := g0) (j := 2) (tb := 111) (u := .int .i64 a2) (seg := [.int .i64 a2]) (xs := [.slice A0_0 l0_0.length c0_0, .slice A0_1 l0_1.length c0_1, .int .i64 a0_2, .int .i64 a0_3]) rfl rfl rfl rfl rfl rfl (by first | kernel_rfl | rfl) (by simp [Value.oneCell']) HP0 (by simp only [List.length_cons, List.length_nil]; omega) rfl ?_
  intro w54 HX55 hs56
  replace HP0_0 := HP0_0.thru hs56 rfl
  replace HP0_1 := HP0_1.thru hs56 rfl
  replace HP1_5 := HP1_5.thru hs56 rfl
  replace HX37 := HX37.thru hs56 rfl
  replace HX42 := HX42.thru hs56 rfl
  replace HS := HS.trans hs56 hc rfl
  (try simp only [ls0, ls1])
  refine wl_end ?_
  (try simp only [ls0, ls1])
  refine hK53 _ _ ?_
  (try clear hK53 K53)
  refine wp_seq_k fun K57 hK57 => ?_
  refine wl_region ?_
  refine st (.agg #[.int .i64 0, .int .i64 0, .int .i64 0, .string (⟨#[]⟩ : ByteArray), .string (⟨#[]⟩ : ByteArray), .slice none 0 0]) rfl rfl (xr_build #[] (.agg #[.int .i64 0, .int .i64 0, .int .i64 0, .string (⟨#[]⟩ : ByteArray), .string (⟨#[]⟩ : ByteArray), .slice none 0 0]) rfl (mp_ rfl) (by first | rfl | (go_simp; done) | (go_simp; rfl) | (go_simp; exact i64_w _) | (go_simp; exact i32_w _))) ?_
  refine bx_store (C := C50_) (z := 12) (g := g39) (j := 0) (tb := 44) (u := .agg #[.int .i64 0, .int .i64 0, .int .i64 0, .string (⟨#[]⟩ : ByteArray), .string (⟨#[]⟩ : ByteArray), .slice none 0 0]) (seg := [.int .i64 0, .int .i64 0, .int .i64 0, .string (⟨#[]⟩ : ByteArray), .string (⟨#[]⟩ : ByteArray), .slice none 0 0]) (xs := [.int .i64 0, .int .i64 0, .int .i64 0, .string (⟨#[]⟩ : ByteArray), .string (⟨#[]⟩ : ByteArray), .slice none 0 0]) rfl rfl rfl rfl rfl rfl (by first | kernel_rfl | rfl) (by simp [Value.oneCell']) HX42 (by simp only [List.length_cons, List.length_nil]; omega) rfl ?_
  intro w58 HX59 hs60
  replace HX55 := HX55.thru hs60 rfl
  replace HP0_0 := HP0_0.thru hs60 rfl
  replace HP0_1 := HP0_1.thru hs60 rfl
  replace HP1_5 := HP1_5.thru hs60 rfl
  replace HX37 := HX37.thru hs60 rfl
  replace HS := HS.trans hs60 hc rfl
  (try simp only [ls0, ls1])
  refine st (.int .i64 12) rfl rfl (xr_assign _ rfl rfl) ?_
  refine wl_end ?_
  (try simp only [ls0, ls1])
  refine hK57 _ _ ?_
  (try clear hK57 K57)
  refine wp_ret ?_
  (try simp only [Exit.inBlock, Exit.then, Exit.noGoto])
  (try simp only [ls0, ls1])
  simp only [Option.some.injEq, Prod.mk.injEq] at H
  obtain ⟨rfl, rfl, rfl, rfl, rfl, rfl, rfl, rfl⟩ := H
  refine bodyPost_ret (res_ct rfl rfl (load_of (load_agg (cs := [.int .i64 0, .int .i64 0, .int .i64 0, .string (⟨#[]⟩ : ByteArray), .string (⟨#[]⟩ : ByteArray), .slice none 0 0]) Try.underlying44 rfl (by kernel_rfl) (bx_cells (HX59).2 0 rfl)))) rfl ?_
  exact ⟨_, none, 0, rfl, HS, (Kd.F_nil _ _ _), (Nat.le_refl 0), HX55⟩
 rw [if_neg c52] at H
 (try rw [(decide_eq_false c52)])
 refine wp_cond_false rfl ?_
 refine wp_skip ?_
 (try simp only [ls0, ls1])
 refine hK44 _ _ ?_
 (try clear hK44 K44)
 refine wp_seq_k fun K61 hK61 => ?_
 refine wl_region ?_
 refine st (.agg #[.int .i64 a1_0, .int .i64 a1_1, .int .i64 a1_2, .string a1_3, .string a1_4, .slice A1_5 l1_5.length c1_5]) rfl rfl (xr_load _ _ rfl rfl (load_agg (cs := [.int .i64 a1_0, .int .i64 a1_1, .int .i64 a1_2, .string a1_3, .string a1_4, .slice A1_5 l1_5.length c1_5]) Try.underlying44 rfl (by kernel_rfl) (bx_cells (HX37).2 0 rfl))) ?_
 refine bx_store (C := C50_) (z := 12) (g := g39) (j := 0) (tb := 44) (u := .agg #[.int .i64 a1_0, .int .i64 a1_1, .int .i64 a1_2, .string a1_3, .string a1_4, .slice A1_5 l1_5.length c1_5]) (seg := [.int .i64 a1_0, .int .i64 a1_1, .int .i64 a1_2, .string a1_3, .string a1_4, .slice A1_5 l1_5.length c1_5]) (xs := [.int .i64 0, .int .i64 0, .int .i64 0, .string (⟨#[]⟩ : ByteArray), .string (⟨#[]⟩ : ByteArray), .slice none 0 0]) rfl rfl rfl rfl rfl rfl (by first | kernel_rfl | rfl) (by simp [Value.oneCell']) HX42 (by simp only [List.length_cons, List.length_nil]; omega) rfl ?_
 intro w62 HX63 hs64
 replace HP0 := HP0.thru hs64 rfl
 replace HP0_0 := HP0_0.thru hs64 rfl
 replace HP0_1 := HP0_1.thru hs64 rfl
 replace HP1_5 := HP1_5.thru hs64 rfl
 replace HX37 := HX37.thru hs64 rfl
 replace HS := HS.trans hs64 hc rfl
 (try simp only [ls0, ls1])
 refine st (.int .i64 0) rfl rfl (xr_assign _ rfl rfl) ?_
 refine wl_end ?_
 (try simp only [ls0, ls1])
 refine hK61 _ _ ?_
 (try clear hK61 K61)
 refine wp_ret ?_
 (try simp only [Exit.inBlock, Exit.then, Exit.noGoto])
 (try simp only [ls0, ls1])
 simp only [Option.some.injEq, Prod.mk.injEq] at H
 obtain ⟨rfl, rfl, rfl, rfl, rfl, rfl, rfl, rfl⟩ := H
 refine bodyPost_ret (res_ct rfl rfl (load_of (load_agg (cs := [.int .i64 a1_0, .int .i64 a1_1, .int .i64 a1_2, .string a1_3, .string a1_4, .slice A1_5 l1_5.length c1_5]) Try.underlying44 rfl (by kernel_rfl) (bx_cells (HX63).2 0 rfl)))) rfl ?_
 exact ⟨_, A1_5, c1_5, rfl, HS, HP1_5, HCP1_5, HP0⟩

/-! ### expr_Cursor_Kind: function 46 -/
def expr_Cursor_Kind.f (x0 : Option S111) : Option (Int) := onOpt x0 (some 0) (fun o116 => ((expr_Cursor_Done.f (some (⟨o116.f0, o116.f1, o116.f2, o116.f3⟩ : S111) : Option S111)).bind fun t124 => (if t124 = true then (some 0) else (if 0 ≤ o116.f2 then (if o116.f2 < (o116.f1.length : Int) then (some ((rd_T28 o116.f1 o116.f2).f0)) else (none)) else (none)))))
set_option maxHeartbeats 8000000 in
set_option maxRecDepth 100000 in
theorem expr_Cursor_Kind.calls (v0 : Value) (x0 : Option S111) (r : Int) (c : Nat → Nat) (w : World) (hc : ∀ k, c k < 10) (HP0 : Ft c [0] w (fun w_ => (Kd.ptr 111 k111).K w_ x0 [v0])) (H : expr_Cursor_Kind.f x0 = some r) :
    Calls Try.prog 46 #[v0] w fun e w' => ∃ (c' : Nat → Nat) , e = .returned (.int .i64 r) ∧ Step c w c' w' [] := by
 unfold expr_Cursor_Kind.f at H
 have HS := Step.refl c w []
 go_enter Try.func46, Try.ntmps46
 refine wp_seq_k fun K70 hK70 => ?_
 refine wl_region ?_
 refine st (.int .i64 0) rfl rfl (xr_assign _ rfl rfl) ?_
 refine wl_end ?_
 (try simp only [ls0, ls1])
 refine hK70 _ _ ?_
 (try clear hK70 K70)
 refine wp_seq_k fun K71 hK71 => ?_
 refine wp_seq_k fun K102 hK102 => ?_
 refine wl_region ?_
 refine mv_ rfl ?_
 cases x0 with
 | none =>
  (try simp only [onOpt] at H)
  obtain rfl := ptr_none HP0
  refine st (.bool true) rfl rfl (xr_bin (.pointer none) (.pointer none) (.bool true) rfl rfl rfl (B.eql_nn ⟨_, Try.underlying57⟩ (⟨0, 0, none⟩ : Addr))) ?_
  refine mv_ rfl ?_
  simp only [ls0, ls1]
  refine sk_guard (guard_off 2 false 5 rfl rfl true (by decide) rfl) rfl ?_
  refine sk_guard (guard_off 2 false 5 rfl rfl true (by decide) rfl) rfl ?_
  refine st (.bool true) rfl rfl (xr_pick true _ rfl rfl rfl) ?_
  refine wl_end ?_
  (try simp only [ls0, ls1])
  refine hK102 _ _ ?_
  (try clear hK102 K102)
  refine wp_cond_true rfl ?_
  refine wp_seq_k fun K117 hK117 => ?_
  refine wl_region ?_
  refine st (.int .i64 0) rfl rfl (xr_assign _ rfl rfl) ?_
  refine wl_end ?_
  (try simp only [ls0, ls1])
  refine hK117 _ _ ?_
  (try clear hK117 K117)
  refine wp_ret ?_
  (try simp only [Exit.inBlock, Exit.then, Exit.noGoto])
  (try simp only [ls0, ls1])
  obtain rfl := Option.some.inj H
  refine bodyPost_ret (results_tmp rfl _ _ _) rfl ?_
  exact ⟨_, rfl, HS⟩
 | some o116 =>
  (try simp only [onOpt] at H)
  obtain ⟨g118, cs119, rfl, HX120, HK121⟩ := ptr_some HP0
  obtain ⟨Aq122_0, cpq122_0, Aq122_1, cpq122_1, rfl, HCq122_0, HRq122_0, HCq122_1, HRq122_1⟩ := k111_openF HK121
  replace HRq122_0 : Ft c [0] w (fun w_ => (Kd.int .u8).C w_ Aq122_0 o116.f0.length o116.f0) := HRq122_0
  replace HRq122_1 : Ft c [0] w (fun w_ => k28.C w_ Aq122_1 o116.f1.length o116.f1) := HRq122_1
  refine st (.bool false) rfl rfl (xr_bin (.pointer (some ⟨g118, 0, none⟩)) (.pointer none) (.bool false) rfl rfl rfl (B.eql_pn ⟨_, Try.underlying57⟩ ⟨g118, 0, none⟩)) ?_
  refine mv_ rfl ?_
  refine on_guard (guard_on 2 false 5 rfl rfl rfl) ?_
  refine mv_ rfl ?_
  refine on_guard (guard_on 2 false 5 rfl rfl rfl) ?_
  have HP123 : Ft c [0] w (fun w_ => (Kd.ptr 111 k111).K w_ (some (⟨o116.f0, o116.f1, o116.f2, o116.f3⟩ : S111)) [.pointer (some ⟨g118, 0, none⟩)]) := ptr_mk (Ft.more HX120 rfl) (k111_mkF _ _ (⟨o116.f0, o116.f1, o116.f2, o116.f3⟩ : S111) HCq122_0 (Ft.more HRq122_0 rfl) HCq122_1 (Ft.more HRq122_1 rfl))
  obtain ⟨t124, A125, H⟩ := bnd H
  refine st_call #[.pointer (some ⟨g118, 0, none⟩)] rfl rfl Try.func47 (by kernel_rfl) rfl rfl (mp_ rfl) ?_
  refine (expr_Cursor_Done.calls (.pointer (some ⟨g118, 0, none⟩)) (some (⟨o116.f0, o116.f1, o116.f2, o116.f3⟩ : S111) : Option S111) t124  (fun z_ => pal [(0, 0)] (c z_)) w (fun _ => pal_lt rfl _) (Ft.arg HP123 rfl) A125).mono ?_
  rintro _ w127 ⟨C128, rfl, hs129⟩
  refine ⟨_, rfl, ?_⟩
  replace hs129 := Step.lift (U := [(0, 0)]) hs129 [] rfl rfl
  generalize up c C128 w.heap.size [(0, 0)] = C128_ at hs129
  replace HX120 := HX120.thru hs129 rfl
  replace HRq122_0 := HRq122_0.thru hs129 rfl
  replace HRq122_1 := HRq122_1.thru hs129 rfl
  replace HS := HS.trans hs129 hc rfl
  (try simp only [ls0, ls1])
  refine st (.bool t124) rfl rfl (xr_pick false _ rfl rfl rfl) ?_
  refine wl_end ?_
  (try simp only [ls0, ls1])
  refine hK102 _ _ ?_
  (try clear hK102 K102)
  by_cases c130 : t124 = true
  ·rw [if_pos c130] at H
   (try rw [c130])
   refine wp_cond_true rfl ?_
   refine wp_seq_k fun K131 hK131 => ?_
   refine wl_region ?_
   refine st (.int .i64 0) rfl rfl (xr_assign _ rfl rfl) ?_
   refine wl_end ?_
   (try simp only [ls0, ls1])
   refine hK131 _ _ ?_
   (try clear hK131 K131)
   refine wp_ret ?_
   (try simp only [Exit.inBlock, Exit.then, Exit.noGoto])
   (try simp only [ls0, ls1])
   obtain rfl := Option.some.inj H
   refine bodyPost_ret (results_tmp rfl _ _ _) rfl ?_
   exact ⟨_, rfl, HS⟩
  rw [if_neg c130] at H
  (try rw [(Bool.eq_false_iff.mpr c130)])
  refine wp_cond_false rfl ?_
  refine wp_skip ?_
  (try simp only [ls0, ls1])
  refine hK71 _ _ ?_
  (try clear hK71 K71)
  refine wp_seq_k fun K132 hK132 => ?_
  (try simp only [ls0, ls1])
  refine al_start (lb 12 0) rfl rfl rfl (fun w_ => (Kd.int .u8).C w_ Aq122_0 o116.f0.length o116.f0 ∧ k28.C w_ Aq122_1 o116.f1.length o116.f1 ∧ w_.heap[g118]? = some (.cells (List.toArray ([.slice Aq122_0 o116.f0.length cpq122_0, .slice Aq122_1 o116.f1.length cpq122_1, .int .i64 o116.f2, .int .i64 o116.f3])) 111 (0, 0))) ⟨(Ft.now ((HRq122_0).drew)), (Ft.now ((HRq122_1).drew)), (Ft.now (HX120.drew))⟩ [] ?_
  replace HX120 := HX120.drew
  replace HRq122_0 := HRq122_0.drew
  replace HRq122_1 := HRq122_1.drew
  replace HS := Step.ofDrew HS
  generalize w127.drew = w133 at *
  refine al_mv 0 (lb 12 1) rfl rfl (by kernel_rfl) (fun _ _ _ => id) rfl ?_
  refine al_pure 1 10 (.pointer (some ⟨g118, 0, none⟩)) (lb 12 3) rfl rfl (by kernel_rfl) (fun _ _ _ => id) rfl (fun w_ => xr_nilCheck _ rfl rfl) ?_
  refine al_pure 2 11 (.pointer (some ⟨g118, 1, none⟩)) (lb 12 7) rfl rfl (by kernel_rfl) (fun _ _ _ => id) rfl (fun w_ => xr_fieldAddr _ _ rfl rfl (bx_field2 Try.underlying111 rfl rfl (by kernel_rfl))) ?_
  refine al_mv 4 (lb 12 23) rfl rfl (by kernel_rfl) (fun _ _ _ => id) rfl ?_
  simp only [ls0, ls1]
  refine al_pure 5 14 (.pointer (some ⟨g118, 0, none⟩)) (lb 12 55) rfl rfl (by kernel_rfl) (fun _ _ _ => id) rfl (fun w_ => xr_nilCheck _ rfl rfl) ?_
  refine al_pure 6 15 (.pointer (some ⟨g118, 2, none⟩)) (lb 12 119) rfl rfl (by kernel_rfl) (fun _ _ _ => id) rfl (fun w_ => xr_fieldAddr _ _ rfl rfl (bx_field2 Try.underlying111 rfl rfl (by kernel_rfl))) ?_
  refine al_take 3 12 (.slice Aq122_1 o116.f1.length cpq122_1) (lb 12 127) rfl rfl (by kernel_rfl) (fun _ _ _ => id) rfl (fun w_ hS_ => xr_load _ _ rfl rfl (load_cell Try.underlying24 rfl (bx_cell hS_.2.2 1 rfl))) ⟨(Ft.now HRq122_0), (Ft.now HRq122_1), (Ft.now (HX120))⟩ ?_
  refine al_take 7 16 (.int .i64 o116.f2) (lb 12 255) rfl rfl (by kernel_rfl) (fun _ _ _ => id) rfl (fun w_ hS_ => xr_load _ _ rfl rfl (load_cell Try.underlying3 rfl (bx_cell hS_.2.2 2 rfl))) ⟨(Ft.now HRq122_0), (Ft.now HRq122_1), (Ft.now (HX120))⟩ ?_
  simp only [ls0, ls1]
  obtain ⟨c134, H⟩ := if_some H
  obtain ⟨c135, H⟩ := if_some H
  obtain ⟨ad136, hA137⟩ := c_addr (Ft.now HRq122_1) (pos_of (j := o116.f2) (by first | assumption | decide) (by first | assumption | omega))
  refine al_pure 8 17 (.pointer (some (ad136.add ((o116.f2 : Int).toNat * 3)))) (lb 12 511) rfl rfl (by kernel_rfl) (fun _ _ _ => id) rfl (fun w_ => xr_indexAddr _ _ _ rfl rfl rfl (index_at Try.underlying24 info28 hA137 (by first | assumption | decide | omega) (by first | assumption | decide | omega))) ?_
  refine al_pure 9 18 (.pointer (some ((ad136.add ((o116.f2 : Int).toNat * 3)).add 0))) (lb 12 1023) rfl rfl (by kernel_rfl) (fun _ _ _ => id) rfl (fun w_ => xr_fieldAddr _ _ rfl rfl (field_at2 Try.underlying28 rfl rfl (by kernel_rfl))) ?_
  refine al_take 10 19 (.int .i64 ((rd_T28 o116.f1 o116.f2).f0)) (lb 12 2047) rfl rfl (by kernel_rfl) (fun _ _ _ => id) rfl (fun w_ hS_ => xr_load (.pointer (some ((ad136.add ((o116.f2 : Int).toNat * 3)).add 0))) (.int .i64 ((rd_T28 o116.f1 o116.f2).f0)) rfl rfl (by obtain ⟨ad_, cs_, e_, _, hK_, hc_⟩ := Kd.C_get hS_.2.1 z28 o116.f2 (by first | assumption | decide | omega) (by first | assumption | decide | omega); rw [hA137] at e_; injection e_ with e_; subst e_; obtain rfl := k28_open hK_; exact load_cell Try.underlying3 rfl (by first | (rw [add_add]; exact hc_ 0 _ rfl) | (have h_ := hc_ 0 _ rfl; rw [Nat.add_zero] at h_; exact h_)))) ⟨(Ft.now HRq122_0), (Ft.now HRq122_1), (Ft.now (HX120))⟩ ?_
  refine al_as 11 (lb 12 4095) rfl rfl (by kernel_rfl) (fun _ _ _ => id) rfl ?_
  simp only [ls0, ls1]
  refine al_end (by kernel_rfl) ?_
  (try simp only [ls0, ls1])
  refine hK132 _ _ ?_
  (try clear hK132 K132)
  refine wp_ret ?_
  (try simp only [Exit.inBlock, Exit.then, Exit.noGoto])
  (try simp only [ls0, ls1])
  obtain rfl := Option.some.inj H
  refine bodyPost_ret (results_tmp rfl _ _ _) rfl ?_
  exact ⟨_, rfl, HS⟩

/-! ### expr_Cursor_number: function 131 -/
def expr_Cursor_number.l0 : Nat → Int → Int → (List Int) → (List (S28)) → Int → Int → (List Int) → Option (Int × Int × Int × ByteArray × ByteArray × (List (S44)) × Int × Int)
  | 0, _, _, _, _, _, _, _ => none
  | k + 1, a0_2, a0_3, l0_0, l0_1, x385, x387, y332 => if x387 < (y332.length : Int) then (if 0 ≤ x387 then (if x385 > (wrap64 (Int.tdiv (wrap64 (9223372036854775807 - (wrap64 (((rd y332 x387) - 48) % 256)))) 10)) then (some (0, 0, 0, (⟨#[]⟩ : ByteArray), (⟨#[]⟩ : ByteArray), ([] : List (S44)), 18, a0_2)) else (expr_Cursor_number.l0 k a0_2 a0_3 l0_0 l0_1 (wrap64 ((wrap64 (10 * x385)) + (wrap64 (((rd y332 x387) - 48) % 256)))) (wrap64 (x387 + 1)) y332)) else (none)) else ((expr_Cursor_Pos.f (some (⟨l0_0, l0_1, a0_2, a0_3⟩ : S111) : Option S111)).bind fun t419 => (some (0, t419, x385, (⟨#[]⟩ : ByteArray), (⟨#[]⟩ : ByteArray), ([] : List (S44)), 0, wrap64 (a0_2 + 1))))
def expr_Cursor_number.f (k : Nat) (l0_0 : List Int) (l0_1 : List (S28)) (a0_2 : Int) (a0_3 : Int) : Option (Int × Int × Int × ByteArray × ByteArray × (List (S44)) × Int × Int) := (expr_Cursor_Peek.f (some (⟨l0_0, l0_1, a0_2, a0_3⟩ : S111) : Option S111)).bind fun t325 => (if t325.size ≤ 9223372036854775807 then ((some (bytesOf t325 : List Int)).bind fun y332 => (expr_Cursor_number.l0 k a0_2 a0_3 l0_0 l0_1 0 0 y332)) else (none))

set_option maxHeartbeats 8000000 in
set_option maxRecDepth 100000 in
theorem expr_Cursor_number.calls (k : Nat) (g0 : Nat) (A0_0 : Option Addr) (c0_0 : Nat) (l0_0 : List Int) (A0_1 : Option Addr) (c0_1 : Nat) (l0_1 : List (S28)) (a0_2 : Int) (a0_3 : Int) (r1 : Int) (r2 : Int) (r3 : Int) (r4 : ByteArray) (r5 : ByteArray) (r6 : List (S44)) (r7 : Int) (r8 : Int) (c : Nat → Nat) (w : World) (hc : ∀ k, c k < 10) (HP0 : Bx c 1 w g0 111 ([.slice A0_0 l0_0.length c0_0, .slice A0_1 l0_1.length c0_1, .int .i64 a0_2, .int .i64 a0_3])) (HP0_0 : Ft c [0] w (fun w_ => (Kd.int .u8).C w_ A0_0 l0_0.length l0_0)) (HCP0_0 : l0_0.length ≤ c0_0) (HP0_1 : Ft c [0] w (fun w_ => k28.C w_ A0_1 l0_1.length l0_1)) (HCP0_1 : l0_1.length ≤ c0_1) (H : expr_Cursor_number.f k l0_0 l0_1 a0_2 a0_3 = some (r1, r2, r3, r4, r5, r6, r7, r8)) :
    Calls Try.prog 131 #[.pointer (some ⟨g0, 0, none⟩)] w fun e w' => ∃ (c' : Nat → Nat) (A_r6 : Option Addr) (c_r6 : Nat), e = .returned (.tuple #[.agg #[.int .i64 r1, .int .i64 r2, .int .i64 r3, .string r4, .string r5, .slice A_r6 r6.length c_r6], .int .i64 r7]) ∧ Step c w c' w' [1] ∧ Own c' 5 w' k44 44 (.slice A_r6 r6.length c_r6) r6 ∧ r6.length ≤ c_r6 ∧ Bx c' 1 w' g0 111 ([.slice A0_0 l0_0.length c0_0, .slice A0_1 l0_1.length c0_1, .int .i64 r8, .int .i64 a0_3]) := by
 unfold expr_Cursor_number.f at H
 have HS := Step.refl c w [1]
 go_enter Try.func131, Try.ntmps131
 refine wp_seq_k fun K221 hK221 => ?_
 refine wl_region ?_
 refine bx_new (C := c) 44 ([.int .i64 0, .int .i64 0, .int .i64 0, .string (⟨#[]⟩ : ByteArray), .string (⟨#[]⟩ : ByteArray), .slice none 0 0]) 11 rfl rfl (by first | (go_simp; done) | (go_simp; rfl)) ?_
 intro g222 w223 C224 HX225 hs226
 replace HP0 := HP0.thru hs226 rfl
 replace HP0_0 := HP0_0.thru hs226 rfl
 replace HP0_1 := HP0_1.thru hs226 rfl
 replace HS := HS.trans hs226 hc rfl
 (try simp only [ls0, ls1])
 refine st (.int .i64 0) rfl rfl (xr_assign _ rfl rfl) ?_
 refine wl_end ?_
 (try simp only [ls0, ls1])
 refine hK221 _ _ ?_
 (try clear hK221 K221)
 refine wp_seq_k fun K227 hK227 => ?_
 refine wl_region ?_
 refine st (.int .i64 0) rfl rfl (xr_assign _ rfl rfl) ?_
 refine wl_end ?_
 (try simp only [ls0, ls1])
 refine hK227 _ _ ?_
 (try clear hK227 K227)
 refine wp_seq_k fun K228 hK228 => ?_
 refine wp_seq_k fun K323 hK323 => ?_
 refine wl_region ?_
 refine mv_ rfl ?_
 have HP324 : Ft C224 [0, 1] w223 (fun w_ => (Kd.ptr 111 k111).K w_ (some (⟨l0_0, l0_1, a0_2, a0_3⟩ : S111)) [.pointer (some ⟨g0, 0, none⟩)]) := ptr_mk (Ft.more (HP0.ft) rfl) (k111_mkF _ _ (⟨l0_0, l0_1, a0_2, a0_3⟩ : S111) HCP0_0 (Ft.more HP0_0 rfl) HCP0_1 (Ft.more HP0_1 rfl))
 obtain ⟨t325, A326, H⟩ := bnd H
 refine st_call #[.pointer (some ⟨g0, 0, none⟩)] rfl rfl Try.func43 (by kernel_rfl) rfl rfl (mp_ rfl) ?_
 refine (expr_Cursor_Peek.calls (.pointer (some ⟨g0, 0, none⟩)) (some (⟨l0_0, l0_1, a0_2, a0_3⟩ : S111) : Option S111) t325  (fun z_ => pal [(0, 0), (1, 0)] (C224 z_)) w223 (fun _ => pal_lt rfl _) (Ft.arg HP324 rfl) A326).mono ?_
 rintro _ w328 ⟨C329, rfl, hs330⟩
 refine ⟨_, rfl, ?_⟩
 replace hs330 := Step.lift (U := [(0, 0)]) hs330 [] rfl rfl
 generalize up C224 C329 w223.heap.size [(0, 0)] = C329_ at hs330
 replace HP0 := HP0.thru hs330 rfl
 replace HP0_0 := HP0_0.thru hs330 rfl
 replace HP0_1 := HP0_1.thru hs330 rfl
 replace HX225 := HX225.thru hs330 rfl
 replace HS := HS.trans hs330 hc rfl
 (try simp only [ls0, ls1])
 obtain ⟨c331, H⟩ := if_some H
 obtain ⟨y332, A333, H⟩ := bnd H
 refine own_conv (C := C329_) (i := 0) 5 rfl rfl 9 22 _ rfl t325 rfl Try.underlying9 Try.underlying22 Try.underlying5 (by assumption) 12 (Option.some.inj A333) ?_
 intro A334 cp335 w336 C337 HR338 HC339 hs340
 replace HP0 := HP0.thru hs340 rfl
 replace HP0_0 := HP0_0.thru hs340 rfl
 replace HP0_1 := HP0_1.thru hs340 rfl
 replace HX225 := HX225.thru hs340 rfl
 replace HS := HS.trans hs340 hc rfl
 (try simp only [ls0, ls1])
 refine st (.int .i64 (y332.length : Int)) rfl rfl (xr_builtin #[.slice A334 y332.length cp335] (.int .i64 (y332.length : Int)) rfl (mp_ rfl) (by first | rfl | (go_simp; done) | (go_simp; rfl) | (go_simp; exact i64_w _) | (go_simp; exact i32_w _))) ?_
 refine st (.int .i64 0) rfl rfl (xr_move _ rfl rfl) ?_
 refine wl_end ?_
 (try simp only [ls0, ls1])
 refine hK323 _ _ ?_
 (try clear hK323 K323)
 refine wp_block ?_
 (try simp only [ls0, ls1])
 refine wp_looped (looped_fin (fun kq394 a_ w393 => ∃ (C392 : Nat → Nat) (x385 : Int) (x387 : Int) (g_ : Nat → Value), a_ = ⟨#[.pointer (some ⟨g0, 0, none⟩), (g_ 1), .pointer (some ⟨g222, 0, none⟩), (g_ 3), .int .i64 x385, (g_ 5), (g_ 6), (g_ 7), (g_ 8), (g_ 9), (g_ 10), .slice A334 y332.length cp335, .int .i64 (y332.length : Int), .int .i64 x387, (g_ 14), (g_ 15), (g_ 16), (g_ 17), (g_ 18), (g_ 19), (g_ 20), (g_ 21), (g_ 22), (g_ 23), (g_ 24), (g_ 25), (g_ 26), (g_ 27), (g_ 28), (g_ 29), (g_ 30), (g_ 31), (g_ 32), (g_ 33), (g_ 34), (g_ 35), (g_ 36), (g_ 37), (g_ 38), (g_ 39), (g_ 40), (g_ 41), (g_ 42)], []⟩ ∧ Step c w C392 w393 [1] ∧ kq394 ≤ k ∧ (Ft C392 [12] w393 (fun w_ => (Kd.int .u8).C w_ A334 y332.length y332)) ∧ (Ft C392 [0] w393 (fun w_ => (Kd.int .u8).C w_ A0_0 l0_0.length l0_0)) ∧ (Ft C392 [0] w393 (fun w_ => k28.C w_ A0_1 l0_1.length l0_1)) ∧ (Bx C392 1 w393 g0 111 ([.slice A0_0 l0_0.length c0_0, .slice A0_1 l0_1.length c0_1, .int .i64 a0_2, .int .i64 a0_3])) ∧ (Bx C392 11 w393 g222 44 ([.int .i64 0, .int .i64 0, .int .i64 0, .string (⟨#[]⟩ : ByteArray), .string (⟨#[]⟩ : ByteArray), .slice none 0 0])) ∧ expr_Cursor_number.l0 kq394 a0_2 a0_3 l0_0 l0_1 x385 x387 y332 = some (r1, r2, r3, r4, r5, r6, r7, r8)) ?step fun hL_ => ?init)
 case init =>
  exact jmpL (fun a_ h_ => hL_ k a_ _ h_) (fun g_ => ⟨_, 0, 0, g_, rfl, HS, Nat.le_refl _, HR338, HP0_0, HP0_1, HP0, HX225, H⟩) rfl
 case step =>
  intro kq394 ih397 a398 w393 hr399
  obtain ⟨C392, x385, x387, g_, rfl, HS395, hk396, HJ386, HJ388, HJ389, HJ390, HJ391, H⟩ := hr399
  refine looped_round ?_
  cases kq394 with
  | zero => exact absurd H (by simp [expr_Cursor_number.l0])
  | succ k400 =>
   simp only [expr_Cursor_number.l0] at H
   refine wp_seq_k fun K401 hK401 => ?_
   refine wl_region ?_
   refine st (.bool (decide (x387 < (y332.length : Int)))) rfl rfl (xr_bin _ _ _ rfl rfl rfl (B.lss_i64 _ _)) ?_
   refine wl_end ?_
   (try simp only [ls0, ls1])
   refine hK401 _ _ ?_
   (try clear hK401 K401)
   refine wp_seq_k fun K402 hK402 => ?_
   by_cases c403 : x387 < (y332.length : Int)
   ·rw [if_pos c403] at H
    (try rw [(decide_eq_true c403)])
    refine wp_cond_true rfl ?_
    refine wp_skip ?_
    (try simp only [ls0, ls1])
    refine hK402 _ _ ?_
    (try clear hK402 K402)
    refine wp_seq_k fun K404 hK404 => ?_
    refine wp_block ?_
    refine wp_seq_k fun K405 hK405 => ?_
    refine wl_region ?_
    obtain ⟨c406, H⟩ := if_some H
    obtain ⟨ad407, hA408⟩ := c_addr (Ft.now HJ386) (pos_of (j := x387) (by first | assumption | decide) (by first | assumption | omega))
    refine st (.pointer (some (ad407.add ((x387 : Int).toNat * 1)))) rfl rfl (xr_indexAddr _ _ _ rfl rfl rfl (index_at Try.underlying22 info5 hA408 (by first | assumption | decide | omega) (by first | assumption | decide | omega))) ?_
    refine st (.int .u8 (rd y332 x387)) rfl rfl (xr_load _ _ rfl rfl (load_int Try.underlying5 rfl hA408 (Ft.now HJ386) (by first | assumption | decide | omega) (by first | assumption | decide | omega))) ?_
    refine as_ rfl ?_
    refine wl_end ?_
    (try simp only [ls0, ls1])
    refine hK405 _ _ ?_
    (try clear hK405 K405)
    refine wp_seq_k fun K409 hK409 => ?_
    refine wl_region ?_
    refine mv_ rfl ?_
    refine st (.int .u8 (((rd y332 x387) - 48) % 256)) rfl rfl (xr_bin _ _ _ rfl rfl rfl (B.sub_u8 _ _)) ?_
    refine st (.int .i64 (wrap64 (((rd y332 x387) - 48) % 256))) rfl rfl (xr_conv (.int .u8 (((rd y332 x387) - 48) % 256)) _ rfl rfl (by first | rfl | (go_simp; done) | (go_simp; rfl) | (go_simp; exact i64_w _) | (go_simp; exact i32_w _))) ?_
    refine as_ rfl ?_
    simp only [ls0, ls1]
    refine wl_end ?_
    (try simp only [ls0, ls1])
    refine hK409 _ _ ?_
    (try clear hK409 K409)
    refine wp_seq_k fun K410 hK410 => ?_
    refine wp_seq_k fun K411 hK411 => ?_
    refine wl_region ?_
    refine mv_ rfl ?_
    refine mv_ rfl ?_
    refine st (.int .i64 (wrap64 (9223372036854775807 - (wrap64 (((rd y332 x387) - 48) % 256))))) rfl rfl (xr_bin _ _ _ rfl rfl rfl (B.sub_i64 _ _)) ?_
    refine st (.int .i64 (wrap64 (Int.tdiv (wrap64 (9223372036854775807 - (wrap64 (((rd y332 x387) - 48) % 256)))) 10))) rfl rfl (xr_bin _ _ _ rfl rfl rfl (B.quo_i64 _ _ (by decide))) ?_
    simp only [ls0, ls1]
    refine st (.bool (decide (x385 > (wrap64 (Int.tdiv (wrap64 (9223372036854775807 - (wrap64 (((rd y332 x387) - 48) % 256)))) 10))))) rfl rfl (xr_bin _ _ _ rfl rfl rfl (B.gtr_i64 _ _)) ?_
    refine wl_end ?_
    (try simp only [ls0, ls1])
    refine hK411 _ _ ?_
    (try clear hK411 K411)
    by_cases c412 : x385 > (wrap64 (Int.tdiv (wrap64 (9223372036854775807 - (wrap64 (((rd y332 x387) - 48) % 256)))) 10))
    ·rw [if_pos c412] at H
     (try rw [(decide_eq_true c412)])
     refine wp_cond_true rfl ?_
     refine wp_seq_k fun K413 hK413 => ?_
     refine wl_region ?_
     refine st (.agg #[.int .i64 0, .int .i64 0, .int .i64 0, .string (⟨#[]⟩ : ByteArray), .string (⟨#[]⟩ : ByteArray), .slice none 0 0]) rfl rfl (xr_build #[] (.agg #[.int .i64 0, .int .i64 0, .int .i64 0, .string (⟨#[]⟩ : ByteArray), .string (⟨#[]⟩ : ByteArray), .slice none 0 0]) rfl (mp_ rfl) (by first | rfl | (go_simp; done) | (go_simp; rfl) | (go_simp; exact i64_w _) | (go_simp; exact i32_w _))) ?_
     refine bx_store (C := C392) (z := 11) (g := g222) (j := 0) (tb := 44) (u := .agg #[.int .i64 0, .int .i64 0, .int .i64 0, .string (⟨#[]⟩ : ByteArray), .string (⟨#[]⟩ : ByteArray), .slice none 0 0]) (seg := [.int .i64 0, .int .i64 0, .int .i64 0, .string (⟨#[]⟩ : ByteArray), .string (⟨#[]⟩ : ByteArray), .slice none 0 0]) (xs := [.int .i64 0, .int .i64 0, .int .i64 0, .string (⟨#[]⟩ : ByteArray), .string (⟨#[]⟩ : ByteArray), .slice none 0 0]) rfl rfl rfl rfl rfl rfl (by first | kernel_rfl | rfl) (by simp [Value.oneCell']) HJ391 (by simp only [List.length_cons, List.length_nil]; omega) rfl ?_
     intro w414 HX415 hs416
     replace HJ390 := HJ390.thru hs416 rfl
     replace HJ388 := HJ388.thru hs416 rfl
     replace HJ389 := HJ389.thru hs416 rfl
     replace HS395 := HS395.trans hs416 hc rfl
     (try simp only [ls0, ls1])
     refine st (.int .i64 18) rfl rfl (xr_assign _ rfl rfl) ?_
     refine wl_end ?_
     (try simp only [ls0, ls1])
     refine hK413 _ _ ?_
     (try clear hK413 K413)
     refine wp_ret ?_
     (try simp only [Exit.inBlock, Exit.then, Exit.noGoto])
     (try simp only [ls0, ls1])
     simp only [Option.some.injEq, Prod.mk.injEq] at H
     obtain ⟨rfl, rfl, rfl, rfl, rfl, rfl, rfl, rfl⟩ := H
     refine bodyPost_ret (res_ct rfl rfl (load_of (load_agg (cs := [.int .i64 0, .int .i64 0, .int .i64 0, .string (⟨#[]⟩ : ByteArray), .string (⟨#[]⟩ : ByteArray), .slice none 0 0]) Try.underlying44 rfl (by kernel_rfl) (bx_cells (HX415).2 0 rfl)))) rfl ?_
     exact ⟨_, none, 0, rfl, HS395, (Own.nil _ _ _ _ _), (Nat.le_refl 0), HJ390⟩
    rw [if_neg c412] at H
    (try rw [(decide_eq_false c412)])
    refine wp_cond_false rfl ?_
    refine wp_skip ?_
    (try simp only [ls0, ls1])
    refine hK410 _ _ ?_
    (try clear hK410 K410)
    refine wl_region ?_
    refine mv_ rfl ?_
    refine st (.int .i64 (wrap64 (10 * x385))) rfl rfl (xr_bin _ _ _ rfl rfl rfl (B.mul_i64 _ _)) ?_
    refine mv_ rfl ?_
    refine st (.int .i64 (wrap64 ((wrap64 (10 * x385)) + (wrap64 (((rd y332 x387) - 48) % 256))))) rfl rfl (xr_bin _ _ _ rfl rfl rfl (B.add_i64 _ _)) ?_
    simp only [ls0, ls1]
    refine as_ rfl ?_
    refine wl_end ?_
    (try simp only [ls0, ls1])
    refine hK404 _ _ ?_
    (try clear hK404 K404)
    refine wl_region ?_
    refine st (.int .i64 (wrap64 (x387 + 1))) rfl rfl (xr_bin _ _ _ rfl rfl rfl (B.add_i64 _ _)) ?_
    refine mv_ rfl ?_
    refine wl_end ?_
    (try simp only [ls0, ls1])
    exact jmpL (fun a_ h_ => ih397 k400 (by omega) a_ _ h_) (fun g_ => ⟨_, wrap64 ((wrap64 (10 * x385)) + (wrap64 (((rd y332 x387) - 48) % 256))), wrap64 (x387 + 1), g_, rfl, HS395, (by omega), HJ386, HJ388, HJ389, HJ390, HJ391, H⟩) rfl
   rw [if_neg c403] at H
   (try rw [(decide_eq_false c403)])
   refine wp_cond_false rfl ?_
   refine wp_exit ?_
   (try simp only [ls0, ls1])
   refine hK228 _ _ ?_
   (try clear hK228 K228)
   refine wp_seq_k fun K417 hK417 => ?_
   refine wl_region ?_
   refine mv_ rfl ?_
   have HP418 : Ft C392 [0, 1] w393 (fun w_ => (Kd.ptr 111 k111).K w_ (some (⟨l0_0, l0_1, a0_2, a0_3⟩ : S111)) [.pointer (some ⟨g0, 0, none⟩)]) := ptr_mk (Ft.more (HJ390.ft) rfl) (k111_mkF _ _ (⟨l0_0, l0_1, a0_2, a0_3⟩ : S111) HCP0_0 (Ft.more HJ388 rfl) HCP0_1 (Ft.more HJ389 rfl))
   obtain ⟨t419, A420, H⟩ := bnd H
   refine st_call #[.pointer (some ⟨g0, 0, none⟩)] rfl rfl Try.func44 (by kernel_rfl) rfl rfl (mp_ rfl) ?_
   refine (expr_Cursor_Pos.calls (.pointer (some ⟨g0, 0, none⟩)) (some (⟨l0_0, l0_1, a0_2, a0_3⟩ : S111) : Option S111) t419  (fun z_ => pal [(0, 0), (1, 0)] (C392 z_)) w393 (fun _ => pal_lt rfl _) (Ft.arg HP418 rfl) A420).mono ?_
   rintro _ w422 ⟨C423, rfl, hs424⟩
   refine ⟨_, rfl, ?_⟩
   replace hs424 := Step.lift (U := [(0, 0)]) hs424 [] rfl rfl
   generalize up C392 C423 w393.heap.size [(0, 0)] = C423_ at hs424
   replace HJ390 := HJ390.thru hs424 rfl
   replace HJ388 := HJ388.thru hs424 rfl
   replace HJ389 := HJ389.thru hs424 rfl
   replace HJ391 := HJ391.thru hs424 rfl
   replace HS395 := HS395.trans hs424 hc rfl
   (try simp only [ls0, ls1])
   refine mv_ rfl ?_
   refine st (.agg #[.int .i64 0, .int .i64 t419, .int .i64 x385, .string (⟨#[]⟩ : ByteArray), .string (⟨#[]⟩ : ByteArray), .slice none 0 0]) rfl rfl (xr_build #[(0, .int .i64 0), (1, .int .i64 t419), (2, .int .i64 x385)] (.agg #[.int .i64 0, .int .i64 t419, .int .i64 x385, .string (⟨#[]⟩ : ByteArray), .string (⟨#[]⟩ : ByteArray), .slice none 0 0]) rfl (mp_ rfl) (by first | rfl | (go_simp; done) | (go_simp; rfl) | (go_simp; exact i64_w _) | (go_simp; exact i32_w _))) ?_
   refine bx_new (C := C423_) 44 ([.int .i64 0, .int .i64 0, .int .i64 0, .string (⟨#[]⟩ : ByteArray), .string (⟨#[]⟩ : ByteArray), .slice none 0 0]) 13 rfl rfl (by first | (go_simp; done) | (go_simp; rfl)) ?_
   intro g425 w426 C427 HX428 hs429
   replace HJ390 := HJ390.thru hs429 rfl
   replace HJ388 := HJ388.thru hs429 rfl
   replace HJ389 := HJ389.thru hs429 rfl
   replace HJ391 := HJ391.thru hs429 rfl
   replace HS395 := HS395.trans hs429 hc rfl
   (try simp only [ls0, ls1])
   refine bx_store (C := C427) (z := 13) (g := g425) (j := 0) (tb := 44) (u := .agg #[.int .i64 0, .int .i64 t419, .int .i64 x385, .string (⟨#[]⟩ : ByteArray), .string (⟨#[]⟩ : ByteArray), .slice none 0 0]) (seg := [.int .i64 0, .int .i64 t419, .int .i64 x385, .string (⟨#[]⟩ : ByteArray), .string (⟨#[]⟩ : ByteArray), .slice none 0 0]) (xs := [.int .i64 0, .int .i64 0, .int .i64 0, .string (⟨#[]⟩ : ByteArray), .string (⟨#[]⟩ : ByteArray), .slice none 0 0]) rfl rfl rfl rfl rfl rfl (by first | kernel_rfl | rfl) (by simp [Value.oneCell']) HX428 (by simp only [List.length_cons, List.length_nil]; omega) rfl ?_
   intro w430 HX431 hs432
   replace HJ390 := HJ390.thru hs432 rfl
   replace HJ388 := HJ388.thru hs432 rfl
   replace HJ389 := HJ389.thru hs432 rfl
   replace HJ391 := HJ391.thru hs432 rfl
   replace HS395 := HS395.trans hs432 hc rfl
   (try simp only [ls0, ls1])
   refine wl_end ?_
   (try simp only [ls0, ls1])
   refine hK417 _ _ ?_
   (try clear hK417 K417)
   refine wp_seq_k fun K433 hK433 => ?_
   refine wl_region ?_
   refine mv_ rfl ?_
   refine st (.pointer (some ⟨g0, 0, none⟩)) rfl rfl (xr_nilCheck _ rfl rfl) ?_
   refine st (.pointer (some ⟨g0, 2, none⟩)) rfl rfl (xr_fieldAddr _ _ rfl rfl (bx_field2 Try.underlying111 rfl rfl (by kernel_rfl))) ?_
   refine st (.int .i64 a0_2) rfl rfl (xr_load _ _ rfl rfl (load_cell Try.underlying3 rfl (bx_cell (HJ390).2 2 rfl))) ?_
   simp only [ls0, ls1]
   refine st (.int .i64 (wrap64 (a0_2 + 1))) rfl rfl (xr_bin _ _ _ rfl rfl rfl (B.add_i64 _ _)) ?_
   refine st (.pointer (some ⟨g0, 0, none⟩)) rfl rfl (xr_nilCheck _ rfl rfl) ?_
   refine st (.pointer (some ⟨g0, 2, none⟩)) rfl rfl (xr_fieldAddr _ _ rfl rfl (bx_field2 Try.underlying111 rfl rfl (by kernel_rfl))) ?_
   refine bx_store (C := C427) (z := 1) (g := g0) (j := 2) (tb := 111) (u := .int .i64 (wrap64 (a0_2 + 1))) (seg := [.int .i64 (wrap64 (a0_2 + 1))]) (xs := [.slice A0_0 l0_0.length c0_0, .slice A0_1 l0_1.length c0_1, .int .i64 a0_2, .int .i64 a0_3]) rfl rfl rfl rfl rfl rfl (by first | kernel_rfl | rfl) (by simp [Value.oneCell']) HJ390 (by simp only [List.length_cons, List.length_nil]; omega) rfl ?_
   intro w434 HX435 hs436
   replace HJ388 := HJ388.thru hs436 rfl
   replace HJ389 := HJ389.thru hs436 rfl
   replace HJ391 := HJ391.thru hs436 rfl
   replace HX431 := HX431.thru hs436 rfl
   replace HS395 := HS395.trans hs436 hc rfl
   (try simp only [ls0, ls1])
   refine wl_end ?_
   (try simp only [ls0, ls1])
   refine hK433 _ _ ?_
   (try clear hK433 K433)
   refine wp_seq_k fun K437 hK437 => ?_
   refine wl_region ?_
   refine st (.agg #[.int .i64 0, .int .i64 t419, .int .i64 x385, .string (⟨#[]⟩ : ByteArray), .string (⟨#[]⟩ : ByteArray), .slice none 0 0]) rfl rfl (xr_load _ _ rfl rfl (load_agg (cs := [.int .i64 0, .int .i64 t419, .int .i64 x385, .string (⟨#[]⟩ : ByteArray), .string (⟨#[]⟩ : ByteArray), .slice none 0 0]) Try.underlying44 rfl (by kernel_rfl) (bx_cells (HX431).2 0 rfl))) ?_
   refine bx_store (C := C427) (z := 11) (g := g222) (j := 0) (tb := 44) (u := .agg #[.int .i64 0, .int .i64 t419, .int .i64 x385, .string (⟨#[]⟩ : ByteArray), .string (⟨#[]⟩ : ByteArray), .slice none 0 0]) (seg := [.int .i64 0, .int .i64 t419, .int .i64 x385, .string (⟨#[]⟩ : ByteArray), .string (⟨#[]⟩ : ByteArray), .slice none 0 0]) (xs := [.int .i64 0, .int .i64 0, .int .i64 0, .string (⟨#[]⟩ : ByteArray), .string (⟨#[]⟩ : ByteArray), .slice none 0 0]) rfl rfl rfl rfl rfl rfl (by first | kernel_rfl | rfl) (by simp [Value.oneCell']) HJ391 (by simp only [List.length_cons, List.length_nil]; omega) rfl ?_
   intro w438 HX439 hs440
   replace HX435 := HX435.thru hs440 rfl
   replace HJ388 := HJ388.thru hs440 rfl
   replace HJ389 := HJ389.thru hs440 rfl
   replace HX431 := HX431.thru hs440 rfl
   replace HS395 := HS395.trans hs440 hc rfl
   (try simp only [ls0, ls1])
   refine st (.int .i64 0) rfl rfl (xr_assign _ rfl rfl) ?_
   refine wl_end ?_
   (try simp only [ls0, ls1])
   refine hK437 _ _ ?_
   (try clear hK437 K437)
   refine wp_ret ?_
   (try simp only [Exit.inBlock, Exit.then, Exit.noGoto])
   (try simp only [ls0, ls1])
   simp only [Option.some.injEq, Prod.mk.injEq] at H
   obtain ⟨rfl, rfl, rfl, rfl, rfl, rfl, rfl, rfl⟩ := H
   refine bodyPost_ret (res_ct rfl rfl (load_of (load_agg (cs := [.int .i64 0, .int .i64 t419, .int .i64 x385, .string (⟨#[]⟩ : ByteArray), .string (⟨#[]⟩ : ByteArray), .slice none 0 0]) Try.underlying44 rfl (by kernel_rfl) (bx_cells (HX439).2 0 rfl)))) rfl ?_
   exact ⟨_, none, 0, rfl, HS395, (Own.nil _ _ _ _ _), (Nat.le_refl 0), HX435⟩

/-! ### expr_Cursor_down: function 121 -/
def expr_Cursor_down.f (l0_0 : List Int) (l0_1 : List (S28)) (a0_2 : Int) (a0_3 : Int) : Option (Int × Int × Int) := if a0_3 ≥ 32 then (some (12, a0_2, a0_3)) else (some (0, wrap64 (a0_2 + 1), wrap64 (a0_3 + 1)))
set_option maxHeartbeats 8000000 in
set_option maxRecDepth 100000 in
theorem expr_Cursor_down.calls (g0 : Nat) (A0_0 : Option Addr) (c0_0 : Nat) (l0_0 : List Int) (A0_1 : Option Addr) (c0_1 : Nat) (l0_1 : List (S28)) (a0_2 : Int) (a0_3 : Int) (r1 : Int) (r2 : Int) (r3 : Int) (c : Nat → Nat) (w : World) (hc : ∀ k, c k < 10) (HP0 : Bx c 1 w g0 111 ([.slice A0_0 l0_0.length c0_0, .slice A0_1 l0_1.length c0_1, .int .i64 a0_2, .int .i64 a0_3])) (HP0_0 : Ft c [0] w (fun w_ => (Kd.int .u8).C w_ A0_0 l0_0.length l0_0)) (HCP0_0 : l0_0.length ≤ c0_0) (HP0_1 : Ft c [0] w (fun w_ => k28.C w_ A0_1 l0_1.length l0_1)) (HCP0_1 : l0_1.length ≤ c0_1) (H : expr_Cursor_down.f l0_0 l0_1 a0_2 a0_3 = some (r1, r2, r3)) :
    Calls Try.prog 121 #[.pointer (some ⟨g0, 0, none⟩)] w fun e w' => ∃ (c' : Nat → Nat) , e = .returned (.int .i64 r1) ∧ Step c w c' w' [1] ∧ Bx c' 1 w' g0 111 ([.slice A0_0 l0_0.length c0_0, .slice A0_1 l0_1.length c0_1, .int .i64 r2, .int .i64 r3]) := by
 unfold expr_Cursor_down.f at H
 have HS := Step.refl c w [1]
 go_enter Try.func121, Try.ntmps121
 refine wp_seq_k fun K15 hK15 => ?_
 refine wl_region ?_
 refine st (.int .i64 0) rfl rfl (xr_assign _ rfl rfl) ?_
 refine wl_end ?_
 (try simp only [ls0, ls1])
 refine hK15 _ _ ?_
 (try clear hK15 K15)
 refine wp_seq_k fun K16 hK16 => ?_
 refine wp_seq_k fun K17 hK17 => ?_
 refine wl_region ?_
 refine mv_ rfl ?_
 refine st (.pointer (some ⟨g0, 0, none⟩)) rfl rfl (xr_nilCheck _ rfl rfl) ?_
 refine st (.pointer (some ⟨g0, 3, none⟩)) rfl rfl (xr_fieldAddr _ _ rfl rfl (bx_field2 Try.underlying111 rfl rfl (by kernel_rfl))) ?_
 refine st (.int .i64 a0_3) rfl rfl (xr_load _ _ rfl rfl (load_cell Try.underlying3 rfl (bx_cell (HP0).2 3 rfl))) ?_
 simp only [ls0, ls1]
 refine st (.bool (decide (a0_3 ≥ 32))) rfl rfl (xr_bin _ _ _ rfl rfl rfl (B.geq_i64 _ _)) ?_
 refine wl_end ?_
 (try simp only [ls0, ls1])
 refine hK17 _ _ ?_
 (try clear hK17 K17)
 by_cases c18 : a0_3 ≥ 32
 ·rw [if_pos c18] at H
  (try rw [(decide_eq_true c18)])
  refine wp_cond_true rfl ?_
  refine wp_seq_k fun K19 hK19 => ?_
  refine wl_region ?_
  refine st (.int .i64 12) rfl rfl (xr_assign _ rfl rfl) ?_
  refine wl_end ?_
  (try simp only [ls0, ls1])
  refine hK19 _ _ ?_
  (try clear hK19 K19)
  refine wp_ret ?_
  (try simp only [Exit.inBlock, Exit.then, Exit.noGoto])
  (try simp only [ls0, ls1])
  simp only [Option.some.injEq, Prod.mk.injEq] at H
  obtain ⟨rfl, rfl, rfl⟩ := H
  refine bodyPost_ret (results_tmp rfl _ _ _) rfl ?_
  exact ⟨_, rfl, HS, HP0⟩
 rw [if_neg c18] at H
 (try rw [(decide_eq_false c18)])
 refine wp_cond_false rfl ?_
 refine wp_skip ?_
 (try simp only [ls0, ls1])
 refine hK16 _ _ ?_
 (try clear hK16 K16)
 refine wp_seq_k fun K20 hK20 => ?_
 refine wl_region ?_
 refine mv_ rfl ?_
 refine st (.pointer (some ⟨g0, 0, none⟩)) rfl rfl (xr_nilCheck _ rfl rfl) ?_
 refine st (.pointer (some ⟨g0, 3, none⟩)) rfl rfl (xr_fieldAddr _ _ rfl rfl (bx_field2 Try.underlying111 rfl rfl (by kernel_rfl))) ?_
 refine st (.int .i64 a0_3) rfl rfl (xr_load _ _ rfl rfl (load_cell Try.underlying3 rfl (bx_cell (HP0).2 3 rfl))) ?_
 simp only [ls0, ls1]
 refine st (.int .i64 (wrap64 (a0_3 + 1))) rfl rfl (xr_bin _ _ _ rfl rfl rfl (B.add_i64 _ _)) ?_
 refine st (.pointer (some ⟨g0, 0, none⟩)) rfl rfl (xr_nilCheck _ rfl rfl) ?_
 refine st (.pointer (some ⟨g0, 3, none⟩)) rfl rfl (xr_fieldAddr _ _ rfl rfl (bx_field2 Try.underlying111 rfl rfl (by kernel_rfl))) ?_
 refine bx_store (C := c) (z := 1) (g := g0) (j := 3) (tb := 111) (u := .int .i64 (wrap64 (a0_3 + 1))) (seg := [.int .i64 (wrap64 (a0_3 + 1))]) (xs := [.slice A0_0 l0_0.length c0_0, .slice A0_1 l0_1.length c0_1, .int .i64 a0_2, .int .i64 a0_3]) rfl rfl rfl rfl rfl rfl (by first | kernel_rfl | rfl) (by simp [Value.oneCell']) HP0 (by simp only [List.length_cons, List.length_nil]; omega) rfl ?_
 intro w21 HX22 hs23
 replace HP0_0 := HP0_0.thru hs23 rfl
 replace HP0_1 := HP0_1.thru hs23 rfl
 replace HS := HS.trans hs23 hc rfl
 (try simp only [ls0, ls1])
 refine wl_end ?_
 (try simp only [ls0, ls1])
 refine hK20 _ _ ?_
 (try clear hK20 K20)
 refine wp_seq_k fun K24 hK24 => ?_
 refine wl_region ?_
 refine mv_ rfl ?_
 refine st (.pointer (some ⟨g0, 0, none⟩)) rfl rfl (xr_nilCheck _ rfl rfl) ?_
 refine st (.pointer (some ⟨g0, 2, none⟩)) rfl rfl (xr_fieldAddr _ _ rfl rfl (bx_field2 Try.underlying111 rfl rfl (by kernel_rfl))) ?_
 refine st (.int .i64 a0_2) rfl rfl (xr_load _ _ rfl rfl (load_cell Try.underlying3 rfl (bx_cell (HX22).2 2 rfl))) ?_
 simp only [ls0, ls1]
 refine st (.int .i64 (wrap64 (a0_2 + 1))) rfl rfl (xr_bin _ _ _ rfl rfl rfl (B.add_i64 _ _)) ?_
 refine st (.pointer (some ⟨g0, 0, none⟩)) rfl rfl (xr_nilCheck _ rfl rfl) ?_
 refine st (.pointer (some ⟨g0, 2, none⟩)) rfl rfl (xr_fieldAddr _ _ rfl rfl (bx_field2 Try.underlying111 rfl rfl (by kernel_rfl))) ?_
 refine bx_store (C := c) (z := 1) (g := g0) (j := 2) (tb := 111) (u := .int .i64 (wrap64 (a0_2 + 1))) (seg := [.int .i64 (wrap64 (a0_2 + 1))]) (xs := [.slice A0_0 l0_0.length c0_0, .slice A0_1 l0_1.length c0_1, .int .i64 a0_2, .int .i64 (wrap64 (a0_3 + 1))]) rfl rfl rfl rfl rfl rfl (by first | kernel_rfl | rfl) (by simp [Value.oneCell']) HX22 (by simp only [List.length_cons, List.length_nil]; omega) rfl ?_
 intro w25 HX26 hs27
 replace HP0_0 := HP0_0.thru hs27 rfl
 replace HP0_1 := HP0_1.thru hs27 rfl
 replace HS := HS.trans hs27 hc rfl
 (try simp only [ls0, ls1])
 refine wl_end ?_
 (try simp only [ls0, ls1])
 refine hK24 _ _ ?_
 (try clear hK24 K24)
 refine wp_seq_k fun K28 hK28 => ?_
 refine wl_region ?_
 refine st (.int .i64 0) rfl rfl (xr_assign _ rfl rfl) ?_
 refine wl_end ?_
 (try simp only [ls0, ls1])
 refine hK28 _ _ ?_
 (try clear hK28 K28)
 refine wp_ret ?_
 (try simp only [Exit.inBlock, Exit.then, Exit.noGoto])
 (try simp only [ls0, ls1])
 simp only [Option.some.injEq, Prod.mk.injEq] at H
 obtain ⟨rfl, rfl, rfl⟩ := H
 refine bodyPost_ret (results_tmp rfl _ _ _) rfl ?_
 exact ⟨_, rfl, HS, HX26⟩

/-! ### expr_Cursor_end: function 135 -/
def expr_Cursor_end.f (l0_0 : List Int) (l0_1 : List (S28)) (a0_2 : Int) (a0_3 : Int) : Option (Int × Int × Int) := (expr_Cursor_Take.f l0_0 l0_1 a0_2 a0_3 (⟨#[41]⟩ : ByteArray)).bind fun bt22 => (if bt22.1 = true then (some (0, bt22.2, wrap64 (a0_3 - 1))) else (some (11, bt22.2, a0_3)))
set_option maxHeartbeats 8000000 in
set_option maxRecDepth 100000 in
theorem expr_Cursor_end.calls (g0 : Nat) (A0_0 : Option Addr) (c0_0 : Nat) (l0_0 : List Int) (A0_1 : Option Addr) (c0_1 : Nat) (l0_1 : List (S28)) (a0_2 : Int) (a0_3 : Int) (r1 : Int) (r2 : Int) (r3 : Int) (c : Nat → Nat) (w : World) (hc : ∀ k, c k < 10) (HP0 : Bx c 1 w g0 111 ([.slice A0_0 l0_0.length c0_0, .slice A0_1 l0_1.length c0_1, .int .i64 a0_2, .int .i64 a0_3])) (HP0_0 : Ft c [0] w (fun w_ => (Kd.int .u8).C w_ A0_0 l0_0.length l0_0)) (HCP0_0 : l0_0.length ≤ c0_0) (HP0_1 : Ft c [0] w (fun w_ => k28.C w_ A0_1 l0_1.length l0_1)) (HCP0_1 : l0_1.length ≤ c0_1) (H : expr_Cursor_end.f l0_0 l0_1 a0_2 a0_3 = some (r1, r2, r3)) :
    Calls Try.prog 135 #[.pointer (some ⟨g0, 0, none⟩)] w fun e w' => ∃ (c' : Nat → Nat) , e = .returned (.int .i64 r1) ∧ Step c w c' w' [1] ∧ Bx c' 1 w' g0 111 ([.slice A0_0 l0_0.length c0_0, .slice A0_1 l0_1.length c0_1, .int .i64 r2, .int .i64 r3]) := by
 unfold expr_Cursor_end.f at H
 have HS := Step.refl c w [1]
 go_enter Try.func135, Try.ntmps135
 refine wp_seq_k fun K19 hK19 => ?_
 refine wl_region ?_
 refine st (.int .i64 0) rfl rfl (xr_assign _ rfl rfl) ?_
 refine wl_end ?_
 (try simp only [ls0, ls1])
 refine hK19 _ _ ?_
 (try clear hK19 K19)
 refine wp_seq_k fun K20 hK20 => ?_
 refine wp_seq_k fun K21 hK21 => ?_
 refine wl_region ?_
 refine mv_ rfl ?_
 obtain ⟨⟨t22, t23⟩, A24, H⟩ := bnd H
 (try dsimp only at H)
 refine st_call #[.pointer (some ⟨g0, 0, none⟩), .string (⟨#[41]⟩ : ByteArray)] rfl rfl Try.func48 (by kernel_rfl) rfl rfl (mp_ rfl) ?_
 refine (expr_Cursor_Take.calls g0 A0_0 c0_0 l0_0 A0_1 c0_1 l0_1 a0_2 a0_3 (⟨#[41]⟩ : ByteArray) t22 t23  (fun z_ => pal [(0, 0), (1, 1)] (c z_)) w (fun _ => pal_lt rfl _) (Bx.arg HP0 rfl) (Ft.arg HP0_0 rfl) HCP0_0 (Ft.arg HP0_1 rfl) HCP0_1 A24).mono ?_
 rintro _ w26 ⟨C27, rfl, hs28, HX29⟩
 refine ⟨_, rfl, ?_⟩
 replace HX29 := Bx.res (U := [(0, 0), (1, 1)]) (j := 1) HX29 hs28 (by rfl) (by decide) rfl
 replace hs28 := Step.lift (U := [(0, 0), (1, 1)]) hs28 [1] rfl rfl
 generalize up c C27 w.heap.size [(0, 0), (1, 1)] = C27_ at HX29 hs28
 replace HP0_0 := HP0_0.thru hs28 rfl
 replace HP0_1 := HP0_1.thru hs28 rfl
 replace HS := HS.trans hs28 hc rfl
 (try simp only [ls0, ls1])
 refine st (.bool (!t22)) rfl rfl (xr_un (.bool t22) _ rfl rfl (by first | rfl | (go_simp; done) | (go_simp; rfl) | (go_simp; exact i64_w _) | (go_simp; exact i32_w _))) ?_
 refine wl_end ?_
 (try simp only [ls0, ls1])
 refine hK21 _ _ ?_
 (try clear hK21 K21)
 by_cases c30 : t22 = true
 ·rw [if_pos c30] at H
  (try rw [c30])
  (try simp only [Bool.not_true, Bool.not_false])
  refine wp_cond_false rfl ?_
  refine wp_skip ?_
  (try simp only [ls0, ls1])
  refine hK20 _ _ ?_
  (try clear hK20 K20)
  refine wp_seq_k fun K31 hK31 => ?_
  refine wl_region ?_
  refine mv_ rfl ?_
  refine st (.pointer (some ⟨g0, 0, none⟩)) rfl rfl (xr_nilCheck _ rfl rfl) ?_
  refine st (.pointer (some ⟨g0, 3, none⟩)) rfl rfl (xr_fieldAddr _ _ rfl rfl (bx_field2 Try.underlying111 rfl rfl (by kernel_rfl))) ?_
  refine st (.int .i64 a0_3) rfl rfl (xr_load _ _ rfl rfl (load_cell Try.underlying3 rfl (bx_cell (HX29).2 3 rfl))) ?_
  simp only [ls0, ls1]
  refine st (.int .i64 (wrap64 (a0_3 - 1))) rfl rfl (xr_bin _ _ _ rfl rfl rfl (B.sub_i64 _ _)) ?_
  refine st (.pointer (some ⟨g0, 0, none⟩)) rfl rfl (xr_nilCheck _ rfl rfl) ?_
  refine st (.pointer (some ⟨g0, 3, none⟩)) rfl rfl (xr_fieldAddr _ _ rfl rfl (bx_field2 Try.underlying111 rfl rfl (by kernel_rfl))) ?_
  refine bx_store (C := C27_) (z := 1) (g := g0) (j := 3) (tb := 111) (u := .int .i64 (wrap64 (a0_3 - 1))) (seg := [.int .i64 (wrap64 (a0_3 - 1))]) (xs := [.slice A0_0 l0_0.length c0_0, .slice A0_1 l0_1.length c0_1, .int .i64 t23, .int .i64 a0_3]) rfl rfl rfl rfl rfl rfl (by first | kernel_rfl | rfl) (by simp [Value.oneCell']) HX29 (by simp only [List.length_cons, List.length_nil]; omega) rfl ?_
  intro w32 HX33 hs34
  replace HP0_0 := HP0_0.thru hs34 rfl
  replace HP0_1 := HP0_1.thru hs34 rfl
  replace HS := HS.trans hs34 hc rfl
  (try simp only [ls0, ls1])
  refine wl_end ?_
  (try simp only [ls0, ls1])
  refine hK31 _ _ ?_
  (try clear hK31 K31)
  refine wp_seq_k fun K35 hK35 => ?_
  refine wl_region ?_
  refine st (.int .i64 0) rfl rfl (xr_assign _ rfl rfl) ?_
  refine wl_end ?_
  (try simp only [ls0, ls1])
  refine hK35 _ _ ?_
  (try clear hK35 K35)
  refine wp_ret ?_
  (try simp only [Exit.inBlock, Exit.then, Exit.noGoto])
  (try simp only [ls0, ls1])
  simp only [Option.some.injEq, Prod.mk.injEq] at H
  obtain ⟨rfl, rfl, rfl⟩ := H
  refine bodyPost_ret (results_tmp rfl _ _ _) rfl ?_
  exact ⟨_, rfl, HS, HX33⟩
 rw [if_neg c30] at H
 (try rw [(Bool.eq_false_iff.mpr c30)])
 (try simp only [Bool.not_true, Bool.not_false])
 refine wp_cond_true rfl ?_
 refine wp_seq_k fun K36 hK36 => ?_
 refine wl_region ?_
 refine st (.int .i64 11) rfl rfl (xr_assign _ rfl rfl) ?_
 refine wl_end ?_
 (try simp only [ls0, ls1])
 refine hK36 _ _ ?_
 (try clear hK36 K36)
 refine wp_ret ?_
 (try simp only [Exit.inBlock, Exit.then, Exit.noGoto])
 (try simp only [ls0, ls1])
 simp only [Option.some.injEq, Prod.mk.injEq] at H
 obtain ⟨rfl, rfl, rfl⟩ := H
 refine bodyPost_ret (results_tmp rfl _ _ _) rfl ?_
 exact ⟨_, rfl, HS, HX29⟩

/-! ### expr_level: function 103 -/
def expr_level.j0 (a0 : ByteArray) (x70 : Bool) : Option (Int) := if x70 = true then (some 4) else (if a0 = (⟨#[42]⟩ : ByteArray) then (some 5) else (some 0))
def expr_level.j1 (a0 : ByteArray) (x58 : Bool) : Option (Int) := if x58 = true then (some 3) else (if a0 = (⟨#[43]⟩ : ByteArray) then (expr_level.j0 a0 true) else (expr_level.j0 a0 (decide (a0 = (⟨#[45]⟩ : ByteArray)))))
def expr_level.f (a0 : ByteArray) : Option (Int) := if a0 = (⟨#[124, 124]⟩ : ByteArray) then (some 1) else (if a0 = (⟨#[38, 38]⟩ : ByteArray) then (some 2) else (if a0 = (⟨#[61, 61]⟩ : ByteArray) then (expr_level.j1 a0 true) else (expr_level.j1 a0 (decide (a0 = (⟨#[60]⟩ : ByteArray))))))
set_option maxHeartbeats 8000000 in
set_option maxRecDepth 100000 in
theorem expr_level.calls (a0 : ByteArray) (r : Int) (c : Nat → Nat) (w : World) (hc : ∀ k, c k < 10)  (H : expr_level.f a0 = some r) :
    Calls Try.prog 103 #[.string a0] w fun e w' => ∃ (c' : Nat → Nat) , e = .returned (.int .i64 r) ∧ Step c w c' w' [] := by
 unfold expr_level.f at H
 have HS := Step.refl c w []
 go_enter Try.func103, Try.ntmps103
 refine wp_seq_k fun K42 hK42 => ?_
 refine wl_region ?_
 refine st (.int .i64 0) rfl rfl (xr_assign _ rfl rfl) ?_
 refine wl_end ?_
 (try simp only [ls0, ls1])
 refine hK42 _ _ ?_
 (try clear hK42 K42)
 refine wp_seq_k fun K43 hK43 => ?_
 refine wp_seq_k fun K44 hK44 => ?_
 refine wl_region ?_
 refine mv_ rfl ?_
 refine wl_end ?_
 (try simp only [ls0, ls1])
 refine hK44 _ _ ?_
 (try clear hK44 K44)
 refine wp_block ?_
 refine wp_seq_k fun K45 hK45 => ?_
 refine wl_region ?_
 refine st (.bool (decide (a0 = (⟨#[124, 124]⟩ : ByteArray)))) rfl rfl (xr_bin _ _ _ rfl rfl rfl (B.eql_str _ _)) ?_
 refine as_ rfl ?_
 refine wl_end ?_
 (try simp only [ls0, ls1])
 refine hK45 _ _ ?_
 (try clear hK45 K45)
 by_cases c46 : a0 = (⟨#[124, 124]⟩ : ByteArray)
 ·rw [if_pos c46] at H
  (try rw [(decide_eq_true c46)])
  refine wp_cond_true rfl ?_
  refine wp_seq_k fun K47 hK47 => ?_
  refine wl_region ?_
  refine st (.int .i64 1) rfl rfl (xr_assign _ rfl rfl) ?_
  refine wl_end ?_
  (try simp only [ls0, ls1])
  refine hK47 _ _ ?_
  (try clear hK47 K47)
  refine wp_ret ?_
  (try simp only [Exit.inBlock, Exit.then, Exit.noGoto])
  (try simp only [ls0, ls1])
  obtain rfl := Option.some.inj H
  refine bodyPost_ret (results_tmp rfl _ _ _) rfl ?_
  exact ⟨_, rfl, HS⟩
 rw [if_neg c46] at H
 (try rw [(decide_eq_false c46)])
 refine wp_cond_false rfl ?_
 refine wp_seq_k fun K48 hK48 => ?_
 refine wl_region ?_
 refine st (.bool (decide (a0 = (⟨#[38, 38]⟩ : ByteArray)))) rfl rfl (xr_bin _ _ _ rfl rfl rfl (B.eql_str _ _)) ?_
 refine as_ rfl ?_
 refine wl_end ?_
 (try simp only [ls0, ls1])
 refine hK48 _ _ ?_
 (try clear hK48 K48)
 by_cases c49 : a0 = (⟨#[38, 38]⟩ : ByteArray)
 ·rw [if_pos c49] at H
  (try rw [(decide_eq_true c49)])
  refine wp_cond_true rfl ?_
  refine wp_seq_k fun K50 hK50 => ?_
  refine wl_region ?_
  refine st (.int .i64 2) rfl rfl (xr_assign _ rfl rfl) ?_
  refine wl_end ?_
  (try simp only [ls0, ls1])
  refine hK50 _ _ ?_
  (try clear hK50 K50)
  refine wp_ret ?_
  (try simp only [Exit.inBlock, Exit.then, Exit.noGoto])
  (try simp only [ls0, ls1])
  obtain rfl := Option.some.inj H
  refine bodyPost_ret (results_tmp rfl _ _ _) rfl ?_
  exact ⟨_, rfl, HS⟩
 rw [if_neg c49] at H
 (try rw [(decide_eq_false c49)])
 refine wp_cond_false rfl ?_
 refine wp_seq_k fun K51 hK51 => ?_
 have hj54 : ∀ (C55 : Nat → Nat) (w56 : World) (x58 : Bool) (g_ : Nat → Value), Step c w C55 w56 [] → expr_level.j1 a0 x58 = some r → K51 ⟨#[(g_ 0), (g_ 1), (g_ 2), .string a0, (g_ 4), (g_ 5), (g_ 6), (g_ 7), .bool x58, (g_ 9), (g_ 10), (g_ 11), (g_ 12), (g_ 13), (g_ 14), (g_ 15)], []⟩ w56 := by
  intro C55 w56 x58 g_ HS57  H
  unfold expr_level.j1 at H
  refine hK51 _ _ ?_
  (try clear hK51)
  by_cases c61 : x58 = true
  ·rw [if_pos c61] at H
   (try rw [c61])
   refine wp_cond_true rfl ?_
   refine wp_seq_k fun K62 hK62 => ?_
   refine wl_region ?_
   refine st (.int .i64 3) rfl rfl (xr_assign _ rfl rfl) ?_
   refine wl_end ?_
   (try simp only [ls0, ls1])
   refine hK62 _ _ ?_
   (try clear hK62 K62)
   refine wp_ret ?_
   (try simp only [Exit.inBlock, Exit.then, Exit.noGoto])
   (try simp only [ls0, ls1])
   obtain rfl := Option.some.inj H
   refine bodyPost_ret (results_tmp rfl _ _ _) rfl ?_
   exact ⟨_, rfl, HS57⟩
  rw [if_neg c61] at H
  (try rw [(Bool.eq_false_iff.mpr c61)])
  refine wp_cond_false rfl ?_
  refine wp_seq_k fun K63 hK63 => ?_
  have hj66 : ∀ (C67 : Nat → Nat) (w68 : World) (x70 : Bool) (g_ : Nat → Value), Step c w C67 w68 [] → expr_level.j0 a0 x70 = some r → K63 ⟨#[(g_ 0), (g_ 1), (g_ 2), .string a0, (g_ 4), (g_ 5), (g_ 6), (g_ 7), (g_ 8), (g_ 9), (g_ 10), .bool x70, (g_ 12), (g_ 13), (g_ 14), (g_ 15)], []⟩ w68 := by
   intro C67 w68 x70 g_ HS69  H
   unfold expr_level.j0 at H
   refine hK63 _ _ ?_
   (try clear hK63)
   by_cases c73 : x70 = true
   ·rw [if_pos c73] at H
    (try rw [c73])
    refine wp_cond_true rfl ?_
    refine wp_seq_k fun K74 hK74 => ?_
    refine wl_region ?_
    refine st (.int .i64 4) rfl rfl (xr_assign _ rfl rfl) ?_
    refine wl_end ?_
    (try simp only [ls0, ls1])
    refine hK74 _ _ ?_
    (try clear hK74 K74)
    refine wp_ret ?_
    (try simp only [Exit.inBlock, Exit.then, Exit.noGoto])
    (try simp only [ls0, ls1])
    obtain rfl := Option.some.inj H
    refine bodyPost_ret (results_tmp rfl _ _ _) rfl ?_
    exact ⟨_, rfl, HS69⟩
   rw [if_neg c73] at H
   (try rw [(Bool.eq_false_iff.mpr c73)])
   refine wp_cond_false rfl ?_
   refine wp_seq_k fun K75 hK75 => ?_
   refine wl_region ?_
   refine st (.bool (decide (a0 = (⟨#[42]⟩ : ByteArray)))) rfl rfl (xr_bin _ _ _ rfl rfl rfl (B.eql_str _ _)) ?_
   refine as_ rfl ?_
   refine wl_end ?_
   (try simp only [ls0, ls1])
   refine hK75 _ _ ?_
   (try clear hK75 K75)
   by_cases c76 : a0 = (⟨#[42]⟩ : ByteArray)
   ·rw [if_pos c76] at H
    (try rw [(decide_eq_true c76)])
    refine wp_cond_true rfl ?_
    refine wp_seq_k fun K77 hK77 => ?_
    refine wl_region ?_
    refine st (.int .i64 5) rfl rfl (xr_assign _ rfl rfl) ?_
    refine wl_end ?_
    (try simp only [ls0, ls1])
    refine hK77 _ _ ?_
    (try clear hK77 K77)
    refine wp_ret ?_
    (try simp only [Exit.inBlock, Exit.then, Exit.noGoto])
    (try simp only [ls0, ls1])
    obtain rfl := Option.some.inj H
    refine bodyPost_ret (results_tmp rfl _ _ _) rfl ?_
    exact ⟨_, rfl, HS69⟩
   rw [if_neg c76] at H
   (try rw [(decide_eq_false c76)])
   refine wp_cond_false rfl ?_
   refine wp_skip ?_
   (try simp only [ls0, ls1])
   refine hK43 _ _ ?_
   (try clear hK43 K43)
   refine wp_seq_k fun K78 hK78 => ?_
   refine wl_region ?_
   refine st (.int .i64 0) rfl rfl (xr_assign _ rfl rfl) ?_
   refine wl_end ?_
   (try simp only [ls0, ls1])
   refine hK78 _ _ ?_
   (try clear hK78 K78)
   refine wp_ret ?_
   (try simp only [Exit.inBlock, Exit.then, Exit.noGoto])
   (try simp only [ls0, ls1])
   obtain rfl := Option.some.inj H
   refine bodyPost_ret (results_tmp rfl _ _ _) rfl ?_
   exact ⟨_, rfl, HS69⟩
  refine wp_seq_k fun K79 hK79 => ?_
  refine wl_region ?_
  refine st (.bool (decide (a0 = (⟨#[43]⟩ : ByteArray)))) rfl rfl (xr_bin _ _ _ rfl rfl rfl (B.eql_str _ _)) ?_
  refine as_ rfl ?_
  refine wl_end ?_
  (try simp only [ls0, ls1])
  refine hK79 _ _ ?_
  (try clear hK79 K79)
  by_cases c80 : a0 = (⟨#[43]⟩ : ByteArray)
  ·rw [if_pos c80] at H
   (try rw [(decide_eq_true c80)])
   refine wp_cond_true rfl ?_
   refine wp_skip ?_
   (try simp only [ls0, ls1])
   exact jmp (fun g_ => hj66 _ _ (true) g_ HS57 H) rfl
  rw [if_neg c80] at H
  (try rw [(decide_eq_false c80)])
  refine wp_cond_false rfl ?_
  refine wl_region ?_
  refine st (.bool (decide (a0 = (⟨#[45]⟩ : ByteArray)))) rfl rfl (xr_bin _ _ _ rfl rfl rfl (B.eql_str _ _)) ?_
  refine as_ rfl ?_
  refine wl_end ?_
  (try simp only [ls0, ls1])
  exact jmp (fun g_ => hj66 _ _ (decide (a0 = (⟨#[45]⟩ : ByteArray))) g_ HS57 H) rfl
 refine wp_seq_k fun K81 hK81 => ?_
 refine wl_region ?_
 refine st (.bool (decide (a0 = (⟨#[61, 61]⟩ : ByteArray)))) rfl rfl (xr_bin _ _ _ rfl rfl rfl (B.eql_str _ _)) ?_
 refine as_ rfl ?_
 refine wl_end ?_
 (try simp only [ls0, ls1])
 refine hK81 _ _ ?_
 (try clear hK81 K81)
 by_cases c82 : a0 = (⟨#[61, 61]⟩ : ByteArray)
 ·rw [if_pos c82] at H
  (try rw [(decide_eq_true c82)])
  refine wp_cond_true rfl ?_
  refine wp_skip ?_
  (try simp only [ls0, ls1])
  exact jmp (fun g_ => hj54 _ _ (true) g_ HS H) rfl
 rw [if_neg c82] at H
 (try rw [(decide_eq_false c82)])
 refine wp_cond_false rfl ?_
 refine wl_region ?_
 refine st (.bool (decide (a0 = (⟨#[60]⟩ : ByteArray)))) rfl rfl (xr_bin _ _ _ rfl rfl rfl (B.eql_str _ _)) ?_
 refine as_ rfl ?_
 refine wl_end ?_
 (try simp only [ls0, ls1])
 exact jmp (fun g_ => hj54 _ _ (decide (a0 = (⟨#[60]⟩ : ByteArray))) g_ HS H) rfl

structure Rec_expr_Cursor_binary where
  expr_Cursor_binary : (List Int) → (List (S28)) → Int → Int → Int → Option (Int × Int × Int × ByteArray × ByteArray × (List (S44)) × Int × Int × Int)
  expr_Cursor_signed : (List Int) → (List (S28)) → Int → Int → Option (Int × Int × Int × ByteArray × ByteArray × (List (S44)) × Int × Int × Int)
  expr_Cursor_primary : (List Int) → (List (S28)) → Int → Int → Option (Int × Int × Int × ByteArray × ByteArray × (List (S44)) × Int × Int × Int)
  expr_Cursor_group : (List Int) → (List (S28)) → Int → Int → Option (Int × Int × Int × ByteArray × ByteArray × (List (S44)) × Int × Int × Int)
  expr_Cursor_open : (List Int) → (List (S28)) → Int → Int → Option (Int × Int × Int × ByteArray × ByteArray × (List (S44)) × Int × Int × Int)
  expr_Cursor_named : (List Int) → (List (S28)) → Int → Int → Option (Int × Int × Int × ByteArray × ByteArray × (List (S44)) × Int × Int × Int)
structure Rec_expr_Cursor_binary.Good (r_ : Rec_expr_Cursor_binary) : Prop where
  expr_Cursor_binary : ∀ (g0 : Nat) (A0_0 : Option Addr) (c0_0 : Nat) (l0_0 : List Int) (A0_1 : Option Addr) (c0_1 : Nat) (l0_1 : List (S28)) (a0_2 : Int) (a0_3 : Int) (a1 : Int) (r1 : Int) (r2 : Int) (r3 : Int) (r4 : ByteArray) (r5 : ByteArray) (r6 : List (S44)) (r7 : Int) (r8 : Int) (r9 : Int) (c : Nat → Nat) (w : World) (hc : ∀ k, c k < 10) (HP0 : Bx c 1 w g0 111 ([.slice A0_0 l0_0.length c0_0, .slice A0_1 l0_1.length c0_1, .int .i64 a0_2, .int .i64 a0_3])) (HP0_0 : Ft c [0] w (fun w_ => (Kd.int .u8).C w_ A0_0 l0_0.length l0_0)) (HCP0_0 : l0_0.length ≤ c0_0) (HP0_1 : Ft c [0] w (fun w_ => k28.C w_ A0_1 l0_1.length l0_1)) (HCP0_1 : l0_1.length ≤ c0_1) (H : r_.expr_Cursor_binary l0_0 l0_1 a0_2 a0_3 a1 = some (r1, r2, r3, r4, r5, r6, r7, r8, r9)),
    Calls Try.prog 82 #[.pointer (some ⟨g0, 0, none⟩), .int .i64 a1] w fun e w' => ∃ (c' : Nat → Nat) (A_r6 : Option Addr) (c_r6 : Nat), e = .returned (.tuple #[.agg #[.int .i64 r1, .int .i64 r2, .int .i64 r3, .string r4, .string r5, .slice A_r6 r6.length c_r6], .int .i64 r7]) ∧ Step c w c' w' [1] ∧ Ft c' [0] w' (fun w_ => k44.C w_ A_r6 r6.length r6) ∧ r6.length ≤ c_r6 ∧ Bx c' 1 w' g0 111 ([.slice A0_0 l0_0.length c0_0, .slice A0_1 l0_1.length c0_1, .int .i64 r8, .int .i64 r9])
  expr_Cursor_signed : ∀ (g0 : Nat) (A0_0 : Option Addr) (c0_0 : Nat) (l0_0 : List Int) (A0_1 : Option Addr) (c0_1 : Nat) (l0_1 : List (S28)) (a0_2 : Int) (a0_3 : Int) (r1 : Int) (r2 : Int) (r3 : Int) (r4 : ByteArray) (r5 : ByteArray) (r6 : List (S44)) (r7 : Int) (r8 : Int) (r9 : Int) (c : Nat → Nat) (w : World) (hc : ∀ k, c k < 10) (HP0 : Bx c 1 w g0 111 ([.slice A0_0 l0_0.length c0_0, .slice A0_1 l0_1.length c0_1, .int .i64 a0_2, .int .i64 a0_3])) (HP0_0 : Ft c [0] w (fun w_ => (Kd.int .u8).C w_ A0_0 l0_0.length l0_0)) (HCP0_0 : l0_0.length ≤ c0_0) (HP0_1 : Ft c [0] w (fun w_ => k28.C w_ A0_1 l0_1.length l0_1)) (HCP0_1 : l0_1.length ≤ c0_1) (H : r_.expr_Cursor_signed l0_0 l0_1 a0_2 a0_3 = some (r1, r2, r3, r4, r5, r6, r7, r8, r9)),
    Calls Try.prog 102 #[.pointer (some ⟨g0, 0, none⟩)] w fun e w' => ∃ (c' : Nat → Nat) (A_r6 : Option Addr) (c_r6 : Nat), e = .returned (.tuple #[.agg #[.int .i64 r1, .int .i64 r2, .int .i64 r3, .string r4, .string r5, .slice A_r6 r6.length c_r6], .int .i64 r7]) ∧ Step c w c' w' [1] ∧ Ft c' [0] w' (fun w_ => k44.C w_ A_r6 r6.length r6) ∧ r6.length ≤ c_r6 ∧ Bx c' 1 w' g0 111 ([.slice A0_0 l0_0.length c0_0, .slice A0_1 l0_1.length c0_1, .int .i64 r8, .int .i64 r9])
  expr_Cursor_primary : ∀ (g0 : Nat) (A0_0 : Option Addr) (c0_0 : Nat) (l0_0 : List Int) (A0_1 : Option Addr) (c0_1 : Nat) (l0_1 : List (S28)) (a0_2 : Int) (a0_3 : Int) (r1 : Int) (r2 : Int) (r3 : Int) (r4 : ByteArray) (r5 : ByteArray) (r6 : List (S44)) (r7 : Int) (r8 : Int) (r9 : Int) (c : Nat → Nat) (w : World) (hc : ∀ k, c k < 10) (HP0 : Bx c 1 w g0 111 ([.slice A0_0 l0_0.length c0_0, .slice A0_1 l0_1.length c0_1, .int .i64 a0_2, .int .i64 a0_3])) (HP0_0 : Ft c [0] w (fun w_ => (Kd.int .u8).C w_ A0_0 l0_0.length l0_0)) (HCP0_0 : l0_0.length ≤ c0_0) (HP0_1 : Ft c [0] w (fun w_ => k28.C w_ A0_1 l0_1.length l0_1)) (HCP0_1 : l0_1.length ≤ c0_1) (H : r_.expr_Cursor_primary l0_0 l0_1 a0_2 a0_3 = some (r1, r2, r3, r4, r5, r6, r7, r8, r9)),
    Calls Try.prog 120 #[.pointer (some ⟨g0, 0, none⟩)] w fun e w' => ∃ (c' : Nat → Nat) (A_r6 : Option Addr) (c_r6 : Nat), e = .returned (.tuple #[.agg #[.int .i64 r1, .int .i64 r2, .int .i64 r3, .string r4, .string r5, .slice A_r6 r6.length c_r6], .int .i64 r7]) ∧ Step c w c' w' [1] ∧ Ft c' [0] w' (fun w_ => k44.C w_ A_r6 r6.length r6) ∧ r6.length ≤ c_r6 ∧ Bx c' 1 w' g0 111 ([.slice A0_0 l0_0.length c0_0, .slice A0_1 l0_1.length c0_1, .int .i64 r8, .int .i64 r9])
  expr_Cursor_group : ∀ (g0 : Nat) (A0_0 : Option Addr) (c0_0 : Nat) (l0_0 : List Int) (A0_1 : Option Addr) (c0_1 : Nat) (l0_1 : List (S28)) (a0_2 : Int) (a0_3 : Int) (r1 : Int) (r2 : Int) (r3 : Int) (r4 : ByteArray) (r5 : ByteArray) (r6 : List (S44)) (r7 : Int) (r8 : Int) (r9 : Int) (c : Nat → Nat) (w : World) (hc : ∀ k, c k < 10) (HP0 : Bx c 1 w g0 111 ([.slice A0_0 l0_0.length c0_0, .slice A0_1 l0_1.length c0_1, .int .i64 a0_2, .int .i64 a0_3])) (HP0_0 : Ft c [0] w (fun w_ => (Kd.int .u8).C w_ A0_0 l0_0.length l0_0)) (HCP0_0 : l0_0.length ≤ c0_0) (HP0_1 : Ft c [0] w (fun w_ => k28.C w_ A0_1 l0_1.length l0_1)) (HCP0_1 : l0_1.length ≤ c0_1) (H : r_.expr_Cursor_group l0_0 l0_1 a0_2 a0_3 = some (r1, r2, r3, r4, r5, r6, r7, r8, r9)),
    Calls Try.prog 132 #[.pointer (some ⟨g0, 0, none⟩)] w fun e w' => ∃ (c' : Nat → Nat) (A_r6 : Option Addr) (c_r6 : Nat), e = .returned (.tuple #[.agg #[.int .i64 r1, .int .i64 r2, .int .i64 r3, .string r4, .string r5, .slice A_r6 r6.length c_r6], .int .i64 r7]) ∧ Step c w c' w' [1] ∧ Ft c' [0] w' (fun w_ => k44.C w_ A_r6 r6.length r6) ∧ r6.length ≤ c_r6 ∧ Bx c' 1 w' g0 111 ([.slice A0_0 l0_0.length c0_0, .slice A0_1 l0_1.length c0_1, .int .i64 r8, .int .i64 r9])
  expr_Cursor_open : ∀ (g0 : Nat) (A0_0 : Option Addr) (c0_0 : Nat) (l0_0 : List Int) (A0_1 : Option Addr) (c0_1 : Nat) (l0_1 : List (S28)) (a0_2 : Int) (a0_3 : Int) (r1 : Int) (r2 : Int) (r3 : Int) (r4 : ByteArray) (r5 : ByteArray) (r6 : List (S44)) (r7 : Int) (r8 : Int) (r9 : Int) (c : Nat → Nat) (w : World) (hc : ∀ k, c k < 10) (HP0 : Bx c 1 w g0 111 ([.slice A0_0 l0_0.length c0_0, .slice A0_1 l0_1.length c0_1, .int .i64 a0_2, .int .i64 a0_3])) (HP0_0 : Ft c [0] w (fun w_ => (Kd.int .u8).C w_ A0_0 l0_0.length l0_0)) (HCP0_0 : l0_0.length ≤ c0_0) (HP0_1 : Ft c [0] w (fun w_ => k28.C w_ A0_1 l0_1.length l0_1)) (HCP0_1 : l0_1.length ≤ c0_1) (H : r_.expr_Cursor_open l0_0 l0_1 a0_2 a0_3 = some (r1, r2, r3, r4, r5, r6, r7, r8, r9)),
    Calls Try.prog 133 #[.pointer (some ⟨g0, 0, none⟩)] w fun e w' => ∃ (c' : Nat → Nat) (A_r6 : Option Addr) (c_r6 : Nat), e = .returned (.tuple #[.agg #[.int .i64 r1, .int .i64 r2, .int .i64 r3, .string r4, .string r5, .slice A_r6 r6.length c_r6], .int .i64 r7]) ∧ Step c w c' w' [1] ∧ Ft c' [0] w' (fun w_ => k44.C w_ A_r6 r6.length r6) ∧ r6.length ≤ c_r6 ∧ Bx c' 1 w' g0 111 ([.slice A0_0 l0_0.length c0_0, .slice A0_1 l0_1.length c0_1, .int .i64 r8, .int .i64 r9])
  expr_Cursor_named : ∀ (g0 : Nat) (A0_0 : Option Addr) (c0_0 : Nat) (l0_0 : List Int) (A0_1 : Option Addr) (c0_1 : Nat) (l0_1 : List (S28)) (a0_2 : Int) (a0_3 : Int) (r1 : Int) (r2 : Int) (r3 : Int) (r4 : ByteArray) (r5 : ByteArray) (r6 : List (S44)) (r7 : Int) (r8 : Int) (r9 : Int) (c : Nat → Nat) (w : World) (hc : ∀ k, c k < 10) (HP0 : Bx c 1 w g0 111 ([.slice A0_0 l0_0.length c0_0, .slice A0_1 l0_1.length c0_1, .int .i64 a0_2, .int .i64 a0_3])) (HP0_0 : Ft c [0] w (fun w_ => (Kd.int .u8).C w_ A0_0 l0_0.length l0_0)) (HCP0_0 : l0_0.length ≤ c0_0) (HP0_1 : Ft c [0] w (fun w_ => k28.C w_ A0_1 l0_1.length l0_1)) (HCP0_1 : l0_1.length ≤ c0_1) (H : r_.expr_Cursor_named l0_0 l0_1 a0_2 a0_3 = some (r1, r2, r3, r4, r5, r6, r7, r8, r9)),
    Calls Try.prog 134 #[.pointer (some ⟨g0, 0, none⟩)] w fun e w' => ∃ (c' : Nat → Nat) (A_r6 : Option Addr) (c_r6 : Nat), e = .returned (.tuple #[.agg #[.int .i64 r1, .int .i64 r2, .int .i64 r3, .string r4, .string r5, .slice A_r6 r6.length c_r6], .int .i64 r7]) ∧ Step c w c' w' [1] ∧ Ft c' [0] w' (fun w_ => k44.C w_ A_r6 r6.length r6) ∧ r6.length ≤ c_r6 ∧ Bx c' 1 w' g0 111 ([.slice A0_0 l0_0.length c0_0, .slice A0_1 l0_1.length c0_1, .int .i64 r8, .int .i64 r9])

end Go.Proofs.Yteoccoklbmjiaaa.PStn
