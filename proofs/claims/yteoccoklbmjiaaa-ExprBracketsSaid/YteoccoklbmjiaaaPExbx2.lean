-- By cprint.py, a program of this work. Lean checks it.
import Derived.Test.YteoccoklbmjiaaaPExbx0
import Derived.Test.YteoccoklbmjiaaaPExbx1
namespace Go.Proofs.Yteoccoklbmjiaaa.PExb
open Go.RowKit Go.Proofs.YteoccoklbmjiaaaW.PrintWords Go.Proofs.YteoccoklbmjiaaaW.PrintLast Go.Proofs.YteoccoklbmjiaaaW.PrintMore
set_option linter.unusedVariables false
set_option linter.unusedSimpArgs false

/-! ### expr_New: function 40 -/
def expr_New.f (k : Nat) (l0 : List Int) : Option (List Int × (List (S28)) × Int × Int) := (slices_Clone_byte_byte.f l0).bind fun t43 => ((lex_All.f k t43).bind fun t55 => ((lex_Live.f k t55).bind fun t66 => (some (t43, t66, 0, 0))))

set_option maxHeartbeats 8000000 in
set_option maxRecDepth 100000 in
theorem expr_New.calls (k : Nat) (A0 : Option Addr) (c0 : Nat) (l0 : List Int) (r1 : List Int) (r2 : List (S28)) (r3 : Int) (r4 : Int) (c : Nat → Nat) (w : World) (hc : ∀ k, c k < 10) (HP0 : Ft c [0] w (fun w_ => (Kd.int .u8).C w_ A0 l0.length l0)) (HCP0 : l0.length ≤ c0) (H : expr_New.f k l0 = some (r1, r2, r3, r4)) :
    Calls Try.prog 40 #[.slice A0 l0.length c0] w fun e w' => ∃ (c' : Nat → Nat) (g_0 : Nat) (A_r1 : Option Addr) (c_r1 : Nat) (A_r2 : Option Addr) (c_r2 : Nat), e = .returned (.pointer (some ⟨g_0, 0, none⟩)) ∧ Step c w c' w' [] ∧ Ft c' [0] w' (fun w_ => (Kd.int .u8).C w_ A_r1 r1.length r1) ∧ r1.length ≤ c_r1 ∧ Own c' 6 w' k28 28 (.slice A_r2 r2.length c_r2) r2 ∧ r2.length ≤ c_r2 ∧ Bx c' 7 w' g_0 111 ([.slice A_r1 r1.length c_r1, .slice A_r2 r2.length c_r2, .int .i64 r3, .int .i64 r4]) := by
 unfold expr_New.f at H
 have HS := Step.refl c w []
 go_enter Try.func40, Try.ntmps40
 refine wp_seq_k fun K41 hK41 => ?_
 refine wl_region ?_
 refine st (.pointer none) rfl rfl (xr_assign _ rfl rfl) ?_
 refine wl_end ?_
 (try simp only [ls0, ls1])
 refine hK41 _ _ ?_
 (try clear hK41 K41)
 refine wp_seq_k fun K42 hK42 => ?_
 refine wl_region ?_
 refine mv_ rfl ?_
 obtain ⟨t43, A44, H⟩ := bnd H
 refine st_call #[.slice A0 l0.length c0] rfl rfl Try.func81 (by kernel_rfl) rfl rfl (mp_ rfl) ?_
 refine (slices_Clone_byte_byte.calls A0 c0 l0 t43  (fun z_ => pal [(0, 0)] (c z_)) w (fun _ => pal_lt rfl _) (Ft.arg HP0 rfl) HCP0 A44).mono ?_
 rintro _ w46 ⟨C47, A49, cp50, rfl, hs48, HO51, HC52⟩
 refine ⟨_, rfl, ?_⟩
 replace HO51 := Own.res (U := [(0, 0), (5, 11)]) (j := 11) HO51 hs48 (by rfl) (by decide) rfl rfl
 replace hs48 := Step.lift (U := [(0, 0), (5, 11)]) hs48 [] rfl rfl
 generalize up c C47 w.heap.size [(0, 0), (5, 11)] = C47_ at HO51 hs48
 replace HS := HS.trans hs48 hc rfl
 (try simp only [ls0, ls1])
 refine as_ rfl ?_
 refine wl_end ?_
 (try simp only [ls0, ls1])
 refine hK42 _ _ ?_
 (try clear hK42 K42)
 refine wp_seq_k fun K53 hK53 => ?_
 refine wl_region ?_
 refine mv_ rfl ?_
 refine mv_ rfl ?_
 have HR54 := Ft.recolor (a := 11) (b := 0) (HO51.ft) [0] rfl
 replace HS := Step.recol (a := 11) (b := 0) HS hc (by decide)
 obtain ⟨t55, A56, H⟩ := bnd H
 refine st_call #[.slice A49 t43.length cp50] rfl rfl Try.func18 (by kernel_rfl) rfl rfl (mp_ rfl) ?_
 refine (lex_All.calls k A49 cp50 t43 t55  (fun z_ => pal [(0, 0)] ((recol C47_ 11 0) z_)) w46 (fun _ => pal_lt rfl _) (Ft.arg HR54 rfl) HC52 A56).mono ?_
 rintro _ w58 ⟨C59, A61, cp62, rfl, hs60, HO63, HC64⟩
 refine ⟨_, rfl, ?_⟩
 replace HO63 := Own.res (U := [(0, 0), (5, 12)]) (j := 12) HO63 hs60 (by rfl) (by decide) rfl rfl
 replace hs60 := Step.lift (U := [(0, 0), (5, 12)]) hs60 [] rfl rfl
 generalize up (recol C47_ 11 0) C59 w46.heap.size [(0, 0), (5, 12)] = C59_ at HO63 hs60
 replace HR54 := HR54.thru hs60 rfl
 replace HS := HS.trans hs60 hc rfl
 (try simp only [ls0, ls1])
 replace HR54 := Ft.recol (a := 12) (b := 0) HR54 (.inl rfl)
 have HR65 := Ft.recolor (a := 12) (b := 0) (HO63.ft) [0] rfl
 replace HS := Step.recol (a := 12) (b := 0) HS hc (by decide)
 obtain ⟨t66, A67, H⟩ := bnd H
 refine st_call #[.slice A61 t55.length cp62] rfl rfl Try.func23 (by kernel_rfl) rfl rfl (mp_ rfl) ?_
 refine (lex_Live.calls k A61 cp62 t55 t66  (fun z_ => pal [(0, 0)] ((recol C59_ 12 0) z_)) w58 (fun _ => pal_lt rfl _) (Ft.arg HR65 rfl) HC64 A67).mono ?_
 rintro _ w69 ⟨C70, A72, cp73, rfl, hs71, HO74, HC75⟩
 refine ⟨_, rfl, ?_⟩
 replace HO74 := Own.res (U := [(0, 0), (5, 13)]) (j := 13) HO74 hs71 (by rfl) (by decide) rfl rfl
 replace hs71 := Step.lift (U := [(0, 0), (5, 13)]) hs71 [] rfl rfl
 generalize up (recol C59_ 12 0) C70 w58.heap.size [(0, 0), (5, 13)] = C70_ at HO74 hs71
 replace HR54 := HR54.thru hs71 rfl
 replace HS := HS.trans hs71 hc rfl
 (try simp only [ls0, ls1])
 refine st (.agg #[.slice A49 t43.length cp50, .slice A72 t66.length cp73, .int .i64 0, .int .i64 0]) rfl rfl (xr_build #[(0, .slice A49 t43.length cp50), (1, .slice A72 t66.length cp73)] (.agg #[.slice A49 t43.length cp50, .slice A72 t66.length cp73, .int .i64 0, .int .i64 0]) rfl (mp_ rfl) (by first | rfl | (go_simp; done) | (go_simp; rfl) | (go_simp; exact i64_w _) | (go_simp; exact i32_w _))) ?_
 refine bx_new (C := C70_) 111 ([.slice A49 t43.length cp50, .slice A72 t66.length cp73, .int .i64 0, .int .i64 0]) 14 rfl rfl (by first | (go_simp; done) | (go_simp; rfl)) ?_
 intro g76 w77 C78 HX79 hs80
 replace HR54 := HR54.thru hs80 rfl
 replace HO74 := HO74.thru hs80 rfl
 replace HS := HS.trans hs80 hc rfl
 (try simp only [ls0, ls1])
 refine as_ rfl ?_
 refine wl_end ?_
 (try simp only [ls0, ls1])
 refine hK53 _ _ ?_
 (try clear hK53 K53)
 refine wp_ret ?_
 (try simp only [Exit.inBlock, Exit.then, Exit.noGoto])
 (try simp only [ls0, ls1])
 replace HR54 := Ft.recol (a := 13) (b := 6) HR54 (.inl rfl)
 replace HO74 := Own.recolor (b := 6) HO74 (by decide)
 replace HX79 := Bx.recol (a := 13) (b := 6) HX79 (by decide)
 replace HS := Step.recol (a := 13) (b := 6) HS hc (by decide)
 replace HR54 := Ft.recol (a := 14) (b := 7) HR54 (.inl rfl)
 replace HO74 := Own.recol (a := 14) (b := 7) HO74 (by decide) (by decide)
 replace HX79 := Bx.recolor (b := 7) HX79
 replace HS := Step.recol (a := 14) (b := 7) HS hc (by decide)
 simp only [Option.some.injEq, Prod.mk.injEq] at H
 obtain ⟨rfl, rfl, rfl, rfl⟩ := H
 refine bodyPost_ret (results_tmp rfl _ _ _) rfl ?_
 exact ⟨_, g76, A49, cp50, A72, cp73, rfl, HS, HR54, HC52, HO74, HC75, HX79⟩

/-! ### expr_Cursor_Done: function 47 -/
def expr_Cursor_Done.f (x0 : Option S111) : Option (Bool) := onOpt x0 (some false) (fun o13 => (some (decide (o13.f2 ≥ (o13.f1.length : Int)))))
set_option maxHeartbeats 8000000 in
set_option maxRecDepth 100000 in
theorem expr_Cursor_Done.calls (v0 : Value) (x0 : Option S111) (r : Bool) (c : Nat → Nat) (w : World) (hc : ∀ k, c k < 10) (HP0 : Ft c [0] w (fun w_ => (Kd.ptr 111 k111).K w_ x0 [v0])) (H : expr_Cursor_Done.f x0 = some r) :
    Calls Try.prog 47 #[v0] w fun e w' => ∃ (c' : Nat → Nat) , e = .returned (.bool r) ∧ Step c w c' w' [] := by
 unfold expr_Cursor_Done.f at H
 have HS := Step.refl c w []
 go_enter Try.func47, Try.ntmps47
 refine wp_seq_k fun K11 hK11 => ?_
 refine wl_region ?_
 refine st (.bool false) rfl rfl (xr_assign _ rfl rfl) ?_
 refine wl_end ?_
 (try simp only [ls0, ls1])
 refine hK11 _ _ ?_
 (try clear hK11 K11)
 refine wp_seq_k fun K12 hK12 => ?_
 cases x0 with
 | none =>
  (try simp only [onOpt] at H)
  obtain rfl := ptr_none HP0
  (try simp only [ls0, ls1])
  refine al_start (lb 15 0) rfl rfl rfl (fun w_ => True) trivial [] ?_
  replace HS := Step.ofDrew HS
  generalize w.drew = w14 at *
  refine al_mv 0 (lb 15 1) rfl rfl (by kernel_rfl) (fun _ _ _ => id) rfl ?_
  refine al_pure 1 4 (.bool false) (lb 15 3) rfl rfl (by kernel_rfl) (fun _ _ _ => id) rfl (fun w_ => xr_bin (.pointer none) (.pointer none) (.bool false) rfl rfl rfl (B.neq_nn ⟨_, Try.underlying57⟩ (⟨0, 0, none⟩ : Addr))) ?_
  refine al_mv 2 (lb 15 7) rfl rfl (by kernel_rfl) (fun _ _ _ => id) rfl ?_
  refine al_off 3 6 (lb 15 15) rfl rfl (by kernel_rfl) (fun _ _ _ => id) (guard_off 2 true 5 rfl rfl false (by decide) rfl) ?_
  simp only [ls0, ls1]
  refine al_off 4 7 (lb 15 31) rfl rfl (by kernel_rfl) (fun _ _ _ => id) (guard_off 2 true 5 rfl rfl false (by decide) rfl) ?_
  refine al_off 5 8 (lb 15 63) rfl rfl (by kernel_rfl) (fun _ _ _ => id) (guard_off 2 true 5 rfl rfl false (by decide) rfl) ?_
  refine al_off 6 9 (lb 15 127) rfl rfl (by kernel_rfl) (fun _ _ _ => id) (guard_off 2 true 5 rfl rfl false (by decide) rfl) ?_
  refine al_off 7 10 (lb 15 255) rfl rfl (by kernel_rfl) (fun _ _ _ => id) (guard_off 2 true 5 rfl rfl false (by decide) rfl) ?_
  simp only [ls0, ls1]
  refine al_off 8 11 (lb 15 511) rfl rfl (by kernel_rfl) (fun _ _ _ => id) (guard_off 2 true 5 rfl rfl false (by decide) rfl) ?_
  refine al_off 9 12 (lb 15 1023) rfl rfl (by kernel_rfl) (fun _ _ _ => id) (guard_off 2 true 5 rfl rfl false (by decide) rfl) ?_
  refine al_off 10 13 (lb 15 2047) rfl rfl (by kernel_rfl) (fun _ _ _ => id) (guard_off 2 true 5 rfl rfl false (by decide) rfl) ?_
  refine al_off 11 14 (lb 15 4095) rfl rfl (by kernel_rfl) (fun _ _ _ => id) (guard_off 2 true 5 rfl rfl false (by decide) rfl) ?_
  simp only [ls0, ls1]
  refine al_off 12 15 (lb 15 8191) rfl rfl (by kernel_rfl) (fun _ _ _ => id) (guard_off 2 true 5 rfl rfl false (by decide) rfl) ?_
  refine al_pure 13 16 (.bool false) (lb 15 16383) rfl rfl (by kernel_rfl) (fun _ _ _ => id) rfl (fun w_ => xr_pick false _ rfl rfl rfl) ?_
  refine al_as 14 (lb 15 32767) rfl rfl (by kernel_rfl) (fun _ _ _ => id) rfl ?_
  refine al_end (by kernel_rfl) ?_
  (try simp only [ls0, ls1])
  refine hK12 _ _ ?_
  (try clear hK12 K12)
  refine wp_ret ?_
  (try simp only [Exit.inBlock, Exit.then, Exit.noGoto])
  (try simp only [ls0, ls1])
  obtain rfl := Option.some.inj H
  refine bodyPost_ret (results_tmp rfl _ _ _) rfl ?_
  exact ⟨_, rfl, HS⟩
 | some o13 =>
  (try simp only [onOpt] at H)
  obtain ⟨g15, cs16, rfl, HX17, HK18⟩ := ptr_some HP0
  obtain ⟨Aq19_0, cpq19_0, Aq19_1, cpq19_1, rfl, HCq19_0, HRq19_0, HCq19_1, HRq19_1⟩ := k111_openF HK18
  replace HRq19_0 : Ft c [0] w (fun w_ => (Kd.int .u8).C w_ Aq19_0 o13.f0.length o13.f0) := HRq19_0
  replace HRq19_1 : Ft c [0] w (fun w_ => k28.C w_ Aq19_1 o13.f1.length o13.f1) := HRq19_1
  (try simp only [ls0, ls1])
  refine al_start (lb 15 0) rfl rfl rfl (fun w_ => w_.heap[g15]? = some (.cells (List.toArray ([.slice Aq19_0 o13.f0.length cpq19_0, .slice Aq19_1 o13.f1.length cpq19_1, .int .i64 o13.f2, .int .i64 o13.f3])) 111 (0, 0))) (Ft.now (HX17.drew)) [] ?_
  replace HX17 := HX17.drew
  replace HRq19_0 := HRq19_0.drew
  replace HRq19_1 := HRq19_1.drew
  replace HS := Step.ofDrew HS
  generalize w.drew = w20 at *
  refine al_mv 0 (lb 15 1) rfl rfl (by kernel_rfl) (fun _ _ _ => id) rfl ?_
  refine al_pure 1 4 (.bool true) (lb 15 3) rfl rfl (by kernel_rfl) (fun _ _ _ => id) rfl (fun w_ => xr_bin (.pointer (some ⟨g15, 0, none⟩)) (.pointer none) (.bool true) rfl rfl rfl (B.neq_pn ⟨_, Try.underlying57⟩ ⟨g15, 0, none⟩)) ?_
  refine al_mv 2 (lb 15 7) rfl rfl (by kernel_rfl) (fun _ _ _ => id) rfl ?_
  refine al_mv 3 (lb 15 15) rfl rfl (by kernel_rfl) (fun _ _ _ => id) (guard_on 2 true 5 rfl rfl rfl) ?_
  simp only [ls0, ls1]
  refine al_pure 4 7 (.pointer (some ⟨g15, 0, none⟩)) (lb 15 31) rfl rfl (by kernel_rfl) (fun _ _ _ => id) (guard_on 2 true 5 rfl rfl rfl) (fun w_ => xr_nilCheck _ rfl rfl) ?_
  refine al_pure 5 8 (.pointer (some ⟨g15, 2, none⟩)) (lb 15 63) rfl rfl (by kernel_rfl) (fun _ _ _ => id) (guard_on 2 true 5 rfl rfl rfl) (fun w_ => xr_fieldAddr _ _ rfl rfl (bx_field2 Try.underlying111 rfl rfl (by kernel_rfl))) ?_
  refine al_mv 7 (lb 15 191) rfl rfl (by kernel_rfl) (fun _ _ _ => id) (guard_on 2 true 5 rfl rfl rfl) ?_
  refine al_pure 8 11 (.pointer (some ⟨g15, 0, none⟩)) (lb 15 447) rfl rfl (by kernel_rfl) (fun _ _ _ => id) (guard_on 2 true 5 rfl rfl rfl) (fun w_ => xr_nilCheck _ rfl rfl) ?_
  simp only [ls0, ls1]
  refine al_pure 9 12 (.pointer (some ⟨g15, 1, none⟩)) (lb 15 959) rfl rfl (by kernel_rfl) (fun _ _ _ => id) (guard_on 2 true 5 rfl rfl rfl) (fun w_ => xr_fieldAddr _ _ rfl rfl (bx_field2 Try.underlying111 rfl rfl (by kernel_rfl))) ?_
  refine al_take 6 9 (.int .i64 o13.f2) (lb 15 1023) rfl rfl (by kernel_rfl) (fun _ _ _ => id) (guard_on 2 true 5 rfl rfl rfl) (fun w_ hS_ => xr_load _ _ rfl rfl (load_cell Try.underlying3 rfl (bx_cell hS_ 2 rfl))) (Ft.now (HX17)) ?_
  refine al_take 10 13 (.slice Aq19_1 o13.f1.length cpq19_1) (lb 15 2047) rfl rfl (by kernel_rfl) (fun _ _ _ => id) (guard_on 2 true 5 rfl rfl rfl) (fun w_ hS_ => xr_load _ _ rfl rfl (load_cell Try.underlying24 rfl (bx_cell hS_ 1 rfl))) (Ft.now (HX17)) ?_
  refine al_pure 11 14 (.int .i64 (o13.f1.length : Int)) (lb 15 4095) rfl rfl (by kernel_rfl) (fun _ _ _ => id) (guard_on 2 true 5 rfl rfl rfl) (fun w_ => xr_builtin #[.slice Aq19_1 o13.f1.length cpq19_1] (.int .i64 (o13.f1.length : Int)) rfl (mp_ rfl) (by first | rfl | (go_simp; done) | (go_simp; rfl) | (go_simp; exact i64_w _) | (go_simp; exact i32_w _))) ?_
  simp only [ls0, ls1]
  refine al_pure 12 15 (.bool (decide (o13.f2 ≥ (o13.f1.length : Int)))) (lb 15 8191) rfl rfl (by kernel_rfl) (fun _ _ _ => id) (guard_on 2 true 5 rfl rfl rfl) (fun w_ => xr_bin _ _ _ rfl rfl rfl (B.geq_i64 _ _)) ?_
  refine al_pure 13 16 (.bool (decide (o13.f2 ≥ (o13.f1.length : Int)))) (lb 15 16383) rfl rfl (by kernel_rfl) (fun _ _ _ => id) rfl (fun w_ => xr_pick true _ rfl rfl rfl) ?_
  refine al_as 14 (lb 15 32767) rfl rfl (by kernel_rfl) (fun _ _ _ => id) rfl ?_
  refine al_end (by kernel_rfl) ?_
  (try simp only [ls0, ls1])
  refine hK12 _ _ ?_
  (try clear hK12 K12)
  refine wp_ret ?_
  (try simp only [Exit.inBlock, Exit.then, Exit.noGoto])
  (try simp only [ls0, ls1])
  obtain rfl := Option.some.inj H
  refine bodyPost_ret (results_tmp rfl _ _ _) rfl ?_
  exact ⟨_, rfl, HS⟩

/-! ### expr_Cursor_Pos: function 44 -/
def expr_Cursor_Pos.f (x0 : Option S111) : Option (Int) := onOpt x0 (some 0) (fun o67 => ((expr_Cursor_Done.f (some (⟨o67.f0, o67.f1, o67.f2, o67.f3⟩ : S111) : Option S111)).bind fun t76 => (if t76 = true then (some (o67.f0.length : Int)) else (if 0 ≤ o67.f2 then (if o67.f2 < (o67.f1.length : Int) then (some ((rd_T28 o67.f1 o67.f2).f1)) else (none)) else (none)))))
set_option maxHeartbeats 8000000 in
set_option maxRecDepth 100000 in
theorem expr_Cursor_Pos.calls (v0 : Value) (x0 : Option S111) (r : Int) (c : Nat → Nat) (w : World) (hc : ∀ k, c k < 10) (HP0 : Ft c [0] w (fun w_ => (Kd.ptr 111 k111).K w_ x0 [v0])) (H : expr_Cursor_Pos.f x0 = some r) :
    Calls Try.prog 44 #[v0] w fun e w' => ∃ (c' : Nat → Nat) , e = .returned (.int .i64 r) ∧ Step c w c' w' [] := by
 unfold expr_Cursor_Pos.f at H
 have HS := Step.refl c w []
 go_enter Try.func44, Try.ntmps44
 refine wp_seq_k fun K46 hK46 => ?_
 refine wl_region ?_
 refine st (.int .i64 0) rfl rfl (xr_assign _ rfl rfl) ?_
 refine wl_end ?_
 (try simp only [ls0, ls1])
 refine hK46 _ _ ?_
 (try clear hK46 K46)
 refine wp_seq_k fun K47 hK47 => ?_
 refine wp_block ?_
 refine wp_seq_k fun K66 hK66 => ?_
 refine wl_region ?_
 refine mv_ rfl ?_
 cases x0 with
 | none =>
  (try simp only [onOpt] at H)
  obtain rfl := ptr_none HP0
  refine st (.bool true) rfl rfl (xr_bin (.pointer none) (.pointer none) (.bool true) rfl rfl rfl (B.eql_nn ⟨_, Try.underlying57⟩ (⟨0, 0, none⟩ : Addr))) ?_
  refine as_ rfl ?_
  refine wl_end ?_
  (try simp only [ls0, ls1])
  refine hK66 _ _ ?_
  (try clear hK66 K66)
  refine wp_cond_true rfl ?_
  refine wp_seq_k fun K68 hK68 => ?_
  refine wl_region ?_
  refine st (.int .i64 0) rfl rfl (xr_assign _ rfl rfl) ?_
  refine wl_end ?_
  (try simp only [ls0, ls1])
  refine hK68 _ _ ?_
  (try clear hK68 K68)
  refine wp_ret ?_
  (try simp only [Exit.inBlock, Exit.then, Exit.noGoto])
  (try simp only [ls0, ls1])
  obtain rfl := Option.some.inj H
  refine bodyPost_ret (results_tmp rfl _ _ _) rfl ?_
  exact ⟨_, rfl, HS⟩
 | some o67 =>
  (try simp only [onOpt] at H)
  obtain ⟨g69, cs70, rfl, HX71, HK72⟩ := ptr_some HP0
  obtain ⟨Aq73_0, cpq73_0, Aq73_1, cpq73_1, rfl, HCq73_0, HRq73_0, HCq73_1, HRq73_1⟩ := k111_openF HK72
  replace HRq73_0 : Ft c [0] w (fun w_ => (Kd.int .u8).C w_ Aq73_0 o67.f0.length o67.f0) := HRq73_0
  replace HRq73_1 : Ft c [0] w (fun w_ => k28.C w_ Aq73_1 o67.f1.length o67.f1) := HRq73_1
  refine st (.bool false) rfl rfl (xr_bin (.pointer (some ⟨g69, 0, none⟩)) (.pointer none) (.bool false) rfl rfl rfl (B.eql_pn ⟨_, Try.underlying57⟩ ⟨g69, 0, none⟩)) ?_
  refine as_ rfl ?_
  refine wl_end ?_
  (try simp only [ls0, ls1])
  refine hK66 _ _ ?_
  (try clear hK66 K66)
  refine wp_cond_false rfl ?_
  refine wp_seq_k fun K74 hK74 => ?_
  refine wl_region ?_
  refine mv_ rfl ?_
  have HP75 : Ft c [0] w (fun w_ => (Kd.ptr 111 k111).K w_ (some (⟨o67.f0, o67.f1, o67.f2, o67.f3⟩ : S111)) [.pointer (some ⟨g69, 0, none⟩)]) := ptr_mk (Ft.more HX71 rfl) (k111_mkF _ _ (⟨o67.f0, o67.f1, o67.f2, o67.f3⟩ : S111) HCq73_0 (Ft.more HRq73_0 rfl) HCq73_1 (Ft.more HRq73_1 rfl))
  obtain ⟨t76, A77, H⟩ := bnd H
  refine st_call #[.pointer (some ⟨g69, 0, none⟩)] rfl rfl Try.func47 (by kernel_rfl) rfl rfl (mp_ rfl) ?_
  refine (expr_Cursor_Done.calls (.pointer (some ⟨g69, 0, none⟩)) (some (⟨o67.f0, o67.f1, o67.f2, o67.f3⟩ : S111) : Option S111) t76  (fun z_ => pal [(0, 0)] (c z_)) w (fun _ => pal_lt rfl _) (Ft.arg HP75 rfl) A77).mono ?_
  rintro _ w79 ⟨C80, rfl, hs81⟩
  refine ⟨_, rfl, ?_⟩
  replace hs81 := Step.lift (U := [(0, 0)]) hs81 [] rfl rfl
  generalize up c C80 w.heap.size [(0, 0)] = C80_ at hs81
  replace HX71 := HX71.thru hs81 rfl
  replace HRq73_0 := HRq73_0.thru hs81 rfl
  replace HRq73_1 := HRq73_1.thru hs81 rfl
  replace HS := HS.trans hs81 hc rfl
  (try simp only [ls0, ls1])
  refine as_ rfl ?_
  refine wl_end ?_
  (try simp only [ls0, ls1])
  refine hK74 _ _ ?_
  (try clear hK74 K74)
  by_cases c82 : t76 = true
  ·rw [if_pos c82] at H
   (try rw [c82])
   refine wp_cond_true rfl ?_
   refine wp_seq_k fun K83 hK83 => ?_
   refine wl_region ?_
   refine mv_ rfl ?_
   refine st (.pointer (some ⟨g69, 0, none⟩)) rfl rfl (xr_nilCheck _ rfl rfl) ?_
   refine st (.pointer (some ⟨g69, 0, none⟩)) rfl rfl (xr_fieldAddr _ _ rfl rfl (bx_field2 Try.underlying111 rfl rfl (by kernel_rfl))) ?_
   refine st (.slice Aq73_0 o67.f0.length cpq73_0) rfl rfl (xr_load _ _ rfl rfl (load_cell Try.underlying22 rfl (bx_cell (Ft.now HX71) 0 rfl))) ?_
   simp only [ls0, ls1]
   refine st (.int .i64 (o67.f0.length : Int)) rfl rfl (xr_builtin #[.slice Aq73_0 o67.f0.length cpq73_0] (.int .i64 (o67.f0.length : Int)) rfl (mp_ rfl) (by first | rfl | (go_simp; done) | (go_simp; rfl) | (go_simp; exact i64_w _) | (go_simp; exact i32_w _))) ?_
   refine as_ rfl ?_
   refine wl_end ?_
   (try simp only [ls0, ls1])
   refine hK83 _ _ ?_
   (try clear hK83 K83)
   refine wp_ret ?_
   (try simp only [Exit.inBlock, Exit.then, Exit.noGoto])
   (try simp only [ls0, ls1])
   obtain rfl := Option.some.inj H
   refine bodyPost_ret (results_tmp rfl _ _ _) rfl ?_
   exact ⟨_, rfl, HS⟩
  rw [if_neg c82] at H
  (try rw [(Bool.eq_false_iff.mpr c82)])
  refine wp_cond_false rfl ?_
  refine wp_skip ?_
  (try simp only [ls0, ls1])
  refine hK47 _ _ ?_
  (try clear hK47 K47)
  refine wp_seq_k fun K84 hK84 => ?_
  (try simp only [ls0, ls1])
  refine al_start (lb 12 0) rfl rfl rfl (fun w_ => (Kd.int .u8).C w_ Aq73_0 o67.f0.length o67.f0 ∧ k28.C w_ Aq73_1 o67.f1.length o67.f1 ∧ w_.heap[g69]? = some (.cells (List.toArray ([.slice Aq73_0 o67.f0.length cpq73_0, .slice Aq73_1 o67.f1.length cpq73_1, .int .i64 o67.f2, .int .i64 o67.f3])) 111 (0, 0))) ⟨(Ft.now ((HRq73_0).drew)), (Ft.now ((HRq73_1).drew)), (Ft.now (HX71.drew))⟩ [] ?_
  replace HX71 := HX71.drew
  replace HRq73_0 := HRq73_0.drew
  replace HRq73_1 := HRq73_1.drew
  replace HS := Step.ofDrew HS
  generalize w79.drew = w85 at *
  refine al_mv 0 (lb 12 1) rfl rfl (by kernel_rfl) (fun _ _ _ => id) rfl ?_
  refine al_pure 1 15 (.pointer (some ⟨g69, 0, none⟩)) (lb 12 3) rfl rfl (by kernel_rfl) (fun _ _ _ => id) rfl (fun w_ => xr_nilCheck _ rfl rfl) ?_
  refine al_pure 2 16 (.pointer (some ⟨g69, 1, none⟩)) (lb 12 7) rfl rfl (by kernel_rfl) (fun _ _ _ => id) rfl (fun w_ => xr_fieldAddr _ _ rfl rfl (bx_field2 Try.underlying111 rfl rfl (by kernel_rfl))) ?_
  refine al_mv 4 (lb 12 23) rfl rfl (by kernel_rfl) (fun _ _ _ => id) rfl ?_
  simp only [ls0, ls1]
  refine al_pure 5 19 (.pointer (some ⟨g69, 0, none⟩)) (lb 12 55) rfl rfl (by kernel_rfl) (fun _ _ _ => id) rfl (fun w_ => xr_nilCheck _ rfl rfl) ?_
  refine al_pure 6 20 (.pointer (some ⟨g69, 2, none⟩)) (lb 12 119) rfl rfl (by kernel_rfl) (fun _ _ _ => id) rfl (fun w_ => xr_fieldAddr _ _ rfl rfl (bx_field2 Try.underlying111 rfl rfl (by kernel_rfl))) ?_
  refine al_take 3 17 (.slice Aq73_1 o67.f1.length cpq73_1) (lb 12 127) rfl rfl (by kernel_rfl) (fun _ _ _ => id) rfl (fun w_ hS_ => xr_load _ _ rfl rfl (load_cell Try.underlying24 rfl (bx_cell hS_.2.2 1 rfl))) ⟨(Ft.now HRq73_0), (Ft.now HRq73_1), (Ft.now (HX71))⟩ ?_
  refine al_take 7 21 (.int .i64 o67.f2) (lb 12 255) rfl rfl (by kernel_rfl) (fun _ _ _ => id) rfl (fun w_ hS_ => xr_load _ _ rfl rfl (load_cell Try.underlying3 rfl (bx_cell hS_.2.2 2 rfl))) ⟨(Ft.now HRq73_0), (Ft.now HRq73_1), (Ft.now (HX71))⟩ ?_
  simp only [ls0, ls1]
  obtain ⟨c86, H⟩ := if_some H
  obtain ⟨c87, H⟩ := if_some H
  obtain ⟨ad88, hA89⟩ := c_addr (Ft.now HRq73_1) (pos_of (j := o67.f2) (by first | assumption | decide) (by first | assumption | omega))
  refine al_pure 8 22 (.pointer (some (ad88.add ((o67.f2 : Int).toNat * 3)))) (lb 12 511) rfl rfl (by kernel_rfl) (fun _ _ _ => id) rfl (fun w_ => xr_indexAddr _ _ _ rfl rfl rfl (index_at Try.underlying24 info28 hA89 (by first | assumption | decide | omega) (by first | assumption | decide | omega))) ?_
  refine al_pure 9 23 (.pointer (some ((ad88.add ((o67.f2 : Int).toNat * 3)).add 1))) (lb 12 1023) rfl rfl (by kernel_rfl) (fun _ _ _ => id) rfl (fun w_ => xr_fieldAddr _ _ rfl rfl (field_at2 Try.underlying28 rfl rfl (by kernel_rfl))) ?_
  refine al_take 10 24 (.int .i64 ((rd_T28 o67.f1 o67.f2).f1)) (lb 12 2047) rfl rfl (by kernel_rfl) (fun _ _ _ => id) rfl (fun w_ hS_ => xr_load (.pointer (some ((ad88.add ((o67.f2 : Int).toNat * 3)).add 1))) (.int .i64 ((rd_T28 o67.f1 o67.f2).f1)) rfl rfl (by obtain ⟨ad_, cs_, e_, _, hK_, hc_⟩ := Kd.C_get hS_.2.1 z28 o67.f2 (by first | assumption | decide | omega) (by first | assumption | decide | omega); rw [hA89] at e_; injection e_ with e_; subst e_; obtain rfl := k28_open hK_; exact load_cell Try.underlying3 rfl (by first | (rw [add_add]; exact hc_ 1 _ rfl) | (have h_ := hc_ 1 _ rfl; rw [Nat.add_zero] at h_; exact h_)))) ⟨(Ft.now HRq73_0), (Ft.now HRq73_1), (Ft.now (HX71))⟩ ?_
  refine al_as 11 (lb 12 4095) rfl rfl (by kernel_rfl) (fun _ _ _ => id) rfl ?_
  simp only [ls0, ls1]
  refine al_end (by kernel_rfl) ?_
  (try simp only [ls0, ls1])
  refine hK84 _ _ ?_
  (try clear hK84 K84)
  refine wp_ret ?_
  (try simp only [Exit.inBlock, Exit.then, Exit.noGoto])
  (try simp only [ls0, ls1])
  obtain rfl := Option.some.inj H
  refine bodyPost_ret (results_tmp rfl _ _ _) rfl ?_
  exact ⟨_, rfl, HS⟩

/-! ### lex_Text: function 19 -/
def lex_Text.j0 (a1_1 : Int) (a1_2 : Int) (l0 : List Int) (x51 : Bool) : Option (ByteArray) := if x51 = true then (some (⟨#[]⟩ : ByteArray)) else (if 0 ≤ a1_1 then (if a1_1 ≤ a1_2 then (if a1_2 ≤ (l0.length : Int) then ((some ((l0.take (a1_2 : Int).toNat).drop (a1_1 : Int).toNat : List Int)).bind fun y61 => (some (strOfNums y61))) else (none)) else (none)) else (none))
def lex_Text.f (l0 : List Int) (a1_0 : Int) (a1_1 : Int) (a1_2 : Int) : Option (ByteArray) := if a1_1 < 0 then (lex_Text.j0 a1_1 a1_2 l0 true) else (if a1_1 > a1_2 then (lex_Text.j0 a1_1 a1_2 l0 true) else (lex_Text.j0 a1_1 a1_2 l0 (decide (a1_2 > (l0.length : Int)))))
set_option maxHeartbeats 8000000 in
set_option maxRecDepth 100000 in
theorem lex_Text.calls (A0 : Option Addr) (c0 : Nat) (l0 : List Int) (a1_0 : Int) (a1_1 : Int) (a1_2 : Int) (r : ByteArray) (c : Nat → Nat) (w : World) (hc : ∀ k, c k < 10) (HP0 : Ft c [0] w (fun w_ => (Kd.int .u8).C w_ A0 l0.length l0)) (HCP0 : l0.length ≤ c0) (H : lex_Text.f l0 a1_0 a1_1 a1_2 = some r) :
    Calls Try.prog 19 #[.slice A0 l0.length c0, .agg #[.int .i64 a1_0, .int .i64 a1_1, .int .i64 a1_2]] w fun e w' => ∃ (c' : Nat → Nat) , e = .returned (.string r) ∧ Step c w c' w' [] := by
 unfold lex_Text.f at H
 have HS := Step.refl c w []
 go_enter Try.func19, Try.ntmps19
 refine wp_seq_k fun K36 hK36 => ?_
 refine wl_region ?_
 refine bx_new (C := c) 28 ([.int .i64 a1_0, .int .i64 a1_1, .int .i64 a1_2]) 11 rfl rfl (by first | (go_simp; done) | (go_simp; rfl)) ?_
 intro g37 w38 C39 HX40 hs41
 replace HP0 := HP0.thru hs41 rfl
 replace HS := HS.trans hs41 hc rfl
 (try simp only [ls0, ls1])
 refine st (.string (⟨#[]⟩ : ByteArray)) rfl rfl (xr_assign _ rfl rfl) ?_
 refine wl_end ?_
 (try simp only [ls0, ls1])
 refine hK36 _ _ ?_
 (try clear hK36 K36)
 refine wp_seq_k fun K42 hK42 => ?_
 refine wp_seq_k fun K43 hK43 => ?_
 have hj46 : ∀ (C47 : Nat → Nat) (w48 : World) (x51 : Bool) (g_ : Nat → Value), Step c w C47 w48 [] → (Ft C47 [0] w48 (fun w_ => (Kd.int .u8).C w_ A0 l0.length l0)) → (Bx C47 11 w48 g37 28 ([.int .i64 a1_0, .int .i64 a1_1, .int .i64 a1_2])) → lex_Text.j0 a1_1 a1_2 l0 x51 = some r → K43 ⟨#[.slice A0 l0.length c0, (g_ 1), (g_ 2), .pointer (some ⟨g37, 0, none⟩), (g_ 4), (g_ 5), (g_ 6), (g_ 7), (g_ 8), (g_ 9), (g_ 10), (g_ 11), (g_ 12), (g_ 13), (g_ 14), (g_ 15), (g_ 16), (g_ 17), (g_ 18), (g_ 19), (g_ 20), .bool x51, (g_ 22), (g_ 23), (g_ 24), (g_ 25), (g_ 26), (g_ 27), (g_ 28)], []⟩ w48 := by
  intro C47 w48 x51 g_ HS49 HJ50 HJ52 H
  unfold lex_Text.j0 at H
  refine hK43 _ _ ?_
  (try clear hK43)
  by_cases c55 : x51 = true
  ·rw [if_pos c55] at H
   (try rw [c55])
   refine wp_cond_true rfl ?_
   refine wp_seq_k fun K56 hK56 => ?_
   refine wl_region ?_
   refine st (.string (⟨#[]⟩ : ByteArray)) rfl rfl (xr_assign _ rfl rfl) ?_
   refine wl_end ?_
   (try simp only [ls0, ls1])
   refine hK56 _ _ ?_
   (try clear hK56 K56)
   refine wp_ret ?_
   (try simp only [Exit.inBlock, Exit.then, Exit.noGoto])
   (try simp only [ls0, ls1])
   obtain rfl := Option.some.inj H
   refine bodyPost_ret (results_tmp rfl _ _ _) rfl ?_
   exact ⟨_, rfl, HS49⟩
  rw [if_neg c55] at H
  (try rw [(Bool.eq_false_iff.mpr c55)])
  refine wp_cond_false rfl ?_
  refine wp_skip ?_
  (try simp only [ls0, ls1])
  refine hK42 _ _ ?_
  (try clear hK42 K42)
  refine wp_seq_k fun K57 hK57 => ?_
  refine wl_region ?_
  refine mv_ rfl ?_
  refine st (.pointer (some ⟨g37, 1, none⟩)) rfl rfl (xr_fieldAddr _ _ rfl rfl (bx_field2 Try.underlying28 rfl rfl (by kernel_rfl))) ?_
  refine st (.int .i64 a1_1) rfl rfl (xr_load _ _ rfl rfl (load_cell Try.underlying3 rfl (bx_cell (HJ52).2 1 rfl))) ?_
  refine st (.pointer (some ⟨g37, 2, none⟩)) rfl rfl (xr_fieldAddr _ _ rfl rfl (bx_field2 Try.underlying28 rfl rfl (by kernel_rfl))) ?_
  simp only [ls0, ls1]
  refine st (.int .i64 a1_2) rfl rfl (xr_load _ _ rfl rfl (load_cell Try.underlying3 rfl (bx_cell (HJ52).2 2 rfl))) ?_
  obtain ⟨c58, H⟩ := if_some H
  obtain ⟨c59, H⟩ := if_some H
  obtain ⟨c60, H⟩ := if_some H
  obtain ⟨y61, A62, H⟩ := bnd H
  obtain ⟨iz68, hiz68, _, hzz68, _⟩ := info_parts info5
  obtain ⟨A63, cp64, hr67, HR65, HC66⟩ := cutMid (t := 22) (Kd.int .u8) 5 .i64 .i64 Try.underlying22 hiz68 hzz68 HJ50 HCP0 (by first | assumption | omega | decide) (by first | assumption | omega | decide) (by first | assumption | omega | decide) (Option.some.inj A62)
  refine st (.slice A63 y61.length cp64) rfl rfl (xr_slice (.slice A0 l0.length c0) (some (.int .i64 a1_1)) (some (.int .i64 a1_2)) none (.slice A63 y61.length cp64) rfl rfl rfl rfl rfl (hr67 _)) ?_
  clear hr67 hiz68 hzz68
  refine st (.string (strOfNums y61)) rfl rfl (xr_conv _ _ rfl rfl (string_of_reads Try.underlying22 Try.underlying5 Try.underlying9 (Kd.reads_of_C (d := (0 : Int)) (h1 := fun _ => rfl) (Ft.now HR65)))) ?_
  refine as_ rfl ?_
  simp only [ls0, ls1]
  refine wl_end ?_
  (try simp only [ls0, ls1])
  refine hK57 _ _ ?_
  (try clear hK57 K57)
  refine wp_ret ?_
  (try simp only [Exit.inBlock, Exit.then, Exit.noGoto])
  (try simp only [ls0, ls1])
  obtain rfl := Option.some.inj H
  refine bodyPost_ret (results_tmp rfl _ _ _) rfl ?_
  exact ⟨_, rfl, HS49⟩
 refine wl_region ?_
 refine st (.pointer (some ⟨g37, 1, none⟩)) rfl rfl (xr_fieldAddr _ _ rfl rfl (bx_field2 Try.underlying28 rfl rfl (by kernel_rfl))) ?_
 refine st (.int .i64 a1_1) rfl rfl (xr_load _ _ rfl rfl (load_cell Try.underlying3 rfl (bx_cell (HX40).2 1 rfl))) ?_
 refine st (.bool (decide (a1_1 < 0))) rfl rfl (xr_bin _ _ _ rfl rfl rfl (B.lss_i64 _ _)) ?_
 refine mv_ rfl ?_
 simp only [ls0, ls1]
 by_cases c69 : a1_1 < 0
 ·rw [if_pos c69] at H
  (try rw [(decide_eq_true c69)])
  refine sk_guard (guard_off 3 false 8 rfl rfl true (by decide) rfl) rfl ?_
  refine sk_guard (guard_off 3 false 8 rfl rfl true (by decide) rfl) rfl ?_
  refine sk_guard (guard_off 3 false 8 rfl rfl true (by decide) rfl) rfl ?_
  refine sk_guard (guard_off 3 false 8 rfl rfl true (by decide) rfl) rfl ?_
  simp only [ls0, ls1]
  refine sk_guard (guard_off 3 false 8 rfl rfl true (by decide) rfl) rfl ?_
  refine st (.bool true) rfl rfl (xr_pick true _ rfl rfl rfl) ?_
  refine mv_ rfl ?_
  refine sk_guard (guard_off 10 false 15 rfl rfl true (by decide) rfl) rfl ?_
  simp only [ls0, ls1]
  refine sk_guard (guard_off 10 false 15 rfl rfl true (by decide) rfl) rfl ?_
  refine sk_guard (guard_off 10 false 15 rfl rfl true (by decide) rfl) rfl ?_
  refine sk_guard (guard_off 10 false 15 rfl rfl true (by decide) rfl) rfl ?_
  refine sk_guard (guard_off 10 false 15 rfl rfl true (by decide) rfl) rfl ?_
  simp only [ls0, ls1]
  refine st (.bool true) rfl rfl (xr_pick true _ rfl rfl rfl) ?_
  refine wl_end ?_
  (try simp only [ls0, ls1])
  exact jmp (fun g_ => hj46 _ _ (true) g_ HS HP0 HX40 H) rfl
 rw [if_neg c69] at H
 (try rw [(decide_eq_false c69)])
 refine on_guard (guard_on 3 false 8 rfl rfl rfl) ?_
 refine st (.pointer (some ⟨g37, 1, none⟩)) rfl rfl (xr_fieldAddr _ _ rfl rfl (bx_field2 Try.underlying28 rfl rfl (by kernel_rfl))) ?_
 refine on_guard (guard_on 3 false 8 rfl rfl rfl) ?_
 refine st (.int .i64 a1_1) rfl rfl (xr_load _ _ rfl rfl (load_cell Try.underlying3 rfl (bx_cell (HX40).2 1 rfl))) ?_
 refine on_guard (guard_on 3 false 8 rfl rfl rfl) ?_
 refine st (.pointer (some ⟨g37, 2, none⟩)) rfl rfl (xr_fieldAddr _ _ rfl rfl (bx_field2 Try.underlying28 rfl rfl (by kernel_rfl))) ?_
 refine on_guard (guard_on 3 false 8 rfl rfl rfl) ?_
 refine st (.int .i64 a1_2) rfl rfl (xr_load _ _ rfl rfl (load_cell Try.underlying3 rfl (bx_cell (HX40).2 2 rfl))) ?_
 simp only [ls0, ls1]
 refine on_guard (guard_on 3 false 8 rfl rfl rfl) ?_
 refine st (.bool (decide (a1_1 > a1_2))) rfl rfl (xr_bin _ _ _ rfl rfl rfl (B.gtr_i64 _ _)) ?_
 refine st (.bool (decide (a1_1 > a1_2))) rfl rfl (xr_pick false _ rfl rfl rfl) ?_
 refine mv_ rfl ?_
 by_cases c70 : a1_1 > a1_2
 ·rw [if_pos c70] at H
  (try rw [(decide_eq_true c70)])
  refine sk_guard (guard_off 10 false 15 rfl rfl true (by decide) rfl) rfl ?_
  simp only [ls0, ls1]
  refine sk_guard (guard_off 10 false 15 rfl rfl true (by decide) rfl) rfl ?_
  refine sk_guard (guard_off 10 false 15 rfl rfl true (by decide) rfl) rfl ?_
  refine sk_guard (guard_off 10 false 15 rfl rfl true (by decide) rfl) rfl ?_
  refine sk_guard (guard_off 10 false 15 rfl rfl true (by decide) rfl) rfl ?_
  simp only [ls0, ls1]
  refine st (.bool true) rfl rfl (xr_pick true _ rfl rfl rfl) ?_
  refine wl_end ?_
  (try simp only [ls0, ls1])
  exact jmp (fun g_ => hj46 _ _ (true) g_ HS HP0 HX40 H) rfl
 rw [if_neg c70] at H
 (try rw [(decide_eq_false c70)])
 refine on_guard (guard_on 10 false 15 rfl rfl rfl) ?_
 refine st (.pointer (some ⟨g37, 2, none⟩)) rfl rfl (xr_fieldAddr _ _ rfl rfl (bx_field2 Try.underlying28 rfl rfl (by kernel_rfl))) ?_
 refine on_guard (guard_on 10 false 15 rfl rfl rfl) ?_
 refine st (.int .i64 a1_2) rfl rfl (xr_load _ _ rfl rfl (load_cell Try.underlying3 rfl (bx_cell (HX40).2 2 rfl))) ?_
 refine on_guard (guard_on 10 false 15 rfl rfl rfl) ?_
 refine mv_ rfl ?_
 refine on_guard (guard_on 10 false 15 rfl rfl rfl) ?_
 refine st (.int .i64 (l0.length : Int)) rfl rfl (xr_builtin #[.slice A0 l0.length c0] (.int .i64 (l0.length : Int)) rfl (mp_ rfl) (by first | rfl | (go_simp; done) | (go_simp; rfl) | (go_simp; exact i64_w _) | (go_simp; exact i32_w _))) ?_
 simp only [ls0, ls1]
 refine on_guard (guard_on 10 false 15 rfl rfl rfl) ?_
 refine st (.bool (decide (a1_2 > (l0.length : Int)))) rfl rfl (xr_bin _ _ _ rfl rfl rfl (B.gtr_i64 _ _)) ?_
 refine st (.bool (decide (a1_2 > (l0.length : Int)))) rfl rfl (xr_pick false _ rfl rfl rfl) ?_
 refine wl_end ?_
 (try simp only [ls0, ls1])
 exact jmp (fun g_ => hj46 _ _ (decide (a1_2 > (l0.length : Int))) g_ HS HP0 HX40 H) rfl

/-! ### expr_Cursor_Peek: function 43 -/
def expr_Cursor_Peek.f (x0 : Option S111) : Option (ByteArray) := onOpt x0 (some (⟨#[]⟩ : ByteArray)) (fun o122 => ((expr_Cursor_Done.f (some (⟨o122.f0, o122.f1, o122.f2, o122.f3⟩ : S111) : Option S111)).bind fun t130 => (if t130 = true then (some (⟨#[]⟩ : ByteArray)) else (if 0 ≤ o122.f2 then (if o122.f2 < (o122.f1.length : Int) then ((lex_Text.f o122.f0 ((rd_T28 o122.f1 o122.f2).f0) ((rd_T28 o122.f1 o122.f2).f1) ((rd_T28 o122.f1 o122.f2).f2)).bind fun t145 => (some t145)) else (none)) else (none)))))
set_option maxHeartbeats 8000000 in
set_option maxRecDepth 100000 in
theorem expr_Cursor_Peek.calls (v0 : Value) (x0 : Option S111) (r : ByteArray) (c : Nat → Nat) (w : World) (hc : ∀ k, c k < 10) (HP0 : Ft c [0] w (fun w_ => (Kd.ptr 111 k111).K w_ x0 [v0])) (H : expr_Cursor_Peek.f x0 = some r) :
    Calls Try.prog 43 #[v0] w fun e w' => ∃ (c' : Nat → Nat) , e = .returned (.string r) ∧ Step c w c' w' [] := by
 unfold expr_Cursor_Peek.f at H
 have HS := Step.refl c w []
 go_enter Try.func43, Try.ntmps43
 refine wp_seq_k fun K76 hK76 => ?_
 refine wl_region ?_
 refine st (.string (⟨#[]⟩ : ByteArray)) rfl rfl (xr_assign _ rfl rfl) ?_
 refine wl_end ?_
 (try simp only [ls0, ls1])
 refine hK76 _ _ ?_
 (try clear hK76 K76)
 refine wp_seq_k fun K77 hK77 => ?_
 refine wp_seq_k fun K108 hK108 => ?_
 refine wl_region ?_
 refine mv_ rfl ?_
 cases x0 with
 | none =>
  (try simp only [onOpt] at H)
  obtain rfl := ptr_none HP0
  refine st (.bool true) rfl rfl (xr_bin (.pointer none) (.pointer none) (.bool true) rfl rfl rfl (B.eql_nn ⟨_, Try.underlying57⟩ (⟨0, 0, none⟩ : Addr))) ?_
  refine mv_ rfl ?_
  simp only [ls0, ls1]
  refine sk_guard (guard_off 2 false 5 rfl rfl true (by decide) rfl) rfl ?_
  refine sk_guard (guard_off 2 false 5 rfl rfl true (by decide) rfl) rfl ?_
  refine st (.bool true) rfl rfl (xr_pick true _ rfl rfl rfl) ?_
  refine wl_end ?_
  (try simp only [ls0, ls1])
  refine hK108 _ _ ?_
  (try clear hK108 K108)
  refine wp_cond_true rfl ?_
  refine wp_seq_k fun K123 hK123 => ?_
  refine wl_region ?_
  refine st (.string (⟨#[]⟩ : ByteArray)) rfl rfl (xr_assign _ rfl rfl) ?_
  refine wl_end ?_
  (try simp only [ls0, ls1])
  refine hK123 _ _ ?_
  (try clear hK123 K123)
  refine wp_ret ?_
  (try simp only [Exit.inBlock, Exit.then, Exit.noGoto])
  (try simp only [ls0, ls1])
  obtain rfl := Option.some.inj H
  refine bodyPost_ret (results_tmp rfl _ _ _) rfl ?_
  exact ⟨_, rfl, HS⟩
 | some o122 =>
  (try simp only [onOpt] at H)
  obtain ⟨g124, cs125, rfl, HX126, HK127⟩ := ptr_some HP0
  obtain ⟨Aq128_0, cpq128_0, Aq128_1, cpq128_1, rfl, HCq128_0, HRq128_0, HCq128_1, HRq128_1⟩ := k111_openF HK127
  replace HRq128_0 : Ft c [0] w (fun w_ => (Kd.int .u8).C w_ Aq128_0 o122.f0.length o122.f0) := HRq128_0
  replace HRq128_1 : Ft c [0] w (fun w_ => k28.C w_ Aq128_1 o122.f1.length o122.f1) := HRq128_1
  refine st (.bool false) rfl rfl (xr_bin (.pointer (some ⟨g124, 0, none⟩)) (.pointer none) (.bool false) rfl rfl rfl (B.eql_pn ⟨_, Try.underlying57⟩ ⟨g124, 0, none⟩)) ?_
  refine mv_ rfl ?_
  refine on_guard (guard_on 2 false 5 rfl rfl rfl) ?_
  refine mv_ rfl ?_
  refine on_guard (guard_on 2 false 5 rfl rfl rfl) ?_
  have HP129 : Ft c [0] w (fun w_ => (Kd.ptr 111 k111).K w_ (some (⟨o122.f0, o122.f1, o122.f2, o122.f3⟩ : S111)) [.pointer (some ⟨g124, 0, none⟩)]) := ptr_mk (Ft.more HX126 rfl) (k111_mkF _ _ (⟨o122.f0, o122.f1, o122.f2, o122.f3⟩ : S111) HCq128_0 (Ft.more HRq128_0 rfl) HCq128_1 (Ft.more HRq128_1 rfl))
  obtain ⟨t130, A131, H⟩ := bnd H
  refine st_call #[.pointer (some ⟨g124, 0, none⟩)] rfl rfl Try.func47 (by kernel_rfl) rfl rfl (mp_ rfl) ?_
  refine (expr_Cursor_Done.calls (.pointer (some ⟨g124, 0, none⟩)) (some (⟨o122.f0, o122.f1, o122.f2, o122.f3⟩ : S111) : Option S111) t130  (fun z_ => pal [(0, 0)] (c z_)) w (fun _ => pal_lt rfl _) (Ft.arg HP129 rfl) A131).mono ?_
  rintro _ w133 ⟨C134, rfl, hs135⟩
  refine ⟨_, rfl, ?_⟩
  replace hs135 := Step.lift (U := [(0, 0)]) hs135 [] rfl rfl
  generalize up c C134 w.heap.size [(0, 0)] = C134_ at hs135
  replace HX126 := HX126.thru hs135 rfl
  replace HRq128_0 := HRq128_0.thru hs135 rfl
  replace HRq128_1 := HRq128_1.thru hs135 rfl
  replace HS := HS.trans hs135 hc rfl
  (try simp only [ls0, ls1])
  refine st (.bool t130) rfl rfl (xr_pick false _ rfl rfl rfl) ?_
  refine wl_end ?_
  (try simp only [ls0, ls1])
  refine hK108 _ _ ?_
  (try clear hK108 K108)
  by_cases c136 : t130 = true
  ·rw [if_pos c136] at H
   (try rw [c136])
   refine wp_cond_true rfl ?_
   refine wp_seq_k fun K137 hK137 => ?_
   refine wl_region ?_
   refine st (.string (⟨#[]⟩ : ByteArray)) rfl rfl (xr_assign _ rfl rfl) ?_
   refine wl_end ?_
   (try simp only [ls0, ls1])
   refine hK137 _ _ ?_
   (try clear hK137 K137)
   refine wp_ret ?_
   (try simp only [Exit.inBlock, Exit.then, Exit.noGoto])
   (try simp only [ls0, ls1])
   obtain rfl := Option.some.inj H
   refine bodyPost_ret (results_tmp rfl _ _ _) rfl ?_
   exact ⟨_, rfl, HS⟩
  rw [if_neg c136] at H
  (try rw [(Bool.eq_false_iff.mpr c136)])
  refine wp_cond_false rfl ?_
  refine wp_skip ?_
  (try simp only [ls0, ls1])
  refine hK77 _ _ ?_
  (try clear hK77 K77)
  refine wp_seq_k fun K138 hK138 => ?_
  (try simp only [ls0, ls1])
  refine al_start (lb 16 0) rfl rfl rfl (fun w_ => (Kd.int .u8).C w_ Aq128_0 o122.f0.length o122.f0 ∧ k28.C w_ Aq128_1 o122.f1.length o122.f1 ∧ w_.heap[g124]? = some (.cells (List.toArray ([.slice Aq128_0 o122.f0.length cpq128_0, .slice Aq128_1 o122.f1.length cpq128_1, .int .i64 o122.f2, .int .i64 o122.f3])) 111 (0, 0))) ⟨(Ft.now ((HRq128_0).drew)), (Ft.now ((HRq128_1).drew)), (Ft.now (HX126.drew))⟩ [] ?_
  replace HX126 := HX126.drew
  replace HRq128_0 := HRq128_0.drew
  replace HRq128_1 := HRq128_1.drew
  replace HS := Step.ofDrew HS
  generalize w133.drew = w139 at *
  refine al_mv 0 (lb 16 1) rfl rfl (by kernel_rfl) (fun _ _ _ => id) rfl ?_
  refine al_pure 1 10 (.pointer (some ⟨g124, 0, none⟩)) (lb 16 3) rfl rfl (by kernel_rfl) (fun _ _ _ => id) rfl (fun w_ => xr_nilCheck _ rfl rfl) ?_
  refine al_pure 2 11 (.pointer (some ⟨g124, 0, none⟩)) (lb 16 7) rfl rfl (by kernel_rfl) (fun _ _ _ => id) rfl (fun w_ => xr_fieldAddr _ _ rfl rfl (bx_field2 Try.underlying111 rfl rfl (by kernel_rfl))) ?_
  refine al_mv 4 (lb 16 23) rfl rfl (by kernel_rfl) (fun _ _ _ => id) rfl ?_
  simp only [ls0, ls1]
  refine al_pure 5 14 (.pointer (some ⟨g124, 0, none⟩)) (lb 16 55) rfl rfl (by kernel_rfl) (fun _ _ _ => id) rfl (fun w_ => xr_nilCheck _ rfl rfl) ?_
  refine al_pure 6 15 (.pointer (some ⟨g124, 1, none⟩)) (lb 16 119) rfl rfl (by kernel_rfl) (fun _ _ _ => id) rfl (fun w_ => xr_fieldAddr _ _ rfl rfl (bx_field2 Try.underlying111 rfl rfl (by kernel_rfl))) ?_
  refine al_mv 8 (lb 16 375) rfl rfl (by kernel_rfl) (fun _ _ _ => id) rfl ?_
  refine al_pure 9 18 (.pointer (some ⟨g124, 0, none⟩)) (lb 16 887) rfl rfl (by kernel_rfl) (fun _ _ _ => id) rfl (fun w_ => xr_nilCheck _ rfl rfl) ?_
  simp only [ls0, ls1]
  refine al_pure 10 19 (.pointer (some ⟨g124, 2, none⟩)) (lb 16 1911) rfl rfl (by kernel_rfl) (fun _ _ _ => id) rfl (fun w_ => xr_fieldAddr _ _ rfl rfl (bx_field2 Try.underlying111 rfl rfl (by kernel_rfl))) ?_
  refine al_take 3 12 (.slice Aq128_0 o122.f0.length cpq128_0) (lb 16 1919) rfl rfl (by kernel_rfl) (fun _ _ _ => id) rfl (fun w_ hS_ => xr_load _ _ rfl rfl (load_cell Try.underlying22 rfl (bx_cell hS_.2.2 0 rfl))) ⟨(Ft.now HRq128_0), (Ft.now HRq128_1), (Ft.now (HX126))⟩ ?_
  refine al_take 7 16 (.slice Aq128_1 o122.f1.length cpq128_1) (lb 16 2047) rfl rfl (by kernel_rfl) (fun _ _ _ => id) rfl (fun w_ hS_ => xr_load _ _ rfl rfl (load_cell Try.underlying24 rfl (bx_cell hS_.2.2 1 rfl))) ⟨(Ft.now HRq128_0), (Ft.now HRq128_1), (Ft.now (HX126))⟩ ?_
  refine al_take 11 20 (.int .i64 o122.f2) (lb 16 4095) rfl rfl (by kernel_rfl) (fun _ _ _ => id) rfl (fun w_ hS_ => xr_load _ _ rfl rfl (load_cell Try.underlying3 rfl (bx_cell hS_.2.2 2 rfl))) ⟨(Ft.now HRq128_0), (Ft.now HRq128_1), (Ft.now (HX126))⟩ ?_
  simp only [ls0, ls1]
  obtain ⟨c140, H⟩ := if_some H
  obtain ⟨c141, H⟩ := if_some H
  obtain ⟨ad142, hA143⟩ := c_addr (Ft.now HRq128_1) (pos_of (j := o122.f2) (by first | assumption | decide) (by first | assumption | omega))
  refine al_pure 12 21 (.pointer (some (ad142.add ((o122.f2 : Int).toNat * 3)))) (lb 16 8191) rfl rfl (by kernel_rfl) (fun _ _ _ => id) rfl (fun w_ => xr_indexAddr _ _ _ rfl rfl rfl (index_at Try.underlying24 info28 hA143 (by first | assumption | decide | omega) (by first | assumption | decide | omega))) ?_
  refine al_take 13 22 (.agg #[.int .i64 ((rd_T28 o122.f1 o122.f2).f0), .int .i64 ((rd_T28 o122.f1 o122.f2).f1), .int .i64 ((rd_T28 o122.f1 o122.f2).f2)]) (lb 16 16383) rfl rfl (by kernel_rfl) (fun _ _ _ => id) rfl (fun w_ hS_ => xr_load (.pointer (some (ad142.add ((o122.f2 : Int).toNat * 3)))) (.agg #[.int .i64 ((rd_T28 o122.f1 o122.f2).f0), .int .i64 ((rd_T28 o122.f1 o122.f2).f1), .int .i64 ((rd_T28 o122.f1 o122.f2).f2)]) rfl rfl (by obtain ⟨ad_, cs_, e_, _, hK_, hc_⟩ := Kd.C_get hS_.2.1 z28 o122.f2 (by first | assumption | decide | omega) (by first | assumption | decide | omega); rw [hA143] at e_; injection e_ with e_; subst e_; obtain rfl := k28_open hK_; exact load_agg (cs := [.int .i64 ((rd_T28 o122.f1 o122.f2).f0), .int .i64 ((rd_T28 o122.f1 o122.f2).f1), .int .i64 ((rd_T28 o122.f1 o122.f2).f2)]) Try.underlying28 rfl (by kernel_rfl) (fun j_ u_ hu_ => by first | (rw [add_add]; exact hc_ _ _ hu_) | exact add_cells hc_ hu_))) ⟨(Ft.now HRq128_0), (Ft.now HRq128_1), (Ft.now (HX126))⟩ ?_
  obtain ⟨t145, A146, H⟩ := bnd H
  refine al_one 14 (lb 16 32767) rfl rfl (by kernel_rfl) rfl (fun K_ hK_ => ?_)
  refine goes_ Try.func19 (by kernel_rfl) rfl #[.slice Aq128_0 o122.f0.length cpq128_0, .agg #[.int .i64 ((rd_T28 o122.f1 o122.f2).f0), .int .i64 ((rd_T28 o122.f1 o122.f2).f1), .int .i64 ((rd_T28 o122.f1 o122.f2).f2)]] rfl rfl rfl (mpe_ rfl) ?_
  refine (lex_Text.calls Aq128_0 cpq128_0 o122.f0 ((rd_T28 o122.f1 o122.f2).f0) ((rd_T28 o122.f1 o122.f2).f1) ((rd_T28 o122.f1 o122.f2).f2) t145  (fun z_ => pal [(0, 0)] (C134_ z_)) w139 (fun _ => pal_lt rfl _) (Ft.arg HRq128_0 rfl) HCq128_0 A146).mono ?_
  rintro _ w148 ⟨C149, rfl, hs150⟩
  refine ⟨_, rfl, ?_⟩
  replace hs150 := Step.lift (U := [(0, 0)]) hs150 [] rfl rfl
  generalize up C134_ C149 w139.heap.size [(0, 0)] = C149_ at hs150
  replace HX126 := HX126.thru hs150 rfl
  replace HRq128_0 := HRq128_0.thru hs150 rfl
  replace HRq128_1 := HRq128_1.thru hs150 rfl
  replace HS := HS.trans hs150 hc rfl
  refine hK_ _ _ ⟨(Ft.now HRq128_0), (Ft.now HRq128_1), (Ft.now (HX126))⟩ ?_
  clear hK_ K_
  (try simp only [Act.put, List.setIfInBounds_toArray, ls0, ls1])
  refine al_as 15 (lb 16 65535) rfl rfl (by kernel_rfl) (fun _ _ _ => id) rfl ?_
  refine al_end (by kernel_rfl) ?_
  (try simp only [ls0, ls1])
  refine hK138 _ _ ?_
  (try clear hK138 K138)
  refine wp_ret ?_
  (try simp only [Exit.inBlock, Exit.then, Exit.noGoto])
  (try simp only [ls0, ls1])
  obtain rfl := Option.some.inj H
  refine bodyPost_ret (results_tmp rfl _ _ _) rfl ?_
  exact ⟨_, rfl, HS⟩

structure Rec_expr_Height where
  expr_Height : Int → Int → Int → ByteArray → ByteArray → (List (S44)) → Option (Int)
structure Rec_expr_Height.Good (r_ : Rec_expr_Height) : Prop where
  expr_Height : ∀ (a0_0 : Int) (a0_1 : Int) (a0_2 : Int) (a0_3 : ByteArray) (a0_4 : ByteArray) (A0_5 : Option Addr) (c0_5 : Nat) (l0_5 : List (S44)) (r : Int) (c : Nat → Nat) (w : World) (hc : ∀ k, c k < 10) (HP0_5 : Ft c [0] w (fun w_ => k44.C w_ A0_5 l0_5.length l0_5)) (HCP0_5 : l0_5.length ≤ c0_5) (H : r_.expr_Height a0_0 a0_1 a0_2 a0_3 a0_4 l0_5 = some r),
    Calls Try.prog 36 #[.agg #[.int .i64 a0_0, .int .i64 a0_1, .int .i64 a0_2, .string a0_3, .string a0_4, .slice A0_5 l0_5.length c0_5]] w fun e w' => ∃ (c' : Nat → Nat) , e = .returned (.int .i64 r) ∧ Step c w c' w' []

/-! ### expr_Height: function 36 -/
def expr_Height.l0 (r_ : Rec_expr_Height) : Nat → (List (S44)) → Int → Int → Option (Int)
  | 0, _, _, _ => none
  | k + 1, l0_5, x165, x167 => if x167 < (l0_5.length : Int) then (if 0 ≤ x167 then ((r_.expr_Height ((rd_T44 l0_5 x167).f0) ((rd_T44 l0_5 x167).f1) ((rd_T44 l0_5 x167).f2) ((rd_T44 l0_5 x167).f3) ((rd_T44 l0_5 x167).f4) ((rd_T44 l0_5 x167).f5)).bind fun t196 => (expr_Height.l0 r_ k l0_5 (mx x165 t196) (wrap64 (x167 + 1)))) else (none)) else (some (wrap64 (x165 + 1)))
def expr_Height.g (r_ : Rec_expr_Height) (k : Nat) (a0_0 : Int) (a0_1 : Int) (a0_2 : Int) (a0_3 : ByteArray) (a0_4 : ByteArray) (l0_5 : List (S44)) : Option (Int) := expr_Height.l0 r_ k l0_5 0 0

set_option maxHeartbeats 8000000 in
set_option maxRecDepth 100000 in
theorem expr_Height.step (r_ : Rec_expr_Height) (IH : Rec_expr_Height.Good r_) (k : Nat) (a0_0 : Int) (a0_1 : Int) (a0_2 : Int) (a0_3 : ByteArray) (a0_4 : ByteArray) (A0_5 : Option Addr) (c0_5 : Nat) (l0_5 : List (S44)) (r : Int) (c : Nat → Nat) (w : World) (hc : ∀ k, c k < 10) (HP0_5 : Ft c [0] w (fun w_ => k44.C w_ A0_5 l0_5.length l0_5)) (HCP0_5 : l0_5.length ≤ c0_5) (H : expr_Height.g r_ k a0_0 a0_1 a0_2 a0_3 a0_4 l0_5 = some r) :
    Calls Try.prog 36 #[.agg #[.int .i64 a0_0, .int .i64 a0_1, .int .i64 a0_2, .string a0_3, .string a0_4, .slice A0_5 l0_5.length c0_5]] w fun e w' => ∃ (c' : Nat → Nat) , e = .returned (.int .i64 r) ∧ Step c w c' w' [] := by
 unfold expr_Height.g at H
 have HS := Step.refl c w []
 go_enter Try.func36, Try.ntmps36
 refine wp_seq_k fun K102 hK102 => ?_
 refine wl_region ?_
 refine bx_new (C := c) 44 ([.int .i64 a0_0, .int .i64 a0_1, .int .i64 a0_2, .string a0_3, .string a0_4, .slice A0_5 l0_5.length c0_5]) 11 rfl rfl (by first | (go_simp; done) | (go_simp; rfl)) ?_
 intro g103 w104 C105 HX106 hs107
 replace HP0_5 := HP0_5.thru hs107 rfl
 replace HS := HS.trans hs107 hc rfl
 (try simp only [ls0, ls1])
 refine st (.int .i64 0) rfl rfl (xr_assign _ rfl rfl) ?_
 refine wl_end ?_
 (try simp only [ls0, ls1])
 refine hK102 _ _ ?_
 (try clear hK102 K102)
 refine wp_seq_k fun K108 hK108 => ?_
 refine wl_region ?_
 refine st (.int .i64 0) rfl rfl (xr_assign _ rfl rfl) ?_
 refine wl_end ?_
 (try simp only [ls0, ls1])
 refine hK108 _ _ ?_
 (try clear hK108 K108)
 refine wp_seq_k fun K109 hK109 => ?_
 refine wp_seq_k fun K110 hK110 => ?_
 refine wl_region ?_
 refine st (.pointer (some ⟨g103, 5, none⟩)) rfl rfl (xr_fieldAddr _ _ rfl rfl (bx_field2 Try.underlying44 rfl rfl (by kernel_rfl))) ?_
 refine st (.slice A0_5 l0_5.length c0_5) rfl rfl (xr_load _ _ rfl rfl (load_cell Try.underlying42 rfl (bx_cell (HX106).2 5 rfl))) ?_
 refine st (.int .i64 (l0_5.length : Int)) rfl rfl (xr_builtin #[.slice A0_5 l0_5.length c0_5] (.int .i64 (l0_5.length : Int)) rfl (mp_ rfl) (by first | rfl | (go_simp; done) | (go_simp; rfl) | (go_simp; exact i64_w _) | (go_simp; exact i32_w _))) ?_
 refine st (.int .i64 0) rfl rfl (xr_move _ rfl rfl) ?_
 simp only [ls0, ls1]
 refine wl_end ?_
 (try simp only [ls0, ls1])
 refine hK110 _ _ ?_
 (try clear hK110 K110)
 refine wp_block ?_
 (try simp only [ls0, ls1])
 refine wp_looped (looped_fin (fun kq171 a_ w170 => ∃ (C169 : Nat → Nat) (x165 : Int) (x167 : Int) (g_ : Nat → Value), a_ = ⟨#[(g_ 0), (g_ 1), (g_ 2), .int .i64 x165, (g_ 4), (g_ 5), (g_ 6), .slice A0_5 l0_5.length c0_5, .int .i64 (l0_5.length : Int), .int .i64 x167, (g_ 10), (g_ 11), (g_ 12), (g_ 13), (g_ 14), (g_ 15), (g_ 16), (g_ 17), (g_ 18), (g_ 19)], []⟩ ∧ Step c w C169 w170 [] ∧ kq171 ≤ k ∧ (Ft C169 [0] w170 (fun w_ => k44.C w_ A0_5 l0_5.length l0_5)) ∧ (Bx C169 11 w170 g103 44 ([.int .i64 a0_0, .int .i64 a0_1, .int .i64 a0_2, .string a0_3, .string a0_4, .slice A0_5 l0_5.length c0_5])) ∧ expr_Height.l0 r_ kq171 l0_5 x165 x167 = some r) ?step fun hL_ => ?init)
 case init =>
  exact jmpL (fun a_ h_ => hL_ k a_ _ h_) (fun g_ => ⟨_, 0, 0, g_, rfl, HS, Nat.le_refl _, HP0_5, HX106, H⟩) rfl
 case step =>
  intro kq171 ih174 a175 w170 hr176
  obtain ⟨C169, x165, x167, g_, rfl, HS172, hk173, HJ166, HJ168, H⟩ := hr176
  refine looped_round ?_
  cases kq171 with
  | zero => exact absurd H (by simp [expr_Height.l0])
  | succ k177 =>
   simp only [expr_Height.l0] at H
   refine wp_seq_k fun K178 hK178 => ?_
   refine wl_region ?_
   refine st (.bool (decide (x167 < (l0_5.length : Int)))) rfl rfl (xr_bin _ _ _ rfl rfl rfl (B.lss_i64 _ _)) ?_
   refine wl_end ?_
   (try simp only [ls0, ls1])
   refine hK178 _ _ ?_
   (try clear hK178 K178)
   refine wp_seq_k fun K179 hK179 => ?_
   by_cases c180 : x167 < (l0_5.length : Int)
   ·rw [if_pos c180] at H
    (try rw [(decide_eq_true c180)])
    refine wp_cond_true rfl ?_
    refine wp_skip ?_
    (try simp only [ls0, ls1])
    refine hK179 _ _ ?_
    (try clear hK179 K179)
    refine wp_seq_k fun K181 hK181 => ?_
    refine wp_block ?_
    refine wp_seq_k fun K182 hK182 => ?_
    refine wl_region ?_
    obtain ⟨c183, H⟩ := if_some H
    obtain ⟨ad184, hA185⟩ := c_addr (Ft.now HJ166) (pos_of (j := x167) (by first | assumption | decide) (by first | assumption | omega))
    refine st (.pointer (some (ad184.add ((x167 : Int).toNat * 6)))) rfl rfl (xr_indexAddr _ _ _ rfl rfl rfl (index_at Try.underlying42 info44 hA185 (by first | assumption | decide | omega) (by first | assumption | decide | omega))) ?_
    obtain ⟨csq187, _, hKq187, hcq187, hinq187⟩ := Ft.elem HJ166 hA185 z44 x167 (by first | assumption | decide | omega) (by first | assumption | decide | omega) (by decide)
    obtain ⟨Aq187_5, cpq187_5, rfl, HCq187_5, HRq187_5⟩ := k44_openF hKq187
    replace HRq187_5 : Ft C169 [0] w170 (fun w_ => k44.C w_ Aq187_5 (rd_T44 l0_5 x167).f5.length (rd_T44 l0_5 x167).f5) := HRq187_5
    refine st (.agg #[.int .i64 ((rd_T44 l0_5 x167).f0), .int .i64 ((rd_T44 l0_5 x167).f1), .int .i64 ((rd_T44 l0_5 x167).f2), .string ((rd_T44 l0_5 x167).f3), .string ((rd_T44 l0_5 x167).f4), .slice Aq187_5 (rd_T44 l0_5 x167).f5.length cpq187_5]) rfl rfl (xr_load (.pointer (some (ad184.add ((x167 : Int).toNat * 6)))) (.agg #[.int .i64 ((rd_T44 l0_5 x167).f0), .int .i64 ((rd_T44 l0_5 x167).f1), .int .i64 ((rd_T44 l0_5 x167).f2), .string ((rd_T44 l0_5 x167).f3), .string ((rd_T44 l0_5 x167).f4), .slice Aq187_5 (rd_T44 l0_5 x167).f5.length cpq187_5]) rfl rfl (load_agg (cs := [.int .i64 ((rd_T44 l0_5 x167).f0), .int .i64 ((rd_T44 l0_5 x167).f1), .int .i64 ((rd_T44 l0_5 x167).f2), .string ((rd_T44 l0_5 x167).f3), .string ((rd_T44 l0_5 x167).f4), .slice Aq187_5 (rd_T44 l0_5 x167).f5.length cpq187_5]) Try.underlying44 rfl (by kernel_rfl) (fun j_ u_ hu_ => by exact hcq187 j_ u_ hu_))) ?_
    refine bx_new (C := C169) 44 ([.int .i64 0, .int .i64 0, .int .i64 0, .string (⟨#[]⟩ : ByteArray), .string (⟨#[]⟩ : ByteArray), .slice none 0 0]) 12 rfl rfl (by first | (go_simp; done) | (go_simp; rfl)) ?_
    intro g188 w189 C190 HX191 hs192
    replace HJ166 := HJ166.thru hs192 rfl
    replace HJ168 := HJ168.thru hs192 rfl
    replace HRq187_5 := HRq187_5.thru hs192 rfl
    replace HS172 := HS172.trans hs192 hc rfl
    (try simp only [ls0, ls1])
    refine bx_store (C := C190) (z := 12) (g := g188) (j := 0) (tb := 44) (u := .agg #[.int .i64 ((rd_T44 l0_5 x167).f0), .int .i64 ((rd_T44 l0_5 x167).f1), .int .i64 ((rd_T44 l0_5 x167).f2), .string ((rd_T44 l0_5 x167).f3), .string ((rd_T44 l0_5 x167).f4), .slice Aq187_5 (rd_T44 l0_5 x167).f5.length cpq187_5]) (seg := [.int .i64 ((rd_T44 l0_5 x167).f0), .int .i64 ((rd_T44 l0_5 x167).f1), .int .i64 ((rd_T44 l0_5 x167).f2), .string ((rd_T44 l0_5 x167).f3), .string ((rd_T44 l0_5 x167).f4), .slice Aq187_5 (rd_T44 l0_5 x167).f5.length cpq187_5]) (xs := [.int .i64 0, .int .i64 0, .int .i64 0, .string (⟨#[]⟩ : ByteArray), .string (⟨#[]⟩ : ByteArray), .slice none 0 0]) rfl rfl rfl rfl rfl rfl (by first | kernel_rfl | rfl) (by simp [Value.oneCell']) HX191 (by simp only [List.length_cons, List.length_nil]; omega) rfl ?_
    intro w193 HX194 hs195
    replace HJ166 := HJ166.thru hs195 rfl
    replace HJ168 := HJ168.thru hs195 rfl
    replace HRq187_5 := HRq187_5.thru hs195 rfl
    replace HS172 := HS172.trans hs195 hc rfl
    (try simp only [ls0, ls1])
    refine wl_end ?_
    (try simp only [ls0, ls1])
    refine hK182 _ _ ?_
    (try clear hK182 K182)
    refine wl_region ?_
    refine mv_ rfl ?_
    refine st (.agg #[.int .i64 ((rd_T44 l0_5 x167).f0), .int .i64 ((rd_T44 l0_5 x167).f1), .int .i64 ((rd_T44 l0_5 x167).f2), .string ((rd_T44 l0_5 x167).f3), .string ((rd_T44 l0_5 x167).f4), .slice Aq187_5 (rd_T44 l0_5 x167).f5.length cpq187_5]) rfl rfl (xr_load _ _ rfl rfl (load_agg (cs := [.int .i64 ((rd_T44 l0_5 x167).f0), .int .i64 ((rd_T44 l0_5 x167).f1), .int .i64 ((rd_T44 l0_5 x167).f2), .string ((rd_T44 l0_5 x167).f3), .string ((rd_T44 l0_5 x167).f4), .slice Aq187_5 (rd_T44 l0_5 x167).f5.length cpq187_5]) Try.underlying44 rfl (by kernel_rfl) (bx_cells (HX194).2 0 rfl))) ?_
    obtain ⟨t196, A197, H⟩ := bnd H
    refine st_call #[.agg #[.int .i64 ((rd_T44 l0_5 x167).f0), .int .i64 ((rd_T44 l0_5 x167).f1), .int .i64 ((rd_T44 l0_5 x167).f2), .string ((rd_T44 l0_5 x167).f3), .string ((rd_T44 l0_5 x167).f4), .slice Aq187_5 (rd_T44 l0_5 x167).f5.length cpq187_5]] rfl rfl Try.func36 (by kernel_rfl) rfl rfl (mp_ rfl) ?_
    refine (IH.expr_Height ((rd_T44 l0_5 x167).f0) ((rd_T44 l0_5 x167).f1) ((rd_T44 l0_5 x167).f2) ((rd_T44 l0_5 x167).f3) ((rd_T44 l0_5 x167).f4) Aq187_5 cpq187_5 ((rd_T44 l0_5 x167).f5) t196  (fun z_ => pal [(0, 0)] (C190 z_)) w193 (fun _ => pal_lt rfl _) (Ft.arg HRq187_5 rfl) HCq187_5 A197).mono ?_
    rintro _ w199 ⟨C200, rfl, hs201⟩
    refine ⟨_, rfl, ?_⟩
    replace hs201 := Step.lift (U := [(0, 0)]) hs201 [] rfl rfl
    generalize up C190 C200 w193.heap.size [(0, 0)] = C200_ at hs201
    replace HJ166 := HJ166.thru hs201 rfl
    replace HJ168 := HJ168.thru hs201 rfl
    replace HRq187_5 := HRq187_5.thru hs201 rfl
    replace HX194 := HX194.thru hs201 rfl
    replace HS172 := HS172.trans hs201 hc rfl
    (try simp only [ls0, ls1])
    refine st (.int .i64 (mx x165 t196)) rfl rfl (xr_builtin #[.int .i64 x165, .int .i64 t196] (.int .i64 (mx x165 t196)) rfl (mp_ rfl) (by first | rfl | (go_simp; done) | (go_simp; rfl) | (go_simp; exact i64_w _) | (go_simp; exact i32_w _))) ?_
    refine as_ rfl ?_
    refine wl_end ?_
    (try simp only [ls0, ls1])
    refine hK181 _ _ ?_
    (try clear hK181 K181)
    refine wl_region ?_
    refine st (.int .i64 (wrap64 (x167 + 1))) rfl rfl (xr_bin _ _ _ rfl rfl rfl (B.add_i64 _ _)) ?_
    refine mv_ rfl ?_
    refine wl_end ?_
    (try simp only [ls0, ls1])
    exact jmpL (fun a_ h_ => ih174 k177 (by omega) a_ _ h_) (fun g_ => ⟨_, mx x165 t196, wrap64 (x167 + 1), g_, rfl, HS172, (by omega), HJ166, HJ168, H⟩) rfl
   rw [if_neg c180] at H
   (try rw [(decide_eq_false c180)])
   refine wp_cond_false rfl ?_
   refine wp_exit ?_
   (try simp only [ls0, ls1])
   refine hK109 _ _ ?_
   (try clear hK109 K109)
   refine wp_seq_k fun K202 hK202 => ?_
   refine wl_region ?_
   refine mv_ rfl ?_
   refine st (.int .i64 (wrap64 (x165 + 1))) rfl rfl (xr_bin _ _ _ rfl rfl rfl (B.add_i64 _ _)) ?_
   refine as_ rfl ?_
   refine wl_end ?_
   (try simp only [ls0, ls1])
   refine hK202 _ _ ?_
   (try clear hK202 K202)
   refine wp_ret ?_
   (try simp only [Exit.inBlock, Exit.then, Exit.noGoto])
   (try simp only [ls0, ls1])
   obtain rfl := Option.some.inj H
   refine bodyPost_ret (results_tmp rfl _ _ _) rfl ?_
   exact ⟨_, rfl, HS172⟩

def Rec_expr_Height.at : Nat → Rec_expr_Height
  | 0 => ⟨fun x0 x1 x2 x3 x4 x5 => none⟩
  | k + 1 => ⟨fun x0 x1 x2 x3 x4 x5 => expr_Height.g (Rec_expr_Height.at k) k x0 x1 x2 x3 x4 x5⟩
theorem Rec_expr_Height.good : ∀ k, Rec_expr_Height.Good (Rec_expr_Height.at k)
  | 0 => ⟨(by intros; rename_i H; exact absurd H (by simp [Rec_expr_Height.at]))⟩
  | k + 1 => ⟨expr_Height.step (Rec_expr_Height.at k) (Rec_expr_Height.good k) k⟩
def expr_Height.f (k : Nat) (x0 : Int) (x1 : Int) (x2 : Int) (x3 : ByteArray) (x4 : ByteArray) (x5 : List (S44)) : Option (Int) := (Rec_expr_Height.at k).expr_Height x0 x1 x2 x3 x4 x5
theorem expr_Height.calls : ∀ (k : Nat) (a0_0 : Int) (a0_1 : Int) (a0_2 : Int) (a0_3 : ByteArray) (a0_4 : ByteArray) (A0_5 : Option Addr) (c0_5 : Nat) (l0_5 : List (S44)) (r : Int) (c : Nat → Nat) (w : World) (hc : ∀ k, c k < 10) (HP0_5 : Ft c [0] w (fun w_ => k44.C w_ A0_5 l0_5.length l0_5)) (HCP0_5 : l0_5.length ≤ c0_5) (H : expr_Height.f k a0_0 a0_1 a0_2 a0_3 a0_4 l0_5 = some r),
    Calls Try.prog 36 #[.agg #[.int .i64 a0_0, .int .i64 a0_1, .int .i64 a0_2, .string a0_3, .string a0_4, .slice A0_5 l0_5.length c0_5]] w fun e w' => ∃ (c' : Nat → Nat) , e = .returned (.int .i64 r) ∧ Step c w c' w' [] := fun k => (Rec_expr_Height.good k).expr_Height

/-! ### expr_Cursor_held: function 104 -/
def expr_Cursor_held.f (k : Nat) (l0_0 : List Int) (l0_1 : List (S28)) (a0_2 : Int) (a0_3 : Int) (a1_0 : Int) (a1_1 : Int) (a1_2 : Int) (a1_3 : ByteArray) (a1_4 : ByteArray) (l1_5 : List (S44)) (a2 : Int) : Option (Int × Int × Int × ByteArray × ByteArray × (List (S44)) × Int × Int) := (expr_Height.f k a1_0 a1_1 a1_2 a1_3 a1_4 l1_5).bind fun t46 => (if t46 > 32 then (some (0, 0, 0, (⟨#[]⟩ : ByteArray), (⟨#[]⟩ : ByteArray), ([] : List (S44)), 12, a2)) else (some (a1_0, a1_1, a1_2, a1_3, a1_4, l1_5, 0, a0_2)))

set_option maxHeartbeats 8000000 in
set_option maxRecDepth 100000 in
theorem expr_Cursor_held.calls (k : Nat) (g0 : Nat) (A0_0 : Option Addr) (c0_0 : Nat) (l0_0 : List Int) (A0_1 : Option Addr) (c0_1 : Nat) (l0_1 : List (S28)) (a0_2 : Int) (a0_3 : Int) (a1_0 : Int) (a1_1 : Int) (a1_2 : Int) (a1_3 : ByteArray) (a1_4 : ByteArray) (A1_5 : Option Addr) (c1_5 : Nat) (l1_5 : List (S44)) (a2 : Int) (r1 : Int) (r2 : Int) (r3 : Int) (r4 : ByteArray) (r5 : ByteArray) (r6 : List (S44)) (r7 : Int) (r8 : Int) (c : Nat → Nat) (w : World) (hc : ∀ k, c k < 10) (HP0 : Bx c 1 w g0 111 ([.slice A0_0 l0_0.length c0_0, .slice A0_1 l0_1.length c0_1, .int .i64 a0_2, .int .i64 a0_3])) (HP0_0 : Ft c [0] w (fun w_ => (Kd.int .u8).C w_ A0_0 l0_0.length l0_0)) (HCP0_0 : l0_0.length ≤ c0_0) (HP0_1 : Ft c [0] w (fun w_ => k28.C w_ A0_1 l0_1.length l0_1)) (HCP0_1 : l0_1.length ≤ c0_1) (HP1_5 : Ft c [0] w (fun w_ => k44.C w_ A1_5 l1_5.length l1_5)) (HCP1_5 : l1_5.length ≤ c1_5) (H : expr_Cursor_held.f k l0_0 l0_1 a0_2 a0_3 a1_0 a1_1 a1_2 a1_3 a1_4 l1_5 a2 = some (r1, r2, r3, r4, r5, r6, r7, r8)) :
    Calls Try.prog 104 #[.pointer (some ⟨g0, 0, none⟩), .agg #[.int .i64 a1_0, .int .i64 a1_1, .int .i64 a1_2, .string a1_3, .string a1_4, .slice A1_5 l1_5.length c1_5], .int .i64 a2] w fun e w' => ∃ (c' : Nat → Nat) (A_r6 : Option Addr) (c_r6 : Nat), e = .returned (.tuple #[.agg #[.int .i64 r1, .int .i64 r2, .int .i64 r3, .string r4, .string r5, .slice A_r6 r6.length c_r6], .int .i64 r7]) ∧ Step c w c' w' [1] ∧ Ft c' [0] w' (fun w_ => k44.C w_ A_r6 r6.length r6) ∧ r6.length ≤ c_r6 ∧ Bx c' 1 w' g0 111 ([.slice A0_0 l0_0.length c0_0, .slice A0_1 l0_1.length c0_1, .int .i64 r8, .int .i64 a0_3]) := by
 unfold expr_Cursor_held.f at H
 have HS := Step.refl c w [1]
 go_enter Try.func104, Try.ntmps104
 refine wp_seq_k fun K33 hK33 => ?_
 refine wl_region ?_
 refine bx_new (C := c) 44 ([.int .i64 a1_0, .int .i64 a1_1, .int .i64 a1_2, .string a1_3, .string a1_4, .slice A1_5 l1_5.length c1_5]) 11 rfl rfl (by first | (go_simp; done) | (go_simp; rfl)) ?_
 intro g34 w35 C36 HX37 hs38
 replace HP0 := HP0.thru hs38 rfl
 replace HP0_0 := HP0_0.thru hs38 rfl
 replace HP0_1 := HP0_1.thru hs38 rfl
 replace HP1_5 := HP1_5.thru hs38 rfl
 replace HS := HS.trans hs38 hc rfl
 (try simp only [ls0, ls1])
 refine bx_new (C := C36) 44 ([.int .i64 0, .int .i64 0, .int .i64 0, .string (⟨#[]⟩ : ByteArray), .string (⟨#[]⟩ : ByteArray), .slice none 0 0]) 12 rfl rfl (by first | (go_simp; done) | (go_simp; rfl)) ?_
 intro g39 w40 C41 HX42 hs43
 replace HP0 := HP0.thru hs43 rfl
 replace HP0_0 := HP0_0.thru hs43 rfl
 replace HP0_1 := HP0_1.thru hs43 rfl
 replace HP1_5 := HP1_5.thru hs43 rfl
 replace HX37 := HX37.thru hs43 rfl
 replace HS := HS.trans hs43 hc rfl
 (try simp only [ls0, ls1])
 refine st (.int .i64 0) rfl rfl (xr_assign _ rfl rfl) ?_
 refine wl_end ?_
 (try simp only [ls0, ls1])
 refine hK33 _ _ ?_
 (try clear hK33 K33)
 refine wp_seq_k fun K44 hK44 => ?_
 refine wp_seq_k fun K45 hK45 => ?_
 refine wl_region ?_
 refine st (.agg #[.int .i64 a1_0, .int .i64 a1_1, .int .i64 a1_2, .string a1_3, .string a1_4, .slice A1_5 l1_5.length c1_5]) rfl rfl (xr_load _ _ rfl rfl (load_agg (cs := [.int .i64 a1_0, .int .i64 a1_1, .int .i64 a1_2, .string a1_3, .string a1_4, .slice A1_5 l1_5.length c1_5]) Try.underlying44 rfl (by kernel_rfl) (bx_cells (HX37).2 0 rfl))) ?_
 obtain ⟨t46, A47, H⟩ := bnd H
 refine st_call #[.agg #[.int .i64 a1_0, .int .i64 a1_1, .int .i64 a1_2, .string a1_3, .string a1_4, .slice A1_5 l1_5.length c1_5]] rfl rfl Try.func36 (by kernel_rfl) rfl rfl (mp_ rfl) ?_
 refine (expr_Height.calls k a1_0 a1_1 a1_2 a1_3 a1_4 A1_5 c1_5 l1_5 t46  (fun z_ => pal [(0, 0)] (C41 z_)) w40 (fun _ => pal_lt rfl _) (Ft.arg HP1_5 rfl) HCP1_5 A47).mono ?_
 rintro _ w49 ⟨C50, rfl, hs51⟩
 refine ⟨_, rfl, ?_⟩
 replace hs51 := Step.lift (U := [(0, 0)]) hs51 [] rfl rfl
 generalize up C41 C50 w40.heap.size [(0, 0)] = C50_ at hs51
 replace HP0 := HP0.thru hs51 rfl
 replace HP0_0 := HP0_0.thru hs51 rfl
 replace HP0_1 := HP0_1.thru hs51 rfl
 replace HP1_5 := HP1_5.thru hs51 rfl
 replace HX37 := HX37.thru hs51 rfl
 replace HX42 := HX42.thru hs51 rfl
 replace HS := HS.trans hs51 hc rfl
 (try simp only [ls0, ls1])
 refine st (.bool (decide (t46 > 32))) rfl rfl (xr_bin _ _ _ rfl rfl rfl (B.gtr_i64 _ _)) ?_
 refine wl_end ?_
 (try simp only [ls0, ls1])
 refine hK45 _ _ ?_
 (try clear hK45 K45)
 by_cases c52 : t46 > 32
 ·rw [if_pos c52] at H
  (try rw [(decide_eq_true c52)])
  refine wp_cond_true rfl ?_
  refine wp_seq_k fun K53 hK53 => ?_
  refine wl_region ?_
  refine mv_ rfl ?_
  refine mv_ rfl ?_
  refine st (.pointer (some ⟨g0, 0, none⟩)) rfl rfl (xr_nilCheck _ rfl rfl) ?_
  refine st (.pointer (some ⟨g0, 2, none⟩)) rfl rfl (xr_fieldAddr _ _ rfl rfl (bx_field2 Try.underlying111 rfl rfl (by kernel_rfl))) ?_
  simp only [ls0, ls1]
  refine bx_store (C := C50_) (z := 1) (g := g0) (j := 2) (tb := 111) (u := .int .i64 a2) (seg := [.int .i64 a2]) (xs := [.slice A0_0 l0_0.length c0_0, .slice A0_1 l0_1.length c0_1, .int .i64 a0_2, .int .i64 a0_3]) rfl rfl rfl rfl rfl rfl (by first | kernel_rfl | rfl) (by simp [Value.oneCell']) HP0 (by simp only [List.length_cons, List.length_nil]; omega) rfl ?_
  intro w54 HX55 hs56
  replace HP0_0 := HP0_0.thru hs56 rfl
  replace HP0_1 := HP0_1.thru hs56 rfl
  replace HP1_5 := HP1_5.thru hs56 rfl
  replace HX37 := HX37.thru hs56 rfl
  replace HX42 := HX42.thru hs56 rfl
  replace HS := HS.trans hs56 hc rfl
  (try simp only [ls0, ls1])
  refine wl_end ?_
  (try simp only [ls0, ls1])
  refine hK53 _ _ ?_
  (try clear hK53 K53)
  refine wp_seq_k fun K57 hK57 => ?_
  refine wl_region ?_
  refine st (.agg #[.int .i64 0, .int .i64 0, .int .i64 0, .string (⟨#[]⟩ : ByteArray), .string (⟨#[]⟩ : ByteArray), .slice none 0 0]) rfl rfl (xr_build #[] (.agg #[.int .i64 0, .int .i64 0, .int .i64 0, .string (⟨#[]⟩ : ByteArray), .string (⟨#[]⟩ : ByteArray), .slice none 0 0]) rfl (mp_ rfl) (by first | rfl | (go_simp; done) | (go_simp; rfl) | (go_simp; exact i64_w _) | (go_simp; exact i32_w _))) ?_
  refine bx_store (C := C50_) (z := 12) (g := g39) (j := 0) (tb := 44) (u := .agg #[.int .i64 0, .int .i64 0, .int .i64 0, .string (⟨#[]⟩ : ByteArray), .string (⟨#[]⟩ : ByteArray), .slice none 0 0]) (seg := [.int .i64 0, .int .i64 0, .int .i64 0, .string (⟨#[]⟩ : ByteArray), .string (⟨#[]⟩ : ByteArray), .slice none 0 0]) (xs := [.int .i64 0, .int .i64 0, .int .i64 0, .string (⟨#[]⟩ : ByteArray), .string (⟨#[]⟩ : ByteArray), .slice none 0 0]) rfl rfl rfl rfl rfl rfl (by first | kernel_rfl | rfl) (by simp [Value.oneCell']) HX42 (by simp only [List.length_cons, List.length_nil]; omega) rfl ?_
  intro w58 HX59 hs60
  replace HX55 := HX55.thru hs60 rfl
  replace HP0_0 := HP0_0.thru hs60 rfl
  replace HP0_1 := HP0_1.thru hs60 rfl
  replace HP1_5 := HP1_5.thru hs60 rfl
  replace HX37 := HX37.thru hs60 rfl
  replace HS := HS.trans hs60 hc rfl
  (try simp only [ls0, ls1])
  refine st (.int .i64 12) rfl rfl (xr_assign _ rfl rfl) ?_
  refine wl_end ?_
  (try simp only [ls0, ls1])
  refine hK57 _ _ ?_
  (try clear hK57 K57)
  refine wp_ret ?_
  (try simp only [Exit.inBlock, Exit.then, Exit.noGoto])
  (try simp only [ls0, ls1])
  simp only [Option.some.injEq, Prod.mk.injEq] at H
  obtain ⟨rfl, rfl, rfl, rfl, rfl, rfl, rfl, rfl⟩ := H
  refine bodyPost_ret (res_ct rfl rfl (load_of (load_agg (cs := [.int .i64 0, .int .i64 0, .int .i64 0, .string (⟨#[]⟩ : ByteArray), .string (⟨#[]⟩ : ByteArray), .slice none 0 0]) Try.underlying44 rfl (by kernel_rfl) (bx_cells (HX59).2 0 rfl)))) rfl ?_
  exact ⟨_, none, 0, rfl, HS, (Kd.F_nil _ _ _), (Nat.le_refl 0), HX55⟩
 rw [if_neg c52] at H
 (try rw [(decide_eq_false c52)])
 refine wp_cond_false rfl ?_
 refine wp_skip ?_
 (try simp only [ls0, ls1])
 refine hK44 _ _ ?_
 (try clear hK44 K44)
 refine wp_seq_k fun K61 hK61 => ?_
 refine wl_region ?_
 refine st (.agg #[.int .i64 a1_0, .int .i64 a1_1, .int .i64 a1_2, .string a1_3, .string a1_4, .slice A1_5 l1_5.length c1_5]) rfl rfl (xr_load _ _ rfl rfl (load_agg (cs := [.int .i64 a1_0, .int .i64 a1_1, .int .i64 a1_2, .string a1_3, .string a1_4, .slice A1_5 l1_5.length c1_5]) Try.underlying44 rfl (by kernel_rfl) (bx_cells (HX37).2 0 rfl))) ?_
 refine bx_store (C := C50_) (z := 12) (g := g39) (j := 0) (tb := 44) (u := .agg #[.int .i64 a1_0, .int .i64 a1_1, .int .i64 a1_2, .string a1_3, .string a1_4, .slice A1_5 l1_5.length c1_5]) (seg := [.int .i64 a1_0, .int .i64 a1_1, .int .i64 a1_2, .string a1_3, .string a1_4, .slice A1_5 l1_5.length c1_5]) (xs := [.int .i64 0, .int .i64 0, .int .i64 0, .string (⟨#[]⟩ : ByteArray), .string (⟨#[]⟩ : ByteArray), .slice none 0 0]) rfl rfl rfl rfl rfl rfl (by first | kernel_rfl | rfl) (by simp [Value.oneCell']) HX42 (by simp only [List.length_cons, List.length_nil]; omega) rfl ?_
 intro w62 HX63 hs64
 replace HP0 := HP0.thru hs64 rfl
 replace HP0_0 := HP0_0.thru hs64 rfl
 replace HP0_1 := HP0_1.thru hs64 rfl
 replace HP1_5 := HP1_5.thru hs64 rfl
 replace HX37 := HX37.thru hs64 rfl
 replace HS := HS.trans hs64 hc rfl
 (try simp only [ls0, ls1])
 refine st (.int .i64 0) rfl rfl (xr_assign _ rfl rfl) ?_
 refine wl_end ?_
 (try simp only [ls0, ls1])
 refine hK61 _ _ ?_
 (try clear hK61 K61)
 refine wp_ret ?_
 (try simp only [Exit.inBlock, Exit.then, Exit.noGoto])
 (try simp only [ls0, ls1])
 simp only [Option.some.injEq, Prod.mk.injEq] at H
 obtain ⟨rfl, rfl, rfl, rfl, rfl, rfl, rfl, rfl⟩ := H
 refine bodyPost_ret (res_ct rfl rfl (load_of (load_agg (cs := [.int .i64 a1_0, .int .i64 a1_1, .int .i64 a1_2, .string a1_3, .string a1_4, .slice A1_5 l1_5.length c1_5]) Try.underlying44 rfl (by kernel_rfl) (bx_cells (HX63).2 0 rfl)))) rfl ?_
 exact ⟨_, A1_5, c1_5, rfl, HS, HP1_5, HCP1_5, HP0⟩

/-! ### expr_Cursor_Kind: function 46 -/
def expr_Cursor_Kind.f (x0 : Option S111) : Option (Int) := onOpt x0 (some 0) (fun o116 => ((expr_Cursor_Done.f (some (⟨o116.f0, o116.f1, o116.f2, o116.f3⟩ : S111) : Option S111)).bind fun t124 => (if t124 = true then (some 0) else (if 0 ≤ o116.f2 then (if o116.f2 < (o116.f1.length : Int) then (some ((rd_T28 o116.f1 o116.f2).f0)) else (none)) else (none)))))
set_option maxHeartbeats 8000000 in
set_option maxRecDepth 100000 in
theorem expr_Cursor_Kind.calls (v0 : Value) (x0 : Option S111) (r : Int) (c : Nat → Nat) (w : World) (hc : ∀ k, c k < 10) (HP0 : Ft c [0] w (fun w_ => (Kd.ptr 111 k111).K w_ x0 [v0])) (H : expr_Cursor_Kind.f x0 = some r) :
    Calls Try.prog 46 #[v0] w fun e w' => ∃ (c' : Nat → Nat) , e = .returned (.int .i64 r) ∧ Step c w c' w' [] := by
 unfold expr_Cursor_Kind.f at H
 have HS := Step.refl c w []
 go_enter Try.func46, Try.ntmps46
 refine wp_seq_k fun K70 hK70 => ?_
 refine wl_region ?_
 refine st (.int .i64 0) rfl rfl (xr_assign _ rfl rfl) ?_
 refine wl_end ?_
 (try simp only [ls0, ls1])
 refine hK70 _ _ ?_
 (try clear hK70 K70)
 refine wp_seq_k fun K71 hK71 => ?_
 refine wp_seq_k fun K102 hK102 => ?_
 refine wl_region ?_
 refine mv_ rfl ?_
 cases x0 with
 | none =>
  (try simp only [onOpt] at H)
  obtain rfl := ptr_none HP0
  refine st (.bool true) rfl rfl (xr_bin (.pointer none) (.pointer none) (.bool true) rfl rfl rfl (B.eql_nn ⟨_, Try.underlying57⟩ (⟨0, 0, none⟩ : Addr))) ?_
  refine mv_ rfl ?_
  simp only [ls0, ls1]
  refine sk_guard (guard_off 2 false 5 rfl rfl true (by decide) rfl) rfl ?_
  refine sk_guard (guard_off 2 false 5 rfl rfl true (by decide) rfl) rfl ?_
  refine st (.bool true) rfl rfl (xr_pick true _ rfl rfl rfl) ?_
  refine wl_end ?_
  (try simp only [ls0, ls1])
  refine hK102 _ _ ?_
  (try clear hK102 K102)
  refine wp_cond_true rfl ?_
  refine wp_seq_k fun K117 hK117 => ?_
  refine wl_region ?_
  refine st (.int .i64 0) rfl rfl (xr_assign _ rfl rfl) ?_
  refine wl_end ?_
  (try simp only [ls0, ls1])
  refine hK117 _ _ ?_
  (try clear hK117 K117)
  refine wp_ret ?_
  (try simp only [Exit.inBlock, Exit.then, Exit.noGoto])
  (try simp only [ls0, ls1])
  obtain rfl := Option.some.inj H
  refine bodyPost_ret (results_tmp rfl _ _ _) rfl ?_
  exact ⟨_, rfl, HS⟩
 | some o116 =>
  (try simp only [onOpt] at H)
  obtain ⟨g118, cs119, rfl, HX120, HK121⟩ := ptr_some HP0
  obtain ⟨Aq122_0, cpq122_0, Aq122_1, cpq122_1, rfl, HCq122_0, HRq122_0, HCq122_1, HRq122_1⟩ := k111_openF HK121
  replace HRq122_0 : Ft c [0] w (fun w_ => (Kd.int .u8).C w_ Aq122_0 o116.f0.length o116.f0) := HRq122_0
  replace HRq122_1 : Ft c [0] w (fun w_ => k28.C w_ Aq122_1 o116.f1.length o116.f1) := HRq122_1
  refine st (.bool false) rfl rfl (xr_bin (.pointer (some ⟨g118, 0, none⟩)) (.pointer none) (.bool false) rfl rfl rfl (B.eql_pn ⟨_, Try.underlying57⟩ ⟨g118, 0, none⟩)) ?_
  refine mv_ rfl ?_
  refine on_guard (guard_on 2 false 5 rfl rfl rfl) ?_
  refine mv_ rfl ?_
  refine on_guard (guard_on 2 false 5 rfl rfl rfl) ?_
  have HP123 : Ft c [0] w (fun w_ => (Kd.ptr 111 k111).K w_ (some (⟨o116.f0, o116.f1, o116.f2, o116.f3⟩ : S111)) [.pointer (some ⟨g118, 0, none⟩)]) := ptr_mk (Ft.more HX120 rfl) (k111_mkF _ _ (⟨o116.f0, o116.f1, o116.f2, o116.f3⟩ : S111) HCq122_0 (Ft.more HRq122_0 rfl) HCq122_1 (Ft.more HRq122_1 rfl))
  obtain ⟨t124, A125, H⟩ := bnd H
  refine st_call #[.pointer (some ⟨g118, 0, none⟩)] rfl rfl Try.func47 (by kernel_rfl) rfl rfl (mp_ rfl) ?_
  refine (expr_Cursor_Done.calls (.pointer (some ⟨g118, 0, none⟩)) (some (⟨o116.f0, o116.f1, o116.f2, o116.f3⟩ : S111) : Option S111) t124  (fun z_ => pal [(0, 0)] (c z_)) w (fun _ => pal_lt rfl _) (Ft.arg HP123 rfl) A125).mono ?_
  rintro _ w127 ⟨C128, rfl, hs129⟩
  refine ⟨_, rfl, ?_⟩
  replace hs129 := Step.lift (U := [(0, 0)]) hs129 [] rfl rfl
  generalize up c C128 w.heap.size [(0, 0)] = C128_ at hs129
  replace HX120 := HX120.thru hs129 rfl
  replace HRq122_0 := HRq122_0.thru hs129 rfl
  replace HRq122_1 := HRq122_1.thru hs129 rfl
  replace HS := HS.trans hs129 hc rfl
  (try simp only [ls0, ls1])
  refine st (.bool t124) rfl rfl (xr_pick false _ rfl rfl rfl) ?_
  refine wl_end ?_
  (try simp only [ls0, ls1])
  refine hK102 _ _ ?_
  (try clear hK102 K102)
  by_cases c130 : t124 = true
  ·rw [if_pos c130] at H
   (try rw [c130])
   refine wp_cond_true rfl ?_
   refine wp_seq_k fun K131 hK131 => ?_
   refine wl_region ?_
   refine st (.int .i64 0) rfl rfl (xr_assign _ rfl rfl) ?_
   refine wl_end ?_
   (try simp only [ls0, ls1])
   refine hK131 _ _ ?_
   (try clear hK131 K131)
   refine wp_ret ?_
   (try simp only [Exit.inBlock, Exit.then, Exit.noGoto])
   (try simp only [ls0, ls1])
   obtain rfl := Option.some.inj H
   refine bodyPost_ret (results_tmp rfl _ _ _) rfl ?_
   exact ⟨_, rfl, HS⟩
  rw [if_neg c130] at H
  (try rw [(Bool.eq_false_iff.mpr c130)])
  refine wp_cond_false rfl ?_
  refine wp_skip ?_
  (try simp only [ls0, ls1])
  refine hK71 _ _ ?_
  (try clear hK71 K71)
  refine wp_seq_k fun K132 hK132 => ?_
  (try simp only [ls0, ls1])
  refine al_start (lb 12 0) rfl rfl rfl (fun w_ => (Kd.int .u8).C w_ Aq122_0 o116.f0.length o116.f0 ∧ k28.C w_ Aq122_1 o116.f1.length o116.f1 ∧ w_.heap[g118]? = some (.cells (List.toArray ([.slice Aq122_0 o116.f0.length cpq122_0, .slice Aq122_1 o116.f1.length cpq122_1, .int .i64 o116.f2, .int .i64 o116.f3])) 111 (0, 0))) ⟨(Ft.now ((HRq122_0).drew)), (Ft.now ((HRq122_1).drew)), (Ft.now (HX120.drew))⟩ [] ?_
  replace HX120 := HX120.drew
  replace HRq122_0 := HRq122_0.drew
  replace HRq122_1 := HRq122_1.drew
  replace HS := Step.ofDrew HS
  generalize w127.drew = w133 at *
  refine al_mv 0 (lb 12 1) rfl rfl (by kernel_rfl) (fun _ _ _ => id) rfl ?_
  refine al_pure 1 10 (.pointer (some ⟨g118, 0, none⟩)) (lb 12 3) rfl rfl (by kernel_rfl) (fun _ _ _ => id) rfl (fun w_ => xr_nilCheck _ rfl rfl) ?_
  refine al_pure 2 11 (.pointer (some ⟨g118, 1, none⟩)) (lb 12 7) rfl rfl (by kernel_rfl) (fun _ _ _ => id) rfl (fun w_ => xr_fieldAddr _ _ rfl rfl (bx_field2 Try.underlying111 rfl rfl (by kernel_rfl))) ?_
  refine al_mv 4 (lb 12 23) rfl rfl (by kernel_rfl) (fun _ _ _ => id) rfl ?_
  simp only [ls0, ls1]
  refine al_pure 5 14 (.pointer (some ⟨g118, 0, none⟩)) (lb 12 55) rfl rfl (by kernel_rfl) (fun _ _ _ => id) rfl (fun w_ => xr_nilCheck _ rfl rfl) ?_
  refine al_pure 6 15 (.pointer (some ⟨g118, 2, none⟩)) (lb 12 119) rfl rfl (by kernel_rfl) (fun _ _ _ => id) rfl (fun w_ => xr_fieldAddr _ _ rfl rfl (bx_field2 Try.underlying111 rfl rfl (by kernel_rfl))) ?_
  refine al_take 3 12 (.slice Aq122_1 o116.f1.length cpq122_1) (lb 12 127) rfl rfl (by kernel_rfl) (fun _ _ _ => id) rfl (fun w_ hS_ => xr_load _ _ rfl rfl (load_cell Try.underlying24 rfl (bx_cell hS_.2.2 1 rfl))) ⟨(Ft.now HRq122_0), (Ft.now HRq122_1), (Ft.now (HX120))⟩ ?_
  refine al_take 7 16 (.int .i64 o116.f2) (lb 12 255) rfl rfl (by kernel_rfl) (fun _ _ _ => id) rfl (fun w_ hS_ => xr_load _ _ rfl rfl (load_cell Try.underlying3 rfl (bx_cell hS_.2.2 2 rfl))) ⟨(Ft.now HRq122_0), (Ft.now HRq122_1), (Ft.now (HX120))⟩ ?_
  simp only [ls0, ls1]
  obtain ⟨c134, H⟩ := if_some H
  obtain ⟨c135, H⟩ := if_some H
  obtain ⟨ad136, hA137⟩ := c_addr (Ft.now HRq122_1) (pos_of (j := o116.f2) (by first | assumption | decide) (by first | assumption | omega))
  refine al_pure 8 17 (.pointer (some (ad136.add ((o116.f2 : Int).toNat * 3)))) (lb 12 511) rfl rfl (by kernel_rfl) (fun _ _ _ => id) rfl (fun w_ => xr_indexAddr _ _ _ rfl rfl rfl (index_at Try.underlying24 info28 hA137 (by first | assumption | decide | omega) (by first | assumption | decide | omega))) ?_
  refine al_pure 9 18 (.pointer (some ((ad136.add ((o116.f2 : Int).toNat * 3)).add 0))) (lb 12 1023) rfl rfl (by kernel_rfl) (fun _ _ _ => id) rfl (fun w_ => xr_fieldAddr _ _ rfl rfl (field_at2 Try.underlying28 rfl rfl (by kernel_rfl))) ?_
  refine al_take 10 19 (.int .i64 ((rd_T28 o116.f1 o116.f2).f0)) (lb 12 2047) rfl rfl (by kernel_rfl) (fun _ _ _ => id) rfl (fun w_ hS_ => xr_load (.pointer (some ((ad136.add ((o116.f2 : Int).toNat * 3)).add 0))) (.int .i64 ((rd_T28 o116.f1 o116.f2).f0)) rfl rfl (by obtain ⟨ad_, cs_, e_, _, hK_, hc_⟩ := Kd.C_get hS_.2.1 z28 o116.f2 (by first | assumption | decide | omega) (by first | assumption | decide | omega); rw [hA137] at e_; injection e_ with e_; subst e_; obtain rfl := k28_open hK_; exact load_cell Try.underlying3 rfl (by first | (rw [add_add]; exact hc_ 0 _ rfl) | (have h_ := hc_ 0 _ rfl; rw [Nat.add_zero] at h_; exact h_)))) ⟨(Ft.now HRq122_0), (Ft.now HRq122_1), (Ft.now (HX120))⟩ ?_
  refine al_as 11 (lb 12 4095) rfl rfl (by kernel_rfl) (fun _ _ _ => id) rfl ?_
  simp only [ls0, ls1]
  refine al_end (by kernel_rfl) ?_
  (try simp only [ls0, ls1])
  refine hK132 _ _ ?_
  (try clear hK132 K132)
  refine wp_ret ?_
  (try simp only [Exit.inBlock, Exit.then, Exit.noGoto])
  (try simp only [ls0, ls1])
  obtain rfl := Option.some.inj H
  refine bodyPost_ret (results_tmp rfl _ _ _) rfl ?_
  exact ⟨_, rfl, HS⟩

/-! ### expr_Cursor_number: function 131 -/
def expr_Cursor_number.l0 : Nat → Int → Int → (List Int) → (List (S28)) → Int → Int → (List Int) → Option (Int × Int × Int × ByteArray × ByteArray × (List (S44)) × Int × Int)
  | 0, _, _, _, _, _, _, _ => none
  | k + 1, a0_2, a0_3, l0_0, l0_1, x385, x387, y332 => if x387 < (y332.length : Int) then (if 0 ≤ x387 then (if x385 > (wrap64 (Int.tdiv (wrap64 (9223372036854775807 - (wrap64 (((rd y332 x387) - 48) % 256)))) 10)) then (some (0, 0, 0, (⟨#[]⟩ : ByteArray), (⟨#[]⟩ : ByteArray), ([] : List (S44)), 18, a0_2)) else (expr_Cursor_number.l0 k a0_2 a0_3 l0_0 l0_1 (wrap64 ((wrap64 (10 * x385)) + (wrap64 (((rd y332 x387) - 48) % 256)))) (wrap64 (x387 + 1)) y332)) else (none)) else ((expr_Cursor_Pos.f (some (⟨l0_0, l0_1, a0_2, a0_3⟩ : S111) : Option S111)).bind fun t419 => (some (0, t419, x385, (⟨#[]⟩ : ByteArray), (⟨#[]⟩ : ByteArray), ([] : List (S44)), 0, wrap64 (a0_2 + 1))))
def expr_Cursor_number.f (k : Nat) (l0_0 : List Int) (l0_1 : List (S28)) (a0_2 : Int) (a0_3 : Int) : Option (Int × Int × Int × ByteArray × ByteArray × (List (S44)) × Int × Int) := (expr_Cursor_Peek.f (some (⟨l0_0, l0_1, a0_2, a0_3⟩ : S111) : Option S111)).bind fun t325 => (if t325.size ≤ 9223372036854775807 then ((some (bytesOf t325 : List Int)).bind fun y332 => (expr_Cursor_number.l0 k a0_2 a0_3 l0_0 l0_1 0 0 y332)) else (none))

set_option maxHeartbeats 8000000 in
set_option maxRecDepth 100000 in
theorem expr_Cursor_number.calls (k : Nat) (g0 : Nat) (A0_0 : Option Addr) (c0_0 : Nat) (l0_0 : List Int) (A0_1 : Option Addr) (c0_1 : Nat) (l0_1 : List (S28)) (a0_2 : Int) (a0_3 : Int) (r1 : Int) (r2 : Int) (r3 : Int) (r4 : ByteArray) (r5 : ByteArray) (r6 : List (S44)) (r7 : Int) (r8 : Int) (c : Nat → Nat) (w : World) (hc : ∀ k, c k < 10) (HP0 : Bx c 1 w g0 111 ([.slice A0_0 l0_0.length c0_0, .slice A0_1 l0_1.length c0_1, .int .i64 a0_2, .int .i64 a0_3])) (HP0_0 : Ft c [0] w (fun w_ => (Kd.int .u8).C w_ A0_0 l0_0.length l0_0)) (HCP0_0 : l0_0.length ≤ c0_0) (HP0_1 : Ft c [0] w (fun w_ => k28.C w_ A0_1 l0_1.length l0_1)) (HCP0_1 : l0_1.length ≤ c0_1) (H : expr_Cursor_number.f k l0_0 l0_1 a0_2 a0_3 = some (r1, r2, r3, r4, r5, r6, r7, r8)) :
    Calls Try.prog 131 #[.pointer (some ⟨g0, 0, none⟩)] w fun e w' => ∃ (c' : Nat → Nat) (A_r6 : Option Addr) (c_r6 : Nat), e = .returned (.tuple #[.agg #[.int .i64 r1, .int .i64 r2, .int .i64 r3, .string r4, .string r5, .slice A_r6 r6.length c_r6], .int .i64 r7]) ∧ Step c w c' w' [1] ∧ Own c' 5 w' k44 44 (.slice A_r6 r6.length c_r6) r6 ∧ r6.length ≤ c_r6 ∧ Bx c' 1 w' g0 111 ([.slice A0_0 l0_0.length c0_0, .slice A0_1 l0_1.length c0_1, .int .i64 r8, .int .i64 a0_3]) := by
 unfold expr_Cursor_number.f at H
 have HS := Step.refl c w [1]
 go_enter Try.func131, Try.ntmps131
 refine wp_seq_k fun K221 hK221 => ?_
 refine wl_region ?_
 refine bx_new (C := c) 44 ([.int .i64 0, .int .i64 0, .int .i64 0, .string (⟨#[]⟩ : ByteArray), .string (⟨#[]⟩ : ByteArray), .slice none 0 0]) 11 rfl rfl (by first | (go_simp; done) | (go_simp; rfl)) ?_
 intro g222 w223 C224 HX225 hs226
 replace HP0 := HP0.thru hs226 rfl
 replace HP0_0 := HP0_0.thru hs226 rfl
 replace HP0_1 := HP0_1.thru hs226 rfl
 replace HS := HS.trans hs226 hc rfl
 (try simp only [ls0, ls1])
 refine st (.int .i64 0) rfl rfl (xr_assign _ rfl rfl) ?_
 refine wl_end ?_
 (try simp only [ls0, ls1])
 refine hK221 _ _ ?_
 (try clear hK221 K221)
 refine wp_seq_k fun K227 hK227 => ?_
 refine wl_region ?_
 refine st (.int .i64 0) rfl rfl (xr_assign _ rfl rfl) ?_
 refine wl_end ?_
 (try simp only [ls0, ls1])
 refine hK227 _ _ ?_
 (try clear hK227 K227)
 refine wp_seq_k fun K228 hK228 => ?_
 refine wp_seq_k fun K323 hK323 => ?_
 refine wl_region ?_
 refine mv_ rfl ?_
 have HP324 : Ft C224 [0, 1] w223 (fun w_ => (Kd.ptr 111 k111).K w_ (some (⟨l0_0, l0_1, a0_2, a0_3⟩ : S111)) [.pointer (some ⟨g0, 0, none⟩)]) := ptr_mk (Ft.more (HP0.ft) rfl) (k111_mkF _ _ (⟨l0_0, l0_1, a0_2, a0_3⟩ : S111) HCP0_0 (Ft.more HP0_0 rfl) HCP0_1 (Ft.more HP0_1 rfl))
 obtain ⟨t325, A326, H⟩ := bnd H
 refine st_call #[.pointer (some ⟨g0, 0, none⟩)] rfl rfl Try.func43 (by kernel_rfl) rfl rfl (mp_ rfl) ?_
 refine (expr_Cursor_Peek.calls (.pointer (some ⟨g0, 0, none⟩)) (some (⟨l0_0, l0_1, a0_2, a0_3⟩ : S111) : Option S111) t325  (fun z_ => pal [(0, 0), (1, 0)] (C224 z_)) w223 (fun _ => pal_lt rfl _) (Ft.arg HP324 rfl) A326).mono ?_
 rintro _ w328 ⟨C329, rfl, hs330⟩
 refine ⟨_, rfl, ?_⟩
 replace hs330 := Step.lift (U := [(0, 0)]) hs330 [] rfl rfl
 generalize up C224 C329 w223.heap.size [(0, 0)] = C329_ at hs330
 replace HP0 := HP0.thru hs330 rfl
 replace HP0_0 := HP0_0.thru hs330 rfl
 replace HP0_1 := HP0_1.thru hs330 rfl
 replace HX225 := HX225.thru hs330 rfl
 replace HS := HS.trans hs330 hc rfl
 (try simp only [ls0, ls1])
 obtain ⟨c331, H⟩ := if_some H
 obtain ⟨y332, A333, H⟩ := bnd H
 refine own_conv (C := C329_) (i := 0) 5 rfl rfl 9 22 _ rfl t325 rfl Try.underlying9 Try.underlying22 Try.underlying5 (by assumption) 12 (Option.some.inj A333) ?_
 intro A334 cp335 w336 C337 HR338 HC339 hs340
 replace HP0 := HP0.thru hs340 rfl
 replace HP0_0 := HP0_0.thru hs340 rfl
 replace HP0_1 := HP0_1.thru hs340 rfl
 replace HX225 := HX225.thru hs340 rfl
 replace HS := HS.trans hs340 hc rfl
 (try simp only [ls0, ls1])
 refine st (.int .i64 (y332.length : Int)) rfl rfl (xr_builtin #[.slice A334 y332.length cp335] (.int .i64 (y332.length : Int)) rfl (mp_ rfl) (by first | rfl | (go_simp; done) | (go_simp; rfl) | (go_simp; exact i64_w _) | (go_simp; exact i32_w _))) ?_
 refine st (.int .i64 0) rfl rfl (xr_move _ rfl rfl) ?_
 refine wl_end ?_
 (try simp only [ls0, ls1])
 refine hK323 _ _ ?_
 (try clear hK323 K323)
 refine wp_block ?_
 (try simp only [ls0, ls1])
 refine wp_looped (looped_fin (fun kq394 a_ w393 => ∃ (C392 : Nat → Nat) (x385 : Int) (x387 : Int) (g_ : Nat → Value), a_ = ⟨#[.pointer (some ⟨g0, 0, none⟩), (g_ 1), .pointer (some ⟨g222, 0, none⟩), (g_ 3), .int .i64 x385, (g_ 5), (g_ 6), (g_ 7), (g_ 8), (g_ 9), (g_ 10), .slice A334 y332.length cp335, .int .i64 (y332.length : Int), .int .i64 x387, (g_ 14), (g_ 15), (g_ 16), (g_ 17), (g_ 18), (g_ 19), (g_ 20), (g_ 21), (g_ 22), (g_ 23), (g_ 24), (g_ 25), (g_ 26), (g_ 27), (g_ 28), (g_ 29), (g_ 30), (g_ 31), (g_ 32), (g_ 33), (g_ 34), (g_ 35), (g_ 36), (g_ 37), (g_ 38), (g_ 39), (g_ 40), (g_ 41), (g_ 42)], []⟩ ∧ Step c w C392 w393 [1] ∧ kq394 ≤ k ∧ (Ft C392 [12] w393 (fun w_ => (Kd.int .u8).C w_ A334 y332.length y332)) ∧ (Ft C392 [0] w393 (fun w_ => (Kd.int .u8).C w_ A0_0 l0_0.length l0_0)) ∧ (Ft C392 [0] w393 (fun w_ => k28.C w_ A0_1 l0_1.length l0_1)) ∧ (Bx C392 1 w393 g0 111 ([.slice A0_0 l0_0.length c0_0, .slice A0_1 l0_1.length c0_1, .int .i64 a0_2, .int .i64 a0_3])) ∧ (Bx C392 11 w393 g222 44 ([.int .i64 0, .int .i64 0, .int .i64 0, .string (⟨#[]⟩ : ByteArray), .string (⟨#[]⟩ : ByteArray), .slice none 0 0])) ∧ expr_Cursor_number.l0 kq394 a0_2 a0_3 l0_0 l0_1 x385 x387 y332 = some (r1, r2, r3, r4, r5, r6, r7, r8)) ?step fun hL_ => ?init)
 case init =>
  exact jmpL (fun a_ h_ => hL_ k a_ _ h_) (fun g_ => ⟨_, 0, 0, g_, rfl, HS, Nat.le_refl _, HR338, HP0_0, HP0_1, HP0, HX225, H⟩) rfl
 case step =>
  intro kq394 ih397 a398 w393 hr399
  obtain ⟨C392, x385, x387, g_, rfl, HS395, hk396, HJ386, HJ388, HJ389, HJ390, HJ391, H⟩ := hr399
  refine looped_round ?_
  cases kq394 with
  | zero => exact absurd H (by simp [expr_Cursor_number.l0])
  | succ k400 =>
   simp only [expr_Cursor_number.l0] at H
   refine wp_seq_k fun K401 hK401 => ?_
   refine wl_region ?_
   refine st (.bool (decide (x387 < (y332.length : Int)))) rfl rfl (xr_bin _ _ _ rfl rfl rfl (B.lss_i64 _ _)) ?_
   refine wl_end ?_
   (try simp only [ls0, ls1])
   refine hK401 _ _ ?_
   (try clear hK401 K401)
   refine wp_seq_k fun K402 hK402 => ?_
   by_cases c403 : x387 < (y332.length : Int)
   ·rw [if_pos c403] at H
    (try rw [(decide_eq_true c403)])
    refine wp_cond_true rfl ?_
    refine wp_skip ?_
    (try simp only [ls0, ls1])
    refine hK402 _ _ ?_
    (try clear hK402 K402)
    refine wp_seq_k fun K404 hK404 => ?_
    refine wp_block ?_
    refine wp_seq_k fun K405 hK405 => ?_
    refine wl_region ?_
    obtain ⟨c406, H⟩ := if_some H
    obtain ⟨ad407, hA408⟩ := c_addr (Ft.now HJ386) (pos_of (j := x387) (by first | assumption | decide) (by first | assumption | omega))
    refine st (.pointer (some (ad407.add ((x387 : Int).toNat * 1)))) rfl rfl (xr_indexAddr _ _ _ rfl rfl rfl (index_at Try.underlying22 info5 hA408 (by first | assumption | decide | omega) (by first | assumption | decide | omega))) ?_
    refine st (.int .u8 (rd y332 x387)) rfl rfl (xr_load _ _ rfl rfl (load_int Try.underlying5 rfl hA408 (Ft.now HJ386) (by first | assumption | decide | omega) (by first | assumption | decide | omega))) ?_
    refine as_ rfl ?_
    refine wl_end ?_
    (try simp only [ls0, ls1])
    refine hK405 _ _ ?_
    (try clear hK405 K405)
    refine wp_seq_k fun K409 hK409 => ?_
    refine wl_region ?_
    refine mv_ rfl ?_
    refine st (.int .u8 (((rd y332 x387) - 48) % 256)) rfl rfl (xr_bin _ _ _ rfl rfl rfl (B.sub_u8 _ _)) ?_
    refine st (.int .i64 (wrap64 (((rd y332 x387) - 48) % 256))) rfl rfl (xr_conv (.int .u8 (((rd y332 x387) - 48) % 256)) _ rfl rfl (by first | rfl | (go_simp; done) | (go_simp; rfl) | (go_simp; exact i64_w _) | (go_simp; exact i32_w _))) ?_
    refine as_ rfl ?_
    simp only [ls0, ls1]
    refine wl_end ?_
    (try simp only [ls0, ls1])
    refine hK409 _ _ ?_
    (try clear hK409 K409)
    refine wp_seq_k fun K410 hK410 => ?_
    refine wp_seq_k fun K411 hK411 => ?_
    refine wl_region ?_
    refine mv_ rfl ?_
    refine mv_ rfl ?_
    refine st (.int .i64 (wrap64 (9223372036854775807 - (wrap64 (((rd y332 x387) - 48) % 256))))) rfl rfl (xr_bin _ _ _ rfl rfl rfl (B.sub_i64 _ _)) ?_
    refine st (.int .i64 (wrap64 (Int.tdiv (wrap64 (9223372036854775807 - (wrap64 (((rd y332 x387) - 48) % 256)))) 10))) rfl rfl (xr_bin _ _ _ rfl rfl rfl (B.quo_i64 _ _ (by decide))) ?_
    simp only [ls0, ls1]
    refine st (.bool (decide (x385 > (wrap64 (Int.tdiv (wrap64 (9223372036854775807 - (wrap64 (((rd y332 x387) - 48) % 256)))) 10))))) rfl rfl (xr_bin _ _ _ rfl rfl rfl (B.gtr_i64 _ _)) ?_
    refine wl_end ?_
    (try simp only [ls0, ls1])
    refine hK411 _ _ ?_
    (try clear hK411 K411)
    by_cases c412 : x385 > (wrap64 (Int.tdiv (wrap64 (9223372036854775807 - (wrap64 (((rd y332 x387) - 48) % 256)))) 10))
    ·rw [if_pos c412] at H
     (try rw [(decide_eq_true c412)])
     refine wp_cond_true rfl ?_
     refine wp_seq_k fun K413 hK413 => ?_
     refine wl_region ?_
     refine st (.agg #[.int .i64 0, .int .i64 0, .int .i64 0, .string (⟨#[]⟩ : ByteArray), .string (⟨#[]⟩ : ByteArray), .slice none 0 0]) rfl rfl (xr_build #[] (.agg #[.int .i64 0, .int .i64 0, .int .i64 0, .string (⟨#[]⟩ : ByteArray), .string (⟨#[]⟩ : ByteArray), .slice none 0 0]) rfl (mp_ rfl) (by first | rfl | (go_simp; done) | (go_simp; rfl) | (go_simp; exact i64_w _) | (go_simp; exact i32_w _))) ?_
     refine bx_store (C := C392) (z := 11) (g := g222) (j := 0) (tb := 44) (u := .agg #[.int .i64 0, .int .i64 0, .int .i64 0, .string (⟨#[]⟩ : ByteArray), .string (⟨#[]⟩ : ByteArray), .slice none 0 0]) (seg := [.int .i64 0, .int .i64 0, .int .i64 0, .string (⟨#[]⟩ : ByteArray), .string (⟨#[]⟩ : ByteArray), .slice none 0 0]) (xs := [.int .i64 0, .int .i64 0, .int .i64 0, .string (⟨#[]⟩ : ByteArray), .string (⟨#[]⟩ : ByteArray), .slice none 0 0]) rfl rfl rfl rfl rfl rfl (by first | kernel_rfl | rfl) (by simp [Value.oneCell']) HJ391 (by simp only [List.length_cons, List.length_nil]; omega) rfl ?_
     intro w414 HX415 hs416
     replace HJ390 := HJ390.thru hs416 rfl
     replace HJ388 := HJ388.thru hs416 rfl
     replace HJ389 := HJ389.thru hs416 rfl
     replace HS395 := HS395.trans hs416 hc rfl
     (try simp only [ls0, ls1])
     refine st (.int .i64 18) rfl rfl (xr_assign _ rfl rfl) ?_
     refine wl_end ?_
     (try simp only [ls0, ls1])
     refine hK413 _ _ ?_
     (try clear hK413 K413)
     refine wp_ret ?_
     (try simp only [Exit.inBlock, Exit.then, Exit.noGoto])
     (try simp only [ls0, ls1])
     simp only [Option.some.injEq, Prod.mk.injEq] at H
     obtain ⟨rfl, rfl, rfl, rfl, rfl, rfl, rfl, rfl⟩ := H
     refine bodyPost_ret (res_ct rfl rfl (load_of (load_agg (cs := [.int .i64 0, .int .i64 0, .int .i64 0, .string (⟨#[]⟩ : ByteArray), .string (⟨#[]⟩ : ByteArray), .slice none 0 0]) Try.underlying44 rfl (by kernel_rfl) (bx_cells (HX415).2 0 rfl)))) rfl ?_
     exact ⟨_, none, 0, rfl, HS395, (Own.nil _ _ _ _ _), (Nat.le_refl 0), HJ390⟩
    rw [if_neg c412] at H
    (try rw [(decide_eq_false c412)])
    refine wp_cond_false rfl ?_
    refine wp_skip ?_
    (try simp only [ls0, ls1])
    refine hK410 _ _ ?_
    (try clear hK410 K410)
    refine wl_region ?_
    refine mv_ rfl ?_
    refine st (.int .i64 (wrap64 (10 * x385))) rfl rfl (xr_bin _ _ _ rfl rfl rfl (B.mul_i64 _ _)) ?_
    refine mv_ rfl ?_
    refine st (.int .i64 (wrap64 ((wrap64 (10 * x385)) + (wrap64 (((rd y332 x387) - 48) % 256))))) rfl rfl (xr_bin _ _ _ rfl rfl rfl (B.add_i64 _ _)) ?_
    simp only [ls0, ls1]
    refine as_ rfl ?_
    refine wl_end ?_
    (try simp only [ls0, ls1])
    refine hK404 _ _ ?_
    (try clear hK404 K404)
    refine wl_region ?_
    refine st (.int .i64 (wrap64 (x387 + 1))) rfl rfl (xr_bin _ _ _ rfl rfl rfl (B.add_i64 _ _)) ?_
    refine mv_ rfl ?_
    refine wl_end ?_
    (try simp only [ls0, ls1])
    exact jmpL (fun a_ h_ => ih397 k400 (by omega) a_ _ h_) (fun g_ => ⟨_, wrap64 ((wrap64 (10 * x385)) + (wrap64 (((rd y332 x387) - 48) % 256))), wrap64 (x387 + 1), g_, rfl, HS395, (by omega), HJ386, HJ388, HJ389, HJ390, HJ391, H⟩) rfl
   rw [if_neg c403] at H
   (try rw [(decide_eq_false c403)])
   refine wp_cond_false rfl ?_
   refine wp_exit ?_
   (try simp only [ls0, ls1])
   refine hK228 _ _ ?_
   (try clear hK228 K228)
   refine wp_seq_k fun K417 hK417 => ?_
   refine wl_region ?_
   refine mv_ rfl ?_
   have HP418 : Ft C392 [0, 1] w393 (fun w_ => (Kd.ptr 111 k111).K w_ (some (⟨l0_0, l0_1, a0_2, a0_3⟩ : S111)) [.pointer (some ⟨g0, 0, none⟩)]) := ptr_mk (Ft.more (HJ390.ft) rfl) (k111_mkF _ _ (⟨l0_0, l0_1, a0_2, a0_3⟩ : S111) HCP0_0 (Ft.more HJ388 rfl) HCP0_1 (Ft.more HJ389 rfl))
   obtain ⟨t419, A420, H⟩ := bnd H
   refine st_call #[.pointer (some ⟨g0, 0, none⟩)] rfl rfl Try.func44 (by kernel_rfl) rfl rfl (mp_ rfl) ?_
   refine (expr_Cursor_Pos.calls (.pointer (some ⟨g0, 0, none⟩)) (some (⟨l0_0, l0_1, a0_2, a0_3⟩ : S111) : Option S111) t419  (fun z_ => pal [(0, 0), (1, 0)] (C392 z_)) w393 (fun _ => pal_lt rfl _) (Ft.arg HP418 rfl) A420).mono ?_
   rintro _ w422 ⟨C423, rfl, hs424⟩
   refine ⟨_, rfl, ?_⟩
   replace hs424 := Step.lift (U := [(0, 0)]) hs424 [] rfl rfl
   generalize up C392 C423 w393.heap.size [(0, 0)] = C423_ at hs424
   replace HJ390 := HJ390.thru hs424 rfl
   replace HJ388 := HJ388.thru hs424 rfl
   replace HJ389 := HJ389.thru hs424 rfl
   replace HJ391 := HJ391.thru hs424 rfl
   replace HS395 := HS395.trans hs424 hc rfl
   (try simp only [ls0, ls1])
   refine mv_ rfl ?_
   refine st (.agg #[.int .i64 0, .int .i64 t419, .int .i64 x385, .string (⟨#[]⟩ : ByteArray), .string (⟨#[]⟩ : ByteArray), .slice none 0 0]) rfl rfl (xr_build #[(0, .int .i64 0), (1, .int .i64 t419), (2, .int .i64 x385)] (.agg #[.int .i64 0, .int .i64 t419, .int .i64 x385, .string (⟨#[]⟩ : ByteArray), .string (⟨#[]⟩ : ByteArray), .slice none 0 0]) rfl (mp_ rfl) (by first | rfl | (go_simp; done) | (go_simp; rfl) | (go_simp; exact i64_w _) | (go_simp; exact i32_w _))) ?_
   refine bx_new (C := C423_) 44 ([.int .i64 0, .int .i64 0, .int .i64 0, .string (⟨#[]⟩ : ByteArray), .string (⟨#[]⟩ : ByteArray), .slice none 0 0]) 13 rfl rfl (by first | (go_simp; done) | (go_simp; rfl)) ?_
   intro g425 w426 C427 HX428 hs429
   replace HJ390 := HJ390.thru hs429 rfl
   replace HJ388 := HJ388.thru hs429 rfl
   replace HJ389 := HJ389.thru hs429 rfl
   replace HJ391 := HJ391.thru hs429 rfl
   replace HS395 := HS395.trans hs429 hc rfl
   (try simp only [ls0, ls1])
   refine bx_store (C := C427) (z := 13) (g := g425) (j := 0) (tb := 44) (u := .agg #[.int .i64 0, .int .i64 t419, .int .i64 x385, .string (⟨#[]⟩ : ByteArray), .string (⟨#[]⟩ : ByteArray), .slice none 0 0]) (seg := [.int .i64 0, .int .i64 t419, .int .i64 x385, .string (⟨#[]⟩ : ByteArray), .string (⟨#[]⟩ : ByteArray), .slice none 0 0]) (xs := [.int .i64 0, .int .i64 0, .int .i64 0, .string (⟨#[]⟩ : ByteArray), .string (⟨#[]⟩ : ByteArray), .slice none 0 0]) rfl rfl rfl rfl rfl rfl (by first | kernel_rfl | rfl) (by simp [Value.oneCell']) HX428 (by simp only [List.length_cons, List.length_nil]; omega) rfl ?_
   intro w430 HX431 hs432
   replace HJ390 := HJ390.thru hs432 rfl
   replace HJ388 := HJ388.thru hs432 rfl
   replace HJ389 := HJ389.thru hs432 rfl
   replace HJ391 := HJ391.thru hs432 rfl
   replace HS395 := HS395.trans hs432 hc rfl
   (try simp only [ls0, ls1])
   refine wl_end ?_
   (try simp only [ls0, ls1])
   refine hK417 _ _ ?_
   (try clear hK417 K417)
   refine wp_seq_k fun K433 hK433 => ?_
   refine wl_region ?_
   refine mv_ rfl ?_
   refine st (.pointer (some ⟨g0, 0, none⟩)) rfl rfl (xr_nilCheck _ rfl rfl) ?_
   refine st (.pointer (some ⟨g0, 2, none⟩)) rfl rfl (xr_fieldAddr _ _ rfl rfl (bx_field2 Try.underlying111 rfl rfl (by kernel_rfl))) ?_
   refine st (.int .i64 a0_2) rfl rfl (xr_load _ _ rfl rfl (load_cell Try.underlying3 rfl (bx_cell (HJ390).2 2 rfl))) ?_
   simp only [ls0, ls1]
   refine st (.int .i64 (wrap64 (a0_2 + 1))) rfl rfl (xr_bin _ _ _ rfl rfl rfl (B.add_i64 _ _)) ?_
   refine st (.pointer (some ⟨g0, 0, none⟩)) rfl rfl (xr_nilCheck _ rfl rfl) ?_
   refine st (.pointer (some ⟨g0, 2, none⟩)) rfl rfl (xr_fieldAddr _ _ rfl rfl (bx_field2 Try.underlying111 rfl rfl (by kernel_rfl))) ?_
   refine bx_store (C := C427) (z := 1) (g := g0) (j := 2) (tb := 111) (u := .int .i64 (wrap64 (a0_2 + 1))) (seg := [.int .i64 (wrap64 (a0_2 + 1))]) (xs := [.slice A0_0 l0_0.length c0_0, .slice A0_1 l0_1.length c0_1, .int .i64 a0_2, .int .i64 a0_3]) rfl rfl rfl rfl rfl rfl (by first | kernel_rfl | rfl) (by simp [Value.oneCell']) HJ390 (by simp only [List.length_cons, List.length_nil]; omega) rfl ?_
   intro w434 HX435 hs436
   replace HJ388 := HJ388.thru hs436 rfl
   replace HJ389 := HJ389.thru hs436 rfl
   replace HJ391 := HJ391.thru hs436 rfl
   replace HX431 := HX431.thru hs436 rfl
   replace HS395 := HS395.trans hs436 hc rfl
   (try simp only [ls0, ls1])
   refine wl_end ?_
   (try simp only [ls0, ls1])
   refine hK433 _ _ ?_
   (try clear hK433 K433)
   refine wp_seq_k fun K437 hK437 => ?_
   refine wl_region ?_
   refine st (.agg #[.int .i64 0, .int .i64 t419, .int .i64 x385, .string (⟨#[]⟩ : ByteArray), .string (⟨#[]⟩ : ByteArray), .slice none 0 0]) rfl rfl (xr_load _ _ rfl rfl (load_agg (cs := [.int .i64 0, .int .i64 t419, .int .i64 x385, .string (⟨#[]⟩ : ByteArray), .string (⟨#[]⟩ : ByteArray), .slice none 0 0]) Try.underlying44 rfl (by kernel_rfl) (bx_cells (HX431).2 0 rfl))) ?_
   refine bx_store (C := C427) (z := 11) (g := g222) (j := 0) (tb := 44) (u := .agg #[.int .i64 0, .int .i64 t419, .int .i64 x385, .string (⟨#[]⟩ : ByteArray), .string (⟨#[]⟩ : ByteArray), .slice none 0 0]) (seg := [.int .i64 0, .int .i64 t419, .int .i64 x385, .string (⟨#[]⟩ : ByteArray), .string (⟨#[]⟩ : ByteArray), .slice none 0 0]) (xs := [.int .i64 0, .int .i64 0, .int .i64 0, .string (⟨#[]⟩ : ByteArray), .string (⟨#[]⟩ : ByteArray), .slice none 0 0]) rfl rfl rfl rfl rfl rfl (by first | kernel_rfl | rfl) (by simp [Value.oneCell']) HJ391 (by simp only [List.length_cons, List.length_nil]; omega) rfl ?_
   intro w438 HX439 hs440
   replace HX435 := HX435.thru hs440 rfl
   replace HJ388 := HJ388.thru hs440 rfl
   replace HJ389 := HJ389.thru hs440 rfl
   replace HX431 := HX431.thru hs440 rfl
   replace HS395 := HS395.trans hs440 hc rfl
   (try simp only [ls0, ls1])
   refine st (.int .i64 0) rfl rfl (xr_assign _ rfl rfl) ?_
   refine wl_end ?_
   (try simp only [ls0, ls1])
   refine hK437 _ _ ?_
   (try clear hK437 K437)
   refine wp_ret ?_
   (try simp only [Exit.inBlock, Exit.then, Exit.noGoto])
   (try simp only [ls0, ls1])
   simp only [Option.some.injEq, Prod.mk.injEq] at H
   obtain ⟨rfl, rfl, rfl, rfl, rfl, rfl, rfl, rfl⟩ := H
   refine bodyPost_ret (res_ct rfl rfl (load_of (load_agg (cs := [.int .i64 0, .int .i64 t419, .int .i64 x385, .string (⟨#[]⟩ : ByteArray), .string (⟨#[]⟩ : ByteArray), .slice none 0 0]) Try.underlying44 rfl (by kernel_rfl) (bx_cells (HX439).2 0 rfl)))) rfl ?_
   exact ⟨_, none, 0, rfl, HS395, (Own.nil _ _ _ _ _), (Nat.le_refl 0), HX435⟩

/-! ### expr_Cursor_down: function 121 -/
def expr_Cursor_down.f (l0_0 : List Int) (l0_1 : List (S28)) (a0_2 : Int) (a0_3 : Int) : Option (Int × Int × Int) := if a0_3 ≥ 32 then (some (12, a0_2, a0_3)) else (some (0, wrap64 (a0_2 + 1), wrap64 (a0_3 + 1)))
set_option maxHeartbeats 8000000 in
set_option maxRecDepth 100000 in
theorem expr_Cursor_down.calls (g0 : Nat) (A0_0 : Option Addr) (c0_0 : Nat) (l0_0 : List Int) (A0_1 : Option Addr) (c0_1 : Nat) (l0_1 : List (S28)) (a0_2 : Int) (a0_3 : Int) (r1 : Int) (r2 : Int) (r3 : Int) (c : Nat → Nat) (w : World) (hc : ∀ k, c k < 10) (HP0 : Bx c 1 w g0 111 ([.slice A0_0 l0_0.length c0_0, .slice A0_1 l0_1.length c0_1, .int .i64 a0_2, .int .i64 a0_3])) (HP0_0 : Ft c [0] w (fun w_ => (Kd.int .u8).C w_ A0_0 l0_0.length l0_0)) (HCP0_0 : l0_0.length ≤ c0_0) (HP0_1 : Ft c [0] w (fun w_ => k28.C w_ A0_1 l0_1.length l0_1)) (HCP0_1 : l0_1.length ≤ c0_1) (H : expr_Cursor_down.f l0_0 l0_1 a0_2 a0_3 = some (r1, r2, r3)) :
    Calls Try.prog 121 #[.pointer (some ⟨g0, 0, none⟩)] w fun e w' => ∃ (c' : Nat → Nat) , e = .returned (.int .i64 r1) ∧ Step c w c' w' [1] ∧ Bx c' 1 w' g0 111 ([.slice A0_0 l0_0.length c0_0, .slice A0_1 l0_1.length c0_1, .int .i64 r2, .int .i64 r3]) := by
 unfold expr_Cursor_down.f at H
 have HS := Step.refl c w [1]
 go_enter Try.func121, Try.ntmps121
 refine wp_seq_k fun K15 hK15 => ?_
 refine wl_region ?_
 refine st (.int .i64 0) rfl rfl (xr_assign _ rfl rfl) ?_
 refine wl_end ?_
 (try simp only [ls0, ls1])
 refine hK15 _ _ ?_
 (try clear hK15 K15)
 refine wp_seq_k fun K16 hK16 => ?_
 refine wp_seq_k fun K17 hK17 => ?_
 refine wl_region ?_
 refine mv_ rfl ?_
 refine st (.pointer (some ⟨g0, 0, none⟩)) rfl rfl (xr_nilCheck _ rfl rfl) ?_
 refine st (.pointer (some ⟨g0, 3, none⟩)) rfl rfl (xr_fieldAddr _ _ rfl rfl (bx_field2 Try.underlying111 rfl rfl (by kernel_rfl))) ?_
 refine st (.int .i64 a0_3) rfl rfl (xr_load _ _ rfl rfl (load_cell Try.underlying3 rfl (bx_cell (HP0).2 3 rfl))) ?_
 simp only [ls0, ls1]
 refine st (.bool (decide (a0_3 ≥ 32))) rfl rfl (xr_bin _ _ _ rfl rfl rfl (B.geq_i64 _ _)) ?_
 refine wl_end ?_
 (try simp only [ls0, ls1])
 refine hK17 _ _ ?_
 (try clear hK17 K17)
 by_cases c18 : a0_3 ≥ 32
 ·rw [if_pos c18] at H
  (try rw [(decide_eq_true c18)])
  refine wp_cond_true rfl ?_
  refine wp_seq_k fun K19 hK19 => ?_
  refine wl_region ?_
  refine st (.int .i64 12) rfl rfl (xr_assign _ rfl rfl) ?_
  refine wl_end ?_
  (try simp only [ls0, ls1])
  refine hK19 _ _ ?_
  (try clear hK19 K19)
  refine wp_ret ?_
  (try simp only [Exit.inBlock, Exit.then, Exit.noGoto])
  (try simp only [ls0, ls1])
  simp only [Option.some.injEq, Prod.mk.injEq] at H
  obtain ⟨rfl, rfl, rfl⟩ := H
  refine bodyPost_ret (results_tmp rfl _ _ _) rfl ?_
  exact ⟨_, rfl, HS, HP0⟩
 rw [if_neg c18] at H
 (try rw [(decide_eq_false c18)])
 refine wp_cond_false rfl ?_
 refine wp_skip ?_
 (try simp only [ls0, ls1])
 refine hK16 _ _ ?_
 (try clear hK16 K16)
 refine wp_seq_k fun K20 hK20 => ?_
 refine wl_region ?_
 refine mv_ rfl ?_
 refine st (.pointer (some ⟨g0, 0, none⟩)) rfl rfl (xr_nilCheck _ rfl rfl) ?_
 refine st (.pointer (some ⟨g0, 3, none⟩)) rfl rfl (xr_fieldAddr _ _ rfl rfl (bx_field2 Try.underlying111 rfl rfl (by kernel_rfl))) ?_
 refine st (.int .i64 a0_3) rfl rfl (xr_load _ _ rfl rfl (load_cell Try.underlying3 rfl (bx_cell (HP0).2 3 rfl))) ?_
 simp only [ls0, ls1]
 refine st (.int .i64 (wrap64 (a0_3 + 1))) rfl rfl (xr_bin _ _ _ rfl rfl rfl (B.add_i64 _ _)) ?_
 refine st (.pointer (some ⟨g0, 0, none⟩)) rfl rfl (xr_nilCheck _ rfl rfl) ?_
 refine st (.pointer (some ⟨g0, 3, none⟩)) rfl rfl (xr_fieldAddr _ _ rfl rfl (bx_field2 Try.underlying111 rfl rfl (by kernel_rfl))) ?_
 refine bx_store (C := c) (z := 1) (g := g0) (j := 3) (tb := 111) (u := .int .i64 (wrap64 (a0_3 + 1))) (seg := [.int .i64 (wrap64 (a0_3 + 1))]) (xs := [.slice A0_0 l0_0.length c0_0, .slice A0_1 l0_1.length c0_1, .int .i64 a0_2, .int .i64 a0_3]) rfl rfl rfl rfl rfl rfl (by first | kernel_rfl | rfl) (by simp [Value.oneCell']) HP0 (by simp only [List.length_cons, List.length_nil]; omega) rfl ?_
 intro w21 HX22 hs23
 replace HP0_0 := HP0_0.thru hs23 rfl
 replace HP0_1 := HP0_1.thru hs23 rfl
 replace HS := HS.trans hs23 hc rfl
 (try simp only [ls0, ls1])
 refine wl_end ?_
 (try simp only [ls0, ls1])
 refine hK20 _ _ ?_
 (try clear hK20 K20)
 refine wp_seq_k fun K24 hK24 => ?_
 refine wl_region ?_
 refine mv_ rfl ?_
 refine st (.pointer (some ⟨g0, 0, none⟩)) rfl rfl (xr_nilCheck _ rfl rfl) ?_
 refine st (.pointer (some ⟨g0, 2, none⟩)) rfl rfl (xr_fieldAddr _ _ rfl rfl (bx_field2 Try.underlying111 rfl rfl (by kernel_rfl))) ?_
 refine st (.int .i64 a0_2) rfl rfl (xr_load _ _ rfl rfl (load_cell Try.underlying3 rfl (bx_cell (HX22).2 2 rfl))) ?_
 simp only [ls0, ls1]
 refine st (.int .i64 (wrap64 (a0_2 + 1))) rfl rfl (xr_bin _ _ _ rfl rfl rfl (B.add_i64 _ _)) ?_
 refine st (.pointer (some ⟨g0, 0, none⟩)) rfl rfl (xr_nilCheck _ rfl rfl) ?_
 refine st (.pointer (some ⟨g0, 2, none⟩)) rfl rfl (xr_fieldAddr _ _ rfl rfl (bx_field2 Try.underlying111 rfl rfl (by kernel_rfl))) ?_
 refine bx_store (C := c) (z := 1) (g := g0) (j := 2) (tb := 111) (u := .int .i64 (wrap64 (a0_2 + 1))) (seg := [.int .i64 (wrap64 (a0_2 + 1))]) (xs := [.slice A0_0 l0_0.length c0_0, .slice A0_1 l0_1.length c0_1, .int .i64 a0_2, .int .i64 (wrap64 (a0_3 + 1))]) rfl rfl rfl rfl rfl rfl (by first | kernel_rfl | rfl) (by simp [Value.oneCell']) HX22 (by simp only [List.length_cons, List.length_nil]; omega) rfl ?_
 intro w25 HX26 hs27
 replace HP0_0 := HP0_0.thru hs27 rfl
 replace HP0_1 := HP0_1.thru hs27 rfl
 replace HS := HS.trans hs27 hc rfl
 (try simp only [ls0, ls1])
 refine wl_end ?_
 (try simp only [ls0, ls1])
 refine hK24 _ _ ?_
 (try clear hK24 K24)
 refine wp_seq_k fun K28 hK28 => ?_
 refine wl_region ?_
 refine st (.int .i64 0) rfl rfl (xr_assign _ rfl rfl) ?_
 refine wl_end ?_
 (try simp only [ls0, ls1])
 refine hK28 _ _ ?_
 (try clear hK28 K28)
 refine wp_ret ?_
 (try simp only [Exit.inBlock, Exit.then, Exit.noGoto])
 (try simp only [ls0, ls1])
 simp only [Option.some.injEq, Prod.mk.injEq] at H
 obtain ⟨rfl, rfl, rfl⟩ := H
 refine bodyPost_ret (results_tmp rfl _ _ _) rfl ?_
 exact ⟨_, rfl, HS, HX26⟩

/-! ### expr_Cursor_Take: function 48 -/
def expr_Cursor_Take.j0 (a0_2 : Int) (x110 : Bool) : Option (Bool × Int) := if x110 = true then (some (false, a0_2)) else (some (true, wrap64 (a0_2 + 1)))
def expr_Cursor_Take.f (l0_0 : List Int) (l0_1 : List (S28)) (a0_2 : Int) (a0_3 : Int) (a1 : ByteArray) : Option (Bool × Int) := if a1 = (⟨#[]⟩ : ByteArray) then (expr_Cursor_Take.j0 a0_2 true) else ((expr_Cursor_Peek.f (some (⟨l0_0, l0_1, a0_2, a0_3⟩ : S111) : Option S111)).bind fun t125 => (expr_Cursor_Take.j0 a0_2 (!decide (t125 = a1))))
set_option maxHeartbeats 8000000 in
set_option maxRecDepth 100000 in
theorem expr_Cursor_Take.calls (g0 : Nat) (A0_0 : Option Addr) (c0_0 : Nat) (l0_0 : List Int) (A0_1 : Option Addr) (c0_1 : Nat) (l0_1 : List (S28)) (a0_2 : Int) (a0_3 : Int) (a1 : ByteArray) (r1 : Bool) (r2 : Int) (c : Nat → Nat) (w : World) (hc : ∀ k, c k < 10) (HP0 : Bx c 1 w g0 111 ([.slice A0_0 l0_0.length c0_0, .slice A0_1 l0_1.length c0_1, .int .i64 a0_2, .int .i64 a0_3])) (HP0_0 : Ft c [0] w (fun w_ => (Kd.int .u8).C w_ A0_0 l0_0.length l0_0)) (HCP0_0 : l0_0.length ≤ c0_0) (HP0_1 : Ft c [0] w (fun w_ => k28.C w_ A0_1 l0_1.length l0_1)) (HCP0_1 : l0_1.length ≤ c0_1) (H : expr_Cursor_Take.f l0_0 l0_1 a0_2 a0_3 a1 = some (r1, r2)) :
    Calls Try.prog 48 #[.pointer (some ⟨g0, 0, none⟩), .string a1] w fun e w' => ∃ (c' : Nat → Nat) , e = .returned (.bool r1) ∧ Step c w c' w' [1] ∧ Bx c' 1 w' g0 111 ([.slice A0_0 l0_0.length c0_0, .slice A0_1 l0_1.length c0_1, .int .i64 r2, .int .i64 a0_3]) := by
 unfold expr_Cursor_Take.f at H
 have HS := Step.refl c w [1]
 go_enter Try.func48, Try.ntmps48
 refine wp_seq_k fun K66 hK66 => ?_
 refine wl_region ?_
 refine st (.bool false) rfl rfl (xr_assign _ rfl rfl) ?_
 refine wl_end ?_
 (try simp only [ls0, ls1])
 refine hK66 _ _ ?_
 (try clear hK66 K66)
 refine wp_seq_k fun K67 hK67 => ?_
 refine wp_seq_k fun K97 hK97 => ?_
 have hj106 : ∀ (C107 : Nat → Nat) (w108 : World) (x110 : Bool) (g_ : Nat → Value), Step c w C107 w108 [1] → (Ft C107 [0] w108 (fun w_ => (Kd.int .u8).C w_ A0_0 l0_0.length l0_0)) → (Ft C107 [0] w108 (fun w_ => k28.C w_ A0_1 l0_1.length l0_1)) → (Bx C107 1 w108 g0 111 ([.slice A0_0 l0_0.length c0_0, .slice A0_1 l0_1.length c0_1, .int .i64 a0_2, .int .i64 a0_3])) → expr_Cursor_Take.j0 a0_2 x110 = some (r1, r2) → K97 ⟨#[.pointer (some ⟨g0, 0, none⟩), (g_ 1), (g_ 2), (g_ 3), (g_ 4), (g_ 5), (g_ 6), (g_ 7), (g_ 8), (g_ 9), (g_ 10), (g_ 11), (g_ 12), (g_ 13), (g_ 14), (g_ 15), .bool x110, (g_ 17), (g_ 18), (g_ 19), (g_ 20), (g_ 21), (g_ 22), (g_ 23)], []⟩ w108 := by
  intro C107 w108 x110 g_ HS109 HJ111 HJ112 HJ113 H
  unfold expr_Cursor_Take.j0 at H
  refine hK97 _ _ ?_
  (try clear hK97)
  by_cases c116 : x110 = true
  ·rw [if_pos c116] at H
   (try rw [c116])
   refine wp_cond_true rfl ?_
   refine wp_seq_k fun K117 hK117 => ?_
   refine wl_region ?_
   refine st (.bool false) rfl rfl (xr_assign _ rfl rfl) ?_
   simp only [ls0, ls1]
   refine wl_end ?_
   (try simp only [ls0, ls1])
   refine hK117 _ _ ?_
   (try clear hK117 K117)
   refine wp_ret ?_
   (try simp only [Exit.inBlock, Exit.then, Exit.noGoto])
   (try simp only [ls0, ls1])
   simp only [Option.some.injEq, Prod.mk.injEq] at H
   obtain ⟨rfl, rfl⟩ := H
   refine bodyPost_ret (results_tmp rfl _ _ _) rfl ?_
   exact ⟨_, rfl, HS109, HJ113⟩
  rw [if_neg c116] at H
  (try rw [(Bool.eq_false_iff.mpr c116)])
  refine wp_cond_false rfl ?_
  refine wp_skip ?_
  (try simp only [ls0, ls1])
  refine hK67 _ _ ?_
  (try clear hK67 K67)
  refine wp_seq_k fun K118 hK118 => ?_
  refine wl_region ?_
  refine mv_ rfl ?_
  refine st (.pointer (some ⟨g0, 0, none⟩)) rfl rfl (xr_nilCheck _ rfl rfl) ?_
  refine st (.pointer (some ⟨g0, 2, none⟩)) rfl rfl (xr_fieldAddr _ _ rfl rfl (bx_field2 Try.underlying111 rfl rfl (by kernel_rfl))) ?_
  refine st (.int .i64 a0_2) rfl rfl (xr_load _ _ rfl rfl (load_cell Try.underlying3 rfl (bx_cell (HJ113).2 2 rfl))) ?_
  simp only [ls0, ls1]
  refine st (.int .i64 (wrap64 (a0_2 + 1))) rfl rfl (xr_bin _ _ _ rfl rfl rfl (B.add_i64 _ _)) ?_
  refine st (.pointer (some ⟨g0, 0, none⟩)) rfl rfl (xr_nilCheck _ rfl rfl) ?_
  refine st (.pointer (some ⟨g0, 2, none⟩)) rfl rfl (xr_fieldAddr _ _ rfl rfl (bx_field2 Try.underlying111 rfl rfl (by kernel_rfl))) ?_
  refine bx_store (C := C107) (z := 1) (g := g0) (j := 2) (tb := 111) (u := .int .i64 (wrap64 (a0_2 + 1))) (seg := [.int .i64 (wrap64 (a0_2 + 1))]) (xs := [.slice A0_0 l0_0.length c0_0, .slice A0_1 l0_1.length c0_1, .int .i64 a0_2, .int .i64 a0_3]) rfl rfl rfl rfl rfl rfl (by first | kernel_rfl | rfl) (by simp [Value.oneCell']) HJ113 (by simp only [List.length_cons, List.length_nil]; omega) rfl ?_
  intro w119 HX120 hs121
  replace HJ111 := HJ111.thru hs121 rfl
  replace HJ112 := HJ112.thru hs121 rfl
  replace HS109 := HS109.trans hs121 hc rfl
  (try simp only [ls0, ls1])
  refine wl_end ?_
  (try simp only [ls0, ls1])
  refine hK118 _ _ ?_
  (try clear hK118 K118)
  refine wp_seq_k fun K122 hK122 => ?_
  refine wl_region ?_
  refine st (.bool true) rfl rfl (xr_assign _ rfl rfl) ?_
  refine wl_end ?_
  (try simp only [ls0, ls1])
  refine hK122 _ _ ?_
  (try clear hK122 K122)
  refine wp_ret ?_
  (try simp only [Exit.inBlock, Exit.then, Exit.noGoto])
  (try simp only [ls0, ls1])
  simp only [Option.some.injEq, Prod.mk.injEq] at H
  obtain ⟨rfl, rfl⟩ := H
  refine bodyPost_ret (results_tmp rfl _ _ _) rfl ?_
  exact ⟨_, rfl, HS109, HX120⟩
 refine wl_region ?_
 refine mv_ rfl ?_
 refine st (.bool false) rfl rfl (xr_bin (.pointer (some ⟨g0, 0, none⟩)) (.pointer none) (.bool false) rfl rfl rfl (B.eql_pn ⟨_, Try.underlying57⟩ ⟨g0, 0, none⟩)) ?_
 refine mv_ rfl ?_
 refine on_guard (guard_on 2 false 7 rfl rfl rfl) ?_
 refine mv_ rfl ?_
 simp only [ls0, ls1]
 refine on_guard (guard_on 2 false 7 rfl rfl rfl) ?_
 refine st (.bool (decide (a1 = (⟨#[]⟩ : ByteArray)))) rfl rfl (xr_bin _ _ _ rfl rfl rfl (B.eql_str _ _)) ?_
 refine st (.bool (decide (a1 = (⟨#[]⟩ : ByteArray)))) rfl rfl (xr_pick false _ rfl rfl rfl) ?_
 refine mv_ rfl ?_
 by_cases c123 : a1 = (⟨#[]⟩ : ByteArray)
 ·rw [if_pos c123] at H
  (try rw [(decide_eq_true c123)])
  refine sk_guard (guard_off 6 false 11 rfl rfl true (by decide) rfl) rfl ?_
  simp only [ls0, ls1]
  refine sk_guard (guard_off 6 false 11 rfl rfl true (by decide) rfl) rfl ?_
  refine sk_guard (guard_off 6 false 11 rfl rfl true (by decide) rfl) rfl ?_
  refine sk_guard (guard_off 6 false 11 rfl rfl true (by decide) rfl) rfl ?_
  refine st (.bool true) rfl rfl (xr_pick true _ rfl rfl rfl) ?_
  simp only [ls0, ls1]
  refine wl_end ?_
  (try simp only [ls0, ls1])
  exact jmp (fun g_ => hj106 _ _ (true) g_ HS HP0_0 HP0_1 HP0 H) rfl
 rw [if_neg c123] at H
 (try rw [(decide_eq_false c123)])
 refine on_guard (guard_on 6 false 11 rfl rfl rfl) ?_
 refine mv_ rfl ?_
 refine on_guard (guard_on 6 false 11 rfl rfl rfl) ?_
 have HP124 : Ft c [0, 1] w (fun w_ => (Kd.ptr 111 k111).K w_ (some (⟨l0_0, l0_1, a0_2, a0_3⟩ : S111)) [.pointer (some ⟨g0, 0, none⟩)]) := ptr_mk (Ft.more (HP0.ft) rfl) (k111_mkF _ _ (⟨l0_0, l0_1, a0_2, a0_3⟩ : S111) HCP0_0 (Ft.more HP0_0 rfl) HCP0_1 (Ft.more HP0_1 rfl))
 obtain ⟨t125, A126, H⟩ := bnd H
 refine st_call #[.pointer (some ⟨g0, 0, none⟩)] rfl rfl Try.func43 (by kernel_rfl) rfl rfl (mp_ rfl) ?_
 refine (expr_Cursor_Peek.calls (.pointer (some ⟨g0, 0, none⟩)) (some (⟨l0_0, l0_1, a0_2, a0_3⟩ : S111) : Option S111) t125  (fun z_ => pal [(0, 0), (1, 0)] (c z_)) w (fun _ => pal_lt rfl _) (Ft.arg HP124 rfl) A126).mono ?_
 rintro _ w128 ⟨C129, rfl, hs130⟩
 refine ⟨_, rfl, ?_⟩
 replace hs130 := Step.lift (U := [(0, 0)]) hs130 [] rfl rfl
 generalize up c C129 w.heap.size [(0, 0)] = C129_ at hs130
 replace HP0 := HP0.thru hs130 rfl
 replace HP0_0 := HP0_0.thru hs130 rfl
 replace HP0_1 := HP0_1.thru hs130 rfl
 replace HS := HS.trans hs130 hc rfl
 (try simp only [ls0, ls1])
 refine on_guard (guard_on 6 false 11 rfl rfl rfl) ?_
 refine mv_ rfl ?_
 refine on_guard (guard_on 6 false 11 rfl rfl rfl) ?_
 refine st (.bool (!decide (t125 = a1))) rfl rfl (xr_bin _ _ _ rfl rfl rfl (B.neq_str _ _)) ?_
 refine st (.bool (!decide (t125 = a1))) rfl rfl (xr_pick false _ rfl rfl rfl) ?_
 refine wl_end ?_
 (try simp only [ls0, ls1])
 exact jmp (fun g_ => hj106 _ _ (!decide (t125 = a1)) g_ HS HP0_0 HP0_1 HP0 H) rfl

/-! ### expr_Cursor_Take_nil: function 48 -/
def expr_Cursor_Take_nil.f (a1 : ByteArray) : Option (Bool) := some false
set_option maxHeartbeats 8000000 in
set_option maxRecDepth 100000 in
theorem expr_Cursor_Take_nil.calls (a1 : ByteArray) (r : Bool) (c : Nat → Nat) (w : World) (hc : ∀ k, c k < 10)  (H : expr_Cursor_Take_nil.f a1 = some r) :
    Calls Try.prog 48 #[.pointer none, .string a1] w fun e w' => ∃ (c' : Nat → Nat) , e = .returned (.bool r) ∧ Step c w c' w' [] := by
 unfold expr_Cursor_Take_nil.f at H
 have HS := Step.refl c w []
 go_enter Try.func48, Try.ntmps48
 refine wp_seq_k fun K7 hK7 => ?_
 refine wl_region ?_
 refine st (.bool false) rfl rfl (xr_assign _ rfl rfl) ?_
 refine wl_end ?_
 (try simp only [ls0, ls1])
 refine hK7 _ _ ?_
 (try clear hK7 K7)
 refine wp_seq_k fun K8 hK8 => ?_
 refine wp_seq_k fun K11 hK11 => ?_
 refine wl_region ?_
 refine mv_ rfl ?_
 refine st (.bool true) rfl rfl (xr_bin (.pointer none) (.pointer none) (.bool true) rfl rfl rfl (B.eql_nn ⟨_, Try.underlying57⟩ (⟨0, 0, none⟩ : Addr))) ?_
 refine mv_ rfl ?_
 refine sk_guard (guard_off 2 false 7 rfl rfl true (by decide) rfl) rfl ?_
 simp only [ls0, ls1]
 refine sk_guard (guard_off 2 false 7 rfl rfl true (by decide) rfl) rfl ?_
 refine st (.bool true) rfl rfl (xr_pick true _ rfl rfl rfl) ?_
 refine mv_ rfl ?_
 refine sk_guard (guard_off 6 false 11 rfl rfl true (by decide) rfl) rfl ?_
 simp only [ls0, ls1]
 refine sk_guard (guard_off 6 false 11 rfl rfl true (by decide) rfl) rfl ?_
 refine sk_guard (guard_off 6 false 11 rfl rfl true (by decide) rfl) rfl ?_
 refine sk_guard (guard_off 6 false 11 rfl rfl true (by decide) rfl) rfl ?_
 refine st (.bool true) rfl rfl (xr_pick true _ rfl rfl rfl) ?_
 simp only [ls0, ls1]
 refine wl_end ?_
 (try simp only [ls0, ls1])
 refine hK11 _ _ ?_
 (try clear hK11 K11)
 refine wp_cond_true rfl ?_
 refine wp_seq_k fun K12 hK12 => ?_
 refine wl_region ?_
 refine st (.bool false) rfl rfl (xr_assign _ rfl rfl) ?_
 refine wl_end ?_
 (try simp only [ls0, ls1])
 refine hK12 _ _ ?_
 (try clear hK12 K12)
 refine wp_ret ?_
 (try simp only [Exit.inBlock, Exit.then, Exit.noGoto])
 (try simp only [ls0, ls1])
 obtain rfl := Option.some.inj H
 refine bodyPost_ret (results_tmp rfl _ _ _) rfl ?_
 exact ⟨_, rfl, HS⟩

/-! ### expr_Cursor_end: function 135 -/
def expr_Cursor_end.f (l0_0 : List Int) (l0_1 : List (S28)) (a0_2 : Int) (a0_3 : Int) : Option (Int × Int × Int) := (expr_Cursor_Take.f l0_0 l0_1 a0_2 a0_3 (⟨#[41]⟩ : ByteArray)).bind fun bt22 => (if bt22.1 = true then (some (0, bt22.2, wrap64 (a0_3 - 1))) else (some (11, bt22.2, a0_3)))
set_option maxHeartbeats 8000000 in
set_option maxRecDepth 100000 in
theorem expr_Cursor_end.calls (g0 : Nat) (A0_0 : Option Addr) (c0_0 : Nat) (l0_0 : List Int) (A0_1 : Option Addr) (c0_1 : Nat) (l0_1 : List (S28)) (a0_2 : Int) (a0_3 : Int) (r1 : Int) (r2 : Int) (r3 : Int) (c : Nat → Nat) (w : World) (hc : ∀ k, c k < 10) (HP0 : Bx c 1 w g0 111 ([.slice A0_0 l0_0.length c0_0, .slice A0_1 l0_1.length c0_1, .int .i64 a0_2, .int .i64 a0_3])) (HP0_0 : Ft c [0] w (fun w_ => (Kd.int .u8).C w_ A0_0 l0_0.length l0_0)) (HCP0_0 : l0_0.length ≤ c0_0) (HP0_1 : Ft c [0] w (fun w_ => k28.C w_ A0_1 l0_1.length l0_1)) (HCP0_1 : l0_1.length ≤ c0_1) (H : expr_Cursor_end.f l0_0 l0_1 a0_2 a0_3 = some (r1, r2, r3)) :
    Calls Try.prog 135 #[.pointer (some ⟨g0, 0, none⟩)] w fun e w' => ∃ (c' : Nat → Nat) , e = .returned (.int .i64 r1) ∧ Step c w c' w' [1] ∧ Bx c' 1 w' g0 111 ([.slice A0_0 l0_0.length c0_0, .slice A0_1 l0_1.length c0_1, .int .i64 r2, .int .i64 r3]) := by
 unfold expr_Cursor_end.f at H
 have HS := Step.refl c w [1]
 go_enter Try.func135, Try.ntmps135
 refine wp_seq_k fun K19 hK19 => ?_
 refine wl_region ?_
 refine st (.int .i64 0) rfl rfl (xr_assign _ rfl rfl) ?_
 refine wl_end ?_
 (try simp only [ls0, ls1])
 refine hK19 _ _ ?_
 (try clear hK19 K19)
 refine wp_seq_k fun K20 hK20 => ?_
 refine wp_seq_k fun K21 hK21 => ?_
 refine wl_region ?_
 refine mv_ rfl ?_
 obtain ⟨⟨t22, t23⟩, A24, H⟩ := bnd H
 (try dsimp only at H)
 refine st_call #[.pointer (some ⟨g0, 0, none⟩), .string (⟨#[41]⟩ : ByteArray)] rfl rfl Try.func48 (by kernel_rfl) rfl rfl (mp_ rfl) ?_
 refine (expr_Cursor_Take.calls g0 A0_0 c0_0 l0_0 A0_1 c0_1 l0_1 a0_2 a0_3 (⟨#[41]⟩ : ByteArray) t22 t23  (fun z_ => pal [(0, 0), (1, 1)] (c z_)) w (fun _ => pal_lt rfl _) (Bx.arg HP0 rfl) (Ft.arg HP0_0 rfl) HCP0_0 (Ft.arg HP0_1 rfl) HCP0_1 A24).mono ?_
 rintro _ w26 ⟨C27, rfl, hs28, HX29⟩
 refine ⟨_, rfl, ?_⟩
 replace HX29 := Bx.res (U := [(0, 0), (1, 1)]) (j := 1) HX29 hs28 (by rfl) (by decide) rfl
 replace hs28 := Step.lift (U := [(0, 0), (1, 1)]) hs28 [1] rfl rfl
 generalize up c C27 w.heap.size [(0, 0), (1, 1)] = C27_ at HX29 hs28
 replace HP0_0 := HP0_0.thru hs28 rfl
 replace HP0_1 := HP0_1.thru hs28 rfl
 replace HS := HS.trans hs28 hc rfl
 (try simp only [ls0, ls1])
 refine st (.bool (!t22)) rfl rfl (xr_un (.bool t22) _ rfl rfl (by first | rfl | (go_simp; done) | (go_simp; rfl) | (go_simp; exact i64_w _) | (go_simp; exact i32_w _))) ?_
 refine wl_end ?_
 (try simp only [ls0, ls1])
 refine hK21 _ _ ?_
 (try clear hK21 K21)
 by_cases c30 : t22 = true
 ·rw [if_pos c30] at H
  (try rw [c30])
  (try simp only [Bool.not_true, Bool.not_false])
  refine wp_cond_false rfl ?_
  refine wp_skip ?_
  (try simp only [ls0, ls1])
  refine hK20 _ _ ?_
  (try clear hK20 K20)
  refine wp_seq_k fun K31 hK31 => ?_
  refine wl_region ?_
  refine mv_ rfl ?_
  refine st (.pointer (some ⟨g0, 0, none⟩)) rfl rfl (xr_nilCheck _ rfl rfl) ?_
  refine st (.pointer (some ⟨g0, 3, none⟩)) rfl rfl (xr_fieldAddr _ _ rfl rfl (bx_field2 Try.underlying111 rfl rfl (by kernel_rfl))) ?_
  refine st (.int .i64 a0_3) rfl rfl (xr_load _ _ rfl rfl (load_cell Try.underlying3 rfl (bx_cell (HX29).2 3 rfl))) ?_
  simp only [ls0, ls1]
  refine st (.int .i64 (wrap64 (a0_3 - 1))) rfl rfl (xr_bin _ _ _ rfl rfl rfl (B.sub_i64 _ _)) ?_
  refine st (.pointer (some ⟨g0, 0, none⟩)) rfl rfl (xr_nilCheck _ rfl rfl) ?_
  refine st (.pointer (some ⟨g0, 3, none⟩)) rfl rfl (xr_fieldAddr _ _ rfl rfl (bx_field2 Try.underlying111 rfl rfl (by kernel_rfl))) ?_
  refine bx_store (C := C27_) (z := 1) (g := g0) (j := 3) (tb := 111) (u := .int .i64 (wrap64 (a0_3 - 1))) (seg := [.int .i64 (wrap64 (a0_3 - 1))]) (xs := [.slice A0_0 l0_0.length c0_0, .slice A0_1 l0_1.length c0_1, .int .i64 t23, .int .i64 a0_3]) rfl rfl rfl rfl rfl rfl (by first | kernel_rfl | rfl) (by simp [Value.oneCell']) HX29 (by simp only [List.length_cons, List.length_nil]; omega) rfl ?_
  intro w32 HX33 hs34
  replace HP0_0 := HP0_0.thru hs34 rfl
  replace HP0_1 := HP0_1.thru hs34 rfl
  replace HS := HS.trans hs34 hc rfl
  (try simp only [ls0, ls1])
  refine wl_end ?_
  (try simp only [ls0, ls1])
  refine hK31 _ _ ?_
  (try clear hK31 K31)
  refine wp_seq_k fun K35 hK35 => ?_
  refine wl_region ?_
  refine st (.int .i64 0) rfl rfl (xr_assign _ rfl rfl) ?_
  refine wl_end ?_
  (try simp only [ls0, ls1])
  refine hK35 _ _ ?_
  (try clear hK35 K35)
  refine wp_ret ?_
  (try simp only [Exit.inBlock, Exit.then, Exit.noGoto])
  (try simp only [ls0, ls1])
  simp only [Option.some.injEq, Prod.mk.injEq] at H
  obtain ⟨rfl, rfl, rfl⟩ := H
  refine bodyPost_ret (results_tmp rfl _ _ _) rfl ?_
  exact ⟨_, rfl, HS, HX33⟩
 rw [if_neg c30] at H
 (try rw [(Bool.eq_false_iff.mpr c30)])
 (try simp only [Bool.not_true, Bool.not_false])
 refine wp_cond_true rfl ?_
 refine wp_seq_k fun K36 hK36 => ?_
 refine wl_region ?_
 refine st (.int .i64 11) rfl rfl (xr_assign _ rfl rfl) ?_
 refine wl_end ?_
 (try simp only [ls0, ls1])
 refine hK36 _ _ ?_
 (try clear hK36 K36)
 refine wp_ret ?_
 (try simp only [Exit.inBlock, Exit.then, Exit.noGoto])
 (try simp only [ls0, ls1])
 simp only [Option.some.injEq, Prod.mk.injEq] at H
 obtain ⟨rfl, rfl, rfl⟩ := H
 refine bodyPost_ret (results_tmp rfl _ _ _) rfl ?_
 exact ⟨_, rfl, HS, HX29⟩

end Go.Proofs.Yteoccoklbmjiaaa.PExb
