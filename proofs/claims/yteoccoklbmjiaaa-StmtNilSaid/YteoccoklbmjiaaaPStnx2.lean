-- By cprint.py, a program of this work. Lean checks it.
import Derived.Test.YteoccoklbmjiaaaPStnx0
import Derived.Test.YteoccoklbmjiaaaPStnx1
namespace Go.Proofs.Yteoccoklbmjiaaa.PStn
open Go.RowKit Go.Proofs.YteoccoklbmjiaaaW.PrintWords Go.Proofs.YteoccoklbmjiaaaW.PrintLast Go.Proofs.YteoccoklbmjiaaaW.PrintMore
set_option linter.unusedVariables false
set_option linter.unusedSimpArgs false

/-! ### expr_New: function 40 -/
def expr_New.f (k : Nat) (l0 : List Int) : Option (List Int × (List (S28)) × Int × Int) := (slices_Clone_byte_byte.f l0).bind fun t43 => ((lex_All.f k t43).bind fun t55 => ((lex_Live.f k t55).bind fun t66 => (some (t43, t66, 0, 0))))

set_option maxHeartbeats 8000000 in
set_option maxRecDepth 100000 in
theorem expr_New.calls (k : Nat) (A0 : Option Addr) (c0 : Nat) (l0 : List Int) (r1 : List Int) (r2 : List (S28)) (r3 : Int) (r4 : Int) (c : Nat → Nat) (w : World) (hc : ∀ k, c k < 10) (HP0 : Ft c [0] w (fun w_ => (Kd.int .u8).C w_ A0 l0.length l0)) (HCP0 : l0.length ≤ c0) (H : expr_New.f k l0 = some (r1, r2, r3, r4)) :
    Calls Try.prog 40 #[.slice A0 l0.length c0] w fun e w' => ∃ (c' : Nat → Nat) (g_0 : Nat) (A_r1 : Option Addr) (c_r1 : Nat) (A_r2 : Option Addr) (c_r2 : Nat), e = .returned (.pointer (some ⟨g_0, 0, none⟩)) ∧ Step c w c' w' [] ∧ Ft c' [0] w' (fun w_ => (Kd.int .u8).C w_ A_r1 r1.length r1) ∧ r1.length ≤ c_r1 ∧ Own c' 6 w' k28 28 (.slice A_r2 r2.length c_r2) r2 ∧ r2.length ≤ c_r2 ∧ Bx c' 7 w' g_0 111 ([.slice A_r1 r1.length c_r1, .slice A_r2 r2.length c_r2, .int .i64 r3, .int .i64 r4]) := by
 unfold expr_New.f at H
 have HS := Step.refl c w []
 go_enter Try.func40, Try.ntmps40
 refine wp_seq_k fun K41 hK41 => ?_
 refine wl_region ?_
 refine st (.pointer none) rfl rfl (xr_assign _ rfl rfl) ?_
 refine wl_end ?_
 (try simp only [ls0, ls1])
 refine hK41 _ _ ?_
 (try clear hK41 K41)
 refine wp_seq_k fun K42 hK42 => ?_
 refine wl_region ?_
 refine mv_ rfl ?_
 obtain ⟨t43, A44, H⟩ := bnd H
 refine st_call #[.slice A0 l0.length c0] rfl rfl Try.func81 (by kernel_rfl) rfl rfl (mp_ rfl) ?_
 refine (slices_Clone_byte_byte.calls A0 c0 l0 t43  (fun z_ => pal [(0, 0)] (c z_)) w (fun _ => pal_lt rfl _) (Ft.arg HP0 rfl) HCP0 A44).mono ?_
 rintro _ w46 ⟨C47, A49, cp50, rfl, hs48, HO51, HC52⟩
 refine ⟨_, rfl, ?_⟩
 replace HO51 := Own.res (U := [(0, 0), (5, 11)]) (j := 11) HO51 hs48 (by rfl) (by decide) rfl rfl
 replace hs48 := Step.lift (U := [(0, 0), (5, 11)]) hs48 [] rfl rfl
 generalize up c C47 w.heap.size [(0, 0), (5, 11)] = C47_ at HO51 hs48
 replace HS := HS.trans hs48 hc rfl
 (try simp only [ls0, ls1])
 refine as_ rfl ?_
 refine wl_end ?_
 (try simp only [ls0, ls1])
 refine hK42 _ _ ?_
 (try clear hK42 K42)
 refine wp_seq_k fun K53 hK53 => ?_
 refine wl_region ?_
 refine mv_ rfl ?_
 refine mv_ rfl ?_
 have HR54 := Ft.recolor (a := 11) (b := 0) (HO51.ft) [0] rfl
 replace HS := Step.recol (a := 11) (b := 0) HS hc (by decide)
 obtain ⟨t55, A56, H⟩ := bnd H
 refine st_call #[.slice A49 t43.length cp50] rfl rfl Try.func18 (by kernel_rfl) rfl rfl (mp_ rfl) ?_
 refine (lex_All.calls k A49 cp50 t43 t55  (fun z_ => pal [(0, 0)] ((recol C47_ 11 0) z_)) w46 (fun _ => pal_lt rfl _) (Ft.arg HR54 rfl) HC52 A56).mono ?_
 rintro _ w58 ⟨C59, A61, cp62, rfl, hs60, HO63, HC64⟩
 refine ⟨_, rfl, ?_⟩
 replace HO63 := Own.res (U := [(0, 0), (5, 12)]) (j := 12) HO63 hs60 (by rfl) (by decide) rfl rfl
 replace hs60 := Step.lift (U := [(0, 0), (5, 12)]) hs60 [] rfl rfl
 generalize up (recol C47_ 11 0) C59 w46.heap.size [(0, 0), (5, 12)] = C59_ at HO63 hs60
 replace HR54 := HR54.thru hs60 rfl
 replace HS := HS.trans hs60 hc rfl
 (try simp only [ls0, ls1])
 replace HR54 := Ft.recol (a := 12) (b := 0) HR54 (.inl rfl)
 have HR65 := Ft.recolor (a := 12) (b := 0) (HO63.ft) [0] rfl
 replace HS := Step.recol (a := 12) (b := 0) HS hc (by decide)
 obtain ⟨t66, A67, H⟩ := bnd H
 refine st_call #[.slice A61 t55.length cp62] rfl rfl Try.func23 (by kernel_rfl) rfl rfl (mp_ rfl) ?_
 refine (lex_Live.calls k A61 cp62 t55 t66  (fun z_ => pal [(0, 0)] ((recol C59_ 12 0) z_)) w58 (fun _ => pal_lt rfl _) (Ft.arg HR65 rfl) HC64 A67).mono ?_
 rintro _ w69 ⟨C70, A72, cp73, rfl, hs71, HO74, HC75⟩
 refine ⟨_, rfl, ?_⟩
 replace HO74 := Own.res (U := [(0, 0), (5, 13)]) (j := 13) HO74 hs71 (by rfl) (by decide) rfl rfl
 replace hs71 := Step.lift (U := [(0, 0), (5, 13)]) hs71 [] rfl rfl
 generalize up (recol C59_ 12 0) C70 w58.heap.size [(0, 0), (5, 13)] = C70_ at HO74 hs71
 replace HR54 := HR54.thru hs71 rfl
 replace HS := HS.trans hs71 hc rfl
 (try simp only [ls0, ls1])
 refine st (.agg #[.slice A49 t43.length cp50, .slice A72 t66.length cp73, .int .i64 0, .int .i64 0]) rfl rfl (xr_build #[(0, .slice A49 t43.length cp50), (1, .slice A72 t66.length cp73)] (.agg #[.slice A49 t43.length cp50, .slice A72 t66.length cp73, .int .i64 0, .int .i64 0]) rfl (mp_ rfl) (by first | rfl | (go_simp; done) | (go_simp; rfl) | (go_simp; exact i64_w _) | (go_simp; exact i32_w _))) ?_
 refine bx_new (C := C70_) 111 ([.slice A49 t43.length cp50, .slice A72 t66.length cp73, .int .i64 0, .int .i64 0]) 14 rfl rfl (by first | (go_simp; done) | (go_simp; rfl)) ?_
 intro g76 w77 C78 HX79 hs80
 replace HR54 := HR54.thru hs80 rfl
 replace HO74 := HO74.thru hs80 rfl
 replace HS := HS.trans hs80 hc rfl
 (try simp only [ls0, ls1])
 refine as_ rfl ?_
 refine wl_end ?_
 (try simp only [ls0, ls1])
 refine hK53 _ _ ?_
 (try clear hK53 K53)
 refine wp_ret ?_
 (try simp only [Exit.inBlock, Exit.then, Exit.noGoto])
 (try simp only [ls0, ls1])
 replace HR54 := Ft.recol (a := 13) (b := 6) HR54 (.inl rfl)
 replace HO74 := Own.recolor (b := 6) HO74 (by decide)
 replace HX79 := Bx.recol (a := 13) (b := 6) HX79 (by decide)
 replace HS := Step.recol (a := 13) (b := 6) HS hc (by decide)
 replace HR54 := Ft.recol (a := 14) (b := 7) HR54 (.inl rfl)
 replace HO74 := Own.recol (a := 14) (b := 7) HO74 (by decide) (by decide)
 replace HX79 := Bx.recolor (b := 7) HX79
 replace HS := Step.recol (a := 14) (b := 7) HS hc (by decide)
 simp only [Option.some.injEq, Prod.mk.injEq] at H
 obtain ⟨rfl, rfl, rfl, rfl⟩ := H
 refine bodyPost_ret (results_tmp rfl _ _ _) rfl ?_
 exact ⟨_, g76, A49, cp50, A72, cp73, rfl, HS, HR54, HC52, HO74, HC75, HX79⟩

/-! ### expr_Cursor_Done: function 47 -/
def expr_Cursor_Done.f (x0 : Option S111) : Option (Bool) := onOpt x0 (some false) (fun o13 => (some (decide (o13.f2 ≥ (o13.f1.length : Int)))))
set_option maxHeartbeats 8000000 in
set_option maxRecDepth 100000 in
theorem expr_Cursor_Done.calls (v0 : Value) (x0 : Option S111) (r : Bool) (c : Nat → Nat) (w : World) (hc : ∀ k, c k < 10) (HP0 : Ft c [0] w (fun w_ => (Kd.ptr 111 k111).K w_ x0 [v0])) (H : expr_Cursor_Done.f x0 = some r) :
    Calls Try.prog 47 #[v0] w fun e w' => ∃ (c' : Nat → Nat) , e = .returned (.bool r) ∧ Step c w c' w' [] := by
 unfold expr_Cursor_Done.f at H
 have HS := Step.refl c w []
 go_enter Try.func47, Try.ntmps47
 refine wp_seq_k fun K11 hK11 => ?_
 refine wl_region ?_
 refine st (.bool false) rfl rfl (xr_assign _ rfl rfl) ?_
 refine wl_end ?_
 (try simp only [ls0, ls1])
 refine hK11 _ _ ?_
 (try clear hK11 K11)
 refine wp_seq_k fun K12 hK12 => ?_
 cases x0 with
 | none =>
  (try simp only [onOpt] at H)
  obtain rfl := ptr_none HP0
  (try simp only [ls0, ls1])
  refine al_start (lb 15 0) rfl rfl rfl (fun w_ => True) trivial [] ?_
  replace HS := Step.ofDrew HS
  generalize w.drew = w14 at *
  refine al_mv 0 (lb 15 1) rfl rfl (by kernel_rfl) (fun _ _ _ => id) rfl ?_
  refine al_pure 1 4 (.bool false) (lb 15 3) rfl rfl (by kernel_rfl) (fun _ _ _ => id) rfl (fun w_ => xr_bin (.pointer none) (.pointer none) (.bool false) rfl rfl rfl (B.neq_nn ⟨_, Try.underlying57⟩ (⟨0, 0, none⟩ : Addr))) ?_
  refine al_mv 2 (lb 15 7) rfl rfl (by kernel_rfl) (fun _ _ _ => id) rfl ?_
  refine al_off 3 6 (lb 15 15) rfl rfl (by kernel_rfl) (fun _ _ _ => id) (guard_off 2 true 5 rfl rfl false (by decide) rfl) ?_
  simp only [ls0, ls1]
  refine al_off 4 7 (lb 15 31) rfl rfl (by kernel_rfl) (fun _ _ _ => id) (guard_off 2 true 5 rfl rfl false (by decide) rfl) ?_
  refine al_off 5 8 (lb 15 63) rfl rfl (by kernel_rfl) (fun _ _ _ => id) (guard_off 2 true 5 rfl rfl false (by decide) rfl) ?_
  refine al_off 6 9 (lb 15 127) rfl rfl (by kernel_rfl) (fun _ _ _ => id) (guard_off 2 true 5 rfl rfl false (by decide) rfl) ?_
  refine al_off 7 10 (lb 15 255) rfl rfl (by kernel_rfl) (fun _ _ _ => id) (guard_off 2 true 5 rfl rfl false (by decide) rfl) ?_
  simp only [ls0, ls1]
  refine al_off 8 11 (lb 15 511) rfl rfl (by kernel_rfl) (fun _ _ _ => id) (guard_off 2 true 5 rfl rfl false (by decide) rfl) ?_
  refine al_off 9 12 (lb 15 1023) rfl rfl (by kernel_rfl) (fun _ _ _ => id) (guard_off 2 true 5 rfl rfl false (by decide) rfl) ?_
  refine al_off 10 13 (lb 15 2047) rfl rfl (by kernel_rfl) (fun _ _ _ => id) (guard_off 2 true 5 rfl rfl false (by decide) rfl) ?_
  refine al_off 11 14 (lb 15 4095) rfl rfl (by kernel_rfl) (fun _ _ _ => id) (guard_off 2 true 5 rfl rfl false (by decide) rfl) ?_
  simp only [ls0, ls1]
  refine al_off 12 15 (lb 15 8191) rfl rfl (by kernel_rfl) (fun _ _ _ => id) (guard_off 2 true 5 rfl rfl false (by decide) rfl) ?_
  refine al_pure 13 16 (.bool false) (lb 15 16383) rfl rfl (by kernel_rfl) (fun _ _ _ => id) rfl (fun w_ => xr_pick false _ rfl rfl rfl) ?_
  refine al_as 14 (lb 15 32767) rfl rfl (by kernel_rfl) (fun _ _ _ => id) rfl ?_
  refine al_end (by kernel_rfl) ?_
  (try simp only [ls0, ls1])
  refine hK12 _ _ ?_
  (try clear hK12 K12)
  refine wp_ret ?_
  (try simp only [Exit.inBlock, Exit.then, Exit.noGoto])
  (try simp only [ls0, ls1])
  obtain rfl := Option.some.inj H
  refine bodyPost_ret (results_tmp rfl _ _ _) rfl ?_
  exact ⟨_, rfl, HS⟩
 | some o13 =>
  (try simp only [onOpt] at H)
  obtain ⟨g15, cs16, rfl, HX17, HK18⟩ := ptr_some HP0
  obtain ⟨Aq19_0, cpq19_0, Aq19_1, cpq19_1, rfl, HCq19_0, HRq19_0, HCq19_1, HRq19_1⟩ := k111_openF HK18
  replace HRq19_0 : Ft c [0] w (fun w_ => (Kd.int .u8).C w_ Aq19_0 o13.f0.length o13.f0) := HRq19_0
  replace HRq19_1 : Ft c [0] w (fun w_ => k28.C w_ Aq19_1 o13.f1.length o13.f1) := HRq19_1
  (try simp only [ls0, ls1])
  refine al_start (lb 15 0) rfl rfl rfl (fun w_ => w_.heap[g15]? = some (.cells (List.toArray ([.slice Aq19_0 o13.f0.length cpq19_0, .slice Aq19_1 o13.f1.length cpq19_1, .int .i64 o13.f2, .int .i64 o13.f3])) 111 (0, 0))) (Ft.now (HX17.drew)) [] ?_
  replace HX17 := HX17.drew
  replace HRq19_0 := HRq19_0.drew
  replace HRq19_1 := HRq19_1.drew
  replace HS := Step.ofDrew HS
  generalize w.drew = w20 at *
  refine al_mv 0 (lb 15 1) rfl rfl (by kernel_rfl) (fun _ _ _ => id) rfl ?_
  refine al_pure 1 4 (.bool true) (lb 15 3) rfl rfl (by kernel_rfl) (fun _ _ _ => id) rfl (fun w_ => xr_bin (.pointer (some ⟨g15, 0, none⟩)) (.pointer none) (.bool true) rfl rfl rfl (B.neq_pn ⟨_, Try.underlying57⟩ ⟨g15, 0, none⟩)) ?_
  refine al_mv 2 (lb 15 7) rfl rfl (by kernel_rfl) (fun _ _ _ => id) rfl ?_
  refine al_mv 3 (lb 15 15) rfl rfl (by kernel_rfl) (fun _ _ _ => id) (guard_on 2 true 5 rfl rfl rfl) ?_
  simp only [ls0, ls1]
  refine al_pure 4 7 (.pointer (some ⟨g15, 0, none⟩)) (lb 15 31) rfl rfl (by kernel_rfl) (fun _ _ _ => id) (guard_on 2 true 5 rfl rfl rfl) (fun w_ => xr_nilCheck _ rfl rfl) ?_
  refine al_pure 5 8 (.pointer (some ⟨g15, 2, none⟩)) (lb 15 63) rfl rfl (by kernel_rfl) (fun _ _ _ => id) (guard_on 2 true 5 rfl rfl rfl) (fun w_ => xr_fieldAddr _ _ rfl rfl (bx_field2 Try.underlying111 rfl rfl (by kernel_rfl))) ?_
  refine al_mv 7 (lb 15 191) rfl rfl (by kernel_rfl) (fun _ _ _ => id) (guard_on 2 true 5 rfl rfl rfl) ?_
  refine al_pure 8 11 (.pointer (some ⟨g15, 0, none⟩)) (lb 15 447) rfl rfl (by kernel_rfl) (fun _ _ _ => id) (guard_on 2 true 5 rfl rfl rfl) (fun w_ => xr_nilCheck _ rfl rfl) ?_
  simp only [ls0, ls1]
  refine al_pure 9 12 (.pointer (some ⟨g15, 1, none⟩)) (lb 15 959) rfl rfl (by kernel_rfl) (fun _ _ _ => id) (guard_on 2 true 5 rfl rfl rfl) (fun w_ => xr_fieldAddr _ _ rfl rfl (bx_field2 Try.underlying111 rfl rfl (by kernel_rfl))) ?_
  refine al_take 6 9 (.int .i64 o13.f2) (lb 15 1023) rfl rfl (by kernel_rfl) (fun _ _ _ => id) (guard_on 2 true 5 rfl rfl rfl) (fun w_ hS_ => xr_load _ _ rfl rfl (load_cell Try.underlying3 rfl (bx_cell hS_ 2 rfl))) (Ft.now (HX17)) ?_
  refine al_take 10 13 (.slice Aq19_1 o13.f1.length cpq19_1) (lb 15 2047) rfl rfl (by kernel_rfl) (fun _ _ _ => id) (guard_on 2 true 5 rfl rfl rfl) (fun w_ hS_ => xr_load _ _ rfl rfl (load_cell Try.underlying24 rfl (bx_cell hS_ 1 rfl))) (Ft.now (HX17)) ?_
  refine al_pure 11 14 (.int .i64 (o13.f1.length : Int)) (lb 15 4095) rfl rfl (by kernel_rfl) (fun _ _ _ => id) (guard_on 2 true 5 rfl rfl rfl) (fun w_ => xr_builtin #[.slice Aq19_1 o13.f1.length cpq19_1] (.int .i64 (o13.f1.length : Int)) rfl (mp_ rfl) (by first | rfl | (go_simp; done) | (go_simp; rfl) | (go_simp; exact i64_w _) | (go_simp; exact i32_w _))) ?_
  simp only [ls0, ls1]
  refine al_pure 12 15 (.bool (decide (o13.f2 ≥ (o13.f1.length : Int)))) (lb 15 8191) rfl rfl (by kernel_rfl) (fun _ _ _ => id) (guard_on 2 true 5 rfl rfl rfl) (fun w_ => xr_bin _ _ _ rfl rfl rfl (B.geq_i64 _ _)) ?_
  refine al_pure 13 16 (.bool (decide (o13.f2 ≥ (o13.f1.length : Int)))) (lb 15 16383) rfl rfl (by kernel_rfl) (fun _ _ _ => id) rfl (fun w_ => xr_pick true _ rfl rfl rfl) ?_
  refine al_as 14 (lb 15 32767) rfl rfl (by kernel_rfl) (fun _ _ _ => id) rfl ?_
  refine al_end (by kernel_rfl) ?_
  (try simp only [ls0, ls1])
  refine hK12 _ _ ?_
  (try clear hK12 K12)
  refine wp_ret ?_
  (try simp only [Exit.inBlock, Exit.then, Exit.noGoto])
  (try simp only [ls0, ls1])
  obtain rfl := Option.some.inj H
  refine bodyPost_ret (results_tmp rfl _ _ _) rfl ?_
  exact ⟨_, rfl, HS⟩

/-! ### expr_Cursor_Pos: function 44 -/
def expr_Cursor_Pos.f (x0 : Option S111) : Option (Int) := onOpt x0 (some 0) (fun o67 => ((expr_Cursor_Done.f (some (⟨o67.f0, o67.f1, o67.f2, o67.f3⟩ : S111) : Option S111)).bind fun t76 => (if t76 = true then (some (o67.f0.length : Int)) else (if 0 ≤ o67.f2 then (if o67.f2 < (o67.f1.length : Int) then (some ((rd_T28 o67.f1 o67.f2).f1)) else (none)) else (none)))))
set_option maxHeartbeats 8000000 in
set_option maxRecDepth 100000 in
theorem expr_Cursor_Pos.calls (v0 : Value) (x0 : Option S111) (r : Int) (c : Nat → Nat) (w : World) (hc : ∀ k, c k < 10) (HP0 : Ft c [0] w (fun w_ => (Kd.ptr 111 k111).K w_ x0 [v0])) (H : expr_Cursor_Pos.f x0 = some r) :
    Calls Try.prog 44 #[v0] w fun e w' => ∃ (c' : Nat → Nat) , e = .returned (.int .i64 r) ∧ Step c w c' w' [] := by
 unfold expr_Cursor_Pos.f at H
 have HS := Step.refl c w []
 go_enter Try.func44, Try.ntmps44
 refine wp_seq_k fun K46 hK46 => ?_
 refine wl_region ?_
 refine st (.int .i64 0) rfl rfl (xr_assign _ rfl rfl) ?_
 refine wl_end ?_
 (try simp only [ls0, ls1])
 refine hK46 _ _ ?_
 (try clear hK46 K46)
 refine wp_seq_k fun K47 hK47 => ?_
 refine wp_block ?_
 refine wp_seq_k fun K66 hK66 => ?_
 refine wl_region ?_
 refine mv_ rfl ?_
 cases x0 with
 | none =>
  (try simp only [onOpt] at H)
  obtain rfl := ptr_none HP0
  refine st (.bool true) rfl rfl (xr_bin (.pointer none) (.pointer none) (.bool true) rfl rfl rfl (B.eql_nn ⟨_, Try.underlying57⟩ (⟨0, 0, none⟩ : Addr))) ?_
  refine as_ rfl ?_
  refine wl_end ?_
  (try simp only [ls0, ls1])
  refine hK66 _ _ ?_
  (try clear hK66 K66)
  refine wp_cond_true rfl ?_
  refine wp_seq_k fun K68 hK68 => ?_
  refine wl_region ?_
  refine st (.int .i64 0) rfl rfl (xr_assign _ rfl rfl) ?_
  refine wl_end ?_
  (try simp only [ls0, ls1])
  refine hK68 _ _ ?_
  (try clear hK68 K68)
  refine wp_ret ?_
  (try simp only [Exit.inBlock, Exit.then, Exit.noGoto])
  (try simp only [ls0, ls1])
  obtain rfl := Option.some.inj H
  refine bodyPost_ret (results_tmp rfl _ _ _) rfl ?_
  exact ⟨_, rfl, HS⟩
 | some o67 =>
  (try simp only [onOpt] at H)
  obtain ⟨g69, cs70, rfl, HX71, HK72⟩ := ptr_some HP0
  obtain ⟨Aq73_0, cpq73_0, Aq73_1, cpq73_1, rfl, HCq73_0, HRq73_0, HCq73_1, HRq73_1⟩ := k111_openF HK72
  replace HRq73_0 : Ft c [0] w (fun w_ => (Kd.int .u8).C w_ Aq73_0 o67.f0.length o67.f0) := HRq73_0
  replace HRq73_1 : Ft c [0] w (fun w_ => k28.C w_ Aq73_1 o67.f1.length o67.f1) := HRq73_1
  refine st (.bool false) rfl rfl (xr_bin (.pointer (some ⟨g69, 0, none⟩)) (.pointer none) (.bool false) rfl rfl rfl (B.eql_pn ⟨_, Try.underlying57⟩ ⟨g69, 0, none⟩)) ?_
  refine as_ rfl ?_
  refine wl_end ?_
  (try simp only [ls0, ls1])
  refine hK66 _ _ ?_
  (try clear hK66 K66)
  refine wp_cond_false rfl ?_
  refine wp_seq_k fun K74 hK74 => ?_
  refine wl_region ?_
  refine mv_ rfl ?_
  have HP75 : Ft c [0] w (fun w_ => (Kd.ptr 111 k111).K w_ (some (⟨o67.f0, o67.f1, o67.f2, o67.f3⟩ : S111)) [.pointer (some ⟨g69, 0, none⟩)]) := ptr_mk (Ft.more HX71 rfl) (k111_mkF _ _ (⟨o67.f0, o67.f1, o67.f2, o67.f3⟩ : S111) HCq73_0 (Ft.more HRq73_0 rfl) HCq73_1 (Ft.more HRq73_1 rfl))
  obtain ⟨t76, A77, H⟩ := bnd H
  refine st_call #[.pointer (some ⟨g69, 0, none⟩)] rfl rfl Try.func47 (by kernel_rfl) rfl rfl (mp_ rfl) ?_
  refine (expr_Cursor_Done.calls (.pointer (some ⟨g69, 0, none⟩)) (some (⟨o67.f0, o67.f1, o67.f2, o67.f3⟩ : S111) : Option S111) t76  (fun z_ => pal [(0, 0)] (c z_)) w (fun _ => pal_lt rfl _) (Ft.arg HP75 rfl) A77).mono ?_
  rintro _ w79 ⟨C80, rfl, hs81⟩
  refine ⟨_, rfl, ?_⟩
  replace hs81 := Step.lift (U := [(0, 0)]) hs81 [] rfl rfl
  generalize up c C80 w.heap.size [(0, 0)] = C80_ at hs81
  replace HX71 := HX71.thru hs81 rfl
  replace HRq73_0 := HRq73_0.thru hs81 rfl
  replace HRq73_1 := HRq73_1.thru hs81 rfl
  replace HS := HS.trans hs81 hc rfl
  (try simp only [ls0, ls1])
  refine as_ rfl ?_
  refine wl_end ?_
  (try simp only [ls0, ls1])
  refine hK74 _ _ ?_
  (try clear hK74 K74)
  by_cases c82 : t76 = true
  ·rw [if_pos c82] at H
   (try rw [c82])
   refine wp_cond_true rfl ?_
   refine wp_seq_k fun K83 hK83 => ?_
   refine wl_region ?_
   refine mv_ rfl ?_
   refine st (.pointer (some ⟨g69, 0, none⟩)) rfl rfl (xr_nilCheck _ rfl rfl) ?_
   refine st (.pointer (some ⟨g69, 0, none⟩)) rfl rfl (xr_fieldAddr _ _ rfl rfl (bx_field2 Try.underlying111 rfl rfl (by kernel_rfl))) ?_
   refine st (.slice Aq73_0 o67.f0.length cpq73_0) rfl rfl (xr_load _ _ rfl rfl (load_cell Try.underlying22 rfl (bx_cell (Ft.now HX71) 0 rfl))) ?_
   simp only [ls0, ls1]
   refine st (.int .i64 (o67.f0.length : Int)) rfl rfl (xr_builtin #[.slice Aq73_0 o67.f0.length cpq73_0] (.int .i64 (o67.f0.length : Int)) rfl (mp_ rfl) (by first | rfl | (go_simp; done) | (go_simp; rfl) | (go_simp; exact i64_w _) | (go_simp; exact i32_w _))) ?_
   refine as_ rfl ?_
   refine wl_end ?_
   (try simp only [ls0, ls1])
   refine hK83 _ _ ?_
   (try clear hK83 K83)
   refine wp_ret ?_
   (try simp only [Exit.inBlock, Exit.then, Exit.noGoto])
   (try simp only [ls0, ls1])
   obtain rfl := Option.some.inj H
   refine bodyPost_ret (results_tmp rfl _ _ _) rfl ?_
   exact ⟨_, rfl, HS⟩
  rw [if_neg c82] at H
  (try rw [(Bool.eq_false_iff.mpr c82)])
  refine wp_cond_false rfl ?_
  refine wp_skip ?_
  (try simp only [ls0, ls1])
  refine hK47 _ _ ?_
  (try clear hK47 K47)
  refine wp_seq_k fun K84 hK84 => ?_
  (try simp only [ls0, ls1])
  refine al_start (lb 12 0) rfl rfl rfl (fun w_ => (Kd.int .u8).C w_ Aq73_0 o67.f0.length o67.f0 ∧ k28.C w_ Aq73_1 o67.f1.length o67.f1 ∧ w_.heap[g69]? = some (.cells (List.toArray ([.slice Aq73_0 o67.f0.length cpq73_0, .slice Aq73_1 o67.f1.length cpq73_1, .int .i64 o67.f2, .int .i64 o67.f3])) 111 (0, 0))) ⟨(Ft.now ((HRq73_0).drew)), (Ft.now ((HRq73_1).drew)), (Ft.now (HX71.drew))⟩ [] ?_
  replace HX71 := HX71.drew
  replace HRq73_0 := HRq73_0.drew
  replace HRq73_1 := HRq73_1.drew
  replace HS := Step.ofDrew HS
  generalize w79.drew = w85 at *
  refine al_mv 0 (lb 12 1) rfl rfl (by kernel_rfl) (fun _ _ _ => id) rfl ?_
  refine al_pure 1 15 (.pointer (some ⟨g69, 0, none⟩)) (lb 12 3) rfl rfl (by kernel_rfl) (fun _ _ _ => id) rfl (fun w_ => xr_nilCheck _ rfl rfl) ?_
  refine al_pure 2 16 (.pointer (some ⟨g69, 1, none⟩)) (lb 12 7) rfl rfl (by kernel_rfl) (fun _ _ _ => id) rfl (fun w_ => xr_fieldAddr _ _ rfl rfl (bx_field2 Try.underlying111 rfl rfl (by kernel_rfl))) ?_
  refine al_mv 4 (lb 12 23) rfl rfl (by kernel_rfl) (fun _ _ _ => id) rfl ?_
  simp only [ls0, ls1]
  refine al_pure 5 19 (.pointer (some ⟨g69, 0, none⟩)) (lb 12 55) rfl rfl (by kernel_rfl) (fun _ _ _ => id) rfl (fun w_ => xr_nilCheck _ rfl rfl) ?_
  refine al_pure 6 20 (.pointer (some ⟨g69, 2, none⟩)) (lb 12 119) rfl rfl (by kernel_rfl) (fun _ _ _ => id) rfl (fun w_ => xr_fieldAddr _ _ rfl rfl (bx_field2 Try.underlying111 rfl rfl (by kernel_rfl))) ?_
  refine al_take 3 17 (.slice Aq73_1 o67.f1.length cpq73_1) (lb 12 127) rfl rfl (by kernel_rfl) (fun _ _ _ => id) rfl (fun w_ hS_ => xr_load _ _ rfl rfl (load_cell Try.underlying24 rfl (bx_cell hS_.2.2 1 rfl))) ⟨(Ft.now HRq73_0), (Ft.now HRq73_1), (Ft.now (HX71))⟩ ?_
  refine al_take 7 21 (.int .i64 o67.f2) (lb 12 255) rfl rfl (by kernel_rfl) (fun _ _ _ => id) rfl (fun w_ hS_ => xr_load _ _ rfl rfl (load_cell Try.underlying3 rfl (bx_cell hS_.2.2 2 rfl))) ⟨(Ft.now HRq73_0), (Ft.now HRq73_1), (Ft.now (HX71))⟩ ?_
  simp only [ls0, ls1]
  obtain ⟨c86, H⟩ := if_some H
  obtain ⟨c87, H⟩ := if_some H
  obtain ⟨ad88, hA89⟩ := c_addr (Ft.now HRq73_1) (pos_of (j := o67.f2) (by first | assumption | decide) (by first | assumption | omega))
  refine al_pure 8 22 (.pointer (some (ad88.add ((o67.f2 : Int).toNat * 3)))) (lb 12 511) rfl rfl (by kernel_rfl) (fun _ _ _ => id) rfl (fun w_ => xr_indexAddr _ _ _ rfl rfl rfl (index_at Try.underlying24 info28 hA89 (by first | assumption | decide | omega) (by first | assumption | decide | omega))) ?_
  refine al_pure 9 23 (.pointer (some ((ad88.add ((o67.f2 : Int).toNat * 3)).add 1))) (lb 12 1023) rfl rfl (by kernel_rfl) (fun _ _ _ => id) rfl (fun w_ => xr_fieldAddr _ _ rfl rfl (field_at2 Try.underlying28 rfl rfl (by kernel_rfl))) ?_
  refine al_take 10 24 (.int .i64 ((rd_T28 o67.f1 o67.f2).f1)) (lb 12 2047) rfl rfl (by kernel_rfl) (fun _ _ _ => id) rfl (fun w_ hS_ => xr_load (.pointer (some ((ad88.add ((o67.f2 : Int).toNat * 3)).add 1))) (.int .i64 ((rd_T28 o67.f1 o67.f2).f1)) rfl rfl (by obtain ⟨ad_, cs_, e_, _, hK_, hc_⟩ := Kd.C_get hS_.2.1 z28 o67.f2 (by first | assumption | decide | omega) (by first | assumption | decide | omega); rw [hA89] at e_; injection e_ with e_; subst e_; obtain rfl := k28_open hK_; exact load_cell Try.underlying3 rfl (by first | (rw [add_add]; exact hc_ 1 _ rfl) | (have h_ := hc_ 1 _ rfl; rw [Nat.add_zero] at h_; exact h_)))) ⟨(Ft.now HRq73_0), (Ft.now HRq73_1), (Ft.now (HX71))⟩ ?_
  refine al_as 11 (lb 12 4095) rfl rfl (by kernel_rfl) (fun _ _ _ => id) rfl ?_
  simp only [ls0, ls1]
  refine al_end (by kernel_rfl) ?_
  (try simp only [ls0, ls1])
  refine hK84 _ _ ?_
  (try clear hK84 K84)
  refine wp_ret ?_
  (try simp only [Exit.inBlock, Exit.then, Exit.noGoto])
  (try simp only [ls0, ls1])
  obtain rfl := Option.some.inj H
  refine bodyPost_ret (results_tmp rfl _ _ _) rfl ?_
  exact ⟨_, rfl, HS⟩

/-! ### lex_Text: function 19 -/
def lex_Text.j0 (a1_1 : Int) (a1_2 : Int) (l0 : List Int) (x51 : Bool) : Option (ByteArray) := if x51 = true then (some (⟨#[]⟩ : ByteArray)) else (if 0 ≤ a1_1 then (if a1_1 ≤ a1_2 then (if a1_2 ≤ (l0.length : Int) then ((some ((l0.take (a1_2 : Int).toNat).drop (a1_1 : Int).toNat : List Int)).bind fun y61 => (some (strOfNums y61))) else (none)) else (none)) else (none))
def lex_Text.f (l0 : List Int) (a1_0 : Int) (a1_1 : Int) (a1_2 : Int) : Option (ByteArray) := if a1_1 < 0 then (lex_Text.j0 a1_1 a1_2 l0 true) else (if a1_1 > a1_2 then (lex_Text.j0 a1_1 a1_2 l0 true) else (lex_Text.j0 a1_1 a1_2 l0 (decide (a1_2 > (l0.length : Int)))))
set_option maxHeartbeats 8000000 in
set_option maxRecDepth 100000 in
theorem lex_Text.calls (A0 : Option Addr) (c0 : Nat) (l0 : List Int) (a1_0 : Int) (a1_1 : Int) (a1_2 : Int) (r : ByteArray) (c : Nat → Nat) (w : World) (hc : ∀ k, c k < 10) (HP0 : Ft c [0] w (fun w_ => (Kd.int .u8).C w_ A0 l0.length l0)) (HCP0 : l0.length ≤ c0) (H : lex_Text.f l0 a1_0 a1_1 a1_2 = some r) :
    Calls Try.prog 19 #[.slice A0 l0.length c0, .agg #[.int .i64 a1_0, .int .i64 a1_1, .int .i64 a1_2]] w fun e w' => ∃ (c' : Nat → Nat) , e = .returned (.string r) ∧ Step c w c' w' [] := by
 unfold lex_Text.f at H
 have HS := Step.refl c w []
 go_enter Try.func19, Try.ntmps19
 refine wp_seq_k fun K36 hK36 => ?_
 refine wl_region ?_
 refine bx_new (C := c) 28 ([.int .i64 a1_0, .int .i64 a1_1, .int .i64 a1_2]) 11 rfl rfl (by first | (go_simp; done) | (go_simp; rfl)) ?_
 intro g37 w38 C39 HX40 hs41
 replace HP0 := HP0.thru hs41 rfl
 replace HS := HS.trans hs41 hc rfl
 (try simp only [ls0, ls1])
 refine st (.string (⟨#[]⟩ : ByteArray)) rfl rfl (xr_assign _ rfl rfl) ?_
 refine wl_end ?_
 (try simp only [ls0, ls1])
 refine hK36 _ _ ?_
 (try clear hK36 K36)
 refine wp_seq_k fun K42 hK42 => ?_
 refine wp_seq_k fun K43 hK43 => ?_
 have hj46 : ∀ (C47 : Nat → Nat) (w48 : World) (x51 : Bool) (g_ : Nat → Value), Step c w C47 w48 [] → (Ft C47 [0] w48 (fun w_ => (Kd.int .u8).C w_ A0 l0.length l0)) → (Bx C47 11 w48 g37 28 ([.int .i64 a1_0, .int .i64 a1_1, .int .i64 a1_2])) → lex_Text.j0 a1_1 a1_2 l0 x51 = some r → K43 ⟨#[.slice A0 l0.length c0, (g_ 1), (g_ 2), .pointer (some ⟨g37, 0, none⟩), (g_ 4), (g_ 5), (g_ 6), (g_ 7), (g_ 8), (g_ 9), (g_ 10), (g_ 11), (g_ 12), (g_ 13), (g_ 14), (g_ 15), (g_ 16), (g_ 17), (g_ 18), (g_ 19), (g_ 20), .bool x51, (g_ 22), (g_ 23), (g_ 24), (g_ 25), (g_ 26), (g_ 27), (g_ 28)], []⟩ w48 := by
  intro C47 w48 x51 g_ HS49 HJ50 HJ52 H
  unfold lex_Text.j0 at H
  refine hK43 _ _ ?_
  (try clear hK43)
  by_cases c55 : x51 = true
  ·rw [if_pos c55] at H
   (try rw [c55])
   refine wp_cond_true rfl ?_
   refine wp_seq_k fun K56 hK56 => ?_
   refine wl_region ?_
   refine st (.string (⟨#[]⟩ : ByteArray)) rfl rfl (xr_assign _ rfl rfl) ?_
   refine wl_end ?_
   (try simp only [ls0, ls1])
   refine hK56 _ _ ?_
   (try clear hK56 K56)
   refine wp_ret ?_
   (try simp only [Exit.inBlock, Exit.then, Exit.noGoto])
   (try simp only [ls0, ls1])
   obtain rfl := Option.some.inj H
   refine bodyPost_ret (results_tmp rfl _ _ _) rfl ?_
   exact ⟨_, rfl, HS49⟩
  rw [if_neg c55] at H
  (try rw [(Bool.eq_false_iff.mpr c55)])
  refine wp_cond_false rfl ?_
  refine wp_skip ?_
  (try simp only [ls0, ls1])
  refine hK42 _ _ ?_
  (try clear hK42 K42)
  refine wp_seq_k fun K57 hK57 => ?_
  refine wl_region ?_
  refine mv_ rfl ?_
  refine st (.pointer (some ⟨g37, 1, none⟩)) rfl rfl (xr_fieldAddr _ _ rfl rfl (bx_field2 Try.underlying28 rfl rfl (by kernel_rfl))) ?_
  refine st (.int .i64 a1_1) rfl rfl (xr_load _ _ rfl rfl (load_cell Try.underlying3 rfl (bx_cell (HJ52).2 1 rfl))) ?_
  refine st (.pointer (some ⟨g37, 2, none⟩)) rfl rfl (xr_fieldAddr _ _ rfl rfl (bx_field2 Try.underlying28 rfl rfl (by kernel_rfl))) ?_
  simp only [ls0, ls1]
  refine st (.int .i64 a1_2) rfl rfl (xr_load _ _ rfl rfl (load_cell Try.underlying3 rfl (bx_cell (HJ52).2 2 rfl))) ?_
  obtain ⟨c58, H⟩ := if_some H
  obtain ⟨c59, H⟩ := if_some H
  obtain ⟨c60, H⟩ := if_some H
  obtain ⟨y61, A62, H⟩ := bnd H
  obtain ⟨iz68, hiz68, _, hzz68, _⟩ := info_parts info5
  obtain ⟨A63, cp64, hr67, HR65, HC66⟩ := cutMid (t := 22) (Kd.int .u8) 5 .i64 .i64 Try.underlying22 hiz68 hzz68 HJ50 HCP0 (by first | assumption | omega | decide) (by first | assumption | omega | decide) (by first | assumption | omega | decide) (Option.some.inj A62)
  refine st (.slice A63 y61.length cp64) rfl rfl (xr_slice (.slice A0 l0.length c0) (some (.int .i64 a1_1)) (some (.int .i64 a1_2)) none (.slice A63 y61.length cp64) rfl rfl rfl rfl rfl (hr67 _)) ?_
  clear hr67 hiz68 hzz68
  refine st (.string (strOfNums y61)) rfl rfl (xr_conv _ _ rfl rfl (string_of_reads Try.underlying22 Try.underlying5 Try.underlying9 (Kd.reads_of_C (d := (0 : Int)) (h1 := fun _ => rfl) (Ft.now HR65)))) ?_
  refine as_ rfl ?_
  simp only [ls0, ls1]
  refine wl_end ?_
  (try simp only [ls0, ls1])
  refine hK57 _ _ ?_
  (try clear hK57 K57)
  refine wp_ret ?_
  (try simp only [Exit.inBlock, Exit.then, Exit.noGoto])
  (try simp only [ls0, ls1])
  obtain rfl := Option.some.inj H
  refine bodyPost_ret (results_tmp rfl _ _ _) rfl ?_
  exact ⟨_, rfl, HS49⟩
 refine wl_region ?_
 refine st (.pointer (some ⟨g37, 1, none⟩)) rfl rfl (xr_fieldAddr _ _ rfl rfl (bx_field2 Try.underlying28 rfl rfl (by kernel_rfl))) ?_
 refine st (.int .i64 a1_1) rfl rfl (xr_load _ _ rfl rfl (load_cell Try.underlying3 rfl (bx_cell (HX40).2 1 rfl))) ?_
 refine st (.bool (decide (a1_1 < 0))) rfl rfl (xr_bin _ _ _ rfl rfl rfl (B.lss_i64 _ _)) ?_
 refine mv_ rfl ?_
 simp only [ls0, ls1]
 by_cases c69 : a1_1 < 0
 ·rw [if_pos c69] at H
  (try rw [(decide_eq_true c69)])
  refine sk_guard (guard_off 3 false 8 rfl rfl true (by decide) rfl) rfl ?_
  refine sk_guard (guard_off 3 false 8 rfl rfl true (by decide) rfl) rfl ?_
  refine sk_guard (guard_off 3 false 8 rfl rfl true (by decide) rfl) rfl ?_
  refine sk_guard (guard_off 3 false 8 rfl rfl true (by decide) rfl) rfl ?_
  simp only [ls0, ls1]
  refine sk_guard (guard_off 3 false 8 rfl rfl true (by decide) rfl) rfl ?_
  refine st (.bool true) rfl rfl (xr_pick true _ rfl rfl rfl) ?_
  refine mv_ rfl ?_
  refine sk_guard (guard_off 10 false 15 rfl rfl true (by decide) rfl) rfl ?_
  simp only [ls0, ls1]
  refine sk_guard (guard_off 10 false 15 rfl rfl true (by decide) rfl) rfl ?_
  refine sk_guard (guard_off 10 false 15 rfl rfl true (by decide) rfl) rfl ?_
  refine sk_guard (guard_off 10 false 15 rfl rfl true (by decide) rfl) rfl ?_
  refine sk_guard (guard_off 10 false 15 rfl rfl true (by decide) rfl) rfl ?_
  simp only [ls0, ls1]
  refine st (.bool true) rfl rfl (xr_pick true _ rfl rfl rfl) ?_
  refine wl_end ?_
  (try simp only [ls0, ls1])
  exact jmp (fun g_ => hj46 _ _ (true) g_ HS HP0 HX40 H) rfl
 rw [if_neg c69] at H
 (try rw [(decide_eq_false c69)])
 refine on_guard (guard_on 3 false 8 rfl rfl rfl) ?_
 refine st (.pointer (some ⟨g37, 1, none⟩)) rfl rfl (xr_fieldAddr _ _ rfl rfl (bx_field2 Try.underlying28 rfl rfl (by kernel_rfl))) ?_
 refine on_guard (guard_on 3 false 8 rfl rfl rfl) ?_
 refine st (.int .i64 a1_1) rfl rfl (xr_load _ _ rfl rfl (load_cell Try.underlying3 rfl (bx_cell (HX40).2 1 rfl))) ?_
 refine on_guard (guard_on 3 false 8 rfl rfl rfl) ?_
 refine st (.pointer (some ⟨g37, 2, none⟩)) rfl rfl (xr_fieldAddr _ _ rfl rfl (bx_field2 Try.underlying28 rfl rfl (by kernel_rfl))) ?_
 refine on_guard (guard_on 3 false 8 rfl rfl rfl) ?_
 refine st (.int .i64 a1_2) rfl rfl (xr_load _ _ rfl rfl (load_cell Try.underlying3 rfl (bx_cell (HX40).2 2 rfl))) ?_
 simp only [ls0, ls1]
 refine on_guard (guard_on 3 false 8 rfl rfl rfl) ?_
 refine st (.bool (decide (a1_1 > a1_2))) rfl rfl (xr_bin _ _ _ rfl rfl rfl (B.gtr_i64 _ _)) ?_
 refine st (.bool (decide (a1_1 > a1_2))) rfl rfl (xr_pick false _ rfl rfl rfl) ?_
 refine mv_ rfl ?_
 by_cases c70 : a1_1 > a1_2
 ·rw [if_pos c70] at H
  (try rw [(decide_eq_true c70)])
  refine sk_guard (guard_off 10 false 15 rfl rfl true (by decide) rfl) rfl ?_
  simp only [ls0, ls1]
  refine sk_guard (guard_off 10 false 15 rfl rfl true (by decide) rfl) rfl ?_
  refine sk_guard (guard_off 10 false 15 rfl rfl true (by decide) rfl) rfl ?_
  refine sk_guard (guard_off 10 false 15 rfl rfl true (by decide) rfl) rfl ?_
  refine sk_guard (guard_off 10 false 15 rfl rfl true (by decide) rfl) rfl ?_
  simp only [ls0, ls1]
  refine st (.bool true) rfl rfl (xr_pick true _ rfl rfl rfl) ?_
  refine wl_end ?_
  (try simp only [ls0, ls1])
  exact jmp (fun g_ => hj46 _ _ (true) g_ HS HP0 HX40 H) rfl
 rw [if_neg c70] at H
 (try rw [(decide_eq_false c70)])
 refine on_guard (guard_on 10 false 15 rfl rfl rfl) ?_
 refine st (.pointer (some ⟨g37, 2, none⟩)) rfl rfl (xr_fieldAddr _ _ rfl rfl (bx_field2 Try.underlying28 rfl rfl (by kernel_rfl))) ?_
 refine on_guard (guard_on 10 false 15 rfl rfl rfl) ?_
 refine st (.int .i64 a1_2) rfl rfl (xr_load _ _ rfl rfl (load_cell Try.underlying3 rfl (bx_cell (HX40).2 2 rfl))) ?_
 refine on_guard (guard_on 10 false 15 rfl rfl rfl) ?_
 refine mv_ rfl ?_
 refine on_guard (guard_on 10 false 15 rfl rfl rfl) ?_
 refine st (.int .i64 (l0.length : Int)) rfl rfl (xr_builtin #[.slice A0 l0.length c0] (.int .i64 (l0.length : Int)) rfl (mp_ rfl) (by first | rfl | (go_simp; done) | (go_simp; rfl) | (go_simp; exact i64_w _) | (go_simp; exact i32_w _))) ?_
 simp only [ls0, ls1]
 refine on_guard (guard_on 10 false 15 rfl rfl rfl) ?_
 refine st (.bool (decide (a1_2 > (l0.length : Int)))) rfl rfl (xr_bin _ _ _ rfl rfl rfl (B.gtr_i64 _ _)) ?_
 refine st (.bool (decide (a1_2 > (l0.length : Int)))) rfl rfl (xr_pick false _ rfl rfl rfl) ?_
 refine wl_end ?_
 (try simp only [ls0, ls1])
 exact jmp (fun g_ => hj46 _ _ (decide (a1_2 > (l0.length : Int))) g_ HS HP0 HX40 H) rfl

/-! ### expr_Cursor_Peek: function 43 -/
def expr_Cursor_Peek.f (x0 : Option S111) : Option (ByteArray) := onOpt x0 (some (⟨#[]⟩ : ByteArray)) (fun o122 => ((expr_Cursor_Done.f (some (⟨o122.f0, o122.f1, o122.f2, o122.f3⟩ : S111) : Option S111)).bind fun t130 => (if t130 = true then (some (⟨#[]⟩ : ByteArray)) else (if 0 ≤ o122.f2 then (if o122.f2 < (o122.f1.length : Int) then ((lex_Text.f o122.f0 ((rd_T28 o122.f1 o122.f2).f0) ((rd_T28 o122.f1 o122.f2).f1) ((rd_T28 o122.f1 o122.f2).f2)).bind fun t145 => (some t145)) else (none)) else (none)))))
set_option maxHeartbeats 8000000 in
set_option maxRecDepth 100000 in
theorem expr_Cursor_Peek.calls (v0 : Value) (x0 : Option S111) (r : ByteArray) (c : Nat → Nat) (w : World) (hc : ∀ k, c k < 10) (HP0 : Ft c [0] w (fun w_ => (Kd.ptr 111 k111).K w_ x0 [v0])) (H : expr_Cursor_Peek.f x0 = some r) :
    Calls Try.prog 43 #[v0] w fun e w' => ∃ (c' : Nat → Nat) , e = .returned (.string r) ∧ Step c w c' w' [] := by
 unfold expr_Cursor_Peek.f at H
 have HS := Step.refl c w []
 go_enter Try.func43, Try.ntmps43
 refine wp_seq_k fun K76 hK76 => ?_
 refine wl_region ?_
 refine st (.string (⟨#[]⟩ : ByteArray)) rfl rfl (xr_assign _ rfl rfl) ?_
 refine wl_end ?_
 (try simp only [ls0, ls1])
 refine hK76 _ _ ?_
 (try clear hK76 K76)
 refine wp_seq_k fun K77 hK77 => ?_
 refine wp_seq_k fun K108 hK108 => ?_
 refine wl_region ?_
 refine mv_ rfl ?_
 cases x0 with
 | none =>
  (try simp only [onOpt] at H)
  obtain rfl := ptr_none HP0
  refine st (.bool true) rfl rfl (xr_bin (.pointer none) (.pointer none) (.bool true) rfl rfl rfl (B.eql_nn ⟨_, Try.underlying57⟩ (⟨0, 0, none⟩ : Addr))) ?_
  refine mv_ rfl ?_
  simp only [ls0, ls1]
  refine sk_guard (guard_off 2 false 5 rfl rfl true (by decide) rfl) rfl ?_
  refine sk_guard (guard_off 2 false 5 rfl rfl true (by decide) rfl) rfl ?_
  refine st (.bool true) rfl rfl (xr_pick true _ rfl rfl rfl) ?_
  refine wl_end ?_
  (try simp only [ls0, ls1])
  refine hK108 _ _ ?_
  (try clear hK108 K108)
  refine wp_cond_true rfl ?_
  refine wp_seq_k fun K123 hK123 => ?_
  refine wl_region ?_
  refine st (.string (⟨#[]⟩ : ByteArray)) rfl rfl (xr_assign _ rfl rfl) ?_
  refine wl_end ?_
  (try simp only [ls0, ls1])
  refine hK123 _ _ ?_
  (try clear hK123 K123)
  refine wp_ret ?_
  (try simp only [Exit.inBlock, Exit.then, Exit.noGoto])
  (try simp only [ls0, ls1])
  obtain rfl := Option.some.inj H
  refine bodyPost_ret (results_tmp rfl _ _ _) rfl ?_
  exact ⟨_, rfl, HS⟩
 | some o122 =>
  (try simp only [onOpt] at H)
  obtain ⟨g124, cs125, rfl, HX126, HK127⟩ := ptr_some HP0
  obtain ⟨Aq128_0, cpq128_0, Aq128_1, cpq128_1, rfl, HCq128_0, HRq128_0, HCq128_1, HRq128_1⟩ := k111_openF HK127
  replace HRq128_0 : Ft c [0] w (fun w_ => (Kd.int .u8).C w_ Aq128_0 o122.f0.length o122.f0) := HRq128_0
  replace HRq128_1 : Ft c [0] w (fun w_ => k28.C w_ Aq128_1 o122.f1.length o122.f1) := HRq128_1
  refine st (.bool false) rfl rfl (xr_bin (.pointer (some ⟨g124, 0, none⟩)) (.pointer none) (.bool false) rfl rfl rfl (B.eql_pn ⟨_, Try.underlying57⟩ ⟨g124, 0, none⟩)) ?_
  refine mv_ rfl ?_
  refine on_guard (guard_on 2 false 5 rfl rfl rfl) ?_
  refine mv_ rfl ?_
  refine on_guard (guard_on 2 false 5 rfl rfl rfl) ?_
  have HP129 : Ft c [0] w (fun w_ => (Kd.ptr 111 k111).K w_ (some (⟨o122.f0, o122.f1, o122.f2, o122.f3⟩ : S111)) [.pointer (some ⟨g124, 0, none⟩)]) := ptr_mk (Ft.more HX126 rfl) (k111_mkF _ _ (⟨o122.f0, o122.f1, o122.f2, o122.f3⟩ : S111) HCq128_0 (Ft.more HRq128_0 rfl) HCq128_1 (Ft.more HRq128_1 rfl))
  obtain ⟨t130, A131, H⟩ := bnd H
  refine st_call #[.pointer (some ⟨g124, 0, none⟩)] rfl rfl Try.func47 (by kernel_rfl) rfl rfl (mp_ rfl) ?_
  refine (expr_Cursor_Done.calls (.pointer (some ⟨g124, 0, none⟩)) (some (⟨o122.f0, o122.f1, o122.f2, o122.f3⟩ : S111) : Option S111) t130  (fun z_ => pal [(0, 0)] (c z_)) w (fun _ => pal_lt rfl _) (Ft.arg HP129 rfl) A131).mono ?_
  rintro _ w133 ⟨C134, rfl, hs135⟩
  refine ⟨_, rfl, ?_⟩
  replace hs135 := Step.lift (U := [(0, 0)]) hs135 [] rfl rfl
  generalize up c C134 w.heap.size [(0, 0)] = C134_ at hs135
  replace HX126 := HX126.thru hs135 rfl
  replace HRq128_0 := HRq128_0.thru hs135 rfl
  replace HRq128_1 := HRq128_1.thru hs135 rfl
  replace HS := HS.trans hs135 hc rfl
  (try simp only [ls0, ls1])
  refine st (.bool t130) rfl rfl (xr_pick false _ rfl rfl rfl) ?_
  refine wl_end ?_
  (try simp only [ls0, ls1])
  refine hK108 _ _ ?_
  (try clear hK108 K108)
  by_cases c136 : t130 = true
  ·rw [if_pos c136] at H
   (try rw [c136])
   refine wp_cond_true rfl ?_
   refine wp_seq_k fun K137 hK137 => ?_
   refine wl_region ?_
   refine st (.string (⟨#[]⟩ : ByteArray)) rfl rfl (xr_assign _ rfl rfl) ?_
   refine wl_end ?_
   (try simp only [ls0, ls1])
   refine hK137 _ _ ?_
   (try clear hK137 K137)
   refine wp_ret ?_
   (try simp only [Exit.inBlock, Exit.then, Exit.noGoto])
   (try simp only [ls0, ls1])
   obtain rfl := Option.some.inj H
   refine bodyPost_ret (results_tmp rfl _ _ _) rfl ?_
   exact ⟨_, rfl, HS⟩
  rw [if_neg c136] at H
  (try rw [(Bool.eq_false_iff.mpr c136)])
  refine wp_cond_false rfl ?_
  refine wp_skip ?_
  (try simp only [ls0, ls1])
  refine hK77 _ _ ?_
  (try clear hK77 K77)
  refine wp_seq_k fun K138 hK138 => ?_
  (try simp only [ls0, ls1])
  refine al_start (lb 16 0) rfl rfl rfl (fun w_ => (Kd.int .u8).C w_ Aq128_0 o122.f0.length o122.f0 ∧ k28.C w_ Aq128_1 o122.f1.length o122.f1 ∧ w_.heap[g124]? = some (.cells (List.toArray ([.slice Aq128_0 o122.f0.length cpq128_0, .slice Aq128_1 o122.f1.length cpq128_1, .int .i64 o122.f2, .int .i64 o122.f3])) 111 (0, 0))) ⟨(Ft.now ((HRq128_0).drew)), (Ft.now ((HRq128_1).drew)), (Ft.now (HX126.drew))⟩ [] ?_
  replace HX126 := HX126.drew
  replace HRq128_0 := HRq128_0.drew
  replace HRq128_1 := HRq128_1.drew
  replace HS := Step.ofDrew HS
  generalize w133.drew = w139 at *
  refine al_mv 0 (lb 16 1) rfl rfl (by kernel_rfl) (fun _ _ _ => id) rfl ?_
  refine al_pure 1 10 (.pointer (some ⟨g124, 0, none⟩)) (lb 16 3) rfl rfl (by kernel_rfl) (fun _ _ _ => id) rfl (fun w_ => xr_nilCheck _ rfl rfl) ?_
  refine al_pure 2 11 (.pointer (some ⟨g124, 0, none⟩)) (lb 16 7) rfl rfl (by kernel_rfl) (fun _ _ _ => id) rfl (fun w_ => xr_fieldAddr _ _ rfl rfl (bx_field2 Try.underlying111 rfl rfl (by kernel_rfl))) ?_
  refine al_mv 4 (lb 16 23) rfl rfl (by kernel_rfl) (fun _ _ _ => id) rfl ?_
  simp only [ls0, ls1]
  refine al_pure 5 14 (.pointer (some ⟨g124, 0, none⟩)) (lb 16 55) rfl rfl (by kernel_rfl) (fun _ _ _ => id) rfl (fun w_ => xr_nilCheck _ rfl rfl) ?_
  refine al_pure 6 15 (.pointer (some ⟨g124, 1, none⟩)) (lb 16 119) rfl rfl (by kernel_rfl) (fun _ _ _ => id) rfl (fun w_ => xr_fieldAddr _ _ rfl rfl (bx_field2 Try.underlying111 rfl rfl (by kernel_rfl))) ?_
  refine al_mv 8 (lb 16 375) rfl rfl (by kernel_rfl) (fun _ _ _ => id) rfl ?_
  refine al_pure 9 18 (.pointer (some ⟨g124, 0, none⟩)) (lb 16 887) rfl rfl (by kernel_rfl) (fun _ _ _ => id) rfl (fun w_ => xr_nilCheck _ rfl rfl) ?_
  simp only [ls0, ls1]
  refine al_pure 10 19 (.pointer (some ⟨g124, 2, none⟩)) (lb 16 1911) rfl rfl (by kernel_rfl) (fun _ _ _ => id) rfl (fun w_ => xr_fieldAddr _ _ rfl rfl (bx_field2 Try.underlying111 rfl rfl (by kernel_rfl))) ?_
  refine al_take 3 12 (.slice Aq128_0 o122.f0.length cpq128_0) (lb 16 1919) rfl rfl (by kernel_rfl) (fun _ _ _ => id) rfl (fun w_ hS_ => xr_load _ _ rfl rfl (load_cell Try.underlying22 rfl (bx_cell hS_.2.2 0 rfl))) ⟨(Ft.now HRq128_0), (Ft.now HRq128_1), (Ft.now (HX126))⟩ ?_
  refine al_take 7 16 (.slice Aq128_1 o122.f1.length cpq128_1) (lb 16 2047) rfl rfl (by kernel_rfl) (fun _ _ _ => id) rfl (fun w_ hS_ => xr_load _ _ rfl rfl (load_cell Try.underlying24 rfl (bx_cell hS_.2.2 1 rfl))) ⟨(Ft.now HRq128_0), (Ft.now HRq128_1), (Ft.now (HX126))⟩ ?_
  refine al_take 11 20 (.int .i64 o122.f2) (lb 16 4095) rfl rfl (by kernel_rfl) (fun _ _ _ => id) rfl (fun w_ hS_ => xr_load _ _ rfl rfl (load_cell Try.underlying3 rfl (bx_cell hS_.2.2 2 rfl))) ⟨(Ft.now HRq128_0), (Ft.now HRq128_1), (Ft.now (HX126))⟩ ?_
  simp only [ls0, ls1]
  obtain ⟨c140, H⟩ := if_some H
  obtain ⟨c141, H⟩ := if_some H
  obtain ⟨ad142, hA143⟩ := c_addr (Ft.now HRq128_1) (pos_of (j := o122.f2) (by first | assumption | decide) (by first | assumption | omega))
  refine al_pure 12 21 (.pointer (some (ad142.add ((o122.f2 : Int).toNat * 3)))) (lb 16 8191) rfl rfl (by kernel_rfl) (fun _ _ _ => id) rfl (fun w_ => xr_indexAddr _ _ _ rfl rfl rfl (index_at Try.underlying24 info28 hA143 (by first | assumption | decide | omega) (by first | assumption | decide | omega))) ?_
  refine al_take 13 22 (.agg #[.int .i64 ((rd_T28 o122.f1 o122.f2).f0), .int .i64 ((rd_T28 o122.f1 o122.f2).f1), .int .i64 ((rd_T28 o122.f1 o122.f2).f2)]) (lb 16 16383) rfl rfl (by kernel_rfl) (fun _ _ _ => id) rfl (fun w_ hS_ => xr_load (.pointer (some (ad142.add ((o122.f2 : Int).toNat * 3)))) (.agg #[.int .i64 ((rd_T28 o122.f1 o122.f2).f0), .int .i64 ((rd_T28 o122.f1 o122.f2).f1), .int .i64 ((rd_T28 o122.f1 o122.f2).f2)]) rfl rfl (by obtain ⟨ad_, cs_, e_, _, hK_, hc_⟩ := Kd.C_get hS_.2.1 z28 o122.f2 (by first | assumption | decide | omega) (by first | assumption | decide | omega); rw [hA143] at e_; injection e_ with e_; subst e_; obtain rfl := k28_open hK_; exact load_agg (cs := [.int .i64 ((rd_T28 o122.f1 o122.f2).f0), .int .i64 ((rd_T28 o122.f1 o122.f2).f1), .int .i64 ((rd_T28 o122.f1 o122.f2).f2)]) Try.underlying28 rfl (by kernel_rfl) (fun j_ u_ hu_ => by first | (rw [add_add]; exact hc_ _ _ hu_) | exact add_cells hc_ hu_))) ⟨(Ft.now HRq128_0), (Ft.now HRq128_1), (Ft.now (HX126))⟩ ?_
  obtain ⟨t145, A146, H⟩ := bnd H
  refine al_one 14 (lb 16 32767) rfl rfl (by kernel_rfl) rfl (fun K_ hK_ => ?_)
  refine goes_ Try.func19 (by kernel_rfl) rfl #[.slice Aq128_0 o122.f0.length cpq128_0, .agg #[.int .i64 ((rd_T28 o122.f1 o122.f2).f0), .int .i64 ((rd_T28 o122.f1 o122.f2).f1), .int .i64 ((rd_T28 o122.f1 o122.f2).f2)]] rfl rfl rfl (mpe_ rfl) ?_
  refine (lex_Text.calls Aq128_0 cpq128_0 o122.f0 ((rd_T28 o122.f1 o122.f2).f0) ((rd_T28 o122.f1 o122.f2).f1) ((rd_T28 o122.f1 o122.f2).f2) t145  (fun z_ => pal [(0, 0)] (C134_ z_)) w139 (fun _ => pal_lt rfl _) (Ft.arg HRq128_0 rfl) HCq128_0 A146).mono ?_
  rintro _ w148 ⟨C149, rfl, hs150⟩
  refine ⟨_, rfl, ?_⟩
  replace hs150 := Step.lift (U := [(0, 0)]) hs150 [] rfl rfl
  generalize up C134_ C149 w139.heap.size [(0, 0)] = C149_ at hs150
  replace HX126 := HX126.thru hs150 rfl
  replace HRq128_0 := HRq128_0.thru hs150 rfl
  replace HRq128_1 := HRq128_1.thru hs150 rfl
  replace HS := HS.trans hs150 hc rfl
  refine hK_ _ _ ⟨(Ft.now HRq128_0), (Ft.now HRq128_1), (Ft.now (HX126))⟩ ?_
  clear hK_ K_
  (try simp only [Act.put, List.setIfInBounds_toArray, ls0, ls1])
  refine al_as 15 (lb 16 65535) rfl rfl (by kernel_rfl) (fun _ _ _ => id) rfl ?_
  refine al_end (by kernel_rfl) ?_
  (try simp only [ls0, ls1])
  refine hK138 _ _ ?_
  (try clear hK138 K138)
  refine wp_ret ?_
  (try simp only [Exit.inBlock, Exit.then, Exit.noGoto])
  (try simp only [ls0, ls1])
  obtain rfl := Option.some.inj H
  refine bodyPost_ret (results_tmp rfl _ _ _) rfl ?_
  exact ⟨_, rfl, HS⟩

/-! ### expr_Cursor_Take: function 48 -/
def expr_Cursor_Take.j0 (a0_2 : Int) (x110 : Bool) : Option (Bool × Int) := if x110 = true then (some (false, a0_2)) else (some (true, wrap64 (a0_2 + 1)))
def expr_Cursor_Take.f (l0_0 : List Int) (l0_1 : List (S28)) (a0_2 : Int) (a0_3 : Int) (a1 : ByteArray) : Option (Bool × Int) := if a1 = (⟨#[]⟩ : ByteArray) then (expr_Cursor_Take.j0 a0_2 true) else ((expr_Cursor_Peek.f (some (⟨l0_0, l0_1, a0_2, a0_3⟩ : S111) : Option S111)).bind fun t125 => (expr_Cursor_Take.j0 a0_2 (!decide (t125 = a1))))
set_option maxHeartbeats 8000000 in
set_option maxRecDepth 100000 in
theorem expr_Cursor_Take.calls (g0 : Nat) (A0_0 : Option Addr) (c0_0 : Nat) (l0_0 : List Int) (A0_1 : Option Addr) (c0_1 : Nat) (l0_1 : List (S28)) (a0_2 : Int) (a0_3 : Int) (a1 : ByteArray) (r1 : Bool) (r2 : Int) (c : Nat → Nat) (w : World) (hc : ∀ k, c k < 10) (HP0 : Bx c 1 w g0 111 ([.slice A0_0 l0_0.length c0_0, .slice A0_1 l0_1.length c0_1, .int .i64 a0_2, .int .i64 a0_3])) (HP0_0 : Ft c [0] w (fun w_ => (Kd.int .u8).C w_ A0_0 l0_0.length l0_0)) (HCP0_0 : l0_0.length ≤ c0_0) (HP0_1 : Ft c [0] w (fun w_ => k28.C w_ A0_1 l0_1.length l0_1)) (HCP0_1 : l0_1.length ≤ c0_1) (H : expr_Cursor_Take.f l0_0 l0_1 a0_2 a0_3 a1 = some (r1, r2)) :
    Calls Try.prog 48 #[.pointer (some ⟨g0, 0, none⟩), .string a1] w fun e w' => ∃ (c' : Nat → Nat) , e = .returned (.bool r1) ∧ Step c w c' w' [1] ∧ Bx c' 1 w' g0 111 ([.slice A0_0 l0_0.length c0_0, .slice A0_1 l0_1.length c0_1, .int .i64 r2, .int .i64 a0_3]) := by
 unfold expr_Cursor_Take.f at H
 have HS := Step.refl c w [1]
 go_enter Try.func48, Try.ntmps48
 refine wp_seq_k fun K66 hK66 => ?_
 refine wl_region ?_
 refine st (.bool false) rfl rfl (xr_assign _ rfl rfl) ?_
 refine wl_end ?_
 (try simp only [ls0, ls1])
 refine hK66 _ _ ?_
 (try clear hK66 K66)
 refine wp_seq_k fun K67 hK67 => ?_
 refine wp_seq_k fun K97 hK97 => ?_
 have hj106 : ∀ (C107 : Nat → Nat) (w108 : World) (x110 : Bool) (g_ : Nat → Value), Step c w C107 w108 [1] → (Ft C107 [0] w108 (fun w_ => (Kd.int .u8).C w_ A0_0 l0_0.length l0_0)) → (Ft C107 [0] w108 (fun w_ => k28.C w_ A0_1 l0_1.length l0_1)) → (Bx C107 1 w108 g0 111 ([.slice A0_0 l0_0.length c0_0, .slice A0_1 l0_1.length c0_1, .int .i64 a0_2, .int .i64 a0_3])) → expr_Cursor_Take.j0 a0_2 x110 = some (r1, r2) → K97 ⟨#[.pointer (some ⟨g0, 0, none⟩), (g_ 1), (g_ 2), (g_ 3), (g_ 4), (g_ 5), (g_ 6), (g_ 7), (g_ 8), (g_ 9), (g_ 10), (g_ 11), (g_ 12), (g_ 13), (g_ 14), (g_ 15), .bool x110, (g_ 17), (g_ 18), (g_ 19), (g_ 20), (g_ 21), (g_ 22), (g_ 23)], []⟩ w108 := by
  intro C107 w108 x110 g_ HS109 HJ111 HJ112 HJ113 H
  unfold expr_Cursor_Take.j0 at H
  refine hK97 _ _ ?_
  (try clear hK97)
  by_cases c116 : x110 = true
  ·rw [if_pos c116] at H
   (try rw [c116])
   refine wp_cond_true rfl ?_
   refine wp_seq_k fun K117 hK117 => ?_
   refine wl_region ?_
   refine st (.bool false) rfl rfl (xr_assign _ rfl rfl) ?_
   simp only [ls0, ls1]
   refine wl_end ?_
   (try simp only [ls0, ls1])
   refine hK117 _ _ ?_
   (try clear hK117 K117)
   refine wp_ret ?_
   (try simp only [Exit.inBlock, Exit.then, Exit.noGoto])
   (try simp only [ls0, ls1])
   simp only [Option.some.injEq, Prod.mk.injEq] at H
   obtain ⟨rfl, rfl⟩ := H
   refine bodyPost_ret (results_tmp rfl _ _ _) rfl ?_
   exact ⟨_, rfl, HS109, HJ113⟩
  rw [if_neg c116] at H
  (try rw [(Bool.eq_false_iff.mpr c116)])
  refine wp_cond_false rfl ?_
  refine wp_skip ?_
  (try simp only [ls0, ls1])
  refine hK67 _ _ ?_
  (try clear hK67 K67)
  refine wp_seq_k fun K118 hK118 => ?_
  refine wl_region ?_
  refine mv_ rfl ?_
  refine st (.pointer (some ⟨g0, 0, none⟩)) rfl rfl (xr_nilCheck _ rfl rfl) ?_
  refine st (.pointer (some ⟨g0, 2, none⟩)) rfl rfl (xr_fieldAddr _ _ rfl rfl (bx_field2 Try.underlying111 rfl rfl (by kernel_rfl))) ?_
  refine st (.int .i64 a0_2) rfl rfl (xr_load _ _ rfl rfl (load_cell Try.underlying3 rfl (bx_cell (HJ113).2 2 rfl))) ?_
  simp only [ls0, ls1]
  refine st (.int .i64 (wrap64 (a0_2 + 1))) rfl rfl (xr_bin _ _ _ rfl rfl rfl (B.add_i64 _ _)) ?_
  refine st (.pointer (some ⟨g0, 0, none⟩)) rfl rfl (xr_nilCheck _ rfl rfl) ?_
  refine st (.pointer (some ⟨g0, 2, none⟩)) rfl rfl (xr_fieldAddr _ _ rfl rfl (bx_field2 Try.underlying111 rfl rfl (by kernel_rfl))) ?_
  refine bx_store (C := C107) (z := 1) (g := g0) (j := 2) (tb := 111) (u := .int .i64 (wrap64 (a0_2 + 1))) (seg := [.int .i64 (wrap64 (a0_2 + 1))]) (xs := [.slice A0_0 l0_0.length c0_0, .slice A0_1 l0_1.length c0_1, .int .i64 a0_2, .int .i64 a0_3]) rfl rfl rfl rfl rfl rfl (by first | kernel_rfl | rfl) (by simp [Value.oneCell']) HJ113 (by simp only [List.length_cons, List.length_nil]; omega) rfl ?_
  intro w119 HX120 hs121
  replace HJ111 := HJ111.thru hs121 rfl
  replace HJ112 := HJ112.thru hs121 rfl
  replace HS109 := HS109.trans hs121 hc rfl
  (try simp only [ls0, ls1])
  refine wl_end ?_
  (try simp only [ls0, ls1])
  refine hK118 _ _ ?_
  (try clear hK118 K118)
  refine wp_seq_k fun K122 hK122 => ?_
  refine wl_region ?_
  refine st (.bool true) rfl rfl (xr_assign _ rfl rfl) ?_
  refine wl_end ?_
  (try simp only [ls0, ls1])
  refine hK122 _ _ ?_
  (try clear hK122 K122)
  refine wp_ret ?_
  (try simp only [Exit.inBlock, Exit.then, Exit.noGoto])
  (try simp only [ls0, ls1])
  simp only [Option.some.injEq, Prod.mk.injEq] at H
  obtain ⟨rfl, rfl⟩ := H
  refine bodyPost_ret (results_tmp rfl _ _ _) rfl ?_
  exact ⟨_, rfl, HS109, HX120⟩
 refine wl_region ?_
 refine mv_ rfl ?_
 refine st (.bool false) rfl rfl (xr_bin (.pointer (some ⟨g0, 0, none⟩)) (.pointer none) (.bool false) rfl rfl rfl (B.eql_pn ⟨_, Try.underlying57⟩ ⟨g0, 0, none⟩)) ?_
 refine mv_ rfl ?_
 refine on_guard (guard_on 2 false 7 rfl rfl rfl) ?_
 refine mv_ rfl ?_
 simp only [ls0, ls1]
 refine on_guard (guard_on 2 false 7 rfl rfl rfl) ?_
 refine st (.bool (decide (a1 = (⟨#[]⟩ : ByteArray)))) rfl rfl (xr_bin _ _ _ rfl rfl rfl (B.eql_str _ _)) ?_
 refine st (.bool (decide (a1 = (⟨#[]⟩ : ByteArray)))) rfl rfl (xr_pick false _ rfl rfl rfl) ?_
 refine mv_ rfl ?_
 by_cases c123 : a1 = (⟨#[]⟩ : ByteArray)
 ·rw [if_pos c123] at H
  (try rw [(decide_eq_true c123)])
  refine sk_guard (guard_off 6 false 11 rfl rfl true (by decide) rfl) rfl ?_
  simp only [ls0, ls1]
  refine sk_guard (guard_off 6 false 11 rfl rfl true (by decide) rfl) rfl ?_
  refine sk_guard (guard_off 6 false 11 rfl rfl true (by decide) rfl) rfl ?_
  refine sk_guard (guard_off 6 false 11 rfl rfl true (by decide) rfl) rfl ?_
  refine st (.bool true) rfl rfl (xr_pick true _ rfl rfl rfl) ?_
  simp only [ls0, ls1]
  refine wl_end ?_
  (try simp only [ls0, ls1])
  exact jmp (fun g_ => hj106 _ _ (true) g_ HS HP0_0 HP0_1 HP0 H) rfl
 rw [if_neg c123] at H
 (try rw [(decide_eq_false c123)])
 refine on_guard (guard_on 6 false 11 rfl rfl rfl) ?_
 refine mv_ rfl ?_
 refine on_guard (guard_on 6 false 11 rfl rfl rfl) ?_
 have HP124 : Ft c [0, 1] w (fun w_ => (Kd.ptr 111 k111).K w_ (some (⟨l0_0, l0_1, a0_2, a0_3⟩ : S111)) [.pointer (some ⟨g0, 0, none⟩)]) := ptr_mk (Ft.more (HP0.ft) rfl) (k111_mkF _ _ (⟨l0_0, l0_1, a0_2, a0_3⟩ : S111) HCP0_0 (Ft.more HP0_0 rfl) HCP0_1 (Ft.more HP0_1 rfl))
 obtain ⟨t125, A126, H⟩ := bnd H
 refine st_call #[.pointer (some ⟨g0, 0, none⟩)] rfl rfl Try.func43 (by kernel_rfl) rfl rfl (mp_ rfl) ?_
 refine (expr_Cursor_Peek.calls (.pointer (some ⟨g0, 0, none⟩)) (some (⟨l0_0, l0_1, a0_2, a0_3⟩ : S111) : Option S111) t125  (fun z_ => pal [(0, 0), (1, 0)] (c z_)) w (fun _ => pal_lt rfl _) (Ft.arg HP124 rfl) A126).mono ?_
 rintro _ w128 ⟨C129, rfl, hs130⟩
 refine ⟨_, rfl, ?_⟩
 replace hs130 := Step.lift (U := [(0, 0)]) hs130 [] rfl rfl
 generalize up c C129 w.heap.size [(0, 0)] = C129_ at hs130
 replace HP0 := HP0.thru hs130 rfl
 replace HP0_0 := HP0_0.thru hs130 rfl
 replace HP0_1 := HP0_1.thru hs130 rfl
 replace HS := HS.trans hs130 hc rfl
 (try simp only [ls0, ls1])
 refine on_guard (guard_on 6 false 11 rfl rfl rfl) ?_
 refine mv_ rfl ?_
 refine on_guard (guard_on 6 false 11 rfl rfl rfl) ?_
 refine st (.bool (!decide (t125 = a1))) rfl rfl (xr_bin _ _ _ rfl rfl rfl (B.neq_str _ _)) ?_
 refine st (.bool (!decide (t125 = a1))) rfl rfl (xr_pick false _ rfl rfl rfl) ?_
 refine wl_end ?_
 (try simp only [ls0, ls1])
 exact jmp (fun g_ => hj106 _ _ (!decide (t125 = a1)) g_ HS HP0_0 HP0_1 HP0 H) rfl

/-! ### lex_Keyword: function 27 -/
def lex_Keyword.j0 (x113 : Bool) : Option (Bool) := if x113 = true then (some true) else (some false)
def lex_Keyword.f (a0 : ByteArray) : Option (Bool) := if a0 = (⟨#[105, 109, 112, 111, 114, 116]⟩ : ByteArray) then (lex_Keyword.j0 true) else (if a0 = (⟨#[108, 97, 116, 116, 105, 99, 101]⟩ : ByteArray) then (lex_Keyword.j0 true) else (if a0 = (⟨#[101, 102, 102, 101, 99, 116, 115]⟩ : ByteArray) then (lex_Keyword.j0 true) else (if a0 = (⟨#[118, 97, 114]⟩ : ByteArray) then (lex_Keyword.j0 true) else (if a0 = (⟨#[102, 110]⟩ : ByteArray) then (lex_Keyword.j0 true) else (if a0 = (⟨#[108, 101, 116]⟩ : ByteArray) then (lex_Keyword.j0 true) else (if a0 = (⟨#[105, 102]⟩ : ByteArray) then (lex_Keyword.j0 true) else (if a0 = (⟨#[101, 108, 115, 101]⟩ : ByteArray) then (lex_Keyword.j0 true) else (if a0 = (⟨#[119, 104, 105, 108, 101]⟩ : ByteArray) then (lex_Keyword.j0 true) else (if a0 = (⟨#[114, 101, 116, 117, 114, 110]⟩ : ByteArray) then (lex_Keyword.j0 true) else (if a0 = (⟨#[100, 111]⟩ : ByteArray) then (lex_Keyword.j0 true) else (if a0 = (⟨#[116, 114, 117, 101]⟩ : ByteArray) then (lex_Keyword.j0 true) else (if a0 = (⟨#[102, 97, 108, 115, 101]⟩ : ByteArray) then (lex_Keyword.j0 true) else (if a0 = (⟨#[105, 110, 116]⟩ : ByteArray) then (lex_Keyword.j0 true) else (if a0 = (⟨#[98, 111, 111, 108]⟩ : ByteArray) then (lex_Keyword.j0 true) else (lex_Keyword.j0 (decide (a0 = (⟨#[100, 101, 99, 108, 97, 115, 115, 105, 102, 121]⟩ : ByteArray))))))))))))))))))
set_option maxHeartbeats 8000000 in
set_option maxRecDepth 100000 in
theorem lex_Keyword.calls (a0 : ByteArray) (r : Bool) (c : Nat → Nat) (w : World) (hc : ∀ k, c k < 10)  (H : lex_Keyword.f a0 = some r) :
    Calls Try.prog 27 #[.string a0] w fun e w' => ∃ (c' : Nat → Nat) , e = .returned (.bool r) ∧ Step c w c' w' [] := by
 unfold lex_Keyword.f at H
 have HS := Step.refl c w []
 go_enter Try.func27, Try.ntmps27
 refine wp_seq_k fun K75 hK75 => ?_
 refine wl_region ?_
 refine st (.bool false) rfl rfl (xr_assign _ rfl rfl) ?_
 refine wl_end ?_
 (try simp only [ls0, ls1])
 refine hK75 _ _ ?_
 (try clear hK75 K75)
 refine wp_seq_k fun K76 hK76 => ?_
 refine wp_seq_k fun K77 hK77 => ?_
 refine wl_region ?_
 refine mv_ rfl ?_
 refine wl_end ?_
 (try simp only [ls0, ls1])
 refine hK77 _ _ ?_
 (try clear hK77 K77)
 refine wp_block ?_
 refine wp_seq_k fun K78 hK78 => ?_
 have hj109 : ∀ (C110 : Nat → Nat) (w111 : World) (x113 : Bool) (g_ : Nat → Value), Step c w C110 w111 [] → lex_Keyword.j0 x113 = some r → K78 ⟨#[(g_ 0), (g_ 1), (g_ 2), (g_ 3), .bool x113, (g_ 5), (g_ 6), (g_ 7), (g_ 8), (g_ 9), (g_ 10), (g_ 11), (g_ 12), (g_ 13), (g_ 14), (g_ 15), (g_ 16), (g_ 17), (g_ 18), (g_ 19), (g_ 20)], []⟩ w111 := by
  intro C110 w111 x113 g_ HS112  H
  unfold lex_Keyword.j0 at H
  refine hK78 _ _ ?_
  (try clear hK78)
  by_cases c116 : x113 = true
  ·rw [if_pos c116] at H
   (try rw [c116])
   refine wp_cond_true rfl ?_
   refine wp_seq_k fun K117 hK117 => ?_
   refine wl_region ?_
   refine st (.bool true) rfl rfl (xr_assign _ rfl rfl) ?_
   refine wl_end ?_
   (try simp only [ls0, ls1])
   refine hK117 _ _ ?_
   (try clear hK117 K117)
   refine wp_ret ?_
   (try simp only [Exit.inBlock, Exit.then, Exit.noGoto])
   (try simp only [ls0, ls1])
   obtain rfl := Option.some.inj H
   refine bodyPost_ret (results_tmp rfl _ _ _) rfl ?_
   exact ⟨_, rfl, HS112⟩
  rw [if_neg c116] at H
  (try rw [(Bool.eq_false_iff.mpr c116)])
  refine wp_cond_false rfl ?_
  refine wp_skip ?_
  (try simp only [ls0, ls1])
  refine hK76 _ _ ?_
  (try clear hK76 K76)
  refine wp_seq_k fun K118 hK118 => ?_
  refine wl_region ?_
  refine st (.bool false) rfl rfl (xr_assign _ rfl rfl) ?_
  refine wl_end ?_
  (try simp only [ls0, ls1])
  refine hK118 _ _ ?_
  (try clear hK118 K118)
  refine wp_ret ?_
  (try simp only [Exit.inBlock, Exit.then, Exit.noGoto])
  (try simp only [ls0, ls1])
  obtain rfl := Option.some.inj H
  refine bodyPost_ret (results_tmp rfl _ _ _) rfl ?_
  exact ⟨_, rfl, HS112⟩
 refine wp_seq_k fun K119 hK119 => ?_
 refine wl_region ?_
 refine st (.bool (decide (a0 = (⟨#[105, 109, 112, 111, 114, 116]⟩ : ByteArray)))) rfl rfl (xr_bin _ _ _ rfl rfl rfl (B.eql_str _ _)) ?_
 refine as_ rfl ?_
 refine wl_end ?_
 (try simp only [ls0, ls1])
 refine hK119 _ _ ?_
 (try clear hK119 K119)
 by_cases c120 : a0 = (⟨#[105, 109, 112, 111, 114, 116]⟩ : ByteArray)
 ·rw [if_pos c120] at H
  (try rw [(decide_eq_true c120)])
  refine wp_cond_true rfl ?_
  refine wp_skip ?_
  (try simp only [ls0, ls1])
  exact jmp (fun g_ => hj109 _ _ (true) g_ HS H) rfl
 rw [if_neg c120] at H
 (try rw [(decide_eq_false c120)])
 refine wp_cond_false rfl ?_
 refine wp_seq_k fun K121 hK121 => ?_
 refine wl_region ?_
 refine st (.bool (decide (a0 = (⟨#[108, 97, 116, 116, 105, 99, 101]⟩ : ByteArray)))) rfl rfl (xr_bin _ _ _ rfl rfl rfl (B.eql_str _ _)) ?_
 refine as_ rfl ?_
 refine wl_end ?_
 (try simp only [ls0, ls1])
 refine hK121 _ _ ?_
 (try clear hK121 K121)
 by_cases c122 : a0 = (⟨#[108, 97, 116, 116, 105, 99, 101]⟩ : ByteArray)
 ·rw [if_pos c122] at H
  (try rw [(decide_eq_true c122)])
  refine wp_cond_true rfl ?_
  refine wp_skip ?_
  (try simp only [ls0, ls1])
  exact jmp (fun g_ => hj109 _ _ (true) g_ HS H) rfl
 rw [if_neg c122] at H
 (try rw [(decide_eq_false c122)])
 refine wp_cond_false rfl ?_
 refine wp_seq_k fun K123 hK123 => ?_
 refine wl_region ?_
 refine st (.bool (decide (a0 = (⟨#[101, 102, 102, 101, 99, 116, 115]⟩ : ByteArray)))) rfl rfl (xr_bin _ _ _ rfl rfl rfl (B.eql_str _ _)) ?_
 refine as_ rfl ?_
 refine wl_end ?_
 (try simp only [ls0, ls1])
 refine hK123 _ _ ?_
 (try clear hK123 K123)
 by_cases c124 : a0 = (⟨#[101, 102, 102, 101, 99, 116, 115]⟩ : ByteArray)
 ·rw [if_pos c124] at H
  (try rw [(decide_eq_true c124)])
  refine wp_cond_true rfl ?_
  refine wp_skip ?_
  (try simp only [ls0, ls1])
  exact jmp (fun g_ => hj109 _ _ (true) g_ HS H) rfl
 rw [if_neg c124] at H
 (try rw [(decide_eq_false c124)])
 refine wp_cond_false rfl ?_
 refine wp_seq_k fun K125 hK125 => ?_
 refine wl_region ?_
 refine st (.bool (decide (a0 = (⟨#[118, 97, 114]⟩ : ByteArray)))) rfl rfl (xr_bin _ _ _ rfl rfl rfl (B.eql_str _ _)) ?_
 refine as_ rfl ?_
 refine wl_end ?_
 (try simp only [ls0, ls1])
 refine hK125 _ _ ?_
 (try clear hK125 K125)
 by_cases c126 : a0 = (⟨#[118, 97, 114]⟩ : ByteArray)
 ·rw [if_pos c126] at H
  (try rw [(decide_eq_true c126)])
  refine wp_cond_true rfl ?_
  refine wp_skip ?_
  (try simp only [ls0, ls1])
  exact jmp (fun g_ => hj109 _ _ (true) g_ HS H) rfl
 rw [if_neg c126] at H
 (try rw [(decide_eq_false c126)])
 refine wp_cond_false rfl ?_
 refine wp_seq_k fun K127 hK127 => ?_
 refine wl_region ?_
 refine st (.bool (decide (a0 = (⟨#[102, 110]⟩ : ByteArray)))) rfl rfl (xr_bin _ _ _ rfl rfl rfl (B.eql_str _ _)) ?_
 refine as_ rfl ?_
 refine wl_end ?_
 (try simp only [ls0, ls1])
 refine hK127 _ _ ?_
 (try clear hK127 K127)
 by_cases c128 : a0 = (⟨#[102, 110]⟩ : ByteArray)
 ·rw [if_pos c128] at H
  (try rw [(decide_eq_true c128)])
  refine wp_cond_true rfl ?_
  refine wp_skip ?_
  (try simp only [ls0, ls1])
  exact jmp (fun g_ => hj109 _ _ (true) g_ HS H) rfl
 rw [if_neg c128] at H
 (try rw [(decide_eq_false c128)])
 refine wp_cond_false rfl ?_
 refine wp_seq_k fun K129 hK129 => ?_
 refine wl_region ?_
 refine st (.bool (decide (a0 = (⟨#[108, 101, 116]⟩ : ByteArray)))) rfl rfl (xr_bin _ _ _ rfl rfl rfl (B.eql_str _ _)) ?_
 refine as_ rfl ?_
 refine wl_end ?_
 (try simp only [ls0, ls1])
 refine hK129 _ _ ?_
 (try clear hK129 K129)
 by_cases c130 : a0 = (⟨#[108, 101, 116]⟩ : ByteArray)
 ·rw [if_pos c130] at H
  (try rw [(decide_eq_true c130)])
  refine wp_cond_true rfl ?_
  refine wp_skip ?_
  (try simp only [ls0, ls1])
  exact jmp (fun g_ => hj109 _ _ (true) g_ HS H) rfl
 rw [if_neg c130] at H
 (try rw [(decide_eq_false c130)])
 refine wp_cond_false rfl ?_
 refine wp_seq_k fun K131 hK131 => ?_
 refine wl_region ?_
 refine st (.bool (decide (a0 = (⟨#[105, 102]⟩ : ByteArray)))) rfl rfl (xr_bin _ _ _ rfl rfl rfl (B.eql_str _ _)) ?_
 refine as_ rfl ?_
 refine wl_end ?_
 (try simp only [ls0, ls1])
 refine hK131 _ _ ?_
 (try clear hK131 K131)
 by_cases c132 : a0 = (⟨#[105, 102]⟩ : ByteArray)
 ·rw [if_pos c132] at H
  (try rw [(decide_eq_true c132)])
  refine wp_cond_true rfl ?_
  refine wp_skip ?_
  (try simp only [ls0, ls1])
  exact jmp (fun g_ => hj109 _ _ (true) g_ HS H) rfl
 rw [if_neg c132] at H
 (try rw [(decide_eq_false c132)])
 refine wp_cond_false rfl ?_
 refine wp_seq_k fun K133 hK133 => ?_
 refine wl_region ?_
 refine st (.bool (decide (a0 = (⟨#[101, 108, 115, 101]⟩ : ByteArray)))) rfl rfl (xr_bin _ _ _ rfl rfl rfl (B.eql_str _ _)) ?_
 refine as_ rfl ?_
 refine wl_end ?_
 (try simp only [ls0, ls1])
 refine hK133 _ _ ?_
 (try clear hK133 K133)
 by_cases c134 : a0 = (⟨#[101, 108, 115, 101]⟩ : ByteArray)
 ·rw [if_pos c134] at H
  (try rw [(decide_eq_true c134)])
  refine wp_cond_true rfl ?_
  refine wp_skip ?_
  (try simp only [ls0, ls1])
  exact jmp (fun g_ => hj109 _ _ (true) g_ HS H) rfl
 rw [if_neg c134] at H
 (try rw [(decide_eq_false c134)])
 refine wp_cond_false rfl ?_
 refine wp_seq_k fun K135 hK135 => ?_
 refine wl_region ?_
 refine st (.bool (decide (a0 = (⟨#[119, 104, 105, 108, 101]⟩ : ByteArray)))) rfl rfl (xr_bin _ _ _ rfl rfl rfl (B.eql_str _ _)) ?_
 refine as_ rfl ?_
 refine wl_end ?_
 (try simp only [ls0, ls1])
 refine hK135 _ _ ?_
 (try clear hK135 K135)
 by_cases c136 : a0 = (⟨#[119, 104, 105, 108, 101]⟩ : ByteArray)
 ·rw [if_pos c136] at H
  (try rw [(decide_eq_true c136)])
  refine wp_cond_true rfl ?_
  refine wp_skip ?_
  (try simp only [ls0, ls1])
  exact jmp (fun g_ => hj109 _ _ (true) g_ HS H) rfl
 rw [if_neg c136] at H
 (try rw [(decide_eq_false c136)])
 refine wp_cond_false rfl ?_
 refine wp_seq_k fun K137 hK137 => ?_
 refine wl_region ?_
 refine st (.bool (decide (a0 = (⟨#[114, 101, 116, 117, 114, 110]⟩ : ByteArray)))) rfl rfl (xr_bin _ _ _ rfl rfl rfl (B.eql_str _ _)) ?_
 refine as_ rfl ?_
 refine wl_end ?_
 (try simp only [ls0, ls1])
 refine hK137 _ _ ?_
 (try clear hK137 K137)
 by_cases c138 : a0 = (⟨#[114, 101, 116, 117, 114, 110]⟩ : ByteArray)
 ·rw [if_pos c138] at H
  (try rw [(decide_eq_true c138)])
  refine wp_cond_true rfl ?_
  refine wp_skip ?_
  (try simp only [ls0, ls1])
  exact jmp (fun g_ => hj109 _ _ (true) g_ HS H) rfl
 rw [if_neg c138] at H
 (try rw [(decide_eq_false c138)])
 refine wp_cond_false rfl ?_
 refine wp_seq_k fun K139 hK139 => ?_
 refine wl_region ?_
 refine st (.bool (decide (a0 = (⟨#[100, 111]⟩ : ByteArray)))) rfl rfl (xr_bin _ _ _ rfl rfl rfl (B.eql_str _ _)) ?_
 refine as_ rfl ?_
 refine wl_end ?_
 (try simp only [ls0, ls1])
 refine hK139 _ _ ?_
 (try clear hK139 K139)
 by_cases c140 : a0 = (⟨#[100, 111]⟩ : ByteArray)
 ·rw [if_pos c140] at H
  (try rw [(decide_eq_true c140)])
  refine wp_cond_true rfl ?_
  refine wp_skip ?_
  (try simp only [ls0, ls1])
  exact jmp (fun g_ => hj109 _ _ (true) g_ HS H) rfl
 rw [if_neg c140] at H
 (try rw [(decide_eq_false c140)])
 refine wp_cond_false rfl ?_
 refine wp_seq_k fun K141 hK141 => ?_
 refine wl_region ?_
 refine st (.bool (decide (a0 = (⟨#[116, 114, 117, 101]⟩ : ByteArray)))) rfl rfl (xr_bin _ _ _ rfl rfl rfl (B.eql_str _ _)) ?_
 refine as_ rfl ?_
 refine wl_end ?_
 (try simp only [ls0, ls1])
 refine hK141 _ _ ?_
 (try clear hK141 K141)
 by_cases c142 : a0 = (⟨#[116, 114, 117, 101]⟩ : ByteArray)
 ·rw [if_pos c142] at H
  (try rw [(decide_eq_true c142)])
  refine wp_cond_true rfl ?_
  refine wp_skip ?_
  (try simp only [ls0, ls1])
  exact jmp (fun g_ => hj109 _ _ (true) g_ HS H) rfl
 rw [if_neg c142] at H
 (try rw [(decide_eq_false c142)])
 refine wp_cond_false rfl ?_
 refine wp_seq_k fun K143 hK143 => ?_
 refine wl_region ?_
 refine st (.bool (decide (a0 = (⟨#[102, 97, 108, 115, 101]⟩ : ByteArray)))) rfl rfl (xr_bin _ _ _ rfl rfl rfl (B.eql_str _ _)) ?_
 refine as_ rfl ?_
 refine wl_end ?_
 (try simp only [ls0, ls1])
 refine hK143 _ _ ?_
 (try clear hK143 K143)
 by_cases c144 : a0 = (⟨#[102, 97, 108, 115, 101]⟩ : ByteArray)
 ·rw [if_pos c144] at H
  (try rw [(decide_eq_true c144)])
  refine wp_cond_true rfl ?_
  refine wp_skip ?_
  (try simp only [ls0, ls1])
  exact jmp (fun g_ => hj109 _ _ (true) g_ HS H) rfl
 rw [if_neg c144] at H
 (try rw [(decide_eq_false c144)])
 refine wp_cond_false rfl ?_
 refine wp_seq_k fun K145 hK145 => ?_
 refine wl_region ?_
 refine st (.bool (decide (a0 = (⟨#[105, 110, 116]⟩ : ByteArray)))) rfl rfl (xr_bin _ _ _ rfl rfl rfl (B.eql_str _ _)) ?_
 refine as_ rfl ?_
 refine wl_end ?_
 (try simp only [ls0, ls1])
 refine hK145 _ _ ?_
 (try clear hK145 K145)
 by_cases c146 : a0 = (⟨#[105, 110, 116]⟩ : ByteArray)
 ·rw [if_pos c146] at H
  (try rw [(decide_eq_true c146)])
  refine wp_cond_true rfl ?_
  refine wp_skip ?_
  (try simp only [ls0, ls1])
  exact jmp (fun g_ => hj109 _ _ (true) g_ HS H) rfl
 rw [if_neg c146] at H
 (try rw [(decide_eq_false c146)])
 refine wp_cond_false rfl ?_
 refine wp_seq_k fun K147 hK147 => ?_
 refine wl_region ?_
 refine st (.bool (decide (a0 = (⟨#[98, 111, 111, 108]⟩ : ByteArray)))) rfl rfl (xr_bin _ _ _ rfl rfl rfl (B.eql_str _ _)) ?_
 refine as_ rfl ?_
 refine wl_end ?_
 (try simp only [ls0, ls1])
 refine hK147 _ _ ?_
 (try clear hK147 K147)
 by_cases c148 : a0 = (⟨#[98, 111, 111, 108]⟩ : ByteArray)
 ·rw [if_pos c148] at H
  (try rw [(decide_eq_true c148)])
  refine wp_cond_true rfl ?_
  refine wp_skip ?_
  (try simp only [ls0, ls1])
  exact jmp (fun g_ => hj109 _ _ (true) g_ HS H) rfl
 rw [if_neg c148] at H
 (try rw [(decide_eq_false c148)])
 refine wp_cond_false rfl ?_
 refine wl_region ?_
 refine st (.bool (decide (a0 = (⟨#[100, 101, 99, 108, 97, 115, 115, 105, 102, 121]⟩ : ByteArray)))) rfl rfl (xr_bin _ _ _ rfl rfl rfl (B.eql_str _ _)) ?_
 refine as_ rfl ?_
 refine wl_end ?_
 (try simp only [ls0, ls1])
 exact jmp (fun g_ => hj109 _ _ (decide (a0 = (⟨#[100, 101, 99, 108, 97, 115, 115, 105, 102, 121]⟩ : ByteArray))) g_ HS H) rfl

/-! ### lex_Ident_1: function 75 -/
def lex_Ident_1.f (a0 : Int) : Option (Bool) := (lex_letter.f a0).bind fun t18 => (if t18 = true then (some true) else ((lex_digit.f a0).bind fun t25 => (some t25)))
set_option maxHeartbeats 8000000 in
set_option maxRecDepth 100000 in
theorem lex_Ident_1.calls (a0 : Int) (r : Bool) (c : Nat → Nat) (w : World) (hc : ∀ k, c k < 10)  (H : lex_Ident_1.f a0 = some r) :
    Calls Try.prog 75 #[.int .u8 a0] w fun e w' => ∃ (c' : Nat → Nat) , e = .returned (.bool r) ∧ Step c w c' w' [] := by
 unfold lex_Ident_1.f at H
 have HS := Step.refl c w []
 go_enter Try.func75, Try.ntmps75
 refine wp_seq_k fun K16 hK16 => ?_
 refine wl_region ?_
 refine st (.bool false) rfl rfl (xr_assign _ rfl rfl) ?_
 refine wl_end ?_
 (try simp only [ls0, ls1])
 refine hK16 _ _ ?_
 (try clear hK16 K16)
 refine wp_seq_k fun K17 hK17 => ?_
 refine wl_region ?_
 refine mv_ rfl ?_
 obtain ⟨t18, A19, H⟩ := bnd H
 refine st_call #[.int .u8 a0] rfl rfl Try.func73 (by kernel_rfl) rfl rfl (mp_ rfl) ?_
 refine (lex_letter.calls a0 t18  (fun z_ => pal [(0, 0)] (c z_)) w (fun _ => pal_lt rfl _) A19).mono ?_
 rintro _ w21 ⟨C22, rfl, hs23⟩
 refine ⟨_, rfl, ?_⟩
 replace hs23 := Step.lift (U := [(0, 0)]) hs23 [] rfl rfl
 generalize up c C22 w.heap.size [(0, 0)] = C22_ at hs23
 replace HS := HS.trans hs23 hc rfl
 (try simp only [ls0, ls1])
 refine mv_ rfl ?_
 by_cases c24 : t18 = true
 ·rw [if_pos c24] at H
  (try rw [c24])
  refine sk_guard (guard_off 2 false 5 rfl rfl true (by decide) rfl) rfl ?_
  refine sk_guard (guard_off 2 false 5 rfl rfl true (by decide) rfl) rfl ?_
  refine st (.bool true) rfl rfl (xr_pick true _ rfl rfl rfl) ?_
  simp only [ls0, ls1]
  refine as_ rfl ?_
  refine wl_end ?_
  (try simp only [ls0, ls1])
  refine hK17 _ _ ?_
  (try clear hK17 K17)
  refine wp_ret ?_
  (try simp only [Exit.inBlock, Exit.then, Exit.noGoto])
  (try simp only [ls0, ls1])
  obtain rfl := Option.some.inj H
  refine bodyPost_ret (results_tmp rfl _ _ _) rfl ?_
  exact ⟨_, rfl, HS⟩
 rw [if_neg c24] at H
 (try rw [(Bool.eq_false_iff.mpr c24)])
 refine on_guard (guard_on 2 false 5 rfl rfl rfl) ?_
 refine mv_ rfl ?_
 refine on_guard (guard_on 2 false 5 rfl rfl rfl) ?_
 obtain ⟨t25, A26, H⟩ := bnd H
 refine st_call #[.int .u8 a0] rfl rfl Try.func76 (by kernel_rfl) rfl rfl (mp_ rfl) ?_
 refine (lex_digit.calls a0 t25  (fun z_ => pal [(0, 0)] (C22_ z_)) w21 (fun _ => pal_lt rfl _) A26).mono ?_
 rintro _ w28 ⟨C29, rfl, hs30⟩
 refine ⟨_, rfl, ?_⟩
 replace hs30 := Step.lift (U := [(0, 0)]) hs30 [] rfl rfl
 generalize up C22_ C29 w21.heap.size [(0, 0)] = C29_ at hs30
 replace HS := HS.trans hs30 hc rfl
 (try simp only [ls0, ls1])
 refine st (.bool t25) rfl rfl (xr_pick false _ rfl rfl rfl) ?_
 refine as_ rfl ?_
 refine wl_end ?_
 (try simp only [ls0, ls1])
 refine hK17 _ _ ?_
 (try clear hK17 K17)
 refine wp_ret ?_
 (try simp only [Exit.inBlock, Exit.then, Exit.noGoto])
 (try simp only [ls0, ls1])
 obtain rfl := Option.some.inj H
 refine bodyPost_ret (results_tmp rfl _ _ _) rfl ?_
 exact ⟨_, rfl, HS⟩

/-! ### lex_run_lex_Ident_1: function 74 -/
mutual
def lex_run_lex_Ident_1.j0 : Nat → (List Int) → Int → Bool → Option (Int)
  | 0, _, _, _ => none
  | k + 1, l0, x186, x213 => if x213 = true then (lex_run_lex_Ident_1.l0 k l0 (wrap64 (x186 + 1))) else (some x186)
def lex_run_lex_Ident_1.l0 : Nat → (List Int) → Int → Option (Int)
  | 0, _, _ => none
  | k + 1, l0, x186 => if x186 < (l0.length : Int) then (if 0 ≤ x186 then ((lex_Ident_1.f (rd l0 x186)).bind fun t223 => (lex_run_lex_Ident_1.j0 k l0 x186 t223)) else (none)) else (lex_run_lex_Ident_1.j0 k l0 x186 false)
end
def lex_run_lex_Ident_1.f (k : Nat) (l0 : List Int) : Option (Int) := lex_run_lex_Ident_1.l0 k l0 0

set_option maxHeartbeats 8000000 in
set_option maxRecDepth 100000 in
theorem lex_run_lex_Ident_1.calls (k : Nat) (A0 : Option Addr) (c0 : Nat) (l0 : List Int) (r : Int) (c : Nat → Nat) (w : World) (hc : ∀ k, c k < 10) (HP0 : Ft c [0] w (fun w_ => (Kd.int .u8).C w_ A0 l0.length l0)) (HCP0 : l0.length ≤ c0) (H : lex_run_lex_Ident_1.f k l0 = some r) :
    Calls Try.prog 74 #[.slice A0 l0.length c0, .func (.func 75) #[] #[]] w fun e w' => ∃ (c' : Nat → Nat) , e = .returned (.int .i64 r) ∧ Step c w c' w' [] := by
 unfold lex_run_lex_Ident_1.f at H
 have HS := Step.refl c w []
 go_enter Try.func74, Try.ntmps74
 refine wp_seq_k fun K115 hK115 => ?_
 refine wl_region ?_
 refine st (.int .i64 0) rfl rfl (xr_assign _ rfl rfl) ?_
 refine wl_end ?_
 (try simp only [ls0, ls1])
 refine hK115 _ _ ?_
 (try clear hK115 K115)
 refine wp_seq_k fun K116 hK116 => ?_
 refine wl_region ?_
 refine st (.int .i64 0) rfl rfl (xr_assign _ rfl rfl) ?_
 refine wl_end ?_
 (try simp only [ls0, ls1])
 refine hK116 _ _ ?_
 (try clear hK116 K116)
 refine wp_seq_k fun K117 hK117 => ?_
 refine wp_block ?_
 (try simp only [ls0, ls1])
 refine wp_looped (looped_fin (fun kq189 a_ w188 => ∃ (C187 : Nat → Nat) (x186 : Int) (g_ : Nat → Value), a_ = ⟨#[.slice A0 l0.length c0, .func (.func 75) #[] #[], (g_ 2), (g_ 3), (g_ 4), .int .i64 x186, (g_ 6), (g_ 7), (g_ 8), (g_ 9), (g_ 10), (g_ 11), (g_ 12), (g_ 13), (g_ 14), (g_ 15), (g_ 16), (g_ 17), (g_ 18), (g_ 19), (g_ 20)], []⟩ ∧ Step c w C187 w188 [] ∧ kq189 ≤ k ∧ (Ft C187 [0] w188 (fun w_ => (Kd.int .u8).C w_ A0 l0.length l0)) ∧ lex_run_lex_Ident_1.l0 kq189 l0 x186 = some r) ?step fun hL_ => ?init)
 case init =>
  exact jmpL (fun a_ h_ => hL_ k a_ _ h_) (fun g_ => ⟨_, 0, g_, rfl, HS, Nat.le_refl _, HP0, H⟩) rfl
 case step =>
  intro kq189 ih192 a193 w188 hr194
  obtain ⟨C187, x186, g_, rfl, HS190, hk191, HJ185, H⟩ := hr194
  refine looped_round ?_
  cases kq189 with
  | zero => exact absurd H (by simp [lex_run_lex_Ident_1.l0])
  | succ k195 =>
   simp only [lex_run_lex_Ident_1.l0] at H
   refine wp_seq_k fun K196 hK196 => ?_
   refine wp_seq_k fun K197 hK197 => ?_
   have hj208 : ∀ (kq214 : Nat) (C209 : Nat → Nat) (w210 : World) (x213 : Bool) (g_ : Nat → Value), Step c w C209 w210 [] → kq214 ≤ k195 → (Ft C209 [0] w210 (fun w_ => (Kd.int .u8).C w_ A0 l0.length l0)) → lex_run_lex_Ident_1.j0 kq214 l0 x186 x213 = some r → K197 ⟨#[.slice A0 l0.length c0, .func (.func 75) #[] #[], (g_ 2), (g_ 3), (g_ 4), .int .i64 x186, (g_ 6), (g_ 7), (g_ 8), (g_ 9), (g_ 10), (g_ 11), (g_ 12), (g_ 13), (g_ 14), (g_ 15), (g_ 16), .bool x213, (g_ 18), (g_ 19), (g_ 20)], []⟩ w210 := by
    intro kq214 C209 w210 x213 g_ HS211 hk215 HJ212 H
    cases kq214 with
    | zero => exact absurd H (by simp [lex_run_lex_Ident_1.j0])
    | succ k216 =>
     simp only [lex_run_lex_Ident_1.j0] at H
     refine hK197 _ _ ?_
     (try clear hK197)
     by_cases c217 : x213 = true
     ·rw [if_pos c217] at H
      (try rw [c217])
      refine wp_cond_true rfl ?_
      refine wp_skip ?_
      (try simp only [ls0, ls1])
      refine hK196 _ _ ?_
      (try clear hK196 K196)
      refine wp_block ?_
      refine wl_region ?_
      refine mv_ rfl ?_
      refine st (.int .i64 (wrap64 (x186 + 1))) rfl rfl (xr_bin _ _ _ rfl rfl rfl (B.add_i64 _ _)) ?_
      refine as_ rfl ?_
      refine wl_end ?_
      (try simp only [ls0, ls1])
      exact jmpL (fun a_ h_ => ih192 k216 (by omega) a_ _ h_) (fun g_ => ⟨_, wrap64 (x186 + 1), g_, rfl, HS211, (by omega), HJ212, H⟩) rfl
     rw [if_neg c217] at H
     (try rw [(Bool.eq_false_iff.mpr c217)])
     refine wp_cond_false rfl ?_
     refine wp_exit ?_
     (try simp only [ls0, ls1])
     refine hK117 _ _ ?_
     (try clear hK117 K117)
     refine wp_seq_k fun K218 hK218 => ?_
     refine wl_region ?_
     refine mv_ rfl ?_
     refine as_ rfl ?_
     refine wl_end ?_
     (try simp only [ls0, ls1])
     refine hK218 _ _ ?_
     (try clear hK218 K218)
     refine wp_ret ?_
     (try simp only [Exit.inBlock, Exit.then, Exit.noGoto])
     (try simp only [ls0, ls1])
     obtain rfl := Option.some.inj H
     refine bodyPost_ret (results_tmp rfl _ _ _) rfl ?_
     exact ⟨_, rfl, HS211⟩
   refine wl_region ?_
   refine mv_ rfl ?_
   refine mv_ rfl ?_
   refine st (.int .i64 (l0.length : Int)) rfl rfl (xr_builtin #[.slice A0 l0.length c0] (.int .i64 (l0.length : Int)) rfl (mp_ rfl) (by first | rfl | (go_simp; done) | (go_simp; rfl) | (go_simp; exact i64_w _) | (go_simp; exact i32_w _))) ?_
   refine st (.bool (decide (x186 < (l0.length : Int)))) rfl rfl (xr_bin _ _ _ rfl rfl rfl (B.lss_i64 _ _)) ?_
   simp only [ls0, ls1]
   refine mv_ rfl ?_
   by_cases c219 : x186 < (l0.length : Int)
   ·rw [if_pos c219] at H
    (try rw [(decide_eq_true c219)])
    refine on_guard (guard_on 4 true 10 rfl rfl rfl) ?_
    refine mv_ rfl ?_
    refine on_guard (guard_on 4 true 10 rfl rfl rfl) ?_
    refine mv_ rfl ?_
    refine on_guard (guard_on 4 true 10 rfl rfl rfl) ?_
    refine mv_ rfl ?_
    simp only [ls0, ls1]
    refine on_guard (guard_on 4 true 10 rfl rfl rfl) ?_
    obtain ⟨c220, H⟩ := if_some H
    obtain ⟨ad221, hA222⟩ := c_addr (Ft.now HJ185) (pos_of (j := x186) (by first | assumption | decide) (by first | assumption | omega))
    refine st (.pointer (some (ad221.add ((x186 : Int).toNat * 1)))) rfl rfl (xr_indexAddr _ _ _ rfl rfl rfl (index_at Try.underlying22 info5 hA222 (by first | assumption | decide | omega) (by first | assumption | decide | omega))) ?_
    refine on_guard (guard_on 4 true 10 rfl rfl rfl) ?_
    refine st (.int .u8 (rd l0 x186)) rfl rfl (xr_load _ _ rfl rfl (load_int Try.underlying5 rfl hA222 (Ft.now HJ185) (by first | assumption | decide | omega) (by first | assumption | decide | omega))) ?_
    refine on_guard (guard_on 4 true 10 rfl rfl rfl) ?_
    obtain ⟨t223, A224, H⟩ := bnd H
    refine st_callV #[.int .u8 (rd l0 x186)] #[] #[.int .u8 (rd l0 x186)] rfl rfl Try.func75 (by kernel_rfl) rfl rfl rfl (mp_ rfl) (by rfl) ?_
    refine (lex_Ident_1.calls (rd l0 x186) t223  (fun z_ => pal [(0, 0)] (C187 z_)) w188 (fun _ => pal_lt rfl _) A224).mono ?_
    rintro _ w226 ⟨C227, rfl, hs228⟩
    refine ⟨_, rfl, ?_⟩
    replace hs228 := Step.lift (U := [(0, 0)]) hs228 [] rfl rfl
    generalize up C187 C227 w188.heap.size [(0, 0)] = C227_ at hs228
    replace HJ185 := HJ185.thru hs228 rfl
    replace HS190 := HS190.trans hs228 hc rfl
    (try simp only [ls0, ls1])
    refine st (.bool t223) rfl rfl (xr_pick true _ rfl rfl rfl) ?_
    refine wl_end ?_
    (try simp only [ls0, ls1])
    exact jmp (fun g_ => hj208 _ _ _ (t223) g_ HS190 (by omega) HJ185 H) rfl
   rw [if_neg c219] at H
   (try rw [(decide_eq_false c219)])
   refine sk_guard (guard_off 4 true 10 rfl rfl false (by decide) rfl) rfl ?_
   refine sk_guard (guard_off 4 true 10 rfl rfl false (by decide) rfl) rfl ?_
   refine sk_guard (guard_off 4 true 10 rfl rfl false (by decide) rfl) rfl ?_
   refine sk_guard (guard_off 4 true 10 rfl rfl false (by decide) rfl) rfl ?_
   simp only [ls0, ls1]
   refine sk_guard (guard_off 4 true 10 rfl rfl false (by decide) rfl) rfl ?_
   refine sk_guard (guard_off 4 true 10 rfl rfl false (by decide) rfl) rfl ?_
   refine st (.bool false) rfl rfl (xr_pick false _ rfl rfl rfl) ?_
   refine wl_end ?_
   (try simp only [ls0, ls1])
   exact jmp (fun g_ => hj208 _ _ _ (false) g_ HS190 (by omega) HJ185 H) rfl

/-! ### lex_Ident: function 29 -/
def lex_Ident.j0 : Nat → ByteArray → Bool → Option (Bool)
  | 0, _, _ => none
  | k + 1, a0, x86 => if x86 = true then (some false) else (if a0.size ≤ 9223372036854775807 then ((some (bytesOf a0 : List Int)).bind fun y94 => ((lex_run_lex_Ident_1.f k y94).bind fun t103 => (some (decide (t103 = (a0.size : Int)))))) else (none))
def lex_Ident.f (k : Nat) (a0 : ByteArray) : Option (Bool) := if a0 = (⟨#[]⟩ : ByteArray) then (lex_Ident.j0 k a0 true) else (if (a0.size : Int) > 24 then (lex_Ident.j0 k a0 true) else ((lex_Keyword.f a0).bind fun t111 => (if t111 = true then (lex_Ident.j0 k a0 true) else (if 0 < (a0.size : Int) then ((lex_letter.f (bt a0 0)).bind fun t119 => (lex_Ident.j0 k a0 (!t119))) else (none)))))

set_option maxHeartbeats 8000000 in
set_option maxRecDepth 100000 in
theorem lex_Ident.calls (k : Nat) (a0 : ByteArray) (r : Bool) (c : Nat → Nat) (w : World) (hc : ∀ k, c k < 10)  (H : lex_Ident.f k a0 = some r) :
    Calls Try.prog 29 #[.string a0] w fun e w' => ∃ (c' : Nat → Nat) , e = .returned (.bool r) ∧ Step c w c' w' [] := by
 unfold lex_Ident.f at H
 have HS := Step.refl c w []
 go_enter Try.func29, Try.ntmps29
 refine wp_seq_k fun K63 hK63 => ?_
 refine wl_region ?_
 refine st (.bool false) rfl rfl (xr_assign _ rfl rfl) ?_
 refine wl_end ?_
 (try simp only [ls0, ls1])
 refine hK63 _ _ ?_
 (try clear hK63 K63)
 refine wp_seq_k fun K64 hK64 => ?_
 refine wp_seq_k fun K65 hK65 => ?_
 have hj82 : ∀ (kq87 : Nat) (C83 : Nat → Nat) (w84 : World) (x86 : Bool) (g_ : Nat → Value), Step c w C83 w84 [] → kq87 ≤ k → lex_Ident.j0 kq87 a0 x86 = some r → K65 ⟨#[.string a0, (g_ 1), (g_ 2), (g_ 3), (g_ 4), (g_ 5), (g_ 6), (g_ 7), (g_ 8), (g_ 9), (g_ 10), (g_ 11), (g_ 12), (g_ 13), (g_ 14), (g_ 15), (g_ 16), (g_ 17), (g_ 18), .bool x86, (g_ 20), (g_ 21), (g_ 22), (g_ 23), (g_ 24), (g_ 25)], []⟩ w84 := by
  intro kq87 C83 w84 x86 g_ HS85 hk88  H
  cases kq87 with
  | zero => exact absurd H (by simp [lex_Ident.j0])
  | succ k89 =>
   simp only [lex_Ident.j0] at H
   refine hK65 _ _ ?_
   (try clear hK65)
   by_cases c90 : x86 = true
   ·rw [if_pos c90] at H
    (try rw [c90])
    refine wp_cond_true rfl ?_
    refine wp_seq_k fun K91 hK91 => ?_
    refine wl_region ?_
    refine st (.bool false) rfl rfl (xr_assign _ rfl rfl) ?_
    refine wl_end ?_
    (try simp only [ls0, ls1])
    refine hK91 _ _ ?_
    (try clear hK91 K91)
    refine wp_ret ?_
    (try simp only [Exit.inBlock, Exit.then, Exit.noGoto])
    (try simp only [ls0, ls1])
    obtain rfl := Option.some.inj H
    refine bodyPost_ret (results_tmp rfl _ _ _) rfl ?_
    exact ⟨_, rfl, HS85⟩
   rw [if_neg c90] at H
   (try rw [(Bool.eq_false_iff.mpr c90)])
   refine wp_cond_false rfl ?_
   refine wp_skip ?_
   (try simp only [ls0, ls1])
   refine hK64 _ _ ?_
   (try clear hK64 K64)
   refine wp_seq_k fun K92 hK92 => ?_
   refine wl_region ?_
   refine mv_ rfl ?_
   obtain ⟨c93, H⟩ := if_some H
   obtain ⟨y94, A95, H⟩ := bnd H
   refine own_conv (C := C83) (i := 0) 5 rfl rfl 9 22 _ rfl a0 rfl Try.underlying9 Try.underlying22 Try.underlying5 (by assumption) 11 (Option.some.inj A95) ?_
   intro A96 cp97 w98 C99 HR100 HC101 hs102
   replace HS85 := HS85.trans hs102 hc rfl
   (try simp only [ls0, ls1])
   obtain ⟨t103, A104, H⟩ := bnd H
   refine st_call #[.slice A96 y94.length cp97, .func (.func 75) #[] #[]] rfl rfl Try.func74 (by kernel_rfl) rfl rfl (mp_ rfl) ?_
   refine (lex_run_lex_Ident_1.calls k89 A96 cp97 y94 t103  (fun z_ => pal [(0, 0), (11, 0)] (C99 z_)) w98 (fun _ => pal_lt rfl _) (Ft.arg HR100 rfl) HC101 A104).mono ?_
   rintro _ w106 ⟨C107, rfl, hs108⟩
   refine ⟨_, rfl, ?_⟩
   replace hs108 := Step.lift (U := [(0, 0)]) hs108 [] rfl rfl
   generalize up C99 C107 w98.heap.size [(0, 0)] = C107_ at hs108
   replace HS85 := HS85.trans hs108 hc rfl
   (try simp only [ls0, ls1])
   refine mv_ rfl ?_
   refine st (.int .i64 (a0.size : Int)) rfl rfl (xr_builtin #[.string a0] (.int .i64 (a0.size : Int)) rfl (mp_ rfl) (by first | rfl | (go_simp; done) | (go_simp; rfl) | (go_simp; exact i64_w _) | (go_simp; exact i32_w _))) ?_
   refine st (.bool (decide (t103 = (a0.size : Int)))) rfl rfl (xr_bin _ _ _ rfl rfl rfl (B.eql_i64 _ _)) ?_
   refine as_ rfl ?_
   simp only [ls0, ls1]
   refine wl_end ?_
   (try simp only [ls0, ls1])
   refine hK92 _ _ ?_
   (try clear hK92 K92)
   refine wp_ret ?_
   (try simp only [Exit.inBlock, Exit.then, Exit.noGoto])
   (try simp only [ls0, ls1])
   obtain rfl := Option.some.inj H
   refine bodyPost_ret (results_tmp rfl _ _ _) rfl ?_
   exact ⟨_, rfl, HS85⟩
 refine wl_region ?_
 refine mv_ rfl ?_
 refine st (.bool (decide (a0 = (⟨#[]⟩ : ByteArray)))) rfl rfl (xr_bin _ _ _ rfl rfl rfl (B.eql_str _ _)) ?_
 refine mv_ rfl ?_
 by_cases c109 : a0 = (⟨#[]⟩ : ByteArray)
 ·rw [if_pos c109] at H
  (try rw [(decide_eq_true c109)])
  refine sk_guard (guard_off 2 false 5 rfl rfl true (by decide) rfl) rfl ?_
  simp only [ls0, ls1]
  refine sk_guard (guard_off 2 false 5 rfl rfl true (by decide) rfl) rfl ?_
  refine sk_guard (guard_off 2 false 5 rfl rfl true (by decide) rfl) rfl ?_
  refine st (.bool true) rfl rfl (xr_pick true _ rfl rfl rfl) ?_
  refine mv_ rfl ?_
  simp only [ls0, ls1]
  refine sk_guard (guard_off 7 false 10 rfl rfl true (by decide) rfl) rfl ?_
  refine sk_guard (guard_off 7 false 10 rfl rfl true (by decide) rfl) rfl ?_
  refine st (.bool true) rfl rfl (xr_pick true _ rfl rfl rfl) ?_
  refine mv_ rfl ?_
  simp only [ls0, ls1]
  refine sk_guard (guard_off 11 false 14 rfl rfl true (by decide) rfl) rfl ?_
  refine sk_guard (guard_off 11 false 14 rfl rfl true (by decide) rfl) rfl ?_
  refine sk_guard (guard_off 11 false 14 rfl rfl true (by decide) rfl) rfl ?_
  refine sk_guard (guard_off 11 false 14 rfl rfl true (by decide) rfl) rfl ?_
  simp only [ls0, ls1]
  refine st (.bool true) rfl rfl (xr_pick true _ rfl rfl rfl) ?_
  refine wl_end ?_
  (try simp only [ls0, ls1])
  exact jmp (fun g_ => hj82 _ _ _ (true) g_ HS (by omega) H) rfl
 rw [if_neg c109] at H
 (try rw [(decide_eq_false c109)])
 refine on_guard (guard_on 2 false 5 rfl rfl rfl) ?_
 refine mv_ rfl ?_
 refine on_guard (guard_on 2 false 5 rfl rfl rfl) ?_
 refine st (.int .i64 (a0.size : Int)) rfl rfl (xr_builtin #[.string a0] (.int .i64 (a0.size : Int)) rfl (mp_ rfl) (by first | rfl | (go_simp; done) | (go_simp; rfl) | (go_simp; exact i64_w _) | (go_simp; exact i32_w _))) ?_
 refine on_guard (guard_on 2 false 5 rfl rfl rfl) ?_
 refine st (.bool (decide ((a0.size : Int) > 24))) rfl rfl (xr_bin _ _ _ rfl rfl rfl (B.gtr_i64 _ _)) ?_
 refine st (.bool (decide ((a0.size : Int) > 24))) rfl rfl (xr_pick false _ rfl rfl rfl) ?_
 simp only [ls0, ls1]
 refine mv_ rfl ?_
 by_cases c110 : (a0.size : Int) > 24
 ·rw [if_pos c110] at H
  (try rw [(decide_eq_true c110)])
  refine sk_guard (guard_off 7 false 10 rfl rfl true (by decide) rfl) rfl ?_
  refine sk_guard (guard_off 7 false 10 rfl rfl true (by decide) rfl) rfl ?_
  refine st (.bool true) rfl rfl (xr_pick true _ rfl rfl rfl) ?_
  simp only [ls0, ls1]
  refine mv_ rfl ?_
  refine sk_guard (guard_off 11 false 14 rfl rfl true (by decide) rfl) rfl ?_
  refine sk_guard (guard_off 11 false 14 rfl rfl true (by decide) rfl) rfl ?_
  refine sk_guard (guard_off 11 false 14 rfl rfl true (by decide) rfl) rfl ?_
  simp only [ls0, ls1]
  refine sk_guard (guard_off 11 false 14 rfl rfl true (by decide) rfl) rfl ?_
  refine st (.bool true) rfl rfl (xr_pick true _ rfl rfl rfl) ?_
  refine wl_end ?_
  (try simp only [ls0, ls1])
  exact jmp (fun g_ => hj82 _ _ _ (true) g_ HS (by omega) H) rfl
 rw [if_neg c110] at H
 (try rw [(decide_eq_false c110)])
 refine on_guard (guard_on 7 false 10 rfl rfl rfl) ?_
 refine mv_ rfl ?_
 refine on_guard (guard_on 7 false 10 rfl rfl rfl) ?_
 obtain ⟨t111, A112, H⟩ := bnd H
 refine st_call #[.string a0] rfl rfl Try.func27 (by kernel_rfl) rfl rfl (mp_ rfl) ?_
 refine (lex_Keyword.calls a0 t111  (fun z_ => pal [(0, 0)] (c z_)) w (fun _ => pal_lt rfl _) A112).mono ?_
 rintro _ w114 ⟨C115, rfl, hs116⟩
 refine ⟨_, rfl, ?_⟩
 replace hs116 := Step.lift (U := [(0, 0)]) hs116 [] rfl rfl
 generalize up c C115 w.heap.size [(0, 0)] = C115_ at hs116
 replace HS := HS.trans hs116 hc rfl
 (try simp only [ls0, ls1])
 refine st (.bool t111) rfl rfl (xr_pick false _ rfl rfl rfl) ?_
 refine mv_ rfl ?_
 by_cases c117 : t111 = true
 ·rw [if_pos c117] at H
  (try rw [c117])
  refine sk_guard (guard_off 11 false 14 rfl rfl true (by decide) rfl) rfl ?_
  refine sk_guard (guard_off 11 false 14 rfl rfl true (by decide) rfl) rfl ?_
  simp only [ls0, ls1]
  refine sk_guard (guard_off 11 false 14 rfl rfl true (by decide) rfl) rfl ?_
  refine sk_guard (guard_off 11 false 14 rfl rfl true (by decide) rfl) rfl ?_
  refine st (.bool true) rfl rfl (xr_pick true _ rfl rfl rfl) ?_
  refine wl_end ?_
  (try simp only [ls0, ls1])
  exact jmp (fun g_ => hj82 _ _ _ (true) g_ HS (by omega) H) rfl
 rw [if_neg c117] at H
 (try rw [(Bool.eq_false_iff.mpr c117)])
 refine on_guard (guard_on 11 false 14 rfl rfl rfl) ?_
 refine mv_ rfl ?_
 refine on_guard (guard_on 11 false 14 rfl rfl rfl) ?_
 obtain ⟨c118, H⟩ := if_some H
 refine st (.int .u8 (bt a0 0)) rfl rfl (xr_index _ _ _ rfl rfl rfl (index_str Try.underlying9 (by first | assumption | decide | omega) (by first | assumption | decide | omega))) ?_
 refine on_guard (guard_on 11 false 14 rfl rfl rfl) ?_
 obtain ⟨t119, A120, H⟩ := bnd H
 refine st_call #[.int .u8 (bt a0 0)] rfl rfl Try.func73 (by kernel_rfl) rfl rfl (mp_ rfl) ?_
 refine (lex_letter.calls (bt a0 0) t119  (fun z_ => pal [(0, 0)] (C115_ z_)) w114 (fun _ => pal_lt rfl _) A120).mono ?_
 rintro _ w122 ⟨C123, rfl, hs124⟩
 refine ⟨_, rfl, ?_⟩
 replace hs124 := Step.lift (U := [(0, 0)]) hs124 [] rfl rfl
 generalize up C115_ C123 w114.heap.size [(0, 0)] = C123_ at hs124
 replace HS := HS.trans hs124 hc rfl
 (try simp only [ls0, ls1])
 refine on_guard (guard_on 11 false 14 rfl rfl rfl) ?_
 refine st (.bool (!t119)) rfl rfl (xr_un (.bool t119) _ rfl rfl (by first | rfl | (go_simp; done) | (go_simp; rfl) | (go_simp; exact i64_w _) | (go_simp; exact i32_w _))) ?_
 refine st (.bool (!t119)) rfl rfl (xr_pick false _ rfl rfl rfl) ?_
 refine wl_end ?_
 (try simp only [ls0, ls1])
 exact jmp (fun g_ => hj82 _ _ _ (!t119) g_ HS (by omega) H) rfl

/-! ### expr_Cursor_Ident: function 49 -/
def expr_Cursor_Ident.f (k : Nat) (l0_0 : List Int) (l0_1 : List (S28)) (a0_2 : Int) (a0_3 : Int) : Option (ByteArray × Bool × Int) := (expr_Cursor_Peek.f (some (⟨l0_0, l0_1, a0_2, a0_3⟩ : S111) : Option S111)).bind fun t28 => ((lex_Ident.f k t28).bind fun t36 => (if t36 = true then (some (t28, true, wrap64 (a0_2 + 1))) else (some ((⟨#[]⟩ : ByteArray), false, a0_2))))

set_option maxHeartbeats 8000000 in
set_option maxRecDepth 100000 in
theorem expr_Cursor_Ident.calls (k : Nat) (g0 : Nat) (A0_0 : Option Addr) (c0_0 : Nat) (l0_0 : List Int) (A0_1 : Option Addr) (c0_1 : Nat) (l0_1 : List (S28)) (a0_2 : Int) (a0_3 : Int) (r1 : ByteArray) (r2 : Bool) (r3 : Int) (c : Nat → Nat) (w : World) (hc : ∀ k, c k < 10) (HP0 : Bx c 1 w g0 111 ([.slice A0_0 l0_0.length c0_0, .slice A0_1 l0_1.length c0_1, .int .i64 a0_2, .int .i64 a0_3])) (HP0_0 : Ft c [0] w (fun w_ => (Kd.int .u8).C w_ A0_0 l0_0.length l0_0)) (HCP0_0 : l0_0.length ≤ c0_0) (HP0_1 : Ft c [0] w (fun w_ => k28.C w_ A0_1 l0_1.length l0_1)) (HCP0_1 : l0_1.length ≤ c0_1) (H : expr_Cursor_Ident.f k l0_0 l0_1 a0_2 a0_3 = some (r1, r2, r3)) :
    Calls Try.prog 49 #[.pointer (some ⟨g0, 0, none⟩)] w fun e w' => ∃ (c' : Nat → Nat) , e = .returned (.tuple #[.string r1, .bool r2]) ∧ Step c w c' w' [1] ∧ Bx c' 1 w' g0 111 ([.slice A0_0 l0_0.length c0_0, .slice A0_1 l0_1.length c0_1, .int .i64 r3, .int .i64 a0_3]) := by
 unfold expr_Cursor_Ident.f at H
 have HS := Step.refl c w [1]
 go_enter Try.func49, Try.ntmps49
 refine wp_seq_k fun K25 hK25 => ?_
 refine wl_region ?_
 refine st (.string (⟨#[]⟩ : ByteArray)) rfl rfl (xr_assign _ rfl rfl) ?_
 refine st (.bool false) rfl rfl (xr_assign _ rfl rfl) ?_
 refine wl_end ?_
 (try simp only [ls0, ls1])
 refine hK25 _ _ ?_
 (try clear hK25 K25)
 refine wp_seq_k fun K26 hK26 => ?_
 refine wl_region ?_
 refine mv_ rfl ?_
 have HP27 : Ft c [0, 1] w (fun w_ => (Kd.ptr 111 k111).K w_ (some (⟨l0_0, l0_1, a0_2, a0_3⟩ : S111)) [.pointer (some ⟨g0, 0, none⟩)]) := ptr_mk (Ft.more (HP0.ft) rfl) (k111_mkF _ _ (⟨l0_0, l0_1, a0_2, a0_3⟩ : S111) HCP0_0 (Ft.more HP0_0 rfl) HCP0_1 (Ft.more HP0_1 rfl))
 obtain ⟨t28, A29, H⟩ := bnd H
 refine st_call #[.pointer (some ⟨g0, 0, none⟩)] rfl rfl Try.func43 (by kernel_rfl) rfl rfl (mp_ rfl) ?_
 refine (expr_Cursor_Peek.calls (.pointer (some ⟨g0, 0, none⟩)) (some (⟨l0_0, l0_1, a0_2, a0_3⟩ : S111) : Option S111) t28  (fun z_ => pal [(0, 0), (1, 0)] (c z_)) w (fun _ => pal_lt rfl _) (Ft.arg HP27 rfl) A29).mono ?_
 rintro _ w31 ⟨C32, rfl, hs33⟩
 refine ⟨_, rfl, ?_⟩
 replace hs33 := Step.lift (U := [(0, 0)]) hs33 [] rfl rfl
 generalize up c C32 w.heap.size [(0, 0)] = C32_ at hs33
 replace HP0 := HP0.thru hs33 rfl
 replace HP0_0 := HP0_0.thru hs33 rfl
 replace HP0_1 := HP0_1.thru hs33 rfl
 replace HS := HS.trans hs33 hc rfl
 (try simp only [ls0, ls1])
 refine as_ rfl ?_
 refine wl_end ?_
 (try simp only [ls0, ls1])
 refine hK26 _ _ ?_
 (try clear hK26 K26)
 refine wp_seq_k fun K34 hK34 => ?_
 refine wp_seq_k fun K35 hK35 => ?_
 refine wl_region ?_
 refine mv_ rfl ?_
 obtain ⟨t36, A37, H⟩ := bnd H
 refine st_call #[.string t28] rfl rfl Try.func29 (by kernel_rfl) rfl rfl (mp_ rfl) ?_
 refine (lex_Ident.calls k t28 t36  (fun z_ => pal [(0, 0)] (C32_ z_)) w31 (fun _ => pal_lt rfl _) A37).mono ?_
 rintro _ w39 ⟨C40, rfl, hs41⟩
 refine ⟨_, rfl, ?_⟩
 replace hs41 := Step.lift (U := [(0, 0)]) hs41 [] rfl rfl
 generalize up C32_ C40 w31.heap.size [(0, 0)] = C40_ at hs41
 replace HP0 := HP0.thru hs41 rfl
 replace HP0_0 := HP0_0.thru hs41 rfl
 replace HP0_1 := HP0_1.thru hs41 rfl
 replace HS := HS.trans hs41 hc rfl
 (try simp only [ls0, ls1])
 refine st (.bool (!t36)) rfl rfl (xr_un (.bool t36) _ rfl rfl (by first | rfl | (go_simp; done) | (go_simp; rfl) | (go_simp; exact i64_w _) | (go_simp; exact i32_w _))) ?_
 refine wl_end ?_
 (try simp only [ls0, ls1])
 refine hK35 _ _ ?_
 (try clear hK35 K35)
 by_cases c42 : t36 = true
 ·rw [if_pos c42] at H
  (try rw [c42])
  (try simp only [Bool.not_true, Bool.not_false])
  refine wp_cond_false rfl ?_
  refine wp_skip ?_
  (try simp only [ls0, ls1])
  refine hK34 _ _ ?_
  (try clear hK34 K34)
  refine wp_seq_k fun K43 hK43 => ?_
  refine wl_region ?_
  refine mv_ rfl ?_
  refine st (.pointer (some ⟨g0, 0, none⟩)) rfl rfl (xr_nilCheck _ rfl rfl) ?_
  refine st (.pointer (some ⟨g0, 2, none⟩)) rfl rfl (xr_fieldAddr _ _ rfl rfl (bx_field2 Try.underlying111 rfl rfl (by kernel_rfl))) ?_
  refine st (.int .i64 a0_2) rfl rfl (xr_load _ _ rfl rfl (load_cell Try.underlying3 rfl (bx_cell (HP0).2 2 rfl))) ?_
  simp only [ls0, ls1]
  refine st (.int .i64 (wrap64 (a0_2 + 1))) rfl rfl (xr_bin _ _ _ rfl rfl rfl (B.add_i64 _ _)) ?_
  refine st (.pointer (some ⟨g0, 0, none⟩)) rfl rfl (xr_nilCheck _ rfl rfl) ?_
  refine st (.pointer (some ⟨g0, 2, none⟩)) rfl rfl (xr_fieldAddr _ _ rfl rfl (bx_field2 Try.underlying111 rfl rfl (by kernel_rfl))) ?_
  refine bx_store (C := C40_) (z := 1) (g := g0) (j := 2) (tb := 111) (u := .int .i64 (wrap64 (a0_2 + 1))) (seg := [.int .i64 (wrap64 (a0_2 + 1))]) (xs := [.slice A0_0 l0_0.length c0_0, .slice A0_1 l0_1.length c0_1, .int .i64 a0_2, .int .i64 a0_3]) rfl rfl rfl rfl rfl rfl (by first | kernel_rfl | rfl) (by simp [Value.oneCell']) HP0 (by simp only [List.length_cons, List.length_nil]; omega) rfl ?_
  intro w44 HX45 hs46
  replace HP0_0 := HP0_0.thru hs46 rfl
  replace HP0_1 := HP0_1.thru hs46 rfl
  replace HS := HS.trans hs46 hc rfl
  (try simp only [ls0, ls1])
  refine wl_end ?_
  (try simp only [ls0, ls1])
  refine hK43 _ _ ?_
  (try clear hK43 K43)
  refine wp_seq_k fun K47 hK47 => ?_
  refine wl_region ?_
  refine mv_ rfl ?_
  refine as_ rfl ?_
  refine st (.bool true) rfl rfl (xr_assign _ rfl rfl) ?_
  refine wl_end ?_
  (try simp only [ls0, ls1])
  refine hK47 _ _ ?_
  (try clear hK47 K47)
  refine wp_ret ?_
  (try simp only [Exit.inBlock, Exit.then, Exit.noGoto])
  (try simp only [ls0, ls1])
  simp only [Option.some.injEq, Prod.mk.injEq] at H
  obtain ⟨rfl, rfl, rfl⟩ := H
  refine bodyPost_ret (results_tmp2 rfl _ _ _) rfl ?_
  exact ⟨_, rfl, HS, HX45⟩
 rw [if_neg c42] at H
 (try rw [(Bool.eq_false_iff.mpr c42)])
 (try simp only [Bool.not_true, Bool.not_false])
 refine wp_cond_true rfl ?_
 refine wp_seq_k fun K48 hK48 => ?_
 refine wl_region ?_
 refine st (.string (⟨#[]⟩ : ByteArray)) rfl rfl (xr_assign _ rfl rfl) ?_
 refine st (.bool false) rfl rfl (xr_assign _ rfl rfl) ?_
 refine wl_end ?_
 (try simp only [ls0, ls1])
 refine hK48 _ _ ?_
 (try clear hK48 K48)
 refine wp_ret ?_
 (try simp only [Exit.inBlock, Exit.then, Exit.noGoto])
 (try simp only [ls0, ls1])
 simp only [Option.some.injEq, Prod.mk.injEq] at H
 obtain ⟨rfl, rfl, rfl⟩ := H
 refine bodyPost_ret (results_tmp2 rfl _ _ _) rfl ?_
 exact ⟨_, rfl, HS, HP0⟩

/-! ### stmt_Type: function 58 -/
def stmt_Type.f (l0_0 : List Int) (l0_1 : List (S28)) (a0_2 : Int) (a0_3 : Int) : Option (Int × Int × Int) := (expr_Cursor_Take.f l0_0 l0_1 a0_2 a0_3 (⟨#[105, 110, 116]⟩ : ByteArray)).bind fun bt31 => (if bt31.1 = true then (some (0, 0, bt31.2)) else ((expr_Cursor_Take.f l0_0 l0_1 bt31.2 a0_3 (⟨#[98, 111, 111, 108]⟩ : ByteArray)).bind fun bt42 => (if bt42.1 = true then (some (1, 0, bt42.2)) else (some (0, 11, bt42.2)))))
set_option maxHeartbeats 8000000 in
set_option maxRecDepth 100000 in
theorem stmt_Type.calls (g0 : Nat) (A0_0 : Option Addr) (c0_0 : Nat) (l0_0 : List Int) (A0_1 : Option Addr) (c0_1 : Nat) (l0_1 : List (S28)) (a0_2 : Int) (a0_3 : Int) (r1 : Int) (r2 : Int) (r3 : Int) (c : Nat → Nat) (w : World) (hc : ∀ k, c k < 10) (HP0 : Bx c 1 w g0 111 ([.slice A0_0 l0_0.length c0_0, .slice A0_1 l0_1.length c0_1, .int .i64 a0_2, .int .i64 a0_3])) (HP0_0 : Ft c [0] w (fun w_ => (Kd.int .u8).C w_ A0_0 l0_0.length l0_0)) (HCP0_0 : l0_0.length ≤ c0_0) (HP0_1 : Ft c [0] w (fun w_ => k28.C w_ A0_1 l0_1.length l0_1)) (HCP0_1 : l0_1.length ≤ c0_1) (H : stmt_Type.f l0_0 l0_1 a0_2 a0_3 = some (r1, r2, r3)) :
    Calls Try.prog 58 #[.pointer (some ⟨g0, 0, none⟩)] w fun e w' => ∃ (c' : Nat → Nat) , e = .returned (.tuple #[.int .i64 r1, .int .i64 r2]) ∧ Step c w c' w' [1] ∧ Bx c' 1 w' g0 111 ([.slice A0_0 l0_0.length c0_0, .slice A0_1 l0_1.length c0_1, .int .i64 r3, .int .i64 a0_3]) := by
 unfold stmt_Type.f at H
 have HS := Step.refl c w [1]
 go_enter Try.func58, Try.ntmps58
 refine wp_seq_k fun K27 hK27 => ?_
 refine wl_region ?_
 refine st (.int .i64 0) rfl rfl (xr_assign _ rfl rfl) ?_
 refine st (.int .i64 0) rfl rfl (xr_assign _ rfl rfl) ?_
 refine wl_end ?_
 (try simp only [ls0, ls1])
 refine hK27 _ _ ?_
 (try clear hK27 K27)
 refine wp_seq_k fun K28 hK28 => ?_
 refine wp_block ?_
 refine wp_seq_k fun K29 hK29 => ?_
 refine wl_region ?_
 refine mv_ rfl ?_
 refine st (.bool false) rfl rfl (xr_bin (.pointer (some ⟨g0, 0, none⟩)) (.pointer none) (.bool false) rfl rfl rfl (B.eql_pn ⟨_, Try.underlying57⟩ ⟨g0, 0, none⟩)) ?_
 refine as_ rfl ?_
 refine wl_end ?_
 (try simp only [ls0, ls1])
 refine hK29 _ _ ?_
 (try clear hK29 K29)
 refine wp_cond_false rfl ?_
 refine wp_seq_k fun K30 hK30 => ?_
 refine wl_region ?_
 refine mv_ rfl ?_
 obtain ⟨⟨t31, t32⟩, A33, H⟩ := bnd H
 (try dsimp only at H)
 refine st_call #[.pointer (some ⟨g0, 0, none⟩), .string (⟨#[105, 110, 116]⟩ : ByteArray)] rfl rfl Try.func48 (by kernel_rfl) rfl rfl (mp_ rfl) ?_
 refine (expr_Cursor_Take.calls g0 A0_0 c0_0 l0_0 A0_1 c0_1 l0_1 a0_2 a0_3 (⟨#[105, 110, 116]⟩ : ByteArray) t31 t32  (fun z_ => pal [(0, 0), (1, 1)] (c z_)) w (fun _ => pal_lt rfl _) (Bx.arg HP0 rfl) (Ft.arg HP0_0 rfl) HCP0_0 (Ft.arg HP0_1 rfl) HCP0_1 A33).mono ?_
 rintro _ w35 ⟨C36, rfl, hs37, HX38⟩
 refine ⟨_, rfl, ?_⟩
 replace HX38 := Bx.res (U := [(0, 0), (1, 1)]) (j := 1) HX38 hs37 (by rfl) (by decide) rfl
 replace hs37 := Step.lift (U := [(0, 0), (1, 1)]) hs37 [1] rfl rfl
 generalize up c C36 w.heap.size [(0, 0), (1, 1)] = C36_ at HX38 hs37
 replace HP0_0 := HP0_0.thru hs37 rfl
 replace HP0_1 := HP0_1.thru hs37 rfl
 replace HS := HS.trans hs37 hc rfl
 (try simp only [ls0, ls1])
 refine as_ rfl ?_
 refine wl_end ?_
 (try simp only [ls0, ls1])
 refine hK30 _ _ ?_
 (try clear hK30 K30)
 by_cases c39 : t31 = true
 ·rw [if_pos c39] at H
  (try rw [c39])
  refine wp_cond_true rfl ?_
  refine wp_seq_k fun K40 hK40 => ?_
  refine wl_region ?_
  refine st (.int .i64 0) rfl rfl (xr_assign _ rfl rfl) ?_
  refine st (.int .i64 0) rfl rfl (xr_assign _ rfl rfl) ?_
  refine wl_end ?_
  (try simp only [ls0, ls1])
  refine hK40 _ _ ?_
  (try clear hK40 K40)
  refine wp_ret ?_
  (try simp only [Exit.inBlock, Exit.then, Exit.noGoto])
  (try simp only [ls0, ls1])
  simp only [Option.some.injEq, Prod.mk.injEq] at H
  obtain ⟨rfl, rfl, rfl⟩ := H
  refine bodyPost_ret (results_tmp2 rfl _ _ _) rfl ?_
  exact ⟨_, rfl, HS, HX38⟩
 rw [if_neg c39] at H
 (try rw [(Bool.eq_false_iff.mpr c39)])
 refine wp_cond_false rfl ?_
 refine wp_seq_k fun K41 hK41 => ?_
 refine wl_region ?_
 refine mv_ rfl ?_
 obtain ⟨⟨t42, t43⟩, A44, H⟩ := bnd H
 (try dsimp only at H)
 refine st_call #[.pointer (some ⟨g0, 0, none⟩), .string (⟨#[98, 111, 111, 108]⟩ : ByteArray)] rfl rfl Try.func48 (by kernel_rfl) rfl rfl (mp_ rfl) ?_
 refine (expr_Cursor_Take.calls g0 A0_0 c0_0 l0_0 A0_1 c0_1 l0_1 t32 a0_3 (⟨#[98, 111, 111, 108]⟩ : ByteArray) t42 t43  (fun z_ => pal [(0, 0), (1, 1)] (C36_ z_)) w35 (fun _ => pal_lt rfl _) (Bx.arg HX38 rfl) (Ft.arg HP0_0 rfl) HCP0_0 (Ft.arg HP0_1 rfl) HCP0_1 A44).mono ?_
 rintro _ w46 ⟨C47, rfl, hs48, HX49⟩
 refine ⟨_, rfl, ?_⟩
 replace HX49 := Bx.res (U := [(0, 0), (1, 1)]) (j := 1) HX49 hs48 (by rfl) (by decide) rfl
 replace hs48 := Step.lift (U := [(0, 0), (1, 1)]) hs48 [1] rfl rfl
 generalize up C36_ C47 w35.heap.size [(0, 0), (1, 1)] = C47_ at HX49 hs48
 replace HP0_0 := HP0_0.thru hs48 rfl
 replace HP0_1 := HP0_1.thru hs48 rfl
 replace HS := HS.trans hs48 hc rfl
 (try simp only [ls0, ls1])
 refine as_ rfl ?_
 refine wl_end ?_
 (try simp only [ls0, ls1])
 refine hK41 _ _ ?_
 (try clear hK41 K41)
 by_cases c50 : t42 = true
 ·rw [if_pos c50] at H
  (try rw [c50])
  refine wp_cond_true rfl ?_
  refine wp_seq_k fun K51 hK51 => ?_
  refine wl_region ?_
  refine st (.int .i64 1) rfl rfl (xr_assign _ rfl rfl) ?_
  refine st (.int .i64 0) rfl rfl (xr_assign _ rfl rfl) ?_
  refine wl_end ?_
  (try simp only [ls0, ls1])
  refine hK51 _ _ ?_
  (try clear hK51 K51)
  refine wp_ret ?_
  (try simp only [Exit.inBlock, Exit.then, Exit.noGoto])
  (try simp only [ls0, ls1])
  simp only [Option.some.injEq, Prod.mk.injEq] at H
  obtain ⟨rfl, rfl, rfl⟩ := H
  refine bodyPost_ret (results_tmp2 rfl _ _ _) rfl ?_
  exact ⟨_, rfl, HS, HX49⟩
 rw [if_neg c50] at H
 (try rw [(Bool.eq_false_iff.mpr c50)])
 refine wp_cond_false rfl ?_
 refine wp_skip ?_
 (try simp only [ls0, ls1])
 refine hK28 _ _ ?_
 (try clear hK28 K28)
 refine wp_seq_k fun K52 hK52 => ?_
 refine wl_region ?_
 refine st (.int .i64 0) rfl rfl (xr_assign _ rfl rfl) ?_
 refine st (.int .i64 11) rfl rfl (xr_assign _ rfl rfl) ?_
 refine wl_end ?_
 (try simp only [ls0, ls1])
 refine hK52 _ _ ?_
 (try clear hK52 K52)
 refine wp_ret ?_
 (try simp only [Exit.inBlock, Exit.then, Exit.noGoto])
 (try simp only [ls0, ls1])
 simp only [Option.some.injEq, Prod.mk.injEq] at H
 obtain ⟨rfl, rfl, rfl⟩ := H
 refine bodyPost_ret (results_tmp2 rfl _ _ _) rfl ?_
 exact ⟨_, rfl, HS, HX49⟩

/-! ### expr_Cursor_End: function 50 -/
def expr_Cursor_End.f (x0 : Option S111) : Option (Int) := onOpt x0 (some 0) (fun o67 => (if o67.f2 = 0 then (some 0) else (if 0 ≤ (wrap64 (o67.f2 - 1)) then (if (wrap64 (o67.f2 - 1)) < (o67.f1.length : Int) then (some ((rd_T28 o67.f1 (wrap64 (o67.f2 - 1))).f2)) else (none)) else (none))))
set_option maxHeartbeats 8000000 in
set_option maxRecDepth 100000 in
theorem expr_Cursor_End.calls (v0 : Value) (x0 : Option S111) (r : Int) (c : Nat → Nat) (w : World) (hc : ∀ k, c k < 10) (HP0 : Ft c [0] w (fun w_ => (Kd.ptr 111 k111).K w_ x0 [v0])) (H : expr_Cursor_End.f x0 = some r) :
    Calls Try.prog 50 #[v0] w fun e w' => ∃ (c' : Nat → Nat) , e = .returned (.int .i64 r) ∧ Step c w c' w' [] := by
 unfold expr_Cursor_End.f at H
 have HS := Step.refl c w []
 go_enter Try.func50, Try.ntmps50
 refine wp_seq_k fun K42 hK42 => ?_
 refine wl_region ?_
 refine st (.int .i64 0) rfl rfl (xr_assign _ rfl rfl) ?_
 refine wl_end ?_
 (try simp only [ls0, ls1])
 refine hK42 _ _ ?_
 (try clear hK42 K42)
 refine wp_seq_k fun K43 hK43 => ?_
 refine wp_seq_k fun K60 hK60 => ?_
 refine wl_region ?_
 refine mv_ rfl ?_
 cases x0 with
 | none =>
  (try simp only [onOpt] at H)
  obtain rfl := ptr_none HP0
  refine st (.bool true) rfl rfl (xr_bin (.pointer none) (.pointer none) (.bool true) rfl rfl rfl (B.eql_nn ⟨_, Try.underlying57⟩ (⟨0, 0, none⟩ : Addr))) ?_
  refine mv_ rfl ?_
  simp only [ls0, ls1]
  refine sk_guard (guard_off 2 false 5 rfl rfl true (by decide) rfl) rfl ?_
  refine sk_guard (guard_off 2 false 5 rfl rfl true (by decide) rfl) rfl ?_
  refine sk_guard (guard_off 2 false 5 rfl rfl true (by decide) rfl) rfl ?_
  refine sk_guard (guard_off 2 false 5 rfl rfl true (by decide) rfl) rfl ?_
  simp only [ls0, ls1]
  refine sk_guard (guard_off 2 false 5 rfl rfl true (by decide) rfl) rfl ?_
  refine st (.bool true) rfl rfl (xr_pick true _ rfl rfl rfl) ?_
  refine wl_end ?_
  (try simp only [ls0, ls1])
  refine hK60 _ _ ?_
  (try clear hK60 K60)
  refine wp_cond_true rfl ?_
  refine wp_seq_k fun K68 hK68 => ?_
  refine wl_region ?_
  refine st (.int .i64 0) rfl rfl (xr_assign _ rfl rfl) ?_
  refine wl_end ?_
  (try simp only [ls0, ls1])
  refine hK68 _ _ ?_
  (try clear hK68 K68)
  refine wp_ret ?_
  (try simp only [Exit.inBlock, Exit.then, Exit.noGoto])
  (try simp only [ls0, ls1])
  obtain rfl := Option.some.inj H
  refine bodyPost_ret (results_tmp rfl _ _ _) rfl ?_
  exact ⟨_, rfl, HS⟩
 | some o67 =>
  (try simp only [onOpt] at H)
  obtain ⟨g69, cs70, rfl, HX71, HK72⟩ := ptr_some HP0
  obtain ⟨Aq73_0, cpq73_0, Aq73_1, cpq73_1, rfl, HCq73_0, HRq73_0, HCq73_1, HRq73_1⟩ := k111_openF HK72
  replace HRq73_0 : Ft c [0] w (fun w_ => (Kd.int .u8).C w_ Aq73_0 o67.f0.length o67.f0) := HRq73_0
  replace HRq73_1 : Ft c [0] w (fun w_ => k28.C w_ Aq73_1 o67.f1.length o67.f1) := HRq73_1
  refine st (.bool false) rfl rfl (xr_bin (.pointer (some ⟨g69, 0, none⟩)) (.pointer none) (.bool false) rfl rfl rfl (B.eql_pn ⟨_, Try.underlying57⟩ ⟨g69, 0, none⟩)) ?_
  refine mv_ rfl ?_
  refine on_guard (guard_on 2 false 5 rfl rfl rfl) ?_
  refine mv_ rfl ?_
  refine on_guard (guard_on 2 false 5 rfl rfl rfl) ?_
  refine st (.pointer (some ⟨g69, 0, none⟩)) rfl rfl (xr_nilCheck _ rfl rfl) ?_
  simp only [ls0, ls1]
  refine on_guard (guard_on 2 false 5 rfl rfl rfl) ?_
  refine st (.pointer (some ⟨g69, 2, none⟩)) rfl rfl (xr_fieldAddr _ _ rfl rfl (bx_field2 Try.underlying111 rfl rfl (by kernel_rfl))) ?_
  refine on_guard (guard_on 2 false 5 rfl rfl rfl) ?_
  refine st (.int .i64 o67.f2) rfl rfl (xr_load _ _ rfl rfl (load_cell Try.underlying3 rfl (bx_cell (Ft.now HX71) 2 rfl))) ?_
  refine on_guard (guard_on 2 false 5 rfl rfl rfl) ?_
  refine st (.bool (decide (o67.f2 = 0))) rfl rfl (xr_bin _ _ _ rfl rfl rfl (B.eql_i64 _ _)) ?_
  refine st (.bool (decide (o67.f2 = 0))) rfl rfl (xr_pick false _ rfl rfl rfl) ?_
  simp only [ls0, ls1]
  refine wl_end ?_
  (try simp only [ls0, ls1])
  refine hK60 _ _ ?_
  (try clear hK60 K60)
  by_cases c74 : o67.f2 = 0
  ·rw [if_pos c74] at H
   (try rw [(decide_eq_true c74)])
   refine wp_cond_true rfl ?_
   refine wp_seq_k fun K75 hK75 => ?_
   refine wl_region ?_
   refine st (.int .i64 0) rfl rfl (xr_assign _ rfl rfl) ?_
   refine wl_end ?_
   (try simp only [ls0, ls1])
   refine hK75 _ _ ?_
   (try clear hK75 K75)
   refine wp_ret ?_
   (try simp only [Exit.inBlock, Exit.then, Exit.noGoto])
   (try simp only [ls0, ls1])
   obtain rfl := Option.some.inj H
   refine bodyPost_ret (results_tmp rfl _ _ _) rfl ?_
   exact ⟨_, rfl, HS⟩
  rw [if_neg c74] at H
  (try rw [(decide_eq_false c74)])
  refine wp_cond_false rfl ?_
  refine wp_skip ?_
  (try simp only [ls0, ls1])
  refine hK43 _ _ ?_
  (try clear hK43 K43)
  refine wp_seq_k fun K76 hK76 => ?_
  (try simp only [ls0, ls1])
  refine al_start (lb 13 0) rfl rfl rfl (fun w_ => (Kd.int .u8).C w_ Aq73_0 o67.f0.length o67.f0 ∧ k28.C w_ Aq73_1 o67.f1.length o67.f1 ∧ w_.heap[g69]? = some (.cells (List.toArray ([.slice Aq73_0 o67.f0.length cpq73_0, .slice Aq73_1 o67.f1.length cpq73_1, .int .i64 o67.f2, .int .i64 o67.f3])) 111 (0, 0))) ⟨(Ft.now ((HRq73_0).drew)), (Ft.now ((HRq73_1).drew)), (Ft.now (HX71.drew))⟩ [] ?_
  replace HX71 := HX71.drew
  replace HRq73_0 := HRq73_0.drew
  replace HRq73_1 := HRq73_1.drew
  replace HS := Step.ofDrew HS
  generalize w.drew = w77 at *
  refine al_mv 0 (lb 13 1) rfl rfl (by kernel_rfl) (fun _ _ _ => id) rfl ?_
  refine al_pure 1 13 (.pointer (some ⟨g69, 0, none⟩)) (lb 13 3) rfl rfl (by kernel_rfl) (fun _ _ _ => id) rfl (fun w_ => xr_nilCheck _ rfl rfl) ?_
  refine al_pure 2 14 (.pointer (some ⟨g69, 1, none⟩)) (lb 13 7) rfl rfl (by kernel_rfl) (fun _ _ _ => id) rfl (fun w_ => xr_fieldAddr _ _ rfl rfl (bx_field2 Try.underlying111 rfl rfl (by kernel_rfl))) ?_
  refine al_mv 4 (lb 13 23) rfl rfl (by kernel_rfl) (fun _ _ _ => id) rfl ?_
  simp only [ls0, ls1]
  refine al_pure 5 17 (.pointer (some ⟨g69, 0, none⟩)) (lb 13 55) rfl rfl (by kernel_rfl) (fun _ _ _ => id) rfl (fun w_ => xr_nilCheck _ rfl rfl) ?_
  refine al_pure 6 18 (.pointer (some ⟨g69, 2, none⟩)) (lb 13 119) rfl rfl (by kernel_rfl) (fun _ _ _ => id) rfl (fun w_ => xr_fieldAddr _ _ rfl rfl (bx_field2 Try.underlying111 rfl rfl (by kernel_rfl))) ?_
  refine al_take 3 15 (.slice Aq73_1 o67.f1.length cpq73_1) (lb 13 127) rfl rfl (by kernel_rfl) (fun _ _ _ => id) rfl (fun w_ hS_ => xr_load _ _ rfl rfl (load_cell Try.underlying24 rfl (bx_cell hS_.2.2 1 rfl))) ⟨(Ft.now HRq73_0), (Ft.now HRq73_1), (Ft.now (HX71))⟩ ?_
  refine al_take 7 19 (.int .i64 o67.f2) (lb 13 255) rfl rfl (by kernel_rfl) (fun _ _ _ => id) rfl (fun w_ hS_ => xr_load _ _ rfl rfl (load_cell Try.underlying3 rfl (bx_cell hS_.2.2 2 rfl))) ⟨(Ft.now HRq73_0), (Ft.now HRq73_1), (Ft.now (HX71))⟩ ?_
  simp only [ls0, ls1]
  refine al_pure 8 20 (.int .i64 (wrap64 (o67.f2 - 1))) (lb 13 511) rfl rfl (by kernel_rfl) (fun _ _ _ => id) rfl (fun w_ => xr_bin _ _ _ rfl rfl rfl (B.sub_i64 _ _)) ?_
  obtain ⟨c78, H⟩ := if_some H
  obtain ⟨c79, H⟩ := if_some H
  obtain ⟨ad80, hA81⟩ := c_addr (Ft.now HRq73_1) (pos_of (j := (wrap64 (o67.f2 - 1))) (by first | assumption | decide) (by first | assumption | omega))
  refine al_pure 9 21 (.pointer (some (ad80.add ((wrap64 (o67.f2 - 1) : Int).toNat * 3)))) (lb 13 1023) rfl rfl (by kernel_rfl) (fun _ _ _ => id) rfl (fun w_ => xr_indexAddr _ _ _ rfl rfl rfl (index_at Try.underlying24 info28 hA81 (by first | assumption | decide | omega) (by first | assumption | decide | omega))) ?_
  refine al_pure 10 22 (.pointer (some ((ad80.add ((wrap64 (o67.f2 - 1) : Int).toNat * 3)).add 2))) (lb 13 2047) rfl rfl (by kernel_rfl) (fun _ _ _ => id) rfl (fun w_ => xr_fieldAddr _ _ rfl rfl (field_at2 Try.underlying28 rfl rfl (by kernel_rfl))) ?_
  refine al_take 11 23 (.int .i64 ((rd_T28 o67.f1 (wrap64 (o67.f2 - 1))).f2)) (lb 13 4095) rfl rfl (by kernel_rfl) (fun _ _ _ => id) rfl (fun w_ hS_ => xr_load (.pointer (some ((ad80.add ((wrap64 (o67.f2 - 1) : Int).toNat * 3)).add 2))) (.int .i64 ((rd_T28 o67.f1 (wrap64 (o67.f2 - 1))).f2)) rfl rfl (by obtain ⟨ad_, cs_, e_, _, hK_, hc_⟩ := Kd.C_get hS_.2.1 z28 (wrap64 (o67.f2 - 1)) (by first | assumption | decide | omega) (by first | assumption | decide | omega); rw [hA81] at e_; injection e_ with e_; subst e_; obtain rfl := k28_open hK_; exact load_cell Try.underlying3 rfl (by first | (rw [add_add]; exact hc_ 2 _ rfl) | (have h_ := hc_ 2 _ rfl; rw [Nat.add_zero] at h_; exact h_)))) ⟨(Ft.now HRq73_0), (Ft.now HRq73_1), (Ft.now (HX71))⟩ ?_
  simp only [ls0, ls1]
  refine al_as 12 (lb 13 8191) rfl rfl (by kernel_rfl) (fun _ _ _ => id) rfl ?_
  refine al_end (by kernel_rfl) ?_
  (try simp only [ls0, ls1])
  refine hK76 _ _ ?_
  (try clear hK76 K76)
  refine wp_ret ?_
  (try simp only [Exit.inBlock, Exit.then, Exit.noGoto])
  (try simp only [ls0, ls1])
  obtain rfl := Option.some.inj H
  refine bodyPost_ret (results_tmp rfl _ _ _) rfl ?_
  exact ⟨_, rfl, HS⟩

/-! ### expr_Cursor_Ident_nil: function 49 -/
def expr_Cursor_Ident_nil.f (k : Nat)  : Option (ByteArray × Bool) := (expr_Cursor_Peek.f (none : Option S111)).bind fun t22 => ((lex_Ident.f k t22).bind fun t30 => (if t30 = true then (none) else (some ((⟨#[]⟩ : ByteArray), false))))

set_option maxHeartbeats 8000000 in
set_option maxRecDepth 100000 in
theorem expr_Cursor_Ident_nil.calls (k : Nat)  (r1 : ByteArray) (r2 : Bool) (c : Nat → Nat) (w : World) (hc : ∀ k, c k < 10)  (H : expr_Cursor_Ident_nil.f k = some (r1, r2)) :
    Calls Try.prog 49 #[.pointer none] w fun e w' => ∃ (c' : Nat → Nat) , e = .returned (.tuple #[.string r1, .bool r2]) ∧ Step c w c' w' [] := by
 unfold expr_Cursor_Ident_nil.f at H
 have HS := Step.refl c w []
 go_enter Try.func49, Try.ntmps49
 refine wp_seq_k fun K20 hK20 => ?_
 refine wl_region ?_
 refine st (.string (⟨#[]⟩ : ByteArray)) rfl rfl (xr_assign _ rfl rfl) ?_
 refine st (.bool false) rfl rfl (xr_assign _ rfl rfl) ?_
 refine wl_end ?_
 (try simp only [ls0, ls1])
 refine hK20 _ _ ?_
 (try clear hK20 K20)
 refine wp_seq_k fun K21 hK21 => ?_
 refine wl_region ?_
 refine mv_ rfl ?_
 obtain ⟨t22, A23, H⟩ := bnd H
 refine st_call #[.pointer none] rfl rfl Try.func43 (by kernel_rfl) rfl rfl (mp_ rfl) ?_
 refine (expr_Cursor_Peek.calls (.pointer none) (none : Option S111) t22  (fun z_ => pal [(0, 0)] (c z_)) w (fun _ => pal_lt rfl _) (ptr_nil _ _ _ _ _) A23).mono ?_
 rintro _ w25 ⟨C26, rfl, hs27⟩
 refine ⟨_, rfl, ?_⟩
 replace hs27 := Step.lift (U := [(0, 0)]) hs27 [] rfl rfl
 generalize up c C26 w.heap.size [(0, 0)] = C26_ at hs27
 replace HS := HS.trans hs27 hc rfl
 (try simp only [ls0, ls1])
 refine as_ rfl ?_
 refine wl_end ?_
 (try simp only [ls0, ls1])
 refine hK21 _ _ ?_
 (try clear hK21 K21)
 refine wp_seq_k fun K28 hK28 => ?_
 refine wp_seq_k fun K29 hK29 => ?_
 refine wl_region ?_
 refine mv_ rfl ?_
 obtain ⟨t30, A31, H⟩ := bnd H
 refine st_call #[.string t22] rfl rfl Try.func29 (by kernel_rfl) rfl rfl (mp_ rfl) ?_
 refine (lex_Ident.calls k t22 t30  (fun z_ => pal [(0, 0)] (C26_ z_)) w25 (fun _ => pal_lt rfl _) A31).mono ?_
 rintro _ w33 ⟨C34, rfl, hs35⟩
 refine ⟨_, rfl, ?_⟩
 replace hs35 := Step.lift (U := [(0, 0)]) hs35 [] rfl rfl
 generalize up C26_ C34 w25.heap.size [(0, 0)] = C34_ at hs35
 replace HS := HS.trans hs35 hc rfl
 (try simp only [ls0, ls1])
 refine st (.bool (!t30)) rfl rfl (xr_un (.bool t30) _ rfl rfl (by first | rfl | (go_simp; done) | (go_simp; rfl) | (go_simp; exact i64_w _) | (go_simp; exact i32_w _))) ?_
 refine wl_end ?_
 (try simp only [ls0, ls1])
 refine hK29 _ _ ?_
 (try clear hK29 K29)
 by_cases c36 : t30 = true
 ·rw [if_pos c36] at H
  (try rw [c36])
  (try simp only [Bool.not_true, Bool.not_false])
  refine wp_cond_false rfl ?_
  refine wp_skip ?_
  (try simp only [ls0, ls1])
  refine hK28 _ _ ?_
  (try clear hK28 K28)
  refine wp_seq_k fun K37 hK37 => ?_
  refine wl_region ?_
  refine mv_ rfl ?_
  exact absurd H (by simp)
 rw [if_neg c36] at H
 (try rw [(Bool.eq_false_iff.mpr c36)])
 (try simp only [Bool.not_true, Bool.not_false])
 refine wp_cond_true rfl ?_
 refine wp_seq_k fun K38 hK38 => ?_
 refine wl_region ?_
 refine st (.string (⟨#[]⟩ : ByteArray)) rfl rfl (xr_assign _ rfl rfl) ?_
 refine st (.bool false) rfl rfl (xr_assign _ rfl rfl) ?_
 refine wl_end ?_
 (try simp only [ls0, ls1])
 refine hK38 _ _ ?_
 (try clear hK38 K38)
 refine wp_ret ?_
 (try simp only [Exit.inBlock, Exit.then, Exit.noGoto])
 (try simp only [ls0, ls1])
 simp only [Option.some.injEq, Prod.mk.injEq] at H
 obtain ⟨rfl, rfl⟩ := H
 refine bodyPost_ret (results_tmp2 rfl _ _ _) rfl ?_
 exact ⟨_, rfl, HS⟩

/-! ### stmt_name_fp82_2: function 87 -/
def stmt_name_fp82_2.f (k : Nat) (l0_0 : List Int) (l0_1 : List (S28)) (a0_2 : Int) (a0_3 : Int) (a1_0 : Bool) (a1_1 : Bool) (a1_2 : ByteArray) (a1_3 : Int) (a1_4 : Int) : Option (Int × Int × ByteArray) := (expr_Cursor_Ident.f k l0_0 l0_1 a0_2 a0_3).bind fun bt25 => (if bt25.2.1 = true then (some (0, bt25.2.2, bt25.1)) else (some (11, bt25.2.2, bt25.1)))

set_option maxHeartbeats 8000000 in
set_option maxRecDepth 100000 in
theorem stmt_name_fp82_2.calls (k : Nat) (g0 : Nat) (A0_0 : Option Addr) (c0_0 : Nat) (l0_0 : List Int) (A0_1 : Option Addr) (c0_1 : Nat) (l0_1 : List (S28)) (a0_2 : Int) (a0_3 : Int) (g1 : Nat) (a1_0 : Bool) (a1_1 : Bool) (a1_2 : ByteArray) (a1_3 : Int) (a1_4 : Int) (r1 : Int) (r2 : Int) (r3 : ByteArray) (c : Nat → Nat) (w : World) (hc : ∀ k, c k < 10) (HP0 : Bx c 2 w g0 111 ([.slice A0_0 l0_0.length c0_0, .slice A0_1 l0_1.length c0_1, .int .i64 a0_2, .int .i64 a0_3])) (HP0_0 : Ft c [0] w (fun w_ => (Kd.int .u8).C w_ A0_0 l0_0.length l0_0)) (HCP0_0 : l0_0.length ≤ c0_0) (HP0_1 : Ft c [0] w (fun w_ => k28.C w_ A0_1 l0_1.length l0_1)) (HCP0_1 : l0_1.length ≤ c0_1) (HP1 : Bx c 1 w g1 82 ([.bool a1_0, .bool a1_1, .string a1_2, .int .i64 a1_3, .int .i64 a1_4])) (H : stmt_name_fp82_2.f k l0_0 l0_1 a0_2 a0_3 a1_0 a1_1 a1_2 a1_3 a1_4 = some (r1, r2, r3)) :
    Calls Try.prog 87 #[.pointer (some ⟨g0, 0, none⟩), .pointer (some ⟨g1, 2, none⟩)] w fun e w' => ∃ (c' : Nat → Nat) , e = .returned (.int .i64 r1) ∧ Step c w c' w' [1, 2] ∧ Bx c' 2 w' g0 111 ([.slice A0_0 l0_0.length c0_0, .slice A0_1 l0_1.length c0_1, .int .i64 r2, .int .i64 a0_3]) ∧ Bx c' 1 w' g1 82 ([.bool a1_0, .bool a1_1, .string r3, .int .i64 a1_3, .int .i64 a1_4]) := by
 unfold stmt_name_fp82_2.f at H
 have HS := Step.refl c w [1, 2]
 go_enter Try.func87, Try.ntmps87
 refine wp_seq_k fun K21 hK21 => ?_
 refine wl_region ?_
 refine st (.int .i64 0) rfl rfl (xr_assign _ rfl rfl) ?_
 refine wl_end ?_
 (try simp only [ls0, ls1])
 refine hK21 _ _ ?_
 (try clear hK21 K21)
 refine wp_seq_k fun K22 hK22 => ?_
 refine wl_region ?_
 refine st (.bool false) rfl rfl (xr_assign _ rfl rfl) ?_
 refine wl_end ?_
 (try simp only [ls0, ls1])
 refine hK22 _ _ ?_
 (try clear hK22 K22)
 refine wp_seq_k fun K23 hK23 => ?_
 refine wp_seq_k fun K24 hK24 => ?_
 refine wl_region ?_
 refine mv_ rfl ?_
 refine mv_ rfl ?_
 obtain ⟨⟨t25, t26, t27⟩, A28, H⟩ := bnd H
 (try dsimp only at H)
 refine st_call #[.pointer (some ⟨g0, 0, none⟩)] rfl rfl Try.func49 (by kernel_rfl) rfl rfl (mp_ rfl) ?_
 refine (expr_Cursor_Ident.calls k g0 A0_0 c0_0 l0_0 A0_1 c0_1 l0_1 a0_2 a0_3 t25 t26 t27  (fun z_ => pal [(0, 0), (2, 1)] (c z_)) w (fun _ => pal_lt rfl _) (Bx.arg HP0 rfl) (Ft.arg HP0_0 rfl) HCP0_0 (Ft.arg HP0_1 rfl) HCP0_1 A28).mono ?_
 rintro _ w30 ⟨C31, rfl, hs32, HX33⟩
 refine ⟨_, rfl, ?_⟩
 replace HX33 := Bx.res (U := [(0, 0), (1, 2)]) (j := 2) HX33 hs32 (by rfl) (by decide) rfl
 replace hs32 := Step.lift (U := [(0, 0), (1, 2)]) hs32 [2] rfl rfl
 generalize up c C31 w.heap.size [(0, 0), (1, 2)] = C31_ at HX33 hs32
 replace HP0_0 := HP0_0.thru hs32 rfl
 replace HP0_1 := HP0_1.thru hs32 rfl
 replace HP1 := HP1.thru hs32 rfl
 replace HS := HS.trans hs32 hc rfl
 (try simp only [ls0, ls1])
 refine mv_ rfl ?_
 refine st (.string t25) rfl rfl (xr_extract (.tuple #[.string t25, .bool t26]) _ rfl rfl rfl) ?_
 refine st (.bool t26) rfl rfl (xr_extract (.tuple #[.string t25, .bool t26]) _ rfl rfl rfl) ?_
 refine st (.pointer (some ⟨g1, 2, none⟩)) rfl rfl (xr_nilCheck _ rfl rfl) ?_
 simp only [ls0, ls1]
 refine bx_store (C := C31_) (z := 1) (g := g1) (j := 2) (tb := 82) (u := .string t25) (seg := [.string t25]) (xs := [.bool a1_0, .bool a1_1, .string a1_2, .int .i64 a1_3, .int .i64 a1_4]) rfl rfl rfl rfl rfl rfl (by first | kernel_rfl | rfl) (by simp [Value.oneCell']) HP1 (by simp only [List.length_cons, List.length_nil]; omega) rfl ?_
 intro w34 HX35 hs36
 replace HX33 := HX33.thru hs36 rfl
 replace HP0_0 := HP0_0.thru hs36 rfl
 replace HP0_1 := HP0_1.thru hs36 rfl
 replace HS := HS.trans hs36 hc rfl
 (try simp only [ls0, ls1])
 refine as_ rfl ?_
 refine wl_end ?_
 (try simp only [ls0, ls1])
 refine hK24 _ _ ?_
 (try clear hK24 K24)
 refine wp_seq_k fun K37 hK37 => ?_
 refine wl_region ?_
 refine mv_ rfl ?_
 refine st (.bool (!t26)) rfl rfl (xr_un (.bool t26) _ rfl rfl (by first | rfl | (go_simp; done) | (go_simp; rfl) | (go_simp; exact i64_w _) | (go_simp; exact i32_w _))) ?_
 refine wl_end ?_
 (try simp only [ls0, ls1])
 refine hK37 _ _ ?_
 (try clear hK37 K37)
 by_cases c38 : t26 = true
 ·rw [if_pos c38] at H
  (try rw [c38])
  (try simp only [Bool.not_true, Bool.not_false])
  refine wp_cond_false rfl ?_
  refine wp_skip ?_
  (try simp only [ls0, ls1])
  refine hK23 _ _ ?_
  (try clear hK23 K23)
  refine wp_seq_k fun K39 hK39 => ?_
  refine wl_region ?_
  refine st (.int .i64 0) rfl rfl (xr_assign _ rfl rfl) ?_
  refine wl_end ?_
  (try simp only [ls0, ls1])
  refine hK39 _ _ ?_
  (try clear hK39 K39)
  refine wp_ret ?_
  (try simp only [Exit.inBlock, Exit.then, Exit.noGoto])
  (try simp only [ls0, ls1])
  simp only [Option.some.injEq, Prod.mk.injEq] at H
  obtain ⟨rfl, rfl, rfl⟩ := H
  refine bodyPost_ret (results_tmp rfl _ _ _) rfl ?_
  exact ⟨_, rfl, HS, HX33, HX35⟩
 rw [if_neg c38] at H
 (try rw [(Bool.eq_false_iff.mpr c38)])
 (try simp only [Bool.not_true, Bool.not_false])
 refine wp_cond_true rfl ?_
 refine wp_seq_k fun K40 hK40 => ?_
 refine wl_region ?_
 refine st (.int .i64 11) rfl rfl (xr_assign _ rfl rfl) ?_
 refine wl_end ?_
 (try simp only [ls0, ls1])
 refine hK40 _ _ ?_
 (try clear hK40 K40)
 refine wp_ret ?_
 (try simp only [Exit.inBlock, Exit.then, Exit.noGoto])
 (try simp only [ls0, ls1])
 simp only [Option.some.injEq, Prod.mk.injEq] at H
 obtain ⟨rfl, rfl, rfl⟩ := H
 refine bodyPost_ret (results_tmp rfl _ _ _) rfl ?_
 exact ⟨_, rfl, HS, HX33, HX35⟩

end Go.Proofs.Yteoccoklbmjiaaa.PStn
