-- By cprint.py, a program of this work. Lean checks it.
import Derived.Test.YtpfepkkpbampkaaDoorPLanx0
import Derived.Test.YtpfepkkpbampkaaDoorPLanx1
import Derived.Test.YtpfepkkpbampkaaDoorPLanx3
import Derived.Test.YtpfepkkpbampkaaDoorPLanx4
namespace Go.Proofs.YtpfepkkpbampkaaDoor.PLan
open Go.RowKit Go.Proofs.YtpfepkkpbampkaaDoorW.PrintWords Go.Proofs.YtpfepkkpbampkaaDoorW.PrintLast Go.Proofs.YtpfepkkpbampkaaDoorW.PrintMore
set_option linter.unusedVariables false
set_option linter.unusedSimpArgs false

/-! ### lattice_New: function 17 -/
def lattice_New.f (k : Nat) (x0 : Option S81) : Option ((Option S107) × Int × Int × Int) := (order_Order_Len.f x0).bind fun t10318 => (if t10318 = 0 then (some ((none : Option S107), 0, 0, 1)) else ((lattice_Lattice_fill.f k x0 0 1 0 (zer 4096 (0 : Int)) (zer 4096 (0 : Int)) 0).bind fun bt10336 => ((lattice_Lattice_whole.f k (some (⟨x0, (⟨(⟨1⟩ : S92), (⟨(⟨0, 0⟩ : S94)⟩ : S96)⟩ : S98), bt10336.1, bt10336.2, (⟨0⟩ : S105)⟩ : S107) : Option S107)).bind fun bt10352 => (if bt10352.2.2 = true then ((lattice_Lattice_spreads.f k (some (⟨x0, (⟨(⟨1⟩ : S92), (⟨(⟨0, 0⟩ : S94)⟩ : S96)⟩ : S98), bt10336.1, bt10336.2, (⟨0⟩ : S105)⟩ : S107) : Option S107)).bind fun bt10365 => (if bt10365.2.2 = true then (some ((some (⟨x0, (⟨(⟨1⟩ : S92), (⟨(⟨0, 0⟩ : S94)⟩ : S96)⟩ : S98), bt10336.1, bt10336.2, (⟨0⟩ : S105)⟩ : S107) : Option S107), 0, 0, 0)) else (some ((none : Option S107), bt10365.1, bt10365.2.1, 17)))) else (some ((none : Option S107), bt10352.1, bt10352.2.1, 17))))))

set_option maxHeartbeats 2000000 in
set_option maxRecDepth 100000 in
theorem lattice_New.calls (k : Nat) (v0 : Value) (x0 : Option S81) (r1 : Option S107) (r2 : Int) (r3 : Int) (r4 : Int) (c : Nat → Nat) (w : World) (hc : ∀ k, c k < 10) (HG : Ft c [0] w GTab) (HP0 : Ft c [0] w (fun w_ => (Kd.ptr 81 k81).K w_ x0 [v0])) (H : lattice_New.f k x0 = some (r1, r2, r3, r4)) :
    Calls Tryd.prog 17 #[v0] w fun e w' => ∃ (c' : Nat → Nat) (v_r1 : Value), e = .returned (.tuple #[v_r1, .int .i64 r2, .int .i64 r3, .int .i64 r4]) ∧ Step c w c' w' [] ∧ OwnPt c' 5 w' 107 k107 v_r1 r1 := by
 unfold lattice_New.f at H
 have HS := Step.refl c w []
 go_enter Tryd.func17, Tryd.ntmps17
 refine wp_seq_k fun K10315 hK10315 => ?_
 refine wl_region ?_
 refine st (.pointer none) rfl rfl (xr_assign _ rfl rfl) ?_
 refine st (.int .i64 0) rfl rfl (xr_assign _ rfl rfl) ?_
 refine st (.int .i64 0) rfl rfl (xr_assign _ rfl rfl) ?_
 refine st (.int .i64 0) rfl rfl (xr_assign _ rfl rfl) ?_
 simp only [ls0, ls1]
 refine wl_end ?_
 (try simp only [Act.put, List.setIfInBounds_toArray, ls0, ls1])
 refine hK10315 _ _ ?_
 (try clear hK10315 K10315)
 refine wp_seq_k fun K10316 hK10316 => ?_
 refine wp_seq_k fun K10317 hK10317 => ?_
 refine wl_region ?_
 refine st (v0) rfl rfl (xr_move _ rfl rfl) ?_
 obtain ⟨t10318, A10319, H⟩ := Option.bind_eq_some_iff.mp H
 (try dsimp only at H)
 refine st_call #[v0] rfl rfl Tryd.func21 (by kernel_rfl) rfl rfl (mp_ rfl) ?_
 refine (order_Order_Len.calls v0 x0 t10318  (fun z_ => pal [(0, 0)] (c z_)) w (fun _ => pal_lt rfl _) (Ft.arg HP0 rfl) A10319).mono ?_
 rintro _ w10321 ⟨C10322, rfl, hs10323⟩
 refine ⟨_, rfl, ?_⟩
 replace hs10323 := Step.lift (U := [(0, 0)]) hs10323 [] rfl rfl
 generalize up c C10322 w.heap.size [(0, 0)] = C10322_ at hs10323
 replace HG := HG.thru hs10323 rfl
 replace HP0 := HP0.thru hs10323 rfl
 replace HS := HS.trans hs10323 hc rfl
 (try simp only [Act.put, List.setIfInBounds_toArray, ls0, ls1])
 refine st (.bool (decide (t10318 = 0))) rfl rfl (xr_bin _ _ _ rfl rfl rfl (B.eql_i64 _ _)) ?_
 refine wl_end ?_
 (try simp only [Act.put, List.setIfInBounds_toArray, ls0, ls1])
 refine hK10317 _ _ ?_
 (try clear hK10317 K10317)
 by_cases c10324 : t10318 = 0
 ·rw [if_pos c10324] at H
  (try rw [(decide_eq_true c10324)])
  (try simp only [Bool.not_true, Bool.not_false])
  refine wp_cond_true rfl ?_
  refine wp_seq_k fun K10325 hK10325 => ?_
  refine wl_region ?_
  refine st (.pointer none) rfl rfl (xr_assign _ rfl rfl) ?_
  refine st (.int .i64 0) rfl rfl (xr_assign _ rfl rfl) ?_
  refine st (.int .i64 0) rfl rfl (xr_assign _ rfl rfl) ?_
  refine st (.int .i64 1) rfl rfl (xr_assign _ rfl rfl) ?_
  simp only [ls0, ls1]
  refine wl_end ?_
  (try simp only [Act.put, List.setIfInBounds_toArray, ls0, ls1])
  refine hK10325 _ _ ?_
  (try clear hK10325 K10325)
  refine wp_ret ?_
  (try simp only [Exit.inBlock, Exit.then, Exit.noGoto])
  (try simp only [Act.put, List.setIfInBounds_toArray, ls0, ls1])
  simp only [Option.some.injEq, Prod.mk.injEq] at H
  obtain ⟨rfl, rfl, rfl, rfl⟩ := H
  refine bodyPost_ret (by simp [results, Tryd.results17]; rfl) rfl ?_
  exact ⟨_, (.pointer none), rfl, HS, (OwnPt.nil _ _ _ _ _)⟩
 ·rw [if_neg c10324] at H
  (try rw [(decide_eq_false c10324)])
  (try simp only [Bool.not_true, Bool.not_false])
  refine wp_cond_false rfl ?_
  refine wp_skip ?_
  (try simp only [Act.put, List.setIfInBounds_toArray, ls0, ls1])
  refine hK10316 _ _ ?_
  (try clear hK10316 K10316)
  refine wp_seq_k fun K10326 hK10326 => ?_
  refine wl_region ?_
  refine st (v0) rfl rfl (xr_move _ rfl rfl) ?_
  refine st (.agg (List.toArray ([v0, .int .u32 0, .int .i32 0, .int .u32 0] ++ (List.map (Value.int .i8) (zer 4096 (0 : Int)) ++ (List.map (Value.int .i8) (zer 4096 (0 : Int)) ++ ([.int .i64 0])))))) rfl rfl (xr_build1 (u := .pointer none) (v := v0) (pre := []) (post := [.int .u32 0, .int .i32 0, .int .u32 0] ++ (List.map (Value.int .i8) (zer 4096 (0 : Int)) ++ (List.map (Value.int .i8) (zer 4096 (0 : Int)) ++ ([.int .i64 0])))) (places := #[(0, 1), (1, 3), (4, 4096), (4100, 4096), (8196, 1)]) rfl rfl Tryd.underlying107 (by kernel_rfl) (fun _ => by kernel_rfl) rfl rfl (one_cells ((Kd.ptr 81 k81).K_one (Ft.now HP0) _ (List.mem_singleton.2 rfl))) (by first | (simp only [List.append_assoc, List.cons_append, List.nil_append, List.append_nil]; done) | rfl)) ?_
  refine bx_new (C := C10322_) 107 ([v0, .int .u32 0, .int .i32 0, .int .u32 0] ++ (List.map (Value.int .i8) (zer 4096 (0 : Int)) ++ (List.map (Value.int .i8) (zer 4096 (0 : Int)) ++ ([.int .i64 0])))) 11 rfl rfl (xr_box rfl rfl) ?_
  intro g10327 w10328 C10329 HX10330 hs10331
  replace HG := HG.thru hs10331 rfl
  replace HP0 := HP0.thru hs10331 rfl
  replace HS := HS.trans hs10331 hc rfl
  (try simp only [Act.put, List.setIfInBounds_toArray, ls0, ls1])
  refine st (.pointer (some ⟨g10327, 0, none⟩)) rfl rfl (xr_assign _ rfl rfl) ?_
  refine wl_end ?_
  (try simp only [Act.put, List.setIfInBounds_toArray, ls0, ls1])
  refine hK10326 _ _ ?_
  (try clear hK10326 K10326)
  refine wp_seq_k fun K10332 hK10332 => ?_
  refine wl_region ?_
  refine st (.pointer (some ⟨g10327, 0, none⟩)) rfl rfl (xr_move _ rfl rfl) ?_
  refine st (.pointer (some ⟨g10327, 0, none⟩)) rfl rfl (xr_nilCheck _ rfl rfl) ?_
  refine st (.pointer (some ⟨g10327, 1, none⟩)) rfl rfl (xr_fieldAddr _ _ rfl rfl (bx_field2 Tryd.underlying107 rfl rfl (by kernel_rfl))) ?_
  refine st (.pointer (some ⟨g10327, 0, none⟩)) rfl rfl (xr_move _ rfl rfl) ?_
  simp only [ls0, ls1]
  refine st (.func (.func 57) #[.pointer (some ⟨g10327, 0, none⟩)] #[]) rfl rfl (xr_makeFunc #[.pointer (some ⟨g10327, 0, none⟩)] #[] rfl (mp_ rfl) (mp_ rfl)) ?_
  refine st_call #[.pointer (some ⟨g10327, 1, none⟩), .func (.func 57) #[.pointer (some ⟨g10327, 0, none⟩)] #[]] rfl rfl Tryd.func56 (by kernel_rfl) rfl rfl (mp_ rfl) ?_
  refine once_go (C := C10329) HX10330 ?_
  intro w10333 HX10334 hs10335
  replace HX10334 : Bx C10329 11 w10333 g10327 107 ([v0, .int .u32 0, .int .i32 1, .int .u32 0] ++ (List.map (Value.int .i8) (zer 4096 (0 : Int)) ++ (List.map (Value.int .i8) (zer 4096 (0 : Int)) ++ ([.int .i64 0])))) := HX10334
  replace HG := HG.thru hs10335 rfl
  replace HP0 := HP0.thru hs10335 rfl
  replace HS := HS.trans hs10335 hc rfl
  obtain ⟨⟨t10336, t10337⟩, A10338, H⟩ := Option.bind_eq_some_iff.mp H
  (try dsimp only at H)
  refine (lattice_Lattice_fill.calls k g10327 v0 x0 0 1 0 (zer 4096 (0 : Int)) (zer 4096 (0 : Int)) 0 t10336 t10337  (fun z_ => pal [(0, 0), (11, 1)] (C10329 z_)) w10333 (fun _ => pal_lt rfl _) (Ft.arg HG rfl) (Bx.arg HX10334 rfl) (Ft.arg HP0 rfl) zer_length zer_length A10338).mono ?_
  rintro _ w10340 ⟨C10341, rfl, hs10342, HL10343, HL10344, HX10345⟩
  refine ⟨_, rfl, ?_⟩
  replace HX10345 := Bx.res (U := [(0, 0), (1, 11)]) (j := 11) HX10345 hs10342 (by rfl) (by decide) rfl
  replace hs10342 := Step.lift (U := [(0, 0), (1, 11)]) hs10342 [11] rfl rfl
  generalize up C10329 C10341 w10333.heap.size [(0, 0), (1, 11)] = C10341_ at HX10345 hs10342
  replace HG := HG.thru hs10342 rfl
  replace HP0 := HP0.thru hs10342 rfl
  replace HS := HS.trans hs10342 hc rfl
  (try simp only [Act.put, List.setIfInBounds_toArray, ls0, ls1])
  refine once_end (C := C10341_) HX10345 ?_
  intro w10346 HX10347 hs10348
  replace HX10347 : Bx C10341_ 11 w10346 g10327 107 ([v0, .int .u32 1, .int .i32 0, .int .u32 0] ++ (List.map (Value.int .i8) t10336 ++ (List.map (Value.int .i8) t10337 ++ ([.int .i64 0])))) := HX10347
  replace HG := HG.thru hs10348 rfl
  replace HP0 := HP0.thru hs10348 rfl
  replace HS := HS.trans hs10348 hc rfl
  (try simp only [Act.put, List.setIfInBounds_toArray, ls0, ls1])
  refine wl_end ?_
  (try simp only [Act.put, List.setIfInBounds_toArray, ls0, ls1])
  refine hK10332 _ _ ?_
  (try clear hK10332 K10332)
  refine wp_seq_k fun K10349 hK10349 => ?_
  refine wp_seq_k fun K10350 hK10350 => ?_
  refine wl_region ?_
  refine st (.pointer (some ⟨g10327, 0, none⟩)) rfl rfl (xr_move _ rfl rfl) ?_
  have HP10351 : Ft C10341_ [0, 11] w10346 (fun w_ => (Kd.ptr 107 k107).K w_ (some (⟨x0, (⟨(⟨1⟩ : S92), (⟨(⟨0, 0⟩ : S94)⟩ : S96)⟩ : S98), t10336, t10337, (⟨0⟩ : S105)⟩ : S107)) [.pointer (some ⟨g10327, 0, none⟩)]) := ptr_mk (Ft.more (HX10347.ft) rfl) (k107_mkF _ _ (⟨x0, (⟨(⟨1⟩ : S92), (⟨(⟨0, 0⟩ : S94)⟩ : S96)⟩ : S98), t10336, t10337, (⟨0⟩ : S105)⟩ : S107) (Ft.more HP0 rfl) HL10343 HL10344)
  obtain ⟨⟨t10352, t10353, t10354⟩, A10355, H⟩ := Option.bind_eq_some_iff.mp H
  (try dsimp only at H)
  refine st_call #[.pointer (some ⟨g10327, 0, none⟩)] rfl rfl Tryd.func58 (by kernel_rfl) rfl rfl (mp_ rfl) ?_
  refine (lattice_Lattice_whole.calls k (.pointer (some ⟨g10327, 0, none⟩)) (some (⟨x0, (⟨(⟨1⟩ : S92), (⟨(⟨0, 0⟩ : S94)⟩ : S96)⟩ : S98), t10336, t10337, (⟨0⟩ : S105)⟩ : S107) : Option S107) t10352 t10353 t10354  (fun z_ => pal [(0, 0), (11, 0)] (C10341_ z_)) w10346 (fun _ => pal_lt rfl _) (Ft.arg HP10351 rfl) A10355).mono ?_
  rintro _ w10357 ⟨C10358, rfl, hs10359⟩
  refine ⟨_, rfl, ?_⟩
  replace hs10359 := Step.lift (U := [(0, 0)]) hs10359 [] rfl rfl
  generalize up C10341_ C10358 w10346.heap.size [(0, 0)] = C10358_ at hs10359
  replace HG := HG.thru hs10359 rfl
  replace HP0 := HP0.thru hs10359 rfl
  replace HX10347 := HX10347.thru hs10359 rfl
  replace HS := HS.trans hs10359 hc rfl
  (try simp only [Act.put, List.setIfInBounds_toArray, ls0, ls1])
  refine st (.tuple #[.int .i64 t10352, .int .i64 t10353, .bool t10354]) rfl rfl (xr_move _ rfl rfl) ?_
  refine st (.int .i64 t10352) rfl rfl (xr_extract (.tuple #[.int .i64 t10352, .int .i64 t10353, .bool t10354]) _ rfl rfl rfl) ?_
  refine st (.int .i64 t10353) rfl rfl (xr_extract (.tuple #[.int .i64 t10352, .int .i64 t10353, .bool t10354]) _ rfl rfl rfl) ?_
  refine st (.bool t10354) rfl rfl (xr_extract (.tuple #[.int .i64 t10352, .int .i64 t10353, .bool t10354]) _ rfl rfl rfl) ?_
  simp only [ls0, ls1]
  refine st (.int .i64 t10352) rfl rfl (xr_assign _ rfl rfl) ?_
  refine st (.int .i64 t10353) rfl rfl (xr_assign _ rfl rfl) ?_
  refine st (.bool t10354) rfl rfl (xr_assign _ rfl rfl) ?_
  refine wl_end ?_
  (try simp only [Act.put, List.setIfInBounds_toArray, ls0, ls1])
  refine hK10350 _ _ ?_
  (try clear hK10350 K10350)
  refine wp_seq_k fun K10360 hK10360 => ?_
  refine wl_region ?_
  refine st (.bool t10354) rfl rfl (xr_move _ rfl rfl) ?_
  refine st (.bool (!t10354)) rfl rfl (xr_un (.bool t10354) _ rfl rfl (by first | rfl | (go_simp; done) | (go_simp; rfl) | (go_simp; exact i64_w _) | (go_simp; exact i32_w _))) ?_
  refine wl_end ?_
  (try simp only [Act.put, List.setIfInBounds_toArray, ls0, ls1])
  refine hK10360 _ _ ?_
  (try clear hK10360 K10360)
  by_cases c10361 : t10354 = true
  ·rw [if_pos c10361] at H
   (try rw [c10361])
   (try simp only [Bool.not_true, Bool.not_false])
   refine wp_cond_false rfl ?_
   refine wp_skip ?_
   (try simp only [Act.put, List.setIfInBounds_toArray, ls0, ls1])
   refine hK10349 _ _ ?_
   (try clear hK10349 K10349)
   refine wp_seq_k fun K10362 hK10362 => ?_
   refine wp_seq_k fun K10363 hK10363 => ?_
   refine wl_region ?_
   refine st (.pointer (some ⟨g10327, 0, none⟩)) rfl rfl (xr_move _ rfl rfl) ?_
   have HP10364 : Ft C10358_ [0, 11] w10357 (fun w_ => (Kd.ptr 107 k107).K w_ (some (⟨x0, (⟨(⟨1⟩ : S92), (⟨(⟨0, 0⟩ : S94)⟩ : S96)⟩ : S98), t10336, t10337, (⟨0⟩ : S105)⟩ : S107)) [.pointer (some ⟨g10327, 0, none⟩)]) := ptr_mk (Ft.more (HX10347.ft) rfl) (k107_mkF _ _ (⟨x0, (⟨(⟨1⟩ : S92), (⟨(⟨0, 0⟩ : S94)⟩ : S96)⟩ : S98), t10336, t10337, (⟨0⟩ : S105)⟩ : S107) (Ft.more HP0 rfl) HL10343 HL10344)
   obtain ⟨⟨t10365, t10366, t10367⟩, A10368, H⟩ := Option.bind_eq_some_iff.mp H
   (try dsimp only at H)
   refine st_call #[.pointer (some ⟨g10327, 0, none⟩)] rfl rfl Tryd.func59 (by kernel_rfl) rfl rfl (mp_ rfl) ?_
   refine (lattice_Lattice_spreads.calls k (.pointer (some ⟨g10327, 0, none⟩)) (some (⟨x0, (⟨(⟨1⟩ : S92), (⟨(⟨0, 0⟩ : S94)⟩ : S96)⟩ : S98), t10336, t10337, (⟨0⟩ : S105)⟩ : S107) : Option S107) t10365 t10366 t10367  (fun z_ => pal [(0, 0), (11, 0)] (C10358_ z_)) w10357 (fun _ => pal_lt rfl _) (Ft.arg HP10364 rfl) A10368).mono ?_
   rintro _ w10370 ⟨C10371, rfl, hs10372⟩
   refine ⟨_, rfl, ?_⟩
   replace hs10372 := Step.lift (U := [(0, 0)]) hs10372 [] rfl rfl
   generalize up C10358_ C10371 w10357.heap.size [(0, 0)] = C10371_ at hs10372
   replace HG := HG.thru hs10372 rfl
   replace HP0 := HP0.thru hs10372 rfl
   replace HX10347 := HX10347.thru hs10372 rfl
   replace HS := HS.trans hs10372 hc rfl
   (try simp only [Act.put, List.setIfInBounds_toArray, ls0, ls1])
   refine st (.tuple #[.int .i64 t10365, .int .i64 t10366, .bool t10367]) rfl rfl (xr_move _ rfl rfl) ?_
   refine st (.int .i64 t10365) rfl rfl (xr_extract (.tuple #[.int .i64 t10365, .int .i64 t10366, .bool t10367]) _ rfl rfl rfl) ?_
   refine st (.int .i64 t10366) rfl rfl (xr_extract (.tuple #[.int .i64 t10365, .int .i64 t10366, .bool t10367]) _ rfl rfl rfl) ?_
   refine st (.bool t10367) rfl rfl (xr_extract (.tuple #[.int .i64 t10365, .int .i64 t10366, .bool t10367]) _ rfl rfl rfl) ?_
   simp only [ls0, ls1]
   refine st (.int .i64 t10365) rfl rfl (xr_assign _ rfl rfl) ?_
   refine st (.int .i64 t10366) rfl rfl (xr_assign _ rfl rfl) ?_
   refine st (.bool t10367) rfl rfl (xr_assign _ rfl rfl) ?_
   refine wl_end ?_
   (try simp only [Act.put, List.setIfInBounds_toArray, ls0, ls1])
   refine hK10363 _ _ ?_
   (try clear hK10363 K10363)
   refine wp_seq_k fun K10373 hK10373 => ?_
   refine wl_region ?_
   refine st (.bool t10367) rfl rfl (xr_move _ rfl rfl) ?_
   refine st (.bool (!t10367)) rfl rfl (xr_un (.bool t10367) _ rfl rfl (by first | rfl | (go_simp; done) | (go_simp; rfl) | (go_simp; exact i64_w _) | (go_simp; exact i32_w _))) ?_
   refine wl_end ?_
   (try simp only [Act.put, List.setIfInBounds_toArray, ls0, ls1])
   refine hK10373 _ _ ?_
   (try clear hK10373 K10373)
   by_cases c10374 : t10367 = true
   ·rw [if_pos c10374] at H
    (try rw [c10374])
    (try simp only [Bool.not_true, Bool.not_false])
    refine wp_cond_false rfl ?_
    refine wp_skip ?_
    (try simp only [Act.put, List.setIfInBounds_toArray, ls0, ls1])
    refine hK10362 _ _ ?_
    (try clear hK10362 K10362)
    refine wp_seq_k fun K10375 hK10375 => ?_
    refine wl_region ?_
    refine st (.pointer (some ⟨g10327, 0, none⟩)) rfl rfl (xr_move _ rfl rfl) ?_
    refine st (.pointer (some ⟨g10327, 0, none⟩)) rfl rfl (xr_assign _ rfl rfl) ?_
    refine st (.int .i64 0) rfl rfl (xr_assign _ rfl rfl) ?_
    refine st (.int .i64 0) rfl rfl (xr_assign _ rfl rfl) ?_
    simp only [ls0, ls1]
    refine st (.int .i64 0) rfl rfl (xr_assign _ rfl rfl) ?_
    refine wl_end ?_
    (try simp only [Act.put, List.setIfInBounds_toArray, ls0, ls1])
    refine hK10375 _ _ ?_
    (try clear hK10375 K10375)
    refine wp_ret ?_
    (try simp only [Exit.inBlock, Exit.then, Exit.noGoto])
    (try simp only [Act.put, List.setIfInBounds_toArray, ls0, ls1])
    have HP10376 : OwnPt C10371_ 11 w10370 107 k107 (.pointer (some ⟨g10327, 0, none⟩)) (some (⟨x0, (⟨(⟨1⟩ : S92), (⟨(⟨0, 0⟩ : S94)⟩ : S96)⟩ : S98), t10336, t10337, (⟨0⟩ : S105)⟩ : S107)) := OwnPt.mk HX10347 (k107_mkF _ _ (⟨x0, (⟨(⟨1⟩ : S92), (⟨(⟨0, 0⟩ : S94)⟩ : S96)⟩ : S98), t10336, t10337, (⟨0⟩ : S105)⟩ : S107) (Ft.more HP0 rfl) HL10343 HL10344)
    replace HG := Ft.recol (a := 11) (b := 5) HG (.inl rfl)
    replace HP0 := Ft.recol (a := 11) (b := 5) HP0 (.inl rfl)
    replace HP10376 := OwnPt.recolor (b := 5) HP10376 (by decide)
    replace HS := Step.recol (a := 11) (b := 5) HS hc (by decide)
    simp only [Option.some.injEq, Prod.mk.injEq] at H
    obtain ⟨rfl, rfl, rfl, rfl⟩ := H
    refine bodyPost_ret (by simp [results, Tryd.results17]; rfl) rfl ?_
    exact ⟨_, (.pointer (some ⟨g10327, 0, none⟩)), rfl, HS, HP10376⟩
   ·rw [if_neg c10374] at H
    (try rw [(Bool.eq_false_iff.mpr c10374)])
    (try simp only [Bool.not_true, Bool.not_false])
    refine wp_cond_true rfl ?_
    refine wp_seq_k fun K10377 hK10377 => ?_
    refine wl_region ?_
    refine st (.int .i64 t10365) rfl rfl (xr_move _ rfl rfl) ?_
    refine st (.int .i64 t10366) rfl rfl (xr_move _ rfl rfl) ?_
    refine st (.pointer none) rfl rfl (xr_assign _ rfl rfl) ?_
    refine st (.int .i64 t10365) rfl rfl (xr_assign _ rfl rfl) ?_
    simp only [ls0, ls1]
    refine st (.int .i64 t10366) rfl rfl (xr_assign _ rfl rfl) ?_
    refine st (.int .i64 17) rfl rfl (xr_assign _ rfl rfl) ?_
    refine wl_end ?_
    (try simp only [Act.put, List.setIfInBounds_toArray, ls0, ls1])
    refine hK10377 _ _ ?_
    (try clear hK10377 K10377)
    refine wp_ret ?_
    (try simp only [Exit.inBlock, Exit.then, Exit.noGoto])
    (try simp only [Act.put, List.setIfInBounds_toArray, ls0, ls1])
    simp only [Option.some.injEq, Prod.mk.injEq] at H
    obtain ⟨rfl, rfl, rfl, rfl⟩ := H
    refine bodyPost_ret (by simp [results, Tryd.results17]; rfl) rfl ?_
    exact ⟨_, (.pointer none), rfl, HS, (OwnPt.nil _ _ _ _ _)⟩
  ·rw [if_neg c10361] at H
   (try rw [(Bool.eq_false_iff.mpr c10361)])
   (try simp only [Bool.not_true, Bool.not_false])
   refine wp_cond_true rfl ?_
   refine wp_seq_k fun K10378 hK10378 => ?_
   refine wl_region ?_
   refine st (.int .i64 t10352) rfl rfl (xr_move _ rfl rfl) ?_
   refine st (.int .i64 t10353) rfl rfl (xr_move _ rfl rfl) ?_
   refine st (.pointer none) rfl rfl (xr_assign _ rfl rfl) ?_
   refine st (.int .i64 t10352) rfl rfl (xr_assign _ rfl rfl) ?_
   simp only [ls0, ls1]
   refine st (.int .i64 t10353) rfl rfl (xr_assign _ rfl rfl) ?_
   refine st (.int .i64 17) rfl rfl (xr_assign _ rfl rfl) ?_
   refine wl_end ?_
   (try simp only [Act.put, List.setIfInBounds_toArray, ls0, ls1])
   refine hK10378 _ _ ?_
   (try clear hK10378 K10378)
   refine wp_ret ?_
   (try simp only [Exit.inBlock, Exit.then, Exit.noGoto])
   (try simp only [Act.put, List.setIfInBounds_toArray, ls0, ls1])
   simp only [Option.some.injEq, Prod.mk.injEq] at H
   obtain ⟨rfl, rfl, rfl, rfl⟩ := H
   refine bodyPost_ret (by simp [results, Tryd.results17]; rfl) rfl ?_
   exact ⟨_, (.pointer none), rfl, HS, (OwnPt.nil _ _ _ _ _)⟩

/-! ### lattice_Lattice_in: function 62 -/
def lattice_Lattice_in.f (x0 : Option S107) (a1 : Int) (a2 : Int) : Option (Bool) := onOpt x0 (some false) (fun o10402 => (if o10402.f1.f0.f0 = 1 then (if (mn a1 a2) ≥ 0 then ((order_Order_Len.f o10402.f0).bind fun t10413 => (some (decide ((mx a1 a2) < t10413)))) else (some false)) else (none)))
set_option maxHeartbeats 2000000 in
set_option maxRecDepth 100000 in
theorem lattice_Lattice_in.calls (v0 : Value) (x0 : Option S107) (a1 : Int) (a2 : Int) (r : Bool) (c : Nat → Nat) (w : World) (hc : ∀ k, c k < 10) (HP0 : Ft c [0] w (fun w_ => (Kd.ptr 107 k107).K w_ x0 [v0])) (H : lattice_Lattice_in.f x0 a1 a2 = some r) :
    Calls Tryd.prog 62 #[v0, .int .i64 a1, .int .i64 a2] w fun e w' => ∃ (c' : Nat → Nat) , e = .returned (.bool r) ∧ Step c w c' w' [] := by
 unfold lattice_Lattice_in.f at H
 have HS := Step.refl c w []
 go_enter Tryd.func62, Tryd.ntmps62
 refine wp_seq_k fun K10399 hK10399 => ?_
 refine wl_region ?_
 refine st (.bool false) rfl rfl (xr_assign _ rfl rfl) ?_
 refine wl_end ?_
 (try simp only [Act.put, List.setIfInBounds_toArray, ls0, ls1])
 refine hK10399 _ _ ?_
 (try clear hK10399 K10399)
 refine wp_seq_k fun K10400 hK10400 => ?_
 refine wp_seq_k fun K10401 hK10401 => ?_
 refine wl_region ?_
 refine st (v0) rfl rfl (xr_move _ rfl rfl) ?_
 cases x0 with
 | none =>
  (try simp only [onOpt] at H)
  obtain rfl := ptr_none HP0
  refine st (.bool true) rfl rfl (xr_bin (.pointer none) (.pointer none) (.bool true) rfl rfl rfl (B.eql_nn ⟨_, Tryd.underlying36⟩ (⟨0, 0, none⟩ : Addr))) ?_
  refine wl_end ?_
  (try simp only [Act.put, List.setIfInBounds_toArray, ls0, ls1])
  refine hK10401 _ _ ?_
  (try clear hK10401 K10401)
  refine wp_cond_true rfl ?_
  refine wp_seq_k fun K10403 hK10403 => ?_
  refine wl_region ?_
  refine st (.bool false) rfl rfl (xr_assign _ rfl rfl) ?_
  refine wl_end ?_
  (try simp only [Act.put, List.setIfInBounds_toArray, ls0, ls1])
  refine hK10403 _ _ ?_
  (try clear hK10403 K10403)
  refine wp_ret ?_
  (try simp only [Exit.inBlock, Exit.then, Exit.noGoto])
  (try simp only [Act.put, List.setIfInBounds_toArray, ls0, ls1])
  obtain rfl := Option.some.inj H
  refine bodyPost_ret (results_tmp rfl _ _ _) rfl ?_
  exact ⟨_, rfl, HS⟩
 | some o10402 =>
  (try simp only [onOpt] at H)
  obtain ⟨g10404, cs10405, rfl, HX10406, HK10407⟩ := ptr_some HP0
  obtain ⟨vq10408_0, rfl, HRq10408_0, HLq10408_4, HLq10408_5⟩ := k107_openF HK10407
  replace HRq10408_0 : Ft c [0] w (fun w_ => (Kd.ptr 81 k81).K w_ o10402.f0 [vq10408_0]) := HRq10408_0
  refine st (.bool false) rfl rfl (xr_bin (.pointer (some ⟨g10404, 0, none⟩)) (.pointer none) (.bool false) rfl rfl rfl (B.eql_pn ⟨_, Tryd.underlying36⟩ ⟨g10404, 0, none⟩)) ?_
  refine wl_end ?_
  (try simp only [Act.put, List.setIfInBounds_toArray, ls0, ls1])
  refine hK10401 _ _ ?_
  (try clear hK10401 K10401)
  refine wp_cond_false rfl ?_
  refine wp_skip ?_
  (try simp only [Act.put, List.setIfInBounds_toArray, ls0, ls1])
  refine hK10400 _ _ ?_
  (try clear hK10400 K10400)
  refine wp_seq_k fun K10409 hK10409 => ?_
  refine wl_region ?_
  refine st (.pointer (some ⟨g10404, 0, none⟩)) rfl rfl (xr_move _ rfl rfl) ?_
  refine st (.pointer (some ⟨g10404, 0, none⟩)) rfl rfl (xr_nilCheck _ rfl rfl) ?_
  refine st (.pointer (some ⟨g10404, 1, none⟩)) rfl rfl (xr_fieldAddr _ _ rfl rfl (bx_field2 Tryd.underlying107 rfl rfl (by kernel_rfl))) ?_
  refine st (.pointer (some ⟨g10404, 0, none⟩)) rfl rfl (xr_move _ rfl rfl) ?_
  simp only [ls0, ls1]
  refine st (.func (.func 57) #[.pointer (some ⟨g10404, 0, none⟩)] #[]) rfl rfl (xr_makeFunc #[.pointer (some ⟨g10404, 0, none⟩)] #[] rfl (mp_ rfl) (mp_ rfl)) ?_
  by_cases c10410 : o10402.f1.f0.f0 = 1
  ·rw [if_pos c10410] at H
   refine st_call #[.pointer (some ⟨g10404, 1, none⟩), .func (.func 57) #[.pointer (some ⟨g10404, 0, none⟩)] #[]] rfl rfl Tryd.func56 (by kernel_rfl) rfl rfl (mp_ rfl) ?_
   refine (once_done _ _ _ (by first | assumption | rfl) _ (bx_cell (l := [vq10408_0, .int .u32 o10402.f1.f0.f0, .int .i32 o10402.f1.f1.f0.f0, .int .u32 o10402.f1.f1.f0.f1] ++ (List.map (Value.int .i8) o10402.f2 ++ (List.map (Value.int .i8) o10402.f3 ++ ([.int .i64 o10402.f4.f0])))) (Ft.now HX10406) 1 rfl)).mono ?_
   rintro _ _ ⟨rfl, rfl⟩
   refine ⟨_, rfl, ?_⟩
   (try simp only [Act.put, List.setIfInBounds_toArray, ls0, ls1])
   refine wl_end ?_
   (try simp only [Act.put, List.setIfInBounds_toArray, ls0, ls1])
   refine hK10409 _ _ ?_
   (try clear hK10409 K10409)
   refine wp_seq_k fun K10411 hK10411 => ?_
   refine wl_region ?_
   refine st (.int .i64 a1) rfl rfl (xr_move _ rfl rfl) ?_
   refine st (.int .i64 a2) rfl rfl (xr_move _ rfl rfl) ?_
   refine st (.int .i64 (mn a1 a2)) rfl rfl (xr_builtin #[.int .i64 a1, .int .i64 a2] (.int .i64 (mn a1 a2)) rfl (mp_ rfl) (by first | rfl | (go_simp; done) | (go_simp; rfl) | (go_simp; exact i64_w _) | (go_simp; exact i32_w _))) ?_
   refine st (.bool (decide ((mn a1 a2) ≥ 0))) rfl rfl (xr_bin _ _ _ rfl rfl rfl (B.geq_i64 _ _)) ?_
   simp only [ls0, ls1]
   refine st (.bool (decide ((mn a1 a2) ≥ 0))) rfl rfl (xr_move _ rfl rfl) ?_
   by_cases c10412 : (mn a1 a2) ≥ 0
   ·rw [if_pos c10412] at H
    (try rw [(decide_eq_true c10412)])
    (try simp only [Bool.not_true, Bool.not_false])
    refine on_guard (guard_on 4 true 19 rfl rfl rfl) ?_
    refine st (.int .i64 a1) rfl rfl (xr_move _ rfl rfl) ?_
    refine on_guard (guard_on 4 true 19 rfl rfl rfl) ?_
    refine st (.int .i64 a2) rfl rfl (xr_move _ rfl rfl) ?_
    refine on_guard (guard_on 4 true 19 rfl rfl rfl) ?_
    refine st (.int .i64 (mx a1 a2)) rfl rfl (xr_builtin #[.int .i64 a1, .int .i64 a2] (.int .i64 (mx a1 a2)) rfl (mp_ rfl) (by first | rfl | (go_simp; done) | (go_simp; rfl) | (go_simp; exact i64_w _) | (go_simp; exact i32_w _))) ?_
    simp only [ls0, ls1]
    refine on_guard (guard_on 4 true 19 rfl rfl rfl) ?_
    refine st (.pointer (some ⟨g10404, 0, none⟩)) rfl rfl (xr_move _ rfl rfl) ?_
    refine on_guard (guard_on 4 true 19 rfl rfl rfl) ?_
    refine st (.pointer (some ⟨g10404, 0, none⟩)) rfl rfl (xr_nilCheck _ rfl rfl) ?_
    refine on_guard (guard_on 4 true 19 rfl rfl rfl) ?_
    refine st (.pointer (some ⟨g10404, 0, none⟩)) rfl rfl (xr_fieldAddr _ _ rfl rfl (bx_field2 Tryd.underlying107 rfl rfl (by kernel_rfl))) ?_
    refine on_guard (guard_on 4 true 19 rfl rfl rfl) ?_
    refine st (vq10408_0) rfl rfl (xr_load _ _ rfl rfl (load_cell Tryd.underlying26 rfl (bx_cell (Ft.now HX10406) 0 rfl))) ?_
    simp only [ls0, ls1]
    refine on_guard (guard_on 4 true 19 rfl rfl rfl) ?_
    obtain ⟨t10413, A10414, H⟩ := Option.bind_eq_some_iff.mp H
    (try dsimp only at H)
    refine st_call #[vq10408_0] rfl rfl Tryd.func21 (by kernel_rfl) rfl rfl (mp_ rfl) ?_
    refine (order_Order_Len.calls vq10408_0 o10402.f0 t10413  (fun z_ => pal [(0, 0)] (c z_)) w (fun _ => pal_lt rfl _) (Ft.arg HRq10408_0 rfl) A10414).mono ?_
    rintro _ w10416 ⟨C10417, rfl, hs10418⟩
    refine ⟨_, rfl, ?_⟩
    replace hs10418 := Step.lift (U := [(0, 0)]) hs10418 [] rfl rfl
    generalize up c C10417 w.heap.size [(0, 0)] = C10417_ at hs10418
    replace HX10406 := HX10406.thru hs10418 rfl
    replace HRq10408_0 := HRq10408_0.thru hs10418 rfl
    replace HS := HS.trans hs10418 hc rfl
    (try simp only [Act.put, List.setIfInBounds_toArray, ls0, ls1])
    refine on_guard (guard_on 4 true 19 rfl rfl rfl) ?_
    refine st (.bool (decide ((mx a1 a2) < t10413))) rfl rfl (xr_bin _ _ _ rfl rfl rfl (B.lss_i64 _ _)) ?_
    refine st (.bool (decide ((mx a1 a2) < t10413))) rfl rfl (xr_pick true _ rfl rfl rfl) ?_
    refine st (.bool (decide ((mx a1 a2) < t10413))) rfl rfl (xr_assign _ rfl rfl) ?_
    refine wl_end ?_
    (try simp only [Act.put, List.setIfInBounds_toArray, ls0, ls1])
    refine hK10411 _ _ ?_
    (try clear hK10411 K10411)
    refine wp_ret ?_
    (try simp only [Exit.inBlock, Exit.then, Exit.noGoto])
    (try simp only [Act.put, List.setIfInBounds_toArray, ls0, ls1])
    obtain rfl := Option.some.inj H
    refine bodyPost_ret (results_tmp rfl _ _ _) rfl ?_
    exact ⟨_, rfl, HS⟩
   ·rw [if_neg c10412] at H
    (try rw [(decide_eq_false c10412)])
    (try simp only [Bool.not_true, Bool.not_false])
    refine sk_guard (guard_off 4 true 19 rfl rfl false (by decide) rfl) rfl ?_
    refine sk_guard (guard_off 4 true 19 rfl rfl false (by decide) rfl) rfl ?_
    refine sk_guard (guard_off 4 true 19 rfl rfl false (by decide) rfl) rfl ?_
    refine sk_guard (guard_off 4 true 19 rfl rfl false (by decide) rfl) rfl ?_
    simp only [ls0, ls1]
    refine sk_guard (guard_off 4 true 19 rfl rfl false (by decide) rfl) rfl ?_
    refine sk_guard (guard_off 4 true 19 rfl rfl false (by decide) rfl) rfl ?_
    refine sk_guard (guard_off 4 true 19 rfl rfl false (by decide) rfl) rfl ?_
    refine sk_guard (guard_off 4 true 19 rfl rfl false (by decide) rfl) rfl ?_
    simp only [ls0, ls1]
    refine sk_guard (guard_off 4 true 19 rfl rfl false (by decide) rfl) rfl ?_
    refine st (.bool false) rfl rfl (xr_pick false _ rfl rfl rfl) ?_
    refine st (.bool false) rfl rfl (xr_assign _ rfl rfl) ?_
    refine wl_end ?_
    (try simp only [Act.put, List.setIfInBounds_toArray, ls0, ls1])
    refine hK10411 _ _ ?_
    (try clear hK10411 K10411)
    refine wp_ret ?_
    (try simp only [Exit.inBlock, Exit.then, Exit.noGoto])
    (try simp only [Act.put, List.setIfInBounds_toArray, ls0, ls1])
    obtain rfl := Option.some.inj H
    refine bodyPost_ret (results_tmp rfl _ _ _) rfl ?_
    exact ⟨_, rfl, HS⟩
  ·rw [if_neg c10410] at H
   exact absurd H (by simp)

/-! ### sync_atomic_Int64_Add -/
theorem atomic_add {C : Nat → Nat} {z g tb o : Nat} {pre post xs : List Value} {w : World} {K : Value → World → Prop} {old y : Int} (HB : Bx C z w g tb xs) (hL : xs = pre ++ (.int .i64 old :: post)) (ho : pre.length = o) {r : Int} (hr : wrap64 (old + y) = r) {xs' : List Value} (hE : pre ++ (.int .i64 r :: post) = xs')
    (h : ∀ w1, Bx C z w1 g tb xs' → Step C w C w1 [z] → K (.int .i64 r) w1) :
    Calls Tryd.prog 63 #[.pointer (some ⟨g, o, none⟩), .int .i64 y] w fun e w' => ∃ v, e = .returned v ∧ K v w' := by
  subst hr
  obtain ⟨hb, hs⟩ := bx_set (v := .int .i64 (wrap64 (old + y))) HB hL ho hE
  have hc : w.cell? ⟨g, o, none⟩ = some (.int .i64 old) := bx_cell HB.2 o (at_get_ hL ho)
  have hk := h _ hb hs
  have hadd := run_call_add (P := Tryd.prog) Tryd.func81 (by kernel_rfl) (by kernel_rfl) (by kernel_rfl) .i64 (by kernel_rfl) (y := y) (s := wrap64 (old + y)) hc (bx_frozen HB.2 o) (by simp [go_sem]; unfold wrap64; exact IntKind.wrap_i64 _)
  clear HB hL hb hs h
  go_enter Tryd.func63, Tryd.ntmps63
  go_wp2
  go_ret
  exact ⟨_, rfl, hk⟩

/-! ### lattice_Lattice_Join: function 22 -/
def lattice_Lattice_Join.f (m0_0 : Option S81) (a0_1 : Int) (a0_2 : Int) (a0_3 : Int) (a0_4 : List Int) (a0_5 : List Int) (a0_6 : Int) (a1 : Int) (a2 : Int) : Option (Int × Int) := (some (wrap64 (a0_6 + 1) : Int)).bind fun y10497 => ((lattice_Lattice_in.f (some (⟨m0_0, (⟨(⟨a0_1⟩ : S92), (⟨(⟨a0_2, a0_3⟩ : S94)⟩ : S96)⟩ : S98), a0_4, a0_5, (⟨y10497⟩ : S105)⟩ : S107) : Option S107) a1 a2).bind fun t10505 => (if t10505 = true then (if 0 ≤ a1 then (if a1 < 64 then (if 0 ≤ a2 then (if a2 < 64 then (some (wrap64 (List.getD a0_4 ((a1 : Int).toNat * 64 + (a2 : Int).toNat) 0), y10497)) else (none)) else (none)) else (none)) else (none)) else (some ((-1), y10497))))
set_option maxHeartbeats 2000000 in
set_option maxRecDepth 100000 in
theorem lattice_Lattice_Join.calls (g0 : Nat) (v0_0 : Value) (m0_0 : Option S81) (a0_1 : Int) (a0_2 : Int) (a0_3 : Int) (a0_4 : List Int) (a0_5 : List Int) (a0_6 : Int) (a1 : Int) (a2 : Int) (r1 : Int) (r2 : Int) (c : Nat → Nat) (w : World) (hc : ∀ k, c k < 10) (HP0 : Bx c 1 w g0 107 ([v0_0, .int .u32 a0_1, .int .i32 a0_2, .int .u32 a0_3] ++ (List.map (Value.int .i8) a0_4 ++ (List.map (Value.int .i8) a0_5 ++ ([.int .i64 a0_6]))))) (HP0_0 : Ft c [0] w (fun w_ => (Kd.ptr 81 k81).K w_ m0_0 [v0_0])) (HL0_4 : a0_4.length = 4096) (HL0_5 : a0_5.length = 4096) (H : lattice_Lattice_Join.f m0_0 a0_1 a0_2 a0_3 a0_4 a0_5 a0_6 a1 a2 = some (r1, r2)) :
    Calls Tryd.prog 22 #[.pointer (some ⟨g0, 0, none⟩), .int .i64 a1, .int .i64 a2] w fun e w' => ∃ (c' : Nat → Nat) , e = .returned (.int .i64 r1) ∧ Step c w c' w' [1] ∧ Bx c' 1 w' g0 107 ([v0_0, .int .u32 a0_1, .int .i32 a0_2, .int .u32 a0_3] ++ (List.map (Value.int .i8) a0_4 ++ (List.map (Value.int .i8) a0_5 ++ ([.int .i64 r2])))) := by
 unfold lattice_Lattice_Join.f at H
 have HS := Step.refl c w [1]
 go_enter Tryd.func22, Tryd.ntmps22
 refine wp_seq_k fun K10488 hK10488 => ?_
 refine wl_region ?_
 refine st (.int .i64 0) rfl rfl (xr_assign _ rfl rfl) ?_
 refine wl_end ?_
 (try simp only [Act.put, List.setIfInBounds_toArray, ls0, ls1])
 refine hK10488 _ _ ?_
 (try clear hK10488 K10488)
 refine wp_seq_k fun K10489 hK10489 => ?_
 refine wp_seq_k fun K10496 hK10496 => ?_
 refine wl_region ?_
 refine st (.pointer (some ⟨g0, 0, none⟩)) rfl rfl (xr_move _ rfl rfl) ?_
 refine st (.bool true) rfl rfl (xr_bin (.pointer (some ⟨g0, 0, none⟩)) (.pointer none) (.bool true) rfl rfl rfl (B.neq_pn ⟨_, Tryd.underlying36⟩ ⟨g0, 0, none⟩)) ?_
 refine wl_end ?_
 (try simp only [Act.put, List.setIfInBounds_toArray, ls0, ls1])
 refine hK10496 _ _ ?_
 (try clear hK10496 K10496)
 refine wp_cond_true rfl ?_
 refine wl_region ?_
 refine st (.pointer (some ⟨g0, 0, none⟩)) rfl rfl (xr_move _ rfl rfl) ?_
 refine st (.pointer (some ⟨g0, 0, none⟩)) rfl rfl (xr_nilCheck _ rfl rfl) ?_
 refine st (.pointer (some ⟨g0, 8196, none⟩)) rfl rfl (xr_fieldAddr _ _ rfl rfl (bx_field2 Tryd.underlying107 rfl rfl (by kernel_rfl))) ?_
 obtain ⟨y10497, A10498, H⟩ := Option.bind_eq_some_iff.mp H
 (try dsimp only at H)
 refine st_call #[.pointer (some ⟨g0, 8196, none⟩), .int .i64 1] rfl rfl Tryd.func63 (by kernel_rfl) rfl rfl (mp_ rfl) ?_
 refine atomic_add (C := c) (pre := [v0_0, .int .u32 a0_1, .int .i32 a0_2, .int .u32 a0_3] ++ (List.map (Value.int .i8) a0_4 ++ (List.map (Value.int .i8) a0_5))) (post := []) (old := a0_6) (y := 1) HP0 (by first | (simp only [List.append_assoc, List.cons_append, List.nil_append, List.append_nil]; done) | rfl) (by simp [HL0_4, HL0_5]) (r := y10497) (Option.some.inj A10498) (xs' := [v0_0, .int .u32 a0_1, .int .i32 a0_2, .int .u32 a0_3] ++ (List.map (Value.int .i8) a0_4 ++ (List.map (Value.int .i8) a0_5 ++ ([.int .i64 y10497])))) (by first | (simp only [List.append_assoc, List.cons_append, List.nil_append, List.append_nil]; done) | rfl) ?_
 intro w10499 HX10500 hs10501
 replace HP0_0 := HP0_0.thru hs10501 rfl
 replace HS := HS.trans hs10501 hc rfl
 (try simp only [Act.put, List.setIfInBounds_toArray, ls0, ls1])
 refine wl_end ?_
 (try simp only [Act.put, List.setIfInBounds_toArray, ls0, ls1])
 refine hK10489 _ _ ?_
 (try clear hK10489 K10489)
 refine wp_seq_k fun K10502 hK10502 => ?_
 refine wp_seq_k fun K10503 hK10503 => ?_
 refine wl_region ?_
 refine st (.pointer (some ⟨g0, 0, none⟩)) rfl rfl (xr_move _ rfl rfl) ?_
 refine st (.int .i64 a1) rfl rfl (xr_move _ rfl rfl) ?_
 refine st (.int .i64 a2) rfl rfl (xr_move _ rfl rfl) ?_
 have HP10504 : Ft c [0, 1] w10499 (fun w_ => (Kd.ptr 107 k107).K w_ (some (⟨m0_0, (⟨(⟨a0_1⟩ : S92), (⟨(⟨a0_2, a0_3⟩ : S94)⟩ : S96)⟩ : S98), a0_4, a0_5, (⟨y10497⟩ : S105)⟩ : S107)) [.pointer (some ⟨g0, 0, none⟩)]) := ptr_mk (Ft.more (HX10500.ft) rfl) (k107_mkF _ _ (⟨m0_0, (⟨(⟨a0_1⟩ : S92), (⟨(⟨a0_2, a0_3⟩ : S94)⟩ : S96)⟩ : S98), a0_4, a0_5, (⟨y10497⟩ : S105)⟩ : S107) (Ft.more HP0_0 rfl) HL0_4 HL0_5)
 obtain ⟨t10505, A10506, H⟩ := Option.bind_eq_some_iff.mp H
 (try dsimp only at H)
 refine st_call #[.pointer (some ⟨g0, 0, none⟩), .int .i64 a1, .int .i64 a2] rfl rfl Tryd.func62 (by kernel_rfl) rfl rfl (mp_ rfl) ?_
 refine (lattice_Lattice_in.calls (.pointer (some ⟨g0, 0, none⟩)) (some (⟨m0_0, (⟨(⟨a0_1⟩ : S92), (⟨(⟨a0_2, a0_3⟩ : S94)⟩ : S96)⟩ : S98), a0_4, a0_5, (⟨y10497⟩ : S105)⟩ : S107) : Option S107) a1 a2 t10505  (fun z_ => pal [(0, 0), (1, 0)] (c z_)) w10499 (fun _ => pal_lt rfl _) (Ft.arg HP10504 rfl) A10506).mono ?_
 rintro _ w10508 ⟨C10509, rfl, hs10510⟩
 refine ⟨_, rfl, ?_⟩
 replace hs10510 := Step.lift (U := [(0, 0)]) hs10510 [] rfl rfl
 generalize up c C10509 w10499.heap.size [(0, 0)] = C10509_ at hs10510
 replace HX10500 := HX10500.thru hs10510 rfl
 replace HP0_0 := HP0_0.thru hs10510 rfl
 replace HS := HS.trans hs10510 hc rfl
 (try simp only [Act.put, List.setIfInBounds_toArray, ls0, ls1])
 refine st (.bool (!t10505)) rfl rfl (xr_un (.bool t10505) _ rfl rfl (by first | rfl | (go_simp; done) | (go_simp; rfl) | (go_simp; exact i64_w _) | (go_simp; exact i32_w _))) ?_
 refine wl_end ?_
 (try simp only [Act.put, List.setIfInBounds_toArray, ls0, ls1])
 refine hK10503 _ _ ?_
 (try clear hK10503 K10503)
 by_cases c10511 : t10505 = true
 ·rw [if_pos c10511] at H
  (try rw [c10511])
  (try simp only [Bool.not_true, Bool.not_false])
  refine wp_cond_false rfl ?_
  refine wp_skip ?_
  (try simp only [Act.put, List.setIfInBounds_toArray, ls0, ls1])
  refine hK10502 _ _ ?_
  (try clear hK10502 K10502)
  refine wp_seq_k fun K10512 hK10512 => ?_
  refine wl_region ?_
  refine st (.pointer (some ⟨g0, 0, none⟩)) rfl rfl (xr_move _ rfl rfl) ?_
  refine st (.int .i64 a1) rfl rfl (xr_move _ rfl rfl) ?_
  refine st (.int .i64 a2) rfl rfl (xr_move _ rfl rfl) ?_
  refine st (.pointer (some ⟨g0, 0, none⟩)) rfl rfl (xr_nilCheck _ rfl rfl) ?_
  simp only [ls0, ls1]
  refine st (.pointer (some ⟨g0, 4, none⟩)) rfl rfl (xr_fieldAddr _ _ rfl rfl (bx_field2 Tryd.underlying107 rfl rfl (by kernel_rfl))) ?_
  by_cases c10513 : 0 ≤ a1
  ·rw [if_pos c10513] at H
   by_cases c10514 : a1 < 64
   ·rw [if_pos c10514] at H
    refine st (.pointer (some ⟨g0, 4 + ((a1 : Int).toNat * 64), none⟩)) rfl rfl (xr_indexAddr _ _ _ rfl rfl rfl (arr_index (sz := 64) Tryd.underlying102 (by kernel_rfl) (by first | assumption | decide | omega) (by first | assumption | decide | omega) (by omega))) ?_
    by_cases c10515 : 0 ≤ a2
    ·rw [if_pos c10515] at H
     by_cases c10516 : a2 < 64
     ·rw [if_pos c10516] at H
      refine st (.pointer (some ⟨g0, 4 + ((a1 : Int).toNat * 64 + (a2 : Int).toNat), none⟩)) rfl rfl (xr_indexAddr _ _ _ rfl rfl rfl (arr_index (sz := 1) Tryd.underlying100 (by kernel_rfl) (by first | assumption | decide | omega) (by first | assumption | decide | omega) (by omega))) ?_
      refine st (.int .i8 (List.getD a0_4 ((a1 : Int).toNat * 64 + (a2 : Int).toNat) 0)) rfl rfl (xr_load _ _ rfl rfl (arr_load (o := 4) (N := 4096) (pre := [v0_0, .int .u32 a0_1, .int .i32 a0_2, .int .u32 a0_3]) (post := List.map (Value.int .i8) a0_5 ++ ([.int .i64 y10497])) (enc := (Value.int .i8)) (l := a0_4) (i := (a1 : Int).toNat * 64 + (a2 : Int).toNat) 0 Tryd.underlying99 rfl (HX10500).2 (by first | (simp only [List.append_assoc, List.cons_append, List.nil_append, List.append_nil]; done) | rfl) rfl HL0_4 (by omega) (by omega))) ?_
      simp only [ls0, ls1]
      refine st (.int .i64 (wrap64 (List.getD a0_4 ((a1 : Int).toNat * 64 + (a2 : Int).toNat) 0))) rfl rfl (xr_conv (.int .i8 (List.getD a0_4 ((a1 : Int).toNat * 64 + (a2 : Int).toNat) 0)) _ rfl rfl (by first | rfl | (go_simp; done) | (go_simp; rfl) | (go_simp; exact i64_w _) | (go_simp; exact i32_w _))) ?_
      refine st (.int .i64 (wrap64 (List.getD a0_4 ((a1 : Int).toNat * 64 + (a2 : Int).toNat) 0))) rfl rfl (xr_assign _ rfl rfl) ?_
      refine wl_end ?_
      (try simp only [Act.put, List.setIfInBounds_toArray, ls0, ls1])
      refine hK10512 _ _ ?_
      (try clear hK10512 K10512)
      refine wp_ret ?_
      (try simp only [Exit.inBlock, Exit.then, Exit.noGoto])
      (try simp only [Act.put, List.setIfInBounds_toArray, ls0, ls1])
      simp only [Option.some.injEq, Prod.mk.injEq] at H
      obtain ⟨rfl, rfl⟩ := H
      refine bodyPost_ret (results_tmp rfl _ _ _) rfl ?_
      exact ⟨_, rfl, HS, HX10500⟩
     ·rw [if_neg c10516] at H
      exact absurd H (by simp)
    ·rw [if_neg c10515] at H
     exact absurd H (by simp)
   ·rw [if_neg c10514] at H
    exact absurd H (by simp)
  ·rw [if_neg c10513] at H
   exact absurd H (by simp)
 ·rw [if_neg c10511] at H
  (try rw [(Bool.eq_false_iff.mpr c10511)])
  (try simp only [Bool.not_true, Bool.not_false])
  refine wp_cond_true rfl ?_
  refine wp_seq_k fun K10517 hK10517 => ?_
  refine wl_region ?_
  refine st (.int .i64 (-1)) rfl rfl (xr_assign _ rfl rfl) ?_
  refine wl_end ?_
  (try simp only [Act.put, List.setIfInBounds_toArray, ls0, ls1])
  refine hK10517 _ _ ?_
  (try clear hK10517 K10517)
  refine wp_ret ?_
  (try simp only [Exit.inBlock, Exit.then, Exit.noGoto])
  (try simp only [Act.put, List.setIfInBounds_toArray, ls0, ls1])
  simp only [Option.some.injEq, Prod.mk.injEq] at H
  obtain ⟨rfl, rfl⟩ := H
  refine bodyPost_ret (results_tmp rfl _ _ _) rfl ?_
  exact ⟨_, rfl, HS, HX10500⟩

/-! ### blazonlaw14_square: function 49 -/
def blazonlaw14_square.f  : Option ((List (S53))) := (some ([(⟨(⟨#[98, 111, 116]⟩ : ByteArray), (⟨#[108]⟩ : ByteArray), 0⟩ : S53), (⟨(⟨#[98, 111, 116]⟩ : ByteArray), (⟨#[114]⟩ : ByteArray), 0⟩ : S53), (⟨(⟨#[108]⟩ : ByteArray), (⟨#[116, 111, 112]⟩ : ByteArray), 0⟩ : S53), (⟨(⟨#[114]⟩ : ByteArray), (⟨#[116, 111, 112]⟩ : ByteArray), 0⟩ : S53)] : List (S53))).bind fun y10531 => (some y10531)
set_option maxHeartbeats 2000000 in
set_option maxRecDepth 100000 in
theorem blazonlaw14_square.calls  (r : List (S53)) (c : Nat → Nat) (w : World) (hc : ∀ k, c k < 10)  (H : blazonlaw14_square.f = some r) :
    Calls Tryd.prog 49 #[] w fun e w' => ∃ (c' : Nat → Nat) (A_r : Option Addr) (c_r : Nat), e = .returned (.slice A_r r.length c_r) ∧ Step c w c' w' [] ∧ Own c' 5 w' k53 53 (.slice A_r r.length c_r) r ∧ r.length ≤ c_r := by
 unfold blazonlaw14_square.f at H
 have HS := Step.refl c w []
 go_enter Tryd.func49, Tryd.ntmps49
 refine wp_seq_k fun K10529 hK10529 => ?_
 refine wl_region ?_
 refine st (.slice none 0 0) rfl rfl (xr_assign _ rfl rfl) ?_
 refine wl_end ?_
 (try simp only [Act.put, List.setIfInBounds_toArray, ls0, ls1])
 refine hK10529 _ _ ?_
 (try clear hK10529 K10529)
 refine wp_seq_k fun K10530 hK10530 => ?_
 refine wl_region ?_
 refine st (.agg #[.string (⟨#[98, 111, 116]⟩ : ByteArray), .string (⟨#[108]⟩ : ByteArray), .int .i64 0]) rfl rfl (xr_build #[(0, .string (⟨#[98, 111, 116]⟩ : ByteArray)), (1, .string (⟨#[108]⟩ : ByteArray))] (.agg #[.string (⟨#[98, 111, 116]⟩ : ByteArray), .string (⟨#[108]⟩ : ByteArray), .int .i64 0]) rfl (mp_ rfl) (by first | rfl | (go_simp; done) | (go_simp; rfl) | (go_simp; exact i64_w _) | (go_simp; exact i32_w _))) ?_
 refine st (.agg #[.string (⟨#[98, 111, 116]⟩ : ByteArray), .string (⟨#[114]⟩ : ByteArray), .int .i64 0]) rfl rfl (xr_build #[(0, .string (⟨#[98, 111, 116]⟩ : ByteArray)), (1, .string (⟨#[114]⟩ : ByteArray))] (.agg #[.string (⟨#[98, 111, 116]⟩ : ByteArray), .string (⟨#[114]⟩ : ByteArray), .int .i64 0]) rfl (mp_ rfl) (by first | rfl | (go_simp; done) | (go_simp; rfl) | (go_simp; exact i64_w _) | (go_simp; exact i32_w _))) ?_
 refine st (.agg #[.string (⟨#[108]⟩ : ByteArray), .string (⟨#[116, 111, 112]⟩ : ByteArray), .int .i64 0]) rfl rfl (xr_build #[(0, .string (⟨#[108]⟩ : ByteArray)), (1, .string (⟨#[116, 111, 112]⟩ : ByteArray))] (.agg #[.string (⟨#[108]⟩ : ByteArray), .string (⟨#[116, 111, 112]⟩ : ByteArray), .int .i64 0]) rfl (mp_ rfl) (by first | rfl | (go_simp; done) | (go_simp; rfl) | (go_simp; exact i64_w _) | (go_simp; exact i32_w _))) ?_
 refine st (.agg #[.string (⟨#[114]⟩ : ByteArray), .string (⟨#[116, 111, 112]⟩ : ByteArray), .int .i64 0]) rfl rfl (xr_build #[(0, .string (⟨#[114]⟩ : ByteArray)), (1, .string (⟨#[116, 111, 112]⟩ : ByteArray))] (.agg #[.string (⟨#[114]⟩ : ByteArray), .string (⟨#[116, 111, 112]⟩ : ByteArray), .int .i64 0]) rfl (mp_ rfl) (by first | rfl | (go_simp; done) | (go_simp; rfl) | (go_simp; exact i64_w _) | (go_simp; exact i32_w _))) ?_
 simp only [ls0, ls1]
 obtain ⟨y10531, A10532, H⟩ := Option.bind_eq_some_iff.mp H
 (try dsimp only at H)
 refine Own.lit k53 (C := c) (i := 11) rfl 53 rfl (xs := [(⟨(⟨#[98, 111, 116]⟩ : ByteArray), (⟨#[108]⟩ : ByteArray), 0⟩ : S53), (⟨(⟨#[98, 111, 116]⟩ : ByteArray), (⟨#[114]⟩ : ByteArray), 0⟩ : S53), (⟨(⟨#[108]⟩ : ByteArray), (⟨#[116, 111, 112]⟩ : ByteArray), 0⟩ : S53), (⟨(⟨#[114]⟩ : ByteArray), (⟨#[116, 111, 112]⟩ : ByteArray), 0⟩ : S53)]) (inner := [.string (⟨#[98, 111, 116]⟩ : ByteArray), .string (⟨#[108]⟩ : ByteArray), .int .i64 0, .string (⟨#[98, 111, 116]⟩ : ByteArray), .string (⟨#[114]⟩ : ByteArray), .int .i64 0, .string (⟨#[108]⟩ : ByteArray), .string (⟨#[116, 111, 112]⟩ : ByteArray), .int .i64 0, .string (⟨#[114]⟩ : ByteArray), .string (⟨#[116, 111, 112]⟩ : ByteArray), .int .i64 0]) (by first | (go_simp; done) | (go_simp; rfl)) (reps_cons (k53_mkF _ _ (⟨(⟨#[98, 111, 116]⟩ : ByteArray), (⟨#[108]⟩ : ByteArray), 0⟩ : S53)) rfl (reps_cons (k53_mkF _ _ (⟨(⟨#[98, 111, 116]⟩ : ByteArray), (⟨#[114]⟩ : ByteArray), 0⟩ : S53)) rfl (reps_cons (k53_mkF _ _ (⟨(⟨#[108]⟩ : ByteArray), (⟨#[116, 111, 112]⟩ : ByteArray), 0⟩ : S53)) rfl (reps_cons (k53_mkF _ _ (⟨(⟨#[114]⟩ : ByteArray), (⟨#[116, 111, 112]⟩ : ByteArray), 0⟩ : S53)) rfl (Reps.none _ _))))) (by simp only [List.length_cons, List.length_nil]; omega) (Option.some.inj A10532) ?_
 intro A10533 cp10534 w10535 C10536 HO10537 HC10538 hs10539
 replace HS := HS.trans hs10539 hc rfl
 (try simp only [Act.put, List.setIfInBounds_toArray, ls0, ls1])
 refine st (.slice A10533 y10531.length cp10534) rfl rfl (xr_assign _ rfl rfl) ?_
 refine wl_end ?_
 (try simp only [Act.put, List.setIfInBounds_toArray, ls0, ls1])
 refine hK10530 _ _ ?_
 (try clear hK10530 K10530)
 refine wp_ret ?_
 (try simp only [Exit.inBlock, Exit.then, Exit.noGoto])
 (try simp only [Act.put, List.setIfInBounds_toArray, ls0, ls1])
 replace HO10537 := Own.recolor (b := 5) HO10537 (by decide)
 replace HS := Step.recol (a := 11) (b := 5) HS hc (by decide)
 obtain rfl := Option.some.inj H
 refine bodyPost_ret (results_tmp rfl _ _ _) rfl ?_
 exact ⟨_, A10533, cp10534, rfl, HS, HO10537, HC10538⟩

/-! ### blazonlaw14_awake: function 14 -/
def blazonlaw14_awake.f (k : Nat)  : Option (Bool) := (blazonlaw14_square.f).bind fun t10651 => ((order_New.f k t10651).bind fun bt10662 => ((lattice_New.f k bt10662.1).bind fun bt10673 => ((some ([(⟨(⟨#[97]⟩ : ByteArray), (⟨#[]⟩ : ByteArray), 0⟩ : S53), (⟨(⟨#[98]⟩ : ByteArray), (⟨#[]⟩ : ByteArray), 0⟩ : S53)] : List (S53))).bind fun y10685 => ((order_New.f k y10685).bind fun bt10695 => ((lattice_New.f k bt10695.1).bind fun bt10706 => (if bt10673.2.2.2 = 0 then (onOpt bt10673.1 (none) (fun o10719 => ((lattice_Lattice_Join.f o10719.f0 o10719.f1.f0.f0 o10719.f1.f1.f0.f0 o10719.f1.f1.f0.f1 o10719.f2 o10719.f3 o10719.f4.f0 1 2).bind fun bt10725 => (if bt10725.1 = 3 then (some (decide (bt10706.2.2.2 = 17))) else (some false))))) else (some false)))))))

set_option maxHeartbeats 2000000 in
set_option maxRecDepth 100000 in
theorem blazonlaw14_awake.calls (k : Nat)  (r : Bool) (c : Nat → Nat) (w : World) (hc : ∀ k, c k < 10) (HG : Ft c [0] w GTab) (H : blazonlaw14_awake.f k = some r) :
    Calls Tryd.prog 14 #[] w fun e w' => ∃ (c' : Nat → Nat) , e = .returned (.bool r) ∧ Step c w c' w' [] := by
 unfold blazonlaw14_awake.f at H
 have HS := Step.refl c w []
 go_enter Tryd.func14, Tryd.ntmps14
 refine wp_seq_k fun K10649 hK10649 => ?_
 refine wl_region ?_
 refine st (.bool false) rfl rfl (xr_assign _ rfl rfl) ?_
 refine wl_end ?_
 (try simp only [Act.put, List.setIfInBounds_toArray, ls0, ls1])
 refine hK10649 _ _ ?_
 (try clear hK10649 K10649)
 refine wp_seq_k fun K10650 hK10650 => ?_
 refine wl_region ?_
 obtain ⟨t10651, A10652, H⟩ := Option.bind_eq_some_iff.mp H
 (try dsimp only at H)
 refine st_call #[] rfl rfl Tryd.func49 (by kernel_rfl) rfl rfl (mp_ rfl) ?_
 refine (blazonlaw14_square.calls t10651  (fun z_ => pal [(0, 0)] (c z_)) w (fun _ => pal_lt rfl _) A10652).mono ?_
 rintro _ w10654 ⟨C10655, A10657, cp10658, rfl, hs10656, HO10659, HC10660⟩
 refine ⟨_, rfl, ?_⟩
 replace HO10659 := Own.res (U := [(0, 0), (5, 11)]) (j := 11) HO10659 hs10656 (by rfl) (by decide) rfl rfl
 replace hs10656 := Step.lift (U := [(0, 0), (5, 11)]) hs10656 [] rfl rfl
 generalize up c C10655 w.heap.size [(0, 0), (5, 11)] = C10655_ at HO10659 hs10656
 replace HG := HG.thru hs10656 rfl
 replace HS := HS.trans hs10656 hc rfl
 (try simp only [Act.put, List.setIfInBounds_toArray, ls0, ls1])
 replace HG := Ft.recol (a := 11) (b := 0) HG (.inl rfl)
 have HR10661 := Ft.recolor (a := 11) (b := 0) (HO10659.ft) [0] rfl
 replace HS := Step.recol (a := 11) (b := 0) HS hc (by decide)
 obtain ⟨⟨t10662, t10663, t10664⟩, A10665, H⟩ := Option.bind_eq_some_iff.mp H
 (try dsimp only at H)
 refine st_call #[.slice A10657 t10651.length cp10658] rfl rfl Tryd.func15 (by kernel_rfl) rfl rfl (mp_ rfl) ?_
 refine (order_New.calls k A10657 cp10658 t10651 t10662 t10663 t10664  (fun z_ => pal [(0, 0)] ((recol C10655_ 11 0) z_)) w10654 (fun _ => pal_lt rfl _) (Ft.arg HR10661 rfl) HC10660 A10665).mono ?_
 rintro _ w10667 ⟨C10668, v10670, rfl, hs10669, HB10671⟩
 refine ⟨_, rfl, ?_⟩
 replace HB10671 := Ft.res (U := [(0, 0)]) HB10671 hs10669 [0] rfl rfl rfl
 replace hs10669 := Step.lift (U := [(0, 0)]) hs10669 [] rfl rfl
 generalize up (recol C10655_ 11 0) C10668 w10654.heap.size [(0, 0)] = C10668_ at HB10671 hs10669
 replace HG := HG.thru hs10669 rfl
 replace HS := HS.trans hs10669 hc rfl
 (try simp only [Act.put, List.setIfInBounds_toArray, ls0, ls1])
 refine st (.tuple #[v10670, .int .i64 t10663, .int .i64 t10664]) rfl rfl (xr_move _ rfl rfl) ?_
 refine st (v10670) rfl rfl (xr_extract (.tuple #[v10670, .int .i64 t10663, .int .i64 t10664]) _ rfl rfl rfl) ?_
 refine st (.int .i64 t10663) rfl rfl (xr_extract (.tuple #[v10670, .int .i64 t10663, .int .i64 t10664]) _ rfl rfl rfl) ?_
 refine st (.int .i64 t10664) rfl rfl (xr_extract (.tuple #[v10670, .int .i64 t10663, .int .i64 t10664]) _ rfl rfl rfl) ?_
 simp only [ls0, ls1]
 refine st (v10670) rfl rfl (xr_assign _ rfl rfl) ?_
 refine st (.int .i64 t10663) rfl rfl (xr_assign _ rfl rfl) ?_
 refine st (.int .i64 t10664) rfl rfl (xr_assign _ rfl rfl) ?_
 refine wl_end ?_
 (try simp only [Act.put, List.setIfInBounds_toArray, ls0, ls1])
 refine hK10650 _ _ ?_
 (try clear hK10650 K10650)
 refine wp_seq_k fun K10672 hK10672 => ?_
 refine wl_region ?_
 refine st (v10670) rfl rfl (xr_move _ rfl rfl) ?_
 obtain ⟨⟨t10673, t10674, t10675, t10676⟩, A10677, H⟩ := Option.bind_eq_some_iff.mp H
 (try dsimp only at H)
 refine st_call #[v10670] rfl rfl Tryd.func17 (by kernel_rfl) rfl rfl (mp_ rfl) ?_
 refine (lattice_New.calls k v10670 t10662 t10673 t10674 t10675 t10676  (fun z_ => pal [(0, 0)] (C10668_ z_)) w10667 (fun _ => pal_lt rfl _) (Ft.arg HG rfl) (Ft.arg HB10671 rfl) A10677).mono ?_
 rintro _ w10679 ⟨C10680, v10682, rfl, hs10681, HB10683⟩
 refine ⟨_, rfl, ?_⟩
 replace HB10683 := OwnPt.res (U := [(0, 0), (5, 12)]) (j := 12) HB10683 hs10681 (by rfl) (by rfl) (by decide) rfl rfl
 replace hs10681 := Step.lift (U := [(0, 0), (5, 12)]) hs10681 [] rfl rfl
 generalize up C10668_ C10680 w10667.heap.size [(0, 0), (5, 12)] = C10680_ at HB10683 hs10681
 replace HG := HG.thru hs10681 rfl
 replace HS := HS.trans hs10681 hc rfl
 (try simp only [Act.put, List.setIfInBounds_toArray, ls0, ls1])
 refine st (.tuple #[v10682, .int .i64 t10674, .int .i64 t10675, .int .i64 t10676]) rfl rfl (xr_move _ rfl rfl) ?_
 refine st (v10682) rfl rfl (xr_extract (.tuple #[v10682, .int .i64 t10674, .int .i64 t10675, .int .i64 t10676]) _ rfl rfl rfl) ?_
 refine st (.int .i64 t10674) rfl rfl (xr_extract (.tuple #[v10682, .int .i64 t10674, .int .i64 t10675, .int .i64 t10676]) _ rfl rfl rfl) ?_
 refine st (.int .i64 t10675) rfl rfl (xr_extract (.tuple #[v10682, .int .i64 t10674, .int .i64 t10675, .int .i64 t10676]) _ rfl rfl rfl) ?_
 simp only [ls0, ls1]
 refine st (.int .i64 t10676) rfl rfl (xr_extract (.tuple #[v10682, .int .i64 t10674, .int .i64 t10675, .int .i64 t10676]) _ rfl rfl rfl) ?_
 refine st (v10682) rfl rfl (xr_assign _ rfl rfl) ?_
 refine st (.int .i64 t10674) rfl rfl (xr_assign _ rfl rfl) ?_
 refine st (.int .i64 t10675) rfl rfl (xr_assign _ rfl rfl) ?_
 simp only [ls0, ls1]
 refine st (.int .i64 t10676) rfl rfl (xr_assign _ rfl rfl) ?_
 refine wl_end ?_
 (try simp only [Act.put, List.setIfInBounds_toArray, ls0, ls1])
 refine hK10672 _ _ ?_
 (try clear hK10672 K10672)
 refine wp_seq_k fun K10684 hK10684 => ?_
 refine wl_region ?_
 refine st (.agg #[.string (⟨#[97]⟩ : ByteArray), .string (⟨#[]⟩ : ByteArray), .int .i64 0]) rfl rfl (xr_build #[(0, .string (⟨#[97]⟩ : ByteArray))] (.agg #[.string (⟨#[97]⟩ : ByteArray), .string (⟨#[]⟩ : ByteArray), .int .i64 0]) rfl (mp_ rfl) (by first | rfl | (go_simp; done) | (go_simp; rfl) | (go_simp; exact i64_w _) | (go_simp; exact i32_w _))) ?_
 refine st (.agg #[.string (⟨#[98]⟩ : ByteArray), .string (⟨#[]⟩ : ByteArray), .int .i64 0]) rfl rfl (xr_build #[(0, .string (⟨#[98]⟩ : ByteArray))] (.agg #[.string (⟨#[98]⟩ : ByteArray), .string (⟨#[]⟩ : ByteArray), .int .i64 0]) rfl (mp_ rfl) (by first | rfl | (go_simp; done) | (go_simp; rfl) | (go_simp; exact i64_w _) | (go_simp; exact i32_w _))) ?_
 obtain ⟨y10685, A10686, H⟩ := Option.bind_eq_some_iff.mp H
 (try dsimp only at H)
 refine Own.lit k53 (C := C10680_) (i := 13) rfl 53 rfl (xs := [(⟨(⟨#[97]⟩ : ByteArray), (⟨#[]⟩ : ByteArray), 0⟩ : S53), (⟨(⟨#[98]⟩ : ByteArray), (⟨#[]⟩ : ByteArray), 0⟩ : S53)]) (inner := [.string (⟨#[97]⟩ : ByteArray), .string (⟨#[]⟩ : ByteArray), .int .i64 0, .string (⟨#[98]⟩ : ByteArray), .string (⟨#[]⟩ : ByteArray), .int .i64 0]) (by first | (go_simp; done) | (go_simp; rfl)) (reps_cons (k53_mkF _ _ (⟨(⟨#[97]⟩ : ByteArray), (⟨#[]⟩ : ByteArray), 0⟩ : S53)) rfl (reps_cons (k53_mkF _ _ (⟨(⟨#[98]⟩ : ByteArray), (⟨#[]⟩ : ByteArray), 0⟩ : S53)) rfl (Reps.none _ _))) (by simp only [List.length_cons, List.length_nil]; omega) (Option.some.inj A10686) ?_
 intro A10687 cp10688 w10689 C10690 HO10691 HC10692 hs10693
 replace HG := HG.thru hs10693 rfl
 replace HB10683 := HB10683.thru hs10693 rfl
 replace HS := HS.trans hs10693 hc rfl
 (try simp only [Act.put, List.setIfInBounds_toArray, ls0, ls1])
 replace HG := Ft.recol (a := 13) (b := 0) HG (.inl rfl)
 replace HB10683 := OwnPt.recol (a := 13) (b := 0) HB10683 (by decide) (by decide)
 have HR10694 := Ft.recolor (a := 13) (b := 0) (HO10691.ft) [0] rfl
 replace HS := Step.recol (a := 13) (b := 0) HS hc (by decide)
 obtain ⟨⟨t10695, t10696, t10697⟩, A10698, H⟩ := Option.bind_eq_some_iff.mp H
 (try dsimp only at H)
 refine st_call #[.slice A10687 y10685.length cp10688] rfl rfl Tryd.func15 (by kernel_rfl) rfl rfl (mp_ rfl) ?_
 refine (order_New.calls k A10687 cp10688 y10685 t10695 t10696 t10697  (fun z_ => pal [(0, 0)] ((recol C10690 13 0) z_)) w10689 (fun _ => pal_lt rfl _) (Ft.arg HR10694 rfl) HC10692 A10698).mono ?_
 rintro _ w10700 ⟨C10701, v10703, rfl, hs10702, HB10704⟩
 refine ⟨_, rfl, ?_⟩
 replace HB10704 := Ft.res (U := [(0, 0)]) HB10704 hs10702 [0] rfl rfl rfl
 replace hs10702 := Step.lift (U := [(0, 0)]) hs10702 [] rfl rfl
 generalize up (recol C10690 13 0) C10701 w10689.heap.size [(0, 0)] = C10701_ at HB10704 hs10702
 replace HG := HG.thru hs10702 rfl
 replace HB10683 := HB10683.thru hs10702 rfl
 replace HS := HS.trans hs10702 hc rfl
 (try simp only [Act.put, List.setIfInBounds_toArray, ls0, ls1])
 refine st (.tuple #[v10703, .int .i64 t10696, .int .i64 t10697]) rfl rfl (xr_move _ rfl rfl) ?_
 refine st (v10703) rfl rfl (xr_extract (.tuple #[v10703, .int .i64 t10696, .int .i64 t10697]) _ rfl rfl rfl) ?_
 refine st (.int .i64 t10696) rfl rfl (xr_extract (.tuple #[v10703, .int .i64 t10696, .int .i64 t10697]) _ rfl rfl rfl) ?_
 refine st (.int .i64 t10697) rfl rfl (xr_extract (.tuple #[v10703, .int .i64 t10696, .int .i64 t10697]) _ rfl rfl rfl) ?_
 simp only [ls0, ls1]
 refine st (v10703) rfl rfl (xr_assign _ rfl rfl) ?_
 refine st (.int .i64 t10696) rfl rfl (xr_assign _ rfl rfl) ?_
 refine st (.int .i64 t10697) rfl rfl (xr_assign _ rfl rfl) ?_
 refine wl_end ?_
 (try simp only [Act.put, List.setIfInBounds_toArray, ls0, ls1])
 refine hK10684 _ _ ?_
 (try clear hK10684 K10684)
 refine wp_seq_k fun K10705 hK10705 => ?_
 refine wl_region ?_
 refine st (v10703) rfl rfl (xr_move _ rfl rfl) ?_
 obtain ⟨⟨t10706, t10707, t10708, t10709⟩, A10710, H⟩ := Option.bind_eq_some_iff.mp H
 (try dsimp only at H)
 refine st_call #[v10703] rfl rfl Tryd.func17 (by kernel_rfl) rfl rfl (mp_ rfl) ?_
 refine (lattice_New.calls k v10703 t10695 t10706 t10707 t10708 t10709  (fun z_ => pal [(0, 0)] (C10701_ z_)) w10700 (fun _ => pal_lt rfl _) (Ft.arg HG rfl) (Ft.arg HB10704 rfl) A10710).mono ?_
 rintro _ w10712 ⟨C10713, v10715, rfl, hs10714, HB10716⟩
 refine ⟨_, rfl, ?_⟩
 replace HB10716 := OwnPt.res (U := [(0, 0), (5, 14)]) (j := 14) HB10716 hs10714 (by rfl) (by rfl) (by decide) rfl rfl
 replace hs10714 := Step.lift (U := [(0, 0), (5, 14)]) hs10714 [] rfl rfl
 generalize up C10701_ C10713 w10700.heap.size [(0, 0), (5, 14)] = C10713_ at HB10716 hs10714
 replace HG := HG.thru hs10714 rfl
 replace HB10683 := HB10683.thru hs10714 rfl
 replace HS := HS.trans hs10714 hc rfl
 (try simp only [Act.put, List.setIfInBounds_toArray, ls0, ls1])
 refine st (.tuple #[v10715, .int .i64 t10707, .int .i64 t10708, .int .i64 t10709]) rfl rfl (xr_move _ rfl rfl) ?_
 refine st (v10715) rfl rfl (xr_extract (.tuple #[v10715, .int .i64 t10707, .int .i64 t10708, .int .i64 t10709]) _ rfl rfl rfl) ?_
 refine st (.int .i64 t10707) rfl rfl (xr_extract (.tuple #[v10715, .int .i64 t10707, .int .i64 t10708, .int .i64 t10709]) _ rfl rfl rfl) ?_
 refine st (.int .i64 t10708) rfl rfl (xr_extract (.tuple #[v10715, .int .i64 t10707, .int .i64 t10708, .int .i64 t10709]) _ rfl rfl rfl) ?_
 simp only [ls0, ls1]
 refine st (.int .i64 t10709) rfl rfl (xr_extract (.tuple #[v10715, .int .i64 t10707, .int .i64 t10708, .int .i64 t10709]) _ rfl rfl rfl) ?_
 refine st (v10715) rfl rfl (xr_assign _ rfl rfl) ?_
 refine st (.int .i64 t10707) rfl rfl (xr_assign _ rfl rfl) ?_
 refine st (.int .i64 t10708) rfl rfl (xr_assign _ rfl rfl) ?_
 simp only [ls0, ls1]
 refine st (.int .i64 t10709) rfl rfl (xr_assign _ rfl rfl) ?_
 refine wl_end ?_
 (try simp only [Act.put, List.setIfInBounds_toArray, ls0, ls1])
 refine hK10705 _ _ ?_
 (try clear hK10705 K10705)
 refine wp_seq_k fun K10717 hK10717 => ?_
 refine wl_region ?_
 refine st (.int .i64 t10676) rfl rfl (xr_move _ rfl rfl) ?_
 refine st (.bool (decide (t10676 = 0))) rfl rfl (xr_bin _ _ _ rfl rfl rfl (B.eql_i64 _ _)) ?_
 refine st (.bool (decide (t10676 = 0))) rfl rfl (xr_move _ rfl rfl) ?_
 by_cases c10718 : t10676 = 0
 ·rw [if_pos c10718] at H
  (try rw [(decide_eq_true c10718)])
  (try simp only [Bool.not_true, Bool.not_false])
  refine on_guard (guard_on 2 true 45 rfl rfl rfl) ?_
  refine st (v10682) rfl rfl (xr_move _ rfl rfl) ?_
  simp only [ls0, ls1]
  refine on_guard (guard_on 2 true 45 rfl rfl rfl) ?_
  cases t10673 with
  | none =>
   (try simp only [onOpt] at H)
   obtain rfl := OwnPt.isNone HB10683
   exact absurd H (by simp)
  | some o10719 =>
   (try simp only [onOpt] at H)
   obtain ⟨g10720, cs10721, rfl, HX10722, HK10723⟩ := OwnPt.isSome HB10683
   obtain ⟨vq10724_0, rfl, HRq10724_0, HLq10724_4, HLq10724_5⟩ := k107_openF HK10723
   replace HRq10724_0 : Ft C10713_ [0] w10712 (fun w_ => (Kd.ptr 81 k81).K w_ o10719.f0 [vq10724_0]) := HRq10724_0
   replace HX10722 : Bx C10713_ 12 w10712 g10720 107 ([vq10724_0, .int .u32 o10719.f1.f0.f0, .int .i32 o10719.f1.f1.f0.f0, .int .u32 o10719.f1.f1.f0.f1] ++ (List.map (Value.int .i8) o10719.f2 ++ (List.map (Value.int .i8) o10719.f3 ++ ([.int .i64 o10719.f4.f0])))) := HX10722
   obtain ⟨⟨t10725, t10726⟩, A10727, H⟩ := Option.bind_eq_some_iff.mp H
   (try dsimp only at H)
   refine st_call #[.pointer (some ⟨g10720, 0, none⟩), .int .i64 1, .int .i64 2] rfl rfl Tryd.func22 (by kernel_rfl) rfl rfl (mp_ rfl) ?_
   refine (lattice_Lattice_Join.calls g10720 vq10724_0 o10719.f0 o10719.f1.f0.f0 o10719.f1.f1.f0.f0 o10719.f1.f1.f0.f1 o10719.f2 o10719.f3 o10719.f4.f0 1 2 t10725 t10726  (fun z_ => pal [(0, 0), (12, 1)] (C10713_ z_)) w10712 (fun _ => pal_lt rfl _) (Bx.arg HX10722 rfl) (Ft.arg HRq10724_0 rfl) HLq10724_4 HLq10724_5 A10727).mono ?_
   rintro _ w10729 ⟨C10730, rfl, hs10731, HX10732⟩
   refine ⟨_, rfl, ?_⟩
   replace HX10732 := Bx.res (U := [(0, 0), (1, 12)]) (j := 12) HX10732 hs10731 (by rfl) (by decide) rfl
   replace hs10731 := Step.lift (U := [(0, 0), (1, 12)]) hs10731 [12] rfl rfl
   generalize up C10713_ C10730 w10712.heap.size [(0, 0), (1, 12)] = C10730_ at HX10732 hs10731
   replace HG := HG.thru hs10731 rfl
   replace HRq10724_0 := HRq10724_0.thru hs10731 rfl
   replace HS := HS.trans hs10731 hc rfl
   (try simp only [Act.put, List.setIfInBounds_toArray, ls0, ls1])
   refine on_guard (guard_on 2 true 45 rfl rfl rfl) ?_
   refine st (.bool (decide (t10725 = 3))) rfl rfl (xr_bin _ _ _ rfl rfl rfl (B.eql_i64 _ _)) ?_
   refine st (.bool (decide (t10725 = 3))) rfl rfl (xr_pick true _ rfl rfl rfl) ?_
   refine st (.bool (decide (t10725 = 3))) rfl rfl (xr_move _ rfl rfl) ?_
   by_cases c10733 : t10725 = 3
   ·rw [if_pos c10733] at H
    (try rw [(decide_eq_true c10733)])
    (try simp only [Bool.not_true, Bool.not_false])
    refine on_guard (guard_on 7 true 50 rfl rfl rfl) ?_
    refine st (.int .i64 t10709) rfl rfl (xr_move _ rfl rfl) ?_
    simp only [ls0, ls1]
    refine on_guard (guard_on 7 true 50 rfl rfl rfl) ?_
    refine st (.bool (decide (t10709 = 17))) rfl rfl (xr_bin _ _ _ rfl rfl rfl (B.eql_i64 _ _)) ?_
    refine st (.bool (decide (t10709 = 17))) rfl rfl (xr_pick true _ rfl rfl rfl) ?_
    refine st (.bool (decide (t10709 = 17))) rfl rfl (xr_assign _ rfl rfl) ?_
    refine wl_end ?_
    (try simp only [Act.put, List.setIfInBounds_toArray, ls0, ls1])
    refine hK10717 _ _ ?_
    (try clear hK10717 K10717)
    refine wp_ret ?_
    (try simp only [Exit.inBlock, Exit.then, Exit.noGoto])
    (try simp only [Act.put, List.setIfInBounds_toArray, ls0, ls1])
    obtain rfl := Option.some.inj H
    refine bodyPost_ret (results_tmp rfl _ _ _) rfl ?_
    exact ⟨_, rfl, HS⟩
   ·rw [if_neg c10733] at H
    (try rw [(decide_eq_false c10733)])
    (try simp only [Bool.not_true, Bool.not_false])
    refine sk_guard (guard_off 7 true 50 rfl rfl false (by decide) rfl) rfl ?_
    refine sk_guard (guard_off 7 true 50 rfl rfl false (by decide) rfl) rfl ?_
    refine st (.bool false) rfl rfl (xr_pick false _ rfl rfl rfl) ?_
    refine st (.bool false) rfl rfl (xr_assign _ rfl rfl) ?_
    simp only [ls0, ls1]
    refine wl_end ?_
    (try simp only [Act.put, List.setIfInBounds_toArray, ls0, ls1])
    refine hK10717 _ _ ?_
    (try clear hK10717 K10717)
    refine wp_ret ?_
    (try simp only [Exit.inBlock, Exit.then, Exit.noGoto])
    (try simp only [Act.put, List.setIfInBounds_toArray, ls0, ls1])
    obtain rfl := Option.some.inj H
    refine bodyPost_ret (results_tmp rfl _ _ _) rfl ?_
    exact ⟨_, rfl, HS⟩
 ·rw [if_neg c10718] at H
  (try rw [(decide_eq_false c10718)])
  (try simp only [Bool.not_true, Bool.not_false])
  refine sk_guard (guard_off 2 true 45 rfl rfl false (by decide) rfl) rfl ?_
  refine sk_guard (guard_off 2 true 45 rfl rfl false (by decide) rfl) rfl ?_
  refine sk_guard (guard_off 2 true 45 rfl rfl false (by decide) rfl) rfl ?_
  refine st (.bool false) rfl rfl (xr_pick false _ rfl rfl rfl) ?_
  simp only [ls0, ls1]
  refine st (.bool false) rfl rfl (xr_move _ rfl rfl) ?_
  refine sk_guard (guard_off 7 true 50 rfl rfl false (by decide) rfl) rfl ?_
  refine sk_guard (guard_off 7 true 50 rfl rfl false (by decide) rfl) rfl ?_
  refine st (.bool false) rfl rfl (xr_pick false _ rfl rfl rfl) ?_
  simp only [ls0, ls1]
  refine st (.bool false) rfl rfl (xr_assign _ rfl rfl) ?_
  refine wl_end ?_
  (try simp only [Act.put, List.setIfInBounds_toArray, ls0, ls1])
  refine hK10717 _ _ ?_
  (try clear hK10717 K10717)
  refine wp_ret ?_
  (try simp only [Exit.inBlock, Exit.then, Exit.noGoto])
  (try simp only [Act.put, List.setIfInBounds_toArray, ls0, ls1])
  obtain rfl := Option.some.inj H
  refine bodyPost_ret (results_tmp rfl _ _ _) rfl ?_
  exact ⟨_, rfl, HS⟩

/-! ### lattice_Lattice_Bottom: function 26 -/
def lattice_Lattice_Bottom.l0 : Nat → S107 → Int → Int → Int → Option (Int)
  | 0, _, _, _, _ => none
  | k + 1, o10801, t10811, x10838, x10839 => if x10839 < t10811 then (if 0 ≤ x10838 then (if x10838 < 64 then (if 0 ≤ x10839 then (if x10839 < 64 then (lattice_Lattice_Bottom.l0 k o10801 t10811 (wrap64 (List.getD o10801.f3 ((x10838 : Int).toNat * 64 + (x10839 : Int).toNat) 0)) (wrap64 (x10839 + 1))) else (none)) else (none)) else (none)) else (none)) else (some x10838)
def lattice_Lattice_Bottom.f (k : Nat) (x0 : Option S107) : Option (Int) := onOpt x0 (some (-1)) (fun o10801 => ((order_Order_Len.f o10801.f0).bind fun t10811 => (lattice_Lattice_Bottom.l0 k o10801 t10811 0 0)))

set_option maxHeartbeats 2000000 in
set_option maxRecDepth 100000 in
theorem lattice_Lattice_Bottom.calls (k : Nat) (v0 : Value) (x0 : Option S107) (r : Int) (c : Nat → Nat) (w : World) (hc : ∀ k, c k < 10) (HP0 : Ft c [0] w (fun w_ => (Kd.ptr 107 k107).K w_ x0 [v0])) (H : lattice_Lattice_Bottom.f k x0 = some r) :
    Calls Tryd.prog 26 #[v0] w fun e w' => ∃ (c' : Nat → Nat) , e = .returned (.int .i64 r) ∧ Step c w c' w' [] := by
 unfold lattice_Lattice_Bottom.f at H
 have HS := Step.refl c w []
 go_enter Tryd.func26, Tryd.ntmps26
 refine wp_seq_k fun K10798 hK10798 => ?_
 refine wl_region ?_
 refine st (.int .i64 0) rfl rfl (xr_assign _ rfl rfl) ?_
 refine wl_end ?_
 (try simp only [Act.put, List.setIfInBounds_toArray, ls0, ls1])
 refine hK10798 _ _ ?_
 (try clear hK10798 K10798)
 refine wp_seq_k fun K10799 hK10799 => ?_
 refine wp_seq_k fun K10800 hK10800 => ?_
 refine wl_region ?_
 refine st (v0) rfl rfl (xr_move _ rfl rfl) ?_
 cases x0 with
 | none =>
  (try simp only [onOpt] at H)
  obtain rfl := ptr_none HP0
  refine st (.bool true) rfl rfl (xr_bin (.pointer none) (.pointer none) (.bool true) rfl rfl rfl (B.eql_nn ⟨_, Tryd.underlying36⟩ (⟨0, 0, none⟩ : Addr))) ?_
  refine wl_end ?_
  (try simp only [Act.put, List.setIfInBounds_toArray, ls0, ls1])
  refine hK10800 _ _ ?_
  (try clear hK10800 K10800)
  refine wp_cond_true rfl ?_
  refine wp_seq_k fun K10802 hK10802 => ?_
  refine wl_region ?_
  refine st (.int .i64 (-1)) rfl rfl (xr_assign _ rfl rfl) ?_
  refine wl_end ?_
  (try simp only [Act.put, List.setIfInBounds_toArray, ls0, ls1])
  refine hK10802 _ _ ?_
  (try clear hK10802 K10802)
  refine wp_ret ?_
  (try simp only [Exit.inBlock, Exit.then, Exit.noGoto])
  (try simp only [Act.put, List.setIfInBounds_toArray, ls0, ls1])
  obtain rfl := Option.some.inj H
  refine bodyPost_ret (results_tmp rfl _ _ _) rfl ?_
  exact ⟨_, rfl, HS⟩
 | some o10801 =>
  (try simp only [onOpt] at H)
  obtain ⟨g10803, cs10804, rfl, HX10805, HK10806⟩ := ptr_some HP0
  obtain ⟨vq10807_0, rfl, HRq10807_0, HLq10807_4, HLq10807_5⟩ := k107_openF HK10806
  replace HRq10807_0 : Ft c [0] w (fun w_ => (Kd.ptr 81 k81).K w_ o10801.f0 [vq10807_0]) := HRq10807_0
  refine st (.bool false) rfl rfl (xr_bin (.pointer (some ⟨g10803, 0, none⟩)) (.pointer none) (.bool false) rfl rfl rfl (B.eql_pn ⟨_, Tryd.underlying36⟩ ⟨g10803, 0, none⟩)) ?_
  refine wl_end ?_
  (try simp only [Act.put, List.setIfInBounds_toArray, ls0, ls1])
  refine hK10800 _ _ ?_
  (try clear hK10800 K10800)
  refine wp_cond_false rfl ?_
  refine wp_skip ?_
  (try simp only [Act.put, List.setIfInBounds_toArray, ls0, ls1])
  refine hK10799 _ _ ?_
  (try clear hK10799 K10799)
  refine wp_seq_k fun K10808 hK10808 => ?_
  refine wl_region ?_
  refine st (.int .i64 0) rfl rfl (xr_assign _ rfl rfl) ?_
  refine wl_end ?_
  (try simp only [Act.put, List.setIfInBounds_toArray, ls0, ls1])
  refine hK10808 _ _ ?_
  (try clear hK10808 K10808)
  refine wp_seq_k fun K10809 hK10809 => ?_
  refine wp_seq_k fun K10810 hK10810 => ?_
  refine wl_region ?_
  refine st (.pointer (some ⟨g10803, 0, none⟩)) rfl rfl (xr_move _ rfl rfl) ?_
  refine st (.pointer (some ⟨g10803, 0, none⟩)) rfl rfl (xr_nilCheck _ rfl rfl) ?_
  refine st (.pointer (some ⟨g10803, 0, none⟩)) rfl rfl (xr_fieldAddr _ _ rfl rfl (bx_field2 Tryd.underlying107 rfl rfl (by kernel_rfl))) ?_
  refine st (vq10807_0) rfl rfl (xr_load _ _ rfl rfl (load_cell Tryd.underlying26 rfl (bx_cell (Ft.now HX10805) 0 rfl))) ?_
  simp only [ls0, ls1]
  obtain ⟨t10811, A10812, H⟩ := Option.bind_eq_some_iff.mp H
  (try dsimp only at H)
  refine st_call #[vq10807_0] rfl rfl Tryd.func21 (by kernel_rfl) rfl rfl (mp_ rfl) ?_
  refine (order_Order_Len.calls vq10807_0 o10801.f0 t10811  (fun z_ => pal [(0, 0)] (c z_)) w (fun _ => pal_lt rfl _) (Ft.arg HRq10807_0 rfl) A10812).mono ?_
  rintro _ w10814 ⟨C10815, rfl, hs10816⟩
  refine ⟨_, rfl, ?_⟩
  replace hs10816 := Step.lift (U := [(0, 0)]) hs10816 [] rfl rfl
  generalize up c C10815 w.heap.size [(0, 0)] = C10815_ at hs10816
  replace HX10805 := HX10805.thru hs10816 rfl
  replace HRq10807_0 := HRq10807_0.thru hs10816 rfl
  replace HS := HS.trans hs10816 hc rfl
  (try simp only [Act.put, List.setIfInBounds_toArray, ls0, ls1])
  refine st (.int .i64 0) rfl rfl (xr_move _ rfl rfl) ?_
  refine wl_end ?_
  (try simp only [Act.put, List.setIfInBounds_toArray, ls0, ls1])
  refine hK10810 _ _ ?_
  (try clear hK10810 K10810)
  refine wp_block ?_
  (try simp only [Act.put, List.setIfInBounds_toArray, ls0, ls1])
  refine wp_looped (looped_ind (fun kq10845 a_ w10844 => ∃ (C10843 : Nat → Nat) (x10838 : Int) (x10839 : Int) (g10842 : Nat → Value), a_ = ⟨#[.pointer (some ⟨g10803, 0, none⟩), (g10842 1), (g10842 2), .int .i64 x10838, (g10842 4), (g10842 5), (g10842 6), (g10842 7), (g10842 8), (g10842 9), (g10842 10), .int .i64 t10811, .int .i64 x10839, (g10842 13), (g10842 14), (g10842 15), (g10842 16), (g10842 17), (g10842 18), (g10842 19), (g10842 20), (g10842 21), (g10842 22), (g10842 23), (g10842 24), (g10842 25)], []⟩ ∧ Step c w C10843 w10844 [] ∧ kq10845 ≤ k ∧ (Ft C10843 [0] w10844 (fun w_ => (Kd.ptr 81 k81).K w_ o10801.f0 [vq10807_0])) ∧ (Ft C10843 [0] w10844 (fun w_ => w_.heap[g10803]? = some (.cells (List.toArray ([vq10807_0, .int .u32 o10801.f1.f0.f0, .int .i32 o10801.f1.f1.f0.f0, .int .u32 o10801.f1.f1.f0.f1] ++ (List.map (Value.int .i8) o10801.f2 ++ (List.map (Value.int .i8) o10801.f3 ++ ([.int .i64 o10801.f4.f0]))))) 107 (0, 0)))) ∧ lattice_Lattice_Bottom.l0 kq10845 o10801 t10811 x10838 x10839 = some r) ?step k _ _ ?init)
  case init =>
   exact ⟨_, 0, 0, (fun q_ => List.getD [undef, undef, .int .i64 0, undef, undef, .pointer (some ⟨g10803, 0, none⟩), .bool false, .pointer (some ⟨g10803, 0, none⟩), .pointer (some ⟨g10803, 0, none⟩), .pointer (some ⟨g10803, 0, none⟩), vq10807_0, undef, undef, undef, undef, undef, undef, undef, undef, undef, undef, undef, undef, undef, undef, undef] q_ undef), rfl, HS, Nat.le_refl _, HRq10807_0, HX10805, H⟩
  case step =>
   intro kq10845 ih10848 a10849 w10844 hr10850
   obtain ⟨C10843, x10838, x10839, g10842, rfl, HS10846, hk10847, HJ10840, HJ10841, H⟩ := hr10850
   refine looped_round ?_
   cases kq10845 with
   | zero => exact absurd H (by simp [lattice_Lattice_Bottom.l0])
   | succ k10851 =>
    simp only [lattice_Lattice_Bottom.l0] at H
    refine wp_seq_k fun K10852 hK10852 => ?_
    refine wl_region ?_
    refine st (.bool (decide (x10839 < t10811))) rfl rfl (xr_bin _ _ _ rfl rfl rfl (B.lss_i64 _ _)) ?_
    refine wl_end ?_
    (try simp only [Act.put, List.setIfInBounds_toArray, ls0, ls1])
    refine hK10852 _ _ ?_
    (try clear hK10852 K10852)
    refine wp_seq_k fun K10853 hK10853 => ?_
    by_cases c10854 : x10839 < t10811
    ·rw [if_pos c10854] at H
     (try rw [(decide_eq_true c10854)])
     (try simp only [Bool.not_true, Bool.not_false])
     refine wp_cond_true rfl ?_
     refine wp_skip ?_
     (try simp only [Act.put, List.setIfInBounds_toArray, ls0, ls1])
     refine hK10853 _ _ ?_
     (try clear hK10853 K10853)
     refine wp_seq_k fun K10855 hK10855 => ?_
     refine wp_block ?_
     refine wp_seq_k fun K10856 hK10856 => ?_
     refine wl_region ?_
     refine st (.int .i64 x10839) rfl rfl (xr_move _ rfl rfl) ?_
     refine st (.int .i64 x10839) rfl rfl (xr_assign _ rfl rfl) ?_
     refine wl_end ?_
     (try simp only [Act.put, List.setIfInBounds_toArray, ls0, ls1])
     refine hK10856 _ _ ?_
     (try clear hK10856 K10856)
     refine wl_region ?_
     refine st (.pointer (some ⟨g10803, 0, none⟩)) rfl rfl (xr_move _ rfl rfl) ?_
     refine st (.int .i64 x10838) rfl rfl (xr_move _ rfl rfl) ?_
     refine st (.int .i64 x10839) rfl rfl (xr_move _ rfl rfl) ?_
     refine st (.pointer (some ⟨g10803, 0, none⟩)) rfl rfl (xr_nilCheck _ rfl rfl) ?_
     simp only [ls0, ls1]
     refine st (.pointer (some ⟨g10803, 4100, none⟩)) rfl rfl (xr_fieldAddr _ _ rfl rfl (bx_field2 Tryd.underlying107 rfl rfl (by kernel_rfl))) ?_
     by_cases c10857 : 0 ≤ x10838
     ·rw [if_pos c10857] at H
      by_cases c10858 : x10838 < 64
      ·rw [if_pos c10858] at H
       refine st (.pointer (some ⟨g10803, 4100 + ((x10838 : Int).toNat * 64), none⟩)) rfl rfl (xr_indexAddr _ _ _ rfl rfl rfl (arr_index (sz := 64) Tryd.underlying102 (by kernel_rfl) (by first | assumption | decide | omega) (by first | assumption | decide | omega) (by omega))) ?_
       by_cases c10859 : 0 ≤ x10839
       ·rw [if_pos c10859] at H
        by_cases c10860 : x10839 < 64
        ·rw [if_pos c10860] at H
         refine st (.pointer (some ⟨g10803, 4100 + ((x10838 : Int).toNat * 64 + (x10839 : Int).toNat), none⟩)) rfl rfl (xr_indexAddr _ _ _ rfl rfl rfl (arr_index (sz := 1) Tryd.underlying100 (by kernel_rfl) (by first | assumption | decide | omega) (by first | assumption | decide | omega) (by omega))) ?_
         refine st (.int .i8 (List.getD o10801.f3 ((x10838 : Int).toNat * 64 + (x10839 : Int).toNat) 0)) rfl rfl (xr_load _ _ rfl rfl (arr_load (o := 4100) (N := 4096) (pre := [vq10807_0, .int .u32 o10801.f1.f0.f0, .int .i32 o10801.f1.f1.f0.f0, .int .u32 o10801.f1.f1.f0.f1] ++ (List.map (Value.int .i8) o10801.f2)) (post := [.int .i64 o10801.f4.f0]) (enc := (Value.int .i8)) (l := o10801.f3) (i := (x10838 : Int).toNat * 64 + (x10839 : Int).toNat) 0 Tryd.underlying99 rfl (Ft.now HJ10841) (by first | (simp only [List.append_assoc, List.cons_append, List.nil_append, List.append_nil]; done) | rfl) (by simp [HLq10807_4]) HLq10807_5 (by omega) (by omega))) ?_
         simp only [ls0, ls1]
         refine st (.int .i64 (wrap64 (List.getD o10801.f3 ((x10838 : Int).toNat * 64 + (x10839 : Int).toNat) 0))) rfl rfl (xr_conv (.int .i8 (List.getD o10801.f3 ((x10838 : Int).toNat * 64 + (x10839 : Int).toNat) 0)) _ rfl rfl (by first | rfl | (go_simp; done) | (go_simp; rfl) | (go_simp; exact i64_w _) | (go_simp; exact i32_w _))) ?_
         refine st (.int .i64 (wrap64 (List.getD o10801.f3 ((x10838 : Int).toNat * 64 + (x10839 : Int).toNat) 0))) rfl rfl (xr_assign _ rfl rfl) ?_
         refine wl_end ?_
         (try simp only [Act.put, List.setIfInBounds_toArray, ls0, ls1])
         refine hK10855 _ _ ?_
         (try clear hK10855 K10855)
         refine wl_region ?_
         refine st (.int .i64 (wrap64 (x10839 + 1))) rfl rfl (xr_bin _ _ _ rfl rfl rfl (B.add_i64 _ _)) ?_
         refine st (.int .i64 (wrap64 (x10839 + 1))) rfl rfl (xr_move _ rfl rfl) ?_
         refine wl_end ?_
         (try simp only [Act.put, List.setIfInBounds_toArray, ls0, ls1])
         exact ih10848 k10851 (by omega) _ _ ⟨_, wrap64 (List.getD o10801.f3 ((x10838 : Int).toNat * 64 + (x10839 : Int).toNat) 0), wrap64 (x10839 + 1), (fun q_ => List.getD [undef, (g10842 1), (g10842 2), undef, .int .i64 x10839, (g10842 5), (g10842 6), (g10842 7), (g10842 8), (g10842 9), (g10842 10), undef, undef, .bool true, .int .i64 x10839, .pointer (some ⟨g10803, 0, none⟩), .int .i64 x10838, .int .i64 x10839, .pointer (some ⟨g10803, 0, none⟩), .pointer (some ⟨g10803, 4100, none⟩), .pointer (some ⟨g10803, 4100 + ((x10838 : Int).toNat * 64), none⟩), .pointer (some ⟨g10803, 4100 + ((x10838 : Int).toNat * 64 + (x10839 : Int).toNat), none⟩), .int .i8 (List.getD o10801.f3 ((x10838 : Int).toNat * 64 + (x10839 : Int).toNat) 0), .int .i64 (wrap64 (List.getD o10801.f3 ((x10838 : Int).toNat * 64 + (x10839 : Int).toNat) 0)), .int .i64 (wrap64 (x10839 + 1)), (g10842 25)] q_ undef), rfl, HS10846, (by omega), HJ10840, HJ10841, H⟩
        ·rw [if_neg c10860] at H
         exact absurd H (by simp)
       ·rw [if_neg c10859] at H
        exact absurd H (by simp)
      ·rw [if_neg c10858] at H
       exact absurd H (by simp)
     ·rw [if_neg c10857] at H
      exact absurd H (by simp)
    ·rw [if_neg c10854] at H
     (try rw [(decide_eq_false c10854)])
     (try simp only [Bool.not_true, Bool.not_false])
     refine wp_cond_false rfl ?_
     refine wp_exit ?_
     (try simp only [Act.put, List.setIfInBounds_toArray, ls0, ls1])
     refine hK10809 _ _ ?_
     (try clear hK10809 K10809)
     refine wp_seq_k fun K10861 hK10861 => ?_
     refine wl_region ?_
     refine st (.int .i64 x10838) rfl rfl (xr_move _ rfl rfl) ?_
     refine st (.int .i64 x10838) rfl rfl (xr_assign _ rfl rfl) ?_
     refine wl_end ?_
     (try simp only [Act.put, List.setIfInBounds_toArray, ls0, ls1])
     refine hK10861 _ _ ?_
     (try clear hK10861 K10861)
     refine wp_ret ?_
     (try simp only [Exit.inBlock, Exit.then, Exit.noGoto])
     (try simp only [Act.put, List.setIfInBounds_toArray, ls0, ls1])
     obtain rfl := Option.some.inj H
     refine bodyPost_ret (results_tmp rfl _ _ _) rfl ?_
     exact ⟨_, rfl, HS10846⟩

/-! ### lattice_Lattice_JoinAll: function 19 -/
mutual
def lattice_Lattice_JoinAll.l0 : Nat → (List Int) → Int → Option (Int)
  | 0, _, _ => none
  | k + 1, l1, t11021 => if 0 < (l1.length : Int) then ((lattice_Lattice_in.f (none : Option S107) (rd l1 0) (rd l1 0)).bind fun t11069 => (if t11069 = true then (none) else (some (-1)))) else (some t11021)
def lattice_Lattice_JoinAll.l1 : Nat → (List Int) → S107 → Int → Int → Option (Int)
  | 0, _, _, _, _ => none
  | k + 1, l1, o11029, x11137, x11139 => if x11139 < (l1.length : Int) then (if 0 ≤ x11139 then ((lattice_Lattice_in.f (some (⟨o11029.f0, (⟨(⟨o11029.f1.f0.f0⟩ : S92), (⟨(⟨o11029.f1.f1.f0.f0, o11029.f1.f1.f0.f1⟩ : S94)⟩ : S96)⟩ : S98), o11029.f2, o11029.f3, (⟨o11029.f4.f0⟩ : S105)⟩ : S107) : Option S107) (rd l1 x11139) (rd l1 x11139)).bind fun t11163 => (if t11163 = true then (if 0 ≤ x11137 then (if x11137 < 64 then (if 0 ≤ (rd l1 x11139) then (if (rd l1 x11139) < 64 then (lattice_Lattice_JoinAll.l1 k l1 o11029 (wrap64 (List.getD o11029.f2 ((x11137 : Int).toNat * 64 + (rd l1 x11139 : Int).toNat) 0)) (wrap64 (x11139 + 1))) else (none)) else (none)) else (none)) else (none)) else (some (-1)))) else (none)) else (some x11137)
end
def lattice_Lattice_JoinAll.f (k : Nat) (x0 : Option S107) (l1 : List Int) : Option (Int) := (lattice_Lattice_Bottom.f k x0).bind fun t11021 => (onOpt x0 (lattice_Lattice_JoinAll.l0 k l1 t11021) (fun o11029 => (lattice_Lattice_JoinAll.l1 k l1 o11029 t11021 0)))

set_option maxHeartbeats 2000000 in
set_option maxRecDepth 100000 in
theorem lattice_Lattice_JoinAll.calls (k : Nat) (v0 : Value) (x0 : Option S107) (A1 : Option Addr) (c1 : Nat) (l1 : List Int) (r : Int) (c : Nat → Nat) (w : World) (hc : ∀ k, c k < 10) (HP0 : Ft c [0] w (fun w_ => (Kd.ptr 107 k107).K w_ x0 [v0])) (HP1 : Ft c [0] w (fun w_ => (Kd.int .i64).C w_ A1 l1.length l1)) (HCP1 : l1.length ≤ c1) (H : lattice_Lattice_JoinAll.f k x0 l1 = some r) :
    Calls Tryd.prog 19 #[v0, .slice A1 l1.length c1] w fun e w' => ∃ (c' : Nat → Nat) , e = .returned (.int .i64 r) ∧ Step c w c' w' [] := by
 unfold lattice_Lattice_JoinAll.f at H
 have HS := Step.refl c w []
 go_enter Tryd.func19, Tryd.ntmps19
 refine wp_seq_k fun K11019 hK11019 => ?_
 refine wl_region ?_
 refine st (.int .i64 0) rfl rfl (xr_assign _ rfl rfl) ?_
 refine wl_end ?_
 (try simp only [Act.put, List.setIfInBounds_toArray, ls0, ls1])
 refine hK11019 _ _ ?_
 (try clear hK11019 K11019)
 refine wp_seq_k fun K11020 hK11020 => ?_
 refine wl_region ?_
 refine st (v0) rfl rfl (xr_move _ rfl rfl) ?_
 obtain ⟨t11021, A11022, H⟩ := Option.bind_eq_some_iff.mp H
 (try dsimp only at H)
 refine st_call #[v0] rfl rfl Tryd.func26 (by kernel_rfl) rfl rfl (mp_ rfl) ?_
 refine (lattice_Lattice_Bottom.calls k v0 x0 t11021  (fun z_ => pal [(0, 0)] (c z_)) w (fun _ => pal_lt rfl _) (Ft.arg HP0 rfl) A11022).mono ?_
 rintro _ w11024 ⟨C11025, rfl, hs11026⟩
 refine ⟨_, rfl, ?_⟩
 replace hs11026 := Step.lift (U := [(0, 0)]) hs11026 [] rfl rfl
 generalize up c C11025 w.heap.size [(0, 0)] = C11025_ at hs11026
 replace HP0 := HP0.thru hs11026 rfl
 replace HP1 := HP1.thru hs11026 rfl
 replace HS := HS.trans hs11026 hc rfl
 (try simp only [Act.put, List.setIfInBounds_toArray, ls0, ls1])
 refine st (.int .i64 t11021) rfl rfl (xr_assign _ rfl rfl) ?_
 refine wl_end ?_
 (try simp only [Act.put, List.setIfInBounds_toArray, ls0, ls1])
 refine hK11020 _ _ ?_
 (try clear hK11020 K11020)
 refine wp_seq_k fun K11027 hK11027 => ?_
 refine wp_seq_k fun K11028 hK11028 => ?_
 refine wl_region ?_
 refine st (.slice A1 l1.length c1) rfl rfl (xr_move _ rfl rfl) ?_
 refine st (.int .i64 (l1.length : Int)) rfl rfl (xr_builtin #[.slice A1 l1.length c1] (.int .i64 (l1.length : Int)) rfl (mp_ rfl) (by first | rfl | (go_simp; done) | (go_simp; rfl) | (go_simp; exact i64_w _) | (go_simp; exact i32_w _))) ?_
 refine st (.int .i64 0) rfl rfl (xr_move _ rfl rfl) ?_
 refine wl_end ?_
 (try simp only [Act.put, List.setIfInBounds_toArray, ls0, ls1])
 refine hK11028 _ _ ?_
 (try clear hK11028 K11028)
 refine wp_block ?_
 cases x0 with
 | none =>
  (try simp only [onOpt] at H)
  obtain rfl := ptr_none HP0
  (try simp only [Act.put, List.setIfInBounds_toArray, ls0, ls1])
  refine wp_looped (looped_ind (fun kq11053 a_ w11052 => ∃ (C11051 : Nat → Nat) (g11050 : Nat → Value), a_ = ⟨#[.pointer none, (g11050 1), (g11050 2), (g11050 3), (g11050 4), .int .i64 t11021, (g11050 6), (g11050 7), (g11050 8), (g11050 9), .slice A1 l1.length c1, .int .i64 (l1.length : Int), .int .i64 0, (g11050 13), (g11050 14), (g11050 15), (g11050 16), (g11050 17), (g11050 18), (g11050 19), (g11050 20), (g11050 21), (g11050 22), (g11050 23), (g11050 24), (g11050 25), (g11050 26), (g11050 27), (g11050 28), (g11050 29), (g11050 30), (g11050 31)], []⟩ ∧ Step c w C11051 w11052 [] ∧ kq11053 ≤ k ∧ (Ft C11051 [0] w11052 (fun w_ => (Kd.int .i64).C w_ A1 l1.length l1)) ∧ lattice_Lattice_JoinAll.l0 kq11053 l1 t11021 = some r) ?step k _ _ ?init)
  case init =>
   exact ⟨_, (fun q_ => List.getD [undef, .slice A1 l1.length c1, undef, undef, .int .i64 0, undef, undef, undef, .pointer none, .int .i64 t11021, undef, undef, undef, undef, undef, undef, undef, undef, undef, undef, undef, undef, undef, undef, undef, undef, undef, undef, undef, undef, undef, undef] q_ undef), rfl, HS, Nat.le_refl _, HP1, H⟩
  case step =>
   intro kq11053 ih11056 a11057 w11052 hr11058
   obtain ⟨C11051, g11050, rfl, HS11054, hk11055, HJ11049, H⟩ := hr11058
   refine looped_round ?_
   cases kq11053 with
   | zero => exact absurd H (by simp [lattice_Lattice_JoinAll.l0])
   | succ k11059 =>
    simp only [lattice_Lattice_JoinAll.l0] at H
    refine wp_seq_k fun K11060 hK11060 => ?_
    refine wl_region ?_
    refine st (.bool (decide (0 < (l1.length : Int)))) rfl rfl (xr_bin _ _ _ rfl rfl rfl (B.lss_i64 _ _)) ?_
    refine wl_end ?_
    (try simp only [Act.put, List.setIfInBounds_toArray, ls0, ls1])
    refine hK11060 _ _ ?_
    (try clear hK11060 K11060)
    refine wp_seq_k fun K11061 hK11061 => ?_
    by_cases c11062 : 0 < (l1.length : Int)
    ·rw [if_pos c11062] at H
     (try rw [(decide_eq_true c11062)])
     (try simp only [Bool.not_true, Bool.not_false])
     refine wp_cond_true rfl ?_
     refine wp_skip ?_
     (try simp only [Act.put, List.setIfInBounds_toArray, ls0, ls1])
     refine hK11061 _ _ ?_
     (try clear hK11061 K11061)
     refine wp_seq_k fun K11063 hK11063 => ?_
     refine wp_block ?_
     refine wp_seq_k fun K11064 hK11064 => ?_
     refine wl_region ?_
     obtain ⟨ad11065, hA11066⟩ := c_addr (Ft.now HJ11049) (pos_of (j := 0) (by first | assumption | decide) (by first | assumption | omega))
     refine st (.pointer (some (ad11065.add ((0 : Int).toNat * 1)))) rfl rfl (xr_indexAddr _ _ _ rfl rfl rfl (index_at Tryd.underlying23 info3 hA11066 (by first | assumption | decide | omega) (by first | assumption | decide | omega))) ?_
     refine st (.int .i64 (rd l1 0)) rfl rfl (xr_load _ _ rfl rfl (load_int Tryd.underlying3 rfl hA11066 (Ft.now HJ11049) (by first | assumption | decide | omega) (by first | assumption | decide | omega))) ?_
     refine st (.int .i64 (rd l1 0)) rfl rfl (xr_assign _ rfl rfl) ?_
     refine wl_end ?_
     (try simp only [Act.put, List.setIfInBounds_toArray, ls0, ls1])
     refine hK11064 _ _ ?_
     (try clear hK11064 K11064)
     refine wp_seq_k fun K11067 hK11067 => ?_
     refine wp_seq_k fun K11068 hK11068 => ?_
     refine wl_region ?_
     refine st (.pointer none) rfl rfl (xr_move _ rfl rfl) ?_
     refine st (.int .i64 (rd l1 0)) rfl rfl (xr_move _ rfl rfl) ?_
     refine st (.int .i64 (rd l1 0)) rfl rfl (xr_move _ rfl rfl) ?_
     obtain ⟨t11069, A11070, H⟩ := Option.bind_eq_some_iff.mp H
     (try dsimp only at H)
     refine st_call #[.pointer none, .int .i64 (rd l1 0), .int .i64 (rd l1 0)] rfl rfl Tryd.func62 (by kernel_rfl) rfl rfl (mp_ rfl) ?_
     refine (lattice_Lattice_in.calls (.pointer none) (none : Option S107) (rd l1 0) (rd l1 0) t11069  (fun z_ => pal [(0, 0)] (C11051 z_)) w11052 (fun _ => pal_lt rfl _) (ptr_nil _ _ _ _ _) A11070).mono ?_
     rintro _ w11072 ⟨C11073, rfl, hs11074⟩
     refine ⟨_, rfl, ?_⟩
     replace hs11074 := Step.lift (U := [(0, 0)]) hs11074 [] rfl rfl
     generalize up C11051 C11073 w11052.heap.size [(0, 0)] = C11073_ at hs11074
     replace HJ11049 := HJ11049.thru hs11074 rfl
     replace HS11054 := HS11054.trans hs11074 hc rfl
     (try simp only [Act.put, List.setIfInBounds_toArray, ls0, ls1])
     refine st (.bool (!t11069)) rfl rfl (xr_un (.bool t11069) _ rfl rfl (by first | rfl | (go_simp; done) | (go_simp; rfl) | (go_simp; exact i64_w _) | (go_simp; exact i32_w _))) ?_
     refine wl_end ?_
     (try simp only [Act.put, List.setIfInBounds_toArray, ls0, ls1])
     refine hK11068 _ _ ?_
     (try clear hK11068 K11068)
     by_cases c11075 : t11069 = true
     ·rw [if_pos c11075] at H
      (try rw [c11075])
      (try simp only [Bool.not_true, Bool.not_false])
      refine wp_cond_false rfl ?_
      refine wp_skip ?_
      (try simp only [Act.put, List.setIfInBounds_toArray, ls0, ls1])
      refine hK11067 _ _ ?_
      (try clear hK11067 K11067)
      refine wl_region ?_
      refine st (.pointer none) rfl rfl (xr_move _ rfl rfl) ?_
      refine st (.int .i64 t11021) rfl rfl (xr_move _ rfl rfl) ?_
      refine st (.int .i64 (rd l1 0)) rfl rfl (xr_move _ rfl rfl) ?_
      exact absurd H (by simp)
     ·rw [if_neg c11075] at H
      (try rw [(Bool.eq_false_iff.mpr c11075)])
      (try simp only [Bool.not_true, Bool.not_false])
      refine wp_cond_true rfl ?_
      refine wp_seq_k fun K11076 hK11076 => ?_
      refine wl_region ?_
      refine st (.int .i64 (-1)) rfl rfl (xr_assign _ rfl rfl) ?_
      simp only [ls0, ls1]
      refine wl_end ?_
      (try simp only [Act.put, List.setIfInBounds_toArray, ls0, ls1])
      refine hK11076 _ _ ?_
      (try clear hK11076 K11076)
      refine wp_ret ?_
      (try simp only [Exit.inBlock, Exit.then, Exit.noGoto])
      (try simp only [Act.put, List.setIfInBounds_toArray, ls0, ls1])
      obtain rfl := Option.some.inj H
      refine bodyPost_ret (results_tmp rfl _ _ _) rfl ?_
      exact ⟨_, rfl, HS11054⟩
    ·rw [if_neg c11062] at H
     (try rw [(decide_eq_false c11062)])
     (try simp only [Bool.not_true, Bool.not_false])
     refine wp_cond_false rfl ?_
     refine wp_exit ?_
     (try simp only [Act.put, List.setIfInBounds_toArray, ls0, ls1])
     refine hK11027 _ _ ?_
     (try clear hK11027 K11027)
     refine wp_seq_k fun K11077 hK11077 => ?_
     refine wl_region ?_
     refine st (.int .i64 t11021) rfl rfl (xr_move _ rfl rfl) ?_
     refine st (.int .i64 t11021) rfl rfl (xr_assign _ rfl rfl) ?_
     refine wl_end ?_
     (try simp only [Act.put, List.setIfInBounds_toArray, ls0, ls1])
     refine hK11077 _ _ ?_
     (try clear hK11077 K11077)
     refine wp_ret ?_
     (try simp only [Exit.inBlock, Exit.then, Exit.noGoto])
     (try simp only [Act.put, List.setIfInBounds_toArray, ls0, ls1])
     obtain rfl := Option.some.inj H
     refine bodyPost_ret (results_tmp rfl _ _ _) rfl ?_
     exact ⟨_, rfl, HS11054⟩
 | some o11029 =>
  (try simp only [onOpt] at H)
  obtain ⟨g11078, cs11079, rfl, HX11080, HK11081⟩ := ptr_some HP0
  obtain ⟨vq11082_0, rfl, HRq11082_0, HLq11082_4, HLq11082_5⟩ := k107_openF HK11081
  replace HRq11082_0 : Ft C11025_ [0] w11024 (fun w_ => (Kd.ptr 81 k81).K w_ o11029.f0 [vq11082_0]) := HRq11082_0
  (try simp only [Act.put, List.setIfInBounds_toArray, ls0, ls1])
  refine wp_looped (looped_ind (fun kq11145 a_ w11144 => ∃ (C11143 : Nat → Nat) (x11137 : Int) (x11139 : Int) (g11142 : Nat → Value), a_ = ⟨#[.pointer (some ⟨g11078, 0, none⟩), (g11142 1), (g11142 2), (g11142 3), (g11142 4), .int .i64 x11137, (g11142 6), (g11142 7), (g11142 8), (g11142 9), .slice A1 l1.length c1, .int .i64 (l1.length : Int), .int .i64 x11139, (g11142 13), (g11142 14), (g11142 15), (g11142 16), (g11142 17), (g11142 18), (g11142 19), (g11142 20), (g11142 21), (g11142 22), (g11142 23), (g11142 24), (g11142 25), (g11142 26), (g11142 27), (g11142 28), (g11142 29), (g11142 30), (g11142 31)], []⟩ ∧ Step c w C11143 w11144 [] ∧ kq11145 ≤ k ∧ (Ft C11143 [0] w11144 (fun w_ => (Kd.int .i64).C w_ A1 l1.length l1)) ∧ (Ft C11143 [0] w11144 (fun w_ => (Kd.ptr 81 k81).K w_ o11029.f0 [vq11082_0])) ∧ (Ft C11143 [0] w11144 (fun w_ => w_.heap[g11078]? = some (.cells (List.toArray ([vq11082_0, .int .u32 o11029.f1.f0.f0, .int .i32 o11029.f1.f1.f0.f0, .int .u32 o11029.f1.f1.f0.f1] ++ (List.map (Value.int .i8) o11029.f2 ++ (List.map (Value.int .i8) o11029.f3 ++ ([.int .i64 o11029.f4.f0]))))) 107 (0, 0)))) ∧ lattice_Lattice_JoinAll.l1 kq11145 l1 o11029 x11137 x11139 = some r) ?step k _ _ ?init)
  case init =>
   exact ⟨_, t11021, 0, (fun q_ => List.getD [undef, .slice A1 l1.length c1, undef, undef, .int .i64 0, undef, undef, undef, .pointer (some ⟨g11078, 0, none⟩), .int .i64 t11021, undef, undef, undef, undef, undef, undef, undef, undef, undef, undef, undef, undef, undef, undef, undef, undef, undef, undef, undef, undef, undef, undef] q_ undef), rfl, HS, Nat.le_refl _, HP1, HRq11082_0, HX11080, H⟩
  case step =>
   intro kq11145 ih11148 a11149 w11144 hr11150
   obtain ⟨C11143, x11137, x11139, g11142, rfl, HS11146, hk11147, HJ11138, HJ11140, HJ11141, H⟩ := hr11150
   refine looped_round ?_
   cases kq11145 with
   | zero => exact absurd H (by simp [lattice_Lattice_JoinAll.l1])
   | succ k11151 =>
    simp only [lattice_Lattice_JoinAll.l1] at H
    refine wp_seq_k fun K11152 hK11152 => ?_
    refine wl_region ?_
    refine st (.bool (decide (x11139 < (l1.length : Int)))) rfl rfl (xr_bin _ _ _ rfl rfl rfl (B.lss_i64 _ _)) ?_
    refine wl_end ?_
    (try simp only [Act.put, List.setIfInBounds_toArray, ls0, ls1])
    refine hK11152 _ _ ?_
    (try clear hK11152 K11152)
    refine wp_seq_k fun K11153 hK11153 => ?_
    by_cases c11154 : x11139 < (l1.length : Int)
    ·rw [if_pos c11154] at H
     (try rw [(decide_eq_true c11154)])
     (try simp only [Bool.not_true, Bool.not_false])
     refine wp_cond_true rfl ?_
     refine wp_skip ?_
     (try simp only [Act.put, List.setIfInBounds_toArray, ls0, ls1])
     refine hK11153 _ _ ?_
     (try clear hK11153 K11153)
     refine wp_seq_k fun K11155 hK11155 => ?_
     refine wp_block ?_
     refine wp_seq_k fun K11156 hK11156 => ?_
     refine wl_region ?_
     by_cases c11157 : 0 ≤ x11139
     ·rw [if_pos c11157] at H
      obtain ⟨ad11158, hA11159⟩ := c_addr (Ft.now HJ11138) (pos_of (j := x11139) (by first | assumption | decide) (by first | assumption | omega))
      refine st (.pointer (some (ad11158.add ((x11139 : Int).toNat * 1)))) rfl rfl (xr_indexAddr _ _ _ rfl rfl rfl (index_at Tryd.underlying23 info3 hA11159 (by first | assumption | decide | omega) (by first | assumption | decide | omega))) ?_
      refine st (.int .i64 (rd l1 x11139)) rfl rfl (xr_load _ _ rfl rfl (load_int Tryd.underlying3 rfl hA11159 (Ft.now HJ11138) (by first | assumption | decide | omega) (by first | assumption | decide | omega))) ?_
      refine st (.int .i64 (rd l1 x11139)) rfl rfl (xr_assign _ rfl rfl) ?_
      refine wl_end ?_
      (try simp only [Act.put, List.setIfInBounds_toArray, ls0, ls1])
      refine hK11156 _ _ ?_
      (try clear hK11156 K11156)
      refine wp_seq_k fun K11160 hK11160 => ?_
      refine wp_seq_k fun K11161 hK11161 => ?_
      refine wl_region ?_
      refine st (.pointer (some ⟨g11078, 0, none⟩)) rfl rfl (xr_move _ rfl rfl) ?_
      refine st (.int .i64 (rd l1 x11139)) rfl rfl (xr_move _ rfl rfl) ?_
      refine st (.int .i64 (rd l1 x11139)) rfl rfl (xr_move _ rfl rfl) ?_
      have HP11162 : Ft C11143 [0] w11144 (fun w_ => (Kd.ptr 107 k107).K w_ (some (⟨o11029.f0, (⟨(⟨o11029.f1.f0.f0⟩ : S92), (⟨(⟨o11029.f1.f1.f0.f0, o11029.f1.f1.f0.f1⟩ : S94)⟩ : S96)⟩ : S98), o11029.f2, o11029.f3, (⟨o11029.f4.f0⟩ : S105)⟩ : S107)) [.pointer (some ⟨g11078, 0, none⟩)]) := ptr_mk (Ft.more HJ11141 rfl) (k107_mkF _ _ (⟨o11029.f0, (⟨(⟨o11029.f1.f0.f0⟩ : S92), (⟨(⟨o11029.f1.f1.f0.f0, o11029.f1.f1.f0.f1⟩ : S94)⟩ : S96)⟩ : S98), o11029.f2, o11029.f3, (⟨o11029.f4.f0⟩ : S105)⟩ : S107) (Ft.more HJ11140 rfl) HLq11082_4 HLq11082_5)
      obtain ⟨t11163, A11164, H⟩ := Option.bind_eq_some_iff.mp H
      (try dsimp only at H)
      refine st_call #[.pointer (some ⟨g11078, 0, none⟩), .int .i64 (rd l1 x11139), .int .i64 (rd l1 x11139)] rfl rfl Tryd.func62 (by kernel_rfl) rfl rfl (mp_ rfl) ?_
      refine (lattice_Lattice_in.calls (.pointer (some ⟨g11078, 0, none⟩)) (some (⟨o11029.f0, (⟨(⟨o11029.f1.f0.f0⟩ : S92), (⟨(⟨o11029.f1.f1.f0.f0, o11029.f1.f1.f0.f1⟩ : S94)⟩ : S96)⟩ : S98), o11029.f2, o11029.f3, (⟨o11029.f4.f0⟩ : S105)⟩ : S107) : Option S107) (rd l1 x11139) (rd l1 x11139) t11163  (fun z_ => pal [(0, 0)] (C11143 z_)) w11144 (fun _ => pal_lt rfl _) (Ft.arg HP11162 rfl) A11164).mono ?_
      rintro _ w11166 ⟨C11167, rfl, hs11168⟩
      refine ⟨_, rfl, ?_⟩
      replace hs11168 := Step.lift (U := [(0, 0)]) hs11168 [] rfl rfl
      generalize up C11143 C11167 w11144.heap.size [(0, 0)] = C11167_ at hs11168
      replace HJ11138 := HJ11138.thru hs11168 rfl
      replace HJ11141 := HJ11141.thru hs11168 rfl
      replace HJ11140 := HJ11140.thru hs11168 rfl
      replace HS11146 := HS11146.trans hs11168 hc rfl
      (try simp only [Act.put, List.setIfInBounds_toArray, ls0, ls1])
      refine st (.bool (!t11163)) rfl rfl (xr_un (.bool t11163) _ rfl rfl (by first | rfl | (go_simp; done) | (go_simp; rfl) | (go_simp; exact i64_w _) | (go_simp; exact i32_w _))) ?_
      refine wl_end ?_
      (try simp only [Act.put, List.setIfInBounds_toArray, ls0, ls1])
      refine hK11161 _ _ ?_
      (try clear hK11161 K11161)
      by_cases c11169 : t11163 = true
      ·rw [if_pos c11169] at H
       (try rw [c11169])
       (try simp only [Bool.not_true, Bool.not_false])
       refine wp_cond_false rfl ?_
       refine wp_skip ?_
       (try simp only [Act.put, List.setIfInBounds_toArray, ls0, ls1])
       refine hK11160 _ _ ?_
       (try clear hK11160 K11160)
       refine wl_region ?_
       refine st (.pointer (some ⟨g11078, 0, none⟩)) rfl rfl (xr_move _ rfl rfl) ?_
       refine st (.int .i64 x11137) rfl rfl (xr_move _ rfl rfl) ?_
       refine st (.int .i64 (rd l1 x11139)) rfl rfl (xr_move _ rfl rfl) ?_
       refine st (.pointer (some ⟨g11078, 0, none⟩)) rfl rfl (xr_nilCheck _ rfl rfl) ?_
       simp only [ls0, ls1]
       refine st (.pointer (some ⟨g11078, 4, none⟩)) rfl rfl (xr_fieldAddr _ _ rfl rfl (bx_field2 Tryd.underlying107 rfl rfl (by kernel_rfl))) ?_
       by_cases c11170 : 0 ≤ x11137
       ·rw [if_pos c11170] at H
        by_cases c11171 : x11137 < 64
        ·rw [if_pos c11171] at H
         refine st (.pointer (some ⟨g11078, 4 + ((x11137 : Int).toNat * 64), none⟩)) rfl rfl (xr_indexAddr _ _ _ rfl rfl rfl (arr_index (sz := 64) Tryd.underlying102 (by kernel_rfl) (by first | assumption | decide | omega) (by first | assumption | decide | omega) (by omega))) ?_
         by_cases c11172 : 0 ≤ (rd l1 x11139)
         ·rw [if_pos c11172] at H
          by_cases c11173 : (rd l1 x11139) < 64
          ·rw [if_pos c11173] at H
           refine st (.pointer (some ⟨g11078, 4 + ((x11137 : Int).toNat * 64 + (rd l1 x11139 : Int).toNat), none⟩)) rfl rfl (xr_indexAddr _ _ _ rfl rfl rfl (arr_index (sz := 1) Tryd.underlying100 (by kernel_rfl) (by first | assumption | decide | omega) (by first | assumption | decide | omega) (by omega))) ?_
           refine st (.int .i8 (List.getD o11029.f2 ((x11137 : Int).toNat * 64 + (rd l1 x11139 : Int).toNat) 0)) rfl rfl (xr_load _ _ rfl rfl (arr_load (o := 4) (N := 4096) (pre := [vq11082_0, .int .u32 o11029.f1.f0.f0, .int .i32 o11029.f1.f1.f0.f0, .int .u32 o11029.f1.f1.f0.f1]) (post := List.map (Value.int .i8) o11029.f3 ++ ([.int .i64 o11029.f4.f0])) (enc := (Value.int .i8)) (l := o11029.f2) (i := (x11137 : Int).toNat * 64 + (rd l1 x11139 : Int).toNat) 0 Tryd.underlying99 rfl (Ft.now HJ11141) (by first | (simp only [List.append_assoc, List.cons_append, List.nil_append, List.append_nil]; done) | rfl) rfl HLq11082_4 (by omega) (by omega))) ?_
           simp only [ls0, ls1]
           refine st (.int .i64 (wrap64 (List.getD o11029.f2 ((x11137 : Int).toNat * 64 + (rd l1 x11139 : Int).toNat) 0))) rfl rfl (xr_conv (.int .i8 (List.getD o11029.f2 ((x11137 : Int).toNat * 64 + (rd l1 x11139 : Int).toNat) 0)) _ rfl rfl (by first | rfl | (go_simp; done) | (go_simp; rfl) | (go_simp; exact i64_w _) | (go_simp; exact i32_w _))) ?_
           refine st (.int .i64 (wrap64 (List.getD o11029.f2 ((x11137 : Int).toNat * 64 + (rd l1 x11139 : Int).toNat) 0))) rfl rfl (xr_assign _ rfl rfl) ?_
           refine wl_end ?_
           (try simp only [Act.put, List.setIfInBounds_toArray, ls0, ls1])
           refine hK11155 _ _ ?_
           (try clear hK11155 K11155)
           refine wl_region ?_
           refine st (.int .i64 (wrap64 (x11139 + 1))) rfl rfl (xr_bin _ _ _ rfl rfl rfl (B.add_i64 _ _)) ?_
           refine st (.int .i64 (wrap64 (x11139 + 1))) rfl rfl (xr_move _ rfl rfl) ?_
           refine wl_end ?_
           (try simp only [Act.put, List.setIfInBounds_toArray, ls0, ls1])
           exact ih11148 k11151 (by omega) _ _ ⟨_, wrap64 (List.getD o11029.f2 ((x11137 : Int).toNat * 64 + (rd l1 x11139 : Int).toNat) 0), wrap64 (x11139 + 1), (fun q_ => List.getD [undef, (g11142 1), (g11142 2), (g11142 3), (g11142 4), undef, (g11142 6), .int .i64 (rd l1 x11139), (g11142 8), (g11142 9), undef, undef, undef, .bool true, .pointer (some (ad11158.add ((x11139 : Int).toNat * 1))), .int .i64 (rd l1 x11139), .pointer (some ⟨g11078, 0, none⟩), .int .i64 (rd l1 x11139), .int .i64 (rd l1 x11139), .bool true, .bool false, .pointer (some ⟨g11078, 0, none⟩), .int .i64 x11137, .int .i64 (rd l1 x11139), .pointer (some ⟨g11078, 0, none⟩), .pointer (some ⟨g11078, 4, none⟩), .pointer (some ⟨g11078, 4 + ((x11137 : Int).toNat * 64), none⟩), .pointer (some ⟨g11078, 4 + ((x11137 : Int).toNat * 64 + (rd l1 x11139 : Int).toNat), none⟩), .int .i8 (List.getD o11029.f2 ((x11137 : Int).toNat * 64 + (rd l1 x11139 : Int).toNat) 0), .int .i64 (wrap64 (List.getD o11029.f2 ((x11137 : Int).toNat * 64 + (rd l1 x11139 : Int).toNat) 0)), .int .i64 (wrap64 (x11139 + 1)), (g11142 31)] q_ undef), rfl, HS11146, (by omega), HJ11138, HJ11140, HJ11141, H⟩
          ·rw [if_neg c11173] at H
           exact absurd H (by simp)
         ·rw [if_neg c11172] at H
          exact absurd H (by simp)
        ·rw [if_neg c11171] at H
         exact absurd H (by simp)
       ·rw [if_neg c11170] at H
        exact absurd H (by simp)
      ·rw [if_neg c11169] at H
       (try rw [(Bool.eq_false_iff.mpr c11169)])
       (try simp only [Bool.not_true, Bool.not_false])
       refine wp_cond_true rfl ?_
       refine wp_seq_k fun K11174 hK11174 => ?_
       refine wl_region ?_
       refine st (.int .i64 (-1)) rfl rfl (xr_assign _ rfl rfl) ?_
       refine wl_end ?_
       (try simp only [Act.put, List.setIfInBounds_toArray, ls0, ls1])
       refine hK11174 _ _ ?_
       (try clear hK11174 K11174)
       refine wp_ret ?_
       (try simp only [Exit.inBlock, Exit.then, Exit.noGoto])
       (try simp only [Act.put, List.setIfInBounds_toArray, ls0, ls1])
       obtain rfl := Option.some.inj H
       refine bodyPost_ret (results_tmp rfl _ _ _) rfl ?_
       exact ⟨_, rfl, HS11146⟩
     ·rw [if_neg c11157] at H
      exact absurd H (by simp)
    ·rw [if_neg c11154] at H
     (try rw [(decide_eq_false c11154)])
     (try simp only [Bool.not_true, Bool.not_false])
     refine wp_cond_false rfl ?_
     refine wp_exit ?_
     (try simp only [Act.put, List.setIfInBounds_toArray, ls0, ls1])
     refine hK11027 _ _ ?_
     (try clear hK11027 K11027)
     refine wp_seq_k fun K11175 hK11175 => ?_
     refine wl_region ?_
     refine st (.int .i64 x11137) rfl rfl (xr_move _ rfl rfl) ?_
     refine st (.int .i64 x11137) rfl rfl (xr_assign _ rfl rfl) ?_
     refine wl_end ?_
     (try simp only [Act.put, List.setIfInBounds_toArray, ls0, ls1])
     refine hK11175 _ _ ?_
     (try clear hK11175 K11175)
     refine wp_ret ?_
     (try simp only [Exit.inBlock, Exit.then, Exit.noGoto])
     (try simp only [Act.put, List.setIfInBounds_toArray, ls0, ls1])
     obtain rfl := Option.some.inj H
     refine bodyPost_ret (results_tmp rfl _ _ _) rfl ?_
     exact ⟨_, rfl, HS11146⟩

/-! ### lattice_Lattice_Meet: function 23 -/
def lattice_Lattice_Meet.f (m0_0 : Option S81) (a0_1 : Int) (a0_2 : Int) (a0_3 : Int) (a0_4 : List Int) (a0_5 : List Int) (a0_6 : Int) (a1 : Int) (a2 : Int) : Option (Int × Int) := (some (wrap64 (a0_6 + 1) : Int)).bind fun y11254 => ((lattice_Lattice_in.f (some (⟨m0_0, (⟨(⟨a0_1⟩ : S92), (⟨(⟨a0_2, a0_3⟩ : S94)⟩ : S96)⟩ : S98), a0_4, a0_5, (⟨y11254⟩ : S105)⟩ : S107) : Option S107) a1 a2).bind fun t11262 => (if t11262 = true then (if 0 ≤ a1 then (if a1 < 64 then (if 0 ≤ a2 then (if a2 < 64 then (some (wrap64 (List.getD a0_5 ((a1 : Int).toNat * 64 + (a2 : Int).toNat) 0), y11254)) else (none)) else (none)) else (none)) else (none)) else (some ((-1), y11254))))
set_option maxHeartbeats 2000000 in
set_option maxRecDepth 100000 in
theorem lattice_Lattice_Meet.calls (g0 : Nat) (v0_0 : Value) (m0_0 : Option S81) (a0_1 : Int) (a0_2 : Int) (a0_3 : Int) (a0_4 : List Int) (a0_5 : List Int) (a0_6 : Int) (a1 : Int) (a2 : Int) (r1 : Int) (r2 : Int) (c : Nat → Nat) (w : World) (hc : ∀ k, c k < 10) (HP0 : Bx c 1 w g0 107 ([v0_0, .int .u32 a0_1, .int .i32 a0_2, .int .u32 a0_3] ++ (List.map (Value.int .i8) a0_4 ++ (List.map (Value.int .i8) a0_5 ++ ([.int .i64 a0_6]))))) (HP0_0 : Ft c [0] w (fun w_ => (Kd.ptr 81 k81).K w_ m0_0 [v0_0])) (HL0_4 : a0_4.length = 4096) (HL0_5 : a0_5.length = 4096) (H : lattice_Lattice_Meet.f m0_0 a0_1 a0_2 a0_3 a0_4 a0_5 a0_6 a1 a2 = some (r1, r2)) :
    Calls Tryd.prog 23 #[.pointer (some ⟨g0, 0, none⟩), .int .i64 a1, .int .i64 a2] w fun e w' => ∃ (c' : Nat → Nat) , e = .returned (.int .i64 r1) ∧ Step c w c' w' [1] ∧ Bx c' 1 w' g0 107 ([v0_0, .int .u32 a0_1, .int .i32 a0_2, .int .u32 a0_3] ++ (List.map (Value.int .i8) a0_4 ++ (List.map (Value.int .i8) a0_5 ++ ([.int .i64 r2])))) := by
 unfold lattice_Lattice_Meet.f at H
 have HS := Step.refl c w [1]
 go_enter Tryd.func23, Tryd.ntmps23
 refine wp_seq_k fun K11245 hK11245 => ?_
 refine wl_region ?_
 refine st (.int .i64 0) rfl rfl (xr_assign _ rfl rfl) ?_
 refine wl_end ?_
 (try simp only [Act.put, List.setIfInBounds_toArray, ls0, ls1])
 refine hK11245 _ _ ?_
 (try clear hK11245 K11245)
 refine wp_seq_k fun K11246 hK11246 => ?_
 refine wp_seq_k fun K11253 hK11253 => ?_
 refine wl_region ?_
 refine st (.pointer (some ⟨g0, 0, none⟩)) rfl rfl (xr_move _ rfl rfl) ?_
 refine st (.bool true) rfl rfl (xr_bin (.pointer (some ⟨g0, 0, none⟩)) (.pointer none) (.bool true) rfl rfl rfl (B.neq_pn ⟨_, Tryd.underlying36⟩ ⟨g0, 0, none⟩)) ?_
 refine wl_end ?_
 (try simp only [Act.put, List.setIfInBounds_toArray, ls0, ls1])
 refine hK11253 _ _ ?_
 (try clear hK11253 K11253)
 refine wp_cond_true rfl ?_
 refine wl_region ?_
 refine st (.pointer (some ⟨g0, 0, none⟩)) rfl rfl (xr_move _ rfl rfl) ?_
 refine st (.pointer (some ⟨g0, 0, none⟩)) rfl rfl (xr_nilCheck _ rfl rfl) ?_
 refine st (.pointer (some ⟨g0, 8196, none⟩)) rfl rfl (xr_fieldAddr _ _ rfl rfl (bx_field2 Tryd.underlying107 rfl rfl (by kernel_rfl))) ?_
 obtain ⟨y11254, A11255, H⟩ := Option.bind_eq_some_iff.mp H
 (try dsimp only at H)
 refine st_call #[.pointer (some ⟨g0, 8196, none⟩), .int .i64 1] rfl rfl Tryd.func63 (by kernel_rfl) rfl rfl (mp_ rfl) ?_
 refine atomic_add (C := c) (pre := [v0_0, .int .u32 a0_1, .int .i32 a0_2, .int .u32 a0_3] ++ (List.map (Value.int .i8) a0_4 ++ (List.map (Value.int .i8) a0_5))) (post := []) (old := a0_6) (y := 1) HP0 (by first | (simp only [List.append_assoc, List.cons_append, List.nil_append, List.append_nil]; done) | rfl) (by simp [HL0_4, HL0_5]) (r := y11254) (Option.some.inj A11255) (xs' := [v0_0, .int .u32 a0_1, .int .i32 a0_2, .int .u32 a0_3] ++ (List.map (Value.int .i8) a0_4 ++ (List.map (Value.int .i8) a0_5 ++ ([.int .i64 y11254])))) (by first | (simp only [List.append_assoc, List.cons_append, List.nil_append, List.append_nil]; done) | rfl) ?_
 intro w11256 HX11257 hs11258
 replace HP0_0 := HP0_0.thru hs11258 rfl
 replace HS := HS.trans hs11258 hc rfl
 (try simp only [Act.put, List.setIfInBounds_toArray, ls0, ls1])
 refine wl_end ?_
 (try simp only [Act.put, List.setIfInBounds_toArray, ls0, ls1])
 refine hK11246 _ _ ?_
 (try clear hK11246 K11246)
 refine wp_seq_k fun K11259 hK11259 => ?_
 refine wp_seq_k fun K11260 hK11260 => ?_
 refine wl_region ?_
 refine st (.pointer (some ⟨g0, 0, none⟩)) rfl rfl (xr_move _ rfl rfl) ?_
 refine st (.int .i64 a1) rfl rfl (xr_move _ rfl rfl) ?_
 refine st (.int .i64 a2) rfl rfl (xr_move _ rfl rfl) ?_
 have HP11261 : Ft c [0, 1] w11256 (fun w_ => (Kd.ptr 107 k107).K w_ (some (⟨m0_0, (⟨(⟨a0_1⟩ : S92), (⟨(⟨a0_2, a0_3⟩ : S94)⟩ : S96)⟩ : S98), a0_4, a0_5, (⟨y11254⟩ : S105)⟩ : S107)) [.pointer (some ⟨g0, 0, none⟩)]) := ptr_mk (Ft.more (HX11257.ft) rfl) (k107_mkF _ _ (⟨m0_0, (⟨(⟨a0_1⟩ : S92), (⟨(⟨a0_2, a0_3⟩ : S94)⟩ : S96)⟩ : S98), a0_4, a0_5, (⟨y11254⟩ : S105)⟩ : S107) (Ft.more HP0_0 rfl) HL0_4 HL0_5)
 obtain ⟨t11262, A11263, H⟩ := Option.bind_eq_some_iff.mp H
 (try dsimp only at H)
 refine st_call #[.pointer (some ⟨g0, 0, none⟩), .int .i64 a1, .int .i64 a2] rfl rfl Tryd.func62 (by kernel_rfl) rfl rfl (mp_ rfl) ?_
 refine (lattice_Lattice_in.calls (.pointer (some ⟨g0, 0, none⟩)) (some (⟨m0_0, (⟨(⟨a0_1⟩ : S92), (⟨(⟨a0_2, a0_3⟩ : S94)⟩ : S96)⟩ : S98), a0_4, a0_5, (⟨y11254⟩ : S105)⟩ : S107) : Option S107) a1 a2 t11262  (fun z_ => pal [(0, 0), (1, 0)] (c z_)) w11256 (fun _ => pal_lt rfl _) (Ft.arg HP11261 rfl) A11263).mono ?_
 rintro _ w11265 ⟨C11266, rfl, hs11267⟩
 refine ⟨_, rfl, ?_⟩
 replace hs11267 := Step.lift (U := [(0, 0)]) hs11267 [] rfl rfl
 generalize up c C11266 w11256.heap.size [(0, 0)] = C11266_ at hs11267
 replace HX11257 := HX11257.thru hs11267 rfl
 replace HP0_0 := HP0_0.thru hs11267 rfl
 replace HS := HS.trans hs11267 hc rfl
 (try simp only [Act.put, List.setIfInBounds_toArray, ls0, ls1])
 refine st (.bool (!t11262)) rfl rfl (xr_un (.bool t11262) _ rfl rfl (by first | rfl | (go_simp; done) | (go_simp; rfl) | (go_simp; exact i64_w _) | (go_simp; exact i32_w _))) ?_
 refine wl_end ?_
 (try simp only [Act.put, List.setIfInBounds_toArray, ls0, ls1])
 refine hK11260 _ _ ?_
 (try clear hK11260 K11260)
 by_cases c11268 : t11262 = true
 ·rw [if_pos c11268] at H
  (try rw [c11268])
  (try simp only [Bool.not_true, Bool.not_false])
  refine wp_cond_false rfl ?_
  refine wp_skip ?_
  (try simp only [Act.put, List.setIfInBounds_toArray, ls0, ls1])
  refine hK11259 _ _ ?_
  (try clear hK11259 K11259)
  refine wp_seq_k fun K11269 hK11269 => ?_
  refine wl_region ?_
  refine st (.pointer (some ⟨g0, 0, none⟩)) rfl rfl (xr_move _ rfl rfl) ?_
  refine st (.int .i64 a1) rfl rfl (xr_move _ rfl rfl) ?_
  refine st (.int .i64 a2) rfl rfl (xr_move _ rfl rfl) ?_
  refine st (.pointer (some ⟨g0, 0, none⟩)) rfl rfl (xr_nilCheck _ rfl rfl) ?_
  simp only [ls0, ls1]
  refine st (.pointer (some ⟨g0, 4100, none⟩)) rfl rfl (xr_fieldAddr _ _ rfl rfl (bx_field2 Tryd.underlying107 rfl rfl (by kernel_rfl))) ?_
  by_cases c11270 : 0 ≤ a1
  ·rw [if_pos c11270] at H
   by_cases c11271 : a1 < 64
   ·rw [if_pos c11271] at H
    refine st (.pointer (some ⟨g0, 4100 + ((a1 : Int).toNat * 64), none⟩)) rfl rfl (xr_indexAddr _ _ _ rfl rfl rfl (arr_index (sz := 64) Tryd.underlying102 (by kernel_rfl) (by first | assumption | decide | omega) (by first | assumption | decide | omega) (by omega))) ?_
    by_cases c11272 : 0 ≤ a2
    ·rw [if_pos c11272] at H
     by_cases c11273 : a2 < 64
     ·rw [if_pos c11273] at H
      refine st (.pointer (some ⟨g0, 4100 + ((a1 : Int).toNat * 64 + (a2 : Int).toNat), none⟩)) rfl rfl (xr_indexAddr _ _ _ rfl rfl rfl (arr_index (sz := 1) Tryd.underlying100 (by kernel_rfl) (by first | assumption | decide | omega) (by first | assumption | decide | omega) (by omega))) ?_
      refine st (.int .i8 (List.getD a0_5 ((a1 : Int).toNat * 64 + (a2 : Int).toNat) 0)) rfl rfl (xr_load _ _ rfl rfl (arr_load (o := 4100) (N := 4096) (pre := [v0_0, .int .u32 a0_1, .int .i32 a0_2, .int .u32 a0_3] ++ (List.map (Value.int .i8) a0_4)) (post := [.int .i64 y11254]) (enc := (Value.int .i8)) (l := a0_5) (i := (a1 : Int).toNat * 64 + (a2 : Int).toNat) 0 Tryd.underlying99 rfl (HX11257).2 (by first | (simp only [List.append_assoc, List.cons_append, List.nil_append, List.append_nil]; done) | rfl) (by simp [HL0_4]) HL0_5 (by omega) (by omega))) ?_
      simp only [ls0, ls1]
      refine st (.int .i64 (wrap64 (List.getD a0_5 ((a1 : Int).toNat * 64 + (a2 : Int).toNat) 0))) rfl rfl (xr_conv (.int .i8 (List.getD a0_5 ((a1 : Int).toNat * 64 + (a2 : Int).toNat) 0)) _ rfl rfl (by first | rfl | (go_simp; done) | (go_simp; rfl) | (go_simp; exact i64_w _) | (go_simp; exact i32_w _))) ?_
      refine st (.int .i64 (wrap64 (List.getD a0_5 ((a1 : Int).toNat * 64 + (a2 : Int).toNat) 0))) rfl rfl (xr_assign _ rfl rfl) ?_
      refine wl_end ?_
      (try simp only [Act.put, List.setIfInBounds_toArray, ls0, ls1])
      refine hK11269 _ _ ?_
      (try clear hK11269 K11269)
      refine wp_ret ?_
      (try simp only [Exit.inBlock, Exit.then, Exit.noGoto])
      (try simp only [Act.put, List.setIfInBounds_toArray, ls0, ls1])
      simp only [Option.some.injEq, Prod.mk.injEq] at H
      obtain ⟨rfl, rfl⟩ := H
      refine bodyPost_ret (results_tmp rfl _ _ _) rfl ?_
      exact ⟨_, rfl, HS, HX11257⟩
     ·rw [if_neg c11273] at H
      exact absurd H (by simp)
    ·rw [if_neg c11272] at H
     exact absurd H (by simp)
   ·rw [if_neg c11271] at H
    exact absurd H (by simp)
  ·rw [if_neg c11270] at H
   exact absurd H (by simp)
 ·rw [if_neg c11268] at H
  (try rw [(Bool.eq_false_iff.mpr c11268)])
  (try simp only [Bool.not_true, Bool.not_false])
  refine wp_cond_true rfl ?_
  refine wp_seq_k fun K11274 hK11274 => ?_
  refine wl_region ?_
  refine st (.int .i64 (-1)) rfl rfl (xr_assign _ rfl rfl) ?_
  refine wl_end ?_
  (try simp only [Act.put, List.setIfInBounds_toArray, ls0, ls1])
  refine hK11274 _ _ ?_
  (try clear hK11274 K11274)
  refine wp_ret ?_
  (try simp only [Exit.inBlock, Exit.then, Exit.noGoto])
  (try simp only [Act.put, List.setIfInBounds_toArray, ls0, ls1])
  simp only [Option.some.injEq, Prod.mk.injEq] at H
  obtain ⟨rfl, rfl⟩ := H
  refine bodyPost_ret (results_tmp rfl _ _ _) rfl ?_
  exact ⟨_, rfl, HS, HX11257⟩

end Go.Proofs.YtpfepkkpbampkaaDoor.PLan
