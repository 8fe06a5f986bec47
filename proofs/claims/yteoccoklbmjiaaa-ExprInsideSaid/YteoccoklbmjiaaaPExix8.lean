-- By cprint.py, a program of this work. Lean checks it.
import Derived.Test.YteoccoklbmjiaaaPExix0
import Derived.Test.YteoccoklbmjiaaaPExix2
import Derived.Test.YteoccoklbmjiaaaPExix7
namespace Go.Proofs.Yteoccoklbmjiaaa.PExi
open Go.RowKit Go.Proofs.YteoccoklbmjiaaaW.PrintWords Go.Proofs.YteoccoklbmjiaaaW.PrintLast Go.Proofs.YteoccoklbmjiaaaW.PrintMore
set_option linter.unusedVariables false
set_option linter.unusedSimpArgs false

/-! ### blazonlaw08_ExprInside: function 12 -/
def blazonlaw08_ExprInside.j0 : Nat → (List Int) → Bool → Option (Bool)
  | 0, _, _ => none
  | k + 1, l0, x503 => if x503 = true then (some false) else ((expr_Parse.f k l0).bind fun bt512 => (if bt512.2.2.2.2.2.2.2 = 0 then ((expr_Height.f k bt512.1 bt512.2.1 bt512.2.2.1 bt512.2.2.2.1 bt512.2.2.2.2.1 bt512.2.2.2.2.2.1).bind fun t541 => (if t541 ≤ 32 then (if bt512.2.1 ≥ 0 then (if bt512.2.1 < (l0.length : Int) then ((blazonlaw08_inside.f k bt512.1 bt512.2.1 bt512.2.2.1 bt512.2.2.2.1 bt512.2.2.2.2.1 bt512.2.2.2.2.2.1 (l0.length : Int)).bind fun t550 => (if t550 = true then ((blazonlaw08_awake.f k).bind fun t557 => (some t557)) else (some false))) else (some false)) else (some false)) else (some false))) else (if bt512.2.2.2.2.2.2.1 ≥ 0 then (if bt512.2.2.2.2.2.2.1 ≤ (l0.length : Int) then ((blazonlaw08_awake.f k).bind fun t566 => (some t566)) else (some false)) else (some false))))
def blazonlaw08_ExprInside.f (k : Nat) (l0 : List Int) : Option (Bool) := if (l0.length : Int) > 1000 then ((blazonlaw08_awake.f k).bind fun t313 => (some t313)) else ((expr_Cursor_Ident_nil.f k).bind fun bt321 => ((expr_Cursor_Expr_nil.f k).bind fun bt329 => (if bt321.2 = true then (blazonlaw08_ExprInside.j0 k l0 true) else (if bt329.2.2.2.2.2.2 = 1 then ((expr_Cursor_Done.f (none : Option S111)).bind fun t574 => (if t574 = true then (blazonlaw08_ExprInside.j0 k l0 true) else ((expr_Cursor_Take_nil.f (⟨#[97]⟩ : ByteArray)).bind fun t581 => (if t581 = true then (blazonlaw08_ExprInside.j0 k l0 true) else ((expr_Cursor_Peek.f (none : Option S111)).bind fun t588 => (if t588 = (⟨#[]⟩ : ByteArray) then ((expr_Cursor_Pos.f (none : Option S111)).bind fun t595 => (if t595 = 0 then ((expr_Cursor_End.f (none : Option S111)).bind fun t602 => (if t602 = 0 then ((expr_Cursor_Kind.f (none : Option S111)).bind fun t609 => (blazonlaw08_ExprInside.j0 k l0 (!decide (t609 = 0)))) else (blazonlaw08_ExprInside.j0 k l0 true))) else (blazonlaw08_ExprInside.j0 k l0 true))) else (blazonlaw08_ExprInside.j0 k l0 true))))))) else (blazonlaw08_ExprInside.j0 k l0 true)))))

set_option maxHeartbeats 8000000 in
set_option maxRecDepth 100000 in
theorem blazonlaw08_ExprInside.calls (k : Nat) (A0 : Option Addr) (c0 : Nat) (l0 : List Int) (r : Bool) (c : Nat → Nat) (w : World) (hc : ∀ k, c k < 10) (HP0 : Ft c [0] w (fun w_ => (Kd.int .u8).C w_ A0 l0.length l0)) (HCP0 : l0.length ≤ c0) (H : blazonlaw08_ExprInside.f k l0 = some r) :
    Calls Try.prog 12 #[.slice A0 l0.length c0] w fun e w' => ∃ (c' : Nat → Nat) , e = .returned (.bool r) ∧ Step c w c' w' [] := by
 unfold blazonlaw08_ExprInside.f at H
 have HS := Step.refl c w []
 go_enter Try.func12, Try.ntmps12
 refine wp_seq_k fun K308 hK308 => ?_
 refine wl_region ?_
 refine st (.bool false) rfl rfl (xr_assign _ rfl rfl) ?_
 refine wl_end ?_
 (try simp only [ls0, ls1])
 refine hK308 _ _ ?_
 (try clear hK308 K308)
 refine wp_seq_k fun K309 hK309 => ?_
 refine wp_seq_k fun K310 hK310 => ?_
 refine wl_region ?_
 refine mv_ rfl ?_
 refine st (.int .i64 (l0.length : Int)) rfl rfl (xr_builtin #[.slice A0 l0.length c0] (.int .i64 (l0.length : Int)) rfl (mp_ rfl) (by first | rfl | (go_simp; done) | (go_simp; rfl) | (go_simp; exact i64_w _) | (go_simp; exact i32_w _))) ?_
 refine st (.bool (decide ((l0.length : Int) > 1000))) rfl rfl (xr_bin _ _ _ rfl rfl rfl (B.gtr_i64 _ _)) ?_
 refine wl_end ?_
 (try simp only [ls0, ls1])
 refine hK310 _ _ ?_
 (try clear hK310 K310)
 by_cases c311 : (l0.length : Int) > 1000
 ·rw [if_pos c311] at H
  (try rw [(decide_eq_true c311)])
  refine wp_cond_true rfl ?_
  refine wp_seq_k fun K312 hK312 => ?_
  refine wl_region ?_
  obtain ⟨t313, A314, H⟩ := bnd H
  refine st_call #[] rfl rfl Try.func32 (by kernel_rfl) rfl rfl (mp_ rfl) ?_
  refine (blazonlaw08_awake.calls k t313  (fun z_ => pal [(0, 0)] (c z_)) w (fun _ => pal_lt rfl _) A314).mono ?_
  rintro _ w316 ⟨C317, rfl, hs318⟩
  refine ⟨_, rfl, ?_⟩
  replace hs318 := Step.lift (U := [(0, 0)]) hs318 [] rfl rfl
  generalize up c C317 w.heap.size [(0, 0)] = C317_ at hs318
  replace HS := HS.trans hs318 hc rfl
  (try simp only [ls0, ls1])
  refine as_ rfl ?_
  refine wl_end ?_
  (try simp only [ls0, ls1])
  refine hK312 _ _ ?_
  (try clear hK312 K312)
  refine wp_ret ?_
  (try simp only [Exit.inBlock, Exit.then, Exit.noGoto])
  (try simp only [ls0, ls1])
  obtain rfl := Option.some.inj H
  refine bodyPost_ret (results_tmp rfl _ _ _) rfl ?_
  exact ⟨_, rfl, HS⟩
 rw [if_neg c311] at H
 (try rw [(decide_eq_false c311)])
 refine wp_cond_false rfl ?_
 refine wp_skip ?_
 (try simp only [ls0, ls1])
 refine hK309 _ _ ?_
 (try clear hK309 K309)
 refine wp_seq_k fun K319 hK319 => ?_
 refine wl_region ?_
 refine st (.pointer none) rfl rfl (xr_assign _ rfl rfl) ?_
 refine wl_end ?_
 (try simp only [ls0, ls1])
 refine hK319 _ _ ?_
 (try clear hK319 K319)
 refine wp_seq_k fun K320 hK320 => ?_
 refine wl_region ?_
 refine mv_ rfl ?_
 obtain ⟨⟨t321, t322⟩, A323, H⟩ := bnd H
 (try dsimp only at H)
 refine st_call #[.pointer none] rfl rfl Try.func49 (by kernel_rfl) rfl rfl (mp_ rfl) ?_
 refine (expr_Cursor_Ident_nil.calls k t321 t322  (fun z_ => pal [(0, 0)] (c z_)) w (fun _ => pal_lt rfl _) A323).mono ?_
 rintro _ w325 ⟨C326, rfl, hs327⟩
 refine ⟨_, rfl, ?_⟩
 replace hs327 := Step.lift (U := [(0, 0)]) hs327 [] rfl rfl
 generalize up c C326 w.heap.size [(0, 0)] = C326_ at hs327
 replace HP0 := HP0.thru hs327 rfl
 replace HS := HS.trans hs327 hc rfl
 (try simp only [ls0, ls1])
 refine mv_ rfl ?_
 refine st (.string t321) rfl rfl (xr_extract (.tuple #[.string t321, .bool t322]) _ rfl rfl rfl) ?_
 refine st (.bool t322) rfl rfl (xr_extract (.tuple #[.string t321, .bool t322]) _ rfl rfl rfl) ?_
 refine as_ rfl ?_
 simp only [ls0, ls1]
 refine as_ rfl ?_
 refine wl_end ?_
 (try simp only [ls0, ls1])
 refine hK320 _ _ ?_
 (try clear hK320 K320)
 refine wp_seq_k fun K328 hK328 => ?_
 refine wl_region ?_
 refine mv_ rfl ?_
 obtain ⟨⟨t329, t330, t331, t332, t333, t334, t335⟩, A336, H⟩ := bnd H
 (try dsimp only at H)
 refine st_call #[.pointer none] rfl rfl Try.func51 (by kernel_rfl) rfl rfl (mp_ rfl) ?_
 refine (expr_Cursor_Expr_nil.calls k t329 t330 t331 t332 t333 t334 t335  (fun z_ => pal [(0, 0)] (C326_ z_)) w325 (fun _ => pal_lt rfl _) A336).mono ?_
 rintro _ w338 ⟨C339, A341, cp342, rfl, hs340, HO343, HC344⟩
 refine ⟨_, rfl, ?_⟩
 replace HO343 := Own.res (U := [(0, 0), (5, 11)]) (j := 11) HO343 hs340 (by rfl) (by decide) rfl rfl
 replace hs340 := Step.lift (U := [(0, 0), (5, 11)]) hs340 [] rfl rfl
 generalize up C326_ C339 w325.heap.size [(0, 0), (5, 11)] = C339_ at HO343 hs340
 replace HP0 := HP0.thru hs340 rfl
 replace HS := HS.trans hs340 hc rfl
 (try simp only [ls0, ls1])
 refine mv_ rfl ?_
 refine st (.agg #[.int .i64 t329, .int .i64 t330, .int .i64 t331, .string t332, .string t333, .slice A341 t334.length cp342]) rfl rfl (xr_extract (.tuple #[.agg #[.int .i64 t329, .int .i64 t330, .int .i64 t331, .string t332, .string t333, .slice A341 t334.length cp342], .int .i64 t335]) _ rfl rfl rfl) ?_
 refine st (.int .i64 t335) rfl rfl (xr_extract (.tuple #[.agg #[.int .i64 t329, .int .i64 t330, .int .i64 t331, .string t332, .string t333, .slice A341 t334.length cp342], .int .i64 t335]) _ rfl rfl rfl) ?_
 refine bx_new (C := C339_) 44 ([.int .i64 0, .int .i64 0, .int .i64 0, .string (⟨#[]⟩ : ByteArray), .string (⟨#[]⟩ : ByteArray), .slice none 0 0]) 12 rfl rfl (by first | (go_simp; done) | (go_simp; rfl)) ?_
 intro g345 w346 C347 HX348 hs349
 replace HP0 := HP0.thru hs349 rfl
 replace HO343 := HO343.thru hs349 rfl
 replace HS := HS.trans hs349 hc rfl
 (try simp only [ls0, ls1])
 refine bx_store (C := C347) (z := 12) (g := g345) (j := 0) (tb := 44) (u := .agg #[.int .i64 t329, .int .i64 t330, .int .i64 t331, .string t332, .string t333, .slice A341 t334.length cp342]) (seg := [.int .i64 t329, .int .i64 t330, .int .i64 t331, .string t332, .string t333, .slice A341 t334.length cp342]) (xs := [.int .i64 0, .int .i64 0, .int .i64 0, .string (⟨#[]⟩ : ByteArray), .string (⟨#[]⟩ : ByteArray), .slice none 0 0]) rfl rfl rfl rfl rfl rfl (by first | kernel_rfl | rfl) (by simp [Value.oneCell']) HX348 (by simp only [List.length_cons, List.length_nil]; omega) rfl ?_
 intro w350 HX351 hs352
 replace HP0 := HP0.thru hs352 rfl
 replace HO343 := HO343.thru hs352 rfl
 replace HS := HS.trans hs352 hc rfl
 (try simp only [ls0, ls1])
 refine as_ rfl ?_
 refine wl_end ?_
 (try simp only [ls0, ls1])
 refine hK328 _ _ ?_
 (try clear hK328 K328)
 refine wp_seq_k fun K353 hK353 => ?_
 refine wp_seq_k fun K454 hK454 => ?_
 have hj498 : ∀ (kq506 : Nat) (C499 : Nat → Nat) (w500 : World) (x503 : Bool) (g_ : Nat → Value), Step c w C499 w500 [] → kq506 ≤ k → (Ft C499 [0] w500 (fun w_ => (Kd.int .u8).C w_ A0 l0.length l0)) → (Own C499 11 w500 k44 44 (.slice A341 t334.length cp342) t334) → (Bx C499 12 w500 g345 44 ([.int .i64 t329, .int .i64 t330, .int .i64 t331, .string t332, .string t333, .slice A341 t334.length cp342])) → blazonlaw08_ExprInside.j0 kq506 l0 x503 = some r → K454 ⟨#[.slice A0 l0.length c0, (g_ 1), (g_ 2), (g_ 3), (g_ 4), (g_ 5), (g_ 6), (g_ 7), (g_ 8), (g_ 9), (g_ 10), (g_ 11), (g_ 12), (g_ 13), (g_ 14), (g_ 15), (g_ 16), (g_ 17), (g_ 18), (g_ 19), (g_ 20), (g_ 21), (g_ 22), (g_ 23), (g_ 24), (g_ 25), (g_ 26), (g_ 27), (g_ 28), (g_ 29), (g_ 30), (g_ 31), (g_ 32), (g_ 33), (g_ 34), (g_ 35), (g_ 36), (g_ 37), (g_ 38), (g_ 39), (g_ 40), (g_ 41), (g_ 42), (g_ 43), (g_ 44), (g_ 45), (g_ 46), (g_ 47), (g_ 48), (g_ 49), (g_ 50), (g_ 51), (g_ 52), (g_ 53), (g_ 54), (g_ 55), (g_ 56), .bool x503, (g_ 58), (g_ 59), (g_ 60), (g_ 61), (g_ 62), (g_ 63), (g_ 64), (g_ 65), (g_ 66), (g_ 67), (g_ 68), (g_ 69), (g_ 70), (g_ 71), (g_ 72), (g_ 73), (g_ 74), (g_ 75), (g_ 76), (g_ 77), (g_ 78), (g_ 79), (g_ 80), (g_ 81), (g_ 82), (g_ 83), (g_ 84), (g_ 85), (g_ 86), (g_ 87), (g_ 88), (g_ 89), (g_ 90), (g_ 91), (g_ 92), (g_ 93), (g_ 94), (g_ 95), (g_ 96), (g_ 97), (g_ 98), (g_ 99), (g_ 100)], []⟩ w500 := by
  intro kq506 C499 w500 x503 g_ HS501 hk507 HJ502 HJ504 HJ505 H
  cases kq506 with
  | zero => exact absurd H (by simp [blazonlaw08_ExprInside.j0])
  | succ k508 =>
   simp only [blazonlaw08_ExprInside.j0] at H
   refine hK454 _ _ ?_
   (try clear hK454)
   by_cases c509 : x503 = true
   ·rw [if_pos c509] at H
    (try rw [c509])
    refine wp_cond_true rfl ?_
    refine wp_seq_k fun K510 hK510 => ?_
    refine wl_region ?_
    refine st (.bool false) rfl rfl (xr_assign _ rfl rfl) ?_
    refine wl_end ?_
    (try simp only [ls0, ls1])
    refine hK510 _ _ ?_
    (try clear hK510 K510)
    refine wp_ret ?_
    (try simp only [Exit.inBlock, Exit.then, Exit.noGoto])
    (try simp only [ls0, ls1])
    obtain rfl := Option.some.inj H
    refine bodyPost_ret (results_tmp rfl _ _ _) rfl ?_
    exact ⟨_, rfl, HS501⟩
   rw [if_neg c509] at H
   (try rw [(Bool.eq_false_iff.mpr c509)])
   refine wp_cond_false rfl ?_
   refine wp_skip ?_
   (try simp only [ls0, ls1])
   refine hK353 _ _ ?_
   (try clear hK353 K353)
   refine wp_seq_k fun K511 hK511 => ?_
   refine wl_region ?_
   refine mv_ rfl ?_
   obtain ⟨⟨t512, t513, t514, t515, t516, t517, t518, t519⟩, A520, H⟩ := bnd H
   (try dsimp only at H)
   refine st_call #[.slice A0 l0.length c0] rfl rfl Try.func33 (by kernel_rfl) rfl rfl (mp_ rfl) ?_
   refine (expr_Parse.calls k508 A0 c0 l0 t512 t513 t514 t515 t516 t517 t518 t519  (fun z_ => pal [(0, 0)] (C499 z_)) w500 (fun _ => pal_lt rfl _) (Ft.arg HJ502 rfl) HCP0 A520).mono ?_
   rintro _ w522 ⟨C523, A525, cp526, rfl, hs524, HO527, HC528⟩
   refine ⟨_, rfl, ?_⟩
   replace HO527 := Ft.res (U := [(0, 0)]) HO527 hs524 [0] rfl rfl rfl
   replace hs524 := Step.lift (U := [(0, 0)]) hs524 [] rfl rfl
   generalize up C499 C523 w500.heap.size [(0, 0)] = C523_ at HO527 hs524
   replace HJ502 := HJ502.thru hs524 rfl
   replace HJ505 := HJ505.thru hs524 rfl
   replace HJ504 := HJ504.thru hs524 rfl
   replace HS501 := HS501.trans hs524 hc rfl
   (try simp only [ls0, ls1])
   refine mv_ rfl ?_
   refine st (.agg #[.int .i64 t512, .int .i64 t513, .int .i64 t514, .string t515, .string t516, .slice A525 t517.length cp526]) rfl rfl (xr_extract (.tuple #[.agg #[.int .i64 t512, .int .i64 t513, .int .i64 t514, .string t515, .string t516, .slice A525 t517.length cp526], .int .i64 t518, .int .i64 t519]) _ rfl rfl rfl) ?_
   refine st (.int .i64 t518) rfl rfl (xr_extract (.tuple #[.agg #[.int .i64 t512, .int .i64 t513, .int .i64 t514, .string t515, .string t516, .slice A525 t517.length cp526], .int .i64 t518, .int .i64 t519]) _ rfl rfl rfl) ?_
   refine st (.int .i64 t519) rfl rfl (xr_extract (.tuple #[.agg #[.int .i64 t512, .int .i64 t513, .int .i64 t514, .string t515, .string t516, .slice A525 t517.length cp526], .int .i64 t518, .int .i64 t519]) _ rfl rfl rfl) ?_
   simp only [ls0, ls1]
   refine bx_new (C := C523_) 44 ([.int .i64 0, .int .i64 0, .int .i64 0, .string (⟨#[]⟩ : ByteArray), .string (⟨#[]⟩ : ByteArray), .slice none 0 0]) 13 rfl rfl (by first | (go_simp; done) | (go_simp; rfl)) ?_
   intro g529 w530 C531 HX532 hs533
   replace HJ502 := HJ502.thru hs533 rfl
   replace HJ505 := HJ505.thru hs533 rfl
   replace HJ504 := HJ504.thru hs533 rfl
   replace HO527 := HO527.thru hs533 rfl
   replace HS501 := HS501.trans hs533 hc rfl
   (try simp only [ls0, ls1])
   refine bx_store (C := C531) (z := 13) (g := g529) (j := 0) (tb := 44) (u := .agg #[.int .i64 t512, .int .i64 t513, .int .i64 t514, .string t515, .string t516, .slice A525 t517.length cp526]) (seg := [.int .i64 t512, .int .i64 t513, .int .i64 t514, .string t515, .string t516, .slice A525 t517.length cp526]) (xs := [.int .i64 0, .int .i64 0, .int .i64 0, .string (⟨#[]⟩ : ByteArray), .string (⟨#[]⟩ : ByteArray), .slice none 0 0]) rfl rfl rfl rfl rfl rfl (by first | kernel_rfl | rfl) (by simp [Value.oneCell']) HX532 (by simp only [List.length_cons, List.length_nil]; omega) rfl ?_
   intro w534 HX535 hs536
   replace HJ502 := HJ502.thru hs536 rfl
   replace HJ505 := HJ505.thru hs536 rfl
   replace HJ504 := HJ504.thru hs536 rfl
   replace HO527 := HO527.thru hs536 rfl
   replace HS501 := HS501.trans hs536 hc rfl
   (try simp only [ls0, ls1])
   refine as_ rfl ?_
   refine as_ rfl ?_
   refine wl_end ?_
   (try simp only [ls0, ls1])
   refine hK511 _ _ ?_
   (try clear hK511 K511)
   refine wp_seq_k fun K537 hK537 => ?_
   refine wp_seq_k fun K538 hK538 => ?_
   refine wl_region ?_
   refine mv_ rfl ?_
   refine st (.bool (!decide (t519 = 0))) rfl rfl (xr_bin _ _ _ rfl rfl rfl (B.neq_i64 _ _)) ?_
   refine wl_end ?_
   (try simp only [ls0, ls1])
   refine hK538 _ _ ?_
   (try clear hK538 K538)
   by_cases c539 : t519 = 0
   ·rw [if_pos c539] at H
    (try rw [(decide_eq_true c539)])
    (try simp only [Bool.not_true, Bool.not_false])
    refine wp_cond_false rfl ?_
    refine wp_skip ?_
    (try simp only [ls0, ls1])
    refine hK537 _ _ ?_
    (try clear hK537 K537)
    refine wp_seq_k fun K540 hK540 => ?_
    refine wl_region ?_
    refine st (.agg #[.int .i64 t512, .int .i64 t513, .int .i64 t514, .string t515, .string t516, .slice A525 t517.length cp526]) rfl rfl (xr_load _ _ rfl rfl (load_agg (cs := [.int .i64 t512, .int .i64 t513, .int .i64 t514, .string t515, .string t516, .slice A525 t517.length cp526]) Try.underlying44 rfl (by kernel_rfl) (bx_cells (HX535).2 0 rfl))) ?_
    obtain ⟨t541, A542, H⟩ := bnd H
    refine st_call #[.agg #[.int .i64 t512, .int .i64 t513, .int .i64 t514, .string t515, .string t516, .slice A525 t517.length cp526]] rfl rfl Try.func36 (by kernel_rfl) rfl rfl (mp_ rfl) ?_
    refine (expr_Height.calls k508 t512 t513 t514 t515 t516 A525 cp526 t517 t541  (fun z_ => pal [(0, 0)] (C531 z_)) w534 (fun _ => pal_lt rfl _) (Ft.arg HO527 rfl) HC528 A542).mono ?_
    rintro _ w544 ⟨C545, rfl, hs546⟩
    refine ⟨_, rfl, ?_⟩
    replace hs546 := Step.lift (U := [(0, 0)]) hs546 [] rfl rfl
    generalize up C531 C545 w534.heap.size [(0, 0)] = C545_ at hs546
    replace HJ502 := HJ502.thru hs546 rfl
    replace HJ505 := HJ505.thru hs546 rfl
    replace HJ504 := HJ504.thru hs546 rfl
    replace HO527 := HO527.thru hs546 rfl
    replace HX535 := HX535.thru hs546 rfl
    replace HS501 := HS501.trans hs546 hc rfl
    (try simp only [ls0, ls1])
    refine st (.bool (decide (t541 ≤ 32))) rfl rfl (xr_bin _ _ _ rfl rfl rfl (B.leq_i64 _ _)) ?_
    refine mv_ rfl ?_
    by_cases c547 : t541 ≤ 32
    ·rw [if_pos c547] at H
     (try rw [(decide_eq_true c547)])
     refine on_guard (guard_on 3 true 80 rfl rfl rfl) ?_
     refine st (.pointer (some ⟨g529, 1, none⟩)) rfl rfl (xr_fieldAddr _ _ rfl rfl (bx_field2 Try.underlying44 rfl rfl (by kernel_rfl))) ?_
     refine on_guard (guard_on 3 true 80 rfl rfl rfl) ?_
     refine st (.int .i64 t513) rfl rfl (xr_load _ _ rfl rfl (load_cell Try.underlying3 rfl (bx_cell (HX535).2 1 rfl))) ?_
     simp only [ls0, ls1]
     refine on_guard (guard_on 3 true 80 rfl rfl rfl) ?_
     refine st (.bool (decide (t513 ≥ 0))) rfl rfl (xr_bin _ _ _ rfl rfl rfl (B.geq_i64 _ _)) ?_
     refine st (.bool (decide (t513 ≥ 0))) rfl rfl (xr_pick true _ rfl rfl rfl) ?_
     refine mv_ rfl ?_
     by_cases c548 : t513 ≥ 0
     ·rw [if_pos c548] at H
      (try rw [(decide_eq_true c548)])
      refine on_guard (guard_on 8 true 85 rfl rfl rfl) ?_
      refine st (.pointer (some ⟨g529, 1, none⟩)) rfl rfl (xr_fieldAddr _ _ rfl rfl (bx_field2 Try.underlying44 rfl rfl (by kernel_rfl))) ?_
      simp only [ls0, ls1]
      refine on_guard (guard_on 8 true 85 rfl rfl rfl) ?_
      refine st (.int .i64 t513) rfl rfl (xr_load _ _ rfl rfl (load_cell Try.underlying3 rfl (bx_cell (HX535).2 1 rfl))) ?_
      refine on_guard (guard_on 8 true 85 rfl rfl rfl) ?_
      refine mv_ rfl ?_
      refine on_guard (guard_on 8 true 85 rfl rfl rfl) ?_
      refine st (.int .i64 (l0.length : Int)) rfl rfl (xr_builtin #[.slice A0 l0.length c0] (.int .i64 (l0.length : Int)) rfl (mp_ rfl) (by first | rfl | (go_simp; done) | (go_simp; rfl) | (go_simp; exact i64_w _) | (go_simp; exact i32_w _))) ?_
      refine on_guard (guard_on 8 true 85 rfl rfl rfl) ?_
      refine st (.bool (decide (t513 < (l0.length : Int)))) rfl rfl (xr_bin _ _ _ rfl rfl rfl (B.lss_i64 _ _)) ?_
      simp only [ls0, ls1]
      refine st (.bool (decide (t513 < (l0.length : Int)))) rfl rfl (xr_pick true _ rfl rfl rfl) ?_
      refine mv_ rfl ?_
      by_cases c549 : t513 < (l0.length : Int)
      ·rw [if_pos c549] at H
       (try rw [(decide_eq_true c549)])
       refine on_guard (guard_on 15 true 92 rfl rfl rfl) ?_
       refine st (.agg #[.int .i64 t512, .int .i64 t513, .int .i64 t514, .string t515, .string t516, .slice A525 t517.length cp526]) rfl rfl (xr_load _ _ rfl rfl (load_agg (cs := [.int .i64 t512, .int .i64 t513, .int .i64 t514, .string t515, .string t516, .slice A525 t517.length cp526]) Try.underlying44 rfl (by kernel_rfl) (bx_cells (HX535).2 0 rfl))) ?_
       refine on_guard (guard_on 15 true 92 rfl rfl rfl) ?_
       refine mv_ rfl ?_
       simp only [ls0, ls1]
       refine on_guard (guard_on 15 true 92 rfl rfl rfl) ?_
       refine st (.int .i64 (l0.length : Int)) rfl rfl (xr_builtin #[.slice A0 l0.length c0] (.int .i64 (l0.length : Int)) rfl (mp_ rfl) (by first | rfl | (go_simp; done) | (go_simp; rfl) | (go_simp; exact i64_w _) | (go_simp; exact i32_w _))) ?_
       refine on_guard (guard_on 15 true 92 rfl rfl rfl) ?_
       obtain ⟨t550, A551, H⟩ := bnd H
       refine st_call #[.agg #[.int .i64 t512, .int .i64 t513, .int .i64 t514, .string t515, .string t516, .slice A525 t517.length cp526], .int .i64 (l0.length : Int)] rfl rfl Try.func53 (by kernel_rfl) rfl rfl (mp_ rfl) ?_
       refine (blazonlaw08_inside.calls k508 t512 t513 t514 t515 t516 A525 cp526 t517 (l0.length : Int) t550  (fun z_ => pal [(0, 0)] (C545_ z_)) w544 (fun _ => pal_lt rfl _) (Ft.arg HO527 rfl) HC528 A551).mono ?_
       rintro _ w553 ⟨C554, rfl, hs555⟩
       refine ⟨_, rfl, ?_⟩
       replace hs555 := Step.lift (U := [(0, 0)]) hs555 [] rfl rfl
       generalize up C545_ C554 w544.heap.size [(0, 0)] = C554_ at hs555
       replace HJ505 := HJ505.thru hs555 rfl
       replace HJ504 := HJ504.thru hs555 rfl
       replace HO527 := HO527.thru hs555 rfl
       replace HX535 := HX535.thru hs555 rfl
       replace HS501 := HS501.trans hs555 hc rfl
       (try simp only [ls0, ls1])
       refine st (.bool t550) rfl rfl (xr_pick true _ rfl rfl rfl) ?_
       refine mv_ rfl ?_
       by_cases c556 : t550 = true
       ·rw [if_pos c556] at H
        (try rw [c556])
        refine on_guard (guard_on 21 true 98 rfl rfl rfl) ?_
        obtain ⟨t557, A558, H⟩ := bnd H
        refine st_call #[] rfl rfl Try.func32 (by kernel_rfl) rfl rfl (mp_ rfl) ?_
        refine (blazonlaw08_awake.calls k508 t557  (fun z_ => pal [(0, 0)] (C554_ z_)) w553 (fun _ => pal_lt rfl _) A558).mono ?_
        rintro _ w560 ⟨C561, rfl, hs562⟩
        refine ⟨_, rfl, ?_⟩
        replace hs562 := Step.lift (U := [(0, 0)]) hs562 [] rfl rfl
        generalize up C554_ C561 w553.heap.size [(0, 0)] = C561_ at hs562
        replace HJ505 := HJ505.thru hs562 rfl
        replace HJ504 := HJ504.thru hs562 rfl
        replace HO527 := HO527.thru hs562 rfl
        replace HX535 := HX535.thru hs562 rfl
        replace HS501 := HS501.trans hs562 hc rfl
        (try simp only [ls0, ls1])
        refine st (.bool t557) rfl rfl (xr_pick true _ rfl rfl rfl) ?_
        refine as_ rfl ?_
        refine wl_end ?_
        (try simp only [ls0, ls1])
        refine hK540 _ _ ?_
        (try clear hK540 K540)
        refine wp_ret ?_
        (try simp only [Exit.inBlock, Exit.then, Exit.noGoto])
        (try simp only [ls0, ls1])
        obtain rfl := Option.some.inj H
        refine bodyPost_ret (results_tmp rfl _ _ _) rfl ?_
        exact ⟨_, rfl, HS501⟩
       rw [if_neg c556] at H
       (try rw [(Bool.eq_false_iff.mpr c556)])
       refine sk_guard (guard_off 21 true 98 rfl rfl false (by decide) rfl) rfl ?_
       refine st (.bool false) rfl rfl (xr_pick false _ rfl rfl rfl) ?_
       refine as_ rfl ?_
       refine wl_end ?_
       (try simp only [ls0, ls1])
       refine hK540 _ _ ?_
       (try clear hK540 K540)
       refine wp_ret ?_
       (try simp only [Exit.inBlock, Exit.then, Exit.noGoto])
       (try simp only [ls0, ls1])
       obtain rfl := Option.some.inj H
       refine bodyPost_ret (results_tmp rfl _ _ _) rfl ?_
       exact ⟨_, rfl, HS501⟩
      rw [if_neg c549] at H
      (try rw [(decide_eq_false c549)])
      refine sk_guard (guard_off 15 true 92 rfl rfl false (by decide) rfl) rfl ?_
      refine sk_guard (guard_off 15 true 92 rfl rfl false (by decide) rfl) rfl ?_
      refine sk_guard (guard_off 15 true 92 rfl rfl false (by decide) rfl) rfl ?_
      refine sk_guard (guard_off 15 true 92 rfl rfl false (by decide) rfl) rfl ?_
      simp only [ls0, ls1]
      refine st (.bool false) rfl rfl (xr_pick false _ rfl rfl rfl) ?_
      refine mv_ rfl ?_
      refine sk_guard (guard_off 21 true 98 rfl rfl false (by decide) rfl) rfl ?_
      refine st (.bool false) rfl rfl (xr_pick false _ rfl rfl rfl) ?_
      simp only [ls0, ls1]
      refine as_ rfl ?_
      refine wl_end ?_
      (try simp only [ls0, ls1])
      refine hK540 _ _ ?_
      (try clear hK540 K540)
      refine wp_ret ?_
      (try simp only [Exit.inBlock, Exit.then, Exit.noGoto])
      (try simp only [ls0, ls1])
      obtain rfl := Option.some.inj H
      refine bodyPost_ret (results_tmp rfl _ _ _) rfl ?_
      exact ⟨_, rfl, HS501⟩
     rw [if_neg c548] at H
     (try rw [(decide_eq_false c548)])
     refine sk_guard (guard_off 8 true 85 rfl rfl false (by decide) rfl) rfl ?_
     refine sk_guard (guard_off 8 true 85 rfl rfl false (by decide) rfl) rfl ?_
     refine sk_guard (guard_off 8 true 85 rfl rfl false (by decide) rfl) rfl ?_
     refine sk_guard (guard_off 8 true 85 rfl rfl false (by decide) rfl) rfl ?_
     simp only [ls0, ls1]
     refine sk_guard (guard_off 8 true 85 rfl rfl false (by decide) rfl) rfl ?_
     refine st (.bool false) rfl rfl (xr_pick false _ rfl rfl rfl) ?_
     refine mv_ rfl ?_
     refine sk_guard (guard_off 15 true 92 rfl rfl false (by decide) rfl) rfl ?_
     simp only [ls0, ls1]
     refine sk_guard (guard_off 15 true 92 rfl rfl false (by decide) rfl) rfl ?_
     refine sk_guard (guard_off 15 true 92 rfl rfl false (by decide) rfl) rfl ?_
     refine sk_guard (guard_off 15 true 92 rfl rfl false (by decide) rfl) rfl ?_
     refine st (.bool false) rfl rfl (xr_pick false _ rfl rfl rfl) ?_
     simp only [ls0, ls1]
     refine mv_ rfl ?_
     refine sk_guard (guard_off 21 true 98 rfl rfl false (by decide) rfl) rfl ?_
     refine st (.bool false) rfl rfl (xr_pick false _ rfl rfl rfl) ?_
     refine as_ rfl ?_
     simp only [ls0, ls1]
     refine wl_end ?_
     (try simp only [ls0, ls1])
     refine hK540 _ _ ?_
     (try clear hK540 K540)
     refine wp_ret ?_
     (try simp only [Exit.inBlock, Exit.then, Exit.noGoto])
     (try simp only [ls0, ls1])
     obtain rfl := Option.some.inj H
     refine bodyPost_ret (results_tmp rfl _ _ _) rfl ?_
     exact ⟨_, rfl, HS501⟩
    rw [if_neg c547] at H
    (try rw [(decide_eq_false c547)])
    refine sk_guard (guard_off 3 true 80 rfl rfl false (by decide) rfl) rfl ?_
    refine sk_guard (guard_off 3 true 80 rfl rfl false (by decide) rfl) rfl ?_
    refine sk_guard (guard_off 3 true 80 rfl rfl false (by decide) rfl) rfl ?_
    refine st (.bool false) rfl rfl (xr_pick false _ rfl rfl rfl) ?_
    simp only [ls0, ls1]
    refine mv_ rfl ?_
    refine sk_guard (guard_off 8 true 85 rfl rfl false (by decide) rfl) rfl ?_
    refine sk_guard (guard_off 8 true 85 rfl rfl false (by decide) rfl) rfl ?_
    refine sk_guard (guard_off 8 true 85 rfl rfl false (by decide) rfl) rfl ?_
    simp only [ls0, ls1]
    refine sk_guard (guard_off 8 true 85 rfl rfl false (by decide) rfl) rfl ?_
    refine sk_guard (guard_off 8 true 85 rfl rfl false (by decide) rfl) rfl ?_
    refine st (.bool false) rfl rfl (xr_pick false _ rfl rfl rfl) ?_
    refine mv_ rfl ?_
    simp only [ls0, ls1]
    refine sk_guard (guard_off 15 true 92 rfl rfl false (by decide) rfl) rfl ?_
    refine sk_guard (guard_off 15 true 92 rfl rfl false (by decide) rfl) rfl ?_
    refine sk_guard (guard_off 15 true 92 rfl rfl false (by decide) rfl) rfl ?_
    refine sk_guard (guard_off 15 true 92 rfl rfl false (by decide) rfl) rfl ?_
    simp only [ls0, ls1]
    refine st (.bool false) rfl rfl (xr_pick false _ rfl rfl rfl) ?_
    refine mv_ rfl ?_
    refine sk_guard (guard_off 21 true 98 rfl rfl false (by decide) rfl) rfl ?_
    refine st (.bool false) rfl rfl (xr_pick false _ rfl rfl rfl) ?_
    simp only [ls0, ls1]
    refine as_ rfl ?_
    refine wl_end ?_
    (try simp only [ls0, ls1])
    refine hK540 _ _ ?_
    (try clear hK540 K540)
    refine wp_ret ?_
    (try simp only [Exit.inBlock, Exit.then, Exit.noGoto])
    (try simp only [ls0, ls1])
    obtain rfl := Option.some.inj H
    refine bodyPost_ret (results_tmp rfl _ _ _) rfl ?_
    exact ⟨_, rfl, HS501⟩
   rw [if_neg c539] at H
   (try rw [(decide_eq_false c539)])
   (try simp only [Bool.not_true, Bool.not_false])
   refine wp_cond_true rfl ?_
   refine wp_seq_k fun K563 hK563 => ?_
   refine wl_region ?_
   refine mv_ rfl ?_
   refine st (.bool (decide (t518 ≥ 0))) rfl rfl (xr_bin _ _ _ rfl rfl rfl (B.geq_i64 _ _)) ?_
   refine mv_ rfl ?_
   by_cases c564 : t518 ≥ 0
   ·rw [if_pos c564] at H
    (try rw [(decide_eq_true c564)])
    refine on_guard (guard_on 2 true 68 rfl rfl rfl) ?_
    refine mv_ rfl ?_
    simp only [ls0, ls1]
    refine on_guard (guard_on 2 true 68 rfl rfl rfl) ?_
    refine mv_ rfl ?_
    refine on_guard (guard_on 2 true 68 rfl rfl rfl) ?_
    refine st (.int .i64 (l0.length : Int)) rfl rfl (xr_builtin #[.slice A0 l0.length c0] (.int .i64 (l0.length : Int)) rfl (mp_ rfl) (by first | rfl | (go_simp; done) | (go_simp; rfl) | (go_simp; exact i64_w _) | (go_simp; exact i32_w _))) ?_
    refine on_guard (guard_on 2 true 68 rfl rfl rfl) ?_
    refine st (.bool (decide (t518 ≤ (l0.length : Int)))) rfl rfl (xr_bin _ _ _ rfl rfl rfl (B.leq_i64 _ _)) ?_
    refine st (.bool (decide (t518 ≤ (l0.length : Int)))) rfl rfl (xr_pick true _ rfl rfl rfl) ?_
    simp only [ls0, ls1]
    refine mv_ rfl ?_
    by_cases c565 : t518 ≤ (l0.length : Int)
    ·rw [if_pos c565] at H
     (try rw [(decide_eq_true c565)])
     refine on_guard (guard_on 8 true 74 rfl rfl rfl) ?_
     obtain ⟨t566, A567, H⟩ := bnd H
     refine st_call #[] rfl rfl Try.func32 (by kernel_rfl) rfl rfl (mp_ rfl) ?_
     refine (blazonlaw08_awake.calls k508 t566  (fun z_ => pal [(0, 0)] (C531 z_)) w534 (fun _ => pal_lt rfl _) A567).mono ?_
     rintro _ w569 ⟨C570, rfl, hs571⟩
     refine ⟨_, rfl, ?_⟩
     replace hs571 := Step.lift (U := [(0, 0)]) hs571 [] rfl rfl
     generalize up C531 C570 w534.heap.size [(0, 0)] = C570_ at hs571
     replace HJ505 := HJ505.thru hs571 rfl
     replace HJ504 := HJ504.thru hs571 rfl
     replace HO527 := HO527.thru hs571 rfl
     replace HX535 := HX535.thru hs571 rfl
     replace HS501 := HS501.trans hs571 hc rfl
     (try simp only [ls0, ls1])
     refine st (.bool t566) rfl rfl (xr_pick true _ rfl rfl rfl) ?_
     refine as_ rfl ?_
     refine wl_end ?_
     (try simp only [ls0, ls1])
     refine hK563 _ _ ?_
     (try clear hK563 K563)
     refine wp_ret ?_
     (try simp only [Exit.inBlock, Exit.then, Exit.noGoto])
     (try simp only [ls0, ls1])
     obtain rfl := Option.some.inj H
     refine bodyPost_ret (results_tmp rfl _ _ _) rfl ?_
     exact ⟨_, rfl, HS501⟩
    rw [if_neg c565] at H
    (try rw [(decide_eq_false c565)])
    refine sk_guard (guard_off 8 true 74 rfl rfl false (by decide) rfl) rfl ?_
    refine st (.bool false) rfl rfl (xr_pick false _ rfl rfl rfl) ?_
    refine as_ rfl ?_
    refine wl_end ?_
    (try simp only [ls0, ls1])
    refine hK563 _ _ ?_
    (try clear hK563 K563)
    refine wp_ret ?_
    (try simp only [Exit.inBlock, Exit.then, Exit.noGoto])
    (try simp only [ls0, ls1])
    obtain rfl := Option.some.inj H
    refine bodyPost_ret (results_tmp rfl _ _ _) rfl ?_
    exact ⟨_, rfl, HS501⟩
   rw [if_neg c564] at H
   (try rw [(decide_eq_false c564)])
   refine sk_guard (guard_off 2 true 68 rfl rfl false (by decide) rfl) rfl ?_
   refine sk_guard (guard_off 2 true 68 rfl rfl false (by decide) rfl) rfl ?_
   refine sk_guard (guard_off 2 true 68 rfl rfl false (by decide) rfl) rfl ?_
   refine sk_guard (guard_off 2 true 68 rfl rfl false (by decide) rfl) rfl ?_
   simp only [ls0, ls1]
   refine st (.bool false) rfl rfl (xr_pick false _ rfl rfl rfl) ?_
   refine mv_ rfl ?_
   refine sk_guard (guard_off 8 true 74 rfl rfl false (by decide) rfl) rfl ?_
   refine st (.bool false) rfl rfl (xr_pick false _ rfl rfl rfl) ?_
   simp only [ls0, ls1]
   refine as_ rfl ?_
   refine wl_end ?_
   (try simp only [ls0, ls1])
   refine hK563 _ _ ?_
   (try clear hK563 K563)
   refine wp_ret ?_
   (try simp only [Exit.inBlock, Exit.then, Exit.noGoto])
   (try simp only [ls0, ls1])
   obtain rfl := Option.some.inj H
   refine bodyPost_ret (results_tmp rfl _ _ _) rfl ?_
   exact ⟨_, rfl, HS501⟩
 refine wl_region ?_
 refine mv_ rfl ?_
 refine mv_ rfl ?_
 by_cases c572 : t322 = true
 ·rw [if_pos c572] at H
  (try rw [c572])
  refine sk_guard (guard_off 1 false 26 rfl rfl true (by decide) rfl) rfl ?_
  refine sk_guard (guard_off 1 false 26 rfl rfl true (by decide) rfl) rfl ?_
  simp only [ls0, ls1]
  refine st (.bool true) rfl rfl (xr_pick true _ rfl rfl rfl) ?_
  refine mv_ rfl ?_
  refine sk_guard (guard_off 5 false 30 rfl rfl true (by decide) rfl) rfl ?_
  refine sk_guard (guard_off 5 false 30 rfl rfl true (by decide) rfl) rfl ?_
  simp only [ls0, ls1]
  refine st (.bool true) rfl rfl (xr_pick true _ rfl rfl rfl) ?_
  refine mv_ rfl ?_
  refine sk_guard (guard_off 9 false 34 rfl rfl true (by decide) rfl) rfl ?_
  refine sk_guard (guard_off 9 false 34 rfl rfl true (by decide) rfl) rfl ?_
  simp only [ls0, ls1]
  refine st (.bool true) rfl rfl (xr_pick true _ rfl rfl rfl) ?_
  refine mv_ rfl ?_
  refine sk_guard (guard_off 13 false 38 rfl rfl true (by decide) rfl) rfl ?_
  refine sk_guard (guard_off 13 false 38 rfl rfl true (by decide) rfl) rfl ?_
  simp only [ls0, ls1]
  refine sk_guard (guard_off 13 false 38 rfl rfl true (by decide) rfl) rfl ?_
  refine st (.bool true) rfl rfl (xr_pick true _ rfl rfl rfl) ?_
  refine mv_ rfl ?_
  refine sk_guard (guard_off 18 false 43 rfl rfl true (by decide) rfl) rfl ?_
  simp only [ls0, ls1]
  refine sk_guard (guard_off 18 false 43 rfl rfl true (by decide) rfl) rfl ?_
  refine sk_guard (guard_off 18 false 43 rfl rfl true (by decide) rfl) rfl ?_
  refine st (.bool true) rfl rfl (xr_pick true _ rfl rfl rfl) ?_
  refine mv_ rfl ?_
  simp only [ls0, ls1]
  refine sk_guard (guard_off 23 false 48 rfl rfl true (by decide) rfl) rfl ?_
  refine sk_guard (guard_off 23 false 48 rfl rfl true (by decide) rfl) rfl ?_
  refine sk_guard (guard_off 23 false 48 rfl rfl true (by decide) rfl) rfl ?_
  refine st (.bool true) rfl rfl (xr_pick true _ rfl rfl rfl) ?_
  simp only [ls0, ls1]
  refine mv_ rfl ?_
  refine sk_guard (guard_off 28 false 53 rfl rfl true (by decide) rfl) rfl ?_
  refine sk_guard (guard_off 28 false 53 rfl rfl true (by decide) rfl) rfl ?_
  refine sk_guard (guard_off 28 false 53 rfl rfl true (by decide) rfl) rfl ?_
  simp only [ls0, ls1]
  refine st (.bool true) rfl rfl (xr_pick true _ rfl rfl rfl) ?_
  refine wl_end ?_
  (try simp only [ls0, ls1])
  exact jmp (fun g_ => hj498 _ _ _ (true) g_ HS (by omega) HP0 HO343 HX351 H) rfl
 rw [if_neg c572] at H
 (try rw [(Bool.eq_false_iff.mpr c572)])
 refine on_guard (guard_on 1 false 26 rfl rfl rfl) ?_
 refine mv_ rfl ?_
 refine on_guard (guard_on 1 false 26 rfl rfl rfl) ?_
 refine st (.bool (!decide (t335 = 1))) rfl rfl (xr_bin _ _ _ rfl rfl rfl (B.neq_i64 _ _)) ?_
 refine st (.bool (!decide (t335 = 1))) rfl rfl (xr_pick false _ rfl rfl rfl) ?_
 refine mv_ rfl ?_
 simp only [ls0, ls1]
 by_cases c573 : t335 = 1
 ·rw [if_pos c573] at H
  (try rw [(decide_eq_true c573)])
  (try simp only [Bool.not_true, Bool.not_false])
  refine on_guard (guard_on 5 false 30 rfl rfl rfl) ?_
  refine mv_ rfl ?_
  refine on_guard (guard_on 5 false 30 rfl rfl rfl) ?_
  obtain ⟨t574, A575, H⟩ := bnd H
  refine st_call #[.pointer none] rfl rfl Try.func47 (by kernel_rfl) rfl rfl (mp_ rfl) ?_
  refine (expr_Cursor_Done.calls (.pointer none) (none : Option S111) t574  (fun z_ => pal [(0, 0)] (C347 z_)) w350 (fun _ => pal_lt rfl _) (ptr_nil _ _ _ _ _) A575).mono ?_
  rintro _ w577 ⟨C578, rfl, hs579⟩
  refine ⟨_, rfl, ?_⟩
  replace hs579 := Step.lift (U := [(0, 0)]) hs579 [] rfl rfl
  generalize up C347 C578 w350.heap.size [(0, 0)] = C578_ at hs579
  replace HP0 := HP0.thru hs579 rfl
  replace HO343 := HO343.thru hs579 rfl
  replace HX351 := HX351.thru hs579 rfl
  replace HS := HS.trans hs579 hc rfl
  (try simp only [ls0, ls1])
  refine st (.bool t574) rfl rfl (xr_pick false _ rfl rfl rfl) ?_
  refine mv_ rfl ?_
  by_cases c580 : t574 = true
  ·rw [if_pos c580] at H
   (try rw [c580])
   refine sk_guard (guard_off 9 false 34 rfl rfl true (by decide) rfl) rfl ?_
   refine sk_guard (guard_off 9 false 34 rfl rfl true (by decide) rfl) rfl ?_
   simp only [ls0, ls1]
   refine st (.bool true) rfl rfl (xr_pick true _ rfl rfl rfl) ?_
   refine mv_ rfl ?_
   refine sk_guard (guard_off 13 false 38 rfl rfl true (by decide) rfl) rfl ?_
   refine sk_guard (guard_off 13 false 38 rfl rfl true (by decide) rfl) rfl ?_
   simp only [ls0, ls1]
   refine sk_guard (guard_off 13 false 38 rfl rfl true (by decide) rfl) rfl ?_
   refine st (.bool true) rfl rfl (xr_pick true _ rfl rfl rfl) ?_
   refine mv_ rfl ?_
   refine sk_guard (guard_off 18 false 43 rfl rfl true (by decide) rfl) rfl ?_
   simp only [ls0, ls1]
   refine sk_guard (guard_off 18 false 43 rfl rfl true (by decide) rfl) rfl ?_
   refine sk_guard (guard_off 18 false 43 rfl rfl true (by decide) rfl) rfl ?_
   refine st (.bool true) rfl rfl (xr_pick true _ rfl rfl rfl) ?_
   refine mv_ rfl ?_
   simp only [ls0, ls1]
   refine sk_guard (guard_off 23 false 48 rfl rfl true (by decide) rfl) rfl ?_
   refine sk_guard (guard_off 23 false 48 rfl rfl true (by decide) rfl) rfl ?_
   refine sk_guard (guard_off 23 false 48 rfl rfl true (by decide) rfl) rfl ?_
   refine st (.bool true) rfl rfl (xr_pick true _ rfl rfl rfl) ?_
   simp only [ls0, ls1]
   refine mv_ rfl ?_
   refine sk_guard (guard_off 28 false 53 rfl rfl true (by decide) rfl) rfl ?_
   refine sk_guard (guard_off 28 false 53 rfl rfl true (by decide) rfl) rfl ?_
   refine sk_guard (guard_off 28 false 53 rfl rfl true (by decide) rfl) rfl ?_
   simp only [ls0, ls1]
   refine st (.bool true) rfl rfl (xr_pick true _ rfl rfl rfl) ?_
   refine wl_end ?_
   (try simp only [ls0, ls1])
   exact jmp (fun g_ => hj498 _ _ _ (true) g_ HS (by omega) HP0 HO343 HX351 H) rfl
  rw [if_neg c580] at H
  (try rw [(Bool.eq_false_iff.mpr c580)])
  refine on_guard (guard_on 9 false 34 rfl rfl rfl) ?_
  refine mv_ rfl ?_
  refine on_guard (guard_on 9 false 34 rfl rfl rfl) ?_
  obtain ⟨t581, A582, H⟩ := bnd H
  refine st_call #[.pointer none, .string (⟨#[97]⟩ : ByteArray)] rfl rfl Try.func48 (by kernel_rfl) rfl rfl (mp_ rfl) ?_
  refine (expr_Cursor_Take_nil.calls (⟨#[97]⟩ : ByteArray) t581  (fun z_ => pal [(0, 0)] (C578_ z_)) w577 (fun _ => pal_lt rfl _) A582).mono ?_
  rintro _ w584 ⟨C585, rfl, hs586⟩
  refine ⟨_, rfl, ?_⟩
  replace hs586 := Step.lift (U := [(0, 0)]) hs586 [] rfl rfl
  generalize up C578_ C585 w577.heap.size [(0, 0)] = C585_ at hs586
  replace HP0 := HP0.thru hs586 rfl
  replace HO343 := HO343.thru hs586 rfl
  replace HX351 := HX351.thru hs586 rfl
  replace HS := HS.trans hs586 hc rfl
  (try simp only [ls0, ls1])
  refine st (.bool t581) rfl rfl (xr_pick false _ rfl rfl rfl) ?_
  refine mv_ rfl ?_
  by_cases c587 : t581 = true
  ·rw [if_pos c587] at H
   (try rw [c587])
   refine sk_guard (guard_off 13 false 38 rfl rfl true (by decide) rfl) rfl ?_
   refine sk_guard (guard_off 13 false 38 rfl rfl true (by decide) rfl) rfl ?_
   simp only [ls0, ls1]
   refine sk_guard (guard_off 13 false 38 rfl rfl true (by decide) rfl) rfl ?_
   refine st (.bool true) rfl rfl (xr_pick true _ rfl rfl rfl) ?_
   refine mv_ rfl ?_
   refine sk_guard (guard_off 18 false 43 rfl rfl true (by decide) rfl) rfl ?_
   simp only [ls0, ls1]
   refine sk_guard (guard_off 18 false 43 rfl rfl true (by decide) rfl) rfl ?_
   refine sk_guard (guard_off 18 false 43 rfl rfl true (by decide) rfl) rfl ?_
   refine st (.bool true) rfl rfl (xr_pick true _ rfl rfl rfl) ?_
   refine mv_ rfl ?_
   simp only [ls0, ls1]
   refine sk_guard (guard_off 23 false 48 rfl rfl true (by decide) rfl) rfl ?_
   refine sk_guard (guard_off 23 false 48 rfl rfl true (by decide) rfl) rfl ?_
   refine sk_guard (guard_off 23 false 48 rfl rfl true (by decide) rfl) rfl ?_
   refine st (.bool true) rfl rfl (xr_pick true _ rfl rfl rfl) ?_
   simp only [ls0, ls1]
   refine mv_ rfl ?_
   refine sk_guard (guard_off 28 false 53 rfl rfl true (by decide) rfl) rfl ?_
   refine sk_guard (guard_off 28 false 53 rfl rfl true (by decide) rfl) rfl ?_
   refine sk_guard (guard_off 28 false 53 rfl rfl true (by decide) rfl) rfl ?_
   simp only [ls0, ls1]
   refine st (.bool true) rfl rfl (xr_pick true _ rfl rfl rfl) ?_
   refine wl_end ?_
   (try simp only [ls0, ls1])
   exact jmp (fun g_ => hj498 _ _ _ (true) g_ HS (by omega) HP0 HO343 HX351 H) rfl
  rw [if_neg c587] at H
  (try rw [(Bool.eq_false_iff.mpr c587)])
  refine on_guard (guard_on 13 false 38 rfl rfl rfl) ?_
  refine mv_ rfl ?_
  refine on_guard (guard_on 13 false 38 rfl rfl rfl) ?_
  obtain ⟨t588, A589, H⟩ := bnd H
  refine st_call #[.pointer none] rfl rfl Try.func43 (by kernel_rfl) rfl rfl (mp_ rfl) ?_
  refine (expr_Cursor_Peek.calls (.pointer none) (none : Option S111) t588  (fun z_ => pal [(0, 0)] (C585_ z_)) w584 (fun _ => pal_lt rfl _) (ptr_nil _ _ _ _ _) A589).mono ?_
  rintro _ w591 ⟨C592, rfl, hs593⟩
  refine ⟨_, rfl, ?_⟩
  replace hs593 := Step.lift (U := [(0, 0)]) hs593 [] rfl rfl
  generalize up C585_ C592 w584.heap.size [(0, 0)] = C592_ at hs593
  replace HP0 := HP0.thru hs593 rfl
  replace HO343 := HO343.thru hs593 rfl
  replace HX351 := HX351.thru hs593 rfl
  replace HS := HS.trans hs593 hc rfl
  (try simp only [ls0, ls1])
  refine on_guard (guard_on 13 false 38 rfl rfl rfl) ?_
  refine st (.bool (!decide (t588 = (⟨#[]⟩ : ByteArray)))) rfl rfl (xr_bin _ _ _ rfl rfl rfl (B.neq_str _ _)) ?_
  refine st (.bool (!decide (t588 = (⟨#[]⟩ : ByteArray)))) rfl rfl (xr_pick false _ rfl rfl rfl) ?_
  refine mv_ rfl ?_
  by_cases c594 : t588 = (⟨#[]⟩ : ByteArray)
  ·rw [if_pos c594] at H
   (try rw [(decide_eq_true c594)])
   (try simp only [Bool.not_true, Bool.not_false])
   refine on_guard (guard_on 18 false 43 rfl rfl rfl) ?_
   refine mv_ rfl ?_
   simp only [ls0, ls1]
   refine on_guard (guard_on 18 false 43 rfl rfl rfl) ?_
   obtain ⟨t595, A596, H⟩ := bnd H
   refine st_call #[.pointer none] rfl rfl Try.func44 (by kernel_rfl) rfl rfl (mp_ rfl) ?_
   refine (expr_Cursor_Pos.calls (.pointer none) (none : Option S111) t595  (fun z_ => pal [(0, 0)] (C592_ z_)) w591 (fun _ => pal_lt rfl _) (ptr_nil _ _ _ _ _) A596).mono ?_
   rintro _ w598 ⟨C599, rfl, hs600⟩
   refine ⟨_, rfl, ?_⟩
   replace hs600 := Step.lift (U := [(0, 0)]) hs600 [] rfl rfl
   generalize up C592_ C599 w591.heap.size [(0, 0)] = C599_ at hs600
   replace HP0 := HP0.thru hs600 rfl
   replace HO343 := HO343.thru hs600 rfl
   replace HX351 := HX351.thru hs600 rfl
   replace HS := HS.trans hs600 hc rfl
   (try simp only [ls0, ls1])
   refine on_guard (guard_on 18 false 43 rfl rfl rfl) ?_
   refine st (.bool (!decide (t595 = 0))) rfl rfl (xr_bin _ _ _ rfl rfl rfl (B.neq_i64 _ _)) ?_
   refine st (.bool (!decide (t595 = 0))) rfl rfl (xr_pick false _ rfl rfl rfl) ?_
   refine mv_ rfl ?_
   by_cases c601 : t595 = 0
   ·rw [if_pos c601] at H
    (try rw [(decide_eq_true c601)])
    (try simp only [Bool.not_true, Bool.not_false])
    refine on_guard (guard_on 23 false 48 rfl rfl rfl) ?_
    refine mv_ rfl ?_
    simp only [ls0, ls1]
    refine on_guard (guard_on 23 false 48 rfl rfl rfl) ?_
    obtain ⟨t602, A603, H⟩ := bnd H
    refine st_call #[.pointer none] rfl rfl Try.func50 (by kernel_rfl) rfl rfl (mp_ rfl) ?_
    refine (expr_Cursor_End.calls (.pointer none) (none : Option S111) t602  (fun z_ => pal [(0, 0)] (C599_ z_)) w598 (fun _ => pal_lt rfl _) (ptr_nil _ _ _ _ _) A603).mono ?_
    rintro _ w605 ⟨C606, rfl, hs607⟩
    refine ⟨_, rfl, ?_⟩
    replace hs607 := Step.lift (U := [(0, 0)]) hs607 [] rfl rfl
    generalize up C599_ C606 w598.heap.size [(0, 0)] = C606_ at hs607
    replace HP0 := HP0.thru hs607 rfl
    replace HO343 := HO343.thru hs607 rfl
    replace HX351 := HX351.thru hs607 rfl
    replace HS := HS.trans hs607 hc rfl
    (try simp only [ls0, ls1])
    refine on_guard (guard_on 23 false 48 rfl rfl rfl) ?_
    refine st (.bool (!decide (t602 = 0))) rfl rfl (xr_bin _ _ _ rfl rfl rfl (B.neq_i64 _ _)) ?_
    refine st (.bool (!decide (t602 = 0))) rfl rfl (xr_pick false _ rfl rfl rfl) ?_
    refine mv_ rfl ?_
    by_cases c608 : t602 = 0
    ·rw [if_pos c608] at H
     (try rw [(decide_eq_true c608)])
     (try simp only [Bool.not_true, Bool.not_false])
     refine on_guard (guard_on 28 false 53 rfl rfl rfl) ?_
     refine mv_ rfl ?_
     simp only [ls0, ls1]
     refine on_guard (guard_on 28 false 53 rfl rfl rfl) ?_
     obtain ⟨t609, A610, H⟩ := bnd H
     refine st_call #[.pointer none] rfl rfl Try.func46 (by kernel_rfl) rfl rfl (mp_ rfl) ?_
     refine (expr_Cursor_Kind.calls (.pointer none) (none : Option S111) t609  (fun z_ => pal [(0, 0)] (C606_ z_)) w605 (fun _ => pal_lt rfl _) (ptr_nil _ _ _ _ _) A610).mono ?_
     rintro _ w612 ⟨C613, rfl, hs614⟩
     refine ⟨_, rfl, ?_⟩
     replace hs614 := Step.lift (U := [(0, 0)]) hs614 [] rfl rfl
     generalize up C606_ C613 w605.heap.size [(0, 0)] = C613_ at hs614
     replace HP0 := HP0.thru hs614 rfl
     replace HO343 := HO343.thru hs614 rfl
     replace HX351 := HX351.thru hs614 rfl
     replace HS := HS.trans hs614 hc rfl
     (try simp only [ls0, ls1])
     refine on_guard (guard_on 28 false 53 rfl rfl rfl) ?_
     refine st (.bool (!decide (t609 = 0))) rfl rfl (xr_bin _ _ _ rfl rfl rfl (B.neq_i64 _ _)) ?_
     refine st (.bool (!decide (t609 = 0))) rfl rfl (xr_pick false _ rfl rfl rfl) ?_
     refine wl_end ?_
     (try simp only [ls0, ls1])
     exact jmp (fun g_ => hj498 _ _ _ (!decide (t609 = 0)) g_ HS (by omega) HP0 HO343 HX351 H) rfl
    rw [if_neg c608] at H
    (try rw [(decide_eq_false c608)])
    (try simp only [Bool.not_true, Bool.not_false])
    refine sk_guard (guard_off 28 false 53 rfl rfl true (by decide) rfl) rfl ?_
    refine sk_guard (guard_off 28 false 53 rfl rfl true (by decide) rfl) rfl ?_
    refine sk_guard (guard_off 28 false 53 rfl rfl true (by decide) rfl) rfl ?_
    refine st (.bool true) rfl rfl (xr_pick true _ rfl rfl rfl) ?_
    simp only [ls0, ls1]
    refine wl_end ?_
    (try simp only [ls0, ls1])
    exact jmp (fun g_ => hj498 _ _ _ (true) g_ HS (by omega) HP0 HO343 HX351 H) rfl
   rw [if_neg c601] at H
   (try rw [(decide_eq_false c601)])
   (try simp only [Bool.not_true, Bool.not_false])
   refine sk_guard (guard_off 23 false 48 rfl rfl true (by decide) rfl) rfl ?_
   refine sk_guard (guard_off 23 false 48 rfl rfl true (by decide) rfl) rfl ?_
   refine sk_guard (guard_off 23 false 48 rfl rfl true (by decide) rfl) rfl ?_
   refine st (.bool true) rfl rfl (xr_pick true _ rfl rfl rfl) ?_
   simp only [ls0, ls1]
   refine mv_ rfl ?_
   refine sk_guard (guard_off 28 false 53 rfl rfl true (by decide) rfl) rfl ?_
   refine sk_guard (guard_off 28 false 53 rfl rfl true (by decide) rfl) rfl ?_
   refine sk_guard (guard_off 28 false 53 rfl rfl true (by decide) rfl) rfl ?_
   simp only [ls0, ls1]
   refine st (.bool true) rfl rfl (xr_pick true _ rfl rfl rfl) ?_
   refine wl_end ?_
   (try simp only [ls0, ls1])
   exact jmp (fun g_ => hj498 _ _ _ (true) g_ HS (by omega) HP0 HO343 HX351 H) rfl
  rw [if_neg c594] at H
  (try rw [(decide_eq_false c594)])
  (try simp only [Bool.not_true, Bool.not_false])
  refine sk_guard (guard_off 18 false 43 rfl rfl true (by decide) rfl) rfl ?_
  refine sk_guard (guard_off 18 false 43 rfl rfl true (by decide) rfl) rfl ?_
  refine sk_guard (guard_off 18 false 43 rfl rfl true (by decide) rfl) rfl ?_
  refine st (.bool true) rfl rfl (xr_pick true _ rfl rfl rfl) ?_
  simp only [ls0, ls1]
  refine mv_ rfl ?_
  refine sk_guard (guard_off 23 false 48 rfl rfl true (by decide) rfl) rfl ?_
  refine sk_guard (guard_off 23 false 48 rfl rfl true (by decide) rfl) rfl ?_
  refine sk_guard (guard_off 23 false 48 rfl rfl true (by decide) rfl) rfl ?_
  simp only [ls0, ls1]
  refine st (.bool true) rfl rfl (xr_pick true _ rfl rfl rfl) ?_
  refine mv_ rfl ?_
  refine sk_guard (guard_off 28 false 53 rfl rfl true (by decide) rfl) rfl ?_
  refine sk_guard (guard_off 28 false 53 rfl rfl true (by decide) rfl) rfl ?_
  simp only [ls0, ls1]
  refine sk_guard (guard_off 28 false 53 rfl rfl true (by decide) rfl) rfl ?_
  refine st (.bool true) rfl rfl (xr_pick true _ rfl rfl rfl) ?_
  refine wl_end ?_
  (try simp only [ls0, ls1])
  exact jmp (fun g_ => hj498 _ _ _ (true) g_ HS (by omega) HP0 HO343 HX351 H) rfl
 rw [if_neg c573] at H
 (try rw [(decide_eq_false c573)])
 (try simp only [Bool.not_true, Bool.not_false])
 refine sk_guard (guard_off 5 false 30 rfl rfl true (by decide) rfl) rfl ?_
 refine sk_guard (guard_off 5 false 30 rfl rfl true (by decide) rfl) rfl ?_
 refine st (.bool true) rfl rfl (xr_pick true _ rfl rfl rfl) ?_
 refine mv_ rfl ?_
 simp only [ls0, ls1]
 refine sk_guard (guard_off 9 false 34 rfl rfl true (by decide) rfl) rfl ?_
 refine sk_guard (guard_off 9 false 34 rfl rfl true (by decide) rfl) rfl ?_
 refine st (.bool true) rfl rfl (xr_pick true _ rfl rfl rfl) ?_
 refine mv_ rfl ?_
 simp only [ls0, ls1]
 refine sk_guard (guard_off 13 false 38 rfl rfl true (by decide) rfl) rfl ?_
 refine sk_guard (guard_off 13 false 38 rfl rfl true (by decide) rfl) rfl ?_
 refine sk_guard (guard_off 13 false 38 rfl rfl true (by decide) rfl) rfl ?_
 refine st (.bool true) rfl rfl (xr_pick true _ rfl rfl rfl) ?_
 simp only [ls0, ls1]
 refine mv_ rfl ?_
 refine sk_guard (guard_off 18 false 43 rfl rfl true (by decide) rfl) rfl ?_
 refine sk_guard (guard_off 18 false 43 rfl rfl true (by decide) rfl) rfl ?_
 refine sk_guard (guard_off 18 false 43 rfl rfl true (by decide) rfl) rfl ?_
 simp only [ls0, ls1]
 refine st (.bool true) rfl rfl (xr_pick true _ rfl rfl rfl) ?_
 refine mv_ rfl ?_
 refine sk_guard (guard_off 23 false 48 rfl rfl true (by decide) rfl) rfl ?_
 refine sk_guard (guard_off 23 false 48 rfl rfl true (by decide) rfl) rfl ?_
 simp only [ls0, ls1]
 refine sk_guard (guard_off 23 false 48 rfl rfl true (by decide) rfl) rfl ?_
 refine st (.bool true) rfl rfl (xr_pick true _ rfl rfl rfl) ?_
 refine mv_ rfl ?_
 refine sk_guard (guard_off 28 false 53 rfl rfl true (by decide) rfl) rfl ?_
 simp only [ls0, ls1]
 refine sk_guard (guard_off 28 false 53 rfl rfl true (by decide) rfl) rfl ?_
 refine sk_guard (guard_off 28 false 53 rfl rfl true (by decide) rfl) rfl ?_
 refine st (.bool true) rfl rfl (xr_pick true _ rfl rfl rfl) ?_
 refine wl_end ?_
 (try simp only [ls0, ls1])
 exact jmp (fun g_ => hj498 _ _ _ (true) g_ HS (by omega) HP0 HO343 HX351 H) rfl
/-- THE ONE PURE STATEMENT of blazonlaw08_ExprInside. -/
def blazonlaw08_ExprInside.Pure : Prop := ∀ (l0 : List Int), l0.length ≤ maxLen → l0.length * 1 ≤ 140737488351232 → (∀ x ∈ l0, (Lit.int .u8 x).wf = true) → ∃ k, blazonlaw08_ExprInside.f k l0 = some true
theorem blazonlaw08_ExprInside.walk (P : blazonlaw08_ExprInside.Pure) (a0 : Option Addr) (len0 cap0 : Nat) (z0 : List Int) (w : World) (w0 : (a0 = none ∧ len0 = 0 ∧ cap0 = 0 ∧ z0 = []) ∨ ∃ x, a0 = some x ∧ len0 ≤ cap0 ∧ cap0 ≤ maxLen ∧ z0.length = cap0 ∧ (∀ i, i < z0.length → w.cell? (x.add i) = some (.int .u8 (z0.getD i 0))) ∧ ∀ n ∈ z0, (Lit.int .u8 n).wf = true) (y0 : len0 * 1 ≤ 140737488351232) :
    Calls Try.prog 12 #[.slice a0 len0 cap0] w fun e w' => e = .returned (.bool true) ∧ Below w.heap.size w w' := by
  obtain ⟨l0, rfl, hr0, hm0, hw0, hc0⟩ := ReadsInt.ofRowC w0
  obtain ⟨k, h⟩ := P l0 hm0 y0 hw0
  refine (blazonlaw08_ExprInside.calls k _ _ l0 true (fun _ => 0) w (fun _ => (by decide : (0 : Nat) < 10)) (Ft.of_C (Kd.heap_int .u8) (Kd.C_of_reads (d := (0 : Int)) (h1 := fun _ => rfl) hr0)) hc0 h).mono ?_
  rintro e w' ⟨c', rfl, hs⟩
  exact ⟨rfl, hs.below (fun _ => by simp)⟩

end Go.Proofs.Yteoccoklbmjiaaa.PExi
