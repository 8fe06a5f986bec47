-- By cprint.py, a program of this work. Lean checks it.
import Derived.Test.YteoccoklbmjiaaaPStnx0
import Derived.Test.YteoccoklbmjiaaaPStnx2
import Derived.Test.YteoccoklbmjiaaaPStnx3
namespace Go.Proofs.Yteoccoklbmjiaaa.PStn
open Go.RowKit Go.Proofs.YteoccoklbmjiaaaW.PrintWords Go.Proofs.YteoccoklbmjiaaaW.PrintLast Go.Proofs.YteoccoklbmjiaaaW.PrintMore
set_option linter.unusedVariables false
set_option linter.unusedSimpArgs false

/-! ### expr_Cursor_named: function 134 -/
mutual
def expr_Cursor_named.l0 (r_ : Rec_expr_Cursor_binary) : Nat → Int → (List Int) → (List (S28)) → Int → ByteArray → Int → Int → (List (S44)) → Option (Int × Int × Int × ByteArray × ByteArray × (List (S44)) × Int × Int × Int)
  | 0, _, _, _, _, _, _, _, _ => none
  | k + 1, a0_2, l0_0, l0_1, t2486, x2559, x3429, x3430, x3433 => (expr_Cursor_Peek.f (some (⟨l0_0, l0_1, x3429, x3430⟩ : S111) : Option S111)).bind fun t3452 => (if t3452 = (⟨#[41]⟩ : ByteArray) then ((expr_Cursor_end.f l0_0 l0_1 x3429 x3430).bind fun bt3461 => (if bt3461.1 = 0 then ((expr_Cursor_held.f k l0_0 l0_1 bt3461.2.1 bt3461.2.2 3 t2486 0 x2559 (⟨#[]⟩ : ByteArray) x3433 a0_2).bind fun bt3474 => (some (bt3474.1, bt3474.2.1, bt3474.2.2.1, bt3474.2.2.2.1, bt3474.2.2.2.2.1, bt3474.2.2.2.2.2.1, bt3474.2.2.2.2.2.2.1, bt3474.2.2.2.2.2.2.2, bt3461.2.2))) else (some (0, 0, 0, (⟨#[]⟩ : ByteArray), (⟨#[]⟩ : ByteArray), ([] : List (S44)), bt3461.1, bt3461.2.1, bt3461.2.2)))) else (if (x3433.length : Int) > 0 then ((expr_Cursor_Take.f l0_0 l0_1 x3429 x3430 (⟨#[44]⟩ : ByteArray)).bind fun bt3535 => (if bt3535.1 = true then ((r_.expr_Cursor_binary l0_0 l0_1 bt3535.2 x3430 1).bind fun bt3545 => (if bt3545.2.2.2.2.2.2.1 = 0 then (if x3433.length < 1759218604441 then ((some (x3433 ++ [(⟨bt3545.1, bt3545.2.1, bt3545.2.2.1, bt3545.2.2.2.1, bt3545.2.2.2.2.1, bt3545.2.2.2.2.2.1⟩ : S44)] : List (S44))).bind fun y3576 => (expr_Cursor_named.l0 r_ k a0_2 l0_0 l0_1 t2486 x2559 bt3545.2.2.2.2.2.2.2.1 bt3545.2.2.2.2.2.2.2.2 y3576)) else (none)) else (some (0, 0, 0, (⟨#[]⟩ : ByteArray), (⟨#[]⟩ : ByteArray), ([] : List (S44)), bt3545.2.2.2.2.2.2.1, bt3545.2.2.2.2.2.2.2.1, bt3545.2.2.2.2.2.2.2.2)))) else (some (0, 0, 0, (⟨#[]⟩ : ByteArray), (⟨#[]⟩ : ByteArray), ([] : List (S44)), 11, bt3535.2, x3430)))) else ((r_.expr_Cursor_binary l0_0 l0_1 x3429 x3430 1).bind fun bt3597 => (if bt3597.2.2.2.2.2.2.1 = 0 then (if x3433.length < 1759218604441 then ((some (x3433 ++ [(⟨bt3597.1, bt3597.2.1, bt3597.2.2.1, bt3597.2.2.2.1, bt3597.2.2.2.2.1, bt3597.2.2.2.2.2.1⟩ : S44)] : List (S44))).bind fun y3628 => (expr_Cursor_named.l0 r_ k a0_2 l0_0 l0_1 t2486 x2559 bt3597.2.2.2.2.2.2.2.1 bt3597.2.2.2.2.2.2.2.2 y3628)) else (none)) else (some (0, 0, 0, (⟨#[]⟩ : ByteArray), (⟨#[]⟩ : ByteArray), ([] : List (S44)), bt3597.2.2.2.2.2.2.1, bt3597.2.2.2.2.2.2.2.1, bt3597.2.2.2.2.2.2.2.2))))))
def expr_Cursor_named.j0 (r_ : Rec_expr_Cursor_binary) : Nat → Int → Int → (List Int) → (List (S28)) → Int → Int → ByteArray → Option (Int × Int × Int × ByteArray × ByteArray × (List (S44)) × Int × Int × Int)
  | 0, _, _, _, _, _, _, _ => none
  | k + 1, a0_2, a0_3, l0_0, l0_1, t2486, x2556, x2559 => (expr_Cursor_Peek.f (some (⟨l0_0, l0_1, x2556, a0_3⟩ : S111) : Option S111)).bind fun t2567 => (if t2567 = (⟨#[40]⟩ : ByteArray) then ((expr_Cursor_down.f l0_0 l0_1 x2556 a0_3).bind fun bt2580 => (if bt2580.1 = 0 then (expr_Cursor_named.l0 r_ k a0_2 l0_0 l0_1 t2486 x2559 bt2580.2.1 bt2580.2.2 ([] : List (S44))) else (some (0, 0, 0, (⟨#[]⟩ : ByteArray), (⟨#[]⟩ : ByteArray), ([] : List (S44)), bt2580.1, bt2580.2.1, bt2580.2.2)))) else (some (2, t2486, 0, x2559, (⟨#[]⟩ : ByteArray), ([] : List (S44)), 0, x2556, a0_3)))
end
def expr_Cursor_named.g (r_ : Rec_expr_Cursor_binary) (k : Nat) (l0_0 : List Int) (l0_1 : List (S28)) (a0_2 : Int) (a0_3 : Int) : Option (Int × Int × Int × ByteArray × ByteArray × (List (S44)) × Int × Int × Int) := (expr_Cursor_Pos.f (some (⟨l0_0, l0_1, a0_2, a0_3⟩ : S111) : Option S111)).bind fun t2486 => ((expr_Cursor_Ident.f k l0_0 l0_1 a0_2 a0_3).bind fun bt2503 => (if bt2503.2.1 = true then ((expr_Cursor_Take.f l0_0 l0_1 bt2503.2.2 a0_3 (⟨#[46]⟩ : ByteArray)).bind fun bt3653 => (if bt3653.1 = true then ((expr_Cursor_Ident.f k l0_0 l0_1 bt3653.2 a0_3).bind fun bt3663 => (if bt3663.2.1 = true then (if (⟨#[46]⟩ : ByteArray).size + bt3663.1.size ≤ 9223372036854775807 then (if bt2503.1.size + ((⟨#[46]⟩ : ByteArray) ++ bt3663.1).size ≤ 9223372036854775807 then (expr_Cursor_named.j0 r_ k a0_2 a0_3 l0_0 l0_1 t2486 bt3663.2.2 (bt2503.1 ++ ((⟨#[46]⟩ : ByteArray) ++ bt3663.1))) else (none)) else (none)) else (some (0, 0, 0, (⟨#[]⟩ : ByteArray), (⟨#[]⟩ : ByteArray), ([] : List (S44)), 11, bt3663.2.2, a0_3)))) else (expr_Cursor_named.j0 r_ k a0_2 a0_3 l0_0 l0_1 t2486 bt3653.2 bt2503.1))) else (some (0, 0, 0, (⟨#[]⟩ : ByteArray), (⟨#[]⟩ : ByteArray), ([] : List (S44)), 11, bt2503.2.2, a0_3))))

set_option maxHeartbeats 8000000 in
set_option maxRecDepth 100000 in
theorem expr_Cursor_named.step (r_ : Rec_expr_Cursor_binary) (IH : Rec_expr_Cursor_binary.Good r_) (k : Nat) (g0 : Nat) (A0_0 : Option Addr) (c0_0 : Nat) (l0_0 : List Int) (A0_1 : Option Addr) (c0_1 : Nat) (l0_1 : List (S28)) (a0_2 : Int) (a0_3 : Int) (r1 : Int) (r2 : Int) (r3 : Int) (r4 : ByteArray) (r5 : ByteArray) (r6 : List (S44)) (r7 : Int) (r8 : Int) (r9 : Int) (c : Nat → Nat) (w : World) (hc : ∀ k, c k < 10) (HP0 : Bx c 1 w g0 111 ([.slice A0_0 l0_0.length c0_0, .slice A0_1 l0_1.length c0_1, .int .i64 a0_2, .int .i64 a0_3])) (HP0_0 : Ft c [0] w (fun w_ => (Kd.int .u8).C w_ A0_0 l0_0.length l0_0)) (HCP0_0 : l0_0.length ≤ c0_0) (HP0_1 : Ft c [0] w (fun w_ => k28.C w_ A0_1 l0_1.length l0_1)) (HCP0_1 : l0_1.length ≤ c0_1) (H : expr_Cursor_named.g r_ k l0_0 l0_1 a0_2 a0_3 = some (r1, r2, r3, r4, r5, r6, r7, r8, r9)) :
    Calls Try.prog 134 #[.pointer (some ⟨g0, 0, none⟩)] w fun e w' => ∃ (c' : Nat → Nat) (A_r6 : Option Addr) (c_r6 : Nat), e = .returned (.tuple #[.agg #[.int .i64 r1, .int .i64 r2, .int .i64 r3, .string r4, .string r5, .slice A_r6 r6.length c_r6], .int .i64 r7]) ∧ Step c w c' w' [1] ∧ Ft c' [0] w' (fun w_ => k44.C w_ A_r6 r6.length r6) ∧ r6.length ≤ c_r6 ∧ Bx c' 1 w' g0 111 ([.slice A0_0 l0_0.length c0_0, .slice A0_1 l0_1.length c0_1, .int .i64 r8, .int .i64 r9]) := by
 unfold expr_Cursor_named.g at H
 have HS := Step.refl c w [1]
 go_enter Try.func134, Try.ntmps134
 refine wp_seq_k fun K2446 hK2446 => ?_
 refine wl_region ?_
 refine bx_new (C := c) 44 ([.int .i64 0, .int .i64 0, .int .i64 0, .string (⟨#[]⟩ : ByteArray), .string (⟨#[]⟩ : ByteArray), .slice none 0 0]) 11 rfl rfl (by first | (go_simp; done) | (go_simp; rfl)) ?_
 intro g2447 w2448 C2449 HX2450 hs2451
 replace HP0 := HP0.thru hs2451 rfl
 replace HP0_0 := HP0_0.thru hs2451 rfl
 replace HP0_1 := HP0_1.thru hs2451 rfl
 replace HS := HS.trans hs2451 hc rfl
 (try simp only [ls0, ls1])
 refine st (.int .i64 0) rfl rfl (xr_assign _ rfl rfl) ?_
 refine wl_end ?_
 (try simp only [ls0, ls1])
 refine hK2446 _ _ ?_
 (try clear hK2446 K2446)
 refine wp_seq_k fun K2452 hK2452 => ?_
 (try simp only [ls0, ls1])
 refine al_start (lb 10 0) rfl rfl rfl (fun w_ => w_.heap[g0]? = some (.cells (List.toArray ([.slice A0_0 l0_0.length c0_0, .slice A0_1 l0_1.length c0_1, .int .i64 a0_2, .int .i64 a0_3])) 111 (0, 0))) (HP0.drew).2 [9] ?_
 replace HP0 := HP0.drew
 replace HP0_0 := HP0_0.drew
 replace HP0_1 := HP0_1.drew
 replace HX2450 := HX2450.drew
 replace HS := Step.ofDrew HS
 generalize w2448.drew = w2484 at *
 refine al_mv 0 (lb 10 1) rfl rfl (by kernel_rfl) (fun _ _ _ => id) rfl ?_
 refine al_pure 1 14 (.pointer (some ⟨g0, 0, none⟩)) (lb 10 3) rfl rfl (by kernel_rfl) (fun _ _ _ => id) rfl (fun w_ => xr_nilCheck _ rfl rfl) ?_
 refine al_pure 2 15 (.pointer (some ⟨g0, 2, none⟩)) (lb 10 7) rfl rfl (by kernel_rfl) (fun _ _ _ => id) rfl (fun w_ => xr_fieldAddr _ _ rfl rfl (bx_field2 Try.underlying111 rfl rfl (by kernel_rfl))) ?_
 refine al_mv 4 (lb 10 23) rfl rfl (by kernel_rfl) (fun _ _ _ => id) rfl ?_
 simp only [ls0, ls1]
 refine al_take 3 16 (.int .i64 a0_2) (lb 10 31) rfl rfl (by kernel_rfl) (fun _ _ _ => id) rfl (fun w_ hS_ => xr_load _ _ rfl rfl (load_cell Try.underlying3 rfl (bx_cell hS_ 2 rfl))) (HP0).2 ?_
 refine al_two 5 7 (lb 10 63) (lb 10 159) rfl rfl rfl rfl (by kernel_rfl) rfl rfl (fun K_ hK_ => ?_) (fun K_ hK_ => ?_)
 ·show _
  have HP2485 : Ft C2449 [0, 1] w2484 (fun w_ => (Kd.ptr 111 k111).K w_ (some (⟨l0_0, l0_1, a0_2, a0_3⟩ : S111)) [.pointer (some ⟨g0, 0, none⟩)]) := ptr_mk (Ft.more (HP0.ft) rfl) (k111_mkF _ _ (⟨l0_0, l0_1, a0_2, a0_3⟩ : S111) HCP0_0 (Ft.more HP0_0 rfl) HCP0_1 (Ft.more HP0_1 rfl))
  obtain ⟨t2486, A2487, H⟩ := bnd H
  refine goes_ Try.func44 (by kernel_rfl) rfl #[.pointer (some ⟨g0, 0, none⟩)] rfl rfl rfl (mpe_ rfl) ?_
  refine (expr_Cursor_Pos.calls (.pointer (some ⟨g0, 0, none⟩)) (some (⟨l0_0, l0_1, a0_2, a0_3⟩ : S111) : Option S111) t2486  (fun z_ => pal [(0, 0), (1, 0)] (C2449 z_)) w2484 (fun _ => pal_lt rfl _) (Ft.arg HP2485 rfl) A2487).mono ?_
  rintro _ w2489 ⟨C2490, rfl, hs2491⟩
  refine ⟨_, rfl, ?_⟩
  replace hs2491 := Step.lift (U := [(0, 0)]) hs2491 [] rfl rfl
  generalize up C2449 C2490 w2484.heap.size [(0, 0)] = C2490_ at hs2491
  replace HP0 := HP0.thru hs2491 rfl
  replace HP0_0 := HP0_0.thru hs2491 rfl
  replace HP0_1 := HP0_1.thru hs2491 rfl
  replace HX2450 := HX2450.thru hs2491 rfl
  replace HS := HS.trans hs2491 hc rfl
  refine hK_ _ _ (HP0).2 ?_
  clear hK_ K_
  (try simp only [Act.put, List.setIfInBounds_toArray, ls0, ls1])
  refine al_pure 6 19 (.agg #[.int .i64 2, .int .i64 t2486, .int .i64 0, .string (⟨#[]⟩ : ByteArray), .string (⟨#[]⟩ : ByteArray), .slice none 0 0]) (lb 10 127) rfl rfl (by kernel_rfl) (fun _ _ _ => id) rfl (fun w_ => xr_build #[(0, .int .i64 2), (1, .int .i64 t2486)] (.agg #[.int .i64 2, .int .i64 t2486, .int .i64 0, .string (⟨#[]⟩ : ByteArray), .string (⟨#[]⟩ : ByteArray), .slice none 0 0]) rfl (mp_ rfl) (by first | rfl | (go_simp; done) | (go_simp; rfl) | (go_simp; exact i64_w _) | (go_simp; exact i32_w _))) ?_
  refine al_one 7 (lb 10 255) rfl rfl (by kernel_rfl) rfl (fun K_ hK_ => ?_)
  refine bx_new_step (C := C2490_) 44 ([.int .i64 0, .int .i64 0, .int .i64 0, .string (⟨#[]⟩ : ByteArray), .string (⟨#[]⟩ : ByteArray), .slice none 0 0]) 12 rfl rfl (by first | (go_simp; done) | (go_simp; rfl)) ?_
  intro g2492 w2493 C2494 HX2495 hs2496
  replace HP0 := HP0.thru hs2496 rfl
  replace HP0_0 := HP0_0.thru hs2496 rfl
  replace HP0_1 := HP0_1.thru hs2496 rfl
  replace HX2450 := HX2450.thru hs2496 rfl
  replace HS := HS.trans hs2496 hc rfl
  refine hK_ _ _ (HP0).2 ?_
  clear hK_ K_
  (try simp only [Act.put, List.setIfInBounds_toArray, ls0, ls1])
  refine al_as 8 (lb 10 511) rfl rfl (by kernel_rfl) (fun _ _ _ => id) rfl ?_
  refine al_last 9 (lb 10 1023) rfl rfl (by kernel_rfl) rfl (fun K_ hK_ => ?_)
  refine bx_store_step (C := C2494) (z := 12) (g := g2492) (j := 0) (tb := 44) (u := .agg #[.int .i64 2, .int .i64 t2486, .int .i64 0, .string (⟨#[]⟩ : ByteArray), .string (⟨#[]⟩ : ByteArray), .slice none 0 0]) (seg := [.int .i64 2, .int .i64 t2486, .int .i64 0, .string (⟨#[]⟩ : ByteArray), .string (⟨#[]⟩ : ByteArray), .slice none 0 0]) (xs := [.int .i64 0, .int .i64 0, .int .i64 0, .string (⟨#[]⟩ : ByteArray), .string (⟨#[]⟩ : ByteArray), .slice none 0 0]) rfl rfl rfl rfl rfl rfl (by first | kernel_rfl | rfl) (by simp [Value.oneCell']) HX2495 (by simp only [List.length_cons, List.length_nil]; omega) rfl ?_
  intro w2497 HX2498 hs2499
  replace HP0 := HP0.thru hs2499 rfl
  replace HP0_0 := HP0_0.thru hs2499 rfl
  replace HP0_1 := HP0_1.thru hs2499 rfl
  replace HX2450 := HX2450.thru hs2499 rfl
  replace HS := HS.trans hs2499 hc rfl
  refine hK_ _ _ ?_
  clear hK_ K_
  (try simp only [Act.put, List.setIfInBounds_toArray, ls0, ls1])
  refine al_end (by kernel_rfl) ?_
  (try simp only [ls0, ls1])
  refine hK2452 _ _ ?_
  (try clear hK2452 K2452)
  refine wp_seq_k fun K2500 hK2500 => ?_
  refine wl_region ?_
  refine st (.bool false) rfl rfl (xr_assign _ rfl rfl) ?_
  refine wl_end ?_
  (try simp only [ls0, ls1])
  refine hK2500 _ _ ?_
  (try clear hK2500 K2500)
  refine wp_seq_k fun K2501 hK2501 => ?_
  refine wp_seq_k fun K2502 hK2502 => ?_
  refine wl_region ?_
  refine mv_ rfl ?_
  obtain ⟨⟨t2503, t2504, t2505⟩, A2506, H⟩ := bnd H
  (try dsimp only at H)
  refine st_call #[.pointer (some ⟨g0, 0, none⟩)] rfl rfl Try.func49 (by kernel_rfl) rfl rfl (mp_ rfl) ?_
  refine (expr_Cursor_Ident.calls k g0 A0_0 c0_0 l0_0 A0_1 c0_1 l0_1 a0_2 a0_3 t2503 t2504 t2505  (fun z_ => pal [(0, 0), (1, 1)] (C2494 z_)) w2497 (fun _ => pal_lt rfl _) (Bx.arg HP0 rfl) (Ft.arg HP0_0 rfl) HCP0_0 (Ft.arg HP0_1 rfl) HCP0_1 A2506).mono ?_
  rintro _ w2508 ⟨C2509, rfl, hs2510, HX2511⟩
  refine ⟨_, rfl, ?_⟩
  replace HX2511 := Bx.res (U := [(0, 0), (1, 1)]) (j := 1) HX2511 hs2510 (by rfl) (by decide) rfl
  replace hs2510 := Step.lift (U := [(0, 0), (1, 1)]) hs2510 [1] rfl rfl
  generalize up C2494 C2509 w2497.heap.size [(0, 0), (1, 1)] = C2509_ at HX2511 hs2510
  replace HP0_0 := HP0_0.thru hs2510 rfl
  replace HP0_1 := HP0_1.thru hs2510 rfl
  replace HX2450 := HX2450.thru hs2510 rfl
  replace HX2498 := HX2498.thru hs2510 rfl
  replace HS := HS.trans hs2510 hc rfl
  (try simp only [ls0, ls1])
  refine mv_ rfl ?_
  refine st (.string t2503) rfl rfl (xr_extract (.tuple #[.string t2503, .bool t2504]) _ rfl rfl rfl) ?_
  refine st (.bool t2504) rfl rfl (xr_extract (.tuple #[.string t2503, .bool t2504]) _ rfl rfl rfl) ?_
  refine st (.pointer (some ⟨g2492, 3, none⟩)) rfl rfl (xr_fieldAddr _ _ rfl rfl (bx_field2 Try.underlying44 rfl rfl (by kernel_rfl))) ?_
  simp only [ls0, ls1]
  refine bx_store (C := C2509_) (z := 12) (g := g2492) (j := 3) (tb := 44) (u := .string t2503) (seg := [.string t2503]) (xs := [.int .i64 2, .int .i64 t2486, .int .i64 0, .string (⟨#[]⟩ : ByteArray), .string (⟨#[]⟩ : ByteArray), .slice none 0 0]) rfl rfl rfl rfl rfl rfl (by first | kernel_rfl | rfl) (by simp [Value.oneCell']) HX2498 (by simp only [List.length_cons, List.length_nil]; omega) rfl ?_
  intro w2512 HX2513 hs2514
  replace HX2511 := HX2511.thru hs2514 rfl
  replace HP0_0 := HP0_0.thru hs2514 rfl
  replace HP0_1 := HP0_1.thru hs2514 rfl
  replace HX2450 := HX2450.thru hs2514 rfl
  replace HS := HS.trans hs2514 hc rfl
  (try simp only [ls0, ls1])
  refine as_ rfl ?_
  refine wl_end ?_
  (try simp only [ls0, ls1])
  refine hK2502 _ _ ?_
  (try clear hK2502 K2502)
  refine wp_seq_k fun K2515 hK2515 => ?_
  refine wl_region ?_
  refine mv_ rfl ?_
  refine st (.bool (!t2504)) rfl rfl (xr_un (.bool t2504) _ rfl rfl (by first | rfl | (go_simp; done) | (go_simp; rfl) | (go_simp; exact i64_w _) | (go_simp; exact i32_w _))) ?_
  refine wl_end ?_
  (try simp only [ls0, ls1])
  refine hK2515 _ _ ?_
  (try clear hK2515 K2515)
  by_cases c2516 : t2504 = true
  ·rw [if_pos c2516] at H
   (try rw [c2516])
   (try simp only [Bool.not_true, Bool.not_false])
   refine wp_cond_false rfl ?_
   refine wp_skip ?_
   (try simp only [ls0, ls1])
   refine hK2501 _ _ ?_
   (try clear hK2501 K2501)
   refine wp_seq_k fun K2517 hK2517 => ?_
   have hj2550 : ∀ (kq2561 : Nat) (C2551 : Nat → Nat) (w2552 : World) (x2556 : Int) (x2559 : ByteArray) (g_ : Nat → Value), Step c w C2551 w2552 [1] → kq2561 ≤ k → (Ft C2551 [0] w2552 (fun w_ => (Kd.int .u8).C w_ A0_0 l0_0.length l0_0)) → (Ft C2551 [0] w2552 (fun w_ => k28.C w_ A0_1 l0_1.length l0_1)) → (Bx C2551 1 w2552 g0 111 ([.slice A0_0 l0_0.length c0_0, .slice A0_1 l0_1.length c0_1, .int .i64 x2556, .int .i64 a0_3])) → (Bx C2551 11 w2552 g2447 44 ([.int .i64 0, .int .i64 0, .int .i64 0, .string (⟨#[]⟩ : ByteArray), .string (⟨#[]⟩ : ByteArray), .slice none 0 0])) → (Bx C2551 12 w2552 g2492 44 ([.int .i64 2, .int .i64 t2486, .int .i64 0, .string x2559, .string (⟨#[]⟩ : ByteArray), .slice none 0 0])) → expr_Cursor_named.j0 r_ kq2561 a0_2 a0_3 l0_0 l0_1 t2486 x2556 x2559 = some (r1, r2, r3, r4, r5, r6, r7, r8, r9) → K2517 ⟨#[.pointer (some ⟨g0, 0, none⟩), (g_ 1), .pointer (some ⟨g2447, 0, none⟩), (g_ 3), .int .i64 a0_2, .pointer (some ⟨g2492, 0, none⟩), (g_ 6), (g_ 7), (g_ 8), (g_ 9), (g_ 10), (g_ 11), (g_ 12), (g_ 13), (g_ 14), (g_ 15), (g_ 16), (g_ 17), (g_ 18), (g_ 19), (g_ 20), (g_ 21), (g_ 22), (g_ 23), (g_ 24), (g_ 25), (g_ 26), (g_ 27), (g_ 28), (g_ 29), (g_ 30), (g_ 31), (g_ 32), (g_ 33), (g_ 34), (g_ 35), (g_ 36), (g_ 37), (g_ 38), (g_ 39), (g_ 40), (g_ 41), (g_ 42), (g_ 43), (g_ 44), (g_ 45), (g_ 46), (g_ 47), (g_ 48), (g_ 49), (g_ 50), (g_ 51), (g_ 52), (g_ 53), (g_ 54), (g_ 55), (g_ 56), (g_ 57), (g_ 58), (g_ 59), (g_ 60), (g_ 61), (g_ 62), (g_ 63), (g_ 64), (g_ 65), (g_ 66), (g_ 67), (g_ 68), (g_ 69), (g_ 70), (g_ 71), (g_ 72), (g_ 73), (g_ 74), (g_ 75), (g_ 76), (g_ 77), (g_ 78), (g_ 79), (g_ 80), (g_ 81), (g_ 82), (g_ 83), (g_ 84), (g_ 85), (g_ 86), (g_ 87), (g_ 88), (g_ 89), (g_ 90), (g_ 91), (g_ 92), (g_ 93), (g_ 94), (g_ 95)], []⟩ w2552 := by
    intro kq2561 C2551 w2552 x2556 x2559 g_ HS2553 hk2562 HJ2554 HJ2555 HJ2557 HJ2558 HJ2560 H
    cases kq2561 with
    | zero => exact absurd H (by simp [expr_Cursor_named.j0])
    | succ k2563 =>
     simp only [expr_Cursor_named.j0] at H
     refine hK2517 _ _ ?_
     (try clear hK2517)
     refine wp_seq_k fun K2564 hK2564 => ?_
     refine wp_seq_k fun K2565 hK2565 => ?_
     refine wl_region ?_
     refine mv_ rfl ?_
     have HP2566 : Ft C2551 [0, 1] w2552 (fun w_ => (Kd.ptr 111 k111).K w_ (some (⟨l0_0, l0_1, x2556, a0_3⟩ : S111)) [.pointer (some ⟨g0, 0, none⟩)]) := ptr_mk (Ft.more (HJ2557.ft) rfl) (k111_mkF _ _ (⟨l0_0, l0_1, x2556, a0_3⟩ : S111) HCP0_0 (Ft.more HJ2554 rfl) HCP0_1 (Ft.more HJ2555 rfl))
     obtain ⟨t2567, A2568, H⟩ := bnd H
     refine st_call #[.pointer (some ⟨g0, 0, none⟩)] rfl rfl Try.func43 (by kernel_rfl) rfl rfl (mp_ rfl) ?_
     refine (expr_Cursor_Peek.calls (.pointer (some ⟨g0, 0, none⟩)) (some (⟨l0_0, l0_1, x2556, a0_3⟩ : S111) : Option S111) t2567  (fun z_ => pal [(0, 0), (1, 0)] (C2551 z_)) w2552 (fun _ => pal_lt rfl _) (Ft.arg HP2566 rfl) A2568).mono ?_
     rintro _ w2570 ⟨C2571, rfl, hs2572⟩
     refine ⟨_, rfl, ?_⟩
     replace hs2572 := Step.lift (U := [(0, 0)]) hs2572 [] rfl rfl
     generalize up C2551 C2571 w2552.heap.size [(0, 0)] = C2571_ at hs2572
     replace HJ2557 := HJ2557.thru hs2572 rfl
     replace HJ2554 := HJ2554.thru hs2572 rfl
     replace HJ2555 := HJ2555.thru hs2572 rfl
     replace HJ2558 := HJ2558.thru hs2572 rfl
     replace HJ2560 := HJ2560.thru hs2572 rfl
     replace HS2553 := HS2553.trans hs2572 hc rfl
     (try simp only [ls0, ls1])
     refine st (.bool (!decide (t2567 = (⟨#[40]⟩ : ByteArray)))) rfl rfl (xr_bin _ _ _ rfl rfl rfl (B.neq_str _ _)) ?_
     refine wl_end ?_
     (try simp only [ls0, ls1])
     refine hK2565 _ _ ?_
     (try clear hK2565 K2565)
     by_cases c2573 : t2567 = (⟨#[40]⟩ : ByteArray)
     ·rw [if_pos c2573] at H
      (try rw [(decide_eq_true c2573)])
      (try simp only [Bool.not_true, Bool.not_false])
      refine wp_cond_false rfl ?_
      refine wp_skip ?_
      (try simp only [ls0, ls1])
      refine hK2564 _ _ ?_
      (try clear hK2564 K2564)
      refine wp_seq_k fun K2574 hK2574 => ?_
      refine wl_region ?_
      refine st (.pointer (some ⟨g2492, 0, none⟩)) rfl rfl (xr_fieldAddr _ _ rfl rfl (bx_field2 Try.underlying44 rfl rfl (by kernel_rfl))) ?_
      refine bx_store (C := C2571_) (z := 12) (g := g2492) (j := 0) (tb := 44) (u := .int .i64 3) (seg := [.int .i64 3]) (xs := [.int .i64 2, .int .i64 t2486, .int .i64 0, .string x2559, .string (⟨#[]⟩ : ByteArray), .slice none 0 0]) rfl rfl rfl rfl rfl rfl (by first | kernel_rfl | rfl) (by simp [Value.oneCell']) HJ2560 (by simp only [List.length_cons, List.length_nil]; omega) rfl ?_
      intro w2575 HX2576 hs2577
      replace HJ2557 := HJ2557.thru hs2577 rfl
      replace HJ2554 := HJ2554.thru hs2577 rfl
      replace HJ2555 := HJ2555.thru hs2577 rfl
      replace HJ2558 := HJ2558.thru hs2577 rfl
      replace HS2553 := HS2553.trans hs2577 hc rfl
      (try simp only [ls0, ls1])
      refine wl_end ?_
      (try simp only [ls0, ls1])
      refine hK2574 _ _ ?_
      (try clear hK2574 K2574)
      refine wp_seq_k fun K2578 hK2578 => ?_
      refine wp_seq_k fun K2579 hK2579 => ?_
      refine wl_region ?_
      refine mv_ rfl ?_
      obtain ⟨⟨t2580, t2581, t2582⟩, A2583, H⟩ := bnd H
      (try dsimp only at H)
      refine st_call #[.pointer (some ⟨g0, 0, none⟩)] rfl rfl Try.func121 (by kernel_rfl) rfl rfl (mp_ rfl) ?_
      refine (expr_Cursor_down.calls g0 A0_0 c0_0 l0_0 A0_1 c0_1 l0_1 x2556 a0_3 t2580 t2581 t2582  (fun z_ => pal [(0, 0), (1, 1)] (C2571_ z_)) w2575 (fun _ => pal_lt rfl _) (Bx.arg HJ2557 rfl) (Ft.arg HJ2554 rfl) HCP0_0 (Ft.arg HJ2555 rfl) HCP0_1 A2583).mono ?_
      rintro _ w2585 ⟨C2586, rfl, hs2587, HX2588⟩
      refine ⟨_, rfl, ?_⟩
      replace HX2588 := Bx.res (U := [(0, 0), (1, 1)]) (j := 1) HX2588 hs2587 (by rfl) (by decide) rfl
      replace hs2587 := Step.lift (U := [(0, 0), (1, 1)]) hs2587 [1] rfl rfl
      generalize up C2571_ C2586 w2575.heap.size [(0, 0), (1, 1)] = C2586_ at HX2588 hs2587
      replace HJ2554 := HJ2554.thru hs2587 rfl
      replace HJ2555 := HJ2555.thru hs2587 rfl
      replace HJ2558 := HJ2558.thru hs2587 rfl
      replace HX2576 := HX2576.thru hs2587 rfl
      replace HS2553 := HS2553.trans hs2587 hc rfl
      (try simp only [ls0, ls1])
      refine as_ rfl ?_
      refine wl_end ?_
      (try simp only [ls0, ls1])
      refine hK2579 _ _ ?_
      (try clear hK2579 K2579)
      refine wp_seq_k fun K2589 hK2589 => ?_
      refine wl_region ?_
      refine mv_ rfl ?_
      refine st (.bool (!decide (t2580 = 0))) rfl rfl (xr_bin _ _ _ rfl rfl rfl (B.neq_i64 _ _)) ?_
      refine wl_end ?_
      (try simp only [ls0, ls1])
      refine hK2589 _ _ ?_
      (try clear hK2589 K2589)
      by_cases c2590 : t2580 = 0
      ·rw [if_pos c2590] at H
       (try rw [(decide_eq_true c2590)])
       (try simp only [Bool.not_true, Bool.not_false])
       refine wp_cond_false rfl ?_
       refine wp_skip ?_
       (try simp only [ls0, ls1])
       refine hK2578 _ _ ?_
       (try clear hK2578 K2578)
       refine wp_seq_k fun K2591 hK2591 => ?_
       refine wp_block ?_
       (try simp only [ls0, ls1])
       refine wp_looped (looped_fin (fun kq3442 a_ w3441 => ∃ (C3440 : Nat → Nat) (x3429 : Int) (x3430 : Int) (A3434 : Option Addr) (n3435 cp3436 : Nat) (x3433 : List (S44)) (g_ : Nat → Value), a_ = ⟨#[.pointer (some ⟨g0, 0, none⟩), (g_ 1), .pointer (some ⟨g2447, 0, none⟩), (g_ 3), .int .i64 a0_2, .pointer (some ⟨g2492, 0, none⟩), (g_ 6), (g_ 7), (g_ 8), (g_ 9), (g_ 10), (g_ 11), (g_ 12), (g_ 13), (g_ 14), (g_ 15), (g_ 16), (g_ 17), (g_ 18), (g_ 19), (g_ 20), (g_ 21), (g_ 22), (g_ 23), (g_ 24), (g_ 25), (g_ 26), (g_ 27), (g_ 28), (g_ 29), (g_ 30), (g_ 31), (g_ 32), (g_ 33), (g_ 34), (g_ 35), (g_ 36), (g_ 37), (g_ 38), (g_ 39), (g_ 40), (g_ 41), (g_ 42), (g_ 43), (g_ 44), (g_ 45), (g_ 46), (g_ 47), (g_ 48), (g_ 49), (g_ 50), (g_ 51), (g_ 52), (g_ 53), (g_ 54), (g_ 55), (g_ 56), (g_ 57), (g_ 58), (g_ 59), (g_ 60), (g_ 61), (g_ 62), (g_ 63), (g_ 64), (g_ 65), (g_ 66), (g_ 67), (g_ 68), (g_ 69), (g_ 70), (g_ 71), (g_ 72), (g_ 73), (g_ 74), (g_ 75), (g_ 76), (g_ 77), (g_ 78), (g_ 79), (g_ 80), (g_ 81), (g_ 82), (g_ 83), (g_ 84), (g_ 85), (g_ 86), (g_ 87), (g_ 88), (g_ 89), (g_ 90), (g_ 91), (g_ 92), (g_ 93), (g_ 94), (g_ 95)], []⟩ ∧ Step c w C3440 w3441 [1] ∧ kq3442 ≤ k2563 ∧ (Ft C3440 [0] w3441 (fun w_ => (Kd.int .u8).C w_ A0_0 l0_0.length l0_0)) ∧ (Ft C3440 [0] w3441 (fun w_ => k28.C w_ A0_1 l0_1.length l0_1)) ∧ (Bx C3440 1 w3441 g0 111 ([.slice A0_0 l0_0.length c0_0, .slice A0_1 l0_1.length c0_1, .int .i64 x3429, .int .i64 x3430])) ∧ (Bx C3440 11 w3441 g2447 44 ([.int .i64 0, .int .i64 0, .int .i64 0, .string (⟨#[]⟩ : ByteArray), .string (⟨#[]⟩ : ByteArray), .slice none 0 0])) ∧ (Own C3440 13 w3441 k44 44 (.slice A3434 n3435 cp3436) x3433) ∧ (n3435 ≤ cp3436) ∧ (Bx C3440 12 w3441 g2492 44 ([.int .i64 3, .int .i64 t2486, .int .i64 0, .string x2559, .string (⟨#[]⟩ : ByteArray), .slice A3434 n3435 cp3436])) ∧ expr_Cursor_named.l0 r_ kq3442 a0_2 l0_0 l0_1 t2486 x2559 x3429 x3430 x3433 = some (r1, r2, r3, r4, r5, r6, r7, r8, r9)) ?step fun hL_ => ?init)
       case init =>
        exact jmpL (fun a_ h_ => hL_ k2563 a_ _ h_) (fun g_ => ⟨_, t2581, t2582, none, 0, 0, ([] : List (S44)), g_, rfl, HS2553, Nat.le_refl _, HJ2554, HJ2555, HX2588, HJ2558, (Own.nil _ _ _ _ _), (Nat.le_refl 0), HX2576, H⟩) rfl
       case step =>
        intro kq3442 ih3445 a3446 w3441 hr3447
        obtain ⟨C3440, x3429, x3430, A3434, n3435, cp3436, x3433, g_, rfl, HS3443, hk3444, HJ3427, HJ3428, HJ3431, HJ3432, HJ3438, HC3437, HJ3439, H⟩ := hr3447
        refine looped_round ?_
        obtain rfl : n3435 = x3433.length := HJ3438.at_.1
        cases kq3442 with
        | zero => exact absurd H (by simp [expr_Cursor_named.l0])
        | succ k3448 =>
         simp only [expr_Cursor_named.l0] at H
         refine wp_seq_k fun K3449 hK3449 => ?_
         refine wp_seq_k fun K3450 hK3450 => ?_
         refine wl_region ?_
         refine mv_ rfl ?_
         have HP3451 : Ft C3440 [0, 1] w3441 (fun w_ => (Kd.ptr 111 k111).K w_ (some (⟨l0_0, l0_1, x3429, x3430⟩ : S111)) [.pointer (some ⟨g0, 0, none⟩)]) := ptr_mk (Ft.more (HJ3431.ft) rfl) (k111_mkF _ _ (⟨l0_0, l0_1, x3429, x3430⟩ : S111) HCP0_0 (Ft.more HJ3427 rfl) HCP0_1 (Ft.more HJ3428 rfl))
         obtain ⟨t3452, A3453, H⟩ := bnd H
         refine st_call #[.pointer (some ⟨g0, 0, none⟩)] rfl rfl Try.func43 (by kernel_rfl) rfl rfl (mp_ rfl) ?_
         refine (expr_Cursor_Peek.calls (.pointer (some ⟨g0, 0, none⟩)) (some (⟨l0_0, l0_1, x3429, x3430⟩ : S111) : Option S111) t3452  (fun z_ => pal [(0, 0), (1, 0)] (C3440 z_)) w3441 (fun _ => pal_lt rfl _) (Ft.arg HP3451 rfl) A3453).mono ?_
         rintro _ w3455 ⟨C3456, rfl, hs3457⟩
         refine ⟨_, rfl, ?_⟩
         replace hs3457 := Step.lift (U := [(0, 0)]) hs3457 [] rfl rfl
         generalize up C3440 C3456 w3441.heap.size [(0, 0)] = C3456_ at hs3457
         replace HJ3431 := HJ3431.thru hs3457 rfl
         replace HJ3427 := HJ3427.thru hs3457 rfl
         replace HJ3428 := HJ3428.thru hs3457 rfl
         replace HJ3432 := HJ3432.thru hs3457 rfl
         replace HJ3439 := HJ3439.thru hs3457 rfl
         replace HJ3438 := HJ3438.thru hs3457 rfl
         replace HS3443 := HS3443.trans hs3457 hc rfl
         (try simp only [ls0, ls1])
         refine st (.bool (!decide (t3452 = (⟨#[41]⟩ : ByteArray)))) rfl rfl (xr_bin _ _ _ rfl rfl rfl (B.neq_str _ _)) ?_
         refine wl_end ?_
         (try simp only [ls0, ls1])
         refine hK3450 _ _ ?_
         (try clear hK3450 K3450)
         by_cases c3458 : t3452 = (⟨#[41]⟩ : ByteArray)
         ·rw [if_pos c3458] at H
          (try rw [(decide_eq_true c3458)])
          (try simp only [Bool.not_true, Bool.not_false])
          refine wp_cond_false rfl ?_
          refine wp_exit ?_
          (try simp only [ls0, ls1])
          refine hK2591 _ _ ?_
          (try clear hK2591 K2591)
          refine wp_seq_k fun K3459 hK3459 => ?_
          refine wp_seq_k fun K3460 hK3460 => ?_
          refine wl_region ?_
          refine mv_ rfl ?_
          obtain ⟨⟨t3461, t3462, t3463⟩, A3464, H⟩ := bnd H
          (try dsimp only at H)
          refine st_call #[.pointer (some ⟨g0, 0, none⟩)] rfl rfl Try.func135 (by kernel_rfl) rfl rfl (mp_ rfl) ?_
          refine (expr_Cursor_end.calls g0 A0_0 c0_0 l0_0 A0_1 c0_1 l0_1 x3429 x3430 t3461 t3462 t3463  (fun z_ => pal [(0, 0), (1, 1)] (C3456_ z_)) w3455 (fun _ => pal_lt rfl _) (Bx.arg HJ3431 rfl) (Ft.arg HJ3427 rfl) HCP0_0 (Ft.arg HJ3428 rfl) HCP0_1 A3464).mono ?_
          rintro _ w3466 ⟨C3467, rfl, hs3468, HX3469⟩
          refine ⟨_, rfl, ?_⟩
          replace HX3469 := Bx.res (U := [(0, 0), (1, 1)]) (j := 1) HX3469 hs3468 (by rfl) (by decide) rfl
          replace hs3468 := Step.lift (U := [(0, 0), (1, 1)]) hs3468 [1] rfl rfl
          generalize up C3456_ C3467 w3455.heap.size [(0, 0), (1, 1)] = C3467_ at HX3469 hs3468
          replace HJ3427 := HJ3427.thru hs3468 rfl
          replace HJ3428 := HJ3428.thru hs3468 rfl
          replace HJ3432 := HJ3432.thru hs3468 rfl
          replace HJ3439 := HJ3439.thru hs3468 rfl
          replace HJ3438 := HJ3438.thru hs3468 rfl
          replace HS3443 := HS3443.trans hs3468 hc rfl
          (try simp only [ls0, ls1])
          refine as_ rfl ?_
          refine wl_end ?_
          (try simp only [ls0, ls1])
          refine hK3460 _ _ ?_
          (try clear hK3460 K3460)
          refine wp_seq_k fun K3470 hK3470 => ?_
          refine wl_region ?_
          refine mv_ rfl ?_
          refine st (.bool (!decide (t3461 = 0))) rfl rfl (xr_bin _ _ _ rfl rfl rfl (B.neq_i64 _ _)) ?_
          refine wl_end ?_
          (try simp only [ls0, ls1])
          refine hK3470 _ _ ?_
          (try clear hK3470 K3470)
          by_cases c3471 : t3461 = 0
          ·rw [if_pos c3471] at H
           (try rw [(decide_eq_true c3471)])
           (try simp only [Bool.not_true, Bool.not_false])
           refine wp_cond_false rfl ?_
           refine wp_skip ?_
           (try simp only [ls0, ls1])
           refine hK3459 _ _ ?_
           (try clear hK3459 K3459)
           refine wp_seq_k fun K3472 hK3472 => ?_
           refine wl_region ?_
           refine mv_ rfl ?_
           refine st (.agg #[.int .i64 3, .int .i64 t2486, .int .i64 0, .string x2559, .string (⟨#[]⟩ : ByteArray), .slice A3434 x3433.length cp3436]) rfl rfl (xr_load _ _ rfl rfl (load_agg (cs := [.int .i64 3, .int .i64 t2486, .int .i64 0, .string x2559, .string (⟨#[]⟩ : ByteArray), .slice A3434 x3433.length cp3436]) Try.underlying44 rfl (by kernel_rfl) (bx_cells (HJ3439).2 0 rfl))) ?_
           refine mv_ rfl ?_
           replace HX3469 := Bx.recol (a := 13) (b := 0) HX3469 (by decide)
           replace HJ3427 := Ft.recol (a := 13) (b := 0) HJ3427 (.inl rfl)
           replace HJ3428 := Ft.recol (a := 13) (b := 0) HJ3428 (.inl rfl)
           replace HJ3432 := Bx.recol (a := 13) (b := 0) HJ3432 (by decide)
           replace HJ3439 := Bx.recol (a := 13) (b := 0) HJ3439 (by decide)
           have HR3473 := Ft.recolor (a := 13) (b := 0) (HJ3438.ft) [0] rfl
           replace HS3443 := Step.recol (a := 13) (b := 0) HS3443 hc (by decide)
           obtain ⟨⟨t3474, t3475, t3476, t3477, t3478, t3479, t3480, t3481⟩, A3482, H⟩ := bnd H
           (try dsimp only at H)
           refine st_call #[.pointer (some ⟨g0, 0, none⟩), .agg #[.int .i64 3, .int .i64 t2486, .int .i64 0, .string x2559, .string (⟨#[]⟩ : ByteArray), .slice A3434 x3433.length cp3436], .int .i64 a0_2] rfl rfl Try.func104 (by kernel_rfl) rfl rfl (mp_ rfl) ?_
           refine (expr_Cursor_held.calls k3448 g0 A0_0 c0_0 l0_0 A0_1 c0_1 l0_1 t3462 t3463 3 t2486 0 x2559 (⟨#[]⟩ : ByteArray) A3434 cp3436 x3433 a0_2 t3474 t3475 t3476 t3477 t3478 t3479 t3480 t3481  (fun z_ => pal [(0, 0), (1, 1)] ((recol C3467_ 13 0) z_)) w3466 (fun _ => pal_lt rfl _) (Bx.arg HX3469 rfl) (Ft.arg HJ3427 rfl) HCP0_0 (Ft.arg HJ3428 rfl) HCP0_1 (Ft.arg HR3473 rfl) HC3437 A3482).mono ?_
           rintro _ w3484 ⟨C3485, A3487, cp3488, rfl, hs3486, HO3489, HC3490, HX3491⟩
           refine ⟨_, rfl, ?_⟩
           replace HO3489 := Ft.res (U := [(0, 0), (1, 1)]) HO3489 hs3486 [0] rfl rfl rfl
           replace HX3491 := Bx.res (U := [(0, 0), (1, 1)]) (j := 1) HX3491 hs3486 (by rfl) (by decide) rfl
           replace hs3486 := Step.lift (U := [(0, 0), (1, 1)]) hs3486 [1] rfl rfl
           generalize up (recol C3467_ 13 0) C3485 w3466.heap.size [(0, 0), (1, 1)] = C3485_ at HO3489 HX3491 hs3486
           replace HJ3427 := HJ3427.thru hs3486 rfl
           replace HJ3428 := HJ3428.thru hs3486 rfl
           replace HJ3432 := HJ3432.thru hs3486 rfl
           replace HJ3439 := HJ3439.thru hs3486 rfl
           replace HR3473 := HR3473.thru hs3486 rfl
           replace HS3443 := HS3443.trans hs3486 hc rfl
           (try simp only [ls0, ls1])
           refine st (.agg #[.int .i64 t3474, .int .i64 t3475, .int .i64 t3476, .string t3477, .string t3478, .slice A3487 t3479.length cp3488]) rfl rfl (xr_extract (.tuple #[.agg #[.int .i64 t3474, .int .i64 t3475, .int .i64 t3476, .string t3477, .string t3478, .slice A3487 t3479.length cp3488], .int .i64 t3480]) _ rfl rfl rfl) ?_
           refine st (.int .i64 t3480) rfl rfl (xr_extract (.tuple #[.agg #[.int .i64 t3474, .int .i64 t3475, .int .i64 t3476, .string t3477, .string t3478, .slice A3487 t3479.length cp3488], .int .i64 t3480]) _ rfl rfl rfl) ?_
           refine bx_store (C := C3485_) (z := 11) (g := g2447) (j := 0) (tb := 44) (u := .agg #[.int .i64 t3474, .int .i64 t3475, .int .i64 t3476, .string t3477, .string t3478, .slice A3487 t3479.length cp3488]) (seg := [.int .i64 t3474, .int .i64 t3475, .int .i64 t3476, .string t3477, .string t3478, .slice A3487 t3479.length cp3488]) (xs := [.int .i64 0, .int .i64 0, .int .i64 0, .string (⟨#[]⟩ : ByteArray), .string (⟨#[]⟩ : ByteArray), .slice none 0 0]) rfl rfl rfl rfl rfl rfl (by first | kernel_rfl | rfl) (by simp [Value.oneCell']) HJ3432 (by simp only [List.length_cons, List.length_nil]; omega) rfl ?_
           intro w3492 HX3493 hs3494
           replace HX3491 := HX3491.thru hs3494 rfl
           replace HJ3427 := HJ3427.thru hs3494 rfl
           replace HJ3428 := HJ3428.thru hs3494 rfl
           replace HO3489 := HO3489.thru hs3494 rfl
           replace HJ3439 := HJ3439.thru hs3494 rfl
           replace HR3473 := HR3473.thru hs3494 rfl
           replace HS3443 := HS3443.trans hs3494 hc rfl
           (try simp only [ls0, ls1])
           refine as_ rfl ?_
           refine wl_end ?_
           (try simp only [ls0, ls1])
           refine hK3472 _ _ ?_
           (try clear hK3472 K3472)
           refine wp_ret ?_
           (try simp only [Exit.inBlock, Exit.then, Exit.noGoto])
           (try simp only [ls0, ls1])
           simp only [Option.some.injEq, Prod.mk.injEq] at H
           obtain ⟨rfl, rfl, rfl, rfl, rfl, rfl, rfl, rfl, rfl⟩ := H
           refine bodyPost_ret (res_ct rfl rfl (load_of (load_agg (cs := [.int .i64 t3474, .int .i64 t3475, .int .i64 t3476, .string t3477, .string t3478, .slice A3487 t3479.length cp3488]) Try.underlying44 rfl (by kernel_rfl) (bx_cells (HX3493).2 0 rfl)))) rfl ?_
           exact ⟨_, A3487, cp3488, rfl, HS3443, HO3489, HC3490, HX3491⟩
          rw [if_neg c3471] at H
          (try rw [(decide_eq_false c3471)])
          (try simp only [Bool.not_true, Bool.not_false])
          refine wp_cond_true rfl ?_
          refine wp_seq_k fun K3495 hK3495 => ?_
          refine wl_region ?_
          refine st (.agg #[.int .i64 0, .int .i64 0, .int .i64 0, .string (⟨#[]⟩ : ByteArray), .string (⟨#[]⟩ : ByteArray), .slice none 0 0]) rfl rfl (xr_build #[] (.agg #[.int .i64 0, .int .i64 0, .int .i64 0, .string (⟨#[]⟩ : ByteArray), .string (⟨#[]⟩ : ByteArray), .slice none 0 0]) rfl (mp_ rfl) (by first | rfl | (go_simp; done) | (go_simp; rfl) | (go_simp; exact i64_w _) | (go_simp; exact i32_w _))) ?_
          refine mv_ rfl ?_
          refine bx_store (C := C3467_) (z := 11) (g := g2447) (j := 0) (tb := 44) (u := .agg #[.int .i64 0, .int .i64 0, .int .i64 0, .string (⟨#[]⟩ : ByteArray), .string (⟨#[]⟩ : ByteArray), .slice none 0 0]) (seg := [.int .i64 0, .int .i64 0, .int .i64 0, .string (⟨#[]⟩ : ByteArray), .string (⟨#[]⟩ : ByteArray), .slice none 0 0]) (xs := [.int .i64 0, .int .i64 0, .int .i64 0, .string (⟨#[]⟩ : ByteArray), .string (⟨#[]⟩ : ByteArray), .slice none 0 0]) rfl rfl rfl rfl rfl rfl (by first | kernel_rfl | rfl) (by simp [Value.oneCell']) HJ3432 (by simp only [List.length_cons, List.length_nil]; omega) rfl ?_
          intro w3496 HX3497 hs3498
          replace HX3469 := HX3469.thru hs3498 rfl
          replace HJ3427 := HJ3427.thru hs3498 rfl
          replace HJ3428 := HJ3428.thru hs3498 rfl
          replace HJ3439 := HJ3439.thru hs3498 rfl
          replace HJ3438 := HJ3438.thru hs3498 rfl
          replace HS3443 := HS3443.trans hs3498 hc rfl
          (try simp only [ls0, ls1])
          refine as_ rfl ?_
          refine wl_end ?_
          (try simp only [ls0, ls1])
          refine hK3495 _ _ ?_
          (try clear hK3495 K3495)
          refine wp_ret ?_
          (try simp only [Exit.inBlock, Exit.then, Exit.noGoto])
          (try simp only [ls0, ls1])
          simp only [Option.some.injEq, Prod.mk.injEq] at H
          obtain ⟨rfl, rfl, rfl, rfl, rfl, rfl, rfl, rfl, rfl⟩ := H
          refine bodyPost_ret (res_ct rfl rfl (load_of (load_agg (cs := [.int .i64 0, .int .i64 0, .int .i64 0, .string (⟨#[]⟩ : ByteArray), .string (⟨#[]⟩ : ByteArray), .slice none 0 0]) Try.underlying44 rfl (by kernel_rfl) (bx_cells (HX3497).2 0 rfl)))) rfl ?_
          exact ⟨_, none, 0, rfl, HS3443, (Kd.F_nil _ _ _), (Nat.le_refl 0), HX3469⟩
         rw [if_neg c3458] at H
         (try rw [(decide_eq_false c3458)])
         (try simp only [Bool.not_true, Bool.not_false])
         refine wp_cond_true rfl ?_
         refine wp_skip ?_
         (try simp only [ls0, ls1])
         refine hK3449 _ _ ?_
         (try clear hK3449 K3449)
         refine wp_block ?_
         refine wp_seq_k fun K3499 hK3499 => ?_
         refine wp_seq_k fun K3524 hK3524 => ?_
         refine wl_region ?_
         refine st (.pointer (some ⟨g2492, 5, none⟩)) rfl rfl (xr_fieldAddr _ _ rfl rfl (bx_field2 Try.underlying44 rfl rfl (by kernel_rfl))) ?_
         refine st (.slice A3434 x3433.length cp3436) rfl rfl (xr_load _ _ rfl rfl (load_cell Try.underlying42 rfl (bx_cell (HJ3439).2 5 rfl))) ?_
         simp only [ls0, ls1]
         refine st (.int .i64 (x3433.length : Int)) rfl rfl (xr_builtin #[.slice A3434 x3433.length cp3436] (.int .i64 (x3433.length : Int)) rfl (mp_ rfl) (by first | rfl | (go_simp; done) | (go_simp; rfl) | (go_simp; exact i64_w _) | (go_simp; exact i32_w _))) ?_
         refine st (.bool (decide ((x3433.length : Int) > 0))) rfl rfl (xr_bin _ _ _ rfl rfl rfl (B.gtr_i64 _ _)) ?_
         refine mv_ rfl ?_
         by_cases c3534 : (x3433.length : Int) > 0
         ·rw [if_pos c3534] at H
          (try rw [(decide_eq_true c3534)])
          refine on_guard (guard_on 4 true 63 rfl rfl rfl) ?_
          refine mv_ rfl ?_
          simp only [ls0, ls1]
          refine on_guard (guard_on 4 true 63 rfl rfl rfl) ?_
          obtain ⟨⟨t3535, t3536⟩, A3537, H⟩ := bnd H
          (try dsimp only at H)
          refine st_call #[.pointer (some ⟨g0, 0, none⟩), .string (⟨#[44]⟩ : ByteArray)] rfl rfl Try.func48 (by kernel_rfl) rfl rfl (mp_ rfl) ?_
          refine (expr_Cursor_Take.calls g0 A0_0 c0_0 l0_0 A0_1 c0_1 l0_1 x3429 x3430 (⟨#[44]⟩ : ByteArray) t3535 t3536  (fun z_ => pal [(0, 0), (1, 1)] (C3456_ z_)) w3455 (fun _ => pal_lt rfl _) (Bx.arg HJ3431 rfl) (Ft.arg HJ3427 rfl) HCP0_0 (Ft.arg HJ3428 rfl) HCP0_1 A3537).mono ?_
          rintro _ w3539 ⟨C3540, rfl, hs3541, HX3542⟩
          refine ⟨_, rfl, ?_⟩
          replace HX3542 := Bx.res (U := [(0, 0), (1, 1)]) (j := 1) HX3542 hs3541 (by rfl) (by decide) rfl
          replace hs3541 := Step.lift (U := [(0, 0), (1, 1)]) hs3541 [1] rfl rfl
          generalize up C3456_ C3540 w3455.heap.size [(0, 0), (1, 1)] = C3540_ at HX3542 hs3541
          replace HJ3427 := HJ3427.thru hs3541 rfl
          replace HJ3428 := HJ3428.thru hs3541 rfl
          replace HJ3432 := HJ3432.thru hs3541 rfl
          replace HJ3439 := HJ3439.thru hs3541 rfl
          replace HJ3438 := HJ3438.thru hs3541 rfl
          replace HS3443 := HS3443.trans hs3541 hc rfl
          (try simp only [ls0, ls1])
          refine on_guard (guard_on 4 true 63 rfl rfl rfl) ?_
          refine st (.bool (!t3535)) rfl rfl (xr_un (.bool t3535) _ rfl rfl (by first | rfl | (go_simp; done) | (go_simp; rfl) | (go_simp; exact i64_w _) | (go_simp; exact i32_w _))) ?_
          refine st (.bool (!t3535)) rfl rfl (xr_pick true _ rfl rfl rfl) ?_
          refine wl_end ?_
          (try simp only [ls0, ls1])
          refine hK3524 _ _ ?_
          (try clear hK3524 K3524)
          by_cases c3543 : t3535 = true
          ·rw [if_pos c3543] at H
           (try rw [c3543])
           (try simp only [Bool.not_true, Bool.not_false])
           refine wp_cond_false rfl ?_
           refine wp_skip ?_
           (try simp only [ls0, ls1])
           refine hK3499 _ _ ?_
           (try clear hK3499 K3499)
           refine wp_seq_k fun K3544 hK3544 => ?_
           refine wl_region ?_
           refine mv_ rfl ?_
           obtain ⟨⟨t3545, t3546, t3547, t3548, t3549, t3550, t3551, t3552, t3553⟩, A3554, H⟩ := bnd H
           (try dsimp only at H)
           refine st_call #[.pointer (some ⟨g0, 0, none⟩), .int .i64 1] rfl rfl Try.func82 (by kernel_rfl) rfl rfl (mp_ rfl) ?_
           refine (IH.expr_Cursor_binary g0 A0_0 c0_0 l0_0 A0_1 c0_1 l0_1 t3536 x3430 1 t3545 t3546 t3547 t3548 t3549 t3550 t3551 t3552 t3553  (fun z_ => pal [(0, 0), (1, 1)] (C3540_ z_)) w3539 (fun _ => pal_lt rfl _) (Bx.arg HX3542 rfl) (Ft.arg HJ3427 rfl) HCP0_0 (Ft.arg HJ3428 rfl) HCP0_1 A3554).mono ?_
           rintro _ w3556 ⟨C3557, A3559, cp3560, rfl, hs3558, HO3561, HC3562, HX3563⟩
           refine ⟨_, rfl, ?_⟩
           replace HO3561 := Ft.res (U := [(0, 0), (1, 1)]) HO3561 hs3558 [0] rfl rfl rfl
           replace HX3563 := Bx.res (U := [(0, 0), (1, 1)]) (j := 1) HX3563 hs3558 (by rfl) (by decide) rfl
           replace hs3558 := Step.lift (U := [(0, 0), (1, 1)]) hs3558 [1] rfl rfl
           generalize up C3540_ C3557 w3539.heap.size [(0, 0), (1, 1)] = C3557_ at HO3561 HX3563 hs3558
           replace HJ3427 := HJ3427.thru hs3558 rfl
           replace HJ3428 := HJ3428.thru hs3558 rfl
           replace HJ3432 := HJ3432.thru hs3558 rfl
           replace HJ3439 := HJ3439.thru hs3558 rfl
           replace HJ3438 := HJ3438.thru hs3558 rfl
           replace HS3443 := HS3443.trans hs3558 hc rfl
           (try simp only [ls0, ls1])
           refine mv_ rfl ?_
           refine st (.agg #[.int .i64 t3545, .int .i64 t3546, .int .i64 t3547, .string t3548, .string t3549, .slice A3559 t3550.length cp3560]) rfl rfl (xr_extract (.tuple #[.agg #[.int .i64 t3545, .int .i64 t3546, .int .i64 t3547, .string t3548, .string t3549, .slice A3559 t3550.length cp3560], .int .i64 t3551]) _ rfl rfl rfl) ?_
           refine st (.int .i64 t3551) rfl rfl (xr_extract (.tuple #[.agg #[.int .i64 t3545, .int .i64 t3546, .int .i64 t3547, .string t3548, .string t3549, .slice A3559 t3550.length cp3560], .int .i64 t3551]) _ rfl rfl rfl) ?_
           refine bx_new (C := C3557_) 44 ([.int .i64 0, .int .i64 0, .int .i64 0, .string (⟨#[]⟩ : ByteArray), .string (⟨#[]⟩ : ByteArray), .slice none 0 0]) 14 rfl rfl (by first | (go_simp; done) | (go_simp; rfl)) ?_
           intro g3564 w3565 C3566 HX3567 hs3568
           replace HX3563 := HX3563.thru hs3568 rfl
           replace HJ3427 := HJ3427.thru hs3568 rfl
           replace HJ3428 := HJ3428.thru hs3568 rfl
           replace HJ3432 := HJ3432.thru hs3568 rfl
           replace HJ3439 := HJ3439.thru hs3568 rfl
           replace HJ3438 := HJ3438.thru hs3568 rfl
           replace HO3561 := HO3561.thru hs3568 rfl
           replace HS3443 := HS3443.trans hs3568 hc rfl
           (try simp only [ls0, ls1])
           refine bx_store (C := C3566) (z := 14) (g := g3564) (j := 0) (tb := 44) (u := .agg #[.int .i64 t3545, .int .i64 t3546, .int .i64 t3547, .string t3548, .string t3549, .slice A3559 t3550.length cp3560]) (seg := [.int .i64 t3545, .int .i64 t3546, .int .i64 t3547, .string t3548, .string t3549, .slice A3559 t3550.length cp3560]) (xs := [.int .i64 0, .int .i64 0, .int .i64 0, .string (⟨#[]⟩ : ByteArray), .string (⟨#[]⟩ : ByteArray), .slice none 0 0]) rfl rfl rfl rfl rfl rfl (by first | kernel_rfl | rfl) (by simp [Value.oneCell']) HX3567 (by simp only [List.length_cons, List.length_nil]; omega) rfl ?_
           intro w3569 HX3570 hs3571
           replace HX3563 := HX3563.thru hs3571 rfl
           replace HJ3427 := HJ3427.thru hs3571 rfl
           replace HJ3428 := HJ3428.thru hs3571 rfl
           replace HJ3432 := HJ3432.thru hs3571 rfl
           replace HJ3439 := HJ3439.thru hs3571 rfl
           replace HJ3438 := HJ3438.thru hs3571 rfl
           replace HO3561 := HO3561.thru hs3571 rfl
           replace HS3443 := HS3443.trans hs3571 hc rfl
           (try simp only [ls0, ls1])
           refine as_ rfl ?_
           refine wl_end ?_
           (try simp only [ls0, ls1])
           refine hK3544 _ _ ?_
           (try clear hK3544 K3544)
           refine wp_seq_k fun K3572 hK3572 => ?_
           refine wp_seq_k fun K3573 hK3573 => ?_
           refine wl_region ?_
           refine mv_ rfl ?_
           refine st (.bool (!decide (t3551 = 0))) rfl rfl (xr_bin _ _ _ rfl rfl rfl (B.neq_i64 _ _)) ?_
           refine wl_end ?_
           (try simp only [ls0, ls1])
           refine hK3573 _ _ ?_
           (try clear hK3573 K3573)
           by_cases c3574 : t3551 = 0
           ·rw [if_pos c3574] at H
            (try rw [(decide_eq_true c3574)])
            (try simp only [Bool.not_true, Bool.not_false])
            refine wp_cond_false rfl ?_
            refine wp_skip ?_
            (try simp only [ls0, ls1])
            refine hK3572 _ _ ?_
            (try clear hK3572 K3572)
            refine wl_region ?_
            refine st (.pointer (some ⟨g2492, 5, none⟩)) rfl rfl (xr_fieldAddr _ _ rfl rfl (bx_field2 Try.underlying44 rfl rfl (by kernel_rfl))) ?_
            refine st (.slice A3434 x3433.length cp3436) rfl rfl (xr_load _ _ rfl rfl (load_cell Try.underlying42 rfl (bx_cell (HJ3439).2 5 rfl))) ?_
            refine st (.agg #[.int .i64 t3545, .int .i64 t3546, .int .i64 t3547, .string t3548, .string t3549, .slice A3559 t3550.length cp3560]) rfl rfl (xr_load _ _ rfl rfl (load_agg (cs := [.int .i64 t3545, .int .i64 t3546, .int .i64 t3547, .string t3548, .string t3549, .slice A3559 t3550.length cp3560]) Try.underlying44 rfl (by kernel_rfl) (bx_cells (HX3570).2 0 rfl))) ?_
            refine ev_run (w1 := w3569.alloc (.cells #[.int .i64 t3545, .int .i64 t3546, .int .i64 t3547, .string t3548, .string t3549, .slice A3559 t3550.length cp3560] 44)) (.slice (some ⟨w3569.heap.size, 0, none⟩) 1 1) rfl rfl (by first | (go_simp; done) | (go_simp; rfl)) ?_
            (try simp only [Act.put, List.setIfInBounds_toArray, ls0, ls1])
            obtain ⟨c3575, H⟩ := if_some H
            obtain ⟨y3576, A3577, H⟩ := bnd H
            refine Own.append k44 (C := C3566) (i := 13) rfl (.tmp 79) (.tmp 81) 42 44 (.agg #[(.int .i64 0), (.int .i64 0), (.int .i64 0), (.string ⟨#[]⟩), (.string ⟨#[]⟩), (.slice none 0 0)]) 80 rfl Try.underlying42 info44 rfl (by decide) (by decide) (.slice A3434 x3433.length cp3436) x3433 (⟨t3545, t3546, t3547, t3548, t3549, t3550⟩ : S44) [.int .i64 t3545, .int .i64 t3546, .int .i64 t3547, .string t3548, .string t3549, .slice A3559 t3550.length cp3560] rfl rfl (k44_mkF _ _ (⟨t3545, t3546, t3547, t3548, t3549, t3550⟩ : S44) HC3562 (Kd.F_mono (d := k44) HO3561 (fun k_ h_ => by simpa using h_))) HJ3438 (by decide) (by omega) (Option.some.inj A3577) ?_
            intro A3578 cp3579 w3580 C3581 HO3582 HC3583 hs3584
            replace HX3563 := HX3563.thru hs3584 rfl
            replace HJ3427 := HJ3427.thru hs3584 rfl
            replace HJ3428 := HJ3428.thru hs3584 rfl
            replace HJ3432 := HJ3432.thru hs3584 rfl
            replace HJ3439 := HJ3439.thru hs3584 rfl
            replace HO3561 := HO3561.thru hs3584 rfl
            replace HX3570 := HX3570.thru hs3584 rfl
            replace HS3443 := HS3443.trans hs3584 hc rfl
            (try simp only [ls0, ls1])
            refine st (.pointer (some ⟨g2492, 5, none⟩)) rfl rfl (xr_fieldAddr _ _ rfl rfl (bx_field2 Try.underlying44 rfl rfl (by kernel_rfl))) ?_
            refine bx_store (C := C3581) (z := 12) (g := g2492) (j := 5) (tb := 44) (u := .slice A3578 y3576.length cp3579) (seg := [.slice A3578 y3576.length cp3579]) (xs := [.int .i64 3, .int .i64 t2486, .int .i64 0, .string x2559, .string (⟨#[]⟩ : ByteArray), .slice A3434 x3433.length cp3436]) rfl rfl rfl rfl rfl rfl (by first | kernel_rfl | rfl) (by simp [Value.oneCell']) HJ3439 (by simp only [List.length_cons, List.length_nil]; omega) rfl ?_
            intro w3585 HX3586 hs3587
            replace HX3563 := HX3563.thru hs3587 rfl
            replace HJ3427 := HJ3427.thru hs3587 rfl
            replace HJ3428 := HJ3428.thru hs3587 rfl
            replace HJ3432 := HJ3432.thru hs3587 rfl
            replace HO3582 := HO3582.thru hs3587 rfl
            replace HO3561 := HO3561.thru hs3587 rfl
            replace HX3570 := HX3570.thru hs3587 rfl
            replace HS3443 := HS3443.trans hs3587 hc rfl
            (try simp only [ls0, ls1])
            refine wl_end ?_
            (try simp only [ls0, ls1])
            exact jmpL (fun a_ h_ => ih3445 k3448 (by omega) a_ _ h_) (fun g_ => ⟨_, t3552, t3553, A3578, y3576.length, cp3579, y3576, g_, rfl, HS3443, (by omega), HJ3427, HJ3428, HX3563, HJ3432, HO3582, HC3583, HX3586, H⟩) rfl
           rw [if_neg c3574] at H
           (try rw [(decide_eq_false c3574)])
           (try simp only [Bool.not_true, Bool.not_false])
           refine wp_cond_true rfl ?_
           refine wp_seq_k fun K3588 hK3588 => ?_
           refine wl_region ?_
           refine st (.agg #[.int .i64 0, .int .i64 0, .int .i64 0, .string (⟨#[]⟩ : ByteArray), .string (⟨#[]⟩ : ByteArray), .slice none 0 0]) rfl rfl (xr_build #[] (.agg #[.int .i64 0, .int .i64 0, .int .i64 0, .string (⟨#[]⟩ : ByteArray), .string (⟨#[]⟩ : ByteArray), .slice none 0 0]) rfl (mp_ rfl) (by first | rfl | (go_simp; done) | (go_simp; rfl) | (go_simp; exact i64_w _) | (go_simp; exact i32_w _))) ?_
           refine mv_ rfl ?_
           refine bx_store (C := C3566) (z := 11) (g := g2447) (j := 0) (tb := 44) (u := .agg #[.int .i64 0, .int .i64 0, .int .i64 0, .string (⟨#[]⟩ : ByteArray), .string (⟨#[]⟩ : ByteArray), .slice none 0 0]) (seg := [.int .i64 0, .int .i64 0, .int .i64 0, .string (⟨#[]⟩ : ByteArray), .string (⟨#[]⟩ : ByteArray), .slice none 0 0]) (xs := [.int .i64 0, .int .i64 0, .int .i64 0, .string (⟨#[]⟩ : ByteArray), .string (⟨#[]⟩ : ByteArray), .slice none 0 0]) rfl rfl rfl rfl rfl rfl (by first | kernel_rfl | rfl) (by simp [Value.oneCell']) HJ3432 (by simp only [List.length_cons, List.length_nil]; omega) rfl ?_
           intro w3589 HX3590 hs3591
           replace HX3563 := HX3563.thru hs3591 rfl
           replace HJ3427 := HJ3427.thru hs3591 rfl
           replace HJ3428 := HJ3428.thru hs3591 rfl
           replace HJ3439 := HJ3439.thru hs3591 rfl
           replace HJ3438 := HJ3438.thru hs3591 rfl
           replace HO3561 := HO3561.thru hs3591 rfl
           replace HX3570 := HX3570.thru hs3591 rfl
           replace HS3443 := HS3443.trans hs3591 hc rfl
           (try simp only [ls0, ls1])
           refine as_ rfl ?_
           refine wl_end ?_
           (try simp only [ls0, ls1])
           refine hK3588 _ _ ?_
           (try clear hK3588 K3588)
           refine wp_ret ?_
           (try simp only [Exit.inBlock, Exit.then, Exit.noGoto])
           (try simp only [ls0, ls1])
           simp only [Option.some.injEq, Prod.mk.injEq] at H
           obtain ⟨rfl, rfl, rfl, rfl, rfl, rfl, rfl, rfl, rfl⟩ := H
           refine bodyPost_ret (res_ct rfl rfl (load_of (load_agg (cs := [.int .i64 0, .int .i64 0, .int .i64 0, .string (⟨#[]⟩ : ByteArray), .string (⟨#[]⟩ : ByteArray), .slice none 0 0]) Try.underlying44 rfl (by kernel_rfl) (bx_cells (HX3590).2 0 rfl)))) rfl ?_
           exact ⟨_, none, 0, rfl, HS3443, (Kd.F_nil _ _ _), (Nat.le_refl 0), HX3563⟩
          rw [if_neg c3543] at H
          (try rw [(Bool.eq_false_iff.mpr c3543)])
          (try simp only [Bool.not_true, Bool.not_false])
          refine wp_cond_true rfl ?_
          refine wp_seq_k fun K3592 hK3592 => ?_
          refine wl_region ?_
          refine st (.agg #[.int .i64 0, .int .i64 0, .int .i64 0, .string (⟨#[]⟩ : ByteArray), .string (⟨#[]⟩ : ByteArray), .slice none 0 0]) rfl rfl (xr_build #[] (.agg #[.int .i64 0, .int .i64 0, .int .i64 0, .string (⟨#[]⟩ : ByteArray), .string (⟨#[]⟩ : ByteArray), .slice none 0 0]) rfl (mp_ rfl) (by first | rfl | (go_simp; done) | (go_simp; rfl) | (go_simp; exact i64_w _) | (go_simp; exact i32_w _))) ?_
          refine bx_store (C := C3540_) (z := 11) (g := g2447) (j := 0) (tb := 44) (u := .agg #[.int .i64 0, .int .i64 0, .int .i64 0, .string (⟨#[]⟩ : ByteArray), .string (⟨#[]⟩ : ByteArray), .slice none 0 0]) (seg := [.int .i64 0, .int .i64 0, .int .i64 0, .string (⟨#[]⟩ : ByteArray), .string (⟨#[]⟩ : ByteArray), .slice none 0 0]) (xs := [.int .i64 0, .int .i64 0, .int .i64 0, .string (⟨#[]⟩ : ByteArray), .string (⟨#[]⟩ : ByteArray), .slice none 0 0]) rfl rfl rfl rfl rfl rfl (by first | kernel_rfl | rfl) (by simp [Value.oneCell']) HJ3432 (by simp only [List.length_cons, List.length_nil]; omega) rfl ?_
          intro w3593 HX3594 hs3595
          replace HX3542 := HX3542.thru hs3595 rfl
          replace HJ3427 := HJ3427.thru hs3595 rfl
          replace HJ3428 := HJ3428.thru hs3595 rfl
          replace HJ3439 := HJ3439.thru hs3595 rfl
          replace HJ3438 := HJ3438.thru hs3595 rfl
          replace HS3443 := HS3443.trans hs3595 hc rfl
          (try simp only [ls0, ls1])
          refine st (.int .i64 11) rfl rfl (xr_assign _ rfl rfl) ?_
          refine wl_end ?_
          (try simp only [ls0, ls1])
          refine hK3592 _ _ ?_
          (try clear hK3592 K3592)
          refine wp_ret ?_
          (try simp only [Exit.inBlock, Exit.then, Exit.noGoto])
          (try simp only [ls0, ls1])
          simp only [Option.some.injEq, Prod.mk.injEq] at H
          obtain ⟨rfl, rfl, rfl, rfl, rfl, rfl, rfl, rfl, rfl⟩ := H
          refine bodyPost_ret (res_ct rfl rfl (load_of (load_agg (cs := [.int .i64 0, .int .i64 0, .int .i64 0, .string (⟨#[]⟩ : ByteArray), .string (⟨#[]⟩ : ByteArray), .slice none 0 0]) Try.underlying44 rfl (by kernel_rfl) (bx_cells (HX3594).2 0 rfl)))) rfl ?_
          exact ⟨_, none, 0, rfl, HS3443, (Kd.F_nil _ _ _), (Nat.le_refl 0), HX3542⟩
         rw [if_neg c3534] at H
         (try rw [(decide_eq_false c3534)])
         refine sk_guard (guard_off 4 true 63 rfl rfl false (by decide) rfl) rfl ?_
         refine sk_guard (guard_off 4 true 63 rfl rfl false (by decide) rfl) rfl ?_
         refine sk_guard (guard_off 4 true 63 rfl rfl false (by decide) rfl) rfl ?_
         refine st (.bool false) rfl rfl (xr_pick false _ rfl rfl rfl) ?_
         simp only [ls0, ls1]
         refine wl_end ?_
         (try simp only [ls0, ls1])
         refine hK3524 _ _ ?_
         (try clear hK3524 K3524)
         refine wp_cond_false rfl ?_
         refine wp_skip ?_
         (try simp only [ls0, ls1])
         refine hK3499 _ _ ?_
         (try clear hK3499 K3499)
         refine wp_seq_k fun K3596 hK3596 => ?_
         refine wl_region ?_
         refine mv_ rfl ?_
         obtain ⟨⟨t3597, t3598, t3599, t3600, t3601, t3602, t3603, t3604, t3605⟩, A3606, H⟩ := bnd H
         (try dsimp only at H)
         refine st_call #[.pointer (some ⟨g0, 0, none⟩), .int .i64 1] rfl rfl Try.func82 (by kernel_rfl) rfl rfl (mp_ rfl) ?_
         refine (IH.expr_Cursor_binary g0 A0_0 c0_0 l0_0 A0_1 c0_1 l0_1 x3429 x3430 1 t3597 t3598 t3599 t3600 t3601 t3602 t3603 t3604 t3605  (fun z_ => pal [(0, 0), (1, 1)] (C3456_ z_)) w3455 (fun _ => pal_lt rfl _) (Bx.arg HJ3431 rfl) (Ft.arg HJ3427 rfl) HCP0_0 (Ft.arg HJ3428 rfl) HCP0_1 A3606).mono ?_
         rintro _ w3608 ⟨C3609, A3611, cp3612, rfl, hs3610, HO3613, HC3614, HX3615⟩
         refine ⟨_, rfl, ?_⟩
         replace HO3613 := Ft.res (U := [(0, 0), (1, 1)]) HO3613 hs3610 [0] rfl rfl rfl
         replace HX3615 := Bx.res (U := [(0, 0), (1, 1)]) (j := 1) HX3615 hs3610 (by rfl) (by decide) rfl
         replace hs3610 := Step.lift (U := [(0, 0), (1, 1)]) hs3610 [1] rfl rfl
         generalize up C3456_ C3609 w3455.heap.size [(0, 0), (1, 1)] = C3609_ at HO3613 HX3615 hs3610
         replace HJ3427 := HJ3427.thru hs3610 rfl
         replace HJ3428 := HJ3428.thru hs3610 rfl
         replace HJ3432 := HJ3432.thru hs3610 rfl
         replace HJ3439 := HJ3439.thru hs3610 rfl
         replace HJ3438 := HJ3438.thru hs3610 rfl
         replace HS3443 := HS3443.trans hs3610 hc rfl
         (try simp only [ls0, ls1])
         refine mv_ rfl ?_
         refine st (.agg #[.int .i64 t3597, .int .i64 t3598, .int .i64 t3599, .string t3600, .string t3601, .slice A3611 t3602.length cp3612]) rfl rfl (xr_extract (.tuple #[.agg #[.int .i64 t3597, .int .i64 t3598, .int .i64 t3599, .string t3600, .string t3601, .slice A3611 t3602.length cp3612], .int .i64 t3603]) _ rfl rfl rfl) ?_
         refine st (.int .i64 t3603) rfl rfl (xr_extract (.tuple #[.agg #[.int .i64 t3597, .int .i64 t3598, .int .i64 t3599, .string t3600, .string t3601, .slice A3611 t3602.length cp3612], .int .i64 t3603]) _ rfl rfl rfl) ?_
         refine bx_new (C := C3609_) 44 ([.int .i64 0, .int .i64 0, .int .i64 0, .string (⟨#[]⟩ : ByteArray), .string (⟨#[]⟩ : ByteArray), .slice none 0 0]) 14 rfl rfl (by first | (go_simp; done) | (go_simp; rfl)) ?_
         intro g3616 w3617 C3618 HX3619 hs3620
         replace HX3615 := HX3615.thru hs3620 rfl
         replace HJ3427 := HJ3427.thru hs3620 rfl
         replace HJ3428 := HJ3428.thru hs3620 rfl
         replace HJ3432 := HJ3432.thru hs3620 rfl
         replace HJ3439 := HJ3439.thru hs3620 rfl
         replace HJ3438 := HJ3438.thru hs3620 rfl
         replace HO3613 := HO3613.thru hs3620 rfl
         replace HS3443 := HS3443.trans hs3620 hc rfl
         (try simp only [ls0, ls1])
         refine bx_store (C := C3618) (z := 14) (g := g3616) (j := 0) (tb := 44) (u := .agg #[.int .i64 t3597, .int .i64 t3598, .int .i64 t3599, .string t3600, .string t3601, .slice A3611 t3602.length cp3612]) (seg := [.int .i64 t3597, .int .i64 t3598, .int .i64 t3599, .string t3600, .string t3601, .slice A3611 t3602.length cp3612]) (xs := [.int .i64 0, .int .i64 0, .int .i64 0, .string (⟨#[]⟩ : ByteArray), .string (⟨#[]⟩ : ByteArray), .slice none 0 0]) rfl rfl rfl rfl rfl rfl (by first | kernel_rfl | rfl) (by simp [Value.oneCell']) HX3619 (by simp only [List.length_cons, List.length_nil]; omega) rfl ?_
         intro w3621 HX3622 hs3623
         replace HX3615 := HX3615.thru hs3623 rfl
         replace HJ3427 := HJ3427.thru hs3623 rfl
         replace HJ3428 := HJ3428.thru hs3623 rfl
         replace HJ3432 := HJ3432.thru hs3623 rfl
         replace HJ3439 := HJ3439.thru hs3623 rfl
         replace HJ3438 := HJ3438.thru hs3623 rfl
         replace HO3613 := HO3613.thru hs3623 rfl
         replace HS3443 := HS3443.trans hs3623 hc rfl
         (try simp only [ls0, ls1])
         refine as_ rfl ?_
         refine wl_end ?_
         (try simp only [ls0, ls1])
         refine hK3596 _ _ ?_
         (try clear hK3596 K3596)
         refine wp_seq_k fun K3624 hK3624 => ?_
         refine wp_seq_k fun K3625 hK3625 => ?_
         refine wl_region ?_
         refine mv_ rfl ?_
         refine st (.bool (!decide (t3603 = 0))) rfl rfl (xr_bin _ _ _ rfl rfl rfl (B.neq_i64 _ _)) ?_
         refine wl_end ?_
         (try simp only [ls0, ls1])
         refine hK3625 _ _ ?_
         (try clear hK3625 K3625)
         by_cases c3626 : t3603 = 0
         ·rw [if_pos c3626] at H
          (try rw [(decide_eq_true c3626)])
          (try simp only [Bool.not_true, Bool.not_false])
          refine wp_cond_false rfl ?_
          refine wp_skip ?_
          (try simp only [ls0, ls1])
          refine hK3624 _ _ ?_
          (try clear hK3624 K3624)
          refine wl_region ?_
          refine st (.pointer (some ⟨g2492, 5, none⟩)) rfl rfl (xr_fieldAddr _ _ rfl rfl (bx_field2 Try.underlying44 rfl rfl (by kernel_rfl))) ?_
          refine st (.slice A3434 x3433.length cp3436) rfl rfl (xr_load _ _ rfl rfl (load_cell Try.underlying42 rfl (bx_cell (HJ3439).2 5 rfl))) ?_
          refine st (.agg #[.int .i64 t3597, .int .i64 t3598, .int .i64 t3599, .string t3600, .string t3601, .slice A3611 t3602.length cp3612]) rfl rfl (xr_load _ _ rfl rfl (load_agg (cs := [.int .i64 t3597, .int .i64 t3598, .int .i64 t3599, .string t3600, .string t3601, .slice A3611 t3602.length cp3612]) Try.underlying44 rfl (by kernel_rfl) (bx_cells (HX3622).2 0 rfl))) ?_
          refine ev_run (w1 := w3621.alloc (.cells #[.int .i64 t3597, .int .i64 t3598, .int .i64 t3599, .string t3600, .string t3601, .slice A3611 t3602.length cp3612] 44)) (.slice (some ⟨w3621.heap.size, 0, none⟩) 1 1) rfl rfl (by first | (go_simp; done) | (go_simp; rfl)) ?_
          (try simp only [Act.put, List.setIfInBounds_toArray, ls0, ls1])
          obtain ⟨c3627, H⟩ := if_some H
          obtain ⟨y3628, A3629, H⟩ := bnd H
          refine Own.append k44 (C := C3618) (i := 13) rfl (.tmp 79) (.tmp 81) 42 44 (.agg #[(.int .i64 0), (.int .i64 0), (.int .i64 0), (.string ⟨#[]⟩), (.string ⟨#[]⟩), (.slice none 0 0)]) 80 rfl Try.underlying42 info44 rfl (by decide) (by decide) (.slice A3434 x3433.length cp3436) x3433 (⟨t3597, t3598, t3599, t3600, t3601, t3602⟩ : S44) [.int .i64 t3597, .int .i64 t3598, .int .i64 t3599, .string t3600, .string t3601, .slice A3611 t3602.length cp3612] rfl rfl (k44_mkF _ _ (⟨t3597, t3598, t3599, t3600, t3601, t3602⟩ : S44) HC3614 (Kd.F_mono (d := k44) HO3613 (fun k_ h_ => by simpa using h_))) HJ3438 (by decide) (by omega) (Option.some.inj A3629) ?_
          intro A3630 cp3631 w3632 C3633 HO3634 HC3635 hs3636
          replace HX3615 := HX3615.thru hs3636 rfl
          replace HJ3427 := HJ3427.thru hs3636 rfl
          replace HJ3428 := HJ3428.thru hs3636 rfl
          replace HJ3432 := HJ3432.thru hs3636 rfl
          replace HJ3439 := HJ3439.thru hs3636 rfl
          replace HO3613 := HO3613.thru hs3636 rfl
          replace HX3622 := HX3622.thru hs3636 rfl
          replace HS3443 := HS3443.trans hs3636 hc rfl
          (try simp only [ls0, ls1])
          refine st (.pointer (some ⟨g2492, 5, none⟩)) rfl rfl (xr_fieldAddr _ _ rfl rfl (bx_field2 Try.underlying44 rfl rfl (by kernel_rfl))) ?_
          refine bx_store (C := C3633) (z := 12) (g := g2492) (j := 5) (tb := 44) (u := .slice A3630 y3628.length cp3631) (seg := [.slice A3630 y3628.length cp3631]) (xs := [.int .i64 3, .int .i64 t2486, .int .i64 0, .string x2559, .string (⟨#[]⟩ : ByteArray), .slice A3434 x3433.length cp3436]) rfl rfl rfl rfl rfl rfl (by first | kernel_rfl | rfl) (by simp [Value.oneCell']) HJ3439 (by simp only [List.length_cons, List.length_nil]; omega) rfl ?_
          intro w3637 HX3638 hs3639
          replace HX3615 := HX3615.thru hs3639 rfl
          replace HJ3427 := HJ3427.thru hs3639 rfl
          replace HJ3428 := HJ3428.thru hs3639 rfl
          replace HJ3432 := HJ3432.thru hs3639 rfl
          replace HO3634 := HO3634.thru hs3639 rfl
          replace HO3613 := HO3613.thru hs3639 rfl
          replace HX3622 := HX3622.thru hs3639 rfl
          replace HS3443 := HS3443.trans hs3639 hc rfl
          (try simp only [ls0, ls1])
          refine wl_end ?_
          (try simp only [ls0, ls1])
          exact jmpL (fun a_ h_ => ih3445 k3448 (by omega) a_ _ h_) (fun g_ => ⟨_, t3604, t3605, A3630, y3628.length, cp3631, y3628, g_, rfl, HS3443, (by omega), HJ3427, HJ3428, HX3615, HJ3432, HO3634, HC3635, HX3638, H⟩) rfl
         rw [if_neg c3626] at H
         (try rw [(decide_eq_false c3626)])
         (try simp only [Bool.not_true, Bool.not_false])
         refine wp_cond_true rfl ?_
         refine wp_seq_k fun K3640 hK3640 => ?_
         refine wl_region ?_
         refine st (.agg #[.int .i64 0, .int .i64 0, .int .i64 0, .string (⟨#[]⟩ : ByteArray), .string (⟨#[]⟩ : ByteArray), .slice none 0 0]) rfl rfl (xr_build #[] (.agg #[.int .i64 0, .int .i64 0, .int .i64 0, .string (⟨#[]⟩ : ByteArray), .string (⟨#[]⟩ : ByteArray), .slice none 0 0]) rfl (mp_ rfl) (by first | rfl | (go_simp; done) | (go_simp; rfl) | (go_simp; exact i64_w _) | (go_simp; exact i32_w _))) ?_
         refine mv_ rfl ?_
         refine bx_store (C := C3618) (z := 11) (g := g2447) (j := 0) (tb := 44) (u := .agg #[.int .i64 0, .int .i64 0, .int .i64 0, .string (⟨#[]⟩ : ByteArray), .string (⟨#[]⟩ : ByteArray), .slice none 0 0]) (seg := [.int .i64 0, .int .i64 0, .int .i64 0, .string (⟨#[]⟩ : ByteArray), .string (⟨#[]⟩ : ByteArray), .slice none 0 0]) (xs := [.int .i64 0, .int .i64 0, .int .i64 0, .string (⟨#[]⟩ : ByteArray), .string (⟨#[]⟩ : ByteArray), .slice none 0 0]) rfl rfl rfl rfl rfl rfl (by first | kernel_rfl | rfl) (by simp [Value.oneCell']) HJ3432 (by simp only [List.length_cons, List.length_nil]; omega) rfl ?_
         intro w3641 HX3642 hs3643
         replace HX3615 := HX3615.thru hs3643 rfl
         replace HJ3427 := HJ3427.thru hs3643 rfl
         replace HJ3428 := HJ3428.thru hs3643 rfl
         replace HJ3439 := HJ3439.thru hs3643 rfl
         replace HJ3438 := HJ3438.thru hs3643 rfl
         replace HO3613 := HO3613.thru hs3643 rfl
         replace HX3622 := HX3622.thru hs3643 rfl
         replace HS3443 := HS3443.trans hs3643 hc rfl
         (try simp only [ls0, ls1])
         refine as_ rfl ?_
         refine wl_end ?_
         (try simp only [ls0, ls1])
         refine hK3640 _ _ ?_
         (try clear hK3640 K3640)
         refine wp_ret ?_
         (try simp only [Exit.inBlock, Exit.then, Exit.noGoto])
         (try simp only [ls0, ls1])
         simp only [Option.some.injEq, Prod.mk.injEq] at H
         obtain ⟨rfl, rfl, rfl, rfl, rfl, rfl, rfl, rfl, rfl⟩ := H
         refine bodyPost_ret (res_ct rfl rfl (load_of (load_agg (cs := [.int .i64 0, .int .i64 0, .int .i64 0, .string (⟨#[]⟩ : ByteArray), .string (⟨#[]⟩ : ByteArray), .slice none 0 0]) Try.underlying44 rfl (by kernel_rfl) (bx_cells (HX3642).2 0 rfl)))) rfl ?_
         exact ⟨_, none, 0, rfl, HS3443, (Kd.F_nil _ _ _), (Nat.le_refl 0), HX3615⟩
      rw [if_neg c2590] at H
      (try rw [(decide_eq_false c2590)])
      (try simp only [Bool.not_true, Bool.not_false])
      refine wp_cond_true rfl ?_
      refine wp_seq_k fun K3644 hK3644 => ?_
      refine wl_region ?_
      refine st (.agg #[.int .i64 0, .int .i64 0, .int .i64 0, .string (⟨#[]⟩ : ByteArray), .string (⟨#[]⟩ : ByteArray), .slice none 0 0]) rfl rfl (xr_build #[] (.agg #[.int .i64 0, .int .i64 0, .int .i64 0, .string (⟨#[]⟩ : ByteArray), .string (⟨#[]⟩ : ByteArray), .slice none 0 0]) rfl (mp_ rfl) (by first | rfl | (go_simp; done) | (go_simp; rfl) | (go_simp; exact i64_w _) | (go_simp; exact i32_w _))) ?_
      refine mv_ rfl ?_
      refine bx_store (C := C2586_) (z := 11) (g := g2447) (j := 0) (tb := 44) (u := .agg #[.int .i64 0, .int .i64 0, .int .i64 0, .string (⟨#[]⟩ : ByteArray), .string (⟨#[]⟩ : ByteArray), .slice none 0 0]) (seg := [.int .i64 0, .int .i64 0, .int .i64 0, .string (⟨#[]⟩ : ByteArray), .string (⟨#[]⟩ : ByteArray), .slice none 0 0]) (xs := [.int .i64 0, .int .i64 0, .int .i64 0, .string (⟨#[]⟩ : ByteArray), .string (⟨#[]⟩ : ByteArray), .slice none 0 0]) rfl rfl rfl rfl rfl rfl (by first | kernel_rfl | rfl) (by simp [Value.oneCell']) HJ2558 (by simp only [List.length_cons, List.length_nil]; omega) rfl ?_
      intro w3645 HX3646 hs3647
      replace HX2588 := HX2588.thru hs3647 rfl
      replace HJ2554 := HJ2554.thru hs3647 rfl
      replace HJ2555 := HJ2555.thru hs3647 rfl
      replace HX2576 := HX2576.thru hs3647 rfl
      replace HS2553 := HS2553.trans hs3647 hc rfl
      (try simp only [ls0, ls1])
      refine as_ rfl ?_
      refine wl_end ?_
      (try simp only [ls0, ls1])
      refine hK3644 _ _ ?_
      (try clear hK3644 K3644)
      refine wp_ret ?_
      (try simp only [Exit.inBlock, Exit.then, Exit.noGoto])
      (try simp only [ls0, ls1])
      simp only [Option.some.injEq, Prod.mk.injEq] at H
      obtain ⟨rfl, rfl, rfl, rfl, rfl, rfl, rfl, rfl, rfl⟩ := H
      refine bodyPost_ret (res_ct rfl rfl (load_of (load_agg (cs := [.int .i64 0, .int .i64 0, .int .i64 0, .string (⟨#[]⟩ : ByteArray), .string (⟨#[]⟩ : ByteArray), .slice none 0 0]) Try.underlying44 rfl (by kernel_rfl) (bx_cells (HX3646).2 0 rfl)))) rfl ?_
      exact ⟨_, none, 0, rfl, HS2553, (Kd.F_nil _ _ _), (Nat.le_refl 0), HX2588⟩
     rw [if_neg c2573] at H
     (try rw [(decide_eq_false c2573)])
     (try simp only [Bool.not_true, Bool.not_false])
     refine wp_cond_true rfl ?_
     refine wp_seq_k fun K3648 hK3648 => ?_
     refine wl_region ?_
     refine st (.agg #[.int .i64 2, .int .i64 t2486, .int .i64 0, .string x2559, .string (⟨#[]⟩ : ByteArray), .slice none 0 0]) rfl rfl (xr_load _ _ rfl rfl (load_agg (cs := [.int .i64 2, .int .i64 t2486, .int .i64 0, .string x2559, .string (⟨#[]⟩ : ByteArray), .slice none 0 0]) Try.underlying44 rfl (by kernel_rfl) (bx_cells (HJ2560).2 0 rfl))) ?_
     refine bx_store (C := C2571_) (z := 11) (g := g2447) (j := 0) (tb := 44) (u := .agg #[.int .i64 2, .int .i64 t2486, .int .i64 0, .string x2559, .string (⟨#[]⟩ : ByteArray), .slice none 0 0]) (seg := [.int .i64 2, .int .i64 t2486, .int .i64 0, .string x2559, .string (⟨#[]⟩ : ByteArray), .slice none 0 0]) (xs := [.int .i64 0, .int .i64 0, .int .i64 0, .string (⟨#[]⟩ : ByteArray), .string (⟨#[]⟩ : ByteArray), .slice none 0 0]) rfl rfl rfl rfl rfl rfl (by first | kernel_rfl | rfl) (by simp [Value.oneCell']) HJ2558 (by simp only [List.length_cons, List.length_nil]; omega) rfl ?_
     intro w3649 HX3650 hs3651
     replace HJ2557 := HJ2557.thru hs3651 rfl
     replace HJ2554 := HJ2554.thru hs3651 rfl
     replace HJ2555 := HJ2555.thru hs3651 rfl
     replace HJ2560 := HJ2560.thru hs3651 rfl
     replace HS2553 := HS2553.trans hs3651 hc rfl
     (try simp only [ls0, ls1])
     refine st (.int .i64 0) rfl rfl (xr_assign _ rfl rfl) ?_
     refine wl_end ?_
     (try simp only [ls0, ls1])
     refine hK3648 _ _ ?_
     (try clear hK3648 K3648)
     refine wp_ret ?_
     (try simp only [Exit.inBlock, Exit.then, Exit.noGoto])
     (try simp only [ls0, ls1])
     simp only [Option.some.injEq, Prod.mk.injEq] at H
     obtain ⟨rfl, rfl, rfl, rfl, rfl, rfl, rfl, rfl, rfl⟩ := H
     refine bodyPost_ret (res_ct rfl rfl (load_of (load_agg (cs := [.int .i64 2, .int .i64 t2486, .int .i64 0, .string x2559, .string (⟨#[]⟩ : ByteArray), .slice none 0 0]) Try.underlying44 rfl (by kernel_rfl) (bx_cells (HX3650).2 0 rfl)))) rfl ?_
     exact ⟨_, none, 0, rfl, HS2553, (Kd.F_nil _ _ _), (Nat.le_refl 0), HJ2557⟩
   refine wp_seq_k fun K3652 hK3652 => ?_
   refine wl_region ?_
   refine mv_ rfl ?_
   obtain ⟨⟨t3653, t3654⟩, A3655, H⟩ := bnd H
   (try dsimp only at H)
   refine st_call #[.pointer (some ⟨g0, 0, none⟩), .string (⟨#[46]⟩ : ByteArray)] rfl rfl Try.func48 (by kernel_rfl) rfl rfl (mp_ rfl) ?_
   refine (expr_Cursor_Take.calls g0 A0_0 c0_0 l0_0 A0_1 c0_1 l0_1 t2505 a0_3 (⟨#[46]⟩ : ByteArray) t3653 t3654  (fun z_ => pal [(0, 0), (1, 1)] (C2509_ z_)) w2512 (fun _ => pal_lt rfl _) (Bx.arg HX2511 rfl) (Ft.arg HP0_0 rfl) HCP0_0 (Ft.arg HP0_1 rfl) HCP0_1 A3655).mono ?_
   rintro _ w3657 ⟨C3658, rfl, hs3659, HX3660⟩
   refine ⟨_, rfl, ?_⟩
   replace HX3660 := Bx.res (U := [(0, 0), (1, 1)]) (j := 1) HX3660 hs3659 (by rfl) (by decide) rfl
   replace hs3659 := Step.lift (U := [(0, 0), (1, 1)]) hs3659 [1] rfl rfl
   generalize up C2509_ C3658 w2512.heap.size [(0, 0), (1, 1)] = C3658_ at HX3660 hs3659
   replace HP0_0 := HP0_0.thru hs3659 rfl
   replace HP0_1 := HP0_1.thru hs3659 rfl
   replace HX2450 := HX2450.thru hs3659 rfl
   replace HX2513 := HX2513.thru hs3659 rfl
   replace HS := HS.trans hs3659 hc rfl
   (try simp only [ls0, ls1])
   refine wl_end ?_
   (try simp only [ls0, ls1])
   refine hK3652 _ _ ?_
   (try clear hK3652 K3652)
   by_cases c3661 : t3653 = true
   ·rw [if_pos c3661] at H
    (try rw [c3661])
    refine wp_cond_true rfl ?_
    refine wp_seq_k fun K3662 hK3662 => ?_
    refine wl_region ?_
    refine mv_ rfl ?_
    obtain ⟨⟨t3663, t3664, t3665⟩, A3666, H⟩ := bnd H
    (try dsimp only at H)
    refine st_call #[.pointer (some ⟨g0, 0, none⟩)] rfl rfl Try.func49 (by kernel_rfl) rfl rfl (mp_ rfl) ?_
    refine (expr_Cursor_Ident.calls k g0 A0_0 c0_0 l0_0 A0_1 c0_1 l0_1 t3654 a0_3 t3663 t3664 t3665  (fun z_ => pal [(0, 0), (1, 1)] (C3658_ z_)) w3657 (fun _ => pal_lt rfl _) (Bx.arg HX3660 rfl) (Ft.arg HP0_0 rfl) HCP0_0 (Ft.arg HP0_1 rfl) HCP0_1 A3666).mono ?_
    rintro _ w3668 ⟨C3669, rfl, hs3670, HX3671⟩
    refine ⟨_, rfl, ?_⟩
    replace HX3671 := Bx.res (U := [(0, 0), (1, 1)]) (j := 1) HX3671 hs3670 (by rfl) (by decide) rfl
    replace hs3670 := Step.lift (U := [(0, 0), (1, 1)]) hs3670 [1] rfl rfl
    generalize up C3658_ C3669 w3657.heap.size [(0, 0), (1, 1)] = C3669_ at HX3671 hs3670
    replace HP0_0 := HP0_0.thru hs3670 rfl
    replace HP0_1 := HP0_1.thru hs3670 rfl
    replace HX2450 := HX2450.thru hs3670 rfl
    replace HX2513 := HX2513.thru hs3670 rfl
    replace HS := HS.trans hs3670 hc rfl
    (try simp only [ls0, ls1])
    refine mv_ rfl ?_
    refine st (.string t3663) rfl rfl (xr_extract (.tuple #[.string t3663, .bool t3664]) _ rfl rfl rfl) ?_
    refine st (.bool t3664) rfl rfl (xr_extract (.tuple #[.string t3663, .bool t3664]) _ rfl rfl rfl) ?_
    refine as_ rfl ?_
    simp only [ls0, ls1]
    refine as_ rfl ?_
    refine wl_end ?_
    (try simp only [ls0, ls1])
    refine hK3662 _ _ ?_
    (try clear hK3662 K3662)
    refine wp_seq_k fun K3672 hK3672 => ?_
    refine wp_seq_k fun K3673 hK3673 => ?_
    refine wl_region ?_
    refine mv_ rfl ?_
    refine st (.bool (!t3664)) rfl rfl (xr_un (.bool t3664) _ rfl rfl (by first | rfl | (go_simp; done) | (go_simp; rfl) | (go_simp; exact i64_w _) | (go_simp; exact i32_w _))) ?_
    refine wl_end ?_
    (try simp only [ls0, ls1])
    refine hK3673 _ _ ?_
    (try clear hK3673 K3673)
    by_cases c3674 : t3664 = true
    ·rw [if_pos c3674] at H
     (try rw [c3674])
     (try simp only [Bool.not_true, Bool.not_false])
     refine wp_cond_false rfl ?_
     refine wp_skip ?_
     (try simp only [ls0, ls1])
     refine hK3672 _ _ ?_
     (try clear hK3672 K3672)
     refine wl_region ?_
     refine st (.pointer (some ⟨g2492, 3, none⟩)) rfl rfl (xr_fieldAddr _ _ rfl rfl (bx_field2 Try.underlying44 rfl rfl (by kernel_rfl))) ?_
     refine st (.string t2503) rfl rfl (xr_load _ _ rfl rfl (load_cell Try.underlying9 rfl (bx_cell (HX2513).2 3 rfl))) ?_
     refine mv_ rfl ?_
     obtain ⟨c3675, H⟩ := if_some H
     refine st (.string ((⟨#[46]⟩ : ByteArray) ++ t3663)) rfl rfl (xr_bin _ _ _ rfl rfl rfl (B.add_str _ _ (by assumption))) ?_
     simp only [ls0, ls1]
     obtain ⟨c3676, H⟩ := if_some H
     refine st (.string (t2503 ++ ((⟨#[46]⟩ : ByteArray) ++ t3663))) rfl rfl (xr_bin _ _ _ rfl rfl rfl (B.add_str _ _ (by assumption))) ?_
     refine st (.pointer (some ⟨g2492, 3, none⟩)) rfl rfl (xr_fieldAddr _ _ rfl rfl (bx_field2 Try.underlying44 rfl rfl (by kernel_rfl))) ?_
     refine bx_store (C := C3669_) (z := 12) (g := g2492) (j := 3) (tb := 44) (u := .string (t2503 ++ ((⟨#[46]⟩ : ByteArray) ++ t3663))) (seg := [.string (t2503 ++ ((⟨#[46]⟩ : ByteArray) ++ t3663))]) (xs := [.int .i64 2, .int .i64 t2486, .int .i64 0, .string t2503, .string (⟨#[]⟩ : ByteArray), .slice none 0 0]) rfl rfl rfl rfl rfl rfl (by first | kernel_rfl | rfl) (by simp [Value.oneCell']) HX2513 (by simp only [List.length_cons, List.length_nil]; omega) rfl ?_
     intro w3677 HX3678 hs3679
     replace HX3671 := HX3671.thru hs3679 rfl
     replace HP0_0 := HP0_0.thru hs3679 rfl
     replace HP0_1 := HP0_1.thru hs3679 rfl
     replace HX2450 := HX2450.thru hs3679 rfl
     replace HS := HS.trans hs3679 hc rfl
     (try simp only [ls0, ls1])
     refine wl_end ?_
     (try simp only [ls0, ls1])
     exact jmp (fun g_ => hj2550 _ _ _ (t3665) (t2503 ++ ((⟨#[46]⟩ : ByteArray) ++ t3663)) g_ HS (by omega) HP0_0 HP0_1 HX3671 HX2450 HX3678 H) rfl
    rw [if_neg c3674] at H
    (try rw [(Bool.eq_false_iff.mpr c3674)])
    (try simp only [Bool.not_true, Bool.not_false])
    refine wp_cond_true rfl ?_
    refine wp_seq_k fun K3680 hK3680 => ?_
    refine wl_region ?_
    refine st (.agg #[.int .i64 0, .int .i64 0, .int .i64 0, .string (⟨#[]⟩ : ByteArray), .string (⟨#[]⟩ : ByteArray), .slice none 0 0]) rfl rfl (xr_build #[] (.agg #[.int .i64 0, .int .i64 0, .int .i64 0, .string (⟨#[]⟩ : ByteArray), .string (⟨#[]⟩ : ByteArray), .slice none 0 0]) rfl (mp_ rfl) (by first | rfl | (go_simp; done) | (go_simp; rfl) | (go_simp; exact i64_w _) | (go_simp; exact i32_w _))) ?_
    refine bx_store (C := C3669_) (z := 11) (g := g2447) (j := 0) (tb := 44) (u := .agg #[.int .i64 0, .int .i64 0, .int .i64 0, .string (⟨#[]⟩ : ByteArray), .string (⟨#[]⟩ : ByteArray), .slice none 0 0]) (seg := [.int .i64 0, .int .i64 0, .int .i64 0, .string (⟨#[]⟩ : ByteArray), .string (⟨#[]⟩ : ByteArray), .slice none 0 0]) (xs := [.int .i64 0, .int .i64 0, .int .i64 0, .string (⟨#[]⟩ : ByteArray), .string (⟨#[]⟩ : ByteArray), .slice none 0 0]) rfl rfl rfl rfl rfl rfl (by first | kernel_rfl | rfl) (by simp [Value.oneCell']) HX2450 (by simp only [List.length_cons, List.length_nil]; omega) rfl ?_
    intro w3681 HX3682 hs3683
    replace HX3671 := HX3671.thru hs3683 rfl
    replace HP0_0 := HP0_0.thru hs3683 rfl
    replace HP0_1 := HP0_1.thru hs3683 rfl
    replace HX2513 := HX2513.thru hs3683 rfl
    replace HS := HS.trans hs3683 hc rfl
    (try simp only [ls0, ls1])
    refine st (.int .i64 11) rfl rfl (xr_assign _ rfl rfl) ?_
    refine wl_end ?_
    (try simp only [ls0, ls1])
    refine hK3680 _ _ ?_
    (try clear hK3680 K3680)
    refine wp_ret ?_
    (try simp only [Exit.inBlock, Exit.then, Exit.noGoto])
    (try simp only [ls0, ls1])
    simp only [Option.some.injEq, Prod.mk.injEq] at H
    obtain ⟨rfl, rfl, rfl, rfl, rfl, rfl, rfl, rfl, rfl⟩ := H
    refine bodyPost_ret (res_ct rfl rfl (load_of (load_agg (cs := [.int .i64 0, .int .i64 0, .int .i64 0, .string (⟨#[]⟩ : ByteArray), .string (⟨#[]⟩ : ByteArray), .slice none 0 0]) Try.underlying44 rfl (by kernel_rfl) (bx_cells (HX3682).2 0 rfl)))) rfl ?_
    exact ⟨_, none, 0, rfl, HS, (Kd.F_nil _ _ _), (Nat.le_refl 0), HX3671⟩
   rw [if_neg c3661] at H
   (try rw [(Bool.eq_false_iff.mpr c3661)])
   refine wp_cond_false rfl ?_
   refine wp_skip ?_
   (try simp only [ls0, ls1])
   exact jmp (fun g_ => hj2550 _ _ _ (t3654) (t2503) g_ HS (by omega) HP0_0 HP0_1 HX3660 HX2450 HX2513 H) rfl
  rw [if_neg c2516] at H
  (try rw [(Bool.eq_false_iff.mpr c2516)])
  (try simp only [Bool.not_true, Bool.not_false])
  refine wp_cond_true rfl ?_
  refine wp_seq_k fun K3684 hK3684 => ?_
  refine wl_region ?_
  refine st (.agg #[.int .i64 0, .int .i64 0, .int .i64 0, .string (⟨#[]⟩ : ByteArray), .string (⟨#[]⟩ : ByteArray), .slice none 0 0]) rfl rfl (xr_build #[] (.agg #[.int .i64 0, .int .i64 0, .int .i64 0, .string (⟨#[]⟩ : ByteArray), .string (⟨#[]⟩ : ByteArray), .slice none 0 0]) rfl (mp_ rfl) (by first | rfl | (go_simp; done) | (go_simp; rfl) | (go_simp; exact i64_w _) | (go_simp; exact i32_w _))) ?_
  refine bx_store (C := C2509_) (z := 11) (g := g2447) (j := 0) (tb := 44) (u := .agg #[.int .i64 0, .int .i64 0, .int .i64 0, .string (⟨#[]⟩ : ByteArray), .string (⟨#[]⟩ : ByteArray), .slice none 0 0]) (seg := [.int .i64 0, .int .i64 0, .int .i64 0, .string (⟨#[]⟩ : ByteArray), .string (⟨#[]⟩ : ByteArray), .slice none 0 0]) (xs := [.int .i64 0, .int .i64 0, .int .i64 0, .string (⟨#[]⟩ : ByteArray), .string (⟨#[]⟩ : ByteArray), .slice none 0 0]) rfl rfl rfl rfl rfl rfl (by first | kernel_rfl | rfl) (by simp [Value.oneCell']) HX2450 (by simp only [List.length_cons, List.length_nil]; omega) rfl ?_
  intro w3685 HX3686 hs3687
  replace HX2511 := HX2511.thru hs3687 rfl
  replace HP0_0 := HP0_0.thru hs3687 rfl
  replace HP0_1 := HP0_1.thru hs3687 rfl
  replace HX2513 := HX2513.thru hs3687 rfl
  replace HS := HS.trans hs3687 hc rfl
  (try simp only [ls0, ls1])
  refine st (.int .i64 11) rfl rfl (xr_assign _ rfl rfl) ?_
  refine wl_end ?_
  (try simp only [ls0, ls1])
  refine hK3684 _ _ ?_
  (try clear hK3684 K3684)
  refine wp_ret ?_
  (try simp only [Exit.inBlock, Exit.then, Exit.noGoto])
  (try simp only [ls0, ls1])
  simp only [Option.some.injEq, Prod.mk.injEq] at H
  obtain ⟨rfl, rfl, rfl, rfl, rfl, rfl, rfl, rfl, rfl⟩ := H
  refine bodyPost_ret (res_ct rfl rfl (load_of (load_agg (cs := [.int .i64 0, .int .i64 0, .int .i64 0, .string (⟨#[]⟩ : ByteArray), .string (⟨#[]⟩ : ByteArray), .slice none 0 0]) Try.underlying44 rfl (by kernel_rfl) (bx_cells (HX3686).2 0 rfl)))) rfl ?_
  exact ⟨_, none, 0, rfl, HS, (Kd.F_nil _ _ _), (Nat.le_refl 0), HX2511⟩
 ·show _
  refine bx_new_step (C := C2449) 44 ([.int .i64 0, .int .i64 0, .int .i64 0, .string (⟨#[]⟩ : ByteArray), .string (⟨#[]⟩ : ByteArray), .slice none 0 0]) 12 rfl rfl (by first | (go_simp; done) | (go_simp; rfl)) ?_
  intro g3688 w3689 C3690 HX3691 hs3692
  replace HP0 := HP0.thru hs3692 rfl
  replace HP0_0 := HP0_0.thru hs3692 rfl
  replace HP0_1 := HP0_1.thru hs3692 rfl
  replace HX2450 := HX2450.thru hs3692 rfl
  replace HS := HS.trans hs3692 hc rfl
  refine hK_ _ _ (HP0).2 ?_
  clear hK_ K_
  (try simp only [Act.put, List.setIfInBounds_toArray, ls0, ls1])
  have HP3693 : Ft C3690 [0, 1] w3689 (fun w_ => (Kd.ptr 111 k111).K w_ (some (⟨l0_0, l0_1, a0_2, a0_3⟩ : S111)) [.pointer (some ⟨g0, 0, none⟩)]) := ptr_mk (Ft.more (HP0.ft) rfl) (k111_mkF _ _ (⟨l0_0, l0_1, a0_2, a0_3⟩ : S111) HCP0_0 (Ft.more HP0_0 rfl) HCP0_1 (Ft.more HP0_1 rfl))
  obtain ⟨t3694, A3695, H⟩ := bnd H
  refine al_one 5 (lb 10 191) rfl rfl (by kernel_rfl) rfl (fun K_ hK_ => ?_)
  refine goes_ Try.func44 (by kernel_rfl) rfl #[.pointer (some ⟨g0, 0, none⟩)] rfl rfl rfl (mpe_ rfl) ?_
  refine (expr_Cursor_Pos.calls (.pointer (some ⟨g0, 0, none⟩)) (some (⟨l0_0, l0_1, a0_2, a0_3⟩ : S111) : Option S111) t3694  (fun z_ => pal [(0, 0), (1, 0)] (C3690 z_)) w3689 (fun _ => pal_lt rfl _) (Ft.arg HP3693 rfl) A3695).mono ?_
  rintro _ w3697 ⟨C3698, rfl, hs3699⟩
  refine ⟨_, rfl, ?_⟩
  replace hs3699 := Step.lift (U := [(0, 0)]) hs3699 [] rfl rfl
  generalize up C3690 C3698 w3689.heap.size [(0, 0)] = C3698_ at hs3699
  replace HP0 := HP0.thru hs3699 rfl
  replace HP0_0 := HP0_0.thru hs3699 rfl
  replace HP0_1 := HP0_1.thru hs3699 rfl
  replace HX2450 := HX2450.thru hs3699 rfl
  replace HX3691 := HX3691.thru hs3699 rfl
  replace HS := HS.trans hs3699 hc rfl
  refine hK_ _ _ (HP0).2 ?_
  clear hK_ K_
  (try simp only [Act.put, List.setIfInBounds_toArray, ls0, ls1])
  refine al_pure 6 19 (.agg #[.int .i64 2, .int .i64 t3694, .int .i64 0, .string (⟨#[]⟩ : ByteArray), .string (⟨#[]⟩ : ByteArray), .slice none 0 0]) (lb 10 255) rfl rfl (by kernel_rfl) (fun _ _ _ => id) rfl (fun w_ => xr_build #[(0, .int .i64 2), (1, .int .i64 t3694)] (.agg #[.int .i64 2, .int .i64 t3694, .int .i64 0, .string (⟨#[]⟩ : ByteArray), .string (⟨#[]⟩ : ByteArray), .slice none 0 0]) rfl (mp_ rfl) (by first | rfl | (go_simp; done) | (go_simp; rfl) | (go_simp; exact i64_w _) | (go_simp; exact i32_w _))) ?_
  refine al_as 8 (lb 10 511) rfl rfl (by kernel_rfl) (fun _ _ _ => id) rfl ?_
  refine al_last 9 (lb 10 1023) rfl rfl (by kernel_rfl) rfl (fun K_ hK_ => ?_)
  refine bx_store_step (C := C3698_) (z := 12) (g := g3688) (j := 0) (tb := 44) (u := .agg #[.int .i64 2, .int .i64 t3694, .int .i64 0, .string (⟨#[]⟩ : ByteArray), .string (⟨#[]⟩ : ByteArray), .slice none 0 0]) (seg := [.int .i64 2, .int .i64 t3694, .int .i64 0, .string (⟨#[]⟩ : ByteArray), .string (⟨#[]⟩ : ByteArray), .slice none 0 0]) (xs := [.int .i64 0, .int .i64 0, .int .i64 0, .string (⟨#[]⟩ : ByteArray), .string (⟨#[]⟩ : ByteArray), .slice none 0 0]) rfl rfl rfl rfl rfl rfl (by first | kernel_rfl | rfl) (by simp [Value.oneCell']) HX3691 (by simp only [List.length_cons, List.length_nil]; omega) rfl ?_
  intro w3700 HX3701 hs3702
  replace HP0 := HP0.thru hs3702 rfl
  replace HP0_0 := HP0_0.thru hs3702 rfl
  replace HP0_1 := HP0_1.thru hs3702 rfl
  replace HX2450 := HX2450.thru hs3702 rfl
  replace HS := HS.trans hs3702 hc rfl
  refine hK_ _ _ ?_
  clear hK_ K_
  (try simp only [Act.put, List.setIfInBounds_toArray, ls0, ls1])
  refine al_end (by kernel_rfl) ?_
  (try simp only [ls0, ls1])
  refine hK2452 _ _ ?_
  (try clear hK2452 K2452)
  refine wp_seq_k fun K3703 hK3703 => ?_
  refine wl_region ?_
  refine st (.bool false) rfl rfl (xr_assign _ rfl rfl) ?_
  refine wl_end ?_
  (try simp only [ls0, ls1])
  refine hK3703 _ _ ?_
  (try clear hK3703 K3703)
  refine wp_seq_k fun K3704 hK3704 => ?_
  refine wp_seq_k fun K3705 hK3705 => ?_
  refine wl_region ?_
  refine mv_ rfl ?_
  obtain ⟨⟨t3706, t3707, t3708⟩, A3709, H⟩ := bnd H
  (try dsimp only at H)
  refine st_call #[.pointer (some ⟨g0, 0, none⟩)] rfl rfl Try.func49 (by kernel_rfl) rfl rfl (mp_ rfl) ?_
  refine (expr_Cursor_Ident.calls k g0 A0_0 c0_0 l0_0 A0_1 c0_1 l0_1 a0_2 a0_3 t3706 t3707 t3708  (fun z_ => pal [(0, 0), (1, 1)] (C3698_ z_)) w3700 (fun _ => pal_lt rfl _) (Bx.arg HP0 rfl) (Ft.arg HP0_0 rfl) HCP0_0 (Ft.arg HP0_1 rfl) HCP0_1 A3709).mono ?_
  rintro _ w3711 ⟨C3712, rfl, hs3713, HX3714⟩
  refine ⟨_, rfl, ?_⟩
  replace HX3714 := Bx.res (U := [(0, 0), (1, 1)]) (j := 1) HX3714 hs3713 (by rfl) (by decide) rfl
  replace hs3713 := Step.lift (U := [(0, 0), (1, 1)]) hs3713 [1] rfl rfl
  generalize up C3698_ C3712 w3700.heap.size [(0, 0), (1, 1)] = C3712_ at HX3714 hs3713
  replace HP0_0 := HP0_0.thru hs3713 rfl
  replace HP0_1 := HP0_1.thru hs3713 rfl
  replace HX2450 := HX2450.thru hs3713 rfl
  replace HX3701 := HX3701.thru hs3713 rfl
  replace HS := HS.trans hs3713 hc rfl
  (try simp only [ls0, ls1])
  refine mv_ rfl ?_
  refine st (.string t3706) rfl rfl (xr_extract (.tuple #[.string t3706, .bool t3707]) _ rfl rfl rfl) ?_
  refine st (.bool t3707) rfl rfl (xr_extract (.tuple #[.string t3706, .bool t3707]) _ rfl rfl rfl) ?_
  refine st (.pointer (some ⟨g3688, 3, none⟩)) rfl rfl (xr_fieldAddr _ _ rfl rfl (bx_field2 Try.underlying44 rfl rfl (by kernel_rfl))) ?_
  simp only [ls0, ls1]
  refine bx_store (C := C3712_) (z := 12) (g := g3688) (j := 3) (tb := 44) (u := .string t3706) (seg := [.string t3706]) (xs := [.int .i64 2, .int .i64 t3694, .int .i64 0, .string (⟨#[]⟩ : ByteArray), .string (⟨#[]⟩ : ByteArray), .slice none 0 0]) rfl rfl rfl rfl rfl rfl (by first | kernel_rfl | rfl) (by simp [Value.oneCell']) HX3701 (by simp only [List.length_cons, List.length_nil]; omega) rfl ?_
  intro w3715 HX3716 hs3717
  replace HX3714 := HX3714.thru hs3717 rfl
  replace HP0_0 := HP0_0.thru hs3717 rfl
  replace HP0_1 := HP0_1.thru hs3717 rfl
  replace HX2450 := HX2450.thru hs3717 rfl
  replace HS := HS.trans hs3717 hc rfl
  (try simp only [ls0, ls1])
  refine as_ rfl ?_
  refine wl_end ?_
  (try simp only [ls0, ls1])
  refine hK3705 _ _ ?_
  (try clear hK3705 K3705)
  refine wp_seq_k fun K3718 hK3718 => ?_
  refine wl_region ?_
  refine mv_ rfl ?_
  refine st (.bool (!t3707)) rfl rfl (xr_un (.bool t3707) _ rfl rfl (by first | rfl | (go_simp; done) | (go_simp; rfl) | (go_simp; exact i64_w _) | (go_simp; exact i32_w _))) ?_
  refine wl_end ?_
  (try simp only [ls0, ls1])
  refine hK3718 _ _ ?_
  (try clear hK3718 K3718)
  by_cases c3719 : t3707 = true
  ·rw [if_pos c3719] at H
   (try rw [c3719])
   (try simp only [Bool.not_true, Bool.not_false])
   refine wp_cond_false rfl ?_
   refine wp_skip ?_
   (try simp only [ls0, ls1])
   refine hK3704 _ _ ?_
   (try clear hK3704 K3704)
   refine wp_seq_k fun K3720 hK3720 => ?_
   have hj3753 : ∀ (kq3764 : Nat) (C3754 : Nat → Nat) (w3755 : World) (x3759 : Int) (x3762 : ByteArray) (g_ : Nat → Value), Step c w C3754 w3755 [1] → kq3764 ≤ k → (Ft C3754 [0] w3755 (fun w_ => (Kd.int .u8).C w_ A0_0 l0_0.length l0_0)) → (Ft C3754 [0] w3755 (fun w_ => k28.C w_ A0_1 l0_1.length l0_1)) → (Bx C3754 1 w3755 g0 111 ([.slice A0_0 l0_0.length c0_0, .slice A0_1 l0_1.length c0_1, .int .i64 x3759, .int .i64 a0_3])) → (Bx C3754 11 w3755 g2447 44 ([.int .i64 0, .int .i64 0, .int .i64 0, .string (⟨#[]⟩ : ByteArray), .string (⟨#[]⟩ : ByteArray), .slice none 0 0])) → (Bx C3754 12 w3755 g3688 44 ([.int .i64 2, .int .i64 t3694, .int .i64 0, .string x3762, .string (⟨#[]⟩ : ByteArray), .slice none 0 0])) → expr_Cursor_named.j0 r_ kq3764 a0_2 a0_3 l0_0 l0_1 t3694 x3759 x3762 = some (r1, r2, r3, r4, r5, r6, r7, r8, r9) → K3720 ⟨#[.pointer (some ⟨g0, 0, none⟩), (g_ 1), .pointer (some ⟨g2447, 0, none⟩), (g_ 3), .int .i64 a0_2, .pointer (some ⟨g3688, 0, none⟩), (g_ 6), (g_ 7), (g_ 8), (g_ 9), (g_ 10), (g_ 11), (g_ 12), (g_ 13), (g_ 14), (g_ 15), (g_ 16), (g_ 17), (g_ 18), (g_ 19), (g_ 20), (g_ 21), (g_ 22), (g_ 23), (g_ 24), (g_ 25), (g_ 26), (g_ 27), (g_ 28), (g_ 29), (g_ 30), (g_ 31), (g_ 32), (g_ 33), (g_ 34), (g_ 35), (g_ 36), (g_ 37), (g_ 38), (g_ 39), (g_ 40), (g_ 41), (g_ 42), (g_ 43), (g_ 44), (g_ 45), (g_ 46), (g_ 47), (g_ 48), (g_ 49), (g_ 50), (g_ 51), (g_ 52), (g_ 53), (g_ 54), (g_ 55), (g_ 56), (g_ 57), (g_ 58), (g_ 59), (g_ 60), (g_ 61), (g_ 62), (g_ 63), (g_ 64), (g_ 65), (g_ 66), (g_ 67), (g_ 68), (g_ 69), (g_ 70), (g_ 71), (g_ 72), (g_ 73), (g_ 74), (g_ 75), (g_ 76), (g_ 77), (g_ 78), (g_ 79), (g_ 80), (g_ 81), (g_ 82), (g_ 83), (g_ 84), (g_ 85), (g_ 86), (g_ 87), (g_ 88), (g_ 89), (g_ 90), (g_ 91), (g_ 92), (g_ 93), (g_ 94), (g_ 95)], []⟩ w3755 := by
    intro kq3764 C3754 w3755 x3759 x3762 g_ HS3756 hk3765 HJ3757 HJ3758 HJ3760 HJ3761 HJ3763 H
    cases kq3764 with
    | zero => exact absurd H (by simp [expr_Cursor_named.j0])
    | succ k3766 =>
     simp only [expr_Cursor_named.j0] at H
     refine hK3720 _ _ ?_
     (try clear hK3720)
     refine wp_seq_k fun K3767 hK3767 => ?_
     refine wp_seq_k fun K3768 hK3768 => ?_
     refine wl_region ?_
     refine mv_ rfl ?_
     have HP3769 : Ft C3754 [0, 1] w3755 (fun w_ => (Kd.ptr 111 k111).K w_ (some (⟨l0_0, l0_1, x3759, a0_3⟩ : S111)) [.pointer (some ⟨g0, 0, none⟩)]) := ptr_mk (Ft.more (HJ3760.ft) rfl) (k111_mkF _ _ (⟨l0_0, l0_1, x3759, a0_3⟩ : S111) HCP0_0 (Ft.more HJ3757 rfl) HCP0_1 (Ft.more HJ3758 rfl))
     obtain ⟨t3770, A3771, H⟩ := bnd H
     refine st_call #[.pointer (some ⟨g0, 0, none⟩)] rfl rfl Try.func43 (by kernel_rfl) rfl rfl (mp_ rfl) ?_
     refine (expr_Cursor_Peek.calls (.pointer (some ⟨g0, 0, none⟩)) (some (⟨l0_0, l0_1, x3759, a0_3⟩ : S111) : Option S111) t3770  (fun z_ => pal [(0, 0), (1, 0)] (C3754 z_)) w3755 (fun _ => pal_lt rfl _) (Ft.arg HP3769 rfl) A3771).mono ?_
     rintro _ w3773 ⟨C3774, rfl, hs3775⟩
     refine ⟨_, rfl, ?_⟩
     replace hs3775 := Step.lift (U := [(0, 0)]) hs3775 [] rfl rfl
     generalize up C3754 C3774 w3755.heap.size [(0, 0)] = C3774_ at hs3775
     replace HJ3760 := HJ3760.thru hs3775 rfl
     replace HJ3757 := HJ3757.thru hs3775 rfl
     replace HJ3758 := HJ3758.thru hs3775 rfl
     replace HJ3761 := HJ3761.thru hs3775 rfl
     replace HJ3763 := HJ3763.thru hs3775 rfl
     replace HS3756 := HS3756.trans hs3775 hc rfl
     (try simp only [ls0, ls1])
     refine st (.bool (!decide (t3770 = (⟨#[40]⟩ : ByteArray)))) rfl rfl (xr_bin _ _ _ rfl rfl rfl (B.neq_str _ _)) ?_
     refine wl_end ?_
     (try simp only [ls0, ls1])
     refine hK3768 _ _ ?_
     (try clear hK3768 K3768)
     by_cases c3776 : t3770 = (⟨#[40]⟩ : ByteArray)
     ·rw [if_pos c3776] at H
      (try rw [(decide_eq_true c3776)])
      (try simp only [Bool.not_true, Bool.not_false])
      refine wp_cond_false rfl ?_
      refine wp_skip ?_
      (try simp only [ls0, ls1])
      refine hK3767 _ _ ?_
      (try clear hK3767 K3767)
      refine wp_seq_k fun K3777 hK3777 => ?_
      refine wl_region ?_
      refine st (.pointer (some ⟨g3688, 0, none⟩)) rfl rfl (xr_fieldAddr _ _ rfl rfl (bx_field2 Try.underlying44 rfl rfl (by kernel_rfl))) ?_
      refine bx_store (C := C3774_) (z := 12) (g := g3688) (j := 0) (tb := 44) (u := .int .i64 3) (seg := [.int .i64 3]) (xs := [.int .i64 2, .int .i64 t3694, .int .i64 0, .string x3762, .string (⟨#[]⟩ : ByteArray), .slice none 0 0]) rfl rfl rfl rfl rfl rfl (by first | kernel_rfl | rfl) (by simp [Value.oneCell']) HJ3763 (by simp only [List.length_cons, List.length_nil]; omega) rfl ?_
      intro w3778 HX3779 hs3780
      replace HJ3760 := HJ3760.thru hs3780 rfl
      replace HJ3757 := HJ3757.thru hs3780 rfl
      replace HJ3758 := HJ3758.thru hs3780 rfl
      replace HJ3761 := HJ3761.thru hs3780 rfl
      replace HS3756 := HS3756.trans hs3780 hc rfl
      (try simp only [ls0, ls1])
      refine wl_end ?_
      (try simp only [ls0, ls1])
      refine hK3777 _ _ ?_
      (try clear hK3777 K3777)
      refine wp_seq_k fun K3781 hK3781 => ?_
      refine wp_seq_k fun K3782 hK3782 => ?_
      refine wl_region ?_
      refine mv_ rfl ?_
      obtain ⟨⟨t3783, t3784, t3785⟩, A3786, H⟩ := bnd H
      (try dsimp only at H)
      refine st_call #[.pointer (some ⟨g0, 0, none⟩)] rfl rfl Try.func121 (by kernel_rfl) rfl rfl (mp_ rfl) ?_
      refine (expr_Cursor_down.calls g0 A0_0 c0_0 l0_0 A0_1 c0_1 l0_1 x3759 a0_3 t3783 t3784 t3785  (fun z_ => pal [(0, 0), (1, 1)] (C3774_ z_)) w3778 (fun _ => pal_lt rfl _) (Bx.arg HJ3760 rfl) (Ft.arg HJ3757 rfl) HCP0_0 (Ft.arg HJ3758 rfl) HCP0_1 A3786).mono ?_
      rintro _ w3788 ⟨C3789, rfl, hs3790, HX3791⟩
      refine ⟨_, rfl, ?_⟩
      replace HX3791 := Bx.res (U := [(0, 0), (1, 1)]) (j := 1) HX3791 hs3790 (by rfl) (by decide) rfl
      replace hs3790 := Step.lift (U := [(0, 0), (1, 1)]) hs3790 [1] rfl rfl
      generalize up C3774_ C3789 w3778.heap.size [(0, 0), (1, 1)] = C3789_ at HX3791 hs3790
      replace HJ3757 := HJ3757.thru hs3790 rfl
      replace HJ3758 := HJ3758.thru hs3790 rfl
      replace HJ3761 := HJ3761.thru hs3790 rfl
      replace HX3779 := HX3779.thru hs3790 rfl
      replace HS3756 := HS3756.trans hs3790 hc rfl
      (try simp only [ls0, ls1])
      refine as_ rfl ?_
      refine wl_end ?_
      (try simp only [ls0, ls1])
      refine hK3782 _ _ ?_
      (try clear hK3782 K3782)
      refine wp_seq_k fun K3792 hK3792 => ?_
      refine wl_region ?_
      refine mv_ rfl ?_
      refine st (.bool (!decide (t3783 = 0))) rfl rfl (xr_bin _ _ _ rfl rfl rfl (B.neq_i64 _ _)) ?_
      refine wl_end ?_
      (try simp only [ls0, ls1])
      refine hK3792 _ _ ?_
      (try clear hK3792 K3792)
      by_cases c3793 : t3783 = 0
      ·rw [if_pos c3793] at H
       (try rw [(decide_eq_true c3793)])
       (try simp only [Bool.not_true, Bool.not_false])
       refine wp_cond_false rfl ?_
       refine wp_skip ?_
       (try simp only [ls0, ls1])
       refine hK3781 _ _ ?_
       (try clear hK3781 K3781)
       refine wp_seq_k fun K3794 hK3794 => ?_
       refine wp_block ?_
       (try simp only [ls0, ls1])
       refine wp_looped (looped_fin (fun kq4645 a_ w4644 => ∃ (C4643 : Nat → Nat) (x4632 : Int) (x4633 : Int) (A4637 : Option Addr) (n4638 cp4639 : Nat) (x4636 : List (S44)) (g_ : Nat → Value), a_ = ⟨#[.pointer (some ⟨g0, 0, none⟩), (g_ 1), .pointer (some ⟨g2447, 0, none⟩), (g_ 3), .int .i64 a0_2, .pointer (some ⟨g3688, 0, none⟩), (g_ 6), (g_ 7), (g_ 8), (g_ 9), (g_ 10), (g_ 11), (g_ 12), (g_ 13), (g_ 14), (g_ 15), (g_ 16), (g_ 17), (g_ 18), (g_ 19), (g_ 20), (g_ 21), (g_ 22), (g_ 23), (g_ 24), (g_ 25), (g_ 26), (g_ 27), (g_ 28), (g_ 29), (g_ 30), (g_ 31), (g_ 32), (g_ 33), (g_ 34), (g_ 35), (g_ 36), (g_ 37), (g_ 38), (g_ 39), (g_ 40), (g_ 41), (g_ 42), (g_ 43), (g_ 44), (g_ 45), (g_ 46), (g_ 47), (g_ 48), (g_ 49), (g_ 50), (g_ 51), (g_ 52), (g_ 53), (g_ 54), (g_ 55), (g_ 56), (g_ 57), (g_ 58), (g_ 59), (g_ 60), (g_ 61), (g_ 62), (g_ 63), (g_ 64), (g_ 65), (g_ 66), (g_ 67), (g_ 68), (g_ 69), (g_ 70), (g_ 71), (g_ 72), (g_ 73), (g_ 74), (g_ 75), (g_ 76), (g_ 77), (g_ 78), (g_ 79), (g_ 80), (g_ 81), (g_ 82), (g_ 83), (g_ 84), (g_ 85), (g_ 86), (g_ 87), (g_ 88), (g_ 89), (g_ 90), (g_ 91), (g_ 92), (g_ 93), (g_ 94), (g_ 95)], []⟩ ∧ Step c w C4643 w4644 [1] ∧ kq4645 ≤ k3766 ∧ (Ft C4643 [0] w4644 (fun w_ => (Kd.int .u8).C w_ A0_0 l0_0.length l0_0)) ∧ (Ft C4643 [0] w4644 (fun w_ => k28.C w_ A0_1 l0_1.length l0_1)) ∧ (Bx C4643 1 w4644 g0 111 ([.slice A0_0 l0_0.length c0_0, .slice A0_1 l0_1.length c0_1, .int .i64 x4632, .int .i64 x4633])) ∧ (Bx C4643 11 w4644 g2447 44 ([.int .i64 0, .int .i64 0, .int .i64 0, .string (⟨#[]⟩ : ByteArray), .string (⟨#[]⟩ : ByteArray), .slice none 0 0])) ∧ (Own C4643 13 w4644 k44 44 (.slice A4637 n4638 cp4639) x4636) ∧ (n4638 ≤ cp4639) ∧ (Bx C4643 12 w4644 g3688 44 ([.int .i64 3, .int .i64 t3694, .int .i64 0, .string x3762, .string (⟨#[]⟩ : ByteArray), .slice A4637 n4638 cp4639])) ∧ expr_Cursor_named.l0 r_ kq4645 a0_2 l0_0 l0_1 t3694 x3762 x4632 x4633 x4636 = some (r1, r2, r3, r4, r5, r6, r7, r8, r9)) ?step fun hL_ => ?init)
       case init =>
        exact jmpL (fun a_ h_ => hL_ k3766 a_ _ h_) (fun g_ => ⟨_, t3784, t3785, none, 0, 0, ([] : List (S44)), g_, rfl, HS3756, Nat.le_refl _, HJ3757, HJ3758, HX3791, HJ3761, (Own.nil _ _ _ _ _), (Nat.le_refl 0), HX3779, H⟩) rfl
       case step =>
        intro kq4645 ih4648 a4649 w4644 hr4650
        obtain ⟨C4643, x4632, x4633, A4637, n4638, cp4639, x4636, g_, rfl, HS4646, hk4647, HJ4630, HJ4631, HJ4634, HJ4635, HJ4641, HC4640, HJ4642, H⟩ := hr4650
        refine looped_round ?_
        obtain rfl : n4638 = x4636.length := HJ4641.at_.1
        cases kq4645 with
        | zero => exact absurd H (by simp [expr_Cursor_named.l0])
        | succ k4651 =>
         simp only [expr_Cursor_named.l0] at H
         refine wp_seq_k fun K4652 hK4652 => ?_
         refine wp_seq_k fun K4653 hK4653 => ?_
         refine wl_region ?_
         refine mv_ rfl ?_
         have HP4654 : Ft C4643 [0, 1] w4644 (fun w_ => (Kd.ptr 111 k111).K w_ (some (⟨l0_0, l0_1, x4632, x4633⟩ : S111)) [.pointer (some ⟨g0, 0, none⟩)]) := ptr_mk (Ft.more (HJ4634.ft) rfl) (k111_mkF _ _ (⟨l0_0, l0_1, x4632, x4633⟩ : S111) HCP0_0 (Ft.more HJ4630 rfl) HCP0_1 (Ft.more HJ4631 rfl))
         obtain ⟨t4655, A4656, H⟩ := bnd H
         refine st_call #[.pointer (some ⟨g0, 0, none⟩)] rfl rfl Try.func43 (by kernel_rfl) rfl rfl (mp_ rfl) ?_
         refine (expr_Cursor_Peek.calls (.pointer (some ⟨g0, 0, none⟩)) (some (⟨l0_0, l0_1, x4632, x4633⟩ : S111) : Option S111) t4655  (fun z_ => pal [(0, 0), (1, 0)] (C4643 z_)) w4644 (fun _ => pal_lt rfl _) (Ft.arg HP4654 rfl) A4656).mono ?_
         rintro _ w4658 ⟨C4659, rfl, hs4660⟩
         refine ⟨_, rfl, ?_⟩
         replace hs4660 := Step.lift (U := [(0, 0)]) hs4660 [] rfl rfl
         generalize up C4643 C4659 w4644.heap.size [(0, 0)] = C4659_ at hs4660
         replace HJ4634 := HJ4634.thru hs4660 rfl
         replace HJ4630 := HJ4630.thru hs4660 rfl
         replace HJ4631 := HJ4631.thru hs4660 rfl
         replace HJ4635 := HJ4635.thru hs4660 rfl
         replace HJ4642 := HJ4642.thru hs4660 rfl
         replace HJ4641 := HJ4641.thru hs4660 rfl
         replace HS4646 := HS4646.trans hs4660 hc rfl
         (try simp only [ls0, ls1])
         refine st (.bool (!decide (t4655 = (⟨#[41]⟩ : ByteArray)))) rfl rfl (xr_bin _ _ _ rfl rfl rfl (B.neq_str _ _)) ?_
         refine wl_end ?_
         (try simp only [ls0, ls1])
         refine hK4653 _ _ ?_
         (try clear hK4653 K4653)
         by_cases c4661 : t4655 = (⟨#[41]⟩ : ByteArray)
         ·rw [if_pos c4661] at H
          (try rw [(decide_eq_true c4661)])
          (try simp only [Bool.not_true, Bool.not_false])
          refine wp_cond_false rfl ?_
          refine wp_exit ?_
          (try simp only [ls0, ls1])
          refine hK3794 _ _ ?_
          (try clear hK3794 K3794)
          refine wp_seq_k fun K4662 hK4662 => ?_
          refine wp_seq_k fun K4663 hK4663 => ?_
          refine wl_region ?_
          refine mv_ rfl ?_
          obtain ⟨⟨t4664, t4665, t4666⟩, A4667, H⟩ := bnd H
          (try dsimp only at H)
          refine st_call #[.pointer (some ⟨g0, 0, none⟩)] rfl rfl Try.func135 (by kernel_rfl) rfl rfl (mp_ rfl) ?_
          refine (expr_Cursor_end.calls g0 A0_0 c0_0 l0_0 A0_1 c0_1 l0_1 x4632 x4633 t4664 t4665 t4666  (fun z_ => pal [(0, 0), (1, 1)] (C4659_ z_)) w4658 (fun _ => pal_lt rfl _) (Bx.arg HJ4634 rfl) (Ft.arg HJ4630 rfl) HCP0_0 (Ft.arg HJ4631 rfl) HCP0_1 A4667).mono ?_
          rintro _ w4669 ⟨C4670, rfl, hs4671, HX4672⟩
          refine ⟨_, rfl, ?_⟩
          replace HX4672 := Bx.res (U := [(0, 0), (1, 1)]) (j := 1) HX4672 hs4671 (by rfl) (by decide) rfl
          replace hs4671 := Step.lift (U := [(0, 0), (1, 1)]) hs4671 [1] rfl rfl
          generalize up C4659_ C4670 w4658.heap.size [(0, 0), (1, 1)] = C4670_ at HX4672 hs4671
          replace HJ4630 := HJ4630.thru hs4671 rfl
          replace HJ4631 := HJ4631.thru hs4671 rfl
          replace HJ4635 := HJ4635.thru hs4671 rfl
          replace HJ4642 := HJ4642.thru hs4671 rfl
          replace HJ4641 := HJ4641.thru hs4671 rfl
          replace HS4646 := HS4646.trans hs4671 hc rfl
          (try simp only [ls0, ls1])
          refine as_ rfl ?_
          refine wl_end ?_
          (try simp only [ls0, ls1])
          refine hK4663 _ _ ?_
          (try clear hK4663 K4663)
          refine wp_seq_k fun K4673 hK4673 => ?_
          refine wl_region ?_
          refine mv_ rfl ?_
          refine st (.bool (!decide (t4664 = 0))) rfl rfl (xr_bin _ _ _ rfl rfl rfl (B.neq_i64 _ _)) ?_
          refine wl_end ?_
          (try simp only [ls0, ls1])
          refine hK4673 _ _ ?_
          (try clear hK4673 K4673)
          by_cases c4674 : t4664 = 0
          ·rw [if_pos c4674] at H
           (try rw [(decide_eq_true c4674)])
           (try simp only [Bool.not_true, Bool.not_false])
           refine wp_cond_false rfl ?_
           refine wp_skip ?_
           (try simp only [ls0, ls1])
           refine hK4662 _ _ ?_
           (try clear hK4662 K4662)
           refine wp_seq_k fun K4675 hK4675 => ?_
           refine wl_region ?_
           refine mv_ rfl ?_
           refine st (.agg #[.int .i64 3, .int .i64 t3694, .int .i64 0, .string x3762, .string (⟨#[]⟩ : ByteArray), .slice A4637 x4636.length cp4639]) rfl rfl (xr_load _ _ rfl rfl (load_agg (cs := [.int .i64 3, .int .i64 t3694, .int .i64 0, .string x3762, .string (⟨#[]⟩ : ByteArray), .slice A4637 x4636.length cp4639]) Try.underlying44 rfl (by kernel_rfl) (bx_cells (HJ4642).2 0 rfl))) ?_
           refine mv_ rfl ?_
           replace HX4672 := Bx.recol (a := 13) (b := 0) HX4672 (by decide)
           replace HJ4630 := Ft.recol (a := 13) (b := 0) HJ4630 (.inl rfl)
           replace HJ4631 := Ft.recol (a := 13) (b := 0) HJ4631 (.inl rfl)
           replace HJ4635 := Bx.recol (a := 13) (b := 0) HJ4635 (by decide)
           replace HJ4642 := Bx.recol (a := 13) (b := 0) HJ4642 (by decide)
           have HR4676 := Ft.recolor (a := 13) (b := 0) (HJ4641.ft) [0] rfl
           replace HS4646 := Step.recol (a := 13) (b := 0) HS4646 hc (by decide)
           obtain ⟨⟨t4677, t4678, t4679, t4680, t4681, t4682, t4683, t4684⟩, A4685, H⟩ := bnd H
           (try dsimp only at H)
           refine st_call #[.pointer (some ⟨g0, 0, none⟩), .agg #[.int .i64 3, .int .i64 t3694, .int .i64 0, .string x3762, .string (⟨#[]⟩ : ByteArray), .slice A4637 x4636.length cp4639], .int .i64 a0_2] rfl rfl Try.func104 (by kernel_rfl) rfl rfl (mp_ rfl) ?_
           refine (expr_Cursor_held.calls k4651 g0 A0_0 c0_0 l0_0 A0_1 c0_1 l0_1 t4665 t4666 3 t3694 0 x3762 (⟨#[]⟩ : ByteArray) A4637 cp4639 x4636 a0_2 t4677 t4678 t4679 t4680 t4681 t4682 t4683 t4684  (fun z_ => pal [(0, 0), (1, 1)] ((recol C4670_ 13 0) z_)) w4669 (fun _ => pal_lt rfl _) (Bx.arg HX4672 rfl) (Ft.arg HJ4630 rfl) HCP0_0 (Ft.arg HJ4631 rfl) HCP0_1 (Ft.arg HR4676 rfl) HC4640 A4685).mono ?_
           rintro _ w4687 ⟨C4688, A4690, cp4691, rfl, hs4689, HO4692, HC4693, HX4694⟩
           refine ⟨_, rfl, ?_⟩
           replace HO4692 := Ft.res (U := [(0, 0), (1, 1)]) HO4692 hs4689 [0] rfl rfl rfl
           replace HX4694 := Bx.res (U := [(0, 0), (1, 1)]) (j := 1) HX4694 hs4689 (by rfl) (by decide) rfl
           replace hs4689 := Step.lift (U := [(0, 0), (1, 1)]) hs4689 [1] rfl rfl
           generalize up (recol C4670_ 13 0) C4688 w4669.heap.size [(0, 0), (1, 1)] = C4688_ at HO4692 HX4694 hs4689
           replace HJ4630 := HJ4630.thru hs4689 rfl
           replace HJ4631 := HJ4631.thru hs4689 rfl
           replace HJ4635 := HJ4635.thru hs4689 rfl
           replace HJ4642 := HJ4642.thru hs4689 rfl
           replace HR4676 := HR4676.thru hs4689 rfl
           replace HS4646 := HS4646.trans hs4689 hc rfl
           (try simp only [ls0, ls1])
           refine st (.agg #[.int .i64 t4677, .int .i64 t4678, .int .i64 t4679, .string t4680, .string t4681, .slice A4690 t4682.length cp4691]) rfl rfl (xr_extract (.tuple #[.agg #[.int .i64 t4677, .int .i64 t4678, .int .i64 t4679, .string t4680, .string t4681, .slice A4690 t4682.length cp4691], .int .i64 t4683]) _ rfl rfl rfl) ?_
           refine st (.int .i64 t4683) rfl rfl (xr_extract (.tuple #[.agg #[.int .i64 t4677, .int .i64 t4678, .int .i64 t4679, .string t4680, .string t4681, .slice A4690 t4682.length cp4691], .int .i64 t4683]) _ rfl rfl rfl) ?_
           refine bx_store (C := C4688_) (z := 11) (g := g2447) (j := 0) (tb := 44) (u := .agg #[.int .i64 t4677, .int .i64 t4678, .int .i64 t4679, .string t4680, .string t4681, .slice A4690 t4682.length cp4691]) (seg := [.int .i64 t4677, .int .i64 t4678, .int .i64 t4679, .string t4680, .string t4681, .slice A4690 t4682.length cp4691]) (xs := [.int .i64 0, .int .i64 0, .int .i64 0, .string (⟨#[]⟩ : ByteArray), .string (⟨#[]⟩ : ByteArray), .slice none 0 0]) rfl rfl rfl rfl rfl rfl (by first | kernel_rfl | rfl) (by simp [Value.oneCell']) HJ4635 (by simp only [List.length_cons, List.length_nil]; omega) rfl ?_
           intro w4695 HX4696 hs4697
           replace HX4694 := HX4694.thru hs4697 rfl
           replace HJ4630 := HJ4630.thru hs4697 rfl
           replace HJ4631 := HJ4631.thru hs4697 rfl
           replace HO4692 := HO4692.thru hs4697 rfl
           replace HJ4642 := HJ4642.thru hs4697 rfl
           replace HR4676 := HR4676.thru hs4697 rfl
           replace HS4646 := HS4646.trans hs4697 hc rfl
           (try simp only [ls0, ls1])
           refine as_ rfl ?_
           refine wl_end ?_
           (try simp only [ls0, ls1])
           refine hK4675 _ _ ?_
           (try clear hK4675 K4675)
           refine wp_ret ?_
           (try simp only [Exit.inBlock, Exit.then, Exit.noGoto])
           (try simp only [ls0, ls1])
           simp only [Option.some.injEq, Prod.mk.injEq] at H
           obtain ⟨rfl, rfl, rfl, rfl, rfl, rfl, rfl, rfl, rfl⟩ := H
           refine bodyPost_ret (res_ct rfl rfl (load_of (load_agg (cs := [.int .i64 t4677, .int .i64 t4678, .int .i64 t4679, .string t4680, .string t4681, .slice A4690 t4682.length cp4691]) Try.underlying44 rfl (by kernel_rfl) (bx_cells (HX4696).2 0 rfl)))) rfl ?_
           exact ⟨_, A4690, cp4691, rfl, HS4646, HO4692, HC4693, HX4694⟩
          rw [if_neg c4674] at H
          (try rw [(decide_eq_false c4674)])
          (try simp only [Bool.not_true, Bool.not_false])
          refine wp_cond_true rfl ?_
          refine wp_seq_k fun K4698 hK4698 => ?_
          refine wl_region ?_
          refine st (.agg #[.int .i64 0, .int .i64 0, .int .i64 0, .string (⟨#[]⟩ : ByteArray), .string (⟨#[]⟩ : ByteArray), .slice none 0 0]) rfl rfl (xr_build #[] (.agg #[.int .i64 0, .int .i64 0, .int .i64 0, .string (⟨#[]⟩ : ByteArray), .string (⟨#[]⟩ : ByteArray), .slice none 0 0]) rfl (mp_ rfl) (by first | rfl | (go_simp; done) | (go_simp; rfl) | (go_simp; exact i64_w _) | (go_simp; exact i32_w _))) ?_
          refine mv_ rfl ?_
          refine bx_store (C := C4670_) (z := 11) (g := g2447) (j := 0) (tb := 44) (u := .agg #[.int .i64 0, .int .i64 0, .int .i64 0, .string (⟨#[]⟩ : ByteArray), .string (⟨#[]⟩ : ByteArray), .slice none 0 0]) (seg := [.int .i64 0, .int .i64 0, .int .i64 0, .string (⟨#[]⟩ : ByteArray), .string (⟨#[]⟩ : ByteArray), .slice none 0 0]) (xs := [.int .i64 0, .int .i64 0, .int .i64 0, .string (⟨#[]⟩ : ByteArray), .string (⟨#[]⟩ : ByteArray), .slice none 0 0]) rfl rfl rfl rfl rfl rfl (by first | kernel_rfl | rfl) (by simp [Value.oneCell']) HJ4635 (by simp only [List.length_cons, List.length_nil]; omega) rfl ?_
          intro w4699 HX4700 hs4701
          replace HX4672 := HX4672.thru hs4701 rfl
          replace HJ4630 := HJ4630.thru hs4701 rfl
          replace HJ4631 := HJ4631.thru hs4701 rfl
          replace HJ4642 := HJ4642.thru hs4701 rfl
          replace HJ4641 := HJ4641.thru hs4701 rfl
          replace HS4646 := HS4646.trans hs4701 hc rfl
          (try simp only [ls0, ls1])
          refine as_ rfl ?_
          refine wl_end ?_
          (try simp only [ls0, ls1])
          refine hK4698 _ _ ?_
          (try clear hK4698 K4698)
          refine wp_ret ?_
          (try simp only [Exit.inBlock, Exit.then, Exit.noGoto])
          (try simp only [ls0, ls1])
          simp only [Option.some.injEq, Prod.mk.injEq] at H
          obtain ⟨rfl, rfl, rfl, rfl, rfl, rfl, rfl, rfl, rfl⟩ := H
          refine bodyPost_ret (res_ct rfl rfl (load_of (load_agg (cs := [.int .i64 0, .int .i64 0, .int .i64 0, .string (⟨#[]⟩ : ByteArray), .string (⟨#[]⟩ : ByteArray), .slice none 0 0]) Try.underlying44 rfl (by kernel_rfl) (bx_cells (HX4700).2 0 rfl)))) rfl ?_
          exact ⟨_, none, 0, rfl, HS4646, (Kd.F_nil _ _ _), (Nat.le_refl 0), HX4672⟩
         rw [if_neg c4661] at H
         (try rw [(decide_eq_false c4661)])
         (try simp only [Bool.not_true, Bool.not_false])
         refine wp_cond_true rfl ?_
         refine wp_skip ?_
         (try simp only [ls0, ls1])
         refine hK4652 _ _ ?_
         (try clear hK4652 K4652)
         refine wp_block ?_
         refine wp_seq_k fun K4702 hK4702 => ?_
         refine wp_seq_k fun K4727 hK4727 => ?_
         refine wl_region ?_
         refine st (.pointer (some ⟨g3688, 5, none⟩)) rfl rfl (xr_fieldAddr _ _ rfl rfl (bx_field2 Try.underlying44 rfl rfl (by kernel_rfl))) ?_
         refine st (.slice A4637 x4636.length cp4639) rfl rfl (xr_load _ _ rfl rfl (load_cell Try.underlying42 rfl (bx_cell (HJ4642).2 5 rfl))) ?_
         simp only [ls0, ls1]
         refine st (.int .i64 (x4636.length : Int)) rfl rfl (xr_builtin #[.slice A4637 x4636.length cp4639] (.int .i64 (x4636.length : Int)) rfl (mp_ rfl) (by first | rfl | (go_simp; done) | (go_simp; rfl) | (go_simp; exact i64_w _) | (go_simp; exact i32_w _))) ?_
         refine st (.bool (decide ((x4636.length : Int) > 0))) rfl rfl (xr_bin _ _ _ rfl rfl rfl (B.gtr_i64 _ _)) ?_
         refine mv_ rfl ?_
         by_cases c4737 : (x4636.length : Int) > 0
         ·rw [if_pos c4737] at H
          (try rw [(decide_eq_true c4737)])
          refine on_guard (guard_on 4 true 63 rfl rfl rfl) ?_
          refine mv_ rfl ?_
          simp only [ls0, ls1]
          refine on_guard (guard_on 4 true 63 rfl rfl rfl) ?_
          obtain ⟨⟨t4738, t4739⟩, A4740, H⟩ := bnd H
          (try dsimp only at H)
          refine st_call #[.pointer (some ⟨g0, 0, none⟩), .string (⟨#[44]⟩ : ByteArray)] rfl rfl Try.func48 (by kernel_rfl) rfl rfl (mp_ rfl) ?_
          refine (expr_Cursor_Take.calls g0 A0_0 c0_0 l0_0 A0_1 c0_1 l0_1 x4632 x4633 (⟨#[44]⟩ : ByteArray) t4738 t4739  (fun z_ => pal [(0, 0), (1, 1)] (C4659_ z_)) w4658 (fun _ => pal_lt rfl _) (Bx.arg HJ4634 rfl) (Ft.arg HJ4630 rfl) HCP0_0 (Ft.arg HJ4631 rfl) HCP0_1 A4740).mono ?_
          rintro _ w4742 ⟨C4743, rfl, hs4744, HX4745⟩
          refine ⟨_, rfl, ?_⟩
          replace HX4745 := Bx.res (U := [(0, 0), (1, 1)]) (j := 1) HX4745 hs4744 (by rfl) (by decide) rfl
          replace hs4744 := Step.lift (U := [(0, 0), (1, 1)]) hs4744 [1] rfl rfl
          generalize up C4659_ C4743 w4658.heap.size [(0, 0), (1, 1)] = C4743_ at HX4745 hs4744
          replace HJ4630 := HJ4630.thru hs4744 rfl
          replace HJ4631 := HJ4631.thru hs4744 rfl
          replace HJ4635 := HJ4635.thru hs4744 rfl
          replace HJ4642 := HJ4642.thru hs4744 rfl
          replace HJ4641 := HJ4641.thru hs4744 rfl
          replace HS4646 := HS4646.trans hs4744 hc rfl
          (try simp only [ls0, ls1])
          refine on_guard (guard_on 4 true 63 rfl rfl rfl) ?_
          refine st (.bool (!t4738)) rfl rfl (xr_un (.bool t4738) _ rfl rfl (by first | rfl | (go_simp; done) | (go_simp; rfl) | (go_simp; exact i64_w _) | (go_simp; exact i32_w _))) ?_
          refine st (.bool (!t4738)) rfl rfl (xr_pick true _ rfl rfl rfl) ?_
          refine wl_end ?_
          (try simp only [ls0, ls1])
          refine hK4727 _ _ ?_
          (try clear hK4727 K4727)
          by_cases c4746 : t4738 = true
          ·rw [if_pos c4746] at H
           (try rw [c4746])
           (try simp only [Bool.not_true, Bool.not_false])
           refine wp_cond_false rfl ?_
           refine wp_skip ?_
           (try simp only [ls0, ls1])
           refine hK4702 _ _ ?_
           (try clear hK4702 K4702)
           refine wp_seq_k fun K4747 hK4747 => ?_
           refine wl_region ?_
           refine mv_ rfl ?_
           obtain ⟨⟨t4748, t4749, t4750, t4751, t4752, t4753, t4754, t4755, t4756⟩, A4757, H⟩ := bnd H
           (try dsimp only at H)
           refine st_call #[.pointer (some ⟨g0, 0, none⟩), .int .i64 1] rfl rfl Try.func82 (by kernel_rfl) rfl rfl (mp_ rfl) ?_
           refine (IH.expr_Cursor_binary g0 A0_0 c0_0 l0_0 A0_1 c0_1 l0_1 t4739 x4633 1 t4748 t4749 t4750 t4751 t4752 t4753 t4754 t4755 t4756  (fun z_ => pal [(0, 0), (1, 1)] (C4743_ z_)) w4742 (fun _ => pal_lt rfl _) (Bx.arg HX4745 rfl) (Ft.arg HJ4630 rfl) HCP0_0 (Ft.arg HJ4631 rfl) HCP0_1 A4757).mono ?_
           rintro _ w4759 ⟨C4760, A4762, cp4763, rfl, hs4761, HO4764, HC4765, HX4766⟩
           refine ⟨_, rfl, ?_⟩
           replace HO4764 := Ft.res (U := [(0, 0), (1, 1)]) HO4764 hs4761 [0] rfl rfl rfl
           replace HX4766 := Bx.res (U := [(0, 0), (1, 1)]) (j := 1) HX4766 hs4761 (by rfl) (by decide) rfl
           replace hs4761 := Step.lift (U := [(0, 0), (1, 1)]) hs4761 [1] rfl rfl
           generalize up C4743_ C4760 w4742.heap.size [(0, 0), (1, 1)] = C4760_ at HO4764 HX4766 hs4761
           replace HJ4630 := HJ4630.thru hs4761 rfl
           replace HJ4631 := HJ4631.thru hs4761 rfl
           replace HJ4635 := HJ4635.thru hs4761 rfl
           replace HJ4642 := HJ4642.thru hs4761 rfl
           replace HJ4641 := HJ4641.thru hs4761 rfl
           replace HS4646 := HS4646.trans hs4761 hc rfl
           (try simp only [ls0, ls1])
           refine mv_ rfl ?_
           refine st (.agg #[.int .i64 t4748, .int .i64 t4749, .int .i64 t4750, .string t4751, .string t4752, .slice A4762 t4753.length cp4763]) rfl rfl (xr_extract (.tuple #[.agg #[.int .i64 t4748, .int .i64 t4749, .int .i64 t4750, .string t4751, .string t4752, .slice A4762 t4753.length cp4763], .int .i64 t4754]) _ rfl rfl rfl) ?_
           refine st (.int .i64 t4754) rfl rfl (xr_extract (.tuple #[.agg #[.int .i64 t4748, .int .i64 t4749, .int .i64 t4750, .string t4751, .string t4752, .slice A4762 t4753.length cp4763], .int .i64 t4754]) _ rfl rfl rfl) ?_
           refine bx_new (C := C4760_) 44 ([.int .i64 0, .int .i64 0, .int .i64 0, .string (⟨#[]⟩ : ByteArray), .string (⟨#[]⟩ : ByteArray), .slice none 0 0]) 14 rfl rfl (by first | (go_simp; done) | (go_simp; rfl)) ?_
           intro g4767 w4768 C4769 HX4770 hs4771
           replace HX4766 := HX4766.thru hs4771 rfl
           replace HJ4630 := HJ4630.thru hs4771 rfl
           replace HJ4631 := HJ4631.thru hs4771 rfl
           replace HJ4635 := HJ4635.thru hs4771 rfl
           replace HJ4642 := HJ4642.thru hs4771 rfl
           replace HJ4641 := HJ4641.thru hs4771 rfl
           replace HO4764 := HO4764.thru hs4771 rfl
           replace HS4646 := HS4646.trans hs4771 hc rfl
           (try simp only [ls0, ls1])
           refine bx_store (C := C4769) (z := 14) (g := g4767) (j := 0) (tb := 44) (u := .agg #[.int .i64 t4748, .int .i64 t4749, .int .i64 t4750, .string t4751, .string t4752, .slice A4762 t4753.length cp4763]) (seg := [.int .i64 t4748, .int .i64 t4749, .int .i64 t4750, .string t4751, .string t4752, .slice A4762 t4753.length cp4763]) (xs := [.int .i64 0, .int .i64 0, .int .i64 0, .string (⟨#[]⟩ : ByteArray), .string (⟨#[]⟩ : ByteArray), .slice none 0 0]) rfl rfl rfl rfl rfl rfl (by first | kernel_rfl | rfl) (by simp [Value.oneCell']) HX4770 (by simp only [List.length_cons, List.length_nil]; omega) rfl ?_
           intro w4772 HX4773 hs4774
           replace HX4766 := HX4766.thru hs4774 rfl
           replace HJ4630 := HJ4630.thru hs4774 rfl
           replace HJ4631 := HJ4631.thru hs4774 rfl
           replace HJ4635 := HJ4635.thru hs4774 rfl
           replace HJ4642 := HJ4642.thru hs4774 rfl
           replace HJ4641 := HJ4641.thru hs4774 rfl
           replace HO4764 := HO4764.thru hs4774 rfl
           replace HS4646 := HS4646.trans hs4774 hc rfl
           (try simp only [ls0, ls1])
           refine as_ rfl ?_
           refine wl_end ?_
           (try simp only [ls0, ls1])
           refine hK4747 _ _ ?_
           (try clear hK4747 K4747)
           refine wp_seq_k fun K4775 hK4775 => ?_
           refine wp_seq_k fun K4776 hK4776 => ?_
           refine wl_region ?_
           refine mv_ rfl ?_
           refine st (.bool (!decide (t4754 = 0))) rfl rfl (xr_bin _ _ _ rfl rfl rfl (B.neq_i64 _ _)) ?_
           refine wl_end ?_
           (try simp only [ls0, ls1])
           refine hK4776 _ _ ?_
           (try clear hK4776 K4776)
           by_cases c4777 : t4754 = 0
           ·rw [if_pos c4777] at H
            (try rw [(decide_eq_true c4777)])
            (try simp only [Bool.not_true, Bool.not_false])
            refine wp_cond_false rfl ?_
            refine wp_skip ?_
            (try simp only [ls0, ls1])
            refine hK4775 _ _ ?_
            (try clear hK4775 K4775)
            refine wl_region ?_
            refine st (.pointer (some ⟨g3688, 5, none⟩)) rfl rfl (xr_fieldAddr _ _ rfl rfl (bx_field2 Try.underlying44 rfl rfl (by kernel_rfl))) ?_
            refine st (.slice A4637 x4636.length cp4639) rfl rfl (xr_load _ _ rfl rfl (load_cell Try.underlying42 rfl (bx_cell (HJ4642).2 5 rfl))) ?_
            refine st (.agg #[.int .i64 t4748, .int .i64 t4749, .int .i64 t4750, .string t4751, .string t4752, .slice A4762 t4753.length cp4763]) rfl rfl (xr_load _ _ rfl rfl (load_agg (cs := [.int .i64 t4748, .int .i64 t4749, .int .i64 t4750, .string t4751, .string t4752, .slice A4762 t4753.length cp4763]) Try.underlying44 rfl (by kernel_rfl) (bx_cells (HX4773).2 0 rfl))) ?_
            refine ev_run (w1 := w4772.alloc (.cells #[.int .i64 t4748, .int .i64 t4749, .int .i64 t4750, .string t4751, .string t4752, .slice A4762 t4753.length cp4763] 44)) (.slice (some ⟨w4772.heap.size, 0, none⟩) 1 1) rfl rfl (by first | (go_simp; done) | (go_simp; rfl)) ?_
            (try simp only [Act.put, List.setIfInBounds_toArray, ls0, ls1])
            obtain ⟨c4778, H⟩ := if_some H
            obtain ⟨y4779, A4780, H⟩ := bnd H
            refine Own.append k44 (C := C4769) (i := 13) rfl (.tmp 79) (.tmp 81) 42 44 (.agg #[(.int .i64 0), (.int .i64 0), (.int .i64 0), (.string ⟨#[]⟩), (.string ⟨#[]⟩), (.slice none 0 0)]) 80 rfl Try.underlying42 info44 rfl (by decide) (by decide) (.slice A4637 x4636.length cp4639) x4636 (⟨t4748, t4749, t4750, t4751, t4752, t4753⟩ : S44) [.int .i64 t4748, .int .i64 t4749, .int .i64 t4750, .string t4751, .string t4752, .slice A4762 t4753.length cp4763] rfl rfl (k44_mkF _ _ (⟨t4748, t4749, t4750, t4751, t4752, t4753⟩ : S44) HC4765 (Kd.F_mono (d := k44) HO4764 (fun k_ h_ => by simpa using h_))) HJ4641 (by decide) (by omega) (Option.some.inj A4780) ?_
            intro A4781 cp4782 w4783 C4784 HO4785 HC4786 hs4787
            replace HX4766 := HX4766.thru hs4787 rfl
            replace HJ4630 := HJ4630.thru hs4787 rfl
            replace HJ4631 := HJ4631.thru hs4787 rfl
            replace HJ4635 := HJ4635.thru hs4787 rfl
            replace HJ4642 := HJ4642.thru hs4787 rfl
            replace HO4764 := HO4764.thru hs4787 rfl
            replace HX4773 := HX4773.thru hs4787 rfl
            replace HS4646 := HS4646.trans hs4787 hc rfl
            (try simp only [ls0, ls1])
            refine st (.pointer (some ⟨g3688, 5, none⟩)) rfl rfl (xr_fieldAddr _ _ rfl rfl (bx_field2 Try.underlying44 rfl rfl (by kernel_rfl))) ?_
            refine bx_store (C := C4784) (z := 12) (g := g3688) (j := 5) (tb := 44) (u := .slice A4781 y4779.length cp4782) (seg := [.slice A4781 y4779.length cp4782]) (xs := [.int .i64 3, .int .i64 t3694, .int .i64 0, .string x3762, .string (⟨#[]⟩ : ByteArray), .slice A4637 x4636.length cp4639]) rfl rfl rfl rfl rfl rfl (by first | kernel_rfl | rfl) (by simp [Value.oneCell']) HJ4642 (by simp only [List.length_cons, List.length_nil]; omega) rfl ?_
            intro w4788 HX4789 hs4790
            replace HX4766 := HX4766.thru hs4790 rfl
            replace HJ4630 := HJ4630.thru hs4790 rfl
            replace HJ4631 := HJ4631.thru hs4790 rfl
            replace HJ4635 := HJ4635.thru hs4790 rfl
            replace HO4785 := HO4785.thru hs4790 rfl
            replace HO4764 := HO4764.thru hs4790 rfl
            replace HX4773 := HX4773.thru hs4790 rfl
            replace HS4646 := HS4646.trans hs4790 hc rfl
            (try simp only [ls0, ls1])
            refine wl_end ?_
            (try simp only [ls0, ls1])
            exact jmpL (fun a_ h_ => ih4648 k4651 (by omega) a_ _ h_) (fun g_ => ⟨_, t4755, t4756, A4781, y4779.length, cp4782, y4779, g_, rfl, HS4646, (by omega), HJ4630, HJ4631, HX4766, HJ4635, HO4785, HC4786, HX4789, H⟩) rfl
           rw [if_neg c4777] at H
           (try rw [(decide_eq_false c4777)])
           (try simp only [Bool.not_true, Bool.not_false])
           refine wp_cond_true rfl ?_
           refine wp_seq_k fun K4791 hK4791 => ?_
           refine wl_region ?_
           refine st (.agg #[.int .i64 0, .int .i64 0, .int .i64 0, .string (⟨#[]⟩ : ByteArray), .string (⟨#[]⟩ : ByteArray), .slice none 0 0]) rfl rfl (xr_build #[] (.agg #[.int .i64 0, .int .i64 0, .int .i64 0, .string (⟨#[]⟩ : ByteArray), .string (⟨#[]⟩ : ByteArray), .slice none 0 0]) rfl (mp_ rfl) (by first | rfl | (go_simp; done) | (go_simp; rfl) | (go_simp; exact i64_w _) | (go_simp; exact i32_w _))) ?_
           refine mv_ rfl ?_
           refine bx_store (C := C4769) (z := 11) (g := g2447) (j := 0) (tb := 44) (u := .agg #[.int .i64 0, .int .i64 0, .int .i64 0, .string (⟨#[]⟩ : ByteArray), .string (⟨#[]⟩ : ByteArray), .slice none 0 0]) (seg := [.int .i64 0, .int .i64 0, .int .i64 0, .string (⟨#[]⟩ : ByteArray), .string (⟨#[]⟩ : ByteArray), .slice none 0 0]) (xs := [.int .i64 0, .int .i64 0, .int .i64 0, .string (⟨#[]⟩ : ByteArray), .string (⟨#[]⟩ : ByteArray), .slice none 0 0]) rfl rfl rfl rfl rfl rfl (by first | kernel_rfl | rfl) (by simp [Value.oneCell']) HJ4635 (by simp only [List.length_cons, List.length_nil]; omega) rfl ?_
           intro w4792 HX4793 hs4794
           replace HX4766 := HX4766.thru hs4794 rfl
           replace HJ4630 := HJ4630.thru hs4794 rfl
           replace HJ4631 := HJ4631.thru hs4794 rfl
           replace HJ4642 := HJ4642.thru hs4794 rfl
           replace HJ4641 := HJ4641.thru hs4794 rfl
           replace HO4764 := HO4764.thru hs4794 rfl
           replace HX4773 := HX4773.thru hs4794 rfl
           replace HS4646 := HS4646.trans hs4794 hc rfl
           (try simp only [ls0, ls1])
           refine as_ rfl ?_
           refine wl_end ?_
           (try simp only [ls0, ls1])
           refine hK4791 _ _ ?_
           (try clear hK4791 K4791)
           refine wp_ret ?_
           (try simp only [Exit.inBlock, Exit.then, Exit.noGoto])
           (try simp only [ls0, ls1])
           simp only [Option.some.injEq, Prod.mk.injEq] at H
           obtain ⟨rfl, rfl, rfl, rfl, rfl, rfl, rfl, rfl, rfl⟩ := H
           refine bodyPost_ret (res_ct rfl rfl (load_of (load_agg (cs := [.int .i64 0, .int .i64 0, .int .i64 0, .string (⟨#[]⟩ : ByteArray), .string (⟨#[]⟩ : ByteArray), .slice none 0 0]) Try.underlying44 rfl (by kernel_rfl) (bx_cells (HX4793).2 0 rfl)))) rfl ?_
           exact ⟨_, none, 0, rfl, HS4646, (Kd.F_nil _ _ _), (Nat.le_refl 0), HX4766⟩
          rw [if_neg c4746] at H
          (try rw [(Bool.eq_false_iff.mpr c4746)])
          (try simp only [Bool.not_true, Bool.not_false])
          refine wp_cond_true rfl ?_
          refine wp_seq_k fun K4795 hK4795 => ?_
          refine wl_region ?_
          refine st (.agg #[.int .i64 0, .int .i64 0, .int .i64 0, .string (⟨#[]⟩ : ByteArray), .string (⟨#[]⟩ : ByteArray), .slice none 0 0]) rfl rfl (xr_build #[] (.agg #[.int .i64 0, .int .i64 0, .int .i64 0, .string (⟨#[]⟩ : ByteArray), .string (⟨#[]⟩ : ByteArray), .slice none 0 0]) rfl (mp_ rfl) (by first | rfl | (go_simp; done) | (go_simp; rfl) | (go_simp; exact i64_w _) | (go_simp; exact i32_w _))) ?_
          refine bx_store (C := C4743_) (z := 11) (g := g2447) (j := 0) (tb := 44) (u := .agg #[.int .i64 0, .int .i64 0, .int .i64 0, .string (⟨#[]⟩ : ByteArray), .string (⟨#[]⟩ : ByteArray), .slice none 0 0]) (seg := [.int .i64 0, .int .i64 0, .int .i64 0, .string (⟨#[]⟩ : ByteArray), .string (⟨#[]⟩ : ByteArray), .slice none 0 0]) (xs := [.int .i64 0, .int .i64 0, .int .i64 0, .string (⟨#[]⟩ : ByteArray), .string (⟨#[]⟩ : ByteArray), .slice none 0 0]) rfl rfl rfl rfl rfl rfl (by first | kernel_rfl | rfl) (by simp [Value.oneCell']) HJ4635 (by simp only [List.length_cons, List.length_nil]; omega) rfl ?_
          intro w4796 HX4797 hs4798
          replace HX4745 := HX4745.thru hs4798 rfl
          replace HJ4630 := HJ4630.thru hs4798 rfl
          replace HJ4631 := HJ4631.thru hs4798 rfl
          replace HJ4642 := HJ4642.thru hs4798 rfl
          replace HJ4641 := HJ4641.thru hs4798 rfl
          replace HS4646 := HS4646.trans hs4798 hc rfl
          (try simp only [ls0, ls1])
          refine st (.int .i64 11) rfl rfl (xr_assign _ rfl rfl) ?_
          refine wl_end ?_
          (try simp only [ls0, ls1])
          refine hK4795 _ _ ?_
          (try clear hK4795 K4795)
          refine wp_ret ?_
          (try simp only [Exit.inBlock, Exit.then, Exit.noGoto])
          (try simp only [ls0, ls1])
          simp only [Option.some.injEq, Prod.mk.injEq] at H
          obtain ⟨rfl, rfl, rfl, rfl, rfl, rfl, rfl, rfl, rfl⟩ := H
          refine bodyPost_ret (res_ct rfl rfl (load_of (load_agg (cs := [.int .i64 0, .int .i64 0, .int .i64 0, .string (⟨#[]⟩ : ByteArray), .string (⟨#[]⟩ : ByteArray), .slice none 0 0]) Try.underlying44 rfl (by kernel_rfl) (bx_cells (HX4797).2 0 rfl)))) rfl ?_
          exact ⟨_, none, 0, rfl, HS4646, (Kd.F_nil _ _ _), (Nat.le_refl 0), HX4745⟩
         rw [if_neg c4737] at H
         (try rw [(decide_eq_false c4737)])
         refine sk_guard (guard_off 4 true 63 rfl rfl false (by decide) rfl) rfl ?_
         refine sk_guard (guard_off 4 true 63 rfl rfl false (by decide) rfl) rfl ?_
         refine sk_guard (guard_off 4 true 63 rfl rfl false (by decide) rfl) rfl ?_
         refine st (.bool false) rfl rfl (xr_pick false _ rfl rfl rfl) ?_
         simp only [ls0, ls1]
         refine wl_end ?_
         (try simp only [ls0, ls1])
         refine hK4727 _ _ ?_
         (try clear hK4727 K4727)
         refine wp_cond_false rfl ?_
         refine wp_skip ?_
         (try simp only [ls0, ls1])
         refine hK4702 _ _ ?_
         (try clear hK4702 K4702)
         refine wp_seq_k fun K4799 hK4799 => ?_
         refine wl_region ?_
         refine mv_ rfl ?_
         obtain ⟨⟨t4800, t4801, t4802, t4803, t4804, t4805, t4806, t4807, t4808⟩, A4809, H⟩ := bnd H
         (try dsimp only at H)
         refine st_call #[.pointer (some ⟨g0, 0, none⟩), .int .i64 1] rfl rfl Try.func82 (by kernel_rfl) rfl rfl (mp_ rfl) ?_
         refine (IH.expr_Cursor_binary g0 A0_0 c0_0 l0_0 A0_1 c0_1 l0_1 x4632 x4633 1 t4800 t4801 t4802 t4803 t4804 t4805 t4806 t4807 t4808  (fun z_ => pal [(0, 0), (1, 1)] (C4659_ z_)) w4658 (fun _ => pal_lt rfl _) (Bx.arg HJ4634 rfl) (Ft.arg HJ4630 rfl) HCP0_0 (Ft.arg HJ4631 rfl) HCP0_1 A4809).mono ?_
         rintro _ w4811 ⟨C4812, A4814, cp4815, rfl, hs4813, HO4816, HC4817, HX4818⟩
         refine ⟨_, rfl, ?_⟩
         replace HO4816 := Ft.res (U := [(0, 0), (1, 1)]) HO4816 hs4813 [0] rfl rfl rfl
         replace HX4818 := Bx.res (U := [(0, 0), (1, 1)]) (j := 1) HX4818 hs4813 (by rfl) (by decide) rfl
         replace hs4813 := Step.lift (U := [(0, 0), (1, 1)]) hs4813 [1] rfl rfl
         generalize up C4659_ C4812 w4658.heap.size [(0, 0), (1, 1)] = C4812_ at HO4816 HX4818 hs4813
         replace HJ4630 := HJ4630.thru hs4813 rfl
         replace HJ4631 := HJ4631.thru hs4813 rfl
         replace HJ4635 := HJ4635.thru hs4813 rfl
         replace HJ4642 := HJ4642.thru hs4813 rfl
         replace HJ4641 := HJ4641.thru hs4813 rfl
         replace HS4646 := HS4646.trans hs4813 hc rfl
         (try simp only [ls0, ls1])
         refine mv_ rfl ?_
         refine st (.agg #[.int .i64 t4800, .int .i64 t4801, .int .i64 t4802, .string t4803, .string t4804, .slice A4814 t4805.length cp4815]) rfl rfl (xr_extract (.tuple #[.agg #[.int .i64 t4800, .int .i64 t4801, .int .i64 t4802, .string t4803, .string t4804, .slice A4814 t4805.length cp4815], .int .i64 t4806]) _ rfl rfl rfl) ?_
         refine st (.int .i64 t4806) rfl rfl (xr_extract (.tuple #[.agg #[.int .i64 t4800, .int .i64 t4801, .int .i64 t4802, .string t4803, .string t4804, .slice A4814 t4805.length cp4815], .int .i64 t4806]) _ rfl rfl rfl) ?_
         refine bx_new (C := C4812_) 44 ([.int .i64 0, .int .i64 0, .int .i64 0, .string (⟨#[]⟩ : ByteArray), .string (⟨#[]⟩ : ByteArray), .slice none 0 0]) 14 rfl rfl (by first | (go_simp; done) | (go_simp; rfl)) ?_
         intro g4819 w4820 C4821 HX4822 hs4823
         replace HX4818 := HX4818.thru hs4823 rfl
         replace HJ4630 := HJ4630.thru hs4823 rfl
         replace HJ4631 := HJ4631.thru hs4823 rfl
         replace HJ4635 := HJ4635.thru hs4823 rfl
         replace HJ4642 := HJ4642.thru hs4823 rfl
         replace HJ4641 := HJ4641.thru hs4823 rfl
         replace HO4816 := HO4816.thru hs4823 rfl
         replace HS4646 := HS4646.trans hs4823 hc rfl
         (try simp only [ls0, ls1])
         refine bx_store (C := C4821) (z := 14) (g := g4819) (j := 0) (tb := 44) (u := .agg #[.int .i64 t4800, .int .i64 t4801, .int .i64 t4802, .string t4803, .string t4804, .slice A4814 t4805.length cp4815]) (seg := [.int .i64 t4800, .int .i64 t4801, .int .i64 t4802, .string t4803, .string t4804, .slice A4814 t4805.length cp4815]) (xs := [.int .i64 0, .int .i64 0, .int .i64 0, .string (⟨#[]⟩ : ByteArray), .string (⟨#[]⟩ : ByteArray), .slice none 0 0]) rfl rfl rfl rfl rfl rfl (by first | kernel_rfl | rfl) (by simp [Value.oneCell']) HX4822 (by simp only [List.length_cons, List.length_nil]; omega) rfl ?_
         intro w4824 HX4825 hs4826
         replace HX4818 := HX4818.thru hs4826 rfl
         replace HJ4630 := HJ4630.thru hs4826 rfl
         replace HJ4631 := HJ4631.thru hs4826 rfl
         replace HJ4635 := HJ4635.thru hs4826 rfl
         replace HJ4642 := HJ4642.thru hs4826 rfl
         replace HJ4641 := HJ4641.thru hs4826 rfl
         replace HO4816 := HO4816.thru hs4826 rfl
         replace HS4646 := HS4646.trans hs4826 hc rfl
         (try simp only [ls0, ls1])
         refine as_ rfl ?_
         refine wl_end ?_
         (try simp only [ls0, ls1])
         refine hK4799 _ _ ?_
         (try clear hK4799 K4799)
         refine wp_seq_k fun K4827 hK4827 => ?_
         refine wp_seq_k fun K4828 hK4828 => ?_
         refine wl_region ?_
         refine mv_ rfl ?_
         refine st (.bool (!decide (t4806 = 0))) rfl rfl (xr_bin _ _ _ rfl rfl rfl (B.neq_i64 _ _)) ?_
         refine wl_end ?_
         (try simp only [ls0, ls1])
         refine hK4828 _ _ ?_
         (try clear hK4828 K4828)
         by_cases c4829 : t4806 = 0
         ·rw [if_pos c4829] at H
          (try rw [(decide_eq_true c4829)])
          (try simp only [Bool.not_true, Bool.not_false])
          refine wp_cond_false rfl ?_
          refine wp_skip ?_
          (try simp only [ls0, ls1])
          refine hK4827 _ _ ?_
          (try clear hK4827 K4827)
          refine wl_region ?_
          refine st (.pointer (some ⟨g3688, 5, none⟩)) rfl rfl (xr_fieldAddr _ _ rfl rfl (bx_field2 Try.underlying44 rfl rfl (by kernel_rfl))) ?_
          refine st (.slice A4637 x4636.length cp4639) rfl rfl (xr_load _ _ rfl rfl (load_cell Try.underlying42 rfl (bx_cell (HJ4642).2 5 rfl))) ?_
          refine st (.agg #[.int .i64 t4800, .int .i64 t4801, .int .i64 t4802, .string t4803, .string t4804, .slice A4814 t4805.length cp4815]) rfl rfl (xr_load _ _ rfl rfl (load_agg (cs := [.int .i64 t4800, .int .i64 t4801, .int .i64 t4802, .string t4803, .string t4804, .slice A4814 t4805.length cp4815]) Try.underlying44 rfl (by kernel_rfl) (bx_cells (HX4825).2 0 rfl))) ?_
          refine ev_run (w1 := w4824.alloc (.cells #[.int .i64 t4800, .int .i64 t4801, .int .i64 t4802, .string t4803, .string t4804, .slice A4814 t4805.length cp4815] 44)) (.slice (some ⟨w4824.heap.size, 0, none⟩) 1 1) rfl rfl (by first | (go_simp; done) | (go_simp; rfl)) ?_
          (try simp only [Act.put, List.setIfInBounds_toArray, ls0, ls1])
          obtain ⟨c4830, H⟩ := if_some H
          obtain ⟨y4831, A4832, H⟩ := bnd H
          refine Own.append k44 (C := C4821) (i := 13) rfl (.tmp 79) (.tmp 81) 42 44 (.agg #[(.int .i64 0), (.int .i64 0), (.int .i64 0), (.string ⟨#[]⟩), (.string ⟨#[]⟩), (.slice none 0 0)]) 80 rfl Try.underlying42 info44 rfl (by decide) (by decide) (.slice A4637 x4636.length cp4639) x4636 (⟨t4800, t4801, t4802, t4803, t4804, t4805⟩ : S44) [.int .i64 t4800, .int .i64 t4801, .int .i64 t4802, .string t4803, .string t4804, .slice A4814 t4805.length cp4815] rfl rfl (k44_mkF _ _ (⟨t4800, t4801, t4802, t4803, t4804, t4805⟩ : S44) HC4817 (Kd.F_mono (d := k44) HO4816 (fun k_ h_ => by simpa using h_))) HJ4641 (by decide) (by omega) (Option.some.inj A4832) ?_
          intro A4833 cp4834 w4835 C4836 HO4837 HC4838 hs4839
          replace HX4818 := HX4818.thru hs4839 rfl
          replace HJ4630 := HJ4630.thru hs4839 rfl
          replace HJ4631 := HJ4631.thru hs4839 rfl
          replace HJ4635 := HJ4635.thru hs4839 rfl
          replace HJ4642 := HJ4642.thru hs4839 rfl
          replace HO4816 := HO4816.thru hs4839 rfl
          replace HX4825 := HX4825.thru hs4839 rfl
          replace HS4646 := HS4646.trans hs4839 hc rfl
          (try simp only [ls0, ls1])
          refine st (.pointer (some ⟨g3688, 5, none⟩)) rfl rfl (xr_fieldAddr _ _ rfl rfl (bx_field2 Try.underlying44 rfl rfl (by kernel_rfl))) ?_
          refine bx_store (C := C4836) (z := 12) (g := g3688) (j := 5) (tb := 44) (u := .slice A4833 y4831.length cp4834) (seg := [.slice A4833 y4831.length cp4834]) (xs := [.int .i64 3, .int .i64 t3694, .int .i64 0, .string x3762, .string (⟨#[]⟩ : ByteArray), .slice A4637 x4636.length cp4639]) rfl rfl rfl rfl rfl rfl (by first | kernel_rfl | rfl) (by simp [Value.oneCell']) HJ4642 (by simp only [List.length_cons, List.length_nil]; omega) rfl ?_
          intro w4840 HX4841 hs4842
          replace HX4818 := HX4818.thru hs4842 rfl
          replace HJ4630 := HJ4630.thru hs4842 rfl
          replace HJ4631 := HJ4631.thru hs4842 rfl
          replace HJ4635 := HJ4635.thru hs4842 rfl
          replace HO4837 := HO4837.thru hs4842 rfl
          replace HO4816 := HO4816.thru hs4842 rfl
          replace HX4825 := HX4825.thru hs4842 rfl
          replace HS4646 := HS4646.trans hs4842 hc rfl
          (try simp only [ls0, ls1])
          refine wl_end ?_
          (try simp only [ls0, ls1])
          exact jmpL (fun a_ h_ => ih4648 k4651 (by omega) a_ _ h_) (fun g_ => ⟨_, t4807, t4808, A4833, y4831.length, cp4834, y4831, g_, rfl, HS4646, (by omega), HJ4630, HJ4631, HX4818, HJ4635, HO4837, HC4838, HX4841, H⟩) rfl
         rw [if_neg c4829] at H
         (try rw [(decide_eq_false c4829)])
         (try simp only [Bool.not_true, Bool.not_false])
         refine wp_cond_true rfl ?_
         refine wp_seq_k fun K4843 hK4843 => ?_
         refine wl_region ?_
         refine st (.agg #[.int .i64 0, .int .i64 0, .int .i64 0, .string (⟨#[]⟩ : ByteArray), .string (⟨#[]⟩ : ByteArray), .slice none 0 0]) rfl rfl (xr_build #[] (.agg #[.int .i64 0, .int .i64 0, .int .i64 0, .string (⟨#[]⟩ : ByteArray), .string (⟨#[]⟩ : ByteArray), .slice none 0 0]) rfl (mp_ rfl) (by first | rfl | (go_simp; done) | (go_simp; rfl) | (go_simp; exact i64_w _) | (go_simp; exact i32_w _))) ?_
         refine mv_ rfl ?_
         refine bx_store (C := C4821) (z := 11) (g := g2447) (j := 0) (tb := 44) (u := .agg #[.int .i64 0, .int .i64 0, .int .i64 0, .string (⟨#[]⟩ : ByteArray), .string (⟨#[]⟩ : ByteArray), .slice none 0 0]) (seg := [.int .i64 0, .int .i64 0, .int .i64 0, .string (⟨#[]⟩ : ByteArray), .string (⟨#[]⟩ : ByteArray), .slice none 0 0]) (xs := [.int .i64 0, .int .i64 0, .int .i64 0, .string (⟨#[]⟩ : ByteArray), .string (⟨#[]⟩ : ByteArray), .slice none 0 0]) rfl rfl rfl rfl rfl rfl (by first | kernel_rfl | rfl) (by simp [Value.oneCell']) HJ4635 (by simp only [List.length_cons, List.length_nil]; omega) rfl ?_
         intro w4844 HX4845 hs4846
         replace HX4818 := HX4818.thru hs4846 rfl
         replace HJ4630 := HJ4630.thru hs4846 rfl
         replace HJ4631 := HJ4631.thru hs4846 rfl
         replace HJ4642 := HJ4642.thru hs4846 rfl
         replace HJ4641 := HJ4641.thru hs4846 rfl
         replace HO4816 := HO4816.thru hs4846 rfl
         replace HX4825 := HX4825.thru hs4846 rfl
         replace HS4646 := HS4646.trans hs4846 hc rfl
         (try simp only [ls0, ls1])
         refine as_ rfl ?_
         refine wl_end ?_
         (try simp only [ls0, ls1])
         refine hK4843 _ _ ?_
         (try clear hK4843 K4843)
         refine wp_ret ?_
         (try simp only [Exit.inBlock, Exit.then, Exit.noGoto])
         (try simp only [ls0, ls1])
         simp only [Option.some.injEq, Prod.mk.injEq] at H
         obtain ⟨rfl, rfl, rfl, rfl, rfl, rfl, rfl, rfl, rfl⟩ := H
         refine bodyPost_ret (res_ct rfl rfl (load_of (load_agg (cs := [.int .i64 0, .int .i64 0, .int .i64 0, .string (⟨#[]⟩ : ByteArray), .string (⟨#[]⟩ : ByteArray), .slice none 0 0]) Try.underlying44 rfl (by kernel_rfl) (bx_cells (HX4845).2 0 rfl)))) rfl ?_
         exact ⟨_, none, 0, rfl, HS4646, (Kd.F_nil _ _ _), (Nat.le_refl 0), HX4818⟩
      rw [if_neg c3793] at H
      (try rw [(decide_eq_false c3793)])
      (try simp only [Bool.not_true, Bool.not_false])
      refine wp_cond_true rfl ?_
      refine wp_seq_k fun K4847 hK4847 => ?_
      refine wl_region ?_
      refine st (.agg #[.int .i64 0, .int .i64 0, .int .i64 0, .string (⟨#[]⟩ : ByteArray), .string (⟨#[]⟩ : ByteArray), .slice none 0 0]) rfl rfl (xr_build #[] (.agg #[.int .i64 0, .int .i64 0, .int .i64 0, .string (⟨#[]⟩ : ByteArray), .string (⟨#[]⟩ : ByteArray), .slice none 0 0]) rfl (mp_ rfl) (by first | rfl | (go_simp; done) | (go_simp; rfl) | (go_simp; exact i64_w _) | (go_simp; exact i32_w _))) ?_
      refine mv_ rfl ?_
      refine bx_store (C := C3789_) (z := 11) (g := g2447) (j := 0) (tb := 44) (u := .agg #[.int .i64 0, .int .i64 0, .int .i64 0, .string (⟨#[]⟩ : ByteArray), .string (⟨#[]⟩ : ByteArray), .slice none 0 0]) (seg := [.int .i64 0, .int .i64 0, .int .i64 0, .string (⟨#[]⟩ : ByteArray), .string (⟨#[]⟩ : ByteArray), .slice none 0 0]) (xs := [.int .i64 0, .int .i64 0, .int .i64 0, .string (⟨#[]⟩ : ByteArray), .string (⟨#[]⟩ : ByteArray), .slice none 0 0]) rfl rfl rfl rfl rfl rfl (by first | kernel_rfl | rfl) (by simp [Value.oneCell']) HJ3761 (by simp only [List.length_cons, List.length_nil]; omega) rfl ?_
      intro w4848 HX4849 hs4850
      replace HX3791 := HX3791.thru hs4850 rfl
      replace HJ3757 := HJ3757.thru hs4850 rfl
      replace HJ3758 := HJ3758.thru hs4850 rfl
      replace HX3779 := HX3779.thru hs4850 rfl
      replace HS3756 := HS3756.trans hs4850 hc rfl
      (try simp only [ls0, ls1])
      refine as_ rfl ?_
      refine wl_end ?_
      (try simp only [ls0, ls1])
      refine hK4847 _ _ ?_
      (try clear hK4847 K4847)
      refine wp_ret ?_
      (try simp only [Exit.inBlock, Exit.then, Exit.noGoto])
      (try simp only [ls0, ls1])
      simp only [Option.some.injEq, Prod.mk.injEq] at H
      obtain ⟨rfl, rfl, rfl, rfl, rfl, rfl, rfl, rfl, rfl⟩ := H
      refine bodyPost_ret (res_ct rfl rfl (load_of (load_agg (cs := [.int .i64 0, .int .i64 0, .int .i64 0, .string (⟨#[]⟩ : ByteArray), .string (⟨#[]⟩ : ByteArray), .slice none 0 0]) Try.underlying44 rfl (by kernel_rfl) (bx_cells (HX4849).2 0 rfl)))) rfl ?_
      exact ⟨_, none, 0, rfl, HS3756, (Kd.F_nil _ _ _), (Nat.le_refl 0), HX3791⟩
     rw [if_neg c3776] at H
     (try rw [(decide_eq_false c3776)])
     (try simp only [Bool.not_true, Bool.not_false])
     refine wp_cond_true rfl ?_
     refine wp_seq_k fun K4851 hK4851 => ?_
     refine wl_region ?_
     refine st (.agg #[.int .i64 2, .int .i64 t3694, .int .i64 0, .string x3762, .string (⟨#[]⟩ : ByteArray), .slice none 0 0]) rfl rfl (xr_load _ _ rfl rfl (load_agg (cs := [.int .i64 2, .int .i64 t3694, .int .i64 0, .string x3762, .string (⟨#[]⟩ : ByteArray), .slice none 0 0]) Try.underlying44 rfl (by kernel_rfl) (bx_cells (HJ3763).2 0 rfl))) ?_
     refine bx_store (C := C3774_) (z := 11) (g := g2447) (j := 0) (tb := 44) (u := .agg #[.int .i64 2, .int .i64 t3694, .int .i64 0, .string x3762, .string (⟨#[]⟩ : ByteArray), .slice none 0 0]) (seg := [.int .i64 2, .int .i64 t3694, .int .i64 0, .string x3762, .string (⟨#[]⟩ : ByteArray), .slice none 0 0]) (xs := [.int .i64 0, .int .i64 0, .int .i64 0, .string (⟨#[]⟩ : ByteArray), .string (⟨#[]⟩ : ByteArray), .slice none 0 0]) rfl rfl rfl rfl rfl rfl (by first | kernel_rfl | rfl) (by simp [Value.oneCell']) HJ3761 (by simp only [List.length_cons, List.length_nil]; omega) rfl ?_
     intro w4852 HX4853 hs4854
     replace HJ3760 := HJ3760.thru hs4854 rfl
     replace HJ3757 := HJ3757.thru hs4854 rfl
     replace HJ3758 := HJ3758.thru hs4854 rfl
     replace HJ3763 := HJ3763.thru hs4854 rfl
     replace HS3756 := HS3756.trans hs4854 hc rfl
     (try simp only [ls0, ls1])
     refine st (.int .i64 0) rfl rfl (xr_assign _ rfl rfl) ?_
     refine wl_end ?_
     (try simp only [ls0, ls1])
     refine hK4851 _ _ ?_
     (try clear hK4851 K4851)
     refine wp_ret ?_
     (try simp only [Exit.inBlock, Exit.then, Exit.noGoto])
     (try simp only [ls0, ls1])
     simp only [Option.some.injEq, Prod.mk.injEq] at H
     obtain ⟨rfl, rfl, rfl, rfl, rfl, rfl, rfl, rfl, rfl⟩ := H
     refine bodyPost_ret (res_ct rfl rfl (load_of (load_agg (cs := [.int .i64 2, .int .i64 t3694, .int .i64 0, .string x3762, .string (⟨#[]⟩ : ByteArray), .slice none 0 0]) Try.underlying44 rfl (by kernel_rfl) (bx_cells (HX4853).2 0 rfl)))) rfl ?_
     exact ⟨_, none, 0, rfl, HS3756, (Kd.F_nil _ _ _), (Nat.le_refl 0), HJ3760⟩
   refine wp_seq_k fun K4855 hK4855 => ?_
   refine wl_region ?_
   refine mv_ rfl ?_
   obtain ⟨⟨t4856, t4857⟩, A4858, H⟩ := bnd H
   (try dsimp only at H)
   refine st_call #[.pointer (some ⟨g0, 0, none⟩), .string (⟨#[46]⟩ : ByteArray)] rfl rfl Try.func48 (by kernel_rfl) rfl rfl (mp_ rfl) ?_
   refine (expr_Cursor_Take.calls g0 A0_0 c0_0 l0_0 A0_1 c0_1 l0_1 t3708 a0_3 (⟨#[46]⟩ : ByteArray) t4856 t4857  (fun z_ => pal [(0, 0), (1, 1)] (C3712_ z_)) w3715 (fun _ => pal_lt rfl _) (Bx.arg HX3714 rfl) (Ft.arg HP0_0 rfl) HCP0_0 (Ft.arg HP0_1 rfl) HCP0_1 A4858).mono ?_
   rintro _ w4860 ⟨C4861, rfl, hs4862, HX4863⟩
   refine ⟨_, rfl, ?_⟩
   replace HX4863 := Bx.res (U := [(0, 0), (1, 1)]) (j := 1) HX4863 hs4862 (by rfl) (by decide) rfl
   replace hs4862 := Step.lift (U := [(0, 0), (1, 1)]) hs4862 [1] rfl rfl
   generalize up C3712_ C4861 w3715.heap.size [(0, 0), (1, 1)] = C4861_ at HX4863 hs4862
   replace HP0_0 := HP0_0.thru hs4862 rfl
   replace HP0_1 := HP0_1.thru hs4862 rfl
   replace HX2450 := HX2450.thru hs4862 rfl
   replace HX3716 := HX3716.thru hs4862 rfl
   replace HS := HS.trans hs4862 hc rfl
   (try simp only [ls0, ls1])
   refine wl_end ?_
   (try simp only [ls0, ls1])
   refine hK4855 _ _ ?_
   (try clear hK4855 K4855)
   by_cases c4864 : t4856 = true
   ·rw [if_pos c4864] at H
    (try rw [c4864])
    refine wp_cond_true rfl ?_
    refine wp_seq_k fun K4865 hK4865 => ?_
    refine wl_region ?_
    refine mv_ rfl ?_
    obtain ⟨⟨t4866, t4867, t4868⟩, A4869, H⟩ := bnd H
    (try dsimp only at H)
    refine st_call #[.pointer (some ⟨g0, 0, none⟩)] rfl rfl Try.func49 (by kernel_rfl) rfl rfl (mp_ rfl) ?_
    refine (expr_Cursor_Ident.calls k g0 A0_0 c0_0 l0_0 A0_1 c0_1 l0_1 t4857 a0_3 t4866 t4867 t4868  (fun z_ => pal [(0, 0), (1, 1)] (C4861_ z_)) w4860 (fun _ => pal_lt rfl _) (Bx.arg HX4863 rfl) (Ft.arg HP0_0 rfl) HCP0_0 (Ft.arg HP0_1 rfl) HCP0_1 A4869).mono ?_
    rintro _ w4871 ⟨C4872, rfl, hs4873, HX4874⟩
    refine ⟨_, rfl, ?_⟩
    replace HX4874 := Bx.res (U := [(0, 0), (1, 1)]) (j := 1) HX4874 hs4873 (by rfl) (by decide) rfl
    replace hs4873 := Step.lift (U := [(0, 0), (1, 1)]) hs4873 [1] rfl rfl
    generalize up C4861_ C4872 w4860.heap.size [(0, 0), (1, 1)] = C4872_ at HX4874 hs4873
    replace HP0_0 := HP0_0.thru hs4873 rfl
    replace HP0_1 := HP0_1.thru hs4873 rfl
    replace HX2450 := HX2450.thru hs4873 rfl
    replace HX3716 := HX3716.thru hs4873 rfl
    replace HS := HS.trans hs4873 hc rfl
    (try simp only [ls0, ls1])
    refine mv_ rfl ?_
    refine st (.string t4866) rfl rfl (xr_extract (.tuple #[.string t4866, .bool t4867]) _ rfl rfl rfl) ?_
    refine st (.bool t4867) rfl rfl (xr_extract (.tuple #[.string t4866, .bool t4867]) _ rfl rfl rfl) ?_
    refine as_ rfl ?_
    simp only [ls0, ls1]
    refine as_ rfl ?_
    refine wl_end ?_
    (try simp only [ls0, ls1])
    refine hK4865 _ _ ?_
    (try clear hK4865 K4865)
    refine wp_seq_k fun K4875 hK4875 => ?_
    refine wp_seq_k fun K4876 hK4876 => ?_
    refine wl_region ?_
    refine mv_ rfl ?_
    refine st (.bool (!t4867)) rfl rfl (xr_un (.bool t4867) _ rfl rfl (by first | rfl | (go_simp; done) | (go_simp; rfl) | (go_simp; exact i64_w _) | (go_simp; exact i32_w _))) ?_
    refine wl_end ?_
    (try simp only [ls0, ls1])
    refine hK4876 _ _ ?_
    (try clear hK4876 K4876)
    by_cases c4877 : t4867 = true
    ·rw [if_pos c4877] at H
     (try rw [c4877])
     (try simp only [Bool.not_true, Bool.not_false])
     refine wp_cond_false rfl ?_
     refine wp_skip ?_
     (try simp only [ls0, ls1])
     refine hK4875 _ _ ?_
     (try clear hK4875 K4875)
     refine wl_region ?_
     refine st (.pointer (some ⟨g3688, 3, none⟩)) rfl rfl (xr_fieldAddr _ _ rfl rfl (bx_field2 Try.underlying44 rfl rfl (by kernel_rfl))) ?_
     refine st (.string t3706) rfl rfl (xr_load _ _ rfl rfl (load_cell Try.underlying9 rfl (bx_cell (HX3716).2 3 rfl))) ?_
     refine mv_ rfl ?_
     obtain ⟨c4878, H⟩ := if_some H
     refine st (.string ((⟨#[46]⟩ : ByteArray) ++ t4866)) rfl rfl (xr_bin _ _ _ rfl rfl rfl (B.add_str _ _ (by assumption))) ?_
     simp only [ls0, ls1]
     obtain ⟨c4879, H⟩ := if_some H
     refine st (.string (t3706 ++ ((⟨#[46]⟩ : ByteArray) ++ t4866))) rfl rfl (xr_bin _ _ _ rfl rfl rfl (B.add_str _ _ (by assumption))) ?_
     refine st (.pointer (some ⟨g3688, 3, none⟩)) rfl rfl (xr_fieldAddr _ _ rfl rfl (bx_field2 Try.underlying44 rfl rfl (by kernel_rfl))) ?_
     refine bx_store (C := C4872_) (z := 12) (g := g3688) (j := 3) (tb := 44) (u := .string (t3706 ++ ((⟨#[46]⟩ : ByteArray) ++ t4866))) (seg := [.string (t3706 ++ ((⟨#[46]⟩ : ByteArray) ++ t4866))]) (xs := [.int .i64 2, .int .i64 t3694, .int .i64 0, .string t3706, .string (⟨#[]⟩ : ByteArray), .slice none 0 0]) rfl rfl rfl rfl rfl rfl (by first | kernel_rfl | rfl) (by simp [Value.oneCell']) HX3716 (by simp only [List.length_cons, List.length_nil]; omega) rfl ?_
     intro w4880 HX4881 hs4882
     replace HX4874 := HX4874.thru hs4882 rfl
     replace HP0_0 := HP0_0.thru hs4882 rfl
     replace HP0_1 := HP0_1.thru hs4882 rfl
     replace HX2450 := HX2450.thru hs4882 rfl
     replace HS := HS.trans hs4882 hc rfl
     (try simp only [ls0, ls1])
     refine wl_end ?_
     (try simp only [ls0, ls1])
     exact jmp (fun g_ => hj3753 _ _ _ (t4868) (t3706 ++ ((⟨#[46]⟩ : ByteArray) ++ t4866)) g_ HS (by omega) HP0_0 HP0_1 HX4874 HX2450 HX4881 H) rfl
    rw [if_neg c4877] at H
    (try rw [(Bool.eq_false_iff.mpr c4877)])
    (try simp only [Bool.not_true, Bool.not_false])
    refine wp_cond_true rfl ?_
    refine wp_seq_k fun K4883 hK4883 => ?_
    refine wl_region ?_
    refine st (.agg #[.int .i64 0, .int .i64 0, .int .i64 0, .string (⟨#[]⟩ : ByteArray), .string (⟨#[]⟩ : ByteArray), .slice none 0 0]) rfl rfl (xr_build #[] (.agg #[.int .i64 0, .int .i64 0, .int .i64 0, .string (⟨#[]⟩ : ByteArray), .string (⟨#[]⟩ : ByteArray), .slice none 0 0]) rfl (mp_ rfl) (by first | rfl | (go_simp; done) | (go_simp; rfl) | (go_simp; exact i64_w _) | (go_simp; exact i32_w _))) ?_
    refine bx_store (C := C4872_) (z := 11) (g := g2447) (j := 0) (tb := 44) (u := .agg #[.int .i64 0, .int .i64 0, .int .i64 0, .string (⟨#[]⟩ : ByteArray), .string (⟨#[]⟩ : ByteArray), .slice none 0 0]) (seg := [.int .i64 0, .int .i64 0, .int .i64 0, .string (⟨#[]⟩ : ByteArray), .string (⟨#[]⟩ : ByteArray), .slice none 0 0]) (xs := [.int .i64 0, .int .i64 0, .int .i64 0, .string (⟨#[]⟩ : ByteArray), .string (⟨#[]⟩ : ByteArray), .slice none 0 0]) rfl rfl rfl rfl rfl rfl (by first | kernel_rfl | rfl) (by simp [Value.oneCell']) HX2450 (by simp only [List.length_cons, List.length_nil]; omega) rfl ?_
    intro w4884 HX4885 hs4886
    replace HX4874 := HX4874.thru hs4886 rfl
    replace HP0_0 := HP0_0.thru hs4886 rfl
    replace HP0_1 := HP0_1.thru hs4886 rfl
    replace HX3716 := HX3716.thru hs4886 rfl
    replace HS := HS.trans hs4886 hc rfl
    (try simp only [ls0, ls1])
    refine st (.int .i64 11) rfl rfl (xr_assign _ rfl rfl) ?_
    refine wl_end ?_
    (try simp only [ls0, ls1])
    refine hK4883 _ _ ?_
    (try clear hK4883 K4883)
    refine wp_ret ?_
    (try simp only [Exit.inBlock, Exit.then, Exit.noGoto])
    (try simp only [ls0, ls1])
    simp only [Option.some.injEq, Prod.mk.injEq] at H
    obtain ⟨rfl, rfl, rfl, rfl, rfl, rfl, rfl, rfl, rfl⟩ := H
    refine bodyPost_ret (res_ct rfl rfl (load_of (load_agg (cs := [.int .i64 0, .int .i64 0, .int .i64 0, .string (⟨#[]⟩ : ByteArray), .string (⟨#[]⟩ : ByteArray), .slice none 0 0]) Try.underlying44 rfl (by kernel_rfl) (bx_cells (HX4885).2 0 rfl)))) rfl ?_
    exact ⟨_, none, 0, rfl, HS, (Kd.F_nil _ _ _), (Nat.le_refl 0), HX4874⟩
   rw [if_neg c4864] at H
   (try rw [(Bool.eq_false_iff.mpr c4864)])
   refine wp_cond_false rfl ?_
   refine wp_skip ?_
   (try simp only [ls0, ls1])
   exact jmp (fun g_ => hj3753 _ _ _ (t4857) (t3706) g_ HS (by omega) HP0_0 HP0_1 HX4863 HX2450 HX3716 H) rfl
  rw [if_neg c3719] at H
  (try rw [(Bool.eq_false_iff.mpr c3719)])
  (try simp only [Bool.not_true, Bool.not_false])
  refine wp_cond_true rfl ?_
  refine wp_seq_k fun K4887 hK4887 => ?_
  refine wl_region ?_
  refine st (.agg #[.int .i64 0, .int .i64 0, .int .i64 0, .string (⟨#[]⟩ : ByteArray), .string (⟨#[]⟩ : ByteArray), .slice none 0 0]) rfl rfl (xr_build #[] (.agg #[.int .i64 0, .int .i64 0, .int .i64 0, .string (⟨#[]⟩ : ByteArray), .string (⟨#[]⟩ : ByteArray), .slice none 0 0]) rfl (mp_ rfl) (by first | rfl | (go_simp; done) | (go_simp; rfl) | (go_simp; exact i64_w _) | (go_simp; exact i32_w _))) ?_
  refine bx_store (C := C3712_) (z := 11) (g := g2447) (j := 0) (tb := 44) (u := .agg #[.int .i64 0, .int .i64 0, .int .i64 0, .string (⟨#[]⟩ : ByteArray), .string (⟨#[]⟩ : ByteArray), .slice none 0 0]) (seg := [.int .i64 0, .int .i64 0, .int .i64 0, .string (⟨#[]⟩ : ByteArray), .string (⟨#[]⟩ : ByteArray), .slice none 0 0]) (xs := [.int .i64 0, .int .i64 0, .int .i64 0, .string (⟨#[]⟩ : ByteArray), .string (⟨#[]⟩ : ByteArray), .slice none 0 0]) rfl rfl rfl rfl rfl rfl (by first | kernel_rfl | rfl) (by simp [Value.oneCell']) HX2450 (by simp only [List.length_cons, List.length_nil]; omega) rfl ?_
  intro w4888 HX4889 hs4890
  replace HX3714 := HX3714.thru hs4890 rfl
  replace HP0_0 := HP0_0.thru hs4890 rfl
  replace HP0_1 := HP0_1.thru hs4890 rfl
  replace HX3716 := HX3716.thru hs4890 rfl
  replace HS := HS.trans hs4890 hc rfl
  (try simp only [ls0, ls1])
  refine st (.int .i64 11) rfl rfl (xr_assign _ rfl rfl) ?_
  refine wl_end ?_
  (try simp only [ls0, ls1])
  refine hK4887 _ _ ?_
  (try clear hK4887 K4887)
  refine wp_ret ?_
  (try simp only [Exit.inBlock, Exit.then, Exit.noGoto])
  (try simp only [ls0, ls1])
  simp only [Option.some.injEq, Prod.mk.injEq] at H
  obtain ⟨rfl, rfl, rfl, rfl, rfl, rfl, rfl, rfl, rfl⟩ := H
  refine bodyPost_ret (res_ct rfl rfl (load_of (load_agg (cs := [.int .i64 0, .int .i64 0, .int .i64 0, .string (⟨#[]⟩ : ByteArray), .string (⟨#[]⟩ : ByteArray), .slice none 0 0]) Try.underlying44 rfl (by kernel_rfl) (bx_cells (HX4889).2 0 rfl)))) rfl ?_
  exact ⟨_, none, 0, rfl, HS, (Kd.F_nil _ _ _), (Nat.le_refl 0), HX3714⟩

end Go.Proofs.Yteoccoklbmjiaaa.PStn
