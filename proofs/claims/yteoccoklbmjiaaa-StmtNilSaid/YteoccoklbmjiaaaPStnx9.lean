-- By cprint.py, a program of this work. Lean checks it.
import Derived.Test.YteoccoklbmjiaaaPStnx0
import Derived.Test.YteoccoklbmjiaaaPStnx1
import Derived.Test.YteoccoklbmjiaaaPStnx2
import Derived.Test.YteoccoklbmjiaaaPStnx3
import Derived.Test.YteoccoklbmjiaaaPStnx7
import Derived.Test.YteoccoklbmjiaaaPStnx8
namespace Go.Proofs.Yteoccoklbmjiaaa.PStn
open Go.RowKit Go.Proofs.YteoccoklbmjiaaaW.PrintWords Go.Proofs.YteoccoklbmjiaaaW.PrintLast Go.Proofs.YteoccoklbmjiaaaW.PrintMore
set_option linter.unusedVariables false
set_option linter.unusedSimpArgs false

/-! ### stmt_read: function 88 -/
def stmt_read.j0 (r_ : Rec_stmt_Stmt) : Nat → Int → ByteArray → Int → Bool → Bool → ByteArray → Int → Int → Int → (List Int) → (List (S28)) → (List (S89)) → Int → Int → Int → Int → ByteArray → ByteArray → (List (S44)) → (List (S89)) → Bool → Int → Option (Int × Int × Int × ByteArray × Int × Bool × Bool × ByteArray × Int × Int × Int × Int × Int × ByteArray × ByteArray × (List (S44)) × (List (S89)) × (List (S89)))
  | 0, _, _, _, _, _, _, _, _, _, _, _, _, _, _, _, _, _, _, _, _, _, _ => none
  | k + 1, a0_3, a1_2, a1_3, a1_4, a1_5, a1_6, a1_7, a1_8, a2, l0_0, l0_1, l1_16, t305, t307, t308, t309, t310, t311, t312, t313, x343, x346 => if x343 = true then ((r_.stmt_block l0_0 l0_1 x346 a0_3 a2).bind fun bt356 => (some (bt356.2.1, bt356.2.2, 2, a1_2, a1_3, a1_4, a1_5, a1_6, a1_7, a1_8, t307, t308, t309, t310, t311, t312, t313, bt356.1))) else (some (t305, x346, 2, a1_2, a1_3, a1_4, a1_5, a1_6, a1_7, a1_8, t307, t308, t309, t310, t311, t312, t313, l1_16))
def stmt_read.g (r_ : Rec_stmt_Stmt) (k : Nat) (l0_0 : List Int) (l0_1 : List (S28)) (a0_2 : Int) (a0_3 : Int) (a1_0 : Int) (a1_1 : Int) (a1_2 : ByteArray) (a1_3 : Int) (a1_4 : Bool) (a1_5 : Bool) (a1_6 : ByteArray) (a1_7 : Int) (a1_8 : Int) (a1_9 : Int) (a1_10 : Int) (a1_11 : Int) (a1_12 : ByteArray) (a1_13 : ByteArray) (l1_14 : List (S44)) (l1_15 : List (S89)) (l1_16 : List (S89)) (a2 : Int) : Option (Int × Int × Int × ByteArray × Int × Bool × Bool × ByteArray × Int × Int × Int × Int × Int × ByteArray × ByteArray × (List (S44)) × (List (S89)) × (List (S89))) := (expr_Cursor_Take.f l0_0 l0_1 a0_2 a0_3 (⟨#[108, 101, 116]⟩ : ByteArray)).bind fun bt249 => (if bt249.1 = true then ((stmt_let.f k l0_0 l0_1 bt249.2 a0_3 0 a1_1 a1_2 a1_3 a1_4 a1_5 a1_6 a1_7 a1_8 a1_9 a1_10 a1_11 a1_12 a1_13 l1_14 l1_15 l1_16).bind fun bt263 => (some (bt263.1, bt263.2.1, 0, bt263.2.2.1, bt263.2.2.2.1, bt263.2.2.2.2.1, bt263.2.2.2.2.2.1, bt263.2.2.2.2.2.2.1, bt263.2.2.2.2.2.2.2.1, bt263.2.2.2.2.2.2.2.2.1, bt263.2.2.2.2.2.2.2.2.2.1, bt263.2.2.2.2.2.2.2.2.2.2.1, bt263.2.2.2.2.2.2.2.2.2.2.2.1, bt263.2.2.2.2.2.2.2.2.2.2.2.2.1, bt263.2.2.2.2.2.2.2.2.2.2.2.2.2.1, bt263.2.2.2.2.2.2.2.2.2.2.2.2.2.2, l1_15, l1_16))) else ((expr_Cursor_Take.f l0_0 l0_1 bt249.2 a0_3 (⟨#[105, 102]⟩ : ByteArray)).bind fun bt290 => (if bt290.1 = true then ((r_.stmt_asked l0_0 l0_1 bt290.2 a0_3 2 a1_1 a1_2 a1_3 a1_4 a1_5 a1_6 a1_7 a1_8 a1_9 a1_10 a1_11 a1_12 a1_13 l1_14 l1_15 l1_16 a2).bind fun bt305 => (if bt305.1 = 0 then ((expr_Cursor_Take.f l0_0 l0_1 bt305.2.1 a0_3 (⟨#[101, 108, 115, 101]⟩ : ByteArray)).bind fun bt376 => (stmt_read.j0 r_ k a0_3 a1_2 a1_3 a1_4 a1_5 a1_6 a1_7 a1_8 a2 l0_0 l0_1 l1_16 bt305.1 bt305.2.2.1 bt305.2.2.2.1 bt305.2.2.2.2.1 bt305.2.2.2.2.2.1 bt305.2.2.2.2.2.2.1 bt305.2.2.2.2.2.2.2.1 bt305.2.2.2.2.2.2.2.2 bt376.1 bt376.2)) else (stmt_read.j0 r_ k a0_3 a1_2 a1_3 a1_4 a1_5 a1_6 a1_7 a1_8 a2 l0_0 l0_1 l1_16 bt305.1 bt305.2.2.1 bt305.2.2.2.1 bt305.2.2.2.2.1 bt305.2.2.2.2.2.1 bt305.2.2.2.2.2.2.1 bt305.2.2.2.2.2.2.2.1 bt305.2.2.2.2.2.2.2.2 false bt305.2.1))) else ((expr_Cursor_Take.f l0_0 l0_1 bt290.2 a0_3 (⟨#[119, 104, 105, 108, 101]⟩ : ByteArray)).bind fun bt385 => (if bt385.1 = true then ((r_.stmt_asked l0_0 l0_1 bt385.2 a0_3 3 a1_1 a1_2 a1_3 a1_4 a1_5 a1_6 a1_7 a1_8 a1_9 a1_10 a1_11 a1_12 a1_13 l1_14 l1_15 l1_16 a2).bind fun bt399 => (some (bt399.1, bt399.2.1, 3, a1_2, a1_3, a1_4, a1_5, a1_6, a1_7, a1_8, bt399.2.2.1, bt399.2.2.2.1, bt399.2.2.2.2.1, bt399.2.2.2.2.2.1, bt399.2.2.2.2.2.2.1, bt399.2.2.2.2.2.2.2.1, bt399.2.2.2.2.2.2.2.2, l1_16))) else ((expr_Cursor_Take.f l0_0 l0_1 bt385.2 a0_3 (⟨#[100, 111]⟩ : ByteArray)).bind fun bt424 => (if bt424.1 = true then ((stmt_name_fp89_2.f k l0_0 l0_1 bt424.2 a0_3 4 a1_1 a1_2 a1_3 a1_4 a1_5 a1_6 a1_7 a1_8 a1_9 a1_10 a1_11 a1_12 a1_13 l1_14 l1_15 l1_16).bind fun bt439 => (if bt439.1 = 0 then ((some ([(⟨#[59]⟩ : ByteArray)] : List ByteArray)).bind fun y452 => ((stmt_must.f k l0_0 l0_1 bt439.2.1 a0_3 y452).bind fun bt461 => (some (bt461.1, bt461.2, 4, bt439.2.2, a1_3, a1_4, a1_5, a1_6, a1_7, a1_8, a1_9, a1_10, a1_11, a1_12, a1_13, l1_14, l1_15, l1_16)))) else (some (bt439.1, bt439.2.1, 4, bt439.2.2, a1_3, a1_4, a1_5, a1_6, a1_7, a1_8, a1_9, a1_10, a1_11, a1_12, a1_13, l1_14, l1_15, l1_16)))) else ((stmt_other.f k l0_0 l0_1 bt424.2 a0_3 a1_0 a1_1 a1_2 a1_3 a1_4 a1_5 a1_6 a1_7 a1_8 a1_9 a1_10 a1_11 a1_12 a1_13 l1_14 l1_15 l1_16).bind fun bt471 => (some (bt471.1, bt471.2.1, bt471.2.2.1, bt471.2.2.2.1, a1_3, a1_4, a1_5, a1_6, a1_7, a1_8, bt471.2.2.2.2.1, bt471.2.2.2.2.2.1, bt471.2.2.2.2.2.2.1, bt471.2.2.2.2.2.2.2.1, bt471.2.2.2.2.2.2.2.2.1, bt471.2.2.2.2.2.2.2.2.2, l1_15, l1_16))))))))))

set_option maxHeartbeats 8000000 in
set_option maxRecDepth 100000 in
theorem stmt_read.step (r_ : Rec_stmt_Stmt) (IH : Rec_stmt_Stmt.Good r_) (k : Nat) (g0 : Nat) (A0_0 : Option Addr) (c0_0 : Nat) (l0_0 : List Int) (A0_1 : Option Addr) (c0_1 : Nat) (l0_1 : List (S28)) (a0_2 : Int) (a0_3 : Int) (g1 : Nat) (a1_0 : Int) (a1_1 : Int) (a1_2 : ByteArray) (a1_3 : Int) (a1_4 : Bool) (a1_5 : Bool) (a1_6 : ByteArray) (a1_7 : Int) (a1_8 : Int) (a1_9 : Int) (a1_10 : Int) (a1_11 : Int) (a1_12 : ByteArray) (a1_13 : ByteArray) (A1_14 : Option Addr) (c1_14 : Nat) (l1_14 : List (S44)) (A1_15 : Option Addr) (c1_15 : Nat) (l1_15 : List (S89)) (A1_16 : Option Addr) (c1_16 : Nat) (l1_16 : List (S89)) (a2 : Int) (r1 : Int) (r2 : Int) (r3 : Int) (r4 : ByteArray) (r5 : Int) (r6 : Bool) (r7 : Bool) (r8 : ByteArray) (r9 : Int) (r10 : Int) (r11 : Int) (r12 : Int) (r13 : Int) (r14 : ByteArray) (r15 : ByteArray) (r16 : List (S44)) (r17 : List (S89)) (r18 : List (S89)) (c : Nat → Nat) (w : World) (hc : ∀ k, c k < 10) (HP0 : Bx c 1 w g0 111 ([.slice A0_0 l0_0.length c0_0, .slice A0_1 l0_1.length c0_1, .int .i64 a0_2, .int .i64 a0_3])) (HP0_0 : Ft c [0] w (fun w_ => (Kd.int .u8).C w_ A0_0 l0_0.length l0_0)) (HCP0_0 : l0_0.length ≤ c0_0) (HP0_1 : Ft c [0] w (fun w_ => k28.C w_ A0_1 l0_1.length l0_1)) (HCP0_1 : l0_1.length ≤ c0_1) (HP1 : Bx c 2 w g1 89 ([.int .i64 a1_0, .int .i64 a1_1, .string a1_2, .int .i64 a1_3, .bool a1_4, .bool a1_5, .string a1_6, .int .i64 a1_7, .int .i64 a1_8, .int .i64 a1_9, .int .i64 a1_10, .int .i64 a1_11, .string a1_12, .string a1_13, .slice A1_14 l1_14.length c1_14, .slice A1_15 l1_15.length c1_15, .slice A1_16 l1_16.length c1_16])) (HP1_14 : Ft c [0] w (fun w_ => k44.C w_ A1_14 l1_14.length l1_14)) (HCP1_14 : l1_14.length ≤ c1_14) (HP1_15 : Ft c [0] w (fun w_ => k89.C w_ A1_15 l1_15.length l1_15)) (HCP1_15 : l1_15.length ≤ c1_15) (HP1_16 : Ft c [0] w (fun w_ => k89.C w_ A1_16 l1_16.length l1_16)) (HCP1_16 : l1_16.length ≤ c1_16) (H : stmt_read.g r_ k l0_0 l0_1 a0_2 a0_3 a1_0 a1_1 a1_2 a1_3 a1_4 a1_5 a1_6 a1_7 a1_8 a1_9 a1_10 a1_11 a1_12 a1_13 l1_14 l1_15 l1_16 a2 = some (r1, r2, r3, r4, r5, r6, r7, r8, r9, r10, r11, r12, r13, r14, r15, r16, r17, r18)) :
    Calls Try.prog 88 #[.pointer (some ⟨g0, 0, none⟩), .pointer (some ⟨g1, 0, none⟩), .int .i64 a2] w fun e w' => ∃ (c' : Nat → Nat) (A_r16 : Option Addr) (c_r16 : Nat) (A_r17 : Option Addr) (c_r17 : Nat) (A_r18 : Option Addr) (c_r18 : Nat), e = .returned (.int .i64 r1) ∧ Step c w c' w' [1, 2] ∧ Ft c' [0] w' (fun w_ => k44.C w_ A_r16 r16.length r16) ∧ r16.length ≤ c_r16 ∧ Ft c' [0] w' (fun w_ => k89.C w_ A_r17 r17.length r17) ∧ r17.length ≤ c_r17 ∧ Ft c' [0] w' (fun w_ => k89.C w_ A_r18 r18.length r18) ∧ r18.length ≤ c_r18 ∧ Bx c' 1 w' g0 111 ([.slice A0_0 l0_0.length c0_0, .slice A0_1 l0_1.length c0_1, .int .i64 r2, .int .i64 a0_3]) ∧ Bx c' 2 w' g1 89 ([.int .i64 r3, .int .i64 a1_1, .string r4, .int .i64 r5, .bool r6, .bool r7, .string r8, .int .i64 r9, .int .i64 r10, .int .i64 r11, .int .i64 r12, .int .i64 r13, .string r14, .string r15, .slice A_r16 r16.length c_r16, .slice A_r17 r17.length c_r17, .slice A_r18 r18.length c_r18]) := by
 unfold stmt_read.g at H
 have HS := Step.refl c w [1, 2]
 go_enter Try.func88, Try.ntmps88
 refine wp_seq_k fun K246 hK246 => ?_
 refine wl_region ?_
 refine st (.int .i64 0) rfl rfl (xr_assign _ rfl rfl) ?_
 refine wl_end ?_
 (try simp only [ls0, ls1])
 refine hK246 _ _ ?_
 (try clear hK246 K246)
 refine wp_seq_k fun K247 hK247 => ?_
 refine wp_block ?_
 refine wp_seq_k fun K248 hK248 => ?_
 refine wl_region ?_
 refine mv_ rfl ?_
 obtain ⟨⟨t249, t250⟩, A251, H⟩ := bnd H
 (try dsimp only at H)
 refine st_call #[.pointer (some ⟨g0, 0, none⟩), .string (⟨#[108, 101, 116]⟩ : ByteArray)] rfl rfl Try.func48 (by kernel_rfl) rfl rfl (mp_ rfl) ?_
 refine (expr_Cursor_Take.calls g0 A0_0 c0_0 l0_0 A0_1 c0_1 l0_1 a0_2 a0_3 (⟨#[108, 101, 116]⟩ : ByteArray) t249 t250  (fun z_ => pal [(0, 0), (1, 1)] (c z_)) w (fun _ => pal_lt rfl _) (Bx.arg HP0 rfl) (Ft.arg HP0_0 rfl) HCP0_0 (Ft.arg HP0_1 rfl) HCP0_1 A251).mono ?_
 rintro _ w253 ⟨C254, rfl, hs255, HX256⟩
 refine ⟨_, rfl, ?_⟩
 replace HX256 := Bx.res (U := [(0, 0), (1, 1)]) (j := 1) HX256 hs255 (by rfl) (by decide) rfl
 replace hs255 := Step.lift (U := [(0, 0), (1, 1)]) hs255 [1] rfl rfl
 generalize up c C254 w.heap.size [(0, 0), (1, 1)] = C254_ at HX256 hs255
 replace HP0_0 := HP0_0.thru hs255 rfl
 replace HP0_1 := HP0_1.thru hs255 rfl
 replace HP1 := HP1.thru hs255 rfl
 replace HP1_14 := HP1_14.thru hs255 rfl
 replace HP1_15 := HP1_15.thru hs255 rfl
 replace HP1_16 := HP1_16.thru hs255 rfl
 replace HS := HS.trans hs255 hc rfl
 (try simp only [ls0, ls1])
 refine as_ rfl ?_
 refine wl_end ?_
 (try simp only [ls0, ls1])
 refine hK248 _ _ ?_
 (try clear hK248 K248)
 by_cases c257 : t249 = true
 ·rw [if_pos c257] at H
  (try rw [c257])
  refine wp_cond_true rfl ?_
  refine wp_seq_k fun K258 hK258 => ?_
  refine wl_region ?_
  refine mv_ rfl ?_
  refine st (.pointer (some ⟨g1, 0, none⟩)) rfl rfl (xr_nilCheck _ rfl rfl) ?_
  refine st (.pointer (some ⟨g1, 0, none⟩)) rfl rfl (xr_fieldAddr _ _ rfl rfl (bx_field2 Try.underlying89 rfl rfl (by kernel_rfl))) ?_
  refine bx_store (C := C254_) (z := 2) (g := g1) (j := 0) (tb := 89) (u := .int .i64 0) (seg := [.int .i64 0]) (xs := [.int .i64 a1_0, .int .i64 a1_1, .string a1_2, .int .i64 a1_3, .bool a1_4, .bool a1_5, .string a1_6, .int .i64 a1_7, .int .i64 a1_8, .int .i64 a1_9, .int .i64 a1_10, .int .i64 a1_11, .string a1_12, .string a1_13, .slice A1_14 l1_14.length c1_14, .slice A1_15 l1_15.length c1_15, .slice A1_16 l1_16.length c1_16]) rfl rfl rfl rfl rfl rfl (by first | kernel_rfl | rfl) (by simp [Value.oneCell']) HP1 (by simp only [List.length_cons, List.length_nil]; omega) rfl ?_
  intro w259 HX260 hs261
  replace HX256 := HX256.thru hs261 rfl
  replace HP0_0 := HP0_0.thru hs261 rfl
  replace HP0_1 := HP0_1.thru hs261 rfl
  replace HP1_14 := HP1_14.thru hs261 rfl
  replace HP1_15 := HP1_15.thru hs261 rfl
  replace HP1_16 := HP1_16.thru hs261 rfl
  replace HS := HS.trans hs261 hc rfl
  (try simp only [ls0, ls1])
  refine wl_end ?_
  (try simp only [ls0, ls1])
  refine hK258 _ _ ?_
  (try clear hK258 K258)
  refine wp_seq_k fun K262 hK262 => ?_
  refine wl_region ?_
  refine mv_ rfl ?_
  refine mv_ rfl ?_
  obtain ⟨⟨t263, t264, t265, t266, t267, t268, t269, t270, t271, t272, t273, t274, t275, t276, t277⟩, A278, H⟩ := bnd H
  (try dsimp only at H)
  refine st_call #[.pointer (some ⟨g0, 0, none⟩), .pointer (some ⟨g1, 0, none⟩)] rfl rfl Try.func106 (by kernel_rfl) rfl rfl (mp_ rfl) ?_
  refine (stmt_let.calls k g0 A0_0 c0_0 l0_0 A0_1 c0_1 l0_1 t250 a0_3 g1 0 a1_1 a1_2 a1_3 a1_4 a1_5 a1_6 a1_7 a1_8 a1_9 a1_10 a1_11 a1_12 a1_13 A1_14 c1_14 l1_14 A1_15 c1_15 l1_15 A1_16 c1_16 l1_16 t263 t264 t265 t266 t267 t268 t269 t270 t271 t272 t273 t274 t275 t276 t277  (fun z_ => pal [(0, 0), (1, 2), (2, 1)] (C254_ z_)) w259 (fun _ => pal_lt rfl _) (Bx.arg HX256 rfl) (Ft.arg HP0_0 rfl) HCP0_0 (Ft.arg HP0_1 rfl) HCP0_1 (Bx.arg HX260 rfl) (Ft.arg HP1_14 rfl) HCP1_14 (Ft.arg HP1_15 rfl) HCP1_15 (Ft.arg HP1_16 rfl) HCP1_16 A278).mono ?_
  rintro _ w280 ⟨C281, A283, cp284, rfl, hs282, HO285, HC286, HX287, HX288⟩
  refine ⟨_, rfl, ?_⟩
  replace HO285 := Ft.res (U := [(0, 0), (2, 1), (1, 2)]) HO285 hs282 [0] rfl rfl rfl
  replace HX287 := Bx.res (U := [(0, 0), (2, 1), (1, 2)]) (j := 1) HX287 hs282 (by rfl) (by decide) rfl
  replace HX288 := Bx.res (U := [(0, 0), (2, 1), (1, 2)]) (j := 2) HX288 hs282 (by rfl) (by decide) rfl
  replace hs282 := Step.lift (U := [(0, 0), (2, 1), (1, 2)]) hs282 [1, 2] rfl rfl
  generalize up C254_ C281 w259.heap.size [(0, 0), (2, 1), (1, 2)] = C281_ at HO285 HX287 HX288 hs282
  replace HP0_0 := HP0_0.thru hs282 rfl
  replace HP0_1 := HP0_1.thru hs282 rfl
  replace HP1_15 := HP1_15.thru hs282 rfl
  replace HP1_16 := HP1_16.thru hs282 rfl
  replace HS := HS.trans hs282 hc rfl
  (try simp only [ls0, ls1])
  refine as_ rfl ?_
  refine wl_end ?_
  (try simp only [ls0, ls1])
  refine hK262 _ _ ?_
  (try clear hK262 K262)
  refine wp_ret ?_
  (try simp only [Exit.inBlock, Exit.then, Exit.noGoto])
  (try simp only [ls0, ls1])
  simp only [Option.some.injEq, Prod.mk.injEq] at H
  obtain ⟨rfl, rfl, rfl, rfl, rfl, rfl, rfl, rfl, rfl, rfl, rfl, rfl, rfl, rfl, rfl, rfl, rfl, rfl⟩ := H
  refine bodyPost_ret (results_tmp rfl _ _ _) rfl ?_
  exact ⟨_, A283, cp284, A1_15, c1_15, A1_16, c1_16, rfl, HS, HO285, HC286, HP1_15, HCP1_15, HP1_16, HCP1_16, HX287, HX288⟩
 rw [if_neg c257] at H
 (try rw [(Bool.eq_false_iff.mpr c257)])
 refine wp_cond_false rfl ?_
 refine wp_seq_k fun K289 hK289 => ?_
 refine wl_region ?_
 refine mv_ rfl ?_
 obtain ⟨⟨t290, t291⟩, A292, H⟩ := bnd H
 (try dsimp only at H)
 refine st_call #[.pointer (some ⟨g0, 0, none⟩), .string (⟨#[105, 102]⟩ : ByteArray)] rfl rfl Try.func48 (by kernel_rfl) rfl rfl (mp_ rfl) ?_
 refine (expr_Cursor_Take.calls g0 A0_0 c0_0 l0_0 A0_1 c0_1 l0_1 t250 a0_3 (⟨#[105, 102]⟩ : ByteArray) t290 t291  (fun z_ => pal [(0, 0), (1, 1)] (C254_ z_)) w253 (fun _ => pal_lt rfl _) (Bx.arg HX256 rfl) (Ft.arg HP0_0 rfl) HCP0_0 (Ft.arg HP0_1 rfl) HCP0_1 A292).mono ?_
 rintro _ w294 ⟨C295, rfl, hs296, HX297⟩
 refine ⟨_, rfl, ?_⟩
 replace HX297 := Bx.res (U := [(0, 0), (1, 1)]) (j := 1) HX297 hs296 (by rfl) (by decide) rfl
 replace hs296 := Step.lift (U := [(0, 0), (1, 1)]) hs296 [1] rfl rfl
 generalize up C254_ C295 w253.heap.size [(0, 0), (1, 1)] = C295_ at HX297 hs296
 replace HP0_0 := HP0_0.thru hs296 rfl
 replace HP0_1 := HP0_1.thru hs296 rfl
 replace HP1 := HP1.thru hs296 rfl
 replace HP1_14 := HP1_14.thru hs296 rfl
 replace HP1_15 := HP1_15.thru hs296 rfl
 replace HP1_16 := HP1_16.thru hs296 rfl
 replace HS := HS.trans hs296 hc rfl
 (try simp only [ls0, ls1])
 refine as_ rfl ?_
 refine wl_end ?_
 (try simp only [ls0, ls1])
 refine hK289 _ _ ?_
 (try clear hK289 K289)
 by_cases c298 : t290 = true
 ·rw [if_pos c298] at H
  (try rw [c298])
  refine wp_cond_true rfl ?_
  refine wp_seq_k fun K299 hK299 => ?_
  refine wl_region ?_
  refine mv_ rfl ?_
  refine st (.pointer (some ⟨g1, 0, none⟩)) rfl rfl (xr_nilCheck _ rfl rfl) ?_
  refine st (.pointer (some ⟨g1, 0, none⟩)) rfl rfl (xr_fieldAddr _ _ rfl rfl (bx_field2 Try.underlying89 rfl rfl (by kernel_rfl))) ?_
  refine bx_store (C := C295_) (z := 2) (g := g1) (j := 0) (tb := 89) (u := .int .i64 2) (seg := [.int .i64 2]) (xs := [.int .i64 a1_0, .int .i64 a1_1, .string a1_2, .int .i64 a1_3, .bool a1_4, .bool a1_5, .string a1_6, .int .i64 a1_7, .int .i64 a1_8, .int .i64 a1_9, .int .i64 a1_10, .int .i64 a1_11, .string a1_12, .string a1_13, .slice A1_14 l1_14.length c1_14, .slice A1_15 l1_15.length c1_15, .slice A1_16 l1_16.length c1_16]) rfl rfl rfl rfl rfl rfl (by first | kernel_rfl | rfl) (by simp [Value.oneCell']) HP1 (by simp only [List.length_cons, List.length_nil]; omega) rfl ?_
  intro w300 HX301 hs302
  replace HX297 := HX297.thru hs302 rfl
  replace HP0_0 := HP0_0.thru hs302 rfl
  replace HP0_1 := HP0_1.thru hs302 rfl
  replace HP1_14 := HP1_14.thru hs302 rfl
  replace HP1_15 := HP1_15.thru hs302 rfl
  replace HP1_16 := HP1_16.thru hs302 rfl
  replace HS := HS.trans hs302 hc rfl
  (try simp only [ls0, ls1])
  refine wl_end ?_
  (try simp only [ls0, ls1])
  refine hK299 _ _ ?_
  (try clear hK299 K299)
  refine wp_seq_k fun K303 hK303 => ?_
  refine wp_seq_k fun K304 hK304 => ?_
  refine wl_region ?_
  refine mv_ rfl ?_
  refine mv_ rfl ?_
  refine mv_ rfl ?_
  obtain ⟨⟨t305, t306, t307, t308, t309, t310, t311, t312, t313⟩, A314, H⟩ := bnd H
  (try dsimp only at H)
  refine st_call #[.pointer (some ⟨g0, 0, none⟩), .pointer (some ⟨g1, 0, none⟩), .int .i64 a2] rfl rfl Try.func107 (by kernel_rfl) rfl rfl (mp_ rfl) ?_
  refine (IH.stmt_asked g0 A0_0 c0_0 l0_0 A0_1 c0_1 l0_1 t291 a0_3 g1 2 a1_1 a1_2 a1_3 a1_4 a1_5 a1_6 a1_7 a1_8 a1_9 a1_10 a1_11 a1_12 a1_13 A1_14 c1_14 l1_14 A1_15 c1_15 l1_15 A1_16 c1_16 l1_16 a2 t305 t306 t307 t308 t309 t310 t311 t312 t313  (fun z_ => pal [(0, 0), (1, 1), (2, 2)] (C295_ z_)) w300 (fun _ => pal_lt rfl _) (Bx.arg HX297 rfl) (Ft.arg HP0_0 rfl) HCP0_0 (Ft.arg HP0_1 rfl) HCP0_1 (Bx.arg HX301 rfl) (Ft.arg HP1_14 rfl) HCP1_14 (Ft.arg HP1_15 rfl) HCP1_15 (Ft.arg HP1_16 rfl) HCP1_16 A314).mono ?_
  rintro _ w316 ⟨C317, A319, cp320, A323, cp324, rfl, hs318, HO321, HC322, HO325, HC326, HX327, HX328⟩
  refine ⟨_, rfl, ?_⟩
  replace HO321 := Ft.res (U := [(0, 0), (1, 1), (2, 2)]) HO321 hs318 [0] rfl rfl rfl
  replace HO325 := Ft.res (U := [(0, 0), (1, 1), (2, 2)]) HO325 hs318 [0] rfl rfl rfl
  replace HX327 := Bx.res (U := [(0, 0), (1, 1), (2, 2)]) (j := 1) HX327 hs318 (by rfl) (by decide) rfl
  replace HX328 := Bx.res (U := [(0, 0), (1, 1), (2, 2)]) (j := 2) HX328 hs318 (by rfl) (by decide) rfl
  replace hs318 := Step.lift (U := [(0, 0), (1, 1), (2, 2)]) hs318 [1, 2] rfl rfl
  generalize up C295_ C317 w300.heap.size [(0, 0), (1, 1), (2, 2)] = C317_ at HO321 HO325 HX327 HX328 hs318
  replace HP0_0 := HP0_0.thru hs318 rfl
  replace HP0_1 := HP0_1.thru hs318 rfl
  replace HP1_16 := HP1_16.thru hs318 rfl
  replace HS := HS.trans hs318 hc rfl
  (try simp only [ls0, ls1])
  refine as_ rfl ?_
  refine wl_end ?_
  (try simp only [ls0, ls1])
  refine hK304 _ _ ?_
  (try clear hK304 K304)
  refine wp_seq_k fun K329 hK329 => ?_
  have hj339 : ∀ (kq352 : Nat) (C340 : Nat → Nat) (w341 : World) (x343 : Bool) (x346 : Int) (g_ : Nat → Value), Step c w C340 w341 [1, 2] → kq352 ≤ k → (Ft C340 [0] w341 (fun w_ => (Kd.int .u8).C w_ A0_0 l0_0.length l0_0)) → (Ft C340 [0] w341 (fun w_ => k28.C w_ A0_1 l0_1.length l0_1)) → (Bx C340 1 w341 g0 111 ([.slice A0_0 l0_0.length c0_0, .slice A0_1 l0_1.length c0_1, .int .i64 x346, .int .i64 a0_3])) → (Ft C340 [0] w341 (fun w_ => k44.C w_ A319 t312.length t312)) → (Ft C340 [0] w341 (fun w_ => k89.C w_ A323 t313.length t313)) → (Ft C340 [0] w341 (fun w_ => k89.C w_ A1_16 l1_16.length l1_16)) → (Bx C340 2 w341 g1 89 ([.int .i64 2, .int .i64 a1_1, .string a1_2, .int .i64 a1_3, .bool a1_4, .bool a1_5, .string a1_6, .int .i64 a1_7, .int .i64 a1_8, .int .i64 t307, .int .i64 t308, .int .i64 t309, .string t310, .string t311, .slice A319 t312.length cp320, .slice A323 t313.length cp324, .slice A1_16 l1_16.length c1_16])) → stmt_read.j0 r_ kq352 a0_3 a1_2 a1_3 a1_4 a1_5 a1_6 a1_7 a1_8 a2 l0_0 l0_1 l1_16 t305 t307 t308 t309 t310 t311 t312 t313 x343 x346 = some (r1, r2, r3, r4, r5, r6, r7, r8, r9, r10, r11, r12, r13, r14, r15, r16, r17, r18) → K329 ⟨#[.pointer (some ⟨g0, 0, none⟩), .pointer (some ⟨g1, 0, none⟩), .int .i64 a2, (g_ 3), (g_ 4), (g_ 5), .int .i64 t305, (g_ 7), (g_ 8), (g_ 9), (g_ 10), (g_ 11), (g_ 12), (g_ 13), (g_ 14), (g_ 15), (g_ 16), (g_ 17), (g_ 18), (g_ 19), (g_ 20), (g_ 21), (g_ 22), (g_ 23), (g_ 24), (g_ 25), (g_ 26), (g_ 27), (g_ 28), (g_ 29), (g_ 30), .bool x343, (g_ 32), (g_ 33), (g_ 34), (g_ 35), (g_ 36), (g_ 37), (g_ 38), (g_ 39), (g_ 40), (g_ 41), (g_ 42), (g_ 43), (g_ 44), (g_ 45), (g_ 46), (g_ 47), (g_ 48), (g_ 49), (g_ 50), (g_ 51), (g_ 52), (g_ 53), (g_ 54), (g_ 55), (g_ 56), (g_ 57), (g_ 58), (g_ 59), (g_ 60), (g_ 61), (g_ 62), (g_ 63), (g_ 64), (g_ 65), (g_ 66), (g_ 67), (g_ 68), (g_ 69), (g_ 70), (g_ 71)], []⟩ w341 := by
   intro kq352 C340 w341 x343 x346 g_ HS342 hk353 HJ344 HJ345 HJ347 HJ348 HJ349 HJ350 HJ351 H
   cases kq352 with
   | zero => exact absurd H (by simp [stmt_read.j0])
   | succ k354 =>
    simp only [stmt_read.j0] at H
    refine hK329 _ _ ?_
    (try clear hK329)
    by_cases c355 : x343 = true
    ·rw [if_pos c355] at H
     (try rw [c355])
     refine wp_cond_true rfl ?_
     refine wl_region ?_
     refine mv_ rfl ?_
     refine mv_ rfl ?_
     refine mv_ rfl ?_
     obtain ⟨⟨t356, t357, t358⟩, A359, H⟩ := bnd H
     (try dsimp only at H)
     refine st_call #[.pointer (some ⟨g0, 0, none⟩), .int .i64 a2] rfl rfl Try.func108 (by kernel_rfl) rfl rfl (mp_ rfl) ?_
     refine (IH.stmt_block g0 A0_0 c0_0 l0_0 A0_1 c0_1 l0_1 x346 a0_3 a2 t356 t357 t358  (fun z_ => pal [(0, 0), (1, 1)] (C340 z_)) w341 (fun _ => pal_lt rfl _) (Bx.arg HJ347 rfl) (Ft.arg HJ344 rfl) HCP0_0 (Ft.arg HJ345 rfl) HCP0_1 A359).mono ?_
     rintro _ w361 ⟨C362, A364, cp365, rfl, hs363, HO366, HC367, HX368⟩
     refine ⟨_, rfl, ?_⟩
     replace HO366 := Own.res (U := [(0, 0), (1, 1), (5, 11)]) (j := 11) HO366 hs363 (by rfl) (by decide) rfl rfl
     replace HX368 := Bx.res (U := [(0, 0), (1, 1), (5, 11)]) (j := 1) HX368 hs363 (by rfl) (by decide) rfl
     replace hs363 := Step.lift (U := [(0, 0), (1, 1), (5, 11)]) hs363 [1] rfl rfl
     generalize up C340 C362 w341.heap.size [(0, 0), (1, 1), (5, 11)] = C362_ at HO366 HX368 hs363
     replace HJ344 := HJ344.thru hs363 rfl
     replace HJ345 := HJ345.thru hs363 rfl
     replace HJ351 := HJ351.thru hs363 rfl
     replace HJ348 := HJ348.thru hs363 rfl
     replace HJ349 := HJ349.thru hs363 rfl
     replace HJ350 := HJ350.thru hs363 rfl
     replace HS342 := HS342.trans hs363 hc rfl
     (try simp only [ls0, ls1])
     refine mv_ rfl ?_
     refine st (.slice A364 t356.length cp365) rfl rfl (xr_extract (.tuple #[.slice A364 t356.length cp365, .int .i64 t357]) _ rfl rfl rfl) ?_
     refine st (.int .i64 t357) rfl rfl (xr_extract (.tuple #[.slice A364 t356.length cp365, .int .i64 t357]) _ rfl rfl rfl) ?_
     refine st (.pointer (some ⟨g1, 0, none⟩)) rfl rfl (xr_nilCheck _ rfl rfl) ?_
     simp only [ls0, ls1]
     refine st (.pointer (some ⟨g1, 16, none⟩)) rfl rfl (xr_fieldAddr _ _ rfl rfl (bx_field2 Try.underlying89 rfl rfl (by kernel_rfl))) ?_
     refine bx_store (C := C362_) (z := 2) (g := g1) (j := 16) (tb := 89) (u := .slice A364 t356.length cp365) (seg := [.slice A364 t356.length cp365]) (xs := [.int .i64 2, .int .i64 a1_1, .string a1_2, .int .i64 a1_3, .bool a1_4, .bool a1_5, .string a1_6, .int .i64 a1_7, .int .i64 a1_8, .int .i64 t307, .int .i64 t308, .int .i64 t309, .string t310, .string t311, .slice A319 t312.length cp320, .slice A323 t313.length cp324, .slice A1_16 l1_16.length c1_16]) rfl rfl rfl rfl rfl rfl (by first | kernel_rfl | rfl) (by simp [Value.oneCell']) HJ351 (by simp only [List.length_cons, List.length_nil]; omega) rfl ?_
     intro w369 HX370 hs371
     replace HX368 := HX368.thru hs371 rfl
     replace HJ344 := HJ344.thru hs371 rfl
     replace HJ345 := HJ345.thru hs371 rfl
     replace HJ348 := HJ348.thru hs371 rfl
     replace HJ349 := HJ349.thru hs371 rfl
     replace HO366 := HO366.thru hs371 rfl
     replace HS342 := HS342.trans hs371 hc rfl
     (try simp only [ls0, ls1])
     refine as_ rfl ?_
     refine wl_end ?_
     (try simp only [ls0, ls1])
     refine hK303 _ _ ?_
     (try clear hK303 K303)
     refine wp_seq_k fun K372 hK372 => ?_
     refine wl_region ?_
     refine mv_ rfl ?_
     refine as_ rfl ?_
     refine wl_end ?_
     (try simp only [ls0, ls1])
     refine hK372 _ _ ?_
     (try clear hK372 K372)
     refine wp_ret ?_
     (try simp only [Exit.inBlock, Exit.then, Exit.noGoto])
     (try simp only [ls0, ls1])
     replace HX368 := Bx.recol (a := 11) (b := 0) HX368 (by decide)
     replace HJ344 := Ft.recol (a := 11) (b := 0) HJ344 (.inl rfl)
     replace HJ345 := Ft.recol (a := 11) (b := 0) HJ345 (.inl rfl)
     replace HX370 := Bx.recol (a := 11) (b := 0) HX370 (by decide)
     replace HJ348 := Ft.recol (a := 11) (b := 0) HJ348 (.inl rfl)
     replace HJ349 := Ft.recol (a := 11) (b := 0) HJ349 (.inl rfl)
     have HR373 := Ft.recolor (a := 11) (b := 0) (HO366.ft) [0] rfl
     replace HS342 := Step.recol (a := 11) (b := 0) HS342 hc (by decide)
     simp only [Option.some.injEq, Prod.mk.injEq] at H
     obtain ⟨rfl, rfl, rfl, rfl, rfl, rfl, rfl, rfl, rfl, rfl, rfl, rfl, rfl, rfl, rfl, rfl, rfl, rfl⟩ := H
     refine bodyPost_ret (results_tmp rfl _ _ _) rfl ?_
     exact ⟨_, A319, cp320, A323, cp324, A364, cp365, rfl, HS342, HJ348, HC322, HJ349, HC326, HR373, HC367, HX368, HX370⟩
    rw [if_neg c355] at H
    (try rw [(Bool.eq_false_iff.mpr c355)])
    refine wp_cond_false rfl ?_
    refine wp_skip ?_
    (try simp only [ls0, ls1])
    refine hK303 _ _ ?_
    (try clear hK303 K303)
    refine wp_seq_k fun K374 hK374 => ?_
    refine wl_region ?_
    refine mv_ rfl ?_
    refine as_ rfl ?_
    refine wl_end ?_
    (try simp only [ls0, ls1])
    refine hK374 _ _ ?_
    (try clear hK374 K374)
    refine wp_ret ?_
    (try simp only [Exit.inBlock, Exit.then, Exit.noGoto])
    (try simp only [ls0, ls1])
    simp only [Option.some.injEq, Prod.mk.injEq] at H
    obtain ⟨rfl, rfl, rfl, rfl, rfl, rfl, rfl, rfl, rfl, rfl, rfl, rfl, rfl, rfl, rfl, rfl, rfl, rfl⟩ := H
    refine bodyPost_ret (results_tmp rfl _ _ _) rfl ?_
    exact ⟨_, A319, cp320, A323, cp324, A1_16, c1_16, rfl, HS342, HJ348, HC322, HJ349, HC326, HJ350, HCP1_16, HJ347, HJ351⟩
  refine wl_region ?_
  refine mv_ rfl ?_
  refine st (.bool (decide (t305 = 0))) rfl rfl (xr_bin _ _ _ rfl rfl rfl (B.eql_i64 _ _)) ?_
  refine mv_ rfl ?_
  by_cases c375 : t305 = 0
  ·rw [if_pos c375] at H
   (try rw [(decide_eq_true c375)])
   refine on_guard (guard_on 2 true 28 rfl rfl rfl) ?_
   refine mv_ rfl ?_
   simp only [ls0, ls1]
   refine on_guard (guard_on 2 true 28 rfl rfl rfl) ?_
   obtain ⟨⟨t376, t377⟩, A378, H⟩ := bnd H
   (try dsimp only at H)
   refine st_call #[.pointer (some ⟨g0, 0, none⟩), .string (⟨#[101, 108, 115, 101]⟩ : ByteArray)] rfl rfl Try.func48 (by kernel_rfl) rfl rfl (mp_ rfl) ?_
   refine (expr_Cursor_Take.calls g0 A0_0 c0_0 l0_0 A0_1 c0_1 l0_1 t306 a0_3 (⟨#[101, 108, 115, 101]⟩ : ByteArray) t376 t377  (fun z_ => pal [(0, 0), (1, 1)] (C317_ z_)) w316 (fun _ => pal_lt rfl _) (Bx.arg HX327 rfl) (Ft.arg HP0_0 rfl) HCP0_0 (Ft.arg HP0_1 rfl) HCP0_1 A378).mono ?_
   rintro _ w380 ⟨C381, rfl, hs382, HX383⟩
   refine ⟨_, rfl, ?_⟩
   replace HX383 := Bx.res (U := [(0, 0), (1, 1)]) (j := 1) HX383 hs382 (by rfl) (by decide) rfl
   replace hs382 := Step.lift (U := [(0, 0), (1, 1)]) hs382 [1] rfl rfl
   generalize up C317_ C381 w316.heap.size [(0, 0), (1, 1)] = C381_ at HX383 hs382
   replace HP0_0 := HP0_0.thru hs382 rfl
   replace HP0_1 := HP0_1.thru hs382 rfl
   replace HX328 := HX328.thru hs382 rfl
   replace HO321 := HO321.thru hs382 rfl
   replace HO325 := HO325.thru hs382 rfl
   replace HP1_16 := HP1_16.thru hs382 rfl
   replace HS := HS.trans hs382 hc rfl
   (try simp only [ls0, ls1])
   refine st (.bool t376) rfl rfl (xr_pick true _ rfl rfl rfl) ?_
   refine wl_end ?_
   (try simp only [ls0, ls1])
   exact jmp (fun g_ => hj339 _ _ _ (t376) (t377) g_ HS (by omega) HP0_0 HP0_1 HX383 HO321 HO325 HP1_16 HX328 H) rfl
  rw [if_neg c375] at H
  (try rw [(decide_eq_false c375)])
  refine sk_guard (guard_off 2 true 28 rfl rfl false (by decide) rfl) rfl ?_
  refine sk_guard (guard_off 2 true 28 rfl rfl false (by decide) rfl) rfl ?_
  refine st (.bool false) rfl rfl (xr_pick false _ rfl rfl rfl) ?_
  refine wl_end ?_
  (try simp only [ls0, ls1])
  exact jmp (fun g_ => hj339 _ _ _ (false) (t306) g_ HS (by omega) HP0_0 HP0_1 HX327 HO321 HO325 HP1_16 HX328 H) rfl
 rw [if_neg c298] at H
 (try rw [(Bool.eq_false_iff.mpr c298)])
 refine wp_cond_false rfl ?_
 refine wp_seq_k fun K384 hK384 => ?_
 refine wl_region ?_
 refine mv_ rfl ?_
 obtain ⟨⟨t385, t386⟩, A387, H⟩ := bnd H
 (try dsimp only at H)
 refine st_call #[.pointer (some ⟨g0, 0, none⟩), .string (⟨#[119, 104, 105, 108, 101]⟩ : ByteArray)] rfl rfl Try.func48 (by kernel_rfl) rfl rfl (mp_ rfl) ?_
 refine (expr_Cursor_Take.calls g0 A0_0 c0_0 l0_0 A0_1 c0_1 l0_1 t291 a0_3 (⟨#[119, 104, 105, 108, 101]⟩ : ByteArray) t385 t386  (fun z_ => pal [(0, 0), (1, 1)] (C295_ z_)) w294 (fun _ => pal_lt rfl _) (Bx.arg HX297 rfl) (Ft.arg HP0_0 rfl) HCP0_0 (Ft.arg HP0_1 rfl) HCP0_1 A387).mono ?_
 rintro _ w389 ⟨C390, rfl, hs391, HX392⟩
 refine ⟨_, rfl, ?_⟩
 replace HX392 := Bx.res (U := [(0, 0), (1, 1)]) (j := 1) HX392 hs391 (by rfl) (by decide) rfl
 replace hs391 := Step.lift (U := [(0, 0), (1, 1)]) hs391 [1] rfl rfl
 generalize up C295_ C390 w294.heap.size [(0, 0), (1, 1)] = C390_ at HX392 hs391
 replace HP0_0 := HP0_0.thru hs391 rfl
 replace HP0_1 := HP0_1.thru hs391 rfl
 replace HP1 := HP1.thru hs391 rfl
 replace HP1_14 := HP1_14.thru hs391 rfl
 replace HP1_15 := HP1_15.thru hs391 rfl
 replace HP1_16 := HP1_16.thru hs391 rfl
 replace HS := HS.trans hs391 hc rfl
 (try simp only [ls0, ls1])
 refine as_ rfl ?_
 refine wl_end ?_
 (try simp only [ls0, ls1])
 refine hK384 _ _ ?_
 (try clear hK384 K384)
 by_cases c393 : t385 = true
 ·rw [if_pos c393] at H
  (try rw [c393])
  refine wp_cond_true rfl ?_
  refine wp_seq_k fun K394 hK394 => ?_
  refine wl_region ?_
  refine mv_ rfl ?_
  refine st (.pointer (some ⟨g1, 0, none⟩)) rfl rfl (xr_nilCheck _ rfl rfl) ?_
  refine st (.pointer (some ⟨g1, 0, none⟩)) rfl rfl (xr_fieldAddr _ _ rfl rfl (bx_field2 Try.underlying89 rfl rfl (by kernel_rfl))) ?_
  refine bx_store (C := C390_) (z := 2) (g := g1) (j := 0) (tb := 89) (u := .int .i64 3) (seg := [.int .i64 3]) (xs := [.int .i64 a1_0, .int .i64 a1_1, .string a1_2, .int .i64 a1_3, .bool a1_4, .bool a1_5, .string a1_6, .int .i64 a1_7, .int .i64 a1_8, .int .i64 a1_9, .int .i64 a1_10, .int .i64 a1_11, .string a1_12, .string a1_13, .slice A1_14 l1_14.length c1_14, .slice A1_15 l1_15.length c1_15, .slice A1_16 l1_16.length c1_16]) rfl rfl rfl rfl rfl rfl (by first | kernel_rfl | rfl) (by simp [Value.oneCell']) HP1 (by simp only [List.length_cons, List.length_nil]; omega) rfl ?_
  intro w395 HX396 hs397
  replace HX392 := HX392.thru hs397 rfl
  replace HP0_0 := HP0_0.thru hs397 rfl
  replace HP0_1 := HP0_1.thru hs397 rfl
  replace HP1_14 := HP1_14.thru hs397 rfl
  replace HP1_15 := HP1_15.thru hs397 rfl
  replace HP1_16 := HP1_16.thru hs397 rfl
  replace HS := HS.trans hs397 hc rfl
  (try simp only [ls0, ls1])
  refine wl_end ?_
  (try simp only [ls0, ls1])
  refine hK394 _ _ ?_
  (try clear hK394 K394)
  refine wp_seq_k fun K398 hK398 => ?_
  refine wl_region ?_
  refine mv_ rfl ?_
  refine mv_ rfl ?_
  refine mv_ rfl ?_
  obtain ⟨⟨t399, t400, t401, t402, t403, t404, t405, t406, t407⟩, A408, H⟩ := bnd H
  (try dsimp only at H)
  refine st_call #[.pointer (some ⟨g0, 0, none⟩), .pointer (some ⟨g1, 0, none⟩), .int .i64 a2] rfl rfl Try.func107 (by kernel_rfl) rfl rfl (mp_ rfl) ?_
  refine (IH.stmt_asked g0 A0_0 c0_0 l0_0 A0_1 c0_1 l0_1 t386 a0_3 g1 3 a1_1 a1_2 a1_3 a1_4 a1_5 a1_6 a1_7 a1_8 a1_9 a1_10 a1_11 a1_12 a1_13 A1_14 c1_14 l1_14 A1_15 c1_15 l1_15 A1_16 c1_16 l1_16 a2 t399 t400 t401 t402 t403 t404 t405 t406 t407  (fun z_ => pal [(0, 0), (1, 1), (2, 2)] (C390_ z_)) w395 (fun _ => pal_lt rfl _) (Bx.arg HX392 rfl) (Ft.arg HP0_0 rfl) HCP0_0 (Ft.arg HP0_1 rfl) HCP0_1 (Bx.arg HX396 rfl) (Ft.arg HP1_14 rfl) HCP1_14 (Ft.arg HP1_15 rfl) HCP1_15 (Ft.arg HP1_16 rfl) HCP1_16 A408).mono ?_
  rintro _ w410 ⟨C411, A413, cp414, A417, cp418, rfl, hs412, HO415, HC416, HO419, HC420, HX421, HX422⟩
  refine ⟨_, rfl, ?_⟩
  replace HO415 := Ft.res (U := [(0, 0), (1, 1), (2, 2)]) HO415 hs412 [0] rfl rfl rfl
  replace HO419 := Ft.res (U := [(0, 0), (1, 1), (2, 2)]) HO419 hs412 [0] rfl rfl rfl
  replace HX421 := Bx.res (U := [(0, 0), (1, 1), (2, 2)]) (j := 1) HX421 hs412 (by rfl) (by decide) rfl
  replace HX422 := Bx.res (U := [(0, 0), (1, 1), (2, 2)]) (j := 2) HX422 hs412 (by rfl) (by decide) rfl
  replace hs412 := Step.lift (U := [(0, 0), (1, 1), (2, 2)]) hs412 [1, 2] rfl rfl
  generalize up C390_ C411 w395.heap.size [(0, 0), (1, 1), (2, 2)] = C411_ at HO415 HO419 HX421 HX422 hs412
  replace HP0_0 := HP0_0.thru hs412 rfl
  replace HP0_1 := HP0_1.thru hs412 rfl
  replace HP1_16 := HP1_16.thru hs412 rfl
  replace HS := HS.trans hs412 hc rfl
  (try simp only [ls0, ls1])
  refine as_ rfl ?_
  refine wl_end ?_
  (try simp only [ls0, ls1])
  refine hK398 _ _ ?_
  (try clear hK398 K398)
  refine wp_ret ?_
  (try simp only [Exit.inBlock, Exit.then, Exit.noGoto])
  (try simp only [ls0, ls1])
  simp only [Option.some.injEq, Prod.mk.injEq] at H
  obtain ⟨rfl, rfl, rfl, rfl, rfl, rfl, rfl, rfl, rfl, rfl, rfl, rfl, rfl, rfl, rfl, rfl, rfl, rfl⟩ := H
  refine bodyPost_ret (results_tmp rfl _ _ _) rfl ?_
  exact ⟨_, A413, cp414, A417, cp418, A1_16, c1_16, rfl, HS, HO415, HC416, HO419, HC420, HP1_16, HCP1_16, HX421, HX422⟩
 rw [if_neg c393] at H
 (try rw [(Bool.eq_false_iff.mpr c393)])
 refine wp_cond_false rfl ?_
 refine wp_seq_k fun K423 hK423 => ?_
 refine wl_region ?_
 refine mv_ rfl ?_
 obtain ⟨⟨t424, t425⟩, A426, H⟩ := bnd H
 (try dsimp only at H)
 refine st_call #[.pointer (some ⟨g0, 0, none⟩), .string (⟨#[100, 111]⟩ : ByteArray)] rfl rfl Try.func48 (by kernel_rfl) rfl rfl (mp_ rfl) ?_
 refine (expr_Cursor_Take.calls g0 A0_0 c0_0 l0_0 A0_1 c0_1 l0_1 t386 a0_3 (⟨#[100, 111]⟩ : ByteArray) t424 t425  (fun z_ => pal [(0, 0), (1, 1)] (C390_ z_)) w389 (fun _ => pal_lt rfl _) (Bx.arg HX392 rfl) (Ft.arg HP0_0 rfl) HCP0_0 (Ft.arg HP0_1 rfl) HCP0_1 A426).mono ?_
 rintro _ w428 ⟨C429, rfl, hs430, HX431⟩
 refine ⟨_, rfl, ?_⟩
 replace HX431 := Bx.res (U := [(0, 0), (1, 1)]) (j := 1) HX431 hs430 (by rfl) (by decide) rfl
 replace hs430 := Step.lift (U := [(0, 0), (1, 1)]) hs430 [1] rfl rfl
 generalize up C390_ C429 w389.heap.size [(0, 0), (1, 1)] = C429_ at HX431 hs430
 replace HP0_0 := HP0_0.thru hs430 rfl
 replace HP0_1 := HP0_1.thru hs430 rfl
 replace HP1 := HP1.thru hs430 rfl
 replace HP1_14 := HP1_14.thru hs430 rfl
 replace HP1_15 := HP1_15.thru hs430 rfl
 replace HP1_16 := HP1_16.thru hs430 rfl
 replace HS := HS.trans hs430 hc rfl
 (try simp only [ls0, ls1])
 refine as_ rfl ?_
 refine wl_end ?_
 (try simp only [ls0, ls1])
 refine hK423 _ _ ?_
 (try clear hK423 K423)
 by_cases c432 : t424 = true
 ·rw [if_pos c432] at H
  (try rw [c432])
  refine wp_cond_true rfl ?_
  refine wp_seq_k fun K433 hK433 => ?_
  refine wl_region ?_
  refine mv_ rfl ?_
  refine st (.pointer (some ⟨g1, 0, none⟩)) rfl rfl (xr_nilCheck _ rfl rfl) ?_
  refine st (.pointer (some ⟨g1, 0, none⟩)) rfl rfl (xr_fieldAddr _ _ rfl rfl (bx_field2 Try.underlying89 rfl rfl (by kernel_rfl))) ?_
  refine bx_store (C := C429_) (z := 2) (g := g1) (j := 0) (tb := 89) (u := .int .i64 4) (seg := [.int .i64 4]) (xs := [.int .i64 a1_0, .int .i64 a1_1, .string a1_2, .int .i64 a1_3, .bool a1_4, .bool a1_5, .string a1_6, .int .i64 a1_7, .int .i64 a1_8, .int .i64 a1_9, .int .i64 a1_10, .int .i64 a1_11, .string a1_12, .string a1_13, .slice A1_14 l1_14.length c1_14, .slice A1_15 l1_15.length c1_15, .slice A1_16 l1_16.length c1_16]) rfl rfl rfl rfl rfl rfl (by first | kernel_rfl | rfl) (by simp [Value.oneCell']) HP1 (by simp only [List.length_cons, List.length_nil]; omega) rfl ?_
  intro w434 HX435 hs436
  replace HX431 := HX431.thru hs436 rfl
  replace HP0_0 := HP0_0.thru hs436 rfl
  replace HP0_1 := HP0_1.thru hs436 rfl
  replace HP1_14 := HP1_14.thru hs436 rfl
  replace HP1_15 := HP1_15.thru hs436 rfl
  replace HP1_16 := HP1_16.thru hs436 rfl
  replace HS := HS.trans hs436 hc rfl
  (try simp only [ls0, ls1])
  refine wl_end ?_
  (try simp only [ls0, ls1])
  refine hK433 _ _ ?_
  (try clear hK433 K433)
  refine wp_seq_k fun K437 hK437 => ?_
  refine wp_seq_k fun K438 hK438 => ?_
  refine wl_region ?_
  refine mv_ rfl ?_
  refine mv_ rfl ?_
  refine st (.pointer (some ⟨g1, 0, none⟩)) rfl rfl (xr_nilCheck _ rfl rfl) ?_
  refine st (.pointer (some ⟨g1, 2, none⟩)) rfl rfl (xr_fieldAddr _ _ rfl rfl (bx_field2 Try.underlying89 rfl rfl (by kernel_rfl))) ?_
  simp only [ls0, ls1]
  obtain ⟨⟨t439, t440, t441⟩, A442, H⟩ := bnd H
  (try dsimp only at H)
  refine st_call #[.pointer (some ⟨g0, 0, none⟩), .pointer (some ⟨g1, 2, none⟩)] rfl rfl Try.func87 (by kernel_rfl) rfl rfl (mp_ rfl) ?_
  refine (stmt_name_fp89_2.calls k g0 A0_0 c0_0 l0_0 A0_1 c0_1 l0_1 t425 a0_3 g1 4 a1_1 a1_2 a1_3 a1_4 a1_5 a1_6 a1_7 a1_8 a1_9 a1_10 a1_11 a1_12 a1_13 A1_14 c1_14 l1_14 A1_15 c1_15 l1_15 A1_16 c1_16 l1_16 t439 t440 t441  (fun z_ => pal [(0, 0), (1, 2), (2, 1)] (C429_ z_)) w434 (fun _ => pal_lt rfl _) (Bx.arg HX431 rfl) (Ft.arg HP0_0 rfl) HCP0_0 (Ft.arg HP0_1 rfl) HCP0_1 (Bx.arg HX435 rfl) (Ft.arg HP1_14 rfl) HCP1_14 (Ft.arg HP1_15 rfl) HCP1_15 (Ft.arg HP1_16 rfl) HCP1_16 A442).mono ?_
  rintro _ w444 ⟨C445, rfl, hs446, HX447, HX448⟩
  refine ⟨_, rfl, ?_⟩
  replace HX447 := Bx.res (U := [(0, 0), (2, 1), (1, 2)]) (j := 1) HX447 hs446 (by rfl) (by decide) rfl
  replace HX448 := Bx.res (U := [(0, 0), (2, 1), (1, 2)]) (j := 2) HX448 hs446 (by rfl) (by decide) rfl
  replace hs446 := Step.lift (U := [(0, 0), (2, 1), (1, 2)]) hs446 [1, 2] rfl rfl
  generalize up C429_ C445 w434.heap.size [(0, 0), (2, 1), (1, 2)] = C445_ at HX447 HX448 hs446
  replace HP0_0 := HP0_0.thru hs446 rfl
  replace HP0_1 := HP0_1.thru hs446 rfl
  replace HP1_14 := HP1_14.thru hs446 rfl
  replace HP1_15 := HP1_15.thru hs446 rfl
  replace HP1_16 := HP1_16.thru hs446 rfl
  replace HS := HS.trans hs446 hc rfl
  (try simp only [ls0, ls1])
  refine as_ rfl ?_
  refine wl_end ?_
  (try simp only [ls0, ls1])
  refine hK438 _ _ ?_
  (try clear hK438 K438)
  refine wp_seq_k fun K449 hK449 => ?_
  refine wl_region ?_
  refine mv_ rfl ?_
  refine st (.bool (!decide (t439 = 0))) rfl rfl (xr_bin _ _ _ rfl rfl rfl (B.neq_i64 _ _)) ?_
  refine wl_end ?_
  (try simp only [ls0, ls1])
  refine hK449 _ _ ?_
  (try clear hK449 K449)
  by_cases c450 : t439 = 0
  ·rw [if_pos c450] at H
   (try rw [(decide_eq_true c450)])
   (try simp only [Bool.not_true, Bool.not_false])
   refine wp_cond_false rfl ?_
   refine wp_skip ?_
   (try simp only [ls0, ls1])
   refine hK437 _ _ ?_
   (try clear hK437 K437)
   refine wp_seq_k fun K451 hK451 => ?_
   refine wl_region ?_
   refine mv_ rfl ?_
   obtain ⟨y452, A453, H⟩ := bnd H
   refine Own.lit Kd.string (C := C445_) (i := 11) rfl 9 rfl (xs := [(⟨#[59]⟩ : ByteArray)]) (inner := [.string (⟨#[59]⟩ : ByteArray)]) (by first | (go_simp; done) | (go_simp; rfl)) (reps_cons (fk_str _ _ (⟨#[59]⟩ : ByteArray)) rfl (Reps.none _ _)) (by simp only [List.length_cons, List.length_nil]; omega) (Option.some.inj A453) ?_
   intro A454 cp455 w456 C457 HO458 HC459 hs460
   replace HX447 := HX447.thru hs460 rfl
   replace HP0_0 := HP0_0.thru hs460 rfl
   replace HP0_1 := HP0_1.thru hs460 rfl
   replace HX448 := HX448.thru hs460 rfl
   replace HP1_14 := HP1_14.thru hs460 rfl
   replace HP1_15 := HP1_15.thru hs460 rfl
   replace HP1_16 := HP1_16.thru hs460 rfl
   replace HS := HS.trans hs460 hc rfl
   (try simp only [ls0, ls1])
   obtain ⟨⟨t461, t462⟩, A463, H⟩ := bnd H
   (try dsimp only at H)
   refine st_call #[.pointer (some ⟨g0, 0, none⟩), .slice A454 y452.length cp455] rfl rfl Try.func109 (by kernel_rfl) rfl rfl (mp_ rfl) ?_
   refine (stmt_must.calls k g0 A0_0 c0_0 l0_0 A0_1 c0_1 l0_1 t440 a0_3 A454 cp455 y452 t461 t462  (fun z_ => pal [(0, 0), (1, 1), (11, 0)] (C457 z_)) w456 (fun _ => pal_lt rfl _) (Bx.arg HX447 rfl) (Ft.arg HP0_0 rfl) HCP0_0 (Ft.arg HP0_1 rfl) HCP0_1 (Ft.arg (HO458.ft) rfl) HC459 A463).mono ?_
   rintro _ w465 ⟨C466, rfl, hs467, HX468⟩
   refine ⟨_, rfl, ?_⟩
   replace HX468 := Bx.res (U := [(0, 0), (1, 1)]) (j := 1) HX468 hs467 (by rfl) (by decide) rfl
   replace hs467 := Step.lift (U := [(0, 0), (1, 1)]) hs467 [1] rfl rfl
   generalize up C457 C466 w456.heap.size [(0, 0), (1, 1)] = C466_ at HX468 hs467
   replace HP0_0 := HP0_0.thru hs467 rfl
   replace HP0_1 := HP0_1.thru hs467 rfl
   replace HX448 := HX448.thru hs467 rfl
   replace HP1_14 := HP1_14.thru hs467 rfl
   replace HP1_15 := HP1_15.thru hs467 rfl
   replace HP1_16 := HP1_16.thru hs467 rfl
   replace HS := HS.trans hs467 hc rfl
   (try simp only [ls0, ls1])
   refine as_ rfl ?_
   refine wl_end ?_
   (try simp only [ls0, ls1])
   refine hK451 _ _ ?_
   (try clear hK451 K451)
   refine wp_ret ?_
   (try simp only [Exit.inBlock, Exit.then, Exit.noGoto])
   (try simp only [ls0, ls1])
   simp only [Option.some.injEq, Prod.mk.injEq] at H
   obtain ⟨rfl, rfl, rfl, rfl, rfl, rfl, rfl, rfl, rfl, rfl, rfl, rfl, rfl, rfl, rfl, rfl, rfl, rfl⟩ := H
   refine bodyPost_ret (results_tmp rfl _ _ _) rfl ?_
   exact ⟨_, A1_14, c1_14, A1_15, c1_15, A1_16, c1_16, rfl, HS, HP1_14, HCP1_14, HP1_15, HCP1_15, HP1_16, HCP1_16, HX468, HX448⟩
  rw [if_neg c450] at H
  (try rw [(decide_eq_false c450)])
  (try simp only [Bool.not_true, Bool.not_false])
  refine wp_cond_true rfl ?_
  refine wp_seq_k fun K469 hK469 => ?_
  refine wl_region ?_
  refine mv_ rfl ?_
  refine as_ rfl ?_
  refine wl_end ?_
  (try simp only [ls0, ls1])
  refine hK469 _ _ ?_
  (try clear hK469 K469)
  refine wp_ret ?_
  (try simp only [Exit.inBlock, Exit.then, Exit.noGoto])
  (try simp only [ls0, ls1])
  simp only [Option.some.injEq, Prod.mk.injEq] at H
  obtain ⟨rfl, rfl, rfl, rfl, rfl, rfl, rfl, rfl, rfl, rfl, rfl, rfl, rfl, rfl, rfl, rfl, rfl, rfl⟩ := H
  refine bodyPost_ret (results_tmp rfl _ _ _) rfl ?_
  exact ⟨_, A1_14, c1_14, A1_15, c1_15, A1_16, c1_16, rfl, HS, HP1_14, HCP1_14, HP1_15, HCP1_15, HP1_16, HCP1_16, HX447, HX448⟩
 rw [if_neg c432] at H
 (try rw [(Bool.eq_false_iff.mpr c432)])
 refine wp_cond_false rfl ?_
 refine wp_skip ?_
 (try simp only [ls0, ls1])
 refine hK247 _ _ ?_
 (try clear hK247 K247)
 refine wp_seq_k fun K470 hK470 => ?_
 refine wl_region ?_
 refine mv_ rfl ?_
 refine mv_ rfl ?_
 obtain ⟨⟨t471, t472, t473, t474, t475, t476, t477, t478, t479, t480⟩, A481, H⟩ := bnd H
 (try dsimp only at H)
 refine st_call #[.pointer (some ⟨g0, 0, none⟩), .pointer (some ⟨g1, 0, none⟩)] rfl rfl Try.func110 (by kernel_rfl) rfl rfl (mp_ rfl) ?_
 refine (stmt_other.calls k g0 A0_0 c0_0 l0_0 A0_1 c0_1 l0_1 t425 a0_3 g1 a1_0 a1_1 a1_2 a1_3 a1_4 a1_5 a1_6 a1_7 a1_8 a1_9 a1_10 a1_11 a1_12 a1_13 A1_14 c1_14 l1_14 A1_15 c1_15 l1_15 A1_16 c1_16 l1_16 t471 t472 t473 t474 t475 t476 t477 t478 t479 t480  (fun z_ => pal [(0, 0), (1, 2), (2, 1)] (C429_ z_)) w428 (fun _ => pal_lt rfl _) (Bx.arg HX431 rfl) (Ft.arg HP0_0 rfl) HCP0_0 (Ft.arg HP0_1 rfl) HCP0_1 (Bx.arg HP1 rfl) (Ft.arg HP1_14 rfl) HCP1_14 (Ft.arg HP1_15 rfl) HCP1_15 (Ft.arg HP1_16 rfl) HCP1_16 A481).mono ?_
 rintro _ w483 ⟨C484, A486, cp487, rfl, hs485, HO488, HC489, HX490, HX491⟩
 refine ⟨_, rfl, ?_⟩
 replace HO488 := Ft.res (U := [(0, 0), (2, 1), (1, 2)]) HO488 hs485 [0] rfl rfl rfl
 replace HX490 := Bx.res (U := [(0, 0), (2, 1), (1, 2)]) (j := 1) HX490 hs485 (by rfl) (by decide) rfl
 replace HX491 := Bx.res (U := [(0, 0), (2, 1), (1, 2)]) (j := 2) HX491 hs485 (by rfl) (by decide) rfl
 replace hs485 := Step.lift (U := [(0, 0), (2, 1), (1, 2)]) hs485 [1, 2] rfl rfl
 generalize up C429_ C484 w428.heap.size [(0, 0), (2, 1), (1, 2)] = C484_ at HO488 HX490 HX491 hs485
 replace HP0_0 := HP0_0.thru hs485 rfl
 replace HP0_1 := HP0_1.thru hs485 rfl
 replace HP1_15 := HP1_15.thru hs485 rfl
 replace HP1_16 := HP1_16.thru hs485 rfl
 replace HS := HS.trans hs485 hc rfl
 (try simp only [ls0, ls1])
 refine as_ rfl ?_
 refine wl_end ?_
 (try simp only [ls0, ls1])
 refine hK470 _ _ ?_
 (try clear hK470 K470)
 refine wp_ret ?_
 (try simp only [Exit.inBlock, Exit.then, Exit.noGoto])
 (try simp only [ls0, ls1])
 simp only [Option.some.injEq, Prod.mk.injEq] at H
 obtain ⟨rfl, rfl, rfl, rfl, rfl, rfl, rfl, rfl, rfl, rfl, rfl, rfl, rfl, rfl, rfl, rfl, rfl, rfl⟩ := H
 refine bodyPost_ret (results_tmp rfl _ _ _) rfl ?_
 exact ⟨_, A486, cp487, A1_15, c1_15, A1_16, c1_16, rfl, HS, HO488, HC489, HP1_15, HCP1_15, HP1_16, HCP1_16, HX490, HX491⟩

/-! ### stmt_asked: function 107 -/
def stmt_asked.g (r_ : Rec_stmt_Stmt) (k : Nat) (l0_0 : List Int) (l0_1 : List (S28)) (a0_2 : Int) (a0_3 : Int) (a1_0 : Int) (a1_1 : Int) (a1_2 : ByteArray) (a1_3 : Int) (a1_4 : Bool) (a1_5 : Bool) (a1_6 : ByteArray) (a1_7 : Int) (a1_8 : Int) (a1_9 : Int) (a1_10 : Int) (a1_11 : Int) (a1_12 : ByteArray) (a1_13 : ByteArray) (l1_14 : List (S44)) (l1_15 : List (S89)) (l1_16 : List (S89)) (a2 : Int) : Option (Int × Int × Int × Int × Int × ByteArray × ByteArray × (List (S44)) × (List (S89))) := (some ([(⟨#[40]⟩ : ByteArray)] : List ByteArray)).bind fun y93 => ((stmt_must.f k l0_0 l0_1 a0_2 a0_3 y93).bind fun bt102 => (if bt102.1 = 0 then ((expr_Cursor_Expr.f k l0_0 l0_1 bt102.2 a0_3).bind fun bt114 => (if bt114.2.2.2.2.2.2.1 = 0 then ((some ([(⟨#[41]⟩ : ByteArray)] : List ByteArray)).bind fun y139 => ((stmt_must.f k l0_0 l0_1 bt114.2.2.2.2.2.2.2 a0_3 y139).bind fun bt148 => (if bt148.1 = 0 then ((r_.stmt_block l0_0 l0_1 bt148.2 a0_3 a2).bind fun bt159 => (some (bt159.2.1, bt159.2.2, bt114.1, bt114.2.1, bt114.2.2.1, bt114.2.2.2.1, bt114.2.2.2.2.1, bt114.2.2.2.2.2.1, bt159.1))) else (some (bt148.1, bt148.2, bt114.1, bt114.2.1, bt114.2.2.1, bt114.2.2.2.1, bt114.2.2.2.2.1, bt114.2.2.2.2.2.1, l1_15))))) else (some (bt114.2.2.2.2.2.2.1, bt114.2.2.2.2.2.2.2, bt114.1, bt114.2.1, bt114.2.2.1, bt114.2.2.2.1, bt114.2.2.2.2.1, bt114.2.2.2.2.2.1, l1_15)))) else (some (bt102.1, bt102.2, a1_9, a1_10, a1_11, a1_12, a1_13, l1_14, l1_15))))

set_option maxHeartbeats 8000000 in
set_option maxRecDepth 100000 in
theorem stmt_asked.step (r_ : Rec_stmt_Stmt) (IH : Rec_stmt_Stmt.Good r_) (k : Nat) (g0 : Nat) (A0_0 : Option Addr) (c0_0 : Nat) (l0_0 : List Int) (A0_1 : Option Addr) (c0_1 : Nat) (l0_1 : List (S28)) (a0_2 : Int) (a0_3 : Int) (g1 : Nat) (a1_0 : Int) (a1_1 : Int) (a1_2 : ByteArray) (a1_3 : Int) (a1_4 : Bool) (a1_5 : Bool) (a1_6 : ByteArray) (a1_7 : Int) (a1_8 : Int) (a1_9 : Int) (a1_10 : Int) (a1_11 : Int) (a1_12 : ByteArray) (a1_13 : ByteArray) (A1_14 : Option Addr) (c1_14 : Nat) (l1_14 : List (S44)) (A1_15 : Option Addr) (c1_15 : Nat) (l1_15 : List (S89)) (A1_16 : Option Addr) (c1_16 : Nat) (l1_16 : List (S89)) (a2 : Int) (r1 : Int) (r2 : Int) (r3 : Int) (r4 : Int) (r5 : Int) (r6 : ByteArray) (r7 : ByteArray) (r8 : List (S44)) (r9 : List (S89)) (c : Nat → Nat) (w : World) (hc : ∀ k, c k < 10) (HP0 : Bx c 1 w g0 111 ([.slice A0_0 l0_0.length c0_0, .slice A0_1 l0_1.length c0_1, .int .i64 a0_2, .int .i64 a0_3])) (HP0_0 : Ft c [0] w (fun w_ => (Kd.int .u8).C w_ A0_0 l0_0.length l0_0)) (HCP0_0 : l0_0.length ≤ c0_0) (HP0_1 : Ft c [0] w (fun w_ => k28.C w_ A0_1 l0_1.length l0_1)) (HCP0_1 : l0_1.length ≤ c0_1) (HP1 : Bx c 2 w g1 89 ([.int .i64 a1_0, .int .i64 a1_1, .string a1_2, .int .i64 a1_3, .bool a1_4, .bool a1_5, .string a1_6, .int .i64 a1_7, .int .i64 a1_8, .int .i64 a1_9, .int .i64 a1_10, .int .i64 a1_11, .string a1_12, .string a1_13, .slice A1_14 l1_14.length c1_14, .slice A1_15 l1_15.length c1_15, .slice A1_16 l1_16.length c1_16])) (HP1_14 : Ft c [0] w (fun w_ => k44.C w_ A1_14 l1_14.length l1_14)) (HCP1_14 : l1_14.length ≤ c1_14) (HP1_15 : Ft c [0] w (fun w_ => k89.C w_ A1_15 l1_15.length l1_15)) (HCP1_15 : l1_15.length ≤ c1_15) (HP1_16 : Ft c [0] w (fun w_ => k89.C w_ A1_16 l1_16.length l1_16)) (HCP1_16 : l1_16.length ≤ c1_16) (H : stmt_asked.g r_ k l0_0 l0_1 a0_2 a0_3 a1_0 a1_1 a1_2 a1_3 a1_4 a1_5 a1_6 a1_7 a1_8 a1_9 a1_10 a1_11 a1_12 a1_13 l1_14 l1_15 l1_16 a2 = some (r1, r2, r3, r4, r5, r6, r7, r8, r9)) :
    Calls Try.prog 107 #[.pointer (some ⟨g0, 0, none⟩), .pointer (some ⟨g1, 0, none⟩), .int .i64 a2] w fun e w' => ∃ (c' : Nat → Nat) (A_r8 : Option Addr) (c_r8 : Nat) (A_r9 : Option Addr) (c_r9 : Nat), e = .returned (.int .i64 r1) ∧ Step c w c' w' [1, 2] ∧ Ft c' [0] w' (fun w_ => k44.C w_ A_r8 r8.length r8) ∧ r8.length ≤ c_r8 ∧ Ft c' [0] w' (fun w_ => k89.C w_ A_r9 r9.length r9) ∧ r9.length ≤ c_r9 ∧ Bx c' 1 w' g0 111 ([.slice A0_0 l0_0.length c0_0, .slice A0_1 l0_1.length c0_1, .int .i64 r2, .int .i64 a0_3]) ∧ Bx c' 2 w' g1 89 ([.int .i64 a1_0, .int .i64 a1_1, .string a1_2, .int .i64 a1_3, .bool a1_4, .bool a1_5, .string a1_6, .int .i64 a1_7, .int .i64 a1_8, .int .i64 r3, .int .i64 r4, .int .i64 r5, .string r6, .string r7, .slice A_r8 r8.length c_r8, .slice A_r9 r9.length c_r9, .slice A1_16 l1_16.length c1_16]) := by
 unfold stmt_asked.g at H
 have HS := Step.refl c w [1, 2]
 go_enter Try.func107, Try.ntmps107
 refine wp_seq_k fun K90 hK90 => ?_
 refine wl_region ?_
 refine st (.int .i64 0) rfl rfl (xr_assign _ rfl rfl) ?_
 refine wl_end ?_
 (try simp only [ls0, ls1])
 refine hK90 _ _ ?_
 (try clear hK90 K90)
 refine wp_seq_k fun K91 hK91 => ?_
 refine wp_seq_k fun K92 hK92 => ?_
 refine wl_region ?_
 refine mv_ rfl ?_
 obtain ⟨y93, A94, H⟩ := bnd H
 refine Own.lit Kd.string (C := c) (i := 11) rfl 9 rfl (xs := [(⟨#[40]⟩ : ByteArray)]) (inner := [.string (⟨#[40]⟩ : ByteArray)]) (by first | (go_simp; done) | (go_simp; rfl)) (reps_cons (fk_str _ _ (⟨#[40]⟩ : ByteArray)) rfl (Reps.none _ _)) (by simp only [List.length_cons, List.length_nil]; omega) (Option.some.inj A94) ?_
 intro A95 cp96 w97 C98 HO99 HC100 hs101
 replace HP0 := HP0.thru hs101 rfl
 replace HP0_0 := HP0_0.thru hs101 rfl
 replace HP0_1 := HP0_1.thru hs101 rfl
 replace HP1 := HP1.thru hs101 rfl
 replace HP1_14 := HP1_14.thru hs101 rfl
 replace HP1_15 := HP1_15.thru hs101 rfl
 replace HP1_16 := HP1_16.thru hs101 rfl
 replace HS := HS.trans hs101 hc rfl
 (try simp only [ls0, ls1])
 obtain ⟨⟨t102, t103⟩, A104, H⟩ := bnd H
 (try dsimp only at H)
 refine st_call #[.pointer (some ⟨g0, 0, none⟩), .slice A95 y93.length cp96] rfl rfl Try.func109 (by kernel_rfl) rfl rfl (mp_ rfl) ?_
 refine (stmt_must.calls k g0 A0_0 c0_0 l0_0 A0_1 c0_1 l0_1 a0_2 a0_3 A95 cp96 y93 t102 t103  (fun z_ => pal [(0, 0), (1, 1), (11, 0)] (C98 z_)) w97 (fun _ => pal_lt rfl _) (Bx.arg HP0 rfl) (Ft.arg HP0_0 rfl) HCP0_0 (Ft.arg HP0_1 rfl) HCP0_1 (Ft.arg (HO99.ft) rfl) HC100 A104).mono ?_
 rintro _ w106 ⟨C107, rfl, hs108, HX109⟩
 refine ⟨_, rfl, ?_⟩
 replace HX109 := Bx.res (U := [(0, 0), (1, 1)]) (j := 1) HX109 hs108 (by rfl) (by decide) rfl
 replace hs108 := Step.lift (U := [(0, 0), (1, 1)]) hs108 [1] rfl rfl
 generalize up C98 C107 w97.heap.size [(0, 0), (1, 1)] = C107_ at HX109 hs108
 replace HP0_0 := HP0_0.thru hs108 rfl
 replace HP0_1 := HP0_1.thru hs108 rfl
 replace HP1 := HP1.thru hs108 rfl
 replace HP1_14 := HP1_14.thru hs108 rfl
 replace HP1_15 := HP1_15.thru hs108 rfl
 replace HP1_16 := HP1_16.thru hs108 rfl
 replace HS := HS.trans hs108 hc rfl
 (try simp only [ls0, ls1])
 refine as_ rfl ?_
 refine wl_end ?_
 (try simp only [ls0, ls1])
 refine hK92 _ _ ?_
 (try clear hK92 K92)
 refine wp_seq_k fun K110 hK110 => ?_
 refine wl_region ?_
 refine mv_ rfl ?_
 refine st (.bool (!decide (t102 = 0))) rfl rfl (xr_bin _ _ _ rfl rfl rfl (B.neq_i64 _ _)) ?_
 refine wl_end ?_
 (try simp only [ls0, ls1])
 refine hK110 _ _ ?_
 (try clear hK110 K110)
 by_cases c111 : t102 = 0
 ·rw [if_pos c111] at H
  (try rw [(decide_eq_true c111)])
  (try simp only [Bool.not_true, Bool.not_false])
  refine wp_cond_false rfl ?_
  refine wp_skip ?_
  (try simp only [ls0, ls1])
  refine hK91 _ _ ?_
  (try clear hK91 K91)
  refine wp_seq_k fun K112 hK112 => ?_
  refine wp_seq_k fun K113 hK113 => ?_
  refine wl_region ?_
  refine mv_ rfl ?_
  refine mv_ rfl ?_
  obtain ⟨⟨t114, t115, t116, t117, t118, t119, t120, t121⟩, A122, H⟩ := bnd H
  (try dsimp only at H)
  refine st_call #[.pointer (some ⟨g0, 0, none⟩)] rfl rfl Try.func51 (by kernel_rfl) rfl rfl (mp_ rfl) ?_
  refine (expr_Cursor_Expr.calls k g0 A0_0 c0_0 l0_0 A0_1 c0_1 l0_1 t103 a0_3 t114 t115 t116 t117 t118 t119 t120 t121  (fun z_ => pal [(0, 0), (1, 1)] (C107_ z_)) w106 (fun _ => pal_lt rfl _) (Bx.arg HX109 rfl) (Ft.arg HP0_0 rfl) HCP0_0 (Ft.arg HP0_1 rfl) HCP0_1 A122).mono ?_
  rintro _ w124 ⟨C125, A127, cp128, rfl, hs126, HO129, HC130, HX131⟩
  refine ⟨_, rfl, ?_⟩
  replace HO129 := Ft.res (U := [(0, 0), (1, 1)]) HO129 hs126 [0] rfl rfl rfl
  replace HX131 := Bx.res (U := [(0, 0), (1, 1)]) (j := 1) HX131 hs126 (by rfl) (by decide) rfl
  replace hs126 := Step.lift (U := [(0, 0), (1, 1)]) hs126 [1] rfl rfl
  generalize up C107_ C125 w106.heap.size [(0, 0), (1, 1)] = C125_ at HO129 HX131 hs126
  replace HP0_0 := HP0_0.thru hs126 rfl
  replace HP0_1 := HP0_1.thru hs126 rfl
  replace HP1 := HP1.thru hs126 rfl
  replace HP1_14 := HP1_14.thru hs126 rfl
  replace HP1_15 := HP1_15.thru hs126 rfl
  replace HP1_16 := HP1_16.thru hs126 rfl
  replace HS := HS.trans hs126 hc rfl
  (try simp only [ls0, ls1])
  refine mv_ rfl ?_
  refine st (.agg #[.int .i64 t114, .int .i64 t115, .int .i64 t116, .string t117, .string t118, .slice A127 t119.length cp128]) rfl rfl (xr_extract (.tuple #[.agg #[.int .i64 t114, .int .i64 t115, .int .i64 t116, .string t117, .string t118, .slice A127 t119.length cp128], .int .i64 t120]) _ rfl rfl rfl) ?_
  refine st (.int .i64 t120) rfl rfl (xr_extract (.tuple #[.agg #[.int .i64 t114, .int .i64 t115, .int .i64 t116, .string t117, .string t118, .slice A127 t119.length cp128], .int .i64 t120]) _ rfl rfl rfl) ?_
  refine st (.pointer (some ⟨g1, 0, none⟩)) rfl rfl (xr_nilCheck _ rfl rfl) ?_
  simp only [ls0, ls1]
  refine st (.pointer (some ⟨g1, 9, none⟩)) rfl rfl (xr_fieldAddr _ _ rfl rfl (bx_field2 Try.underlying89 rfl rfl (by kernel_rfl))) ?_
  refine bx_store (C := C125_) (z := 2) (g := g1) (j := 9) (tb := 89) (u := .agg #[.int .i64 t114, .int .i64 t115, .int .i64 t116, .string t117, .string t118, .slice A127 t119.length cp128]) (seg := [.int .i64 t114, .int .i64 t115, .int .i64 t116, .string t117, .string t118, .slice A127 t119.length cp128]) (xs := [.int .i64 a1_0, .int .i64 a1_1, .string a1_2, .int .i64 a1_3, .bool a1_4, .bool a1_5, .string a1_6, .int .i64 a1_7, .int .i64 a1_8, .int .i64 a1_9, .int .i64 a1_10, .int .i64 a1_11, .string a1_12, .string a1_13, .slice A1_14 l1_14.length c1_14, .slice A1_15 l1_15.length c1_15, .slice A1_16 l1_16.length c1_16]) rfl rfl rfl rfl rfl rfl (by first | kernel_rfl | rfl) (by simp [Value.oneCell']) HP1 (by simp only [List.length_cons, List.length_nil]; omega) rfl ?_
  intro w132 HX133 hs134
  replace HX131 := HX131.thru hs134 rfl
  replace HP0_0 := HP0_0.thru hs134 rfl
  replace HP0_1 := HP0_1.thru hs134 rfl
  replace HO129 := HO129.thru hs134 rfl
  replace HP1_15 := HP1_15.thru hs134 rfl
  replace HP1_16 := HP1_16.thru hs134 rfl
  replace HS := HS.trans hs134 hc rfl
  (try simp only [ls0, ls1])
  refine as_ rfl ?_
  refine wl_end ?_
  (try simp only [ls0, ls1])
  refine hK113 _ _ ?_
  (try clear hK113 K113)
  refine wp_seq_k fun K135 hK135 => ?_
  refine wl_region ?_
  refine mv_ rfl ?_
  refine st (.bool (!decide (t120 = 0))) rfl rfl (xr_bin _ _ _ rfl rfl rfl (B.neq_i64 _ _)) ?_
  refine wl_end ?_
  (try simp only [ls0, ls1])
  refine hK135 _ _ ?_
  (try clear hK135 K135)
  by_cases c136 : t120 = 0
  ·rw [if_pos c136] at H
   (try rw [(decide_eq_true c136)])
   (try simp only [Bool.not_true, Bool.not_false])
   refine wp_cond_false rfl ?_
   refine wp_skip ?_
   (try simp only [ls0, ls1])
   refine hK112 _ _ ?_
   (try clear hK112 K112)
   refine wp_seq_k fun K137 hK137 => ?_
   refine wp_seq_k fun K138 hK138 => ?_
   refine wl_region ?_
   refine mv_ rfl ?_
   obtain ⟨y139, A140, H⟩ := bnd H
   refine Own.lit Kd.string (C := C125_) (i := 12) rfl 9 rfl (xs := [(⟨#[41]⟩ : ByteArray)]) (inner := [.string (⟨#[41]⟩ : ByteArray)]) (by first | (go_simp; done) | (go_simp; rfl)) (reps_cons (fk_str _ _ (⟨#[41]⟩ : ByteArray)) rfl (Reps.none _ _)) (by simp only [List.length_cons, List.length_nil]; omega) (Option.some.inj A140) ?_
   intro A141 cp142 w143 C144 HO145 HC146 hs147
   replace HX131 := HX131.thru hs147 rfl
   replace HP0_0 := HP0_0.thru hs147 rfl
   replace HP0_1 := HP0_1.thru hs147 rfl
   replace HX133 := HX133.thru hs147 rfl
   replace HO129 := HO129.thru hs147 rfl
   replace HP1_15 := HP1_15.thru hs147 rfl
   replace HP1_16 := HP1_16.thru hs147 rfl
   replace HS := HS.trans hs147 hc rfl
   (try simp only [ls0, ls1])
   obtain ⟨⟨t148, t149⟩, A150, H⟩ := bnd H
   (try dsimp only at H)
   refine st_call #[.pointer (some ⟨g0, 0, none⟩), .slice A141 y139.length cp142] rfl rfl Try.func109 (by kernel_rfl) rfl rfl (mp_ rfl) ?_
   refine (stmt_must.calls k g0 A0_0 c0_0 l0_0 A0_1 c0_1 l0_1 t121 a0_3 A141 cp142 y139 t148 t149  (fun z_ => pal [(0, 0), (1, 1), (12, 0)] (C144 z_)) w143 (fun _ => pal_lt rfl _) (Bx.arg HX131 rfl) (Ft.arg HP0_0 rfl) HCP0_0 (Ft.arg HP0_1 rfl) HCP0_1 (Ft.arg (HO145.ft) rfl) HC146 A150).mono ?_
   rintro _ w152 ⟨C153, rfl, hs154, HX155⟩
   refine ⟨_, rfl, ?_⟩
   replace HX155 := Bx.res (U := [(0, 0), (1, 1)]) (j := 1) HX155 hs154 (by rfl) (by decide) rfl
   replace hs154 := Step.lift (U := [(0, 0), (1, 1)]) hs154 [1] rfl rfl
   generalize up C144 C153 w143.heap.size [(0, 0), (1, 1)] = C153_ at HX155 hs154
   replace HP0_0 := HP0_0.thru hs154 rfl
   replace HP0_1 := HP0_1.thru hs154 rfl
   replace HX133 := HX133.thru hs154 rfl
   replace HO129 := HO129.thru hs154 rfl
   replace HP1_15 := HP1_15.thru hs154 rfl
   replace HP1_16 := HP1_16.thru hs154 rfl
   replace HS := HS.trans hs154 hc rfl
   (try simp only [ls0, ls1])
   refine as_ rfl ?_
   refine wl_end ?_
   (try simp only [ls0, ls1])
   refine hK138 _ _ ?_
   (try clear hK138 K138)
   refine wp_seq_k fun K156 hK156 => ?_
   refine wl_region ?_
   refine mv_ rfl ?_
   refine st (.bool (!decide (t148 = 0))) rfl rfl (xr_bin _ _ _ rfl rfl rfl (B.neq_i64 _ _)) ?_
   refine wl_end ?_
   (try simp only [ls0, ls1])
   refine hK156 _ _ ?_
   (try clear hK156 K156)
   by_cases c157 : t148 = 0
   ·rw [if_pos c157] at H
    (try rw [(decide_eq_true c157)])
    (try simp only [Bool.not_true, Bool.not_false])
    refine wp_cond_false rfl ?_
    refine wp_skip ?_
    (try simp only [ls0, ls1])
    refine hK137 _ _ ?_
    (try clear hK137 K137)
    refine wp_seq_k fun K158 hK158 => ?_
    refine wl_region ?_
    refine mv_ rfl ?_
    refine mv_ rfl ?_
    refine mv_ rfl ?_
    obtain ⟨⟨t159, t160, t161⟩, A162, H⟩ := bnd H
    (try dsimp only at H)
    refine st_call #[.pointer (some ⟨g0, 0, none⟩), .int .i64 a2] rfl rfl Try.func108 (by kernel_rfl) rfl rfl (mp_ rfl) ?_
    refine (IH.stmt_block g0 A0_0 c0_0 l0_0 A0_1 c0_1 l0_1 t149 a0_3 a2 t159 t160 t161  (fun z_ => pal [(0, 0), (1, 1)] (C153_ z_)) w152 (fun _ => pal_lt rfl _) (Bx.arg HX155 rfl) (Ft.arg HP0_0 rfl) HCP0_0 (Ft.arg HP0_1 rfl) HCP0_1 A162).mono ?_
    rintro _ w164 ⟨C165, A167, cp168, rfl, hs166, HO169, HC170, HX171⟩
    refine ⟨_, rfl, ?_⟩
    replace HO169 := Own.res (U := [(0, 0), (1, 1), (5, 13)]) (j := 13) HO169 hs166 (by rfl) (by decide) rfl rfl
    replace HX171 := Bx.res (U := [(0, 0), (1, 1), (5, 13)]) (j := 1) HX171 hs166 (by rfl) (by decide) rfl
    replace hs166 := Step.lift (U := [(0, 0), (1, 1), (5, 13)]) hs166 [1] rfl rfl
    generalize up C153_ C165 w152.heap.size [(0, 0), (1, 1), (5, 13)] = C165_ at HO169 HX171 hs166
    replace HP0_0 := HP0_0.thru hs166 rfl
    replace HP0_1 := HP0_1.thru hs166 rfl
    replace HX133 := HX133.thru hs166 rfl
    replace HO129 := HO129.thru hs166 rfl
    replace HP1_15 := HP1_15.thru hs166 rfl
    replace HP1_16 := HP1_16.thru hs166 rfl
    replace HS := HS.trans hs166 hc rfl
    (try simp only [ls0, ls1])
    refine mv_ rfl ?_
    refine st (.slice A167 t159.length cp168) rfl rfl (xr_extract (.tuple #[.slice A167 t159.length cp168, .int .i64 t160]) _ rfl rfl rfl) ?_
    refine st (.int .i64 t160) rfl rfl (xr_extract (.tuple #[.slice A167 t159.length cp168, .int .i64 t160]) _ rfl rfl rfl) ?_
    refine st (.pointer (some ⟨g1, 0, none⟩)) rfl rfl (xr_nilCheck _ rfl rfl) ?_
    simp only [ls0, ls1]
    refine st (.pointer (some ⟨g1, 15, none⟩)) rfl rfl (xr_fieldAddr _ _ rfl rfl (bx_field2 Try.underlying89 rfl rfl (by kernel_rfl))) ?_
    refine bx_store (C := C165_) (z := 2) (g := g1) (j := 15) (tb := 89) (u := .slice A167 t159.length cp168) (seg := [.slice A167 t159.length cp168]) (xs := [.int .i64 a1_0, .int .i64 a1_1, .string a1_2, .int .i64 a1_3, .bool a1_4, .bool a1_5, .string a1_6, .int .i64 a1_7, .int .i64 a1_8, .int .i64 t114, .int .i64 t115, .int .i64 t116, .string t117, .string t118, .slice A127 t119.length cp128, .slice A1_15 l1_15.length c1_15, .slice A1_16 l1_16.length c1_16]) rfl rfl rfl rfl rfl rfl (by first | kernel_rfl | rfl) (by simp [Value.oneCell']) HX133 (by simp only [List.length_cons, List.length_nil]; omega) rfl ?_
    intro w172 HX173 hs174
    replace HX171 := HX171.thru hs174 rfl
    replace HP0_0 := HP0_0.thru hs174 rfl
    replace HP0_1 := HP0_1.thru hs174 rfl
    replace HO129 := HO129.thru hs174 rfl
    replace HO169 := HO169.thru hs174 rfl
    replace HP1_16 := HP1_16.thru hs174 rfl
    replace HS := HS.trans hs174 hc rfl
    (try simp only [ls0, ls1])
    refine as_ rfl ?_
    refine wl_end ?_
    (try simp only [ls0, ls1])
    refine hK158 _ _ ?_
    (try clear hK158 K158)
    refine wp_seq_k fun K175 hK175 => ?_
    refine wl_region ?_
    refine mv_ rfl ?_
    refine as_ rfl ?_
    refine wl_end ?_
    (try simp only [ls0, ls1])
    refine hK175 _ _ ?_
    (try clear hK175 K175)
    refine wp_ret ?_
    (try simp only [Exit.inBlock, Exit.then, Exit.noGoto])
    (try simp only [ls0, ls1])
    replace HX171 := Bx.recol (a := 13) (b := 0) HX171 (by decide)
    replace HP0_0 := Ft.recol (a := 13) (b := 0) HP0_0 (.inl rfl)
    replace HP0_1 := Ft.recol (a := 13) (b := 0) HP0_1 (.inl rfl)
    replace HX173 := Bx.recol (a := 13) (b := 0) HX173 (by decide)
    replace HO129 := Ft.recol (a := 13) (b := 0) HO129 (.inl rfl)
    have HR176 := Ft.recolor (a := 13) (b := 0) (HO169.ft) [0] rfl
    replace HP1_16 := Ft.recol (a := 13) (b := 0) HP1_16 (.inl rfl)
    replace HS := Step.recol (a := 13) (b := 0) HS hc (by decide)
    simp only [Option.some.injEq, Prod.mk.injEq] at H
    obtain ⟨rfl, rfl, rfl, rfl, rfl, rfl, rfl, rfl, rfl⟩ := H
    refine bodyPost_ret (results_tmp rfl _ _ _) rfl ?_
    exact ⟨_, A127, cp128, A167, cp168, rfl, HS, HO129, HC130, HR176, HC170, HX171, HX173⟩
   rw [if_neg c157] at H
   (try rw [(decide_eq_false c157)])
   (try simp only [Bool.not_true, Bool.not_false])
   refine wp_cond_true rfl ?_
   refine wp_seq_k fun K177 hK177 => ?_
   refine wl_region ?_
   refine mv_ rfl ?_
   refine as_ rfl ?_
   refine wl_end ?_
   (try simp only [ls0, ls1])
   refine hK177 _ _ ?_
   (try clear hK177 K177)
   refine wp_ret ?_
   (try simp only [Exit.inBlock, Exit.then, Exit.noGoto])
   (try simp only [ls0, ls1])
   simp only [Option.some.injEq, Prod.mk.injEq] at H
   obtain ⟨rfl, rfl, rfl, rfl, rfl, rfl, rfl, rfl, rfl⟩ := H
   refine bodyPost_ret (results_tmp rfl _ _ _) rfl ?_
   exact ⟨_, A127, cp128, A1_15, c1_15, rfl, HS, HO129, HC130, HP1_15, HCP1_15, HX155, HX133⟩
  rw [if_neg c136] at H
  (try rw [(decide_eq_false c136)])
  (try simp only [Bool.not_true, Bool.not_false])
  refine wp_cond_true rfl ?_
  refine wp_seq_k fun K178 hK178 => ?_
  refine wl_region ?_
  refine mv_ rfl ?_
  refine as_ rfl ?_
  refine wl_end ?_
  (try simp only [ls0, ls1])
  refine hK178 _ _ ?_
  (try clear hK178 K178)
  refine wp_ret ?_
  (try simp only [Exit.inBlock, Exit.then, Exit.noGoto])
  (try simp only [ls0, ls1])
  simp only [Option.some.injEq, Prod.mk.injEq] at H
  obtain ⟨rfl, rfl, rfl, rfl, rfl, rfl, rfl, rfl, rfl⟩ := H
  refine bodyPost_ret (results_tmp rfl _ _ _) rfl ?_
  exact ⟨_, A127, cp128, A1_15, c1_15, rfl, HS, HO129, HC130, HP1_15, HCP1_15, HX131, HX133⟩
 rw [if_neg c111] at H
 (try rw [(decide_eq_false c111)])
 (try simp only [Bool.not_true, Bool.not_false])
 refine wp_cond_true rfl ?_
 refine wp_seq_k fun K179 hK179 => ?_
 refine wl_region ?_
 refine mv_ rfl ?_
 refine as_ rfl ?_
 refine wl_end ?_
 (try simp only [ls0, ls1])
 refine hK179 _ _ ?_
 (try clear hK179 K179)
 refine wp_ret ?_
 (try simp only [Exit.inBlock, Exit.then, Exit.noGoto])
 (try simp only [ls0, ls1])
 simp only [Option.some.injEq, Prod.mk.injEq] at H
 obtain ⟨rfl, rfl, rfl, rfl, rfl, rfl, rfl, rfl, rfl⟩ := H
 refine bodyPost_ret (results_tmp rfl _ _ _) rfl ?_
 exact ⟨_, A1_14, c1_14, A1_15, c1_15, rfl, HS, HP1_14, HCP1_14, HP1_15, HCP1_15, HX109, HP1⟩

/-! ### stmt_block: function 108 -/
mutual
def stmt_block.j0 (r_ : Rec_stmt_Stmt) : Nat → (List (S89)) → Int → Int → Option ((List (S89)) × Int × Int)
  | 0, _, _, _ => none
  | k + 1, t232, x270, x273 => if x270 = 0 then (some (t232, 0, x273)) else (some (([] : List (S89)), x270, x273))
def stmt_block.j1 (r_ : Rec_stmt_Stmt) : Nat → Int → Int → Int → (List Int) → (List (S28)) → Bool → Option ((List (S89)) × Int × Int)
  | 0, _, _, _, _, _, _ => none
  | k + 1, a0_2, a0_3, a1, l0_0, l0_1, x201 => if x201 = true then (some (([] : List (S89)), 12, a0_2)) else ((some ([(⟨#[123]⟩ : ByteArray)] : List ByteArray)).bind fun y212 => ((stmt_must.f k l0_0 l0_1 a0_2 a0_3 y212).bind fun bt221 => (if bt221.1 = 0 then ((r_.stmt_Row l0_0 l0_1 bt221.2 a0_3 (wrap64 (a1 + 1))).bind fun bt232 => (if bt232.2.1 = 0 then ((some ([(⟨#[125]⟩ : ByteArray)] : List ByteArray)).bind fun y285 => ((stmt_must.f k l0_0 l0_1 bt232.2.2 a0_3 y285).bind fun bt294 => (stmt_block.j0 r_ k bt232.1 bt294.1 bt294.2))) else (stmt_block.j0 r_ k bt232.1 bt232.2.1 bt232.2.2))) else (some (([] : List (S89)), bt221.1, bt221.2)))))
end
def stmt_block.g (r_ : Rec_stmt_Stmt) (k : Nat) (l0_0 : List Int) (l0_1 : List (S28)) (a0_2 : Int) (a0_3 : Int) (a1 : Int) : Option ((List (S89)) × Int × Int) := (expr_Cursor_Peek.f (some (⟨l0_0, l0_1, a0_2, a0_3⟩ : S111) : Option S111)).bind fun t304 => (if t304 = (⟨#[123]⟩ : ByteArray) then (stmt_block.j1 r_ k a0_2 a0_3 a1 l0_0 l0_1 (decide (a1 ≥ 32))) else (stmt_block.j1 r_ k a0_2 a0_3 a1 l0_0 l0_1 false))

set_option maxHeartbeats 8000000 in
set_option maxRecDepth 100000 in
theorem stmt_block.step (r_ : Rec_stmt_Stmt) (IH : Rec_stmt_Stmt.Good r_) (k : Nat) (g0 : Nat) (A0_0 : Option Addr) (c0_0 : Nat) (l0_0 : List Int) (A0_1 : Option Addr) (c0_1 : Nat) (l0_1 : List (S28)) (a0_2 : Int) (a0_3 : Int) (a1 : Int) (r1 : List (S89)) (r2 : Int) (r3 : Int) (c : Nat → Nat) (w : World) (hc : ∀ k, c k < 10) (HP0 : Bx c 1 w g0 111 ([.slice A0_0 l0_0.length c0_0, .slice A0_1 l0_1.length c0_1, .int .i64 a0_2, .int .i64 a0_3])) (HP0_0 : Ft c [0] w (fun w_ => (Kd.int .u8).C w_ A0_0 l0_0.length l0_0)) (HCP0_0 : l0_0.length ≤ c0_0) (HP0_1 : Ft c [0] w (fun w_ => k28.C w_ A0_1 l0_1.length l0_1)) (HCP0_1 : l0_1.length ≤ c0_1) (H : stmt_block.g r_ k l0_0 l0_1 a0_2 a0_3 a1 = some (r1, r2, r3)) :
    Calls Try.prog 108 #[.pointer (some ⟨g0, 0, none⟩), .int .i64 a1] w fun e w' => ∃ (c' : Nat → Nat) (A_r1 : Option Addr) (c_r1 : Nat), e = .returned (.tuple #[.slice A_r1 r1.length c_r1, .int .i64 r2]) ∧ Step c w c' w' [1] ∧ Own c' 5 w' k89 89 (.slice A_r1 r1.length c_r1) r1 ∧ r1.length ≤ c_r1 ∧ Bx c' 1 w' g0 111 ([.slice A0_0 l0_0.length c0_0, .slice A0_1 l0_1.length c0_1, .int .i64 r3, .int .i64 a0_3]) := by
 unfold stmt_block.g at H
 have HS := Step.refl c w [1]
 go_enter Try.func108, Try.ntmps108
 refine wp_seq_k fun K156 hK156 => ?_
 refine wl_region ?_
 refine st (.slice none 0 0) rfl rfl (xr_assign _ rfl rfl) ?_
 refine st (.int .i64 0) rfl rfl (xr_assign _ rfl rfl) ?_
 refine wl_end ?_
 (try simp only [ls0, ls1])
 refine hK156 _ _ ?_
 (try clear hK156 K156)
 refine wp_seq_k fun K157 hK157 => ?_
 refine wp_seq_k fun K188 hK188 => ?_
 have hj197 : ∀ (kq205 : Nat) (C198 : Nat → Nat) (w199 : World) (x201 : Bool) (g_ : Nat → Value), Step c w C198 w199 [1] → kq205 ≤ k → (Ft C198 [0] w199 (fun w_ => (Kd.int .u8).C w_ A0_0 l0_0.length l0_0)) → (Ft C198 [0] w199 (fun w_ => k28.C w_ A0_1 l0_1.length l0_1)) → (Bx C198 1 w199 g0 111 ([.slice A0_0 l0_0.length c0_0, .slice A0_1 l0_1.length c0_1, .int .i64 a0_2, .int .i64 a0_3])) → stmt_block.j1 r_ kq205 a0_2 a0_3 a1 l0_0 l0_1 x201 = some (r1, r2, r3) → K188 ⟨#[.pointer (some ⟨g0, 0, none⟩), .int .i64 a1, (g_ 2), (g_ 3), (g_ 4), (g_ 5), (g_ 6), (g_ 7), (g_ 8), (g_ 9), (g_ 10), (g_ 11), (g_ 12), (g_ 13), (g_ 14), .bool x201, (g_ 16), (g_ 17), (g_ 18), (g_ 19), (g_ 20), (g_ 21), (g_ 22), (g_ 23), (g_ 24), (g_ 25), (g_ 26), (g_ 27), (g_ 28), (g_ 29), (g_ 30), (g_ 31), (g_ 32), (g_ 33), (g_ 34), (g_ 35), (g_ 36), (g_ 37)], []⟩ w199 := by
  intro kq205 C198 w199 x201 g_ HS200 hk206 HJ202 HJ203 HJ204 H
  cases kq205 with
  | zero => exact absurd H (by simp [stmt_block.j1])
  | succ k207 =>
   simp only [stmt_block.j1] at H
   refine hK188 _ _ ?_
   (try clear hK188)
   by_cases c208 : x201 = true
   ·rw [if_pos c208] at H
    (try rw [c208])
    refine wp_cond_true rfl ?_
    refine wp_seq_k fun K209 hK209 => ?_
    refine wl_region ?_
    refine st (.slice none 0 0) rfl rfl (xr_assign _ rfl rfl) ?_
    refine st (.int .i64 12) rfl rfl (xr_assign _ rfl rfl) ?_
    refine wl_end ?_
    (try simp only [ls0, ls1])
    refine hK209 _ _ ?_
    (try clear hK209 K209)
    refine wp_ret ?_
    (try simp only [Exit.inBlock, Exit.then, Exit.noGoto])
    (try simp only [ls0, ls1])
    simp only [Option.some.injEq, Prod.mk.injEq] at H
    obtain ⟨rfl, rfl, rfl⟩ := H
    refine bodyPost_ret (results_tmp2 rfl _ _ _) rfl ?_
    exact ⟨_, none, 0, rfl, HS200, (Own.nil _ _ _ _ _), (Nat.le_refl 0), HJ204⟩
   rw [if_neg c208] at H
   (try rw [(Bool.eq_false_iff.mpr c208)])
   refine wp_cond_false rfl ?_
   refine wp_skip ?_
   (try simp only [ls0, ls1])
   refine hK157 _ _ ?_
   (try clear hK157 K157)
   refine wp_seq_k fun K210 hK210 => ?_
   refine wp_seq_k fun K211 hK211 => ?_
   refine wl_region ?_
   refine mv_ rfl ?_
   obtain ⟨y212, A213, H⟩ := bnd H
   refine Own.lit Kd.string (C := C198) (i := 11) rfl 9 rfl (xs := [(⟨#[123]⟩ : ByteArray)]) (inner := [.string (⟨#[123]⟩ : ByteArray)]) (by first | (go_simp; done) | (go_simp; rfl)) (reps_cons (fk_str _ _ (⟨#[123]⟩ : ByteArray)) rfl (Reps.none _ _)) (by simp only [List.length_cons, List.length_nil]; omega) (Option.some.inj A213) ?_
   intro A214 cp215 w216 C217 HO218 HC219 hs220
   replace HJ204 := HJ204.thru hs220 rfl
   replace HJ202 := HJ202.thru hs220 rfl
   replace HJ203 := HJ203.thru hs220 rfl
   replace HS200 := HS200.trans hs220 hc rfl
   (try simp only [ls0, ls1])
   obtain ⟨⟨t221, t222⟩, A223, H⟩ := bnd H
   (try dsimp only at H)
   refine st_call #[.pointer (some ⟨g0, 0, none⟩), .slice A214 y212.length cp215] rfl rfl Try.func109 (by kernel_rfl) rfl rfl (mp_ rfl) ?_
   refine (stmt_must.calls k207 g0 A0_0 c0_0 l0_0 A0_1 c0_1 l0_1 a0_2 a0_3 A214 cp215 y212 t221 t222  (fun z_ => pal [(0, 0), (1, 1), (11, 0)] (C217 z_)) w216 (fun _ => pal_lt rfl _) (Bx.arg HJ204 rfl) (Ft.arg HJ202 rfl) HCP0_0 (Ft.arg HJ203 rfl) HCP0_1 (Ft.arg (HO218.ft) rfl) HC219 A223).mono ?_
   rintro _ w225 ⟨C226, rfl, hs227, HX228⟩
   refine ⟨_, rfl, ?_⟩
   replace HX228 := Bx.res (U := [(0, 0), (1, 1)]) (j := 1) HX228 hs227 (by rfl) (by decide) rfl
   replace hs227 := Step.lift (U := [(0, 0), (1, 1)]) hs227 [1] rfl rfl
   generalize up C217 C226 w216.heap.size [(0, 0), (1, 1)] = C226_ at HX228 hs227
   replace HJ202 := HJ202.thru hs227 rfl
   replace HJ203 := HJ203.thru hs227 rfl
   replace HS200 := HS200.trans hs227 hc rfl
   (try simp only [ls0, ls1])
   refine as_ rfl ?_
   refine wl_end ?_
   (try simp only [ls0, ls1])
   refine hK211 _ _ ?_
   (try clear hK211 K211)
   refine wp_seq_k fun K229 hK229 => ?_
   refine wl_region ?_
   refine mv_ rfl ?_
   refine st (.bool (!decide (t221 = 0))) rfl rfl (xr_bin _ _ _ rfl rfl rfl (B.neq_i64 _ _)) ?_
   refine wl_end ?_
   (try simp only [ls0, ls1])
   refine hK229 _ _ ?_
   (try clear hK229 K229)
   by_cases c230 : t221 = 0
   ·rw [if_pos c230] at H
    (try rw [(decide_eq_true c230)])
    (try simp only [Bool.not_true, Bool.not_false])
    refine wp_cond_false rfl ?_
    refine wp_skip ?_
    (try simp only [ls0, ls1])
    refine hK210 _ _ ?_
    (try clear hK210 K210)
    refine wp_seq_k fun K231 hK231 => ?_
    refine wl_region ?_
    refine mv_ rfl ?_
    refine mv_ rfl ?_
    refine st (.int .i64 (wrap64 (a1 + 1))) rfl rfl (xr_bin _ _ _ rfl rfl rfl (B.add_i64 _ _)) ?_
    obtain ⟨⟨t232, t233, t234⟩, A235, H⟩ := bnd H
    (try dsimp only at H)
    refine st_call #[.pointer (some ⟨g0, 0, none⟩), .int .i64 (wrap64 (a1 + 1))] rfl rfl Try.func65 (by kernel_rfl) rfl rfl (mp_ rfl) ?_
    refine (IH.stmt_Row g0 A0_0 c0_0 l0_0 A0_1 c0_1 l0_1 t222 a0_3 (wrap64 (a1 + 1)) t232 t233 t234  (fun z_ => pal [(0, 0), (1, 1)] (C226_ z_)) w225 (fun _ => pal_lt rfl _) (Bx.arg HX228 rfl) (Ft.arg HJ202 rfl) HCP0_0 (Ft.arg HJ203 rfl) HCP0_1 A235).mono ?_
    rintro _ w237 ⟨C238, A240, cp241, rfl, hs239, HO242, HC243, HX244⟩
    refine ⟨_, rfl, ?_⟩
    replace HO242 := Own.res (U := [(0, 0), (1, 1), (5, 12)]) (j := 12) HO242 hs239 (by rfl) (by decide) rfl rfl
    replace HX244 := Bx.res (U := [(0, 0), (1, 1), (5, 12)]) (j := 1) HX244 hs239 (by rfl) (by decide) rfl
    replace hs239 := Step.lift (U := [(0, 0), (1, 1), (5, 12)]) hs239 [1] rfl rfl
    generalize up C226_ C238 w225.heap.size [(0, 0), (1, 1), (5, 12)] = C238_ at HO242 HX244 hs239
    replace HJ202 := HJ202.thru hs239 rfl
    replace HJ203 := HJ203.thru hs239 rfl
    replace HS200 := HS200.trans hs239 hc rfl
    (try simp only [ls0, ls1])
    refine mv_ rfl ?_
    refine st (.slice A240 t232.length cp241) rfl rfl (xr_extract (.tuple #[.slice A240 t232.length cp241, .int .i64 t233]) _ rfl rfl rfl) ?_
    refine st (.int .i64 t233) rfl rfl (xr_extract (.tuple #[.slice A240 t232.length cp241, .int .i64 t233]) _ rfl rfl rfl) ?_
    refine as_ rfl ?_
    simp only [ls0, ls1]
    refine as_ rfl ?_
    refine wl_end ?_
    (try simp only [ls0, ls1])
    refine hK231 _ _ ?_
    (try clear hK231 K231)
    refine wp_seq_k fun K245 hK245 => ?_
    have hj265 : ∀ (kq275 : Nat) (C266 : Nat → Nat) (w267 : World) (x270 : Int) (x273 : Int) (g_ : Nat → Value), Step c w C266 w267 [1] → kq275 ≤ k207 → (Own C266 12 w267 k89 89 (.slice A240 t232.length cp241) t232) → (Ft C266 [0] w267 (fun w_ => (Kd.int .u8).C w_ A0_0 l0_0.length l0_0)) → (Ft C266 [0] w267 (fun w_ => k28.C w_ A0_1 l0_1.length l0_1)) → (Bx C266 1 w267 g0 111 ([.slice A0_0 l0_0.length c0_0, .slice A0_1 l0_1.length c0_1, .int .i64 x273, .int .i64 a0_3])) → stmt_block.j0 r_ kq275 t232 x270 x273 = some (r1, r2, r3) → K245 ⟨#[(g_ 0), (g_ 1), (g_ 2), (g_ 3), (g_ 4), (g_ 5), (g_ 6), .slice A240 t232.length cp241, .int .i64 x270, (g_ 9), (g_ 10), (g_ 11), (g_ 12), (g_ 13), (g_ 14), (g_ 15), (g_ 16), (g_ 17), (g_ 18), (g_ 19), (g_ 20), (g_ 21), (g_ 22), (g_ 23), (g_ 24), (g_ 25), (g_ 26), (g_ 27), (g_ 28), (g_ 29), (g_ 30), (g_ 31), (g_ 32), (g_ 33), (g_ 34), (g_ 35), (g_ 36), (g_ 37)], []⟩ w267 := by
     intro kq275 C266 w267 x270 x273 g_ HS268 hk276 HJ269 HJ271 HJ272 HJ274 H
     cases kq275 with
     | zero => exact absurd H (by simp [stmt_block.j0])
     | succ k277 =>
      simp only [stmt_block.j0] at H
      refine hK245 _ _ ?_
      (try clear hK245)
      refine wp_seq_k fun K278 hK278 => ?_
      refine wp_seq_k fun K279 hK279 => ?_
      refine wl_region ?_
      refine mv_ rfl ?_
      refine st (.bool (!decide (x270 = 0))) rfl rfl (xr_bin _ _ _ rfl rfl rfl (B.neq_i64 _ _)) ?_
      refine wl_end ?_
      (try simp only [ls0, ls1])
      refine hK279 _ _ ?_
      (try clear hK279 K279)
      by_cases c280 : x270 = 0
      ·rw [if_pos c280] at H
       (try rw [(decide_eq_true c280)])
       (try simp only [Bool.not_true, Bool.not_false])
       refine wp_cond_false rfl ?_
       refine wp_skip ?_
       (try simp only [ls0, ls1])
       refine hK278 _ _ ?_
       (try clear hK278 K278)
       refine wp_seq_k fun K281 hK281 => ?_
       refine wl_region ?_
       refine mv_ rfl ?_
       refine as_ rfl ?_
       refine st (.int .i64 0) rfl rfl (xr_assign _ rfl rfl) ?_
       refine wl_end ?_
       (try simp only [ls0, ls1])
       refine hK281 _ _ ?_
       (try clear hK281 K281)
       refine wp_ret ?_
       (try simp only [Exit.inBlock, Exit.then, Exit.noGoto])
       (try simp only [ls0, ls1])
       replace HJ269 := Own.recolor (b := 5) HJ269 (by decide)
       replace HJ274 := Bx.recol (a := 12) (b := 5) HJ274 (by decide)
       replace HJ271 := Ft.recol (a := 12) (b := 5) HJ271 (.inl rfl)
       replace HJ272 := Ft.recol (a := 12) (b := 5) HJ272 (.inl rfl)
       replace HS268 := Step.recol (a := 12) (b := 5) HS268 hc (by decide)
       simp only [Option.some.injEq, Prod.mk.injEq] at H
       obtain ⟨rfl, rfl, rfl⟩ := H
       refine bodyPost_ret (results_tmp2 rfl _ _ _) rfl ?_
       exact ⟨_, A240, cp241, rfl, HS268, HJ269, HC243, HJ274⟩
      rw [if_neg c280] at H
      (try rw [(decide_eq_false c280)])
      (try simp only [Bool.not_true, Bool.not_false])
      refine wp_cond_true rfl ?_
      refine wp_seq_k fun K282 hK282 => ?_
      refine wl_region ?_
      refine mv_ rfl ?_
      refine st (.slice none 0 0) rfl rfl (xr_assign _ rfl rfl) ?_
      refine as_ rfl ?_
      refine wl_end ?_
      (try simp only [ls0, ls1])
      refine hK282 _ _ ?_
      (try clear hK282 K282)
      refine wp_ret ?_
      (try simp only [Exit.inBlock, Exit.then, Exit.noGoto])
      (try simp only [ls0, ls1])
      simp only [Option.some.injEq, Prod.mk.injEq] at H
      obtain ⟨rfl, rfl, rfl⟩ := H
      refine bodyPost_ret (results_tmp2 rfl _ _ _) rfl ?_
      exact ⟨_, none, 0, rfl, HS268, (Own.nil _ _ _ _ _), (Nat.le_refl 0), HJ274⟩
    refine wp_seq_k fun K283 hK283 => ?_
    refine wl_region ?_
    refine mv_ rfl ?_
    refine st (.bool (decide (t233 = 0))) rfl rfl (xr_bin _ _ _ rfl rfl rfl (B.eql_i64 _ _)) ?_
    refine wl_end ?_
    (try simp only [ls0, ls1])
    refine hK283 _ _ ?_
    (try clear hK283 K283)
    by_cases c284 : t233 = 0
    ·rw [if_pos c284] at H
     (try rw [(decide_eq_true c284)])
     refine wp_cond_true rfl ?_
     refine wl_region ?_
     refine mv_ rfl ?_
     obtain ⟨y285, A286, H⟩ := bnd H
     refine Own.lit Kd.string (C := C238_) (i := 13) rfl 9 rfl (xs := [(⟨#[125]⟩ : ByteArray)]) (inner := [.string (⟨#[125]⟩ : ByteArray)]) (by first | (go_simp; done) | (go_simp; rfl)) (reps_cons (fk_str _ _ (⟨#[125]⟩ : ByteArray)) rfl (Reps.none _ _)) (by simp only [List.length_cons, List.length_nil]; omega) (Option.some.inj A286) ?_
     intro A287 cp288 w289 C290 HO291 HC292 hs293
     replace HX244 := HX244.thru hs293 rfl
     replace HJ202 := HJ202.thru hs293 rfl
     replace HJ203 := HJ203.thru hs293 rfl
     replace HO242 := HO242.thru hs293 rfl
     replace HS200 := HS200.trans hs293 hc rfl
     (try simp only [ls0, ls1])
     obtain ⟨⟨t294, t295⟩, A296, H⟩ := bnd H
     (try dsimp only at H)
     refine st_call #[.pointer (some ⟨g0, 0, none⟩), .slice A287 y285.length cp288] rfl rfl Try.func109 (by kernel_rfl) rfl rfl (mp_ rfl) ?_
     refine (stmt_must.calls k207 g0 A0_0 c0_0 l0_0 A0_1 c0_1 l0_1 t234 a0_3 A287 cp288 y285 t294 t295  (fun z_ => pal [(0, 0), (1, 1), (13, 0)] (C290 z_)) w289 (fun _ => pal_lt rfl _) (Bx.arg HX244 rfl) (Ft.arg HJ202 rfl) HCP0_0 (Ft.arg HJ203 rfl) HCP0_1 (Ft.arg (HO291.ft) rfl) HC292 A296).mono ?_
     rintro _ w298 ⟨C299, rfl, hs300, HX301⟩
     refine ⟨_, rfl, ?_⟩
     replace HX301 := Bx.res (U := [(0, 0), (1, 1)]) (j := 1) HX301 hs300 (by rfl) (by decide) rfl
     replace hs300 := Step.lift (U := [(0, 0), (1, 1)]) hs300 [1] rfl rfl
     generalize up C290 C299 w289.heap.size [(0, 0), (1, 1)] = C299_ at HX301 hs300
     replace HJ202 := HJ202.thru hs300 rfl
     replace HJ203 := HJ203.thru hs300 rfl
     replace HO242 := HO242.thru hs300 rfl
     replace HS200 := HS200.trans hs300 hc rfl
     (try simp only [ls0, ls1])
     refine as_ rfl ?_
     refine wl_end ?_
     (try simp only [ls0, ls1])
     exact jmp (fun g_ => hj265 _ _ _ (t294) (t295) g_ HS200 (by omega) HO242 HJ202 HJ203 HX301 H) rfl
    rw [if_neg c284] at H
    (try rw [(decide_eq_false c284)])
    refine wp_cond_false rfl ?_
    refine wp_skip ?_
    (try simp only [ls0, ls1])
    exact jmp (fun g_ => hj265 _ _ _ (t233) (t234) g_ HS200 (by omega) HO242 HJ202 HJ203 HX244 H) rfl
   rw [if_neg c230] at H
   (try rw [(decide_eq_false c230)])
   (try simp only [Bool.not_true, Bool.not_false])
   refine wp_cond_true rfl ?_
   refine wp_seq_k fun K302 hK302 => ?_
   refine wl_region ?_
   refine mv_ rfl ?_
   refine st (.slice none 0 0) rfl rfl (xr_assign _ rfl rfl) ?_
   refine as_ rfl ?_
   refine wl_end ?_
   (try simp only [ls0, ls1])
   refine hK302 _ _ ?_
   (try clear hK302 K302)
   refine wp_ret ?_
   (try simp only [Exit.inBlock, Exit.then, Exit.noGoto])
   (try simp only [ls0, ls1])
   simp only [Option.some.injEq, Prod.mk.injEq] at H
   obtain ⟨rfl, rfl, rfl⟩ := H
   refine bodyPost_ret (results_tmp2 rfl _ _ _) rfl ?_
   exact ⟨_, none, 0, rfl, HS200, (Own.nil _ _ _ _ _), (Nat.le_refl 0), HX228⟩
 refine wl_region ?_
 refine mv_ rfl ?_
 have HP303 : Ft c [0, 1] w (fun w_ => (Kd.ptr 111 k111).K w_ (some (⟨l0_0, l0_1, a0_2, a0_3⟩ : S111)) [.pointer (some ⟨g0, 0, none⟩)]) := ptr_mk (Ft.more (HP0.ft) rfl) (k111_mkF _ _ (⟨l0_0, l0_1, a0_2, a0_3⟩ : S111) HCP0_0 (Ft.more HP0_0 rfl) HCP0_1 (Ft.more HP0_1 rfl))
 obtain ⟨t304, A305, H⟩ := bnd H
 refine st_call #[.pointer (some ⟨g0, 0, none⟩)] rfl rfl Try.func43 (by kernel_rfl) rfl rfl (mp_ rfl) ?_
 refine (expr_Cursor_Peek.calls (.pointer (some ⟨g0, 0, none⟩)) (some (⟨l0_0, l0_1, a0_2, a0_3⟩ : S111) : Option S111) t304  (fun z_ => pal [(0, 0), (1, 0)] (c z_)) w (fun _ => pal_lt rfl _) (Ft.arg HP303 rfl) A305).mono ?_
 rintro _ w307 ⟨C308, rfl, hs309⟩
 refine ⟨_, rfl, ?_⟩
 replace hs309 := Step.lift (U := [(0, 0)]) hs309 [] rfl rfl
 generalize up c C308 w.heap.size [(0, 0)] = C308_ at hs309
 replace HP0 := HP0.thru hs309 rfl
 replace HP0_0 := HP0_0.thru hs309 rfl
 replace HP0_1 := HP0_1.thru hs309 rfl
 replace HS := HS.trans hs309 hc rfl
 (try simp only [ls0, ls1])
 refine st (.bool (decide (t304 = (⟨#[123]⟩ : ByteArray)))) rfl rfl (xr_bin _ _ _ rfl rfl rfl (B.eql_str _ _)) ?_
 refine mv_ rfl ?_
 by_cases c310 : t304 = (⟨#[123]⟩ : ByteArray)
 ·rw [if_pos c310] at H
  (try rw [(decide_eq_true c310)])
  refine on_guard (guard_on 3 true 12 rfl rfl rfl) ?_
  refine mv_ rfl ?_
  refine on_guard (guard_on 3 true 12 rfl rfl rfl) ?_
  refine st (.bool (decide (a1 ≥ 32))) rfl rfl (xr_bin _ _ _ rfl rfl rfl (B.geq_i64 _ _)) ?_
  simp only [ls0, ls1]
  refine st (.bool (decide (a1 ≥ 32))) rfl rfl (xr_pick true _ rfl rfl rfl) ?_
  refine wl_end ?_
  (try simp only [ls0, ls1])
  exact jmp (fun g_ => hj197 _ _ _ (decide (a1 ≥ 32)) g_ HS (by omega) HP0_0 HP0_1 HP0 H) rfl
 rw [if_neg c310] at H
 (try rw [(decide_eq_false c310)])
 refine sk_guard (guard_off 3 true 12 rfl rfl false (by decide) rfl) rfl ?_
 refine sk_guard (guard_off 3 true 12 rfl rfl false (by decide) rfl) rfl ?_
 refine st (.bool false) rfl rfl (xr_pick false _ rfl rfl rfl) ?_
 refine wl_end ?_
 (try simp only [ls0, ls1])
 exact jmp (fun g_ => hj197 _ _ _ (false) g_ HS (by omega) HP0_0 HP0_1 HP0 H) rfl

def Rec_stmt_Stmt.at : Nat → Rec_stmt_Stmt
  | 0 => ⟨fun x0 x1 x2 x3 x4 => none, fun x0 x1 x2 x3 x4 => none, fun x0 x1 x2 x3 x4 x5 x6 x7 x8 x9 x10 x11 x12 x13 x14 x15 x16 x17 x18 x19 x20 x21 => none, fun x0 x1 x2 x3 x4 x5 x6 x7 x8 x9 x10 x11 x12 x13 x14 x15 x16 x17 x18 x19 x20 x21 => none, fun x0 x1 x2 x3 x4 => none⟩
  | k + 1 => ⟨fun x0 x1 x2 x3 x4 => stmt_Stmt.g (Rec_stmt_Stmt.at k) k x0 x1 x2 x3 x4, fun x0 x1 x2 x3 x4 => stmt_Row.g (Rec_stmt_Stmt.at k) k x0 x1 x2 x3 x4, fun x0 x1 x2 x3 x4 x5 x6 x7 x8 x9 x10 x11 x12 x13 x14 x15 x16 x17 x18 x19 x20 x21 => stmt_read.g (Rec_stmt_Stmt.at k) k x0 x1 x2 x3 x4 x5 x6 x7 x8 x9 x10 x11 x12 x13 x14 x15 x16 x17 x18 x19 x20 x21, fun x0 x1 x2 x3 x4 x5 x6 x7 x8 x9 x10 x11 x12 x13 x14 x15 x16 x17 x18 x19 x20 x21 => stmt_asked.g (Rec_stmt_Stmt.at k) k x0 x1 x2 x3 x4 x5 x6 x7 x8 x9 x10 x11 x12 x13 x14 x15 x16 x17 x18 x19 x20 x21, fun x0 x1 x2 x3 x4 => stmt_block.g (Rec_stmt_Stmt.at k) k x0 x1 x2 x3 x4⟩
theorem Rec_stmt_Stmt.good : ∀ k, Rec_stmt_Stmt.Good (Rec_stmt_Stmt.at k)
  | 0 => ⟨(by intros; rename_i H; exact absurd H (by simp [Rec_stmt_Stmt.at])), (by intros; rename_i H; exact absurd H (by simp [Rec_stmt_Stmt.at])), (by intros; rename_i H; exact absurd H (by simp [Rec_stmt_Stmt.at])), (by intros; rename_i H; exact absurd H (by simp [Rec_stmt_Stmt.at])), (by intros; rename_i H; exact absurd H (by simp [Rec_stmt_Stmt.at]))⟩
  | k + 1 => ⟨stmt_Stmt.step (Rec_stmt_Stmt.at k) (Rec_stmt_Stmt.good k) k, stmt_Row.step (Rec_stmt_Stmt.at k) (Rec_stmt_Stmt.good k) k, stmt_read.step (Rec_stmt_Stmt.at k) (Rec_stmt_Stmt.good k) k, stmt_asked.step (Rec_stmt_Stmt.at k) (Rec_stmt_Stmt.good k) k, stmt_block.step (Rec_stmt_Stmt.at k) (Rec_stmt_Stmt.good k) k⟩
def stmt_Stmt.f (k : Nat) (x0 : List Int) (x1 : List (S28)) (x2 : Int) (x3 : Int) (x4 : Int) : Option (Int × Int × ByteArray × Int × Bool × Bool × ByteArray × Int × Int × Int × Int × Int × ByteArray × ByteArray × (List (S44)) × (List (S89)) × (List (S89)) × Int × Int) := (Rec_stmt_Stmt.at k).stmt_Stmt x0 x1 x2 x3 x4
theorem stmt_Stmt.calls : ∀ (k : Nat) (g0 : Nat) (A0_0 : Option Addr) (c0_0 : Nat) (l0_0 : List Int) (A0_1 : Option Addr) (c0_1 : Nat) (l0_1 : List (S28)) (a0_2 : Int) (a0_3 : Int) (a1 : Int) (r1 : Int) (r2 : Int) (r3 : ByteArray) (r4 : Int) (r5 : Bool) (r6 : Bool) (r7 : ByteArray) (r8 : Int) (r9 : Int) (r10 : Int) (r11 : Int) (r12 : Int) (r13 : ByteArray) (r14 : ByteArray) (r15 : List (S44)) (r16 : List (S89)) (r17 : List (S89)) (r18 : Int) (r19 : Int) (c : Nat → Nat) (w : World) (hc : ∀ k, c k < 10) (HP0 : Bx c 1 w g0 111 ([.slice A0_0 l0_0.length c0_0, .slice A0_1 l0_1.length c0_1, .int .i64 a0_2, .int .i64 a0_3])) (HP0_0 : Ft c [0] w (fun w_ => (Kd.int .u8).C w_ A0_0 l0_0.length l0_0)) (HCP0_0 : l0_0.length ≤ c0_0) (HP0_1 : Ft c [0] w (fun w_ => k28.C w_ A0_1 l0_1.length l0_1)) (HCP0_1 : l0_1.length ≤ c0_1) (H : stmt_Stmt.f k l0_0 l0_1 a0_2 a0_3 a1 = some (r1, r2, r3, r4, r5, r6, r7, r8, r9, r10, r11, r12, r13, r14, r15, r16, r17, r18, r19)),
    Calls Try.prog 62 #[.pointer (some ⟨g0, 0, none⟩), .int .i64 a1] w fun e w' => ∃ (c' : Nat → Nat) (A_r15 : Option Addr) (c_r15 : Nat) (A_r16 : Option Addr) (c_r16 : Nat) (A_r17 : Option Addr) (c_r17 : Nat), e = .returned (.tuple #[.agg #[.int .i64 r1, .int .i64 r2, .string r3, .int .i64 r4, .bool r5, .bool r6, .string r7, .int .i64 r8, .int .i64 r9, .int .i64 r10, .int .i64 r11, .int .i64 r12, .string r13, .string r14, .slice A_r15 r15.length c_r15, .slice A_r16 r16.length c_r16, .slice A_r17 r17.length c_r17], .int .i64 r18]) ∧ Step c w c' w' [1] ∧ Ft c' [0] w' (fun w_ => k44.C w_ A_r15 r15.length r15) ∧ r15.length ≤ c_r15 ∧ Ft c' [0] w' (fun w_ => k89.C w_ A_r16 r16.length r16) ∧ r16.length ≤ c_r16 ∧ Ft c' [0] w' (fun w_ => k89.C w_ A_r17 r17.length r17) ∧ r17.length ≤ c_r17 ∧ Bx c' 1 w' g0 111 ([.slice A0_0 l0_0.length c0_0, .slice A0_1 l0_1.length c0_1, .int .i64 r19, .int .i64 a0_3]) := fun k => (Rec_stmt_Stmt.good k).stmt_Stmt
def stmt_Row.f (k : Nat) (x0 : List Int) (x1 : List (S28)) (x2 : Int) (x3 : Int) (x4 : Int) : Option ((List (S89)) × Int × Int) := (Rec_stmt_Stmt.at k).stmt_Row x0 x1 x2 x3 x4
theorem stmt_Row.calls : ∀ (k : Nat) (g0 : Nat) (A0_0 : Option Addr) (c0_0 : Nat) (l0_0 : List Int) (A0_1 : Option Addr) (c0_1 : Nat) (l0_1 : List (S28)) (a0_2 : Int) (a0_3 : Int) (a1 : Int) (r1 : List (S89)) (r2 : Int) (r3 : Int) (c : Nat → Nat) (w : World) (hc : ∀ k, c k < 10) (HP0 : Bx c 1 w g0 111 ([.slice A0_0 l0_0.length c0_0, .slice A0_1 l0_1.length c0_1, .int .i64 a0_2, .int .i64 a0_3])) (HP0_0 : Ft c [0] w (fun w_ => (Kd.int .u8).C w_ A0_0 l0_0.length l0_0)) (HCP0_0 : l0_0.length ≤ c0_0) (HP0_1 : Ft c [0] w (fun w_ => k28.C w_ A0_1 l0_1.length l0_1)) (HCP0_1 : l0_1.length ≤ c0_1) (H : stmt_Row.f k l0_0 l0_1 a0_2 a0_3 a1 = some (r1, r2, r3)),
    Calls Try.prog 65 #[.pointer (some ⟨g0, 0, none⟩), .int .i64 a1] w fun e w' => ∃ (c' : Nat → Nat) (A_r1 : Option Addr) (c_r1 : Nat), e = .returned (.tuple #[.slice A_r1 r1.length c_r1, .int .i64 r2]) ∧ Step c w c' w' [1] ∧ Own c' 5 w' k89 89 (.slice A_r1 r1.length c_r1) r1 ∧ r1.length ≤ c_r1 ∧ Bx c' 1 w' g0 111 ([.slice A0_0 l0_0.length c0_0, .slice A0_1 l0_1.length c0_1, .int .i64 r3, .int .i64 a0_3]) := fun k => (Rec_stmt_Stmt.good k).stmt_Row
def stmt_read.f (k : Nat) (x0 : List Int) (x1 : List (S28)) (x2 : Int) (x3 : Int) (x4 : Int) (x5 : Int) (x6 : ByteArray) (x7 : Int) (x8 : Bool) (x9 : Bool) (x10 : ByteArray) (x11 : Int) (x12 : Int) (x13 : Int) (x14 : Int) (x15 : Int) (x16 : ByteArray) (x17 : ByteArray) (x18 : List (S44)) (x19 : List (S89)) (x20 : List (S89)) (x21 : Int) : Option (Int × Int × Int × ByteArray × Int × Bool × Bool × ByteArray × Int × Int × Int × Int × Int × ByteArray × ByteArray × (List (S44)) × (List (S89)) × (List (S89))) := (Rec_stmt_Stmt.at k).stmt_read x0 x1 x2 x3 x4 x5 x6 x7 x8 x9 x10 x11 x12 x13 x14 x15 x16 x17 x18 x19 x20 x21
theorem stmt_read.calls : ∀ (k : Nat) (g0 : Nat) (A0_0 : Option Addr) (c0_0 : Nat) (l0_0 : List Int) (A0_1 : Option Addr) (c0_1 : Nat) (l0_1 : List (S28)) (a0_2 : Int) (a0_3 : Int) (g1 : Nat) (a1_0 : Int) (a1_1 : Int) (a1_2 : ByteArray) (a1_3 : Int) (a1_4 : Bool) (a1_5 : Bool) (a1_6 : ByteArray) (a1_7 : Int) (a1_8 : Int) (a1_9 : Int) (a1_10 : Int) (a1_11 : Int) (a1_12 : ByteArray) (a1_13 : ByteArray) (A1_14 : Option Addr) (c1_14 : Nat) (l1_14 : List (S44)) (A1_15 : Option Addr) (c1_15 : Nat) (l1_15 : List (S89)) (A1_16 : Option Addr) (c1_16 : Nat) (l1_16 : List (S89)) (a2 : Int) (r1 : Int) (r2 : Int) (r3 : Int) (r4 : ByteArray) (r5 : Int) (r6 : Bool) (r7 : Bool) (r8 : ByteArray) (r9 : Int) (r10 : Int) (r11 : Int) (r12 : Int) (r13 : Int) (r14 : ByteArray) (r15 : ByteArray) (r16 : List (S44)) (r17 : List (S89)) (r18 : List (S89)) (c : Nat → Nat) (w : World) (hc : ∀ k, c k < 10) (HP0 : Bx c 1 w g0 111 ([.slice A0_0 l0_0.length c0_0, .slice A0_1 l0_1.length c0_1, .int .i64 a0_2, .int .i64 a0_3])) (HP0_0 : Ft c [0] w (fun w_ => (Kd.int .u8).C w_ A0_0 l0_0.length l0_0)) (HCP0_0 : l0_0.length ≤ c0_0) (HP0_1 : Ft c [0] w (fun w_ => k28.C w_ A0_1 l0_1.length l0_1)) (HCP0_1 : l0_1.length ≤ c0_1) (HP1 : Bx c 2 w g1 89 ([.int .i64 a1_0, .int .i64 a1_1, .string a1_2, .int .i64 a1_3, .bool a1_4, .bool a1_5, .string a1_6, .int .i64 a1_7, .int .i64 a1_8, .int .i64 a1_9, .int .i64 a1_10, .int .i64 a1_11, .string a1_12, .string a1_13, .slice A1_14 l1_14.length c1_14, .slice A1_15 l1_15.length c1_15, .slice A1_16 l1_16.length c1_16])) (HP1_14 : Ft c [0] w (fun w_ => k44.C w_ A1_14 l1_14.length l1_14)) (HCP1_14 : l1_14.length ≤ c1_14) (HP1_15 : Ft c [0] w (fun w_ => k89.C w_ A1_15 l1_15.length l1_15)) (HCP1_15 : l1_15.length ≤ c1_15) (HP1_16 : Ft c [0] w (fun w_ => k89.C w_ A1_16 l1_16.length l1_16)) (HCP1_16 : l1_16.length ≤ c1_16) (H : stmt_read.f k l0_0 l0_1 a0_2 a0_3 a1_0 a1_1 a1_2 a1_3 a1_4 a1_5 a1_6 a1_7 a1_8 a1_9 a1_10 a1_11 a1_12 a1_13 l1_14 l1_15 l1_16 a2 = some (r1, r2, r3, r4, r5, r6, r7, r8, r9, r10, r11, r12, r13, r14, r15, r16, r17, r18)),
    Calls Try.prog 88 #[.pointer (some ⟨g0, 0, none⟩), .pointer (some ⟨g1, 0, none⟩), .int .i64 a2] w fun e w' => ∃ (c' : Nat → Nat) (A_r16 : Option Addr) (c_r16 : Nat) (A_r17 : Option Addr) (c_r17 : Nat) (A_r18 : Option Addr) (c_r18 : Nat), e = .returned (.int .i64 r1) ∧ Step c w c' w' [1, 2] ∧ Ft c' [0] w' (fun w_ => k44.C w_ A_r16 r16.length r16) ∧ r16.length ≤ c_r16 ∧ Ft c' [0] w' (fun w_ => k89.C w_ A_r17 r17.length r17) ∧ r17.length ≤ c_r17 ∧ Ft c' [0] w' (fun w_ => k89.C w_ A_r18 r18.length r18) ∧ r18.length ≤ c_r18 ∧ Bx c' 1 w' g0 111 ([.slice A0_0 l0_0.length c0_0, .slice A0_1 l0_1.length c0_1, .int .i64 r2, .int .i64 a0_3]) ∧ Bx c' 2 w' g1 89 ([.int .i64 r3, .int .i64 a1_1, .string r4, .int .i64 r5, .bool r6, .bool r7, .string r8, .int .i64 r9, .int .i64 r10, .int .i64 r11, .int .i64 r12, .int .i64 r13, .string r14, .string r15, .slice A_r16 r16.length c_r16, .slice A_r17 r17.length c_r17, .slice A_r18 r18.length c_r18]) := fun k => (Rec_stmt_Stmt.good k).stmt_read
def stmt_asked.f (k : Nat) (x0 : List Int) (x1 : List (S28)) (x2 : Int) (x3 : Int) (x4 : Int) (x5 : Int) (x6 : ByteArray) (x7 : Int) (x8 : Bool) (x9 : Bool) (x10 : ByteArray) (x11 : Int) (x12 : Int) (x13 : Int) (x14 : Int) (x15 : Int) (x16 : ByteArray) (x17 : ByteArray) (x18 : List (S44)) (x19 : List (S89)) (x20 : List (S89)) (x21 : Int) : Option (Int × Int × Int × Int × Int × ByteArray × ByteArray × (List (S44)) × (List (S89))) := (Rec_stmt_Stmt.at k).stmt_asked x0 x1 x2 x3 x4 x5 x6 x7 x8 x9 x10 x11 x12 x13 x14 x15 x16 x17 x18 x19 x20 x21
theorem stmt_asked.calls : ∀ (k : Nat) (g0 : Nat) (A0_0 : Option Addr) (c0_0 : Nat) (l0_0 : List Int) (A0_1 : Option Addr) (c0_1 : Nat) (l0_1 : List (S28)) (a0_2 : Int) (a0_3 : Int) (g1 : Nat) (a1_0 : Int) (a1_1 : Int) (a1_2 : ByteArray) (a1_3 : Int) (a1_4 : Bool) (a1_5 : Bool) (a1_6 : ByteArray) (a1_7 : Int) (a1_8 : Int) (a1_9 : Int) (a1_10 : Int) (a1_11 : Int) (a1_12 : ByteArray) (a1_13 : ByteArray) (A1_14 : Option Addr) (c1_14 : Nat) (l1_14 : List (S44)) (A1_15 : Option Addr) (c1_15 : Nat) (l1_15 : List (S89)) (A1_16 : Option Addr) (c1_16 : Nat) (l1_16 : List (S89)) (a2 : Int) (r1 : Int) (r2 : Int) (r3 : Int) (r4 : Int) (r5 : Int) (r6 : ByteArray) (r7 : ByteArray) (r8 : List (S44)) (r9 : List (S89)) (c : Nat → Nat) (w : World) (hc : ∀ k, c k < 10) (HP0 : Bx c 1 w g0 111 ([.slice A0_0 l0_0.length c0_0, .slice A0_1 l0_1.length c0_1, .int .i64 a0_2, .int .i64 a0_3])) (HP0_0 : Ft c [0] w (fun w_ => (Kd.int .u8).C w_ A0_0 l0_0.length l0_0)) (HCP0_0 : l0_0.length ≤ c0_0) (HP0_1 : Ft c [0] w (fun w_ => k28.C w_ A0_1 l0_1.length l0_1)) (HCP0_1 : l0_1.length ≤ c0_1) (HP1 : Bx c 2 w g1 89 ([.int .i64 a1_0, .int .i64 a1_1, .string a1_2, .int .i64 a1_3, .bool a1_4, .bool a1_5, .string a1_6, .int .i64 a1_7, .int .i64 a1_8, .int .i64 a1_9, .int .i64 a1_10, .int .i64 a1_11, .string a1_12, .string a1_13, .slice A1_14 l1_14.length c1_14, .slice A1_15 l1_15.length c1_15, .slice A1_16 l1_16.length c1_16])) (HP1_14 : Ft c [0] w (fun w_ => k44.C w_ A1_14 l1_14.length l1_14)) (HCP1_14 : l1_14.length ≤ c1_14) (HP1_15 : Ft c [0] w (fun w_ => k89.C w_ A1_15 l1_15.length l1_15)) (HCP1_15 : l1_15.length ≤ c1_15) (HP1_16 : Ft c [0] w (fun w_ => k89.C w_ A1_16 l1_16.length l1_16)) (HCP1_16 : l1_16.length ≤ c1_16) (H : stmt_asked.f k l0_0 l0_1 a0_2 a0_3 a1_0 a1_1 a1_2 a1_3 a1_4 a1_5 a1_6 a1_7 a1_8 a1_9 a1_10 a1_11 a1_12 a1_13 l1_14 l1_15 l1_16 a2 = some (r1, r2, r3, r4, r5, r6, r7, r8, r9)),
    Calls Try.prog 107 #[.pointer (some ⟨g0, 0, none⟩), .pointer (some ⟨g1, 0, none⟩), .int .i64 a2] w fun e w' => ∃ (c' : Nat → Nat) (A_r8 : Option Addr) (c_r8 : Nat) (A_r9 : Option Addr) (c_r9 : Nat), e = .returned (.int .i64 r1) ∧ Step c w c' w' [1, 2] ∧ Ft c' [0] w' (fun w_ => k44.C w_ A_r8 r8.length r8) ∧ r8.length ≤ c_r8 ∧ Ft c' [0] w' (fun w_ => k89.C w_ A_r9 r9.length r9) ∧ r9.length ≤ c_r9 ∧ Bx c' 1 w' g0 111 ([.slice A0_0 l0_0.length c0_0, .slice A0_1 l0_1.length c0_1, .int .i64 r2, .int .i64 a0_3]) ∧ Bx c' 2 w' g1 89 ([.int .i64 a1_0, .int .i64 a1_1, .string a1_2, .int .i64 a1_3, .bool a1_4, .bool a1_5, .string a1_6, .int .i64 a1_7, .int .i64 a1_8, .int .i64 r3, .int .i64 r4, .int .i64 r5, .string r6, .string r7, .slice A_r8 r8.length c_r8, .slice A_r9 r9.length c_r9, .slice A1_16 l1_16.length c1_16]) := fun k => (Rec_stmt_Stmt.good k).stmt_asked
def stmt_block.f (k : Nat) (x0 : List Int) (x1 : List (S28)) (x2 : Int) (x3 : Int) (x4 : Int) : Option ((List (S89)) × Int × Int) := (Rec_stmt_Stmt.at k).stmt_block x0 x1 x2 x3 x4
theorem stmt_block.calls : ∀ (k : Nat) (g0 : Nat) (A0_0 : Option Addr) (c0_0 : Nat) (l0_0 : List Int) (A0_1 : Option Addr) (c0_1 : Nat) (l0_1 : List (S28)) (a0_2 : Int) (a0_3 : Int) (a1 : Int) (r1 : List (S89)) (r2 : Int) (r3 : Int) (c : Nat → Nat) (w : World) (hc : ∀ k, c k < 10) (HP0 : Bx c 1 w g0 111 ([.slice A0_0 l0_0.length c0_0, .slice A0_1 l0_1.length c0_1, .int .i64 a0_2, .int .i64 a0_3])) (HP0_0 : Ft c [0] w (fun w_ => (Kd.int .u8).C w_ A0_0 l0_0.length l0_0)) (HCP0_0 : l0_0.length ≤ c0_0) (HP0_1 : Ft c [0] w (fun w_ => k28.C w_ A0_1 l0_1.length l0_1)) (HCP0_1 : l0_1.length ≤ c0_1) (H : stmt_block.f k l0_0 l0_1 a0_2 a0_3 a1 = some (r1, r2, r3)),
    Calls Try.prog 108 #[.pointer (some ⟨g0, 0, none⟩), .int .i64 a1] w fun e w' => ∃ (c' : Nat → Nat) (A_r1 : Option Addr) (c_r1 : Nat), e = .returned (.tuple #[.slice A_r1 r1.length c_r1, .int .i64 r2]) ∧ Step c w c' w' [1] ∧ Own c' 5 w' k89 89 (.slice A_r1 r1.length c_r1) r1 ∧ r1.length ≤ c_r1 ∧ Bx c' 1 w' g0 111 ([.slice A0_0 l0_0.length c0_0, .slice A0_1 l0_1.length c0_1, .int .i64 r3, .int .i64 a0_3]) := fun k => (Rec_stmt_Stmt.good k).stmt_block

/-! ### stmt_Parse: function 55 -/
mutual
def stmt_Parse.j0 : Nat → (List Int) → (List Int) → (List (S28)) → Int → (List (S89)) → Int → Int → Option ((List (S89)) × Int × Int)
  | 0, _, _, _, _, _, _, _ => none
  | k + 1, l0, t196, t197, t199, t217, t219, x269 => if x269 = 0 then (some (t217, (l0.length : Int), 0)) else ((expr_Cursor_Pos.f (some (⟨t196, t197, t219, t199⟩ : S111) : Option S111)).bind fun t283 => (some (([] : List (S89)), t283, x269)))
def stmt_Parse.j1 : Nat → (List Int) → (List Int) → (List (S28)) → Int → (List (S89)) → Int → Int → Bool → Option ((List (S89)) × Int × Int)
  | 0, _, _, _, _, _, _, _, _ => none
  | k + 1, l0, t196, t197, t199, t217, t218, t219, x304 => if x304 = true then (stmt_Parse.j0 k l0 t196 t197 t199 t217 t219 11) else (stmt_Parse.j0 k l0 t196 t197 t199 t217 t219 t218)
end
def stmt_Parse.f (k : Nat) (l0 : List Int) : Option ((List (S89)) × Int × Int) := (lex_All.f k l0).bind fun t164 => ((lex_Bad.f k t164).bind fun bt174 => (if bt174.2.2.2 = true then (some (([] : List (S89)), bt174.2.1, 10)) else ((expr_New.f k l0).bind fun bt196 => ((stmt_Row.f k bt196.1 bt196.2.1 bt196.2.2.1 bt196.2.2.2 0).bind fun bt217 => (if bt217.2.1 = 0 then ((expr_Cursor_Done.f (some (⟨bt196.1, bt196.2.1, bt217.2.2, bt196.2.2.2⟩ : S111) : Option S111)).bind fun t315 => (stmt_Parse.j1 k l0 bt196.1 bt196.2.1 bt196.2.2.2 bt217.1 bt217.2.1 bt217.2.2 (!t315))) else (stmt_Parse.j1 k l0 bt196.1 bt196.2.1 bt196.2.2.2 bt217.1 bt217.2.1 bt217.2.2 false))))))

set_option maxHeartbeats 8000000 in
set_option maxRecDepth 100000 in
theorem stmt_Parse.calls (k : Nat) (A0 : Option Addr) (c0 : Nat) (l0 : List Int) (r1 : List (S89)) (r2 : Int) (r3 : Int) (c : Nat → Nat) (w : World) (hc : ∀ k, c k < 10) (HP0 : Ft c [0] w (fun w_ => (Kd.int .u8).C w_ A0 l0.length l0)) (HCP0 : l0.length ≤ c0) (H : stmt_Parse.f k l0 = some (r1, r2, r3)) :
    Calls Try.prog 55 #[.slice A0 l0.length c0] w fun e w' => ∃ (c' : Nat → Nat) (A_r1 : Option Addr) (c_r1 : Nat), e = .returned (.tuple #[.slice A_r1 r1.length c_r1, .int .i64 r2, .int .i64 r3]) ∧ Step c w c' w' [] ∧ Own c' 5 w' k89 89 (.slice A_r1 r1.length c_r1) r1 ∧ r1.length ≤ c_r1 := by
 unfold stmt_Parse.f at H
 have HS := Step.refl c w []
 go_enter Try.func55, Try.ntmps55
 refine wp_seq_k fun K161 hK161 => ?_
 refine wl_region ?_
 refine st (.slice none 0 0) rfl rfl (xr_assign _ rfl rfl) ?_
 refine st (.int .i64 0) rfl rfl (xr_assign _ rfl rfl) ?_
 refine st (.int .i64 0) rfl rfl (xr_assign _ rfl rfl) ?_
 refine wl_end ?_
 (try simp only [ls0, ls1])
 refine hK161 _ _ ?_
 (try clear hK161 K161)
 refine wp_seq_k fun K162 hK162 => ?_
 refine wp_seq_k fun K163 hK163 => ?_
 refine wl_region ?_
 refine mv_ rfl ?_
 obtain ⟨t164, A165, H⟩ := bnd H
 refine st_call #[.slice A0 l0.length c0] rfl rfl Try.func18 (by kernel_rfl) rfl rfl (mp_ rfl) ?_
 refine (lex_All.calls k A0 c0 l0 t164  (fun z_ => pal [(0, 0)] (c z_)) w (fun _ => pal_lt rfl _) (Ft.arg HP0 rfl) HCP0 A165).mono ?_
 rintro _ w167 ⟨C168, A170, cp171, rfl, hs169, HO172, HC173⟩
 refine ⟨_, rfl, ?_⟩
 replace HO172 := Own.res (U := [(0, 0), (5, 11)]) (j := 11) HO172 hs169 (by rfl) (by decide) rfl rfl
 replace hs169 := Step.lift (U := [(0, 0), (5, 11)]) hs169 [] rfl rfl
 generalize up c C168 w.heap.size [(0, 0), (5, 11)] = C168_ at HO172 hs169
 replace HP0 := HP0.thru hs169 rfl
 replace HS := HS.trans hs169 hc rfl
 (try simp only [ls0, ls1])
 obtain ⟨⟨t174, t175, t176, t177⟩, A178, H⟩ := bnd H
 (try dsimp only at H)
 refine st_call #[.slice A170 t164.length cp171] rfl rfl Try.func26 (by kernel_rfl) rfl rfl (mp_ rfl) ?_
 refine (lex_Bad.calls k A170 cp171 t164 t174 t175 t176 t177  (fun z_ => pal [(0, 0), (11, 0)] (C168_ z_)) w167 (fun _ => pal_lt rfl _) (Ft.arg (HO172.ft) rfl) HC173 A178).mono ?_
 rintro _ w180 ⟨C181, rfl, hs182⟩
 refine ⟨_, rfl, ?_⟩
 replace hs182 := Step.lift (U := [(0, 0)]) hs182 [] rfl rfl
 generalize up C168_ C181 w167.heap.size [(0, 0)] = C181_ at hs182
 replace HP0 := HP0.thru hs182 rfl
 replace HS := HS.trans hs182 hc rfl
 (try simp only [ls0, ls1])
 refine mv_ rfl ?_
 refine st (.agg #[.int .i64 t174, .int .i64 t175, .int .i64 t176]) rfl rfl (xr_extract (.tuple #[.agg #[.int .i64 t174, .int .i64 t175, .int .i64 t176], .bool t177]) _ rfl rfl rfl) ?_
 refine st (.bool t177) rfl rfl (xr_extract (.tuple #[.agg #[.int .i64 t174, .int .i64 t175, .int .i64 t176], .bool t177]) _ rfl rfl rfl) ?_
 refine bx_new (C := C181_) 28 ([.int .i64 0, .int .i64 0, .int .i64 0]) 12 rfl rfl (by first | (go_simp; done) | (go_simp; rfl)) ?_
 intro g183 w184 C185 HX186 hs187
 replace HP0 := HP0.thru hs187 rfl
 replace HS := HS.trans hs187 hc rfl
 (try simp only [ls0, ls1])
 refine bx_store (C := C185) (z := 12) (g := g183) (j := 0) (tb := 28) (u := .agg #[.int .i64 t174, .int .i64 t175, .int .i64 t176]) (seg := [.int .i64 t174, .int .i64 t175, .int .i64 t176]) (xs := [.int .i64 0, .int .i64 0, .int .i64 0]) rfl rfl rfl rfl rfl rfl (by first | kernel_rfl | rfl) (by simp [Value.oneCell']) HX186 (by simp only [List.length_cons, List.length_nil]; omega) rfl ?_
 intro w188 HX189 hs190
 replace HP0 := HP0.thru hs190 rfl
 replace HS := HS.trans hs190 hc rfl
 (try simp only [ls0, ls1])
 refine as_ rfl ?_
 refine wl_end ?_
 (try simp only [ls0, ls1])
 refine hK163 _ _ ?_
 (try clear hK163 K163)
 refine wp_seq_k fun K191 hK191 => ?_
 refine wl_region ?_
 refine mv_ rfl ?_
 refine wl_end ?_
 (try simp only [ls0, ls1])
 refine hK191 _ _ ?_
 (try clear hK191 K191)
 by_cases c192 : t177 = true
 ·rw [if_pos c192] at H
  (try rw [c192])
  refine wp_cond_true rfl ?_
  refine wp_seq_k fun K193 hK193 => ?_
  (try simp only [ls0, ls1])
  refine al_start (lb 5 0) rfl rfl rfl (fun w_ => w_.heap[g183]? = some (.cells (List.toArray ([.int .i64 t174, .int .i64 t175, .int .i64 t176])) 28 (0, 0))) (HX189.drew).2 [] ?_
  replace HP0 := HP0.drew
  replace HX189 := HX189.drew
  replace HS := Step.ofDrew HS
  generalize w188.drew = w194 at *
  refine al_pure 0 15 (.pointer (some ⟨g183, 1, none⟩)) (lb 5 1) rfl rfl (by kernel_rfl) (fun _ _ _ => id) rfl (fun w_ => xr_fieldAddr _ _ rfl rfl (bx_field2 Try.underlying28 rfl rfl (by kernel_rfl))) ?_
  refine al_pure 2 2 (.slice none 0 0) (lb 5 5) rfl rfl (by kernel_rfl) (fun _ _ _ => id) rfl (fun w_ => xr_assign _ rfl rfl) ?_
  refine al_take 1 16 (.int .i64 t175) (lb 5 7) rfl rfl (by kernel_rfl) (fun _ _ _ => id) rfl (fun w_ hS_ => xr_load _ _ rfl rfl (load_cell Try.underlying3 rfl (bx_cell hS_ 1 rfl))) (HX189).2 ?_
  refine al_as 3 (lb 5 15) rfl rfl (by kernel_rfl) (fun _ _ _ => id) rfl ?_
  simp only [ls0, ls1]
  refine al_pure 4 4 (.int .i64 10) (lb 5 31) rfl rfl (by kernel_rfl) (fun _ _ _ => id) rfl (fun w_ => xr_assign _ rfl rfl) ?_
  refine al_end (by kernel_rfl) ?_
  (try simp only [ls0, ls1])
  refine hK193 _ _ ?_
  (try clear hK193 K193)
  refine wp_ret ?_
  (try simp only [Exit.inBlock, Exit.then, Exit.noGoto])
  (try simp only [ls0, ls1])
  simp only [Option.some.injEq, Prod.mk.injEq] at H
  obtain ⟨rfl, rfl, rfl⟩ := H
  refine bodyPost_ret (results_tmp3 rfl _ _ _) rfl ?_
  exact ⟨_, none, 0, rfl, HS, (Own.nil _ _ _ _ _), (Nat.le_refl 0)⟩
 rw [if_neg c192] at H
 (try rw [(Bool.eq_false_iff.mpr c192)])
 refine wp_cond_false rfl ?_
 refine wp_skip ?_
 (try simp only [ls0, ls1])
 refine hK162 _ _ ?_
 (try clear hK162 K162)
 refine wp_seq_k fun K195 hK195 => ?_
 refine wl_region ?_
 refine mv_ rfl ?_
 obtain ⟨⟨t196, t197, t198, t199⟩, A200, H⟩ := bnd H
 (try dsimp only at H)
 refine st_call #[.slice A0 l0.length c0] rfl rfl Try.func40 (by kernel_rfl) rfl rfl (mp_ rfl) ?_
 refine (expr_New.calls k A0 c0 l0 t196 t197 t198 t199  (fun z_ => pal [(0, 0)] (C185 z_)) w188 (fun _ => pal_lt rfl _) (Ft.arg HP0 rfl) HCP0 A200).mono ?_
 rintro _ w202 ⟨C203, g205, A206, cp207, A210, cp211, rfl, hs204, HO208, HC209, HO212, HC213, HX214⟩
 refine ⟨_, rfl, ?_⟩
 replace HO208 := Ft.res (U := [(0, 0), (6, 13), (7, 14)]) HO208 hs204 [0] rfl rfl rfl
 replace HO212 := Own.res (U := [(0, 0), (6, 13), (7, 14)]) (j := 13) HO212 hs204 (by rfl) (by decide) rfl rfl
 replace HX214 := Bx.res (U := [(0, 0), (6, 13), (7, 14)]) (j := 14) HX214 hs204 (by rfl) (by decide) rfl
 replace hs204 := Step.lift (U := [(0, 0), (6, 13), (7, 14)]) hs204 [] rfl rfl
 generalize up C185 C203 w188.heap.size [(0, 0), (6, 13), (7, 14)] = C203_ at HO208 HO212 HX214 hs204
 replace HP0 := HP0.thru hs204 rfl
 replace HX189 := HX189.thru hs204 rfl
 replace HS := HS.trans hs204 hc rfl
 (try simp only [ls0, ls1])
 refine as_ rfl ?_
 refine wl_end ?_
 (try simp only [ls0, ls1])
 refine hK195 _ _ ?_
 (try clear hK195 K195)
 refine wp_seq_k fun K215 hK215 => ?_
 refine wl_region ?_
 refine mv_ rfl ?_
 replace HP0 := Ft.recol (a := 13) (b := 0) HP0 (.inl rfl)
 replace HX189 := Bx.recol (a := 13) (b := 0) HX189 (by decide)
 replace HX214 := Bx.recol (a := 13) (b := 0) HX214 (by decide)
 replace HO208 := Ft.recol (a := 13) (b := 0) HO208 (.inl rfl)
 have HR216 := Ft.recolor (a := 13) (b := 0) (HO212.ft) [0] rfl
 replace HS := Step.recol (a := 13) (b := 0) HS hc (by decide)
 obtain ⟨⟨t217, t218, t219⟩, A220, H⟩ := bnd H
 (try dsimp only at H)
 refine st_call #[.pointer (some ⟨g205, 0, none⟩), .int .i64 0] rfl rfl Try.func65 (by kernel_rfl) rfl rfl (mp_ rfl) ?_
 refine (stmt_Row.calls k g205 A206 cp207 t196 A210 cp211 t197 t198 t199 0 t217 t218 t219  (fun z_ => pal [(0, 0), (14, 1)] ((recol C203_ 13 0) z_)) w202 (fun _ => pal_lt rfl _) (Bx.arg HX214 rfl) (Ft.arg HO208 rfl) HC209 (Ft.arg HR216 rfl) HC213 A220).mono ?_
 rintro _ w222 ⟨C223, A225, cp226, rfl, hs224, HO227, HC228, HX229⟩
 refine ⟨_, rfl, ?_⟩
 replace HO227 := Own.res (U := [(0, 0), (1, 14), (5, 16)]) (j := 16) HO227 hs224 (by rfl) (by decide) rfl rfl
 replace HX229 := Bx.res (U := [(0, 0), (1, 14), (5, 16)]) (j := 14) HX229 hs224 (by rfl) (by decide) rfl
 replace hs224 := Step.lift (U := [(0, 0), (1, 14), (5, 16)]) hs224 [14] rfl rfl
 generalize up (recol C203_ 13 0) C223 w202.heap.size [(0, 0), (1, 14), (5, 16)] = C223_ at HO227 HX229 hs224
 replace HP0 := HP0.thru hs224 rfl
 replace HX189 := HX189.thru hs224 rfl
 replace HO208 := HO208.thru hs224 rfl
 replace HR216 := HR216.thru hs224 rfl
 replace HS := HS.trans hs224 hc rfl
 (try simp only [ls0, ls1])
 refine mv_ rfl ?_
 refine st (.slice A225 t217.length cp226) rfl rfl (xr_extract (.tuple #[.slice A225 t217.length cp226, .int .i64 t218]) _ rfl rfl rfl) ?_
 refine st (.int .i64 t218) rfl rfl (xr_extract (.tuple #[.slice A225 t217.length cp226, .int .i64 t218]) _ rfl rfl rfl) ?_
 refine as_ rfl ?_
 simp only [ls0, ls1]
 refine as_ rfl ?_
 refine wl_end ?_
 (try simp only [ls0, ls1])
 refine hK215 _ _ ?_
 (try clear hK215 K215)
 refine wp_seq_k fun K230 hK230 => ?_
 have hj263 : ∀ (kq274 : Nat) (C264 : Nat → Nat) (w265 : World) (x269 : Int) (g_ : Nat → Value), Step c w C264 w265 [] → kq274 ≤ k → (Ft C264 [0] w265 (fun w_ => (Kd.int .u8).C w_ A0 l0.length l0)) → (Own C264 16 w265 k89 89 (.slice A225 t217.length cp226) t217) → (Bx C264 12 w265 g183 28 ([.int .i64 t174, .int .i64 t175, .int .i64 t176])) → (Ft C264 [0] w265 (fun w_ => (Kd.int .u8).C w_ A206 t196.length t196)) → (Ft C264 [0] w265 (fun w_ => k28.C w_ A210 t197.length t197)) → (Bx C264 14 w265 g205 111 ([.slice A206 t196.length cp207, .slice A210 t197.length cp211, .int .i64 t219, .int .i64 t199])) → stmt_Parse.j0 kq274 l0 t196 t197 t199 t217 t219 x269 = some (r1, r2, r3) → K230 ⟨#[.slice A0 l0.length c0, (g_ 1), .slice A225 t217.length cp226, (g_ 3), .int .i64 x269, (g_ 5), (g_ 6), .pointer (some ⟨g205, 0, none⟩), (g_ 8), (g_ 9), (g_ 10), (g_ 11), (g_ 12), (g_ 13), (g_ 14), (g_ 15), (g_ 16), (g_ 17), (g_ 18), (g_ 19), (g_ 20), (g_ 21), (g_ 22), (g_ 23), (g_ 24), (g_ 25), (g_ 26), (g_ 27), (g_ 28), (g_ 29), (g_ 30), (g_ 31), (g_ 32), (g_ 33), (g_ 34), (g_ 35), (g_ 36), (g_ 37), (g_ 38)], []⟩ w265 := by
  intro kq274 C264 w265 x269 g_ HS266 hk275 HJ267 HJ268 HJ270 HJ271 HJ272 HJ273 H
  cases kq274 with
  | zero => exact absurd H (by simp [stmt_Parse.j0])
  | succ k276 =>
   simp only [stmt_Parse.j0] at H
   refine hK230 _ _ ?_
   (try clear hK230)
   refine wp_seq_k fun K277 hK277 => ?_
   refine wp_seq_k fun K278 hK278 => ?_
   refine wl_region ?_
   refine mv_ rfl ?_
   refine st (.bool (!decide (x269 = 0))) rfl rfl (xr_bin _ _ _ rfl rfl rfl (B.neq_i64 _ _)) ?_
   refine wl_end ?_
   (try simp only [ls0, ls1])
   refine hK278 _ _ ?_
   (try clear hK278 K278)
   by_cases c279 : x269 = 0
   ·rw [if_pos c279] at H
    (try rw [(decide_eq_true c279)])
    (try simp only [Bool.not_true, Bool.not_false])
    refine wp_cond_false rfl ?_
    refine wp_skip ?_
    (try simp only [ls0, ls1])
    refine hK277 _ _ ?_
    (try clear hK277 K277)
    refine wp_seq_k fun K280 hK280 => ?_
    refine wl_region ?_
    refine mv_ rfl ?_
    refine mv_ rfl ?_
    refine st (.int .i64 (l0.length : Int)) rfl rfl (xr_builtin #[.slice A0 l0.length c0] (.int .i64 (l0.length : Int)) rfl (mp_ rfl) (by first | rfl | (go_simp; done) | (go_simp; rfl) | (go_simp; exact i64_w _) | (go_simp; exact i32_w _))) ?_
    refine as_ rfl ?_
    simp only [ls0, ls1]
    refine as_ rfl ?_
    refine st (.int .i64 0) rfl rfl (xr_assign _ rfl rfl) ?_
    refine wl_end ?_
    (try simp only [ls0, ls1])
    refine hK280 _ _ ?_
    (try clear hK280 K280)
    refine wp_ret ?_
    (try simp only [Exit.inBlock, Exit.then, Exit.noGoto])
    (try simp only [ls0, ls1])
    replace HJ267 := Ft.recol (a := 16) (b := 5) HJ267 (.inl rfl)
    replace HJ268 := Own.recolor (b := 5) HJ268 (by decide)
    replace HJ270 := Bx.recol (a := 16) (b := 5) HJ270 (by decide)
    replace HJ273 := Bx.recol (a := 16) (b := 5) HJ273 (by decide)
    replace HJ271 := Ft.recol (a := 16) (b := 5) HJ271 (.inl rfl)
    replace HJ272 := Ft.recol (a := 16) (b := 5) HJ272 (.inl rfl)
    replace HS266 := Step.recol (a := 16) (b := 5) HS266 hc (by decide)
    simp only [Option.some.injEq, Prod.mk.injEq] at H
    obtain ⟨rfl, rfl, rfl⟩ := H
    refine bodyPost_ret (results_tmp3 rfl _ _ _) rfl ?_
    exact ⟨_, A225, cp226, rfl, HS266, HJ268, HC228⟩
   rw [if_neg c279] at H
   (try rw [(decide_eq_false c279)])
   (try simp only [Bool.not_true, Bool.not_false])
   refine wp_cond_true rfl ?_
   refine wp_seq_k fun K281 hK281 => ?_
   refine wl_region ?_
   refine mv_ rfl ?_
   have HP282 : Ft C264 [0, 14] w265 (fun w_ => (Kd.ptr 111 k111).K w_ (some (⟨t196, t197, t219, t199⟩ : S111)) [.pointer (some ⟨g205, 0, none⟩)]) := ptr_mk (Ft.more (HJ273.ft) rfl) (k111_mkF _ _ (⟨t196, t197, t219, t199⟩ : S111) HC209 (Ft.more HJ271 rfl) HC213 (Ft.more HJ272 rfl))
   obtain ⟨t283, A284, H⟩ := bnd H
   refine st_call #[.pointer (some ⟨g205, 0, none⟩)] rfl rfl Try.func44 (by kernel_rfl) rfl rfl (mp_ rfl) ?_
   refine (expr_Cursor_Pos.calls (.pointer (some ⟨g205, 0, none⟩)) (some (⟨t196, t197, t219, t199⟩ : S111) : Option S111) t283  (fun z_ => pal [(0, 0), (14, 0)] (C264 z_)) w265 (fun _ => pal_lt rfl _) (Ft.arg HP282 rfl) A284).mono ?_
   rintro _ w286 ⟨C287, rfl, hs288⟩
   refine ⟨_, rfl, ?_⟩
   replace hs288 := Step.lift (U := [(0, 0)]) hs288 [] rfl rfl
   generalize up C264 C287 w265.heap.size [(0, 0)] = C287_ at hs288
   replace HJ270 := HJ270.thru hs288 rfl
   replace HJ273 := HJ273.thru hs288 rfl
   replace HJ271 := HJ271.thru hs288 rfl
   replace HJ272 := HJ272.thru hs288 rfl
   replace HS266 := HS266.trans hs288 hc rfl
   (try simp only [ls0, ls1])
   refine mv_ rfl ?_
   refine st (.slice none 0 0) rfl rfl (xr_assign _ rfl rfl) ?_
   refine as_ rfl ?_
   refine as_ rfl ?_
   simp only [ls0, ls1]
   refine wl_end ?_
   (try simp only [ls0, ls1])
   refine hK281 _ _ ?_
   (try clear hK281 K281)
   refine wp_ret ?_
   (try simp only [Exit.inBlock, Exit.then, Exit.noGoto])
   (try simp only [ls0, ls1])
   simp only [Option.some.injEq, Prod.mk.injEq] at H
   obtain ⟨rfl, rfl, rfl⟩ := H
   refine bodyPost_ret (results_tmp3 rfl _ _ _) rfl ?_
   exact ⟨_, none, 0, rfl, HS266, (Own.nil _ _ _ _ _), (Nat.le_refl 0)⟩
 refine wp_seq_k fun K289 hK289 => ?_
 have hj298 : ∀ (kq309 : Nat) (C299 : Nat → Nat) (w300 : World) (x304 : Bool) (g_ : Nat → Value), Step c w C299 w300 [] → kq309 ≤ k → (Ft C299 [0] w300 (fun w_ => (Kd.int .u8).C w_ A0 l0.length l0)) → (Own C299 16 w300 k89 89 (.slice A225 t217.length cp226) t217) → (Bx C299 12 w300 g183 28 ([.int .i64 t174, .int .i64 t175, .int .i64 t176])) → (Ft C299 [0] w300 (fun w_ => (Kd.int .u8).C w_ A206 t196.length t196)) → (Ft C299 [0] w300 (fun w_ => k28.C w_ A210 t197.length t197)) → (Bx C299 14 w300 g205 111 ([.slice A206 t196.length cp207, .slice A210 t197.length cp211, .int .i64 t219, .int .i64 t199])) → stmt_Parse.j1 kq309 l0 t196 t197 t199 t217 t218 t219 x304 = some (r1, r2, r3) → K289 ⟨#[.slice A0 l0.length c0, (g_ 1), .slice A225 t217.length cp226, (g_ 3), .int .i64 t218, (g_ 5), (g_ 6), .pointer (some ⟨g205, 0, none⟩), (g_ 8), (g_ 9), (g_ 10), (g_ 11), (g_ 12), (g_ 13), (g_ 14), (g_ 15), (g_ 16), (g_ 17), (g_ 18), (g_ 19), (g_ 20), (g_ 21), (g_ 22), (g_ 23), (g_ 24), (g_ 25), (g_ 26), (g_ 27), (g_ 28), (g_ 29), .bool x304, (g_ 31), (g_ 32), (g_ 33), (g_ 34), (g_ 35), (g_ 36), (g_ 37), (g_ 38)], []⟩ w300 := by
  intro kq309 C299 w300 x304 g_ HS301 hk310 HJ302 HJ303 HJ305 HJ306 HJ307 HJ308 H
  cases kq309 with
  | zero => exact absurd H (by simp [stmt_Parse.j1])
  | succ k311 =>
   simp only [stmt_Parse.j1] at H
   refine hK289 _ _ ?_
   (try clear hK289)
   by_cases c312 : x304 = true
   ·rw [if_pos c312] at H
    (try rw [c312])
    refine wp_cond_true rfl ?_
    refine wl_region ?_
    refine st (.int .i64 11) rfl rfl (xr_assign _ rfl rfl) ?_
    refine wl_end ?_
    (try simp only [ls0, ls1])
    exact jmp (fun g_ => hj263 _ _ _ (11) g_ HS301 (by omega) HJ302 HJ303 HJ305 HJ306 HJ307 HJ308 H) rfl
   rw [if_neg c312] at H
   (try rw [(Bool.eq_false_iff.mpr c312)])
   refine wp_cond_false rfl ?_
   refine wp_skip ?_
   (try simp only [ls0, ls1])
   exact jmp (fun g_ => hj263 _ _ _ (t218) g_ HS301 (by omega) HJ302 HJ303 HJ305 HJ306 HJ307 HJ308 H) rfl
 refine wl_region ?_
 refine mv_ rfl ?_
 refine st (.bool (decide (t218 = 0))) rfl rfl (xr_bin _ _ _ rfl rfl rfl (B.eql_i64 _ _)) ?_
 refine mv_ rfl ?_
 by_cases c313 : t218 = 0
 ·rw [if_pos c313] at H
  (try rw [(decide_eq_true c313)])
  refine on_guard (guard_on 2 true 26 rfl rfl rfl) ?_
  refine mv_ rfl ?_
  simp only [ls0, ls1]
  refine on_guard (guard_on 2 true 26 rfl rfl rfl) ?_
  have HP314 : Ft C223_ [0, 14] w222 (fun w_ => (Kd.ptr 111 k111).K w_ (some (⟨t196, t197, t219, t199⟩ : S111)) [.pointer (some ⟨g205, 0, none⟩)]) := ptr_mk (Ft.more (HX229.ft) rfl) (k111_mkF _ _ (⟨t196, t197, t219, t199⟩ : S111) HC209 (Ft.more HO208 rfl) HC213 (Ft.more HR216 rfl))
  obtain ⟨t315, A316, H⟩ := bnd H
  refine st_call #[.pointer (some ⟨g205, 0, none⟩)] rfl rfl Try.func47 (by kernel_rfl) rfl rfl (mp_ rfl) ?_
  refine (expr_Cursor_Done.calls (.pointer (some ⟨g205, 0, none⟩)) (some (⟨t196, t197, t219, t199⟩ : S111) : Option S111) t315  (fun z_ => pal [(0, 0), (14, 0)] (C223_ z_)) w222 (fun _ => pal_lt rfl _) (Ft.arg HP314 rfl) A316).mono ?_
  rintro _ w318 ⟨C319, rfl, hs320⟩
  refine ⟨_, rfl, ?_⟩
  replace hs320 := Step.lift (U := [(0, 0)]) hs320 [] rfl rfl
  generalize up C223_ C319 w222.heap.size [(0, 0)] = C319_ at hs320
  replace HP0 := HP0.thru hs320 rfl
  replace HO227 := HO227.thru hs320 rfl
  replace HX189 := HX189.thru hs320 rfl
  replace HX229 := HX229.thru hs320 rfl
  replace HO208 := HO208.thru hs320 rfl
  replace HR216 := HR216.thru hs320 rfl
  replace HS := HS.trans hs320 hc rfl
  (try simp only [ls0, ls1])
  refine on_guard (guard_on 2 true 26 rfl rfl rfl) ?_
  refine st (.bool (!t315)) rfl rfl (xr_un (.bool t315) _ rfl rfl (by first | rfl | (go_simp; done) | (go_simp; rfl) | (go_simp; exact i64_w _) | (go_simp; exact i32_w _))) ?_
  refine st (.bool (!t315)) rfl rfl (xr_pick true _ rfl rfl rfl) ?_
  refine wl_end ?_
  (try simp only [ls0, ls1])
  exact jmp (fun g_ => hj298 _ _ _ (!t315) g_ HS (by omega) HP0 HO227 HX189 HO208 HR216 HX229 H) rfl
 rw [if_neg c313] at H
 (try rw [(decide_eq_false c313)])
 refine sk_guard (guard_off 2 true 26 rfl rfl false (by decide) rfl) rfl ?_
 refine sk_guard (guard_off 2 true 26 rfl rfl false (by decide) rfl) rfl ?_
 refine sk_guard (guard_off 2 true 26 rfl rfl false (by decide) rfl) rfl ?_
 refine st (.bool false) rfl rfl (xr_pick false _ rfl rfl rfl) ?_
 simp only [ls0, ls1]
 refine wl_end ?_
 (try simp only [ls0, ls1])
 exact jmp (fun g_ => hj298 _ _ _ (false) g_ HS (by omega) HP0 HO227 HX189 HO208 HR216 HX229 H) rfl

end Go.Proofs.Yteoccoklbmjiaaa.PStn
