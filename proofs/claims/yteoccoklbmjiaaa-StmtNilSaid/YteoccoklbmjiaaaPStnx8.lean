-- By cprint.py, a program of this work. Lean checks it.
import Derived.Test.YteoccoklbmjiaaaPStnx0
import Derived.Test.YteoccoklbmjiaaaPStnx2
import Derived.Test.YteoccoklbmjiaaaPStnx3
import Derived.Test.YteoccoklbmjiaaaPStnx7
namespace Go.Proofs.Yteoccoklbmjiaaa.PStn
open Go.RowKit Go.Proofs.YteoccoklbmjiaaaW.PrintWords Go.Proofs.YteoccoklbmjiaaaW.PrintLast Go.Proofs.YteoccoklbmjiaaaW.PrintMore
set_option linter.unusedVariables false
set_option linter.unusedSimpArgs false

/-! ### stmt_other: function 110 -/
def stmt_other.f (k : Nat) (l0_0 : List Int) (l0_1 : List (S28)) (a0_2 : Int) (a0_3 : Int) (a1_0 : Int) (a1_1 : Int) (a1_2 : ByteArray) (a1_3 : Int) (a1_4 : Bool) (a1_5 : Bool) (a1_6 : ByteArray) (a1_7 : Int) (a1_8 : Int) (a1_9 : Int) (a1_10 : Int) (a1_11 : Int) (a1_12 : ByteArray) (a1_13 : ByteArray) (l1_14 : List (S44)) (l1_15 : List (S89)) (l1_16 : List (S89)) : Option (Int × Int × Int × ByteArray × Int × Int × Int × ByteArray × ByteArray × (List (S44))) := (expr_Cursor_Expr.f k l0_0 l0_1 a0_2 a0_3).bind fun bt94 => (if bt94.2.2.2.2.2.2.1 = 0 then (if bt94.1 = 2 then ((stmt_set.f k l0_0 l0_1 bt94.2.2.2.2.2.2.2 a0_3 1 a1_1 bt94.2.2.2.1 a1_3 a1_4 a1_5 a1_6 a1_7 a1_8 a1_9 a1_10 a1_11 a1_12 a1_13 l1_14 l1_15 l1_16).bind fun bt134 => (some (bt134.1, bt134.2.1, 1, bt94.2.2.2.1, bt134.2.2.1, bt134.2.2.2.1, bt134.2.2.2.2.1, bt134.2.2.2.2.2.1, bt134.2.2.2.2.2.2.1, bt134.2.2.2.2.2.2.2))) else (if bt94.1 = 3 then ((some ([(⟨#[59]⟩ : ByteArray)] : List ByteArray)).bind fun y164 => ((stmt_must.f k l0_0 l0_1 bt94.2.2.2.2.2.2.2 a0_3 y164).bind fun bt173 => (some (bt173.1, bt173.2, 5, a1_2, bt94.1, bt94.2.1, bt94.2.2.1, bt94.2.2.2.1, bt94.2.2.2.2.1, bt94.2.2.2.2.2.1)))) else (some (11, bt94.2.2.2.2.2.2.2, a1_0, a1_2, a1_9, a1_10, a1_11, a1_12, a1_13, l1_14)))) else (some (bt94.2.2.2.2.2.2.1, bt94.2.2.2.2.2.2.2, a1_0, a1_2, a1_9, a1_10, a1_11, a1_12, a1_13, l1_14)))

set_option maxHeartbeats 8000000 in
set_option maxRecDepth 100000 in
theorem stmt_other.calls (k : Nat) (g0 : Nat) (A0_0 : Option Addr) (c0_0 : Nat) (l0_0 : List Int) (A0_1 : Option Addr) (c0_1 : Nat) (l0_1 : List (S28)) (a0_2 : Int) (a0_3 : Int) (g1 : Nat) (a1_0 : Int) (a1_1 : Int) (a1_2 : ByteArray) (a1_3 : Int) (a1_4 : Bool) (a1_5 : Bool) (a1_6 : ByteArray) (a1_7 : Int) (a1_8 : Int) (a1_9 : Int) (a1_10 : Int) (a1_11 : Int) (a1_12 : ByteArray) (a1_13 : ByteArray) (A1_14 : Option Addr) (c1_14 : Nat) (l1_14 : List (S44)) (A1_15 : Option Addr) (c1_15 : Nat) (l1_15 : List (S89)) (A1_16 : Option Addr) (c1_16 : Nat) (l1_16 : List (S89)) (r1 : Int) (r2 : Int) (r3 : Int) (r4 : ByteArray) (r5 : Int) (r6 : Int) (r7 : Int) (r8 : ByteArray) (r9 : ByteArray) (r10 : List (S44)) (c : Nat → Nat) (w : World) (hc : ∀ k, c k < 10) (HP0 : Bx c 2 w g0 111 ([.slice A0_0 l0_0.length c0_0, .slice A0_1 l0_1.length c0_1, .int .i64 a0_2, .int .i64 a0_3])) (HP0_0 : Ft c [0] w (fun w_ => (Kd.int .u8).C w_ A0_0 l0_0.length l0_0)) (HCP0_0 : l0_0.length ≤ c0_0) (HP0_1 : Ft c [0] w (fun w_ => k28.C w_ A0_1 l0_1.length l0_1)) (HCP0_1 : l0_1.length ≤ c0_1) (HP1 : Bx c 1 w g1 89 ([.int .i64 a1_0, .int .i64 a1_1, .string a1_2, .int .i64 a1_3, .bool a1_4, .bool a1_5, .string a1_6, .int .i64 a1_7, .int .i64 a1_8, .int .i64 a1_9, .int .i64 a1_10, .int .i64 a1_11, .string a1_12, .string a1_13, .slice A1_14 l1_14.length c1_14, .slice A1_15 l1_15.length c1_15, .slice A1_16 l1_16.length c1_16])) (HP1_14 : Ft c [0] w (fun w_ => k44.C w_ A1_14 l1_14.length l1_14)) (HCP1_14 : l1_14.length ≤ c1_14) (HP1_15 : Ft c [0] w (fun w_ => k89.C w_ A1_15 l1_15.length l1_15)) (HCP1_15 : l1_15.length ≤ c1_15) (HP1_16 : Ft c [0] w (fun w_ => k89.C w_ A1_16 l1_16.length l1_16)) (HCP1_16 : l1_16.length ≤ c1_16) (H : stmt_other.f k l0_0 l0_1 a0_2 a0_3 a1_0 a1_1 a1_2 a1_3 a1_4 a1_5 a1_6 a1_7 a1_8 a1_9 a1_10 a1_11 a1_12 a1_13 l1_14 l1_15 l1_16 = some (r1, r2, r3, r4, r5, r6, r7, r8, r9, r10)) :
    Calls Try.prog 110 #[.pointer (some ⟨g0, 0, none⟩), .pointer (some ⟨g1, 0, none⟩)] w fun e w' => ∃ (c' : Nat → Nat) (A_r10 : Option Addr) (c_r10 : Nat), e = .returned (.int .i64 r1) ∧ Step c w c' w' [1, 2] ∧ Ft c' [0] w' (fun w_ => k44.C w_ A_r10 r10.length r10) ∧ r10.length ≤ c_r10 ∧ Bx c' 2 w' g0 111 ([.slice A0_0 l0_0.length c0_0, .slice A0_1 l0_1.length c0_1, .int .i64 r2, .int .i64 a0_3]) ∧ Bx c' 1 w' g1 89 ([.int .i64 r3, .int .i64 a1_1, .string r4, .int .i64 a1_3, .bool a1_4, .bool a1_5, .string a1_6, .int .i64 a1_7, .int .i64 a1_8, .int .i64 r5, .int .i64 r6, .int .i64 r7, .string r8, .string r9, .slice A_r10 r10.length c_r10, .slice A1_15 l1_15.length c1_15, .slice A1_16 l1_16.length c1_16]) := by
 unfold stmt_other.f at H
 have HS := Step.refl c w [1, 2]
 go_enter Try.func110, Try.ntmps110
 refine wp_seq_k fun K92 hK92 => ?_
 refine wl_region ?_
 refine st (.int .i64 0) rfl rfl (xr_assign _ rfl rfl) ?_
 refine wl_end ?_
 (try simp only [ls0, ls1])
 refine hK92 _ _ ?_
 (try clear hK92 K92)
 refine wp_seq_k fun K93 hK93 => ?_
 refine wl_region ?_
 refine mv_ rfl ?_
 obtain ⟨⟨t94, t95, t96, t97, t98, t99, t100, t101⟩, A102, H⟩ := bnd H
 (try dsimp only at H)
 refine st_call #[.pointer (some ⟨g0, 0, none⟩)] rfl rfl Try.func51 (by kernel_rfl) rfl rfl (mp_ rfl) ?_
 refine (expr_Cursor_Expr.calls k g0 A0_0 c0_0 l0_0 A0_1 c0_1 l0_1 a0_2 a0_3 t94 t95 t96 t97 t98 t99 t100 t101  (fun z_ => pal [(0, 0), (2, 1)] (c z_)) w (fun _ => pal_lt rfl _) (Bx.arg HP0 rfl) (Ft.arg HP0_0 rfl) HCP0_0 (Ft.arg HP0_1 rfl) HCP0_1 A102).mono ?_
 rintro _ w104 ⟨C105, A107, cp108, rfl, hs106, HO109, HC110, HX111⟩
 refine ⟨_, rfl, ?_⟩
 replace HO109 := Ft.res (U := [(0, 0), (1, 2)]) HO109 hs106 [0] rfl rfl rfl
 replace HX111 := Bx.res (U := [(0, 0), (1, 2)]) (j := 2) HX111 hs106 (by rfl) (by decide) rfl
 replace hs106 := Step.lift (U := [(0, 0), (1, 2)]) hs106 [2] rfl rfl
 generalize up c C105 w.heap.size [(0, 0), (1, 2)] = C105_ at HO109 HX111 hs106
 replace HP0_0 := HP0_0.thru hs106 rfl
 replace HP0_1 := HP0_1.thru hs106 rfl
 replace HP1 := HP1.thru hs106 rfl
 replace HP1_14 := HP1_14.thru hs106 rfl
 replace HP1_15 := HP1_15.thru hs106 rfl
 replace HP1_16 := HP1_16.thru hs106 rfl
 replace HS := HS.trans hs106 hc rfl
 (try simp only [ls0, ls1])
 refine mv_ rfl ?_
 refine st (.agg #[.int .i64 t94, .int .i64 t95, .int .i64 t96, .string t97, .string t98, .slice A107 t99.length cp108]) rfl rfl (xr_extract (.tuple #[.agg #[.int .i64 t94, .int .i64 t95, .int .i64 t96, .string t97, .string t98, .slice A107 t99.length cp108], .int .i64 t100]) _ rfl rfl rfl) ?_
 refine st (.int .i64 t100) rfl rfl (xr_extract (.tuple #[.agg #[.int .i64 t94, .int .i64 t95, .int .i64 t96, .string t97, .string t98, .slice A107 t99.length cp108], .int .i64 t100]) _ rfl rfl rfl) ?_
 refine bx_new (C := C105_) 44 ([.int .i64 0, .int .i64 0, .int .i64 0, .string (⟨#[]⟩ : ByteArray), .string (⟨#[]⟩ : ByteArray), .slice none 0 0]) 11 rfl rfl (by first | (go_simp; done) | (go_simp; rfl)) ?_
 intro g112 w113 C114 HX115 hs116
 replace HX111 := HX111.thru hs116 rfl
 replace HP0_0 := HP0_0.thru hs116 rfl
 replace HP0_1 := HP0_1.thru hs116 rfl
 replace HP1 := HP1.thru hs116 rfl
 replace HP1_14 := HP1_14.thru hs116 rfl
 replace HP1_15 := HP1_15.thru hs116 rfl
 replace HP1_16 := HP1_16.thru hs116 rfl
 replace HO109 := HO109.thru hs116 rfl
 replace HS := HS.trans hs116 hc rfl
 (try simp only [ls0, ls1])
 refine bx_store (C := C114) (z := 11) (g := g112) (j := 0) (tb := 44) (u := .agg #[.int .i64 t94, .int .i64 t95, .int .i64 t96, .string t97, .string t98, .slice A107 t99.length cp108]) (seg := [.int .i64 t94, .int .i64 t95, .int .i64 t96, .string t97, .string t98, .slice A107 t99.length cp108]) (xs := [.int .i64 0, .int .i64 0, .int .i64 0, .string (⟨#[]⟩ : ByteArray), .string (⟨#[]⟩ : ByteArray), .slice none 0 0]) rfl rfl rfl rfl rfl rfl (by first | kernel_rfl | rfl) (by simp [Value.oneCell']) HX115 (by simp only [List.length_cons, List.length_nil]; omega) rfl ?_
 intro w117 HX118 hs119
 replace HX111 := HX111.thru hs119 rfl
 replace HP0_0 := HP0_0.thru hs119 rfl
 replace HP0_1 := HP0_1.thru hs119 rfl
 replace HP1 := HP1.thru hs119 rfl
 replace HP1_14 := HP1_14.thru hs119 rfl
 replace HP1_15 := HP1_15.thru hs119 rfl
 replace HP1_16 := HP1_16.thru hs119 rfl
 replace HO109 := HO109.thru hs119 rfl
 replace HS := HS.trans hs119 hc rfl
 (try simp only [ls0, ls1])
 refine as_ rfl ?_
 refine wl_end ?_
 (try simp only [ls0, ls1])
 refine hK93 _ _ ?_
 (try clear hK93 K93)
 refine wp_seq_k fun K120 hK120 => ?_
 refine wp_block ?_
 refine wp_seq_k fun K121 hK121 => ?_
 refine wl_region ?_
 refine mv_ rfl ?_
 refine st (.bool (!decide (t100 = 0))) rfl rfl (xr_bin _ _ _ rfl rfl rfl (B.neq_i64 _ _)) ?_
 refine as_ rfl ?_
 refine wl_end ?_
 (try simp only [ls0, ls1])
 refine hK121 _ _ ?_
 (try clear hK121 K121)
 by_cases c122 : t100 = 0
 ·rw [if_pos c122] at H
  (try rw [(decide_eq_true c122)])
  (try simp only [Bool.not_true, Bool.not_false])
  refine wp_cond_false rfl ?_
  refine wp_seq_k fun K123 hK123 => ?_
  refine wl_region ?_
  refine st (.pointer (some ⟨g112, 0, none⟩)) rfl rfl (xr_fieldAddr _ _ rfl rfl (bx_field2 Try.underlying44 rfl rfl (by kernel_rfl))) ?_
  refine st (.int .i64 t94) rfl rfl (xr_load _ _ rfl rfl (load_cell Try.underlying3 rfl (bx_cell (HX118).2 0 rfl))) ?_
  refine st (.bool (decide (t94 = 2))) rfl rfl (xr_bin _ _ _ rfl rfl rfl (B.eql_i64 _ _)) ?_
  refine as_ rfl ?_
  simp only [ls0, ls1]
  refine wl_end ?_
  (try simp only [ls0, ls1])
  refine hK123 _ _ ?_
  (try clear hK123 K123)
  by_cases c124 : t94 = 2
  ·rw [if_pos c124] at H
   (try rw [(decide_eq_true c124)])
   refine wp_cond_true rfl ?_
   refine wp_seq_k fun K125 hK125 => ?_
   (try simp only [ls0, ls1])
   refine al_start (lb 10 0) rfl rfl rfl (fun w_ => w_.heap[g112]? = some (.cells (List.toArray ([.int .i64 t94, .int .i64 t95, .int .i64 t96, .string t97, .string t98, .slice A107 t99.length cp108])) 44 (0, 0))) (HX118.drew).2 [9] ?_
   replace HX111 := HX111.drew
   replace HP0_0 := HP0_0.drew
   replace HP0_1 := HP0_1.drew
   replace HP1 := HP1.drew
   replace HP1_14 := HP1_14.drew
   replace HP1_15 := HP1_15.drew
   replace HP1_16 := HP1_16.drew
   replace HO109 := HO109.drew
   replace HX118 := HX118.drew
   replace HS := Step.ofDrew HS
   generalize w117.drew = w126 at *
   refine al_mv 0 (lb 10 1) rfl rfl (by kernel_rfl) (fun _ _ _ => id) rfl ?_
   refine al_mv 1 (lb 10 3) rfl rfl (by kernel_rfl) (fun _ _ _ => id) rfl ?_
   refine al_pure 2 22 (.pointer (some ⟨g112, 3, none⟩)) (lb 10 7) rfl rfl (by kernel_rfl) (fun _ _ _ => id) rfl (fun w_ => xr_fieldAddr _ _ rfl rfl (bx_field2 Try.underlying44 rfl rfl (by kernel_rfl))) ?_
   refine al_pure 4 24 (.pointer (some ⟨g1, 0, none⟩)) (lb 10 23) rfl rfl (by kernel_rfl) (fun _ _ _ => id) rfl (fun w_ => xr_nilCheck _ rfl rfl) ?_
   simp only [ls0, ls1]
   refine al_pure 5 25 (.pointer (some ⟨g1, 0, none⟩)) (lb 10 55) rfl rfl (by kernel_rfl) (fun _ _ _ => id) rfl (fun w_ => xr_fieldAddr _ _ rfl rfl (bx_field2 Try.underlying89 rfl rfl (by kernel_rfl))) ?_
   refine al_take 3 23 (.string t97) (lb 10 63) rfl rfl (by kernel_rfl) (fun _ _ _ => id) rfl (fun w_ hS_ => xr_load _ _ rfl rfl (load_cell Try.underlying9 rfl (bx_cell hS_ 3 rfl))) (HX118).2 ?_
   refine al_one 6 (lb 10 127) rfl rfl (by kernel_rfl) rfl (fun K_ hK_ => ?_)
   refine bx_store_step (C := C114) (z := 1) (g := g1) (j := 0) (tb := 89) (u := .int .i64 1) (seg := [.int .i64 1]) (xs := [.int .i64 a1_0, .int .i64 a1_1, .string a1_2, .int .i64 a1_3, .bool a1_4, .bool a1_5, .string a1_6, .int .i64 a1_7, .int .i64 a1_8, .int .i64 a1_9, .int .i64 a1_10, .int .i64 a1_11, .string a1_12, .string a1_13, .slice A1_14 l1_14.length c1_14, .slice A1_15 l1_15.length c1_15, .slice A1_16 l1_16.length c1_16]) rfl rfl rfl rfl rfl rfl (by first | kernel_rfl | rfl) (by simp [Value.oneCell']) HP1 (by simp only [List.length_cons, List.length_nil]; omega) rfl ?_
   intro w127 HX128 hs129
   replace HX111 := HX111.thru hs129 rfl
   replace HP0_0 := HP0_0.thru hs129 rfl
   replace HP0_1 := HP0_1.thru hs129 rfl
   replace HP1_14 := HP1_14.thru hs129 rfl
   replace HP1_15 := HP1_15.thru hs129 rfl
   replace HP1_16 := HP1_16.thru hs129 rfl
   replace HO109 := HO109.thru hs129 rfl
   replace HX118 := HX118.thru hs129 rfl
   replace HS := HS.trans hs129 hc rfl
   refine hK_ _ _ (HX118).2 ?_
   clear hK_ K_
   (try simp only [Act.put, List.setIfInBounds_toArray, ls0, ls1])
   refine al_pure 7 26 (.pointer (some ⟨g1, 0, none⟩)) (lb 10 255) rfl rfl (by kernel_rfl) (fun _ _ _ => id) rfl (fun w_ => xr_nilCheck _ rfl rfl) ?_
   refine al_pure 8 27 (.pointer (some ⟨g1, 2, none⟩)) (lb 10 511) rfl rfl (by kernel_rfl) (fun _ _ _ => id) rfl (fun w_ => xr_fieldAddr _ _ rfl rfl (bx_field2 Try.underlying89 rfl rfl (by kernel_rfl))) ?_
   refine al_last 9 (lb 10 1023) rfl rfl (by kernel_rfl) rfl (fun K_ hK_ => ?_)
   refine bx_store_step (C := C114) (z := 1) (g := g1) (j := 2) (tb := 89) (u := .string t97) (seg := [.string t97]) (xs := [.int .i64 1, .int .i64 a1_1, .string a1_2, .int .i64 a1_3, .bool a1_4, .bool a1_5, .string a1_6, .int .i64 a1_7, .int .i64 a1_8, .int .i64 a1_9, .int .i64 a1_10, .int .i64 a1_11, .string a1_12, .string a1_13, .slice A1_14 l1_14.length c1_14, .slice A1_15 l1_15.length c1_15, .slice A1_16 l1_16.length c1_16]) rfl rfl rfl rfl rfl rfl (by first | kernel_rfl | rfl) (by simp [Value.oneCell']) HX128 (by simp only [List.length_cons, List.length_nil]; omega) rfl ?_
   intro w130 HX131 hs132
   replace HX111 := HX111.thru hs132 rfl
   replace HP0_0 := HP0_0.thru hs132 rfl
   replace HP0_1 := HP0_1.thru hs132 rfl
   replace HP1_14 := HP1_14.thru hs132 rfl
   replace HP1_15 := HP1_15.thru hs132 rfl
   replace HP1_16 := HP1_16.thru hs132 rfl
   replace HO109 := HO109.thru hs132 rfl
   replace HX118 := HX118.thru hs132 rfl
   replace HS := HS.trans hs132 hc rfl
   refine hK_ _ _ ?_
   clear hK_ K_
   (try simp only [Act.put, List.setIfInBounds_toArray, ls0, ls1])
   refine al_end (by kernel_rfl) ?_
   (try simp only [ls0, ls1])
   refine hK125 _ _ ?_
   (try clear hK125 K125)
   refine wp_seq_k fun K133 hK133 => ?_
   refine wl_region ?_
   refine mv_ rfl ?_
   refine mv_ rfl ?_
   obtain ⟨⟨t134, t135, t136, t137, t138, t139, t140, t141⟩, A142, H⟩ := bnd H
   (try dsimp only at H)
   refine st_call #[.pointer (some ⟨g0, 0, none⟩), .pointer (some ⟨g1, 0, none⟩)] rfl rfl Try.func127 (by kernel_rfl) rfl rfl (mp_ rfl) ?_
   refine (stmt_set.calls k g0 A0_0 c0_0 l0_0 A0_1 c0_1 l0_1 t101 a0_3 g1 1 a1_1 t97 a1_3 a1_4 a1_5 a1_6 a1_7 a1_8 a1_9 a1_10 a1_11 a1_12 a1_13 A1_14 c1_14 l1_14 A1_15 c1_15 l1_15 A1_16 c1_16 l1_16 t134 t135 t136 t137 t138 t139 t140 t141  (fun z_ => pal [(0, 0), (1, 1), (2, 2)] (C114 z_)) w130 (fun _ => pal_lt rfl _) (Bx.arg HX111 rfl) (Ft.arg HP0_0 rfl) HCP0_0 (Ft.arg HP0_1 rfl) HCP0_1 (Bx.arg HX131 rfl) (Ft.arg HP1_14 rfl) HCP1_14 (Ft.arg HP1_15 rfl) HCP1_15 (Ft.arg HP1_16 rfl) HCP1_16 A142).mono ?_
   rintro _ w144 ⟨C145, A147, cp148, rfl, hs146, HO149, HC150, HX151, HX152⟩
   refine ⟨_, rfl, ?_⟩
   replace HO149 := Ft.res (U := [(0, 0), (2, 2), (1, 1)]) HO149 hs146 [0] rfl rfl rfl
   replace HX151 := Bx.res (U := [(0, 0), (2, 2), (1, 1)]) (j := 2) HX151 hs146 (by rfl) (by decide) rfl
   replace HX152 := Bx.res (U := [(0, 0), (2, 2), (1, 1)]) (j := 1) HX152 hs146 (by rfl) (by decide) rfl
   replace hs146 := Step.lift (U := [(0, 0), (2, 2), (1, 1)]) hs146 [1, 2] rfl rfl
   generalize up C114 C145 w130.heap.size [(0, 0), (2, 2), (1, 1)] = C145_ at HO149 HX151 HX152 hs146
   replace HP0_0 := HP0_0.thru hs146 rfl
   replace HP0_1 := HP0_1.thru hs146 rfl
   replace HP1_15 := HP1_15.thru hs146 rfl
   replace HP1_16 := HP1_16.thru hs146 rfl
   replace HO109 := HO109.thru hs146 rfl
   replace HX118 := HX118.thru hs146 rfl
   replace HS := HS.trans hs146 hc rfl
   (try simp only [ls0, ls1])
   refine as_ rfl ?_
   refine wl_end ?_
   (try simp only [ls0, ls1])
   refine hK133 _ _ ?_
   (try clear hK133 K133)
   refine wp_ret ?_
   (try simp only [Exit.inBlock, Exit.then, Exit.noGoto])
   (try simp only [ls0, ls1])
   simp only [Option.some.injEq, Prod.mk.injEq] at H
   obtain ⟨rfl, rfl, rfl, rfl, rfl, rfl, rfl, rfl, rfl, rfl⟩ := H
   refine bodyPost_ret (results_tmp rfl _ _ _) rfl ?_
   exact ⟨_, A147, cp148, rfl, HS, HO149, HC150, HX151, HX152⟩
  rw [if_neg c124] at H
  (try rw [(decide_eq_false c124)])
  refine wp_cond_false rfl ?_
  refine wp_seq_k fun K153 hK153 => ?_
  refine wl_region ?_
  refine st (.pointer (some ⟨g112, 0, none⟩)) rfl rfl (xr_fieldAddr _ _ rfl rfl (bx_field2 Try.underlying44 rfl rfl (by kernel_rfl))) ?_
  refine st (.int .i64 t94) rfl rfl (xr_load _ _ rfl rfl (load_cell Try.underlying3 rfl (bx_cell (HX118).2 0 rfl))) ?_
  refine st (.bool (decide (t94 = 3))) rfl rfl (xr_bin _ _ _ rfl rfl rfl (B.eql_i64 _ _)) ?_
  refine as_ rfl ?_
  simp only [ls0, ls1]
  refine wl_end ?_
  (try simp only [ls0, ls1])
  refine hK153 _ _ ?_
  (try clear hK153 K153)
  by_cases c154 : t94 = 3
  ·rw [if_pos c154] at H
   (try rw [(decide_eq_true c154)])
   refine wp_cond_true rfl ?_
   refine wp_seq_k fun K155 hK155 => ?_
   (try simp only [ls0, ls1])
   refine al_start (lb 9 0) rfl rfl rfl (fun w_ => w_.heap[g112]? = some (.cells (List.toArray ([.int .i64 t94, .int .i64 t95, .int .i64 t96, .string t97, .string t98, .slice A107 t99.length cp108])) 44 (0, 0))) (HX118.drew).2 [8] ?_
   replace HX111 := HX111.drew
   replace HP0_0 := HP0_0.drew
   replace HP0_1 := HP0_1.drew
   replace HP1 := HP1.drew
   replace HP1_14 := HP1_14.drew
   replace HP1_15 := HP1_15.drew
   replace HP1_16 := HP1_16.drew
   replace HO109 := HO109.drew
   replace HX118 := HX118.drew
   replace HS := Step.ofDrew HS
   generalize w117.drew = w156 at *
   refine al_mv 0 (lb 9 1) rfl rfl (by kernel_rfl) (fun _ _ _ => id) rfl ?_
   refine al_mv 1 (lb 9 3) rfl rfl (by kernel_rfl) (fun _ _ _ => id) rfl ?_
   refine al_pure 3 38 (.pointer (some ⟨g1, 0, none⟩)) (lb 9 11) rfl rfl (by kernel_rfl) (fun _ _ _ => id) rfl (fun w_ => xr_nilCheck _ rfl rfl) ?_
   refine al_pure 4 39 (.pointer (some ⟨g1, 0, none⟩)) (lb 9 27) rfl rfl (by kernel_rfl) (fun _ _ _ => id) rfl (fun w_ => xr_fieldAddr _ _ rfl rfl (bx_field2 Try.underlying89 rfl rfl (by kernel_rfl))) ?_
   simp only [ls0, ls1]
   refine al_take 2 37 (.agg #[.int .i64 t94, .int .i64 t95, .int .i64 t96, .string t97, .string t98, .slice A107 t99.length cp108]) (lb 9 31) rfl rfl (by kernel_rfl) (fun _ _ _ => id) rfl (fun w_ hS_ => xr_load _ _ rfl rfl (load_agg (cs := [.int .i64 t94, .int .i64 t95, .int .i64 t96, .string t97, .string t98, .slice A107 t99.length cp108]) Try.underlying44 rfl (by kernel_rfl) (bx_cells hS_ 0 rfl))) (HX118).2 ?_
   refine al_one 5 (lb 9 63) rfl rfl (by kernel_rfl) rfl (fun K_ hK_ => ?_)
   refine bx_store_step (C := C114) (z := 1) (g := g1) (j := 0) (tb := 89) (u := .int .i64 5) (seg := [.int .i64 5]) (xs := [.int .i64 a1_0, .int .i64 a1_1, .string a1_2, .int .i64 a1_3, .bool a1_4, .bool a1_5, .string a1_6, .int .i64 a1_7, .int .i64 a1_8, .int .i64 a1_9, .int .i64 a1_10, .int .i64 a1_11, .string a1_12, .string a1_13, .slice A1_14 l1_14.length c1_14, .slice A1_15 l1_15.length c1_15, .slice A1_16 l1_16.length c1_16]) rfl rfl rfl rfl rfl rfl (by first | kernel_rfl | rfl) (by simp [Value.oneCell']) HP1 (by simp only [List.length_cons, List.length_nil]; omega) rfl ?_
   intro w157 HX158 hs159
   replace HX111 := HX111.thru hs159 rfl
   replace HP0_0 := HP0_0.thru hs159 rfl
   replace HP0_1 := HP0_1.thru hs159 rfl
   replace HP1_14 := HP1_14.thru hs159 rfl
   replace HP1_15 := HP1_15.thru hs159 rfl
   replace HP1_16 := HP1_16.thru hs159 rfl
   replace HO109 := HO109.thru hs159 rfl
   replace HX118 := HX118.thru hs159 rfl
   replace HS := HS.trans hs159 hc rfl
   refine hK_ _ _ (HX118).2 ?_
   clear hK_ K_
   (try simp only [Act.put, List.setIfInBounds_toArray, ls0, ls1])
   refine al_pure 6 40 (.pointer (some ⟨g1, 0, none⟩)) (lb 9 127) rfl rfl (by kernel_rfl) (fun _ _ _ => id) rfl (fun w_ => xr_nilCheck _ rfl rfl) ?_
   refine al_pure 7 41 (.pointer (some ⟨g1, 9, none⟩)) (lb 9 255) rfl rfl (by kernel_rfl) (fun _ _ _ => id) rfl (fun w_ => xr_fieldAddr _ _ rfl rfl (bx_field2 Try.underlying89 rfl rfl (by kernel_rfl))) ?_
   refine al_last 8 (lb 9 511) rfl rfl (by kernel_rfl) rfl (fun K_ hK_ => ?_)
   refine bx_store_step (C := C114) (z := 1) (g := g1) (j := 9) (tb := 89) (u := .agg #[.int .i64 t94, .int .i64 t95, .int .i64 t96, .string t97, .string t98, .slice A107 t99.length cp108]) (seg := [.int .i64 t94, .int .i64 t95, .int .i64 t96, .string t97, .string t98, .slice A107 t99.length cp108]) (xs := [.int .i64 5, .int .i64 a1_1, .string a1_2, .int .i64 a1_3, .bool a1_4, .bool a1_5, .string a1_6, .int .i64 a1_7, .int .i64 a1_8, .int .i64 a1_9, .int .i64 a1_10, .int .i64 a1_11, .string a1_12, .string a1_13, .slice A1_14 l1_14.length c1_14, .slice A1_15 l1_15.length c1_15, .slice A1_16 l1_16.length c1_16]) rfl rfl rfl rfl rfl rfl (by first | kernel_rfl | rfl) (by simp [Value.oneCell']) HX158 (by simp only [List.length_cons, List.length_nil]; omega) rfl ?_
   intro w160 HX161 hs162
   replace HX111 := HX111.thru hs162 rfl
   replace HP0_0 := HP0_0.thru hs162 rfl
   replace HP0_1 := HP0_1.thru hs162 rfl
   replace HO109 := HO109.thru hs162 rfl
   replace HP1_15 := HP1_15.thru hs162 rfl
   replace HP1_16 := HP1_16.thru hs162 rfl
   replace HX118 := HX118.thru hs162 rfl
   replace HS := HS.trans hs162 hc rfl
   refine hK_ _ _ ?_
   clear hK_ K_
   (try simp only [Act.put, List.setIfInBounds_toArray, ls0, ls1])
   refine al_end (by kernel_rfl) ?_
   (try simp only [ls0, ls1])
   refine hK155 _ _ ?_
   (try clear hK155 K155)
   refine wp_seq_k fun K163 hK163 => ?_
   refine wl_region ?_
   refine mv_ rfl ?_
   obtain ⟨y164, A165, H⟩ := bnd H
   refine Own.lit Kd.string (C := C114) (i := 12) rfl 9 rfl (xs := [(⟨#[59]⟩ : ByteArray)]) (inner := [.string (⟨#[59]⟩ : ByteArray)]) (by first | (go_simp; done) | (go_simp; rfl)) (reps_cons (fk_str _ _ (⟨#[59]⟩ : ByteArray)) rfl (Reps.none _ _)) (by simp only [List.length_cons, List.length_nil]; omega) (Option.some.inj A165) ?_
   intro A166 cp167 w168 C169 HO170 HC171 hs172
   replace HX111 := HX111.thru hs172 rfl
   replace HP0_0 := HP0_0.thru hs172 rfl
   replace HP0_1 := HP0_1.thru hs172 rfl
   replace HX161 := HX161.thru hs172 rfl
   replace HO109 := HO109.thru hs172 rfl
   replace HP1_15 := HP1_15.thru hs172 rfl
   replace HP1_16 := HP1_16.thru hs172 rfl
   replace HX118 := HX118.thru hs172 rfl
   replace HS := HS.trans hs172 hc rfl
   (try simp only [ls0, ls1])
   obtain ⟨⟨t173, t174⟩, A175, H⟩ := bnd H
   (try dsimp only at H)
   refine st_call #[.pointer (some ⟨g0, 0, none⟩), .slice A166 y164.length cp167] rfl rfl Try.func109 (by kernel_rfl) rfl rfl (mp_ rfl) ?_
   refine (stmt_must.calls k g0 A0_0 c0_0 l0_0 A0_1 c0_1 l0_1 t101 a0_3 A166 cp167 y164 t173 t174  (fun z_ => pal [(0, 0), (2, 1), (12, 0)] (C169 z_)) w168 (fun _ => pal_lt rfl _) (Bx.arg HX111 rfl) (Ft.arg HP0_0 rfl) HCP0_0 (Ft.arg HP0_1 rfl) HCP0_1 (Ft.arg (HO170.ft) rfl) HC171 A175).mono ?_
   rintro _ w177 ⟨C178, rfl, hs179, HX180⟩
   refine ⟨_, rfl, ?_⟩
   replace HX180 := Bx.res (U := [(0, 0), (1, 2)]) (j := 2) HX180 hs179 (by rfl) (by decide) rfl
   replace hs179 := Step.lift (U := [(0, 0), (1, 2)]) hs179 [2] rfl rfl
   generalize up C169 C178 w168.heap.size [(0, 0), (1, 2)] = C178_ at HX180 hs179
   replace HP0_0 := HP0_0.thru hs179 rfl
   replace HP0_1 := HP0_1.thru hs179 rfl
   replace HX161 := HX161.thru hs179 rfl
   replace HO109 := HO109.thru hs179 rfl
   replace HP1_15 := HP1_15.thru hs179 rfl
   replace HP1_16 := HP1_16.thru hs179 rfl
   replace HX118 := HX118.thru hs179 rfl
   replace HS := HS.trans hs179 hc rfl
   (try simp only [ls0, ls1])
   refine as_ rfl ?_
   refine wl_end ?_
   (try simp only [ls0, ls1])
   refine hK163 _ _ ?_
   (try clear hK163 K163)
   refine wp_ret ?_
   (try simp only [Exit.inBlock, Exit.then, Exit.noGoto])
   (try simp only [ls0, ls1])
   simp only [Option.some.injEq, Prod.mk.injEq] at H
   obtain ⟨rfl, rfl, rfl, rfl, rfl, rfl, rfl, rfl, rfl, rfl⟩ := H
   refine bodyPost_ret (results_tmp rfl _ _ _) rfl ?_
   exact ⟨_, A107, cp108, rfl, HS, HO109, HC110, HX180, HX161⟩
  rw [if_neg c154] at H
  (try rw [(decide_eq_false c154)])
  refine wp_cond_false rfl ?_
  refine wp_skip ?_
  (try simp only [ls0, ls1])
  refine hK120 _ _ ?_
  (try clear hK120 K120)
  refine wp_seq_k fun K181 hK181 => ?_
  refine wl_region ?_
  refine st (.int .i64 11) rfl rfl (xr_assign _ rfl rfl) ?_
  refine wl_end ?_
  (try simp only [ls0, ls1])
  refine hK181 _ _ ?_
  (try clear hK181 K181)
  refine wp_ret ?_
  (try simp only [Exit.inBlock, Exit.then, Exit.noGoto])
  (try simp only [ls0, ls1])
  simp only [Option.some.injEq, Prod.mk.injEq] at H
  obtain ⟨rfl, rfl, rfl, rfl, rfl, rfl, rfl, rfl, rfl, rfl⟩ := H
  refine bodyPost_ret (results_tmp rfl _ _ _) rfl ?_
  exact ⟨_, A1_14, c1_14, rfl, HS, HP1_14, HCP1_14, HX111, HP1⟩
 rw [if_neg c122] at H
 (try rw [(decide_eq_false c122)])
 (try simp only [Bool.not_true, Bool.not_false])
 refine wp_cond_true rfl ?_
 refine wp_seq_k fun K182 hK182 => ?_
 refine wl_region ?_
 refine mv_ rfl ?_
 refine as_ rfl ?_
 refine wl_end ?_
 (try simp only [ls0, ls1])
 refine hK182 _ _ ?_
 (try clear hK182 K182)
 refine wp_ret ?_
 (try simp only [Exit.inBlock, Exit.then, Exit.noGoto])
 (try simp only [ls0, ls1])
 simp only [Option.some.injEq, Prod.mk.injEq] at H
 obtain ⟨rfl, rfl, rfl, rfl, rfl, rfl, rfl, rfl, rfl, rfl⟩ := H
 refine bodyPost_ret (results_tmp rfl _ _ _) rfl ?_
 exact ⟨_, A1_14, c1_14, rfl, HS, HP1_14, HCP1_14, HX111, HP1⟩

structure Rec_stmt_Stmt where
  stmt_Stmt : (List Int) → (List (S28)) → Int → Int → Int → Option (Int × Int × ByteArray × Int × Bool × Bool × ByteArray × Int × Int × Int × Int × Int × ByteArray × ByteArray × (List (S44)) × (List (S89)) × (List (S89)) × Int × Int)
  stmt_Row : (List Int) → (List (S28)) → Int → Int → Int → Option ((List (S89)) × Int × Int)
  stmt_read : (List Int) → (List (S28)) → Int → Int → Int → Int → ByteArray → Int → Bool → Bool → ByteArray → Int → Int → Int → Int → Int → ByteArray → ByteArray → (List (S44)) → (List (S89)) → (List (S89)) → Int → Option (Int × Int × Int × ByteArray × Int × Bool × Bool × ByteArray × Int × Int × Int × Int × Int × ByteArray × ByteArray × (List (S44)) × (List (S89)) × (List (S89)))
  stmt_asked : (List Int) → (List (S28)) → Int → Int → Int → Int → ByteArray → Int → Bool → Bool → ByteArray → Int → Int → Int → Int → Int → ByteArray → ByteArray → (List (S44)) → (List (S89)) → (List (S89)) → Int → Option (Int × Int × Int × Int × Int × ByteArray × ByteArray × (List (S44)) × (List (S89)))
  stmt_block : (List Int) → (List (S28)) → Int → Int → Int → Option ((List (S89)) × Int × Int)
structure Rec_stmt_Stmt.Good (r_ : Rec_stmt_Stmt) : Prop where
  stmt_Stmt : ∀ (g0 : Nat) (A0_0 : Option Addr) (c0_0 : Nat) (l0_0 : List Int) (A0_1 : Option Addr) (c0_1 : Nat) (l0_1 : List (S28)) (a0_2 : Int) (a0_3 : Int) (a1 : Int) (r1 : Int) (r2 : Int) (r3 : ByteArray) (r4 : Int) (r5 : Bool) (r6 : Bool) (r7 : ByteArray) (r8 : Int) (r9 : Int) (r10 : Int) (r11 : Int) (r12 : Int) (r13 : ByteArray) (r14 : ByteArray) (r15 : List (S44)) (r16 : List (S89)) (r17 : List (S89)) (r18 : Int) (r19 : Int) (c : Nat → Nat) (w : World) (hc : ∀ k, c k < 10) (HP0 : Bx c 1 w g0 111 ([.slice A0_0 l0_0.length c0_0, .slice A0_1 l0_1.length c0_1, .int .i64 a0_2, .int .i64 a0_3])) (HP0_0 : Ft c [0] w (fun w_ => (Kd.int .u8).C w_ A0_0 l0_0.length l0_0)) (HCP0_0 : l0_0.length ≤ c0_0) (HP0_1 : Ft c [0] w (fun w_ => k28.C w_ A0_1 l0_1.length l0_1)) (HCP0_1 : l0_1.length ≤ c0_1) (H : r_.stmt_Stmt l0_0 l0_1 a0_2 a0_3 a1 = some (r1, r2, r3, r4, r5, r6, r7, r8, r9, r10, r11, r12, r13, r14, r15, r16, r17, r18, r19)),
    Calls Try.prog 62 #[.pointer (some ⟨g0, 0, none⟩), .int .i64 a1] w fun e w' => ∃ (c' : Nat → Nat) (A_r15 : Option Addr) (c_r15 : Nat) (A_r16 : Option Addr) (c_r16 : Nat) (A_r17 : Option Addr) (c_r17 : Nat), e = .returned (.tuple #[.agg #[.int .i64 r1, .int .i64 r2, .string r3, .int .i64 r4, .bool r5, .bool r6, .string r7, .int .i64 r8, .int .i64 r9, .int .i64 r10, .int .i64 r11, .int .i64 r12, .string r13, .string r14, .slice A_r15 r15.length c_r15, .slice A_r16 r16.length c_r16, .slice A_r17 r17.length c_r17], .int .i64 r18]) ∧ Step c w c' w' [1] ∧ Ft c' [0] w' (fun w_ => k44.C w_ A_r15 r15.length r15) ∧ r15.length ≤ c_r15 ∧ Ft c' [0] w' (fun w_ => k89.C w_ A_r16 r16.length r16) ∧ r16.length ≤ c_r16 ∧ Ft c' [0] w' (fun w_ => k89.C w_ A_r17 r17.length r17) ∧ r17.length ≤ c_r17 ∧ Bx c' 1 w' g0 111 ([.slice A0_0 l0_0.length c0_0, .slice A0_1 l0_1.length c0_1, .int .i64 r19, .int .i64 a0_3])
  stmt_Row : ∀ (g0 : Nat) (A0_0 : Option Addr) (c0_0 : Nat) (l0_0 : List Int) (A0_1 : Option Addr) (c0_1 : Nat) (l0_1 : List (S28)) (a0_2 : Int) (a0_3 : Int) (a1 : Int) (r1 : List (S89)) (r2 : Int) (r3 : Int) (c : Nat → Nat) (w : World) (hc : ∀ k, c k < 10) (HP0 : Bx c 1 w g0 111 ([.slice A0_0 l0_0.length c0_0, .slice A0_1 l0_1.length c0_1, .int .i64 a0_2, .int .i64 a0_3])) (HP0_0 : Ft c [0] w (fun w_ => (Kd.int .u8).C w_ A0_0 l0_0.length l0_0)) (HCP0_0 : l0_0.length ≤ c0_0) (HP0_1 : Ft c [0] w (fun w_ => k28.C w_ A0_1 l0_1.length l0_1)) (HCP0_1 : l0_1.length ≤ c0_1) (H : r_.stmt_Row l0_0 l0_1 a0_2 a0_3 a1 = some (r1, r2, r3)),
    Calls Try.prog 65 #[.pointer (some ⟨g0, 0, none⟩), .int .i64 a1] w fun e w' => ∃ (c' : Nat → Nat) (A_r1 : Option Addr) (c_r1 : Nat), e = .returned (.tuple #[.slice A_r1 r1.length c_r1, .int .i64 r2]) ∧ Step c w c' w' [1] ∧ Own c' 5 w' k89 89 (.slice A_r1 r1.length c_r1) r1 ∧ r1.length ≤ c_r1 ∧ Bx c' 1 w' g0 111 ([.slice A0_0 l0_0.length c0_0, .slice A0_1 l0_1.length c0_1, .int .i64 r3, .int .i64 a0_3])
  stmt_read : ∀ (g0 : Nat) (A0_0 : Option Addr) (c0_0 : Nat) (l0_0 : List Int) (A0_1 : Option Addr) (c0_1 : Nat) (l0_1 : List (S28)) (a0_2 : Int) (a0_3 : Int) (g1 : Nat) (a1_0 : Int) (a1_1 : Int) (a1_2 : ByteArray) (a1_3 : Int) (a1_4 : Bool) (a1_5 : Bool) (a1_6 : ByteArray) (a1_7 : Int) (a1_8 : Int) (a1_9 : Int) (a1_10 : Int) (a1_11 : Int) (a1_12 : ByteArray) (a1_13 : ByteArray) (A1_14 : Option Addr) (c1_14 : Nat) (l1_14 : List (S44)) (A1_15 : Option Addr) (c1_15 : Nat) (l1_15 : List (S89)) (A1_16 : Option Addr) (c1_16 : Nat) (l1_16 : List (S89)) (a2 : Int) (r1 : Int) (r2 : Int) (r3 : Int) (r4 : ByteArray) (r5 : Int) (r6 : Bool) (r7 : Bool) (r8 : ByteArray) (r9 : Int) (r10 : Int) (r11 : Int) (r12 : Int) (r13 : Int) (r14 : ByteArray) (r15 : ByteArray) (r16 : List (S44)) (r17 : List (S89)) (r18 : List (S89)) (c : Nat → Nat) (w : World) (hc : ∀ k, c k < 10) (HP0 : Bx c 1 w g0 111 ([.slice A0_0 l0_0.length c0_0, .slice A0_1 l0_1.length c0_1, .int .i64 a0_2, .int .i64 a0_3])) (HP0_0 : Ft c [0] w (fun w_ => (Kd.int .u8).C w_ A0_0 l0_0.length l0_0)) (HCP0_0 : l0_0.length ≤ c0_0) (HP0_1 : Ft c [0] w (fun w_ => k28.C w_ A0_1 l0_1.length l0_1)) (HCP0_1 : l0_1.length ≤ c0_1) (HP1 : Bx c 2 w g1 89 ([.int .i64 a1_0, .int .i64 a1_1, .string a1_2, .int .i64 a1_3, .bool a1_4, .bool a1_5, .string a1_6, .int .i64 a1_7, .int .i64 a1_8, .int .i64 a1_9, .int .i64 a1_10, .int .i64 a1_11, .string a1_12, .string a1_13, .slice A1_14 l1_14.length c1_14, .slice A1_15 l1_15.length c1_15, .slice A1_16 l1_16.length c1_16])) (HP1_14 : Ft c [0] w (fun w_ => k44.C w_ A1_14 l1_14.length l1_14)) (HCP1_14 : l1_14.length ≤ c1_14) (HP1_15 : Ft c [0] w (fun w_ => k89.C w_ A1_15 l1_15.length l1_15)) (HCP1_15 : l1_15.length ≤ c1_15) (HP1_16 : Ft c [0] w (fun w_ => k89.C w_ A1_16 l1_16.length l1_16)) (HCP1_16 : l1_16.length ≤ c1_16) (H : r_.stmt_read l0_0 l0_1 a0_2 a0_3 a1_0 a1_1 a1_2 a1_3 a1_4 a1_5 a1_6 a1_7 a1_8 a1_9 a1_10 a1_11 a1_12 a1_13 l1_14 l1_15 l1_16 a2 = some (r1, r2, r3, r4, r5, r6, r7, r8, r9, r10, r11, r12, r13, r14, r15, r16, r17, r18)),
    Calls Try.prog 88 #[.pointer (some ⟨g0, 0, none⟩), .pointer (some ⟨g1, 0, none⟩), .int .i64 a2] w fun e w' => ∃ (c' : Nat → Nat) (A_r16 : Option Addr) (c_r16 : Nat) (A_r17 : Option Addr) (c_r17 : Nat) (A_r18 : Option Addr) (c_r18 : Nat), e = .returned (.int .i64 r1) ∧ Step c w c' w' [1, 2] ∧ Ft c' [0] w' (fun w_ => k44.C w_ A_r16 r16.length r16) ∧ r16.length ≤ c_r16 ∧ Ft c' [0] w' (fun w_ => k89.C w_ A_r17 r17.length r17) ∧ r17.length ≤ c_r17 ∧ Ft c' [0] w' (fun w_ => k89.C w_ A_r18 r18.length r18) ∧ r18.length ≤ c_r18 ∧ Bx c' 1 w' g0 111 ([.slice A0_0 l0_0.length c0_0, .slice A0_1 l0_1.length c0_1, .int .i64 r2, .int .i64 a0_3]) ∧ Bx c' 2 w' g1 89 ([.int .i64 r3, .int .i64 a1_1, .string r4, .int .i64 r5, .bool r6, .bool r7, .string r8, .int .i64 r9, .int .i64 r10, .int .i64 r11, .int .i64 r12, .int .i64 r13, .string r14, .string r15, .slice A_r16 r16.length c_r16, .slice A_r17 r17.length c_r17, .slice A_r18 r18.length c_r18])
  stmt_asked : ∀ (g0 : Nat) (A0_0 : Option Addr) (c0_0 : Nat) (l0_0 : List Int) (A0_1 : Option Addr) (c0_1 : Nat) (l0_1 : List (S28)) (a0_2 : Int) (a0_3 : Int) (g1 : Nat) (a1_0 : Int) (a1_1 : Int) (a1_2 : ByteArray) (a1_3 : Int) (a1_4 : Bool) (a1_5 : Bool) (a1_6 : ByteArray) (a1_7 : Int) (a1_8 : Int) (a1_9 : Int) (a1_10 : Int) (a1_11 : Int) (a1_12 : ByteArray) (a1_13 : ByteArray) (A1_14 : Option Addr) (c1_14 : Nat) (l1_14 : List (S44)) (A1_15 : Option Addr) (c1_15 : Nat) (l1_15 : List (S89)) (A1_16 : Option Addr) (c1_16 : Nat) (l1_16 : List (S89)) (a2 : Int) (r1 : Int) (r2 : Int) (r3 : Int) (r4 : Int) (r5 : Int) (r6 : ByteArray) (r7 : ByteArray) (r8 : List (S44)) (r9 : List (S89)) (c : Nat → Nat) (w : World) (hc : ∀ k, c k < 10) (HP0 : Bx c 1 w g0 111 ([.slice A0_0 l0_0.length c0_0, .slice A0_1 l0_1.length c0_1, .int .i64 a0_2, .int .i64 a0_3])) (HP0_0 : Ft c [0] w (fun w_ => (Kd.int .u8).C w_ A0_0 l0_0.length l0_0)) (HCP0_0 : l0_0.length ≤ c0_0) (HP0_1 : Ft c [0] w (fun w_ => k28.C w_ A0_1 l0_1.length l0_1)) (HCP0_1 : l0_1.length ≤ c0_1) (HP1 : Bx c 2 w g1 89 ([.int .i64 a1_0, .int .i64 a1_1, .string a1_2, .int .i64 a1_3, .bool a1_4, .bool a1_5, .string a1_6, .int .i64 a1_7, .int .i64 a1_8, .int .i64 a1_9, .int .i64 a1_10, .int .i64 a1_11, .string a1_12, .string a1_13, .slice A1_14 l1_14.length c1_14, .slice A1_15 l1_15.length c1_15, .slice A1_16 l1_16.length c1_16])) (HP1_14 : Ft c [0] w (fun w_ => k44.C w_ A1_14 l1_14.length l1_14)) (HCP1_14 : l1_14.length ≤ c1_14) (HP1_15 : Ft c [0] w (fun w_ => k89.C w_ A1_15 l1_15.length l1_15)) (HCP1_15 : l1_15.length ≤ c1_15) (HP1_16 : Ft c [0] w (fun w_ => k89.C w_ A1_16 l1_16.length l1_16)) (HCP1_16 : l1_16.length ≤ c1_16) (H : r_.stmt_asked l0_0 l0_1 a0_2 a0_3 a1_0 a1_1 a1_2 a1_3 a1_4 a1_5 a1_6 a1_7 a1_8 a1_9 a1_10 a1_11 a1_12 a1_13 l1_14 l1_15 l1_16 a2 = some (r1, r2, r3, r4, r5, r6, r7, r8, r9)),
    Calls Try.prog 107 #[.pointer (some ⟨g0, 0, none⟩), .pointer (some ⟨g1, 0, none⟩), .int .i64 a2] w fun e w' => ∃ (c' : Nat → Nat) (A_r8 : Option Addr) (c_r8 : Nat) (A_r9 : Option Addr) (c_r9 : Nat), e = .returned (.int .i64 r1) ∧ Step c w c' w' [1, 2] ∧ Ft c' [0] w' (fun w_ => k44.C w_ A_r8 r8.length r8) ∧ r8.length ≤ c_r8 ∧ Ft c' [0] w' (fun w_ => k89.C w_ A_r9 r9.length r9) ∧ r9.length ≤ c_r9 ∧ Bx c' 1 w' g0 111 ([.slice A0_0 l0_0.length c0_0, .slice A0_1 l0_1.length c0_1, .int .i64 r2, .int .i64 a0_3]) ∧ Bx c' 2 w' g1 89 ([.int .i64 a1_0, .int .i64 a1_1, .string a1_2, .int .i64 a1_3, .bool a1_4, .bool a1_5, .string a1_6, .int .i64 a1_7, .int .i64 a1_8, .int .i64 r3, .int .i64 r4, .int .i64 r5, .string r6, .string r7, .slice A_r8 r8.length c_r8, .slice A_r9 r9.length c_r9, .slice A1_16 l1_16.length c1_16])
  stmt_block : ∀ (g0 : Nat) (A0_0 : Option Addr) (c0_0 : Nat) (l0_0 : List Int) (A0_1 : Option Addr) (c0_1 : Nat) (l0_1 : List (S28)) (a0_2 : Int) (a0_3 : Int) (a1 : Int) (r1 : List (S89)) (r2 : Int) (r3 : Int) (c : Nat → Nat) (w : World) (hc : ∀ k, c k < 10) (HP0 : Bx c 1 w g0 111 ([.slice A0_0 l0_0.length c0_0, .slice A0_1 l0_1.length c0_1, .int .i64 a0_2, .int .i64 a0_3])) (HP0_0 : Ft c [0] w (fun w_ => (Kd.int .u8).C w_ A0_0 l0_0.length l0_0)) (HCP0_0 : l0_0.length ≤ c0_0) (HP0_1 : Ft c [0] w (fun w_ => k28.C w_ A0_1 l0_1.length l0_1)) (HCP0_1 : l0_1.length ≤ c0_1) (H : r_.stmt_block l0_0 l0_1 a0_2 a0_3 a1 = some (r1, r2, r3)),
    Calls Try.prog 108 #[.pointer (some ⟨g0, 0, none⟩), .int .i64 a1] w fun e w' => ∃ (c' : Nat → Nat) (A_r1 : Option Addr) (c_r1 : Nat), e = .returned (.tuple #[.slice A_r1 r1.length c_r1, .int .i64 r2]) ∧ Step c w c' w' [1] ∧ Own c' 5 w' k89 89 (.slice A_r1 r1.length c_r1) r1 ∧ r1.length ≤ c_r1 ∧ Bx c' 1 w' g0 111 ([.slice A0_0 l0_0.length c0_0, .slice A0_1 l0_1.length c0_1, .int .i64 r3, .int .i64 a0_3])

/-! ### stmt_Stmt: function 62 -/
def stmt_Stmt.g (r_ : Rec_stmt_Stmt) (k : Nat) (l0_0 : List Int) (l0_1 : List (S28)) (a0_2 : Int) (a0_3 : Int) (a1 : Int) : Option (Int × Int × ByteArray × Int × Bool × Bool × ByteArray × Int × Int × Int × Int × Int × ByteArray × ByteArray × (List (S44)) × (List (S89)) × (List (S89)) × Int × Int) := (expr_Cursor_Pos.f (some (⟨l0_0, l0_1, a0_2, a0_3⟩ : S111) : Option S111)).bind fun t84 => ((r_.stmt_read l0_0 l0_1 a0_2 a0_3 0 t84 (⟨#[]⟩ : ByteArray) 0 false false (⟨#[]⟩ : ByteArray) 0 0 0 0 0 (⟨#[]⟩ : ByteArray) (⟨#[]⟩ : ByteArray) ([] : List (S44)) ([] : List (S89)) ([] : List (S89)) a1).bind fun bt100 => (if bt100.1 = 0 then (some (bt100.2.2.1, t84, bt100.2.2.2.1, bt100.2.2.2.2.1, bt100.2.2.2.2.2.1, bt100.2.2.2.2.2.2.1, bt100.2.2.2.2.2.2.2.1, bt100.2.2.2.2.2.2.2.2.1, bt100.2.2.2.2.2.2.2.2.2.1, bt100.2.2.2.2.2.2.2.2.2.2.1, bt100.2.2.2.2.2.2.2.2.2.2.2.1, bt100.2.2.2.2.2.2.2.2.2.2.2.2.1, bt100.2.2.2.2.2.2.2.2.2.2.2.2.2.1, bt100.2.2.2.2.2.2.2.2.2.2.2.2.2.2.1, bt100.2.2.2.2.2.2.2.2.2.2.2.2.2.2.2.1, bt100.2.2.2.2.2.2.2.2.2.2.2.2.2.2.2.2.1, bt100.2.2.2.2.2.2.2.2.2.2.2.2.2.2.2.2.2, 0, bt100.2.1)) else (some (0, 0, (⟨#[]⟩ : ByteArray), 0, false, false, (⟨#[]⟩ : ByteArray), 0, 0, 0, 0, 0, (⟨#[]⟩ : ByteArray), (⟨#[]⟩ : ByteArray), ([] : List (S44)), ([] : List (S89)), ([] : List (S89)), bt100.1, bt100.2.1))))

set_option maxHeartbeats 8000000 in
set_option maxRecDepth 100000 in
theorem stmt_Stmt.step (r_ : Rec_stmt_Stmt) (IH : Rec_stmt_Stmt.Good r_) (k : Nat) (g0 : Nat) (A0_0 : Option Addr) (c0_0 : Nat) (l0_0 : List Int) (A0_1 : Option Addr) (c0_1 : Nat) (l0_1 : List (S28)) (a0_2 : Int) (a0_3 : Int) (a1 : Int) (r1 : Int) (r2 : Int) (r3 : ByteArray) (r4 : Int) (r5 : Bool) (r6 : Bool) (r7 : ByteArray) (r8 : Int) (r9 : Int) (r10 : Int) (r11 : Int) (r12 : Int) (r13 : ByteArray) (r14 : ByteArray) (r15 : List (S44)) (r16 : List (S89)) (r17 : List (S89)) (r18 : Int) (r19 : Int) (c : Nat → Nat) (w : World) (hc : ∀ k, c k < 10) (HP0 : Bx c 1 w g0 111 ([.slice A0_0 l0_0.length c0_0, .slice A0_1 l0_1.length c0_1, .int .i64 a0_2, .int .i64 a0_3])) (HP0_0 : Ft c [0] w (fun w_ => (Kd.int .u8).C w_ A0_0 l0_0.length l0_0)) (HCP0_0 : l0_0.length ≤ c0_0) (HP0_1 : Ft c [0] w (fun w_ => k28.C w_ A0_1 l0_1.length l0_1)) (HCP0_1 : l0_1.length ≤ c0_1) (H : stmt_Stmt.g r_ k l0_0 l0_1 a0_2 a0_3 a1 = some (r1, r2, r3, r4, r5, r6, r7, r8, r9, r10, r11, r12, r13, r14, r15, r16, r17, r18, r19)) :
    Calls Try.prog 62 #[.pointer (some ⟨g0, 0, none⟩), .int .i64 a1] w fun e w' => ∃ (c' : Nat → Nat) (A_r15 : Option Addr) (c_r15 : Nat) (A_r16 : Option Addr) (c_r16 : Nat) (A_r17 : Option Addr) (c_r17 : Nat), e = .returned (.tuple #[.agg #[.int .i64 r1, .int .i64 r2, .string r3, .int .i64 r4, .bool r5, .bool r6, .string r7, .int .i64 r8, .int .i64 r9, .int .i64 r10, .int .i64 r11, .int .i64 r12, .string r13, .string r14, .slice A_r15 r15.length c_r15, .slice A_r16 r16.length c_r16, .slice A_r17 r17.length c_r17], .int .i64 r18]) ∧ Step c w c' w' [1] ∧ Ft c' [0] w' (fun w_ => k44.C w_ A_r15 r15.length r15) ∧ r15.length ≤ c_r15 ∧ Ft c' [0] w' (fun w_ => k89.C w_ A_r16 r16.length r16) ∧ r16.length ≤ c_r16 ∧ Ft c' [0] w' (fun w_ => k89.C w_ A_r17 r17.length r17) ∧ r17.length ≤ c_r17 ∧ Bx c' 1 w' g0 111 ([.slice A0_0 l0_0.length c0_0, .slice A0_1 l0_1.length c0_1, .int .i64 r19, .int .i64 a0_3]) := by
 unfold stmt_Stmt.g at H
 have HS := Step.refl c w [1]
 go_enter Try.func62, Try.ntmps62
 refine wp_seq_k fun K74 hK74 => ?_
 refine wl_region ?_
 refine bx_new (C := c) 89 ([.int .i64 0, .int .i64 0, .string (⟨#[]⟩ : ByteArray), .int .i64 0, .bool false, .bool false, .string (⟨#[]⟩ : ByteArray), .int .i64 0, .int .i64 0, .int .i64 0, .int .i64 0, .int .i64 0, .string (⟨#[]⟩ : ByteArray), .string (⟨#[]⟩ : ByteArray), .slice none 0 0, .slice none 0 0, .slice none 0 0]) 11 rfl rfl (by first | (go_simp; done) | (go_simp; rfl)) ?_
 intro g75 w76 C77 HX78 hs79
 replace HP0 := HP0.thru hs79 rfl
 replace HP0_0 := HP0_0.thru hs79 rfl
 replace HP0_1 := HP0_1.thru hs79 rfl
 replace HS := HS.trans hs79 hc rfl
 (try simp only [ls0, ls1])
 refine st (.int .i64 0) rfl rfl (xr_assign _ rfl rfl) ?_
 refine wl_end ?_
 (try simp only [ls0, ls1])
 refine hK74 _ _ ?_
 (try clear hK74 K74)
 refine wp_seq_k fun K80 hK80 => ?_
 refine wp_seq_k fun K81 hK81 => ?_
 refine wl_region ?_
 refine mv_ rfl ?_
 refine st (.bool false) rfl rfl (xr_bin (.pointer (some ⟨g0, 0, none⟩)) (.pointer none) (.bool false) rfl rfl rfl (B.eql_pn ⟨_, Try.underlying57⟩ ⟨g0, 0, none⟩)) ?_
 refine wl_end ?_
 (try simp only [ls0, ls1])
 refine hK81 _ _ ?_
 (try clear hK81 K81)
 refine wp_cond_false rfl ?_
 refine wp_skip ?_
 (try simp only [ls0, ls1])
 refine hK80 _ _ ?_
 (try clear hK80 K80)
 refine wp_seq_k fun K82 hK82 => ?_
 refine wl_region ?_
 refine mv_ rfl ?_
 have HP83 : Ft C77 [0, 1] w76 (fun w_ => (Kd.ptr 111 k111).K w_ (some (⟨l0_0, l0_1, a0_2, a0_3⟩ : S111)) [.pointer (some ⟨g0, 0, none⟩)]) := ptr_mk (Ft.more (HP0.ft) rfl) (k111_mkF _ _ (⟨l0_0, l0_1, a0_2, a0_3⟩ : S111) HCP0_0 (Ft.more HP0_0 rfl) HCP0_1 (Ft.more HP0_1 rfl))
 obtain ⟨t84, A85, H⟩ := bnd H
 refine st_call #[.pointer (some ⟨g0, 0, none⟩)] rfl rfl Try.func44 (by kernel_rfl) rfl rfl (mp_ rfl) ?_
 refine (expr_Cursor_Pos.calls (.pointer (some ⟨g0, 0, none⟩)) (some (⟨l0_0, l0_1, a0_2, a0_3⟩ : S111) : Option S111) t84  (fun z_ => pal [(0, 0), (1, 0)] (C77 z_)) w76 (fun _ => pal_lt rfl _) (Ft.arg HP83 rfl) A85).mono ?_
 rintro _ w87 ⟨C88, rfl, hs89⟩
 refine ⟨_, rfl, ?_⟩
 replace hs89 := Step.lift (U := [(0, 0)]) hs89 [] rfl rfl
 generalize up C77 C88 w76.heap.size [(0, 0)] = C88_ at hs89
 replace HP0 := HP0.thru hs89 rfl
 replace HP0_0 := HP0_0.thru hs89 rfl
 replace HP0_1 := HP0_1.thru hs89 rfl
 replace HX78 := HX78.thru hs89 rfl
 replace HS := HS.trans hs89 hc rfl
 (try simp only [ls0, ls1])
 refine st (.agg #[.int .i64 0, .int .i64 t84, .string (⟨#[]⟩ : ByteArray), .int .i64 0, .bool false, .bool false, .string (⟨#[]⟩ : ByteArray), .int .i64 0, .int .i64 0, .int .i64 0, .int .i64 0, .int .i64 0, .string (⟨#[]⟩ : ByteArray), .string (⟨#[]⟩ : ByteArray), .slice none 0 0, .slice none 0 0, .slice none 0 0]) rfl rfl (xr_build #[(1, .int .i64 t84)] (.agg #[.int .i64 0, .int .i64 t84, .string (⟨#[]⟩ : ByteArray), .int .i64 0, .bool false, .bool false, .string (⟨#[]⟩ : ByteArray), .int .i64 0, .int .i64 0, .int .i64 0, .int .i64 0, .int .i64 0, .string (⟨#[]⟩ : ByteArray), .string (⟨#[]⟩ : ByteArray), .slice none 0 0, .slice none 0 0, .slice none 0 0]) rfl (mp_ rfl) (by first | rfl | (go_simp; done) | (go_simp; rfl) | (go_simp; exact i64_w _) | (go_simp; exact i32_w _))) ?_
 refine bx_new (C := C88_) 89 ([.int .i64 0, .int .i64 0, .string (⟨#[]⟩ : ByteArray), .int .i64 0, .bool false, .bool false, .string (⟨#[]⟩ : ByteArray), .int .i64 0, .int .i64 0, .int .i64 0, .int .i64 0, .int .i64 0, .string (⟨#[]⟩ : ByteArray), .string (⟨#[]⟩ : ByteArray), .slice none 0 0, .slice none 0 0, .slice none 0 0]) 12 rfl rfl (by first | (go_simp; done) | (go_simp; rfl)) ?_
 intro g90 w91 C92 HX93 hs94
 replace HP0 := HP0.thru hs94 rfl
 replace HP0_0 := HP0_0.thru hs94 rfl
 replace HP0_1 := HP0_1.thru hs94 rfl
 replace HX78 := HX78.thru hs94 rfl
 replace HS := HS.trans hs94 hc rfl
 (try simp only [ls0, ls1])
 refine bx_store (C := C92) (z := 12) (g := g90) (j := 0) (tb := 89) (u := .agg #[.int .i64 0, .int .i64 t84, .string (⟨#[]⟩ : ByteArray), .int .i64 0, .bool false, .bool false, .string (⟨#[]⟩ : ByteArray), .int .i64 0, .int .i64 0, .int .i64 0, .int .i64 0, .int .i64 0, .string (⟨#[]⟩ : ByteArray), .string (⟨#[]⟩ : ByteArray), .slice none 0 0, .slice none 0 0, .slice none 0 0]) (seg := [.int .i64 0, .int .i64 t84, .string (⟨#[]⟩ : ByteArray), .int .i64 0, .bool false, .bool false, .string (⟨#[]⟩ : ByteArray), .int .i64 0, .int .i64 0, .int .i64 0, .int .i64 0, .int .i64 0, .string (⟨#[]⟩ : ByteArray), .string (⟨#[]⟩ : ByteArray), .slice none 0 0, .slice none 0 0, .slice none 0 0]) (xs := [.int .i64 0, .int .i64 0, .string (⟨#[]⟩ : ByteArray), .int .i64 0, .bool false, .bool false, .string (⟨#[]⟩ : ByteArray), .int .i64 0, .int .i64 0, .int .i64 0, .int .i64 0, .int .i64 0, .string (⟨#[]⟩ : ByteArray), .string (⟨#[]⟩ : ByteArray), .slice none 0 0, .slice none 0 0, .slice none 0 0]) rfl rfl rfl rfl rfl rfl (by first | kernel_rfl | rfl) (by simp [Value.oneCell']) HX93 (by simp only [List.length_cons, List.length_nil]; omega) rfl ?_
 intro w95 HX96 hs97
 replace HP0 := HP0.thru hs97 rfl
 replace HP0_0 := HP0_0.thru hs97 rfl
 replace HP0_1 := HP0_1.thru hs97 rfl
 replace HX78 := HX78.thru hs97 rfl
 replace HS := HS.trans hs97 hc rfl
 (try simp only [ls0, ls1])
 refine wl_end ?_
 (try simp only [ls0, ls1])
 refine hK82 _ _ ?_
 (try clear hK82 K82)
 refine wp_seq_k fun K98 hK98 => ?_
 refine wp_seq_k fun K99 hK99 => ?_
 refine wl_region ?_
 refine mv_ rfl ?_
 refine mv_ rfl ?_
 obtain ⟨⟨t100, t101, t102, t103, t104, t105, t106, t107, t108, t109, t110, t111, t112, t113, t114, t115, t116, t117⟩, A118, H⟩ := bnd H
 (try dsimp only at H)
 refine st_call #[.pointer (some ⟨g0, 0, none⟩), .pointer (some ⟨g90, 0, none⟩), .int .i64 a1] rfl rfl Try.func88 (by kernel_rfl) rfl rfl (mp_ rfl) ?_
 refine (IH.stmt_read g0 A0_0 c0_0 l0_0 A0_1 c0_1 l0_1 a0_2 a0_3 g90 0 t84 (⟨#[]⟩ : ByteArray) 0 false false (⟨#[]⟩ : ByteArray) 0 0 0 0 0 (⟨#[]⟩ : ByteArray) (⟨#[]⟩ : ByteArray) none 0 ([] : List (S44)) none 0 ([] : List (S89)) none 0 ([] : List (S89)) a1 t100 t101 t102 t103 t104 t105 t106 t107 t108 t109 t110 t111 t112 t113 t114 t115 t116 t117  (fun z_ => pal [(0, 0), (1, 1), (12, 2)] (C92 z_)) w95 (fun _ => pal_lt rfl _) (Bx.arg HP0 rfl) (Ft.arg HP0_0 rfl) HCP0_0 (Ft.arg HP0_1 rfl) HCP0_1 (Bx.arg HX96 rfl) (Ft.arg (show Ft C92 [0] w95 (fun w => k44.C w none 0 []) from Kd.F_nil _ _ _) rfl) (Nat.le_refl 0) (Ft.arg (show Ft C92 [0] w95 (fun w => k89.C w none 0 []) from Kd.F_nil _ _ _) rfl) (Nat.le_refl 0) (Ft.arg (show Ft C92 [0] w95 (fun w => k89.C w none 0 []) from Kd.F_nil _ _ _) rfl) (Nat.le_refl 0) A118).mono ?_
 rintro _ w120 ⟨C121, A123, cp124, A127, cp128, A131, cp132, rfl, hs122, HO125, HC126, HO129, HC130, HO133, HC134, HX135, HX136⟩
 refine ⟨_, rfl, ?_⟩
 replace HO125 := Ft.res (U := [(0, 0), (1, 1), (2, 12)]) HO125 hs122 [0] rfl rfl rfl
 replace HO129 := Ft.res (U := [(0, 0), (1, 1), (2, 12)]) HO129 hs122 [0] rfl rfl rfl
 replace HO133 := Ft.res (U := [(0, 0), (1, 1), (2, 12)]) HO133 hs122 [0] rfl rfl rfl
 replace HX135 := Bx.res (U := [(0, 0), (1, 1), (2, 12)]) (j := 1) HX135 hs122 (by rfl) (by decide) rfl
 replace HX136 := Bx.res (U := [(0, 0), (1, 1), (2, 12)]) (j := 12) HX136 hs122 (by rfl) (by decide) rfl
 replace hs122 := Step.lift (U := [(0, 0), (1, 1), (2, 12)]) hs122 [1, 12] rfl rfl
 generalize up C92 C121 w95.heap.size [(0, 0), (1, 1), (2, 12)] = C121_ at HO125 HO129 HO133 HX135 HX136 hs122
 replace HP0_0 := HP0_0.thru hs122 rfl
 replace HP0_1 := HP0_1.thru hs122 rfl
 replace HX78 := HX78.thru hs122 rfl
 replace HS := HS.trans hs122 hc rfl
 (try simp only [ls0, ls1])
 refine as_ rfl ?_
 refine wl_end ?_
 (try simp only [ls0, ls1])
 refine hK99 _ _ ?_
 (try clear hK99 K99)
 refine wp_seq_k fun K137 hK137 => ?_
 refine wl_region ?_
 refine mv_ rfl ?_
 refine st (.bool (!decide (t100 = 0))) rfl rfl (xr_bin _ _ _ rfl rfl rfl (B.neq_i64 _ _)) ?_
 refine wl_end ?_
 (try simp only [ls0, ls1])
 refine hK137 _ _ ?_
 (try clear hK137 K137)
 by_cases c138 : t100 = 0
 ·rw [if_pos c138] at H
  (try rw [(decide_eq_true c138)])
  (try simp only [Bool.not_true, Bool.not_false])
  refine wp_cond_false rfl ?_
  refine wp_skip ?_
  (try simp only [ls0, ls1])
  refine hK98 _ _ ?_
  (try clear hK98 K98)
  refine wp_seq_k fun K139 hK139 => ?_
  refine wl_region ?_
  refine st (.agg #[.int .i64 t102, .int .i64 t84, .string t103, .int .i64 t104, .bool t105, .bool t106, .string t107, .int .i64 t108, .int .i64 t109, .int .i64 t110, .int .i64 t111, .int .i64 t112, .string t113, .string t114, .slice A123 t115.length cp124, .slice A127 t116.length cp128, .slice A131 t117.length cp132]) rfl rfl (xr_load _ _ rfl rfl (load_agg (cs := [.int .i64 t102, .int .i64 t84, .string t103, .int .i64 t104, .bool t105, .bool t106, .string t107, .int .i64 t108, .int .i64 t109, .int .i64 t110, .int .i64 t111, .int .i64 t112, .string t113, .string t114, .slice A123 t115.length cp124, .slice A127 t116.length cp128, .slice A131 t117.length cp132]) Try.underlying89 rfl (by kernel_rfl) (bx_cells (HX136).2 0 rfl))) ?_
  refine bx_store (C := C121_) (z := 11) (g := g75) (j := 0) (tb := 89) (u := .agg #[.int .i64 t102, .int .i64 t84, .string t103, .int .i64 t104, .bool t105, .bool t106, .string t107, .int .i64 t108, .int .i64 t109, .int .i64 t110, .int .i64 t111, .int .i64 t112, .string t113, .string t114, .slice A123 t115.length cp124, .slice A127 t116.length cp128, .slice A131 t117.length cp132]) (seg := [.int .i64 t102, .int .i64 t84, .string t103, .int .i64 t104, .bool t105, .bool t106, .string t107, .int .i64 t108, .int .i64 t109, .int .i64 t110, .int .i64 t111, .int .i64 t112, .string t113, .string t114, .slice A123 t115.length cp124, .slice A127 t116.length cp128, .slice A131 t117.length cp132]) (xs := [.int .i64 0, .int .i64 0, .string (⟨#[]⟩ : ByteArray), .int .i64 0, .bool false, .bool false, .string (⟨#[]⟩ : ByteArray), .int .i64 0, .int .i64 0, .int .i64 0, .int .i64 0, .int .i64 0, .string (⟨#[]⟩ : ByteArray), .string (⟨#[]⟩ : ByteArray), .slice none 0 0, .slice none 0 0, .slice none 0 0]) rfl rfl rfl rfl rfl rfl (by first | kernel_rfl | rfl) (by simp [Value.oneCell']) HX78 (by simp only [List.length_cons, List.length_nil]; omega) rfl ?_
  intro w140 HX141 hs142
  replace HX135 := HX135.thru hs142 rfl
  replace HP0_0 := HP0_0.thru hs142 rfl
  replace HP0_1 := HP0_1.thru hs142 rfl
  replace HO125 := HO125.thru hs142 rfl
  replace HO129 := HO129.thru hs142 rfl
  replace HO133 := HO133.thru hs142 rfl
  replace HX136 := HX136.thru hs142 rfl
  replace HS := HS.trans hs142 hc rfl
  (try simp only [ls0, ls1])
  refine st (.int .i64 0) rfl rfl (xr_assign _ rfl rfl) ?_
  refine wl_end ?_
  (try simp only [ls0, ls1])
  refine hK139 _ _ ?_
  (try clear hK139 K139)
  refine wp_ret ?_
  (try simp only [Exit.inBlock, Exit.then, Exit.noGoto])
  (try simp only [ls0, ls1])
  simp only [Option.some.injEq, Prod.mk.injEq] at H
  obtain ⟨rfl, rfl, rfl, rfl, rfl, rfl, rfl, rfl, rfl, rfl, rfl, rfl, rfl, rfl, rfl, rfl, rfl, rfl, rfl⟩ := H
  refine bodyPost_ret (res_ct rfl rfl (load_of (load_agg (cs := [.int .i64 t102, .int .i64 t84, .string t103, .int .i64 t104, .bool t105, .bool t106, .string t107, .int .i64 t108, .int .i64 t109, .int .i64 t110, .int .i64 t111, .int .i64 t112, .string t113, .string t114, .slice A123 t115.length cp124, .slice A127 t116.length cp128, .slice A131 t117.length cp132]) Try.underlying89 rfl (by kernel_rfl) (bx_cells (HX141).2 0 rfl)))) rfl ?_
  exact ⟨_, A123, cp124, A127, cp128, A131, cp132, rfl, HS, HO125, HC126, HO129, HC130, HO133, HC134, HX135⟩
 rw [if_neg c138] at H
 (try rw [(decide_eq_false c138)])
 (try simp only [Bool.not_true, Bool.not_false])
 refine wp_cond_true rfl ?_
 refine wp_seq_k fun K143 hK143 => ?_
 refine wl_region ?_
 refine st (.agg #[.int .i64 0, .int .i64 0, .string (⟨#[]⟩ : ByteArray), .int .i64 0, .bool false, .bool false, .string (⟨#[]⟩ : ByteArray), .int .i64 0, .int .i64 0, .int .i64 0, .int .i64 0, .int .i64 0, .string (⟨#[]⟩ : ByteArray), .string (⟨#[]⟩ : ByteArray), .slice none 0 0, .slice none 0 0, .slice none 0 0]) rfl rfl (xr_build #[] (.agg #[.int .i64 0, .int .i64 0, .string (⟨#[]⟩ : ByteArray), .int .i64 0, .bool false, .bool false, .string (⟨#[]⟩ : ByteArray), .int .i64 0, .int .i64 0, .int .i64 0, .int .i64 0, .int .i64 0, .string (⟨#[]⟩ : ByteArray), .string (⟨#[]⟩ : ByteArray), .slice none 0 0, .slice none 0 0, .slice none 0 0]) rfl (mp_ rfl) (by first | rfl | (go_simp; done) | (go_simp; rfl) | (go_simp; exact i64_w _) | (go_simp; exact i32_w _))) ?_
 refine mv_ rfl ?_
 refine bx_store (C := C121_) (z := 11) (g := g75) (j := 0) (tb := 89) (u := .agg #[.int .i64 0, .int .i64 0, .string (⟨#[]⟩ : ByteArray), .int .i64 0, .bool false, .bool false, .string (⟨#[]⟩ : ByteArray), .int .i64 0, .int .i64 0, .int .i64 0, .int .i64 0, .int .i64 0, .string (⟨#[]⟩ : ByteArray), .string (⟨#[]⟩ : ByteArray), .slice none 0 0, .slice none 0 0, .slice none 0 0]) (seg := [.int .i64 0, .int .i64 0, .string (⟨#[]⟩ : ByteArray), .int .i64 0, .bool false, .bool false, .string (⟨#[]⟩ : ByteArray), .int .i64 0, .int .i64 0, .int .i64 0, .int .i64 0, .int .i64 0, .string (⟨#[]⟩ : ByteArray), .string (⟨#[]⟩ : ByteArray), .slice none 0 0, .slice none 0 0, .slice none 0 0]) (xs := [.int .i64 0, .int .i64 0, .string (⟨#[]⟩ : ByteArray), .int .i64 0, .bool false, .bool false, .string (⟨#[]⟩ : ByteArray), .int .i64 0, .int .i64 0, .int .i64 0, .int .i64 0, .int .i64 0, .string (⟨#[]⟩ : ByteArray), .string (⟨#[]⟩ : ByteArray), .slice none 0 0, .slice none 0 0, .slice none 0 0]) rfl rfl rfl rfl rfl rfl (by first | kernel_rfl | rfl) (by simp [Value.oneCell']) HX78 (by simp only [List.length_cons, List.length_nil]; omega) rfl ?_
 intro w144 HX145 hs146
 replace HX135 := HX135.thru hs146 rfl
 replace HP0_0 := HP0_0.thru hs146 rfl
 replace HP0_1 := HP0_1.thru hs146 rfl
 replace HX136 := HX136.thru hs146 rfl
 replace HO125 := HO125.thru hs146 rfl
 replace HO129 := HO129.thru hs146 rfl
 replace HO133 := HO133.thru hs146 rfl
 replace HS := HS.trans hs146 hc rfl
 (try simp only [ls0, ls1])
 refine as_ rfl ?_
 refine wl_end ?_
 (try simp only [ls0, ls1])
 refine hK143 _ _ ?_
 (try clear hK143 K143)
 refine wp_ret ?_
 (try simp only [Exit.inBlock, Exit.then, Exit.noGoto])
 (try simp only [ls0, ls1])
 simp only [Option.some.injEq, Prod.mk.injEq] at H
 obtain ⟨rfl, rfl, rfl, rfl, rfl, rfl, rfl, rfl, rfl, rfl, rfl, rfl, rfl, rfl, rfl, rfl, rfl, rfl, rfl⟩ := H
 refine bodyPost_ret (res_ct rfl rfl (load_of (load_agg (cs := [.int .i64 0, .int .i64 0, .string (⟨#[]⟩ : ByteArray), .int .i64 0, .bool false, .bool false, .string (⟨#[]⟩ : ByteArray), .int .i64 0, .int .i64 0, .int .i64 0, .int .i64 0, .int .i64 0, .string (⟨#[]⟩ : ByteArray), .string (⟨#[]⟩ : ByteArray), .slice none 0 0, .slice none 0 0, .slice none 0 0]) Try.underlying89 rfl (by kernel_rfl) (bx_cells (HX145).2 0 rfl)))) rfl ?_
 exact ⟨_, none, 0, none, 0, none, 0, rfl, HS, (Kd.F_nil _ _ _), (Nat.le_refl 0), (Kd.F_nil _ _ _), (Nat.le_refl 0), (Kd.F_nil _ _ _), (Nat.le_refl 0), HX135⟩

/-! ### stmt_Row: function 65 -/
def stmt_Row.l0 (r_ : Rec_stmt_Stmt) : Nat → Int → Int → (List Int) → (List (S28)) → (List (S89)) → Int → Option ((List (S89)) × Int × Int)
  | 0, _, _, _, _, _, _ => none
  | k + 1, a0_3, a1, l0_0, l0_1, x846, x854 => (expr_Cursor_Done.f (some (⟨l0_0, l0_1, x854, a0_3⟩ : S111) : Option S111)).bind fun t939 => (if t939 = true then (some (x846, 0, x854)) else ((expr_Cursor_Peek.f (some (⟨l0_0, l0_1, x854, a0_3⟩ : S111) : Option S111)).bind fun t948 => (if t948 = (⟨#[125]⟩ : ByteArray) then (some (x846, 0, x854)) else ((expr_Cursor_Peek.f (some (⟨l0_0, l0_1, x854, a0_3⟩ : S111) : Option S111)).bind fun t957 => (if t957 = (⟨#[114, 101, 116, 117, 114, 110]⟩ : ByteArray) then (some (x846, 0, x854)) else ((r_.stmt_Stmt l0_0 l0_1 x854 a0_3 a1).bind fun bt966 => (if bt966.2.2.2.2.2.2.2.2.2.2.2.2.2.2.2.2.2.1 = 0 then (if x846.length < 676622540169 then ((some (x846 ++ [(⟨bt966.1, bt966.2.1, bt966.2.2.1, bt966.2.2.2.1, (⟨bt966.2.2.2.2.1, bt966.2.2.2.2.2.1, bt966.2.2.2.2.2.2.1, bt966.2.2.2.2.2.2.2.1, bt966.2.2.2.2.2.2.2.2.1⟩ : S82), (⟨bt966.2.2.2.2.2.2.2.2.2.1, bt966.2.2.2.2.2.2.2.2.2.2.1, bt966.2.2.2.2.2.2.2.2.2.2.2.1, bt966.2.2.2.2.2.2.2.2.2.2.2.2.1, bt966.2.2.2.2.2.2.2.2.2.2.2.2.2.1, bt966.2.2.2.2.2.2.2.2.2.2.2.2.2.2.1⟩ : S44), bt966.2.2.2.2.2.2.2.2.2.2.2.2.2.2.2.1, bt966.2.2.2.2.2.2.2.2.2.2.2.2.2.2.2.2.1⟩ : S89)] : List (S89))).bind fun y1015 => (stmt_Row.l0 r_ k a0_3 a1 l0_0 l0_1 y1015 bt966.2.2.2.2.2.2.2.2.2.2.2.2.2.2.2.2.2.2)) else (none)) else (some (([] : List (S89)), bt966.2.2.2.2.2.2.2.2.2.2.2.2.2.2.2.2.2.1, bt966.2.2.2.2.2.2.2.2.2.2.2.2.2.2.2.2.2.2)))))))))
def stmt_Row.g (r_ : Rec_stmt_Stmt) (k : Nat) (l0_0 : List Int) (l0_1 : List (S28)) (a0_2 : Int) (a0_3 : Int) (a1 : Int) : Option ((List (S89)) × Int × Int) := stmt_Row.l0 r_ k a0_3 a1 l0_0 l0_1 ([] : List (S89)) a0_2

set_option maxHeartbeats 8000000 in
set_option maxRecDepth 100000 in
theorem stmt_Row.step (r_ : Rec_stmt_Stmt) (IH : Rec_stmt_Stmt.Good r_) (k : Nat) (g0 : Nat) (A0_0 : Option Addr) (c0_0 : Nat) (l0_0 : List Int) (A0_1 : Option Addr) (c0_1 : Nat) (l0_1 : List (S28)) (a0_2 : Int) (a0_3 : Int) (a1 : Int) (r1 : List (S89)) (r2 : Int) (r3 : Int) (c : Nat → Nat) (w : World) (hc : ∀ k, c k < 10) (HP0 : Bx c 1 w g0 111 ([.slice A0_0 l0_0.length c0_0, .slice A0_1 l0_1.length c0_1, .int .i64 a0_2, .int .i64 a0_3])) (HP0_0 : Ft c [0] w (fun w_ => (Kd.int .u8).C w_ A0_0 l0_0.length l0_0)) (HCP0_0 : l0_0.length ≤ c0_0) (HP0_1 : Ft c [0] w (fun w_ => k28.C w_ A0_1 l0_1.length l0_1)) (HCP0_1 : l0_1.length ≤ c0_1) (H : stmt_Row.g r_ k l0_0 l0_1 a0_2 a0_3 a1 = some (r1, r2, r3)) :
    Calls Try.prog 65 #[.pointer (some ⟨g0, 0, none⟩), .int .i64 a1] w fun e w' => ∃ (c' : Nat → Nat) (A_r1 : Option Addr) (c_r1 : Nat), e = .returned (.tuple #[.slice A_r1 r1.length c_r1, .int .i64 r2]) ∧ Step c w c' w' [1] ∧ Own c' 5 w' k89 89 (.slice A_r1 r1.length c_r1) r1 ∧ r1.length ≤ c_r1 ∧ Bx c' 1 w' g0 111 ([.slice A0_0 l0_0.length c0_0, .slice A0_1 l0_1.length c0_1, .int .i64 r3, .int .i64 a0_3]) := by
 unfold stmt_Row.g at H
 have HS := Step.refl c w [1]
 go_enter Try.func65, Try.ntmps65
 refine wp_seq_k fun K513 hK513 => ?_
 refine wl_region ?_
 refine st (.slice none 0 0) rfl rfl (xr_assign _ rfl rfl) ?_
 refine st (.int .i64 0) rfl rfl (xr_assign _ rfl rfl) ?_
 refine wl_end ?_
 (try simp only [ls0, ls1])
 refine hK513 _ _ ?_
 (try clear hK513 K513)
 refine wp_seq_k fun K514 hK514 => ?_
 refine wp_seq_k fun K515 hK515 => ?_
 refine wl_region ?_
 refine mv_ rfl ?_
 refine st (.bool false) rfl rfl (xr_bin (.pointer (some ⟨g0, 0, none⟩)) (.pointer none) (.bool false) rfl rfl rfl (B.eql_pn ⟨_, Try.underlying57⟩ ⟨g0, 0, none⟩)) ?_
 refine wl_end ?_
 (try simp only [ls0, ls1])
 refine hK515 _ _ ?_
 (try clear hK515 K515)
 refine wp_cond_false rfl ?_
 refine wp_skip ?_
 (try simp only [ls0, ls1])
 refine hK514 _ _ ?_
 (try clear hK514 K514)
 refine wp_seq_k fun K516 hK516 => ?_
 refine wl_region ?_
 refine st (.slice none 0 0) rfl rfl (xr_assign _ rfl rfl) ?_
 refine wl_end ?_
 (try simp only [ls0, ls1])
 refine hK516 _ _ ?_
 (try clear hK516 K516)
 refine wp_seq_k fun K517 hK517 => ?_
 refine wp_block ?_
 (try simp only [ls0, ls1])
 refine wp_looped (looped_fin (fun kq858 a_ w857 => ∃ (C856 : Nat → Nat) (x854 : Int) (A847 : Option Addr) (n848 cp849 : Nat) (x846 : List (S89)) (g_ : Nat → Value), a_ = ⟨#[.pointer (some ⟨g0, 0, none⟩), .int .i64 a1, (g_ 2), (g_ 3), (g_ 4), (g_ 5), .slice A847 n848 cp849, (g_ 7), (g_ 8), (g_ 9), (g_ 10), (g_ 11), (g_ 12), (g_ 13), (g_ 14), (g_ 15), (g_ 16), (g_ 17), (g_ 18), (g_ 19), (g_ 20), (g_ 21), (g_ 22), (g_ 23), (g_ 24), (g_ 25), (g_ 26), (g_ 27), (g_ 28), (g_ 29), (g_ 30), (g_ 31), (g_ 32), (g_ 33), (g_ 34), (g_ 35), (g_ 36), (g_ 37)], []⟩ ∧ Step c w C856 w857 [1] ∧ kq858 ≤ k ∧ (Own C856 11 w857 k89 89 (.slice A847 n848 cp849) x846) ∧ (n848 ≤ cp849) ∧ (Ft C856 [0] w857 (fun w_ => (Kd.int .u8).C w_ A0_0 l0_0.length l0_0)) ∧ (Ft C856 [0] w857 (fun w_ => k28.C w_ A0_1 l0_1.length l0_1)) ∧ (Bx C856 1 w857 g0 111 ([.slice A0_0 l0_0.length c0_0, .slice A0_1 l0_1.length c0_1, .int .i64 x854, .int .i64 a0_3])) ∧ stmt_Row.l0 r_ kq858 a0_3 a1 l0_0 l0_1 x846 x854 = some (r1, r2, r3)) ?step fun hL_ => ?init)
 case init =>
  exact jmpL (fun a_ h_ => hL_ k a_ _ h_) (fun g_ => ⟨_, a0_2, none, 0, 0, ([] : List (S89)), g_, rfl, HS, Nat.le_refl _, (Own.nil _ _ _ _ _), (Nat.le_refl 0), HP0_0, HP0_1, HP0, H⟩) rfl
 case step =>
  intro kq858 ih861 a862 w857 hr863
  obtain ⟨C856, x854, A847, n848, cp849, x846, g_, rfl, HS859, hk860, HJ851, HC850, HJ852, HJ853, HJ855, H⟩ := hr863
  refine looped_round ?_
  obtain rfl : n848 = x846.length := HJ851.at_.1
  cases kq858 with
  | zero => exact absurd H (by simp [stmt_Row.l0])
  | succ k864 =>
   simp only [stmt_Row.l0] at H
   refine wp_seq_k fun K865 hK865 => ?_
   refine wp_seq_k fun K914 hK914 => ?_
   refine wl_region ?_
   refine mv_ rfl ?_
   have HP938 : Ft C856 [0, 1] w857 (fun w_ => (Kd.ptr 111 k111).K w_ (some (⟨l0_0, l0_1, x854, a0_3⟩ : S111)) [.pointer (some ⟨g0, 0, none⟩)]) := ptr_mk (Ft.more (HJ855.ft) rfl) (k111_mkF _ _ (⟨l0_0, l0_1, x854, a0_3⟩ : S111) HCP0_0 (Ft.more HJ852 rfl) HCP0_1 (Ft.more HJ853 rfl))
   obtain ⟨t939, A940, H⟩ := bnd H
   refine st_call #[.pointer (some ⟨g0, 0, none⟩)] rfl rfl Try.func47 (by kernel_rfl) rfl rfl (mp_ rfl) ?_
   refine (expr_Cursor_Done.calls (.pointer (some ⟨g0, 0, none⟩)) (some (⟨l0_0, l0_1, x854, a0_3⟩ : S111) : Option S111) t939  (fun z_ => pal [(0, 0), (1, 0)] (C856 z_)) w857 (fun _ => pal_lt rfl _) (Ft.arg HP938 rfl) A940).mono ?_
   rintro _ w942 ⟨C943, rfl, hs944⟩
   refine ⟨_, rfl, ?_⟩
   replace hs944 := Step.lift (U := [(0, 0)]) hs944 [] rfl rfl
   generalize up C856 C943 w857.heap.size [(0, 0)] = C943_ at hs944
   replace HJ851 := HJ851.thru hs944 rfl
   replace HJ855 := HJ855.thru hs944 rfl
   replace HJ852 := HJ852.thru hs944 rfl
   replace HJ853 := HJ853.thru hs944 rfl
   replace HS859 := HS859.trans hs944 hc rfl
   (try simp only [ls0, ls1])
   refine st (.bool (!t939)) rfl rfl (xr_un (.bool t939) _ rfl rfl (by first | rfl | (go_simp; done) | (go_simp; rfl) | (go_simp; exact i64_w _) | (go_simp; exact i32_w _))) ?_
   refine mv_ rfl ?_
   by_cases c945 : t939 = true
   ·rw [if_pos c945] at H
    (try rw [c945])
    (try simp only [Bool.not_true, Bool.not_false])
    refine sk_guard (guard_off 3 true 14 rfl rfl false (by decide) rfl) rfl ?_
    refine sk_guard (guard_off 3 true 14 rfl rfl false (by decide) rfl) rfl ?_
    simp only [ls0, ls1]
    refine sk_guard (guard_off 3 true 14 rfl rfl false (by decide) rfl) rfl ?_
    refine st (.bool false) rfl rfl (xr_pick false _ rfl rfl rfl) ?_
    refine mv_ rfl ?_
    refine sk_guard (guard_off 8 true 19 rfl rfl false (by decide) rfl) rfl ?_
    simp only [ls0, ls1]
    refine sk_guard (guard_off 8 true 19 rfl rfl false (by decide) rfl) rfl ?_
    refine sk_guard (guard_off 8 true 19 rfl rfl false (by decide) rfl) rfl ?_
    refine st (.bool false) rfl rfl (xr_pick false _ rfl rfl rfl) ?_
    refine wl_end ?_
    (try simp only [ls0, ls1])
    refine hK914 _ _ ?_
    (try clear hK914 K914)
    refine wp_cond_false rfl ?_
    refine wp_exit ?_
    (try simp only [ls0, ls1])
    refine hK517 _ _ ?_
    (try clear hK517 K517)
    refine wp_seq_k fun K946 hK946 => ?_
    refine wl_region ?_
    refine mv_ rfl ?_
    refine as_ rfl ?_
    refine st (.int .i64 0) rfl rfl (xr_assign _ rfl rfl) ?_
    refine wl_end ?_
    (try simp only [ls0, ls1])
    refine hK946 _ _ ?_
    (try clear hK946 K946)
    refine wp_ret ?_
    (try simp only [Exit.inBlock, Exit.then, Exit.noGoto])
    (try simp only [ls0, ls1])
    replace HJ851 := Own.recolor (b := 5) HJ851 (by decide)
    replace HJ855 := Bx.recol (a := 11) (b := 5) HJ855 (by decide)
    replace HJ852 := Ft.recol (a := 11) (b := 5) HJ852 (.inl rfl)
    replace HJ853 := Ft.recol (a := 11) (b := 5) HJ853 (.inl rfl)
    replace HS859 := Step.recol (a := 11) (b := 5) HS859 hc (by decide)
    simp only [Option.some.injEq, Prod.mk.injEq] at H
    obtain ⟨rfl, rfl, rfl⟩ := H
    refine bodyPost_ret (results_tmp2 rfl _ _ _) rfl ?_
    exact ⟨_, A847, cp849, rfl, HS859, HJ851, HC850, HJ855⟩
   rw [if_neg c945] at H
   (try rw [(Bool.eq_false_iff.mpr c945)])
   (try simp only [Bool.not_true, Bool.not_false])
   refine on_guard (guard_on 3 true 14 rfl rfl rfl) ?_
   refine mv_ rfl ?_
   refine on_guard (guard_on 3 true 14 rfl rfl rfl) ?_
   have HP947 : Ft C943_ [0, 1] w942 (fun w_ => (Kd.ptr 111 k111).K w_ (some (⟨l0_0, l0_1, x854, a0_3⟩ : S111)) [.pointer (some ⟨g0, 0, none⟩)]) := ptr_mk (Ft.more (HJ855.ft) rfl) (k111_mkF _ _ (⟨l0_0, l0_1, x854, a0_3⟩ : S111) HCP0_0 (Ft.more HJ852 rfl) HCP0_1 (Ft.more HJ853 rfl))
   obtain ⟨t948, A949, H⟩ := bnd H
   refine st_call #[.pointer (some ⟨g0, 0, none⟩)] rfl rfl Try.func43 (by kernel_rfl) rfl rfl (mp_ rfl) ?_
   refine (expr_Cursor_Peek.calls (.pointer (some ⟨g0, 0, none⟩)) (some (⟨l0_0, l0_1, x854, a0_3⟩ : S111) : Option S111) t948  (fun z_ => pal [(0, 0), (1, 0)] (C943_ z_)) w942 (fun _ => pal_lt rfl _) (Ft.arg HP947 rfl) A949).mono ?_
   rintro _ w951 ⟨C952, rfl, hs953⟩
   refine ⟨_, rfl, ?_⟩
   replace hs953 := Step.lift (U := [(0, 0)]) hs953 [] rfl rfl
   generalize up C943_ C952 w942.heap.size [(0, 0)] = C952_ at hs953
   replace HJ851 := HJ851.thru hs953 rfl
   replace HJ855 := HJ855.thru hs953 rfl
   replace HJ852 := HJ852.thru hs953 rfl
   replace HJ853 := HJ853.thru hs953 rfl
   replace HS859 := HS859.trans hs953 hc rfl
   (try simp only [ls0, ls1])
   refine on_guard (guard_on 3 true 14 rfl rfl rfl) ?_
   refine st (.bool (!decide (t948 = (⟨#[125]⟩ : ByteArray)))) rfl rfl (xr_bin _ _ _ rfl rfl rfl (B.neq_str _ _)) ?_
   refine st (.bool (!decide (t948 = (⟨#[125]⟩ : ByteArray)))) rfl rfl (xr_pick true _ rfl rfl rfl) ?_
   refine mv_ rfl ?_
   by_cases c954 : t948 = (⟨#[125]⟩ : ByteArray)
   ·rw [if_pos c954] at H
    (try rw [(decide_eq_true c954)])
    (try simp only [Bool.not_true, Bool.not_false])
    refine sk_guard (guard_off 8 true 19 rfl rfl false (by decide) rfl) rfl ?_
    simp only [ls0, ls1]
    refine sk_guard (guard_off 8 true 19 rfl rfl false (by decide) rfl) rfl ?_
    refine sk_guard (guard_off 8 true 19 rfl rfl false (by decide) rfl) rfl ?_
    refine st (.bool false) rfl rfl (xr_pick false _ rfl rfl rfl) ?_
    refine wl_end ?_
    (try simp only [ls0, ls1])
    refine hK914 _ _ ?_
    (try clear hK914 K914)
    refine wp_cond_false rfl ?_
    refine wp_exit ?_
    (try simp only [ls0, ls1])
    refine hK517 _ _ ?_
    (try clear hK517 K517)
    refine wp_seq_k fun K955 hK955 => ?_
    refine wl_region ?_
    refine mv_ rfl ?_
    refine as_ rfl ?_
    refine st (.int .i64 0) rfl rfl (xr_assign _ rfl rfl) ?_
    refine wl_end ?_
    (try simp only [ls0, ls1])
    refine hK955 _ _ ?_
    (try clear hK955 K955)
    refine wp_ret ?_
    (try simp only [Exit.inBlock, Exit.then, Exit.noGoto])
    (try simp only [ls0, ls1])
    replace HJ851 := Own.recolor (b := 5) HJ851 (by decide)
    replace HJ855 := Bx.recol (a := 11) (b := 5) HJ855 (by decide)
    replace HJ852 := Ft.recol (a := 11) (b := 5) HJ852 (.inl rfl)
    replace HJ853 := Ft.recol (a := 11) (b := 5) HJ853 (.inl rfl)
    replace HS859 := Step.recol (a := 11) (b := 5) HS859 hc (by decide)
    simp only [Option.some.injEq, Prod.mk.injEq] at H
    obtain ⟨rfl, rfl, rfl⟩ := H
    refine bodyPost_ret (results_tmp2 rfl _ _ _) rfl ?_
    exact ⟨_, A847, cp849, rfl, HS859, HJ851, HC850, HJ855⟩
   rw [if_neg c954] at H
   (try rw [(decide_eq_false c954)])
   (try simp only [Bool.not_true, Bool.not_false])
   refine on_guard (guard_on 8 true 19 rfl rfl rfl) ?_
   refine mv_ rfl ?_
   refine on_guard (guard_on 8 true 19 rfl rfl rfl) ?_
   have HP956 : Ft C952_ [0, 1] w951 (fun w_ => (Kd.ptr 111 k111).K w_ (some (⟨l0_0, l0_1, x854, a0_3⟩ : S111)) [.pointer (some ⟨g0, 0, none⟩)]) := ptr_mk (Ft.more (HJ855.ft) rfl) (k111_mkF _ _ (⟨l0_0, l0_1, x854, a0_3⟩ : S111) HCP0_0 (Ft.more HJ852 rfl) HCP0_1 (Ft.more HJ853 rfl))
   obtain ⟨t957, A958, H⟩ := bnd H
   refine st_call #[.pointer (some ⟨g0, 0, none⟩)] rfl rfl Try.func43 (by kernel_rfl) rfl rfl (mp_ rfl) ?_
   refine (expr_Cursor_Peek.calls (.pointer (some ⟨g0, 0, none⟩)) (some (⟨l0_0, l0_1, x854, a0_3⟩ : S111) : Option S111) t957  (fun z_ => pal [(0, 0), (1, 0)] (C952_ z_)) w951 (fun _ => pal_lt rfl _) (Ft.arg HP956 rfl) A958).mono ?_
   rintro _ w960 ⟨C961, rfl, hs962⟩
   refine ⟨_, rfl, ?_⟩
   replace hs962 := Step.lift (U := [(0, 0)]) hs962 [] rfl rfl
   generalize up C952_ C961 w951.heap.size [(0, 0)] = C961_ at hs962
   replace HJ851 := HJ851.thru hs962 rfl
   replace HJ855 := HJ855.thru hs962 rfl
   replace HJ852 := HJ852.thru hs962 rfl
   replace HJ853 := HJ853.thru hs962 rfl
   replace HS859 := HS859.trans hs962 hc rfl
   (try simp only [ls0, ls1])
   refine on_guard (guard_on 8 true 19 rfl rfl rfl) ?_
   refine st (.bool (!decide (t957 = (⟨#[114, 101, 116, 117, 114, 110]⟩ : ByteArray)))) rfl rfl (xr_bin _ _ _ rfl rfl rfl (B.neq_str _ _)) ?_
   refine st (.bool (!decide (t957 = (⟨#[114, 101, 116, 117, 114, 110]⟩ : ByteArray)))) rfl rfl (xr_pick true _ rfl rfl rfl) ?_
   refine wl_end ?_
   (try simp only [ls0, ls1])
   refine hK914 _ _ ?_
   (try clear hK914 K914)
   by_cases c963 : t957 = (⟨#[114, 101, 116, 117, 114, 110]⟩ : ByteArray)
   ·rw [if_pos c963] at H
    (try rw [(decide_eq_true c963)])
    (try simp only [Bool.not_true, Bool.not_false])
    refine wp_cond_false rfl ?_
    refine wp_exit ?_
    (try simp only [ls0, ls1])
    refine hK517 _ _ ?_
    (try clear hK517 K517)
    refine wp_seq_k fun K964 hK964 => ?_
    refine wl_region ?_
    refine mv_ rfl ?_
    refine as_ rfl ?_
    refine st (.int .i64 0) rfl rfl (xr_assign _ rfl rfl) ?_
    refine wl_end ?_
    (try simp only [ls0, ls1])
    refine hK964 _ _ ?_
    (try clear hK964 K964)
    refine wp_ret ?_
    (try simp only [Exit.inBlock, Exit.then, Exit.noGoto])
    (try simp only [ls0, ls1])
    replace HJ851 := Own.recolor (b := 5) HJ851 (by decide)
    replace HJ855 := Bx.recol (a := 11) (b := 5) HJ855 (by decide)
    replace HJ852 := Ft.recol (a := 11) (b := 5) HJ852 (.inl rfl)
    replace HJ853 := Ft.recol (a := 11) (b := 5) HJ853 (.inl rfl)
    replace HS859 := Step.recol (a := 11) (b := 5) HS859 hc (by decide)
    simp only [Option.some.injEq, Prod.mk.injEq] at H
    obtain ⟨rfl, rfl, rfl⟩ := H
    refine bodyPost_ret (results_tmp2 rfl _ _ _) rfl ?_
    exact ⟨_, A847, cp849, rfl, HS859, HJ851, HC850, HJ855⟩
   rw [if_neg c963] at H
   (try rw [(decide_eq_false c963)])
   (try simp only [Bool.not_true, Bool.not_false])
   refine wp_cond_true rfl ?_
   refine wp_skip ?_
   (try simp only [ls0, ls1])
   refine hK865 _ _ ?_
   (try clear hK865 K865)
   refine wp_block ?_
   refine wp_seq_k fun K965 hK965 => ?_
   refine wl_region ?_
   refine mv_ rfl ?_
   refine mv_ rfl ?_
   obtain ⟨⟨t966, t967, t968, t969, t970, t971, t972, t973, t974, t975, t976, t977, t978, t979, t980, t981, t982, t983, t984⟩, A985, H⟩ := bnd H
   (try dsimp only at H)
   refine st_call #[.pointer (some ⟨g0, 0, none⟩), .int .i64 a1] rfl rfl Try.func62 (by kernel_rfl) rfl rfl (mp_ rfl) ?_
   refine (IH.stmt_Stmt g0 A0_0 c0_0 l0_0 A0_1 c0_1 l0_1 x854 a0_3 a1 t966 t967 t968 t969 t970 t971 t972 t973 t974 t975 t976 t977 t978 t979 t980 t981 t982 t983 t984  (fun z_ => pal [(0, 0), (1, 1)] (C961_ z_)) w960 (fun _ => pal_lt rfl _) (Bx.arg HJ855 rfl) (Ft.arg HJ852 rfl) HCP0_0 (Ft.arg HJ853 rfl) HCP0_1 A985).mono ?_
   rintro _ w987 ⟨C988, A990, cp991, A994, cp995, A998, cp999, rfl, hs989, HO992, HC993, HO996, HC997, HO1000, HC1001, HX1002⟩
   refine ⟨_, rfl, ?_⟩
   replace HO992 := Ft.res (U := [(0, 0), (1, 1)]) HO992 hs989 [0] rfl rfl rfl
   replace HO996 := Ft.res (U := [(0, 0), (1, 1)]) HO996 hs989 [0] rfl rfl rfl
   replace HO1000 := Ft.res (U := [(0, 0), (1, 1)]) HO1000 hs989 [0] rfl rfl rfl
   replace HX1002 := Bx.res (U := [(0, 0), (1, 1)]) (j := 1) HX1002 hs989 (by rfl) (by decide) rfl
   replace hs989 := Step.lift (U := [(0, 0), (1, 1)]) hs989 [1] rfl rfl
   generalize up C961_ C988 w960.heap.size [(0, 0), (1, 1)] = C988_ at HO992 HO996 HO1000 HX1002 hs989
   replace HJ851 := HJ851.thru hs989 rfl
   replace HJ852 := HJ852.thru hs989 rfl
   replace HJ853 := HJ853.thru hs989 rfl
   replace HS859 := HS859.trans hs989 hc rfl
   (try simp only [ls0, ls1])
   refine mv_ rfl ?_
   refine st (.agg #[.int .i64 t966, .int .i64 t967, .string t968, .int .i64 t969, .bool t970, .bool t971, .string t972, .int .i64 t973, .int .i64 t974, .int .i64 t975, .int .i64 t976, .int .i64 t977, .string t978, .string t979, .slice A990 t980.length cp991, .slice A994 t981.length cp995, .slice A998 t982.length cp999]) rfl rfl (xr_extract (.tuple #[.agg #[.int .i64 t966, .int .i64 t967, .string t968, .int .i64 t969, .bool t970, .bool t971, .string t972, .int .i64 t973, .int .i64 t974, .int .i64 t975, .int .i64 t976, .int .i64 t977, .string t978, .string t979, .slice A990 t980.length cp991, .slice A994 t981.length cp995, .slice A998 t982.length cp999], .int .i64 t983]) _ rfl rfl rfl) ?_
   refine st (.int .i64 t983) rfl rfl (xr_extract (.tuple #[.agg #[.int .i64 t966, .int .i64 t967, .string t968, .int .i64 t969, .bool t970, .bool t971, .string t972, .int .i64 t973, .int .i64 t974, .int .i64 t975, .int .i64 t976, .int .i64 t977, .string t978, .string t979, .slice A990 t980.length cp991, .slice A994 t981.length cp995, .slice A998 t982.length cp999], .int .i64 t983]) _ rfl rfl rfl) ?_
   refine bx_new (C := C988_) 89 ([.int .i64 0, .int .i64 0, .string (⟨#[]⟩ : ByteArray), .int .i64 0, .bool false, .bool false, .string (⟨#[]⟩ : ByteArray), .int .i64 0, .int .i64 0, .int .i64 0, .int .i64 0, .int .i64 0, .string (⟨#[]⟩ : ByteArray), .string (⟨#[]⟩ : ByteArray), .slice none 0 0, .slice none 0 0, .slice none 0 0]) 12 rfl rfl (by first | (go_simp; done) | (go_simp; rfl)) ?_
   intro g1003 w1004 C1005 HX1006 hs1007
   replace HJ851 := HJ851.thru hs1007 rfl
   replace HX1002 := HX1002.thru hs1007 rfl
   replace HJ852 := HJ852.thru hs1007 rfl
   replace HJ853 := HJ853.thru hs1007 rfl
   replace HO992 := HO992.thru hs1007 rfl
   replace HO996 := HO996.thru hs1007 rfl
   replace HO1000 := HO1000.thru hs1007 rfl
   replace HS859 := HS859.trans hs1007 hc rfl
   (try simp only [ls0, ls1])
   refine bx_store (C := C1005) (z := 12) (g := g1003) (j := 0) (tb := 89) (u := .agg #[.int .i64 t966, .int .i64 t967, .string t968, .int .i64 t969, .bool t970, .bool t971, .string t972, .int .i64 t973, .int .i64 t974, .int .i64 t975, .int .i64 t976, .int .i64 t977, .string t978, .string t979, .slice A990 t980.length cp991, .slice A994 t981.length cp995, .slice A998 t982.length cp999]) (seg := [.int .i64 t966, .int .i64 t967, .string t968, .int .i64 t969, .bool t970, .bool t971, .string t972, .int .i64 t973, .int .i64 t974, .int .i64 t975, .int .i64 t976, .int .i64 t977, .string t978, .string t979, .slice A990 t980.length cp991, .slice A994 t981.length cp995, .slice A998 t982.length cp999]) (xs := [.int .i64 0, .int .i64 0, .string (⟨#[]⟩ : ByteArray), .int .i64 0, .bool false, .bool false, .string (⟨#[]⟩ : ByteArray), .int .i64 0, .int .i64 0, .int .i64 0, .int .i64 0, .int .i64 0, .string (⟨#[]⟩ : ByteArray), .string (⟨#[]⟩ : ByteArray), .slice none 0 0, .slice none 0 0, .slice none 0 0]) rfl rfl rfl rfl rfl rfl (by first | kernel_rfl | rfl) (by simp [Value.oneCell']) HX1006 (by simp only [List.length_cons, List.length_nil]; omega) rfl ?_
   intro w1008 HX1009 hs1010
   replace HJ851 := HJ851.thru hs1010 rfl
   replace HX1002 := HX1002.thru hs1010 rfl
   replace HJ852 := HJ852.thru hs1010 rfl
   replace HJ853 := HJ853.thru hs1010 rfl
   replace HO992 := HO992.thru hs1010 rfl
   replace HO996 := HO996.thru hs1010 rfl
   replace HO1000 := HO1000.thru hs1010 rfl
   replace HS859 := HS859.trans hs1010 hc rfl
   (try simp only [ls0, ls1])
   refine as_ rfl ?_
   refine wl_end ?_
   (try simp only [ls0, ls1])
   refine hK965 _ _ ?_
   (try clear hK965 K965)
   refine wp_seq_k fun K1011 hK1011 => ?_
   refine wp_seq_k fun K1012 hK1012 => ?_
   refine wl_region ?_
   refine mv_ rfl ?_
   refine st (.bool (!decide (t983 = 0))) rfl rfl (xr_bin _ _ _ rfl rfl rfl (B.neq_i64 _ _)) ?_
   refine wl_end ?_
   (try simp only [ls0, ls1])
   refine hK1012 _ _ ?_
   (try clear hK1012 K1012)
   by_cases c1013 : t983 = 0
   ·rw [if_pos c1013] at H
    (try rw [(decide_eq_true c1013)])
    (try simp only [Bool.not_true, Bool.not_false])
    refine wp_cond_false rfl ?_
    refine wp_skip ?_
    (try simp only [ls0, ls1])
    refine hK1011 _ _ ?_
    (try clear hK1011 K1011)
    refine wl_region ?_
    refine mv_ rfl ?_
    refine st (.agg #[.int .i64 t966, .int .i64 t967, .string t968, .int .i64 t969, .bool t970, .bool t971, .string t972, .int .i64 t973, .int .i64 t974, .int .i64 t975, .int .i64 t976, .int .i64 t977, .string t978, .string t979, .slice A990 t980.length cp991, .slice A994 t981.length cp995, .slice A998 t982.length cp999]) rfl rfl (xr_load _ _ rfl rfl (load_agg (cs := [.int .i64 t966, .int .i64 t967, .string t968, .int .i64 t969, .bool t970, .bool t971, .string t972, .int .i64 t973, .int .i64 t974, .int .i64 t975, .int .i64 t976, .int .i64 t977, .string t978, .string t979, .slice A990 t980.length cp991, .slice A994 t981.length cp995, .slice A998 t982.length cp999]) Try.underlying89 rfl (by kernel_rfl) (bx_cells (HX1009).2 0 rfl))) ?_
    refine ev_run (w1 := w1008.alloc (.cells #[.int .i64 t966, .int .i64 t967, .string t968, .int .i64 t969, .bool t970, .bool t971, .string t972, .int .i64 t973, .int .i64 t974, .int .i64 t975, .int .i64 t976, .int .i64 t977, .string t978, .string t979, .slice A990 t980.length cp991, .slice A994 t981.length cp995, .slice A998 t982.length cp999] 89)) (.slice (some ⟨w1008.heap.size, 0, none⟩) 1 1) rfl rfl (by first | (go_simp; done) | (go_simp; rfl)) ?_
    (try simp only [Act.put, List.setIfInBounds_toArray, ls0, ls1])
    obtain ⟨c1014, H⟩ := if_some H
    obtain ⟨y1015, A1016, H⟩ := bnd H
    refine Own.append k89 (C := C1005) (i := 11) rfl (.tmp 33) (.tmp 35) 72 89 (.agg #[(.int .i64 0), (.int .i64 0), (.string ⟨#[]⟩), (.int .i64 0), (.bool false), (.bool false), (.string ⟨#[]⟩), (.int .i64 0), (.int .i64 0), (.int .i64 0), (.int .i64 0), (.int .i64 0), (.string ⟨#[]⟩), (.string ⟨#[]⟩), (.slice none 0 0), (.slice none 0 0), (.slice none 0 0)]) 208 rfl Try.underlying72 info89 rfl (by decide) (by decide) (.slice A847 x846.length cp849) x846 (⟨t966, t967, t968, t969, (⟨t970, t971, t972, t973, t974⟩ : S82), (⟨t975, t976, t977, t978, t979, t980⟩ : S44), t981, t982⟩ : S89) [.int .i64 t966, .int .i64 t967, .string t968, .int .i64 t969, .bool t970, .bool t971, .string t972, .int .i64 t973, .int .i64 t974, .int .i64 t975, .int .i64 t976, .int .i64 t977, .string t978, .string t979, .slice A990 t980.length cp991, .slice A994 t981.length cp995, .slice A998 t982.length cp999] rfl rfl (k89_mkF _ _ (⟨t966, t967, t968, t969, (⟨t970, t971, t972, t973, t974⟩ : S82), (⟨t975, t976, t977, t978, t979, t980⟩ : S44), t981, t982⟩ : S89) HC993 (Kd.F_mono (d := k44) HO992 (fun k_ h_ => by simpa using h_)) HC997 (Kd.F_mono (d := k89) HO996 (fun k_ h_ => by simpa using h_)) HC1001 (Kd.F_mono (d := k89) HO1000 (fun k_ h_ => by simpa using h_))) HJ851 (by decide) (by omega) (Option.some.inj A1016) ?_
    intro A1017 cp1018 w1019 C1020 HO1021 HC1022 hs1023
    replace HX1002 := HX1002.thru hs1023 rfl
    replace HJ852 := HJ852.thru hs1023 rfl
    replace HJ853 := HJ853.thru hs1023 rfl
    replace HO992 := HO992.thru hs1023 rfl
    replace HO996 := HO996.thru hs1023 rfl
    replace HO1000 := HO1000.thru hs1023 rfl
    replace HX1009 := HX1009.thru hs1023 rfl
    replace HS859 := HS859.trans hs1023 hc rfl
    (try simp only [ls0, ls1])
    refine as_ rfl ?_
    refine wl_end ?_
    (try simp only [ls0, ls1])
    exact jmpL (fun a_ h_ => ih861 k864 (by omega) a_ _ h_) (fun g_ => ⟨_, t984, A1017, y1015.length, cp1018, y1015, g_, rfl, HS859, (by omega), HO1021, HC1022, HJ852, HJ853, HX1002, H⟩) rfl
   rw [if_neg c1013] at H
   (try rw [(decide_eq_false c1013)])
   (try simp only [Bool.not_true, Bool.not_false])
   refine wp_cond_true rfl ?_
   refine wp_seq_k fun K1024 hK1024 => ?_
   refine wl_region ?_
   refine mv_ rfl ?_
   refine st (.slice none 0 0) rfl rfl (xr_assign _ rfl rfl) ?_
   refine as_ rfl ?_
   refine wl_end ?_
   (try simp only [ls0, ls1])
   refine hK1024 _ _ ?_
   (try clear hK1024 K1024)
   refine wp_ret ?_
   (try simp only [Exit.inBlock, Exit.then, Exit.noGoto])
   (try simp only [ls0, ls1])
   simp only [Option.some.injEq, Prod.mk.injEq] at H
   obtain ⟨rfl, rfl, rfl⟩ := H
   refine bodyPost_ret (results_tmp2 rfl _ _ _) rfl ?_
   exact ⟨_, none, 0, rfl, HS859, (Own.nil _ _ _ _ _), (Nat.le_refl 0), HX1002⟩

end Go.Proofs.Yteoccoklbmjiaaa.PStn
