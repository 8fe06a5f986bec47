-- By cprint.py, a program of this work. Lean checks it.
import Derived.Test.YteoccoklbmjiaaaPStnx0
import Derived.Test.YteoccoklbmjiaaaPStnx2
import Derived.Test.YteoccoklbmjiaaaPStnx3
namespace Go.Proofs.Yteoccoklbmjiaaa.PStn
open Go.RowKit Go.Proofs.YteoccoklbmjiaaaW.PrintWords Go.Proofs.YteoccoklbmjiaaaW.PrintLast Go.Proofs.YteoccoklbmjiaaaW.PrintMore
set_option linter.unusedVariables false
set_option linter.unusedSimpArgs false

/-! ### expr_Cursor_group: function 132 -/
def expr_Cursor_group.j0 (r_ : Rec_expr_Cursor_binary) : Nat → Int → Int → Int → ByteArray → ByteArray → (List (S44)) → Int → Int → Int → Option (Int × Int × Int × ByteArray × ByteArray × (List (S44)) × Int × Int × Int)
  | 0, _, _, _, _, _, _, _, _, _ => none
  | k + 1, t122, t123, t124, t125, t126, t127, x165, x168, x169 => if x165 = 0 then (some (t122, t123, t124, t125, t126, t127, 0, x168, x169)) else (some (0, 0, 0, (⟨#[]⟩ : ByteArray), (⟨#[]⟩ : ByteArray), ([] : List (S44)), x165, x168, x169))
def expr_Cursor_group.g (r_ : Rec_expr_Cursor_binary) (k : Nat) (l0_0 : List Int) (l0_1 : List (S28)) (a0_2 : Int) (a0_3 : Int) : Option (Int × Int × Int × ByteArray × ByteArray × (List (S44)) × Int × Int × Int) := (expr_Cursor_down.f l0_0 l0_1 a0_2 a0_3).bind fun bt110 => (if bt110.1 = 0 then ((r_.expr_Cursor_binary l0_0 l0_1 bt110.2.1 bt110.2.2 1).bind fun bt122 => (if bt122.2.2.2.2.2.2.1 = 0 then ((expr_Cursor_end.f l0_0 l0_1 bt122.2.2.2.2.2.2.2.1 bt122.2.2.2.2.2.2.2.2).bind fun bt190 => (expr_Cursor_group.j0 r_ k bt122.1 bt122.2.1 bt122.2.2.1 bt122.2.2.2.1 bt122.2.2.2.2.1 bt122.2.2.2.2.2.1 bt190.1 bt190.2.1 bt190.2.2)) else (expr_Cursor_group.j0 r_ k bt122.1 bt122.2.1 bt122.2.2.1 bt122.2.2.2.1 bt122.2.2.2.2.1 bt122.2.2.2.2.2.1 bt122.2.2.2.2.2.2.1 bt122.2.2.2.2.2.2.2.1 bt122.2.2.2.2.2.2.2.2))) else (some (0, 0, 0, (⟨#[]⟩ : ByteArray), (⟨#[]⟩ : ByteArray), ([] : List (S44)), bt110.1, bt110.2.1, bt110.2.2)))

set_option maxHeartbeats 8000000 in
set_option maxRecDepth 100000 in
theorem expr_Cursor_group.step (r_ : Rec_expr_Cursor_binary) (IH : Rec_expr_Cursor_binary.Good r_) (k : Nat) (g0 : Nat) (A0_0 : Option Addr) (c0_0 : Nat) (l0_0 : List Int) (A0_1 : Option Addr) (c0_1 : Nat) (l0_1 : List (S28)) (a0_2 : Int) (a0_3 : Int) (r1 : Int) (r2 : Int) (r3 : Int) (r4 : ByteArray) (r5 : ByteArray) (r6 : List (S44)) (r7 : Int) (r8 : Int) (r9 : Int) (c : Nat → Nat) (w : World) (hc : ∀ k, c k < 10) (HP0 : Bx c 1 w g0 111 ([.slice A0_0 l0_0.length c0_0, .slice A0_1 l0_1.length c0_1, .int .i64 a0_2, .int .i64 a0_3])) (HP0_0 : Ft c [0] w (fun w_ => (Kd.int .u8).C w_ A0_0 l0_0.length l0_0)) (HCP0_0 : l0_0.length ≤ c0_0) (HP0_1 : Ft c [0] w (fun w_ => k28.C w_ A0_1 l0_1.length l0_1)) (HCP0_1 : l0_1.length ≤ c0_1) (H : expr_Cursor_group.g r_ k l0_0 l0_1 a0_2 a0_3 = some (r1, r2, r3, r4, r5, r6, r7, r8, r9)) :
    Calls Try.prog 132 #[.pointer (some ⟨g0, 0, none⟩)] w fun e w' => ∃ (c' : Nat → Nat) (A_r6 : Option Addr) (c_r6 : Nat), e = .returned (.tuple #[.agg #[.int .i64 r1, .int .i64 r2, .int .i64 r3, .string r4, .string r5, .slice A_r6 r6.length c_r6], .int .i64 r7]) ∧ Step c w c' w' [1] ∧ Ft c' [0] w' (fun w_ => k44.C w_ A_r6 r6.length r6) ∧ r6.length ≤ c_r6 ∧ Bx c' 1 w' g0 111 ([.slice A0_0 l0_0.length c0_0, .slice A0_1 l0_1.length c0_1, .int .i64 r8, .int .i64 r9]) := by
 unfold expr_Cursor_group.g at H
 have HS := Step.refl c w [1]
 go_enter Try.func132, Try.ntmps132
 refine wp_seq_k fun K102 hK102 => ?_
 refine wl_region ?_
 refine bx_new (C := c) 44 ([.int .i64 0, .int .i64 0, .int .i64 0, .string (⟨#[]⟩ : ByteArray), .string (⟨#[]⟩ : ByteArray), .slice none 0 0]) 11 rfl rfl (by first | (go_simp; done) | (go_simp; rfl)) ?_
 intro g103 w104 C105 HX106 hs107
 replace HP0 := HP0.thru hs107 rfl
 replace HP0_0 := HP0_0.thru hs107 rfl
 replace HP0_1 := HP0_1.thru hs107 rfl
 replace HS := HS.trans hs107 hc rfl
 (try simp only [ls0, ls1])
 refine st (.int .i64 0) rfl rfl (xr_assign _ rfl rfl) ?_
 refine wl_end ?_
 (try simp only [ls0, ls1])
 refine hK102 _ _ ?_
 (try clear hK102 K102)
 refine wp_seq_k fun K108 hK108 => ?_
 refine wp_seq_k fun K109 hK109 => ?_
 refine wl_region ?_
 refine mv_ rfl ?_
 obtain ⟨⟨t110, t111, t112⟩, A113, H⟩ := bnd H
 (try dsimp only at H)
 refine st_call #[.pointer (some ⟨g0, 0, none⟩)] rfl rfl Try.func121 (by kernel_rfl) rfl rfl (mp_ rfl) ?_
 refine (expr_Cursor_down.calls g0 A0_0 c0_0 l0_0 A0_1 c0_1 l0_1 a0_2 a0_3 t110 t111 t112  (fun z_ => pal [(0, 0), (1, 1)] (C105 z_)) w104 (fun _ => pal_lt rfl _) (Bx.arg HP0 rfl) (Ft.arg HP0_0 rfl) HCP0_0 (Ft.arg HP0_1 rfl) HCP0_1 A113).mono ?_
 rintro _ w115 ⟨C116, rfl, hs117, HX118⟩
 refine ⟨_, rfl, ?_⟩
 replace HX118 := Bx.res (U := [(0, 0), (1, 1)]) (j := 1) HX118 hs117 (by rfl) (by decide) rfl
 replace hs117 := Step.lift (U := [(0, 0), (1, 1)]) hs117 [1] rfl rfl
 generalize up C105 C116 w104.heap.size [(0, 0), (1, 1)] = C116_ at HX118 hs117
 replace HP0_0 := HP0_0.thru hs117 rfl
 replace HP0_1 := HP0_1.thru hs117 rfl
 replace HX106 := HX106.thru hs117 rfl
 replace HS := HS.trans hs117 hc rfl
 (try simp only [ls0, ls1])
 refine as_ rfl ?_
 refine wl_end ?_
 (try simp only [ls0, ls1])
 refine hK109 _ _ ?_
 (try clear hK109 K109)
 refine wp_seq_k fun K119 hK119 => ?_
 refine wl_region ?_
 refine mv_ rfl ?_
 refine st (.bool (!decide (t110 = 0))) rfl rfl (xr_bin _ _ _ rfl rfl rfl (B.neq_i64 _ _)) ?_
 refine wl_end ?_
 (try simp only [ls0, ls1])
 refine hK119 _ _ ?_
 (try clear hK119 K119)
 by_cases c120 : t110 = 0
 ·rw [if_pos c120] at H
  (try rw [(decide_eq_true c120)])
  (try simp only [Bool.not_true, Bool.not_false])
  refine wp_cond_false rfl ?_
  refine wp_skip ?_
  (try simp only [ls0, ls1])
  refine hK108 _ _ ?_
  (try clear hK108 K108)
  refine wp_seq_k fun K121 hK121 => ?_
  refine wl_region ?_
  refine mv_ rfl ?_
  obtain ⟨⟨t122, t123, t124, t125, t126, t127, t128, t129, t130⟩, A131, H⟩ := bnd H
  (try dsimp only at H)
  refine st_call #[.pointer (some ⟨g0, 0, none⟩), .int .i64 1] rfl rfl Try.func82 (by kernel_rfl) rfl rfl (mp_ rfl) ?_
  refine (IH.expr_Cursor_binary g0 A0_0 c0_0 l0_0 A0_1 c0_1 l0_1 t111 t112 1 t122 t123 t124 t125 t126 t127 t128 t129 t130  (fun z_ => pal [(0, 0), (1, 1)] (C116_ z_)) w115 (fun _ => pal_lt rfl _) (Bx.arg HX118 rfl) (Ft.arg HP0_0 rfl) HCP0_0 (Ft.arg HP0_1 rfl) HCP0_1 A131).mono ?_
  rintro _ w133 ⟨C134, A136, cp137, rfl, hs135, HO138, HC139, HX140⟩
  refine ⟨_, rfl, ?_⟩
  replace HO138 := Ft.res (U := [(0, 0), (1, 1)]) HO138 hs135 [0] rfl rfl rfl
  replace HX140 := Bx.res (U := [(0, 0), (1, 1)]) (j := 1) HX140 hs135 (by rfl) (by decide) rfl
  replace hs135 := Step.lift (U := [(0, 0), (1, 1)]) hs135 [1] rfl rfl
  generalize up C116_ C134 w115.heap.size [(0, 0), (1, 1)] = C134_ at HO138 HX140 hs135
  replace HP0_0 := HP0_0.thru hs135 rfl
  replace HP0_1 := HP0_1.thru hs135 rfl
  replace HX106 := HX106.thru hs135 rfl
  replace HS := HS.trans hs135 hc rfl
  (try simp only [ls0, ls1])
  refine mv_ rfl ?_
  refine st (.agg #[.int .i64 t122, .int .i64 t123, .int .i64 t124, .string t125, .string t126, .slice A136 t127.length cp137]) rfl rfl (xr_extract (.tuple #[.agg #[.int .i64 t122, .int .i64 t123, .int .i64 t124, .string t125, .string t126, .slice A136 t127.length cp137], .int .i64 t128]) _ rfl rfl rfl) ?_
  refine st (.int .i64 t128) rfl rfl (xr_extract (.tuple #[.agg #[.int .i64 t122, .int .i64 t123, .int .i64 t124, .string t125, .string t126, .slice A136 t127.length cp137], .int .i64 t128]) _ rfl rfl rfl) ?_
  refine bx_new (C := C134_) 44 ([.int .i64 0, .int .i64 0, .int .i64 0, .string (⟨#[]⟩ : ByteArray), .string (⟨#[]⟩ : ByteArray), .slice none 0 0]) 12 rfl rfl (by first | (go_simp; done) | (go_simp; rfl)) ?_
  intro g141 w142 C143 HX144 hs145
  replace HX140 := HX140.thru hs145 rfl
  replace HP0_0 := HP0_0.thru hs145 rfl
  replace HP0_1 := HP0_1.thru hs145 rfl
  replace HX106 := HX106.thru hs145 rfl
  replace HO138 := HO138.thru hs145 rfl
  replace HS := HS.trans hs145 hc rfl
  (try simp only [ls0, ls1])
  refine bx_store (C := C143) (z := 12) (g := g141) (j := 0) (tb := 44) (u := .agg #[.int .i64 t122, .int .i64 t123, .int .i64 t124, .string t125, .string t126, .slice A136 t127.length cp137]) (seg := [.int .i64 t122, .int .i64 t123, .int .i64 t124, .string t125, .string t126, .slice A136 t127.length cp137]) (xs := [.int .i64 0, .int .i64 0, .int .i64 0, .string (⟨#[]⟩ : ByteArray), .string (⟨#[]⟩ : ByteArray), .slice none 0 0]) rfl rfl rfl rfl rfl rfl (by first | kernel_rfl | rfl) (by simp [Value.oneCell']) HX144 (by simp only [List.length_cons, List.length_nil]; omega) rfl ?_
  intro w146 HX147 hs148
  replace HX140 := HX140.thru hs148 rfl
  replace HP0_0 := HP0_0.thru hs148 rfl
  replace HP0_1 := HP0_1.thru hs148 rfl
  replace HX106 := HX106.thru hs148 rfl
  replace HO138 := HO138.thru hs148 rfl
  replace HS := HS.trans hs148 hc rfl
  (try simp only [ls0, ls1])
  refine as_ rfl ?_
  refine wl_end ?_
  (try simp only [ls0, ls1])
  refine hK121 _ _ ?_
  (try clear hK121 K121)
  refine wp_seq_k fun K149 hK149 => ?_
  have hj161 : ∀ (kq174 : Nat) (C162 : Nat → Nat) (w163 : World) (x165 : Int) (x168 : Int) (x169 : Int) (g_ : Nat → Value), Step c w C162 w163 [1] → kq174 ≤ k → (Ft C162 [0] w163 (fun w_ => (Kd.int .u8).C w_ A0_0 l0_0.length l0_0)) → (Ft C162 [0] w163 (fun w_ => k28.C w_ A0_1 l0_1.length l0_1)) → (Bx C162 1 w163 g0 111 ([.slice A0_0 l0_0.length c0_0, .slice A0_1 l0_1.length c0_1, .int .i64 x168, .int .i64 x169])) → (Bx C162 11 w163 g103 44 ([.int .i64 0, .int .i64 0, .int .i64 0, .string (⟨#[]⟩ : ByteArray), .string (⟨#[]⟩ : ByteArray), .slice none 0 0])) → (Ft C162 [0] w163 (fun w_ => k44.C w_ A136 t127.length t127)) → (Bx C162 12 w163 g141 44 ([.int .i64 t122, .int .i64 t123, .int .i64 t124, .string t125, .string t126, .slice A136 t127.length cp137])) → expr_Cursor_group.j0 r_ kq174 t122 t123 t124 t125 t126 t127 x165 x168 x169 = some (r1, r2, r3, r4, r5, r6, r7, r8, r9) → K149 ⟨#[(g_ 0), (g_ 1), .pointer (some ⟨g103, 0, none⟩), (g_ 3), (g_ 4), .pointer (some ⟨g141, 0, none⟩), .int .i64 x165, (g_ 7), (g_ 8), (g_ 9), (g_ 10), (g_ 11), (g_ 12), (g_ 13), (g_ 14), (g_ 15), (g_ 16), (g_ 17), (g_ 18), (g_ 19), (g_ 20), (g_ 21), (g_ 22), (g_ 23), (g_ 24), (g_ 25), (g_ 26)], []⟩ w163 := by
   intro kq174 C162 w163 x165 x168 x169 g_ HS164 hk175 HJ166 HJ167 HJ170 HJ171 HJ172 HJ173 H
   cases kq174 with
   | zero => exact absurd H (by simp [expr_Cursor_group.j0])
   | succ k176 =>
    simp only [expr_Cursor_group.j0] at H
    refine hK149 _ _ ?_
    (try clear hK149)
    refine wp_seq_k fun K177 hK177 => ?_
    refine wp_seq_k fun K178 hK178 => ?_
    refine wl_region ?_
    refine mv_ rfl ?_
    refine st (.bool (!decide (x165 = 0))) rfl rfl (xr_bin _ _ _ rfl rfl rfl (B.neq_i64 _ _)) ?_
    refine wl_end ?_
    (try simp only [ls0, ls1])
    refine hK178 _ _ ?_
    (try clear hK178 K178)
    by_cases c179 : x165 = 0
    ·rw [if_pos c179] at H
     (try rw [(decide_eq_true c179)])
     (try simp only [Bool.not_true, Bool.not_false])
     refine wp_cond_false rfl ?_
     refine wp_skip ?_
     (try simp only [ls0, ls1])
     refine hK177 _ _ ?_
     (try clear hK177 K177)
     refine wp_seq_k fun K180 hK180 => ?_
     refine wl_region ?_
     refine st (.agg #[.int .i64 t122, .int .i64 t123, .int .i64 t124, .string t125, .string t126, .slice A136 t127.length cp137]) rfl rfl (xr_load _ _ rfl rfl (load_agg (cs := [.int .i64 t122, .int .i64 t123, .int .i64 t124, .string t125, .string t126, .slice A136 t127.length cp137]) Try.underlying44 rfl (by kernel_rfl) (bx_cells (HJ173).2 0 rfl))) ?_
     refine bx_store (C := C162) (z := 11) (g := g103) (j := 0) (tb := 44) (u := .agg #[.int .i64 t122, .int .i64 t123, .int .i64 t124, .string t125, .string t126, .slice A136 t127.length cp137]) (seg := [.int .i64 t122, .int .i64 t123, .int .i64 t124, .string t125, .string t126, .slice A136 t127.length cp137]) (xs := [.int .i64 0, .int .i64 0, .int .i64 0, .string (⟨#[]⟩ : ByteArray), .string (⟨#[]⟩ : ByteArray), .slice none 0 0]) rfl rfl rfl rfl rfl rfl (by first | kernel_rfl | rfl) (by simp [Value.oneCell']) HJ171 (by simp only [List.length_cons, List.length_nil]; omega) rfl ?_
     intro w181 HX182 hs183
     replace HJ170 := HJ170.thru hs183 rfl
     replace HJ166 := HJ166.thru hs183 rfl
     replace HJ167 := HJ167.thru hs183 rfl
     replace HJ172 := HJ172.thru hs183 rfl
     replace HJ173 := HJ173.thru hs183 rfl
     replace HS164 := HS164.trans hs183 hc rfl
     (try simp only [ls0, ls1])
     refine st (.int .i64 0) rfl rfl (xr_assign _ rfl rfl) ?_
     refine wl_end ?_
     (try simp only [ls0, ls1])
     refine hK180 _ _ ?_
     (try clear hK180 K180)
     refine wp_ret ?_
     (try simp only [Exit.inBlock, Exit.then, Exit.noGoto])
     (try simp only [ls0, ls1])
     simp only [Option.some.injEq, Prod.mk.injEq] at H
     obtain ⟨rfl, rfl, rfl, rfl, rfl, rfl, rfl, rfl, rfl⟩ := H
     refine bodyPost_ret (res_ct rfl rfl (load_of (load_agg (cs := [.int .i64 t122, .int .i64 t123, .int .i64 t124, .string t125, .string t126, .slice A136 t127.length cp137]) Try.underlying44 rfl (by kernel_rfl) (bx_cells (HX182).2 0 rfl)))) rfl ?_
     exact ⟨_, A136, cp137, rfl, HS164, HJ172, HC139, HJ170⟩
    rw [if_neg c179] at H
    (try rw [(decide_eq_false c179)])
    (try simp only [Bool.not_true, Bool.not_false])
    refine wp_cond_true rfl ?_
    refine wp_seq_k fun K184 hK184 => ?_
    refine wl_region ?_
    refine st (.agg #[.int .i64 0, .int .i64 0, .int .i64 0, .string (⟨#[]⟩ : ByteArray), .string (⟨#[]⟩ : ByteArray), .slice none 0 0]) rfl rfl (xr_build #[] (.agg #[.int .i64 0, .int .i64 0, .int .i64 0, .string (⟨#[]⟩ : ByteArray), .string (⟨#[]⟩ : ByteArray), .slice none 0 0]) rfl (mp_ rfl) (by first | rfl | (go_simp; done) | (go_simp; rfl) | (go_simp; exact i64_w _) | (go_simp; exact i32_w _))) ?_
    refine mv_ rfl ?_
    refine bx_store (C := C162) (z := 11) (g := g103) (j := 0) (tb := 44) (u := .agg #[.int .i64 0, .int .i64 0, .int .i64 0, .string (⟨#[]⟩ : ByteArray), .string (⟨#[]⟩ : ByteArray), .slice none 0 0]) (seg := [.int .i64 0, .int .i64 0, .int .i64 0, .string (⟨#[]⟩ : ByteArray), .string (⟨#[]⟩ : ByteArray), .slice none 0 0]) (xs := [.int .i64 0, .int .i64 0, .int .i64 0, .string (⟨#[]⟩ : ByteArray), .string (⟨#[]⟩ : ByteArray), .slice none 0 0]) rfl rfl rfl rfl rfl rfl (by first | kernel_rfl | rfl) (by simp [Value.oneCell']) HJ171 (by simp only [List.length_cons, List.length_nil]; omega) rfl ?_
    intro w185 HX186 hs187
    replace HJ170 := HJ170.thru hs187 rfl
    replace HJ166 := HJ166.thru hs187 rfl
    replace HJ167 := HJ167.thru hs187 rfl
    replace HJ173 := HJ173.thru hs187 rfl
    replace HJ172 := HJ172.thru hs187 rfl
    replace HS164 := HS164.trans hs187 hc rfl
    (try simp only [ls0, ls1])
    refine as_ rfl ?_
    refine wl_end ?_
    (try simp only [ls0, ls1])
    refine hK184 _ _ ?_
    (try clear hK184 K184)
    refine wp_ret ?_
    (try simp only [Exit.inBlock, Exit.then, Exit.noGoto])
    (try simp only [ls0, ls1])
    simp only [Option.some.injEq, Prod.mk.injEq] at H
    obtain ⟨rfl, rfl, rfl, rfl, rfl, rfl, rfl, rfl, rfl⟩ := H
    refine bodyPost_ret (res_ct rfl rfl (load_of (load_agg (cs := [.int .i64 0, .int .i64 0, .int .i64 0, .string (⟨#[]⟩ : ByteArray), .string (⟨#[]⟩ : ByteArray), .slice none 0 0]) Try.underlying44 rfl (by kernel_rfl) (bx_cells (HX186).2 0 rfl)))) rfl ?_
    exact ⟨_, none, 0, rfl, HS164, (Kd.F_nil _ _ _), (Nat.le_refl 0), HJ170⟩
  refine wp_seq_k fun K188 hK188 => ?_
  refine wl_region ?_
  refine mv_ rfl ?_
  refine st (.bool (decide (t128 = 0))) rfl rfl (xr_bin _ _ _ rfl rfl rfl (B.eql_i64 _ _)) ?_
  refine wl_end ?_
  (try simp only [ls0, ls1])
  refine hK188 _ _ ?_
  (try clear hK188 K188)
  by_cases c189 : t128 = 0
  ·rw [if_pos c189] at H
   (try rw [(decide_eq_true c189)])
   refine wp_cond_true rfl ?_
   refine wl_region ?_
   refine mv_ rfl ?_
   obtain ⟨⟨t190, t191, t192⟩, A193, H⟩ := bnd H
   (try dsimp only at H)
   refine st_call #[.pointer (some ⟨g0, 0, none⟩)] rfl rfl Try.func135 (by kernel_rfl) rfl rfl (mp_ rfl) ?_
   refine (expr_Cursor_end.calls g0 A0_0 c0_0 l0_0 A0_1 c0_1 l0_1 t129 t130 t190 t191 t192  (fun z_ => pal [(0, 0), (1, 1)] (C143 z_)) w146 (fun _ => pal_lt rfl _) (Bx.arg HX140 rfl) (Ft.arg HP0_0 rfl) HCP0_0 (Ft.arg HP0_1 rfl) HCP0_1 A193).mono ?_
   rintro _ w195 ⟨C196, rfl, hs197, HX198⟩
   refine ⟨_, rfl, ?_⟩
   replace HX198 := Bx.res (U := [(0, 0), (1, 1)]) (j := 1) HX198 hs197 (by rfl) (by decide) rfl
   replace hs197 := Step.lift (U := [(0, 0), (1, 1)]) hs197 [1] rfl rfl
   generalize up C143 C196 w146.heap.size [(0, 0), (1, 1)] = C196_ at HX198 hs197
   replace HP0_0 := HP0_0.thru hs197 rfl
   replace HP0_1 := HP0_1.thru hs197 rfl
   replace HX106 := HX106.thru hs197 rfl
   replace HO138 := HO138.thru hs197 rfl
   replace HX147 := HX147.thru hs197 rfl
   replace HS := HS.trans hs197 hc rfl
   (try simp only [ls0, ls1])
   refine as_ rfl ?_
   refine wl_end ?_
   (try simp only [ls0, ls1])
   exact jmp (fun g_ => hj161 _ _ _ (t190) (t191) (t192) g_ HS (by omega) HP0_0 HP0_1 HX198 HX106 HO138 HX147 H) rfl
  rw [if_neg c189] at H
  (try rw [(decide_eq_false c189)])
  refine wp_cond_false rfl ?_
  refine wp_skip ?_
  (try simp only [ls0, ls1])
  exact jmp (fun g_ => hj161 _ _ _ (t128) (t129) (t130) g_ HS (by omega) HP0_0 HP0_1 HX140 HX106 HO138 HX147 H) rfl
 rw [if_neg c120] at H
 (try rw [(decide_eq_false c120)])
 (try simp only [Bool.not_true, Bool.not_false])
 refine wp_cond_true rfl ?_
 refine wp_seq_k fun K199 hK199 => ?_
 refine wl_region ?_
 refine st (.agg #[.int .i64 0, .int .i64 0, .int .i64 0, .string (⟨#[]⟩ : ByteArray), .string (⟨#[]⟩ : ByteArray), .slice none 0 0]) rfl rfl (xr_build #[] (.agg #[.int .i64 0, .int .i64 0, .int .i64 0, .string (⟨#[]⟩ : ByteArray), .string (⟨#[]⟩ : ByteArray), .slice none 0 0]) rfl (mp_ rfl) (by first | rfl | (go_simp; done) | (go_simp; rfl) | (go_simp; exact i64_w _) | (go_simp; exact i32_w _))) ?_
 refine mv_ rfl ?_
 refine bx_store (C := C116_) (z := 11) (g := g103) (j := 0) (tb := 44) (u := .agg #[.int .i64 0, .int .i64 0, .int .i64 0, .string (⟨#[]⟩ : ByteArray), .string (⟨#[]⟩ : ByteArray), .slice none 0 0]) (seg := [.int .i64 0, .int .i64 0, .int .i64 0, .string (⟨#[]⟩ : ByteArray), .string (⟨#[]⟩ : ByteArray), .slice none 0 0]) (xs := [.int .i64 0, .int .i64 0, .int .i64 0, .string (⟨#[]⟩ : ByteArray), .string (⟨#[]⟩ : ByteArray), .slice none 0 0]) rfl rfl rfl rfl rfl rfl (by first | kernel_rfl | rfl) (by simp [Value.oneCell']) HX106 (by simp only [List.length_cons, List.length_nil]; omega) rfl ?_
 intro w200 HX201 hs202
 replace HX118 := HX118.thru hs202 rfl
 replace HP0_0 := HP0_0.thru hs202 rfl
 replace HP0_1 := HP0_1.thru hs202 rfl
 replace HS := HS.trans hs202 hc rfl
 (try simp only [ls0, ls1])
 refine as_ rfl ?_
 refine wl_end ?_
 (try simp only [ls0, ls1])
 refine hK199 _ _ ?_
 (try clear hK199 K199)
 refine wp_ret ?_
 (try simp only [Exit.inBlock, Exit.then, Exit.noGoto])
 (try simp only [ls0, ls1])
 simp only [Option.some.injEq, Prod.mk.injEq] at H
 obtain ⟨rfl, rfl, rfl, rfl, rfl, rfl, rfl, rfl, rfl⟩ := H
 refine bodyPost_ret (res_ct rfl rfl (load_of (load_agg (cs := [.int .i64 0, .int .i64 0, .int .i64 0, .string (⟨#[]⟩ : ByteArray), .string (⟨#[]⟩ : ByteArray), .slice none 0 0]) Try.underlying44 rfl (by kernel_rfl) (bx_cells (HX201).2 0 rfl)))) rfl ?_
 exact ⟨_, none, 0, rfl, HS, (Kd.F_nil _ _ _), (Nat.le_refl 0), HX118⟩

/-! ### expr_Cursor_open: function 133 -/
mutual
def expr_Cursor_open.j0 (r_ : Rec_expr_Cursor_binary) : Nat → Int → (List Int) → (List (S28)) → Int → Int → Int → Int → ByteArray → ByteArray → (List (S44)) → Int → Bool → Int → ByteArray → Option (Int × Int × Int × ByteArray × ByteArray × (List (S44)) × Int × Int × Int)
  | 0, _, _, _, _, _, _, _, _, _, _, _, _, _, _ => none
  | k + 1, a0_2, l0_0, l0_1, t564, t606, t607, t608, t609, t610, t611, t614, x689, x692, x695 => if x689 = true then ((expr_Cursor_end.f l0_0 l0_1 x692 t614).bind fun bt707 => (if bt707.1 = 0 then ((some ([(⟨t606, t607, t608, t609, t610, t611⟩ : S44)] : List (S44))).bind fun y719 => ((expr_Cursor_held.f k l0_0 l0_1 bt707.2.1 bt707.2.2 6 t564 0 (⟨#[]⟩ : ByteArray) x695 y719 a0_2).bind fun bt733 => (some (bt733.1, bt733.2.1, bt733.2.2.1, bt733.2.2.2.1, bt733.2.2.2.2.1, bt733.2.2.2.2.2.1, bt733.2.2.2.2.2.2.1, bt733.2.2.2.2.2.2.2, bt707.2.2)))) else (some (0, 0, 0, (⟨#[]⟩ : ByteArray), (⟨#[]⟩ : ByteArray), ([] : List (S44)), bt707.1, bt707.2.1, bt707.2.2)))) else (some (0, 0, 0, (⟨#[]⟩ : ByteArray), (⟨#[]⟩ : ByteArray), ([] : List (S44)), 11, x692, t614))
def expr_Cursor_open.j1 (r_ : Rec_expr_Cursor_binary) : Nat → Int → (List Int) → (List (S28)) → Int → Int → Int → Int → ByteArray → ByteArray → (List (S44)) → Int → Bool → Int → Option (Int × Int × Int × ByteArray × ByteArray × (List (S44)) × Int × Int × Int)
  | 0, _, _, _, _, _, _, _, _, _, _, _, _, _ => none
  | k + 1, a0_2, l0_0, l0_1, t564, t606, t607, t608, t609, t610, t611, t614, x658, x661 => if x658 = true then ((expr_Cursor_Ident.f k l0_0 l0_1 x661 t614).bind fun bt764 => (expr_Cursor_open.j0 r_ k a0_2 l0_0 l0_1 t564 t606 t607 t608 t609 t610 t611 t614 bt764.2.1 bt764.2.2 bt764.1)) else (expr_Cursor_open.j0 r_ k a0_2 l0_0 l0_1 t564 t606 t607 t608 t609 t610 t611 t614 false x661 (⟨#[]⟩ : ByteArray))
end
def expr_Cursor_open.g (r_ : Rec_expr_Cursor_binary) (k : Nat) (l0_0 : List Int) (l0_1 : List (S28)) (a0_2 : Int) (a0_3 : Int) : Option (Int × Int × Int × ByteArray × ByteArray × (List (S44)) × Int × Int × Int) := (expr_Cursor_Pos.f (some (⟨l0_0, l0_1, a0_2, a0_3⟩ : S111) : Option S111)).bind fun t564 => ((expr_Cursor_Peek.f (some (⟨l0_0, l0_1, wrap64 (a0_2 + 1), a0_3⟩ : S111) : Option S111)).bind fun t585 => (if t585 = (⟨#[40]⟩ : ByteArray) then ((expr_Cursor_down.f l0_0 l0_1 (wrap64 (a0_2 + 1)) a0_3).bind fun bt594 => (if bt594.1 = 0 then ((r_.expr_Cursor_binary l0_0 l0_1 bt594.2.1 bt594.2.2 1).bind fun bt606 => (if bt606.2.2.2.2.2.2.1 = 0 then ((expr_Cursor_Take.f l0_0 l0_1 bt606.2.2.2.2.2.2.2.1 bt606.2.2.2.2.2.2.2.2 (⟨#[44]⟩ : ByteArray)).bind fun bt776 => (if bt776.1 = true then ((expr_Cursor_Take.f l0_0 l0_1 bt776.2 bt606.2.2.2.2.2.2.2.2 (⟨#[64]⟩ : ByteArray)).bind fun bt785 => (expr_Cursor_open.j1 r_ k a0_2 l0_0 l0_1 t564 bt606.1 bt606.2.1 bt606.2.2.1 bt606.2.2.2.1 bt606.2.2.2.2.1 bt606.2.2.2.2.2.1 bt606.2.2.2.2.2.2.2.2 bt785.1 bt785.2)) else (expr_Cursor_open.j1 r_ k a0_2 l0_0 l0_1 t564 bt606.1 bt606.2.1 bt606.2.2.1 bt606.2.2.2.1 bt606.2.2.2.2.1 bt606.2.2.2.2.2.1 bt606.2.2.2.2.2.2.2.2 false bt776.2))) else (some (0, 0, 0, (⟨#[]⟩ : ByteArray), (⟨#[]⟩ : ByteArray), ([] : List (S44)), bt606.2.2.2.2.2.2.1, bt606.2.2.2.2.2.2.2.1, bt606.2.2.2.2.2.2.2.2)))) else (some (0, 0, 0, (⟨#[]⟩ : ByteArray), (⟨#[]⟩ : ByteArray), ([] : List (S44)), bt594.1, bt594.2.1, bt594.2.2)))) else (some (0, 0, 0, (⟨#[]⟩ : ByteArray), (⟨#[]⟩ : ByteArray), ([] : List (S44)), 11, wrap64 (a0_2 + 1), a0_3))))

set_option maxHeartbeats 8000000 in
set_option maxRecDepth 100000 in
theorem expr_Cursor_open.step (r_ : Rec_expr_Cursor_binary) (IH : Rec_expr_Cursor_binary.Good r_) (k : Nat) (g0 : Nat) (A0_0 : Option Addr) (c0_0 : Nat) (l0_0 : List Int) (A0_1 : Option Addr) (c0_1 : Nat) (l0_1 : List (S28)) (a0_2 : Int) (a0_3 : Int) (r1 : Int) (r2 : Int) (r3 : Int) (r4 : ByteArray) (r5 : ByteArray) (r6 : List (S44)) (r7 : Int) (r8 : Int) (r9 : Int) (c : Nat → Nat) (w : World) (hc : ∀ k, c k < 10) (HP0 : Bx c 1 w g0 111 ([.slice A0_0 l0_0.length c0_0, .slice A0_1 l0_1.length c0_1, .int .i64 a0_2, .int .i64 a0_3])) (HP0_0 : Ft c [0] w (fun w_ => (Kd.int .u8).C w_ A0_0 l0_0.length l0_0)) (HCP0_0 : l0_0.length ≤ c0_0) (HP0_1 : Ft c [0] w (fun w_ => k28.C w_ A0_1 l0_1.length l0_1)) (HCP0_1 : l0_1.length ≤ c0_1) (H : expr_Cursor_open.g r_ k l0_0 l0_1 a0_2 a0_3 = some (r1, r2, r3, r4, r5, r6, r7, r8, r9)) :
    Calls Try.prog 133 #[.pointer (some ⟨g0, 0, none⟩)] w fun e w' => ∃ (c' : Nat → Nat) (A_r6 : Option Addr) (c_r6 : Nat), e = .returned (.tuple #[.agg #[.int .i64 r1, .int .i64 r2, .int .i64 r3, .string r4, .string r5, .slice A_r6 r6.length c_r6], .int .i64 r7]) ∧ Step c w c' w' [1] ∧ Ft c' [0] w' (fun w_ => k44.C w_ A_r6 r6.length r6) ∧ r6.length ≤ c_r6 ∧ Bx c' 1 w' g0 111 ([.slice A0_0 l0_0.length c0_0, .slice A0_1 l0_1.length c0_1, .int .i64 r8, .int .i64 r9]) := by
 unfold expr_Cursor_open.g at H
 have HS := Step.refl c w [1]
 go_enter Try.func133, Try.ntmps133
 refine wp_seq_k fun K524 hK524 => ?_
 refine wl_region ?_
 refine bx_new (C := c) 44 ([.int .i64 0, .int .i64 0, .int .i64 0, .string (⟨#[]⟩ : ByteArray), .string (⟨#[]⟩ : ByteArray), .slice none 0 0]) 11 rfl rfl (by first | (go_simp; done) | (go_simp; rfl)) ?_
 intro g525 w526 C527 HX528 hs529
 replace HP0 := HP0.thru hs529 rfl
 replace HP0_0 := HP0_0.thru hs529 rfl
 replace HP0_1 := HP0_1.thru hs529 rfl
 replace HS := HS.trans hs529 hc rfl
 (try simp only [ls0, ls1])
 refine st (.int .i64 0) rfl rfl (xr_assign _ rfl rfl) ?_
 refine wl_end ?_
 (try simp only [ls0, ls1])
 refine hK524 _ _ ?_
 (try clear hK524 K524)
 refine wp_seq_k fun K530 hK530 => ?_
 (try simp only [ls0, ls1])
 refine al_start (lb 10 0) rfl rfl rfl (fun w_ => w_.heap[g0]? = some (.cells (List.toArray ([.slice A0_0 l0_0.length c0_0, .slice A0_1 l0_1.length c0_1, .int .i64 a0_2, .int .i64 a0_3])) 111 (0, 0))) (HP0.drew).2 [9] ?_
 replace HP0 := HP0.drew
 replace HP0_0 := HP0_0.drew
 replace HP0_1 := HP0_1.drew
 replace HX528 := HX528.drew
 replace HS := Step.ofDrew HS
 generalize w526.drew = w562 at *
 refine al_mv 0 (lb 10 1) rfl rfl (by kernel_rfl) (fun _ _ _ => id) rfl ?_
 refine al_pure 1 12 (.pointer (some ⟨g0, 0, none⟩)) (lb 10 3) rfl rfl (by kernel_rfl) (fun _ _ _ => id) rfl (fun w_ => xr_nilCheck _ rfl rfl) ?_
 refine al_pure 2 13 (.pointer (some ⟨g0, 2, none⟩)) (lb 10 7) rfl rfl (by kernel_rfl) (fun _ _ _ => id) rfl (fun w_ => xr_fieldAddr _ _ rfl rfl (bx_field2 Try.underlying111 rfl rfl (by kernel_rfl))) ?_
 refine al_mv 4 (lb 10 23) rfl rfl (by kernel_rfl) (fun _ _ _ => id) rfl ?_
 simp only [ls0, ls1]
 refine al_take 3 14 (.int .i64 a0_2) (lb 10 31) rfl rfl (by kernel_rfl) (fun _ _ _ => id) rfl (fun w_ hS_ => xr_load _ _ rfl rfl (load_cell Try.underlying3 rfl (bx_cell hS_ 2 rfl))) (HP0).2 ?_
 refine al_two 5 7 (lb 10 63) (lb 10 159) rfl rfl rfl rfl (by kernel_rfl) rfl rfl (fun K_ hK_ => ?_) (fun K_ hK_ => ?_)
 ·show _
  have HP563 : Ft C527 [0, 1] w562 (fun w_ => (Kd.ptr 111 k111).K w_ (some (⟨l0_0, l0_1, a0_2, a0_3⟩ : S111)) [.pointer (some ⟨g0, 0, none⟩)]) := ptr_mk (Ft.more (HP0.ft) rfl) (k111_mkF _ _ (⟨l0_0, l0_1, a0_2, a0_3⟩ : S111) HCP0_0 (Ft.more HP0_0 rfl) HCP0_1 (Ft.more HP0_1 rfl))
  obtain ⟨t564, A565, H⟩ := bnd H
  refine goes_ Try.func44 (by kernel_rfl) rfl #[.pointer (some ⟨g0, 0, none⟩)] rfl rfl rfl (mpe_ rfl) ?_
  refine (expr_Cursor_Pos.calls (.pointer (some ⟨g0, 0, none⟩)) (some (⟨l0_0, l0_1, a0_2, a0_3⟩ : S111) : Option S111) t564  (fun z_ => pal [(0, 0), (1, 0)] (C527 z_)) w562 (fun _ => pal_lt rfl _) (Ft.arg HP563 rfl) A565).mono ?_
  rintro _ w567 ⟨C568, rfl, hs569⟩
  refine ⟨_, rfl, ?_⟩
  replace hs569 := Step.lift (U := [(0, 0)]) hs569 [] rfl rfl
  generalize up C527 C568 w562.heap.size [(0, 0)] = C568_ at hs569
  replace HP0 := HP0.thru hs569 rfl
  replace HP0_0 := HP0_0.thru hs569 rfl
  replace HP0_1 := HP0_1.thru hs569 rfl
  replace HX528 := HX528.thru hs569 rfl
  replace HS := HS.trans hs569 hc rfl
  refine hK_ _ _ (HP0).2 ?_
  clear hK_ K_
  (try simp only [Act.put, List.setIfInBounds_toArray, ls0, ls1])
  refine al_pure 6 17 (.agg #[.int .i64 6, .int .i64 t564, .int .i64 0, .string (⟨#[]⟩ : ByteArray), .string (⟨#[]⟩ : ByteArray), .slice none 0 0]) (lb 10 127) rfl rfl (by kernel_rfl) (fun _ _ _ => id) rfl (fun w_ => xr_build #[(0, .int .i64 6), (1, .int .i64 t564)] (.agg #[.int .i64 6, .int .i64 t564, .int .i64 0, .string (⟨#[]⟩ : ByteArray), .string (⟨#[]⟩ : ByteArray), .slice none 0 0]) rfl (mp_ rfl) (by first | rfl | (go_simp; done) | (go_simp; rfl) | (go_simp; exact i64_w _) | (go_simp; exact i32_w _))) ?_
  refine al_one 7 (lb 10 255) rfl rfl (by kernel_rfl) rfl (fun K_ hK_ => ?_)
  refine bx_new_step (C := C568_) 44 ([.int .i64 0, .int .i64 0, .int .i64 0, .string (⟨#[]⟩ : ByteArray), .string (⟨#[]⟩ : ByteArray), .slice none 0 0]) 12 rfl rfl (by first | (go_simp; done) | (go_simp; rfl)) ?_
  intro g570 w571 C572 HX573 hs574
  replace HP0 := HP0.thru hs574 rfl
  replace HP0_0 := HP0_0.thru hs574 rfl
  replace HP0_1 := HP0_1.thru hs574 rfl
  replace HX528 := HX528.thru hs574 rfl
  replace HS := HS.trans hs574 hc rfl
  refine hK_ _ _ (HP0).2 ?_
  clear hK_ K_
  (try simp only [Act.put, List.setIfInBounds_toArray, ls0, ls1])
  refine al_as 8 (lb 10 511) rfl rfl (by kernel_rfl) (fun _ _ _ => id) rfl ?_
  refine al_last 9 (lb 10 1023) rfl rfl (by kernel_rfl) rfl (fun K_ hK_ => ?_)
  refine bx_store_step (C := C572) (z := 12) (g := g570) (j := 0) (tb := 44) (u := .agg #[.int .i64 6, .int .i64 t564, .int .i64 0, .string (⟨#[]⟩ : ByteArray), .string (⟨#[]⟩ : ByteArray), .slice none 0 0]) (seg := [.int .i64 6, .int .i64 t564, .int .i64 0, .string (⟨#[]⟩ : ByteArray), .string (⟨#[]⟩ : ByteArray), .slice none 0 0]) (xs := [.int .i64 0, .int .i64 0, .int .i64 0, .string (⟨#[]⟩ : ByteArray), .string (⟨#[]⟩ : ByteArray), .slice none 0 0]) rfl rfl rfl rfl rfl rfl (by first | kernel_rfl | rfl) (by simp [Value.oneCell']) HX573 (by simp only [List.length_cons, List.length_nil]; omega) rfl ?_
  intro w575 HX576 hs577
  replace HP0 := HP0.thru hs577 rfl
  replace HP0_0 := HP0_0.thru hs577 rfl
  replace HP0_1 := HP0_1.thru hs577 rfl
  replace HX528 := HX528.thru hs577 rfl
  replace HS := HS.trans hs577 hc rfl
  refine hK_ _ _ ?_
  clear hK_ K_
  (try simp only [Act.put, List.setIfInBounds_toArray, ls0, ls1])
  refine al_end (by kernel_rfl) ?_
  (try simp only [ls0, ls1])
  refine hK530 _ _ ?_
  (try clear hK530 K530)
  refine wp_seq_k fun K578 hK578 => ?_
  refine wl_region ?_
  refine mv_ rfl ?_
  refine st (.pointer (some ⟨g0, 0, none⟩)) rfl rfl (xr_nilCheck _ rfl rfl) ?_
  refine st (.pointer (some ⟨g0, 2, none⟩)) rfl rfl (xr_fieldAddr _ _ rfl rfl (bx_field2 Try.underlying111 rfl rfl (by kernel_rfl))) ?_
  refine st (.int .i64 a0_2) rfl rfl (xr_load _ _ rfl rfl (load_cell Try.underlying3 rfl (bx_cell (HP0).2 2 rfl))) ?_
  simp only [ls0, ls1]
  refine st (.int .i64 (wrap64 (a0_2 + 1))) rfl rfl (xr_bin _ _ _ rfl rfl rfl (B.add_i64 _ _)) ?_
  refine st (.pointer (some ⟨g0, 0, none⟩)) rfl rfl (xr_nilCheck _ rfl rfl) ?_
  refine st (.pointer (some ⟨g0, 2, none⟩)) rfl rfl (xr_fieldAddr _ _ rfl rfl (bx_field2 Try.underlying111 rfl rfl (by kernel_rfl))) ?_
  refine bx_store (C := C572) (z := 1) (g := g0) (j := 2) (tb := 111) (u := .int .i64 (wrap64 (a0_2 + 1))) (seg := [.int .i64 (wrap64 (a0_2 + 1))]) (xs := [.slice A0_0 l0_0.length c0_0, .slice A0_1 l0_1.length c0_1, .int .i64 a0_2, .int .i64 a0_3]) rfl rfl rfl rfl rfl rfl (by first | kernel_rfl | rfl) (by simp [Value.oneCell']) HP0 (by simp only [List.length_cons, List.length_nil]; omega) rfl ?_
  intro w579 HX580 hs581
  replace HP0_0 := HP0_0.thru hs581 rfl
  replace HP0_1 := HP0_1.thru hs581 rfl
  replace HX528 := HX528.thru hs581 rfl
  replace HX576 := HX576.thru hs581 rfl
  replace HS := HS.trans hs581 hc rfl
  (try simp only [ls0, ls1])
  refine wl_end ?_
  (try simp only [ls0, ls1])
  refine hK578 _ _ ?_
  (try clear hK578 K578)
  refine wp_seq_k fun K582 hK582 => ?_
  refine wp_seq_k fun K583 hK583 => ?_
  refine wl_region ?_
  refine mv_ rfl ?_
  have HP584 : Ft C572 [0, 1] w579 (fun w_ => (Kd.ptr 111 k111).K w_ (some (⟨l0_0, l0_1, wrap64 (a0_2 + 1), a0_3⟩ : S111)) [.pointer (some ⟨g0, 0, none⟩)]) := ptr_mk (Ft.more (HX580.ft) rfl) (k111_mkF _ _ (⟨l0_0, l0_1, wrap64 (a0_2 + 1), a0_3⟩ : S111) HCP0_0 (Ft.more HP0_0 rfl) HCP0_1 (Ft.more HP0_1 rfl))
  obtain ⟨t585, A586, H⟩ := bnd H
  refine st_call #[.pointer (some ⟨g0, 0, none⟩)] rfl rfl Try.func43 (by kernel_rfl) rfl rfl (mp_ rfl) ?_
  refine (expr_Cursor_Peek.calls (.pointer (some ⟨g0, 0, none⟩)) (some (⟨l0_0, l0_1, wrap64 (a0_2 + 1), a0_3⟩ : S111) : Option S111) t585  (fun z_ => pal [(0, 0), (1, 0)] (C572 z_)) w579 (fun _ => pal_lt rfl _) (Ft.arg HP584 rfl) A586).mono ?_
  rintro _ w588 ⟨C589, rfl, hs590⟩
  refine ⟨_, rfl, ?_⟩
  replace hs590 := Step.lift (U := [(0, 0)]) hs590 [] rfl rfl
  generalize up C572 C589 w579.heap.size [(0, 0)] = C589_ at hs590
  replace HX580 := HX580.thru hs590 rfl
  replace HP0_0 := HP0_0.thru hs590 rfl
  replace HP0_1 := HP0_1.thru hs590 rfl
  replace HX528 := HX528.thru hs590 rfl
  replace HX576 := HX576.thru hs590 rfl
  replace HS := HS.trans hs590 hc rfl
  (try simp only [ls0, ls1])
  refine st (.bool (!decide (t585 = (⟨#[40]⟩ : ByteArray)))) rfl rfl (xr_bin _ _ _ rfl rfl rfl (B.neq_str _ _)) ?_
  refine wl_end ?_
  (try simp only [ls0, ls1])
  refine hK583 _ _ ?_
  (try clear hK583 K583)
  by_cases c591 : t585 = (⟨#[40]⟩ : ByteArray)
  ·rw [if_pos c591] at H
   (try rw [(decide_eq_true c591)])
   (try simp only [Bool.not_true, Bool.not_false])
   refine wp_cond_false rfl ?_
   refine wp_skip ?_
   (try simp only [ls0, ls1])
   refine hK582 _ _ ?_
   (try clear hK582 K582)
   refine wp_seq_k fun K592 hK592 => ?_
   refine wp_seq_k fun K593 hK593 => ?_
   refine wl_region ?_
   refine mv_ rfl ?_
   obtain ⟨⟨t594, t595, t596⟩, A597, H⟩ := bnd H
   (try dsimp only at H)
   refine st_call #[.pointer (some ⟨g0, 0, none⟩)] rfl rfl Try.func121 (by kernel_rfl) rfl rfl (mp_ rfl) ?_
   refine (expr_Cursor_down.calls g0 A0_0 c0_0 l0_0 A0_1 c0_1 l0_1 (wrap64 (a0_2 + 1)) a0_3 t594 t595 t596  (fun z_ => pal [(0, 0), (1, 1)] (C589_ z_)) w588 (fun _ => pal_lt rfl _) (Bx.arg HX580 rfl) (Ft.arg HP0_0 rfl) HCP0_0 (Ft.arg HP0_1 rfl) HCP0_1 A597).mono ?_
   rintro _ w599 ⟨C600, rfl, hs601, HX602⟩
   refine ⟨_, rfl, ?_⟩
   replace HX602 := Bx.res (U := [(0, 0), (1, 1)]) (j := 1) HX602 hs601 (by rfl) (by decide) rfl
   replace hs601 := Step.lift (U := [(0, 0), (1, 1)]) hs601 [1] rfl rfl
   generalize up C589_ C600 w588.heap.size [(0, 0), (1, 1)] = C600_ at HX602 hs601
   replace HP0_0 := HP0_0.thru hs601 rfl
   replace HP0_1 := HP0_1.thru hs601 rfl
   replace HX528 := HX528.thru hs601 rfl
   replace HX576 := HX576.thru hs601 rfl
   replace HS := HS.trans hs601 hc rfl
   (try simp only [ls0, ls1])
   refine as_ rfl ?_
   refine wl_end ?_
   (try simp only [ls0, ls1])
   refine hK593 _ _ ?_
   (try clear hK593 K593)
   refine wp_seq_k fun K603 hK603 => ?_
   refine wl_region ?_
   refine mv_ rfl ?_
   refine st (.bool (!decide (t594 = 0))) rfl rfl (xr_bin _ _ _ rfl rfl rfl (B.neq_i64 _ _)) ?_
   refine wl_end ?_
   (try simp only [ls0, ls1])
   refine hK603 _ _ ?_
   (try clear hK603 K603)
   by_cases c604 : t594 = 0
   ·rw [if_pos c604] at H
    (try rw [(decide_eq_true c604)])
    (try simp only [Bool.not_true, Bool.not_false])
    refine wp_cond_false rfl ?_
    refine wp_skip ?_
    (try simp only [ls0, ls1])
    refine hK592 _ _ ?_
    (try clear hK592 K592)
    refine wp_seq_k fun K605 hK605 => ?_
    refine wl_region ?_
    refine mv_ rfl ?_
    obtain ⟨⟨t606, t607, t608, t609, t610, t611, t612, t613, t614⟩, A615, H⟩ := bnd H
    (try dsimp only at H)
    refine st_call #[.pointer (some ⟨g0, 0, none⟩), .int .i64 1] rfl rfl Try.func82 (by kernel_rfl) rfl rfl (mp_ rfl) ?_
    refine (IH.expr_Cursor_binary g0 A0_0 c0_0 l0_0 A0_1 c0_1 l0_1 t595 t596 1 t606 t607 t608 t609 t610 t611 t612 t613 t614  (fun z_ => pal [(0, 0), (1, 1)] (C600_ z_)) w599 (fun _ => pal_lt rfl _) (Bx.arg HX602 rfl) (Ft.arg HP0_0 rfl) HCP0_0 (Ft.arg HP0_1 rfl) HCP0_1 A615).mono ?_
    rintro _ w617 ⟨C618, A620, cp621, rfl, hs619, HO622, HC623, HX624⟩
    refine ⟨_, rfl, ?_⟩
    replace HO622 := Ft.res (U := [(0, 0), (1, 1)]) HO622 hs619 [0] rfl rfl rfl
    replace HX624 := Bx.res (U := [(0, 0), (1, 1)]) (j := 1) HX624 hs619 (by rfl) (by decide) rfl
    replace hs619 := Step.lift (U := [(0, 0), (1, 1)]) hs619 [1] rfl rfl
    generalize up C600_ C618 w599.heap.size [(0, 0), (1, 1)] = C618_ at HO622 HX624 hs619
    replace HP0_0 := HP0_0.thru hs619 rfl
    replace HP0_1 := HP0_1.thru hs619 rfl
    replace HX528 := HX528.thru hs619 rfl
    replace HX576 := HX576.thru hs619 rfl
    replace HS := HS.trans hs619 hc rfl
    (try simp only [ls0, ls1])
    refine mv_ rfl ?_
    refine st (.agg #[.int .i64 t606, .int .i64 t607, .int .i64 t608, .string t609, .string t610, .slice A620 t611.length cp621]) rfl rfl (xr_extract (.tuple #[.agg #[.int .i64 t606, .int .i64 t607, .int .i64 t608, .string t609, .string t610, .slice A620 t611.length cp621], .int .i64 t612]) _ rfl rfl rfl) ?_
    refine st (.int .i64 t612) rfl rfl (xr_extract (.tuple #[.agg #[.int .i64 t606, .int .i64 t607, .int .i64 t608, .string t609, .string t610, .slice A620 t611.length cp621], .int .i64 t612]) _ rfl rfl rfl) ?_
    refine bx_new (C := C618_) 44 ([.int .i64 0, .int .i64 0, .int .i64 0, .string (⟨#[]⟩ : ByteArray), .string (⟨#[]⟩ : ByteArray), .slice none 0 0]) 13 rfl rfl (by first | (go_simp; done) | (go_simp; rfl)) ?_
    intro g625 w626 C627 HX628 hs629
    replace HX624 := HX624.thru hs629 rfl
    replace HP0_0 := HP0_0.thru hs629 rfl
    replace HP0_1 := HP0_1.thru hs629 rfl
    replace HX528 := HX528.thru hs629 rfl
    replace HX576 := HX576.thru hs629 rfl
    replace HO622 := HO622.thru hs629 rfl
    replace HS := HS.trans hs629 hc rfl
    (try simp only [ls0, ls1])
    refine bx_store (C := C627) (z := 13) (g := g625) (j := 0) (tb := 44) (u := .agg #[.int .i64 t606, .int .i64 t607, .int .i64 t608, .string t609, .string t610, .slice A620 t611.length cp621]) (seg := [.int .i64 t606, .int .i64 t607, .int .i64 t608, .string t609, .string t610, .slice A620 t611.length cp621]) (xs := [.int .i64 0, .int .i64 0, .int .i64 0, .string (⟨#[]⟩ : ByteArray), .string (⟨#[]⟩ : ByteArray), .slice none 0 0]) rfl rfl rfl rfl rfl rfl (by first | kernel_rfl | rfl) (by simp [Value.oneCell']) HX628 (by simp only [List.length_cons, List.length_nil]; omega) rfl ?_
    intro w630 HX631 hs632
    replace HX624 := HX624.thru hs632 rfl
    replace HP0_0 := HP0_0.thru hs632 rfl
    replace HP0_1 := HP0_1.thru hs632 rfl
    replace HX528 := HX528.thru hs632 rfl
    replace HX576 := HX576.thru hs632 rfl
    replace HO622 := HO622.thru hs632 rfl
    replace HS := HS.trans hs632 hc rfl
    (try simp only [ls0, ls1])
    refine as_ rfl ?_
    refine wl_end ?_
    (try simp only [ls0, ls1])
    refine hK605 _ _ ?_
    (try clear hK605 K605)
    refine wp_seq_k fun K633 hK633 => ?_
    refine wp_seq_k fun K634 hK634 => ?_
    refine wl_region ?_
    refine mv_ rfl ?_
    refine st (.bool (!decide (t612 = 0))) rfl rfl (xr_bin _ _ _ rfl rfl rfl (B.neq_i64 _ _)) ?_
    refine wl_end ?_
    (try simp only [ls0, ls1])
    refine hK634 _ _ ?_
    (try clear hK634 K634)
    by_cases c635 : t612 = 0
    ·rw [if_pos c635] at H
     (try rw [(decide_eq_true c635)])
     (try simp only [Bool.not_true, Bool.not_false])
     refine wp_cond_false rfl ?_
     refine wp_skip ?_
     (try simp only [ls0, ls1])
     refine hK633 _ _ ?_
     (try clear hK633 K633)
     refine wp_seq_k fun K636 hK636 => ?_
     have hj654 : ∀ (kq667 : Nat) (C655 : Nat → Nat) (w656 : World) (x658 : Bool) (x661 : Int) (g_ : Nat → Value), Step c w C655 w656 [1] → kq667 ≤ k → (Ft C655 [0] w656 (fun w_ => (Kd.int .u8).C w_ A0_0 l0_0.length l0_0)) → (Ft C655 [0] w656 (fun w_ => k28.C w_ A0_1 l0_1.length l0_1)) → (Bx C655 1 w656 g0 111 ([.slice A0_0 l0_0.length c0_0, .slice A0_1 l0_1.length c0_1, .int .i64 x661, .int .i64 t614])) → (Bx C655 11 w656 g525 44 ([.int .i64 0, .int .i64 0, .int .i64 0, .string (⟨#[]⟩ : ByteArray), .string (⟨#[]⟩ : ByteArray), .slice none 0 0])) → (Bx C655 12 w656 g570 44 ([.int .i64 6, .int .i64 t564, .int .i64 0, .string (⟨#[]⟩ : ByteArray), .string (⟨#[]⟩ : ByteArray), .slice none 0 0])) → (Ft C655 [0] w656 (fun w_ => k44.C w_ A620 t611.length t611)) → (Bx C655 13 w656 g625 44 ([.int .i64 t606, .int .i64 t607, .int .i64 t608, .string t609, .string t610, .slice A620 t611.length cp621])) → expr_Cursor_open.j1 r_ kq667 a0_2 l0_0 l0_1 t564 t606 t607 t608 t609 t610 t611 t614 x658 x661 = some (r1, r2, r3, r4, r5, r6, r7, r8, r9) → K636 ⟨#[.pointer (some ⟨g0, 0, none⟩), (g_ 1), .pointer (some ⟨g525, 0, none⟩), (g_ 3), .int .i64 a0_2, .pointer (some ⟨g570, 0, none⟩), (g_ 6), .pointer (some ⟨g625, 0, none⟩), (g_ 8), .bool x658, (g_ 10), (g_ 11), (g_ 12), (g_ 13), (g_ 14), (g_ 15), (g_ 16), (g_ 17), (g_ 18), (g_ 19), (g_ 20), (g_ 21), (g_ 22), (g_ 23), (g_ 24), (g_ 25), (g_ 26), (g_ 27), (g_ 28), (g_ 29), (g_ 30), (g_ 31), (g_ 32), (g_ 33), (g_ 34), (g_ 35), (g_ 36), (g_ 37), (g_ 38), (g_ 39), (g_ 40), (g_ 41), (g_ 42), (g_ 43), (g_ 44), (g_ 45), (g_ 46), (g_ 47), (g_ 48), (g_ 49), (g_ 50), (g_ 51), (g_ 52), (g_ 53), (g_ 54), (g_ 55), (g_ 56), (g_ 57), (g_ 58), (g_ 59), (g_ 60), (g_ 61), (g_ 62), (g_ 63), (g_ 64), (g_ 65), (g_ 66), (g_ 67), (g_ 68), (g_ 69), (g_ 70), (g_ 71), (g_ 72), (g_ 73), (g_ 74)], []⟩ w656 := by
      intro kq667 C655 w656 x658 x661 g_ HS657 hk668 HJ659 HJ660 HJ662 HJ663 HJ664 HJ665 HJ666 H
      cases kq667 with
      | zero => exact absurd H (by simp [expr_Cursor_open.j1])
      | succ k669 =>
       simp only [expr_Cursor_open.j1] at H
       refine hK636 _ _ ?_
       (try clear hK636)
       refine wp_seq_k fun K670 hK670 => ?_
       have hj685 : ∀ (kq699 : Nat) (C686 : Nat → Nat) (w687 : World) (x689 : Bool) (x692 : Int) (x695 : ByteArray) (g_ : Nat → Value), Step c w C686 w687 [1] → kq699 ≤ k669 → (Ft C686 [0] w687 (fun w_ => (Kd.int .u8).C w_ A0_0 l0_0.length l0_0)) → (Ft C686 [0] w687 (fun w_ => k28.C w_ A0_1 l0_1.length l0_1)) → (Bx C686 1 w687 g0 111 ([.slice A0_0 l0_0.length c0_0, .slice A0_1 l0_1.length c0_1, .int .i64 x692, .int .i64 t614])) → (Bx C686 11 w687 g525 44 ([.int .i64 0, .int .i64 0, .int .i64 0, .string (⟨#[]⟩ : ByteArray), .string (⟨#[]⟩ : ByteArray), .slice none 0 0])) → (Bx C686 12 w687 g570 44 ([.int .i64 6, .int .i64 t564, .int .i64 0, .string (⟨#[]⟩ : ByteArray), .string x695, .slice none 0 0])) → (Ft C686 [0] w687 (fun w_ => k44.C w_ A620 t611.length t611)) → (Bx C686 13 w687 g625 44 ([.int .i64 t606, .int .i64 t607, .int .i64 t608, .string t609, .string t610, .slice A620 t611.length cp621])) → expr_Cursor_open.j0 r_ kq699 a0_2 l0_0 l0_1 t564 t606 t607 t608 t609 t610 t611 t614 x689 x692 x695 = some (r1, r2, r3, r4, r5, r6, r7, r8, r9) → K670 ⟨#[.pointer (some ⟨g0, 0, none⟩), (g_ 1), .pointer (some ⟨g525, 0, none⟩), (g_ 3), .int .i64 a0_2, .pointer (some ⟨g570, 0, none⟩), (g_ 6), .pointer (some ⟨g625, 0, none⟩), (g_ 8), .bool x689, (g_ 10), (g_ 11), (g_ 12), (g_ 13), (g_ 14), (g_ 15), (g_ 16), (g_ 17), (g_ 18), (g_ 19), (g_ 20), (g_ 21), (g_ 22), (g_ 23), (g_ 24), (g_ 25), (g_ 26), (g_ 27), (g_ 28), (g_ 29), (g_ 30), (g_ 31), (g_ 32), (g_ 33), (g_ 34), (g_ 35), (g_ 36), (g_ 37), (g_ 38), (g_ 39), (g_ 40), (g_ 41), (g_ 42), (g_ 43), (g_ 44), (g_ 45), (g_ 46), (g_ 47), (g_ 48), (g_ 49), (g_ 50), (g_ 51), (g_ 52), (g_ 53), (g_ 54), (g_ 55), (g_ 56), (g_ 57), (g_ 58), (g_ 59), (g_ 60), (g_ 61), (g_ 62), (g_ 63), (g_ 64), (g_ 65), (g_ 66), (g_ 67), (g_ 68), (g_ 69), (g_ 70), (g_ 71), (g_ 72), (g_ 73), (g_ 74)], []⟩ w687 := by
        intro kq699 C686 w687 x689 x692 x695 g_ HS688 hk700 HJ690 HJ691 HJ693 HJ694 HJ696 HJ697 HJ698 H
        cases kq699 with
        | zero => exact absurd H (by simp [expr_Cursor_open.j0])
        | succ k701 =>
         simp only [expr_Cursor_open.j0] at H
         refine hK670 _ _ ?_
         (try clear hK670)
         refine wp_seq_k fun K702 hK702 => ?_
         refine wp_seq_k fun K703 hK703 => ?_
         refine wl_region ?_
         refine mv_ rfl ?_
         refine st (.bool (!x689)) rfl rfl (xr_un (.bool x689) _ rfl rfl (by first | rfl | (go_simp; done) | (go_simp; rfl) | (go_simp; exact i64_w _) | (go_simp; exact i32_w _))) ?_
         refine wl_end ?_
         (try simp only [ls0, ls1])
         refine hK703 _ _ ?_
         (try clear hK703 K703)
         by_cases c704 : x689 = true
         ·rw [if_pos c704] at H
          (try rw [c704])
          (try simp only [Bool.not_true, Bool.not_false])
          refine wp_cond_false rfl ?_
          refine wp_skip ?_
          (try simp only [ls0, ls1])
          refine hK702 _ _ ?_
          (try clear hK702 K702)
          refine wp_seq_k fun K705 hK705 => ?_
          refine wp_seq_k fun K706 hK706 => ?_
          refine wl_region ?_
          refine mv_ rfl ?_
          obtain ⟨⟨t707, t708, t709⟩, A710, H⟩ := bnd H
          (try dsimp only at H)
          refine st_call #[.pointer (some ⟨g0, 0, none⟩)] rfl rfl Try.func135 (by kernel_rfl) rfl rfl (mp_ rfl) ?_
          refine (expr_Cursor_end.calls g0 A0_0 c0_0 l0_0 A0_1 c0_1 l0_1 x692 t614 t707 t708 t709  (fun z_ => pal [(0, 0), (1, 1)] (C686 z_)) w687 (fun _ => pal_lt rfl _) (Bx.arg HJ693 rfl) (Ft.arg HJ690 rfl) HCP0_0 (Ft.arg HJ691 rfl) HCP0_1 A710).mono ?_
          rintro _ w712 ⟨C713, rfl, hs714, HX715⟩
          refine ⟨_, rfl, ?_⟩
          replace HX715 := Bx.res (U := [(0, 0), (1, 1)]) (j := 1) HX715 hs714 (by rfl) (by decide) rfl
          replace hs714 := Step.lift (U := [(0, 0), (1, 1)]) hs714 [1] rfl rfl
          generalize up C686 C713 w687.heap.size [(0, 0), (1, 1)] = C713_ at HX715 hs714
          replace HJ690 := HJ690.thru hs714 rfl
          replace HJ691 := HJ691.thru hs714 rfl
          replace HJ694 := HJ694.thru hs714 rfl
          replace HJ696 := HJ696.thru hs714 rfl
          replace HJ698 := HJ698.thru hs714 rfl
          replace HJ697 := HJ697.thru hs714 rfl
          replace HS688 := HS688.trans hs714 hc rfl
          (try simp only [ls0, ls1])
          refine as_ rfl ?_
          refine wl_end ?_
          (try simp only [ls0, ls1])
          refine hK706 _ _ ?_
          (try clear hK706 K706)
          refine wp_seq_k fun K716 hK716 => ?_
          refine wl_region ?_
          refine mv_ rfl ?_
          refine st (.bool (!decide (t707 = 0))) rfl rfl (xr_bin _ _ _ rfl rfl rfl (B.neq_i64 _ _)) ?_
          refine wl_end ?_
          (try simp only [ls0, ls1])
          refine hK716 _ _ ?_
          (try clear hK716 K716)
          by_cases c717 : t707 = 0
          ·rw [if_pos c717] at H
           (try rw [(decide_eq_true c717)])
           (try simp only [Bool.not_true, Bool.not_false])
           refine wp_cond_false rfl ?_
           refine wp_skip ?_
           (try simp only [ls0, ls1])
           refine hK705 _ _ ?_
           (try clear hK705 K705)
           refine wp_seq_k fun K718 hK718 => ?_
           refine wl_region ?_
           refine st (.agg #[.int .i64 t606, .int .i64 t607, .int .i64 t608, .string t609, .string t610, .slice A620 t611.length cp621]) rfl rfl (xr_load _ _ rfl rfl (load_agg (cs := [.int .i64 t606, .int .i64 t607, .int .i64 t608, .string t609, .string t610, .slice A620 t611.length cp621]) Try.underlying44 rfl (by kernel_rfl) (bx_cells (HJ698).2 0 rfl))) ?_
           obtain ⟨y719, A720, H⟩ := bnd H
           refine Own.lit k44 (C := C713_) (i := 14) rfl 44 rfl (xs := [(⟨t606, t607, t608, t609, t610, t611⟩ : S44)]) (inner := [.int .i64 t606, .int .i64 t607, .int .i64 t608, .string t609, .string t610, .slice A620 t611.length cp621]) (by first | (go_simp; done) | (go_simp; rfl)) (reps_cons (k44_mkF _ _ (⟨t606, t607, t608, t609, t610, t611⟩ : S44) HC623 (Kd.F_mono (d := k44) HJ697 (fun k_ h_ => by simpa using h_))) rfl (Reps.none _ _)) (by simp only [List.length_cons, List.length_nil]; omega) (Option.some.inj A720) ?_
           intro A721 cp722 w723 C724 HO725 HC726 hs727
           replace HX715 := HX715.thru hs727 rfl
           replace HJ690 := HJ690.thru hs727 rfl
           replace HJ691 := HJ691.thru hs727 rfl
           replace HJ694 := HJ694.thru hs727 rfl
           replace HJ696 := HJ696.thru hs727 rfl
           replace HJ698 := HJ698.thru hs727 rfl
           replace HJ697 := HJ697.thru hs727 rfl
           replace HS688 := HS688.trans hs727 hc rfl
           (try simp only [ls0, ls1])
           refine st (.pointer (some ⟨g570, 5, none⟩)) rfl rfl (xr_fieldAddr _ _ rfl rfl (bx_field2 Try.underlying44 rfl rfl (by kernel_rfl))) ?_
           refine bx_store (C := C724) (z := 12) (g := g570) (j := 5) (tb := 44) (u := .slice A721 y719.length cp722) (seg := [.slice A721 y719.length cp722]) (xs := [.int .i64 6, .int .i64 t564, .int .i64 0, .string (⟨#[]⟩ : ByteArray), .string x695, .slice none 0 0]) rfl rfl rfl rfl rfl rfl (by first | kernel_rfl | rfl) (by simp [Value.oneCell']) HJ696 (by simp only [List.length_cons, List.length_nil]; omega) rfl ?_
           intro w728 HX729 hs730
           replace HX715 := HX715.thru hs730 rfl
           replace HJ690 := HJ690.thru hs730 rfl
           replace HJ691 := HJ691.thru hs730 rfl
           replace HJ694 := HJ694.thru hs730 rfl
           replace HO725 := HO725.thru hs730 rfl
           replace HJ698 := HJ698.thru hs730 rfl
           replace HJ697 := HJ697.thru hs730 rfl
           replace HS688 := HS688.trans hs730 hc rfl
           (try simp only [ls0, ls1])
           refine wl_end ?_
           (try simp only [ls0, ls1])
           refine hK718 _ _ ?_
           (try clear hK718 K718)
           refine wp_seq_k fun K731 hK731 => ?_
           refine wl_region ?_
           refine mv_ rfl ?_
           refine st (.agg #[.int .i64 6, .int .i64 t564, .int .i64 0, .string (⟨#[]⟩ : ByteArray), .string x695, .slice A721 y719.length cp722]) rfl rfl (xr_load _ _ rfl rfl (load_agg (cs := [.int .i64 6, .int .i64 t564, .int .i64 0, .string (⟨#[]⟩ : ByteArray), .string x695, .slice A721 y719.length cp722]) Try.underlying44 rfl (by kernel_rfl) (bx_cells (HX729).2 0 rfl))) ?_
           refine mv_ rfl ?_
           replace HX715 := Bx.recol (a := 14) (b := 0) HX715 (by decide)
           replace HJ690 := Ft.recol (a := 14) (b := 0) HJ690 (.inl rfl)
           replace HJ691 := Ft.recol (a := 14) (b := 0) HJ691 (.inl rfl)
           replace HJ694 := Bx.recol (a := 14) (b := 0) HJ694 (by decide)
           replace HX729 := Bx.recol (a := 14) (b := 0) HX729 (by decide)
           have HR732 := Ft.recolor (a := 14) (b := 0) (HO725.ft) [0] rfl
           replace HJ698 := Bx.recol (a := 14) (b := 0) HJ698 (by decide)
           replace HJ697 := Ft.recol (a := 14) (b := 0) HJ697 (.inl rfl)
           replace HS688 := Step.recol (a := 14) (b := 0) HS688 hc (by decide)
           obtain ⟨⟨t733, t734, t735, t736, t737, t738, t739, t740⟩, A741, H⟩ := bnd H
           (try dsimp only at H)
           refine st_call #[.pointer (some ⟨g0, 0, none⟩), .agg #[.int .i64 6, .int .i64 t564, .int .i64 0, .string (⟨#[]⟩ : ByteArray), .string x695, .slice A721 y719.length cp722], .int .i64 a0_2] rfl rfl Try.func104 (by kernel_rfl) rfl rfl (mp_ rfl) ?_
           refine (expr_Cursor_held.calls k701 g0 A0_0 c0_0 l0_0 A0_1 c0_1 l0_1 t708 t709 6 t564 0 (⟨#[]⟩ : ByteArray) x695 A721 cp722 y719 a0_2 t733 t734 t735 t736 t737 t738 t739 t740  (fun z_ => pal [(0, 0), (1, 1)] ((recol C724 14 0) z_)) w728 (fun _ => pal_lt rfl _) (Bx.arg HX715 rfl) (Ft.arg HJ690 rfl) HCP0_0 (Ft.arg HJ691 rfl) HCP0_1 (Ft.arg HR732 rfl) HC726 A741).mono ?_
           rintro _ w743 ⟨C744, A746, cp747, rfl, hs745, HO748, HC749, HX750⟩
           refine ⟨_, rfl, ?_⟩
           replace HO748 := Ft.res (U := [(0, 0), (1, 1)]) HO748 hs745 [0] rfl rfl rfl
           replace HX750 := Bx.res (U := [(0, 0), (1, 1)]) (j := 1) HX750 hs745 (by rfl) (by decide) rfl
           replace hs745 := Step.lift (U := [(0, 0), (1, 1)]) hs745 [1] rfl rfl
           generalize up (recol C724 14 0) C744 w728.heap.size [(0, 0), (1, 1)] = C744_ at HO748 HX750 hs745
           replace HJ690 := HJ690.thru hs745 rfl
           replace HJ691 := HJ691.thru hs745 rfl
           replace HJ694 := HJ694.thru hs745 rfl
           replace HX729 := HX729.thru hs745 rfl
           replace HR732 := HR732.thru hs745 rfl
           replace HJ698 := HJ698.thru hs745 rfl
           replace HJ697 := HJ697.thru hs745 rfl
           replace HS688 := HS688.trans hs745 hc rfl
           (try simp only [ls0, ls1])
           refine st (.agg #[.int .i64 t733, .int .i64 t734, .int .i64 t735, .string t736, .string t737, .slice A746 t738.length cp747]) rfl rfl (xr_extract (.tuple #[.agg #[.int .i64 t733, .int .i64 t734, .int .i64 t735, .string t736, .string t737, .slice A746 t738.length cp747], .int .i64 t739]) _ rfl rfl rfl) ?_
           refine st (.int .i64 t739) rfl rfl (xr_extract (.tuple #[.agg #[.int .i64 t733, .int .i64 t734, .int .i64 t735, .string t736, .string t737, .slice A746 t738.length cp747], .int .i64 t739]) _ rfl rfl rfl) ?_
           refine bx_store (C := C744_) (z := 11) (g := g525) (j := 0) (tb := 44) (u := .agg #[.int .i64 t733, .int .i64 t734, .int .i64 t735, .string t736, .string t737, .slice A746 t738.length cp747]) (seg := [.int .i64 t733, .int .i64 t734, .int .i64 t735, .string t736, .string t737, .slice A746 t738.length cp747]) (xs := [.int .i64 0, .int .i64 0, .int .i64 0, .string (⟨#[]⟩ : ByteArray), .string (⟨#[]⟩ : ByteArray), .slice none 0 0]) rfl rfl rfl rfl rfl rfl (by first | kernel_rfl | rfl) (by simp [Value.oneCell']) HJ694 (by simp only [List.length_cons, List.length_nil]; omega) rfl ?_
           intro w751 HX752 hs753
           replace HX750 := HX750.thru hs753 rfl
           replace HJ690 := HJ690.thru hs753 rfl
           replace HJ691 := HJ691.thru hs753 rfl
           replace HO748 := HO748.thru hs753 rfl
           replace HX729 := HX729.thru hs753 rfl
           replace HR732 := HR732.thru hs753 rfl
           replace HJ698 := HJ698.thru hs753 rfl
           replace HJ697 := HJ697.thru hs753 rfl
           replace HS688 := HS688.trans hs753 hc rfl
           (try simp only [ls0, ls1])
           refine as_ rfl ?_
           refine wl_end ?_
           (try simp only [ls0, ls1])
           refine hK731 _ _ ?_
           (try clear hK731 K731)
           refine wp_ret ?_
           (try simp only [Exit.inBlock, Exit.then, Exit.noGoto])
           (try simp only [ls0, ls1])
           simp only [Option.some.injEq, Prod.mk.injEq] at H
           obtain ⟨rfl, rfl, rfl, rfl, rfl, rfl, rfl, rfl, rfl⟩ := H
           refine bodyPost_ret (res_ct rfl rfl (load_of (load_agg (cs := [.int .i64 t733, .int .i64 t734, .int .i64 t735, .string t736, .string t737, .slice A746 t738.length cp747]) Try.underlying44 rfl (by kernel_rfl) (bx_cells (HX752).2 0 rfl)))) rfl ?_
           exact ⟨_, A746, cp747, rfl, HS688, HO748, HC749, HX750⟩
          rw [if_neg c717] at H
          (try rw [(decide_eq_false c717)])
          (try simp only [Bool.not_true, Bool.not_false])
          refine wp_cond_true rfl ?_
          refine wp_seq_k fun K754 hK754 => ?_
          refine wl_region ?_
          refine st (.agg #[.int .i64 0, .int .i64 0, .int .i64 0, .string (⟨#[]⟩ : ByteArray), .string (⟨#[]⟩ : ByteArray), .slice none 0 0]) rfl rfl (xr_build #[] (.agg #[.int .i64 0, .int .i64 0, .int .i64 0, .string (⟨#[]⟩ : ByteArray), .string (⟨#[]⟩ : ByteArray), .slice none 0 0]) rfl (mp_ rfl) (by first | rfl | (go_simp; done) | (go_simp; rfl) | (go_simp; exact i64_w _) | (go_simp; exact i32_w _))) ?_
          refine mv_ rfl ?_
          refine bx_store (C := C713_) (z := 11) (g := g525) (j := 0) (tb := 44) (u := .agg #[.int .i64 0, .int .i64 0, .int .i64 0, .string (⟨#[]⟩ : ByteArray), .string (⟨#[]⟩ : ByteArray), .slice none 0 0]) (seg := [.int .i64 0, .int .i64 0, .int .i64 0, .string (⟨#[]⟩ : ByteArray), .string (⟨#[]⟩ : ByteArray), .slice none 0 0]) (xs := [.int .i64 0, .int .i64 0, .int .i64 0, .string (⟨#[]⟩ : ByteArray), .string (⟨#[]⟩ : ByteArray), .slice none 0 0]) rfl rfl rfl rfl rfl rfl (by first | kernel_rfl | rfl) (by simp [Value.oneCell']) HJ694 (by simp only [List.length_cons, List.length_nil]; omega) rfl ?_
          intro w755 HX756 hs757
          replace HX715 := HX715.thru hs757 rfl
          replace HJ690 := HJ690.thru hs757 rfl
          replace HJ691 := HJ691.thru hs757 rfl
          replace HJ696 := HJ696.thru hs757 rfl
          replace HJ698 := HJ698.thru hs757 rfl
          replace HJ697 := HJ697.thru hs757 rfl
          replace HS688 := HS688.trans hs757 hc rfl
          (try simp only [ls0, ls1])
          refine as_ rfl ?_
          refine wl_end ?_
          (try simp only [ls0, ls1])
          refine hK754 _ _ ?_
          (try clear hK754 K754)
          refine wp_ret ?_
          (try simp only [Exit.inBlock, Exit.then, Exit.noGoto])
          (try simp only [ls0, ls1])
          simp only [Option.some.injEq, Prod.mk.injEq] at H
          obtain ⟨rfl, rfl, rfl, rfl, rfl, rfl, rfl, rfl, rfl⟩ := H
          refine bodyPost_ret (res_ct rfl rfl (load_of (load_agg (cs := [.int .i64 0, .int .i64 0, .int .i64 0, .string (⟨#[]⟩ : ByteArray), .string (⟨#[]⟩ : ByteArray), .slice none 0 0]) Try.underlying44 rfl (by kernel_rfl) (bx_cells (HX756).2 0 rfl)))) rfl ?_
          exact ⟨_, none, 0, rfl, HS688, (Kd.F_nil _ _ _), (Nat.le_refl 0), HX715⟩
         rw [if_neg c704] at H
         (try rw [(Bool.eq_false_iff.mpr c704)])
         (try simp only [Bool.not_true, Bool.not_false])
         refine wp_cond_true rfl ?_
         refine wp_seq_k fun K758 hK758 => ?_
         refine wl_region ?_
         refine st (.agg #[.int .i64 0, .int .i64 0, .int .i64 0, .string (⟨#[]⟩ : ByteArray), .string (⟨#[]⟩ : ByteArray), .slice none 0 0]) rfl rfl (xr_build #[] (.agg #[.int .i64 0, .int .i64 0, .int .i64 0, .string (⟨#[]⟩ : ByteArray), .string (⟨#[]⟩ : ByteArray), .slice none 0 0]) rfl (mp_ rfl) (by first | rfl | (go_simp; done) | (go_simp; rfl) | (go_simp; exact i64_w _) | (go_simp; exact i32_w _))) ?_
         refine bx_store (C := C686) (z := 11) (g := g525) (j := 0) (tb := 44) (u := .agg #[.int .i64 0, .int .i64 0, .int .i64 0, .string (⟨#[]⟩ : ByteArray), .string (⟨#[]⟩ : ByteArray), .slice none 0 0]) (seg := [.int .i64 0, .int .i64 0, .int .i64 0, .string (⟨#[]⟩ : ByteArray), .string (⟨#[]⟩ : ByteArray), .slice none 0 0]) (xs := [.int .i64 0, .int .i64 0, .int .i64 0, .string (⟨#[]⟩ : ByteArray), .string (⟨#[]⟩ : ByteArray), .slice none 0 0]) rfl rfl rfl rfl rfl rfl (by first | kernel_rfl | rfl) (by simp [Value.oneCell']) HJ694 (by simp only [List.length_cons, List.length_nil]; omega) rfl ?_
         intro w759 HX760 hs761
         replace HJ693 := HJ693.thru hs761 rfl
         replace HJ690 := HJ690.thru hs761 rfl
         replace HJ691 := HJ691.thru hs761 rfl
         replace HJ696 := HJ696.thru hs761 rfl
         replace HJ698 := HJ698.thru hs761 rfl
         replace HJ697 := HJ697.thru hs761 rfl
         replace HS688 := HS688.trans hs761 hc rfl
         (try simp only [ls0, ls1])
         refine st (.int .i64 11) rfl rfl (xr_assign _ rfl rfl) ?_
         refine wl_end ?_
         (try simp only [ls0, ls1])
         refine hK758 _ _ ?_
         (try clear hK758 K758)
         refine wp_ret ?_
         (try simp only [Exit.inBlock, Exit.then, Exit.noGoto])
         (try simp only [ls0, ls1])
         simp only [Option.some.injEq, Prod.mk.injEq] at H
         obtain ⟨rfl, rfl, rfl, rfl, rfl, rfl, rfl, rfl, rfl⟩ := H
         refine bodyPost_ret (res_ct rfl rfl (load_of (load_agg (cs := [.int .i64 0, .int .i64 0, .int .i64 0, .string (⟨#[]⟩ : ByteArray), .string (⟨#[]⟩ : ByteArray), .slice none 0 0]) Try.underlying44 rfl (by kernel_rfl) (bx_cells (HX760).2 0 rfl)))) rfl ?_
         exact ⟨_, none, 0, rfl, HS688, (Kd.F_nil _ _ _), (Nat.le_refl 0), HJ693⟩
       refine wp_seq_k fun K762 hK762 => ?_
       refine wl_region ?_
       refine mv_ rfl ?_
       refine wl_end ?_
       (try simp only [ls0, ls1])
       refine hK762 _ _ ?_
       (try clear hK762 K762)
       by_cases c763 : x658 = true
       ·rw [if_pos c763] at H
        (try rw [c763])
        refine wp_cond_true rfl ?_
        refine wl_region ?_
        refine mv_ rfl ?_
        obtain ⟨⟨t764, t765, t766⟩, A767, H⟩ := bnd H
        (try dsimp only at H)
        refine st_call #[.pointer (some ⟨g0, 0, none⟩)] rfl rfl Try.func49 (by kernel_rfl) rfl rfl (mp_ rfl) ?_
        refine (expr_Cursor_Ident.calls k669 g0 A0_0 c0_0 l0_0 A0_1 c0_1 l0_1 x661 t614 t764 t765 t766  (fun z_ => pal [(0, 0), (1, 1)] (C655 z_)) w656 (fun _ => pal_lt rfl _) (Bx.arg HJ662 rfl) (Ft.arg HJ659 rfl) HCP0_0 (Ft.arg HJ660 rfl) HCP0_1 A767).mono ?_
        rintro _ w769 ⟨C770, rfl, hs771, HX772⟩
        refine ⟨_, rfl, ?_⟩
        replace HX772 := Bx.res (U := [(0, 0), (1, 1)]) (j := 1) HX772 hs771 (by rfl) (by decide) rfl
        replace hs771 := Step.lift (U := [(0, 0), (1, 1)]) hs771 [1] rfl rfl
        generalize up C655 C770 w656.heap.size [(0, 0), (1, 1)] = C770_ at HX772 hs771
        replace HJ659 := HJ659.thru hs771 rfl
        replace HJ660 := HJ660.thru hs771 rfl
        replace HJ663 := HJ663.thru hs771 rfl
        replace HJ664 := HJ664.thru hs771 rfl
        replace HJ666 := HJ666.thru hs771 rfl
        replace HJ665 := HJ665.thru hs771 rfl
        replace HS657 := HS657.trans hs771 hc rfl
        (try simp only [ls0, ls1])
        refine mv_ rfl ?_
        refine st (.string t764) rfl rfl (xr_extract (.tuple #[.string t764, .bool t765]) _ rfl rfl rfl) ?_
        refine st (.bool t765) rfl rfl (xr_extract (.tuple #[.string t764, .bool t765]) _ rfl rfl rfl) ?_
        refine st (.pointer (some ⟨g570, 4, none⟩)) rfl rfl (xr_fieldAddr _ _ rfl rfl (bx_field2 Try.underlying44 rfl rfl (by kernel_rfl))) ?_
        simp only [ls0, ls1]
        refine bx_store (C := C770_) (z := 12) (g := g570) (j := 4) (tb := 44) (u := .string t764) (seg := [.string t764]) (xs := [.int .i64 6, .int .i64 t564, .int .i64 0, .string (⟨#[]⟩ : ByteArray), .string (⟨#[]⟩ : ByteArray), .slice none 0 0]) rfl rfl rfl rfl rfl rfl (by first | kernel_rfl | rfl) (by simp [Value.oneCell']) HJ664 (by simp only [List.length_cons, List.length_nil]; omega) rfl ?_
        intro w773 HX774 hs775
        replace HX772 := HX772.thru hs775 rfl
        replace HJ659 := HJ659.thru hs775 rfl
        replace HJ660 := HJ660.thru hs775 rfl
        replace HJ663 := HJ663.thru hs775 rfl
        replace HJ666 := HJ666.thru hs775 rfl
        replace HJ665 := HJ665.thru hs775 rfl
        replace HS657 := HS657.trans hs775 hc rfl
        (try simp only [ls0, ls1])
        refine as_ rfl ?_
        refine wl_end ?_
        (try simp only [ls0, ls1])
        exact jmp (fun g_ => hj685 _ _ _ (t765) (t766) (t764) g_ HS657 (by omega) HJ659 HJ660 HX772 HJ663 HX774 HJ665 HJ666 H) rfl
       rw [if_neg c763] at H
       (try rw [(Bool.eq_false_iff.mpr c763)])
       refine wp_cond_false rfl ?_
       refine wp_skip ?_
       (try simp only [ls0, ls1])
       exact jmp (fun g_ => hj685 _ _ _ (false) (x661) ((⟨#[]⟩ : ByteArray)) g_ HS657 (by omega) HJ659 HJ660 HJ662 HJ663 HJ664 HJ665 HJ666 H) rfl
     refine wl_region ?_
     refine mv_ rfl ?_
     obtain ⟨⟨t776, t777⟩, A778, H⟩ := bnd H
     (try dsimp only at H)
     refine st_call #[.pointer (some ⟨g0, 0, none⟩), .string (⟨#[44]⟩ : ByteArray)] rfl rfl Try.func48 (by kernel_rfl) rfl rfl (mp_ rfl) ?_
     refine (expr_Cursor_Take.calls g0 A0_0 c0_0 l0_0 A0_1 c0_1 l0_1 t613 t614 (⟨#[44]⟩ : ByteArray) t776 t777  (fun z_ => pal [(0, 0), (1, 1)] (C627 z_)) w630 (fun _ => pal_lt rfl _) (Bx.arg HX624 rfl) (Ft.arg HP0_0 rfl) HCP0_0 (Ft.arg HP0_1 rfl) HCP0_1 A778).mono ?_
     rintro _ w780 ⟨C781, rfl, hs782, HX783⟩
     refine ⟨_, rfl, ?_⟩
     replace HX783 := Bx.res (U := [(0, 0), (1, 1)]) (j := 1) HX783 hs782 (by rfl) (by decide) rfl
     replace hs782 := Step.lift (U := [(0, 0), (1, 1)]) hs782 [1] rfl rfl
     generalize up C627 C781 w630.heap.size [(0, 0), (1, 1)] = C781_ at HX783 hs782
     replace HP0_0 := HP0_0.thru hs782 rfl
     replace HP0_1 := HP0_1.thru hs782 rfl
     replace HX528 := HX528.thru hs782 rfl
     replace HX576 := HX576.thru hs782 rfl
     replace HO622 := HO622.thru hs782 rfl
     replace HX631 := HX631.thru hs782 rfl
     replace HS := HS.trans hs782 hc rfl
     (try simp only [ls0, ls1])
     refine mv_ rfl ?_
     by_cases c784 : t776 = true
     ·rw [if_pos c784] at H
      (try rw [c784])
      refine on_guard (guard_on 2 true 46 rfl rfl rfl) ?_
      refine mv_ rfl ?_
      refine on_guard (guard_on 2 true 46 rfl rfl rfl) ?_
      obtain ⟨⟨t785, t786⟩, A787, H⟩ := bnd H
      (try dsimp only at H)
      refine st_call #[.pointer (some ⟨g0, 0, none⟩), .string (⟨#[64]⟩ : ByteArray)] rfl rfl Try.func48 (by kernel_rfl) rfl rfl (mp_ rfl) ?_
      refine (expr_Cursor_Take.calls g0 A0_0 c0_0 l0_0 A0_1 c0_1 l0_1 t777 t614 (⟨#[64]⟩ : ByteArray) t785 t786  (fun z_ => pal [(0, 0), (1, 1)] (C781_ z_)) w780 (fun _ => pal_lt rfl _) (Bx.arg HX783 rfl) (Ft.arg HP0_0 rfl) HCP0_0 (Ft.arg HP0_1 rfl) HCP0_1 A787).mono ?_
      rintro _ w789 ⟨C790, rfl, hs791, HX792⟩
      refine ⟨_, rfl, ?_⟩
      replace HX792 := Bx.res (U := [(0, 0), (1, 1)]) (j := 1) HX792 hs791 (by rfl) (by decide) rfl
      replace hs791 := Step.lift (U := [(0, 0), (1, 1)]) hs791 [1] rfl rfl
      generalize up C781_ C790 w780.heap.size [(0, 0), (1, 1)] = C790_ at HX792 hs791
      replace HP0_0 := HP0_0.thru hs791 rfl
      replace HP0_1 := HP0_1.thru hs791 rfl
      replace HX528 := HX528.thru hs791 rfl
      replace HX576 := HX576.thru hs791 rfl
      replace HO622 := HO622.thru hs791 rfl
      replace HX631 := HX631.thru hs791 rfl
      replace HS := HS.trans hs791 hc rfl
      (try simp only [ls0, ls1])
      refine st (.bool t785) rfl rfl (xr_pick true _ rfl rfl rfl) ?_
      refine as_ rfl ?_
      refine wl_end ?_
      (try simp only [ls0, ls1])
      exact jmp (fun g_ => hj654 _ _ _ (t785) (t786) g_ HS (by omega) HP0_0 HP0_1 HX792 HX528 HX576 HO622 HX631 H) rfl
     rw [if_neg c784] at H
     (try rw [(Bool.eq_false_iff.mpr c784)])
     refine sk_guard (guard_off 2 true 46 rfl rfl false (by decide) rfl) rfl ?_
     refine sk_guard (guard_off 2 true 46 rfl rfl false (by decide) rfl) rfl ?_
     refine st (.bool false) rfl rfl (xr_pick false _ rfl rfl rfl) ?_
     refine as_ rfl ?_
     simp only [ls0, ls1]
     refine wl_end ?_
     (try simp only [ls0, ls1])
     exact jmp (fun g_ => hj654 _ _ _ (false) (t777) g_ HS (by omega) HP0_0 HP0_1 HX783 HX528 HX576 HO622 HX631 H) rfl
    rw [if_neg c635] at H
    (try rw [(decide_eq_false c635)])
    (try simp only [Bool.not_true, Bool.not_false])
    refine wp_cond_true rfl ?_
    refine wp_seq_k fun K793 hK793 => ?_
    refine wl_region ?_
    refine st (.agg #[.int .i64 0, .int .i64 0, .int .i64 0, .string (⟨#[]⟩ : ByteArray), .string (⟨#[]⟩ : ByteArray), .slice none 0 0]) rfl rfl (xr_build #[] (.agg #[.int .i64 0, .int .i64 0, .int .i64 0, .string (⟨#[]⟩ : ByteArray), .string (⟨#[]⟩ : ByteArray), .slice none 0 0]) rfl (mp_ rfl) (by first | rfl | (go_simp; done) | (go_simp; rfl) | (go_simp; exact i64_w _) | (go_simp; exact i32_w _))) ?_
    refine mv_ rfl ?_
    refine bx_store (C := C627) (z := 11) (g := g525) (j := 0) (tb := 44) (u := .agg #[.int .i64 0, .int .i64 0, .int .i64 0, .string (⟨#[]⟩ : ByteArray), .string (⟨#[]⟩ : ByteArray), .slice none 0 0]) (seg := [.int .i64 0, .int .i64 0, .int .i64 0, .string (⟨#[]⟩ : ByteArray), .string (⟨#[]⟩ : ByteArray), .slice none 0 0]) (xs := [.int .i64 0, .int .i64 0, .int .i64 0, .string (⟨#[]⟩ : ByteArray), .string (⟨#[]⟩ : ByteArray), .slice none 0 0]) rfl rfl rfl rfl rfl rfl (by first | kernel_rfl | rfl) (by simp [Value.oneCell']) HX528 (by simp only [List.length_cons, List.length_nil]; omega) rfl ?_
    intro w794 HX795 hs796
    replace HX624 := HX624.thru hs796 rfl
    replace HP0_0 := HP0_0.thru hs796 rfl
    replace HP0_1 := HP0_1.thru hs796 rfl
    replace HX576 := HX576.thru hs796 rfl
    replace HO622 := HO622.thru hs796 rfl
    replace HX631 := HX631.thru hs796 rfl
    replace HS := HS.trans hs796 hc rfl
    (try simp only [ls0, ls1])
    refine as_ rfl ?_
    refine wl_end ?_
    (try simp only [ls0, ls1])
    refine hK793 _ _ ?_
    (try clear hK793 K793)
    refine wp_ret ?_
    (try simp only [Exit.inBlock, Exit.then, Exit.noGoto])
    (try simp only [ls0, ls1])
    simp only [Option.some.injEq, Prod.mk.injEq] at H
    obtain ⟨rfl, rfl, rfl, rfl, rfl, rfl, rfl, rfl, rfl⟩ := H
    refine bodyPost_ret (res_ct rfl rfl (load_of (load_agg (cs := [.int .i64 0, .int .i64 0, .int .i64 0, .string (⟨#[]⟩ : ByteArray), .string (⟨#[]⟩ : ByteArray), .slice none 0 0]) Try.underlying44 rfl (by kernel_rfl) (bx_cells (HX795).2 0 rfl)))) rfl ?_
    exact ⟨_, none, 0, rfl, HS, (Kd.F_nil _ _ _), (Nat.le_refl 0), HX624⟩
   rw [if_neg c604] at H
   (try rw [(decide_eq_false c604)])
   (try simp only [Bool.not_true, Bool.not_false])
   refine wp_cond_true rfl ?_
   refine wp_seq_k fun K797 hK797 => ?_
   refine wl_region ?_
   refine st (.agg #[.int .i64 0, .int .i64 0, .int .i64 0, .string (⟨#[]⟩ : ByteArray), .string (⟨#[]⟩ : ByteArray), .slice none 0 0]) rfl rfl (xr_build #[] (.agg #[.int .i64 0, .int .i64 0, .int .i64 0, .string (⟨#[]⟩ : ByteArray), .string (⟨#[]⟩ : ByteArray), .slice none 0 0]) rfl (mp_ rfl) (by first | rfl | (go_simp; done) | (go_simp; rfl) | (go_simp; exact i64_w _) | (go_simp; exact i32_w _))) ?_
   refine mv_ rfl ?_
   refine bx_store (C := C600_) (z := 11) (g := g525) (j := 0) (tb := 44) (u := .agg #[.int .i64 0, .int .i64 0, .int .i64 0, .string (⟨#[]⟩ : ByteArray), .string (⟨#[]⟩ : ByteArray), .slice none 0 0]) (seg := [.int .i64 0, .int .i64 0, .int .i64 0, .string (⟨#[]⟩ : ByteArray), .string (⟨#[]⟩ : ByteArray), .slice none 0 0]) (xs := [.int .i64 0, .int .i64 0, .int .i64 0, .string (⟨#[]⟩ : ByteArray), .string (⟨#[]⟩ : ByteArray), .slice none 0 0]) rfl rfl rfl rfl rfl rfl (by first | kernel_rfl | rfl) (by simp [Value.oneCell']) HX528 (by simp only [List.length_cons, List.length_nil]; omega) rfl ?_
   intro w798 HX799 hs800
   replace HX602 := HX602.thru hs800 rfl
   replace HP0_0 := HP0_0.thru hs800 rfl
   replace HP0_1 := HP0_1.thru hs800 rfl
   replace HX576 := HX576.thru hs800 rfl
   replace HS := HS.trans hs800 hc rfl
   (try simp only [ls0, ls1])
   refine as_ rfl ?_
   refine wl_end ?_
   (try simp only [ls0, ls1])
   refine hK797 _ _ ?_
   (try clear hK797 K797)
   refine wp_ret ?_
   (try simp only [Exit.inBlock, Exit.then, Exit.noGoto])
   (try simp only [ls0, ls1])
   simp only [Option.some.injEq, Prod.mk.injEq] at H
   obtain ⟨rfl, rfl, rfl, rfl, rfl, rfl, rfl, rfl, rfl⟩ := H
   refine bodyPost_ret (res_ct rfl rfl (load_of (load_agg (cs := [.int .i64 0, .int .i64 0, .int .i64 0, .string (⟨#[]⟩ : ByteArray), .string (⟨#[]⟩ : ByteArray), .slice none 0 0]) Try.underlying44 rfl (by kernel_rfl) (bx_cells (HX799).2 0 rfl)))) rfl ?_
   exact ⟨_, none, 0, rfl, HS, (Kd.F_nil _ _ _), (Nat.le_refl 0), HX602⟩
  rw [if_neg c591] at H
  (try rw [(decide_eq_false c591)])
  (try simp only [Bool.not_true, Bool.not_false])
  refine wp_cond_true rfl ?_
  refine wp_seq_k fun K801 hK801 => ?_
  refine wl_region ?_
  refine st (.agg #[.int .i64 0, .int .i64 0, .int .i64 0, .string (⟨#[]⟩ : ByteArray), .string (⟨#[]⟩ : ByteArray), .slice none 0 0]) rfl rfl (xr_build #[] (.agg #[.int .i64 0, .int .i64 0, .int .i64 0, .string (⟨#[]⟩ : ByteArray), .string (⟨#[]⟩ : ByteArray), .slice none 0 0]) rfl (mp_ rfl) (by first | rfl | (go_simp; done) | (go_simp; rfl) | (go_simp; exact i64_w _) | (go_simp; exact i32_w _))) ?_
  refine bx_store (C := C589_) (z := 11) (g := g525) (j := 0) (tb := 44) (u := .agg #[.int .i64 0, .int .i64 0, .int .i64 0, .string (⟨#[]⟩ : ByteArray), .string (⟨#[]⟩ : ByteArray), .slice none 0 0]) (seg := [.int .i64 0, .int .i64 0, .int .i64 0, .string (⟨#[]⟩ : ByteArray), .string (⟨#[]⟩ : ByteArray), .slice none 0 0]) (xs := [.int .i64 0, .int .i64 0, .int .i64 0, .string (⟨#[]⟩ : ByteArray), .string (⟨#[]⟩ : ByteArray), .slice none 0 0]) rfl rfl rfl rfl rfl rfl (by first | kernel_rfl | rfl) (by simp [Value.oneCell']) HX528 (by simp only [List.length_cons, List.length_nil]; omega) rfl ?_
  intro w802 HX803 hs804
  replace HX580 := HX580.thru hs804 rfl
  replace HP0_0 := HP0_0.thru hs804 rfl
  replace HP0_1 := HP0_1.thru hs804 rfl
  replace HX576 := HX576.thru hs804 rfl
  replace HS := HS.trans hs804 hc rfl
  (try simp only [ls0, ls1])
  refine st (.int .i64 11) rfl rfl (xr_assign _ rfl rfl) ?_
  refine wl_end ?_
  (try simp only [ls0, ls1])
  refine hK801 _ _ ?_
  (try clear hK801 K801)
  refine wp_ret ?_
  (try simp only [Exit.inBlock, Exit.then, Exit.noGoto])
  (try simp only [ls0, ls1])
  simp only [Option.some.injEq, Prod.mk.injEq] at H
  obtain ⟨rfl, rfl, rfl, rfl, rfl, rfl, rfl, rfl, rfl⟩ := H
  refine bodyPost_ret (res_ct rfl rfl (load_of (load_agg (cs := [.int .i64 0, .int .i64 0, .int .i64 0, .string (⟨#[]⟩ : ByteArray), .string (⟨#[]⟩ : ByteArray), .slice none 0 0]) Try.underlying44 rfl (by kernel_rfl) (bx_cells (HX803).2 0 rfl)))) rfl ?_
  exact ⟨_, none, 0, rfl, HS, (Kd.F_nil _ _ _), (Nat.le_refl 0), HX580⟩
 ·show _
  refine bx_new_step (C := C527) 44 ([.int .i64 0, .int .i64 0, .int .i64 0, .string (⟨#[]⟩ : ByteArray), .string (⟨#[]⟩ : ByteArray), .slice none 0 0]) 12 rfl rfl (by first | (go_simp; done) | (go_simp; rfl)) ?_
  intro g805 w806 C807 HX808 hs809
  replace HP0 := HP0.thru hs809 rfl
  replace HP0_0 := HP0_0.thru hs809 rfl
  replace HP0_1 := HP0_1.thru hs809 rfl
  replace HX528 := HX528.thru hs809 rfl
  replace HS := HS.trans hs809 hc rfl
  refine hK_ _ _ (HP0).2 ?_
  clear hK_ K_
  (try simp only [Act.put, List.setIfInBounds_toArray, ls0, ls1])
  have HP810 : Ft C807 [0, 1] w806 (fun w_ => (Kd.ptr 111 k111).K w_ (some (⟨l0_0, l0_1, a0_2, a0_3⟩ : S111)) [.pointer (some ⟨g0, 0, none⟩)]) := ptr_mk (Ft.more (HP0.ft) rfl) (k111_mkF _ _ (⟨l0_0, l0_1, a0_2, a0_3⟩ : S111) HCP0_0 (Ft.more HP0_0 rfl) HCP0_1 (Ft.more HP0_1 rfl))
  obtain ⟨t811, A812, H⟩ := bnd H
  refine al_one 5 (lb 10 191) rfl rfl (by kernel_rfl) rfl (fun K_ hK_ => ?_)
  refine goes_ Try.func44 (by kernel_rfl) rfl #[.pointer (some ⟨g0, 0, none⟩)] rfl rfl rfl (mpe_ rfl) ?_
  refine (expr_Cursor_Pos.calls (.pointer (some ⟨g0, 0, none⟩)) (some (⟨l0_0, l0_1, a0_2, a0_3⟩ : S111) : Option S111) t811  (fun z_ => pal [(0, 0), (1, 0)] (C807 z_)) w806 (fun _ => pal_lt rfl _) (Ft.arg HP810 rfl) A812).mono ?_
  rintro _ w814 ⟨C815, rfl, hs816⟩
  refine ⟨_, rfl, ?_⟩
  replace hs816 := Step.lift (U := [(0, 0)]) hs816 [] rfl rfl
  generalize up C807 C815 w806.heap.size [(0, 0)] = C815_ at hs816
  replace HP0 := HP0.thru hs816 rfl
  replace HP0_0 := HP0_0.thru hs816 rfl
  replace HP0_1 := HP0_1.thru hs816 rfl
  replace HX528 := HX528.thru hs816 rfl
  replace HX808 := HX808.thru hs816 rfl
  replace HS := HS.trans hs816 hc rfl
  refine hK_ _ _ (HP0).2 ?_
  clear hK_ K_
  (try simp only [Act.put, List.setIfInBounds_toArray, ls0, ls1])
  refine al_pure 6 17 (.agg #[.int .i64 6, .int .i64 t811, .int .i64 0, .string (⟨#[]⟩ : ByteArray), .string (⟨#[]⟩ : ByteArray), .slice none 0 0]) (lb 10 255) rfl rfl (by kernel_rfl) (fun _ _ _ => id) rfl (fun w_ => xr_build #[(0, .int .i64 6), (1, .int .i64 t811)] (.agg #[.int .i64 6, .int .i64 t811, .int .i64 0, .string (⟨#[]⟩ : ByteArray), .string (⟨#[]⟩ : ByteArray), .slice none 0 0]) rfl (mp_ rfl) (by first | rfl | (go_simp; done) | (go_simp; rfl) | (go_simp; exact i64_w _) | (go_simp; exact i32_w _))) ?_
  refine al_as 8 (lb 10 511) rfl rfl (by kernel_rfl) (fun _ _ _ => id) rfl ?_
  refine al_last 9 (lb 10 1023) rfl rfl (by kernel_rfl) rfl (fun K_ hK_ => ?_)
  refine bx_store_step (C := C815_) (z := 12) (g := g805) (j := 0) (tb := 44) (u := .agg #[.int .i64 6, .int .i64 t811, .int .i64 0, .string (⟨#[]⟩ : ByteArray), .string (⟨#[]⟩ : ByteArray), .slice none 0 0]) (seg := [.int .i64 6, .int .i64 t811, .int .i64 0, .string (⟨#[]⟩ : ByteArray), .string (⟨#[]⟩ : ByteArray), .slice none 0 0]) (xs := [.int .i64 0, .int .i64 0, .int .i64 0, .string (⟨#[]⟩ : ByteArray), .string (⟨#[]⟩ : ByteArray), .slice none 0 0]) rfl rfl rfl rfl rfl rfl (by first | kernel_rfl | rfl) (by simp [Value.oneCell']) HX808 (by simp only [List.length_cons, List.length_nil]; omega) rfl ?_
  intro w817 HX818 hs819
  replace HP0 := HP0.thru hs819 rfl
  replace HP0_0 := HP0_0.thru hs819 rfl
  replace HP0_1 := HP0_1.thru hs819 rfl
  replace HX528 := HX528.thru hs819 rfl
  replace HS := HS.trans hs819 hc rfl
  refine hK_ _ _ ?_
  clear hK_ K_
  (try simp only [Act.put, List.setIfInBounds_toArray, ls0, ls1])
  refine al_end (by kernel_rfl) ?_
  (try simp only [ls0, ls1])
  refine hK530 _ _ ?_
  (try clear hK530 K530)
  refine wp_seq_k fun K820 hK820 => ?_
  refine wl_region ?_
  refine mv_ rfl ?_
  refine st (.pointer (some ⟨g0, 0, none⟩)) rfl rfl (xr_nilCheck _ rfl rfl) ?_
  refine st (.pointer (some ⟨g0, 2, none⟩)) rfl rfl (xr_fieldAddr _ _ rfl rfl (bx_field2 Try.underlying111 rfl rfl (by kernel_rfl))) ?_
  refine st (.int .i64 a0_2) rfl rfl (xr_load _ _ rfl rfl (load_cell Try.underlying3 rfl (bx_cell (HP0).2 2 rfl))) ?_
  simp only [ls0, ls1]
  refine st (.int .i64 (wrap64 (a0_2 + 1))) rfl rfl (xr_bin _ _ _ rfl rfl rfl (B.add_i64 _ _)) ?_
  refine st (.pointer (some ⟨g0, 0, none⟩)) rfl rfl (xr_nilCheck _ rfl rfl) ?_
  refine st (.pointer (some ⟨g0, 2, none⟩)) rfl rfl (xr_fieldAddr _ _ rfl rfl (bx_field2 Try.underlying111 rfl rfl (by kernel_rfl))) ?_
  refine bx_store (C := C815_) (z := 1) (g := g0) (j := 2) (tb := 111) (u := .int .i64 (wrap64 (a0_2 + 1))) (seg := [.int .i64 (wrap64 (a0_2 + 1))]) (xs := [.slice A0_0 l0_0.length c0_0, .slice A0_1 l0_1.length c0_1, .int .i64 a0_2, .int .i64 a0_3]) rfl rfl rfl rfl rfl rfl (by first | kernel_rfl | rfl) (by simp [Value.oneCell']) HP0 (by simp only [List.length_cons, List.length_nil]; omega) rfl ?_
  intro w821 HX822 hs823
  replace HP0_0 := HP0_0.thru hs823 rfl
  replace HP0_1 := HP0_1.thru hs823 rfl
  replace HX528 := HX528.thru hs823 rfl
  replace HX818 := HX818.thru hs823 rfl
  replace HS := HS.trans hs823 hc rfl
  (try simp only [ls0, ls1])
  refine wl_end ?_
  (try simp only [ls0, ls1])
  refine hK820 _ _ ?_
  (try clear hK820 K820)
  refine wp_seq_k fun K824 hK824 => ?_
  refine wp_seq_k fun K825 hK825 => ?_
  refine wl_region ?_
  refine mv_ rfl ?_
  have HP826 : Ft C815_ [0, 1] w821 (fun w_ => (Kd.ptr 111 k111).K w_ (some (⟨l0_0, l0_1, wrap64 (a0_2 + 1), a0_3⟩ : S111)) [.pointer (some ⟨g0, 0, none⟩)]) := ptr_mk (Ft.more (HX822.ft) rfl) (k111_mkF _ _ (⟨l0_0, l0_1, wrap64 (a0_2 + 1), a0_3⟩ : S111) HCP0_0 (Ft.more HP0_0 rfl) HCP0_1 (Ft.more HP0_1 rfl))
  obtain ⟨t827, A828, H⟩ := bnd H
  refine st_call #[.pointer (some ⟨g0, 0, none⟩)] rfl rfl Try.func43 (by kernel_rfl) rfl rfl (mp_ rfl) ?_
  refine (expr_Cursor_Peek.calls (.pointer (some ⟨g0, 0, none⟩)) (some (⟨l0_0, l0_1, wrap64 (a0_2 + 1), a0_3⟩ : S111) : Option S111) t827  (fun z_ => pal [(0, 0), (1, 0)] (C815_ z_)) w821 (fun _ => pal_lt rfl _) (Ft.arg HP826 rfl) A828).mono ?_
  rintro _ w830 ⟨C831, rfl, hs832⟩
  refine ⟨_, rfl, ?_⟩
  replace hs832 := Step.lift (U := [(0, 0)]) hs832 [] rfl rfl
  generalize up C815_ C831 w821.heap.size [(0, 0)] = C831_ at hs832
  replace HX822 := HX822.thru hs832 rfl
  replace HP0_0 := HP0_0.thru hs832 rfl
  replace HP0_1 := HP0_1.thru hs832 rfl
  replace HX528 := HX528.thru hs832 rfl
  replace HX818 := HX818.thru hs832 rfl
  replace HS := HS.trans hs832 hc rfl
  (try simp only [ls0, ls1])
  refine st (.bool (!decide (t827 = (⟨#[40]⟩ : ByteArray)))) rfl rfl (xr_bin _ _ _ rfl rfl rfl (B.neq_str _ _)) ?_
  refine wl_end ?_
  (try simp only [ls0, ls1])
  refine hK825 _ _ ?_
  (try clear hK825 K825)
  by_cases c833 : t827 = (⟨#[40]⟩ : ByteArray)
  ·rw [if_pos c833] at H
   (try rw [(decide_eq_true c833)])
   (try simp only [Bool.not_true, Bool.not_false])
   refine wp_cond_false rfl ?_
   refine wp_skip ?_
   (try simp only [ls0, ls1])
   refine hK824 _ _ ?_
   (try clear hK824 K824)
   refine wp_seq_k fun K834 hK834 => ?_
   refine wp_seq_k fun K835 hK835 => ?_
   refine wl_region ?_
   refine mv_ rfl ?_
   obtain ⟨⟨t836, t837, t838⟩, A839, H⟩ := bnd H
   (try dsimp only at H)
   refine st_call #[.pointer (some ⟨g0, 0, none⟩)] rfl rfl Try.func121 (by kernel_rfl) rfl rfl (mp_ rfl) ?_
   refine (expr_Cursor_down.calls g0 A0_0 c0_0 l0_0 A0_1 c0_1 l0_1 (wrap64 (a0_2 + 1)) a0_3 t836 t837 t838  (fun z_ => pal [(0, 0), (1, 1)] (C831_ z_)) w830 (fun _ => pal_lt rfl _) (Bx.arg HX822 rfl) (Ft.arg HP0_0 rfl) HCP0_0 (Ft.arg HP0_1 rfl) HCP0_1 A839).mono ?_
   rintro _ w841 ⟨C842, rfl, hs843, HX844⟩
   refine ⟨_, rfl, ?_⟩
   replace HX844 := Bx.res (U := [(0, 0), (1, 1)]) (j := 1) HX844 hs843 (by rfl) (by decide) rfl
   replace hs843 := Step.lift (U := [(0, 0), (1, 1)]) hs843 [1] rfl rfl
   generalize up C831_ C842 w830.heap.size [(0, 0), (1, 1)] = C842_ at HX844 hs843
   replace HP0_0 := HP0_0.thru hs843 rfl
   replace HP0_1 := HP0_1.thru hs843 rfl
   replace HX528 := HX528.thru hs843 rfl
   replace HX818 := HX818.thru hs843 rfl
   replace HS := HS.trans hs843 hc rfl
   (try simp only [ls0, ls1])
   refine as_ rfl ?_
   refine wl_end ?_
   (try simp only [ls0, ls1])
   refine hK835 _ _ ?_
   (try clear hK835 K835)
   refine wp_seq_k fun K845 hK845 => ?_
   refine wl_region ?_
   refine mv_ rfl ?_
   refine st (.bool (!decide (t836 = 0))) rfl rfl (xr_bin _ _ _ rfl rfl rfl (B.neq_i64 _ _)) ?_
   refine wl_end ?_
   (try simp only [ls0, ls1])
   refine hK845 _ _ ?_
   (try clear hK845 K845)
   by_cases c846 : t836 = 0
   ·rw [if_pos c846] at H
    (try rw [(decide_eq_true c846)])
    (try simp only [Bool.not_true, Bool.not_false])
    refine wp_cond_false rfl ?_
    refine wp_skip ?_
    (try simp only [ls0, ls1])
    refine hK834 _ _ ?_
    (try clear hK834 K834)
    refine wp_seq_k fun K847 hK847 => ?_
    refine wl_region ?_
    refine mv_ rfl ?_
    obtain ⟨⟨t848, t849, t850, t851, t852, t853, t854, t855, t856⟩, A857, H⟩ := bnd H
    (try dsimp only at H)
    refine st_call #[.pointer (some ⟨g0, 0, none⟩), .int .i64 1] rfl rfl Try.func82 (by kernel_rfl) rfl rfl (mp_ rfl) ?_
    refine (IH.expr_Cursor_binary g0 A0_0 c0_0 l0_0 A0_1 c0_1 l0_1 t837 t838 1 t848 t849 t850 t851 t852 t853 t854 t855 t856  (fun z_ => pal [(0, 0), (1, 1)] (C842_ z_)) w841 (fun _ => pal_lt rfl _) (Bx.arg HX844 rfl) (Ft.arg HP0_0 rfl) HCP0_0 (Ft.arg HP0_1 rfl) HCP0_1 A857).mono ?_
    rintro _ w859 ⟨C860, A862, cp863, rfl, hs861, HO864, HC865, HX866⟩
    refine ⟨_, rfl, ?_⟩
    replace HO864 := Ft.res (U := [(0, 0), (1, 1)]) HO864 hs861 [0] rfl rfl rfl
    replace HX866 := Bx.res (U := [(0, 0), (1, 1)]) (j := 1) HX866 hs861 (by rfl) (by decide) rfl
    replace hs861 := Step.lift (U := [(0, 0), (1, 1)]) hs861 [1] rfl rfl
    generalize up C842_ C860 w841.heap.size [(0, 0), (1, 1)] = C860_ at HO864 HX866 hs861
    replace HP0_0 := HP0_0.thru hs861 rfl
    replace HP0_1 := HP0_1.thru hs861 rfl
    replace HX528 := HX528.thru hs861 rfl
    replace HX818 := HX818.thru hs861 rfl
    replace HS := HS.trans hs861 hc rfl
    (try simp only [ls0, ls1])
    refine mv_ rfl ?_
    refine st (.agg #[.int .i64 t848, .int .i64 t849, .int .i64 t850, .string t851, .string t852, .slice A862 t853.length cp863]) rfl rfl (xr_extract (.tuple #[.agg #[.int .i64 t848, .int .i64 t849, .int .i64 t850, .string t851, .string t852, .slice A862 t853.length cp863], .int .i64 t854]) _ rfl rfl rfl) ?_
    refine st (.int .i64 t854) rfl rfl (xr_extract (.tuple #[.agg #[.int .i64 t848, .int .i64 t849, .int .i64 t850, .string t851, .string t852, .slice A862 t853.length cp863], .int .i64 t854]) _ rfl rfl rfl) ?_
    refine bx_new (C := C860_) 44 ([.int .i64 0, .int .i64 0, .int .i64 0, .string (⟨#[]⟩ : ByteArray), .string (⟨#[]⟩ : ByteArray), .slice none 0 0]) 13 rfl rfl (by first | (go_simp; done) | (go_simp; rfl)) ?_
    intro g867 w868 C869 HX870 hs871
    replace HX866 := HX866.thru hs871 rfl
    replace HP0_0 := HP0_0.thru hs871 rfl
    replace HP0_1 := HP0_1.thru hs871 rfl
    replace HX528 := HX528.thru hs871 rfl
    replace HX818 := HX818.thru hs871 rfl
    replace HO864 := HO864.thru hs871 rfl
    replace HS := HS.trans hs871 hc rfl
    (try simp only [ls0, ls1])
    refine bx_store (C := C869) (z := 13) (g := g867) (j := 0) (tb := 44) (u := .agg #[.int .i64 t848, .int .i64 t849, .int .i64 t850, .string t851, .string t852, .slice A862 t853.length cp863]) (seg := [.int .i64 t848, .int .i64 t849, .int .i64 t850, .string t851, .string t852, .slice A862 t853.length cp863]) (xs := [.int .i64 0, .int .i64 0, .int .i64 0, .string (⟨#[]⟩ : ByteArray), .string (⟨#[]⟩ : ByteArray), .slice none 0 0]) rfl rfl rfl rfl rfl rfl (by first | kernel_rfl | rfl) (by simp [Value.oneCell']) HX870 (by simp only [List.length_cons, List.length_nil]; omega) rfl ?_
    intro w872 HX873 hs874
    replace HX866 := HX866.thru hs874 rfl
    replace HP0_0 := HP0_0.thru hs874 rfl
    replace HP0_1 := HP0_1.thru hs874 rfl
    replace HX528 := HX528.thru hs874 rfl
    replace HX818 := HX818.thru hs874 rfl
    replace HO864 := HO864.thru hs874 rfl
    replace HS := HS.trans hs874 hc rfl
    (try simp only [ls0, ls1])
    refine as_ rfl ?_
    refine wl_end ?_
    (try simp only [ls0, ls1])
    refine hK847 _ _ ?_
    (try clear hK847 K847)
    refine wp_seq_k fun K875 hK875 => ?_
    refine wp_seq_k fun K876 hK876 => ?_
    refine wl_region ?_
    refine mv_ rfl ?_
    refine st (.bool (!decide (t854 = 0))) rfl rfl (xr_bin _ _ _ rfl rfl rfl (B.neq_i64 _ _)) ?_
    refine wl_end ?_
    (try simp only [ls0, ls1])
    refine hK876 _ _ ?_
    (try clear hK876 K876)
    by_cases c877 : t854 = 0
    ·rw [if_pos c877] at H
     (try rw [(decide_eq_true c877)])
     (try simp only [Bool.not_true, Bool.not_false])
     refine wp_cond_false rfl ?_
     refine wp_skip ?_
     (try simp only [ls0, ls1])
     refine hK875 _ _ ?_
     (try clear hK875 K875)
     refine wp_seq_k fun K878 hK878 => ?_
     have hj896 : ∀ (kq909 : Nat) (C897 : Nat → Nat) (w898 : World) (x900 : Bool) (x903 : Int) (g_ : Nat → Value), Step c w C897 w898 [1] → kq909 ≤ k → (Ft C897 [0] w898 (fun w_ => (Kd.int .u8).C w_ A0_0 l0_0.length l0_0)) → (Ft C897 [0] w898 (fun w_ => k28.C w_ A0_1 l0_1.length l0_1)) → (Bx C897 1 w898 g0 111 ([.slice A0_0 l0_0.length c0_0, .slice A0_1 l0_1.length c0_1, .int .i64 x903, .int .i64 t856])) → (Bx C897 11 w898 g525 44 ([.int .i64 0, .int .i64 0, .int .i64 0, .string (⟨#[]⟩ : ByteArray), .string (⟨#[]⟩ : ByteArray), .slice none 0 0])) → (Bx C897 12 w898 g805 44 ([.int .i64 6, .int .i64 t811, .int .i64 0, .string (⟨#[]⟩ : ByteArray), .string (⟨#[]⟩ : ByteArray), .slice none 0 0])) → (Ft C897 [0] w898 (fun w_ => k44.C w_ A862 t853.length t853)) → (Bx C897 13 w898 g867 44 ([.int .i64 t848, .int .i64 t849, .int .i64 t850, .string t851, .string t852, .slice A862 t853.length cp863])) → expr_Cursor_open.j1 r_ kq909 a0_2 l0_0 l0_1 t811 t848 t849 t850 t851 t852 t853 t856 x900 x903 = some (r1, r2, r3, r4, r5, r6, r7, r8, r9) → K878 ⟨#[.pointer (some ⟨g0, 0, none⟩), (g_ 1), .pointer (some ⟨g525, 0, none⟩), (g_ 3), .int .i64 a0_2, .pointer (some ⟨g805, 0, none⟩), (g_ 6), .pointer (some ⟨g867, 0, none⟩), (g_ 8), .bool x900, (g_ 10), (g_ 11), (g_ 12), (g_ 13), (g_ 14), (g_ 15), (g_ 16), (g_ 17), (g_ 18), (g_ 19), (g_ 20), (g_ 21), (g_ 22), (g_ 23), (g_ 24), (g_ 25), (g_ 26), (g_ 27), (g_ 28), (g_ 29), (g_ 30), (g_ 31), (g_ 32), (g_ 33), (g_ 34), (g_ 35), (g_ 36), (g_ 37), (g_ 38), (g_ 39), (g_ 40), (g_ 41), (g_ 42), (g_ 43), (g_ 44), (g_ 45), (g_ 46), (g_ 47), (g_ 48), (g_ 49), (g_ 50), (g_ 51), (g_ 52), (g_ 53), (g_ 54), (g_ 55), (g_ 56), (g_ 57), (g_ 58), (g_ 59), (g_ 60), (g_ 61), (g_ 62), (g_ 63), (g_ 64), (g_ 65), (g_ 66), (g_ 67), (g_ 68), (g_ 69), (g_ 70), (g_ 71), (g_ 72), (g_ 73), (g_ 74)], []⟩ w898 := by
      intro kq909 C897 w898 x900 x903 g_ HS899 hk910 HJ901 HJ902 HJ904 HJ905 HJ906 HJ907 HJ908 H
      cases kq909 with
      | zero => exact absurd H (by simp [expr_Cursor_open.j1])
      | succ k911 =>
       simp only [expr_Cursor_open.j1] at H
       refine hK878 _ _ ?_
       (try clear hK878)
       refine wp_seq_k fun K912 hK912 => ?_
       have hj927 : ∀ (kq941 : Nat) (C928 : Nat → Nat) (w929 : World) (x931 : Bool) (x934 : Int) (x937 : ByteArray) (g_ : Nat → Value), Step c w C928 w929 [1] → kq941 ≤ k911 → (Ft C928 [0] w929 (fun w_ => (Kd.int .u8).C w_ A0_0 l0_0.length l0_0)) → (Ft C928 [0] w929 (fun w_ => k28.C w_ A0_1 l0_1.length l0_1)) → (Bx C928 1 w929 g0 111 ([.slice A0_0 l0_0.length c0_0, .slice A0_1 l0_1.length c0_1, .int .i64 x934, .int .i64 t856])) → (Bx C928 11 w929 g525 44 ([.int .i64 0, .int .i64 0, .int .i64 0, .string (⟨#[]⟩ : ByteArray), .string (⟨#[]⟩ : ByteArray), .slice none 0 0])) → (Bx C928 12 w929 g805 44 ([.int .i64 6, .int .i64 t811, .int .i64 0, .string (⟨#[]⟩ : ByteArray), .string x937, .slice none 0 0])) → (Ft C928 [0] w929 (fun w_ => k44.C w_ A862 t853.length t853)) → (Bx C928 13 w929 g867 44 ([.int .i64 t848, .int .i64 t849, .int .i64 t850, .string t851, .string t852, .slice A862 t853.length cp863])) → expr_Cursor_open.j0 r_ kq941 a0_2 l0_0 l0_1 t811 t848 t849 t850 t851 t852 t853 t856 x931 x934 x937 = some (r1, r2, r3, r4, r5, r6, r7, r8, r9) → K912 ⟨#[.pointer (some ⟨g0, 0, none⟩), (g_ 1), .pointer (some ⟨g525, 0, none⟩), (g_ 3), .int .i64 a0_2, .pointer (some ⟨g805, 0, none⟩), (g_ 6), .pointer (some ⟨g867, 0, none⟩), (g_ 8), .bool x931, (g_ 10), (g_ 11), (g_ 12), (g_ 13), (g_ 14), (g_ 15), (g_ 16), (g_ 17), (g_ 18), (g_ 19), (g_ 20), (g_ 21), (g_ 22), (g_ 23), (g_ 24), (g_ 25), (g_ 26), (g_ 27), (g_ 28), (g_ 29), (g_ 30), (g_ 31), (g_ 32), (g_ 33), (g_ 34), (g_ 35), (g_ 36), (g_ 37), (g_ 38), (g_ 39), (g_ 40), (g_ 41), (g_ 42), (g_ 43), (g_ 44), (g_ 45), (g_ 46), (g_ 47), (g_ 48), (g_ 49), (g_ 50), (g_ 51), (g_ 52), (g_ 53), (g_ 54), (g_ 55), (g_ 56), (g_ 57), (g_ 58), (g_ 59), (g_ 60), (g_ 61), (g_ 62), (g_ 63), (g_ 64), (g_ 65), (g_ 66), (g_ 67), (g_ 68), (g_ 69), (g_ 70), (g_ 71), (g_ 72), (g_ 73), (g_ 74)], []⟩ w929 := by
        intro kq941 C928 w929 x931 x934 x937 g_ HS930 hk942 HJ932 HJ933 HJ935 HJ936 HJ938 HJ939 HJ940 H
        cases kq941 with
        | zero => exact absurd H (by simp [expr_Cursor_open.j0])
        | succ k943 =>
         simp only [expr_Cursor_open.j0] at H
         refine hK912 _ _ ?_
         (try clear hK912)
         refine wp_seq_k fun K944 hK944 => ?_
         refine wp_seq_k fun K945 hK945 => ?_
         refine wl_region ?_
         refine mv_ rfl ?_
         refine st (.bool (!x931)) rfl rfl (xr_un (.bool x931) _ rfl rfl (by first | rfl | (go_simp; done) | (go_simp; rfl) | (go_simp; exact i64_w _) | (go_simp; exact i32_w _))) ?_
         refine wl_end ?_
         (try simp only [ls0, ls1])
         refine hK945 _ _ ?_
         (try clear hK945 K945)
         by_cases c946 : x931 = true
         ·rw [if_pos c946] at H
          (try rw [c946])
          (try simp only [Bool.not_true, Bool.not_false])
          refine wp_cond_false rfl ?_
          refine wp_skip ?_
          (try simp only [ls0, ls1])
          refine hK944 _ _ ?_
          (try clear hK944 K944)
          refine wp_seq_k fun K947 hK947 => ?_
          refine wp_seq_k fun K948 hK948 => ?_
          refine wl_region ?_
          refine mv_ rfl ?_
          obtain ⟨⟨t949, t950, t951⟩, A952, H⟩ := bnd H
          (try dsimp only at H)
          refine st_call #[.pointer (some ⟨g0, 0, none⟩)] rfl rfl Try.func135 (by kernel_rfl) rfl rfl (mp_ rfl) ?_
          refine (expr_Cursor_end.calls g0 A0_0 c0_0 l0_0 A0_1 c0_1 l0_1 x934 t856 t949 t950 t951  (fun z_ => pal [(0, 0), (1, 1)] (C928 z_)) w929 (fun _ => pal_lt rfl _) (Bx.arg HJ935 rfl) (Ft.arg HJ932 rfl) HCP0_0 (Ft.arg HJ933 rfl) HCP0_1 A952).mono ?_
          rintro _ w954 ⟨C955, rfl, hs956, HX957⟩
          refine ⟨_, rfl, ?_⟩
          replace HX957 := Bx.res (U := [(0, 0), (1, 1)]) (j := 1) HX957 hs956 (by rfl) (by decide) rfl
          replace hs956 := Step.lift (U := [(0, 0), (1, 1)]) hs956 [1] rfl rfl
          generalize up C928 C955 w929.heap.size [(0, 0), (1, 1)] = C955_ at HX957 hs956
          replace HJ932 := HJ932.thru hs956 rfl
          replace HJ933 := HJ933.thru hs956 rfl
          replace HJ936 := HJ936.thru hs956 rfl
          replace HJ938 := HJ938.thru hs956 rfl
          replace HJ940 := HJ940.thru hs956 rfl
          replace HJ939 := HJ939.thru hs956 rfl
          replace HS930 := HS930.trans hs956 hc rfl
          (try simp only [ls0, ls1])
          refine as_ rfl ?_
          refine wl_end ?_
          (try simp only [ls0, ls1])
          refine hK948 _ _ ?_
          (try clear hK948 K948)
          refine wp_seq_k fun K958 hK958 => ?_
          refine wl_region ?_
          refine mv_ rfl ?_
          refine st (.bool (!decide (t949 = 0))) rfl rfl (xr_bin _ _ _ rfl rfl rfl (B.neq_i64 _ _)) ?_
          refine wl_end ?_
          (try simp only [ls0, ls1])
          refine hK958 _ _ ?_
          (try clear hK958 K958)
          by_cases c959 : t949 = 0
          ·rw [if_pos c959] at H
           (try rw [(decide_eq_true c959)])
           (try simp only [Bool.not_true, Bool.not_false])
           refine wp_cond_false rfl ?_
           refine wp_skip ?_
           (try simp only [ls0, ls1])
           refine hK947 _ _ ?_
           (try clear hK947 K947)
           refine wp_seq_k fun K960 hK960 => ?_
           refine wl_region ?_
           refine st (.agg #[.int .i64 t848, .int .i64 t849, .int .i64 t850, .string t851, .string t852, .slice A862 t853.length cp863]) rfl rfl (xr_load _ _ rfl rfl (load_agg (cs := [.int .i64 t848, .int .i64 t849, .int .i64 t850, .string t851, .string t852, .slice A862 t853.length cp863]) Try.underlying44 rfl (by kernel_rfl) (bx_cells (HJ940).2 0 rfl))) ?_
           obtain ⟨y961, A962, H⟩ := bnd H
           refine Own.lit k44 (C := C955_) (i := 14) rfl 44 rfl (xs := [(⟨t848, t849, t850, t851, t852, t853⟩ : S44)]) (inner := [.int .i64 t848, .int .i64 t849, .int .i64 t850, .string t851, .string t852, .slice A862 t853.length cp863]) (by first | (go_simp; done) | (go_simp; rfl)) (reps_cons (k44_mkF _ _ (⟨t848, t849, t850, t851, t852, t853⟩ : S44) HC865 (Kd.F_mono (d := k44) HJ939 (fun k_ h_ => by simpa using h_))) rfl (Reps.none _ _)) (by simp only [List.length_cons, List.length_nil]; omega) (Option.some.inj A962) ?_
           intro A963 cp964 w965 C966 HO967 HC968 hs969
           replace HX957 := HX957.thru hs969 rfl
           replace HJ932 := HJ932.thru hs969 rfl
           replace HJ933 := HJ933.thru hs969 rfl
           replace HJ936 := HJ936.thru hs969 rfl
           replace HJ938 := HJ938.thru hs969 rfl
           replace HJ940 := HJ940.thru hs969 rfl
           replace HJ939 := HJ939.thru hs969 rfl
           replace HS930 := HS930.trans hs969 hc rfl
           (try simp only [ls0, ls1])
           refine st (.pointer (some ⟨g805, 5, none⟩)) rfl rfl (xr_fieldAddr _ _ rfl rfl (bx_field2 Try.underlying44 rfl rfl (by kernel_rfl))) ?_
           refine bx_store (C := C966) (z := 12) (g := g805) (j := 5) (tb := 44) (u := .slice A963 y961.length cp964) (seg := [.slice A963 y961.length cp964]) (xs := [.int .i64 6, .int .i64 t811, .int .i64 0, .string (⟨#[]⟩ : ByteArray), .string x937, .slice none 0 0]) rfl rfl rfl rfl rfl rfl (by first | kernel_rfl | rfl) (by simp [Value.oneCell']) HJ938 (by simp only [List.length_cons, List.length_nil]; omega) rfl ?_
           intro w970 HX971 hs972
           replace HX957 := HX957.thru hs972 rfl
           replace HJ932 := HJ932.thru hs972 rfl
           replace HJ933 := HJ933.thru hs972 rfl
           replace HJ936 := HJ936.thru hs972 rfl
           replace HO967 := HO967.thru hs972 rfl
           replace HJ940 := HJ940.thru hs972 rfl
           replace HJ939 := HJ939.thru hs972 rfl
           replace HS930 := HS930.trans hs972 hc rfl
           (try simp only [ls0, ls1])
           refine wl_end ?_
           (try simp only [ls0, ls1])
           refine hK960 _ _ ?_
           (try clear hK960 K960)
           refine wp_seq_k fun K973 hK973 => ?_
           refine wl_region ?_
           refine mv_ rfl ?_
           refine st (.agg #[.int .i64 6, .int .i64 t811, .int .i64 0, .string (⟨#[]⟩ : ByteArray), .string x937, .slice A963 y961.length cp964]) rfl rfl (xr_load _ _ rfl rfl (load_agg (cs := [.int .i64 6, .int .i64 t811, .int .i64 0, .string (⟨#[]⟩ : ByteArray), .string x937, .slice A963 y961.length cp964]) Try.underlying44 rfl (by kernel_rfl) (bx_cells (HX971).2 0 rfl))) ?_
           refine mv_ rfl ?_
           replace HX957 := Bx.recol (a := 14) (b := 0) HX957 (by decide)
           replace HJ932 := Ft.recol (a := 14) (b := 0) HJ932 (.inl rfl)
           replace HJ933 := Ft.recol (a := 14) (b := 0) HJ933 (.inl rfl)
           replace HJ936 := Bx.recol (a := 14) (b := 0) HJ936 (by decide)
           replace HX971 := Bx.recol (a := 14) (b := 0) HX971 (by decide)
           have HR974 := Ft.recolor (a := 14) (b := 0) (HO967.ft) [0] rfl
           replace HJ940 := Bx.recol (a := 14) (b := 0) HJ940 (by decide)
           replace HJ939 := Ft.recol (a := 14) (b := 0) HJ939 (.inl rfl)
           replace HS930 := Step.recol (a := 14) (b := 0) HS930 hc (by decide)
           obtain ⟨⟨t975, t976, t977, t978, t979, t980, t981, t982⟩, A983, H⟩ := bnd H
           (try dsimp only at H)
           refine st_call #[.pointer (some ⟨g0, 0, none⟩), .agg #[.int .i64 6, .int .i64 t811, .int .i64 0, .string (⟨#[]⟩ : ByteArray), .string x937, .slice A963 y961.length cp964], .int .i64 a0_2] rfl rfl Try.func104 (by kernel_rfl) rfl rfl (mp_ rfl) ?_
           refine (expr_Cursor_held.calls k943 g0 A0_0 c0_0 l0_0 A0_1 c0_1 l0_1 t950 t951 6 t811 0 (⟨#[]⟩ : ByteArray) x937 A963 cp964 y961 a0_2 t975 t976 t977 t978 t979 t980 t981 t982  (fun z_ => pal [(0, 0), (1, 1)] ((recol C966 14 0) z_)) w970 (fun _ => pal_lt rfl _) (Bx.arg HX957 rfl) (Ft.arg HJ932 rfl) HCP0_0 (Ft.arg HJ933 rfl) HCP0_1 (Ft.arg HR974 rfl) HC968 A983).mono ?_
           rintro _ w985 ⟨C986, A988, cp989, rfl, hs987, HO990, HC991, HX992⟩
           refine ⟨_, rfl, ?_⟩
           replace HO990 := Ft.res (U := [(0, 0), (1, 1)]) HO990 hs987 [0] rfl rfl rfl
           replace HX992 := Bx.res (U := [(0, 0), (1, 1)]) (j := 1) HX992 hs987 (by rfl) (by decide) rfl
           replace hs987 := Step.lift (U := [(0, 0), (1, 1)]) hs987 [1] rfl rfl
           generalize up (recol C966 14 0) C986 w970.heap.size [(0, 0), (1, 1)] = C986_ at HO990 HX992 hs987
           replace HJ932 := HJ932.thru hs987 rfl
           replace HJ933 := HJ933.thru hs987 rfl
           replace HJ936 := HJ936.thru hs987 rfl
           replace HX971 := HX971.thru hs987 rfl
           replace HR974 := HR974.thru hs987 rfl
           replace HJ940 := HJ940.thru hs987 rfl
           replace HJ939 := HJ939.thru hs987 rfl
           replace HS930 := HS930.trans hs987 hc rfl
           (try simp only [ls0, ls1])
           refine st (.agg #[.int .i64 t975, .int .i64 t976, .int .i64 t977, .string t978, .string t979, .slice A988 t980.length cp989]) rfl rfl (xr_extract (.tuple #[.agg #[.int .i64 t975, .int .i64 t976, .int .i64 t977, .string t978, .string t979, .slice A988 t980.length cp989], .int .i64 t981]) _ rfl rfl rfl) ?_
           refine st (.int .i64 t981) rfl rfl (xr_extract (.tuple #[.agg #[.int .i64 t975, .int .i64 t976, .int .i64 t977, .string t978, .string t979, .slice A988 t980.length cp989], .int .i64 t981]) _ rfl rfl rfl) ?_
           refine bx_store (C := C986_) (z := 11) (g := g525) (j := 0) (tb := 44) (u := .agg #[.int .i64 t975, .int .i64 t976, .int .i64 t977, .string t978, .string t979, .slice A988 t980.length cp989]) (seg := [.int .i64 t975, .int .i64 t976, .int .i64 t977, .string t978, .string t979, .slice A988 t980.length cp989]) (xs := [.int .i64 0, .int .i64 0, .int .i64 0, .string (⟨#[]⟩ : ByteArray), .string (⟨#[]⟩ : ByteArray), .slice none 0 0]) rfl rfl rfl rfl rfl rfl (by first | kernel_rfl | rfl) (by simp [Value.oneCell']) HJ936 (by simp only [List.length_cons, List.length_nil]; omega) rfl ?_
           intro w993 HX994 hs995
           replace HX992 := HX992.thru hs995 rfl
           replace HJ932 := HJ932.thru hs995 rfl
           replace HJ933 := HJ933.thru hs995 rfl
           replace HO990 := HO990.thru hs995 rfl
           replace HX971 := HX971.thru hs995 rfl
           replace HR974 := HR974.thru hs995 rfl
           replace HJ940 := HJ940.thru hs995 rfl
           replace HJ939 := HJ939.thru hs995 rfl
           replace HS930 := HS930.trans hs995 hc rfl
           (try simp only [ls0, ls1])
           refine as_ rfl ?_
           refine wl_end ?_
           (try simp only [ls0, ls1])
           refine hK973 _ _ ?_
           (try clear hK973 K973)
           refine wp_ret ?_
           (try simp only [Exit.inBlock, Exit.then, Exit.noGoto])
           (try simp only [ls0, ls1])
           simp only [Option.some.injEq, Prod.mk.injEq] at H
           obtain ⟨rfl, rfl, rfl, rfl, rfl, rfl, rfl, rfl, rfl⟩ := H
           refine bodyPost_ret (res_ct rfl rfl (load_of (load_agg (cs := [.int .i64 t975, .int .i64 t976, .int .i64 t977, .string t978, .string t979, .slice A988 t980.length cp989]) Try.underlying44 rfl (by kernel_rfl) (bx_cells (HX994).2 0 rfl)))) rfl ?_
           exact ⟨_, A988, cp989, rfl, HS930, HO990, HC991, HX992⟩
          rw [if_neg c959] at H
          (try rw [(decide_eq_false c959)])
          (try simp only [Bool.not_true, Bool.not_false])
          refine wp_cond_true rfl ?_
          refine wp_seq_k fun K996 hK996 => ?_
          refine wl_region ?_
          refine st (.agg #[.int .i64 0, .int .i64 0, .int .i64 0, .string (⟨#[]⟩ : ByteArray), .string (⟨#[]⟩ : ByteArray), .slice none 0 0]) rfl rfl (xr_build #[] (.agg #[.int .i64 0, .int .i64 0, .int .i64 0, .string (⟨#[]⟩ : ByteArray), .string (⟨#[]⟩ : ByteArray), .slice none 0 0]) rfl (mp_ rfl) (by first | rfl | (go_simp; done) | (go_simp; rfl) | (go_simp; exact i64_w _) | (go_simp; exact i32_w _))) ?_
          refine mv_ rfl ?_
          refine bx_store (C := C955_) (z := 11) (g := g525) (j := 0) (tb := 44) (u := .agg #[.int .i64 0, .int .i64 0, .int .i64 0, .string (⟨#[]⟩ : ByteArray), .string (⟨#[]⟩ : ByteArray), .slice none 0 0]) (seg := [.int .i64 0, .int .i64 0, .int .i64 0, .string (⟨#[]⟩ : ByteArray), .string (⟨#[]⟩ : ByteArray), .slice none 0 0]) (xs := [.int .i64 0, .int .i64 0, .int .i64 0, .string (⟨#[]⟩ : ByteArray), .string (⟨#[]⟩ : ByteArray), .slice none 0 0]) rfl rfl rfl rfl rfl rfl (by first | kernel_rfl | rfl) (by simp [Value.oneCell']) HJ936 (by simp only [List.length_cons, List.length_nil]; omega) rfl ?_
          intro w997 HX998 hs999
          replace HX957 := HX957.thru hs999 rfl
          replace HJ932 := HJ932.thru hs999 rfl
          replace HJ933 := HJ933.thru hs999 rfl
          replace HJ938 := HJ938.thru hs999 rfl
          replace HJ940 := HJ940.thru hs999 rfl
          replace HJ939 := HJ939.thru hs999 rfl
          replace HS930 := HS930.trans hs999 hc rfl
          (try simp only [ls0, ls1])
          refine as_ rfl ?_
          refine wl_end ?_
          (try simp only [ls0, ls1])
          refine hK996 _ _ ?_
          (try clear hK996 K996)
          refine wp_ret ?_
          (try simp only [Exit.inBlock, Exit.then, Exit.noGoto])
          (try simp only [ls0, ls1])
          simp only [Option.some.injEq, Prod.mk.injEq] at H
          obtain ⟨rfl, rfl, rfl, rfl, rfl, rfl, rfl, rfl, rfl⟩ := H
          refine bodyPost_ret (res_ct rfl rfl (load_of (load_agg (cs := [.int .i64 0, .int .i64 0, .int .i64 0, .string (⟨#[]⟩ : ByteArray), .string (⟨#[]⟩ : ByteArray), .slice none 0 0]) Try.underlying44 rfl (by kernel_rfl) (bx_cells (HX998).2 0 rfl)))) rfl ?_
          exact ⟨_, none, 0, rfl, HS930, (Kd.F_nil _ _ _), (Nat.le_refl 0), HX957⟩
         rw [if_neg c946] at H
         (try rw [(Bool.eq_false_iff.mpr c946)])
         (try simp only [Bool.not_true, Bool.not_false])
         refine wp_cond_true rfl ?_
         refine wp_seq_k fun K1000 hK1000 => ?_
         refine wl_region ?_
         refine st (.agg #[.int .i64 0, .int .i64 0, .int .i64 0, .string (⟨#[]⟩ : ByteArray), .string (⟨#[]⟩ : ByteArray), .slice none 0 0]) rfl rfl (xr_build #[] (.agg #[.int .i64 0, .int .i64 0, .int .i64 0, .string (⟨#[]⟩ : ByteArray), .string (⟨#[]⟩ : ByteArray), .slice none 0 0]) rfl (mp_ rfl) (by first | rfl | (go_simp; done) | (go_simp; rfl) | (go_simp; exact i64_w _) | (go_simp; exact i32_w _))) ?_
         refine bx_store (C := C928) (z := 11) (g := g525) (j := 0) (tb := 44) (u := .agg #[.int .i64 0, .int .i64 0, .int .i64 0, .string (⟨#[]⟩ : ByteArray), .string (⟨#[]⟩ : ByteArray), .slice none 0 0]) (seg := [.int .i64 0, .int .i64 0, .int .i64 0, .string (⟨#[]⟩ : ByteArray), .string (⟨#[]⟩ : ByteArray), .slice none 0 0]) (xs := [.int .i64 0, .int .i64 0, .int .i64 0, .string (⟨#[]⟩ : ByteArray), .string (⟨#[]⟩ : ByteArray), .slice none 0 0]) rfl rfl rfl rfl rfl rfl (by first | kernel_rfl | rfl) (by simp [Value.oneCell']) HJ936 (by simp only [List.length_cons, List.length_nil]; omega) rfl ?_
         intro w1001 HX1002 hs1003
         replace HJ935 := HJ935.thru hs1003 rfl
         replace HJ932 := HJ932.thru hs1003 rfl
         replace HJ933 := HJ933.thru hs1003 rfl
         replace HJ938 := HJ938.thru hs1003 rfl
         replace HJ940 := HJ940.thru hs1003 rfl
         replace HJ939 := HJ939.thru hs1003 rfl
         replace HS930 := HS930.trans hs1003 hc rfl
         (try simp only [ls0, ls1])
         refine st (.int .i64 11) rfl rfl (xr_assign _ rfl rfl) ?_
         refine wl_end ?_
         (try simp only [ls0, ls1])
         refine hK1000 _ _ ?_
         (try clear hK1000 K1000)
         refine wp_ret ?_
         (try simp only [Exit.inBlock, Exit.then, Exit.noGoto])
         (try simp only [ls0, ls1])
         simp only [Option.some.injEq, Prod.mk.injEq] at H
         obtain ⟨rfl, rfl, rfl, rfl, rfl, rfl, rfl, rfl, rfl⟩ := H
         refine bodyPost_ret (res_ct rfl rfl (load_of (load_agg (cs := [.int .i64 0, .int .i64 0, .int .i64 0, .string (⟨#[]⟩ : ByteArray), .string (⟨#[]⟩ : ByteArray), .slice none 0 0]) Try.underlying44 rfl (by kernel_rfl) (bx_cells (HX1002).2 0 rfl)))) rfl ?_
         exact ⟨_, none, 0, rfl, HS930, (Kd.F_nil _ _ _), (Nat.le_refl 0), HJ935⟩
       refine wp_seq_k fun K1004 hK1004 => ?_
       refine wl_region ?_
       refine mv_ rfl ?_
       refine wl_end ?_
       (try simp only [ls0, ls1])
       refine hK1004 _ _ ?_
       (try clear hK1004 K1004)
       by_cases c1005 : x900 = true
       ·rw [if_pos c1005] at H
        (try rw [c1005])
        refine wp_cond_true rfl ?_
        refine wl_region ?_
        refine mv_ rfl ?_
        obtain ⟨⟨t1006, t1007, t1008⟩, A1009, H⟩ := bnd H
        (try dsimp only at H)
        refine st_call #[.pointer (some ⟨g0, 0, none⟩)] rfl rfl Try.func49 (by kernel_rfl) rfl rfl (mp_ rfl) ?_
        refine (expr_Cursor_Ident.calls k911 g0 A0_0 c0_0 l0_0 A0_1 c0_1 l0_1 x903 t856 t1006 t1007 t1008  (fun z_ => pal [(0, 0), (1, 1)] (C897 z_)) w898 (fun _ => pal_lt rfl _) (Bx.arg HJ904 rfl) (Ft.arg HJ901 rfl) HCP0_0 (Ft.arg HJ902 rfl) HCP0_1 A1009).mono ?_
        rintro _ w1011 ⟨C1012, rfl, hs1013, HX1014⟩
        refine ⟨_, rfl, ?_⟩
        replace HX1014 := Bx.res (U := [(0, 0), (1, 1)]) (j := 1) HX1014 hs1013 (by rfl) (by decide) rfl
        replace hs1013 := Step.lift (U := [(0, 0), (1, 1)]) hs1013 [1] rfl rfl
        generalize up C897 C1012 w898.heap.size [(0, 0), (1, 1)] = C1012_ at HX1014 hs1013
        replace HJ901 := HJ901.thru hs1013 rfl
        replace HJ902 := HJ902.thru hs1013 rfl
        replace HJ905 := HJ905.thru hs1013 rfl
        replace HJ906 := HJ906.thru hs1013 rfl
        replace HJ908 := HJ908.thru hs1013 rfl
        replace HJ907 := HJ907.thru hs1013 rfl
        replace HS899 := HS899.trans hs1013 hc rfl
        (try simp only [ls0, ls1])
        refine mv_ rfl ?_
        refine st (.string t1006) rfl rfl (xr_extract (.tuple #[.string t1006, .bool t1007]) _ rfl rfl rfl) ?_
        refine st (.bool t1007) rfl rfl (xr_extract (.tuple #[.string t1006, .bool t1007]) _ rfl rfl rfl) ?_
        refine st (.pointer (some ⟨g805, 4, none⟩)) rfl rfl (xr_fieldAddr _ _ rfl rfl (bx_field2 Try.underlying44 rfl rfl (by kernel_rfl))) ?_
        simp only [ls0, ls1]
        refine bx_store (C := C1012_) (z := 12) (g := g805) (j := 4) (tb := 44) (u := .string t1006) (seg := [.string t1006]) (xs := [.int .i64 6, .int .i64 t811, .int .i64 0, .string (⟨#[]⟩ : ByteArray), .string (⟨#[]⟩ : ByteArray), .slice none 0 0]) rfl rfl rfl rfl rfl rfl (by first | kernel_rfl | rfl) (by simp [Value.oneCell']) HJ906 (by simp only [List.length_cons, List.length_nil]; omega) rfl ?_
        intro w1015 HX1016 hs1017
        replace HX1014 := HX1014.thru hs1017 rfl
        replace HJ901 := HJ901.thru hs1017 rfl
        replace HJ902 := HJ902.thru hs1017 rfl
        replace HJ905 := HJ905.thru hs1017 rfl
        replace HJ908 := HJ908.thru hs1017 rfl
        replace HJ907 := HJ907.thru hs1017 rfl
        replace HS899 := HS899.trans hs1017 hc rfl
        (try simp only [ls0, ls1])
        refine as_ rfl ?_
        refine wl_end ?_
        (try simp only [ls0, ls1])
        exact jmp (fun g_ => hj927 _ _ _ (t1007) (t1008) (t1006) g_ HS899 (by omega) HJ901 HJ902 HX1014 HJ905 HX1016 HJ907 HJ908 H) rfl
       rw [if_neg c1005] at H
       (try rw [(Bool.eq_false_iff.mpr c1005)])
       refine wp_cond_false rfl ?_
       refine wp_skip ?_
       (try simp only [ls0, ls1])
       exact jmp (fun g_ => hj927 _ _ _ (false) (x903) ((⟨#[]⟩ : ByteArray)) g_ HS899 (by omega) HJ901 HJ902 HJ904 HJ905 HJ906 HJ907 HJ908 H) rfl
     refine wl_region ?_
     refine mv_ rfl ?_
     obtain ⟨⟨t1018, t1019⟩, A1020, H⟩ := bnd H
     (try dsimp only at H)
     refine st_call #[.pointer (some ⟨g0, 0, none⟩), .string (⟨#[44]⟩ : ByteArray)] rfl rfl Try.func48 (by kernel_rfl) rfl rfl (mp_ rfl) ?_
     refine (expr_Cursor_Take.calls g0 A0_0 c0_0 l0_0 A0_1 c0_1 l0_1 t855 t856 (⟨#[44]⟩ : ByteArray) t1018 t1019  (fun z_ => pal [(0, 0), (1, 1)] (C869 z_)) w872 (fun _ => pal_lt rfl _) (Bx.arg HX866 rfl) (Ft.arg HP0_0 rfl) HCP0_0 (Ft.arg HP0_1 rfl) HCP0_1 A1020).mono ?_
     rintro _ w1022 ⟨C1023, rfl, hs1024, HX1025⟩
     refine ⟨_, rfl, ?_⟩
     replace HX1025 := Bx.res (U := [(0, 0), (1, 1)]) (j := 1) HX1025 hs1024 (by rfl) (by decide) rfl
     replace hs1024 := Step.lift (U := [(0, 0), (1, 1)]) hs1024 [1] rfl rfl
     generalize up C869 C1023 w872.heap.size [(0, 0), (1, 1)] = C1023_ at HX1025 hs1024
     replace HP0_0 := HP0_0.thru hs1024 rfl
     replace HP0_1 := HP0_1.thru hs1024 rfl
     replace HX528 := HX528.thru hs1024 rfl
     replace HX818 := HX818.thru hs1024 rfl
     replace HO864 := HO864.thru hs1024 rfl
     replace HX873 := HX873.thru hs1024 rfl
     replace HS := HS.trans hs1024 hc rfl
     (try simp only [ls0, ls1])
     refine mv_ rfl ?_
     by_cases c1026 : t1018 = true
     ·rw [if_pos c1026] at H
      (try rw [c1026])
      refine on_guard (guard_on 2 true 46 rfl rfl rfl) ?_
      refine mv_ rfl ?_
      refine on_guard (guard_on 2 true 46 rfl rfl rfl) ?_
      obtain ⟨⟨t1027, t1028⟩, A1029, H⟩ := bnd H
      (try dsimp only at H)
      refine st_call #[.pointer (some ⟨g0, 0, none⟩), .string (⟨#[64]⟩ : ByteArray)] rfl rfl Try.func48 (by kernel_rfl) rfl rfl (mp_ rfl) ?_
      refine (expr_Cursor_Take.calls g0 A0_0 c0_0 l0_0 A0_1 c0_1 l0_1 t1019 t856 (⟨#[64]⟩ : ByteArray) t1027 t1028  (fun z_ => pal [(0, 0), (1, 1)] (C1023_ z_)) w1022 (fun _ => pal_lt rfl _) (Bx.arg HX1025 rfl) (Ft.arg HP0_0 rfl) HCP0_0 (Ft.arg HP0_1 rfl) HCP0_1 A1029).mono ?_
      rintro _ w1031 ⟨C1032, rfl, hs1033, HX1034⟩
      refine ⟨_, rfl, ?_⟩
      replace HX1034 := Bx.res (U := [(0, 0), (1, 1)]) (j := 1) HX1034 hs1033 (by rfl) (by decide) rfl
      replace hs1033 := Step.lift (U := [(0, 0), (1, 1)]) hs1033 [1] rfl rfl
      generalize up C1023_ C1032 w1022.heap.size [(0, 0), (1, 1)] = C1032_ at HX1034 hs1033
      replace HP0_0 := HP0_0.thru hs1033 rfl
      replace HP0_1 := HP0_1.thru hs1033 rfl
      replace HX528 := HX528.thru hs1033 rfl
      replace HX818 := HX818.thru hs1033 rfl
      replace HO864 := HO864.thru hs1033 rfl
      replace HX873 := HX873.thru hs1033 rfl
      replace HS := HS.trans hs1033 hc rfl
      (try simp only [ls0, ls1])
      refine st (.bool t1027) rfl rfl (xr_pick true _ rfl rfl rfl) ?_
      refine as_ rfl ?_
      refine wl_end ?_
      (try simp only [ls0, ls1])
      exact jmp (fun g_ => hj896 _ _ _ (t1027) (t1028) g_ HS (by omega) HP0_0 HP0_1 HX1034 HX528 HX818 HO864 HX873 H) rfl
     rw [if_neg c1026] at H
     (try rw [(Bool.eq_false_iff.mpr c1026)])
     refine sk_guard (guard_off 2 true 46 rfl rfl false (by decide) rfl) rfl ?_
     refine sk_guard (guard_off 2 true 46 rfl rfl false (by decide) rfl) rfl ?_
     refine st (.bool false) rfl rfl (xr_pick false _ rfl rfl rfl) ?_
     refine as_ rfl ?_
     simp only [ls0, ls1]
     refine wl_end ?_
     (try simp only [ls0, ls1])
     exact jmp (fun g_ => hj896 _ _ _ (false) (t1019) g_ HS (by omega) HP0_0 HP0_1 HX1025 HX528 HX818 HO864 HX873 H) rfl
    rw [if_neg c877] at H
    (try rw [(decide_eq_false c877)])
    (try simp only [Bool.not_true, Bool.not_false])
    refine wp_cond_true rfl ?_
    refine wp_seq_k fun K1035 hK1035 => ?_
    refine wl_region ?_
    refine st (.agg #[.int .i64 0, .int .i64 0, .int .i64 0, .string (⟨#[]⟩ : ByteArray), .string (⟨#[]⟩ : ByteArray), .slice none 0 0]) rfl rfl (xr_build #[] (.agg #[.int .i64 0, .int .i64 0, .int .i64 0, .string (⟨#[]⟩ : ByteArray), .string (⟨#[]⟩ : ByteArray), .slice none 0 0]) rfl (mp_ rfl) (by first | rfl | (go_simp; done) | (go_simp; rfl) | (go_simp; exact i64_w _) | (go_simp; exact i32_w _))) ?_
    refine mv_ rfl ?_
    refine bx_store (C := C869) (z := 11) (g := g525) (j := 0) (tb := 44) (u := .agg #[.int .i64 0, .int .i64 0, .int .i64 0, .string (⟨#[]⟩ : ByteArray), .string (⟨#[]⟩ : ByteArray), .slice none 0 0]) (seg := [.int .i64 0, .int .i64 0, .int .i64 0, .string (⟨#[]⟩ : ByteArray), .string (⟨#[]⟩ : ByteArray), .slice none 0 0]) (xs := [.int .i64 0, .int .i64 0, .int .i64 0, .string (⟨#[]⟩ : ByteArray), .string (⟨#[]⟩ : ByteArray), .slice none 0 0]) rfl rfl rfl rfl rfl rfl (by first | kernel_rfl | rfl) (by simp [Value.oneCell']) HX528 (by simp only [List.length_cons, List.length_nil]; omega) rfl ?_
    intro w1036 HX1037 hs1038
    replace HX866 := HX866.thru hs1038 rfl
    replace HP0_0 := HP0_0.thru hs1038 rfl
    replace HP0_1 := HP0_1.thru hs1038 rfl
    replace HX818 := HX818.thru hs1038 rfl
    replace HO864 := HO864.thru hs1038 rfl
    replace HX873 := HX873.thru hs1038 rfl
    replace HS := HS.trans hs1038 hc rfl
    (try simp only [ls0, ls1])
    refine as_ rfl ?_
    refine wl_end ?_
    (try simp only [ls0, ls1])
    refine hK1035 _ _ ?_
    (try clear hK1035 K1035)
    refine wp_ret ?_
    (try simp only [Exit.inBlock, Exit.then, Exit.noGoto])
    (try simp only [ls0, ls1])
    simp only [Option.some.injEq, Prod.mk.injEq] at H
    obtain ⟨rfl, rfl, rfl, rfl, rfl, rfl, rfl, rfl, rfl⟩ := H
    refine bodyPost_ret (res_ct rfl rfl (load_of (load_agg (cs := [.int .i64 0, .int .i64 0, .int .i64 0, .string (⟨#[]⟩ : ByteArray), .string (⟨#[]⟩ : ByteArray), .slice none 0 0]) Try.underlying44 rfl (by kernel_rfl) (bx_cells (HX1037).2 0 rfl)))) rfl ?_
    exact ⟨_, none, 0, rfl, HS, (Kd.F_nil _ _ _), (Nat.le_refl 0), HX866⟩
   rw [if_neg c846] at H
   (try rw [(decide_eq_false c846)])
   (try simp only [Bool.not_true, Bool.not_false])
   refine wp_cond_true rfl ?_
   refine wp_seq_k fun K1039 hK1039 => ?_
   refine wl_region ?_
   refine st (.agg #[.int .i64 0, .int .i64 0, .int .i64 0, .string (⟨#[]⟩ : ByteArray), .string (⟨#[]⟩ : ByteArray), .slice none 0 0]) rfl rfl (xr_build #[] (.agg #[.int .i64 0, .int .i64 0, .int .i64 0, .string (⟨#[]⟩ : ByteArray), .string (⟨#[]⟩ : ByteArray), .slice none 0 0]) rfl (mp_ rfl) (by first | rfl | (go_simp; done) | (go_simp; rfl) | (go_simp; exact i64_w _) | (go_simp; exact i32_w _))) ?_
   refine mv_ rfl ?_
   refine bx_store (C := C842_) (z := 11) (g := g525) (j := 0) (tb := 44) (u := .agg #[.int .i64 0, .int .i64 0, .int .i64 0, .string (⟨#[]⟩ : ByteArray), .string (⟨#[]⟩ : ByteArray), .slice none 0 0]) (seg := [.int .i64 0, .int .i64 0, .int .i64 0, .string (⟨#[]⟩ : ByteArray), .string (⟨#[]⟩ : ByteArray), .slice none 0 0]) (xs := [.int .i64 0, .int .i64 0, .int .i64 0, .string (⟨#[]⟩ : ByteArray), .string (⟨#[]⟩ : ByteArray), .slice none 0 0]) rfl rfl rfl rfl rfl rfl (by first | kernel_rfl | rfl) (by simp [Value.oneCell']) HX528 (by simp only [List.length_cons, List.length_nil]; omega) rfl ?_
   intro w1040 HX1041 hs1042
   replace HX844 := HX844.thru hs1042 rfl
   replace HP0_0 := HP0_0.thru hs1042 rfl
   replace HP0_1 := HP0_1.thru hs1042 rfl
   replace HX818 := HX818.thru hs1042 rfl
   replace HS := HS.trans hs1042 hc rfl
   (try simp only [ls0, ls1])
   refine as_ rfl ?_
   refine wl_end ?_
   (try simp only [ls0, ls1])
   refine hK1039 _ _ ?_
   (try clear hK1039 K1039)
   refine wp_ret ?_
   (try simp only [Exit.inBlock, Exit.then, Exit.noGoto])
   (try simp only [ls0, ls1])
   simp only [Option.some.injEq, Prod.mk.injEq] at H
   obtain ⟨rfl, rfl, rfl, rfl, rfl, rfl, rfl, rfl, rfl⟩ := H
   refine bodyPost_ret (res_ct rfl rfl (load_of (load_agg (cs := [.int .i64 0, .int .i64 0, .int .i64 0, .string (⟨#[]⟩ : ByteArray), .string (⟨#[]⟩ : ByteArray), .slice none 0 0]) Try.underlying44 rfl (by kernel_rfl) (bx_cells (HX1041).2 0 rfl)))) rfl ?_
   exact ⟨_, none, 0, rfl, HS, (Kd.F_nil _ _ _), (Nat.le_refl 0), HX844⟩
  rw [if_neg c833] at H
  (try rw [(decide_eq_false c833)])
  (try simp only [Bool.not_true, Bool.not_false])
  refine wp_cond_true rfl ?_
  refine wp_seq_k fun K1043 hK1043 => ?_
  refine wl_region ?_
  refine st (.agg #[.int .i64 0, .int .i64 0, .int .i64 0, .string (⟨#[]⟩ : ByteArray), .string (⟨#[]⟩ : ByteArray), .slice none 0 0]) rfl rfl (xr_build #[] (.agg #[.int .i64 0, .int .i64 0, .int .i64 0, .string (⟨#[]⟩ : ByteArray), .string (⟨#[]⟩ : ByteArray), .slice none 0 0]) rfl (mp_ rfl) (by first | rfl | (go_simp; done) | (go_simp; rfl) | (go_simp; exact i64_w _) | (go_simp; exact i32_w _))) ?_
  refine bx_store (C := C831_) (z := 11) (g := g525) (j := 0) (tb := 44) (u := .agg #[.int .i64 0, .int .i64 0, .int .i64 0, .string (⟨#[]⟩ : ByteArray), .string (⟨#[]⟩ : ByteArray), .slice none 0 0]) (seg := [.int .i64 0, .int .i64 0, .int .i64 0, .string (⟨#[]⟩ : ByteArray), .string (⟨#[]⟩ : ByteArray), .slice none 0 0]) (xs := [.int .i64 0, .int .i64 0, .int .i64 0, .string (⟨#[]⟩ : ByteArray), .string (⟨#[]⟩ : ByteArray), .slice none 0 0]) rfl rfl rfl rfl rfl rfl (by first | kernel_rfl | rfl) (by simp [Value.oneCell']) HX528 (by simp only [List.length_cons, List.length_nil]; omega) rfl ?_
  intro w1044 HX1045 hs1046
  replace HX822 := HX822.thru hs1046 rfl
  replace HP0_0 := HP0_0.thru hs1046 rfl
  replace HP0_1 := HP0_1.thru hs1046 rfl
  replace HX818 := HX818.thru hs1046 rfl
  replace HS := HS.trans hs1046 hc rfl
  (try simp only [ls0, ls1])
  refine st (.int .i64 11) rfl rfl (xr_assign _ rfl rfl) ?_
  refine wl_end ?_
  (try simp only [ls0, ls1])
  refine hK1043 _ _ ?_
  (try clear hK1043 K1043)
  refine wp_ret ?_
  (try simp only [Exit.inBlock, Exit.then, Exit.noGoto])
  (try simp only [ls0, ls1])
  simp only [Option.some.injEq, Prod.mk.injEq] at H
  obtain ⟨rfl, rfl, rfl, rfl, rfl, rfl, rfl, rfl, rfl⟩ := H
  refine bodyPost_ret (res_ct rfl rfl (load_of (load_agg (cs := [.int .i64 0, .int .i64 0, .int .i64 0, .string (⟨#[]⟩ : ByteArray), .string (⟨#[]⟩ : ByteArray), .slice none 0 0]) Try.underlying44 rfl (by kernel_rfl) (bx_cells (HX1045).2 0 rfl)))) rfl ?_
  exact ⟨_, none, 0, rfl, HS, (Kd.F_nil _ _ _), (Nat.le_refl 0), HX822⟩

end Go.Proofs.Yteoccoklbmjiaaa.PStn
