-- By cprint.py, a program of this work. Lean checks it.
import Derived.Test.YteoccoklbmjiaaaPStnx0
import Derived.Test.YteoccoklbmjiaaaPStnx2
import Derived.Test.YteoccoklbmjiaaaPStnx3
namespace Go.Proofs.Yteoccoklbmjiaaa.PStn
open Go.RowKit Go.Proofs.YteoccoklbmjiaaaW.PrintWords Go.Proofs.YteoccoklbmjiaaaW.PrintLast Go.Proofs.YteoccoklbmjiaaaW.PrintMore
set_option linter.unusedVariables false
set_option linter.unusedSimpArgs false

/-! ### expr_Cursor_binary: function 82 -/
mutual
def expr_Cursor_binary.j0 (r_ : Rec_expr_Cursor_binary) : Nat → Int → Int → Int → Int → Int → Int → ByteArray → ByteArray → (List (S44)) → Option (Int × Int × Int × ByteArray × ByteArray × (List (S44)) × Int × Int × Int)
  | 0, _, _, _, _, _, _, _, _, _ => none
  | k + 1, x1550, x1553, x1554, x1557, x1558, x1559, x1560, x1561, x1562 => if x1550 = 0 then (some (x1557, x1558, x1559, x1560, x1561, x1562, 0, x1553, x1554)) else (some (0, 0, 0, (⟨#[]⟩ : ByteArray), (⟨#[]⟩ : ByteArray), ([] : List (S44)), x1550, x1553, x1554))
def expr_Cursor_binary.l0 (r_ : Rec_expr_Cursor_binary) : Nat → Int → (List Int) → (List (S28)) → Int → Int → Int → Int → Int → Int → ByteArray → ByteArray → (List (S44)) → Option (Int × Int × Int × ByteArray × ByteArray × (List (S44)) × Int × Int × Int)
  | 0, _, _, _, _, _, _, _, _, _, _, _, _ => none
  | k + 1, a1, l0_0, l0_1, x1881, x1884, x1885, x1888, x1889, x1890, x1891, x1892, x1893 => if x1881 = 0 then ((expr_Cursor_Peek.f (some (⟨l0_0, l0_1, x1884, x1885⟩ : S111) : Option S111)).bind fun t1957 => ((expr_level.f t1957).bind fun t1963 => (if t1963 = a1 then ((expr_Cursor_Peek.f (some (⟨l0_0, l0_1, x1884, x1885⟩ : S111) : Option S111)).bind fun t1973 => ((r_.expr_Cursor_binary l0_0 l0_1 (wrap64 (x1884 + 1)) x1885 (wrap64 (a1 + 1))).bind fun bt1990 => (if bt1990.2.2.2.2.2.2.1 = 0 then ((some ([(⟨x1888, x1889, x1890, x1891, x1892, x1893⟩ : S44), (⟨bt1990.1, bt1990.2.1, bt1990.2.2.1, bt1990.2.2.2.1, bt1990.2.2.2.2.1, bt1990.2.2.2.2.2.1⟩ : S44)] : List (S44))).bind fun y2014 => ((expr_Cursor_held.f k l0_0 l0_1 bt1990.2.2.2.2.2.2.2.1 bt1990.2.2.2.2.2.2.2.2 5 x1889 0 t1973 (⟨#[]⟩ : ByteArray) y2014 x1884).bind fun bt2024 => (expr_Cursor_binary.l0 r_ k a1 l0_0 l0_1 bt2024.2.2.2.2.2.2.1 bt2024.2.2.2.2.2.2.2 bt1990.2.2.2.2.2.2.2.2 bt2024.1 bt2024.2.1 bt2024.2.2.1 bt2024.2.2.2.1 bt2024.2.2.2.2.1 bt2024.2.2.2.2.2.1))) else (expr_Cursor_binary.l0 r_ k a1 l0_0 l0_1 bt1990.2.2.2.2.2.2.1 bt1990.2.2.2.2.2.2.2.1 bt1990.2.2.2.2.2.2.2.2 x1888 x1889 x1890 x1891 x1892 x1893)))) else (expr_Cursor_binary.j0 r_ k x1881 x1884 x1885 x1888 x1889 x1890 x1891 x1892 x1893)))) else (expr_Cursor_binary.j0 r_ k x1881 x1884 x1885 x1888 x1889 x1890 x1891 x1892 x1893)
end
def expr_Cursor_binary.g (r_ : Rec_expr_Cursor_binary) (k : Nat) (l0_0 : List Int) (l0_1 : List (S28)) (a0_2 : Int) (a0_3 : Int) (a1 : Int) : Option (Int × Int × Int × ByteArray × ByteArray × (List (S44)) × Int × Int × Int) := if a1 = 6 then ((r_.expr_Cursor_signed l0_0 l0_1 a0_2 a0_3).bind fun bt1033 => (some (bt1033.1, bt1033.2.1, bt1033.2.2.1, bt1033.2.2.2.1, bt1033.2.2.2.2.1, bt1033.2.2.2.2.2.1, bt1033.2.2.2.2.2.2.1, bt1033.2.2.2.2.2.2.2.1, bt1033.2.2.2.2.2.2.2.2))) else ((r_.expr_Cursor_binary l0_0 l0_1 a0_2 a0_3 (wrap64 (a1 + 1))).bind fun bt1056 => (expr_Cursor_binary.l0 r_ k a1 l0_0 l0_1 bt1056.2.2.2.2.2.2.1 bt1056.2.2.2.2.2.2.2.1 bt1056.2.2.2.2.2.2.2.2 bt1056.1 bt1056.2.1 bt1056.2.2.1 bt1056.2.2.2.1 bt1056.2.2.2.2.1 bt1056.2.2.2.2.2.1))

set_option maxHeartbeats 8000000 in
set_option maxRecDepth 100000 in
theorem expr_Cursor_binary.step (r_ : Rec_expr_Cursor_binary) (IH : Rec_expr_Cursor_binary.Good r_) (k : Nat) (g0 : Nat) (A0_0 : Option Addr) (c0_0 : Nat) (l0_0 : List Int) (A0_1 : Option Addr) (c0_1 : Nat) (l0_1 : List (S28)) (a0_2 : Int) (a0_3 : Int) (a1 : Int) (r1 : Int) (r2 : Int) (r3 : Int) (r4 : ByteArray) (r5 : ByteArray) (r6 : List (S44)) (r7 : Int) (r8 : Int) (r9 : Int) (c : Nat → Nat) (w : World) (hc : ∀ k, c k < 10) (HP0 : Bx c 1 w g0 111 ([.slice A0_0 l0_0.length c0_0, .slice A0_1 l0_1.length c0_1, .int .i64 a0_2, .int .i64 a0_3])) (HP0_0 : Ft c [0] w (fun w_ => (Kd.int .u8).C w_ A0_0 l0_0.length l0_0)) (HCP0_0 : l0_0.length ≤ c0_0) (HP0_1 : Ft c [0] w (fun w_ => k28.C w_ A0_1 l0_1.length l0_1)) (HCP0_1 : l0_1.length ≤ c0_1) (H : expr_Cursor_binary.g r_ k l0_0 l0_1 a0_2 a0_3 a1 = some (r1, r2, r3, r4, r5, r6, r7, r8, r9)) :
    Calls Try.prog 82 #[.pointer (some ⟨g0, 0, none⟩), .int .i64 a1] w fun e w' => ∃ (c' : Nat → Nat) (A_r6 : Option Addr) (c_r6 : Nat), e = .returned (.tuple #[.agg #[.int .i64 r1, .int .i64 r2, .int .i64 r3, .string r4, .string r5, .slice A_r6 r6.length c_r6], .int .i64 r7]) ∧ Step c w c' w' [1] ∧ Ft c' [0] w' (fun w_ => k44.C w_ A_r6 r6.length r6) ∧ r6.length ≤ c_r6 ∧ Bx c' 1 w' g0 111 ([.slice A0_0 l0_0.length c0_0, .slice A0_1 l0_1.length c0_1, .int .i64 r8, .int .i64 r9]) := by
 unfold expr_Cursor_binary.g at H
 have HS := Step.refl c w [1]
 go_enter Try.func82, Try.ntmps82
 refine wp_seq_k fun K1023 hK1023 => ?_
 refine wl_region ?_
 refine bx_new (C := c) 44 ([.int .i64 0, .int .i64 0, .int .i64 0, .string (⟨#[]⟩ : ByteArray), .string (⟨#[]⟩ : ByteArray), .slice none 0 0]) 11 rfl rfl (by first | (go_simp; done) | (go_simp; rfl)) ?_
 intro g1024 w1025 C1026 HX1027 hs1028
 replace HP0 := HP0.thru hs1028 rfl
 replace HP0_0 := HP0_0.thru hs1028 rfl
 replace HP0_1 := HP0_1.thru hs1028 rfl
 replace HS := HS.trans hs1028 hc rfl
 (try simp only [ls0, ls1])
 refine st (.int .i64 0) rfl rfl (xr_assign _ rfl rfl) ?_
 refine wl_end ?_
 (try simp only [ls0, ls1])
 refine hK1023 _ _ ?_
 (try clear hK1023 K1023)
 refine wp_seq_k fun K1029 hK1029 => ?_
 refine wp_seq_k fun K1030 hK1030 => ?_
 refine wl_region ?_
 refine mv_ rfl ?_
 refine st (.bool (decide (a1 = 6))) rfl rfl (xr_bin _ _ _ rfl rfl rfl (B.eql_i64 _ _)) ?_
 refine wl_end ?_
 (try simp only [ls0, ls1])
 refine hK1030 _ _ ?_
 (try clear hK1030 K1030)
 by_cases c1031 : a1 = 6
 ·rw [if_pos c1031] at H
  (try rw [(decide_eq_true c1031)])
  refine wp_cond_true rfl ?_
  refine wp_seq_k fun K1032 hK1032 => ?_
  refine wl_region ?_
  refine mv_ rfl ?_
  obtain ⟨⟨t1033, t1034, t1035, t1036, t1037, t1038, t1039, t1040, t1041⟩, A1042, H⟩ := bnd H
  (try dsimp only at H)
  refine st_call #[.pointer (some ⟨g0, 0, none⟩)] rfl rfl Try.func102 (by kernel_rfl) rfl rfl (mp_ rfl) ?_
  refine (IH.expr_Cursor_signed g0 A0_0 c0_0 l0_0 A0_1 c0_1 l0_1 a0_2 a0_3 t1033 t1034 t1035 t1036 t1037 t1038 t1039 t1040 t1041  (fun z_ => pal [(0, 0), (1, 1)] (C1026 z_)) w1025 (fun _ => pal_lt rfl _) (Bx.arg HP0 rfl) (Ft.arg HP0_0 rfl) HCP0_0 (Ft.arg HP0_1 rfl) HCP0_1 A1042).mono ?_
  rintro _ w1044 ⟨C1045, A1047, cp1048, rfl, hs1046, HO1049, HC1050, HX1051⟩
  refine ⟨_, rfl, ?_⟩
  replace HO1049 := Ft.res (U := [(0, 0), (1, 1)]) HO1049 hs1046 [0] rfl rfl rfl
  replace HX1051 := Bx.res (U := [(0, 0), (1, 1)]) (j := 1) HX1051 hs1046 (by rfl) (by decide) rfl
  replace hs1046 := Step.lift (U := [(0, 0), (1, 1)]) hs1046 [1] rfl rfl
  generalize up C1026 C1045 w1025.heap.size [(0, 0), (1, 1)] = C1045_ at HO1049 HX1051 hs1046
  replace HP0_0 := HP0_0.thru hs1046 rfl
  replace HP0_1 := HP0_1.thru hs1046 rfl
  replace HX1027 := HX1027.thru hs1046 rfl
  replace HS := HS.trans hs1046 hc rfl
  (try simp only [ls0, ls1])
  refine st (.agg #[.int .i64 t1033, .int .i64 t1034, .int .i64 t1035, .string t1036, .string t1037, .slice A1047 t1038.length cp1048]) rfl rfl (xr_extract (.tuple #[.agg #[.int .i64 t1033, .int .i64 t1034, .int .i64 t1035, .string t1036, .string t1037, .slice A1047 t1038.length cp1048], .int .i64 t1039]) _ rfl rfl rfl) ?_
  refine st (.int .i64 t1039) rfl rfl (xr_extract (.tuple #[.agg #[.int .i64 t1033, .int .i64 t1034, .int .i64 t1035, .string t1036, .string t1037, .slice A1047 t1038.length cp1048], .int .i64 t1039]) _ rfl rfl rfl) ?_
  refine bx_store (C := C1045_) (z := 11) (g := g1024) (j := 0) (tb := 44) (u := .agg #[.int .i64 t1033, .int .i64 t1034, .int .i64 t1035, .string t1036, .string t1037, .slice A1047 t1038.length cp1048]) (seg := [.int .i64 t1033, .int .i64 t1034, .int .i64 t1035, .string t1036, .string t1037, .slice A1047 t1038.length cp1048]) (xs := [.int .i64 0, .int .i64 0, .int .i64 0, .string (⟨#[]⟩ : ByteArray), .string (⟨#[]⟩ : ByteArray), .slice none 0 0]) rfl rfl rfl rfl rfl rfl (by first | kernel_rfl | rfl) (by simp [Value.oneCell']) HX1027 (by simp only [List.length_cons, List.length_nil]; omega) rfl ?_
  intro w1052 HX1053 hs1054
  replace HX1051 := HX1051.thru hs1054 rfl
  replace HP0_0 := HP0_0.thru hs1054 rfl
  replace HP0_1 := HP0_1.thru hs1054 rfl
  replace HO1049 := HO1049.thru hs1054 rfl
  replace HS := HS.trans hs1054 hc rfl
  (try simp only [ls0, ls1])
  refine as_ rfl ?_
  refine wl_end ?_
  (try simp only [ls0, ls1])
  refine hK1032 _ _ ?_
  (try clear hK1032 K1032)
  refine wp_ret ?_
  (try simp only [Exit.inBlock, Exit.then, Exit.noGoto])
  (try simp only [ls0, ls1])
  simp only [Option.some.injEq, Prod.mk.injEq] at H
  obtain ⟨rfl, rfl, rfl, rfl, rfl, rfl, rfl, rfl, rfl⟩ := H
  refine bodyPost_ret (res_ct rfl rfl (load_of (load_agg (cs := [.int .i64 t1033, .int .i64 t1034, .int .i64 t1035, .string t1036, .string t1037, .slice A1047 t1038.length cp1048]) Try.underlying44 rfl (by kernel_rfl) (bx_cells (HX1053).2 0 rfl)))) rfl ?_
  exact ⟨_, A1047, cp1048, rfl, HS, HO1049, HC1050, HX1051⟩
 rw [if_neg c1031] at H
 (try rw [(decide_eq_false c1031)])
 refine wp_cond_false rfl ?_
 refine wp_skip ?_
 (try simp only [ls0, ls1])
 refine hK1029 _ _ ?_
 (try clear hK1029 K1029)
 refine wp_seq_k fun K1055 hK1055 => ?_
 refine wl_region ?_
 refine mv_ rfl ?_
 refine mv_ rfl ?_
 refine st (.int .i64 (wrap64 (a1 + 1))) rfl rfl (xr_bin _ _ _ rfl rfl rfl (B.add_i64 _ _)) ?_
 obtain ⟨⟨t1056, t1057, t1058, t1059, t1060, t1061, t1062, t1063, t1064⟩, A1065, H⟩ := bnd H
 (try dsimp only at H)
 refine st_call #[.pointer (some ⟨g0, 0, none⟩), .int .i64 (wrap64 (a1 + 1))] rfl rfl Try.func82 (by kernel_rfl) rfl rfl (mp_ rfl) ?_
 refine (IH.expr_Cursor_binary g0 A0_0 c0_0 l0_0 A0_1 c0_1 l0_1 a0_2 a0_3 (wrap64 (a1 + 1)) t1056 t1057 t1058 t1059 t1060 t1061 t1062 t1063 t1064  (fun z_ => pal [(0, 0), (1, 1)] (C1026 z_)) w1025 (fun _ => pal_lt rfl _) (Bx.arg HP0 rfl) (Ft.arg HP0_0 rfl) HCP0_0 (Ft.arg HP0_1 rfl) HCP0_1 A1065).mono ?_
 rintro _ w1067 ⟨C1068, A1070, cp1071, rfl, hs1069, HO1072, HC1073, HX1074⟩
 refine ⟨_, rfl, ?_⟩
 replace HO1072 := Ft.res (U := [(0, 0), (1, 1)]) HO1072 hs1069 [0] rfl rfl rfl
 replace HX1074 := Bx.res (U := [(0, 0), (1, 1)]) (j := 1) HX1074 hs1069 (by rfl) (by decide) rfl
 replace hs1069 := Step.lift (U := [(0, 0), (1, 1)]) hs1069 [1] rfl rfl
 generalize up C1026 C1068 w1025.heap.size [(0, 0), (1, 1)] = C1068_ at HO1072 HX1074 hs1069
 replace HP0_0 := HP0_0.thru hs1069 rfl
 replace HP0_1 := HP0_1.thru hs1069 rfl
 replace HX1027 := HX1027.thru hs1069 rfl
 replace HS := HS.trans hs1069 hc rfl
 (try simp only [ls0, ls1])
 refine mv_ rfl ?_
 refine st (.agg #[.int .i64 t1056, .int .i64 t1057, .int .i64 t1058, .string t1059, .string t1060, .slice A1070 t1061.length cp1071]) rfl rfl (xr_extract (.tuple #[.agg #[.int .i64 t1056, .int .i64 t1057, .int .i64 t1058, .string t1059, .string t1060, .slice A1070 t1061.length cp1071], .int .i64 t1062]) _ rfl rfl rfl) ?_
 refine st (.int .i64 t1062) rfl rfl (xr_extract (.tuple #[.agg #[.int .i64 t1056, .int .i64 t1057, .int .i64 t1058, .string t1059, .string t1060, .slice A1070 t1061.length cp1071], .int .i64 t1062]) _ rfl rfl rfl) ?_
 refine bx_new (C := C1068_) 44 ([.int .i64 0, .int .i64 0, .int .i64 0, .string (⟨#[]⟩ : ByteArray), .string (⟨#[]⟩ : ByteArray), .slice none 0 0]) 12 rfl rfl (by first | (go_simp; done) | (go_simp; rfl)) ?_
 intro g1075 w1076 C1077 HX1078 hs1079
 replace HX1074 := HX1074.thru hs1079 rfl
 replace HP0_0 := HP0_0.thru hs1079 rfl
 replace HP0_1 := HP0_1.thru hs1079 rfl
 replace HX1027 := HX1027.thru hs1079 rfl
 replace HO1072 := HO1072.thru hs1079 rfl
 replace HS := HS.trans hs1079 hc rfl
 (try simp only [ls0, ls1])
 refine bx_store (C := C1077) (z := 12) (g := g1075) (j := 0) (tb := 44) (u := .agg #[.int .i64 t1056, .int .i64 t1057, .int .i64 t1058, .string t1059, .string t1060, .slice A1070 t1061.length cp1071]) (seg := [.int .i64 t1056, .int .i64 t1057, .int .i64 t1058, .string t1059, .string t1060, .slice A1070 t1061.length cp1071]) (xs := [.int .i64 0, .int .i64 0, .int .i64 0, .string (⟨#[]⟩ : ByteArray), .string (⟨#[]⟩ : ByteArray), .slice none 0 0]) rfl rfl rfl rfl rfl rfl (by first | kernel_rfl | rfl) (by simp [Value.oneCell']) HX1078 (by simp only [List.length_cons, List.length_nil]; omega) rfl ?_
 intro w1080 HX1081 hs1082
 replace HX1074 := HX1074.thru hs1082 rfl
 replace HP0_0 := HP0_0.thru hs1082 rfl
 replace HP0_1 := HP0_1.thru hs1082 rfl
 replace HX1027 := HX1027.thru hs1082 rfl
 replace HO1072 := HO1072.thru hs1082 rfl
 replace HS := HS.trans hs1082 hc rfl
 (try simp only [ls0, ls1])
 refine as_ rfl ?_
 refine wl_end ?_
 (try simp only [ls0, ls1])
 refine hK1055 _ _ ?_
 (try clear hK1055 K1055)
 refine wp_seq_k fun K1083 hK1083 => ?_
 have hj1546 : ∀ (kq1569 : Nat) (C1547 : Nat → Nat) (w1548 : World) (x1550 : Int) (x1553 : Int) (x1554 : Int) (x1557 : Int) (x1558 : Int) (x1559 : Int) (x1560 : ByteArray) (x1561 : ByteArray) (A1563 : Option Addr) (n1564 cp1565 : Nat) (x1562 : List (S44)) (g_ : Nat → Value), Step c w C1547 w1548 [1] → kq1569 ≤ k → (Ft C1547 [0] w1548 (fun w_ => (Kd.int .u8).C w_ A0_0 l0_0.length l0_0)) → (Ft C1547 [0] w1548 (fun w_ => k28.C w_ A0_1 l0_1.length l0_1)) → (Bx C1547 1 w1548 g0 111 ([.slice A0_0 l0_0.length c0_0, .slice A0_1 l0_1.length c0_1, .int .i64 x1553, .int .i64 x1554])) → (Bx C1547 11 w1548 g1024 44 ([.int .i64 0, .int .i64 0, .int .i64 0, .string (⟨#[]⟩ : ByteArray), .string (⟨#[]⟩ : ByteArray), .slice none 0 0])) → (Ft C1547 [0] w1548 (fun w_ => k44.C w_ A1563 n1564 x1562)) → (n1564 ≤ cp1565) → (Bx C1547 12 w1548 g1075 44 ([.int .i64 x1557, .int .i64 x1558, .int .i64 x1559, .string x1560, .string x1561, .slice A1563 n1564 cp1565])) → expr_Cursor_binary.j0 r_ kq1569 x1550 x1553 x1554 x1557 x1558 x1559 x1560 x1561 x1562 = some (r1, r2, r3, r4, r5, r6, r7, r8, r9) → K1083 ⟨#[(g_ 0), (g_ 1), (g_ 2), (g_ 3), .pointer (some ⟨g1024, 0, none⟩), (g_ 5), .pointer (some ⟨g1075, 0, none⟩), .int .i64 x1550, (g_ 8), (g_ 9), (g_ 10), (g_ 11), (g_ 12), (g_ 13), (g_ 14), (g_ 15), (g_ 16), (g_ 17), (g_ 18), (g_ 19), (g_ 20), (g_ 21), (g_ 22), (g_ 23), (g_ 24), (g_ 25), (g_ 26), (g_ 27), (g_ 28), (g_ 29), (g_ 30), (g_ 31), (g_ 32), (g_ 33), (g_ 34), (g_ 35), (g_ 36), (g_ 37), (g_ 38), (g_ 39), (g_ 40), (g_ 41), (g_ 42), (g_ 43), (g_ 44), (g_ 45), (g_ 46), (g_ 47), (g_ 48), (g_ 49), (g_ 50), (g_ 51), (g_ 52), (g_ 53), (g_ 54), (g_ 55), (g_ 56), (g_ 57), (g_ 58), (g_ 59), (g_ 60), (g_ 61), (g_ 62), (g_ 63), (g_ 64), (g_ 65), (g_ 66), (g_ 67), (g_ 68), (g_ 69), (g_ 70), (g_ 71), (g_ 72)], []⟩ w1548 := by
  intro kq1569 C1547 w1548 x1550 x1553 x1554 x1557 x1558 x1559 x1560 x1561 A1563 n1564 cp1565 x1562 g_ HS1549 hk1570 HJ1551 HJ1552 HJ1555 HJ1556 HJ1567 HC1566 HJ1568 H
  obtain rfl : n1564 = x1562.length := (Ft.now HJ1567).1.symm
  cases kq1569 with
  | zero => exact absurd H (by simp [expr_Cursor_binary.j0])
  | succ k1571 =>
   simp only [expr_Cursor_binary.j0] at H
   refine hK1083 _ _ ?_
   (try clear hK1083)
   refine wp_seq_k fun K1572 hK1572 => ?_
   refine wp_seq_k fun K1573 hK1573 => ?_
   refine wl_region ?_
   refine mv_ rfl ?_
   refine st (.bool (!decide (x1550 = 0))) rfl rfl (xr_bin _ _ _ rfl rfl rfl (B.neq_i64 _ _)) ?_
   refine wl_end ?_
   (try simp only [ls0, ls1])
   refine hK1573 _ _ ?_
   (try clear hK1573 K1573)
   by_cases c1574 : x1550 = 0
   ·rw [if_pos c1574] at H
    (try rw [(decide_eq_true c1574)])
    (try simp only [Bool.not_true, Bool.not_false])
    refine wp_cond_false rfl ?_
    refine wp_skip ?_
    (try simp only [ls0, ls1])
    refine hK1572 _ _ ?_
    (try clear hK1572 K1572)
    refine wp_seq_k fun K1575 hK1575 => ?_
    refine wl_region ?_
    refine st (.agg #[.int .i64 x1557, .int .i64 x1558, .int .i64 x1559, .string x1560, .string x1561, .slice A1563 x1562.length cp1565]) rfl rfl (xr_load _ _ rfl rfl (load_agg (cs := [.int .i64 x1557, .int .i64 x1558, .int .i64 x1559, .string x1560, .string x1561, .slice A1563 x1562.length cp1565]) Try.underlying44 rfl (by kernel_rfl) (bx_cells (HJ1568).2 0 rfl))) ?_
    refine bx_store (C := C1547) (z := 11) (g := g1024) (j := 0) (tb := 44) (u := .agg #[.int .i64 x1557, .int .i64 x1558, .int .i64 x1559, .string x1560, .string x1561, .slice A1563 x1562.length cp1565]) (seg := [.int .i64 x1557, .int .i64 x1558, .int .i64 x1559, .string x1560, .string x1561, .slice A1563 x1562.length cp1565]) (xs := [.int .i64 0, .int .i64 0, .int .i64 0, .string (⟨#[]⟩ : ByteArray), .string (⟨#[]⟩ : ByteArray), .slice none 0 0]) rfl rfl rfl rfl rfl rfl (by first | kernel_rfl | rfl) (by simp [Value.oneCell']) HJ1556 (by simp only [List.length_cons, List.length_nil]; omega) rfl ?_
    intro w1576 HX1577 hs1578
    replace HJ1555 := HJ1555.thru hs1578 rfl
    replace HJ1551 := HJ1551.thru hs1578 rfl
    replace HJ1552 := HJ1552.thru hs1578 rfl
    replace HJ1567 := HJ1567.thru hs1578 rfl
    replace HJ1568 := HJ1568.thru hs1578 rfl
    replace HS1549 := HS1549.trans hs1578 hc rfl
    (try simp only [ls0, ls1])
    refine st (.int .i64 0) rfl rfl (xr_assign _ rfl rfl) ?_
    refine wl_end ?_
    (try simp only [ls0, ls1])
    refine hK1575 _ _ ?_
    (try clear hK1575 K1575)
    refine wp_ret ?_
    (try simp only [Exit.inBlock, Exit.then, Exit.noGoto])
    (try simp only [ls0, ls1])
    simp only [Option.some.injEq, Prod.mk.injEq] at H
    obtain ⟨rfl, rfl, rfl, rfl, rfl, rfl, rfl, rfl, rfl⟩ := H
    refine bodyPost_ret (res_ct rfl rfl (load_of (load_agg (cs := [.int .i64 x1557, .int .i64 x1558, .int .i64 x1559, .string x1560, .string x1561, .slice A1563 x1562.length cp1565]) Try.underlying44 rfl (by kernel_rfl) (bx_cells (HX1577).2 0 rfl)))) rfl ?_
    exact ⟨_, A1563, cp1565, rfl, HS1549, HJ1567, HC1566, HJ1555⟩
   rw [if_neg c1574] at H
   (try rw [(decide_eq_false c1574)])
   (try simp only [Bool.not_true, Bool.not_false])
   refine wp_cond_true rfl ?_
   refine wp_seq_k fun K1579 hK1579 => ?_
   refine wl_region ?_
   refine st (.agg #[.int .i64 0, .int .i64 0, .int .i64 0, .string (⟨#[]⟩ : ByteArray), .string (⟨#[]⟩ : ByteArray), .slice none 0 0]) rfl rfl (xr_build #[] (.agg #[.int .i64 0, .int .i64 0, .int .i64 0, .string (⟨#[]⟩ : ByteArray), .string (⟨#[]⟩ : ByteArray), .slice none 0 0]) rfl (mp_ rfl) (by first | rfl | (go_simp; done) | (go_simp; rfl) | (go_simp; exact i64_w _) | (go_simp; exact i32_w _))) ?_
   refine mv_ rfl ?_
   refine bx_store (C := C1547) (z := 11) (g := g1024) (j := 0) (tb := 44) (u := .agg #[.int .i64 0, .int .i64 0, .int .i64 0, .string (⟨#[]⟩ : ByteArray), .string (⟨#[]⟩ : ByteArray), .slice none 0 0]) (seg := [.int .i64 0, .int .i64 0, .int .i64 0, .string (⟨#[]⟩ : ByteArray), .string (⟨#[]⟩ : ByteArray), .slice none 0 0]) (xs := [.int .i64 0, .int .i64 0, .int .i64 0, .string (⟨#[]⟩ : ByteArray), .string (⟨#[]⟩ : ByteArray), .slice none 0 0]) rfl rfl rfl rfl rfl rfl (by first | kernel_rfl | rfl) (by simp [Value.oneCell']) HJ1556 (by simp only [List.length_cons, List.length_nil]; omega) rfl ?_
   intro w1580 HX1581 hs1582
   replace HJ1555 := HJ1555.thru hs1582 rfl
   replace HJ1551 := HJ1551.thru hs1582 rfl
   replace HJ1552 := HJ1552.thru hs1582 rfl
   replace HJ1568 := HJ1568.thru hs1582 rfl
   replace HJ1567 := HJ1567.thru hs1582 rfl
   replace HS1549 := HS1549.trans hs1582 hc rfl
   (try simp only [ls0, ls1])
   refine as_ rfl ?_
   refine wl_end ?_
   (try simp only [ls0, ls1])
   refine hK1579 _ _ ?_
   (try clear hK1579 K1579)
   refine wp_ret ?_
   (try simp only [Exit.inBlock, Exit.then, Exit.noGoto])
   (try simp only [ls0, ls1])
   simp only [Option.some.injEq, Prod.mk.injEq] at H
   obtain ⟨rfl, rfl, rfl, rfl, rfl, rfl, rfl, rfl, rfl⟩ := H
   refine bodyPost_ret (res_ct rfl rfl (load_of (load_agg (cs := [.int .i64 0, .int .i64 0, .int .i64 0, .string (⟨#[]⟩ : ByteArray), .string (⟨#[]⟩ : ByteArray), .slice none 0 0]) Try.underlying44 rfl (by kernel_rfl) (bx_cells (HX1581).2 0 rfl)))) rfl ?_
   exact ⟨_, none, 0, rfl, HS1549, (Kd.F_nil _ _ _), (Nat.le_refl 0), HJ1555⟩
 refine wp_block ?_
 (try simp only [ls0, ls1])
 refine wp_looped (looped_fin (fun kq1902 a_ w1901 => ∃ (C1900 : Nat → Nat) (x1881 : Int) (x1884 : Int) (x1885 : Int) (x1888 : Int) (x1889 : Int) (x1890 : Int) (x1891 : ByteArray) (x1892 : ByteArray) (A1894 : Option Addr) (n1895 cp1896 : Nat) (x1893 : List (S44)) (g_ : Nat → Value), a_ = ⟨#[.pointer (some ⟨g0, 0, none⟩), .int .i64 a1, (g_ 2), (g_ 3), .pointer (some ⟨g1024, 0, none⟩), (g_ 5), .pointer (some ⟨g1075, 0, none⟩), .int .i64 x1881, (g_ 8), (g_ 9), (g_ 10), (g_ 11), (g_ 12), (g_ 13), (g_ 14), (g_ 15), (g_ 16), (g_ 17), (g_ 18), (g_ 19), (g_ 20), (g_ 21), (g_ 22), (g_ 23), (g_ 24), (g_ 25), (g_ 26), (g_ 27), (g_ 28), (g_ 29), (g_ 30), (g_ 31), (g_ 32), (g_ 33), (g_ 34), (g_ 35), (g_ 36), (g_ 37), (g_ 38), (g_ 39), (g_ 40), (g_ 41), (g_ 42), (g_ 43), (g_ 44), (g_ 45), (g_ 46), (g_ 47), (g_ 48), (g_ 49), (g_ 50), (g_ 51), (g_ 52), (g_ 53), (g_ 54), (g_ 55), (g_ 56), (g_ 57), (g_ 58), (g_ 59), (g_ 60), (g_ 61), (g_ 62), (g_ 63), (g_ 64), (g_ 65), (g_ 66), (g_ 67), (g_ 68), (g_ 69), (g_ 70), (g_ 71), (g_ 72)], []⟩ ∧ Step c w C1900 w1901 [1] ∧ kq1902 ≤ k ∧ (Ft C1900 [0] w1901 (fun w_ => (Kd.int .u8).C w_ A0_0 l0_0.length l0_0)) ∧ (Ft C1900 [0] w1901 (fun w_ => k28.C w_ A0_1 l0_1.length l0_1)) ∧ (Bx C1900 1 w1901 g0 111 ([.slice A0_0 l0_0.length c0_0, .slice A0_1 l0_1.length c0_1, .int .i64 x1884, .int .i64 x1885])) ∧ (Bx C1900 11 w1901 g1024 44 ([.int .i64 0, .int .i64 0, .int .i64 0, .string (⟨#[]⟩ : ByteArray), .string (⟨#[]⟩ : ByteArray), .slice none 0 0])) ∧ (Ft C1900 [0] w1901 (fun w_ => k44.C w_ A1894 n1895 x1893)) ∧ (n1895 ≤ cp1896) ∧ (Bx C1900 12 w1901 g1075 44 ([.int .i64 x1888, .int .i64 x1889, .int .i64 x1890, .string x1891, .string x1892, .slice A1894 n1895 cp1896])) ∧ expr_Cursor_binary.l0 r_ kq1902 a1 l0_0 l0_1 x1881 x1884 x1885 x1888 x1889 x1890 x1891 x1892 x1893 = some (r1, r2, r3, r4, r5, r6, r7, r8, r9)) ?step fun hL_ => ?init)
 case init =>
  exact jmpL (fun a_ h_ => hL_ k a_ _ h_) (fun g_ => ⟨_, t1062, t1063, t1064, t1056, t1057, t1058, t1059, t1060, A1070, t1061.length, cp1071, t1061, g_, rfl, HS, Nat.le_refl _, HP0_0, HP0_1, HX1074, HX1027, HO1072, HC1073, HX1081, H⟩) rfl
 case step =>
  intro kq1902 ih1905 a1906 w1901 hr1907
  obtain ⟨C1900, x1881, x1884, x1885, x1888, x1889, x1890, x1891, x1892, A1894, n1895, cp1896, x1893, g_, rfl, HS1903, hk1904, HJ1882, HJ1883, HJ1886, HJ1887, HJ1898, HC1897, HJ1899, H⟩ := hr1907
  refine looped_round ?_
  obtain rfl : n1895 = x1893.length := (Ft.now HJ1898).1.symm
  cases kq1902 with
  | zero => exact absurd H (by simp [expr_Cursor_binary.l0])
  | succ k1908 =>
   simp only [expr_Cursor_binary.l0] at H
   refine wp_seq_k fun K1909 hK1909 => ?_
   refine wp_seq_k fun K1940 hK1940 => ?_
   refine wl_region ?_
   refine mv_ rfl ?_
   refine st (.bool (decide (x1881 = 0))) rfl rfl (xr_bin _ _ _ rfl rfl rfl (B.eql_i64 _ _)) ?_
   refine mv_ rfl ?_
   simp only [ls0, ls1]
   by_cases c1955 : x1881 = 0
   ·rw [if_pos c1955] at H
    (try rw [(decide_eq_true c1955)])
    refine on_guard (guard_on 2 true 26 rfl rfl rfl) ?_
    refine mv_ rfl ?_
    refine on_guard (guard_on 2 true 26 rfl rfl rfl) ?_
    have HP1956 : Ft C1900 [0, 1] w1901 (fun w_ => (Kd.ptr 111 k111).K w_ (some (⟨l0_0, l0_1, x1884, x1885⟩ : S111)) [.pointer (some ⟨g0, 0, none⟩)]) := ptr_mk (Ft.more (HJ1886.ft) rfl) (k111_mkF _ _ (⟨l0_0, l0_1, x1884, x1885⟩ : S111) HCP0_0 (Ft.more HJ1882 rfl) HCP0_1 (Ft.more HJ1883 rfl))
    obtain ⟨t1957, A1958, H⟩ := bnd H
    refine st_call #[.pointer (some ⟨g0, 0, none⟩)] rfl rfl Try.func43 (by kernel_rfl) rfl rfl (mp_ rfl) ?_
    refine (expr_Cursor_Peek.calls (.pointer (some ⟨g0, 0, none⟩)) (some (⟨l0_0, l0_1, x1884, x1885⟩ : S111) : Option S111) t1957  (fun z_ => pal [(0, 0), (1, 0)] (C1900 z_)) w1901 (fun _ => pal_lt rfl _) (Ft.arg HP1956 rfl) A1958).mono ?_
    rintro _ w1960 ⟨C1961, rfl, hs1962⟩
    refine ⟨_, rfl, ?_⟩
    replace hs1962 := Step.lift (U := [(0, 0)]) hs1962 [] rfl rfl
    generalize up C1900 C1961 w1901.heap.size [(0, 0)] = C1961_ at hs1962
    replace HJ1886 := HJ1886.thru hs1962 rfl
    replace HJ1882 := HJ1882.thru hs1962 rfl
    replace HJ1883 := HJ1883.thru hs1962 rfl
    replace HJ1887 := HJ1887.thru hs1962 rfl
    replace HJ1899 := HJ1899.thru hs1962 rfl
    replace HJ1898 := HJ1898.thru hs1962 rfl
    replace HS1903 := HS1903.trans hs1962 hc rfl
    (try simp only [ls0, ls1])
    refine on_guard (guard_on 2 true 26 rfl rfl rfl) ?_
    obtain ⟨t1963, A1964, H⟩ := bnd H
    refine st_call #[.string t1957] rfl rfl Try.func103 (by kernel_rfl) rfl rfl (mp_ rfl) ?_
    refine (expr_level.calls t1957 t1963  (fun z_ => pal [(0, 0)] (C1961_ z_)) w1960 (fun _ => pal_lt rfl _) A1964).mono ?_
    rintro _ w1966 ⟨C1967, rfl, hs1968⟩
    refine ⟨_, rfl, ?_⟩
    replace hs1968 := Step.lift (U := [(0, 0)]) hs1968 [] rfl rfl
    generalize up C1961_ C1967 w1960.heap.size [(0, 0)] = C1967_ at hs1968
    replace HJ1886 := HJ1886.thru hs1968 rfl
    replace HJ1882 := HJ1882.thru hs1968 rfl
    replace HJ1883 := HJ1883.thru hs1968 rfl
    replace HJ1887 := HJ1887.thru hs1968 rfl
    replace HJ1899 := HJ1899.thru hs1968 rfl
    replace HJ1898 := HJ1898.thru hs1968 rfl
    replace HS1903 := HS1903.trans hs1968 hc rfl
    (try simp only [ls0, ls1])
    refine on_guard (guard_on 2 true 26 rfl rfl rfl) ?_
    refine mv_ rfl ?_
    refine on_guard (guard_on 2 true 26 rfl rfl rfl) ?_
    refine st (.bool (decide (t1963 = a1))) rfl rfl (xr_bin _ _ _ rfl rfl rfl (B.eql_i64 _ _)) ?_
    refine st (.bool (decide (t1963 = a1))) rfl rfl (xr_pick true _ rfl rfl rfl) ?_
    refine wl_end ?_
    (try simp only [ls0, ls1])
    refine hK1940 _ _ ?_
    (try clear hK1940 K1940)
    by_cases c1969 : t1963 = a1
    ·rw [if_pos c1969] at H
     (try rw [(decide_eq_true c1969)])
     refine wp_cond_true rfl ?_
     refine wp_skip ?_
     (try simp only [ls0, ls1])
     refine hK1909 _ _ ?_
     (try clear hK1909 K1909)
     refine wp_block ?_
     refine wp_seq_k fun K1970 hK1970 => ?_
     (try simp only [ls0, ls1])
     refine al_start (lb 8 0) rfl rfl rfl (fun w_ => w_.heap[g0]? = some (.cells (List.toArray ([.slice A0_0 l0_0.length c0_0, .slice A0_1 l0_1.length c0_1, .int .i64 x1884, .int .i64 x1885])) 111 (0, 0))) (HJ1886.drew).2 [] ?_
     replace HJ1886 := HJ1886.drew
     replace HJ1882 := HJ1882.drew
     replace HJ1883 := HJ1883.drew
     replace HJ1887 := HJ1887.drew
     replace HJ1899 := HJ1899.drew
     replace HJ1898 := HJ1898.drew
     replace HS1903 := Step.ofDrew HS1903
     generalize w1966.drew = w1971 at *
     refine al_mv 0 (lb 8 1) rfl rfl (by kernel_rfl) (fun _ _ _ => id) rfl ?_
     refine al_pure 1 34 (.pointer (some ⟨g0, 0, none⟩)) (lb 8 3) rfl rfl (by kernel_rfl) (fun _ _ _ => id) rfl (fun w_ => xr_nilCheck _ rfl rfl) ?_
     refine al_pure 2 35 (.pointer (some ⟨g0, 2, none⟩)) (lb 8 7) rfl rfl (by kernel_rfl) (fun _ _ _ => id) rfl (fun w_ => xr_fieldAddr _ _ rfl rfl (bx_field2 Try.underlying111 rfl rfl (by kernel_rfl))) ?_
     refine al_mv 4 (lb 8 23) rfl rfl (by kernel_rfl) (fun _ _ _ => id) rfl ?_
     simp only [ls0, ls1]
     refine al_take 3 36 (.int .i64 x1884) (lb 8 31) rfl rfl (by kernel_rfl) (fun _ _ _ => id) rfl (fun w_ hS_ => xr_load _ _ rfl rfl (load_cell Try.underlying3 rfl (bx_cell hS_ 2 rfl))) (HJ1886).2 ?_
     have HP1972 : Ft C1967_ [0, 1] w1971 (fun w_ => (Kd.ptr 111 k111).K w_ (some (⟨l0_0, l0_1, x1884, x1885⟩ : S111)) [.pointer (some ⟨g0, 0, none⟩)]) := ptr_mk (Ft.more (HJ1886.ft) rfl) (k111_mkF _ _ (⟨l0_0, l0_1, x1884, x1885⟩ : S111) HCP0_0 (Ft.more HJ1882 rfl) HCP0_1 (Ft.more HJ1883 rfl))
     obtain ⟨t1973, A1974, H⟩ := bnd H
     refine al_one 5 (lb 8 63) rfl rfl (by kernel_rfl) rfl (fun K_ hK_ => ?_)
     refine goes_ Try.func43 (by kernel_rfl) rfl #[.pointer (some ⟨g0, 0, none⟩)] rfl rfl rfl (mpe_ rfl) ?_
     refine (expr_Cursor_Peek.calls (.pointer (some ⟨g0, 0, none⟩)) (some (⟨l0_0, l0_1, x1884, x1885⟩ : S111) : Option S111) t1973  (fun z_ => pal [(0, 0), (1, 0)] (C1967_ z_)) w1971 (fun _ => pal_lt rfl _) (Ft.arg HP1972 rfl) A1974).mono ?_
     rintro _ w1976 ⟨C1977, rfl, hs1978⟩
     refine ⟨_, rfl, ?_⟩
     replace hs1978 := Step.lift (U := [(0, 0)]) hs1978 [] rfl rfl
     generalize up C1967_ C1977 w1971.heap.size [(0, 0)] = C1977_ at hs1978
     replace HJ1886 := HJ1886.thru hs1978 rfl
     replace HJ1882 := HJ1882.thru hs1978 rfl
     replace HJ1883 := HJ1883.thru hs1978 rfl
     replace HJ1887 := HJ1887.thru hs1978 rfl
     replace HJ1899 := HJ1899.thru hs1978 rfl
     replace HJ1898 := HJ1898.thru hs1978 rfl
     replace HS1903 := HS1903.trans hs1978 hc rfl
     refine hK_ _ _ (HJ1886).2 ?_
     clear hK_ K_
     (try simp only [Act.put, List.setIfInBounds_toArray, ls0, ls1])
     refine al_as 6 (lb 8 127) rfl rfl (by kernel_rfl) (fun _ _ _ => id) rfl ?_
     refine al_as 7 (lb 8 255) rfl rfl (by kernel_rfl) (fun _ _ _ => id) rfl ?_
     refine al_end (by kernel_rfl) ?_
     (try simp only [ls0, ls1])
     refine hK1970 _ _ ?_
     (try clear hK1970 K1970)
     refine wp_seq_k fun K1979 hK1979 => ?_
     refine wl_region ?_
     refine mv_ rfl ?_
     refine st (.pointer (some ⟨g0, 0, none⟩)) rfl rfl (xr_nilCheck _ rfl rfl) ?_
     refine st (.pointer (some ⟨g0, 2, none⟩)) rfl rfl (xr_fieldAddr _ _ rfl rfl (bx_field2 Try.underlying111 rfl rfl (by kernel_rfl))) ?_
     refine st (.int .i64 x1884) rfl rfl (xr_load _ _ rfl rfl (load_cell Try.underlying3 rfl (bx_cell (HJ1886).2 2 rfl))) ?_
     simp only [ls0, ls1]
     refine st (.int .i64 (wrap64 (x1884 + 1))) rfl rfl (xr_bin _ _ _ rfl rfl rfl (B.add_i64 _ _)) ?_
     refine st (.pointer (some ⟨g0, 0, none⟩)) rfl rfl (xr_nilCheck _ rfl rfl) ?_
     refine st (.pointer (some ⟨g0, 2, none⟩)) rfl rfl (xr_fieldAddr _ _ rfl rfl (bx_field2 Try.underlying111 rfl rfl (by kernel_rfl))) ?_
     refine bx_store (C := C1977_) (z := 1) (g := g0) (j := 2) (tb := 111) (u := .int .i64 (wrap64 (x1884 + 1))) (seg := [.int .i64 (wrap64 (x1884 + 1))]) (xs := [.slice A0_0 l0_0.length c0_0, .slice A0_1 l0_1.length c0_1, .int .i64 x1884, .int .i64 x1885]) rfl rfl rfl rfl rfl rfl (by first | kernel_rfl | rfl) (by simp [Value.oneCell']) HJ1886 (by simp only [List.length_cons, List.length_nil]; omega) rfl ?_
     intro w1980 HX1981 hs1982
     replace HJ1882 := HJ1882.thru hs1982 rfl
     replace HJ1883 := HJ1883.thru hs1982 rfl
     replace HJ1887 := HJ1887.thru hs1982 rfl
     replace HJ1899 := HJ1899.thru hs1982 rfl
     replace HJ1898 := HJ1898.thru hs1982 rfl
     replace HS1903 := HS1903.trans hs1982 hc rfl
     (try simp only [ls0, ls1])
     refine wl_end ?_
     (try simp only [ls0, ls1])
     refine hK1979 _ _ ?_
     (try clear hK1979 K1979)
     refine wp_seq_k fun K1983 hK1983 => ?_
     refine wl_region ?_
     refine bx_new (C := C1977_) 44 ([.int .i64 0, .int .i64 0, .int .i64 0, .string (⟨#[]⟩ : ByteArray), .string (⟨#[]⟩ : ByteArray), .slice none 0 0]) 13 rfl rfl (by first | (go_simp; done) | (go_simp; rfl)) ?_
     intro g1984 w1985 C1986 HX1987 hs1988
     replace HX1981 := HX1981.thru hs1988 rfl
     replace HJ1882 := HJ1882.thru hs1988 rfl
     replace HJ1883 := HJ1883.thru hs1988 rfl
     replace HJ1887 := HJ1887.thru hs1988 rfl
     replace HJ1899 := HJ1899.thru hs1988 rfl
     replace HJ1898 := HJ1898.thru hs1988 rfl
     replace HS1903 := HS1903.trans hs1988 hc rfl
     (try simp only [ls0, ls1])
     refine wl_end ?_
     (try simp only [ls0, ls1])
     refine hK1983 _ _ ?_
     (try clear hK1983 K1983)
     refine wp_seq_k fun K1989 hK1989 => ?_
     refine wl_region ?_
     refine mv_ rfl ?_
     refine mv_ rfl ?_
     refine st (.int .i64 (wrap64 (a1 + 1))) rfl rfl (xr_bin _ _ _ rfl rfl rfl (B.add_i64 _ _)) ?_
     obtain ⟨⟨t1990, t1991, t1992, t1993, t1994, t1995, t1996, t1997, t1998⟩, A1999, H⟩ := bnd H
     (try dsimp only at H)
     refine st_call #[.pointer (some ⟨g0, 0, none⟩), .int .i64 (wrap64 (a1 + 1))] rfl rfl Try.func82 (by kernel_rfl) rfl rfl (mp_ rfl) ?_
     refine (IH.expr_Cursor_binary g0 A0_0 c0_0 l0_0 A0_1 c0_1 l0_1 (wrap64 (x1884 + 1)) x1885 (wrap64 (a1 + 1)) t1990 t1991 t1992 t1993 t1994 t1995 t1996 t1997 t1998  (fun z_ => pal [(0, 0), (1, 1)] (C1986 z_)) w1985 (fun _ => pal_lt rfl _) (Bx.arg HX1981 rfl) (Ft.arg HJ1882 rfl) HCP0_0 (Ft.arg HJ1883 rfl) HCP0_1 A1999).mono ?_
     rintro _ w2001 ⟨C2002, A2004, cp2005, rfl, hs2003, HO2006, HC2007, HX2008⟩
     refine ⟨_, rfl, ?_⟩
     replace HO2006 := Ft.res (U := [(0, 0), (1, 1)]) HO2006 hs2003 [0] rfl rfl rfl
     replace HX2008 := Bx.res (U := [(0, 0), (1, 1)]) (j := 1) HX2008 hs2003 (by rfl) (by decide) rfl
     replace hs2003 := Step.lift (U := [(0, 0), (1, 1)]) hs2003 [1] rfl rfl
     generalize up C1986 C2002 w1985.heap.size [(0, 0), (1, 1)] = C2002_ at HO2006 HX2008 hs2003
     replace HJ1882 := HJ1882.thru hs2003 rfl
     replace HJ1883 := HJ1883.thru hs2003 rfl
     replace HJ1887 := HJ1887.thru hs2003 rfl
     replace HJ1899 := HJ1899.thru hs2003 rfl
     replace HJ1898 := HJ1898.thru hs2003 rfl
     replace HX1987 := HX1987.thru hs2003 rfl
     replace HS1903 := HS1903.trans hs2003 hc rfl
     (try simp only [ls0, ls1])
     refine mv_ rfl ?_
     refine st (.agg #[.int .i64 t1990, .int .i64 t1991, .int .i64 t1992, .string t1993, .string t1994, .slice A2004 t1995.length cp2005]) rfl rfl (xr_extract (.tuple #[.agg #[.int .i64 t1990, .int .i64 t1991, .int .i64 t1992, .string t1993, .string t1994, .slice A2004 t1995.length cp2005], .int .i64 t1996]) _ rfl rfl rfl) ?_
     refine st (.int .i64 t1996) rfl rfl (xr_extract (.tuple #[.agg #[.int .i64 t1990, .int .i64 t1991, .int .i64 t1992, .string t1993, .string t1994, .slice A2004 t1995.length cp2005], .int .i64 t1996]) _ rfl rfl rfl) ?_
     refine bx_store (C := C2002_) (z := 13) (g := g1984) (j := 0) (tb := 44) (u := .agg #[.int .i64 t1990, .int .i64 t1991, .int .i64 t1992, .string t1993, .string t1994, .slice A2004 t1995.length cp2005]) (seg := [.int .i64 t1990, .int .i64 t1991, .int .i64 t1992, .string t1993, .string t1994, .slice A2004 t1995.length cp2005]) (xs := [.int .i64 0, .int .i64 0, .int .i64 0, .string (⟨#[]⟩ : ByteArray), .string (⟨#[]⟩ : ByteArray), .slice none 0 0]) rfl rfl rfl rfl rfl rfl (by first | kernel_rfl | rfl) (by simp [Value.oneCell']) HX1987 (by simp only [List.length_cons, List.length_nil]; omega) rfl ?_
     intro w2009 HX2010 hs2011
     replace HX2008 := HX2008.thru hs2011 rfl
     replace HJ1882 := HJ1882.thru hs2011 rfl
     replace HJ1883 := HJ1883.thru hs2011 rfl
     replace HJ1887 := HJ1887.thru hs2011 rfl
     replace HJ1899 := HJ1899.thru hs2011 rfl
     replace HJ1898 := HJ1898.thru hs2011 rfl
     replace HO2006 := HO2006.thru hs2011 rfl
     replace HS1903 := HS1903.trans hs2011 hc rfl
     (try simp only [ls0, ls1])
     refine as_ rfl ?_
     refine wl_end ?_
     (try simp only [ls0, ls1])
     refine hK1989 _ _ ?_
     (try clear hK1989 K1989)
     refine wp_seq_k fun K2012 hK2012 => ?_
     refine wl_region ?_
     refine mv_ rfl ?_
     refine st (.bool (decide (t1996 = 0))) rfl rfl (xr_bin _ _ _ rfl rfl rfl (B.eql_i64 _ _)) ?_
     refine wl_end ?_
     (try simp only [ls0, ls1])
     refine hK2012 _ _ ?_
     (try clear hK2012 K2012)
     by_cases c2013 : t1996 = 0
     ·rw [if_pos c2013] at H
      (try rw [(decide_eq_true c2013)])
      refine wp_cond_true rfl ?_
      refine wl_region ?_
      refine mv_ rfl ?_
      refine st (.pointer (some ⟨g1075, 1, none⟩)) rfl rfl (xr_fieldAddr _ _ rfl rfl (bx_field2 Try.underlying44 rfl rfl (by kernel_rfl))) ?_
      refine st (.int .i64 x1889) rfl rfl (xr_load _ _ rfl rfl (load_cell Try.underlying3 rfl (bx_cell (HJ1899).2 1 rfl))) ?_
      refine mv_ rfl ?_
      simp only [ls0, ls1]
      refine st (.agg #[.int .i64 x1888, .int .i64 x1889, .int .i64 x1890, .string x1891, .string x1892, .slice A1894 x1893.length cp1896]) rfl rfl (xr_load _ _ rfl rfl (load_agg (cs := [.int .i64 x1888, .int .i64 x1889, .int .i64 x1890, .string x1891, .string x1892, .slice A1894 x1893.length cp1896]) Try.underlying44 rfl (by kernel_rfl) (bx_cells (HJ1899).2 0 rfl))) ?_
      refine st (.agg #[.int .i64 t1990, .int .i64 t1991, .int .i64 t1992, .string t1993, .string t1994, .slice A2004 t1995.length cp2005]) rfl rfl (xr_load _ _ rfl rfl (load_agg (cs := [.int .i64 t1990, .int .i64 t1991, .int .i64 t1992, .string t1993, .string t1994, .slice A2004 t1995.length cp2005]) Try.underlying44 rfl (by kernel_rfl) (bx_cells (HX2010).2 0 rfl))) ?_
      obtain ⟨y2014, A2015, H⟩ := bnd H
      refine Own.lit k44 (C := C2002_) (i := 14) rfl 44 rfl (xs := [(⟨x1888, x1889, x1890, x1891, x1892, x1893⟩ : S44), (⟨t1990, t1991, t1992, t1993, t1994, t1995⟩ : S44)]) (inner := [.int .i64 x1888, .int .i64 x1889, .int .i64 x1890, .string x1891, .string x1892, .slice A1894 x1893.length cp1896, .int .i64 t1990, .int .i64 t1991, .int .i64 t1992, .string t1993, .string t1994, .slice A2004 t1995.length cp2005]) (by first | (go_simp; done) | (go_simp; rfl)) (reps_cons (k44_mkF _ _ (⟨x1888, x1889, x1890, x1891, x1892, x1893⟩ : S44) HC1897 (Kd.F_mono (d := k44) HJ1898 (fun k_ h_ => by simpa using h_))) rfl (reps_cons (k44_mkF _ _ (⟨t1990, t1991, t1992, t1993, t1994, t1995⟩ : S44) HC2007 (Kd.F_mono (d := k44) HO2006 (fun k_ h_ => by simpa using h_))) rfl (Reps.none _ _))) (by simp only [List.length_cons, List.length_nil]; omega) (Option.some.inj A2015) ?_
      intro A2016 cp2017 w2018 C2019 HO2020 HC2021 hs2022
      replace HX2008 := HX2008.thru hs2022 rfl
      replace HJ1882 := HJ1882.thru hs2022 rfl
      replace HJ1883 := HJ1883.thru hs2022 rfl
      replace HJ1887 := HJ1887.thru hs2022 rfl
      replace HJ1899 := HJ1899.thru hs2022 rfl
      replace HJ1898 := HJ1898.thru hs2022 rfl
      replace HX2010 := HX2010.thru hs2022 rfl
      replace HO2006 := HO2006.thru hs2022 rfl
      replace HS1903 := HS1903.trans hs2022 hc rfl
      (try simp only [ls0, ls1])
      refine st (.agg #[.int .i64 5, .int .i64 x1889, .int .i64 0, .string t1973, .string (⟨#[]⟩ : ByteArray), .slice A2016 y2014.length cp2017]) rfl rfl (xr_build #[(0, .int .i64 5), (1, .int .i64 x1889), (3, .string t1973), (5, .slice A2016 y2014.length cp2017)] (.agg #[.int .i64 5, .int .i64 x1889, .int .i64 0, .string t1973, .string (⟨#[]⟩ : ByteArray), .slice A2016 y2014.length cp2017]) rfl (mp_ rfl) (by first | rfl | (go_simp; done) | (go_simp; rfl) | (go_simp; exact i64_w _) | (go_simp; exact i32_w _))) ?_
      refine mv_ rfl ?_
      replace HX2008 := Bx.recol (a := 14) (b := 0) HX2008 (by decide)
      replace HJ1882 := Ft.recol (a := 14) (b := 0) HJ1882 (.inl rfl)
      replace HJ1883 := Ft.recol (a := 14) (b := 0) HJ1883 (.inl rfl)
      replace HJ1887 := Bx.recol (a := 14) (b := 0) HJ1887 (by decide)
      replace HJ1899 := Bx.recol (a := 14) (b := 0) HJ1899 (by decide)
      replace HJ1898 := Ft.recol (a := 14) (b := 0) HJ1898 (.inl rfl)
      replace HX2010 := Bx.recol (a := 14) (b := 0) HX2010 (by decide)
      replace HO2006 := Ft.recol (a := 14) (b := 0) HO2006 (.inl rfl)
      have HR2023 := Ft.recolor (a := 14) (b := 0) (HO2020.ft) [0] rfl
      replace HS1903 := Step.recol (a := 14) (b := 0) HS1903 hc (by decide)
      obtain ⟨⟨t2024, t2025, t2026, t2027, t2028, t2029, t2030, t2031⟩, A2032, H⟩ := bnd H
      (try dsimp only at H)
      refine st_call #[.pointer (some ⟨g0, 0, none⟩), .agg #[.int .i64 5, .int .i64 x1889, .int .i64 0, .string t1973, .string (⟨#[]⟩ : ByteArray), .slice A2016 y2014.length cp2017], .int .i64 x1884] rfl rfl Try.func104 (by kernel_rfl) rfl rfl (mp_ rfl) ?_
      refine (expr_Cursor_held.calls k1908 g0 A0_0 c0_0 l0_0 A0_1 c0_1 l0_1 t1997 t1998 5 x1889 0 t1973 (⟨#[]⟩ : ByteArray) A2016 cp2017 y2014 x1884 t2024 t2025 t2026 t2027 t2028 t2029 t2030 t2031  (fun z_ => pal [(0, 0), (1, 1)] ((recol C2019 14 0) z_)) w2018 (fun _ => pal_lt rfl _) (Bx.arg HX2008 rfl) (Ft.arg HJ1882 rfl) HCP0_0 (Ft.arg HJ1883 rfl) HCP0_1 (Ft.arg HR2023 rfl) HC2021 A2032).mono ?_
      rintro _ w2034 ⟨C2035, A2037, cp2038, rfl, hs2036, HO2039, HC2040, HX2041⟩
      refine ⟨_, rfl, ?_⟩
      replace HO2039 := Ft.res (U := [(0, 0), (1, 1)]) HO2039 hs2036 [0] rfl rfl rfl
      replace HX2041 := Bx.res (U := [(0, 0), (1, 1)]) (j := 1) HX2041 hs2036 (by rfl) (by decide) rfl
      replace hs2036 := Step.lift (U := [(0, 0), (1, 1)]) hs2036 [1] rfl rfl
      generalize up (recol C2019 14 0) C2035 w2018.heap.size [(0, 0), (1, 1)] = C2035_ at HO2039 HX2041 hs2036
      replace HJ1882 := HJ1882.thru hs2036 rfl
      replace HJ1883 := HJ1883.thru hs2036 rfl
      replace HJ1887 := HJ1887.thru hs2036 rfl
      replace HJ1899 := HJ1899.thru hs2036 rfl
      replace HJ1898 := HJ1898.thru hs2036 rfl
      replace HX2010 := HX2010.thru hs2036 rfl
      replace HO2006 := HO2006.thru hs2036 rfl
      replace HS1903 := HS1903.trans hs2036 hc rfl
      (try simp only [ls0, ls1])
      refine mv_ rfl ?_
      refine st (.agg #[.int .i64 t2024, .int .i64 t2025, .int .i64 t2026, .string t2027, .string t2028, .slice A2037 t2029.length cp2038]) rfl rfl (xr_extract (.tuple #[.agg #[.int .i64 t2024, .int .i64 t2025, .int .i64 t2026, .string t2027, .string t2028, .slice A2037 t2029.length cp2038], .int .i64 t2030]) _ rfl rfl rfl) ?_
      refine st (.int .i64 t2030) rfl rfl (xr_extract (.tuple #[.agg #[.int .i64 t2024, .int .i64 t2025, .int .i64 t2026, .string t2027, .string t2028, .slice A2037 t2029.length cp2038], .int .i64 t2030]) _ rfl rfl rfl) ?_
      refine bx_store (C := C2035_) (z := 12) (g := g1075) (j := 0) (tb := 44) (u := .agg #[.int .i64 t2024, .int .i64 t2025, .int .i64 t2026, .string t2027, .string t2028, .slice A2037 t2029.length cp2038]) (seg := [.int .i64 t2024, .int .i64 t2025, .int .i64 t2026, .string t2027, .string t2028, .slice A2037 t2029.length cp2038]) (xs := [.int .i64 x1888, .int .i64 x1889, .int .i64 x1890, .string x1891, .string x1892, .slice A1894 x1893.length cp1896]) rfl rfl rfl rfl rfl rfl (by first | kernel_rfl | rfl) (by simp [Value.oneCell']) HJ1899 (by simp only [List.length_cons, List.length_nil]; omega) rfl ?_
      intro w2042 HX2043 hs2044
      replace HX2041 := HX2041.thru hs2044 rfl
      replace HJ1882 := HJ1882.thru hs2044 rfl
      replace HJ1883 := HJ1883.thru hs2044 rfl
      replace HJ1887 := HJ1887.thru hs2044 rfl
      replace HO2039 := HO2039.thru hs2044 rfl
      replace HX2010 := HX2010.thru hs2044 rfl
      replace HO2006 := HO2006.thru hs2044 rfl
      replace HS1903 := HS1903.trans hs2044 hc rfl
      (try simp only [ls0, ls1])
      refine as_ rfl ?_
      refine wl_end ?_
      (try simp only [ls0, ls1])
      exact jmpL (fun a_ h_ => ih1905 k1908 (by omega) a_ _ h_) (fun g_ => ⟨_, t2030, t2031, t1998, t2024, t2025, t2026, t2027, t2028, A2037, t2029.length, cp2038, t2029, g_, rfl, HS1903, (by omega), HJ1882, HJ1883, HX2041, HJ1887, HO2039, HC2040, HX2043, H⟩) rfl
     rw [if_neg c2013] at H
     (try rw [(decide_eq_false c2013)])
     refine wp_cond_false rfl ?_
     refine wp_skip ?_
     (try simp only [ls0, ls1])
     exact jmpL (fun a_ h_ => ih1905 k1908 (by omega) a_ _ h_) (fun g_ => ⟨_, t1996, t1997, t1998, x1888, x1889, x1890, x1891, x1892, A1894, x1893.length, cp1896, x1893, g_, rfl, HS1903, (by omega), HJ1882, HJ1883, HX2008, HJ1887, HJ1898, HC1897, HJ1899, H⟩) rfl
    rw [if_neg c1969] at H
    (try rw [(decide_eq_false c1969)])
    refine wp_cond_false rfl ?_
    refine wp_exit ?_
    (try simp only [ls0, ls1])
    exact jmp (fun g_ => hj1546 _ _ _ (x1881) (x1884) (x1885) (x1888) (x1889) (x1890) (x1891) (x1892) (A1894) (x1893.length) (cp1896) (x1893) g_ HS1903 (by omega) HJ1882 HJ1883 HJ1886 HJ1887 HJ1898 HC1897 HJ1899 H) rfl
   rw [if_neg c1955] at H
   (try rw [(decide_eq_false c1955)])
   refine sk_guard (guard_off 2 true 26 rfl rfl false (by decide) rfl) rfl ?_
   refine sk_guard (guard_off 2 true 26 rfl rfl false (by decide) rfl) rfl ?_
   refine sk_guard (guard_off 2 true 26 rfl rfl false (by decide) rfl) rfl ?_
   refine sk_guard (guard_off 2 true 26 rfl rfl false (by decide) rfl) rfl ?_
   simp only [ls0, ls1]
   refine sk_guard (guard_off 2 true 26 rfl rfl false (by decide) rfl) rfl ?_
   refine st (.bool false) rfl rfl (xr_pick false _ rfl rfl rfl) ?_
   refine wl_end ?_
   (try simp only [ls0, ls1])
   refine hK1940 _ _ ?_
   (try clear hK1940 K1940)
   refine wp_cond_false rfl ?_
   refine wp_exit ?_
   (try simp only [ls0, ls1])
   exact jmp (fun g_ => hj1546 _ _ _ (x1881) (x1884) (x1885) (x1888) (x1889) (x1890) (x1891) (x1892) (A1894) (x1893.length) (cp1896) (x1893) g_ HS1903 (by omega) HJ1882 HJ1883 HJ1886 HJ1887 HJ1898 HC1897 HJ1899 H) rfl

/-! ### expr_Cursor_signed: function 102 -/
def expr_Cursor_signed.j0 (r_ : Rec_expr_Cursor_binary) : Nat → Int → Int → (List Int) → (List (S28)) → ByteArray → Int → Bool → Option (Int × Int × Int × ByteArray × ByteArray × (List (S44)) × Int × Int × Int)
  | 0, _, _, _, _, _, _, _ => none
  | k + 1, a0_2, a0_3, l0_0, l0_1, t199, t206, x258 => if x258 = true then ((r_.expr_Cursor_primary l0_0 l0_1 a0_2 a0_3).bind fun bt268 => (some (bt268.1, bt268.2.1, bt268.2.2.1, bt268.2.2.2.1, bt268.2.2.2.2.1, bt268.2.2.2.2.2.1, bt268.2.2.2.2.2.2.1, bt268.2.2.2.2.2.2.2.1, bt268.2.2.2.2.2.2.2.2))) else ((expr_Cursor_down.f l0_0 l0_1 a0_2 a0_3).bind fun bt292 => (if bt292.1 = 0 then ((r_.expr_Cursor_signed l0_0 l0_1 bt292.2.1 bt292.2.2).bind fun bt304 => (if bt304.2.2.2.2.2.2.1 = 0 then ((some ([(⟨bt304.1, bt304.2.1, bt304.2.2.1, bt304.2.2.2.1, bt304.2.2.2.2.1, bt304.2.2.2.2.2.1⟩ : S44)] : List (S44))).bind fun y339 => ((expr_Cursor_held.f k l0_0 l0_1 bt304.2.2.2.2.2.2.2.1 (wrap64 (bt304.2.2.2.2.2.2.2.2 - 1)) 4 t206 0 t199 (⟨#[]⟩ : ByteArray) y339 a0_2).bind fun bt349 => (some (bt349.1, bt349.2.1, bt349.2.2.1, bt349.2.2.2.1, bt349.2.2.2.2.1, bt349.2.2.2.2.2.1, bt349.2.2.2.2.2.2.1, bt349.2.2.2.2.2.2.2, wrap64 (bt304.2.2.2.2.2.2.2.2 - 1))))) else (some (0, 0, 0, (⟨#[]⟩ : ByteArray), (⟨#[]⟩ : ByteArray), ([] : List (S44)), bt304.2.2.2.2.2.2.1, bt304.2.2.2.2.2.2.2.1, bt304.2.2.2.2.2.2.2.2)))) else (some (0, 0, 0, (⟨#[]⟩ : ByteArray), (⟨#[]⟩ : ByteArray), ([] : List (S44)), bt292.1, bt292.2.1, bt292.2.2))))
def expr_Cursor_signed.g (r_ : Rec_expr_Cursor_binary) (k : Nat) (l0_0 : List Int) (l0_1 : List (S28)) (a0_2 : Int) (a0_3 : Int) : Option (Int × Int × Int × ByteArray × ByteArray × (List (S44)) × Int × Int × Int) := (expr_Cursor_Peek.f (some (⟨l0_0, l0_1, a0_2, a0_3⟩ : S111) : Option S111)).bind fun t199 => ((expr_Cursor_Pos.f (some (⟨l0_0, l0_1, a0_2, a0_3⟩ : S111) : Option S111)).bind fun t206 => (if t199 = (⟨#[33]⟩ : ByteArray) then (expr_Cursor_signed.j0 r_ k a0_2 a0_3 l0_0 l0_1 t199 t206 false) else (expr_Cursor_signed.j0 r_ k a0_2 a0_3 l0_0 l0_1 t199 t206 (!decide (t199 = (⟨#[45]⟩ : ByteArray))))))

set_option maxHeartbeats 8000000 in
set_option maxRecDepth 100000 in
theorem expr_Cursor_signed.step (r_ : Rec_expr_Cursor_binary) (IH : Rec_expr_Cursor_binary.Good r_) (k : Nat) (g0 : Nat) (A0_0 : Option Addr) (c0_0 : Nat) (l0_0 : List Int) (A0_1 : Option Addr) (c0_1 : Nat) (l0_1 : List (S28)) (a0_2 : Int) (a0_3 : Int) (r1 : Int) (r2 : Int) (r3 : Int) (r4 : ByteArray) (r5 : ByteArray) (r6 : List (S44)) (r7 : Int) (r8 : Int) (r9 : Int) (c : Nat → Nat) (w : World) (hc : ∀ k, c k < 10) (HP0 : Bx c 1 w g0 111 ([.slice A0_0 l0_0.length c0_0, .slice A0_1 l0_1.length c0_1, .int .i64 a0_2, .int .i64 a0_3])) (HP0_0 : Ft c [0] w (fun w_ => (Kd.int .u8).C w_ A0_0 l0_0.length l0_0)) (HCP0_0 : l0_0.length ≤ c0_0) (HP0_1 : Ft c [0] w (fun w_ => k28.C w_ A0_1 l0_1.length l0_1)) (HCP0_1 : l0_1.length ≤ c0_1) (H : expr_Cursor_signed.g r_ k l0_0 l0_1 a0_2 a0_3 = some (r1, r2, r3, r4, r5, r6, r7, r8, r9)) :
    Calls Try.prog 102 #[.pointer (some ⟨g0, 0, none⟩)] w fun e w' => ∃ (c' : Nat → Nat) (A_r6 : Option Addr) (c_r6 : Nat), e = .returned (.tuple #[.agg #[.int .i64 r1, .int .i64 r2, .int .i64 r3, .string r4, .string r5, .slice A_r6 r6.length c_r6], .int .i64 r7]) ∧ Step c w c' w' [1] ∧ Ft c' [0] w' (fun w_ => k44.C w_ A_r6 r6.length r6) ∧ r6.length ≤ c_r6 ∧ Bx c' 1 w' g0 111 ([.slice A0_0 l0_0.length c0_0, .slice A0_1 l0_1.length c0_1, .int .i64 r8, .int .i64 r9]) := by
 unfold expr_Cursor_signed.g at H
 have HS := Step.refl c w [1]
 go_enter Try.func102, Try.ntmps102
 refine wp_seq_k fun K190 hK190 => ?_
 refine wl_region ?_
 refine bx_new (C := c) 44 ([.int .i64 0, .int .i64 0, .int .i64 0, .string (⟨#[]⟩ : ByteArray), .string (⟨#[]⟩ : ByteArray), .slice none 0 0]) 11 rfl rfl (by first | (go_simp; done) | (go_simp; rfl)) ?_
 intro g191 w192 C193 HX194 hs195
 replace HP0 := HP0.thru hs195 rfl
 replace HP0_0 := HP0_0.thru hs195 rfl
 replace HP0_1 := HP0_1.thru hs195 rfl
 replace HS := HS.trans hs195 hc rfl
 (try simp only [ls0, ls1])
 refine st (.int .i64 0) rfl rfl (xr_assign _ rfl rfl) ?_
 refine wl_end ?_
 (try simp only [ls0, ls1])
 refine hK190 _ _ ?_
 (try clear hK190 K190)
 refine wp_seq_k fun K196 hK196 => ?_
 (try simp only [ls0, ls1])
 refine al_start (lb 11 0) rfl rfl rfl (fun w_ => w_.heap[g0]? = some (.cells (List.toArray ([.slice A0_0 l0_0.length c0_0, .slice A0_1 l0_1.length c0_1, .int .i64 a0_2, .int .i64 a0_3])) 111 (0, 0))) (HP0.drew).2 [] ?_
 replace HP0 := HP0.drew
 replace HP0_0 := HP0_0.drew
 replace HP0_1 := HP0_1.drew
 replace HX194 := HX194.drew
 replace HS := Step.ofDrew HS
 generalize w192.drew = w197 at *
 refine al_mv 0 (lb 11 1) rfl rfl (by kernel_rfl) (fun _ _ _ => id) rfl ?_
 refine al_mv 2 (lb 11 5) rfl rfl (by kernel_rfl) (fun _ _ _ => id) rfl ?_
 refine al_pure 3 13 (.pointer (some ⟨g0, 0, none⟩)) (lb 11 13) rfl rfl (by kernel_rfl) (fun _ _ _ => id) rfl (fun w_ => xr_nilCheck _ rfl rfl) ?_
 refine al_pure 4 14 (.pointer (some ⟨g0, 2, none⟩)) (lb 11 29) rfl rfl (by kernel_rfl) (fun _ _ _ => id) rfl (fun w_ => xr_fieldAddr _ _ rfl rfl (bx_field2 Try.underlying111 rfl rfl (by kernel_rfl))) ?_
 simp only [ls0, ls1]
 refine al_mv 6 (lb 11 93) rfl rfl (by kernel_rfl) (fun _ _ _ => id) rfl ?_
 refine al_take 5 15 (.int .i64 a0_2) (lb 11 125) rfl rfl (by kernel_rfl) (fun _ _ _ => id) rfl (fun w_ hS_ => xr_load _ _ rfl rfl (load_cell Try.underlying3 rfl (bx_cell hS_ 2 rfl))) (HP0).2 ?_
 have HP198 : Ft C193 [0, 1] w197 (fun w_ => (Kd.ptr 111 k111).K w_ (some (⟨l0_0, l0_1, a0_2, a0_3⟩ : S111)) [.pointer (some ⟨g0, 0, none⟩)]) := ptr_mk (Ft.more (HP0.ft) rfl) (k111_mkF _ _ (⟨l0_0, l0_1, a0_2, a0_3⟩ : S111) HCP0_0 (Ft.more HP0_0 rfl) HCP0_1 (Ft.more HP0_1 rfl))
 obtain ⟨t199, A200, H⟩ := bnd H
 refine al_one 1 (lb 11 127) rfl rfl (by kernel_rfl) rfl (fun K_ hK_ => ?_)
 refine goes_ Try.func43 (by kernel_rfl) rfl #[.pointer (some ⟨g0, 0, none⟩)] rfl rfl rfl (mpe_ rfl) ?_
 refine (expr_Cursor_Peek.calls (.pointer (some ⟨g0, 0, none⟩)) (some (⟨l0_0, l0_1, a0_2, a0_3⟩ : S111) : Option S111) t199  (fun z_ => pal [(0, 0), (1, 0)] (C193 z_)) w197 (fun _ => pal_lt rfl _) (Ft.arg HP198 rfl) A200).mono ?_
 rintro _ w202 ⟨C203, rfl, hs204⟩
 refine ⟨_, rfl, ?_⟩
 replace hs204 := Step.lift (U := [(0, 0)]) hs204 [] rfl rfl
 generalize up C193 C203 w197.heap.size [(0, 0)] = C203_ at hs204
 replace HP0 := HP0.thru hs204 rfl
 replace HP0_0 := HP0_0.thru hs204 rfl
 replace HP0_1 := HP0_1.thru hs204 rfl
 replace HX194 := HX194.thru hs204 rfl
 replace HS := HS.trans hs204 hc rfl
 refine hK_ _ _ (HP0).2 ?_
 clear hK_ K_
 (try simp only [Act.put, List.setIfInBounds_toArray, ls0, ls1])
 have HP205 : Ft C203_ [0, 1] w202 (fun w_ => (Kd.ptr 111 k111).K w_ (some (⟨l0_0, l0_1, a0_2, a0_3⟩ : S111)) [.pointer (some ⟨g0, 0, none⟩)]) := ptr_mk (Ft.more (HP0.ft) rfl) (k111_mkF _ _ (⟨l0_0, l0_1, a0_2, a0_3⟩ : S111) HCP0_0 (Ft.more HP0_0 rfl) HCP0_1 (Ft.more HP0_1 rfl))
 obtain ⟨t206, A207, H⟩ := bnd H
 refine al_one 7 (lb 11 255) rfl rfl (by kernel_rfl) rfl (fun K_ hK_ => ?_)
 refine goes_ Try.func44 (by kernel_rfl) rfl #[.pointer (some ⟨g0, 0, none⟩)] rfl rfl rfl (mpe_ rfl) ?_
 refine (expr_Cursor_Pos.calls (.pointer (some ⟨g0, 0, none⟩)) (some (⟨l0_0, l0_1, a0_2, a0_3⟩ : S111) : Option S111) t206  (fun z_ => pal [(0, 0), (1, 0)] (C203_ z_)) w202 (fun _ => pal_lt rfl _) (Ft.arg HP205 rfl) A207).mono ?_
 rintro _ w209 ⟨C210, rfl, hs211⟩
 refine ⟨_, rfl, ?_⟩
 replace hs211 := Step.lift (U := [(0, 0)]) hs211 [] rfl rfl
 generalize up C203_ C210 w202.heap.size [(0, 0)] = C210_ at hs211
 replace HP0 := HP0.thru hs211 rfl
 replace HP0_0 := HP0_0.thru hs211 rfl
 replace HP0_1 := HP0_1.thru hs211 rfl
 replace HX194 := HX194.thru hs211 rfl
 replace HS := HS.trans hs211 hc rfl
 refine hK_ _ _ (HP0).2 ?_
 clear hK_ K_
 (try simp only [Act.put, List.setIfInBounds_toArray, ls0, ls1])
 refine al_as 8 (lb 11 511) rfl rfl (by kernel_rfl) (fun _ _ _ => id) rfl ?_
 refine al_as 9 (lb 11 1023) rfl rfl (by kernel_rfl) (fun _ _ _ => id) rfl ?_
 refine al_as 10 (lb 11 2047) rfl rfl (by kernel_rfl) (fun _ _ _ => id) rfl ?_
 refine al_end (by kernel_rfl) ?_
 (try simp only [ls0, ls1])
 refine hK196 _ _ ?_
 (try clear hK196 K196)
 refine wp_seq_k fun K212 hK212 => ?_
 refine wp_seq_k fun K252 hK252 => ?_
 have hj254 : ∀ (kq263 : Nat) (C255 : Nat → Nat) (w256 : World) (x258 : Bool) (g_ : Nat → Value), Step c w C255 w256 [1] → kq263 ≤ k → (Ft C255 [0] w256 (fun w_ => (Kd.int .u8).C w_ A0_0 l0_0.length l0_0)) → (Ft C255 [0] w256 (fun w_ => k28.C w_ A0_1 l0_1.length l0_1)) → (Bx C255 1 w256 g0 111 ([.slice A0_0 l0_0.length c0_0, .slice A0_1 l0_1.length c0_1, .int .i64 a0_2, .int .i64 a0_3])) → (Bx C255 11 w256 g191 44 ([.int .i64 0, .int .i64 0, .int .i64 0, .string (⟨#[]⟩ : ByteArray), .string (⟨#[]⟩ : ByteArray), .slice none 0 0])) → expr_Cursor_signed.j0 r_ kq263 a0_2 a0_3 l0_0 l0_1 t199 t206 x258 = some (r1, r2, r3, r4, r5, r6, r7, r8, r9) → K252 ⟨#[.pointer (some ⟨g0, 0, none⟩), (g_ 1), .pointer (some ⟨g191, 0, none⟩), (g_ 3), .string t199, .int .i64 a0_2, .int .i64 t206, (g_ 7), (g_ 8), (g_ 9), (g_ 10), (g_ 11), (g_ 12), (g_ 13), (g_ 14), (g_ 15), (g_ 16), (g_ 17), (g_ 18), (g_ 19), (g_ 20), (g_ 21), (g_ 22), .bool x258, (g_ 24), (g_ 25), (g_ 26), (g_ 27), (g_ 28), (g_ 29), (g_ 30), (g_ 31), (g_ 32), (g_ 33), (g_ 34), (g_ 35), (g_ 36), (g_ 37), (g_ 38), (g_ 39), (g_ 40), (g_ 41), (g_ 42), (g_ 43), (g_ 44), (g_ 45), (g_ 46), (g_ 47), (g_ 48), (g_ 49), (g_ 50), (g_ 51), (g_ 52), (g_ 53), (g_ 54), (g_ 55), (g_ 56), (g_ 57), (g_ 58), (g_ 59)], []⟩ w256 := by
  intro kq263 C255 w256 x258 g_ HS257 hk264 HJ259 HJ260 HJ261 HJ262 H
  cases kq263 with
  | zero => exact absurd H (by simp [expr_Cursor_signed.j0])
  | succ k265 =>
   simp only [expr_Cursor_signed.j0] at H
   refine hK252 _ _ ?_
   (try clear hK252)
   by_cases c266 : x258 = true
   ·rw [if_pos c266] at H
    (try rw [c266])
    refine wp_cond_true rfl ?_
    refine wp_seq_k fun K267 hK267 => ?_
    refine wl_region ?_
    refine mv_ rfl ?_
    obtain ⟨⟨t268, t269, t270, t271, t272, t273, t274, t275, t276⟩, A277, H⟩ := bnd H
    (try dsimp only at H)
    refine st_call #[.pointer (some ⟨g0, 0, none⟩)] rfl rfl Try.func120 (by kernel_rfl) rfl rfl (mp_ rfl) ?_
    refine (IH.expr_Cursor_primary g0 A0_0 c0_0 l0_0 A0_1 c0_1 l0_1 a0_2 a0_3 t268 t269 t270 t271 t272 t273 t274 t275 t276  (fun z_ => pal [(0, 0), (1, 1)] (C255 z_)) w256 (fun _ => pal_lt rfl _) (Bx.arg HJ261 rfl) (Ft.arg HJ259 rfl) HCP0_0 (Ft.arg HJ260 rfl) HCP0_1 A277).mono ?_
    rintro _ w279 ⟨C280, A282, cp283, rfl, hs281, HO284, HC285, HX286⟩
    refine ⟨_, rfl, ?_⟩
    replace HO284 := Ft.res (U := [(0, 0), (1, 1)]) HO284 hs281 [0] rfl rfl rfl
    replace HX286 := Bx.res (U := [(0, 0), (1, 1)]) (j := 1) HX286 hs281 (by rfl) (by decide) rfl
    replace hs281 := Step.lift (U := [(0, 0), (1, 1)]) hs281 [1] rfl rfl
    generalize up C255 C280 w256.heap.size [(0, 0), (1, 1)] = C280_ at HO284 HX286 hs281
    replace HJ259 := HJ259.thru hs281 rfl
    replace HJ260 := HJ260.thru hs281 rfl
    replace HJ262 := HJ262.thru hs281 rfl
    replace HS257 := HS257.trans hs281 hc rfl
    (try simp only [ls0, ls1])
    refine st (.agg #[.int .i64 t268, .int .i64 t269, .int .i64 t270, .string t271, .string t272, .slice A282 t273.length cp283]) rfl rfl (xr_extract (.tuple #[.agg #[.int .i64 t268, .int .i64 t269, .int .i64 t270, .string t271, .string t272, .slice A282 t273.length cp283], .int .i64 t274]) _ rfl rfl rfl) ?_
    refine st (.int .i64 t274) rfl rfl (xr_extract (.tuple #[.agg #[.int .i64 t268, .int .i64 t269, .int .i64 t270, .string t271, .string t272, .slice A282 t273.length cp283], .int .i64 t274]) _ rfl rfl rfl) ?_
    refine bx_store (C := C280_) (z := 11) (g := g191) (j := 0) (tb := 44) (u := .agg #[.int .i64 t268, .int .i64 t269, .int .i64 t270, .string t271, .string t272, .slice A282 t273.length cp283]) (seg := [.int .i64 t268, .int .i64 t269, .int .i64 t270, .string t271, .string t272, .slice A282 t273.length cp283]) (xs := [.int .i64 0, .int .i64 0, .int .i64 0, .string (⟨#[]⟩ : ByteArray), .string (⟨#[]⟩ : ByteArray), .slice none 0 0]) rfl rfl rfl rfl rfl rfl (by first | kernel_rfl | rfl) (by simp [Value.oneCell']) HJ262 (by simp only [List.length_cons, List.length_nil]; omega) rfl ?_
    intro w287 HX288 hs289
    replace HX286 := HX286.thru hs289 rfl
    replace HJ259 := HJ259.thru hs289 rfl
    replace HJ260 := HJ260.thru hs289 rfl
    replace HO284 := HO284.thru hs289 rfl
    replace HS257 := HS257.trans hs289 hc rfl
    (try simp only [ls0, ls1])
    refine as_ rfl ?_
    refine wl_end ?_
    (try simp only [ls0, ls1])
    refine hK267 _ _ ?_
    (try clear hK267 K267)
    refine wp_ret ?_
    (try simp only [Exit.inBlock, Exit.then, Exit.noGoto])
    (try simp only [ls0, ls1])
    simp only [Option.some.injEq, Prod.mk.injEq] at H
    obtain ⟨rfl, rfl, rfl, rfl, rfl, rfl, rfl, rfl, rfl⟩ := H
    refine bodyPost_ret (res_ct rfl rfl (load_of (load_agg (cs := [.int .i64 t268, .int .i64 t269, .int .i64 t270, .string t271, .string t272, .slice A282 t273.length cp283]) Try.underlying44 rfl (by kernel_rfl) (bx_cells (HX288).2 0 rfl)))) rfl ?_
    exact ⟨_, A282, cp283, rfl, HS257, HO284, HC285, HX286⟩
   rw [if_neg c266] at H
   (try rw [(Bool.eq_false_iff.mpr c266)])
   refine wp_cond_false rfl ?_
   refine wp_skip ?_
   (try simp only [ls0, ls1])
   refine hK212 _ _ ?_
   (try clear hK212 K212)
   refine wp_seq_k fun K290 hK290 => ?_
   refine wp_seq_k fun K291 hK291 => ?_
   refine wl_region ?_
   refine mv_ rfl ?_
   obtain ⟨⟨t292, t293, t294⟩, A295, H⟩ := bnd H
   (try dsimp only at H)
   refine st_call #[.pointer (some ⟨g0, 0, none⟩)] rfl rfl Try.func121 (by kernel_rfl) rfl rfl (mp_ rfl) ?_
   refine (expr_Cursor_down.calls g0 A0_0 c0_0 l0_0 A0_1 c0_1 l0_1 a0_2 a0_3 t292 t293 t294  (fun z_ => pal [(0, 0), (1, 1)] (C255 z_)) w256 (fun _ => pal_lt rfl _) (Bx.arg HJ261 rfl) (Ft.arg HJ259 rfl) HCP0_0 (Ft.arg HJ260 rfl) HCP0_1 A295).mono ?_
   rintro _ w297 ⟨C298, rfl, hs299, HX300⟩
   refine ⟨_, rfl, ?_⟩
   replace HX300 := Bx.res (U := [(0, 0), (1, 1)]) (j := 1) HX300 hs299 (by rfl) (by decide) rfl
   replace hs299 := Step.lift (U := [(0, 0), (1, 1)]) hs299 [1] rfl rfl
   generalize up C255 C298 w256.heap.size [(0, 0), (1, 1)] = C298_ at HX300 hs299
   replace HJ259 := HJ259.thru hs299 rfl
   replace HJ260 := HJ260.thru hs299 rfl
   replace HJ262 := HJ262.thru hs299 rfl
   replace HS257 := HS257.trans hs299 hc rfl
   (try simp only [ls0, ls1])
   refine as_ rfl ?_
   refine wl_end ?_
   (try simp only [ls0, ls1])
   refine hK291 _ _ ?_
   (try clear hK291 K291)
   refine wp_seq_k fun K301 hK301 => ?_
   refine wl_region ?_
   refine mv_ rfl ?_
   refine st (.bool (!decide (t292 = 0))) rfl rfl (xr_bin _ _ _ rfl rfl rfl (B.neq_i64 _ _)) ?_
   refine wl_end ?_
   (try simp only [ls0, ls1])
   refine hK301 _ _ ?_
   (try clear hK301 K301)
   by_cases c302 : t292 = 0
   ·rw [if_pos c302] at H
    (try rw [(decide_eq_true c302)])
    (try simp only [Bool.not_true, Bool.not_false])
    refine wp_cond_false rfl ?_
    refine wp_skip ?_
    (try simp only [ls0, ls1])
    refine hK290 _ _ ?_
    (try clear hK290 K290)
    refine wp_seq_k fun K303 hK303 => ?_
    refine wl_region ?_
    refine mv_ rfl ?_
    obtain ⟨⟨t304, t305, t306, t307, t308, t309, t310, t311, t312⟩, A313, H⟩ := bnd H
    (try dsimp only at H)
    refine st_call #[.pointer (some ⟨g0, 0, none⟩)] rfl rfl Try.func102 (by kernel_rfl) rfl rfl (mp_ rfl) ?_
    refine (IH.expr_Cursor_signed g0 A0_0 c0_0 l0_0 A0_1 c0_1 l0_1 t293 t294 t304 t305 t306 t307 t308 t309 t310 t311 t312  (fun z_ => pal [(0, 0), (1, 1)] (C298_ z_)) w297 (fun _ => pal_lt rfl _) (Bx.arg HX300 rfl) (Ft.arg HJ259 rfl) HCP0_0 (Ft.arg HJ260 rfl) HCP0_1 A313).mono ?_
    rintro _ w315 ⟨C316, A318, cp319, rfl, hs317, HO320, HC321, HX322⟩
    refine ⟨_, rfl, ?_⟩
    replace HO320 := Ft.res (U := [(0, 0), (1, 1)]) HO320 hs317 [0] rfl rfl rfl
    replace HX322 := Bx.res (U := [(0, 0), (1, 1)]) (j := 1) HX322 hs317 (by rfl) (by decide) rfl
    replace hs317 := Step.lift (U := [(0, 0), (1, 1)]) hs317 [1] rfl rfl
    generalize up C298_ C316 w297.heap.size [(0, 0), (1, 1)] = C316_ at HO320 HX322 hs317
    replace HJ259 := HJ259.thru hs317 rfl
    replace HJ260 := HJ260.thru hs317 rfl
    replace HJ262 := HJ262.thru hs317 rfl
    replace HS257 := HS257.trans hs317 hc rfl
    (try simp only [ls0, ls1])
    refine mv_ rfl ?_
    refine st (.agg #[.int .i64 t304, .int .i64 t305, .int .i64 t306, .string t307, .string t308, .slice A318 t309.length cp319]) rfl rfl (xr_extract (.tuple #[.agg #[.int .i64 t304, .int .i64 t305, .int .i64 t306, .string t307, .string t308, .slice A318 t309.length cp319], .int .i64 t310]) _ rfl rfl rfl) ?_
    refine st (.int .i64 t310) rfl rfl (xr_extract (.tuple #[.agg #[.int .i64 t304, .int .i64 t305, .int .i64 t306, .string t307, .string t308, .slice A318 t309.length cp319], .int .i64 t310]) _ rfl rfl rfl) ?_
    refine bx_new (C := C316_) 44 ([.int .i64 0, .int .i64 0, .int .i64 0, .string (⟨#[]⟩ : ByteArray), .string (⟨#[]⟩ : ByteArray), .slice none 0 0]) 12 rfl rfl (by first | (go_simp; done) | (go_simp; rfl)) ?_
    intro g323 w324 C325 HX326 hs327
    replace HX322 := HX322.thru hs327 rfl
    replace HJ259 := HJ259.thru hs327 rfl
    replace HJ260 := HJ260.thru hs327 rfl
    replace HJ262 := HJ262.thru hs327 rfl
    replace HO320 := HO320.thru hs327 rfl
    replace HS257 := HS257.trans hs327 hc rfl
    (try simp only [ls0, ls1])
    refine bx_store (C := C325) (z := 12) (g := g323) (j := 0) (tb := 44) (u := .agg #[.int .i64 t304, .int .i64 t305, .int .i64 t306, .string t307, .string t308, .slice A318 t309.length cp319]) (seg := [.int .i64 t304, .int .i64 t305, .int .i64 t306, .string t307, .string t308, .slice A318 t309.length cp319]) (xs := [.int .i64 0, .int .i64 0, .int .i64 0, .string (⟨#[]⟩ : ByteArray), .string (⟨#[]⟩ : ByteArray), .slice none 0 0]) rfl rfl rfl rfl rfl rfl (by first | kernel_rfl | rfl) (by simp [Value.oneCell']) HX326 (by simp only [List.length_cons, List.length_nil]; omega) rfl ?_
    intro w328 HX329 hs330
    replace HX322 := HX322.thru hs330 rfl
    replace HJ259 := HJ259.thru hs330 rfl
    replace HJ260 := HJ260.thru hs330 rfl
    replace HJ262 := HJ262.thru hs330 rfl
    replace HO320 := HO320.thru hs330 rfl
    replace HS257 := HS257.trans hs330 hc rfl
    (try simp only [ls0, ls1])
    refine as_ rfl ?_
    refine wl_end ?_
    (try simp only [ls0, ls1])
    refine hK303 _ _ ?_
    (try clear hK303 K303)
    refine wp_seq_k fun K331 hK331 => ?_
    refine wp_seq_k fun K332 hK332 => ?_
    refine wl_region ?_
    refine mv_ rfl ?_
    refine st (.bool (!decide (t310 = 0))) rfl rfl (xr_bin _ _ _ rfl rfl rfl (B.neq_i64 _ _)) ?_
    refine wl_end ?_
    (try simp only [ls0, ls1])
    refine hK332 _ _ ?_
    (try clear hK332 K332)
    by_cases c333 : t310 = 0
    ·rw [if_pos c333] at H
     (try rw [(decide_eq_true c333)])
     (try simp only [Bool.not_true, Bool.not_false])
     refine wp_cond_false rfl ?_
     refine wp_skip ?_
     (try simp only [ls0, ls1])
     refine hK331 _ _ ?_
     (try clear hK331 K331)
     refine wp_seq_k fun K334 hK334 => ?_
     refine wl_region ?_
     refine mv_ rfl ?_
     refine st (.pointer (some ⟨g0, 0, none⟩)) rfl rfl (xr_nilCheck _ rfl rfl) ?_
     refine st (.pointer (some ⟨g0, 3, none⟩)) rfl rfl (xr_fieldAddr _ _ rfl rfl (bx_field2 Try.underlying111 rfl rfl (by kernel_rfl))) ?_
     refine st (.int .i64 t312) rfl rfl (xr_load _ _ rfl rfl (load_cell Try.underlying3 rfl (bx_cell (HX322).2 3 rfl))) ?_
     simp only [ls0, ls1]
     refine st (.int .i64 (wrap64 (t312 - 1))) rfl rfl (xr_bin _ _ _ rfl rfl rfl (B.sub_i64 _ _)) ?_
     refine st (.pointer (some ⟨g0, 0, none⟩)) rfl rfl (xr_nilCheck _ rfl rfl) ?_
     refine st (.pointer (some ⟨g0, 3, none⟩)) rfl rfl (xr_fieldAddr _ _ rfl rfl (bx_field2 Try.underlying111 rfl rfl (by kernel_rfl))) ?_
     refine bx_store (C := C325) (z := 1) (g := g0) (j := 3) (tb := 111) (u := .int .i64 (wrap64 (t312 - 1))) (seg := [.int .i64 (wrap64 (t312 - 1))]) (xs := [.slice A0_0 l0_0.length c0_0, .slice A0_1 l0_1.length c0_1, .int .i64 t311, .int .i64 t312]) rfl rfl rfl rfl rfl rfl (by first | kernel_rfl | rfl) (by simp [Value.oneCell']) HX322 (by simp only [List.length_cons, List.length_nil]; omega) rfl ?_
     intro w335 HX336 hs337
     replace HJ259 := HJ259.thru hs337 rfl
     replace HJ260 := HJ260.thru hs337 rfl
     replace HJ262 := HJ262.thru hs337 rfl
     replace HO320 := HO320.thru hs337 rfl
     replace HX329 := HX329.thru hs337 rfl
     replace HS257 := HS257.trans hs337 hc rfl
     (try simp only [ls0, ls1])
     refine wl_end ?_
     (try simp only [ls0, ls1])
     refine hK334 _ _ ?_
     (try clear hK334 K334)
     refine wp_seq_k fun K338 hK338 => ?_
     refine wl_region ?_
     refine mv_ rfl ?_
     refine mv_ rfl ?_
     refine mv_ rfl ?_
     refine st (.agg #[.int .i64 t304, .int .i64 t305, .int .i64 t306, .string t307, .string t308, .slice A318 t309.length cp319]) rfl rfl (xr_load _ _ rfl rfl (load_agg (cs := [.int .i64 t304, .int .i64 t305, .int .i64 t306, .string t307, .string t308, .slice A318 t309.length cp319]) Try.underlying44 rfl (by kernel_rfl) (bx_cells (HX329).2 0 rfl))) ?_
     simp only [ls0, ls1]
     obtain ⟨y339, A340, H⟩ := bnd H
     refine Own.lit k44 (C := C325) (i := 13) rfl 44 rfl (xs := [(⟨t304, t305, t306, t307, t308, t309⟩ : S44)]) (inner := [.int .i64 t304, .int .i64 t305, .int .i64 t306, .string t307, .string t308, .slice A318 t309.length cp319]) (by first | (go_simp; done) | (go_simp; rfl)) (reps_cons (k44_mkF _ _ (⟨t304, t305, t306, t307, t308, t309⟩ : S44) HC321 (Kd.F_mono (d := k44) HO320 (fun k_ h_ => by simpa using h_))) rfl (Reps.none _ _)) (by simp only [List.length_cons, List.length_nil]; omega) (Option.some.inj A340) ?_
     intro A341 cp342 w343 C344 HO345 HC346 hs347
     replace HX336 := HX336.thru hs347 rfl
     replace HJ259 := HJ259.thru hs347 rfl
     replace HJ260 := HJ260.thru hs347 rfl
     replace HJ262 := HJ262.thru hs347 rfl
     replace HO320 := HO320.thru hs347 rfl
     replace HX329 := HX329.thru hs347 rfl
     replace HS257 := HS257.trans hs347 hc rfl
     (try simp only [ls0, ls1])
     refine st (.agg #[.int .i64 4, .int .i64 t206, .int .i64 0, .string t199, .string (⟨#[]⟩ : ByteArray), .slice A341 y339.length cp342]) rfl rfl (xr_build #[(0, .int .i64 4), (1, .int .i64 t206), (3, .string t199), (5, .slice A341 y339.length cp342)] (.agg #[.int .i64 4, .int .i64 t206, .int .i64 0, .string t199, .string (⟨#[]⟩ : ByteArray), .slice A341 y339.length cp342]) rfl (mp_ rfl) (by first | rfl | (go_simp; done) | (go_simp; rfl) | (go_simp; exact i64_w _) | (go_simp; exact i32_w _))) ?_
     refine mv_ rfl ?_
     replace HX336 := Bx.recol (a := 13) (b := 0) HX336 (by decide)
     replace HJ259 := Ft.recol (a := 13) (b := 0) HJ259 (.inl rfl)
     replace HJ260 := Ft.recol (a := 13) (b := 0) HJ260 (.inl rfl)
     replace HJ262 := Bx.recol (a := 13) (b := 0) HJ262 (by decide)
     replace HO320 := Ft.recol (a := 13) (b := 0) HO320 (.inl rfl)
     replace HX329 := Bx.recol (a := 13) (b := 0) HX329 (by decide)
     have HR348 := Ft.recolor (a := 13) (b := 0) (HO345.ft) [0] rfl
     replace HS257 := Step.recol (a := 13) (b := 0) HS257 hc (by decide)
     obtain ⟨⟨t349, t350, t351, t352, t353, t354, t355, t356⟩, A357, H⟩ := bnd H
     (try dsimp only at H)
     refine st_call #[.pointer (some ⟨g0, 0, none⟩), .agg #[.int .i64 4, .int .i64 t206, .int .i64 0, .string t199, .string (⟨#[]⟩ : ByteArray), .slice A341 y339.length cp342], .int .i64 a0_2] rfl rfl Try.func104 (by kernel_rfl) rfl rfl (mp_ rfl) ?_
     refine (expr_Cursor_held.calls k265 g0 A0_0 c0_0 l0_0 A0_1 c0_1 l0_1 t311 (wrap64 (t312 - 1)) 4 t206 0 t199 (⟨#[]⟩ : ByteArray) A341 cp342 y339 a0_2 t349 t350 t351 t352 t353 t354 t355 t356  (fun z_ => pal [(0, 0), (1, 1)] ((recol C344 13 0) z_)) w343 (fun _ => pal_lt rfl _) (Bx.arg HX336 rfl) (Ft.arg HJ259 rfl) HCP0_0 (Ft.arg HJ260 rfl) HCP0_1 (Ft.arg HR348 rfl) HC346 A357).mono ?_
     rintro _ w359 ⟨C360, A362, cp363, rfl, hs361, HO364, HC365, HX366⟩
     refine ⟨_, rfl, ?_⟩
     replace HO364 := Ft.res (U := [(0, 0), (1, 1)]) HO364 hs361 [0] rfl rfl rfl
     replace HX366 := Bx.res (U := [(0, 0), (1, 1)]) (j := 1) HX366 hs361 (by rfl) (by decide) rfl
     replace hs361 := Step.lift (U := [(0, 0), (1, 1)]) hs361 [1] rfl rfl
     generalize up (recol C344 13 0) C360 w343.heap.size [(0, 0), (1, 1)] = C360_ at HO364 HX366 hs361
     replace HJ259 := HJ259.thru hs361 rfl
     replace HJ260 := HJ260.thru hs361 rfl
     replace HJ262 := HJ262.thru hs361 rfl
     replace HO320 := HO320.thru hs361 rfl
     replace HX329 := HX329.thru hs361 rfl
     replace HS257 := HS257.trans hs361 hc rfl
     (try simp only [ls0, ls1])
     refine st (.agg #[.int .i64 t349, .int .i64 t350, .int .i64 t351, .string t352, .string t353, .slice A362 t354.length cp363]) rfl rfl (xr_extract (.tuple #[.agg #[.int .i64 t349, .int .i64 t350, .int .i64 t351, .string t352, .string t353, .slice A362 t354.length cp363], .int .i64 t355]) _ rfl rfl rfl) ?_
     refine st (.int .i64 t355) rfl rfl (xr_extract (.tuple #[.agg #[.int .i64 t349, .int .i64 t350, .int .i64 t351, .string t352, .string t353, .slice A362 t354.length cp363], .int .i64 t355]) _ rfl rfl rfl) ?_
     refine bx_store (C := C360_) (z := 11) (g := g191) (j := 0) (tb := 44) (u := .agg #[.int .i64 t349, .int .i64 t350, .int .i64 t351, .string t352, .string t353, .slice A362 t354.length cp363]) (seg := [.int .i64 t349, .int .i64 t350, .int .i64 t351, .string t352, .string t353, .slice A362 t354.length cp363]) (xs := [.int .i64 0, .int .i64 0, .int .i64 0, .string (⟨#[]⟩ : ByteArray), .string (⟨#[]⟩ : ByteArray), .slice none 0 0]) rfl rfl rfl rfl rfl rfl (by first | kernel_rfl | rfl) (by simp [Value.oneCell']) HJ262 (by simp only [List.length_cons, List.length_nil]; omega) rfl ?_
     intro w367 HX368 hs369
     replace HX366 := HX366.thru hs369 rfl
     replace HJ259 := HJ259.thru hs369 rfl
     replace HJ260 := HJ260.thru hs369 rfl
     replace HO364 := HO364.thru hs369 rfl
     replace HO320 := HO320.thru hs369 rfl
     replace HX329 := HX329.thru hs369 rfl
     replace HS257 := HS257.trans hs369 hc rfl
     (try simp only [ls0, ls1])
     refine as_ rfl ?_
     refine wl_end ?_
     (try simp only [ls0, ls1])
     refine hK338 _ _ ?_
     (try clear hK338 K338)
     refine wp_ret ?_
     (try simp only [Exit.inBlock, Exit.then, Exit.noGoto])
     (try simp only [ls0, ls1])
     simp only [Option.some.injEq, Prod.mk.injEq] at H
     obtain ⟨rfl, rfl, rfl, rfl, rfl, rfl, rfl, rfl, rfl⟩ := H
     refine bodyPost_ret (res_ct rfl rfl (load_of (load_agg (cs := [.int .i64 t349, .int .i64 t350, .int .i64 t351, .string t352, .string t353, .slice A362 t354.length cp363]) Try.underlying44 rfl (by kernel_rfl) (bx_cells (HX368).2 0 rfl)))) rfl ?_
     exact ⟨_, A362, cp363, rfl, HS257, HO364, HC365, HX366⟩
    rw [if_neg c333] at H
    (try rw [(decide_eq_false c333)])
    (try simp only [Bool.not_true, Bool.not_false])
    refine wp_cond_true rfl ?_
    refine wp_seq_k fun K370 hK370 => ?_
    refine wl_region ?_
    refine st (.agg #[.int .i64 0, .int .i64 0, .int .i64 0, .string (⟨#[]⟩ : ByteArray), .string (⟨#[]⟩ : ByteArray), .slice none 0 0]) rfl rfl (xr_build #[] (.agg #[.int .i64 0, .int .i64 0, .int .i64 0, .string (⟨#[]⟩ : ByteArray), .string (⟨#[]⟩ : ByteArray), .slice none 0 0]) rfl (mp_ rfl) (by first | rfl | (go_simp; done) | (go_simp; rfl) | (go_simp; exact i64_w _) | (go_simp; exact i32_w _))) ?_
    refine mv_ rfl ?_
    refine bx_store (C := C325) (z := 11) (g := g191) (j := 0) (tb := 44) (u := .agg #[.int .i64 0, .int .i64 0, .int .i64 0, .string (⟨#[]⟩ : ByteArray), .string (⟨#[]⟩ : ByteArray), .slice none 0 0]) (seg := [.int .i64 0, .int .i64 0, .int .i64 0, .string (⟨#[]⟩ : ByteArray), .string (⟨#[]⟩ : ByteArray), .slice none 0 0]) (xs := [.int .i64 0, .int .i64 0, .int .i64 0, .string (⟨#[]⟩ : ByteArray), .string (⟨#[]⟩ : ByteArray), .slice none 0 0]) rfl rfl rfl rfl rfl rfl (by first | kernel_rfl | rfl) (by simp [Value.oneCell']) HJ262 (by simp only [List.length_cons, List.length_nil]; omega) rfl ?_
    intro w371 HX372 hs373
    replace HX322 := HX322.thru hs373 rfl
    replace HJ259 := HJ259.thru hs373 rfl
    replace HJ260 := HJ260.thru hs373 rfl
    replace HO320 := HO320.thru hs373 rfl
    replace HX329 := HX329.thru hs373 rfl
    replace HS257 := HS257.trans hs373 hc rfl
    (try simp only [ls0, ls1])
    refine as_ rfl ?_
    refine wl_end ?_
    (try simp only [ls0, ls1])
    refine hK370 _ _ ?_
    (try clear hK370 K370)
    refine wp_ret ?_
    (try simp only [Exit.inBlock, Exit.then, Exit.noGoto])
    (try simp only [ls0, ls1])
    simp only [Option.some.injEq, Prod.mk.injEq] at H
    obtain ⟨rfl, rfl, rfl, rfl, rfl, rfl, rfl, rfl, rfl⟩ := H
    refine bodyPost_ret (res_ct rfl rfl (load_of (load_agg (cs := [.int .i64 0, .int .i64 0, .int .i64 0, .string (⟨#[]⟩ : ByteArray), .string (⟨#[]⟩ : ByteArray), .slice none 0 0]) Try.underlying44 rfl (by kernel_rfl) (bx_cells (HX372).2 0 rfl)))) rfl ?_
    exact ⟨_, none, 0, rfl, HS257, (Kd.F_nil _ _ _), (Nat.le_refl 0), HX322⟩
   rw [if_neg c302] at H
   (try rw [(decide_eq_false c302)])
   (try simp only [Bool.not_true, Bool.not_false])
   refine wp_cond_true rfl ?_
   refine wp_seq_k fun K374 hK374 => ?_
   refine wl_region ?_
   refine st (.agg #[.int .i64 0, .int .i64 0, .int .i64 0, .string (⟨#[]⟩ : ByteArray), .string (⟨#[]⟩ : ByteArray), .slice none 0 0]) rfl rfl (xr_build #[] (.agg #[.int .i64 0, .int .i64 0, .int .i64 0, .string (⟨#[]⟩ : ByteArray), .string (⟨#[]⟩ : ByteArray), .slice none 0 0]) rfl (mp_ rfl) (by first | rfl | (go_simp; done) | (go_simp; rfl) | (go_simp; exact i64_w _) | (go_simp; exact i32_w _))) ?_
   refine mv_ rfl ?_
   refine bx_store (C := C298_) (z := 11) (g := g191) (j := 0) (tb := 44) (u := .agg #[.int .i64 0, .int .i64 0, .int .i64 0, .string (⟨#[]⟩ : ByteArray), .string (⟨#[]⟩ : ByteArray), .slice none 0 0]) (seg := [.int .i64 0, .int .i64 0, .int .i64 0, .string (⟨#[]⟩ : ByteArray), .string (⟨#[]⟩ : ByteArray), .slice none 0 0]) (xs := [.int .i64 0, .int .i64 0, .int .i64 0, .string (⟨#[]⟩ : ByteArray), .string (⟨#[]⟩ : ByteArray), .slice none 0 0]) rfl rfl rfl rfl rfl rfl (by first | kernel_rfl | rfl) (by simp [Value.oneCell']) HJ262 (by simp only [List.length_cons, List.length_nil]; omega) rfl ?_
   intro w375 HX376 hs377
   replace HX300 := HX300.thru hs377 rfl
   replace HJ259 := HJ259.thru hs377 rfl
   replace HJ260 := HJ260.thru hs377 rfl
   replace HS257 := HS257.trans hs377 hc rfl
   (try simp only [ls0, ls1])
   refine as_ rfl ?_
   refine wl_end ?_
   (try simp only [ls0, ls1])
   refine hK374 _ _ ?_
   (try clear hK374 K374)
   refine wp_ret ?_
   (try simp only [Exit.inBlock, Exit.then, Exit.noGoto])
   (try simp only [ls0, ls1])
   simp only [Option.some.injEq, Prod.mk.injEq] at H
   obtain ⟨rfl, rfl, rfl, rfl, rfl, rfl, rfl, rfl, rfl⟩ := H
   refine bodyPost_ret (res_ct rfl rfl (load_of (load_agg (cs := [.int .i64 0, .int .i64 0, .int .i64 0, .string (⟨#[]⟩ : ByteArray), .string (⟨#[]⟩ : ByteArray), .slice none 0 0]) Try.underlying44 rfl (by kernel_rfl) (bx_cells (HX376).2 0 rfl)))) rfl ?_
   exact ⟨_, none, 0, rfl, HS257, (Kd.F_nil _ _ _), (Nat.le_refl 0), HX300⟩
 refine wl_region ?_
 refine mv_ rfl ?_
 refine st (.bool (!decide (t199 = (⟨#[33]⟩ : ByteArray)))) rfl rfl (xr_bin _ _ _ rfl rfl rfl (B.neq_str _ _)) ?_
 refine mv_ rfl ?_
 by_cases c378 : t199 = (⟨#[33]⟩ : ByteArray)
 ·rw [if_pos c378] at H
  (try rw [(decide_eq_true c378)])
  (try simp only [Bool.not_true, Bool.not_false])
  refine sk_guard (guard_off 2 true 20 rfl rfl false (by decide) rfl) rfl ?_
  simp only [ls0, ls1]
  refine sk_guard (guard_off 2 true 20 rfl rfl false (by decide) rfl) rfl ?_
  refine st (.bool false) rfl rfl (xr_pick false _ rfl rfl rfl) ?_
  refine wl_end ?_
  (try simp only [ls0, ls1])
  exact jmp (fun g_ => hj254 _ _ _ (false) g_ HS (by omega) HP0_0 HP0_1 HP0 HX194 H) rfl
 rw [if_neg c378] at H
 (try rw [(decide_eq_false c378)])
 (try simp only [Bool.not_true, Bool.not_false])
 refine on_guard (guard_on 2 true 20 rfl rfl rfl) ?_
 refine mv_ rfl ?_
 refine on_guard (guard_on 2 true 20 rfl rfl rfl) ?_
 refine st (.bool (!decide (t199 = (⟨#[45]⟩ : ByteArray)))) rfl rfl (xr_bin _ _ _ rfl rfl rfl (B.neq_str _ _)) ?_
 refine st (.bool (!decide (t199 = (⟨#[45]⟩ : ByteArray)))) rfl rfl (xr_pick true _ rfl rfl rfl) ?_
 refine wl_end ?_
 (try simp only [ls0, ls1])
 exact jmp (fun g_ => hj254 _ _ _ (!decide (t199 = (⟨#[45]⟩ : ByteArray))) g_ HS (by omega) HP0_0 HP0_1 HP0 HX194 H) rfl

/-! ### expr_Cursor_primary: function 120 -/
def expr_Cursor_primary.j0 (r_ : Rec_expr_Cursor_binary) : Nat → Int → Int → (List Int) → (List (S28)) → Int → ByteArray → Bool → Option (Int × Int × Int × ByteArray × ByteArray × (List (S44)) × Int × Int × Int)
  | 0, _, _, _, _, _, _, _ => none
  | k + 1, a0_2, a0_3, l0_0, l0_1, t181, t190, x235 => if x235 = true then (if t190 = (⟨#[116, 114, 117, 101]⟩ : ByteArray) then (some (1, t181, 1, (⟨#[]⟩ : ByteArray), (⟨#[]⟩ : ByteArray), ([] : List (S44)), 0, wrap64 (a0_2 + 1), a0_3)) else (some (1, t181, 0, (⟨#[]⟩ : ByteArray), (⟨#[]⟩ : ByteArray), ([] : List (S44)), 0, wrap64 (a0_2 + 1), a0_3))) else (if t190 = (⟨#[40]⟩ : ByteArray) then ((r_.expr_Cursor_group l0_0 l0_1 a0_2 a0_3).bind fun bt274 => (some (bt274.1, bt274.2.1, bt274.2.2.1, bt274.2.2.2.1, bt274.2.2.2.2.1, bt274.2.2.2.2.2.1, bt274.2.2.2.2.2.2.1, bt274.2.2.2.2.2.2.2.1, bt274.2.2.2.2.2.2.2.2))) else (if t190 = (⟨#[100, 101, 99, 108, 97, 115, 115, 105, 102, 121]⟩ : ByteArray) then ((r_.expr_Cursor_open l0_0 l0_1 a0_2 a0_3).bind fun bt299 => (some (bt299.1, bt299.2.1, bt299.2.2.1, bt299.2.2.2.1, bt299.2.2.2.2.1, bt299.2.2.2.2.2.1, bt299.2.2.2.2.2.2.1, bt299.2.2.2.2.2.2.2.1, bt299.2.2.2.2.2.2.2.2))) else ((r_.expr_Cursor_named l0_0 l0_1 a0_2 a0_3).bind fun bt322 => (some (bt322.1, bt322.2.1, bt322.2.2.1, bt322.2.2.2.1, bt322.2.2.2.2.1, bt322.2.2.2.2.2.1, bt322.2.2.2.2.2.2.1, bt322.2.2.2.2.2.2.2.1, bt322.2.2.2.2.2.2.2.2)))))
def expr_Cursor_primary.g (r_ : Rec_expr_Cursor_binary) (k : Nat) (l0_0 : List Int) (l0_1 : List (S28)) (a0_2 : Int) (a0_3 : Int) : Option (Int × Int × Int × ByteArray × ByteArray × (List (S44)) × Int × Int × Int) := (expr_Cursor_Pos.f (some (⟨l0_0, l0_1, a0_2, a0_3⟩ : S111) : Option S111)).bind fun t181 => ((expr_Cursor_Peek.f (some (⟨l0_0, l0_1, a0_2, a0_3⟩ : S111) : Option S111)).bind fun t190 => ((expr_Cursor_Kind.f (some (⟨l0_0, l0_1, a0_2, a0_3⟩ : S111) : Option S111)).bind fun t198 => (if t198 = 3 then ((expr_Cursor_number.f k l0_0 l0_1 a0_2 a0_3).bind fun bt206 => (some (bt206.1, bt206.2.1, bt206.2.2.1, bt206.2.2.2.1, bt206.2.2.2.2.1, bt206.2.2.2.2.2.1, bt206.2.2.2.2.2.2.1, bt206.2.2.2.2.2.2.2, a0_3))) else (if t190 = (⟨#[116, 114, 117, 101]⟩ : ByteArray) then (expr_Cursor_primary.j0 r_ k a0_2 a0_3 l0_0 l0_1 t181 t190 true) else (expr_Cursor_primary.j0 r_ k a0_2 a0_3 l0_0 l0_1 t181 t190 (decide (t190 = (⟨#[102, 97, 108, 115, 101]⟩ : ByteArray))))))))

set_option maxHeartbeats 8000000 in
set_option maxRecDepth 100000 in
theorem expr_Cursor_primary.step (r_ : Rec_expr_Cursor_binary) (IH : Rec_expr_Cursor_binary.Good r_) (k : Nat) (g0 : Nat) (A0_0 : Option Addr) (c0_0 : Nat) (l0_0 : List Int) (A0_1 : Option Addr) (c0_1 : Nat) (l0_1 : List (S28)) (a0_2 : Int) (a0_3 : Int) (r1 : Int) (r2 : Int) (r3 : Int) (r4 : ByteArray) (r5 : ByteArray) (r6 : List (S44)) (r7 : Int) (r8 : Int) (r9 : Int) (c : Nat → Nat) (w : World) (hc : ∀ k, c k < 10) (HP0 : Bx c 1 w g0 111 ([.slice A0_0 l0_0.length c0_0, .slice A0_1 l0_1.length c0_1, .int .i64 a0_2, .int .i64 a0_3])) (HP0_0 : Ft c [0] w (fun w_ => (Kd.int .u8).C w_ A0_0 l0_0.length l0_0)) (HCP0_0 : l0_0.length ≤ c0_0) (HP0_1 : Ft c [0] w (fun w_ => k28.C w_ A0_1 l0_1.length l0_1)) (HCP0_1 : l0_1.length ≤ c0_1) (H : expr_Cursor_primary.g r_ k l0_0 l0_1 a0_2 a0_3 = some (r1, r2, r3, r4, r5, r6, r7, r8, r9)) :
    Calls Try.prog 120 #[.pointer (some ⟨g0, 0, none⟩)] w fun e w' => ∃ (c' : Nat → Nat) (A_r6 : Option Addr) (c_r6 : Nat), e = .returned (.tuple #[.agg #[.int .i64 r1, .int .i64 r2, .int .i64 r3, .string r4, .string r5, .slice A_r6 r6.length c_r6], .int .i64 r7]) ∧ Step c w c' w' [1] ∧ Ft c' [0] w' (fun w_ => k44.C w_ A_r6 r6.length r6) ∧ r6.length ≤ c_r6 ∧ Bx c' 1 w' g0 111 ([.slice A0_0 l0_0.length c0_0, .slice A0_1 l0_1.length c0_1, .int .i64 r8, .int .i64 r9]) := by
 unfold expr_Cursor_primary.g at H
 have HS := Step.refl c w [1]
 go_enter Try.func120, Try.ntmps120
 refine wp_seq_k fun K173 hK173 => ?_
 refine wl_region ?_
 refine bx_new (C := c) 44 ([.int .i64 0, .int .i64 0, .int .i64 0, .string (⟨#[]⟩ : ByteArray), .string (⟨#[]⟩ : ByteArray), .slice none 0 0]) 11 rfl rfl (by first | (go_simp; done) | (go_simp; rfl)) ?_
 intro g174 w175 C176 HX177 hs178
 replace HP0 := HP0.thru hs178 rfl
 replace HP0_0 := HP0_0.thru hs178 rfl
 replace HP0_1 := HP0_1.thru hs178 rfl
 replace HS := HS.trans hs178 hc rfl
 (try simp only [ls0, ls1])
 refine st (.int .i64 0) rfl rfl (xr_assign _ rfl rfl) ?_
 refine wl_end ?_
 (try simp only [ls0, ls1])
 refine hK173 _ _ ?_
 (try clear hK173 K173)
 refine wp_seq_k fun K179 hK179 => ?_
 refine wl_region ?_
 refine mv_ rfl ?_
 have HP180 : Ft C176 [0, 1] w175 (fun w_ => (Kd.ptr 111 k111).K w_ (some (⟨l0_0, l0_1, a0_2, a0_3⟩ : S111)) [.pointer (some ⟨g0, 0, none⟩)]) := ptr_mk (Ft.more (HP0.ft) rfl) (k111_mkF _ _ (⟨l0_0, l0_1, a0_2, a0_3⟩ : S111) HCP0_0 (Ft.more HP0_0 rfl) HCP0_1 (Ft.more HP0_1 rfl))
 obtain ⟨t181, A182, H⟩ := bnd H
 refine st_call #[.pointer (some ⟨g0, 0, none⟩)] rfl rfl Try.func44 (by kernel_rfl) rfl rfl (mp_ rfl) ?_
 refine (expr_Cursor_Pos.calls (.pointer (some ⟨g0, 0, none⟩)) (some (⟨l0_0, l0_1, a0_2, a0_3⟩ : S111) : Option S111) t181  (fun z_ => pal [(0, 0), (1, 0)] (C176 z_)) w175 (fun _ => pal_lt rfl _) (Ft.arg HP180 rfl) A182).mono ?_
 rintro _ w184 ⟨C185, rfl, hs186⟩
 refine ⟨_, rfl, ?_⟩
 replace hs186 := Step.lift (U := [(0, 0)]) hs186 [] rfl rfl
 generalize up C176 C185 w175.heap.size [(0, 0)] = C185_ at hs186
 replace HP0 := HP0.thru hs186 rfl
 replace HP0_0 := HP0_0.thru hs186 rfl
 replace HP0_1 := HP0_1.thru hs186 rfl
 replace HX177 := HX177.thru hs186 rfl
 replace HS := HS.trans hs186 hc rfl
 (try simp only [ls0, ls1])
 refine as_ rfl ?_
 refine wl_end ?_
 (try simp only [ls0, ls1])
 refine hK179 _ _ ?_
 (try clear hK179 K179)
 refine wp_seq_k fun K187 hK187 => ?_
 refine wp_seq_k fun K188 hK188 => ?_
 refine wl_region ?_
 refine mv_ rfl ?_
 have HP189 : Ft C185_ [0, 1] w184 (fun w_ => (Kd.ptr 111 k111).K w_ (some (⟨l0_0, l0_1, a0_2, a0_3⟩ : S111)) [.pointer (some ⟨g0, 0, none⟩)]) := ptr_mk (Ft.more (HP0.ft) rfl) (k111_mkF _ _ (⟨l0_0, l0_1, a0_2, a0_3⟩ : S111) HCP0_0 (Ft.more HP0_0 rfl) HCP0_1 (Ft.more HP0_1 rfl))
 obtain ⟨t190, A191, H⟩ := bnd H
 refine st_call #[.pointer (some ⟨g0, 0, none⟩)] rfl rfl Try.func43 (by kernel_rfl) rfl rfl (mp_ rfl) ?_
 refine (expr_Cursor_Peek.calls (.pointer (some ⟨g0, 0, none⟩)) (some (⟨l0_0, l0_1, a0_2, a0_3⟩ : S111) : Option S111) t190  (fun z_ => pal [(0, 0), (1, 0)] (C185_ z_)) w184 (fun _ => pal_lt rfl _) (Ft.arg HP189 rfl) A191).mono ?_
 rintro _ w193 ⟨C194, rfl, hs195⟩
 refine ⟨_, rfl, ?_⟩
 replace hs195 := Step.lift (U := [(0, 0)]) hs195 [] rfl rfl
 generalize up C185_ C194 w184.heap.size [(0, 0)] = C194_ at hs195
 replace HP0 := HP0.thru hs195 rfl
 replace HP0_0 := HP0_0.thru hs195 rfl
 replace HP0_1 := HP0_1.thru hs195 rfl
 replace HX177 := HX177.thru hs195 rfl
 replace HS := HS.trans hs195 hc rfl
 (try simp only [ls0, ls1])
 refine as_ rfl ?_
 refine wl_end ?_
 (try simp only [ls0, ls1])
 refine hK188 _ _ ?_
 (try clear hK188 K188)
 refine wp_block ?_
 refine wp_seq_k fun K196 hK196 => ?_
 refine wl_region ?_
 refine mv_ rfl ?_
 have HP197 : Ft C194_ [0, 1] w193 (fun w_ => (Kd.ptr 111 k111).K w_ (some (⟨l0_0, l0_1, a0_2, a0_3⟩ : S111)) [.pointer (some ⟨g0, 0, none⟩)]) := ptr_mk (Ft.more (HP0.ft) rfl) (k111_mkF _ _ (⟨l0_0, l0_1, a0_2, a0_3⟩ : S111) HCP0_0 (Ft.more HP0_0 rfl) HCP0_1 (Ft.more HP0_1 rfl))
 obtain ⟨t198, A199, H⟩ := bnd H
 refine st_call #[.pointer (some ⟨g0, 0, none⟩)] rfl rfl Try.func46 (by kernel_rfl) rfl rfl (mp_ rfl) ?_
 refine (expr_Cursor_Kind.calls (.pointer (some ⟨g0, 0, none⟩)) (some (⟨l0_0, l0_1, a0_2, a0_3⟩ : S111) : Option S111) t198  (fun z_ => pal [(0, 0), (1, 0)] (C194_ z_)) w193 (fun _ => pal_lt rfl _) (Ft.arg HP197 rfl) A199).mono ?_
 rintro _ w201 ⟨C202, rfl, hs203⟩
 refine ⟨_, rfl, ?_⟩
 replace hs203 := Step.lift (U := [(0, 0)]) hs203 [] rfl rfl
 generalize up C194_ C202 w193.heap.size [(0, 0)] = C202_ at hs203
 replace HP0 := HP0.thru hs203 rfl
 replace HP0_0 := HP0_0.thru hs203 rfl
 replace HP0_1 := HP0_1.thru hs203 rfl
 replace HX177 := HX177.thru hs203 rfl
 replace HS := HS.trans hs203 hc rfl
 (try simp only [ls0, ls1])
 refine st (.bool (decide (t198 = 3))) rfl rfl (xr_bin _ _ _ rfl rfl rfl (B.eql_i64 _ _)) ?_
 refine as_ rfl ?_
 refine wl_end ?_
 (try simp only [ls0, ls1])
 refine hK196 _ _ ?_
 (try clear hK196 K196)
 by_cases c204 : t198 = 3
 ·rw [if_pos c204] at H
  (try rw [(decide_eq_true c204)])
  refine wp_cond_true rfl ?_
  refine wp_seq_k fun K205 hK205 => ?_
  refine wl_region ?_
  refine mv_ rfl ?_
  obtain ⟨⟨t206, t207, t208, t209, t210, t211, t212, t213⟩, A214, H⟩ := bnd H
  (try dsimp only at H)
  refine st_call #[.pointer (some ⟨g0, 0, none⟩)] rfl rfl Try.func131 (by kernel_rfl) rfl rfl (mp_ rfl) ?_
  refine (expr_Cursor_number.calls k g0 A0_0 c0_0 l0_0 A0_1 c0_1 l0_1 a0_2 a0_3 t206 t207 t208 t209 t210 t211 t212 t213  (fun z_ => pal [(0, 0), (1, 1)] (C202_ z_)) w201 (fun _ => pal_lt rfl _) (Bx.arg HP0 rfl) (Ft.arg HP0_0 rfl) HCP0_0 (Ft.arg HP0_1 rfl) HCP0_1 A214).mono ?_
  rintro _ w216 ⟨C217, A219, cp220, rfl, hs218, HO221, HC222, HX223⟩
  refine ⟨_, rfl, ?_⟩
  replace HO221 := Own.res (U := [(0, 0), (1, 1), (5, 12)]) (j := 12) HO221 hs218 (by rfl) (by decide) rfl rfl
  replace HX223 := Bx.res (U := [(0, 0), (1, 1), (5, 12)]) (j := 1) HX223 hs218 (by rfl) (by decide) rfl
  replace hs218 := Step.lift (U := [(0, 0), (1, 1), (5, 12)]) hs218 [1] rfl rfl
  generalize up C202_ C217 w201.heap.size [(0, 0), (1, 1), (5, 12)] = C217_ at HO221 HX223 hs218
  replace HP0_0 := HP0_0.thru hs218 rfl
  replace HP0_1 := HP0_1.thru hs218 rfl
  replace HX177 := HX177.thru hs218 rfl
  replace HS := HS.trans hs218 hc rfl
  (try simp only [ls0, ls1])
  refine st (.agg #[.int .i64 t206, .int .i64 t207, .int .i64 t208, .string t209, .string t210, .slice A219 t211.length cp220]) rfl rfl (xr_extract (.tuple #[.agg #[.int .i64 t206, .int .i64 t207, .int .i64 t208, .string t209, .string t210, .slice A219 t211.length cp220], .int .i64 t212]) _ rfl rfl rfl) ?_
  refine st (.int .i64 t212) rfl rfl (xr_extract (.tuple #[.agg #[.int .i64 t206, .int .i64 t207, .int .i64 t208, .string t209, .string t210, .slice A219 t211.length cp220], .int .i64 t212]) _ rfl rfl rfl) ?_
  refine bx_store (C := C217_) (z := 11) (g := g174) (j := 0) (tb := 44) (u := .agg #[.int .i64 t206, .int .i64 t207, .int .i64 t208, .string t209, .string t210, .slice A219 t211.length cp220]) (seg := [.int .i64 t206, .int .i64 t207, .int .i64 t208, .string t209, .string t210, .slice A219 t211.length cp220]) (xs := [.int .i64 0, .int .i64 0, .int .i64 0, .string (⟨#[]⟩ : ByteArray), .string (⟨#[]⟩ : ByteArray), .slice none 0 0]) rfl rfl rfl rfl rfl rfl (by first | kernel_rfl | rfl) (by simp [Value.oneCell']) HX177 (by simp only [List.length_cons, List.length_nil]; omega) rfl ?_
  intro w224 HX225 hs226
  replace HX223 := HX223.thru hs226 rfl
  replace HP0_0 := HP0_0.thru hs226 rfl
  replace HP0_1 := HP0_1.thru hs226 rfl
  replace HO221 := HO221.thru hs226 rfl
  replace HS := HS.trans hs226 hc rfl
  (try simp only [ls0, ls1])
  refine as_ rfl ?_
  refine wl_end ?_
  (try simp only [ls0, ls1])
  refine hK205 _ _ ?_
  (try clear hK205 K205)
  refine wp_ret ?_
  (try simp only [Exit.inBlock, Exit.then, Exit.noGoto])
  (try simp only [ls0, ls1])
  replace HX223 := Bx.recol (a := 12) (b := 0) HX223 (by decide)
  replace HP0_0 := Ft.recol (a := 12) (b := 0) HP0_0 (.inl rfl)
  replace HP0_1 := Ft.recol (a := 12) (b := 0) HP0_1 (.inl rfl)
  replace HX225 := Bx.recol (a := 12) (b := 0) HX225 (by decide)
  have HR227 := Ft.recolor (a := 12) (b := 0) (HO221.ft) [0] rfl
  replace HS := Step.recol (a := 12) (b := 0) HS hc (by decide)
  simp only [Option.some.injEq, Prod.mk.injEq] at H
  obtain ⟨rfl, rfl, rfl, rfl, rfl, rfl, rfl, rfl, rfl⟩ := H
  refine bodyPost_ret (res_ct rfl rfl (load_of (load_agg (cs := [.int .i64 t206, .int .i64 t207, .int .i64 t208, .string t209, .string t210, .slice A219 t211.length cp220]) Try.underlying44 rfl (by kernel_rfl) (bx_cells (HX225).2 0 rfl)))) rfl ?_
  exact ⟨_, A219, cp220, rfl, HS, HR227, HC222, HX223⟩
 rw [if_neg c204] at H
 (try rw [(decide_eq_false c204)])
 refine wp_cond_false rfl ?_
 refine wp_seq_k fun K228 hK228 => ?_
 have hj231 : ∀ (kq240 : Nat) (C232 : Nat → Nat) (w233 : World) (x235 : Bool) (g_ : Nat → Value), Step c w C232 w233 [1] → kq240 ≤ k → (Ft C232 [0] w233 (fun w_ => (Kd.int .u8).C w_ A0_0 l0_0.length l0_0)) → (Ft C232 [0] w233 (fun w_ => k28.C w_ A0_1 l0_1.length l0_1)) → (Bx C232 1 w233 g0 111 ([.slice A0_0 l0_0.length c0_0, .slice A0_1 l0_1.length c0_1, .int .i64 a0_2, .int .i64 a0_3])) → (Bx C232 11 w233 g174 44 ([.int .i64 0, .int .i64 0, .int .i64 0, .string (⟨#[]⟩ : ByteArray), .string (⟨#[]⟩ : ByteArray), .slice none 0 0])) → expr_Cursor_primary.j0 r_ kq240 a0_2 a0_3 l0_0 l0_1 t181 t190 x235 = some (r1, r2, r3, r4, r5, r6, r7, r8, r9) → K228 ⟨#[.pointer (some ⟨g0, 0, none⟩), (g_ 1), .pointer (some ⟨g174, 0, none⟩), (g_ 3), .int .i64 t181, .string t190, (g_ 6), (g_ 7), (g_ 8), (g_ 9), (g_ 10), (g_ 11), (g_ 12), (g_ 13), (g_ 14), (g_ 15), (g_ 16), (g_ 17), (g_ 18), .bool x235, (g_ 20), (g_ 21), (g_ 22), (g_ 23), (g_ 24), (g_ 25), (g_ 26), (g_ 27), (g_ 28), (g_ 29), (g_ 30), (g_ 31), (g_ 32), (g_ 33), (g_ 34), (g_ 35), (g_ 36), (g_ 37), (g_ 38), (g_ 39), (g_ 40), (g_ 41), (g_ 42), (g_ 43), (g_ 44), (g_ 45), (g_ 46), (g_ 47), (g_ 48), (g_ 49), (g_ 50), (g_ 51), (g_ 52), (g_ 53), (g_ 54)], []⟩ w233 := by
  intro kq240 C232 w233 x235 g_ HS234 hk241 HJ236 HJ237 HJ238 HJ239 H
  cases kq240 with
  | zero => exact absurd H (by simp [expr_Cursor_primary.j0])
  | succ k242 =>
   simp only [expr_Cursor_primary.j0] at H
   refine hK228 _ _ ?_
   (try clear hK228)
   by_cases c243 : x235 = true
   ·rw [if_pos c243] at H
    (try rw [c243])
    refine wp_cond_true rfl ?_
    refine wp_seq_k fun K244 hK244 => ?_
    refine wl_region ?_
    refine mv_ rfl ?_
    simp only [ls0, ls1]
    refine st (.pointer (some ⟨g0, 0, none⟩)) rfl rfl (xr_nilCheck _ rfl rfl) ?_
    refine st (.pointer (some ⟨g0, 2, none⟩)) rfl rfl (xr_fieldAddr _ _ rfl rfl (bx_field2 Try.underlying111 rfl rfl (by kernel_rfl))) ?_
    refine st (.int .i64 a0_2) rfl rfl (xr_load _ _ rfl rfl (load_cell Try.underlying3 rfl (bx_cell (HJ238).2 2 rfl))) ?_
    refine st (.int .i64 (wrap64 (a0_2 + 1))) rfl rfl (xr_bin _ _ _ rfl rfl rfl (B.add_i64 _ _)) ?_
    simp only [ls0, ls1]
    refine st (.pointer (some ⟨g0, 0, none⟩)) rfl rfl (xr_nilCheck _ rfl rfl) ?_
    refine st (.pointer (some ⟨g0, 2, none⟩)) rfl rfl (xr_fieldAddr _ _ rfl rfl (bx_field2 Try.underlying111 rfl rfl (by kernel_rfl))) ?_
    refine bx_store (C := C232) (z := 1) (g := g0) (j := 2) (tb := 111) (u := .int .i64 (wrap64 (a0_2 + 1))) (seg := [.int .i64 (wrap64 (a0_2 + 1))]) (xs := [.slice A0_0 l0_0.length c0_0, .slice A0_1 l0_1.length c0_1, .int .i64 a0_2, .int .i64 a0_3]) rfl rfl rfl rfl rfl rfl (by first | kernel_rfl | rfl) (by simp [Value.oneCell']) HJ238 (by simp only [List.length_cons, List.length_nil]; omega) rfl ?_
    intro w245 HX246 hs247
    replace HJ236 := HJ236.thru hs247 rfl
    replace HJ237 := HJ237.thru hs247 rfl
    replace HJ239 := HJ239.thru hs247 rfl
    replace HS234 := HS234.trans hs247 hc rfl
    (try simp only [ls0, ls1])
    refine wl_end ?_
    (try simp only [ls0, ls1])
    refine hK244 _ _ ?_
    (try clear hK244 K244)
    refine wp_seq_k fun K248 hK248 => ?_
    refine wl_region ?_
    refine mv_ rfl ?_
    refine st (.agg #[.int .i64 1, .int .i64 t181, .int .i64 0, .string (⟨#[]⟩ : ByteArray), .string (⟨#[]⟩ : ByteArray), .slice none 0 0]) rfl rfl (xr_build #[(0, .int .i64 1), (1, .int .i64 t181)] (.agg #[.int .i64 1, .int .i64 t181, .int .i64 0, .string (⟨#[]⟩ : ByteArray), .string (⟨#[]⟩ : ByteArray), .slice none 0 0]) rfl (mp_ rfl) (by first | rfl | (go_simp; done) | (go_simp; rfl) | (go_simp; exact i64_w _) | (go_simp; exact i32_w _))) ?_
    refine bx_new (C := C232) 44 ([.int .i64 0, .int .i64 0, .int .i64 0, .string (⟨#[]⟩ : ByteArray), .string (⟨#[]⟩ : ByteArray), .slice none 0 0]) 12 rfl rfl (by first | (go_simp; done) | (go_simp; rfl)) ?_
    intro g249 w250 C251 HX252 hs253
    replace HX246 := HX246.thru hs253 rfl
    replace HJ236 := HJ236.thru hs253 rfl
    replace HJ237 := HJ237.thru hs253 rfl
    replace HJ239 := HJ239.thru hs253 rfl
    replace HS234 := HS234.trans hs253 hc rfl
    (try simp only [ls0, ls1])
    refine bx_store (C := C251) (z := 12) (g := g249) (j := 0) (tb := 44) (u := .agg #[.int .i64 1, .int .i64 t181, .int .i64 0, .string (⟨#[]⟩ : ByteArray), .string (⟨#[]⟩ : ByteArray), .slice none 0 0]) (seg := [.int .i64 1, .int .i64 t181, .int .i64 0, .string (⟨#[]⟩ : ByteArray), .string (⟨#[]⟩ : ByteArray), .slice none 0 0]) (xs := [.int .i64 0, .int .i64 0, .int .i64 0, .string (⟨#[]⟩ : ByteArray), .string (⟨#[]⟩ : ByteArray), .slice none 0 0]) rfl rfl rfl rfl rfl rfl (by first | kernel_rfl | rfl) (by simp [Value.oneCell']) HX252 (by simp only [List.length_cons, List.length_nil]; omega) rfl ?_
    intro w254 HX255 hs256
    replace HX246 := HX246.thru hs256 rfl
    replace HJ236 := HJ236.thru hs256 rfl
    replace HJ237 := HJ237.thru hs256 rfl
    replace HJ239 := HJ239.thru hs256 rfl
    replace HS234 := HS234.trans hs256 hc rfl
    (try simp only [ls0, ls1])
    refine wl_end ?_
    (try simp only [ls0, ls1])
    refine hK248 _ _ ?_
    (try clear hK248 K248)
    refine wp_seq_k fun K257 hK257 => ?_
    refine wp_seq_k fun K258 hK258 => ?_
    refine wl_region ?_
    refine mv_ rfl ?_
    refine st (.bool (decide (t190 = (⟨#[116, 114, 117, 101]⟩ : ByteArray)))) rfl rfl (xr_bin _ _ _ rfl rfl rfl (B.eql_str _ _)) ?_
    refine wl_end ?_
    (try simp only [ls0, ls1])
    refine hK258 _ _ ?_
    (try clear hK258 K258)
    by_cases c259 : t190 = (⟨#[116, 114, 117, 101]⟩ : ByteArray)
    ·rw [if_pos c259] at H
     (try rw [(decide_eq_true c259)])
     refine wp_cond_true rfl ?_
     refine wl_region ?_
     refine st (.pointer (some ⟨g249, 2, none⟩)) rfl rfl (xr_fieldAddr _ _ rfl rfl (bx_field2 Try.underlying44 rfl rfl (by kernel_rfl))) ?_
     refine bx_store (C := C251) (z := 12) (g := g249) (j := 2) (tb := 44) (u := .int .i64 1) (seg := [.int .i64 1]) (xs := [.int .i64 1, .int .i64 t181, .int .i64 0, .string (⟨#[]⟩ : ByteArray), .string (⟨#[]⟩ : ByteArray), .slice none 0 0]) rfl rfl rfl rfl rfl rfl (by first | kernel_rfl | rfl) (by simp [Value.oneCell']) HX255 (by simp only [List.length_cons, List.length_nil]; omega) rfl ?_
     intro w260 HX261 hs262
     replace HX246 := HX246.thru hs262 rfl
     replace HJ236 := HJ236.thru hs262 rfl
     replace HJ237 := HJ237.thru hs262 rfl
     replace HJ239 := HJ239.thru hs262 rfl
     replace HS234 := HS234.trans hs262 hc rfl
     (try simp only [ls0, ls1])
     refine wl_end ?_
     (try simp only [ls0, ls1])
     refine hK257 _ _ ?_
     (try clear hK257 K257)
     refine wp_seq_k fun K263 hK263 => ?_
     refine wl_region ?_
     refine st (.agg #[.int .i64 1, .int .i64 t181, .int .i64 1, .string (⟨#[]⟩ : ByteArray), .string (⟨#[]⟩ : ByteArray), .slice none 0 0]) rfl rfl (xr_load _ _ rfl rfl (load_agg (cs := [.int .i64 1, .int .i64 t181, .int .i64 1, .string (⟨#[]⟩ : ByteArray), .string (⟨#[]⟩ : ByteArray), .slice none 0 0]) Try.underlying44 rfl (by kernel_rfl) (bx_cells (HX261).2 0 rfl))) ?_
     refine bx_store (C := C251) (z := 11) (g := g174) (j := 0) (tb := 44) (u := .agg #[.int .i64 1, .int .i64 t181, .int .i64 1, .string (⟨#[]⟩ : ByteArray), .string (⟨#[]⟩ : ByteArray), .slice none 0 0]) (seg := [.int .i64 1, .int .i64 t181, .int .i64 1, .string (⟨#[]⟩ : ByteArray), .string (⟨#[]⟩ : ByteArray), .slice none 0 0]) (xs := [.int .i64 0, .int .i64 0, .int .i64 0, .string (⟨#[]⟩ : ByteArray), .string (⟨#[]⟩ : ByteArray), .slice none 0 0]) rfl rfl rfl rfl rfl rfl (by first | kernel_rfl | rfl) (by simp [Value.oneCell']) HJ239 (by simp only [List.length_cons, List.length_nil]; omega) rfl ?_
     intro w264 HX265 hs266
     replace HX246 := HX246.thru hs266 rfl
     replace HJ236 := HJ236.thru hs266 rfl
     replace HJ237 := HJ237.thru hs266 rfl
     replace HX261 := HX261.thru hs266 rfl
     replace HS234 := HS234.trans hs266 hc rfl
     (try simp only [ls0, ls1])
     refine st (.int .i64 0) rfl rfl (xr_assign _ rfl rfl) ?_
     refine wl_end ?_
     (try simp only [ls0, ls1])
     refine hK263 _ _ ?_
     (try clear hK263 K263)
     refine wp_ret ?_
     (try simp only [Exit.inBlock, Exit.then, Exit.noGoto])
     (try simp only [ls0, ls1])
     simp only [Option.some.injEq, Prod.mk.injEq] at H
     obtain ⟨rfl, rfl, rfl, rfl, rfl, rfl, rfl, rfl, rfl⟩ := H
     refine bodyPost_ret (res_ct rfl rfl (load_of (load_agg (cs := [.int .i64 1, .int .i64 t181, .int .i64 1, .string (⟨#[]⟩ : ByteArray), .string (⟨#[]⟩ : ByteArray), .slice none 0 0]) Try.underlying44 rfl (by kernel_rfl) (bx_cells (HX265).2 0 rfl)))) rfl ?_
     exact ⟨_, none, 0, rfl, HS234, (Kd.F_nil _ _ _), (Nat.le_refl 0), HX246⟩
    rw [if_neg c259] at H
    (try rw [(decide_eq_false c259)])
    refine wp_cond_false rfl ?_
    refine wp_skip ?_
    (try simp only [ls0, ls1])
    refine hK257 _ _ ?_
    (try clear hK257 K257)
    refine wp_seq_k fun K267 hK267 => ?_
    refine wl_region ?_
    refine st (.agg #[.int .i64 1, .int .i64 t181, .int .i64 0, .string (⟨#[]⟩ : ByteArray), .string (⟨#[]⟩ : ByteArray), .slice none 0 0]) rfl rfl (xr_load _ _ rfl rfl (load_agg (cs := [.int .i64 1, .int .i64 t181, .int .i64 0, .string (⟨#[]⟩ : ByteArray), .string (⟨#[]⟩ : ByteArray), .slice none 0 0]) Try.underlying44 rfl (by kernel_rfl) (bx_cells (HX255).2 0 rfl))) ?_
    refine bx_store (C := C251) (z := 11) (g := g174) (j := 0) (tb := 44) (u := .agg #[.int .i64 1, .int .i64 t181, .int .i64 0, .string (⟨#[]⟩ : ByteArray), .string (⟨#[]⟩ : ByteArray), .slice none 0 0]) (seg := [.int .i64 1, .int .i64 t181, .int .i64 0, .string (⟨#[]⟩ : ByteArray), .string (⟨#[]⟩ : ByteArray), .slice none 0 0]) (xs := [.int .i64 0, .int .i64 0, .int .i64 0, .string (⟨#[]⟩ : ByteArray), .string (⟨#[]⟩ : ByteArray), .slice none 0 0]) rfl rfl rfl rfl rfl rfl (by first | kernel_rfl | rfl) (by simp [Value.oneCell']) HJ239 (by simp only [List.length_cons, List.length_nil]; omega) rfl ?_
    intro w268 HX269 hs270
    replace HX246 := HX246.thru hs270 rfl
    replace HJ236 := HJ236.thru hs270 rfl
    replace HJ237 := HJ237.thru hs270 rfl
    replace HX255 := HX255.thru hs270 rfl
    replace HS234 := HS234.trans hs270 hc rfl
    (try simp only [ls0, ls1])
    refine st (.int .i64 0) rfl rfl (xr_assign _ rfl rfl) ?_
    refine wl_end ?_
    (try simp only [ls0, ls1])
    refine hK267 _ _ ?_
    (try clear hK267 K267)
    refine wp_ret ?_
    (try simp only [Exit.inBlock, Exit.then, Exit.noGoto])
    (try simp only [ls0, ls1])
    simp only [Option.some.injEq, Prod.mk.injEq] at H
    obtain ⟨rfl, rfl, rfl, rfl, rfl, rfl, rfl, rfl, rfl⟩ := H
    refine bodyPost_ret (res_ct rfl rfl (load_of (load_agg (cs := [.int .i64 1, .int .i64 t181, .int .i64 0, .string (⟨#[]⟩ : ByteArray), .string (⟨#[]⟩ : ByteArray), .slice none 0 0]) Try.underlying44 rfl (by kernel_rfl) (bx_cells (HX269).2 0 rfl)))) rfl ?_
    exact ⟨_, none, 0, rfl, HS234, (Kd.F_nil _ _ _), (Nat.le_refl 0), HX246⟩
   rw [if_neg c243] at H
   (try rw [(Bool.eq_false_iff.mpr c243)])
   refine wp_cond_false rfl ?_
   refine wp_seq_k fun K271 hK271 => ?_
   refine wl_region ?_
   refine mv_ rfl ?_
   refine st (.bool (decide (t190 = (⟨#[40]⟩ : ByteArray)))) rfl rfl (xr_bin _ _ _ rfl rfl rfl (B.eql_str _ _)) ?_
   refine as_ rfl ?_
   refine wl_end ?_
   (try simp only [ls0, ls1])
   refine hK271 _ _ ?_
   (try clear hK271 K271)
   by_cases c272 : t190 = (⟨#[40]⟩ : ByteArray)
   ·rw [if_pos c272] at H
    (try rw [(decide_eq_true c272)])
    refine wp_cond_true rfl ?_
    refine wp_seq_k fun K273 hK273 => ?_
    refine wl_region ?_
    refine mv_ rfl ?_
    obtain ⟨⟨t274, t275, t276, t277, t278, t279, t280, t281, t282⟩, A283, H⟩ := bnd H
    (try dsimp only at H)
    refine st_call #[.pointer (some ⟨g0, 0, none⟩)] rfl rfl Try.func132 (by kernel_rfl) rfl rfl (mp_ rfl) ?_
    refine (IH.expr_Cursor_group g0 A0_0 c0_0 l0_0 A0_1 c0_1 l0_1 a0_2 a0_3 t274 t275 t276 t277 t278 t279 t280 t281 t282  (fun z_ => pal [(0, 0), (1, 1)] (C232 z_)) w233 (fun _ => pal_lt rfl _) (Bx.arg HJ238 rfl) (Ft.arg HJ236 rfl) HCP0_0 (Ft.arg HJ237 rfl) HCP0_1 A283).mono ?_
    rintro _ w285 ⟨C286, A288, cp289, rfl, hs287, HO290, HC291, HX292⟩
    refine ⟨_, rfl, ?_⟩
    replace HO290 := Ft.res (U := [(0, 0), (1, 1)]) HO290 hs287 [0] rfl rfl rfl
    replace HX292 := Bx.res (U := [(0, 0), (1, 1)]) (j := 1) HX292 hs287 (by rfl) (by decide) rfl
    replace hs287 := Step.lift (U := [(0, 0), (1, 1)]) hs287 [1] rfl rfl
    generalize up C232 C286 w233.heap.size [(0, 0), (1, 1)] = C286_ at HO290 HX292 hs287
    replace HJ236 := HJ236.thru hs287 rfl
    replace HJ237 := HJ237.thru hs287 rfl
    replace HJ239 := HJ239.thru hs287 rfl
    replace HS234 := HS234.trans hs287 hc rfl
    (try simp only [ls0, ls1])
    refine st (.agg #[.int .i64 t274, .int .i64 t275, .int .i64 t276, .string t277, .string t278, .slice A288 t279.length cp289]) rfl rfl (xr_extract (.tuple #[.agg #[.int .i64 t274, .int .i64 t275, .int .i64 t276, .string t277, .string t278, .slice A288 t279.length cp289], .int .i64 t280]) _ rfl rfl rfl) ?_
    refine st (.int .i64 t280) rfl rfl (xr_extract (.tuple #[.agg #[.int .i64 t274, .int .i64 t275, .int .i64 t276, .string t277, .string t278, .slice A288 t279.length cp289], .int .i64 t280]) _ rfl rfl rfl) ?_
    refine bx_store (C := C286_) (z := 11) (g := g174) (j := 0) (tb := 44) (u := .agg #[.int .i64 t274, .int .i64 t275, .int .i64 t276, .string t277, .string t278, .slice A288 t279.length cp289]) (seg := [.int .i64 t274, .int .i64 t275, .int .i64 t276, .string t277, .string t278, .slice A288 t279.length cp289]) (xs := [.int .i64 0, .int .i64 0, .int .i64 0, .string (⟨#[]⟩ : ByteArray), .string (⟨#[]⟩ : ByteArray), .slice none 0 0]) rfl rfl rfl rfl rfl rfl (by first | kernel_rfl | rfl) (by simp [Value.oneCell']) HJ239 (by simp only [List.length_cons, List.length_nil]; omega) rfl ?_
    intro w293 HX294 hs295
    replace HX292 := HX292.thru hs295 rfl
    replace HJ236 := HJ236.thru hs295 rfl
    replace HJ237 := HJ237.thru hs295 rfl
    replace HO290 := HO290.thru hs295 rfl
    replace HS234 := HS234.trans hs295 hc rfl
    (try simp only [ls0, ls1])
    refine as_ rfl ?_
    refine wl_end ?_
    (try simp only [ls0, ls1])
    refine hK273 _ _ ?_
    (try clear hK273 K273)
    refine wp_ret ?_
    (try simp only [Exit.inBlock, Exit.then, Exit.noGoto])
    (try simp only [ls0, ls1])
    simp only [Option.some.injEq, Prod.mk.injEq] at H
    obtain ⟨rfl, rfl, rfl, rfl, rfl, rfl, rfl, rfl, rfl⟩ := H
    refine bodyPost_ret (res_ct rfl rfl (load_of (load_agg (cs := [.int .i64 t274, .int .i64 t275, .int .i64 t276, .string t277, .string t278, .slice A288 t279.length cp289]) Try.underlying44 rfl (by kernel_rfl) (bx_cells (HX294).2 0 rfl)))) rfl ?_
    exact ⟨_, A288, cp289, rfl, HS234, HO290, HC291, HX292⟩
   rw [if_neg c272] at H
   (try rw [(decide_eq_false c272)])
   refine wp_cond_false rfl ?_
   refine wp_seq_k fun K296 hK296 => ?_
   refine wl_region ?_
   refine mv_ rfl ?_
   refine st (.bool (decide (t190 = (⟨#[100, 101, 99, 108, 97, 115, 115, 105, 102, 121]⟩ : ByteArray)))) rfl rfl (xr_bin _ _ _ rfl rfl rfl (B.eql_str _ _)) ?_
   refine as_ rfl ?_
   refine wl_end ?_
   (try simp only [ls0, ls1])
   refine hK296 _ _ ?_
   (try clear hK296 K296)
   by_cases c297 : t190 = (⟨#[100, 101, 99, 108, 97, 115, 115, 105, 102, 121]⟩ : ByteArray)
   ·rw [if_pos c297] at H
    (try rw [(decide_eq_true c297)])
    refine wp_cond_true rfl ?_
    refine wp_seq_k fun K298 hK298 => ?_
    refine wl_region ?_
    refine mv_ rfl ?_
    obtain ⟨⟨t299, t300, t301, t302, t303, t304, t305, t306, t307⟩, A308, H⟩ := bnd H
    (try dsimp only at H)
    refine st_call #[.pointer (some ⟨g0, 0, none⟩)] rfl rfl Try.func133 (by kernel_rfl) rfl rfl (mp_ rfl) ?_
    refine (IH.expr_Cursor_open g0 A0_0 c0_0 l0_0 A0_1 c0_1 l0_1 a0_2 a0_3 t299 t300 t301 t302 t303 t304 t305 t306 t307  (fun z_ => pal [(0, 0), (1, 1)] (C232 z_)) w233 (fun _ => pal_lt rfl _) (Bx.arg HJ238 rfl) (Ft.arg HJ236 rfl) HCP0_0 (Ft.arg HJ237 rfl) HCP0_1 A308).mono ?_
    rintro _ w310 ⟨C311, A313, cp314, rfl, hs312, HO315, HC316, HX317⟩
    refine ⟨_, rfl, ?_⟩
    replace HO315 := Ft.res (U := [(0, 0), (1, 1)]) HO315 hs312 [0] rfl rfl rfl
    replace HX317 := Bx.res (U := [(0, 0), (1, 1)]) (j := 1) HX317 hs312 (by rfl) (by decide) rfl
    replace hs312 := Step.lift (U := [(0, 0), (1, 1)]) hs312 [1] rfl rfl
    generalize up C232 C311 w233.heap.size [(0, 0), (1, 1)] = C311_ at HO315 HX317 hs312
    replace HJ236 := HJ236.thru hs312 rfl
    replace HJ237 := HJ237.thru hs312 rfl
    replace HJ239 := HJ239.thru hs312 rfl
    replace HS234 := HS234.trans hs312 hc rfl
    (try simp only [ls0, ls1])
    refine st (.agg #[.int .i64 t299, .int .i64 t300, .int .i64 t301, .string t302, .string t303, .slice A313 t304.length cp314]) rfl rfl (xr_extract (.tuple #[.agg #[.int .i64 t299, .int .i64 t300, .int .i64 t301, .string t302, .string t303, .slice A313 t304.length cp314], .int .i64 t305]) _ rfl rfl rfl) ?_
    refine st (.int .i64 t305) rfl rfl (xr_extract (.tuple #[.agg #[.int .i64 t299, .int .i64 t300, .int .i64 t301, .string t302, .string t303, .slice A313 t304.length cp314], .int .i64 t305]) _ rfl rfl rfl) ?_
    refine bx_store (C := C311_) (z := 11) (g := g174) (j := 0) (tb := 44) (u := .agg #[.int .i64 t299, .int .i64 t300, .int .i64 t301, .string t302, .string t303, .slice A313 t304.length cp314]) (seg := [.int .i64 t299, .int .i64 t300, .int .i64 t301, .string t302, .string t303, .slice A313 t304.length cp314]) (xs := [.int .i64 0, .int .i64 0, .int .i64 0, .string (⟨#[]⟩ : ByteArray), .string (⟨#[]⟩ : ByteArray), .slice none 0 0]) rfl rfl rfl rfl rfl rfl (by first | kernel_rfl | rfl) (by simp [Value.oneCell']) HJ239 (by simp only [List.length_cons, List.length_nil]; omega) rfl ?_
    intro w318 HX319 hs320
    replace HX317 := HX317.thru hs320 rfl
    replace HJ236 := HJ236.thru hs320 rfl
    replace HJ237 := HJ237.thru hs320 rfl
    replace HO315 := HO315.thru hs320 rfl
    replace HS234 := HS234.trans hs320 hc rfl
    (try simp only [ls0, ls1])
    refine as_ rfl ?_
    refine wl_end ?_
    (try simp only [ls0, ls1])
    refine hK298 _ _ ?_
    (try clear hK298 K298)
    refine wp_ret ?_
    (try simp only [Exit.inBlock, Exit.then, Exit.noGoto])
    (try simp only [ls0, ls1])
    simp only [Option.some.injEq, Prod.mk.injEq] at H
    obtain ⟨rfl, rfl, rfl, rfl, rfl, rfl, rfl, rfl, rfl⟩ := H
    refine bodyPost_ret (res_ct rfl rfl (load_of (load_agg (cs := [.int .i64 t299, .int .i64 t300, .int .i64 t301, .string t302, .string t303, .slice A313 t304.length cp314]) Try.underlying44 rfl (by kernel_rfl) (bx_cells (HX319).2 0 rfl)))) rfl ?_
    exact ⟨_, A313, cp314, rfl, HS234, HO315, HC316, HX317⟩
   rw [if_neg c297] at H
   (try rw [(decide_eq_false c297)])
   refine wp_cond_false rfl ?_
   refine wp_skip ?_
   (try simp only [ls0, ls1])
   refine hK187 _ _ ?_
   (try clear hK187 K187)
   refine wp_seq_k fun K321 hK321 => ?_
   refine wl_region ?_
   refine mv_ rfl ?_
   obtain ⟨⟨t322, t323, t324, t325, t326, t327, t328, t329, t330⟩, A331, H⟩ := bnd H
   (try dsimp only at H)
   refine st_call #[.pointer (some ⟨g0, 0, none⟩)] rfl rfl Try.func134 (by kernel_rfl) rfl rfl (mp_ rfl) ?_
   refine (IH.expr_Cursor_named g0 A0_0 c0_0 l0_0 A0_1 c0_1 l0_1 a0_2 a0_3 t322 t323 t324 t325 t326 t327 t328 t329 t330  (fun z_ => pal [(0, 0), (1, 1)] (C232 z_)) w233 (fun _ => pal_lt rfl _) (Bx.arg HJ238 rfl) (Ft.arg HJ236 rfl) HCP0_0 (Ft.arg HJ237 rfl) HCP0_1 A331).mono ?_
   rintro _ w333 ⟨C334, A336, cp337, rfl, hs335, HO338, HC339, HX340⟩
   refine ⟨_, rfl, ?_⟩
   replace HO338 := Ft.res (U := [(0, 0), (1, 1)]) HO338 hs335 [0] rfl rfl rfl
   replace HX340 := Bx.res (U := [(0, 0), (1, 1)]) (j := 1) HX340 hs335 (by rfl) (by decide) rfl
   replace hs335 := Step.lift (U := [(0, 0), (1, 1)]) hs335 [1] rfl rfl
   generalize up C232 C334 w233.heap.size [(0, 0), (1, 1)] = C334_ at HO338 HX340 hs335
   replace HJ236 := HJ236.thru hs335 rfl
   replace HJ237 := HJ237.thru hs335 rfl
   replace HJ239 := HJ239.thru hs335 rfl
   replace HS234 := HS234.trans hs335 hc rfl
   (try simp only [ls0, ls1])
   refine st (.agg #[.int .i64 t322, .int .i64 t323, .int .i64 t324, .string t325, .string t326, .slice A336 t327.length cp337]) rfl rfl (xr_extract (.tuple #[.agg #[.int .i64 t322, .int .i64 t323, .int .i64 t324, .string t325, .string t326, .slice A336 t327.length cp337], .int .i64 t328]) _ rfl rfl rfl) ?_
   refine st (.int .i64 t328) rfl rfl (xr_extract (.tuple #[.agg #[.int .i64 t322, .int .i64 t323, .int .i64 t324, .string t325, .string t326, .slice A336 t327.length cp337], .int .i64 t328]) _ rfl rfl rfl) ?_
   refine bx_store (C := C334_) (z := 11) (g := g174) (j := 0) (tb := 44) (u := .agg #[.int .i64 t322, .int .i64 t323, .int .i64 t324, .string t325, .string t326, .slice A336 t327.length cp337]) (seg := [.int .i64 t322, .int .i64 t323, .int .i64 t324, .string t325, .string t326, .slice A336 t327.length cp337]) (xs := [.int .i64 0, .int .i64 0, .int .i64 0, .string (⟨#[]⟩ : ByteArray), .string (⟨#[]⟩ : ByteArray), .slice none 0 0]) rfl rfl rfl rfl rfl rfl (by first | kernel_rfl | rfl) (by simp [Value.oneCell']) HJ239 (by simp only [List.length_cons, List.length_nil]; omega) rfl ?_
   intro w341 HX342 hs343
   replace HX340 := HX340.thru hs343 rfl
   replace HJ236 := HJ236.thru hs343 rfl
   replace HJ237 := HJ237.thru hs343 rfl
   replace HO338 := HO338.thru hs343 rfl
   replace HS234 := HS234.trans hs343 hc rfl
   (try simp only [ls0, ls1])
   refine as_ rfl ?_
   refine wl_end ?_
   (try simp only [ls0, ls1])
   refine hK321 _ _ ?_
   (try clear hK321 K321)
   refine wp_ret ?_
   (try simp only [Exit.inBlock, Exit.then, Exit.noGoto])
   (try simp only [ls0, ls1])
   simp only [Option.some.injEq, Prod.mk.injEq] at H
   obtain ⟨rfl, rfl, rfl, rfl, rfl, rfl, rfl, rfl, rfl⟩ := H
   refine bodyPost_ret (res_ct rfl rfl (load_of (load_agg (cs := [.int .i64 t322, .int .i64 t323, .int .i64 t324, .string t325, .string t326, .slice A336 t327.length cp337]) Try.underlying44 rfl (by kernel_rfl) (bx_cells (HX342).2 0 rfl)))) rfl ?_
   exact ⟨_, A336, cp337, rfl, HS234, HO338, HC339, HX340⟩
 refine wp_seq_k fun K344 hK344 => ?_
 refine wl_region ?_
 refine mv_ rfl ?_
 refine st (.bool (decide (t190 = (⟨#[116, 114, 117, 101]⟩ : ByteArray)))) rfl rfl (xr_bin _ _ _ rfl rfl rfl (B.eql_str _ _)) ?_
 refine as_ rfl ?_
 refine wl_end ?_
 (try simp only [ls0, ls1])
 refine hK344 _ _ ?_
 (try clear hK344 K344)
 by_cases c345 : t190 = (⟨#[116, 114, 117, 101]⟩ : ByteArray)
 ·rw [if_pos c345] at H
  (try rw [(decide_eq_true c345)])
  refine wp_cond_true rfl ?_
  refine wp_skip ?_
  (try simp only [ls0, ls1])
  exact jmp (fun g_ => hj231 _ _ _ (true) g_ HS (by omega) HP0_0 HP0_1 HP0 HX177 H) rfl
 rw [if_neg c345] at H
 (try rw [(decide_eq_false c345)])
 refine wp_cond_false rfl ?_
 refine wl_region ?_
 refine mv_ rfl ?_
 refine st (.bool (decide (t190 = (⟨#[102, 97, 108, 115, 101]⟩ : ByteArray)))) rfl rfl (xr_bin _ _ _ rfl rfl rfl (B.eql_str _ _)) ?_
 refine as_ rfl ?_
 refine wl_end ?_
 (try simp only [ls0, ls1])
 exact jmp (fun g_ => hj231 _ _ _ (decide (t190 = (⟨#[102, 97, 108, 115, 101]⟩ : ByteArray))) g_ HS (by omega) HP0_0 HP0_1 HP0 HX177 H) rfl

end Go.Proofs.Yteoccoklbmjiaaa.PStn
