-- By cprint.py, a program of this work. Lean checks it.
import Derived.Test.YtnhcpdepjpfcfaaPRowx0
import Derived.Test.YtnhcpdepjpfcfaaPRowx1
namespace Go.Proofs.Ytnhcpdepjpfcfaa.PRow
open Go.RowKit Go.Proofs.YtnhcpdepjpfcfaaW.PrintWords Go.Proofs.YtnhcpdepjpfcfaaW.PrintLast Go.Proofs.YtnhcpdepjpfcfaaW.PrintMore
set_option linter.unusedVariables false
set_option linter.unusedSimpArgs false

/-! ### row_New: function 12 -/
def row_New.l0 : Nat → (List (S25)) → Int → (List ByteArray) → (List (ByteArray × Int)) → Option ((Option S91) × Int × Int)
  | 0, _, _, _, _ => none
  | k + 1, l0, x1031, x1032, x1038 => if x1031 < (l0.length : Int) then (if 0 ≤ x1031 then ((lex_Ident.f k ((rd_T25 l0 x1031).f0)).bind fun t1087 => (if t1087 = true then (if mhas x1038 ((rd_T25 l0 x1031).f0) = true then (some ((none : Option S91), x1031, 7)) else (if (x1032.length : Int) = 64 then (some ((none : Option S91), x1031, 8)) else ((some (mput x1038 ((rd_T25 l0 x1031).f0) (x1032.length : Int) : List (ByteArray × Int))).bind fun y1102 => (if x1032.length < 8796093022208 then ((some (x1032 ++ [(rd_T25 l0 x1031).f0] : List ByteArray)).bind fun y1109 => (row_New.l0 k l0 (wrap64 (x1031 + 1)) y1109 y1102)) else (none))))) else (some ((none : Option S91), x1031, 1)))) else (none)) else (some ((some (⟨x1032, x1038⟩ : S91) : Option S91), 0, 0))
def row_New.f (k : Nat) (l0 : List (S25)) : Option ((Option S91) × Int × Int) := row_New.l0 k l0 0 ([] : List ByteArray) ([] : List (ByteArray × Int))

set_option maxHeartbeats 2000000 in
set_option maxRecDepth 100000 in
theorem row_New.calls (k : Nat) (A0 : Option Addr) (c0 : Nat) (l0 : List (S25)) (r1 : Option S91) (r2 : Int) (r3 : Int) (c : Nat → Nat) (w : World) (hc : ∀ k, c k < 10) (HP0 : Ft c [0] w (fun w_ => k25.C w_ A0 l0.length l0)) (HCP0 : l0.length ≤ c0) (H : row_New.f k l0 = some (r1, r2, r3)) :
    Calls Try.prog 12 #[.slice A0 l0.length c0] w fun e w' => ∃ (c' : Nat → Nat) (v_r1 : Value), e = .returned (.tuple #[v_r1, .int .i64 r2, .int .i64 r3]) ∧ Step c w c' w' [] ∧ Ft c' [0] w' (fun w_ => (Kd.ptr 91 k91).K w_ r1 [v_r1]) := by
  unfold row_New.f at H
  have HS := Step.refl c w []
  go_enter Try.func12, Try.ntmps12
  refine wp_seq_k fun K860 hK860 => ?_
  refine wl_region ?_
  refine st (.pointer none) rfl rfl (xr_assign (.pointer none) rfl rfl) ?_
  simp only [ls0, ls1]
  refine st (.int .i64 0) rfl rfl (xr_assign (.int .i64 0) rfl rfl) ?_
  simp only [ls0, ls1]
  refine st (.int .i64 0) rfl rfl (xr_assign (.int .i64 0) rfl rfl) ?_
  simp only [ls0, ls1]
  refine wl_end ?_
  (try simp only [Act.put, List.setIfInBounds_toArray, ls0, ls1])
  refine hK860 _ _ ?_
  (try clear hK860 K860)
  refine wp_seq_k fun K861 hK861 => ?_
  refine wl_region ?_
  refine mp_new (C := c) Value.string (Value.int .i64) 11 rfl rfl rfl ?_
  intro mb862 w863 C864 HM865 hs866
  replace HP0 := HP0.thru hs866 rfl
  replace HS := HS.trans hs866 hc rfl
  (try simp only [Act.put, List.setIfInBounds_toArray, ls0, ls1])
  refine st (.agg #[.slice none 0 0, .map (some mb862)]) rfl rfl (xr_build #[(1, .map (some mb862))] (.agg #[.slice none 0 0, .map (some mb862)]) rfl (by simp only [List.map_toArray, List.map_cons, List.map_nil]; first | done | rfl) (by first | rfl | (go_simp; done) | (go_simp; rfl) | (go_simp; exact i64_w _) | (go_simp; exact i32_w _))) ?_
  simp only [ls0, ls1]
  refine bx_new (C := C864) 91 ([.slice none 0 0, .map (some mb862)]) 12 rfl rfl (by first | (go_simp; done) | (go_simp; rfl)) ?_
  intro g867 w868 C869 HX870 hs871
  replace HP0 := HP0.thru hs871 rfl
  replace HM865 := HM865.thru hs871 rfl
  replace HS := HS.trans hs871 hc rfl
  (try simp only [Act.put, List.setIfInBounds_toArray, ls0, ls1])
  refine st (.pointer (some ⟨g867, 0, none⟩)) rfl rfl (xr_assign (.pointer (some ⟨g867, 0, none⟩)) rfl rfl) ?_
  simp only [ls0, ls1]
  refine wl_end ?_
  (try simp only [Act.put, List.setIfInBounds_toArray, ls0, ls1])
  refine hK861 _ _ ?_
  (try clear hK861 K861)
  refine wp_seq_k fun K872 hK872 => ?_
  refine wp_seq_k fun K873 hK873 => ?_
  refine wl_region ?_
  refine st (.slice A0 l0.length c0) rfl rfl (xr_move (.slice A0 l0.length c0) rfl rfl) ?_
  simp only [ls0, ls1]
  refine st (.int .i64 (l0.length : Int)) rfl rfl (xr_builtin #[.slice A0 l0.length c0] (.int .i64 (l0.length : Int)) rfl (by simp only [List.map_toArray, List.map_cons, List.map_nil]; first | done | rfl) (by first | rfl | (go_simp; done) | (go_simp; rfl) | (go_simp; exact i64_w _) | (go_simp; exact i32_w _))) ?_
  simp only [ls0, ls1]
  refine st (.int .i64 0) rfl rfl (xr_move (.int .i64 0) rfl rfl) ?_
  simp only [ls0, ls1]
  refine wl_end ?_
  (try simp only [Act.put, List.setIfInBounds_toArray, ls0, ls1])
  refine hK873 _ _ ?_
  (try clear hK873 K873)
  refine wp_block ?_
  (try simp only [Act.put, List.setIfInBounds_toArray, ls0, ls1])
  refine wp_looped (looped_ind (fun kq1044 a_ w1043 => ∃ (C1042 : Nat → Nat) (x1031 : Int) (A1033 : Option Addr) (n1034 cp1035 : Nat) (x1032 : List ByteArray) (x1038 : List (ByteArray × Int)) (g1041 : Nat → Value), a_ = ⟨#[(g1041 0), (g1041 1), .pointer (some ⟨g867, 0, none⟩), (g1041 3), (g1041 4), (g1041 5), (g1041 6), (g1041 7), (g1041 8), (g1041 9), (g1041 10), (g1041 11), .slice A0 l0.length c0, .int .i64 (l0.length : Int), .int .i64 x1031, (g1041 15), (g1041 16), (g1041 17), (g1041 18), (g1041 19), (g1041 20), (g1041 21), (g1041 22), (g1041 23), (g1041 24), (g1041 25), (g1041 26), (g1041 27), (g1041 28), (g1041 29), (g1041 30), (g1041 31), (g1041 32), (g1041 33), (g1041 34), (g1041 35), (g1041 36), (g1041 37), (g1041 38), (g1041 39), (g1041 40), (g1041 41), (g1041 42), (g1041 43), (g1041 44), (g1041 45), (g1041 46), (g1041 47), (g1041 48), (g1041 49), (g1041 50), (g1041 51), (g1041 52), (g1041 53), (g1041 54), (g1041 55), (g1041 56), (g1041 57), (g1041 58), (g1041 59), (g1041 60), (g1041 61), (g1041 62), (g1041 63), (g1041 64), (g1041 65), (g1041 66), (g1041 67), (g1041 68), (g1041 69)], []⟩ ∧ Step c w C1042 w1043 [] ∧ kq1044 ≤ k ∧ (Ft C1042 [0] w1043 (fun w_ => k25.C w_ A0 l0.length l0)) ∧ (Own C1042 13 w1043 Kd.string 9 (.slice A1033 n1034 cp1035) x1032) ∧ (n1034 ≤ cp1035) ∧ (Mp Value.string (Value.int .i64) C1042 14 w1043 mb862 x1038) ∧ (Bx C1042 12 w1043 g867 91 ([.slice A1033 n1034 cp1035, .map (some mb862)])) ∧ row_New.l0 kq1044 l0 x1031 x1032 x1038 = some (r1, r2, r3)) ?step k _ _ ?init)
  case init =>
    replace HP0 := Ft.recol (a := 11) (b := 14) HP0 (.inl rfl)
    replace HM865 := Mp.recolor (y := 14) HM865
    replace HX870 := Bx.recol (a := 11) (b := 14) HX870 (by decide)
    replace HS := Step.recol (a := 11) (b := 14) HS hc (by decide)
    exact ⟨_, 0, none, 0, 0, ([] : List ByteArray), ([] : List (ByteArray × Int)), (fun q_ => List.getD [.slice A0 l0.length c0, undef, undef, .int .i64 0, .int .i64 0, undef, undef, undef, undef, .map (some mb862), .agg #[.slice none 0 0, .map (some mb862)], .pointer (some ⟨g867, 0, none⟩), undef, undef, undef, undef, undef, undef, undef, undef, undef, undef, undef, undef, undef, undef, undef, undef, undef, undef, undef, undef, undef, undef, undef, undef, undef, undef, undef, undef, undef, undef, undef, undef, undef, undef, undef, undef, undef, undef, undef, undef, undef, undef, undef, undef, undef, undef, undef, undef, undef, undef, undef, undef, undef, undef, undef, undef, undef, undef] q_ undef), rfl, HS, Nat.le_refl _, HP0, (Own.nil _ _ _ _ _), (Nat.le_refl 0), HM865, HX870, H⟩
  case step =>
    intro kq1044 ih1047 a1048 w1043 hr1049
    obtain ⟨C1042, x1031, A1033, n1034, cp1035, x1032, x1038, g1041, rfl, HS1045, hk1046, HJ1030, HJ1037, HC1036, HJ1039, HJ1040, H⟩ := hr1049
    refine looped_round ?_
    obtain rfl : n1034 = x1032.length := HJ1037.at_.1
    cases kq1044 with
    | zero => exact absurd H (by simp [row_New.l0])
    | succ k1050 =>
      simp only [row_New.l0] at H
      refine wp_seq_k fun K1051 hK1051 => ?_
      refine wl_region ?_
      refine st (.bool (decide (x1031 < (l0.length : Int)))) rfl rfl (xr_bin (.int .i64 x1031) (.int .i64 (l0.length : Int)) (.bool (decide (x1031 < (l0.length : Int)))) rfl rfl rfl (B.lss_i64 x1031 (l0.length : Int))) ?_
      simp only [ls0, ls1]
      refine wl_end ?_
      (try simp only [Act.put, List.setIfInBounds_toArray, ls0, ls1])
      refine hK1051 _ _ ?_
      (try clear hK1051 K1051)
      refine wp_seq_k fun K1052 hK1052 => ?_
      by_cases c1053 : x1031 < (l0.length : Int)
      · rw [if_pos c1053] at H
        (try rw [(decide_eq_true c1053)])
        (try simp only [Bool.not_true, Bool.not_false])
        refine wp_cond_true rfl ?_
        refine wp_skip ?_
        (try simp only [Act.put, List.setIfInBounds_toArray, ls0, ls1])
        refine hK1052 _ _ ?_
        (try clear hK1052 K1052)
        refine wp_seq_k fun K1054 hK1054 => ?_
        refine wp_block ?_
        refine wp_seq_k fun K1055 hK1055 => ?_
        refine wl_region ?_
        refine st (.int .i64 x1031) rfl rfl (xr_move (.int .i64 x1031) rfl rfl) ?_
        simp only [ls0, ls1]
        by_cases c1056 : 0 ≤ x1031
        · rw [if_pos c1056] at H
          obtain ⟨ad1057, hA1058⟩ := c_addr (Ft.now HJ1030) (pos_of (j := x1031) (by first | assumption | decide) (by first | assumption | omega))
          refine st (.pointer (some (ad1057.add ((x1031 : Int).toNat * 2)))) rfl rfl (xr_indexAddr (.slice A0 l0.length c0) (.int .i64 x1031) (.pointer (some (ad1057.add ((x1031 : Int).toNat * 2)))) rfl rfl rfl (index_at Try.underlying22 info25 hA1058 (by first | assumption | decide | omega) (by first | assumption | decide | omega))) ?_
          simp only [ls0, ls1]
          refine st (.agg #[.string ((rd_T25 l0 x1031).f0), .int .i64 ((rd_T25 l0 x1031).f1)]) rfl rfl (xr_load (.pointer (some (ad1057.add ((x1031 : Int).toNat * 2)))) (.agg #[.string ((rd_T25 l0 x1031).f0), .int .i64 ((rd_T25 l0 x1031).f1)]) rfl rfl (by obtain ⟨ad_, cs_, e_, _, hK_, hc_⟩ := Kd.C_get (Ft.now HJ1030) z25 x1031 (by first | assumption | decide | omega) (by first | assumption | decide | omega); rw [hA1058] at e_; injection e_ with e_; subst e_; obtain rfl := k25_open hK_; exact load_agg (cs := [.string ((rd_T25 l0 x1031).f0), .int .i64 ((rd_T25 l0 x1031).f1)]) Try.underlying25 rfl (by kernel_rfl) (fun j_ u_ hu_ => by first | (rw [add_add]; exact hc_ _ _ hu_) | exact add_cells hc_ hu_))) ?_
          simp only [ls0, ls1]
          refine bx_new (C := C1042) 25 ([.string (⟨#[]⟩ : ByteArray), .int .i64 0]) 15 rfl rfl (by first | (go_simp; done) | (go_simp; rfl)) ?_
          intro g1060 w1061 C1062 HX1063 hs1064
          replace HJ1030 := HJ1030.thru hs1064 rfl
          replace HJ1040 := HJ1040.thru hs1064 rfl
          replace HJ1037 := HJ1037.thru hs1064 rfl
          replace HJ1039 := HJ1039.thru hs1064 rfl
          replace HS1045 := HS1045.trans hs1064 hc rfl
          (try simp only [Act.put, List.setIfInBounds_toArray, ls0, ls1])
          refine st (.int .i64 x1031) rfl rfl (xr_assign (.int .i64 x1031) rfl rfl) ?_
          simp only [ls0, ls1]
          refine bx_store (C := C1062) (z := 15) (g := g1060) (j := 0) (tb := 25) (u := .agg #[.string ((rd_T25 l0 x1031).f0), .int .i64 ((rd_T25 l0 x1031).f1)]) (seg := [.string ((rd_T25 l0 x1031).f0), .int .i64 ((rd_T25 l0 x1031).f1)]) (xs := [.string (⟨#[]⟩ : ByteArray), .int .i64 0]) rfl rfl rfl rfl rfl rfl (by first | kernel_rfl | rfl) (by simp [Value.oneCell']) HX1063 (by simp only [List.length_cons, List.length_nil]; omega) rfl ?_
          intro w1065 HX1066 hs1067
          replace HJ1030 := HJ1030.thru hs1067 rfl
          replace HJ1040 := HJ1040.thru hs1067 rfl
          replace HJ1037 := HJ1037.thru hs1067 rfl
          replace HJ1039 := HJ1039.thru hs1067 rfl
          replace HS1045 := HS1045.trans hs1067 hc rfl
          (try simp only [Act.put, List.setIfInBounds_toArray, ls0, ls1])
          refine wl_end ?_
          (try simp only [Act.put, List.setIfInBounds_toArray, ls0, ls1])
          refine hK1055 _ _ ?_
          (try clear hK1055 K1055)
          refine wp_seq_k fun K1068 hK1068 => ?_
          (try simp only [Act.put, List.setIfInBounds_toArray, ls0, ls1])
          refine al_start #[false, false, false, false, false, false, false, false, false, false, false, false] rfl rfl rfl (fun w_ => w_.heap[g867]? = some (.cells (List.toArray ([.slice A1033 x1032.length cp1035, .map (some mb862)])) 91 (0, 0)) ∧ w_.heap[g1060]? = some (.cells (List.toArray ([.string ((rd_T25 l0 x1031).f0), .int .i64 ((rd_T25 l0 x1031).f1)])) 25 (0, 0)) ∧ Kd.MapIs Value.string (Value.int .i64) w_ mb862 x1038) ⟨(HJ1040.drew).2, (HX1066.drew).2, (HJ1039.drew).2⟩ [] ?_
          replace HJ1030 := HJ1030.drew
          replace HJ1040 := HJ1040.drew
          replace HJ1037 := HJ1037.drew
          replace HJ1039 := HJ1039.drew
          replace HX1066 := HX1066.drew
          replace HS1045 := Step.ofDrew HS1045
          generalize w1065.drew = w1069 at *
          refine al_pure 0 20 (.pointer (some ⟨g867, 0, none⟩)) #[true, false, false, false, false, false, false, false, false, false, false, false] rfl rfl (by kernel_rfl) (fun _ _ _ h_ => h_) rfl (fun w_ => xr_move (.pointer (some ⟨g867, 0, none⟩)) rfl rfl) ?_
          simp only [ls0, ls1]
          refine al_pure 1 21 (.pointer (some ⟨g867, 0, none⟩)) #[true, true, false, false, false, false, false, false, false, false, false, false] rfl rfl (by kernel_rfl) (fun _ _ _ h_ => h_) rfl (fun w_ => xr_nilCheck ⟨g867, 0, none⟩ rfl rfl) ?_
          simp only [ls0, ls1]
          refine al_pure 2 22 (.pointer (some ⟨g867, 1, none⟩)) #[true, true, true, false, false, false, false, false, false, false, false, false] rfl rfl (by kernel_rfl) (fun _ _ _ h_ => h_) rfl (fun w_ => xr_fieldAddr (.pointer (some ⟨g867, 0, none⟩)) (.pointer (some ⟨g867, 1, none⟩)) rfl rfl (bx_field2 Try.underlying91 rfl rfl (by kernel_rfl))) ?_
          simp only [ls0, ls1]
          refine al_pure 4 24 (.pointer (some ⟨g1060, 0, none⟩)) #[true, true, true, false, true, false, false, false, false, false, false, false] rfl rfl (by kernel_rfl) (fun _ _ _ h_ => h_) rfl (fun w_ => xr_fieldAddr (.pointer (some ⟨g1060, 0, none⟩)) (.pointer (some ⟨g1060, 0, none⟩)) rfl rfl (bx_field2 Try.underlying25 rfl rfl (by kernel_rfl))) ?_
          simp only [ls0, ls1]
          refine al_take 3 23 (.map (some mb862)) #[true, true, true, true, true, false, false, false, false, false, false, false] rfl rfl (by kernel_rfl) (fun _ _ _ h_ => h_) rfl (fun w_ hS_ => xr_load (.pointer (some ⟨g867, 1, none⟩)) (.map (some mb862)) rfl rfl (load_cell Try.underlying89 rfl (bx_cell (l := ([.slice A1033 x1032.length cp1035, .map (some mb862)])) hS_.1 1 rfl))) ⟨(HJ1040).2, (HX1066).2, (HJ1039).2⟩ ?_
          simp only [ls0, ls1]
          refine al_take 5 25 (.string ((rd_T25 l0 x1031).f0)) #[true, true, true, true, true, true, false, false, false, false, false, false] rfl rfl (by kernel_rfl) (fun _ _ _ h_ => h_) rfl (fun w_ hS_ => xr_load (.pointer (some ⟨g1060, 0, none⟩)) (.string ((rd_T25 l0 x1031).f0)) rfl rfl (load_cell Try.underlying9 rfl (bx_cell (l := ([.string ((rd_T25 l0 x1031).f0), .int .i64 ((rd_T25 l0 x1031).f1)])) hS_.2.1 0 rfl))) ⟨(HJ1040).2, (HX1066).2, (HJ1039).2⟩ ?_
          simp only [ls0, ls1]
          refine al_take 6 26 (.tuple #[.int .i64 (mget 0 x1038 ((rd_T25 l0 x1031).f0)), .bool (mhas x1038 ((rd_T25 l0 x1031).f0))]) #[true, true, true, true, true, true, true, false, false, false, false, false] rfl rfl (by kernel_rfl) (fun _ _ _ h_ => h_) rfl (fun w_ hS_ => xr_lookup (.map (some mb862)) (.string ((rd_T25 l0 x1031).f0)) (.tuple #[.int .i64 (mget 0 x1038 ((rd_T25 l0 x1031).f0)), .bool (mhas x1038 ((rd_T25 l0 x1031).f0))]) rfl rfl rfl (look_map (z := 0) (keyK_str Try.underlying9) Try.underlying89 info3 hS_.2.2 ((rd_T25 l0 x1031).f0) true)) ⟨(HJ1040).2, (HX1066).2, (HJ1039).2⟩ ?_
          simp only [ls0, ls1]
          refine al_pure 7 19 (.tuple #[.int .i64 (mget 0 x1038 ((rd_T25 l0 x1031).f0)), .bool (mhas x1038 ((rd_T25 l0 x1031).f0))]) #[true, true, true, true, true, true, true, true, false, false, false, false] rfl rfl (by kernel_rfl) (fun _ _ _ h_ => h_) rfl (fun w_ => xr_move (.tuple #[.int .i64 (mget 0 x1038 ((rd_T25 l0 x1031).f0)), .bool (mhas x1038 ((rd_T25 l0 x1031).f0))]) rfl rfl) ?_
          simp only [ls0, ls1]
          refine al_pure 8 27 (.int .i64 (mget 0 x1038 ((rd_T25 l0 x1031).f0))) #[true, true, true, true, true, true, true, true, true, false, false, false] rfl rfl (by kernel_rfl) (fun _ _ _ h_ => h_) rfl (fun w_ => xr_extract (.tuple #[.int .i64 (mget 0 x1038 ((rd_T25 l0 x1031).f0)), .bool (mhas x1038 ((rd_T25 l0 x1031).f0))]) (.int .i64 (mget 0 x1038 ((rd_T25 l0 x1031).f0))) rfl rfl rfl) ?_
          simp only [ls0, ls1]
          refine al_pure 9 28 (.bool (mhas x1038 ((rd_T25 l0 x1031).f0))) #[true, true, true, true, true, true, true, true, true, true, false, false] rfl rfl (by kernel_rfl) (fun _ _ _ h_ => h_) rfl (fun w_ => xr_extract (.tuple #[.int .i64 (mget 0 x1038 ((rd_T25 l0 x1031).f0)), .bool (mhas x1038 ((rd_T25 l0 x1031).f0))]) (.bool (mhas x1038 ((rd_T25 l0 x1031).f0))) rfl rfl rfl) ?_
          simp only [ls0, ls1]
          refine al_pure 10 7 (.int .i64 (mget 0 x1038 ((rd_T25 l0 x1031).f0))) #[true, true, true, true, true, true, true, true, true, true, true, false] rfl rfl (by kernel_rfl) (fun _ _ _ h_ => h_) rfl (fun w_ => xr_assign (.int .i64 (mget 0 x1038 ((rd_T25 l0 x1031).f0))) rfl rfl) ?_
          simp only [ls0, ls1]
          refine al_pure 11 8 (.bool (mhas x1038 ((rd_T25 l0 x1031).f0))) #[true, true, true, true, true, true, true, true, true, true, true, true] rfl rfl (by kernel_rfl) (fun _ _ _ h_ => h_) rfl (fun w_ => xr_assign (.bool (mhas x1038 ((rd_T25 l0 x1031).f0))) rfl rfl) ?_
          simp only [ls0, ls1]
          refine al_end (by kernel_rfl) ?_
          (try simp only [Act.put, List.setIfInBounds_toArray, ls0, ls1])
          refine hK1068 _ _ ?_
          (try clear hK1068 K1068)
          refine wp_seq_k fun K1070 hK1070 => ?_
          refine wp_block ?_
          refine wp_seq_k fun K1086 hK1086 => ?_
          refine wl_region ?_
          refine st (.pointer (some ⟨g1060, 0, none⟩)) rfl rfl (xr_fieldAddr (.pointer (some ⟨g1060, 0, none⟩)) (.pointer (some ⟨g1060, 0, none⟩)) rfl rfl (bx_field2 Try.underlying25 rfl rfl (by kernel_rfl))) ?_
          simp only [ls0, ls1]
          refine st (.string ((rd_T25 l0 x1031).f0)) rfl rfl (xr_load (.pointer (some ⟨g1060, 0, none⟩)) (.string ((rd_T25 l0 x1031).f0)) rfl rfl (load_cell Try.underlying9 rfl (bx_cell (l := ([.string ((rd_T25 l0 x1031).f0), .int .i64 ((rd_T25 l0 x1031).f1)])) (HX1066).2 0 rfl))) ?_
          simp only [ls0, ls1]
          obtain ⟨t1087, A1088, H⟩ := Option.bind_eq_some_iff.mp H
          (try dsimp only at H)
          refine st_call #[.string ((rd_T25 l0 x1031).f0)] rfl rfl Try.func47 (by kernel_rfl) rfl rfl (by simp only [List.map_toArray, List.map_cons, List.map_nil]; first | done | rfl) ?_
          refine (lex_Ident.calls k1050 ((rd_T25 l0 x1031).f0) t1087  (fun z_ => pal [(0, 0)] (C1062 z_)) w1069 (fun _ => pal_lt rfl _) A1088).mono ?_
          rintro _ w1090 ⟨C1091, rfl, hs1092⟩
          refine ⟨_, rfl, ?_⟩
          replace hs1092 := Step.lift (U := [(0, 0)]) hs1092 [] rfl rfl
          generalize up C1062 C1091 w1069.heap.size [(0, 0)] = C1091_ at hs1092
          replace HJ1030 := HJ1030.thru hs1092 rfl
          replace HJ1040 := HJ1040.thru hs1092 rfl
          replace HJ1037 := HJ1037.thru hs1092 rfl
          replace HJ1039 := HJ1039.thru hs1092 rfl
          replace HX1066 := HX1066.thru hs1092 rfl
          replace HS1045 := HS1045.trans hs1092 hc rfl
          (try simp only [Act.put, List.setIfInBounds_toArray, ls0, ls1])
          refine st (.bool (!t1087)) rfl rfl (xr_un (.bool t1087) (.bool (!t1087)) rfl rfl (by first | rfl | (go_simp; done) | (go_simp; rfl) | (go_simp; exact i64_w _) | (go_simp; exact i32_w _))) ?_
          simp only [ls0, ls1]
          refine st (.bool (!t1087)) rfl rfl (xr_assign (.bool (!t1087)) rfl rfl) ?_
          simp only [ls0, ls1]
          refine wl_end ?_
          (try simp only [Act.put, List.setIfInBounds_toArray, ls0, ls1])
          refine hK1086 _ _ ?_
          (try clear hK1086 K1086)
          by_cases c1093 : t1087 = true
          · rw [if_pos c1093] at H
            (try rw [c1093])
            (try simp only [Bool.not_true, Bool.not_false])
            refine wp_cond_false rfl ?_
            refine wp_seq_k fun K1094 hK1094 => ?_
            refine wl_region ?_
            refine st (.bool (mhas x1038 ((rd_T25 l0 x1031).f0))) rfl rfl (xr_move (.bool (mhas x1038 ((rd_T25 l0 x1031).f0))) rfl rfl) ?_
            simp only [ls0, ls1]
            refine st (.bool (mhas x1038 ((rd_T25 l0 x1031).f0))) rfl rfl (xr_assign (.bool (mhas x1038 ((rd_T25 l0 x1031).f0))) rfl rfl) ?_
            simp only [ls0, ls1]
            refine wl_end ?_
            (try simp only [Act.put, List.setIfInBounds_toArray, ls0, ls1])
            refine hK1094 _ _ ?_
            (try clear hK1094 K1094)
            by_cases c1095 : mhas x1038 ((rd_T25 l0 x1031).f0) = true
            · rw [if_pos c1095] at H
              (try rw [c1095])
              (try simp only [Bool.not_true, Bool.not_false])
              refine wp_cond_true rfl ?_
              refine wp_seq_k fun K1096 hK1096 => ?_
              refine wl_region ?_
              refine st (.int .i64 x1031) rfl rfl (xr_move (.int .i64 x1031) rfl rfl) ?_
              simp only [ls0, ls1]
              refine st (.pointer none) rfl rfl (xr_assign (.pointer none) rfl rfl) ?_
              simp only [ls0, ls1]
              refine st (.int .i64 x1031) rfl rfl (xr_assign (.int .i64 x1031) rfl rfl) ?_
              simp only [ls0, ls1]
              refine st (.int .i64 7) rfl rfl (xr_assign (.int .i64 7) rfl rfl) ?_
              simp only [ls0, ls1]
              refine wl_end ?_
              (try simp only [Act.put, List.setIfInBounds_toArray, ls0, ls1])
              refine hK1096 _ _ ?_
              (try clear hK1096 K1096)
              refine wp_ret ?_
              (try simp only [Exit.inBlock, Exit.then, Exit.noGoto])
              (try simp only [Act.put, List.setIfInBounds_toArray, ls0, ls1])
              simp only [Option.some.injEq, Prod.mk.injEq] at H
              obtain ⟨rfl, rfl, rfl⟩ := H
              refine bodyPost_ret (results_tmp3 rfl _ _ _) rfl ?_
              exact ⟨_, (.pointer none), rfl, HS1045, (ptr_nil _ _ _ _ _)⟩
            · rw [if_neg c1095] at H
              (try rw [(Bool.eq_false_iff.mpr c1095)])
              (try simp only [Bool.not_true, Bool.not_false])
              refine wp_cond_false rfl ?_
              refine wp_seq_k fun K1097 hK1097 => ?_
              refine wl_region ?_
              refine st (.pointer (some ⟨g867, 0, none⟩)) rfl rfl (xr_move (.pointer (some ⟨g867, 0, none⟩)) rfl rfl) ?_
              simp only [ls0, ls1]
              refine st (.pointer (some ⟨g867, 0, none⟩)) rfl rfl (xr_nilCheck ⟨g867, 0, none⟩ rfl rfl) ?_
              simp only [ls0, ls1]
              refine st (.pointer (some ⟨g867, 0, none⟩)) rfl rfl (xr_fieldAddr (.pointer (some ⟨g867, 0, none⟩)) (.pointer (some ⟨g867, 0, none⟩)) rfl rfl (bx_field2 Try.underlying91 rfl rfl (by kernel_rfl))) ?_
              simp only [ls0, ls1]
              refine st (.slice A1033 x1032.length cp1035) rfl rfl (xr_load (.pointer (some ⟨g867, 0, none⟩)) (.slice A1033 x1032.length cp1035) rfl rfl (load_cell Try.underlying37 rfl (bx_cell (l := ([.slice A1033 x1032.length cp1035, .map (some mb862)])) (HJ1040).2 0 rfl))) ?_
              simp only [ls0, ls1]
              refine st (.int .i64 (x1032.length : Int)) rfl rfl (xr_builtin #[.slice A1033 x1032.length cp1035] (.int .i64 (x1032.length : Int)) rfl (by simp only [List.map_toArray, List.map_cons, List.map_nil]; first | done | rfl) (by first | rfl | (go_simp; done) | (go_simp; rfl) | (go_simp; exact i64_w _) | (go_simp; exact i32_w _))) ?_
              simp only [ls0, ls1]
              refine st (.bool (decide ((x1032.length : Int) = 64))) rfl rfl (xr_bin (.int .i64 (x1032.length : Int)) (.int .i64 64) (.bool (decide ((x1032.length : Int) = 64))) rfl rfl rfl (B.eql_i64 (x1032.length : Int) 64)) ?_
              simp only [ls0, ls1]
              refine st (.bool (decide ((x1032.length : Int) = 64))) rfl rfl (xr_assign (.bool (decide ((x1032.length : Int) = 64))) rfl rfl) ?_
              simp only [ls0, ls1]
              refine wl_end ?_
              (try simp only [Act.put, List.setIfInBounds_toArray, ls0, ls1])
              refine hK1097 _ _ ?_
              (try clear hK1097 K1097)
              by_cases c1098 : (x1032.length : Int) = 64
              · rw [if_pos c1098] at H
                (try rw [(decide_eq_true c1098)])
                (try simp only [Bool.not_true, Bool.not_false])
                refine wp_cond_true rfl ?_
                refine wp_seq_k fun K1099 hK1099 => ?_
                refine wl_region ?_
                refine st (.int .i64 x1031) rfl rfl (xr_move (.int .i64 x1031) rfl rfl) ?_
                simp only [ls0, ls1]
                refine st (.pointer none) rfl rfl (xr_assign (.pointer none) rfl rfl) ?_
                simp only [ls0, ls1]
                refine st (.int .i64 x1031) rfl rfl (xr_assign (.int .i64 x1031) rfl rfl) ?_
                simp only [ls0, ls1]
                refine st (.int .i64 8) rfl rfl (xr_assign (.int .i64 8) rfl rfl) ?_
                simp only [ls0, ls1]
                refine wl_end ?_
                (try simp only [Act.put, List.setIfInBounds_toArray, ls0, ls1])
                refine hK1099 _ _ ?_
                (try clear hK1099 K1099)
                refine wp_ret ?_
                (try simp only [Exit.inBlock, Exit.then, Exit.noGoto])
                (try simp only [Act.put, List.setIfInBounds_toArray, ls0, ls1])
                simp only [Option.some.injEq, Prod.mk.injEq] at H
                obtain ⟨rfl, rfl, rfl⟩ := H
                refine bodyPost_ret (results_tmp3 rfl _ _ _) rfl ?_
                exact ⟨_, (.pointer none), rfl, HS1045, (ptr_nil _ _ _ _ _)⟩
              · rw [if_neg c1098] at H
                (try rw [(decide_eq_false c1098)])
                (try simp only [Bool.not_true, Bool.not_false])
                refine wp_cond_false rfl ?_
                refine wp_skip ?_
                (try simp only [Act.put, List.setIfInBounds_toArray, ls0, ls1])
                refine hK1070 _ _ ?_
                (try clear hK1070 K1070)
                refine wp_seq_k fun K1100 hK1100 => ?_
                (try simp only [Act.put, List.setIfInBounds_toArray, ls0, ls1])
                refine al_start #[false, false, false, false, false, false, false, false, false, false, false, false] rfl rfl rfl (fun w_ => w_.heap[g867]? = some (.cells (List.toArray ([.slice A1033 x1032.length cp1035, .map (some mb862)])) 91 (0, 0)) ∧ w_.heap[g1060]? = some (.cells (List.toArray ([.string ((rd_T25 l0 x1031).f0), .int .i64 ((rd_T25 l0 x1031).f1)])) 25 (0, 0))) ⟨(HJ1040.drew).2, (HX1066.drew).2⟩ [11] ?_
                replace HJ1030 := HJ1030.drew
                replace HJ1040 := HJ1040.drew
                replace HJ1037 := HJ1037.drew
                replace HJ1039 := HJ1039.drew
                replace HX1066 := HX1066.drew
                replace HS1045 := Step.ofDrew HS1045
                generalize w1090.drew = w1101 at *
                refine al_pure 0 46 (.pointer (some ⟨g867, 0, none⟩)) #[true, false, false, false, false, false, false, false, false, false, false, false] rfl rfl (by kernel_rfl) (fun _ _ _ h_ => h_) rfl (fun w_ => xr_move (.pointer (some ⟨g867, 0, none⟩)) rfl rfl) ?_
                simp only [ls0, ls1]
                refine al_pure 1 47 (.pointer (some ⟨g867, 0, none⟩)) #[true, true, false, false, false, false, false, false, false, false, false, false] rfl rfl (by kernel_rfl) (fun _ _ _ h_ => h_) rfl (fun w_ => xr_nilCheck ⟨g867, 0, none⟩ rfl rfl) ?_
                simp only [ls0, ls1]
                refine al_pure 2 48 (.pointer (some ⟨g867, 1, none⟩)) #[true, true, true, false, false, false, false, false, false, false, false, false] rfl rfl (by kernel_rfl) (fun _ _ _ h_ => h_) rfl (fun w_ => xr_fieldAddr (.pointer (some ⟨g867, 0, none⟩)) (.pointer (some ⟨g867, 1, none⟩)) rfl rfl (bx_field2 Try.underlying91 rfl rfl (by kernel_rfl))) ?_
                simp only [ls0, ls1]
                refine al_pure 4 50 (.pointer (some ⟨g1060, 0, none⟩)) #[true, true, true, false, true, false, false, false, false, false, false, false] rfl rfl (by kernel_rfl) (fun _ _ _ h_ => h_) rfl (fun w_ => xr_fieldAddr (.pointer (some ⟨g1060, 0, none⟩)) (.pointer (some ⟨g1060, 0, none⟩)) rfl rfl (bx_field2 Try.underlying25 rfl rfl (by kernel_rfl))) ?_
                simp only [ls0, ls1]
                refine al_pure 6 52 (.pointer (some ⟨g867, 0, none⟩)) #[true, true, true, false, true, false, true, false, false, false, false, false] rfl rfl (by kernel_rfl) (fun _ _ _ h_ => h_) rfl (fun w_ => xr_move (.pointer (some ⟨g867, 0, none⟩)) rfl rfl) ?_
                simp only [ls0, ls1]
                refine al_pure 7 53 (.pointer (some ⟨g867, 0, none⟩)) #[true, true, true, false, true, false, true, true, false, false, false, false] rfl rfl (by kernel_rfl) (fun _ _ _ h_ => h_) rfl (fun w_ => xr_nilCheck ⟨g867, 0, none⟩ rfl rfl) ?_
                simp only [ls0, ls1]
                refine al_pure 8 54 (.pointer (some ⟨g867, 0, none⟩)) #[true, true, true, false, true, false, true, true, true, false, false, false] rfl rfl (by kernel_rfl) (fun _ _ _ h_ => h_) rfl (fun w_ => xr_fieldAddr (.pointer (some ⟨g867, 0, none⟩)) (.pointer (some ⟨g867, 0, none⟩)) rfl rfl (bx_field2 Try.underlying91 rfl rfl (by kernel_rfl))) ?_
                simp only [ls0, ls1]
                refine al_take 3 49 (.map (some mb862)) #[true, true, true, true, true, false, true, true, true, false, false, false] rfl rfl (by kernel_rfl) (fun _ _ _ h_ => h_) rfl (fun w_ hS_ => xr_load (.pointer (some ⟨g867, 1, none⟩)) (.map (some mb862)) rfl rfl (load_cell Try.underlying89 rfl (bx_cell (l := ([.slice A1033 x1032.length cp1035, .map (some mb862)])) hS_.1 1 rfl))) ⟨(HJ1040).2, (HX1066).2⟩ ?_
                simp only [ls0, ls1]
                refine al_take 5 51 (.string ((rd_T25 l0 x1031).f0)) #[true, true, true, true, true, true, true, true, true, false, false, false] rfl rfl (by kernel_rfl) (fun _ _ _ h_ => h_) rfl (fun w_ hS_ => xr_load (.pointer (some ⟨g1060, 0, none⟩)) (.string ((rd_T25 l0 x1031).f0)) rfl rfl (load_cell Try.underlying9 rfl (bx_cell (l := ([.string ((rd_T25 l0 x1031).f0), .int .i64 ((rd_T25 l0 x1031).f1)])) hS_.2 0 rfl))) ⟨(HJ1040).2, (HX1066).2⟩ ?_
                simp only [ls0, ls1]
                refine al_take 9 55 (.slice A1033 x1032.length cp1035) #[true, true, true, true, true, true, true, true, true, true, false, false] rfl rfl (by kernel_rfl) (fun _ _ _ h_ => h_) rfl (fun w_ hS_ => xr_load (.pointer (some ⟨g867, 0, none⟩)) (.slice A1033 x1032.length cp1035) rfl rfl (load_cell Try.underlying37 rfl (bx_cell (l := ([.slice A1033 x1032.length cp1035, .map (some mb862)])) hS_.1 0 rfl))) ⟨(HJ1040).2, (HX1066).2⟩ ?_
                simp only [ls0, ls1]
                refine al_pure 10 56 (.int .i64 (x1032.length : Int)) #[true, true, true, true, true, true, true, true, true, true, true, false] rfl rfl (by kernel_rfl) (fun _ _ _ h_ => h_) rfl (fun w_ => xr_builtin #[.slice A1033 x1032.length cp1035] (.int .i64 (x1032.length : Int)) rfl (by simp only [List.map_toArray, List.map_cons, List.map_nil]; first | done | rfl) (by first | rfl | (go_simp; done) | (go_simp; rfl) | (go_simp; exact i64_w _) | (go_simp; exact i32_w _))) ?_
                simp only [ls0, ls1]
                obtain ⟨y1102, A1103, H⟩ := Option.bind_eq_some_iff.mp H
                (try dsimp only at H)
                refine al_last 11 #[true, true, true, true, true, true, true, true, true, true, true, true] rfl rfl (by kernel_rfl) rfl (fun K_ hK_ => ?_)
                refine mp_store_step (C := C1091_) (lm := x1038) ((rd_T25 l0 x1031).f0) (x1032.length : Int) (keyK_str Try.underlying9) Try.underlying89 rfl rfl rfl rfl rfl rfl HJ1039 (Option.some.inj A1103) ?_
                intro w1104 HM1105 hs1106
                replace HJ1030 := HJ1030.thru hs1106 rfl
                replace HJ1040 := HJ1040.thru hs1106 rfl
                replace HJ1037 := HJ1037.thru hs1106 rfl
                replace HX1066 := HX1066.thru hs1106 rfl
                replace HS1045 := HS1045.trans hs1106 hc rfl
                refine hK_ _ _ ?_
                clear hK_ K_
                (try simp only [Act.put, List.setIfInBounds_toArray, ls0, ls1])
                refine al_end (by kernel_rfl) ?_
                (try simp only [Act.put, List.setIfInBounds_toArray, ls0, ls1])
                refine hK1100 _ _ ?_
                (try clear hK1100 K1100)
                (try simp only [Act.put, List.setIfInBounds_toArray, ls0, ls1])
                refine al_start #[false, false, false, false, false, false, false, false, false, false, false, false] rfl rfl rfl (fun w_ => w_.heap[g867]? = some (.cells (List.toArray ([.slice A1033 x1032.length cp1035, .map (some mb862)])) 91 (0, 0)) ∧ w_.heap[g1060]? = some (.cells (List.toArray ([.string ((rd_T25 l0 x1031).f0), .int .i64 ((rd_T25 l0 x1031).f1)])) 25 (0, 0))) ⟨(HJ1040.drew).2, (HX1066.drew).2⟩ [11] ?_
                replace HJ1030 := HJ1030.drew
                replace HJ1040 := HJ1040.drew
                replace HJ1037 := HJ1037.drew
                replace HM1105 := HM1105.drew
                replace HX1066 := HX1066.drew
                replace HS1045 := Step.ofDrew HS1045
                generalize w1104.drew = w1107 at *
                refine al_pure 0 57 (.pointer (some ⟨g867, 0, none⟩)) #[true, false, false, false, false, false, false, false, false, false, false, false] rfl rfl (by kernel_rfl) (fun _ _ _ h_ => h_) rfl (fun w_ => xr_move (.pointer (some ⟨g867, 0, none⟩)) rfl rfl) ?_
                simp only [ls0, ls1]
                refine al_pure 1 58 (.pointer (some ⟨g867, 0, none⟩)) #[true, true, false, false, false, false, false, false, false, false, false, false] rfl rfl (by kernel_rfl) (fun _ _ _ h_ => h_) rfl (fun w_ => xr_move (.pointer (some ⟨g867, 0, none⟩)) rfl rfl) ?_
                simp only [ls0, ls1]
                refine al_pure 2 59 (.pointer (some ⟨g867, 0, none⟩)) #[true, true, true, false, false, false, false, false, false, false, false, false] rfl rfl (by kernel_rfl) (fun _ _ _ h_ => h_) rfl (fun w_ => xr_nilCheck ⟨g867, 0, none⟩ rfl rfl) ?_
                simp only [ls0, ls1]
                refine al_pure 3 60 (.pointer (some ⟨g867, 0, none⟩)) #[true, true, true, true, false, false, false, false, false, false, false, false] rfl rfl (by kernel_rfl) (fun _ _ _ h_ => h_) rfl (fun w_ => xr_fieldAddr (.pointer (some ⟨g867, 0, none⟩)) (.pointer (some ⟨g867, 0, none⟩)) rfl rfl (bx_field2 Try.underlying91 rfl rfl (by kernel_rfl))) ?_
                simp only [ls0, ls1]
                refine al_pure 5 62 (.pointer (some ⟨g1060, 0, none⟩)) #[true, true, true, true, false, true, false, false, false, false, false, false] rfl rfl (by kernel_rfl) (fun _ _ _ h_ => h_) rfl (fun w_ => xr_fieldAddr (.pointer (some ⟨g1060, 0, none⟩)) (.pointer (some ⟨g1060, 0, none⟩)) rfl rfl (bx_field2 Try.underlying25 rfl rfl (by kernel_rfl))) ?_
                simp only [ls0, ls1]
                refine al_take 4 61 (.slice A1033 x1032.length cp1035) #[true, true, true, true, true, true, false, false, false, false, false, false] rfl rfl (by kernel_rfl) (fun _ _ _ h_ => h_) rfl (fun w_ hS_ => xr_load (.pointer (some ⟨g867, 0, none⟩)) (.slice A1033 x1032.length cp1035) rfl rfl (load_cell Try.underlying37 rfl (bx_cell (l := ([.slice A1033 x1032.length cp1035, .map (some mb862)])) hS_.1 0 rfl))) ⟨(HJ1040).2, (HX1066).2⟩ ?_
                simp only [ls0, ls1]
                refine al_take 6 63 (.string ((rd_T25 l0 x1031).f0)) #[true, true, true, true, true, true, true, false, false, false, false, false] rfl rfl (by kernel_rfl) (fun _ _ _ h_ => h_) rfl (fun w_ hS_ => xr_load (.pointer (some ⟨g1060, 0, none⟩)) (.string ((rd_T25 l0 x1031).f0)) rfl rfl (load_cell Try.underlying9 rfl (bx_cell (l := ([.string ((rd_T25 l0 x1031).f0), .int .i64 ((rd_T25 l0 x1031).f1)])) hS_.2 0 rfl))) ⟨(HJ1040).2, (HX1066).2⟩ ?_
                simp only [ls0, ls1]
                refine al_one 7 #[true, true, true, true, true, true, true, true, false, false, false, false] rfl rfl (by kernel_rfl) rfl (fun K_ hK_ => ?_)
                refine value_ (w1 := w1107.alloc (.cells #[.string ((rd_T25 l0 x1031).f0)] 9)) (v := .slice (some ⟨w1107.heap.size, 0, none⟩) 1 1) rfl rfl (by first | (go_simp; done) | (go_simp; rfl)) ?_
                refine hK_ _ _ ⟨(HJ1040.alloc _).2, (HX1066.alloc _).2⟩ ?_
                clear hK_ K_
                (try simp only [Act.put, List.setIfInBounds_toArray, ls0, ls1])
                by_cases c1108 : x1032.length < 8796093022208
                · rw [if_pos c1108] at H
                  obtain ⟨y1109, A1110, H⟩ := Option.bind_eq_some_iff.mp H
                  (try dsimp only at H)
                  refine al_one 8 #[true, true, true, true, true, true, true, true, true, false, false, false] rfl rfl (by kernel_rfl) rfl (fun K_ hK_ => ?_)
                  refine Own.append_step Kd.string (C := C1091_) (i := 13) rfl (.tmp 61) (.tmp 64) 37 9 (.string ⟨#[]⟩) 16 rfl Try.underlying37 info9 rfl (by decide) (by decide) (.slice A1033 x1032.length cp1035) x1032 ((rd_T25 l0 x1031).f0) [.string ((rd_T25 l0 x1031).f0)] rfl rfl (fk_str _ _ ((rd_T25 l0 x1031).f0)) HJ1037 (by decide) (by omega) (Option.some.inj A1110) ?_
                  intro A1111 cp1112 w1113 C1114 HO1115 HC1116 hs1117
                  replace HJ1030 := HJ1030.thru hs1117 rfl
                  replace HJ1040 := HJ1040.thru hs1117 rfl
                  replace HM1105 := HM1105.thru hs1117 rfl
                  replace HX1066 := HX1066.thru hs1117 rfl
                  replace HS1045 := HS1045.trans hs1117 hc rfl
                  refine hK_ _ _ ⟨(HJ1040).2, (HX1066).2⟩ ?_
                  clear hK_ K_
                  (try simp only [Act.put, List.setIfInBounds_toArray, ls0, ls1])
                  refine al_pure 9 66 (.pointer (some ⟨g867, 0, none⟩)) #[true, true, true, true, true, true, true, true, true, true, false, false] rfl rfl (by kernel_rfl) (fun _ _ _ h_ => h_) rfl (fun w_ => xr_nilCheck ⟨g867, 0, none⟩ rfl rfl) ?_
                  simp only [ls0, ls1]
                  refine al_pure 10 67 (.pointer (some ⟨g867, 0, none⟩)) #[true, true, true, true, true, true, true, true, true, true, true, false] rfl rfl (by kernel_rfl) (fun _ _ _ h_ => h_) rfl (fun w_ => xr_fieldAddr (.pointer (some ⟨g867, 0, none⟩)) (.pointer (some ⟨g867, 0, none⟩)) rfl rfl (bx_field2 Try.underlying91 rfl rfl (by kernel_rfl))) ?_
                  simp only [ls0, ls1]
                  refine al_last 11 #[true, true, true, true, true, true, true, true, true, true, true, true] rfl rfl (by kernel_rfl) rfl (fun K_ hK_ => ?_)
                  refine bx_store_step (C := C1114) (z := 12) (g := g867) (j := 0) (tb := 91) (u := .slice A1111 y1109.length cp1112) (seg := [.slice A1111 y1109.length cp1112]) (xs := [.slice A1033 x1032.length cp1035, .map (some mb862)]) rfl rfl rfl rfl rfl rfl (by first | kernel_rfl | rfl) (by simp [Value.oneCell']) HJ1040 (by simp only [List.length_cons, List.length_nil]; omega) rfl ?_
                  intro w1118 HX1119 hs1120
                  replace HJ1030 := HJ1030.thru hs1120 rfl
                  replace HO1115 := HO1115.thru hs1120 rfl
                  replace HM1105 := HM1105.thru hs1120 rfl
                  replace HX1066 := HX1066.thru hs1120 rfl
                  replace HS1045 := HS1045.trans hs1120 hc rfl
                  refine hK_ _ _ ?_
                  clear hK_ K_
                  (try simp only [Act.put, List.setIfInBounds_toArray, ls0, ls1])
                  refine al_end (by kernel_rfl) ?_
                  (try simp only [Act.put, List.setIfInBounds_toArray, ls0, ls1])
                  refine hK1054 _ _ ?_
                  (try clear hK1054 K1054)
                  refine wl_region ?_
                  refine st (.int .i64 (wrap64 (x1031 + 1))) rfl rfl (xr_bin (.int .i64 x1031) (.int .i64 1) (.int .i64 (wrap64 (x1031 + 1))) rfl rfl rfl (B.add_i64 x1031 1)) ?_
                  simp only [ls0, ls1]
                  refine st (.int .i64 (wrap64 (x1031 + 1))) rfl rfl (xr_move (.int .i64 (wrap64 (x1031 + 1))) rfl rfl) ?_
                  simp only [ls0, ls1]
                  refine wl_end ?_
                  (try simp only [Act.put, List.setIfInBounds_toArray, ls0, ls1])
                  exact ih1047 k1050 (by omega) _ _ ⟨_, wrap64 (x1031 + 1), A1111, y1109.length, cp1112, y1109, y1102, (fun q_ => List.getD [(g1041 0), (g1041 1), undef, (g1041 3), (g1041 4), .int .i64 x1031, .pointer (some ⟨g1060, 0, none⟩), .int .i64 (mget 0 x1038 ((rd_T25 l0 x1031).f0)), .bool false, (g1041 9), (g1041 10), (g1041 11), undef, undef, undef, .bool true, .int .i64 x1031, .pointer (some (ad1057.add ((x1031 : Int).toNat * 2))), .agg #[.string ((rd_T25 l0 x1031).f0), .int .i64 ((rd_T25 l0 x1031).f1)], .tuple #[.int .i64 (mget 0 x1038 ((rd_T25 l0 x1031).f0)), .bool false], .pointer (some ⟨g867, 0, none⟩), .pointer (some ⟨g867, 0, none⟩), .pointer (some ⟨g867, 1, none⟩), .map (some mb862), .pointer (some ⟨g1060, 0, none⟩), .string ((rd_T25 l0 x1031).f0), .tuple #[.int .i64 (mget 0 x1038 ((rd_T25 l0 x1031).f0)), .bool false], .int .i64 (mget 0 x1038 ((rd_T25 l0 x1031).f0)), .bool false, .bool false, .pointer (some ⟨g1060, 0, none⟩), .string ((rd_T25 l0 x1031).f0), .bool true, .bool false, (g1041 34), .bool false, .bool false, (g1041 37), .bool false, .pointer (some ⟨g867, 0, none⟩), .pointer (some ⟨g867, 0, none⟩), .pointer (some ⟨g867, 0, none⟩), .slice A1033 x1032.length cp1035, .int .i64 (x1032.length : Int), .bool false, (g1041 45), .pointer (some ⟨g867, 0, none⟩), .pointer (some ⟨g867, 0, none⟩), .pointer (some ⟨g867, 1, none⟩), .map (some mb862), .pointer (some ⟨g1060, 0, none⟩), .string ((rd_T25 l0 x1031).f0), .pointer (some ⟨g867, 0, none⟩), .pointer (some ⟨g867, 0, none⟩), .pointer (some ⟨g867, 0, none⟩), .slice A1033 x1032.length cp1035, .int .i64 (x1032.length : Int), .pointer (some ⟨g867, 0, none⟩), .pointer (some ⟨g867, 0, none⟩), .pointer (some ⟨g867, 0, none⟩), .pointer (some ⟨g867, 0, none⟩), .slice A1033 x1032.length cp1035, .pointer (some ⟨g1060, 0, none⟩), .string ((rd_T25 l0 x1031).f0), .slice (some ⟨w1107.heap.size, 0, none⟩) 1 1, .slice A1111 y1109.length cp1112, .pointer (some ⟨g867, 0, none⟩), .pointer (some ⟨g867, 0, none⟩), .int .i64 (wrap64 (x1031 + 1)), (g1041 69)] q_ undef), rfl, HS1045, (by omega), HJ1030, HO1115, HC1116, HM1105, HX1119, H⟩
                · rw [if_neg c1108] at H
                  exact absurd H (by simp)
          · rw [if_neg c1093] at H
            (try rw [(Bool.eq_false_iff.mpr c1093)])
            (try simp only [Bool.not_true, Bool.not_false])
            refine wp_cond_true rfl ?_
            refine wp_seq_k fun K1121 hK1121 => ?_
            refine wl_region ?_
            refine st (.int .i64 x1031) rfl rfl (xr_move (.int .i64 x1031) rfl rfl) ?_
            simp only [ls0, ls1]
            refine st (.pointer none) rfl rfl (xr_assign (.pointer none) rfl rfl) ?_
            simp only [ls0, ls1]
            refine st (.int .i64 x1031) rfl rfl (xr_assign (.int .i64 x1031) rfl rfl) ?_
            simp only [ls0, ls1]
            refine st (.int .i64 1) rfl rfl (xr_assign (.int .i64 1) rfl rfl) ?_
            simp only [ls0, ls1]
            refine wl_end ?_
            (try simp only [Act.put, List.setIfInBounds_toArray, ls0, ls1])
            refine hK1121 _ _ ?_
            (try clear hK1121 K1121)
            refine wp_ret ?_
            (try simp only [Exit.inBlock, Exit.then, Exit.noGoto])
            (try simp only [Act.put, List.setIfInBounds_toArray, ls0, ls1])
            simp only [Option.some.injEq, Prod.mk.injEq] at H
            obtain ⟨rfl, rfl, rfl⟩ := H
            refine bodyPost_ret (results_tmp3 rfl _ _ _) rfl ?_
            exact ⟨_, (.pointer none), rfl, HS1045, (ptr_nil _ _ _ _ _)⟩
        · rw [if_neg c1056] at H
          exact absurd H (by simp)
      · rw [if_neg c1053] at H
        (try rw [(decide_eq_false c1053)])
        (try simp only [Bool.not_true, Bool.not_false])
        refine wp_cond_false rfl ?_
        refine wp_exit ?_
        (try simp only [Act.put, List.setIfInBounds_toArray, ls0, ls1])
        refine hK872 _ _ ?_
        (try clear hK872 K872)
        refine wp_seq_k fun K1122 hK1122 => ?_
        refine wl_region ?_
        refine st (.pointer (some ⟨g867, 0, none⟩)) rfl rfl (xr_move (.pointer (some ⟨g867, 0, none⟩)) rfl rfl) ?_
        simp only [ls0, ls1]
        refine st (.pointer (some ⟨g867, 0, none⟩)) rfl rfl (xr_assign (.pointer (some ⟨g867, 0, none⟩)) rfl rfl) ?_
        simp only [ls0, ls1]
        refine st (.int .i64 0) rfl rfl (xr_assign (.int .i64 0) rfl rfl) ?_
        simp only [ls0, ls1]
        refine st (.int .i64 0) rfl rfl (xr_assign (.int .i64 0) rfl rfl) ?_
        simp only [ls0, ls1]
        refine wl_end ?_
        (try simp only [Act.put, List.setIfInBounds_toArray, ls0, ls1])
        refine hK1122 _ _ ?_
        (try clear hK1122 K1122)
        refine wp_ret ?_
        (try simp only [Exit.inBlock, Exit.then, Exit.noGoto])
        (try simp only [Act.put, List.setIfInBounds_toArray, ls0, ls1])
        replace HJ1030 := Ft.recol (a := 12) (b := 0) HJ1030 (.inl rfl)
        have HX1123 := Ft.recolor (a := 12) (b := 0) (HJ1040.ft) [0] rfl
        replace HJ1037 := Own.recol (a := 12) (b := 0) HJ1037 (by decide) (by decide)
        replace HJ1039 := Mp.recol (x := 12) (y := 0) HJ1039 (by decide)
        replace HS1045 := Step.recol (a := 12) (b := 0) HS1045 hc (by decide)
        replace HJ1030 := Ft.recol (a := 13) (b := 0) HJ1030 (.inl rfl)
        replace HX1123 := Ft.recol (a := 13) (b := 0) HX1123 (.inl rfl)
        have HR1124 := Ft.recolor (a := 13) (b := 0) (HJ1037.ft) [0] rfl
        replace HJ1039 := Mp.recol (x := 13) (y := 0) HJ1039 (by decide)
        replace HS1045 := Step.recol (a := 13) (b := 0) HS1045 hc (by decide)
        replace HJ1030 := Ft.recol (a := 14) (b := 0) HJ1030 (.inl rfl)
        replace HX1123 := Ft.recol (a := 14) (b := 0) HX1123 (.inl rfl)
        replace HR1124 := Ft.recol (a := 14) (b := 0) HR1124 (.inl rfl)
        have HR1125 := Ft.recolor (a := 14) (b := 0) (HJ1039.ft) [0] rfl
        replace HS1045 := Step.recol (a := 14) (b := 0) HS1045 hc (by decide)
        have HP1126 : Ft (recol (recol (recol C1042 12 0) 13 0) 14 0) [0] w1043 (fun w_ => (Kd.ptr 91 k91).K w_ (some (⟨x1032, x1038⟩ : S91)) [.pointer (some ⟨g867, 0, none⟩)]) := ptr_mk (Ft.more HX1123 rfl) (k91_mkF _ _ (⟨x1032, x1038⟩ : S91) HC1036 (Ft.more HR1124 rfl) (Ft.more HR1125 rfl))
        simp only [Option.some.injEq, Prod.mk.injEq] at H
        obtain ⟨rfl, rfl, rfl⟩ := H
        refine bodyPost_ret (results_tmp3 rfl _ _ _) rfl ?_
        exact ⟨_, (.pointer (some ⟨g867, 0, none⟩)), rfl, HS1045, HP1126⟩

/-! ### row_Table_Find: function 48 -/
def row_Table_Find.f (x0 : Option S91) (a1 : ByteArray) : Option (Int × Bool) := onOpt x0 (some (0, false)) (fun o1142 => (some (mget 0 o1142.f1 a1, mhas o1142.f1 a1)))
set_option maxHeartbeats 2000000 in
set_option maxRecDepth 100000 in
theorem row_Table_Find.calls (v0 : Value) (x0 : Option S91) (a1 : ByteArray) (r1 : Int) (r2 : Bool) (c : Nat → Nat) (w : World) (hc : ∀ k, c k < 10) (HP0 : Ft c [0] w (fun w_ => (Kd.ptr 91 k91).K w_ x0 [v0])) (H : row_Table_Find.f x0 a1 = some (r1, r2)) :
    Calls Try.prog 48 #[v0, .string a1] w fun e w' => ∃ (c' : Nat → Nat) , e = .returned (.tuple #[.int .i64 r1, .bool r2]) ∧ Step c w c' w' [] := by
  unfold row_Table_Find.f at H
  have HS := Step.refl c w []
  go_enter Try.func48, Try.ntmps48
  refine wp_seq_k fun K1139 hK1139 => ?_
  refine wl_region ?_
  refine st (.int .i64 0) rfl rfl (xr_assign (.int .i64 0) rfl rfl) ?_
  simp only [ls0, ls1]
  refine st (.bool false) rfl rfl (xr_assign (.bool false) rfl rfl) ?_
  simp only [ls0, ls1]
  refine wl_end ?_
  (try simp only [Act.put, List.setIfInBounds_toArray, ls0, ls1])
  refine hK1139 _ _ ?_
  (try clear hK1139 K1139)
  refine wp_seq_k fun K1140 hK1140 => ?_
  refine wp_seq_k fun K1141 hK1141 => ?_
  refine wl_region ?_
  refine st (v0) rfl rfl (xr_move (v0) rfl rfl) ?_
  simp only [ls0, ls1]
  cases x0 with
  | none =>
    (try simp only [onOpt] at H)
    obtain rfl := ptr_none HP0
    refine st (.bool true) rfl rfl (xr_bin (.pointer none) (.pointer none) (.bool true) rfl rfl rfl (B.eql_nn ⟨_, Try.underlying26⟩ (⟨0, 0, none⟩ : Addr))) ?_
    simp only [ls0, ls1]
    refine wl_end ?_
    (try simp only [Act.put, List.setIfInBounds_toArray, ls0, ls1])
    refine hK1141 _ _ ?_
    (try clear hK1141 K1141)
    refine wp_cond_true rfl ?_
    refine wp_seq_k fun K1143 hK1143 => ?_
    refine wl_region ?_
    refine st (.int .i64 0) rfl rfl (xr_assign (.int .i64 0) rfl rfl) ?_
    simp only [ls0, ls1]
    refine st (.bool false) rfl rfl (xr_assign (.bool false) rfl rfl) ?_
    simp only [ls0, ls1]
    refine wl_end ?_
    (try simp only [Act.put, List.setIfInBounds_toArray, ls0, ls1])
    refine hK1143 _ _ ?_
    (try clear hK1143 K1143)
    refine wp_ret ?_
    (try simp only [Exit.inBlock, Exit.then, Exit.noGoto])
    (try simp only [Act.put, List.setIfInBounds_toArray, ls0, ls1])
    simp only [Option.some.injEq, Prod.mk.injEq] at H
    obtain ⟨rfl, rfl⟩ := H
    refine bodyPost_ret (results_tmp2 rfl _ _ _) rfl ?_
    exact ⟨_, rfl, HS⟩
  | some o1142 =>
    (try simp only [onOpt] at H)
    obtain ⟨g1144, cs1145, rfl, HX1146, HK1147⟩ := ptr_some HP0
    obtain ⟨Aq1148_0, cpq1148_0, vq1148_1, rfl, HCq1148_0, HRq1148_0, HRq1148_1⟩ := k91_openF HK1147
    replace HRq1148_0 : Ft c [0] w (fun w_ => Kd.string.C w_ Aq1148_0 o1142.f0.length o1142.f0) := HRq1148_0
    replace HRq1148_1 : Ft c [0] w (fun w_ => (Kd.mp Value.string (Value.int .i64)).K w_ o1142.f1 [vq1148_1]) := HRq1148_1
    refine st (.bool false) rfl rfl (xr_bin (.pointer (some ⟨g1144, 0, none⟩)) (.pointer none) (.bool false) rfl rfl rfl (B.eql_pn ⟨_, Try.underlying26⟩ ⟨g1144, 0, none⟩)) ?_
    simp only [ls0, ls1]
    refine wl_end ?_
    (try simp only [Act.put, List.setIfInBounds_toArray, ls0, ls1])
    refine hK1141 _ _ ?_
    (try clear hK1141 K1141)
    refine wp_cond_false rfl ?_
    refine wp_skip ?_
    (try simp only [Act.put, List.setIfInBounds_toArray, ls0, ls1])
    refine hK1140 _ _ ?_
    (try clear hK1140 K1140)
    refine wp_seq_k fun K1149 hK1149 => ?_
    refine wl_region ?_
    refine st (.pointer (some ⟨g1144, 0, none⟩)) rfl rfl (xr_move (.pointer (some ⟨g1144, 0, none⟩)) rfl rfl) ?_
    simp only [ls0, ls1]
    refine st (.pointer (some ⟨g1144, 0, none⟩)) rfl rfl (xr_nilCheck ⟨g1144, 0, none⟩ rfl rfl) ?_
    simp only [ls0, ls1]
    refine st (.pointer (some ⟨g1144, 1, none⟩)) rfl rfl (xr_fieldAddr (.pointer (some ⟨g1144, 0, none⟩)) (.pointer (some ⟨g1144, 1, none⟩)) rfl rfl (bx_field2 Try.underlying91 rfl rfl (by kernel_rfl))) ?_
    simp only [ls0, ls1]
    refine st (vq1148_1) rfl rfl (xr_load (.pointer (some ⟨g1144, 1, none⟩)) (vq1148_1) rfl rfl (load_cell Try.underlying89 rfl (bx_cell (l := ([.slice Aq1148_0 o1142.f0.length cpq1148_0, vq1148_1])) (Ft.now HX1146) 1 rfl))) ?_
    simp only [ls0, ls1]
    refine st (.string a1) rfl rfl (xr_move (.string a1) rfl rfl) ?_
    simp only [ls0, ls1]
    refine st (.tuple #[.int .i64 (mget 0 o1142.f1 a1), .bool (mhas o1142.f1 a1)]) rfl rfl (xr_lookup (vq1148_1) (.string a1) (.tuple #[.int .i64 (mget 0 o1142.f1 a1), .bool (mhas o1142.f1 a1)]) rfl rfl rfl (look_ro (z := 0) (keyK_str Try.underlying9) Try.underlying89 info3 (Ft.now HRq1148_1) a1 true)) ?_
    simp only [ls0, ls1]
    refine st (.tuple #[.int .i64 (mget 0 o1142.f1 a1), .bool (mhas o1142.f1 a1)]) rfl rfl (xr_move (.tuple #[.int .i64 (mget 0 o1142.f1 a1), .bool (mhas o1142.f1 a1)]) rfl rfl) ?_
    simp only [ls0, ls1]
    refine st (.int .i64 (mget 0 o1142.f1 a1)) rfl rfl (xr_extract (.tuple #[.int .i64 (mget 0 o1142.f1 a1), .bool (mhas o1142.f1 a1)]) (.int .i64 (mget 0 o1142.f1 a1)) rfl rfl rfl) ?_
    simp only [ls0, ls1]
    refine st (.bool (mhas o1142.f1 a1)) rfl rfl (xr_extract (.tuple #[.int .i64 (mget 0 o1142.f1 a1), .bool (mhas o1142.f1 a1)]) (.bool (mhas o1142.f1 a1)) rfl rfl rfl) ?_
    simp only [ls0, ls1]
    refine st (.int .i64 (mget 0 o1142.f1 a1)) rfl rfl (xr_assign (.int .i64 (mget 0 o1142.f1 a1)) rfl rfl) ?_
    simp only [ls0, ls1]
    refine st (.bool (mhas o1142.f1 a1)) rfl rfl (xr_assign (.bool (mhas o1142.f1 a1)) rfl rfl) ?_
    simp only [ls0, ls1]
    refine wl_end ?_
    (try simp only [Act.put, List.setIfInBounds_toArray, ls0, ls1])
    refine hK1149 _ _ ?_
    (try clear hK1149 K1149)
    refine wp_seq_k fun K1150 hK1150 => ?_
    refine wl_region ?_
    refine st (.int .i64 (mget 0 o1142.f1 a1)) rfl rfl (xr_move (.int .i64 (mget 0 o1142.f1 a1)) rfl rfl) ?_
    simp only [ls0, ls1]
    refine st (.bool (mhas o1142.f1 a1)) rfl rfl (xr_move (.bool (mhas o1142.f1 a1)) rfl rfl) ?_
    simp only [ls0, ls1]
    refine st (.int .i64 (mget 0 o1142.f1 a1)) rfl rfl (xr_assign (.int .i64 (mget 0 o1142.f1 a1)) rfl rfl) ?_
    simp only [ls0, ls1]
    refine st (.bool (mhas o1142.f1 a1)) rfl rfl (xr_assign (.bool (mhas o1142.f1 a1)) rfl rfl) ?_
    simp only [ls0, ls1]
    refine wl_end ?_
    (try simp only [Act.put, List.setIfInBounds_toArray, ls0, ls1])
    refine hK1150 _ _ ?_
    (try clear hK1150 K1150)
    refine wp_ret ?_
    (try simp only [Exit.inBlock, Exit.then, Exit.noGoto])
    (try simp only [Act.put, List.setIfInBounds_toArray, ls0, ls1])
    simp only [Option.some.injEq, Prod.mk.injEq] at H
    obtain ⟨rfl, rfl⟩ := H
    refine bodyPost_ret (results_tmp2 rfl _ _ _) rfl ?_
    exact ⟨_, rfl, HS⟩

/-! ### row_Table_Set: function 16 -/
def row_Table_Set.l0 : Nat → (List (S25)) → (Option S91) → Int → Int → Option (Int × Int × Int)
  | 0, _, _, _, _ => none
  | k + 1, l1, x0, x1335, x1337 => if x1337 < (l1.length : Int) then (if 0 ≤ x1337 then ((row_Table_Find.f x0 ((rd_T25 l1 x1337).f0)).bind fun bt1366 => (if bt1366.2 = true then (if 0 ≤ (IntKind.u64.wrap (bt1366.1)) then (row_Table_Set.l0 k l1 x0 (Go.bits .or .u64 x1335 (shl .u64 1 (IntKind.u64.wrap (bt1366.1)))) (wrap64 (x1337 + 1))) else (none)) else (some (0, x1337, 13)))) else (none)) else (some (x1335, 0, 0))
def row_Table_Set.f (k : Nat) (x0 : Option S91) (l1 : List (S25)) : Option (Int × Int × Int) := row_Table_Set.l0 k l1 x0 0 0

set_option maxHeartbeats 2000000 in
set_option maxRecDepth 100000 in
theorem row_Table_Set.calls (k : Nat) (v0 : Value) (x0 : Option S91) (A1 : Option Addr) (c1 : Nat) (l1 : List (S25)) (r1 : Int) (r2 : Int) (r3 : Int) (c : Nat → Nat) (w : World) (hc : ∀ k, c k < 10) (HP0 : Ft c [0] w (fun w_ => (Kd.ptr 91 k91).K w_ x0 [v0])) (HP1 : Ft c [0] w (fun w_ => k25.C w_ A1 l1.length l1)) (HCP1 : l1.length ≤ c1) (H : row_Table_Set.f k x0 l1 = some (r1, r2, r3)) :
    Calls Try.prog 16 #[v0, .slice A1 l1.length c1] w fun e w' => ∃ (c' : Nat → Nat) , e = .returned (.tuple #[.int .u64 r1, .int .i64 r2, .int .i64 r3]) ∧ Step c w c' w' [] := by
  unfold row_Table_Set.f at H
  have HS := Step.refl c w []
  go_enter Try.func16, Try.ntmps16
  refine wp_seq_k fun K1265 hK1265 => ?_
  refine wl_region ?_
  refine st (.int .u64 0) rfl rfl (xr_assign (.int .u64 0) rfl rfl) ?_
  simp only [ls0, ls1]
  refine st (.int .i64 0) rfl rfl (xr_assign (.int .i64 0) rfl rfl) ?_
  simp only [ls0, ls1]
  refine st (.int .i64 0) rfl rfl (xr_assign (.int .i64 0) rfl rfl) ?_
  simp only [ls0, ls1]
  refine wl_end ?_
  (try simp only [Act.put, List.setIfInBounds_toArray, ls0, ls1])
  refine hK1265 _ _ ?_
  (try clear hK1265 K1265)
  refine wp_seq_k fun K1266 hK1266 => ?_
  refine wp_seq_k fun K1267 hK1267 => ?_
  refine wl_region ?_
  refine st (.slice A1 l1.length c1) rfl rfl (xr_move (.slice A1 l1.length c1) rfl rfl) ?_
  simp only [ls0, ls1]
  refine st (.int .i64 (l1.length : Int)) rfl rfl (xr_builtin #[.slice A1 l1.length c1] (.int .i64 (l1.length : Int)) rfl (by simp only [List.map_toArray, List.map_cons, List.map_nil]; first | done | rfl) (by first | rfl | (go_simp; done) | (go_simp; rfl) | (go_simp; exact i64_w _) | (go_simp; exact i32_w _))) ?_
  simp only [ls0, ls1]
  refine st (.int .i64 0) rfl rfl (xr_move (.int .i64 0) rfl rfl) ?_
  simp only [ls0, ls1]
  refine wl_end ?_
  (try simp only [Act.put, List.setIfInBounds_toArray, ls0, ls1])
  refine hK1267 _ _ ?_
  (try clear hK1267 K1267)
  refine wp_block ?_
  (try simp only [Act.put, List.setIfInBounds_toArray, ls0, ls1])
  refine wp_looped (looped_ind (fun kq1341 a_ w1340 => ∃ (C1339 : Nat → Nat) (x1335 : Int) (x1337 : Int) (g1338 : Nat → Value), a_ = ⟨#[v0, (g1338 1), (g1338 2), (g1338 3), .int .u64 x1335, (g1338 5), (g1338 6), (g1338 7), (g1338 8), (g1338 9), (g1338 10), .slice A1 l1.length c1, .int .i64 (l1.length : Int), .int .i64 x1337, (g1338 14), (g1338 15), (g1338 16), (g1338 17), (g1338 18), (g1338 19), (g1338 20), (g1338 21), (g1338 22), (g1338 23), (g1338 24), (g1338 25), (g1338 26), (g1338 27), (g1338 28), (g1338 29), (g1338 30), (g1338 31), (g1338 32), (g1338 33), (g1338 34)], []⟩ ∧ Step c w C1339 w1340 [] ∧ kq1341 ≤ k ∧ (Ft C1339 [0] w1340 (fun w_ => (Kd.ptr 91 k91).K w_ x0 [v0])) ∧ (Ft C1339 [0] w1340 (fun w_ => k25.C w_ A1 l1.length l1)) ∧ row_Table_Set.l0 kq1341 l1 x0 x1335 x1337 = some (r1, r2, r3)) ?step k _ _ ?init)
  case init =>
    exact ⟨_, 0, 0, (fun q_ => List.getD [undef, .slice A1 l1.length c1, undef, undef, undef, .int .i64 0, .int .i64 0, undef, undef, undef, undef, undef, undef, undef, undef, undef, undef, undef, undef, undef, undef, undef, undef, undef, undef, undef, undef, undef, undef, undef, undef, undef, undef, undef, undef] q_ undef), rfl, HS, Nat.le_refl _, HP0, HP1, H⟩
  case step =>
    intro kq1341 ih1344 a1345 w1340 hr1346
    obtain ⟨C1339, x1335, x1337, g1338, rfl, HS1342, hk1343, HJ1334, HJ1336, H⟩ := hr1346
    refine looped_round ?_
    cases kq1341 with
    | zero => exact absurd H (by simp [row_Table_Set.l0])
    | succ k1347 =>
      simp only [row_Table_Set.l0] at H
      refine wp_seq_k fun K1348 hK1348 => ?_
      refine wl_region ?_
      refine st (.bool (decide (x1337 < (l1.length : Int)))) rfl rfl (xr_bin (.int .i64 x1337) (.int .i64 (l1.length : Int)) (.bool (decide (x1337 < (l1.length : Int)))) rfl rfl rfl (B.lss_i64 x1337 (l1.length : Int))) ?_
      simp only [ls0, ls1]
      refine wl_end ?_
      (try simp only [Act.put, List.setIfInBounds_toArray, ls0, ls1])
      refine hK1348 _ _ ?_
      (try clear hK1348 K1348)
      refine wp_seq_k fun K1349 hK1349 => ?_
      by_cases c1350 : x1337 < (l1.length : Int)
      · rw [if_pos c1350] at H
        (try rw [(decide_eq_true c1350)])
        (try simp only [Bool.not_true, Bool.not_false])
        refine wp_cond_true rfl ?_
        refine wp_skip ?_
        (try simp only [Act.put, List.setIfInBounds_toArray, ls0, ls1])
        refine hK1349 _ _ ?_
        (try clear hK1349 K1349)
        refine wp_seq_k fun K1351 hK1351 => ?_
        refine wp_block ?_
        refine wp_seq_k fun K1352 hK1352 => ?_
        refine wl_region ?_
        refine st (.int .i64 x1337) rfl rfl (xr_move (.int .i64 x1337) rfl rfl) ?_
        simp only [ls0, ls1]
        by_cases c1353 : 0 ≤ x1337
        · rw [if_pos c1353] at H
          obtain ⟨ad1354, hA1355⟩ := c_addr (Ft.now HJ1336) (pos_of (j := x1337) (by first | assumption | decide) (by first | assumption | omega))
          refine st (.pointer (some (ad1354.add ((x1337 : Int).toNat * 2)))) rfl rfl (xr_indexAddr (.slice A1 l1.length c1) (.int .i64 x1337) (.pointer (some (ad1354.add ((x1337 : Int).toNat * 2)))) rfl rfl rfl (index_at Try.underlying22 info25 hA1355 (by first | assumption | decide | omega) (by first | assumption | decide | omega))) ?_
          simp only [ls0, ls1]
          refine st (.agg #[.string ((rd_T25 l1 x1337).f0), .int .i64 ((rd_T25 l1 x1337).f1)]) rfl rfl (xr_load (.pointer (some (ad1354.add ((x1337 : Int).toNat * 2)))) (.agg #[.string ((rd_T25 l1 x1337).f0), .int .i64 ((rd_T25 l1 x1337).f1)]) rfl rfl (by obtain ⟨ad_, cs_, e_, _, hK_, hc_⟩ := Kd.C_get (Ft.now HJ1336) z25 x1337 (by first | assumption | decide | omega) (by first | assumption | decide | omega); rw [hA1355] at e_; injection e_ with e_; subst e_; obtain rfl := k25_open hK_; exact load_agg (cs := [.string ((rd_T25 l1 x1337).f0), .int .i64 ((rd_T25 l1 x1337).f1)]) Try.underlying25 rfl (by kernel_rfl) (fun j_ u_ hu_ => by first | (rw [add_add]; exact hc_ _ _ hu_) | exact add_cells hc_ hu_))) ?_
          simp only [ls0, ls1]
          refine bx_new (C := C1339) 25 ([.string (⟨#[]⟩ : ByteArray), .int .i64 0]) 11 rfl rfl (by first | (go_simp; done) | (go_simp; rfl)) ?_
          intro g1357 w1358 C1359 HX1360 hs1361
          replace HJ1334 := HJ1334.thru hs1361 rfl
          replace HJ1336 := HJ1336.thru hs1361 rfl
          replace HS1342 := HS1342.trans hs1361 hc rfl
          (try simp only [Act.put, List.setIfInBounds_toArray, ls0, ls1])
          refine st (.int .i64 x1337) rfl rfl (xr_assign (.int .i64 x1337) rfl rfl) ?_
          simp only [ls0, ls1]
          refine bx_store (C := C1359) (z := 11) (g := g1357) (j := 0) (tb := 25) (u := .agg #[.string ((rd_T25 l1 x1337).f0), .int .i64 ((rd_T25 l1 x1337).f1)]) (seg := [.string ((rd_T25 l1 x1337).f0), .int .i64 ((rd_T25 l1 x1337).f1)]) (xs := [.string (⟨#[]⟩ : ByteArray), .int .i64 0]) rfl rfl rfl rfl rfl rfl (by first | kernel_rfl | rfl) (by simp [Value.oneCell']) HX1360 (by simp only [List.length_cons, List.length_nil]; omega) rfl ?_
          intro w1362 HX1363 hs1364
          replace HJ1334 := HJ1334.thru hs1364 rfl
          replace HJ1336 := HJ1336.thru hs1364 rfl
          replace HS1342 := HS1342.trans hs1364 hc rfl
          (try simp only [Act.put, List.setIfInBounds_toArray, ls0, ls1])
          refine wl_end ?_
          (try simp only [Act.put, List.setIfInBounds_toArray, ls0, ls1])
          refine hK1352 _ _ ?_
          (try clear hK1352 K1352)
          refine wp_seq_k fun K1365 hK1365 => ?_
          refine wl_region ?_
          refine st (v0) rfl rfl (xr_move (v0) rfl rfl) ?_
          simp only [ls0, ls1]
          refine st (.pointer (some ⟨g1357, 0, none⟩)) rfl rfl (xr_fieldAddr (.pointer (some ⟨g1357, 0, none⟩)) (.pointer (some ⟨g1357, 0, none⟩)) rfl rfl (bx_field2 Try.underlying25 rfl rfl (by kernel_rfl))) ?_
          simp only [ls0, ls1]
          refine st (.string ((rd_T25 l1 x1337).f0)) rfl rfl (xr_load (.pointer (some ⟨g1357, 0, none⟩)) (.string ((rd_T25 l1 x1337).f0)) rfl rfl (load_cell Try.underlying9 rfl (bx_cell (l := ([.string ((rd_T25 l1 x1337).f0), .int .i64 ((rd_T25 l1 x1337).f1)])) (HX1363).2 0 rfl))) ?_
          simp only [ls0, ls1]
          obtain ⟨⟨t1366, t1367⟩, A1368, H⟩ := Option.bind_eq_some_iff.mp H
          (try dsimp only at H)
          refine st_call #[v0, .string ((rd_T25 l1 x1337).f0)] rfl rfl Try.func48 (by kernel_rfl) rfl rfl (by simp only [List.map_toArray, List.map_cons, List.map_nil]; first | done | rfl) ?_
          refine (row_Table_Find.calls v0 x0 ((rd_T25 l1 x1337).f0) t1366 t1367  (fun z_ => pal [(0, 0)] (C1359 z_)) w1362 (fun _ => pal_lt rfl _) (Ft.arg HJ1334 rfl) A1368).mono ?_
          rintro _ w1370 ⟨C1371, rfl, hs1372⟩
          refine ⟨_, rfl, ?_⟩
          replace hs1372 := Step.lift (U := [(0, 0)]) hs1372 [] rfl rfl
          generalize up C1359 C1371 w1362.heap.size [(0, 0)] = C1371_ at hs1372
          replace HJ1334 := HJ1334.thru hs1372 rfl
          replace HJ1336 := HJ1336.thru hs1372 rfl
          replace HX1363 := HX1363.thru hs1372 rfl
          replace HS1342 := HS1342.trans hs1372 hc rfl
          (try simp only [Act.put, List.setIfInBounds_toArray, ls0, ls1])
          refine st (.tuple #[.int .i64 t1366, .bool t1367]) rfl rfl (xr_move (.tuple #[.int .i64 t1366, .bool t1367]) rfl rfl) ?_
          simp only [ls0, ls1]
          refine st (.int .i64 t1366) rfl rfl (xr_extract (.tuple #[.int .i64 t1366, .bool t1367]) (.int .i64 t1366) rfl rfl rfl) ?_
          simp only [ls0, ls1]
          refine st (.bool t1367) rfl rfl (xr_extract (.tuple #[.int .i64 t1366, .bool t1367]) (.bool t1367) rfl rfl rfl) ?_
          simp only [ls0, ls1]
          refine st (.int .i64 t1366) rfl rfl (xr_assign (.int .i64 t1366) rfl rfl) ?_
          simp only [ls0, ls1]
          refine st (.bool t1367) rfl rfl (xr_assign (.bool t1367) rfl rfl) ?_
          simp only [ls0, ls1]
          refine wl_end ?_
          (try simp only [Act.put, List.setIfInBounds_toArray, ls0, ls1])
          refine hK1365 _ _ ?_
          (try clear hK1365 K1365)
          refine wp_seq_k fun K1373 hK1373 => ?_
          refine wp_seq_k fun K1374 hK1374 => ?_
          refine wl_region ?_
          refine st (.bool t1367) rfl rfl (xr_move (.bool t1367) rfl rfl) ?_
          simp only [ls0, ls1]
          refine st (.bool (!t1367)) rfl rfl (xr_un (.bool t1367) (.bool (!t1367)) rfl rfl (by first | rfl | (go_simp; done) | (go_simp; rfl) | (go_simp; exact i64_w _) | (go_simp; exact i32_w _))) ?_
          simp only [ls0, ls1]
          refine wl_end ?_
          (try simp only [Act.put, List.setIfInBounds_toArray, ls0, ls1])
          refine hK1374 _ _ ?_
          (try clear hK1374 K1374)
          by_cases c1375 : t1367 = true
          · rw [if_pos c1375] at H
            (try rw [c1375])
            (try simp only [Bool.not_true, Bool.not_false])
            refine wp_cond_false rfl ?_
            refine wp_skip ?_
            (try simp only [Act.put, List.setIfInBounds_toArray, ls0, ls1])
            refine hK1373 _ _ ?_
            (try clear hK1373 K1373)
            refine wl_region ?_
            refine st (.int .u64 x1335) rfl rfl (xr_move (.int .u64 x1335) rfl rfl) ?_
            simp only [ls0, ls1]
            refine st (.int .i64 t1366) rfl rfl (xr_move (.int .i64 t1366) rfl rfl) ?_
            simp only [ls0, ls1]
            refine st (.int .u64 (IntKind.u64.wrap (t1366))) rfl rfl (xr_conv (.int .i64 t1366) (.int .u64 (IntKind.u64.wrap (t1366))) rfl rfl (by first | rfl | (go_simp; done) | (go_simp; rfl) | (go_simp; exact i64_w _) | (go_simp; exact i32_w _))) ?_
            simp only [ls0, ls1]
            by_cases c1376 : 0 ≤ (IntKind.u64.wrap (t1366))
            · rw [if_pos c1376] at H
              refine st (.int .u64 (shl .u64 1 (IntKind.u64.wrap (t1366)))) rfl rfl (xr_bin (.int .u64 1) (.int .u64 (IntKind.u64.wrap (t1366))) (.int .u64 (shl .u64 1 (IntKind.u64.wrap (t1366)))) rfl rfl rfl (B.shl_u64_u64 1 (IntKind.u64.wrap (t1366)) (by assumption))) ?_
              simp only [ls0, ls1]
              refine st (.int .u64 (Go.bits .or .u64 x1335 (shl .u64 1 (IntKind.u64.wrap (t1366))))) rfl rfl (xr_bin (.int .u64 x1335) (.int .u64 (shl .u64 1 (IntKind.u64.wrap (t1366)))) (.int .u64 (Go.bits .or .u64 x1335 (shl .u64 1 (IntKind.u64.wrap (t1366))))) rfl rfl rfl (B.or_u64 x1335 (shl .u64 1 (IntKind.u64.wrap (t1366))))) ?_
              simp only [ls0, ls1]
              refine st (.int .u64 (Go.bits .or .u64 x1335 (shl .u64 1 (IntKind.u64.wrap (t1366))))) rfl rfl (xr_assign (.int .u64 (Go.bits .or .u64 x1335 (shl .u64 1 (IntKind.u64.wrap (t1366))))) rfl rfl) ?_
              simp only [ls0, ls1]
              refine wl_end ?_
              (try simp only [Act.put, List.setIfInBounds_toArray, ls0, ls1])
              refine hK1351 _ _ ?_
              (try clear hK1351 K1351)
              refine wl_region ?_
              refine st (.int .i64 (wrap64 (x1337 + 1))) rfl rfl (xr_bin (.int .i64 x1337) (.int .i64 1) (.int .i64 (wrap64 (x1337 + 1))) rfl rfl rfl (B.add_i64 x1337 1)) ?_
              simp only [ls0, ls1]
              refine st (.int .i64 (wrap64 (x1337 + 1))) rfl rfl (xr_move (.int .i64 (wrap64 (x1337 + 1))) rfl rfl) ?_
              simp only [ls0, ls1]
              refine wl_end ?_
              (try simp only [Act.put, List.setIfInBounds_toArray, ls0, ls1])
              exact ih1344 k1347 (by omega) _ _ ⟨_, Go.bits .or .u64 x1335 (shl .u64 1 (IntKind.u64.wrap (t1366))), wrap64 (x1337 + 1), (fun q_ => List.getD [undef, (g1338 1), (g1338 2), (g1338 3), undef, (g1338 5), (g1338 6), .int .i64 x1337, .pointer (some ⟨g1357, 0, none⟩), .int .i64 t1366, .bool true, undef, undef, undef, .bool true, .int .i64 x1337, .pointer (some (ad1354.add ((x1337 : Int).toNat * 2))), .agg #[.string ((rd_T25 l1 x1337).f0), .int .i64 ((rd_T25 l1 x1337).f1)], .tuple #[.int .i64 t1366, .bool true], v0, .pointer (some ⟨g1357, 0, none⟩), .string ((rd_T25 l1 x1337).f0), .tuple #[.int .i64 t1366, .bool true], .int .i64 t1366, .bool true, .bool true, .bool false, (g1338 27), .int .u64 x1335, .int .i64 t1366, .int .u64 (IntKind.u64.wrap (t1366)), .int .u64 (shl .u64 1 (IntKind.u64.wrap (t1366))), .int .u64 (Go.bits .or .u64 x1335 (shl .u64 1 (IntKind.u64.wrap (t1366)))), .int .i64 (wrap64 (x1337 + 1)), (g1338 34)] q_ undef), rfl, HS1342, (by omega), HJ1334, HJ1336, H⟩
            · rw [if_neg c1376] at H
              exact absurd H (by simp)
          · rw [if_neg c1375] at H
            (try rw [(Bool.eq_false_iff.mpr c1375)])
            (try simp only [Bool.not_true, Bool.not_false])
            refine wp_cond_true rfl ?_
            refine wp_seq_k fun K1377 hK1377 => ?_
            refine wl_region ?_
            refine st (.int .i64 x1337) rfl rfl (xr_move (.int .i64 x1337) rfl rfl) ?_
            simp only [ls0, ls1]
            refine st (.int .u64 0) rfl rfl (xr_assign (.int .u64 0) rfl rfl) ?_
            simp only [ls0, ls1]
            refine st (.int .i64 x1337) rfl rfl (xr_assign (.int .i64 x1337) rfl rfl) ?_
            simp only [ls0, ls1]
            refine st (.int .i64 13) rfl rfl (xr_assign (.int .i64 13) rfl rfl) ?_
            simp only [ls0, ls1]
            refine wl_end ?_
            (try simp only [Act.put, List.setIfInBounds_toArray, ls0, ls1])
            refine hK1377 _ _ ?_
            (try clear hK1377 K1377)
            refine wp_ret ?_
            (try simp only [Exit.inBlock, Exit.then, Exit.noGoto])
            (try simp only [Act.put, List.setIfInBounds_toArray, ls0, ls1])
            simp only [Option.some.injEq, Prod.mk.injEq] at H
            obtain ⟨rfl, rfl, rfl⟩ := H
            refine bodyPost_ret (results_tmp3 rfl _ _ _) rfl ?_
            exact ⟨_, rfl, HS1342⟩
        · rw [if_neg c1353] at H
          exact absurd H (by simp)
      · rw [if_neg c1350] at H
        (try rw [(decide_eq_false c1350)])
        (try simp only [Bool.not_true, Bool.not_false])
        refine wp_cond_false rfl ?_
        refine wp_exit ?_
        (try simp only [Act.put, List.setIfInBounds_toArray, ls0, ls1])
        refine hK1266 _ _ ?_
        (try clear hK1266 K1266)
        refine wp_seq_k fun K1378 hK1378 => ?_
        refine wl_region ?_
        refine st (.int .u64 x1335) rfl rfl (xr_move (.int .u64 x1335) rfl rfl) ?_
        simp only [ls0, ls1]
        refine st (.int .u64 x1335) rfl rfl (xr_assign (.int .u64 x1335) rfl rfl) ?_
        simp only [ls0, ls1]
        refine st (.int .i64 0) rfl rfl (xr_assign (.int .i64 0) rfl rfl) ?_
        simp only [ls0, ls1]
        refine st (.int .i64 0) rfl rfl (xr_assign (.int .i64 0) rfl rfl) ?_
        simp only [ls0, ls1]
        refine wl_end ?_
        (try simp only [Act.put, List.setIfInBounds_toArray, ls0, ls1])
        refine hK1378 _ _ ?_
        (try clear hK1378 K1378)
        refine wp_ret ?_
        (try simp only [Exit.inBlock, Exit.then, Exit.noGoto])
        (try simp only [Act.put, List.setIfInBounds_toArray, ls0, ls1])
        simp only [Option.some.injEq, Prod.mk.injEq] at H
        obtain ⟨rfl, rfl, rfl⟩ := H
        refine bodyPost_ret (results_tmp3 rfl _ _ _) rfl ?_
        exact ⟨_, rfl, HS1342⟩

/-! ### row_Table_Len: function 14 -/
def row_Table_Len.f (x0 : Option S91) : Option (Int) := onOpt x0 (some 0) (fun o1393 => (some (o1393.f0.length : Int)))
set_option maxHeartbeats 2000000 in
set_option maxRecDepth 100000 in
theorem row_Table_Len.calls (v0 : Value) (x0 : Option S91) (r : Int) (c : Nat → Nat) (w : World) (hc : ∀ k, c k < 10) (HP0 : Ft c [0] w (fun w_ => (Kd.ptr 91 k91).K w_ x0 [v0])) (H : row_Table_Len.f x0 = some r) :
    Calls Try.prog 14 #[v0] w fun e w' => ∃ (c' : Nat → Nat) , e = .returned (.int .i64 r) ∧ Step c w c' w' [] := by
  unfold row_Table_Len.f at H
  have HS := Step.refl c w []
  go_enter Try.func14, Try.ntmps14
  refine wp_seq_k fun K1390 hK1390 => ?_
  refine wl_region ?_
  refine st (.int .i64 0) rfl rfl (xr_assign (.int .i64 0) rfl rfl) ?_
  simp only [ls0, ls1]
  refine wl_end ?_
  (try simp only [Act.put, List.setIfInBounds_toArray, ls0, ls1])
  refine hK1390 _ _ ?_
  (try clear hK1390 K1390)
  refine wp_seq_k fun K1391 hK1391 => ?_
  refine wp_seq_k fun K1392 hK1392 => ?_
  refine wl_region ?_
  refine st (v0) rfl rfl (xr_move (v0) rfl rfl) ?_
  simp only [ls0, ls1]
  cases x0 with
  | none =>
    (try simp only [onOpt] at H)
    obtain rfl := ptr_none HP0
    refine st (.bool true) rfl rfl (xr_bin (.pointer none) (.pointer none) (.bool true) rfl rfl rfl (B.eql_nn ⟨_, Try.underlying26⟩ (⟨0, 0, none⟩ : Addr))) ?_
    simp only [ls0, ls1]
    refine wl_end ?_
    (try simp only [Act.put, List.setIfInBounds_toArray, ls0, ls1])
    refine hK1392 _ _ ?_
    (try clear hK1392 K1392)
    refine wp_cond_true rfl ?_
    refine wp_seq_k fun K1394 hK1394 => ?_
    refine wl_region ?_
    refine st (.int .i64 0) rfl rfl (xr_assign (.int .i64 0) rfl rfl) ?_
    simp only [ls0, ls1]
    refine wl_end ?_
    (try simp only [Act.put, List.setIfInBounds_toArray, ls0, ls1])
    refine hK1394 _ _ ?_
    (try clear hK1394 K1394)
    refine wp_ret ?_
    (try simp only [Exit.inBlock, Exit.then, Exit.noGoto])
    (try simp only [Act.put, List.setIfInBounds_toArray, ls0, ls1])
    obtain rfl := Option.some.inj H
    refine bodyPost_ret (results_tmp rfl _ _ _) rfl ?_
    exact ⟨_, rfl, HS⟩
  | some o1393 =>
    (try simp only [onOpt] at H)
    obtain ⟨g1395, cs1396, rfl, HX1397, HK1398⟩ := ptr_some HP0
    obtain ⟨Aq1399_0, cpq1399_0, vq1399_1, rfl, HCq1399_0, HRq1399_0, HRq1399_1⟩ := k91_openF HK1398
    replace HRq1399_0 : Ft c [0] w (fun w_ => Kd.string.C w_ Aq1399_0 o1393.f0.length o1393.f0) := HRq1399_0
    replace HRq1399_1 : Ft c [0] w (fun w_ => (Kd.mp Value.string (Value.int .i64)).K w_ o1393.f1 [vq1399_1]) := HRq1399_1
    refine st (.bool false) rfl rfl (xr_bin (.pointer (some ⟨g1395, 0, none⟩)) (.pointer none) (.bool false) rfl rfl rfl (B.eql_pn ⟨_, Try.underlying26⟩ ⟨g1395, 0, none⟩)) ?_
    simp only [ls0, ls1]
    refine wl_end ?_
    (try simp only [Act.put, List.setIfInBounds_toArray, ls0, ls1])
    refine hK1392 _ _ ?_
    (try clear hK1392 K1392)
    refine wp_cond_false rfl ?_
    refine wp_skip ?_
    (try simp only [Act.put, List.setIfInBounds_toArray, ls0, ls1])
    refine hK1391 _ _ ?_
    (try clear hK1391 K1391)
    refine wp_seq_k fun K1400 hK1400 => ?_
    refine wl_region ?_
    refine st (.pointer (some ⟨g1395, 0, none⟩)) rfl rfl (xr_move (.pointer (some ⟨g1395, 0, none⟩)) rfl rfl) ?_
    simp only [ls0, ls1]
    refine st (.pointer (some ⟨g1395, 0, none⟩)) rfl rfl (xr_nilCheck ⟨g1395, 0, none⟩ rfl rfl) ?_
    simp only [ls0, ls1]
    refine st (.pointer (some ⟨g1395, 0, none⟩)) rfl rfl (xr_fieldAddr (.pointer (some ⟨g1395, 0, none⟩)) (.pointer (some ⟨g1395, 0, none⟩)) rfl rfl (bx_field2 Try.underlying91 rfl rfl (by kernel_rfl))) ?_
    simp only [ls0, ls1]
    refine st (.slice Aq1399_0 o1393.f0.length cpq1399_0) rfl rfl (xr_load (.pointer (some ⟨g1395, 0, none⟩)) (.slice Aq1399_0 o1393.f0.length cpq1399_0) rfl rfl (load_cell Try.underlying37 rfl (bx_cell (l := ([.slice Aq1399_0 o1393.f0.length cpq1399_0, vq1399_1])) (Ft.now HX1397) 0 rfl))) ?_
    simp only [ls0, ls1]
    refine st (.int .i64 (o1393.f0.length : Int)) rfl rfl (xr_builtin #[.slice Aq1399_0 o1393.f0.length cpq1399_0] (.int .i64 (o1393.f0.length : Int)) rfl (by simp only [List.map_toArray, List.map_cons, List.map_nil]; first | done | rfl) (by first | rfl | (go_simp; done) | (go_simp; rfl) | (go_simp; exact i64_w _) | (go_simp; exact i32_w _))) ?_
    simp only [ls0, ls1]
    refine st (.int .i64 (o1393.f0.length : Int)) rfl rfl (xr_assign (.int .i64 (o1393.f0.length : Int)) rfl rfl) ?_
    simp only [ls0, ls1]
    refine wl_end ?_
    (try simp only [Act.put, List.setIfInBounds_toArray, ls0, ls1])
    refine hK1400 _ _ ?_
    (try clear hK1400 K1400)
    refine wp_ret ?_
    (try simp only [Exit.inBlock, Exit.then, Exit.noGoto])
    (try simp only [Act.put, List.setIfInBounds_toArray, ls0, ls1])
    obtain rfl := Option.some.inj H
    refine bodyPost_ret (results_tmp rfl _ _ _) rfl ?_
    exact ⟨_, rfl, HS⟩

/-! ### row_Table_Names: function 17 -/
mutual
def row_Table_Names.l0 : Nat → Int → Int → Int → Option (List ByteArray)
  | 0, _, _, _ => none
  | k + 1, a1, t1557, x1581 => if x1581 < t1557 then (if 0 ≤ (IntKind.u64.wrap (x1581)) then (if (Go.bits .and .u64 (shr .u64 a1 (IntKind.u64.wrap (x1581))) 1) = 1 then (none) else (row_Table_Names.l0 k a1 t1557 (wrap64 (x1581 + 1)))) else (none)) else (some ([] : List ByteArray))
def row_Table_Names.l1 : Nat → Int → S91 → Int → (List ByteArray) → Int → Option (List ByteArray)
  | 0, _, _, _, _, _ => none
  | k + 1, a1, o1563, t1557, x1662, x1668 => if x1668 < t1557 then (if 0 ≤ (IntKind.u64.wrap (x1668)) then (if (Go.bits .and .u64 (shr .u64 a1 (IntKind.u64.wrap (x1668))) 1) = 1 then (if 0 ≤ x1668 then (if x1668 < (o1563.f0.length : Int) then (if x1662.length < 8796093022208 then ((some (x1662 ++ [rdOf ByteArray.empty o1563.f0 x1668] : List ByteArray)).bind fun y1695 => (row_Table_Names.l1 k a1 o1563 t1557 y1695 (wrap64 (x1668 + 1)))) else (none)) else (none)) else (none)) else (row_Table_Names.l1 k a1 o1563 t1557 x1662 (wrap64 (x1668 + 1)))) else (none)) else (some x1662)
end
def row_Table_Names.f (k : Nat) (x0 : Option S91) (a1 : Int) : Option (List ByteArray) := (row_Table_Len.f x0).bind fun t1557 => (onOpt x0 (row_Table_Names.l0 k a1 t1557 0) (fun o1563 => (row_Table_Names.l1 k a1 o1563 t1557 ([] : List ByteArray) 0)))

set_option maxHeartbeats 2000000 in
set_option maxRecDepth 100000 in
theorem row_Table_Names.calls (k : Nat) (v0 : Value) (x0 : Option S91) (a1 : Int) (r : List ByteArray) (c : Nat → Nat) (w : World) (hc : ∀ k, c k < 10) (HP0 : Ft c [0] w (fun w_ => (Kd.ptr 91 k91).K w_ x0 [v0])) (H : row_Table_Names.f k x0 a1 = some r) :
    Calls Try.prog 17 #[v0, .int .u64 a1] w fun e w' => ∃ (c' : Nat → Nat) (A_r : Option Addr) (c_r : Nat), e = .returned (.slice A_r r.length c_r) ∧ Step c w c' w' [] ∧ Own c' 5 w' Kd.string 9 (.slice A_r r.length c_r) r ∧ r.length ≤ c_r := by
  unfold row_Table_Names.f at H
  have HS := Step.refl c w []
  go_enter Try.func17, Try.ntmps17
  refine wp_seq_k fun K1553 hK1553 => ?_
  refine wl_region ?_
  refine st (.slice none 0 0) rfl rfl (xr_assign (.slice none 0 0) rfl rfl) ?_
  simp only [ls0, ls1]
  refine wl_end ?_
  (try simp only [Act.put, List.setIfInBounds_toArray, ls0, ls1])
  refine hK1553 _ _ ?_
  (try clear hK1553 K1553)
  refine wp_seq_k fun K1554 hK1554 => ?_
  refine wl_region ?_
  refine st (.slice none 0 0) rfl rfl (xr_assign (.slice none 0 0) rfl rfl) ?_
  simp only [ls0, ls1]
  refine wl_end ?_
  (try simp only [Act.put, List.setIfInBounds_toArray, ls0, ls1])
  refine hK1554 _ _ ?_
  (try clear hK1554 K1554)
  refine wp_seq_k fun K1555 hK1555 => ?_
  refine wp_seq_k fun K1556 hK1556 => ?_
  refine wl_region ?_
  refine st (v0) rfl rfl (xr_move (v0) rfl rfl) ?_
  simp only [ls0, ls1]
  obtain ⟨t1557, A1558, H⟩ := Option.bind_eq_some_iff.mp H
  (try dsimp only at H)
  refine st_call #[v0] rfl rfl Try.func14 (by kernel_rfl) rfl rfl (by simp only [List.map_toArray, List.map_cons, List.map_nil]; first | done | rfl) ?_
  refine (row_Table_Len.calls v0 x0 t1557  (fun z_ => pal [(0, 0)] (c z_)) w (fun _ => pal_lt rfl _) (Ft.arg HP0 rfl) A1558).mono ?_
  rintro _ w1560 ⟨C1561, rfl, hs1562⟩
  refine ⟨_, rfl, ?_⟩
  replace hs1562 := Step.lift (U := [(0, 0)]) hs1562 [] rfl rfl
  generalize up c C1561 w.heap.size [(0, 0)] = C1561_ at hs1562
  replace HP0 := HP0.thru hs1562 rfl
  replace HS := HS.trans hs1562 hc rfl
  (try simp only [Act.put, List.setIfInBounds_toArray, ls0, ls1])
  refine st (.int .i64 0) rfl rfl (xr_move (.int .i64 0) rfl rfl) ?_
  simp only [ls0, ls1]
  refine wl_end ?_
  (try simp only [Act.put, List.setIfInBounds_toArray, ls0, ls1])
  refine hK1556 _ _ ?_
  (try clear hK1556 K1556)
  refine wp_block ?_
  cases x0 with
  | none =>
    (try simp only [onOpt] at H)
    obtain rfl := ptr_none HP0
    (try simp only [Act.put, List.setIfInBounds_toArray, ls0, ls1])
    refine wp_looped (looped_ind (fun kq1585 a_ w1584 => ∃ (C1583 : Nat → Nat) (x1581 : Int) (g1582 : Nat → Value), a_ = ⟨#[.pointer none, .int .u64 a1, (g1582 2), (g1582 3), (g1582 4), .slice none 0 0, (g1582 6), (g1582 7), .int .i64 t1557, .int .i64 x1581, (g1582 10), (g1582 11), (g1582 12), (g1582 13), (g1582 14), (g1582 15), (g1582 16), (g1582 17), (g1582 18), (g1582 19), (g1582 20), (g1582 21), (g1582 22), (g1582 23), (g1582 24), (g1582 25), (g1582 26), (g1582 27), (g1582 28), (g1582 29)], []⟩ ∧ Step c w C1583 w1584 [] ∧ kq1585 ≤ k ∧ row_Table_Names.l0 kq1585 a1 t1557 x1581 = some r) ?step k _ _ ?init)
    case init =>
      exact ⟨_, 0, (fun q_ => List.getD [undef, undef, undef, undef, .slice none 0 0, undef, undef, .pointer none, undef, undef, undef, undef, undef, undef, undef, undef, undef, undef, undef, undef, undef, undef, undef, undef, undef, undef, undef, undef, undef, undef] q_ undef), rfl, HS, Nat.le_refl _, H⟩
    case step =>
      intro kq1585 ih1588 a1589 w1584 hr1590
      obtain ⟨C1583, x1581, g1582, rfl, HS1586, hk1587, H⟩ := hr1590
      refine looped_round ?_
      cases kq1585 with
      | zero => exact absurd H (by simp [row_Table_Names.l0])
      | succ k1591 =>
        simp only [row_Table_Names.l0] at H
        refine wp_seq_k fun K1592 hK1592 => ?_
        refine wl_region ?_
        refine st (.bool (decide (x1581 < t1557))) rfl rfl (xr_bin (.int .i64 x1581) (.int .i64 t1557) (.bool (decide (x1581 < t1557))) rfl rfl rfl (B.lss_i64 x1581 t1557)) ?_
        simp only [ls0, ls1]
        refine wl_end ?_
        (try simp only [Act.put, List.setIfInBounds_toArray, ls0, ls1])
        refine hK1592 _ _ ?_
        (try clear hK1592 K1592)
        refine wp_seq_k fun K1593 hK1593 => ?_
        by_cases c1594 : x1581 < t1557
        · rw [if_pos c1594] at H
          (try rw [(decide_eq_true c1594)])
          (try simp only [Bool.not_true, Bool.not_false])
          refine wp_cond_true rfl ?_
          refine wp_skip ?_
          (try simp only [Act.put, List.setIfInBounds_toArray, ls0, ls1])
          refine hK1593 _ _ ?_
          (try clear hK1593 K1593)
          refine wp_seq_k fun K1595 hK1595 => ?_
          refine wp_block ?_
          refine wp_seq_k fun K1596 hK1596 => ?_
          refine wl_region ?_
          refine st (.int .i64 x1581) rfl rfl (xr_move (.int .i64 x1581) rfl rfl) ?_
          simp only [ls0, ls1]
          refine st (.int .i64 x1581) rfl rfl (xr_assign (.int .i64 x1581) rfl rfl) ?_
          simp only [ls0, ls1]
          refine wl_end ?_
          (try simp only [Act.put, List.setIfInBounds_toArray, ls0, ls1])
          refine hK1596 _ _ ?_
          (try clear hK1596 K1596)
          refine wp_seq_k fun K1597 hK1597 => ?_
          refine wl_region ?_
          refine st (.int .u64 a1) rfl rfl (xr_move (.int .u64 a1) rfl rfl) ?_
          simp only [ls0, ls1]
          refine st (.int .i64 x1581) rfl rfl (xr_move (.int .i64 x1581) rfl rfl) ?_
          simp only [ls0, ls1]
          refine st (.int .u64 (IntKind.u64.wrap (x1581))) rfl rfl (xr_conv (.int .i64 x1581) (.int .u64 (IntKind.u64.wrap (x1581))) rfl rfl (by first | rfl | (go_simp; done) | (go_simp; rfl) | (go_simp; exact i64_w _) | (go_simp; exact i32_w _))) ?_
          simp only [ls0, ls1]
          by_cases c1598 : 0 ≤ (IntKind.u64.wrap (x1581))
          · rw [if_pos c1598] at H
            refine st (.int .u64 (shr .u64 a1 (IntKind.u64.wrap (x1581)))) rfl rfl (xr_bin (.int .u64 a1) (.int .u64 (IntKind.u64.wrap (x1581))) (.int .u64 (shr .u64 a1 (IntKind.u64.wrap (x1581)))) rfl rfl rfl (B.shr_u64_u64 a1 (IntKind.u64.wrap (x1581)) (by assumption))) ?_
            simp only [ls0, ls1]
            refine st (.int .u64 (Go.bits .and .u64 (shr .u64 a1 (IntKind.u64.wrap (x1581))) 1)) rfl rfl (xr_bin (.int .u64 (shr .u64 a1 (IntKind.u64.wrap (x1581)))) (.int .u64 1) (.int .u64 (Go.bits .and .u64 (shr .u64 a1 (IntKind.u64.wrap (x1581))) 1)) rfl rfl rfl (B.and_u64 (shr .u64 a1 (IntKind.u64.wrap (x1581))) 1)) ?_
            simp only [ls0, ls1]
            refine st (.bool (decide ((Go.bits .and .u64 (shr .u64 a1 (IntKind.u64.wrap (x1581))) 1) = 1))) rfl rfl (xr_bin (.int .u64 (Go.bits .and .u64 (shr .u64 a1 (IntKind.u64.wrap (x1581))) 1)) (.int .u64 1) (.bool (decide ((Go.bits .and .u64 (shr .u64 a1 (IntKind.u64.wrap (x1581))) 1) = 1))) rfl rfl rfl (B.eql_u64 (Go.bits .and .u64 (shr .u64 a1 (IntKind.u64.wrap (x1581))) 1) 1)) ?_
            simp only [ls0, ls1]
            refine wl_end ?_
            (try simp only [Act.put, List.setIfInBounds_toArray, ls0, ls1])
            refine hK1597 _ _ ?_
            (try clear hK1597 K1597)
            by_cases c1599 : (Go.bits .and .u64 (shr .u64 a1 (IntKind.u64.wrap (x1581))) 1) = 1
            · rw [if_pos c1599] at H
              (try rw [(decide_eq_true c1599)])
              (try simp only [Bool.not_true, Bool.not_false])
              refine wp_cond_true rfl ?_
              refine wl_region ?_
              refine st (.slice none 0 0) rfl rfl (xr_move (.slice none 0 0) rfl rfl) ?_
              simp only [ls0, ls1]
              refine st (.pointer none) rfl rfl (xr_move (.pointer none) rfl rfl) ?_
              simp only [ls0, ls1]
              exact absurd H (by simp)
            · rw [if_neg c1599] at H
              (try rw [(decide_eq_false c1599)])
              (try simp only [Bool.not_true, Bool.not_false])
              refine wp_cond_false rfl ?_
              refine wp_skip ?_
              (try simp only [Act.put, List.setIfInBounds_toArray, ls0, ls1])
              refine hK1595 _ _ ?_
              (try clear hK1595 K1595)
              refine wl_region ?_
              refine st (.int .i64 (wrap64 (x1581 + 1))) rfl rfl (xr_bin (.int .i64 x1581) (.int .i64 1) (.int .i64 (wrap64 (x1581 + 1))) rfl rfl rfl (B.add_i64 x1581 1)) ?_
              simp only [ls0, ls1]
              refine st (.int .i64 (wrap64 (x1581 + 1))) rfl rfl (xr_move (.int .i64 (wrap64 (x1581 + 1))) rfl rfl) ?_
              simp only [ls0, ls1]
              refine wl_end ?_
              (try simp only [Act.put, List.setIfInBounds_toArray, ls0, ls1])
              exact ih1588 k1591 (by omega) _ _ ⟨_, wrap64 (x1581 + 1), (fun q_ => List.getD [undef, undef, (g1582 2), (g1582 3), (g1582 4), undef, .int .i64 x1581, (g1582 7), undef, undef, .bool true, .int .i64 x1581, .int .u64 a1, .int .i64 x1581, .int .u64 (IntKind.u64.wrap (x1581)), .int .u64 (shr .u64 a1 (IntKind.u64.wrap (x1581))), .int .u64 (Go.bits .and .u64 (shr .u64 a1 (IntKind.u64.wrap (x1581))) 1), .bool false, (g1582 18), (g1582 19), (g1582 20), (g1582 21), (g1582 22), (g1582 23), (g1582 24), (g1582 25), (g1582 26), (g1582 27), .int .i64 (wrap64 (x1581 + 1)), (g1582 29)] q_ undef), rfl, HS1586, (by omega), H⟩
          · rw [if_neg c1598] at H
            exact absurd H (by simp)
        · rw [if_neg c1594] at H
          (try rw [(decide_eq_false c1594)])
          (try simp only [Bool.not_true, Bool.not_false])
          refine wp_cond_false rfl ?_
          refine wp_exit ?_
          (try simp only [Act.put, List.setIfInBounds_toArray, ls0, ls1])
          refine hK1555 _ _ ?_
          (try clear hK1555 K1555)
          refine wp_seq_k fun K1600 hK1600 => ?_
          refine wl_region ?_
          refine st (.slice none 0 0) rfl rfl (xr_move (.slice none 0 0) rfl rfl) ?_
          simp only [ls0, ls1]
          refine st (.slice none 0 0) rfl rfl (xr_assign (.slice none 0 0) rfl rfl) ?_
          simp only [ls0, ls1]
          refine wl_end ?_
          (try simp only [Act.put, List.setIfInBounds_toArray, ls0, ls1])
          refine hK1600 _ _ ?_
          (try clear hK1600 K1600)
          refine wp_ret ?_
          (try simp only [Exit.inBlock, Exit.then, Exit.noGoto])
          (try simp only [Act.put, List.setIfInBounds_toArray, ls0, ls1])
          obtain rfl := Option.some.inj H
          refine bodyPost_ret (results_tmp rfl _ _ _) rfl ?_
          exact ⟨_, none, 0, rfl, HS1586, (Own.nil _ _ _ _ _), (Nat.le_refl 0)⟩
  | some o1563 =>
    (try simp only [onOpt] at H)
    obtain ⟨g1601, cs1602, rfl, HX1603, HK1604⟩ := ptr_some HP0
    obtain ⟨Aq1605_0, cpq1605_0, vq1605_1, rfl, HCq1605_0, HRq1605_0, HRq1605_1⟩ := k91_openF HK1604
    replace HRq1605_0 : Ft C1561_ [0] w1560 (fun w_ => Kd.string.C w_ Aq1605_0 o1563.f0.length o1563.f0) := HRq1605_0
    replace HRq1605_1 : Ft C1561_ [0] w1560 (fun w_ => (Kd.mp Value.string (Value.int .i64)).K w_ o1563.f1 [vq1605_1]) := HRq1605_1
    (try simp only [Act.put, List.setIfInBounds_toArray, ls0, ls1])
    refine wp_looped (looped_ind (fun kq1675 a_ w1674 => ∃ (C1673 : Nat → Nat) (x1668 : Int) (A1663 : Option Addr) (n1664 cp1665 : Nat) (x1662 : List ByteArray) (g1672 : Nat → Value), a_ = ⟨#[.pointer (some ⟨g1601, 0, none⟩), .int .u64 a1, (g1672 2), (g1672 3), (g1672 4), .slice A1663 n1664 cp1665, (g1672 6), (g1672 7), .int .i64 t1557, .int .i64 x1668, (g1672 10), (g1672 11), (g1672 12), (g1672 13), (g1672 14), (g1672 15), (g1672 16), (g1672 17), (g1672 18), (g1672 19), (g1672 20), (g1672 21), (g1672 22), (g1672 23), (g1672 24), (g1672 25), (g1672 26), (g1672 27), (g1672 28), (g1672 29)], []⟩ ∧ Step c w C1673 w1674 [] ∧ kq1675 ≤ k ∧ (Own C1673 12 w1674 Kd.string 9 (.slice A1663 n1664 cp1665) x1662) ∧ (n1664 ≤ cp1665) ∧ (Ft C1673 [0] w1674 (fun w_ => Kd.string.C w_ Aq1605_0 o1563.f0.length o1563.f0)) ∧ (Ft C1673 [0] w1674 (fun w_ => (Kd.mp Value.string (Value.int .i64)).K w_ o1563.f1 [vq1605_1])) ∧ (Ft C1673 [0] w1674 (fun w_ => w_.heap[g1601]? = some (.cells (List.toArray ([.slice Aq1605_0 o1563.f0.length cpq1605_0, vq1605_1])) 91 (0, 0)))) ∧ row_Table_Names.l1 kq1675 a1 o1563 t1557 x1662 x1668 = some r) ?step k _ _ ?init)
    case init =>
      exact ⟨_, 0, none, 0, 0, ([] : List ByteArray), (fun q_ => List.getD [undef, undef, undef, undef, .slice none 0 0, undef, undef, .pointer (some ⟨g1601, 0, none⟩), undef, undef, undef, undef, undef, undef, undef, undef, undef, undef, undef, undef, undef, undef, undef, undef, undef, undef, undef, undef, undef, undef] q_ undef), rfl, HS, Nat.le_refl _, (Own.nil _ _ _ _ _), (Nat.le_refl 0), HRq1605_0, HRq1605_1, HX1603, H⟩
    case step =>
      intro kq1675 ih1678 a1679 w1674 hr1680
      obtain ⟨C1673, x1668, A1663, n1664, cp1665, x1662, g1672, rfl, HS1676, hk1677, HJ1667, HC1666, HJ1669, HJ1670, HJ1671, H⟩ := hr1680
      refine looped_round ?_
      obtain rfl : n1664 = x1662.length := HJ1667.at_.1
      cases kq1675 with
      | zero => exact absurd H (by simp [row_Table_Names.l1])
      | succ k1681 =>
        simp only [row_Table_Names.l1] at H
        refine wp_seq_k fun K1682 hK1682 => ?_
        refine wl_region ?_
        refine st (.bool (decide (x1668 < t1557))) rfl rfl (xr_bin (.int .i64 x1668) (.int .i64 t1557) (.bool (decide (x1668 < t1557))) rfl rfl rfl (B.lss_i64 x1668 t1557)) ?_
        simp only [ls0, ls1]
        refine wl_end ?_
        (try simp only [Act.put, List.setIfInBounds_toArray, ls0, ls1])
        refine hK1682 _ _ ?_
        (try clear hK1682 K1682)
        refine wp_seq_k fun K1683 hK1683 => ?_
        by_cases c1684 : x1668 < t1557
        · rw [if_pos c1684] at H
          (try rw [(decide_eq_true c1684)])
          (try simp only [Bool.not_true, Bool.not_false])
          refine wp_cond_true rfl ?_
          refine wp_skip ?_
          (try simp only [Act.put, List.setIfInBounds_toArray, ls0, ls1])
          refine hK1683 _ _ ?_
          (try clear hK1683 K1683)
          refine wp_seq_k fun K1685 hK1685 => ?_
          refine wp_block ?_
          refine wp_seq_k fun K1686 hK1686 => ?_
          refine wl_region ?_
          refine st (.int .i64 x1668) rfl rfl (xr_move (.int .i64 x1668) rfl rfl) ?_
          simp only [ls0, ls1]
          refine st (.int .i64 x1668) rfl rfl (xr_assign (.int .i64 x1668) rfl rfl) ?_
          simp only [ls0, ls1]
          refine wl_end ?_
          (try simp only [Act.put, List.setIfInBounds_toArray, ls0, ls1])
          refine hK1686 _ _ ?_
          (try clear hK1686 K1686)
          refine wp_seq_k fun K1687 hK1687 => ?_
          refine wl_region ?_
          refine st (.int .u64 a1) rfl rfl (xr_move (.int .u64 a1) rfl rfl) ?_
          simp only [ls0, ls1]
          refine st (.int .i64 x1668) rfl rfl (xr_move (.int .i64 x1668) rfl rfl) ?_
          simp only [ls0, ls1]
          refine st (.int .u64 (IntKind.u64.wrap (x1668))) rfl rfl (xr_conv (.int .i64 x1668) (.int .u64 (IntKind.u64.wrap (x1668))) rfl rfl (by first | rfl | (go_simp; done) | (go_simp; rfl) | (go_simp; exact i64_w _) | (go_simp; exact i32_w _))) ?_
          simp only [ls0, ls1]
          by_cases c1688 : 0 ≤ (IntKind.u64.wrap (x1668))
          · rw [if_pos c1688] at H
            refine st (.int .u64 (shr .u64 a1 (IntKind.u64.wrap (x1668)))) rfl rfl (xr_bin (.int .u64 a1) (.int .u64 (IntKind.u64.wrap (x1668))) (.int .u64 (shr .u64 a1 (IntKind.u64.wrap (x1668)))) rfl rfl rfl (B.shr_u64_u64 a1 (IntKind.u64.wrap (x1668)) (by assumption))) ?_
            simp only [ls0, ls1]
            refine st (.int .u64 (Go.bits .and .u64 (shr .u64 a1 (IntKind.u64.wrap (x1668))) 1)) rfl rfl (xr_bin (.int .u64 (shr .u64 a1 (IntKind.u64.wrap (x1668)))) (.int .u64 1) (.int .u64 (Go.bits .and .u64 (shr .u64 a1 (IntKind.u64.wrap (x1668))) 1)) rfl rfl rfl (B.and_u64 (shr .u64 a1 (IntKind.u64.wrap (x1668))) 1)) ?_
            simp only [ls0, ls1]
            refine st (.bool (decide ((Go.bits .and .u64 (shr .u64 a1 (IntKind.u64.wrap (x1668))) 1) = 1))) rfl rfl (xr_bin (.int .u64 (Go.bits .and .u64 (shr .u64 a1 (IntKind.u64.wrap (x1668))) 1)) (.int .u64 1) (.bool (decide ((Go.bits .and .u64 (shr .u64 a1 (IntKind.u64.wrap (x1668))) 1) = 1))) rfl rfl rfl (B.eql_u64 (Go.bits .and .u64 (shr .u64 a1 (IntKind.u64.wrap (x1668))) 1) 1)) ?_
            simp only [ls0, ls1]
            refine wl_end ?_
            (try simp only [Act.put, List.setIfInBounds_toArray, ls0, ls1])
            refine hK1687 _ _ ?_
            (try clear hK1687 K1687)
            by_cases c1689 : (Go.bits .and .u64 (shr .u64 a1 (IntKind.u64.wrap (x1668))) 1) = 1
            · rw [if_pos c1689] at H
              (try rw [(decide_eq_true c1689)])
              (try simp only [Bool.not_true, Bool.not_false])
              refine wp_cond_true rfl ?_
              refine wl_region ?_
              refine st (.slice A1663 x1662.length cp1665) rfl rfl (xr_move (.slice A1663 x1662.length cp1665) rfl rfl) ?_
              simp only [ls0, ls1]
              refine st (.pointer (some ⟨g1601, 0, none⟩)) rfl rfl (xr_move (.pointer (some ⟨g1601, 0, none⟩)) rfl rfl) ?_
              simp only [ls0, ls1]
              refine st (.pointer (some ⟨g1601, 0, none⟩)) rfl rfl (xr_nilCheck ⟨g1601, 0, none⟩ rfl rfl) ?_
              simp only [ls0, ls1]
              refine st (.pointer (some ⟨g1601, 0, none⟩)) rfl rfl (xr_fieldAddr (.pointer (some ⟨g1601, 0, none⟩)) (.pointer (some ⟨g1601, 0, none⟩)) rfl rfl (bx_field2 Try.underlying91 rfl rfl (by kernel_rfl))) ?_
              simp only [ls0, ls1]
              refine st (.slice Aq1605_0 o1563.f0.length cpq1605_0) rfl rfl (xr_load (.pointer (some ⟨g1601, 0, none⟩)) (.slice Aq1605_0 o1563.f0.length cpq1605_0) rfl rfl (load_cell Try.underlying37 rfl (bx_cell (l := ([.slice Aq1605_0 o1563.f0.length cpq1605_0, vq1605_1])) (Ft.now HJ1671) 0 rfl))) ?_
              simp only [ls0, ls1]
              refine st (.int .i64 x1668) rfl rfl (xr_move (.int .i64 x1668) rfl rfl) ?_
              simp only [ls0, ls1]
              by_cases c1690 : 0 ≤ x1668
              · rw [if_pos c1690] at H
                by_cases c1691 : x1668 < (o1563.f0.length : Int)
                · rw [if_pos c1691] at H
                  obtain ⟨ad1692, hA1693⟩ := c_addr (Ft.now HJ1669) (pos_of (j := x1668) (by first | assumption | decide) (by first | assumption | omega))
                  refine st (.pointer (some (ad1692.add ((x1668 : Int).toNat * 1)))) rfl rfl (xr_indexAddr (.slice Aq1605_0 o1563.f0.length cpq1605_0) (.int .i64 x1668) (.pointer (some (ad1692.add ((x1668 : Int).toNat * 1)))) rfl rfl rfl (index_at Try.underlying37 info9 hA1693 (by first | assumption | decide | omega) (by first | assumption | decide | omega))) ?_
                  simp only [ls0, ls1]
                  refine st (.string (rdOf ByteArray.empty o1563.f0 x1668)) rfl rfl (xr_load (.pointer (some (ad1692.add ((x1668 : Int).toNat * 1)))) (.string (rdOf ByteArray.empty o1563.f0 x1668)) rfl rfl (load_str Try.underlying9 rfl hA1693 (Ft.now HJ1669) (by first | assumption | decide | omega) (by first | assumption | decide | omega))) ?_
                  simp only [ls0, ls1]
                  refine ev_run (w1 := w1674.alloc (.cells #[.string (rdOf ByteArray.empty o1563.f0 x1668)] 9)) (.slice (some ⟨w1674.heap.size, 0, none⟩) 1 1) rfl rfl (by first | (go_simp; done) | (go_simp; rfl)) ?_
                  (try simp only [Act.put, List.setIfInBounds_toArray, ls0, ls1])
                  by_cases c1694 : x1662.length < 8796093022208
                  · rw [if_pos c1694] at H
                    obtain ⟨y1695, A1696, H⟩ := Option.bind_eq_some_iff.mp H
                    (try dsimp only at H)
                    refine Own.append Kd.string (C := C1673) (i := 12) rfl (.tmp 18) (.tmp 26) 37 9 (.string ⟨#[]⟩) 16 rfl Try.underlying37 info9 rfl (by decide) (by decide) (.slice A1663 x1662.length cp1665) x1662 (rdOf ByteArray.empty o1563.f0 x1668) [.string (rdOf ByteArray.empty o1563.f0 x1668)] rfl rfl (fk_str _ _ (rdOf ByteArray.empty o1563.f0 x1668)) HJ1667 (by decide) (by omega) (Option.some.inj A1696) ?_
                    intro A1697 cp1698 w1699 C1700 HO1701 HC1702 hs1703
                    replace HJ1671 := HJ1671.thru hs1703 rfl
                    replace HJ1669 := HJ1669.thru hs1703 rfl
                    replace HJ1670 := HJ1670.thru hs1703 rfl
                    replace HS1676 := HS1676.trans hs1703 hc rfl
                    (try simp only [Act.put, List.setIfInBounds_toArray, ls0, ls1])
                    refine st (.slice A1697 y1695.length cp1698) rfl rfl (xr_assign (.slice A1697 y1695.length cp1698) rfl rfl) ?_
                    simp only [ls0, ls1]
                    refine wl_end ?_
                    (try simp only [Act.put, List.setIfInBounds_toArray, ls0, ls1])
                    refine hK1685 _ _ ?_
                    (try clear hK1685 K1685)
                    refine wl_region ?_
                    refine st (.int .i64 (wrap64 (x1668 + 1))) rfl rfl (xr_bin (.int .i64 x1668) (.int .i64 1) (.int .i64 (wrap64 (x1668 + 1))) rfl rfl rfl (B.add_i64 x1668 1)) ?_
                    simp only [ls0, ls1]
                    refine st (.int .i64 (wrap64 (x1668 + 1))) rfl rfl (xr_move (.int .i64 (wrap64 (x1668 + 1))) rfl rfl) ?_
                    simp only [ls0, ls1]
                    refine wl_end ?_
                    (try simp only [Act.put, List.setIfInBounds_toArray, ls0, ls1])
                    exact ih1678 k1681 (by omega) _ _ ⟨_, wrap64 (x1668 + 1), A1697, y1695.length, cp1698, y1695, (fun q_ => List.getD [undef, undef, (g1672 2), (g1672 3), (g1672 4), undef, .int .i64 x1668, (g1672 7), undef, undef, .bool true, .int .i64 x1668, .int .u64 a1, .int .i64 x1668, .int .u64 (IntKind.u64.wrap (x1668)), .int .u64 (shr .u64 a1 (IntKind.u64.wrap (x1668))), .int .u64 (Go.bits .and .u64 (shr .u64 a1 (IntKind.u64.wrap (x1668))) 1), .bool true, .slice A1663 x1662.length cp1665, .pointer (some ⟨g1601, 0, none⟩), .pointer (some ⟨g1601, 0, none⟩), .pointer (some ⟨g1601, 0, none⟩), .slice Aq1605_0 o1563.f0.length cpq1605_0, .int .i64 x1668, .pointer (some (ad1692.add ((x1668 : Int).toNat * 1))), .string (rdOf ByteArray.empty o1563.f0 x1668), .slice (some ⟨w1674.heap.size, 0, none⟩) 1 1, .slice A1697 y1695.length cp1698, .int .i64 (wrap64 (x1668 + 1)), (g1672 29)] q_ undef), rfl, HS1676, (by omega), HO1701, HC1702, HJ1669, HJ1670, HJ1671, H⟩
                  · rw [if_neg c1694] at H
                    exact absurd H (by simp)
                · rw [if_neg c1691] at H
                  exact absurd H (by simp)
              · rw [if_neg c1690] at H
                exact absurd H (by simp)
            · rw [if_neg c1689] at H
              (try rw [(decide_eq_false c1689)])
              (try simp only [Bool.not_true, Bool.not_false])
              refine wp_cond_false rfl ?_
              refine wp_skip ?_
              (try simp only [Act.put, List.setIfInBounds_toArray, ls0, ls1])
              refine hK1685 _ _ ?_
              (try clear hK1685 K1685)
              refine wl_region ?_
              refine st (.int .i64 (wrap64 (x1668 + 1))) rfl rfl (xr_bin (.int .i64 x1668) (.int .i64 1) (.int .i64 (wrap64 (x1668 + 1))) rfl rfl rfl (B.add_i64 x1668 1)) ?_
              simp only [ls0, ls1]
              refine st (.int .i64 (wrap64 (x1668 + 1))) rfl rfl (xr_move (.int .i64 (wrap64 (x1668 + 1))) rfl rfl) ?_
              simp only [ls0, ls1]
              refine wl_end ?_
              (try simp only [Act.put, List.setIfInBounds_toArray, ls0, ls1])
              exact ih1678 k1681 (by omega) _ _ ⟨_, wrap64 (x1668 + 1), A1663, x1662.length, cp1665, x1662, (fun q_ => List.getD [undef, undef, (g1672 2), (g1672 3), (g1672 4), undef, .int .i64 x1668, (g1672 7), undef, undef, .bool true, .int .i64 x1668, .int .u64 a1, .int .i64 x1668, .int .u64 (IntKind.u64.wrap (x1668)), .int .u64 (shr .u64 a1 (IntKind.u64.wrap (x1668))), .int .u64 (Go.bits .and .u64 (shr .u64 a1 (IntKind.u64.wrap (x1668))) 1), .bool false, (g1672 18), (g1672 19), (g1672 20), (g1672 21), (g1672 22), (g1672 23), (g1672 24), (g1672 25), (g1672 26), (g1672 27), .int .i64 (wrap64 (x1668 + 1)), (g1672 29)] q_ undef), rfl, HS1676, (by omega), HJ1667, HC1666, HJ1669, HJ1670, HJ1671, H⟩
          · rw [if_neg c1688] at H
            exact absurd H (by simp)
        · rw [if_neg c1684] at H
          (try rw [(decide_eq_false c1684)])
          (try simp only [Bool.not_true, Bool.not_false])
          refine wp_cond_false rfl ?_
          refine wp_exit ?_
          (try simp only [Act.put, List.setIfInBounds_toArray, ls0, ls1])
          refine hK1555 _ _ ?_
          (try clear hK1555 K1555)
          refine wp_seq_k fun K1704 hK1704 => ?_
          refine wl_region ?_
          refine st (.slice A1663 x1662.length cp1665) rfl rfl (xr_move (.slice A1663 x1662.length cp1665) rfl rfl) ?_
          simp only [ls0, ls1]
          refine st (.slice A1663 x1662.length cp1665) rfl rfl (xr_assign (.slice A1663 x1662.length cp1665) rfl rfl) ?_
          simp only [ls0, ls1]
          refine wl_end ?_
          (try simp only [Act.put, List.setIfInBounds_toArray, ls0, ls1])
          refine hK1704 _ _ ?_
          (try clear hK1704 K1704)
          refine wp_ret ?_
          (try simp only [Exit.inBlock, Exit.then, Exit.noGoto])
          (try simp only [Act.put, List.setIfInBounds_toArray, ls0, ls1])
          replace HJ1667 := Own.recolor (b := 5) HJ1667 (by decide)
          replace HJ1671 := Ft.recol (a := 12) (b := 5) HJ1671 (.inl rfl)
          replace HJ1669 := Ft.recol (a := 12) (b := 5) HJ1669 (.inl rfl)
          replace HJ1670 := Ft.recol (a := 12) (b := 5) HJ1670 (.inl rfl)
          replace HS1676 := Step.recol (a := 12) (b := 5) HS1676 hc (by decide)
          obtain rfl := Option.some.inj H
          refine bodyPost_ret (results_tmp rfl _ _ _) rfl ?_
          exact ⟨_, A1663, cp1665, rfl, HS1676, HJ1667, HC1666⟩

end Go.Proofs.Ytnhcpdepjpfcfaa.PRow
