-- By cprint.py, a program of this work. Lean checks it.
import Derived.Test.YtpfepkkpbampkaaPOrdx0
import Derived.Test.YtpfepkkpbampkaaPOrdx1
namespace Go.Proofs.Ytpfepkkpbampkaa.POrd
open Go.RowKit Go.Proofs.YtpfepkkpbampkaaW.PrintWords Go.Proofs.YtpfepkkpbampkaaW.PrintLast Go.Proofs.YtpfepkkpbampkaaW.PrintMore
set_option linter.unusedVariables false
set_option linter.unusedSimpArgs false

/-! ### order_Order_add: function 23 -/
def order_Order_add.f (l0_0 : List ByteArray) (m0_1 : List (ByteArray × Int)) (a0_2 : List Int) (a0_3 : List Int) (a1 : ByteArray) : Option (Int × Bool × List ByteArray × (List (ByteArray × Int)) × (List Int)) := if mhas m0_1 a1 = true then (some (mget 0 m0_1 a1, true, l0_0, m0_1, a0_2)) else (if (l0_0.length : Int) = 64 then (some (0, false, l0_0, m0_1, a0_2)) else ((some (mput m0_1 a1 (l0_0.length : Int) : List (ByteArray × Int))).bind fun y841 => (if l0_0.length < 8796093022208 then ((some (l0_0 ++ [a1] : List ByteArray)).bind fun y848 => (if 0 ≤ (IntKind.u64.wrap ((l0_0.length : Int))) then (if 0 ≤ (l0_0.length : Int) then (if (l0_0.length : Int) < 64 then ((some (List.set a0_2 (((l0_0.length : Int) : Int).toNat) (shl .u64 1 (IntKind.u64.wrap ((l0_0.length : Int)))) : List Int)).bind fun y864 => (some ((l0_0.length : Int), true, y848, y841, y864))) else (none)) else (none)) else (none))) else (none))))
set_option maxHeartbeats 2000000 in
set_option maxRecDepth 100000 in
theorem order_Order_add.calls (g0 : Nat) (A0_0 : Option Addr) (c0_0 : Nat) (l0_0 : List ByteArray) (b0_1 : Nat) (m0_1 : List (ByteArray × Int)) (a0_2 : List Int) (a0_3 : List Int) (a1 : ByteArray) (r1 : Int) (r2 : Bool) (r3 : List ByteArray) (r4 : List (ByteArray × Int)) (r5 : List Int) (c : Nat → Nat) (w : World) (hc : ∀ k, c k < 10) (HP0 : Bx c 1 w g0 47 ([.slice A0_0 l0_0.length c0_0, .map (some b0_1)] ++ (List.map (Value.int .u64) a0_2 ++ (List.map (Value.int .u64) a0_3)))) (HP0_0 : Own c 3 w Kd.string 9 (.slice A0_0 l0_0.length c0_0) l0_0) (HCP0_0 : l0_0.length ≤ c0_0) (HP0_1 : Mp Value.string (Value.int .i64) c 2 w b0_1 m0_1) (HL0_2 : a0_2.length = 64) (HL0_3 : a0_3.length = 64) (H : order_Order_add.f l0_0 m0_1 a0_2 a0_3 a1 = some (r1, r2, r3, r4, r5)) :
    Calls Try.prog 23 #[.pointer (some ⟨g0, 0, none⟩), .string a1] w fun e w' => ∃ (c' : Nat → Nat) (A_r3 : Option Addr) (c_r3 : Nat) (b_r4 : Nat), e = .returned (.tuple #[.int .i64 r1, .bool r2]) ∧ Step c w c' w' [1, 2, 3] ∧ Own c' 3 w' Kd.string 9 (.slice A_r3 r3.length c_r3) r3 ∧ r3.length ≤ c_r3 ∧ Mp Value.string (Value.int .i64) c' 2 w' b_r4 r4 ∧ r5.length = 64 ∧ Bx c' 1 w' g0 47 ([.slice A_r3 r3.length c_r3, .map (some b_r4)] ++ (List.map (Value.int .u64) r5 ++ (List.map (Value.int .u64) a0_3))) := by
  unfold order_Order_add.f at H
  have HS := Step.refl c w [1, 2, 3]
  go_enter Try.func23, Try.ntmps23
  refine wp_seq_k fun K829 hK829 => ?_
  refine wl_region ?_
  refine st (.int .i64 0) rfl rfl (xr_assign (.int .i64 0) rfl rfl) ?_
  simp only [ls0, ls1]
  refine st (.bool false) rfl rfl (xr_assign (.bool false) rfl rfl) ?_
  simp only [ls0, ls1]
  refine wl_end ?_
  (try simp only [Act.put, List.setIfInBounds_toArray, ls0, ls1])
  refine hK829 _ _ ?_
  (try clear hK829 K829)
  refine wp_seq_k fun K830 hK830 => ?_
  refine wp_seq_k fun K831 hK831 => ?_
  refine wl_region ?_
  refine st (.pointer (some ⟨g0, 0, none⟩)) rfl rfl (xr_move (.pointer (some ⟨g0, 0, none⟩)) rfl rfl) ?_
  simp only [ls0, ls1]
  refine st (.pointer (some ⟨g0, 0, none⟩)) rfl rfl (xr_nilCheck ⟨g0, 0, none⟩ rfl rfl) ?_
  simp only [ls0, ls1]
  refine st (.pointer (some ⟨g0, 1, none⟩)) rfl rfl (xr_fieldAddr (.pointer (some ⟨g0, 0, none⟩)) (.pointer (some ⟨g0, 1, none⟩)) rfl rfl (bx_field2 Try.underlying47 rfl rfl (by kernel_rfl))) ?_
  simp only [ls0, ls1]
  refine st (.map (some b0_1)) rfl rfl (xr_load (.pointer (some ⟨g0, 1, none⟩)) (.map (some b0_1)) rfl rfl (load_cell Try.underlying43 rfl (bx_cell (l := ([.slice A0_0 l0_0.length c0_0, .map (some b0_1)] ++ (List.map (Value.int .u64) a0_2 ++ (List.map (Value.int .u64) a0_3)))) (HP0).2 1 rfl))) ?_
  simp only [ls0, ls1]
  refine st (.string a1) rfl rfl (xr_move (.string a1) rfl rfl) ?_
  simp only [ls0, ls1]
  refine st (.tuple #[.int .i64 (mget 0 m0_1 a1), .bool (mhas m0_1 a1)]) rfl rfl (xr_lookup (.map (some b0_1)) (.string a1) (.tuple #[.int .i64 (mget 0 m0_1 a1), .bool (mhas m0_1 a1)]) rfl rfl rfl (look_map (z := 0) (keyK_str Try.underlying9) Try.underlying43 info3 (HP0_1).2 a1 true)) ?_
  simp only [ls0, ls1]
  refine st (.tuple #[.int .i64 (mget 0 m0_1 a1), .bool (mhas m0_1 a1)]) rfl rfl (xr_move (.tuple #[.int .i64 (mget 0 m0_1 a1), .bool (mhas m0_1 a1)]) rfl rfl) ?_
  simp only [ls0, ls1]
  refine st (.int .i64 (mget 0 m0_1 a1)) rfl rfl (xr_extract (.tuple #[.int .i64 (mget 0 m0_1 a1), .bool (mhas m0_1 a1)]) (.int .i64 (mget 0 m0_1 a1)) rfl rfl rfl) ?_
  simp only [ls0, ls1]
  refine st (.bool (mhas m0_1 a1)) rfl rfl (xr_extract (.tuple #[.int .i64 (mget 0 m0_1 a1), .bool (mhas m0_1 a1)]) (.bool (mhas m0_1 a1)) rfl rfl rfl) ?_
  simp only [ls0, ls1]
  refine st (.int .i64 (mget 0 m0_1 a1)) rfl rfl (xr_assign (.int .i64 (mget 0 m0_1 a1)) rfl rfl) ?_
  simp only [ls0, ls1]
  refine st (.bool (mhas m0_1 a1)) rfl rfl (xr_assign (.bool (mhas m0_1 a1)) rfl rfl) ?_
  simp only [ls0, ls1]
  refine wl_end ?_
  (try simp only [Act.put, List.setIfInBounds_toArray, ls0, ls1])
  refine hK831 _ _ ?_
  (try clear hK831 K831)
  refine wp_seq_k fun K832 hK832 => ?_
  refine wl_region ?_
  refine st (.bool (mhas m0_1 a1)) rfl rfl (xr_move (.bool (mhas m0_1 a1)) rfl rfl) ?_
  simp only [ls0, ls1]
  refine wl_end ?_
  (try simp only [Act.put, List.setIfInBounds_toArray, ls0, ls1])
  refine hK832 _ _ ?_
  (try clear hK832 K832)
  by_cases c833 : mhas m0_1 a1 = true
  · rw [if_pos c833] at H
    (try rw [c833])
    (try simp only [Bool.not_true, Bool.not_false])
    refine wp_cond_true rfl ?_
    refine wp_seq_k fun K834 hK834 => ?_
    refine wl_region ?_
    refine st (.int .i64 (mget 0 m0_1 a1)) rfl rfl (xr_move (.int .i64 (mget 0 m0_1 a1)) rfl rfl) ?_
    simp only [ls0, ls1]
    refine st (.int .i64 (mget 0 m0_1 a1)) rfl rfl (xr_assign (.int .i64 (mget 0 m0_1 a1)) rfl rfl) ?_
    simp only [ls0, ls1]
    refine st (.bool true) rfl rfl (xr_assign (.bool true) rfl rfl) ?_
    simp only [ls0, ls1]
    refine wl_end ?_
    (try simp only [Act.put, List.setIfInBounds_toArray, ls0, ls1])
    refine hK834 _ _ ?_
    (try clear hK834 K834)
    refine wp_ret ?_
    (try simp only [Exit.inBlock, Exit.then, Exit.noGoto])
    (try simp only [Act.put, List.setIfInBounds_toArray, ls0, ls1])
    simp only [Option.some.injEq, Prod.mk.injEq] at H
    obtain ⟨rfl, rfl, rfl, rfl, rfl⟩ := H
    refine bodyPost_ret (results_tmp2 rfl _ _ _) rfl ?_
    exact ⟨_, A0_0, c0_0, b0_1, rfl, HS, HP0_0, HCP0_0, HP0_1, HL0_2, HP0⟩
  · rw [if_neg c833] at H
    (try rw [(Bool.eq_false_iff.mpr c833)])
    (try simp only [Bool.not_true, Bool.not_false])
    refine wp_cond_false rfl ?_
    refine wp_skip ?_
    (try simp only [Act.put, List.setIfInBounds_toArray, ls0, ls1])
    refine hK830 _ _ ?_
    (try clear hK830 K830)
    refine wp_seq_k fun K835 hK835 => ?_
    refine wp_seq_k fun K836 hK836 => ?_
    refine wl_region ?_
    refine st (.pointer (some ⟨g0, 0, none⟩)) rfl rfl (xr_move (.pointer (some ⟨g0, 0, none⟩)) rfl rfl) ?_
    simp only [ls0, ls1]
    refine st (.pointer (some ⟨g0, 0, none⟩)) rfl rfl (xr_nilCheck ⟨g0, 0, none⟩ rfl rfl) ?_
    simp only [ls0, ls1]
    refine st (.pointer (some ⟨g0, 0, none⟩)) rfl rfl (xr_fieldAddr (.pointer (some ⟨g0, 0, none⟩)) (.pointer (some ⟨g0, 0, none⟩)) rfl rfl (bx_field2 Try.underlying47 rfl rfl (by kernel_rfl))) ?_
    simp only [ls0, ls1]
    refine st (.slice A0_0 l0_0.length c0_0) rfl rfl (xr_load (.pointer (some ⟨g0, 0, none⟩)) (.slice A0_0 l0_0.length c0_0) rfl rfl (load_cell Try.underlying44 rfl (bx_cell (l := ([.slice A0_0 l0_0.length c0_0, .map (some b0_1)] ++ (List.map (Value.int .u64) a0_2 ++ (List.map (Value.int .u64) a0_3)))) (HP0).2 0 rfl))) ?_
    simp only [ls0, ls1]
    refine st (.int .i64 (l0_0.length : Int)) rfl rfl (xr_builtin #[.slice A0_0 l0_0.length c0_0] (.int .i64 (l0_0.length : Int)) rfl (by simp only [List.map_toArray, List.map_cons, List.map_nil]; first | done | rfl) (by first | rfl | (go_simp; done) | (go_simp; rfl) | (go_simp; exact i64_w _) | (go_simp; exact i32_w _))) ?_
    simp only [ls0, ls1]
    refine st (.bool (decide ((l0_0.length : Int) = 64))) rfl rfl (xr_bin (.int .i64 (l0_0.length : Int)) (.int .i64 64) (.bool (decide ((l0_0.length : Int) = 64))) rfl rfl rfl (B.eql_i64 (l0_0.length : Int) 64)) ?_
    simp only [ls0, ls1]
    refine wl_end ?_
    (try simp only [Act.put, List.setIfInBounds_toArray, ls0, ls1])
    refine hK836 _ _ ?_
    (try clear hK836 K836)
    by_cases c837 : (l0_0.length : Int) = 64
    · rw [if_pos c837] at H
      (try rw [(decide_eq_true c837)])
      (try simp only [Bool.not_true, Bool.not_false])
      refine wp_cond_true rfl ?_
      refine wp_seq_k fun K838 hK838 => ?_
      refine wl_region ?_
      refine st (.int .i64 0) rfl rfl (xr_assign (.int .i64 0) rfl rfl) ?_
      simp only [ls0, ls1]
      refine st (.bool false) rfl rfl (xr_assign (.bool false) rfl rfl) ?_
      simp only [ls0, ls1]
      refine wl_end ?_
      (try simp only [Act.put, List.setIfInBounds_toArray, ls0, ls1])
      refine hK838 _ _ ?_
      (try clear hK838 K838)
      refine wp_ret ?_
      (try simp only [Exit.inBlock, Exit.then, Exit.noGoto])
      (try simp only [Act.put, List.setIfInBounds_toArray, ls0, ls1])
      simp only [Option.some.injEq, Prod.mk.injEq] at H
      obtain ⟨rfl, rfl, rfl, rfl, rfl⟩ := H
      refine bodyPost_ret (results_tmp2 rfl _ _ _) rfl ?_
      exact ⟨_, A0_0, c0_0, b0_1, rfl, HS, HP0_0, HCP0_0, HP0_1, HL0_2, HP0⟩
    · rw [if_neg c837] at H
      (try rw [(decide_eq_false c837)])
      (try simp only [Bool.not_true, Bool.not_false])
      refine wp_cond_false rfl ?_
      refine wp_skip ?_
      (try simp only [Act.put, List.setIfInBounds_toArray, ls0, ls1])
      refine hK835 _ _ ?_
      (try clear hK835 K835)
      refine wp_seq_k fun K839 hK839 => ?_
      refine wl_region ?_
      refine st (.pointer (some ⟨g0, 0, none⟩)) rfl rfl (xr_move (.pointer (some ⟨g0, 0, none⟩)) rfl rfl) ?_
      simp only [ls0, ls1]
      refine st (.pointer (some ⟨g0, 0, none⟩)) rfl rfl (xr_nilCheck ⟨g0, 0, none⟩ rfl rfl) ?_
      simp only [ls0, ls1]
      refine st (.pointer (some ⟨g0, 0, none⟩)) rfl rfl (xr_fieldAddr (.pointer (some ⟨g0, 0, none⟩)) (.pointer (some ⟨g0, 0, none⟩)) rfl rfl (bx_field2 Try.underlying47 rfl rfl (by kernel_rfl))) ?_
      simp only [ls0, ls1]
      refine st (.slice A0_0 l0_0.length c0_0) rfl rfl (xr_load (.pointer (some ⟨g0, 0, none⟩)) (.slice A0_0 l0_0.length c0_0) rfl rfl (load_cell Try.underlying44 rfl (bx_cell (l := ([.slice A0_0 l0_0.length c0_0, .map (some b0_1)] ++ (List.map (Value.int .u64) a0_2 ++ (List.map (Value.int .u64) a0_3)))) (HP0).2 0 rfl))) ?_
      simp only [ls0, ls1]
      refine st (.int .i64 (l0_0.length : Int)) rfl rfl (xr_builtin #[.slice A0_0 l0_0.length c0_0] (.int .i64 (l0_0.length : Int)) rfl (by simp only [List.map_toArray, List.map_cons, List.map_nil]; first | done | rfl) (by first | rfl | (go_simp; done) | (go_simp; rfl) | (go_simp; exact i64_w _) | (go_simp; exact i32_w _))) ?_
      simp only [ls0, ls1]
      refine st (.int .i64 (l0_0.length : Int)) rfl rfl (xr_assign (.int .i64 (l0_0.length : Int)) rfl rfl) ?_
      simp only [ls0, ls1]
      refine wl_end ?_
      (try simp only [Act.put, List.setIfInBounds_toArray, ls0, ls1])
      refine hK839 _ _ ?_
      (try clear hK839 K839)
      refine wp_seq_k fun K840 hK840 => ?_
      refine wl_region ?_
      refine st (.pointer (some ⟨g0, 0, none⟩)) rfl rfl (xr_move (.pointer (some ⟨g0, 0, none⟩)) rfl rfl) ?_
      simp only [ls0, ls1]
      refine st (.pointer (some ⟨g0, 0, none⟩)) rfl rfl (xr_nilCheck ⟨g0, 0, none⟩ rfl rfl) ?_
      simp only [ls0, ls1]
      refine st (.pointer (some ⟨g0, 1, none⟩)) rfl rfl (xr_fieldAddr (.pointer (some ⟨g0, 0, none⟩)) (.pointer (some ⟨g0, 1, none⟩)) rfl rfl (bx_field2 Try.underlying47 rfl rfl (by kernel_rfl))) ?_
      simp only [ls0, ls1]
      refine st (.map (some b0_1)) rfl rfl (xr_load (.pointer (some ⟨g0, 1, none⟩)) (.map (some b0_1)) rfl rfl (load_cell Try.underlying43 rfl (bx_cell (l := ([.slice A0_0 l0_0.length c0_0, .map (some b0_1)] ++ (List.map (Value.int .u64) a0_2 ++ (List.map (Value.int .u64) a0_3)))) (HP0).2 1 rfl))) ?_
      simp only [ls0, ls1]
      refine st (.string a1) rfl rfl (xr_move (.string a1) rfl rfl) ?_
      simp only [ls0, ls1]
      refine st (.int .i64 (l0_0.length : Int)) rfl rfl (xr_move (.int .i64 (l0_0.length : Int)) rfl rfl) ?_
      simp only [ls0, ls1]
      obtain ⟨y841, A842, H⟩ := Option.bind_eq_some_iff.mp H
      (try dsimp only at H)
      refine mp_store (C := c) (lm := m0_1) a1 (l0_0.length : Int) (keyK_str Try.underlying9) Try.underlying43 rfl rfl rfl rfl rfl rfl HP0_1 (Option.some.inj A842) ?_
      intro w843 HM844 hs845
      replace HP0 := HP0.thru hs845 rfl
      replace HP0_0 := HP0_0.thru hs845 rfl
      replace HS := HS.trans hs845 hc rfl
      (try simp only [Act.put, List.setIfInBounds_toArray, ls0, ls1])
      refine wl_end ?_
      (try simp only [Act.put, List.setIfInBounds_toArray, ls0, ls1])
      refine hK840 _ _ ?_
      (try clear hK840 K840)
      refine wp_seq_k fun K846 hK846 => ?_
      refine wl_region ?_
      refine st (.pointer (some ⟨g0, 0, none⟩)) rfl rfl (xr_move (.pointer (some ⟨g0, 0, none⟩)) rfl rfl) ?_
      simp only [ls0, ls1]
      refine st (.pointer (some ⟨g0, 0, none⟩)) rfl rfl (xr_move (.pointer (some ⟨g0, 0, none⟩)) rfl rfl) ?_
      simp only [ls0, ls1]
      refine st (.pointer (some ⟨g0, 0, none⟩)) rfl rfl (xr_nilCheck ⟨g0, 0, none⟩ rfl rfl) ?_
      simp only [ls0, ls1]
      refine st (.pointer (some ⟨g0, 0, none⟩)) rfl rfl (xr_fieldAddr (.pointer (some ⟨g0, 0, none⟩)) (.pointer (some ⟨g0, 0, none⟩)) rfl rfl (bx_field2 Try.underlying47 rfl rfl (by kernel_rfl))) ?_
      simp only [ls0, ls1]
      refine st (.slice A0_0 l0_0.length c0_0) rfl rfl (xr_load (.pointer (some ⟨g0, 0, none⟩)) (.slice A0_0 l0_0.length c0_0) rfl rfl (load_cell Try.underlying44 rfl (bx_cell (l := ([.slice A0_0 l0_0.length c0_0, .map (some b0_1)] ++ (List.map (Value.int .u64) a0_2 ++ (List.map (Value.int .u64) a0_3)))) (HP0).2 0 rfl))) ?_
      simp only [ls0, ls1]
      refine st (.string a1) rfl rfl (xr_move (.string a1) rfl rfl) ?_
      simp only [ls0, ls1]
      refine ev_run (w1 := w843.alloc (.cells #[.string a1] 9)) (.slice (some ⟨w843.heap.size, 0, none⟩) 1 1) rfl rfl (by first | (go_simp; done) | (go_simp; rfl)) ?_
      (try simp only [Act.put, List.setIfInBounds_toArray, ls0, ls1])
      by_cases c847 : l0_0.length < 8796093022208
      · rw [if_pos c847] at H
        obtain ⟨y848, A849, H⟩ := Option.bind_eq_some_iff.mp H
        (try dsimp only at H)
        refine Own.append Kd.string (C := c) (i := 3) rfl (.tmp 41) (.tmp 43) 44 9 (.string ⟨#[]⟩) 16 rfl Try.underlying44 info9 rfl (by decide) (by decide) (.slice A0_0 l0_0.length c0_0) l0_0 a1 [.string a1] rfl rfl (fk_str _ _ a1) HP0_0 (by decide) (by omega) (Option.some.inj A849) ?_
        intro A850 cp851 w852 C853 HO854 HC855 hs856
        replace HP0 := HP0.thru hs856 rfl
        replace HM844 := HM844.thru hs856 rfl
        replace HS := HS.trans hs856 hc rfl
        (try simp only [Act.put, List.setIfInBounds_toArray, ls0, ls1])
        refine st (.pointer (some ⟨g0, 0, none⟩)) rfl rfl (xr_nilCheck ⟨g0, 0, none⟩ rfl rfl) ?_
        simp only [ls0, ls1]
        refine st (.pointer (some ⟨g0, 0, none⟩)) rfl rfl (xr_fieldAddr (.pointer (some ⟨g0, 0, none⟩)) (.pointer (some ⟨g0, 0, none⟩)) rfl rfl (bx_field2 Try.underlying47 rfl rfl (by kernel_rfl))) ?_
        simp only [ls0, ls1]
        refine bx_store (C := C853) (z := 1) (g := g0) (j := 0) (tb := 47) (u := .slice A850 y848.length cp851) (seg := [.slice A850 y848.length cp851]) (xs := [.slice A0_0 l0_0.length c0_0, .map (some b0_1)] ++ (List.map (Value.int .u64) a0_2 ++ (List.map (Value.int .u64) a0_3))) rfl rfl rfl rfl rfl rfl (by first | kernel_rfl | rfl) (by simp [Value.oneCell']) HP0 (by simp [HL0_2, HL0_3]) rfl ?_
        intro w857 HX858 hs859
        replace HX858 : Bx C853 1 w857 g0 47 ([.slice A850 y848.length cp851, .map (some b0_1)] ++ (List.map (Value.int .u64) a0_2 ++ (List.map (Value.int .u64) a0_3))) := HX858
        replace HO854 := HO854.thru hs859 rfl
        replace HM844 := HM844.thru hs859 rfl
        replace HS := HS.trans hs859 hc rfl
        (try simp only [Act.put, List.setIfInBounds_toArray, ls0, ls1])
        refine wl_end ?_
        (try simp only [Act.put, List.setIfInBounds_toArray, ls0, ls1])
        refine hK846 _ _ ?_
        (try clear hK846 K846)
        refine wp_seq_k fun K860 hK860 => ?_
        refine wl_region ?_
        refine st (.pointer (some ⟨g0, 0, none⟩)) rfl rfl (xr_move (.pointer (some ⟨g0, 0, none⟩)) rfl rfl) ?_
        simp only [ls0, ls1]
        refine st (.int .i64 (l0_0.length : Int)) rfl rfl (xr_move (.int .i64 (l0_0.length : Int)) rfl rfl) ?_
        simp only [ls0, ls1]
        refine st (.int .i64 (l0_0.length : Int)) rfl rfl (xr_move (.int .i64 (l0_0.length : Int)) rfl rfl) ?_
        simp only [ls0, ls1]
        refine st (.int .u64 (IntKind.u64.wrap ((l0_0.length : Int)))) rfl rfl (xr_conv (.int .i64 (l0_0.length : Int)) (.int .u64 (IntKind.u64.wrap ((l0_0.length : Int)))) rfl rfl (by first | rfl | (go_simp; done) | (go_simp; rfl) | (go_simp; exact i64_w _) | (go_simp; exact i32_w _))) ?_
        simp only [ls0, ls1]
        by_cases c861 : 0 ≤ (IntKind.u64.wrap ((l0_0.length : Int)))
        · rw [if_pos c861] at H
          refine st (.int .u64 (shl .u64 1 (IntKind.u64.wrap ((l0_0.length : Int))))) rfl rfl (xr_bin (.int .u64 1) (.int .u64 (IntKind.u64.wrap ((l0_0.length : Int)))) (.int .u64 (shl .u64 1 (IntKind.u64.wrap ((l0_0.length : Int))))) rfl rfl rfl (B.shl_u64_u64 1 (IntKind.u64.wrap ((l0_0.length : Int))) (by assumption))) ?_
          simp only [ls0, ls1]
          refine st (.pointer (some ⟨g0, 0, none⟩)) rfl rfl (xr_nilCheck ⟨g0, 0, none⟩ rfl rfl) ?_
          simp only [ls0, ls1]
          refine st (.pointer (some ⟨g0, 2, none⟩)) rfl rfl (xr_fieldAddr (.pointer (some ⟨g0, 0, none⟩)) (.pointer (some ⟨g0, 2, none⟩)) rfl rfl (bx_field2 Try.underlying47 rfl rfl (by kernel_rfl))) ?_
          simp only [ls0, ls1]
          by_cases c862 : 0 ≤ (l0_0.length : Int)
          · rw [if_pos c862] at H
            by_cases c863 : (l0_0.length : Int) < 64
            · rw [if_pos c863] at H
              refine st (.pointer (some ⟨g0, 2 + (((l0_0.length : Int) : Int).toNat), none⟩)) rfl rfl (xr_indexAddr (.pointer (some ⟨g0, 2, none⟩)) (.int .i64 (l0_0.length : Int)) (.pointer (some ⟨g0, 2 + (((l0_0.length : Int) : Int).toNat), none⟩)) rfl rfl rfl (arr_index (sz := 1) Try.underlying45 (by kernel_rfl) (by first | assumption | decide | omega) (by first | assumption | decide | omega) (by omega))) ?_
              simp only [ls0, ls1]
              obtain ⟨y864, A865, H⟩ := Option.bind_eq_some_iff.mp H
              (try dsimp only at H)
              refine arr_store (C := C853) (z := 1) (g := g0) (tb := 47) (of := 2) (N := 64) (pre := [.slice A850 y848.length cp851, .map (some b0_1)]) (post := List.map (Value.int .u64) a0_3) (enc := (Value.int .u64)) (l0 := a0_2) (i := ((l0_0.length : Int) : Int).toNat) (shl .u64 1 (IntKind.u64.wrap ((l0_0.length : Int)))) rfl rfl rfl rfl rfl rfl (by kernel_rfl) rfl HX858 (by first | (simp only [List.append_assoc, List.cons_append, List.nil_append, List.append_nil]; done) | rfl) (by simp []) HL0_2 (by omega) (by omega) (Option.some.inj A865) (xs' := [.slice A850 y848.length cp851, .map (some b0_1)] ++ (List.map (Value.int .u64) y864 ++ (List.map (Value.int .u64) a0_3))) (by first | (simp only [List.append_assoc, List.cons_append, List.nil_append, List.append_nil]; done) | rfl) ?_
              intro w866 HX867 HL869 hs868
              replace HO854 := HO854.thru hs868 rfl
              replace HM844 := HM844.thru hs868 rfl
              replace HS := HS.trans hs868 hc rfl
              (try simp only [Act.put, List.setIfInBounds_toArray, ls0, ls1])
              refine wl_end ?_
              (try simp only [Act.put, List.setIfInBounds_toArray, ls0, ls1])
              refine hK860 _ _ ?_
              (try clear hK860 K860)
              refine wp_seq_k fun K870 hK870 => ?_
              refine wl_region ?_
              refine st (.int .i64 (l0_0.length : Int)) rfl rfl (xr_move (.int .i64 (l0_0.length : Int)) rfl rfl) ?_
              simp only [ls0, ls1]
              refine st (.int .i64 (l0_0.length : Int)) rfl rfl (xr_assign (.int .i64 (l0_0.length : Int)) rfl rfl) ?_
              simp only [ls0, ls1]
              refine st (.bool true) rfl rfl (xr_assign (.bool true) rfl rfl) ?_
              simp only [ls0, ls1]
              refine wl_end ?_
              (try simp only [Act.put, List.setIfInBounds_toArray, ls0, ls1])
              refine hK870 _ _ ?_
              (try clear hK870 K870)
              refine wp_ret ?_
              (try simp only [Exit.inBlock, Exit.then, Exit.noGoto])
              (try simp only [Act.put, List.setIfInBounds_toArray, ls0, ls1])
              simp only [Option.some.injEq, Prod.mk.injEq] at H
              obtain ⟨rfl, rfl, rfl, rfl, rfl⟩ := H
              refine bodyPost_ret (results_tmp2 rfl _ _ _) rfl ?_
              exact ⟨_, A850, cp851, b0_1, rfl, HS, HO854, HC855, HM844, HL869, HX867⟩
            · rw [if_neg c863] at H
              exact absurd H (by simp)
          · rw [if_neg c862] at H
            exact absurd H (by simp)
        · rw [if_neg c861] at H
          exact absurd H (by simp)
      · rw [if_neg c847] at H
        exact absurd H (by simp)

/-! ### order_Order_add_nil: function 23 -/
def order_Order_add_nil.f (a1 : ByteArray) : Option (Int × Bool) := none
set_option maxHeartbeats 2000000 in
set_option maxRecDepth 100000 in
theorem order_Order_add_nil.calls (a1 : ByteArray) (r1 : Int) (r2 : Bool) (c : Nat → Nat) (w : World) (hc : ∀ k, c k < 10)  (H : order_Order_add_nil.f a1 = some (r1, r2)) :
    Calls Try.prog 23 #[.pointer none, .string a1] w fun e w' => ∃ (c' : Nat → Nat) , e = .returned (.tuple #[.int .i64 r1, .bool r2]) ∧ Step c w c' w' [] := by
  unfold order_Order_add_nil.f at H
  have HS := Step.refl c w []
  go_enter Try.func23, Try.ntmps23
  refine wp_seq_k fun K953 hK953 => ?_
  refine wl_region ?_
  refine st (.int .i64 0) rfl rfl (xr_assign (.int .i64 0) rfl rfl) ?_
  simp only [ls0, ls1]
  refine st (.bool false) rfl rfl (xr_assign (.bool false) rfl rfl) ?_
  simp only [ls0, ls1]
  refine wl_end ?_
  (try simp only [Act.put, List.setIfInBounds_toArray, ls0, ls1])
  refine hK953 _ _ ?_
  (try clear hK953 K953)
  refine wp_seq_k fun K954 hK954 => ?_
  refine wp_seq_k fun K955 hK955 => ?_
  refine wl_region ?_
  refine st (.pointer none) rfl rfl (xr_move (.pointer none) rfl rfl) ?_
  simp only [ls0, ls1]
  exact absurd H (by simp)

/-! ### order_Order_pair: function 18 -/
def order_Order_pair.j0 : Nat → (List Int) → (List Int) → ByteArray → ByteArray → (List ByteArray) → (List (ByteArray × Int)) → Bool → Option (Int × List ByteArray × (List (ByteArray × Int)) × (List Int))
  | 0, _, _, _, _, _, _, _ => none
  | k + 1, a0_2, a0_3, a1_0, a1_1, l0_0, m0_1, x1537 => if x1537 = true then (some (1, l0_0, m0_1, a0_2)) else ((order_Order_add.f l0_0 m0_1 a0_2 a0_3 a1_0).bind fun bt1549 => (if bt1549.2.1 = true then (if a1_1 = (⟨#[]⟩ : ByteArray) then (some (0, bt1549.2.2.1, bt1549.2.2.2.1, bt1549.2.2.2.2)) else ((order_Order_add.f bt1549.2.2.1 bt1549.2.2.2.1 bt1549.2.2.2.2 a0_3 a1_1).bind fun bt1575 => (if bt1575.2.1 = true then (if 0 ≤ bt1549.1 then (if bt1549.1 < 64 then (if 0 ≤ (IntKind.u64.wrap (bt1575.1)) then ((some (List.set bt1575.2.2.2.2 ((bt1549.1 : Int).toNat) (Go.bits .or .u64 (List.getD bt1575.2.2.2.2 ((bt1549.1 : Int).toNat) 0) (shl .u64 1 (IntKind.u64.wrap (bt1575.1)))) : List Int)).bind fun y1601 => (some (0, bt1575.2.2.1, bt1575.2.2.2.1, y1601))) else (none)) else (none)) else (none)) else (some (8, bt1575.2.2.1, bt1575.2.2.2.1, bt1575.2.2.2.2))))) else (some (8, bt1549.2.2.1, bt1549.2.2.2.1, bt1549.2.2.2.2))))
def order_Order_pair.f (k : Nat) (l0_0 : List ByteArray) (m0_1 : List (ByteArray × Int)) (a0_2 : List Int) (a0_3 : List Int) (a1_0 : ByteArray) (a1_1 : ByteArray) (a1_2 : Int) : Option (Int × List ByteArray × (List (ByteArray × Int)) × (List Int)) := (lex_Ident.f k a1_0).bind fun t1610 => (if t1610 = true then (if a1_1 = (⟨#[]⟩ : ByteArray) then (order_Order_pair.j0 k a0_2 a0_3 a1_0 a1_1 l0_0 m0_1 false) else ((lex_Ident.f k a1_1).bind fun t1618 => (order_Order_pair.j0 k a0_2 a0_3 a1_0 a1_1 l0_0 m0_1 (!t1618)))) else (order_Order_pair.j0 k a0_2 a0_3 a1_0 a1_1 l0_0 m0_1 true))

set_option maxHeartbeats 2000000 in
set_option maxRecDepth 100000 in
theorem order_Order_pair.calls (k : Nat) (g0 : Nat) (A0_0 : Option Addr) (c0_0 : Nat) (l0_0 : List ByteArray) (b0_1 : Nat) (m0_1 : List (ByteArray × Int)) (a0_2 : List Int) (a0_3 : List Int) (a1_0 : ByteArray) (a1_1 : ByteArray) (a1_2 : Int) (r1 : Int) (r2 : List ByteArray) (r3 : List (ByteArray × Int)) (r4 : List Int) (c : Nat → Nat) (w : World) (hc : ∀ k, c k < 10) (HP0 : Bx c 1 w g0 47 ([.slice A0_0 l0_0.length c0_0, .map (some b0_1)] ++ (List.map (Value.int .u64) a0_2 ++ (List.map (Value.int .u64) a0_3)))) (HP0_0 : Own c 2 w Kd.string 9 (.slice A0_0 l0_0.length c0_0) l0_0) (HCP0_0 : l0_0.length ≤ c0_0) (HP0_1 : Mp Value.string (Value.int .i64) c 3 w b0_1 m0_1) (HL0_2 : a0_2.length = 64) (HL0_3 : a0_3.length = 64) (H : order_Order_pair.f k l0_0 m0_1 a0_2 a0_3 a1_0 a1_1 a1_2 = some (r1, r2, r3, r4)) :
    Calls Try.prog 18 #[.pointer (some ⟨g0, 0, none⟩), .agg #[.string a1_0, .string a1_1, .int .i64 a1_2]] w fun e w' => ∃ (c' : Nat → Nat) (A_r2 : Option Addr) (c_r2 : Nat) (b_r3 : Nat), e = .returned (.int .i64 r1) ∧ Step c w c' w' [1, 2, 3] ∧ Own c' 2 w' Kd.string 9 (.slice A_r2 r2.length c_r2) r2 ∧ r2.length ≤ c_r2 ∧ Mp Value.string (Value.int .i64) c' 3 w' b_r3 r3 ∧ r4.length = 64 ∧ Bx c' 1 w' g0 47 ([.slice A_r2 r2.length c_r2, .map (some b_r3)] ++ (List.map (Value.int .u64) r4 ++ (List.map (Value.int .u64) a0_3))) := by
  unfold order_Order_pair.f at H
  have HS := Step.refl c w [1, 2, 3]
  go_enter Try.func18, Try.ntmps18
  refine wp_seq_k fun K1467 hK1467 => ?_
  refine wl_region ?_
  refine bx_new (C := c) 25 ([.string a1_0, .string a1_1, .int .i64 a1_2]) 11 rfl rfl (by first | (go_simp; done) | (go_simp; rfl)) ?_
  intro g1468 w1469 C1470 HX1471 hs1472
  replace HP0 := HP0.thru hs1472 rfl
  replace HP0_0 := HP0_0.thru hs1472 rfl
  replace HP0_1 := HP0_1.thru hs1472 rfl
  replace HS := HS.trans hs1472 hc rfl
  (try simp only [Act.put, List.setIfInBounds_toArray, ls0, ls1])
  refine st (.int .i64 0) rfl rfl (xr_assign (.int .i64 0) rfl rfl) ?_
  simp only [ls0, ls1]
  refine wl_end ?_
  (try simp only [Act.put, List.setIfInBounds_toArray, ls0, ls1])
  refine hK1467 _ _ ?_
  (try clear hK1467 K1467)
  refine wp_seq_k fun K1473 hK1473 => ?_
  refine wp_seq_k fun K1518 hK1518 => ?_
  have hj1533 : ∀ (kq1543 : Nat) (C1534 : Nat → Nat) (w1535 : World) (x1537 : Bool) (g1542 : Nat → Value), Step c w C1534 w1535 [1, 2, 3] → kq1543 ≤ k → (Own C1534 2 w1535 Kd.string 9 (.slice A0_0 l0_0.length c0_0) l0_0) → (Mp Value.string (Value.int .i64) C1534 3 w1535 b0_1 m0_1) → (Bx C1534 1 w1535 g0 47 ([.slice A0_0 l0_0.length c0_0, .map (some b0_1)] ++ (List.map (Value.int .u64) a0_2 ++ (List.map (Value.int .u64) a0_3)))) → (Bx C1534 11 w1535 g1468 25 ([.string a1_0, .string a1_1, .int .i64 a1_2])) → order_Order_pair.j0 kq1543 a0_2 a0_3 a1_0 a1_1 l0_0 m0_1 x1537 = some (r1, r2, r3, r4) → K1518 ⟨#[.pointer (some ⟨g0, 0, none⟩), (g1542 1), (g1542 2), .pointer (some ⟨g1468, 0, none⟩), (g1542 4), (g1542 5), (g1542 6), (g1542 7), (g1542 8), (g1542 9), (g1542 10), (g1542 11), (g1542 12), (g1542 13), (g1542 14), (g1542 15), (g1542 16), (g1542 17), (g1542 18), (g1542 19), (g1542 20), (g1542 21), .bool x1537, (g1542 23), (g1542 24), (g1542 25), (g1542 26), (g1542 27), (g1542 28), (g1542 29), (g1542 30), (g1542 31), (g1542 32), (g1542 33), (g1542 34), (g1542 35), (g1542 36), (g1542 37), (g1542 38), (g1542 39), (g1542 40), (g1542 41), (g1542 42), (g1542 43), (g1542 44), (g1542 45), (g1542 46), (g1542 47), (g1542 48), (g1542 49), (g1542 50), (g1542 51), (g1542 52), (g1542 53), (g1542 54), (g1542 55), (g1542 56)], []⟩ w1535 := by
    intro kq1543 C1534 w1535 x1537 g1542 HS1536 hk1544 HJ1538 HJ1539 HJ1540 HJ1541 H
    cases kq1543 with
    | zero => exact absurd H (by simp [order_Order_pair.j0])
    | succ k1545 =>
      simp only [order_Order_pair.j0] at H
      refine hK1518 _ _ ?_
      (try clear hK1518)
      by_cases c1546 : x1537 = true
      · rw [if_pos c1546] at H
        (try rw [c1546])
        (try simp only [Bool.not_true, Bool.not_false])
        refine wp_cond_true rfl ?_
        refine wp_seq_k fun K1547 hK1547 => ?_
        refine wl_region ?_
        refine st (.int .i64 1) rfl rfl (xr_assign (.int .i64 1) rfl rfl) ?_
        simp only [ls0, ls1]
        refine wl_end ?_
        (try simp only [Act.put, List.setIfInBounds_toArray, ls0, ls1])
        refine hK1547 _ _ ?_
        (try clear hK1547 K1547)
        refine wp_ret ?_
        (try simp only [Exit.inBlock, Exit.then, Exit.noGoto])
        (try simp only [Act.put, List.setIfInBounds_toArray, ls0, ls1])
        simp only [Option.some.injEq, Prod.mk.injEq] at H
        obtain ⟨rfl, rfl, rfl, rfl⟩ := H
        refine bodyPost_ret (results_tmp rfl _ _ _) rfl ?_
        exact ⟨_, A0_0, c0_0, b0_1, rfl, HS1536, HJ1538, HCP0_0, HJ1539, HL0_2, HJ1540⟩
      · rw [if_neg c1546] at H
        (try rw [(Bool.eq_false_iff.mpr c1546)])
        (try simp only [Bool.not_true, Bool.not_false])
        refine wp_cond_false rfl ?_
        refine wp_skip ?_
        (try simp only [Act.put, List.setIfInBounds_toArray, ls0, ls1])
        refine hK1473 _ _ ?_
        (try clear hK1473 K1473)
        refine wp_seq_k fun K1548 hK1548 => ?_
        refine wl_region ?_
        refine st (.pointer (some ⟨g0, 0, none⟩)) rfl rfl (xr_move (.pointer (some ⟨g0, 0, none⟩)) rfl rfl) ?_
        simp only [ls0, ls1]
        refine st (.pointer (some ⟨g1468, 0, none⟩)) rfl rfl (xr_fieldAddr (.pointer (some ⟨g1468, 0, none⟩)) (.pointer (some ⟨g1468, 0, none⟩)) rfl rfl (bx_field2 Try.underlying25 rfl rfl (by kernel_rfl))) ?_
        simp only [ls0, ls1]
        refine st (.string a1_0) rfl rfl (xr_load (.pointer (some ⟨g1468, 0, none⟩)) (.string a1_0) rfl rfl (load_cell Try.underlying9 rfl (bx_cell (l := ([.string a1_0, .string a1_1, .int .i64 a1_2])) (HJ1541).2 0 rfl))) ?_
        simp only [ls0, ls1]
        obtain ⟨⟨t1549, t1550, t1551, t1552, t1553⟩, A1554, H⟩ := Option.bind_eq_some_iff.mp H
        (try dsimp only at H)
        refine st_call #[.pointer (some ⟨g0, 0, none⟩), .string a1_0] rfl rfl Try.func23 (by kernel_rfl) rfl rfl (by simp only [List.map_toArray, List.map_cons, List.map_nil]; first | done | rfl) ?_
        refine (order_Order_add.calls g0 A0_0 c0_0 l0_0 b0_1 m0_1 a0_2 a0_3 a1_0 t1549 t1550 t1551 t1552 t1553  (fun z_ => pal [(0, 0), (1, 1), (2, 3), (3, 2)] (C1534 z_)) w1535 (fun _ => pal_lt rfl _) (Bx.arg HJ1540 rfl) (Own.arg HJ1538 rfl rfl) HCP0_0 (Mp.arg HJ1539 rfl) HL0_2 HL0_3 A1554).mono ?_
        rintro _ w1556 ⟨C1557, A1559, cp1560, mb1563, rfl, hs1558, HO1561, HC1562, HM1564, HL1565, HX1566⟩
        refine ⟨_, rfl, ?_⟩
        replace HO1561 := Own.res (U := [(0, 0), (1, 1), (3, 2), (2, 3)]) (j := 2) HO1561 hs1558 (by rfl) (by decide) rfl rfl
        replace HM1564 := Mp.res (U := [(0, 0), (1, 1), (3, 2), (2, 3)]) (j := 3) HM1564 hs1558 (by rfl) (by decide) rfl
        replace HX1566 := Bx.res (U := [(0, 0), (1, 1), (3, 2), (2, 3)]) (j := 1) HX1566 hs1558 (by rfl) (by decide) rfl
        replace hs1558 := Step.lift (U := [(0, 0), (1, 1), (3, 2), (2, 3)]) hs1558 [1, 2, 3] rfl rfl
        generalize up C1534 C1557 w1535.heap.size [(0, 0), (1, 1), (3, 2), (2, 3)] = C1557_ at HO1561 HM1564 HX1566 hs1558
        replace HJ1541 := HJ1541.thru hs1558 rfl
        replace HS1536 := HS1536.trans hs1558 hc rfl
        (try simp only [Act.put, List.setIfInBounds_toArray, ls0, ls1])
        refine st (.tuple #[.int .i64 t1549, .bool t1550]) rfl rfl (xr_move (.tuple #[.int .i64 t1549, .bool t1550]) rfl rfl) ?_
        simp only [ls0, ls1]
        refine st (.int .i64 t1549) rfl rfl (xr_extract (.tuple #[.int .i64 t1549, .bool t1550]) (.int .i64 t1549) rfl rfl rfl) ?_
        simp only [ls0, ls1]
        refine st (.bool t1550) rfl rfl (xr_extract (.tuple #[.int .i64 t1549, .bool t1550]) (.bool t1550) rfl rfl rfl) ?_
        simp only [ls0, ls1]
        refine st (.int .i64 t1549) rfl rfl (xr_assign (.int .i64 t1549) rfl rfl) ?_
        simp only [ls0, ls1]
        refine st (.bool t1550) rfl rfl (xr_assign (.bool t1550) rfl rfl) ?_
        simp only [ls0, ls1]
        refine wl_end ?_
        (try simp only [Act.put, List.setIfInBounds_toArray, ls0, ls1])
        refine hK1548 _ _ ?_
        (try clear hK1548 K1548)
        refine wp_seq_k fun K1567 hK1567 => ?_
        refine wp_seq_k fun K1568 hK1568 => ?_
        refine wl_region ?_
        refine st (.bool t1550) rfl rfl (xr_move (.bool t1550) rfl rfl) ?_
        simp only [ls0, ls1]
        refine st (.bool (!t1550)) rfl rfl (xr_un (.bool t1550) (.bool (!t1550)) rfl rfl (by first | rfl | (go_simp; done) | (go_simp; rfl) | (go_simp; exact i64_w _) | (go_simp; exact i32_w _))) ?_
        simp only [ls0, ls1]
        refine wl_end ?_
        (try simp only [Act.put, List.setIfInBounds_toArray, ls0, ls1])
        refine hK1568 _ _ ?_
        (try clear hK1568 K1568)
        by_cases c1569 : t1550 = true
        · rw [if_pos c1569] at H
          (try rw [c1569])
          (try simp only [Bool.not_true, Bool.not_false])
          refine wp_cond_false rfl ?_
          refine wp_skip ?_
          (try simp only [Act.put, List.setIfInBounds_toArray, ls0, ls1])
          refine hK1567 _ _ ?_
          (try clear hK1567 K1567)
          refine wp_seq_k fun K1570 hK1570 => ?_
          refine wp_seq_k fun K1571 hK1571 => ?_
          refine wl_region ?_
          refine st (.pointer (some ⟨g1468, 1, none⟩)) rfl rfl (xr_fieldAddr (.pointer (some ⟨g1468, 0, none⟩)) (.pointer (some ⟨g1468, 1, none⟩)) rfl rfl (bx_field2 Try.underlying25 rfl rfl (by kernel_rfl))) ?_
          simp only [ls0, ls1]
          refine st (.string a1_1) rfl rfl (xr_load (.pointer (some ⟨g1468, 1, none⟩)) (.string a1_1) rfl rfl (load_cell Try.underlying9 rfl (bx_cell (l := ([.string a1_0, .string a1_1, .int .i64 a1_2])) (HJ1541).2 1 rfl))) ?_
          simp only [ls0, ls1]
          refine st (.bool (decide (a1_1 = (⟨#[]⟩ : ByteArray)))) rfl rfl (xr_bin (.string a1_1) (.string (⟨#[]⟩ : ByteArray)) (.bool (decide (a1_1 = (⟨#[]⟩ : ByteArray)))) rfl rfl rfl (B.eql_str a1_1 (⟨#[]⟩ : ByteArray))) ?_
          simp only [ls0, ls1]
          refine wl_end ?_
          (try simp only [Act.put, List.setIfInBounds_toArray, ls0, ls1])
          refine hK1571 _ _ ?_
          (try clear hK1571 K1571)
          by_cases c1572 : a1_1 = (⟨#[]⟩ : ByteArray)
          · rw [if_pos c1572] at H
            (try rw [(decide_eq_true c1572)])
            (try simp only [Bool.not_true, Bool.not_false])
            refine wp_cond_true rfl ?_
            refine wp_seq_k fun K1573 hK1573 => ?_
            refine wl_region ?_
            refine st (.int .i64 0) rfl rfl (xr_assign (.int .i64 0) rfl rfl) ?_
            simp only [ls0, ls1]
            refine wl_end ?_
            (try simp only [Act.put, List.setIfInBounds_toArray, ls0, ls1])
            refine hK1573 _ _ ?_
            (try clear hK1573 K1573)
            refine wp_ret ?_
            (try simp only [Exit.inBlock, Exit.then, Exit.noGoto])
            (try simp only [Act.put, List.setIfInBounds_toArray, ls0, ls1])
            simp only [Option.some.injEq, Prod.mk.injEq] at H
            obtain ⟨rfl, rfl, rfl, rfl⟩ := H
            refine bodyPost_ret (results_tmp rfl _ _ _) rfl ?_
            exact ⟨_, A1559, cp1560, mb1563, rfl, HS1536, HO1561, HC1562, HM1564, HL1565, HX1566⟩
          · rw [if_neg c1572] at H
            (try rw [(decide_eq_false c1572)])
            (try simp only [Bool.not_true, Bool.not_false])
            refine wp_cond_false rfl ?_
            refine wp_skip ?_
            (try simp only [Act.put, List.setIfInBounds_toArray, ls0, ls1])
            refine hK1570 _ _ ?_
            (try clear hK1570 K1570)
            refine wp_seq_k fun K1574 hK1574 => ?_
            refine wl_region ?_
            refine st (.pointer (some ⟨g0, 0, none⟩)) rfl rfl (xr_move (.pointer (some ⟨g0, 0, none⟩)) rfl rfl) ?_
            simp only [ls0, ls1]
            refine st (.pointer (some ⟨g1468, 1, none⟩)) rfl rfl (xr_fieldAddr (.pointer (some ⟨g1468, 0, none⟩)) (.pointer (some ⟨g1468, 1, none⟩)) rfl rfl (bx_field2 Try.underlying25 rfl rfl (by kernel_rfl))) ?_
            simp only [ls0, ls1]
            refine st (.string a1_1) rfl rfl (xr_load (.pointer (some ⟨g1468, 1, none⟩)) (.string a1_1) rfl rfl (load_cell Try.underlying9 rfl (bx_cell (l := ([.string a1_0, .string a1_1, .int .i64 a1_2])) (HJ1541).2 1 rfl))) ?_
            simp only [ls0, ls1]
            obtain ⟨⟨t1575, t1576, t1577, t1578, t1579⟩, A1580, H⟩ := Option.bind_eq_some_iff.mp H
            (try dsimp only at H)
            refine st_call #[.pointer (some ⟨g0, 0, none⟩), .string a1_1] rfl rfl Try.func23 (by kernel_rfl) rfl rfl (by simp only [List.map_toArray, List.map_cons, List.map_nil]; first | done | rfl) ?_
            refine (order_Order_add.calls g0 A1559 cp1560 t1551 mb1563 t1552 t1553 a0_3 a1_1 t1575 t1576 t1577 t1578 t1579  (fun z_ => pal [(0, 0), (1, 1), (2, 3), (3, 2)] (C1557_ z_)) w1556 (fun _ => pal_lt rfl _) (Bx.arg HX1566 rfl) (Own.arg HO1561 rfl rfl) HC1562 (Mp.arg HM1564 rfl) HL1565 HL0_3 A1580).mono ?_
            rintro _ w1582 ⟨C1583, A1585, cp1586, mb1589, rfl, hs1584, HO1587, HC1588, HM1590, HL1591, HX1592⟩
            refine ⟨_, rfl, ?_⟩
            replace HO1587 := Own.res (U := [(0, 0), (1, 1), (3, 2), (2, 3)]) (j := 2) HO1587 hs1584 (by rfl) (by decide) rfl rfl
            replace HM1590 := Mp.res (U := [(0, 0), (1, 1), (3, 2), (2, 3)]) (j := 3) HM1590 hs1584 (by rfl) (by decide) rfl
            replace HX1592 := Bx.res (U := [(0, 0), (1, 1), (3, 2), (2, 3)]) (j := 1) HX1592 hs1584 (by rfl) (by decide) rfl
            replace hs1584 := Step.lift (U := [(0, 0), (1, 1), (3, 2), (2, 3)]) hs1584 [1, 2, 3] rfl rfl
            generalize up C1557_ C1583 w1556.heap.size [(0, 0), (1, 1), (3, 2), (2, 3)] = C1583_ at HO1587 HM1590 HX1592 hs1584
            replace HJ1541 := HJ1541.thru hs1584 rfl
            replace HS1536 := HS1536.trans hs1584 hc rfl
            (try simp only [Act.put, List.setIfInBounds_toArray, ls0, ls1])
            refine st (.tuple #[.int .i64 t1575, .bool t1576]) rfl rfl (xr_move (.tuple #[.int .i64 t1575, .bool t1576]) rfl rfl) ?_
            simp only [ls0, ls1]
            refine st (.int .i64 t1575) rfl rfl (xr_extract (.tuple #[.int .i64 t1575, .bool t1576]) (.int .i64 t1575) rfl rfl rfl) ?_
            simp only [ls0, ls1]
            refine st (.bool t1576) rfl rfl (xr_extract (.tuple #[.int .i64 t1575, .bool t1576]) (.bool t1576) rfl rfl rfl) ?_
            simp only [ls0, ls1]
            refine st (.int .i64 t1575) rfl rfl (xr_assign (.int .i64 t1575) rfl rfl) ?_
            simp only [ls0, ls1]
            refine st (.bool t1576) rfl rfl (xr_assign (.bool t1576) rfl rfl) ?_
            simp only [ls0, ls1]
            refine wl_end ?_
            (try simp only [Act.put, List.setIfInBounds_toArray, ls0, ls1])
            refine hK1574 _ _ ?_
            (try clear hK1574 K1574)
            refine wp_seq_k fun K1593 hK1593 => ?_
            refine wp_seq_k fun K1594 hK1594 => ?_
            refine wl_region ?_
            refine st (.bool t1576) rfl rfl (xr_move (.bool t1576) rfl rfl) ?_
            simp only [ls0, ls1]
            refine st (.bool (!t1576)) rfl rfl (xr_un (.bool t1576) (.bool (!t1576)) rfl rfl (by first | rfl | (go_simp; done) | (go_simp; rfl) | (go_simp; exact i64_w _) | (go_simp; exact i32_w _))) ?_
            simp only [ls0, ls1]
            refine wl_end ?_
            (try simp only [Act.put, List.setIfInBounds_toArray, ls0, ls1])
            refine hK1594 _ _ ?_
            (try clear hK1594 K1594)
            by_cases c1595 : t1576 = true
            · rw [if_pos c1595] at H
              (try rw [c1595])
              (try simp only [Bool.not_true, Bool.not_false])
              refine wp_cond_false rfl ?_
              refine wp_skip ?_
              (try simp only [Act.put, List.setIfInBounds_toArray, ls0, ls1])
              refine hK1593 _ _ ?_
              (try clear hK1593 K1593)
              refine wp_seq_k fun K1596 hK1596 => ?_
              (try simp only [Act.put, List.setIfInBounds_toArray, ls0, ls1])
              refine al_start #[false, false, false, false, false, false, false, false, false, false, false, false, false, false] rfl rfl rfl (fun w_ => w_.heap[g0]? = some (.cells (List.toArray ([.slice A1585 t1577.length cp1586, .map (some mb1589)] ++ (List.map (Value.int .u64) t1579 ++ (List.map (Value.int .u64) a0_3)))) 47 (0, 0))) (HX1592.drew).2 [13] ?_
              replace HX1592 := HX1592.drew
              replace HO1587 := HO1587.drew
              replace HM1590 := HM1590.drew
              replace HJ1541 := HJ1541.drew
              replace HS1536 := Step.ofDrew HS1536
              generalize w1582.drew = w1597 at *
              refine al_pure 0 44 (.pointer (some ⟨g0, 0, none⟩)) #[true, false, false, false, false, false, false, false, false, false, false, false, false, false] rfl rfl (by kernel_rfl) (fun _ _ _ h_ => h_) rfl (fun w_ => xr_move (.pointer (some ⟨g0, 0, none⟩)) rfl rfl) ?_
              simp only [ls0, ls1]
              refine al_pure 1 45 (.int .i64 t1549) #[true, true, false, false, false, false, false, false, false, false, false, false, false, false] rfl rfl (by kernel_rfl) (fun _ _ _ h_ => h_) rfl (fun w_ => xr_move (.int .i64 t1549) rfl rfl) ?_
              simp only [ls0, ls1]
              refine al_pure 2 46 (.pointer (some ⟨g0, 0, none⟩)) #[true, true, true, false, false, false, false, false, false, false, false, false, false, false] rfl rfl (by kernel_rfl) (fun _ _ _ h_ => h_) rfl (fun w_ => xr_nilCheck ⟨g0, 0, none⟩ rfl rfl) ?_
              simp only [ls0, ls1]
              refine al_pure 3 47 (.pointer (some ⟨g0, 2, none⟩)) #[true, true, true, true, false, false, false, false, false, false, false, false, false, false] rfl rfl (by kernel_rfl) (fun _ _ _ h_ => h_) rfl (fun w_ => xr_fieldAddr (.pointer (some ⟨g0, 0, none⟩)) (.pointer (some ⟨g0, 2, none⟩)) rfl rfl (bx_field2 Try.underlying47 rfl rfl (by kernel_rfl))) ?_
              simp only [ls0, ls1]
              by_cases c1598 : 0 ≤ t1549
              · rw [if_pos c1598] at H
                by_cases c1599 : t1549 < 64
                · rw [if_pos c1599] at H
                  refine al_pure 4 48 (.pointer (some ⟨g0, 2 + ((t1549 : Int).toNat), none⟩)) #[true, true, true, true, true, false, false, false, false, false, false, false, false, false] rfl rfl (by kernel_rfl) (fun _ _ _ h_ => h_) rfl (fun w_ => xr_indexAddr (.pointer (some ⟨g0, 2, none⟩)) (.int .i64 t1549) (.pointer (some ⟨g0, 2 + ((t1549 : Int).toNat), none⟩)) rfl rfl rfl (arr_index (sz := 1) Try.underlying45 (by kernel_rfl) (by first | assumption | decide | omega) (by first | assumption | decide | omega) (by omega))) ?_
                  simp only [ls0, ls1]
                  refine al_pure 6 50 (.int .i64 t1575) #[true, true, true, true, true, false, true, false, false, false, false, false, false, false] rfl rfl (by kernel_rfl) (fun _ _ _ h_ => h_) rfl (fun w_ => xr_move (.int .i64 t1575) rfl rfl) ?_
                  simp only [ls0, ls1]
                  refine al_pure 7 51 (.int .u64 (IntKind.u64.wrap (t1575))) #[true, true, true, true, true, false, true, true, false, false, false, false, false, false] rfl rfl (by kernel_rfl) (fun _ _ _ h_ => h_) rfl (fun w_ => xr_conv (.int .i64 t1575) (.int .u64 (IntKind.u64.wrap (t1575))) rfl rfl (by first | rfl | (go_simp; done) | (go_simp; rfl) | (go_simp; exact i64_w _) | (go_simp; exact i32_w _))) ?_
                  simp only [ls0, ls1]
                  by_cases c1600 : 0 ≤ (IntKind.u64.wrap (t1575))
                  · rw [if_pos c1600] at H
                    refine al_pure 8 52 (.int .u64 (shl .u64 1 (IntKind.u64.wrap (t1575)))) #[true, true, true, true, true, false, true, true, true, false, false, false, false, false] rfl rfl (by kernel_rfl) (fun _ _ _ h_ => h_) rfl (fun w_ => xr_bin (.int .u64 1) (.int .u64 (IntKind.u64.wrap (t1575))) (.int .u64 (shl .u64 1 (IntKind.u64.wrap (t1575)))) rfl rfl rfl (B.shl_u64_u64 1 (IntKind.u64.wrap (t1575)) (by assumption))) ?_
                    simp only [ls0, ls1]
                    refine al_pure 10 54 (.pointer (some ⟨g0, 0, none⟩)) #[true, true, true, true, true, false, true, true, true, false, true, false, false, false] rfl rfl (by kernel_rfl) (fun _ _ _ h_ => h_) rfl (fun w_ => xr_nilCheck ⟨g0, 0, none⟩ rfl rfl) ?_
                    simp only [ls0, ls1]
                    refine al_pure 11 55 (.pointer (some ⟨g0, 2, none⟩)) #[true, true, true, true, true, false, true, true, true, false, true, true, false, false] rfl rfl (by kernel_rfl) (fun _ _ _ h_ => h_) rfl (fun w_ => xr_fieldAddr (.pointer (some ⟨g0, 0, none⟩)) (.pointer (some ⟨g0, 2, none⟩)) rfl rfl (bx_field2 Try.underlying47 rfl rfl (by kernel_rfl))) ?_
                    simp only [ls0, ls1]
                    refine al_take 5 49 (.int .u64 (List.getD t1579 ((t1549 : Int).toNat) 0)) #[true, true, true, true, true, true, true, true, true, false, true, true, false, false] rfl rfl (by kernel_rfl) (fun _ _ _ h_ => h_) rfl (fun w_ hS_ => xr_load (.pointer (some ⟨g0, 2 + ((t1549 : Int).toNat), none⟩)) (.int .u64 (List.getD t1579 ((t1549 : Int).toNat) 0)) rfl rfl (arr_load (o := 2) (N := 64) (pre := [.slice A1585 t1577.length cp1586, .map (some mb1589)]) (post := List.map (Value.int .u64) a0_3) (enc := (Value.int .u64)) (l := t1579) (i := (t1549 : Int).toNat) 0 Try.underlying40 rfl hS_ (by first | (simp only [List.append_assoc, List.cons_append, List.nil_append, List.append_nil]; done) | rfl) (by simp []) HL1591 (by omega) (by omega))) (HX1592).2 ?_
                    simp only [ls0, ls1]
                    refine al_pure 9 53 (.int .u64 (Go.bits .or .u64 (List.getD t1579 ((t1549 : Int).toNat) 0) (shl .u64 1 (IntKind.u64.wrap (t1575))))) #[true, true, true, true, true, true, true, true, true, true, true, true, false, false] rfl rfl (by kernel_rfl) (fun _ _ _ h_ => h_) rfl (fun w_ => xr_bin (.int .u64 (List.getD t1579 ((t1549 : Int).toNat) 0)) (.int .u64 (shl .u64 1 (IntKind.u64.wrap (t1575)))) (.int .u64 (Go.bits .or .u64 (List.getD t1579 ((t1549 : Int).toNat) 0) (shl .u64 1 (IntKind.u64.wrap (t1575))))) rfl rfl rfl (B.or_u64 (List.getD t1579 ((t1549 : Int).toNat) 0) (shl .u64 1 (IntKind.u64.wrap (t1575))))) ?_
                    simp only [ls0, ls1]
                    refine al_pure 12 56 (.pointer (some ⟨g0, 2 + ((t1549 : Int).toNat), none⟩)) #[true, true, true, true, true, true, true, true, true, true, true, true, true, false] rfl rfl (by kernel_rfl) (fun _ _ _ h_ => h_) rfl (fun w_ => xr_indexAddr (.pointer (some ⟨g0, 2, none⟩)) (.int .i64 t1549) (.pointer (some ⟨g0, 2 + ((t1549 : Int).toNat), none⟩)) rfl rfl rfl (arr_index (sz := 1) Try.underlying45 (by kernel_rfl) (by first | assumption | decide | omega) (by first | assumption | decide | omega) (by omega))) ?_
                    simp only [ls0, ls1]
                    obtain ⟨y1601, A1602, H⟩ := Option.bind_eq_some_iff.mp H
                    (try dsimp only at H)
                    refine al_last 13 #[true, true, true, true, true, true, true, true, true, true, true, true, true, true] rfl rfl (by kernel_rfl) rfl (fun K_ hK_ => ?_)
                    refine arr_store_step (C := C1583_) (z := 1) (g := g0) (tb := 47) (of := 2) (N := 64) (pre := [.slice A1585 t1577.length cp1586, .map (some mb1589)]) (post := List.map (Value.int .u64) a0_3) (enc := (Value.int .u64)) (l0 := t1579) (i := (t1549 : Int).toNat) (Go.bits .or .u64 (List.getD t1579 ((t1549 : Int).toNat) 0) (shl .u64 1 (IntKind.u64.wrap (t1575)))) rfl rfl rfl rfl rfl rfl (by kernel_rfl) rfl HX1592 (by first | (simp only [List.append_assoc, List.cons_append, List.nil_append, List.append_nil]; done) | rfl) (by simp []) HL1591 (by omega) (by omega) (Option.some.inj A1602) (xs' := [.slice A1585 t1577.length cp1586, .map (some mb1589)] ++ (List.map (Value.int .u64) y1601 ++ (List.map (Value.int .u64) a0_3))) (by first | (simp only [List.append_assoc, List.cons_append, List.nil_append, List.append_nil]; done) | rfl) ?_
                    intro w1603 HX1604 HL1606 hs1605
                    replace HO1587 := HO1587.thru hs1605 rfl
                    replace HM1590 := HM1590.thru hs1605 rfl
                    replace HJ1541 := HJ1541.thru hs1605 rfl
                    replace HS1536 := HS1536.trans hs1605 hc rfl
                    refine hK_ _ _ ?_
                    clear hK_ K_
                    (try simp only [Act.put, List.setIfInBounds_toArray, ls0, ls1])
                    refine al_end (by kernel_rfl) ?_
                    (try simp only [Act.put, List.setIfInBounds_toArray, ls0, ls1])
                    refine hK1596 _ _ ?_
                    (try clear hK1596 K1596)
                    refine wp_seq_k fun K1607 hK1607 => ?_
                    refine wl_region ?_
                    refine st (.int .i64 0) rfl rfl (xr_assign (.int .i64 0) rfl rfl) ?_
                    simp only [ls0, ls1]
                    refine wl_end ?_
                    (try simp only [Act.put, List.setIfInBounds_toArray, ls0, ls1])
                    refine hK1607 _ _ ?_
                    (try clear hK1607 K1607)
                    refine wp_ret ?_
                    (try simp only [Exit.inBlock, Exit.then, Exit.noGoto])
                    (try simp only [Act.put, List.setIfInBounds_toArray, ls0, ls1])
                    simp only [Option.some.injEq, Prod.mk.injEq] at H
                    obtain ⟨rfl, rfl, rfl, rfl⟩ := H
                    refine bodyPost_ret (results_tmp rfl _ _ _) rfl ?_
                    exact ⟨_, A1585, cp1586, mb1589, rfl, HS1536, HO1587, HC1588, HM1590, HL1606, HX1604⟩
                  · rw [if_neg c1600] at H
                    exact absurd H (by simp)
                · rw [if_neg c1599] at H
                  exact absurd H (by simp)
              · rw [if_neg c1598] at H
                exact absurd H (by simp)
            · rw [if_neg c1595] at H
              (try rw [(Bool.eq_false_iff.mpr c1595)])
              (try simp only [Bool.not_true, Bool.not_false])
              refine wp_cond_true rfl ?_
              refine wp_seq_k fun K1608 hK1608 => ?_
              refine wl_region ?_
              refine st (.int .i64 8) rfl rfl (xr_assign (.int .i64 8) rfl rfl) ?_
              simp only [ls0, ls1]
              refine wl_end ?_
              (try simp only [Act.put, List.setIfInBounds_toArray, ls0, ls1])
              refine hK1608 _ _ ?_
              (try clear hK1608 K1608)
              refine wp_ret ?_
              (try simp only [Exit.inBlock, Exit.then, Exit.noGoto])
              (try simp only [Act.put, List.setIfInBounds_toArray, ls0, ls1])
              simp only [Option.some.injEq, Prod.mk.injEq] at H
              obtain ⟨rfl, rfl, rfl, rfl⟩ := H
              refine bodyPost_ret (results_tmp rfl _ _ _) rfl ?_
              exact ⟨_, A1585, cp1586, mb1589, rfl, HS1536, HO1587, HC1588, HM1590, HL1591, HX1592⟩
        · rw [if_neg c1569] at H
          (try rw [(Bool.eq_false_iff.mpr c1569)])
          (try simp only [Bool.not_true, Bool.not_false])
          refine wp_cond_true rfl ?_
          refine wp_seq_k fun K1609 hK1609 => ?_
          refine wl_region ?_
          refine st (.int .i64 8) rfl rfl (xr_assign (.int .i64 8) rfl rfl) ?_
          simp only [ls0, ls1]
          refine wl_end ?_
          (try simp only [Act.put, List.setIfInBounds_toArray, ls0, ls1])
          refine hK1609 _ _ ?_
          (try clear hK1609 K1609)
          refine wp_ret ?_
          (try simp only [Exit.inBlock, Exit.then, Exit.noGoto])
          (try simp only [Act.put, List.setIfInBounds_toArray, ls0, ls1])
          simp only [Option.some.injEq, Prod.mk.injEq] at H
          obtain ⟨rfl, rfl, rfl, rfl⟩ := H
          refine bodyPost_ret (results_tmp rfl _ _ _) rfl ?_
          exact ⟨_, A1559, cp1560, mb1563, rfl, HS1536, HO1561, HC1562, HM1564, HL1565, HX1566⟩
  refine wl_region ?_
  refine st (.pointer (some ⟨g1468, 0, none⟩)) rfl rfl (xr_fieldAddr (.pointer (some ⟨g1468, 0, none⟩)) (.pointer (some ⟨g1468, 0, none⟩)) rfl rfl (bx_field2 Try.underlying25 rfl rfl (by kernel_rfl))) ?_
  simp only [ls0, ls1]
  refine st (.string a1_0) rfl rfl (xr_load (.pointer (some ⟨g1468, 0, none⟩)) (.string a1_0) rfl rfl (load_cell Try.underlying9 rfl (bx_cell (l := ([.string a1_0, .string a1_1, .int .i64 a1_2])) (HX1471).2 0 rfl))) ?_
  simp only [ls0, ls1]
  obtain ⟨t1610, A1611, H⟩ := Option.bind_eq_some_iff.mp H
  (try dsimp only at H)
  refine st_call #[.string a1_0] rfl rfl Try.func22 (by kernel_rfl) rfl rfl (by simp only [List.map_toArray, List.map_cons, List.map_nil]; first | done | rfl) ?_
  refine (lex_Ident.calls k a1_0 t1610  (fun z_ => pal [(0, 0)] (C1470 z_)) w1469 (fun _ => pal_lt rfl _) A1611).mono ?_
  rintro _ w1613 ⟨C1614, rfl, hs1615⟩
  refine ⟨_, rfl, ?_⟩
  replace hs1615 := Step.lift (U := [(0, 0)]) hs1615 [] rfl rfl
  generalize up C1470 C1614 w1469.heap.size [(0, 0)] = C1614_ at hs1615
  replace HP0 := HP0.thru hs1615 rfl
  replace HP0_0 := HP0_0.thru hs1615 rfl
  replace HP0_1 := HP0_1.thru hs1615 rfl
  replace HX1471 := HX1471.thru hs1615 rfl
  replace HS := HS.trans hs1615 hc rfl
  (try simp only [Act.put, List.setIfInBounds_toArray, ls0, ls1])
  refine st (.bool (!t1610)) rfl rfl (xr_un (.bool t1610) (.bool (!t1610)) rfl rfl (by first | rfl | (go_simp; done) | (go_simp; rfl) | (go_simp; exact i64_w _) | (go_simp; exact i32_w _))) ?_
  simp only [ls0, ls1]
  refine st (.bool (!t1610)) rfl rfl (xr_move (.bool (!t1610)) rfl rfl) ?_
  simp only [ls0, ls1]
  by_cases c1616 : t1610 = true
  · rw [if_pos c1616] at H
    (try rw [c1616])
    (try simp only [Bool.not_true, Bool.not_false])
    refine on_guard (guard_on 4 false 12 rfl rfl rfl) ?_
    refine st (.pointer (some ⟨g1468, 1, none⟩)) rfl rfl (xr_fieldAddr (.pointer (some ⟨g1468, 0, none⟩)) (.pointer (some ⟨g1468, 1, none⟩)) rfl rfl (bx_field2 Try.underlying25 rfl rfl (by kernel_rfl))) ?_
    simp only [ls0, ls1]
    refine on_guard (guard_on 4 false 12 rfl rfl rfl) ?_
    refine st (.string a1_1) rfl rfl (xr_load (.pointer (some ⟨g1468, 1, none⟩)) (.string a1_1) rfl rfl (load_cell Try.underlying9 rfl (bx_cell (l := ([.string a1_0, .string a1_1, .int .i64 a1_2])) (HX1471).2 1 rfl))) ?_
    simp only [ls0, ls1]
    refine on_guard (guard_on 4 false 12 rfl rfl rfl) ?_
    refine st (.bool (!decide (a1_1 = (⟨#[]⟩ : ByteArray)))) rfl rfl (xr_bin (.string a1_1) (.string (⟨#[]⟩ : ByteArray)) (.bool (!decide (a1_1 = (⟨#[]⟩ : ByteArray)))) rfl rfl rfl (B.neq_str a1_1 (⟨#[]⟩ : ByteArray))) ?_
    simp only [ls0, ls1]
    refine on_guard (guard_on 4 false 12 rfl rfl rfl) ?_
    refine st (.bool (!decide (a1_1 = (⟨#[]⟩ : ByteArray)))) rfl rfl (xr_move (.bool (!decide (a1_1 = (⟨#[]⟩ : ByteArray)))) rfl rfl) ?_
    simp only [ls0, ls1]
    by_cases c1617 : a1_1 = (⟨#[]⟩ : ByteArray)
    · rw [if_pos c1617] at H
      (try rw [(decide_eq_true c1617)])
      (try simp only [Bool.not_true, Bool.not_false])
      refine sk_guard (guard_off 8 true 16 rfl rfl false (by decide) rfl) rfl ?_
      simp only [ls0, ls1]
      refine sk_guard (guard_off 8 true 16 rfl rfl false (by decide) rfl) rfl ?_
      simp only [ls0, ls1]
      refine sk_guard (guard_off 8 true 16 rfl rfl false (by decide) rfl) rfl ?_
      simp only [ls0, ls1]
      refine sk_guard (guard_off 8 true 16 rfl rfl false (by decide) rfl) rfl ?_
      simp only [ls0, ls1]
      refine on_guard (guard_on 4 false 12 rfl rfl rfl) ?_
      refine st (.bool false) rfl rfl (xr_pick false (.bool false) rfl rfl rfl) ?_
      simp only [ls0, ls1]
      refine st (.bool false) rfl rfl (xr_pick false (.bool false) rfl rfl rfl) ?_
      simp only [ls0, ls1]
      refine wl_end ?_
      (try simp only [Act.put, List.setIfInBounds_toArray, ls0, ls1])
      exact hj1533 _ _ _ (false) (fun q_ => List.getD [undef, .agg #[.string a1_0, .string a1_1, .int .i64 a1_2], undef, undef, .int .i64 0, undef, undef, undef, .pointer (some ⟨g1468, 0, none⟩), .string a1_0, .bool true, .bool false, .bool false, .pointer (some ⟨g1468, 1, none⟩), .string a1_1, .bool false, .bool false, undef, undef, undef, undef, .bool false, undef, undef, undef, undef, undef, undef, undef, undef, undef, undef, undef, undef, undef, undef, undef, undef, undef, undef, undef, undef, undef, undef, undef, undef, undef, undef, undef, undef, undef, undef, undef, undef, undef, undef, undef] q_ undef)  HS (by omega) HP0_0 HP0_1 HP0 HX1471 H
    · rw [if_neg c1617] at H
      (try rw [(decide_eq_false c1617)])
      (try simp only [Bool.not_true, Bool.not_false])
      refine on_guard (guard_on 8 true 16 rfl rfl rfl) ?_
      refine st (.pointer (some ⟨g1468, 1, none⟩)) rfl rfl (xr_fieldAddr (.pointer (some ⟨g1468, 0, none⟩)) (.pointer (some ⟨g1468, 1, none⟩)) rfl rfl (bx_field2 Try.underlying25 rfl rfl (by kernel_rfl))) ?_
      simp only [ls0, ls1]
      refine on_guard (guard_on 8 true 16 rfl rfl rfl) ?_
      refine st (.string a1_1) rfl rfl (xr_load (.pointer (some ⟨g1468, 1, none⟩)) (.string a1_1) rfl rfl (load_cell Try.underlying9 rfl (bx_cell (l := ([.string a1_0, .string a1_1, .int .i64 a1_2])) (HX1471).2 1 rfl))) ?_
      simp only [ls0, ls1]
      refine on_guard (guard_on 8 true 16 rfl rfl rfl) ?_
      obtain ⟨t1618, A1619, H⟩ := Option.bind_eq_some_iff.mp H
      (try dsimp only at H)
      refine st_call #[.string a1_1] rfl rfl Try.func22 (by kernel_rfl) rfl rfl (by simp only [List.map_toArray, List.map_cons, List.map_nil]; first | done | rfl) ?_
      refine (lex_Ident.calls k a1_1 t1618  (fun z_ => pal [(0, 0)] (C1614_ z_)) w1613 (fun _ => pal_lt rfl _) A1619).mono ?_
      rintro _ w1621 ⟨C1622, rfl, hs1623⟩
      refine ⟨_, rfl, ?_⟩
      replace hs1623 := Step.lift (U := [(0, 0)]) hs1623 [] rfl rfl
      generalize up C1614_ C1622 w1613.heap.size [(0, 0)] = C1622_ at hs1623
      replace HP0 := HP0.thru hs1623 rfl
      replace HP0_0 := HP0_0.thru hs1623 rfl
      replace HP0_1 := HP0_1.thru hs1623 rfl
      replace HX1471 := HX1471.thru hs1623 rfl
      replace HS := HS.trans hs1623 hc rfl
      (try simp only [Act.put, List.setIfInBounds_toArray, ls0, ls1])
      refine on_guard (guard_on 8 true 16 rfl rfl rfl) ?_
      refine st (.bool (!t1618)) rfl rfl (xr_un (.bool t1618) (.bool (!t1618)) rfl rfl (by first | rfl | (go_simp; done) | (go_simp; rfl) | (go_simp; exact i64_w _) | (go_simp; exact i32_w _))) ?_
      simp only [ls0, ls1]
      refine on_guard (guard_on 4 false 12 rfl rfl rfl) ?_
      refine st (.bool (!t1618)) rfl rfl (xr_pick true (.bool (!t1618)) rfl rfl rfl) ?_
      simp only [ls0, ls1]
      refine st (.bool (!t1618)) rfl rfl (xr_pick false (.bool (!t1618)) rfl rfl rfl) ?_
      simp only [ls0, ls1]
      refine wl_end ?_
      (try simp only [Act.put, List.setIfInBounds_toArray, ls0, ls1])
      exact hj1533 _ _ _ (!t1618) (fun q_ => List.getD [undef, .agg #[.string a1_0, .string a1_1, .int .i64 a1_2], undef, undef, .int .i64 0, undef, undef, undef, .pointer (some ⟨g1468, 0, none⟩), .string a1_0, .bool true, .bool false, .bool false, .pointer (some ⟨g1468, 1, none⟩), .string a1_1, .bool true, .bool true, .pointer (some ⟨g1468, 1, none⟩), .string a1_1, .bool t1618, .bool (!t1618), .bool (!t1618), undef, undef, undef, undef, undef, undef, undef, undef, undef, undef, undef, undef, undef, undef, undef, undef, undef, undef, undef, undef, undef, undef, undef, undef, undef, undef, undef, undef, undef, undef, undef, undef, undef, undef, undef] q_ undef)  HS (by omega) HP0_0 HP0_1 HP0 HX1471 H
  · rw [if_neg c1616] at H
    (try rw [(Bool.eq_false_iff.mpr c1616)])
    (try simp only [Bool.not_true, Bool.not_false])
    refine sk_guard (guard_off 4 false 12 rfl rfl true (by decide) rfl) rfl ?_
    simp only [ls0, ls1]
    refine sk_guard (guard_off 4 false 12 rfl rfl true (by decide) rfl) rfl ?_
    simp only [ls0, ls1]
    refine sk_guard (guard_off 4 false 12 rfl rfl true (by decide) rfl) rfl ?_
    simp only [ls0, ls1]
    refine sk_guard (guard_off 4 false 12 rfl rfl true (by decide) rfl) rfl ?_
    simp only [ls0, ls1]
    refine sk_guard (guard_und 8 true 16 rfl rfl rfl) rfl ?_
    simp only [ls0, ls1]
    refine sk_guard (guard_und 8 true 16 rfl rfl rfl) rfl ?_
    simp only [ls0, ls1]
    refine sk_guard (guard_und 8 true 16 rfl rfl rfl) rfl ?_
    simp only [ls0, ls1]
    refine sk_guard (guard_und 8 true 16 rfl rfl rfl) rfl ?_
    simp only [ls0, ls1]
    refine sk_guard (guard_off 4 false 12 rfl rfl true (by decide) rfl) rfl ?_
    simp only [ls0, ls1]
    refine st (.bool true) rfl rfl (xr_pick true (.bool true) rfl rfl rfl) ?_
    simp only [ls0, ls1]
    refine wl_end ?_
    (try simp only [Act.put, List.setIfInBounds_toArray, ls0, ls1])
    exact hj1533 _ _ _ (true) (fun q_ => List.getD [undef, .agg #[.string a1_0, .string a1_1, .int .i64 a1_2], undef, undef, .int .i64 0, undef, undef, undef, .pointer (some ⟨g1468, 0, none⟩), .string a1_0, .bool false, .bool true, .bool true, undef, undef, undef, undef, undef, undef, undef, undef, undef, undef, undef, undef, undef, undef, undef, undef, undef, undef, undef, undef, undef, undef, undef, undef, undef, undef, undef, undef, undef, undef, undef, undef, undef, undef, undef, undef, undef, undef, undef, undef, undef, undef, undef, undef] q_ undef)  HS (by omega) HP0_0 HP0_1 HP0 HX1471 H

end Go.Proofs.Ytpfepkkpbampkaa.POrd
