-- By cprint.py, a program of this work. Lean checks it.
import Derived.Test.YtdkbmchbkkhpoaaPMfrx0
namespace Go.Proofs.Ytdkbmchbkkhpoaa.PMfr
open Go.RowKit Go.Proofs.YtdkbmchbkkhpoaaW.PrintWords Go.Proofs.YtdkbmchbkkhpoaaW.PrintLast Go.Proofs.YtdkbmchbkkhpoaaW.PrintMore
set_option linter.unusedVariables false
set_option linter.unusedSimpArgs false

/-! ### maxflow_Net_reset: function 36 -/
def maxflow_Net_reset.l0 : Nat → (List Int) → Int → (List (S78)) → Option ((List (S78)) × Bool)
  | 0, _, _, _ => none
  | k + 1, l0_1, x224, x225 => if x224 < (l0_1.length : Int) then (if 0 ≤ x224 then (if 0 ≤ (wrap64 (2 * x224)) then (if (wrap64 (2 * x224)) < (x225.length : Int) then ((some (x225.set (wrap64 (2 * x224) : Int).toNat (⟨(rd_T78 x225 (wrap64 (2 * x224))).f0, rd l0_1 x224⟩ : S78) : List (S78))).bind fun y257 => (if 0 ≤ (wrap64 ((wrap64 (2 * x224)) + 1)) then (if (wrap64 ((wrap64 (2 * x224)) + 1)) < (y257.length : Int) then ((some (y257.set (wrap64 ((wrap64 (2 * x224)) + 1) : Int).toNat (⟨(rd_T78 y257 (wrap64 ((wrap64 (2 * x224)) + 1))).f0, 0⟩ : S78) : List (S78))).bind fun y268 => (maxflow_Net_reset.l0 k l0_1 (wrap64 (x224 + 1)) y268)) else (none)) else (none))) else (none)) else (none)) else (none)) else (some (x225, false))
def maxflow_Net_reset.f (k : Nat) (l0_0 : List (S78)) (l0_1 : List Int) (l0_2 : List (List Int)) (a0_3 : Int) (a0_4 : Bool) (l0_5 : List Int) (l0_6 : List Int) (a0_7 : Int) : Option ((List (S78)) × Bool) := maxflow_Net_reset.l0 k l0_1 0 l0_0

set_option maxHeartbeats 8000000 in
set_option maxRecDepth 100000 in
theorem maxflow_Net_reset.calls (k : Nat) (g0 : Nat) (A0_0 : Option Addr) (c0_0 : Nat) (l0_0 : List (S78)) (A0_1 : Option Addr) (c0_1 : Nat) (l0_1 : List Int) (A0_2 : Option Addr) (c0_2 : Nat) (l0_2 : List (List Int)) (a0_3 : Int) (a0_4 : Bool) (A0_5 : Option Addr) (c0_5 : Nat) (l0_5 : List Int) (A0_6 : Option Addr) (c0_6 : Nat) (l0_6 : List Int) (a0_7 : Int) (r1 : List (S78)) (r2 : Bool) (c : Nat → Nat) (w : World) (hc : ∀ k, c k < 10) (HP0 : Bx c 1 w g0 74 ([.slice A0_0 l0_0.length c0_0, .slice A0_1 l0_1.length c0_1, .slice A0_2 l0_2.length c0_2, .int .i64 a0_3, .bool a0_4, .slice A0_5 l0_5.length c0_5, .slice A0_6 l0_6.length c0_6, .int .i64 a0_7])) (HP0_0 : Own c 2 w k78 78 (.slice A0_0 l0_0.length c0_0) l0_0) (HCP0_0 : l0_0.length ≤ c0_0) (HP0_1 : Ft c [0] w (fun w_ => (Kd.int .i64).C w_ A0_1 l0_1.length l0_1)) (HCP0_1 : l0_1.length ≤ c0_1) (HP0_2 : Ft c [0] w (fun w_ => (Kd.slice 3 (Kd.int .i64)).C w_ A0_2 l0_2.length l0_2)) (HCP0_2 : l0_2.length ≤ c0_2) (HP0_5 : Ft c [0] w (fun w_ => (Kd.int .i64).C w_ A0_5 l0_5.length l0_5)) (HCP0_5 : l0_5.length ≤ c0_5) (HP0_6 : Ft c [0] w (fun w_ => (Kd.int .i64).C w_ A0_6 l0_6.length l0_6)) (HCP0_6 : l0_6.length ≤ c0_6) (H : maxflow_Net_reset.f k l0_0 l0_1 l0_2 a0_3 a0_4 l0_5 l0_6 a0_7 = some (r1, r2)) :
    Calls Try.prog 36 #[.pointer (some ⟨g0, 0, none⟩)] w fun e w' => ∃ (c' : Nat → Nat) (A_r1 : Option Addr) (c_r1 : Nat), e = .returned (.tuple #[]) ∧ Step c w c' w' [1, 2] ∧ Own c' 2 w' k78 78 (.slice A_r1 r1.length c_r1) r1 ∧ r1.length ≤ c_r1 ∧ Bx c' 1 w' g0 74 ([.slice A_r1 r1.length c_r1, .slice A0_1 l0_1.length c0_1, .slice A0_2 l0_2.length c0_2, .int .i64 a0_3, .bool r2, .slice A0_5 l0_5.length c0_5, .slice A0_6 l0_6.length c0_6, .int .i64 a0_7]) := by
 unfold maxflow_Net_reset.f at H
 have HS := Step.refl c w [1, 2]
 go_enter Try.func36, Try.ntmps36
 refine wp_seq_k fun K138 hK138 => ?_
 refine wl_region ?_
 refine mv_ rfl ?_
 refine st (.pointer (some ⟨g0, 0, none⟩)) rfl rfl (xr_nilCheck _ rfl rfl) ?_
 refine st (.pointer (some ⟨g0, 4, none⟩)) rfl rfl (xr_fieldAddr _ _ rfl rfl (bx_field2 Try.underlying74 rfl rfl (by kernel_rfl))) ?_
 refine bx_store (C := c) (z := 1) (g := g0) (j := 4) (tb := 74) (u := .bool false) (seg := [.bool false]) (xs := [.slice A0_0 l0_0.length c0_0, .slice A0_1 l0_1.length c0_1, .slice A0_2 l0_2.length c0_2, .int .i64 a0_3, .bool a0_4, .slice A0_5 l0_5.length c0_5, .slice A0_6 l0_6.length c0_6, .int .i64 a0_7]) rfl rfl rfl rfl rfl rfl (by first | kernel_rfl | rfl) (by simp [Value.oneCell']) HP0 (by simp only [List.length_cons, List.length_nil]; omega) rfl ?_
 intro w139 HX140 hs141
 replace HP0_0 := HP0_0.thru hs141 rfl
 replace HP0_1 := HP0_1.thru hs141 rfl
 replace HP0_2 := HP0_2.thru hs141 rfl
 replace HP0_5 := HP0_5.thru hs141 rfl
 replace HP0_6 := HP0_6.thru hs141 rfl
 replace HS := HS.trans hs141 hc rfl
 (try simp only [Act.put, List.setIfInBounds_toArray, ls0, ls1])
 refine wl_end ?_
 (try simp only [ls0, ls1])
 refine hK138 _ _ ?_
 (try clear hK138 K138)
 refine wp_seq_k fun K142 hK142 => ?_
 refine wl_region ?_
 refine mv_ rfl ?_
 refine st (.pointer (some ⟨g0, 0, none⟩)) rfl rfl (xr_nilCheck _ rfl rfl) ?_
 refine st (.pointer (some ⟨g0, 1, none⟩)) rfl rfl (xr_fieldAddr _ _ rfl rfl (bx_field2 Try.underlying74 rfl rfl (by kernel_rfl))) ?_
 refine st (.slice A0_1 l0_1.length c0_1) rfl rfl (xr_load _ _ rfl rfl (load_cell Try.underlying42 rfl (bx_cell (HX140).2 1 rfl))) ?_
 simp only [ls0, ls1]
 refine st (.int .i64 (l0_1.length : Int)) rfl rfl (xr_builtin #[.slice A0_1 l0_1.length c0_1] (.int .i64 (l0_1.length : Int)) rfl (mp_ rfl) (by first | rfl | (go_simp; done) | (go_simp; rfl) | (go_simp; exact i64_w _) | (go_simp; exact i32_w _))) ?_
 refine st (.int .i64 0) rfl rfl (xr_move _ rfl rfl) ?_
 refine wl_end ?_
 (try simp only [ls0, ls1])
 refine hK142 _ _ ?_
 (try clear hK142 K142)
 refine wp_block ?_
 (try simp only [ls0, ls1])
 refine wp_looped (looped_fin (fun kq237 a_ w236 => ∃ (C235 : Nat → Nat) (x224 : Int) (A226 : Option Addr) (n227 cp228 : Nat) (x225 : List (S78)) (g_ : Nat → Value), a_ = ⟨#[.pointer (some ⟨g0, 0, none⟩), (g_ 1), (g_ 2), (g_ 3), (g_ 4), (g_ 5), (g_ 6), (g_ 7), (g_ 8), (g_ 9), .slice A0_1 l0_1.length c0_1, .int .i64 (l0_1.length : Int), .int .i64 x224, (g_ 13), (g_ 14), (g_ 15), (g_ 16), (g_ 17), (g_ 18), (g_ 19), (g_ 20), (g_ 21), (g_ 22), (g_ 23), (g_ 24), (g_ 25), (g_ 26), (g_ 27), (g_ 28), (g_ 29), (g_ 30), (g_ 31), (g_ 32), (g_ 33), (g_ 34), (g_ 35)], []⟩ ∧ Step c w C235 w236 [1, 2] ∧ kq237 ≤ k ∧ (Ft C235 [0] w236 (fun w_ => (Kd.int .i64).C w_ A0_1 l0_1.length l0_1)) ∧ (Own C235 2 w236 k78 78 (.slice A226 n227 cp228) x225) ∧ (n227 ≤ cp228) ∧ (Ft C235 [0] w236 (fun w_ => (Kd.slice 3 (Kd.int .i64)).C w_ A0_2 l0_2.length l0_2)) ∧ (Ft C235 [0] w236 (fun w_ => (Kd.int .i64).C w_ A0_5 l0_5.length l0_5)) ∧ (Ft C235 [0] w236 (fun w_ => (Kd.int .i64).C w_ A0_6 l0_6.length l0_6)) ∧ (Bx C235 1 w236 g0 74 ([.slice A226 n227 cp228, .slice A0_1 l0_1.length c0_1, .slice A0_2 l0_2.length c0_2, .int .i64 a0_3, .bool false, .slice A0_5 l0_5.length c0_5, .slice A0_6 l0_6.length c0_6, .int .i64 a0_7])) ∧ maxflow_Net_reset.l0 kq237 l0_1 x224 x225 = some (r1, r2)) ?step fun hL_ => ?init)
 case init =>
  exact jmpL (fun a_ h_ => hL_ k a_ _ h_) (fun g_ => ⟨_, 0, A0_0, l0_0.length, c0_0, l0_0, g_, rfl, HS, Nat.le_refl _, HP0_1, HP0_0, HCP0_0, HP0_2, HP0_5, HP0_6, HX140, H⟩) rfl
 case step =>
  intro kq237 ih240 a241 w236 hr242
  obtain ⟨C235, x224, A226, n227, cp228, x225, g_, rfl, HS238, hk239, HJ223, HJ230, HC229, HJ231, HJ232, HJ233, HJ234, H⟩ := hr242
  refine looped_round ?_
  obtain rfl : n227 = x225.length := HJ230.at_.1
  cases kq237 with
  | zero => exact absurd H (by simp [maxflow_Net_reset.l0])
  | succ k243 =>
   simp only [maxflow_Net_reset.l0] at H
   refine wp_seq_k fun K244 hK244 => ?_
   refine wl_region ?_
   refine st (.bool (decide (x224 < (l0_1.length : Int)))) rfl rfl (xr_bin _ _ _ rfl rfl rfl (B.lss_i64 _ _)) ?_
   refine wl_end ?_
   (try simp only [ls0, ls1])
   refine hK244 _ _ ?_
   (try clear hK244 K244)
   refine wp_seq_k fun K245 hK245 => ?_
   by_cases c246 : x224 < (l0_1.length : Int)
   ·rw [if_pos c246] at H
    (try rw [(decide_eq_true c246)])
    refine wp_cond_true rfl ?_
    refine wp_skip ?_
    (try simp only [ls0, ls1])
    refine hK245 _ _ ?_
    (try clear hK245 K245)
    refine wp_seq_k fun K247 hK247 => ?_
    refine wp_block ?_
    refine wp_seq_k fun K248 hK248 => ?_
    refine wl_region ?_
    refine mv_ rfl ?_
    obtain ⟨c249, H⟩ := if_some H
    obtain ⟨ad250, hA251⟩ := c_addr (Ft.now HJ223) (pos_of (j := x224) (by first | assumption | decide) (by first | assumption | omega))
    refine st (.pointer (some (ad250.add ((x224 : Int).toNat * 1)))) rfl rfl (xr_indexAddr _ _ _ rfl rfl rfl (index_at Try.underlying42 info2 hA251 (by first | assumption | decide | omega) (by first | assumption | decide | omega))) ?_
    refine st (.int .i64 (rd l0_1 x224)) rfl rfl (xr_load _ _ rfl rfl (load_int Try.underlying2 rfl hA251 (Ft.now HJ223) (by first | assumption | decide | omega) (by first | assumption | decide | omega))) ?_
    refine as_ rfl ?_
    simp only [ls0, ls1]
    refine as_ rfl ?_
    refine wl_end ?_
    (try simp only [ls0, ls1])
    refine hK248 _ _ ?_
    (try clear hK248 K248)
    (try simp only [ls0, ls1])
    refine al_start (lb 20 0) rfl rfl rfl (fun w_ => w_.heap[g0]? = some (.cells (List.toArray ([.slice A226 x225.length cp228, .slice A0_1 l0_1.length c0_1, .slice A0_2 l0_2.length c0_2, .int .i64 a0_3, .bool false, .slice A0_5 l0_5.length c0_5, .slice A0_6 l0_6.length c0_6, .int .i64 a0_7])) 74 (0, 0))) (HJ234.drew).2 [19] ?_
    replace HJ223 := HJ223.drew
    replace HJ234 := HJ234.drew
    replace HJ230 := HJ230.drew
    replace HJ231 := HJ231.drew
    replace HJ232 := HJ232.drew
    replace HJ233 := HJ233.drew
    replace HS238 := Step.ofDrew HS238
    generalize w236.drew = w252 at *
    refine al_mv 0 (lb 20 1) rfl rfl (by kernel_rfl) (fun _ _ _ => id) rfl ?_
    refine al_pure 1 18 (.pointer (some ⟨g0, 0, none⟩)) (lb 20 3) rfl rfl (by kernel_rfl) (fun _ _ _ => id) rfl (fun w_ => xr_nilCheck _ rfl rfl) ?_
    refine al_pure 2 19 (.pointer (some ⟨g0, 0, none⟩)) (lb 20 7) rfl rfl (by kernel_rfl) (fun _ _ _ => id) rfl (fun w_ => xr_fieldAddr _ _ rfl rfl (bx_field2 Try.underlying74 rfl rfl (by kernel_rfl))) ?_
    refine al_mv 4 (lb 20 23) rfl rfl (by kernel_rfl) (fun _ _ _ => id) rfl ?_
    simp only [ls0, ls1]
    refine al_pure 5 22 (.int .i64 (wrap64 (2 * x224))) (lb 20 55) rfl rfl (by kernel_rfl) (fun _ _ _ => id) rfl (fun w_ => xr_bin _ _ _ rfl rfl rfl (B.mul_i64 _ _)) ?_
    refine al_mv 6 (lb 20 119) rfl rfl (by kernel_rfl) (fun _ _ _ => id) rfl ?_
    refine al_pure 7 24 (.pointer (some ⟨g0, 0, none⟩)) (lb 20 247) rfl rfl (by kernel_rfl) (fun _ _ _ => id) rfl (fun w_ => xr_nilCheck _ rfl rfl) ?_
    refine al_pure 8 25 (.pointer (some ⟨g0, 0, none⟩)) (lb 20 503) rfl rfl (by kernel_rfl) (fun _ _ _ => id) rfl (fun w_ => xr_fieldAddr _ _ rfl rfl (bx_field2 Try.underlying74 rfl rfl (by kernel_rfl))) ?_
    simp only [ls0, ls1]
    refine al_mv 10 (lb 20 1527) rfl rfl (by kernel_rfl) (fun _ _ _ => id) rfl ?_
    refine al_pure 11 28 (.int .i64 (wrap64 (2 * x224))) (lb 20 3575) rfl rfl (by kernel_rfl) (fun _ _ _ => id) rfl (fun w_ => xr_bin _ _ _ rfl rfl rfl (B.mul_i64 _ _)) ?_
    refine al_pure 12 29 (.int .i64 (wrap64 ((wrap64 (2 * x224)) + 1))) (lb 20 7671) rfl rfl (by kernel_rfl) (fun _ _ _ => id) rfl (fun w_ => xr_bin _ _ _ rfl rfl rfl (B.add_i64 _ _)) ?_
    refine al_mv 13 (lb 20 15863) rfl rfl (by kernel_rfl) (fun _ _ _ => id) rfl ?_
    simp only [ls0, ls1]
    refine al_take 3 20 (.slice A226 x225.length cp228) (lb 20 15871) rfl rfl (by kernel_rfl) (fun _ _ _ => id) rfl (fun w_ hS_ => xr_load _ _ rfl rfl (load_cell Try.underlying67 rfl (bx_cell hS_ 0 rfl))) (HJ234).2 ?_
    refine al_take 9 26 (.slice A226 x225.length cp228) (lb 20 16383) rfl rfl (by kernel_rfl) (fun _ _ _ => id) rfl (fun w_ hS_ => xr_load _ _ rfl rfl (load_cell Try.underlying67 rfl (bx_cell hS_ 0 rfl))) (HJ234).2 ?_
    obtain ⟨c253, H⟩ := if_some H
    obtain ⟨c254, H⟩ := if_some H
    obtain ⟨g255, hA256⟩ := HJ230.form (pos_of (j := (wrap64 (2 * x224))) (by first | assumption | decide) (by first | assumption | omega))
    refine al_pure 14 31 (.pointer (some ((⟨g255, 0, none⟩ : Addr).add ((wrap64 (2 * x224) : Int).toNat * 2)))) (lb 20 32767) rfl rfl (by kernel_rfl) (fun _ _ _ => id) rfl (fun w_ => xr_indexAddr _ _ _ rfl rfl rfl (index_at Try.underlying67 info78 hA256 (by first | assumption | decide | omega) (by first | assumption | decide | omega))) ?_
    refine al_pure 15 32 (.pointer (some (((⟨g255, 0, none⟩ : Addr).add ((wrap64 (2 * x224) : Int).toNat * 2)).add 1))) (lb 20 65535) rfl rfl (by kernel_rfl) (fun _ _ _ => id) rfl (fun w_ => xr_fieldAddr _ _ rfl rfl (field_at2 Try.underlying78 rfl rfl (by kernel_rfl))) ?_
    simp only [ls0, ls1]
    obtain ⟨y257, A258, H⟩ := bnd H
    refine al_one 16 (lb 20 131071) rfl rfl (by kernel_rfl) rfl (fun K_ hK_ => ?_)
    refine Own.storef_step k78 (C := C235) (i := 2) rfl rfl 2 _ _ rfl 78 2 (wrap64 (2 * x224)) 1 x225 (⟨(rd_T78 x225 (wrap64 (2 * x224))).f0, rd l0_1 x224⟩ : S78) (.int .i64 (rd l0_1 x224)) [.int .i64 (rd l0_1 x224)] [.int .i64 ((rd_T78 x225 (wrap64 (2 * x224))).f0), .int .i64 ((rd_T78 x225 (wrap64 (2 * x224))).f1)] z78 hA256 rfl rfl rfl rfl (by kernel_rfl) (by simp [Value.oneCell']) (fun _ h_ => k78_open h_) (by first | decide | simp) HJ230 (by decide) (by first | assumption | decide | omega) (by first | assumption | decide | omega) (k78_mkF _ _ (⟨(rd_T78 x225 (wrap64 (2 * x224))).f0, rd l0_1 x224⟩ : S78)) (Option.some.inj A258) ?_
    intro w259 C260 HO261 HC263 hs262
    replace HJ223 := HJ223.thru hs262 rfl
    replace HJ234 := HJ234.thru hs262 rfl
    replace HJ231 := HJ231.thru hs262 rfl
    replace HJ232 := HJ232.thru hs262 rfl
    replace HJ233 := HJ233.thru hs262 rfl
    replace HS238 := HS238.trans hs262 hc rfl
    refine hK_ _ _ (HJ234).2 ?_
    clear hK_ K_
    (try simp only [Act.put, List.setIfInBounds_toArray, ls0, ls1])
    (try rw [show x225.length = y257.length by rw [← Option.some.inj A258, List.length_set]])
    (try rw [show x225.length = y257.length by rw [← Option.some.inj A258, List.length_set]] at HJ234)
    obtain ⟨c264, H⟩ := if_some H
    obtain ⟨c265, H⟩ := if_some H
    obtain ⟨g266, hA267⟩ := HO261.form (pos_of (j := (wrap64 ((wrap64 (2 * x224)) + 1))) (by first | assumption | decide) (by first | assumption | omega))
    refine al_pure 17 33 (.pointer (some ((⟨g266, 0, none⟩ : Addr).add ((wrap64 ((wrap64 (2 * x224)) + 1) : Int).toNat * 2)))) (lb 20 262143) rfl rfl (by kernel_rfl) (fun _ _ _ => id) rfl (fun w_ => xr_indexAddr _ _ _ rfl rfl rfl (index_at Try.underlying67 info78 hA267 (by first | assumption | decide | omega) (by first | assumption | decide | omega))) ?_
    refine al_pure 18 34 (.pointer (some (((⟨g266, 0, none⟩ : Addr).add ((wrap64 ((wrap64 (2 * x224)) + 1) : Int).toNat * 2)).add 1))) (lb 20 524287) rfl rfl (by kernel_rfl) (fun _ _ _ => id) rfl (fun w_ => xr_fieldAddr _ _ rfl rfl (field_at2 Try.underlying78 rfl rfl (by kernel_rfl))) ?_
    obtain ⟨y268, A269, H⟩ := bnd H
    refine al_last 19 (lb 20 1048575) rfl rfl (by kernel_rfl) rfl (fun K_ hK_ => ?_)
    refine Own.storef_step k78 (C := C260) (i := 2) rfl rfl 2 _ _ rfl 78 2 (wrap64 ((wrap64 (2 * x224)) + 1)) 1 y257 (⟨(rd_T78 y257 (wrap64 ((wrap64 (2 * x224)) + 1))).f0, 0⟩ : S78) (.int .i64 0) [.int .i64 0] [.int .i64 ((rd_T78 y257 (wrap64 ((wrap64 (2 * x224)) + 1))).f0), .int .i64 ((rd_T78 y257 (wrap64 ((wrap64 (2 * x224)) + 1))).f1)] z78 hA267 rfl rfl rfl rfl (by kernel_rfl) (by simp [Value.oneCell']) (fun _ h_ => k78_open h_) (by first | decide | simp) HO261 (by decide) (by first | assumption | decide | omega) (by first | assumption | decide | omega) (k78_mkF _ _ (⟨(rd_T78 y257 (wrap64 ((wrap64 (2 * x224)) + 1))).f0, 0⟩ : S78)) (Option.some.inj A269) ?_
    intro w270 C271 HO272 HC274 hs273
    replace HJ223 := HJ223.thru hs273 rfl
    replace HJ234 := HJ234.thru hs273 rfl
    replace HJ231 := HJ231.thru hs273 rfl
    replace HJ232 := HJ232.thru hs273 rfl
    replace HJ233 := HJ233.thru hs273 rfl
    replace HS238 := HS238.trans hs273 hc rfl
    refine hK_ _ _ ?_
    clear hK_ K_
    (try simp only [Act.put, List.setIfInBounds_toArray, ls0, ls1])
    (try rw [show y257.length = y268.length by rw [← Option.some.inj A269, List.length_set]])
    (try rw [show y257.length = y268.length by rw [← Option.some.inj A269, List.length_set]] at HJ234)
    refine al_end (by kernel_rfl) ?_
    (try simp only [ls0, ls1])
    refine hK247 _ _ ?_
    (try clear hK247 K247)
    refine wl_region ?_
    refine st (.int .i64 (wrap64 (x224 + 1))) rfl rfl (xr_bin _ _ _ rfl rfl rfl (B.add_i64 _ _)) ?_
    refine mv_ rfl ?_
    refine wl_end ?_
    (try simp only [ls0, ls1])
    exact jmpL (fun a_ h_ => ih240 k243 (by omega) a_ _ h_) (fun g_ => ⟨_, wrap64 (x224 + 1), A226, y268.length, cp228, y268, g_, rfl, HS238, (by omega), HJ223, HO272, HC274, HJ231, HJ232, HJ233, HJ234, H⟩) rfl
   rw [if_neg c246] at H
   (try rw [(decide_eq_false c246)])
   refine wp_cond_false rfl ?_
   refine wp_exit ?_
   (try simp only [Exit.inBlock, Exit.then, Exit.noGoto, if_true, if_pos])
   (try simp only [ls0, ls1])
   simp only [Option.some.injEq, Prod.mk.injEq] at H
   obtain ⟨rfl, rfl⟩ := H
   refine bodyPost_end (results_none rfl _ _ _) rfl ?_
   exact ⟨_, A226, cp228, rfl, HS238, HJ230, HC229, HJ234⟩

/-! ### maxflow_Net_in: function 37 -/
def maxflow_Net_in.f (x0 : Option S74) (a1 : Int) : Option (Bool) := onOpt x0 (some false) (fun o12 => (if a1 ≥ 0 then (some (decide (a1 < (o12.f2.length : Int)))) else (some false)))
set_option maxHeartbeats 8000000 in
set_option maxRecDepth 100000 in
theorem maxflow_Net_in.calls (v0 : Value) (x0 : Option S74) (a1 : Int) (r : Bool) (c : Nat → Nat) (w : World) (hc : ∀ k, c k < 10) (HP0 : Ft c [0] w (fun w_ => (Kd.ptr 74 k74).K w_ x0 [v0])) (H : maxflow_Net_in.f x0 a1 = some r) :
    Calls Try.prog 37 #[v0, .int .i64 a1] w fun e w' => ∃ (c' : Nat → Nat) , e = .returned (.bool r) ∧ Step c w c' w' [] := by
 unfold maxflow_Net_in.f at H
 have HS := Step.refl c w []
 go_enter Try.func37, Try.ntmps37
 refine wp_seq_k fun K10 hK10 => ?_
 refine wl_region ?_
 refine st (.bool false) rfl rfl (xr_assign _ rfl rfl) ?_
 refine wl_end ?_
 (try simp only [ls0, ls1])
 refine hK10 _ _ ?_
 (try clear hK10 K10)
 refine wp_seq_k fun K11 hK11 => ?_
 refine wl_region ?_
 refine mv_ rfl ?_
 cases x0 with
 | none =>
  (try simp only [onOpt] at H)
  obtain rfl := ptr_none HP0
  refine st (.bool false) rfl rfl (xr_bin (.pointer none) (.pointer none) (.bool false) rfl rfl rfl (B.neq_nn ⟨_, Try.underlying24⟩ (⟨0, 0, none⟩ : Addr))) ?_
  refine mv_ rfl ?_
  refine sk_guard (guard_off 2 true 7 rfl rfl false (by decide) rfl) rfl ?_
  simp only [ls0, ls1]
  refine sk_guard (guard_off 2 true 7 rfl rfl false (by decide) rfl) rfl ?_
  refine st (.bool false) rfl rfl (xr_pick false _ rfl rfl rfl) ?_
  refine mv_ rfl ?_
  refine sk_guard (guard_off 6 true 11 rfl rfl false (by decide) rfl) rfl ?_
  simp only [ls0, ls1]
  refine sk_guard (guard_off 6 true 11 rfl rfl false (by decide) rfl) rfl ?_
  refine sk_guard (guard_off 6 true 11 rfl rfl false (by decide) rfl) rfl ?_
  refine sk_guard (guard_off 6 true 11 rfl rfl false (by decide) rfl) rfl ?_
  refine sk_guard (guard_off 6 true 11 rfl rfl false (by decide) rfl) rfl ?_
  simp only [ls0, ls1]
  refine sk_guard (guard_off 6 true 11 rfl rfl false (by decide) rfl) rfl ?_
  refine sk_guard (guard_off 6 true 11 rfl rfl false (by decide) rfl) rfl ?_
  refine st (.bool false) rfl rfl (xr_pick false _ rfl rfl rfl) ?_
  refine as_ rfl ?_
  simp only [ls0, ls1]
  refine wl_end ?_
  (try simp only [ls0, ls1])
  refine hK11 _ _ ?_
  (try clear hK11 K11)
  refine wp_ret ?_
  (try simp only [Exit.inBlock, Exit.then, Exit.noGoto])
  (try simp only [ls0, ls1])
  obtain rfl := Option.some.inj H
  refine bodyPost_ret (results_tmp rfl _ _ _) rfl ?_
  exact ⟨_, rfl, HS⟩
 | some o12 =>
  (try simp only [onOpt] at H)
  obtain ⟨g13, cs14, rfl, HX15, HK16⟩ := ptr_some HP0
  obtain ⟨Aq17_0, cpq17_0, Aq17_1, cpq17_1, Aq17_2, cpq17_2, Aq17_5, cpq17_5, Aq17_6, cpq17_6, rfl, HCq17_0, HRq17_0, HCq17_1, HRq17_1, HCq17_2, HRq17_2, HCq17_5, HRq17_5, HCq17_6, HRq17_6⟩ := k74_openF HK16
  replace HRq17_0 : Ft c [0] w (fun w_ => k78.C w_ Aq17_0 o12.f0.length o12.f0) := HRq17_0
  replace HRq17_1 : Ft c [0] w (fun w_ => (Kd.int .i64).C w_ Aq17_1 o12.f1.length o12.f1) := HRq17_1
  replace HRq17_2 : Ft c [0] w (fun w_ => (Kd.slice 3 (Kd.int .i64)).C w_ Aq17_2 o12.f2.length o12.f2) := HRq17_2
  replace HRq17_5 : Ft c [0] w (fun w_ => (Kd.int .i64).C w_ Aq17_5 o12.f5.length o12.f5) := HRq17_5
  replace HRq17_6 : Ft c [0] w (fun w_ => (Kd.int .i64).C w_ Aq17_6 o12.f6.length o12.f6) := HRq17_6
  refine st (.bool true) rfl rfl (xr_bin (.pointer (some ⟨g13, 0, none⟩)) (.pointer none) (.bool true) rfl rfl rfl (B.neq_pn ⟨_, Try.underlying24⟩ ⟨g13, 0, none⟩)) ?_
  refine mv_ rfl ?_
  refine on_guard (guard_on 2 true 7 rfl rfl rfl) ?_
  refine mv_ rfl ?_
  refine on_guard (guard_on 2 true 7 rfl rfl rfl) ?_
  refine st (.bool (decide (a1 ≥ 0))) rfl rfl (xr_bin _ _ _ rfl rfl rfl (B.geq_i64 _ _)) ?_
  simp only [ls0, ls1]
  refine st (.bool (decide (a1 ≥ 0))) rfl rfl (xr_pick true _ rfl rfl rfl) ?_
  refine mv_ rfl ?_
  by_cases c18 : a1 ≥ 0
  ·rw [if_pos c18] at H
   (try rw [(decide_eq_true c18)])
   refine on_guard (guard_on 6 true 11 rfl rfl rfl) ?_
   refine mv_ rfl ?_
   refine on_guard (guard_on 6 true 11 rfl rfl rfl) ?_
   refine mv_ rfl ?_
   simp only [ls0, ls1]
   refine on_guard (guard_on 6 true 11 rfl rfl rfl) ?_
   refine st (.pointer (some ⟨g13, 0, none⟩)) rfl rfl (xr_nilCheck _ rfl rfl) ?_
   refine on_guard (guard_on 6 true 11 rfl rfl rfl) ?_
   refine st (.pointer (some ⟨g13, 2, none⟩)) rfl rfl (xr_fieldAddr _ _ rfl rfl (bx_field2 Try.underlying74 rfl rfl (by kernel_rfl))) ?_
   refine on_guard (guard_on 6 true 11 rfl rfl rfl) ?_
   refine st (.slice Aq17_2 o12.f2.length cpq17_2) rfl rfl (xr_load _ _ rfl rfl (load_cell Try.underlying66 rfl (bx_cell (Ft.now HX15) 2 rfl))) ?_
   refine on_guard (guard_on 6 true 11 rfl rfl rfl) ?_
   refine st (.int .i64 (o12.f2.length : Int)) rfl rfl (xr_builtin #[.slice Aq17_2 o12.f2.length cpq17_2] (.int .i64 (o12.f2.length : Int)) rfl (mp_ rfl) (by first | rfl | (go_simp; done) | (go_simp; rfl) | (go_simp; exact i64_w _) | (go_simp; exact i32_w _))) ?_
   simp only [ls0, ls1]
   refine on_guard (guard_on 6 true 11 rfl rfl rfl) ?_
   refine st (.bool (decide (a1 < (o12.f2.length : Int)))) rfl rfl (xr_bin _ _ _ rfl rfl rfl (B.lss_i64 _ _)) ?_
   refine st (.bool (decide (a1 < (o12.f2.length : Int)))) rfl rfl (xr_pick true _ rfl rfl rfl) ?_
   refine as_ rfl ?_
   refine wl_end ?_
   (try simp only [ls0, ls1])
   refine hK11 _ _ ?_
   (try clear hK11 K11)
   refine wp_ret ?_
   (try simp only [Exit.inBlock, Exit.then, Exit.noGoto])
   (try simp only [ls0, ls1])
   obtain rfl := Option.some.inj H
   refine bodyPost_ret (results_tmp rfl _ _ _) rfl ?_
   exact ⟨_, rfl, HS⟩
  rw [if_neg c18] at H
  (try rw [(decide_eq_false c18)])
  refine sk_guard (guard_off 6 true 11 rfl rfl false (by decide) rfl) rfl ?_
  refine sk_guard (guard_off 6 true 11 rfl rfl false (by decide) rfl) rfl ?_
  refine sk_guard (guard_off 6 true 11 rfl rfl false (by decide) rfl) rfl ?_
  refine sk_guard (guard_off 6 true 11 rfl rfl false (by decide) rfl) rfl ?_
  simp only [ls0, ls1]
  refine sk_guard (guard_off 6 true 11 rfl rfl false (by decide) rfl) rfl ?_
  refine sk_guard (guard_off 6 true 11 rfl rfl false (by decide) rfl) rfl ?_
  refine sk_guard (guard_off 6 true 11 rfl rfl false (by decide) rfl) rfl ?_
  refine st (.bool false) rfl rfl (xr_pick false _ rfl rfl rfl) ?_
  simp only [ls0, ls1]
  refine as_ rfl ?_
  refine wl_end ?_
  (try simp only [ls0, ls1])
  refine hK11 _ _ ?_
  (try clear hK11 K11)
  refine wp_ret ?_
  (try simp only [Exit.inBlock, Exit.then, Exit.noGoto])
  (try simp only [ls0, ls1])
  obtain rfl := Option.some.inj H
  refine bodyPost_ret (results_tmp rfl _ _ _) rfl ?_
  exact ⟨_, rfl, HS⟩

/-! ### maxflow_Net_room: function 40 -/
def maxflow_Net_room.f (x0 : Option S74) (a1 : Int) : Option (Bool) := onOpt x0 (none) (fun o16 => (if 0 ≤ a1 then (if a1 < (o16.f0.length : Int) then (some (decide (((rd_T78 o16.f0 a1).f1) > 0))) else (none)) else (none)))
set_option maxHeartbeats 8000000 in
set_option maxRecDepth 100000 in
theorem maxflow_Net_room.calls (v0 : Value) (x0 : Option S74) (a1 : Int) (r : Bool) (c : Nat → Nat) (w : World) (hc : ∀ k, c k < 10) (HP0 : Ft c [0] w (fun w_ => (Kd.ptr 74 k74).K w_ x0 [v0])) (H : maxflow_Net_room.f x0 a1 = some r) :
    Calls Try.prog 40 #[v0, .int .i64 a1] w fun e w' => ∃ (c' : Nat → Nat) , e = .returned (.bool r) ∧ Step c w c' w' [] := by
 unfold maxflow_Net_room.f at H
 have HS := Step.refl c w []
 go_enter Try.func40, Try.ntmps40
 refine wp_seq_k fun K14 hK14 => ?_
 refine wl_region ?_
 refine st (.bool false) rfl rfl (xr_assign _ rfl rfl) ?_
 refine wl_end ?_
 (try simp only [ls0, ls1])
 refine hK14 _ _ ?_
 (try clear hK14 K14)
 refine wp_seq_k fun K15 hK15 => ?_
 refine wl_region ?_
 refine mv_ rfl ?_
 cases x0 with
 | none =>
  (try simp only [onOpt] at H)
  obtain rfl := ptr_none HP0
  exact absurd H (by simp)
 | some o16 =>
  (try simp only [onOpt] at H)
  obtain ⟨g17, cs18, rfl, HX19, HK20⟩ := ptr_some HP0
  obtain ⟨Aq21_0, cpq21_0, Aq21_1, cpq21_1, Aq21_2, cpq21_2, Aq21_5, cpq21_5, Aq21_6, cpq21_6, rfl, HCq21_0, HRq21_0, HCq21_1, HRq21_1, HCq21_2, HRq21_2, HCq21_5, HRq21_5, HCq21_6, HRq21_6⟩ := k74_openF HK20
  replace HRq21_0 : Ft c [0] w (fun w_ => k78.C w_ Aq21_0 o16.f0.length o16.f0) := HRq21_0
  replace HRq21_1 : Ft c [0] w (fun w_ => (Kd.int .i64).C w_ Aq21_1 o16.f1.length o16.f1) := HRq21_1
  replace HRq21_2 : Ft c [0] w (fun w_ => (Kd.slice 3 (Kd.int .i64)).C w_ Aq21_2 o16.f2.length o16.f2) := HRq21_2
  replace HRq21_5 : Ft c [0] w (fun w_ => (Kd.int .i64).C w_ Aq21_5 o16.f5.length o16.f5) := HRq21_5
  replace HRq21_6 : Ft c [0] w (fun w_ => (Kd.int .i64).C w_ Aq21_6 o16.f6.length o16.f6) := HRq21_6
  refine st (.pointer (some ⟨g17, 0, none⟩)) rfl rfl (xr_nilCheck _ rfl rfl) ?_
  refine st (.pointer (some ⟨g17, 0, none⟩)) rfl rfl (xr_fieldAddr _ _ rfl rfl (bx_field2 Try.underlying74 rfl rfl (by kernel_rfl))) ?_
  refine st (.slice Aq21_0 o16.f0.length cpq21_0) rfl rfl (xr_load _ _ rfl rfl (load_cell Try.underlying67 rfl (bx_cell (Ft.now HX19) 0 rfl))) ?_
  simp only [ls0, ls1]
  refine mv_ rfl ?_
  obtain ⟨c22, H⟩ := if_some H
  obtain ⟨c23, H⟩ := if_some H
  obtain ⟨ad24, hA25⟩ := c_addr (Ft.now HRq21_0) (pos_of (j := a1) (by first | assumption | decide) (by first | assumption | omega))
  refine st (.pointer (some (ad24.add ((a1 : Int).toNat * 2)))) rfl rfl (xr_indexAddr _ _ _ rfl rfl rfl (index_at Try.underlying67 info78 hA25 (by first | assumption | decide | omega) (by first | assumption | decide | omega))) ?_
  refine st (.pointer (some ((ad24.add ((a1 : Int).toNat * 2)).add 1))) rfl rfl (xr_fieldAddr _ _ rfl rfl (field_at2 Try.underlying78 rfl rfl (by kernel_rfl))) ?_
  refine st (.int .i64 ((rd_T78 o16.f0 a1).f1)) rfl rfl (xr_load (.pointer (some ((ad24.add ((a1 : Int).toNat * 2)).add 1))) (.int .i64 ((rd_T78 o16.f0 a1).f1)) rfl rfl (by obtain ⟨ad_, cs_, e_, _, hK_, hc_⟩ := Kd.C_get (Ft.now HRq21_0) z78 a1 (by first | assumption | decide | omega) (by first | assumption | decide | omega); rw [hA25] at e_; injection e_ with e_; subst e_; obtain rfl := k78_open hK_; exact load_cell Try.underlying2 rfl (by first | (rw [add_add]; exact hc_ 1 _ rfl) | (have h_ := hc_ 1 _ rfl; rw [Nat.add_zero] at h_; exact h_)))) ?_
  simp only [ls0, ls1]
  refine st (.bool (decide (((rd_T78 o16.f0 a1).f1) > 0))) rfl rfl (xr_bin _ _ _ rfl rfl rfl (B.gtr_i64 _ _)) ?_
  refine as_ rfl ?_
  refine wl_end ?_
  (try simp only [ls0, ls1])
  refine hK15 _ _ ?_
  (try clear hK15 K15)
  refine wp_ret ?_
  (try simp only [Exit.inBlock, Exit.then, Exit.noGoto])
  (try simp only [ls0, ls1])
  obtain rfl := Option.some.inj H
  refine bodyPost_ret (results_tmp rfl _ _ _) rfl ?_
  exact ⟨_, rfl, HS⟩

/-! ### sync_atomic_Int64_Add -/
theorem atomic_add {C : Nat → Nat} {z g tb o : Nat} {pre post xs : List Value} {w : World} {K : Value → World → Prop} {old y : Int} (HB : Bx C z w g tb xs) (hL : xs = pre ++ (.int .i64 old :: post)) (ho : pre.length = o) {r : Int} (hr : wrap64 (old + y) = r) {xs' : List Value} (hE : pre ++ (.int .i64 r :: post) = xs')
    (h : ∀ w1, Bx C z w1 g tb xs' → Step C w C w1 [z] → K (.int .i64 r) w1) :
    Calls Try.prog 49 #[.pointer (some ⟨g, o, none⟩), .int .i64 y] w fun e w' => ∃ v, e = .returned v ∧ K v w' := by
  subst hr
  obtain ⟨hb, hs⟩ := bx_set (v := .int .i64 (wrap64 (old + y))) HB hL ho hE
  have hc : w.cell? ⟨g, o, none⟩ = some (.int .i64 old) := bx_cell HB.2 o (at_get_ hL ho)
  have hk := h _ hb hs
  have hadd := run_call_add (P := Try.prog) Try.func52 (by kernel_rfl) (by kernel_rfl) (by kernel_rfl) .i64 (by kernel_rfl) (y := y) (s := wrap64 (old + y)) hc (bx_frozen HB.2 o) (by simp [go_sem]; unfold wrap64; exact IntKind.wrap_i64 _)
  clear HB hL hb hs h
  go_enter Try.func49, Try.ntmps49
  go_wp2
  go_ret
  exact ⟨_, rfl, hk⟩

/-! ### maxflow_Net_path: function 41 -/
mutual
def maxflow_Net_path.l0 : Nat → Int → Bool → Int → (List (S78)) → (List Int) → (List (List Int)) → (List Int) → (List Int) → Int → (List Int) → Int → Option (List Int × List Int × Int)
  | 0, _, _, _, _, _, _, _, _, _, _, _ => none
  | k + 1, a0_3, a0_4, a2, l0_0, l0_1, l0_2, l0_5, x7002, x7008, x7988, y7036 => if 0 ≤ x7008 then (if x7008 < (x7988.length : Int) then (if x7008 < (l0_2.length : Int) then (if (rd x7988 x7008) < ((rd_L4 l0_2 x7008).length : Int) then (if 0 ≤ (rd x7988 x7008) then (if 0 ≤ (rd (rd_L4 l0_2 x7008) (rd x7988 x7008)) then (if (rd (rd_L4 l0_2 x7008) (rd x7988 x7008)) < (l0_0.length : Int) then ((maxflow_Net_room.f (some (⟨l0_0, l0_1, l0_2, a0_3, a0_4, l0_5, x7988, (⟨y7036⟩ : S72)⟩ : S74) : Option S74) (rd (rd_L4 l0_2 x7008) (rd x7988 x7008))).bind fun t8131 => (if t8131 = true then (if 0 ≤ ((rd_T78 l0_0 (rd (rd_L4 l0_2 x7008) (rd x7988 x7008))).f0) then (if ((rd_T78 l0_0 (rd (rd_L4 l0_2 x7008) (rd x7988 x7008))).f0) < (l0_5.length : Int) then (if x7008 < (l0_5.length : Int) then (if (rd l0_5 ((rd_T78 l0_0 (rd (rd_L4 l0_2 x7008) (rd x7988 x7008))).f0)) = (wrap64 ((rd l0_5 x7008) + 1)) then (if x7002.length < 17592186044416 then ((some (x7002 ++ [rd (rd_L4 l0_2 x7008) (rd x7988 x7008)] : List Int)).bind fun y8148 => (maxflow_Net_path.l1 k a0_3 a0_4 a2 l0_0 l0_1 l0_2 l0_5 y8148 ((rd_T78 l0_0 (rd (rd_L4 l0_2 x7008) (rd x7988 x7008))).f0) x7988 y7036)) else (none)) else ((some (x7988.set (x7008 : Int).toNat (wrap64 ((rd x7988 x7008) + 1)) : List Int)).bind fun y8162 => (maxflow_Net_path.l0 k a0_3 a0_4 a2 l0_0 l0_1 l0_2 l0_5 x7002 x7008 y8162 y7036))) else (none)) else (none)) else (none)) else ((some (x7988.set (x7008 : Int).toNat (wrap64 ((rd x7988 x7008) + 1)) : List Int)).bind fun y8173 => (maxflow_Net_path.l0 k a0_3 a0_4 a2 l0_0 l0_1 l0_2 l0_5 x7002 x7008 y8173 y7036)))) else (none)) else (none)) else (none)) else (if (x7002.length : Int) = 0 then (some (([] : List Int), x7988, y7036)) else (if 0 ≤ (wrap64 ((x7002.length : Int) - 1)) then (if (wrap64 ((x7002.length : Int) - 1)) < (x7002.length : Int) then (if 0 ≤ (Go.bits .xor .i64 (rd x7002 (wrap64 ((x7002.length : Int) - 1))) 1) then (if (Go.bits .xor .i64 (rd x7002 (wrap64 ((x7002.length : Int) - 1))) 1) < (l0_0.length : Int) then (if (wrap64 ((x7002.length : Int) - 1)) ≤ (x7002.length : Int) then ((some (x7002.take (wrap64 ((x7002.length : Int) - 1) : Int).toNat : List Int)).bind fun y8199 => (if 0 ≤ ((rd_T78 l0_0 (Go.bits .xor .i64 (rd x7002 (wrap64 ((x7002.length : Int) - 1))) 1)).f0) then (if ((rd_T78 l0_0 (Go.bits .xor .i64 (rd x7002 (wrap64 ((x7002.length : Int) - 1))) 1)).f0) < (x7988.length : Int) then ((some (x7988.set ((rd_T78 l0_0 (Go.bits .xor .i64 (rd x7002 (wrap64 ((x7002.length : Int) - 1))) 1)).f0 : Int).toNat (wrap64 ((rd x7988 ((rd_T78 l0_0 (Go.bits .xor .i64 (rd x7002 (wrap64 ((x7002.length : Int) - 1))) 1)).f0)) + 1)) : List Int)).bind fun y8213 => (maxflow_Net_path.l1 k a0_3 a0_4 a2 l0_0 l0_1 l0_2 l0_5 y8199 ((rd_T78 l0_0 (Go.bits .xor .i64 (rd x7002 (wrap64 ((x7002.length : Int) - 1))) 1)).f0) y8213 y7036)) else (none)) else (none))) else (none)) else (none)) else (none)) else (none)) else (none)))) else (none)) else (none)) else (none)
def maxflow_Net_path.l1 : Nat → Int → Bool → Int → (List (S78)) → (List Int) → (List (List Int)) → (List Int) → (List Int) → Int → (List Int) → Int → Option (List Int × List Int × Int)
  | 0, _, _, _, _, _, _, _, _, _, _, _ => none
  | k + 1, a0_3, a0_4, a2, l0_0, l0_1, l0_2, l0_5, x7002, x7008, x7013, x7019 => if x7008 = a2 then (if 0 < (x7002.length : Int) then (some (x7002, x7013, x7019)) else (none)) else ((some (wrap64 (x7019 + 1) : Int)).bind fun y7036 => (maxflow_Net_path.l0 k a0_3 a0_4 a2 l0_0 l0_1 l0_2 l0_5 x7002 x7008 x7013 y7036))
end
def maxflow_Net_path.f (k : Nat) (l0_0 : List (S78)) (l0_1 : List Int) (l0_2 : List (List Int)) (a0_3 : Int) (a0_4 : Bool) (l0_5 : List Int) (l0_6 : List Int) (a0_7 : Int) (a1 : Int) (a2 : Int) : Option (List Int × List Int × Int) := maxflow_Net_path.l1 k a0_3 a0_4 a2 l0_0 l0_1 l0_2 l0_5 ([] : List Int) a1 l0_6 a0_7

set_option maxHeartbeats 8000000 in
set_option maxRecDepth 100000 in
theorem maxflow_Net_path.calls (k : Nat) (g0 : Nat) (A0_0 : Option Addr) (c0_0 : Nat) (l0_0 : List (S78)) (A0_1 : Option Addr) (c0_1 : Nat) (l0_1 : List Int) (A0_2 : Option Addr) (c0_2 : Nat) (l0_2 : List (List Int)) (a0_3 : Int) (a0_4 : Bool) (A0_5 : Option Addr) (c0_5 : Nat) (l0_5 : List Int) (A0_6 : Option Addr) (c0_6 : Nat) (l0_6 : List Int) (a0_7 : Int) (a1 : Int) (a2 : Int) (r1 : List Int) (r2 : List Int) (r3 : Int) (c : Nat → Nat) (w : World) (hc : ∀ k, c k < 10) (HP0 : Bx c 1 w g0 74 ([.slice A0_0 l0_0.length c0_0, .slice A0_1 l0_1.length c0_1, .slice A0_2 l0_2.length c0_2, .int .i64 a0_3, .bool a0_4, .slice A0_5 l0_5.length c0_5, .slice A0_6 l0_6.length c0_6, .int .i64 a0_7])) (HP0_0 : Ft c [0] w (fun w_ => k78.C w_ A0_0 l0_0.length l0_0)) (HCP0_0 : l0_0.length ≤ c0_0) (HP0_1 : Ft c [0] w (fun w_ => (Kd.int .i64).C w_ A0_1 l0_1.length l0_1)) (HCP0_1 : l0_1.length ≤ c0_1) (HP0_2 : Ft c [0] w (fun w_ => (Kd.slice 3 (Kd.int .i64)).C w_ A0_2 l0_2.length l0_2)) (HCP0_2 : l0_2.length ≤ c0_2) (HP0_5 : Ft c [0] w (fun w_ => (Kd.int .i64).C w_ A0_5 l0_5.length l0_5)) (HCP0_5 : l0_5.length ≤ c0_5) (HP0_6 : Own c 2 w (Kd.int .i64) 3 (.slice A0_6 l0_6.length c0_6) l0_6) (HCP0_6 : l0_6.length ≤ c0_6) (H : maxflow_Net_path.f k l0_0 l0_1 l0_2 a0_3 a0_4 l0_5 l0_6 a0_7 a1 a2 = some (r1, r2, r3)) :
    Calls Try.prog 41 #[.pointer (some ⟨g0, 0, none⟩), .int .i64 a1, .int .i64 a2] w fun e w' => ∃ (c' : Nat → Nat) (A_r1 : Option Addr) (c_r1 : Nat) (A_r2 : Option Addr) (c_r2 : Nat), e = .returned (.slice A_r1 r1.length c_r1) ∧ Step c w c' w' [1, 2] ∧ OwnG false c' 5 w' .i64 3 (.slice A_r1 r1.length c_r1) r1 ∧ r1.length ≤ c_r1 ∧ (r1 = [] → A_r1 = none) ∧ Own c' 2 w' (Kd.int .i64) 3 (.slice A_r2 r2.length c_r2) r2 ∧ r2.length ≤ c_r2 ∧ Bx c' 1 w' g0 74 ([.slice A0_0 l0_0.length c0_0, .slice A0_1 l0_1.length c0_1, .slice A0_2 l0_2.length c0_2, .int .i64 a0_3, .bool a0_4, .slice A0_5 l0_5.length c0_5, .slice A_r2 r2.length c_r2, .int .i64 r3]) := by
 unfold maxflow_Net_path.f at H
 have HS := Step.refl c w [1, 2]
 go_enter Try.func41, Try.ntmps41
 refine wp_seq_k fun K4110 hK4110 => ?_
 refine wl_region ?_
 refine st (.slice none 0 0) rfl rfl (xr_assign _ rfl rfl) ?_
 refine wl_end ?_
 (try simp only [ls0, ls1])
 refine hK4110 _ _ ?_
 (try clear hK4110 K4110)
 refine wp_scope_straight ?_
 refine wp_seq_k fun K4111 hK4111 => ?_
 refine wl_region ?_
 refine st (.slice none 0 0) rfl rfl (xr_assign _ rfl rfl) ?_
 refine wl_end ?_
 (try simp only [ls0, ls1])
 refine hK4111 _ _ ?_
 (try clear hK4111 K4111)
 refine wp_seq_k fun K4112 hK4112 => ?_
 refine wl_region ?_
 refine mv_ rfl ?_
 refine as_ rfl ?_
 refine wl_end ?_
 (try simp only [ls0, ls1])
 refine hK4112 _ _ ?_
 (try clear hK4112 K4112)
 refine wp_seq_k fun K4113 hK4113 => ?_
 refine wp_label ?_
 (try simp only [ls0, ls1])
 refine hK4113 _ _ ?_
 (try clear hK4113 K4113)
 refine wp_seq_k fun K4114 hK4114 => ?_
 refine wp_block ?_
 (try simp only [ls0, ls1])
 refine wp_looped (looped_fin (fun kq7023 a_ w7022 => ∃ (C7021 : Nat → Nat) (x7008 : Int) (x7019 : Int) (A7003 : Option Addr) (n7004 cp7005 : Nat) (x7002 : List Int) (A7014 : Option Addr) (n7015 cp7016 : Nat) (x7013 : List Int) (g_ : Nat → Value), a_ = ⟨#[.pointer (some ⟨g0, 0, none⟩), (g_ 1), .int .i64 a2, (g_ 3), (g_ 4), (g_ 5), (g_ 6), .slice A7003 n7004 cp7005, .int .i64 x7008, (g_ 9), (g_ 10), (g_ 11), (g_ 12), (g_ 13), (g_ 14), (g_ 15), (g_ 16), (g_ 17), (g_ 18), (g_ 19), (g_ 20), (g_ 21), (g_ 22), (g_ 23), (g_ 24), (g_ 25), (g_ 26), (g_ 27), (g_ 28), (g_ 29), (g_ 30), (g_ 31), (g_ 32), (g_ 33), (g_ 34), (g_ 35), (g_ 36), (g_ 37), (g_ 38), (g_ 39), (g_ 40), (g_ 41), (g_ 42), (g_ 43), (g_ 44), (g_ 45), (g_ 46), (g_ 47), (g_ 48), (g_ 49), (g_ 50), (g_ 51), (g_ 52), (g_ 53), (g_ 54), (g_ 55), (g_ 56), (g_ 57), (g_ 58), (g_ 59), (g_ 60), (g_ 61), (g_ 62), (g_ 63), (g_ 64), (g_ 65), (g_ 66), (g_ 67), (g_ 68), (g_ 69), (g_ 70), (g_ 71), (g_ 72), (g_ 73), (g_ 74), (g_ 75), (g_ 76), (g_ 77), (g_ 78), (g_ 79), (g_ 80), (g_ 81), (g_ 82), (g_ 83), (g_ 84), (g_ 85), (g_ 86), (g_ 87), (g_ 88), (g_ 89), (g_ 90), (g_ 91), (g_ 92), (g_ 93), (g_ 94), (g_ 95), (g_ 96), (g_ 97), (g_ 98), (g_ 99), (g_ 100), (g_ 101), (g_ 102), (g_ 103), (g_ 104), (g_ 105), (g_ 106), (g_ 107), (g_ 108), (g_ 109), (g_ 110), (g_ 111), (g_ 112), (g_ 113), (g_ 114), (g_ 115), (g_ 116), (g_ 117), (g_ 118), (g_ 119), (g_ 120), (g_ 121), (g_ 122), (g_ 123), (g_ 124), (g_ 125)], []⟩ ∧ Step c w C7021 w7022 [1, 2] ∧ kq7023 ≤ k ∧ (OwnG false C7021 11 w7022 .i64 3 (.slice A7003 n7004 cp7005) x7002) ∧ (n7004 ≤ cp7005) ∧ (Ft C7021 [0] w7022 (fun w_ => k78.C w_ A0_0 l0_0.length l0_0)) ∧ (Ft C7021 [0] w7022 (fun w_ => (Kd.int .i64).C w_ A0_1 l0_1.length l0_1)) ∧ (Ft C7021 [0] w7022 (fun w_ => (Kd.slice 3 (Kd.int .i64)).C w_ A0_2 l0_2.length l0_2)) ∧ (Ft C7021 [0] w7022 (fun w_ => (Kd.int .i64).C w_ A0_5 l0_5.length l0_5)) ∧ (Own C7021 2 w7022 (Kd.int .i64) 3 (.slice A7014 n7015 cp7016) x7013) ∧ (n7015 ≤ cp7016) ∧ (Bx C7021 1 w7022 g0 74 ([.slice A0_0 l0_0.length c0_0, .slice A0_1 l0_1.length c0_1, .slice A0_2 l0_2.length c0_2, .int .i64 a0_3, .bool a0_4, .slice A0_5 l0_5.length c0_5, .slice A7014 n7015 cp7016, .int .i64 x7019])) ∧ maxflow_Net_path.l1 kq7023 a0_3 a0_4 a2 l0_0 l0_1 l0_2 l0_5 x7002 x7008 x7013 x7019 = some (r1, r2, r3)) ?step fun hL_ => ?init)
 case init =>
  exact jmpL (fun a_ h_ => hL_ k a_ _ h_) (fun g_ => ⟨_, a1, a0_7, none, 0, 0, ([] : List Int), A0_6, l0_6.length, c0_6, l0_6, g_, rfl, HS, Nat.le_refl _, (OwnG.of (Own.nil _ _ _ _ _)), (Nat.le_refl 0), HP0_0, HP0_1, HP0_2, HP0_5, HP0_6, HCP0_6, HP0, H⟩) rfl
 case step =>
  intro kq7023 ih7026 a7027 w7022 hr7028
  obtain ⟨C7021, x7008, x7019, A7003, n7004, cp7005, x7002, A7014, n7015, cp7016, x7013, g_, rfl, HS7024, hk7025, HJ7007, HC7006, HJ7009, HJ7010, HJ7011, HJ7012, HJ7018, HC7017, HJ7020, H⟩ := hr7028
  refine looped_round ?_
  obtain rfl : n7004 = x7002.length := HJ7007.at_.1
  obtain rfl : n7015 = x7013.length := HJ7018.at_.1
  cases kq7023 with
  | zero => exact absurd H (by simp [maxflow_Net_path.l1])
  | succ k7029 =>
   simp only [maxflow_Net_path.l1] at H
   refine wp_seq_k fun K7030 hK7030 => ?_
   refine wp_seq_k fun K7031 hK7031 => ?_
   refine wl_region ?_
   refine mv_ rfl ?_
   refine mv_ rfl ?_
   refine st (.bool (!decide (x7008 = a2))) rfl rfl (xr_bin _ _ _ rfl rfl rfl (B.neq_i64 _ _)) ?_
   refine wl_end ?_
   (try simp only [ls0, ls1])
   refine hK7031 _ _ ?_
   (try clear hK7031 K7031)
   by_cases c7032 : x7008 = a2
   ·rw [if_pos c7032] at H
    (try rw [(decide_eq_true c7032)])
    (try simp only [Bool.not_true, Bool.not_false])
    refine wp_cond_false rfl ?_
    refine wp_exit ?_
    (try simp only [ls0, ls1])
    refine hK4114 _ _ ?_
    (try clear hK4114 K4114)
    refine wp_seq_k fun K7033 hK7033 => ?_
    refine wl_region ?_
    refine mv_ rfl ?_
    refine as_ rfl ?_
    refine wl_end ?_
    (try simp only [ls0, ls1])
    refine hK7033 _ _ ?_
    (try clear hK7033 K7033)
    refine wp_ret ?_
    (try simp only [Exit.inBlock, Exit.then, Exit.noGoto])
    obtain ⟨c7034, H⟩ := if_some H
    (try simp only [ls0, ls1])
    replace HJ7007 := OwnG.recolor (b := 5) HJ7007 (by decide)
    replace HJ7020 := Bx.recol (a := 11) (b := 5) HJ7020 (by decide)
    replace HJ7009 := Ft.recol (a := 11) (b := 5) HJ7009 (.inl rfl)
    replace HJ7010 := Ft.recol (a := 11) (b := 5) HJ7010 (.inl rfl)
    replace HJ7011 := Ft.recol (a := 11) (b := 5) HJ7011 (.inl rfl)
    replace HJ7012 := Ft.recol (a := 11) (b := 5) HJ7012 (.inl rfl)
    replace HJ7018 := Own.recol (a := 11) (b := 5) HJ7018 (by decide) (by decide)
    replace HS7024 := Step.recol (a := 11) (b := 5) HS7024 hc (by decide)
    simp only [Option.some.injEq, Prod.mk.injEq] at H
    obtain ⟨rfl, rfl, rfl⟩ := H
    refine bodyPost_ret (results_tmp rfl _ _ _) rfl ?_
    exact ⟨_, A7003, cp7005, A7014, cp7016, rfl, HS7024, HJ7007, HC7006, (nz_of (by omega)), HJ7018, HC7017, HJ7020⟩
   rw [if_neg c7032] at H
   (try rw [(decide_eq_false c7032)])
   (try simp only [Bool.not_true, Bool.not_false])
   refine wp_cond_true rfl ?_
   refine wp_skip ?_
   (try simp only [ls0, ls1])
   refine hK7030 _ _ ?_
   (try clear hK7030 K7030)
   refine wp_block ?_
   refine wp_seq_k fun K7035 hK7035 => ?_
   refine wl_region ?_
   refine mv_ rfl ?_
   refine st (.pointer (some ⟨g0, 0, none⟩)) rfl rfl (xr_nilCheck _ rfl rfl) ?_
   refine st (.pointer (some ⟨g0, 7, none⟩)) rfl rfl (xr_fieldAddr _ _ rfl rfl (bx_field2 Try.underlying74 rfl rfl (by kernel_rfl))) ?_
   obtain ⟨y7036, A7037, H⟩ := bnd H
   refine st_call #[.pointer (some ⟨g0, 7, none⟩), .int .i64 1] rfl rfl Try.func49 (by kernel_rfl) rfl rfl (mp_ rfl) ?_
   refine atomic_add (C := C7021) (pre := [.slice A0_0 l0_0.length c0_0, .slice A0_1 l0_1.length c0_1, .slice A0_2 l0_2.length c0_2, .int .i64 a0_3, .bool a0_4, .slice A0_5 l0_5.length c0_5, .slice A7014 x7013.length cp7016]) (post := []) (old := x7019) (y := 1) HJ7020 (by first | (simp only [List.append_assoc, List.cons_append, List.nil_append, List.append_nil]; done) | rfl) rfl (r := y7036) (Option.some.inj A7037) (xs' := [.slice A0_0 l0_0.length c0_0, .slice A0_1 l0_1.length c0_1, .slice A0_2 l0_2.length c0_2, .int .i64 a0_3, .bool a0_4, .slice A0_5 l0_5.length c0_5, .slice A7014 x7013.length cp7016, .int .i64 y7036]) (by first | (simp only [List.append_assoc, List.cons_append, List.nil_append, List.append_nil]; done) | rfl) ?_
   intro w7038 HX7039 hs7040
   replace HJ7007 := HJ7007.thru hs7040 rfl
   replace HJ7009 := HJ7009.thru hs7040 rfl
   replace HJ7010 := HJ7010.thru hs7040 rfl
   replace HJ7011 := HJ7011.thru hs7040 rfl
   replace HJ7012 := HJ7012.thru hs7040 rfl
   replace HJ7018 := HJ7018.thru hs7040 rfl
   replace HS7024 := HS7024.trans hs7040 hc rfl
   (try simp only [ls0, ls1])
   refine wl_end ?_
   (try simp only [ls0, ls1])
   refine hK7035 _ _ ?_
   (try clear hK7035 K7035)
   refine wp_seq_k fun K7041 hK7041 => ?_
   refine wp_block ?_
   (try simp only [ls0, ls1])
   refine wp_looped (looped_fin (fun kq7997 a_ w7996 => ∃ (C7995 : Nat → Nat) (A7989 : Option Addr) (n7990 cp7991 : Nat) (x7988 : List Int) (g_ : Nat → Value), a_ = ⟨#[.pointer (some ⟨g0, 0, none⟩), (g_ 1), .int .i64 a2, (g_ 3), (g_ 4), (g_ 5), (g_ 6), .slice A7003 x7002.length cp7005, .int .i64 x7008, (g_ 9), (g_ 10), (g_ 11), (g_ 12), (g_ 13), (g_ 14), (g_ 15), (g_ 16), (g_ 17), (g_ 18), (g_ 19), (g_ 20), (g_ 21), (g_ 22), (g_ 23), (g_ 24), (g_ 25), (g_ 26), (g_ 27), (g_ 28), (g_ 29), (g_ 30), (g_ 31), (g_ 32), (g_ 33), (g_ 34), (g_ 35), (g_ 36), (g_ 37), (g_ 38), (g_ 39), (g_ 40), (g_ 41), (g_ 42), (g_ 43), (g_ 44), (g_ 45), (g_ 46), (g_ 47), (g_ 48), (g_ 49), (g_ 50), (g_ 51), (g_ 52), (g_ 53), (g_ 54), (g_ 55), (g_ 56), (g_ 57), (g_ 58), (g_ 59), (g_ 60), (g_ 61), (g_ 62), (g_ 63), (g_ 64), (g_ 65), (g_ 66), (g_ 67), (g_ 68), (g_ 69), (g_ 70), (g_ 71), (g_ 72), (g_ 73), (g_ 74), (g_ 75), (g_ 76), (g_ 77), (g_ 78), (g_ 79), (g_ 80), (g_ 81), (g_ 82), (g_ 83), (g_ 84), (g_ 85), (g_ 86), (g_ 87), (g_ 88), (g_ 89), (g_ 90), (g_ 91), (g_ 92), (g_ 93), (g_ 94), (g_ 95), (g_ 96), (g_ 97), (g_ 98), (g_ 99), (g_ 100), (g_ 101), (g_ 102), (g_ 103), (g_ 104), (g_ 105), (g_ 106), (g_ 107), (g_ 108), (g_ 109), (g_ 110), (g_ 111), (g_ 112), (g_ 113), (g_ 114), (g_ 115), (g_ 116), (g_ 117), (g_ 118), (g_ 119), (g_ 120), (g_ 121), (g_ 122), (g_ 123), (g_ 124), (g_ 125)], []⟩ ∧ Step c w C7995 w7996 [1, 2] ∧ kq7997 ≤ k7029 ∧ (OwnG false C7995 11 w7996 .i64 3 (.slice A7003 x7002.length cp7005) x7002) ∧ (Ft C7995 [0] w7996 (fun w_ => k78.C w_ A0_0 l0_0.length l0_0)) ∧ (Ft C7995 [0] w7996 (fun w_ => (Kd.int .i64).C w_ A0_1 l0_1.length l0_1)) ∧ (Ft C7995 [0] w7996 (fun w_ => (Kd.slice 3 (Kd.int .i64)).C w_ A0_2 l0_2.length l0_2)) ∧ (Ft C7995 [0] w7996 (fun w_ => (Kd.int .i64).C w_ A0_5 l0_5.length l0_5)) ∧ (Own C7995 2 w7996 (Kd.int .i64) 3 (.slice A7989 n7990 cp7991) x7988) ∧ (n7990 ≤ cp7991) ∧ (Bx C7995 1 w7996 g0 74 ([.slice A0_0 l0_0.length c0_0, .slice A0_1 l0_1.length c0_1, .slice A0_2 l0_2.length c0_2, .int .i64 a0_3, .bool a0_4, .slice A0_5 l0_5.length c0_5, .slice A7989 n7990 cp7991, .int .i64 y7036])) ∧ maxflow_Net_path.l0 kq7997 a0_3 a0_4 a2 l0_0 l0_1 l0_2 l0_5 x7002 x7008 x7988 y7036 = some (r1, r2, r3)) ?step fun hL_ => ?init)
   case init =>
    exact jmpL (fun a_ h_ => hL_ k7029 a_ _ h_) (fun g_ => ⟨_, A7014, x7013.length, cp7016, x7013, g_, rfl, HS7024, Nat.le_refl _, HJ7007, HJ7009, HJ7010, HJ7011, HJ7012, HJ7018, HC7017, HX7039, H⟩) rfl
   case step =>
    intro kq7997 ih8000 a8001 w7996 hr8002
    obtain ⟨C7995, A7989, n7990, cp7991, x7988, g_, rfl, HS7998, hk7999, HJ7983, HJ7984, HJ7985, HJ7986, HJ7987, HJ7993, HC7992, HJ7994, H⟩ := hr8002
    refine looped_round ?_
    obtain rfl : n7990 = x7988.length := HJ7993.at_.1
    cases kq7997 with
    | zero => exact absurd H (by simp [maxflow_Net_path.l0])
    | succ k8003 =>
     simp only [maxflow_Net_path.l0] at H
     refine wp_seq_k fun K8004 hK8004 => ?_
     refine wp_seq_k fun K8005 hK8005 => ?_
     have HQ8006 := Ft.same C7995 [0] w7996
     (try simp only [ls0, ls1])
     refine al_start (lb 16 0) rfl rfl rfl (fun w_ => k78.C w_ A0_0 l0_0.length l0_0 ∧ (Kd.int .i64).C w_ A0_1 l0_1.length l0_1 ∧ (Kd.slice 3 (Kd.int .i64)).C w_ A0_2 l0_2.length l0_2 ∧ (Kd.int .i64).C w_ A0_5 l0_5.length l0_5 ∧ (Kd.int .i64).C w_ A7989 x7988.length x7988 ∧ w_.heap[g0]? = some (.cells (List.toArray ([.slice A0_0 l0_0.length c0_0, .slice A0_1 l0_1.length c0_1, .slice A0_2 l0_2.length c0_2, .int .i64 a0_3, .bool a0_4, .slice A0_5 l0_5.length c0_5, .slice A7989 x7988.length cp7991, .int .i64 y7036])) 74 (0, 0)) ∧ (∀ k_, C7995 k_ ∈ [0] → k_ < (w7996).drew.heap.size → w_.heap[k_]? = (w7996).drew.heap[k_]?)) ⟨(Ft.now (HJ7984).drew), (Ft.now (HJ7985).drew), (Ft.now (HJ7986).drew), (Ft.now (HJ7987).drew), (Ft.now ((HJ7993.ft)).drew), (HJ7994.drew).2, (Ft.now (HQ8006.drew))⟩ [] ?_
     replace HJ7983 := HJ7983.drew
     replace HJ7994 := HJ7994.drew
     replace HJ7984 := HJ7984.drew
     replace HJ7985 := HJ7985.drew
     replace HJ7986 := HJ7986.drew
     replace HJ7987 := HJ7987.drew
     replace HJ7993 := HJ7993.drew
     replace HQ8006 := HQ8006.drew
     replace HS7998 := Step.ofDrew HS7998
     replace HQ8006 := Ft.same C7995 [0] (w7996.drew)
     generalize w7996.drew = w8007 at *
     have HZ8008 := HJ7986
     refine al_mv 0 (lb 16 1) rfl rfl (by kernel_rfl) (fun _ _ _ => id) rfl ?_
     refine al_pure 1 20 (.pointer (some ⟨g0, 0, none⟩)) (lb 16 3) rfl rfl (by kernel_rfl) (fun _ _ _ => id) rfl (fun w_ => xr_nilCheck _ rfl rfl) ?_
     refine al_pure 2 21 (.pointer (some ⟨g0, 6, none⟩)) (lb 16 7) rfl rfl (by kernel_rfl) (fun _ _ _ => id) rfl (fun w_ => xr_fieldAddr _ _ rfl rfl (bx_field2 Try.underlying74 rfl rfl (by kernel_rfl))) ?_
     refine al_mv 4 (lb 16 23) rfl rfl (by kernel_rfl) (fun _ _ _ => id) rfl ?_
     simp only [ls0, ls1]
     refine al_mv 7 (lb 16 151) rfl rfl (by kernel_rfl) (fun _ _ _ => id) rfl ?_
     refine al_pure 8 27 (.pointer (some ⟨g0, 0, none⟩)) (lb 16 407) rfl rfl (by kernel_rfl) (fun _ _ _ => id) rfl (fun w_ => xr_nilCheck _ rfl rfl) ?_
     refine al_pure 9 28 (.pointer (some ⟨g0, 2, none⟩)) (lb 16 919) rfl rfl (by kernel_rfl) (fun _ _ _ => id) rfl (fun w_ => xr_fieldAddr _ _ rfl rfl (bx_field2 Try.underlying74 rfl rfl (by kernel_rfl))) ?_
     refine al_mv 11 (lb 16 2967) rfl rfl (by kernel_rfl) (fun _ _ _ => id) rfl ?_
     simp only [ls0, ls1]
     refine al_take 3 22 (.slice A7989 x7988.length cp7991) (lb 16 2975) rfl rfl (by kernel_rfl) (fun _ _ _ => id) rfl (fun w_ hS_ => xr_load _ _ rfl rfl (load_cell Try.underlying47 rfl (bx_cell hS_.2.2.2.2.2.1 6 rfl))) ⟨(Ft.now HJ7984), (Ft.now HJ7985), (Ft.now HJ7986), (Ft.now HJ7987), (Ft.now (HJ7993.ft)), (HJ7994).2, (Ft.now (HQ8006))⟩ ?_
     obtain ⟨c8009, H⟩ := if_some H
     obtain ⟨c8010, H⟩ := if_some H
     obtain ⟨g8011, hA8012⟩ := HJ7993.form (pos_of (j := x7008) (by first | assumption | decide) (by first | assumption | omega))
     refine al_pure 5 24 (.pointer (some ((⟨g8011, 0, none⟩ : Addr).add ((x7008 : Int).toNat * 1)))) (lb 16 3007) rfl rfl (by kernel_rfl) (fun _ _ _ => id) rfl (fun w_ => xr_indexAddr _ _ _ rfl rfl rfl (index_at Try.underlying47 info3 hA8012 (by first | assumption | decide | omega) (by first | assumption | decide | omega))) ?_
     refine al_take 6 25 (.int .i64 (rd x7988 x7008)) (lb 16 3071) rfl rfl (by kernel_rfl) (fun _ _ _ => id) rfl (fun w_ hS_ => xr_load _ _ rfl rfl (load_int Try.underlying3 rfl hA8012 hS_.2.2.2.2.1 (by first | assumption | decide | omega) (by first | assumption | decide | omega))) ⟨(Ft.now HJ7984), (Ft.now HJ7985), (Ft.now HJ7986), (Ft.now HJ7987), (Ft.now (HJ7993.ft)), (HJ7994).2, (Ft.now (HQ8006))⟩ ?_
     refine al_take 10 29 (.slice A0_2 l0_2.length c0_2) (lb 16 4095) rfl rfl (by kernel_rfl) (fun _ _ _ => id) rfl (fun w_ hS_ => xr_load _ _ rfl rfl (load_cell Try.underlying66 rfl (bx_cell hS_.2.2.2.2.2.1 2 rfl))) ⟨(Ft.now HJ7984), (Ft.now HJ7985), (Ft.now HJ7986), (Ft.now HJ7987), (Ft.now (HJ7993.ft)), (HJ7994).2, (Ft.now (HQ8006))⟩ ?_
     simp only [ls0, ls1]
     obtain ⟨c8013, H⟩ := if_some H
     obtain ⟨ad8014, hA8015⟩ := c_addr (Ft.now HJ7986) (pos_of (j := x7008) (by first | assumption | decide) (by first | assumption | omega))
     refine al_pure 12 31 (.pointer (some (ad8014.add ((x7008 : Int).toNat * 1)))) (lb 16 8191) rfl rfl (by kernel_rfl) (fun _ _ _ => id) rfl (fun w_ => xr_indexAddr _ _ _ rfl rfl rfl (index_at Try.underlying66 info47 hA8015 (by first | assumption | decide | omega) (by first | assumption | decide | omega))) ?_
     obtain ⟨csq8017, _, hKq8017, hcq8017, hinq8017⟩ := Ft.elem HJ7986 hA8015 [] x7008 (by first | assumption | decide | omega) (by first | assumption | decide | omega) (by decide)
     obtain ⟨Aq8017_0, cpq8017_0, rfl, HCq8017_0, HRq8017_0⟩ := slice_openF hKq8017
     replace HRq8017_0 : Ft C7995 [0] w8007 (fun w_ => (Kd.int .i64).C w_ Aq8017_0 (rd_L4 l0_2 x7008).length (rd_L4 l0_2 x7008)) := HRq8017_0
     have HNq8017 : Ft C7995 [0] w8007 (fun w_ => (Kd.int .i64).C w_ Aq8017_0 (rd_L4 l0_2 x7008).length (rd_L4 l0_2 x7008)) := HRq8017_0
     refine al_take 13 32 (.slice Aq8017_0 (rd_L4 l0_2 x7008).length cpq8017_0) (lb 16 16383) rfl rfl (by kernel_rfl) (fun _ _ _ => id) rfl (fun w_ hS_ => xr_load (.pointer (some (ad8014.add ((x7008 : Int).toNat * 1)))) (.slice Aq8017_0 (rd_L4 l0_2 x7008).length cpq8017_0) rfl rfl (load_cell Try.underlying47 rfl (by have h_ := (same_cell hS_.2.2.2.2.2.2 hinq8017 (add2_block _ _ _) (hcq8017 0 _ rfl)); rw [add_zero_] at h_; exact h_))) ⟨(Ft.now HJ7984), (Ft.now HJ7985), (Ft.now HJ7986), (Ft.now HJ7987), (Ft.now (HJ7993.ft)), (HJ7994).2, (Ft.now (HQ8006))⟩ ?_
     refine al_pure 14 33 (.int .i64 ((rd_L4 l0_2 x7008).length : Int)) (lb 16 32767) rfl rfl (by kernel_rfl) (fun _ _ _ => id) rfl (fun w_ => xr_builtin #[.slice Aq8017_0 (rd_L4 l0_2 x7008).length cpq8017_0] (.int .i64 ((rd_L4 l0_2 x7008).length : Int)) rfl (mp_ rfl) (by first | rfl | (go_simp; done) | (go_simp; rfl) | (go_simp; exact i64_w _) | (go_simp; exact i32_w _))) ?_
     refine al_pure 15 34 (.bool (decide ((rd x7988 x7008) < ((rd_L4 l0_2 x7008).length : Int)))) (lb 16 65535) rfl rfl (by kernel_rfl) (fun _ _ _ => id) rfl (fun w_ => xr_bin _ _ _ rfl rfl rfl (B.lss_i64 _ _)) ?_
     simp only [ls0, ls1]
     refine al_end (by kernel_rfl) ?_
     (try simp only [ls0, ls1])
     refine hK8005 _ _ ?_
     (try clear hK8005 K8005)
     by_cases c8018 : (rd x7988 x7008) < ((rd_L4 l0_2 x7008).length : Int)
     ·rw [if_pos c8018] at H
      (try rw [(decide_eq_true c8018)])
      refine wp_cond_true rfl ?_
      refine wp_skip ?_
      (try simp only [ls0, ls1])
      refine hK8004 _ _ ?_
      (try clear hK8004 K8004)
      refine wp_seq_k fun K8019 hK8019 => ?_
      refine wp_block ?_
      refine wp_seq_k fun K8089 hK8089 => ?_
      have HQ8090 := Ft.same C7995 [0] w8007
      (try simp only [ls0, ls1])
      refine al_start (lb 17 0) rfl rfl rfl (fun w_ => k78.C w_ A0_0 l0_0.length l0_0 ∧ (Kd.int .i64).C w_ A0_1 l0_1.length l0_1 ∧ (Kd.slice 3 (Kd.int .i64)).C w_ A0_2 l0_2.length l0_2 ∧ (Kd.int .i64).C w_ A0_5 l0_5.length l0_5 ∧ (Kd.int .i64).C w_ A7989 x7988.length x7988 ∧ w_.heap[g0]? = some (.cells (List.toArray ([.slice A0_0 l0_0.length c0_0, .slice A0_1 l0_1.length c0_1, .slice A0_2 l0_2.length c0_2, .int .i64 a0_3, .bool a0_4, .slice A0_5 l0_5.length c0_5, .slice A7989 x7988.length cp7991, .int .i64 y7036])) 74 (0, 0)) ∧ (∀ k_, C7995 k_ ∈ [0] → k_ < (w8007).drew.heap.size → w_.heap[k_]? = (w8007).drew.heap[k_]?)) ⟨(Ft.now (HJ7984).drew), (Ft.now (HJ7985).drew), (Ft.now (HJ7986).drew), (Ft.now (HJ7987).drew), (Ft.now ((HJ7993.ft)).drew), (HJ7994.drew).2, (Ft.now (HQ8090.drew))⟩ [] ?_
      replace HJ7983 := HJ7983.drew
      replace HJ7994 := HJ7994.drew
      replace HJ7984 := HJ7984.drew
      replace HJ7985 := HJ7985.drew
      replace HJ7986 := HJ7986.drew
      replace HJ7987 := HJ7987.drew
      replace HJ7993 := HJ7993.drew
      replace HRq8017_0 := HRq8017_0.drew
      replace HQ8090 := HQ8090.drew
      replace HS7998 := Step.ofDrew HS7998
      replace HQ8090 := Ft.same C7995 [0] (w8007.drew)
      generalize w8007.drew = w8091 at *
      have HZ8092 := HJ7986
      refine al_mv 0 (lb 17 1) rfl rfl (by kernel_rfl) (fun _ _ _ => id) rfl ?_
      refine al_pure 1 45 (.pointer (some ⟨g0, 0, none⟩)) (lb 17 3) rfl rfl (by kernel_rfl) (fun _ _ _ => id) rfl (fun w_ => xr_nilCheck _ rfl rfl) ?_
      refine al_pure 2 46 (.pointer (some ⟨g0, 2, none⟩)) (lb 17 7) rfl rfl (by kernel_rfl) (fun _ _ _ => id) rfl (fun w_ => xr_fieldAddr _ _ rfl rfl (bx_field2 Try.underlying74 rfl rfl (by kernel_rfl))) ?_
      refine al_mv 4 (lb 17 23) rfl rfl (by kernel_rfl) (fun _ _ _ => id) rfl ?_
      simp only [ls0, ls1]
      refine al_mv 7 (lb 17 151) rfl rfl (by kernel_rfl) (fun _ _ _ => id) rfl ?_
      refine al_pure 8 52 (.pointer (some ⟨g0, 0, none⟩)) (lb 17 407) rfl rfl (by kernel_rfl) (fun _ _ _ => id) rfl (fun w_ => xr_nilCheck _ rfl rfl) ?_
      refine al_pure 9 53 (.pointer (some ⟨g0, 6, none⟩)) (lb 17 919) rfl rfl (by kernel_rfl) (fun _ _ _ => id) rfl (fun w_ => xr_fieldAddr _ _ rfl rfl (bx_field2 Try.underlying74 rfl rfl (by kernel_rfl))) ?_
      refine al_mv 11 (lb 17 2967) rfl rfl (by kernel_rfl) (fun _ _ _ => id) rfl ?_
      simp only [ls0, ls1]
      refine al_take 3 47 (.slice A0_2 l0_2.length c0_2) (lb 17 2975) rfl rfl (by kernel_rfl) (fun _ _ _ => id) rfl (fun w_ hS_ => xr_load _ _ rfl rfl (load_cell Try.underlying66 rfl (bx_cell hS_.2.2.2.2.2.1 2 rfl))) ⟨(Ft.now HJ7984), (Ft.now HJ7985), (Ft.now HJ7986), (Ft.now HJ7987), (Ft.now (HJ7993.ft)), (HJ7994).2, (Ft.now (HQ8090))⟩ ?_
      obtain ⟨ad8093, hA8094⟩ := c_addr (Ft.now HJ7986) (pos_of (j := x7008) (by first | assumption | decide) (by first | assumption | omega))
      refine al_pure 5 49 (.pointer (some (ad8093.add ((x7008 : Int).toNat * 1)))) (lb 17 3007) rfl rfl (by kernel_rfl) (fun _ _ _ => id) rfl (fun w_ => xr_indexAddr _ _ _ rfl rfl rfl (index_at Try.underlying66 info47 hA8094 (by first | assumption | decide | omega) (by first | assumption | decide | omega))) ?_
      obtain ⟨csq8096, _, hKq8096, hcq8096, hinq8096⟩ := Ft.elem HJ7986 hA8094 [] x7008 (by first | assumption | decide | omega) (by first | assumption | decide | omega) (by decide)
      obtain ⟨Aq8096_0, cpq8096_0, rfl, HCq8096_0, HRq8096_0⟩ := slice_openF hKq8096
      replace HRq8096_0 : Ft C7995 [0] w8091 (fun w_ => (Kd.int .i64).C w_ Aq8096_0 (rd_L4 l0_2 x7008).length (rd_L4 l0_2 x7008)) := HRq8096_0
      have HNq8096 : Ft C7995 [0] w8091 (fun w_ => (Kd.int .i64).C w_ Aq8096_0 (rd_L4 l0_2 x7008).length (rd_L4 l0_2 x7008)) := HRq8096_0
      refine al_take 6 50 (.slice Aq8096_0 (rd_L4 l0_2 x7008).length cpq8096_0) (lb 17 3071) rfl rfl (by kernel_rfl) (fun _ _ _ => id) rfl (fun w_ hS_ => xr_load (.pointer (some (ad8093.add ((x7008 : Int).toNat * 1)))) (.slice Aq8096_0 (rd_L4 l0_2 x7008).length cpq8096_0) rfl rfl (load_cell Try.underlying47 rfl (by have h_ := (same_cell hS_.2.2.2.2.2.2 hinq8096 (add2_block _ _ _) (hcq8096 0 _ rfl)); rw [add_zero_] at h_; exact h_))) ⟨(Ft.now HJ7984), (Ft.now HJ7985), (Ft.now HJ7986), (Ft.now HJ7987), (Ft.now (HJ7993.ft)), (HJ7994).2, (Ft.now (HQ8090))⟩ ?_
      refine al_take 10 54 (.slice A7989 x7988.length cp7991) (lb 17 4095) rfl rfl (by kernel_rfl) (fun _ _ _ => id) rfl (fun w_ hS_ => xr_load _ _ rfl rfl (load_cell Try.underlying47 rfl (bx_cell hS_.2.2.2.2.2.1 6 rfl))) ⟨(Ft.now HJ7984), (Ft.now HJ7985), (Ft.now HJ7986), (Ft.now HJ7987), (Ft.now (HJ7993.ft)), (HJ7994).2, (Ft.now (HQ8090))⟩ ?_
      simp only [ls0, ls1]
      obtain ⟨g8097, hA8098⟩ := HJ7993.form (pos_of (j := x7008) (by first | assumption | decide) (by first | assumption | omega))
      refine al_pure 12 56 (.pointer (some ((⟨g8097, 0, none⟩ : Addr).add ((x7008 : Int).toNat * 1)))) (lb 17 8191) rfl rfl (by kernel_rfl) (fun _ _ _ => id) rfl (fun w_ => xr_indexAddr _ _ _ rfl rfl rfl (index_at Try.underlying47 info3 hA8098 (by first | assumption | decide | omega) (by first | assumption | decide | omega))) ?_
      refine al_take 13 57 (.int .i64 (rd x7988 x7008)) (lb 17 16383) rfl rfl (by kernel_rfl) (fun _ _ _ => id) rfl (fun w_ hS_ => xr_load _ _ rfl rfl (load_int Try.underlying3 rfl hA8098 hS_.2.2.2.2.1 (by first | assumption | decide | omega) (by first | assumption | decide | omega))) ⟨(Ft.now HJ7984), (Ft.now HJ7985), (Ft.now HJ7986), (Ft.now HJ7987), (Ft.now (HJ7993.ft)), (HJ7994).2, (Ft.now (HQ8090))⟩ ?_
      obtain ⟨c8099, H⟩ := if_some H
      obtain ⟨ad8100, hA8101⟩ := c_addr (Ft.now HRq8096_0) (pos_of (j := (rd x7988 x7008)) (by first | assumption | decide) (by first | assumption | omega))
      refine al_pure 14 58 (.pointer (some (ad8100.add ((rd x7988 x7008 : Int).toNat * 1)))) (lb 17 32767) rfl rfl (by kernel_rfl) (fun _ _ _ => id) rfl (fun w_ => xr_indexAddr _ _ _ rfl rfl rfl (index_at Try.underlying47 info3 hA8101 (by first | assumption | decide | omega) (by first | assumption | decide | omega))) ?_
      refine al_take 15 59 (.int .i64 (rd (rd_L4 l0_2 x7008) (rd x7988 x7008))) (lb 17 65535) rfl rfl (by kernel_rfl) (fun _ _ _ => id) rfl (fun w_ hS_ => xr_load _ _ rfl rfl (load_int Try.underlying3 rfl hA8101 (HNq8096 _ (hS_.2.2.2.2.2.2)) (by first | assumption | decide | omega) (by first | assumption | decide | omega))) ⟨(Ft.now HJ7984), (Ft.now HJ7985), (Ft.now HJ7986), (Ft.now HJ7987), (Ft.now (HJ7993.ft)), (HJ7994).2, (Ft.now (HQ8090))⟩ ?_
      simp only [ls0, ls1]
      refine al_as 16 (lb 17 131071) rfl rfl (by kernel_rfl) (fun _ _ _ => id) rfl ?_
      refine al_end (by kernel_rfl) ?_
      (try simp only [ls0, ls1])
      refine hK8089 _ _ ?_
      (try clear hK8089 K8089)
      refine wp_seq_k fun K8102 hK8102 => ?_
      refine wl_region ?_
      refine mv_ rfl ?_
      refine st (.pointer (some ⟨g0, 0, none⟩)) rfl rfl (xr_nilCheck _ rfl rfl) ?_
      refine st (.pointer (some ⟨g0, 0, none⟩)) rfl rfl (xr_fieldAddr _ _ rfl rfl (bx_field2 Try.underlying74 rfl rfl (by kernel_rfl))) ?_
      refine st (.slice A0_0 l0_0.length c0_0) rfl rfl (xr_load _ _ rfl rfl (load_cell Try.underlying67 rfl (bx_cell (HJ7994).2 0 rfl))) ?_
      simp only [ls0, ls1]
      refine mv_ rfl ?_
      obtain ⟨c8103, H⟩ := if_some H
      obtain ⟨c8104, H⟩ := if_some H
      obtain ⟨ad8105, hA8106⟩ := c_addr (Ft.now HJ7984) (pos_of (j := (rd (rd_L4 l0_2 x7008) (rd x7988 x7008))) (by first | assumption | decide) (by first | assumption | omega))
      refine st (.pointer (some (ad8105.add ((rd (rd_L4 l0_2 x7008) (rd x7988 x7008) : Int).toNat * 2)))) rfl rfl (xr_indexAddr _ _ _ rfl rfl rfl (index_at Try.underlying67 info78 hA8106 (by first | assumption | decide | omega) (by first | assumption | decide | omega))) ?_
      refine st (.pointer (some ((ad8105.add ((rd (rd_L4 l0_2 x7008) (rd x7988 x7008) : Int).toNat * 2)).add 0))) rfl rfl (xr_fieldAddr _ _ rfl rfl (field_at2 Try.underlying78 rfl rfl (by kernel_rfl))) ?_
      refine st (.int .i64 ((rd_T78 l0_0 (rd (rd_L4 l0_2 x7008) (rd x7988 x7008))).f0)) rfl rfl (xr_load (.pointer (some ((ad8105.add ((rd (rd_L4 l0_2 x7008) (rd x7988 x7008) : Int).toNat * 2)).add 0))) (.int .i64 ((rd_T78 l0_0 (rd (rd_L4 l0_2 x7008) (rd x7988 x7008))).f0)) rfl rfl (by obtain ⟨ad_, cs_, e_, _, hK_, hc_⟩ := Kd.C_get (Ft.now HJ7984) z78 (rd (rd_L4 l0_2 x7008) (rd x7988 x7008)) (by first | assumption | decide | omega) (by first | assumption | decide | omega); rw [hA8106] at e_; injection e_ with e_; subst e_; obtain rfl := k78_open hK_; exact load_cell Try.underlying3 rfl (by first | (rw [add_add]; exact hc_ 0 _ rfl) | (have h_ := hc_ 0 _ rfl; rw [Nat.add_zero] at h_; exact h_)))) ?_
      simp only [ls0, ls1]
      refine as_ rfl ?_
      refine wl_end ?_
      (try simp only [ls0, ls1])
      refine hK8102 _ _ ?_
      (try clear hK8102 K8102)
      refine wp_seq_k fun K8108 hK8108 => ?_
      have HQ8127 := Ft.same C7995 [0] w8091
      (try simp only [ls0, ls1])
      refine al_start (lb 21 0) rfl rfl rfl (fun w_ => k78.C w_ A0_0 l0_0.length l0_0 ∧ (Kd.int .i64).C w_ A0_1 l0_1.length l0_1 ∧ (Kd.slice 3 (Kd.int .i64)).C w_ A0_2 l0_2.length l0_2 ∧ (Kd.int .i64).C w_ A0_5 l0_5.length l0_5 ∧ (Kd.int .i64).C w_ A7989 x7988.length x7988 ∧ w_.heap[g0]? = some (.cells (List.toArray ([.slice A0_0 l0_0.length c0_0, .slice A0_1 l0_1.length c0_1, .slice A0_2 l0_2.length c0_2, .int .i64 a0_3, .bool a0_4, .slice A0_5 l0_5.length c0_5, .slice A7989 x7988.length cp7991, .int .i64 y7036])) 74 (0, 0)) ∧ (∀ k_, C7995 k_ ∈ [0] → k_ < (w8091).drew.heap.size → w_.heap[k_]? = (w8091).drew.heap[k_]?)) ⟨(Ft.now (HJ7984).drew), (Ft.now (HJ7985).drew), (Ft.now (HJ7986).drew), (Ft.now (HJ7987).drew), (Ft.now ((HJ7993.ft)).drew), (HJ7994.drew).2, (Ft.now (HQ8127.drew))⟩ [] ?_
      replace HJ7983 := HJ7983.drew
      replace HJ7994 := HJ7994.drew
      replace HJ7984 := HJ7984.drew
      replace HJ7985 := HJ7985.drew
      replace HJ7986 := HJ7986.drew
      replace HJ7987 := HJ7987.drew
      replace HJ7993 := HJ7993.drew
      replace HRq8017_0 := HRq8017_0.drew
      replace HRq8096_0 := HRq8096_0.drew
      replace HQ8127 := HQ8127.drew
      replace HS7998 := Step.ofDrew HS7998
      replace HQ8127 := Ft.same C7995 [0] (w8091.drew)
      generalize w8091.drew = w8128 at *
      have HZ8129 := HJ7986
      refine al_mv 0 (lb 21 1) rfl rfl (by kernel_rfl) (fun _ _ _ => id) rfl ?_
      refine al_mv 1 (lb 21 3) rfl rfl (by kernel_rfl) (fun _ _ _ => id) rfl ?_
      have HP8130 : Ft C7995 [0, 1, 2] w8128 (fun w_ => (Kd.ptr 74 k74).K w_ (some (⟨l0_0, l0_1, l0_2, a0_3, a0_4, l0_5, x7988, (⟨y7036⟩ : S72)⟩ : S74)) [.pointer (some ⟨g0, 0, none⟩)]) := ptr_mk (Ft.more (HJ7994.ft) rfl) (k74_mkF _ _ (⟨l0_0, l0_1, l0_2, a0_3, a0_4, l0_5, x7988, (⟨y7036⟩ : S72)⟩ : S74) HCP0_0 (Ft.more HJ7984 rfl) HCP0_1 (Ft.more HJ7985 rfl) HCP0_2 (Ft.more HJ7986 rfl) HCP0_5 (Ft.more HJ7987 rfl) HC7992 (Ft.more (HJ7993.ft) rfl))
      obtain ⟨t8131, A8132, H⟩ := bnd H
      refine al_one 2 (lb 21 7) rfl rfl (by kernel_rfl) rfl (fun K_ hK_ => ?_)
      refine goes_ Try.func40 (by kernel_rfl) rfl #[.pointer (some ⟨g0, 0, none⟩), .int .i64 (rd (rd_L4 l0_2 x7008) (rd x7988 x7008))] rfl rfl rfl (mpe_ rfl) ?_
      refine (maxflow_Net_room.calls (.pointer (some ⟨g0, 0, none⟩)) (some (⟨l0_0, l0_1, l0_2, a0_3, a0_4, l0_5, x7988, (⟨y7036⟩ : S72)⟩ : S74) : Option S74) (rd (rd_L4 l0_2 x7008) (rd x7988 x7008)) t8131  (fun z_ => pal [(0, 0), (1, 0), (2, 0)] (C7995 z_)) w8128 (fun _ => pal_lt rfl _) (Ft.arg HP8130 rfl) A8132).mono ?_
      rintro _ w8134 ⟨C8135, rfl, hs8136⟩
      refine ⟨_, rfl, ?_⟩
      replace hs8136 := Step.lift (U := [(0, 0)]) hs8136 [] rfl rfl
      generalize up C7995 C8135 w8128.heap.size [(0, 0)] = C8135_ at hs8136
      replace HJ7983 := HJ7983.thru hs8136 rfl
      replace HJ7994 := HJ7994.thru hs8136 rfl
      replace HJ7984 := HJ7984.thru hs8136 rfl
      replace HJ7985 := HJ7985.thru hs8136 rfl
      replace HJ7986 := HJ7986.thru hs8136 rfl
      replace HJ7987 := HJ7987.thru hs8136 rfl
      replace HJ7993 := HJ7993.thru hs8136 rfl
      replace HQ8127 := HQ8127.thru hs8136 rfl
      replace HS7998 := HS7998.trans hs8136 hc rfl
      refine hK_ _ _ ⟨(Ft.now HJ7984), (Ft.now HJ7985), (Ft.now HJ7986), (Ft.now HJ7987), (Ft.now (HJ7993.ft)), (HJ7994).2, (Ft.now (HQ8127))⟩ ?_
      clear hK_ K_
      (try simp only [Act.put, List.setIfInBounds_toArray, ls0, ls1])
      refine al_mv 3 (lb 21 15) rfl rfl (by kernel_rfl) (fun _ _ _ => id) rfl ?_
      by_cases c8137 : t8131 = true
      ·rw [if_pos c8137] at H
       (try rw [c8137])
       refine al_mv 4 (lb 21 31) rfl rfl (by kernel_rfl) (fun _ _ _ => id) (guard_on 3 true 71 rfl rfl rfl) ?_
       refine al_pure 5 73 (.pointer (some ⟨g0, 0, none⟩)) (lb 21 63) rfl rfl (by kernel_rfl) (fun _ _ _ => id) (guard_on 3 true 71 rfl rfl rfl) (fun w_ => xr_nilCheck _ rfl rfl) ?_
       refine al_pure 6 74 (.pointer (some ⟨g0, 5, none⟩)) (lb 21 127) rfl rfl (by kernel_rfl) (fun _ _ _ => id) (guard_on 3 true 71 rfl rfl rfl) (fun w_ => xr_fieldAddr _ _ rfl rfl (bx_field2 Try.underlying74 rfl rfl (by kernel_rfl))) ?_
       simp only [ls0, ls1]
       refine al_mv 8 (lb 21 383) rfl rfl (by kernel_rfl) (fun _ _ _ => id) (guard_on 3 true 71 rfl rfl rfl) ?_
       refine al_mv 11 (lb 21 2431) rfl rfl (by kernel_rfl) (fun _ _ _ => id) (guard_on 3 true 71 rfl rfl rfl) ?_
       refine al_pure 12 80 (.pointer (some ⟨g0, 0, none⟩)) (lb 21 6527) rfl rfl (by kernel_rfl) (fun _ _ _ => id) (guard_on 3 true 71 rfl rfl rfl) (fun w_ => xr_nilCheck _ rfl rfl) ?_
       refine al_pure 13 81 (.pointer (some ⟨g0, 5, none⟩)) (lb 21 14719) rfl rfl (by kernel_rfl) (fun _ _ _ => id) (guard_on 3 true 71 rfl rfl rfl) (fun w_ => xr_fieldAddr _ _ rfl rfl (bx_field2 Try.underlying74 rfl rfl (by kernel_rfl))) ?_
       simp only [ls0, ls1]
       refine al_mv 15 (lb 21 47487) rfl rfl (by kernel_rfl) (fun _ _ _ => id) (guard_on 3 true 71 rfl rfl rfl) ?_
       refine al_take 7 75 (.slice A0_5 l0_5.length c0_5) (lb 21 47615) rfl rfl (by kernel_rfl) (fun _ _ _ => id) (guard_on 3 true 71 rfl rfl rfl) (fun w_ hS_ => xr_load _ _ rfl rfl (load_cell Try.underlying47 rfl (bx_cell hS_.2.2.2.2.2.1 5 rfl))) ⟨(Ft.now HJ7984), (Ft.now HJ7985), (Ft.now HJ7986), (Ft.now HJ7987), (Ft.now (HJ7993.ft)), (HJ7994).2, (Ft.now (HQ8127))⟩ ?_
       obtain ⟨c8138, H⟩ := if_some H
       obtain ⟨c8139, H⟩ := if_some H
       obtain ⟨ad8140, hA8141⟩ := c_addr (Ft.now HJ7987) (pos_of (j := ((rd_T78 l0_0 (rd (rd_L4 l0_2 x7008) (rd x7988 x7008))).f0)) (by first | assumption | decide) (by first | assumption | omega))
       refine al_pure 9 77 (.pointer (some (ad8140.add (((rd_T78 l0_0 (rd (rd_L4 l0_2 x7008) (rd x7988 x7008))).f0 : Int).toNat * 1)))) (lb 21 48127) rfl rfl (by kernel_rfl) (fun _ _ _ => id) (guard_on 3 true 71 rfl rfl rfl) (fun w_ => xr_indexAddr _ _ _ rfl rfl rfl (index_at Try.underlying47 info3 hA8141 (by first | assumption | decide | omega) (by first | assumption | decide | omega))) ?_
       refine al_take 10 78 (.int .i64 (rd l0_5 ((rd_T78 l0_0 (rd (rd_L4 l0_2 x7008) (rd x7988 x7008))).f0))) (lb 21 49151) rfl rfl (by kernel_rfl) (fun _ _ _ => id) (guard_on 3 true 71 rfl rfl rfl) (fun w_ hS_ => xr_load _ _ rfl rfl (load_int Try.underlying3 rfl hA8141 hS_.2.2.2.1 (by first | assumption | decide | omega) (by first | assumption | decide | omega))) ⟨(Ft.now HJ7984), (Ft.now HJ7985), (Ft.now HJ7986), (Ft.now HJ7987), (Ft.now (HJ7993.ft)), (HJ7994).2, (Ft.now (HQ8127))⟩ ?_
       simp only [ls0, ls1]
       refine al_take 14 82 (.slice A0_5 l0_5.length c0_5) (lb 21 65535) rfl rfl (by kernel_rfl) (fun _ _ _ => id) (guard_on 3 true 71 rfl rfl rfl) (fun w_ hS_ => xr_load _ _ rfl rfl (load_cell Try.underlying47 rfl (bx_cell hS_.2.2.2.2.2.1 5 rfl))) ⟨(Ft.now HJ7984), (Ft.now HJ7985), (Ft.now HJ7986), (Ft.now HJ7987), (Ft.now (HJ7993.ft)), (HJ7994).2, (Ft.now (HQ8127))⟩ ?_
       obtain ⟨c8142, H⟩ := if_some H
       obtain ⟨ad8143, hA8144⟩ := c_addr (Ft.now HJ7987) (pos_of (j := x7008) (by first | assumption | decide) (by first | assumption | omega))
       refine al_pure 16 84 (.pointer (some (ad8143.add ((x7008 : Int).toNat * 1)))) (lb 21 131071) rfl rfl (by kernel_rfl) (fun _ _ _ => id) (guard_on 3 true 71 rfl rfl rfl) (fun w_ => xr_indexAddr _ _ _ rfl rfl rfl (index_at Try.underlying47 info3 hA8144 (by first | assumption | decide | omega) (by first | assumption | decide | omega))) ?_
       refine al_take 17 85 (.int .i64 (rd l0_5 x7008)) (lb 21 262143) rfl rfl (by kernel_rfl) (fun _ _ _ => id) (guard_on 3 true 71 rfl rfl rfl) (fun w_ hS_ => xr_load _ _ rfl rfl (load_int Try.underlying3 rfl hA8144 hS_.2.2.2.1 (by first | assumption | decide | omega) (by first | assumption | decide | omega))) ⟨(Ft.now HJ7984), (Ft.now HJ7985), (Ft.now HJ7986), (Ft.now HJ7987), (Ft.now (HJ7993.ft)), (HJ7994).2, (Ft.now (HQ8127))⟩ ?_
       refine al_pure 18 86 (.int .i64 (wrap64 ((rd l0_5 x7008) + 1))) (lb 21 524287) rfl rfl (by kernel_rfl) (fun _ _ _ => id) (guard_on 3 true 71 rfl rfl rfl) (fun w_ => xr_bin _ _ _ rfl rfl rfl (B.add_i64 _ _)) ?_
       simp only [ls0, ls1]
       refine al_pure 19 87 (.bool (decide ((rd l0_5 ((rd_T78 l0_0 (rd (rd_L4 l0_2 x7008) (rd x7988 x7008))).f0)) = (wrap64 ((rd l0_5 x7008) + 1))))) (lb 21 1048575) rfl rfl (by kernel_rfl) (fun _ _ _ => id) (guard_on 3 true 71 rfl rfl rfl) (fun w_ => xr_bin _ _ _ rfl rfl rfl (B.eql_i64 _ _)) ?_
       refine al_pure 20 88 (.bool (decide ((rd l0_5 ((rd_T78 l0_0 (rd (rd_L4 l0_2 x7008) (rd x7988 x7008))).f0)) = (wrap64 ((rd l0_5 x7008) + 1))))) (lb 21 2097151) rfl rfl (by kernel_rfl) (fun _ _ _ => id) rfl (fun w_ => xr_pick true _ rfl rfl rfl) ?_
       refine al_end (by kernel_rfl) ?_
       (try simp only [ls0, ls1])
       refine hK8108 _ _ ?_
       (try clear hK8108 K8108)
       by_cases c8145 : (rd l0_5 ((rd_T78 l0_0 (rd (rd_L4 l0_2 x7008) (rd x7988 x7008))).f0)) = (wrap64 ((rd l0_5 x7008) + 1))
       ·rw [if_pos c8145] at H
        (try rw [(decide_eq_true c8145)])
        refine wp_cond_true rfl ?_
        refine wp_seq_k fun K8146 hK8146 => ?_
        refine wl_region ?_
        refine mv_ rfl ?_
        refine mv_ rfl ?_
        refine ev_run (w1 := w8134.alloc (.cells #[.int .i64 (rd (rd_L4 l0_2 x7008) (rd x7988 x7008))] 3)) (.slice (some ⟨w8134.heap.size, 0, none⟩) 1 1) rfl rfl (by first | (go_simp; done) | (go_simp; rfl)) ?_
        (try simp only [Act.put, List.setIfInBounds_toArray, ls0, ls1])
        obtain ⟨c8147, H⟩ := if_some H
        obtain ⟨y8148, A8149, H⟩ := bnd H
        refine OwnG.append .i64 (C := C8135_) (i := 11) rfl (.tmp 89) (.tmp 91) 47 3 8 rfl Try.underlying47 info3 (by decide) (.slice A7003 x7002.length cp7005) x7002 (rd (rd_L4 l0_2 x7008) (rd x7988 x7008)) rfl rfl HJ7983 (by decide) (by omega) (Option.some.inj A8149) ?_
        intro A8150 cp8151 w8152 C8153 HO8154 HC8155 hs8156
        replace HJ7994 := HJ7994.thru hs8156 rfl
        replace HJ7984 := HJ7984.thru hs8156 rfl
        replace HJ7985 := HJ7985.thru hs8156 rfl
        replace HJ7986 := HJ7986.thru hs8156 rfl
        replace HJ7987 := HJ7987.thru hs8156 rfl
        replace HJ7993 := HJ7993.thru hs8156 rfl
        replace HS7998 := HS7998.trans hs8156 hc rfl
        (try simp only [Act.put, List.setIfInBounds_toArray, ls0, ls1])
        refine as_ rfl ?_
        refine wl_end ?_
        (try simp only [ls0, ls1])
        refine hK8146 _ _ ?_
        (try clear hK8146 K8146)
        refine wp_seq_k fun K8157 hK8157 => ?_
        refine wl_region ?_
        refine mv_ rfl ?_
        refine as_ rfl ?_
        refine wl_end ?_
        (try simp only [ls0, ls1])
        refine hK8157 _ _ ?_
        (try clear hK8157 K8157)
        refine wp_exit ?_
        (try simp only [ls0, ls1])
        exact jmpL (fun a_ h_ => ih7026 k8003 (by omega) a_ _ h_) (fun g_ => ⟨_, (rd_T78 l0_0 (rd (rd_L4 l0_2 x7008) (rd x7988 x7008))).f0, y7036, A8150, y8148.length, cp8151, y8148, A7989, x7988.length, cp7991, x7988, g_, rfl, HS7998, (by omega), HO8154, HC8155, HJ7984, HJ7985, HJ7986, HJ7987, HJ7993, HC7992, HJ7994, H⟩) rfl
       rw [if_neg c8145] at H
       (try rw [(decide_eq_false c8145)])
       refine wp_cond_false rfl ?_
       refine wp_skip ?_
       (try simp only [ls0, ls1])
       refine hK8019 _ _ ?_
       (try clear hK8019 K8019)
       refine wl_region ?_
       refine mv_ rfl ?_
       refine st (.pointer (some ⟨g0, 0, none⟩)) rfl rfl (xr_nilCheck _ rfl rfl) ?_
       refine st (.pointer (some ⟨g0, 6, none⟩)) rfl rfl (xr_fieldAddr _ _ rfl rfl (bx_field2 Try.underlying74 rfl rfl (by kernel_rfl))) ?_
       refine st (.slice A7989 x7988.length cp7991) rfl rfl (xr_load _ _ rfl rfl (load_cell Try.underlying47 rfl (bx_cell (HJ7994).2 6 rfl))) ?_
       simp only [ls0, ls1]
       refine mv_ rfl ?_
       obtain ⟨g8158, hA8159⟩ := HJ7993.form (pos_of (j := x7008) (by first | assumption | decide) (by first | assumption | omega))
       refine st (.pointer (some ((⟨g8158, 0, none⟩ : Addr).add ((x7008 : Int).toNat * 1)))) rfl rfl (xr_indexAddr _ _ _ rfl rfl rfl (index_at Try.underlying47 info3 hA8159 (by first | assumption | decide | omega) (by first | assumption | decide | omega))) ?_
       refine st (.int .i64 (rd x7988 x7008)) rfl rfl (xr_load _ _ rfl rfl (load_int Try.underlying3 rfl hA8159 (Ft.now (HJ7993.ft)) (by first | assumption | decide | omega) (by first | assumption | decide | omega))) ?_
       refine st (.int .i64 (wrap64 ((rd x7988 x7008) + 1))) rfl rfl (xr_bin _ _ _ rfl rfl rfl (B.add_i64 _ _)) ?_
       simp only [ls0, ls1]
       obtain ⟨g8160, hA8161⟩ := HJ7993.form (pos_of (j := x7008) (by first | assumption | decide) (by first | assumption | omega))
       refine st (.pointer (some ((⟨g8160, 0, none⟩ : Addr).add ((x7008 : Int).toNat * 1)))) rfl rfl (xr_indexAddr _ _ _ rfl rfl rfl (index_at Try.underlying47 info3 hA8161 (by first | assumption | decide | omega) (by first | assumption | decide | omega))) ?_
       obtain ⟨y8162, A8163, H⟩ := bnd H
       refine Own.store1 (Kd.int .i64) (C := C8135_) (i := 2) rfl rfl 3 _ _ rfl 3 1 x7008 x7988 (wrap64 ((rd x7988 x7008) + 1)) (.int .i64 (wrap64 ((rd x7988 x7008) + 1))) [.int .i64 (wrap64 ((rd x7988 x7008) + 1))] hA8161 rfl rfl rfl rfl (by kernel_rfl) (by simp [Value.oneCell']) rfl HJ7993 (by decide) (by first | assumption | decide | omega) (by first | assumption | decide | omega) (fk_int .i64 _ _ (wrap64 ((rd x7988 x7008) + 1))) (Option.some.inj A8163) ?_
       intro w8164 C8165 HO8166 HC8168 hs8167
       replace HJ7983 := HJ7983.thru hs8167 rfl
       replace HJ7994 := HJ7994.thru hs8167 rfl
       replace HJ7984 := HJ7984.thru hs8167 rfl
       replace HJ7985 := HJ7985.thru hs8167 rfl
       replace HJ7986 := HJ7986.thru hs8167 rfl
       replace HJ7987 := HJ7987.thru hs8167 rfl
       replace HS7998 := HS7998.trans hs8167 hc rfl
       (try simp only [ls0, ls1])
       (try rw [show x7988.length = y8162.length by rw [← Option.some.inj A8163, List.length_set]])
       (try rw [show x7988.length = y8162.length by rw [← Option.some.inj A8163, List.length_set]] at HJ7994)
       refine wl_end ?_
       (try simp only [ls0, ls1])
       exact jmpL (fun a_ h_ => ih8000 k8003 (by omega) a_ _ h_) (fun g_ => ⟨_, A7989, y8162.length, cp7991, y8162, g_, rfl, HS7998, (by omega), HJ7983, HJ7984, HJ7985, HJ7986, HJ7987, HO8166, HC8168, HJ7994, H⟩) rfl
      rw [if_neg c8137] at H
      (try rw [(Bool.eq_false_iff.mpr c8137)])
      refine al_off 4 72 (lb 21 31) rfl rfl (by kernel_rfl) (fun _ _ _ => id) (guard_off 3 true 71 rfl rfl false (by decide) rfl) ?_
      refine al_off 5 73 (lb 21 63) rfl rfl (by kernel_rfl) (fun _ _ _ => id) (guard_off 3 true 71 rfl rfl false (by decide) rfl) ?_
      refine al_off 6 74 (lb 21 127) rfl rfl (by kernel_rfl) (fun _ _ _ => id) (guard_off 3 true 71 rfl rfl false (by decide) rfl) ?_
      refine al_off 7 75 (lb 21 255) rfl rfl (by kernel_rfl) (fun _ _ _ => id) (guard_off 3 true 71 rfl rfl false (by decide) rfl) ?_
      simp only [ls0, ls1]
      refine al_off 8 76 (lb 21 511) rfl rfl (by kernel_rfl) (fun _ _ _ => id) (guard_off 3 true 71 rfl rfl false (by decide) rfl) ?_
      refine al_off 9 77 (lb 21 1023) rfl rfl (by kernel_rfl) (fun _ _ _ => id) (guard_off 3 true 71 rfl rfl false (by decide) rfl) ?_
      refine al_off 10 78 (lb 21 2047) rfl rfl (by kernel_rfl) (fun _ _ _ => id) (guard_off 3 true 71 rfl rfl false (by decide) rfl) ?_
      refine al_off 11 79 (lb 21 4095) rfl rfl (by kernel_rfl) (fun _ _ _ => id) (guard_off 3 true 71 rfl rfl false (by decide) rfl) ?_
      simp only [ls0, ls1]
      refine al_off 12 80 (lb 21 8191) rfl rfl (by kernel_rfl) (fun _ _ _ => id) (guard_off 3 true 71 rfl rfl false (by decide) rfl) ?_
      refine al_off 13 81 (lb 21 16383) rfl rfl (by kernel_rfl) (fun _ _ _ => id) (guard_off 3 true 71 rfl rfl false (by decide) rfl) ?_
      refine al_off 14 82 (lb 21 32767) rfl rfl (by kernel_rfl) (fun _ _ _ => id) (guard_off 3 true 71 rfl rfl false (by decide) rfl) ?_
      refine al_off 15 83 (lb 21 65535) rfl rfl (by kernel_rfl) (fun _ _ _ => id) (guard_off 3 true 71 rfl rfl false (by decide) rfl) ?_
      simp only [ls0, ls1]
      refine al_off 16 84 (lb 21 131071) rfl rfl (by kernel_rfl) (fun _ _ _ => id) (guard_off 3 true 71 rfl rfl false (by decide) rfl) ?_
      refine al_off 17 85 (lb 21 262143) rfl rfl (by kernel_rfl) (fun _ _ _ => id) (guard_off 3 true 71 rfl rfl false (by decide) rfl) ?_
      refine al_off 18 86 (lb 21 524287) rfl rfl (by kernel_rfl) (fun _ _ _ => id) (guard_off 3 true 71 rfl rfl false (by decide) rfl) ?_
      refine al_off 19 87 (lb 21 1048575) rfl rfl (by kernel_rfl) (fun _ _ _ => id) (guard_off 3 true 71 rfl rfl false (by decide) rfl) ?_
      simp only [ls0, ls1]
      refine al_pure 20 88 (.bool false) (lb 21 2097151) rfl rfl (by kernel_rfl) (fun _ _ _ => id) rfl (fun w_ => xr_pick false _ rfl rfl rfl) ?_
      refine al_end (by kernel_rfl) ?_
      (try simp only [ls0, ls1])
      refine hK8108 _ _ ?_
      (try clear hK8108 K8108)
      refine wp_cond_false rfl ?_
      refine wp_skip ?_
      (try simp only [ls0, ls1])
      refine hK8019 _ _ ?_
      (try clear hK8019 K8019)
      refine wl_region ?_
      refine mv_ rfl ?_
      refine st (.pointer (some ⟨g0, 0, none⟩)) rfl rfl (xr_nilCheck _ rfl rfl) ?_
      refine st (.pointer (some ⟨g0, 6, none⟩)) rfl rfl (xr_fieldAddr _ _ rfl rfl (bx_field2 Try.underlying74 rfl rfl (by kernel_rfl))) ?_
      refine st (.slice A7989 x7988.length cp7991) rfl rfl (xr_load _ _ rfl rfl (load_cell Try.underlying47 rfl (bx_cell (HJ7994).2 6 rfl))) ?_
      simp only [ls0, ls1]
      refine mv_ rfl ?_
      obtain ⟨g8169, hA8170⟩ := HJ7993.form (pos_of (j := x7008) (by first | assumption | decide) (by first | assumption | omega))
      refine st (.pointer (some ((⟨g8169, 0, none⟩ : Addr).add ((x7008 : Int).toNat * 1)))) rfl rfl (xr_indexAddr _ _ _ rfl rfl rfl (index_at Try.underlying47 info3 hA8170 (by first | assumption | decide | omega) (by first | assumption | decide | omega))) ?_
      refine st (.int .i64 (rd x7988 x7008)) rfl rfl (xr_load _ _ rfl rfl (load_int Try.underlying3 rfl hA8170 (Ft.now (HJ7993.ft)) (by first | assumption | decide | omega) (by first | assumption | decide | omega))) ?_
      refine st (.int .i64 (wrap64 ((rd x7988 x7008) + 1))) rfl rfl (xr_bin _ _ _ rfl rfl rfl (B.add_i64 _ _)) ?_
      simp only [ls0, ls1]
      obtain ⟨g8171, hA8172⟩ := HJ7993.form (pos_of (j := x7008) (by first | assumption | decide) (by first | assumption | omega))
      refine st (.pointer (some ((⟨g8171, 0, none⟩ : Addr).add ((x7008 : Int).toNat * 1)))) rfl rfl (xr_indexAddr _ _ _ rfl rfl rfl (index_at Try.underlying47 info3 hA8172 (by first | assumption | decide | omega) (by first | assumption | decide | omega))) ?_
      obtain ⟨y8173, A8174, H⟩ := bnd H
      refine Own.store1 (Kd.int .i64) (C := C8135_) (i := 2) rfl rfl 3 _ _ rfl 3 1 x7008 x7988 (wrap64 ((rd x7988 x7008) + 1)) (.int .i64 (wrap64 ((rd x7988 x7008) + 1))) [.int .i64 (wrap64 ((rd x7988 x7008) + 1))] hA8172 rfl rfl rfl rfl (by kernel_rfl) (by simp [Value.oneCell']) rfl HJ7993 (by decide) (by first | assumption | decide | omega) (by first | assumption | decide | omega) (fk_int .i64 _ _ (wrap64 ((rd x7988 x7008) + 1))) (Option.some.inj A8174) ?_
      intro w8175 C8176 HO8177 HC8179 hs8178
      replace HJ7983 := HJ7983.thru hs8178 rfl
      replace HJ7994 := HJ7994.thru hs8178 rfl
      replace HJ7984 := HJ7984.thru hs8178 rfl
      replace HJ7985 := HJ7985.thru hs8178 rfl
      replace HJ7986 := HJ7986.thru hs8178 rfl
      replace HJ7987 := HJ7987.thru hs8178 rfl
      replace HS7998 := HS7998.trans hs8178 hc rfl
      (try simp only [ls0, ls1])
      (try rw [show x7988.length = y8173.length by rw [← Option.some.inj A8174, List.length_set]])
      (try rw [show x7988.length = y8173.length by rw [← Option.some.inj A8174, List.length_set]] at HJ7994)
      refine wl_end ?_
      (try simp only [ls0, ls1])
      exact jmpL (fun a_ h_ => ih8000 k8003 (by omega) a_ _ h_) (fun g_ => ⟨_, A7989, y8173.length, cp7991, y8173, g_, rfl, HS7998, (by omega), HJ7983, HJ7984, HJ7985, HJ7986, HJ7987, HO8177, HC8179, HJ7994, H⟩) rfl
     rw [if_neg c8018] at H
     (try rw [(decide_eq_false c8018)])
     refine wp_cond_false rfl ?_
     refine wp_exit ?_
     (try simp only [ls0, ls1])
     refine hK7041 _ _ ?_
     (try clear hK7041 K7041)
     refine wp_seq_k fun K8180 hK8180 => ?_
     refine wp_seq_k fun K8181 hK8181 => ?_
     refine wl_region ?_
     refine mv_ rfl ?_
     refine st (.int .i64 (x7002.length : Int)) rfl rfl (xr_builtin #[.slice A7003 x7002.length cp7005] (.int .i64 (x7002.length : Int)) rfl (mp_ rfl) (by first | rfl | (go_simp; done) | (go_simp; rfl) | (go_simp; exact i64_w _) | (go_simp; exact i32_w _))) ?_
     refine st (.bool (decide ((x7002.length : Int) = 0))) rfl rfl (xr_bin _ _ _ rfl rfl rfl (B.eql_i64 _ _)) ?_
     refine wl_end ?_
     (try simp only [ls0, ls1])
     refine hK8181 _ _ ?_
     (try clear hK8181 K8181)
     by_cases c8182 : (x7002.length : Int) = 0
     ·rw [if_pos c8182] at H
      (try rw [(decide_eq_true c8182)])
      refine wp_cond_true rfl ?_
      refine wp_seq_k fun K8183 hK8183 => ?_
      refine wl_region ?_
      refine st (.slice none 0 0) rfl rfl (xr_assign _ rfl rfl) ?_
      refine wl_end ?_
      (try simp only [ls0, ls1])
      refine hK8183 _ _ ?_
      (try clear hK8183 K8183)
      refine wp_ret ?_
      (try simp only [Exit.inBlock, Exit.then, Exit.noGoto])
      (try simp only [ls0, ls1])
      simp only [Option.some.injEq, Prod.mk.injEq] at H
      obtain ⟨rfl, rfl, rfl⟩ := H
      refine bodyPost_ret (results_tmp rfl _ _ _) rfl ?_
      exact ⟨_, none, 0, A7989, cp7991, rfl, HS7998, (OwnG.of (Own.nil _ _ _ _ _)), (Nat.le_refl 0), (fun _ => rfl), HJ7993, HC7992, HJ7994⟩
     rw [if_neg c8182] at H
     (try rw [(decide_eq_false c8182)])
     refine wp_cond_false rfl ?_
     refine wp_skip ?_
     (try simp only [ls0, ls1])
     refine hK8180 _ _ ?_
     (try clear hK8180 K8180)
     refine wp_seq_k fun K8184 hK8184 => ?_
     have HQ8185 := Ft.same C7995 [0] w8007
     (try simp only [ls0, ls1])
     refine al_start (lb 15 0) rfl rfl rfl (fun w_ => (Kd.int .i64).C w_ A7003 x7002.length x7002 ∧ k78.C w_ A0_0 l0_0.length l0_0 ∧ (Kd.int .i64).C w_ A0_1 l0_1.length l0_1 ∧ (Kd.slice 3 (Kd.int .i64)).C w_ A0_2 l0_2.length l0_2 ∧ (Kd.int .i64).C w_ A0_5 l0_5.length l0_5 ∧ (Kd.int .i64).C w_ A7989 x7988.length x7988 ∧ w_.heap[g0]? = some (.cells (List.toArray ([.slice A0_0 l0_0.length c0_0, .slice A0_1 l0_1.length c0_1, .slice A0_2 l0_2.length c0_2, .int .i64 a0_3, .bool a0_4, .slice A0_5 l0_5.length c0_5, .slice A7989 x7988.length cp7991, .int .i64 y7036])) 74 (0, 0)) ∧ (∀ k_, C7995 k_ ∈ [0] → k_ < (w8007).drew.heap.size → w_.heap[k_]? = (w8007).drew.heap[k_]?)) ⟨(Ft.now ((HJ7983.ft)).drew), (Ft.now (HJ7984).drew), (Ft.now (HJ7985).drew), (Ft.now (HJ7986).drew), (Ft.now (HJ7987).drew), (Ft.now ((HJ7993.ft)).drew), (HJ7994.drew).2, (Ft.now (HQ8185.drew))⟩ [] ?_
     replace HJ7983 := HJ7983.drew
     replace HJ7994 := HJ7994.drew
     replace HJ7984 := HJ7984.drew
     replace HJ7985 := HJ7985.drew
     replace HJ7986 := HJ7986.drew
     replace HJ7987 := HJ7987.drew
     replace HJ7993 := HJ7993.drew
     replace HRq8017_0 := HRq8017_0.drew
     replace HQ8185 := HQ8185.drew
     replace HS7998 := Step.ofDrew HS7998
     replace HQ8185 := Ft.same C7995 [0] (w8007.drew)
     generalize w8007.drew = w8186 at *
     have HZ8187 := HJ7986
     refine al_mv 0 (lb 15 1) rfl rfl (by kernel_rfl) (fun _ _ _ => id) rfl ?_
     refine al_pure 1 98 (.pointer (some ⟨g0, 0, none⟩)) (lb 15 3) rfl rfl (by kernel_rfl) (fun _ _ _ => id) rfl (fun w_ => xr_nilCheck _ rfl rfl) ?_
     refine al_pure 2 99 (.pointer (some ⟨g0, 0, none⟩)) (lb 15 7) rfl rfl (by kernel_rfl) (fun _ _ _ => id) rfl (fun w_ => xr_fieldAddr _ _ rfl rfl (bx_field2 Try.underlying74 rfl rfl (by kernel_rfl))) ?_
     refine al_mv 4 (lb 15 23) rfl rfl (by kernel_rfl) (fun _ _ _ => id) rfl ?_
     simp only [ls0, ls1]
     refine al_mv 5 (lb 15 55) rfl rfl (by kernel_rfl) (fun _ _ _ => id) rfl ?_
     refine al_pure 6 103 (.int .i64 (x7002.length : Int)) (lb 15 119) rfl rfl (by kernel_rfl) (fun _ _ _ => id) rfl (fun w_ => xr_builtin #[.slice A7003 x7002.length cp7005] (.int .i64 (x7002.length : Int)) rfl (mp_ rfl) (by first | rfl | (go_simp; done) | (go_simp; rfl) | (go_simp; exact i64_w _) | (go_simp; exact i32_w _))) ?_
     refine al_pure 7 104 (.int .i64 (wrap64 ((x7002.length : Int) - 1))) (lb 15 247) rfl rfl (by kernel_rfl) (fun _ _ _ => id) rfl (fun w_ => xr_bin _ _ _ rfl rfl rfl (B.sub_i64 _ _)) ?_
     obtain ⟨c8188, H⟩ := if_some H
     obtain ⟨c8189, H⟩ := if_some H
     obtain ⟨ad8190, hA8191⟩ := c_addr (Ft.now (HJ7983.ft)) (pos_of (j := (wrap64 ((x7002.length : Int) - 1))) (by first | assumption | decide) (by first | assumption | omega))
     refine al_pure 8 105 (.pointer (some (ad8190.add ((wrap64 ((x7002.length : Int) - 1) : Int).toNat * 1)))) (lb 15 503) rfl rfl (by kernel_rfl) (fun _ _ _ => id) rfl (fun w_ => xr_indexAddr _ _ _ rfl rfl rfl (index_at Try.underlying47 info3 hA8191 (by first | assumption | decide | omega) (by first | assumption | decide | omega))) ?_
     simp only [ls0, ls1]
     refine al_take 3 100 (.slice A0_0 l0_0.length c0_0) (lb 15 511) rfl rfl (by kernel_rfl) (fun _ _ _ => id) rfl (fun w_ hS_ => xr_load _ _ rfl rfl (load_cell Try.underlying67 rfl (bx_cell hS_.2.2.2.2.2.2.1 0 rfl))) ⟨(Ft.now (HJ7983.ft)), (Ft.now HJ7984), (Ft.now HJ7985), (Ft.now HJ7986), (Ft.now HJ7987), (Ft.now (HJ7993.ft)), (HJ7994).2, (Ft.now (HQ8185))⟩ ?_
     refine al_take 9 106 (.int .i64 (rd x7002 (wrap64 ((x7002.length : Int) - 1)))) (lb 15 1023) rfl rfl (by kernel_rfl) (fun _ _ _ => id) rfl (fun w_ hS_ => xr_load _ _ rfl rfl (load_int Try.underlying3 rfl hA8191 hS_.1 (by first | assumption | decide | omega) (by first | assumption | decide | omega))) ⟨(Ft.now (HJ7983.ft)), (Ft.now HJ7984), (Ft.now HJ7985), (Ft.now HJ7986), (Ft.now HJ7987), (Ft.now (HJ7993.ft)), (HJ7994).2, (Ft.now (HQ8185))⟩ ?_
     refine al_pure 10 107 (.int .i64 (Go.bits .xor .i64 (rd x7002 (wrap64 ((x7002.length : Int) - 1))) 1)) (lb 15 2047) rfl rfl (by kernel_rfl) (fun _ _ _ => id) rfl (fun w_ => xr_bin _ _ _ rfl rfl rfl (B.xor_i64 _ _)) ?_
     obtain ⟨c8192, H⟩ := if_some H
     obtain ⟨c8193, H⟩ := if_some H
     obtain ⟨ad8194, hA8195⟩ := c_addr (Ft.now HJ7984) (pos_of (j := (Go.bits .xor .i64 (rd x7002 (wrap64 ((x7002.length : Int) - 1))) 1)) (by first | assumption | decide) (by first | assumption | omega))
     refine al_pure 11 108 (.pointer (some (ad8194.add ((Go.bits .xor .i64 (rd x7002 (wrap64 ((x7002.length : Int) - 1))) 1 : Int).toNat * 2)))) (lb 15 4095) rfl rfl (by kernel_rfl) (fun _ _ _ => id) rfl (fun w_ => xr_indexAddr _ _ _ rfl rfl rfl (index_at Try.underlying67 info78 hA8195 (by first | assumption | decide | omega) (by first | assumption | decide | omega))) ?_
     simp only [ls0, ls1]
     refine al_pure 12 109 (.pointer (some ((ad8194.add ((Go.bits .xor .i64 (rd x7002 (wrap64 ((x7002.length : Int) - 1))) 1 : Int).toNat * 2)).add 0))) (lb 15 8191) rfl rfl (by kernel_rfl) (fun _ _ _ => id) rfl (fun w_ => xr_fieldAddr _ _ rfl rfl (field_at2 Try.underlying78 rfl rfl (by kernel_rfl))) ?_
     refine al_take 13 110 (.int .i64 ((rd_T78 l0_0 (Go.bits .xor .i64 (rd x7002 (wrap64 ((x7002.length : Int) - 1))) 1)).f0)) (lb 15 16383) rfl rfl (by kernel_rfl) (fun _ _ _ => id) rfl (fun w_ hS_ => xr_load (.pointer (some ((ad8194.add ((Go.bits .xor .i64 (rd x7002 (wrap64 ((x7002.length : Int) - 1))) 1 : Int).toNat * 2)).add 0))) (.int .i64 ((rd_T78 l0_0 (Go.bits .xor .i64 (rd x7002 (wrap64 ((x7002.length : Int) - 1))) 1)).f0)) rfl rfl (by obtain ⟨ad_, cs_, e_, _, hK_, hc_⟩ := Kd.C_get hS_.2.1 z78 (Go.bits .xor .i64 (rd x7002 (wrap64 ((x7002.length : Int) - 1))) 1) (by first | assumption | decide | omega) (by first | assumption | decide | omega); rw [hA8195] at e_; injection e_ with e_; subst e_; obtain rfl := k78_open hK_; exact load_cell Try.underlying3 rfl (by first | (rw [add_add]; exact hc_ 0 _ rfl) | (have h_ := hc_ 0 _ rfl; rw [Nat.add_zero] at h_; exact h_)))) ⟨(Ft.now (HJ7983.ft)), (Ft.now HJ7984), (Ft.now HJ7985), (Ft.now HJ7986), (Ft.now HJ7987), (Ft.now (HJ7993.ft)), (HJ7994).2, (Ft.now (HQ8185))⟩ ?_
     refine al_as 14 (lb 15 32767) rfl rfl (by kernel_rfl) (fun _ _ _ => id) rfl ?_
     refine al_end (by kernel_rfl) ?_
     (try simp only [ls0, ls1])
     refine hK8184 _ _ ?_
     (try clear hK8184 K8184)
     refine wp_seq_k fun K8197 hK8197 => ?_
     refine wl_region ?_
     refine mv_ rfl ?_
     refine mv_ rfl ?_
     refine st (.int .i64 (x7002.length : Int)) rfl rfl (xr_builtin #[.slice A7003 x7002.length cp7005] (.int .i64 (x7002.length : Int)) rfl (mp_ rfl) (by first | rfl | (go_simp; done) | (go_simp; rfl) | (go_simp; exact i64_w _) | (go_simp; exact i32_w _))) ?_
     refine st (.int .i64 (wrap64 ((x7002.length : Int) - 1))) rfl rfl (xr_bin _ _ _ rfl rfl rfl (B.sub_i64 _ _)) ?_
     simp only [ls0, ls1]
     obtain ⟨c8198, H⟩ := if_some H
     obtain ⟨y8199, A8200, H⟩ := bnd H
     obtain ⟨iz8206, hiz8206, _, hzz8206, _⟩ := info_parts info3
     obtain ⟨hr8205, HR8203, HC8204⟩ := OwnG.take (t := 47) 3 .i64 Try.underlying47 hiz8206 HJ7983 (by first | assumption | omega | decide) (by first | assumption | omega | decide) (Option.some.inj A8200)
     refine st (.slice A7003 y8199.length cp7005) rfl rfl (xr_slice (.slice A7003 x7002.length cp7005) none (some (.int .i64 (wrap64 ((x7002.length : Int) - 1)))) none (.slice A7003 y8199.length cp7005) rfl rfl rfl rfl rfl (hr8205 _)) ?_
     clear hr8205 hiz8206 hzz8206
     refine as_ rfl ?_
     refine wl_end ?_
     (try simp only [ls0, ls1])
     refine hK8197 _ _ ?_
     (try clear hK8197 K8197)
     refine wl_region ?_
     refine mv_ rfl ?_
     refine st (.pointer (some ⟨g0, 0, none⟩)) rfl rfl (xr_nilCheck _ rfl rfl) ?_
     refine st (.pointer (some ⟨g0, 6, none⟩)) rfl rfl (xr_fieldAddr _ _ rfl rfl (bx_field2 Try.underlying74 rfl rfl (by kernel_rfl))) ?_
     refine st (.slice A7989 x7988.length cp7991) rfl rfl (xr_load _ _ rfl rfl (load_cell Try.underlying47 rfl (bx_cell (HJ7994).2 6 rfl))) ?_
     simp only [ls0, ls1]
     refine mv_ rfl ?_
     obtain ⟨c8207, H⟩ := if_some H
     obtain ⟨c8208, H⟩ := if_some H
     obtain ⟨g8209, hA8210⟩ := HJ7993.form (pos_of (j := ((rd_T78 l0_0 (Go.bits .xor .i64 (rd x7002 (wrap64 ((x7002.length : Int) - 1))) 1)).f0)) (by first | assumption | decide) (by first | assumption | omega))
     refine st (.pointer (some ((⟨g8209, 0, none⟩ : Addr).add (((rd_T78 l0_0 (Go.bits .xor .i64 (rd x7002 (wrap64 ((x7002.length : Int) - 1))) 1)).f0 : Int).toNat * 1)))) rfl rfl (xr_indexAddr _ _ _ rfl rfl rfl (index_at Try.underlying47 info3 hA8210 (by first | assumption | decide | omega) (by first | assumption | decide | omega))) ?_
     refine st (.int .i64 (rd x7988 ((rd_T78 l0_0 (Go.bits .xor .i64 (rd x7002 (wrap64 ((x7002.length : Int) - 1))) 1)).f0))) rfl rfl (xr_load _ _ rfl rfl (load_int Try.underlying3 rfl hA8210 (Ft.now (HJ7993.ft)) (by first | assumption | decide | omega) (by first | assumption | decide | omega))) ?_
     refine st (.int .i64 (wrap64 ((rd x7988 ((rd_T78 l0_0 (Go.bits .xor .i64 (rd x7002 (wrap64 ((x7002.length : Int) - 1))) 1)).f0)) + 1))) rfl rfl (xr_bin _ _ _ rfl rfl rfl (B.add_i64 _ _)) ?_
     simp only [ls0, ls1]
     obtain ⟨g8211, hA8212⟩ := HJ7993.form (pos_of (j := ((rd_T78 l0_0 (Go.bits .xor .i64 (rd x7002 (wrap64 ((x7002.length : Int) - 1))) 1)).f0)) (by first | assumption | decide) (by first | assumption | omega))
     refine st (.pointer (some ((⟨g8211, 0, none⟩ : Addr).add (((rd_T78 l0_0 (Go.bits .xor .i64 (rd x7002 (wrap64 ((x7002.length : Int) - 1))) 1)).f0 : Int).toNat * 1)))) rfl rfl (xr_indexAddr _ _ _ rfl rfl rfl (index_at Try.underlying47 info3 hA8212 (by first | assumption | decide | omega) (by first | assumption | decide | omega))) ?_
     obtain ⟨y8213, A8214, H⟩ := bnd H
     refine Own.store1 (Kd.int .i64) (C := C7995) (i := 2) rfl rfl 3 _ _ rfl 3 1 ((rd_T78 l0_0 (Go.bits .xor .i64 (rd x7002 (wrap64 ((x7002.length : Int) - 1))) 1)).f0) x7988 (wrap64 ((rd x7988 ((rd_T78 l0_0 (Go.bits .xor .i64 (rd x7002 (wrap64 ((x7002.length : Int) - 1))) 1)).f0)) + 1)) (.int .i64 (wrap64 ((rd x7988 ((rd_T78 l0_0 (Go.bits .xor .i64 (rd x7002 (wrap64 ((x7002.length : Int) - 1))) 1)).f0)) + 1))) [.int .i64 (wrap64 ((rd x7988 ((rd_T78 l0_0 (Go.bits .xor .i64 (rd x7002 (wrap64 ((x7002.length : Int) - 1))) 1)).f0)) + 1))] hA8212 rfl rfl rfl rfl (by kernel_rfl) (by simp [Value.oneCell']) rfl HJ7993 (by decide) (by first | assumption | decide | omega) (by first | assumption | decide | omega) (fk_int .i64 _ _ (wrap64 ((rd x7988 ((rd_T78 l0_0 (Go.bits .xor .i64 (rd x7002 (wrap64 ((x7002.length : Int) - 1))) 1)).f0)) + 1))) (Option.some.inj A8214) ?_
     intro w8215 C8216 HO8217 HC8219 hs8218
     replace HR8203 := HR8203.thru hs8218 rfl
     replace HJ7994 := HJ7994.thru hs8218 rfl
     replace HJ7984 := HJ7984.thru hs8218 rfl
     replace HJ7985 := HJ7985.thru hs8218 rfl
     replace HJ7986 := HJ7986.thru hs8218 rfl
     replace HJ7987 := HJ7987.thru hs8218 rfl
     replace HS7998 := HS7998.trans hs8218 hc rfl
     (try simp only [ls0, ls1])
     (try rw [show x7988.length = y8213.length by rw [← Option.some.inj A8214, List.length_set]])
     (try rw [show x7988.length = y8213.length by rw [← Option.some.inj A8214, List.length_set]] at HJ7994)
     refine wl_end ?_
     (try simp only [ls0, ls1])
     exact jmpL (fun a_ h_ => ih7026 k8003 (by omega) a_ _ h_) (fun g_ => ⟨_, (rd_T78 l0_0 (Go.bits .xor .i64 (rd x7002 (wrap64 ((x7002.length : Int) - 1))) 1)).f0, y7036, A7003, y8199.length, cp7005, y8199, A7989, y8213.length, cp7991, y8213, g_, rfl, HS7998, (by omega), HR8203, HC8204, HJ7984, HJ7985, HJ7986, HJ7987, HO8217, HC8219, HJ7994, H⟩) rfl

end Go.Proofs.Ytdkbmchbkkhpoaa.PMfr
