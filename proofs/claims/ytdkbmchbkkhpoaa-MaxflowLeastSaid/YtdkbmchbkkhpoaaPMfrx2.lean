-- By cprint.py, a program of this work. Lean checks it.
import Derived.Test.YtdkbmchbkkhpoaaPMfrx0
import Derived.Test.YtdkbmchbkkhpoaaPMfrx1
namespace Go.Proofs.Ytdkbmchbkkhpoaa.PMfr
open Go.RowKit Go.Proofs.YtdkbmchbkkhpoaaW.PrintWords Go.Proofs.YtdkbmchbkkhpoaaW.PrintLast Go.Proofs.YtdkbmchbkkhpoaaW.PrintMore
set_option linter.unusedVariables false
set_option linter.unusedSimpArgs false

/-! ### maxflow_Net_push: function 42 -/
mutual
def maxflow_Net_push.l0 : Nat → (List Int) → Int → Int → (List (S78)) → Option (Int × (List (S78)))
  | 0, _, _, _, _ => none
  | k + 1, l1, x429, x556, x557 => if x556 < (l1.length : Int) then (if 0 ≤ x556 then (if 0 ≤ (rd l1 x556) then (if (rd l1 x556) < (x557.length : Int) then ((some (x557.set (rd l1 x556 : Int).toNat (⟨(rd_T78 x557 (rd l1 x556)).f0, wrap64 (((rd_T78 x557 (rd l1 x556)).f1) - x429)⟩ : S78) : List (S78))).bind fun y593 => (if 0 ≤ (Go.bits .xor .i64 (rd l1 x556) 1) then (if (Go.bits .xor .i64 (rd l1 x556) 1) < (y593.length : Int) then ((some (y593.set (Go.bits .xor .i64 (rd l1 x556) 1 : Int).toNat (⟨(rd_T78 y593 (Go.bits .xor .i64 (rd l1 x556) 1)).f0, wrap64 (((rd_T78 y593 (Go.bits .xor .i64 (rd l1 x556) 1)).f1) + x429)⟩ : S78) : List (S78))).bind fun y607 => (maxflow_Net_push.l0 k l1 x429 (wrap64 (x556 + 1)) y607)) else (none)) else (none))) else (none)) else (none)) else (none)) else (some (x429, x557))
def maxflow_Net_push.l1 : Nat → (List (S78)) → (List Int) → Int → Int → Option (Int × (List (S78)))
  | 0, _, _, _, _ => none
  | k + 1, l0_0, l1, x429, x430 => if x430 < (l1.length : Int) then (if 0 ≤ x430 then (if 0 ≤ (rd l1 x430) then (if (rd l1 x430) < (l0_0.length : Int) then (maxflow_Net_push.l1 k l0_0 l1 (mn x429 ((rd_T78 l0_0 (rd l1 x430)).f1)) (wrap64 (x430 + 1))) else (none)) else (none)) else (none)) else (maxflow_Net_push.l0 k l1 x429 0 l0_0)
end
def maxflow_Net_push.f (k : Nat) (l0_0 : List (S78)) (l0_1 : List Int) (l0_2 : List (List Int)) (a0_3 : Int) (a0_4 : Bool) (l0_5 : List Int) (l0_6 : List Int) (a0_7 : Int) (l1 : List Int) : Option (Int × (List (S78))) := maxflow_Net_push.l1 k l0_0 l1 4611686018427387904 0

set_option maxHeartbeats 8000000 in
set_option maxRecDepth 100000 in
theorem maxflow_Net_push.calls (k : Nat) (g0 : Nat) (A0_0 : Option Addr) (c0_0 : Nat) (l0_0 : List (S78)) (A0_1 : Option Addr) (c0_1 : Nat) (l0_1 : List Int) (A0_2 : Option Addr) (c0_2 : Nat) (l0_2 : List (List Int)) (a0_3 : Int) (a0_4 : Bool) (A0_5 : Option Addr) (c0_5 : Nat) (l0_5 : List Int) (A0_6 : Option Addr) (c0_6 : Nat) (l0_6 : List Int) (a0_7 : Int) (A1 : Option Addr) (c1 : Nat) (l1 : List Int) (r1 : Int) (r2 : List (S78)) (c : Nat → Nat) (w : World) (hc : ∀ k, c k < 10) (HP0 : Bx c 1 w g0 74 ([.slice A0_0 l0_0.length c0_0, .slice A0_1 l0_1.length c0_1, .slice A0_2 l0_2.length c0_2, .int .i64 a0_3, .bool a0_4, .slice A0_5 l0_5.length c0_5, .slice A0_6 l0_6.length c0_6, .int .i64 a0_7])) (HP0_0 : Own c 2 w k78 78 (.slice A0_0 l0_0.length c0_0) l0_0) (HCP0_0 : l0_0.length ≤ c0_0) (HP0_1 : Ft c [0] w (fun w_ => (Kd.int .i64).C w_ A0_1 l0_1.length l0_1)) (HCP0_1 : l0_1.length ≤ c0_1) (HP0_2 : Ft c [0] w (fun w_ => (Kd.slice 3 (Kd.int .i64)).C w_ A0_2 l0_2.length l0_2)) (HCP0_2 : l0_2.length ≤ c0_2) (HP0_5 : Ft c [0] w (fun w_ => (Kd.int .i64).C w_ A0_5 l0_5.length l0_5)) (HCP0_5 : l0_5.length ≤ c0_5) (HP0_6 : Ft c [0] w (fun w_ => (Kd.int .i64).C w_ A0_6 l0_6.length l0_6)) (HCP0_6 : l0_6.length ≤ c0_6) (HP1 : Ft c [0] w (fun w_ => (Kd.int .i64).C w_ A1 l1.length l1)) (HCP1 : l1.length ≤ c1) (H : maxflow_Net_push.f k l0_0 l0_1 l0_2 a0_3 a0_4 l0_5 l0_6 a0_7 l1 = some (r1, r2)) :
    Calls Try.prog 42 #[.pointer (some ⟨g0, 0, none⟩), .slice A1 l1.length c1] w fun e w' => ∃ (c' : Nat → Nat) (A_r2 : Option Addr) (c_r2 : Nat), e = .returned (.int .i64 r1) ∧ Step c w c' w' [1, 2] ∧ Own c' 2 w' k78 78 (.slice A_r2 r2.length c_r2) r2 ∧ r2.length ≤ c_r2 ∧ Bx c' 1 w' g0 74 ([.slice A_r2 r2.length c_r2, .slice A0_1 l0_1.length c0_1, .slice A0_2 l0_2.length c0_2, .int .i64 a0_3, .bool a0_4, .slice A0_5 l0_5.length c0_5, .slice A0_6 l0_6.length c0_6, .int .i64 a0_7]) := by
 unfold maxflow_Net_push.f at H
 have HS := Step.refl c w [1, 2]
 go_enter Try.func42, Try.ntmps42
 refine wp_seq_k fun K308 hK308 => ?_
 refine wl_region ?_
 refine st (.int .i64 0) rfl rfl (xr_assign _ rfl rfl) ?_
 refine wl_end ?_
 (try simp only [ls0, ls1])
 refine hK308 _ _ ?_
 (try clear hK308 K308)
 refine wp_seq_k fun K309 hK309 => ?_
 refine wl_region ?_
 refine st (.int .i64 4611686018427387904) rfl rfl (xr_assign _ rfl rfl) ?_
 refine wl_end ?_
 (try simp only [ls0, ls1])
 refine hK309 _ _ ?_
 (try clear hK309 K309)
 refine wp_seq_k fun K310 hK310 => ?_
 refine wp_seq_k fun K385 hK385 => ?_
 refine wl_region ?_
 refine mv_ rfl ?_
 refine st (.int .i64 (l1.length : Int)) rfl rfl (xr_builtin #[.slice A1 l1.length c1] (.int .i64 (l1.length : Int)) rfl (mp_ rfl) (by first | rfl | (go_simp; done) | (go_simp; rfl) | (go_simp; exact i64_w _) | (go_simp; exact i32_w _))) ?_
 refine st (.int .i64 0) rfl rfl (xr_move _ rfl rfl) ?_
 refine wl_end ?_
 (try simp only [ls0, ls1])
 refine hK385 _ _ ?_
 (try clear hK385 K385)
 refine wp_block ?_
 (try simp only [ls0, ls1])
 refine wp_looped (looped_fin (fun kq439 a_ w438 => ∃ (C437 : Nat → Nat) (x429 : Int) (x430 : Int) (g_ : Nat → Value), a_ = ⟨#[.pointer (some ⟨g0, 0, none⟩), .slice A1 l1.length c1, (g_ 2), (g_ 3), (g_ 4), .int .i64 x429, (g_ 6), (g_ 7), (g_ 8), (g_ 9), .slice A1 l1.length c1, .int .i64 (l1.length : Int), .int .i64 x430, (g_ 13), (g_ 14), (g_ 15), (g_ 16), (g_ 17), (g_ 18), (g_ 19), (g_ 20), (g_ 21), (g_ 22), (g_ 23), (g_ 24), (g_ 25), (g_ 26), (g_ 27), (g_ 28), (g_ 29), (g_ 30), (g_ 31), (g_ 32), (g_ 33), (g_ 34), (g_ 35), (g_ 36), (g_ 37), (g_ 38), (g_ 39), (g_ 40), (g_ 41), (g_ 42), (g_ 43), (g_ 44), (g_ 45), (g_ 46), (g_ 47), (g_ 48), (g_ 49), (g_ 50), (g_ 51), (g_ 52), (g_ 53), (g_ 54), (g_ 55), (g_ 56), (g_ 57), (g_ 58), (g_ 59)], []⟩ ∧ Step c w C437 w438 [1, 2] ∧ kq439 ≤ k ∧ (Ft C437 [0] w438 (fun w_ => (Kd.int .i64).C w_ A1 l1.length l1)) ∧ (Own C437 2 w438 k78 78 (.slice A0_0 l0_0.length c0_0) l0_0) ∧ (Ft C437 [0] w438 (fun w_ => (Kd.int .i64).C w_ A0_1 l0_1.length l0_1)) ∧ (Ft C437 [0] w438 (fun w_ => (Kd.slice 3 (Kd.int .i64)).C w_ A0_2 l0_2.length l0_2)) ∧ (Ft C437 [0] w438 (fun w_ => (Kd.int .i64).C w_ A0_5 l0_5.length l0_5)) ∧ (Ft C437 [0] w438 (fun w_ => (Kd.int .i64).C w_ A0_6 l0_6.length l0_6)) ∧ (Bx C437 1 w438 g0 74 ([.slice A0_0 l0_0.length c0_0, .slice A0_1 l0_1.length c0_1, .slice A0_2 l0_2.length c0_2, .int .i64 a0_3, .bool a0_4, .slice A0_5 l0_5.length c0_5, .slice A0_6 l0_6.length c0_6, .int .i64 a0_7])) ∧ maxflow_Net_push.l1 kq439 l0_0 l1 x429 x430 = some (r1, r2)) ?step fun hL_ => ?init)
 case init =>
  exact jmpL (fun a_ h_ => hL_ k a_ _ h_) (fun g_ => ⟨_, 4611686018427387904, 0, g_, rfl, HS, Nat.le_refl _, HP1, HP0_0, HP0_1, HP0_2, HP0_5, HP0_6, HP0, H⟩) rfl
 case step =>
  intro kq439 ih442 a443 w438 hr444
  obtain ⟨C437, x429, x430, g_, rfl, HS440, hk441, HJ428, HJ431, HJ432, HJ433, HJ434, HJ435, HJ436, H⟩ := hr444
  refine looped_round ?_
  cases kq439 with
  | zero => exact absurd H (by simp [maxflow_Net_push.l1])
  | succ k445 =>
   simp only [maxflow_Net_push.l1] at H
   refine wp_seq_k fun K446 hK446 => ?_
   refine wl_region ?_
   refine st (.bool (decide (x430 < (l1.length : Int)))) rfl rfl (xr_bin _ _ _ rfl rfl rfl (B.lss_i64 _ _)) ?_
   refine wl_end ?_
   (try simp only [ls0, ls1])
   refine hK446 _ _ ?_
   (try clear hK446 K446)
   refine wp_seq_k fun K447 hK447 => ?_
   by_cases c448 : x430 < (l1.length : Int)
   ·rw [if_pos c448] at H
    (try rw [(decide_eq_true c448)])
    refine wp_cond_true rfl ?_
    refine wp_skip ?_
    (try simp only [ls0, ls1])
    refine hK447 _ _ ?_
    (try clear hK447 K447)
    refine wp_seq_k fun K449 hK449 => ?_
    refine wp_block ?_
    refine wp_seq_k fun K450 hK450 => ?_
    refine wl_region ?_
    obtain ⟨c451, H⟩ := if_some H
    obtain ⟨ad452, hA453⟩ := c_addr (Ft.now HJ428) (pos_of (j := x430) (by first | assumption | decide) (by first | assumption | omega))
    refine st (.pointer (some (ad452.add ((x430 : Int).toNat * 1)))) rfl rfl (xr_indexAddr _ _ _ rfl rfl rfl (index_at Try.underlying47 info3 hA453 (by first | assumption | decide | omega) (by first | assumption | decide | omega))) ?_
    refine st (.int .i64 (rd l1 x430)) rfl rfl (xr_load _ _ rfl rfl (load_int Try.underlying3 rfl hA453 (Ft.now HJ428) (by first | assumption | decide | omega) (by first | assumption | decide | omega))) ?_
    refine as_ rfl ?_
    refine wl_end ?_
    (try simp only [ls0, ls1])
    refine hK450 _ _ ?_
    (try clear hK450 K450)
    refine wl_region ?_
    refine mv_ rfl ?_
    refine mv_ rfl ?_
    refine st (.pointer (some ⟨g0, 0, none⟩)) rfl rfl (xr_nilCheck _ rfl rfl) ?_
    refine st (.pointer (some ⟨g0, 0, none⟩)) rfl rfl (xr_fieldAddr _ _ rfl rfl (bx_field2 Try.underlying74 rfl rfl (by kernel_rfl))) ?_
    simp only [ls0, ls1]
    refine st (.slice A0_0 l0_0.length c0_0) rfl rfl (xr_load _ _ rfl rfl (load_cell Try.underlying67 rfl (bx_cell (HJ436).2 0 rfl))) ?_
    refine mv_ rfl ?_
    obtain ⟨c454, H⟩ := if_some H
    obtain ⟨c455, H⟩ := if_some H
    obtain ⟨g456, hA457⟩ := HJ431.form (pos_of (j := (rd l1 x430)) (by first | assumption | decide) (by first | assumption | omega))
    refine st (.pointer (some ((⟨g456, 0, none⟩ : Addr).add ((rd l1 x430 : Int).toNat * 2)))) rfl rfl (xr_indexAddr _ _ _ rfl rfl rfl (index_at Try.underlying67 info78 hA457 (by first | assumption | decide | omega) (by first | assumption | decide | omega))) ?_
    refine st (.pointer (some (((⟨g456, 0, none⟩ : Addr).add ((rd l1 x430 : Int).toNat * 2)).add 1))) rfl rfl (xr_fieldAddr _ _ rfl rfl (field_at2 Try.underlying78 rfl rfl (by kernel_rfl))) ?_
    simp only [ls0, ls1]
    refine st (.int .i64 ((rd_T78 l0_0 (rd l1 x430)).f1)) rfl rfl (xr_load (.pointer (some (((⟨g456, 0, none⟩ : Addr).add ((rd l1 x430 : Int).toNat * 2)).add 1))) (.int .i64 ((rd_T78 l0_0 (rd l1 x430)).f1)) rfl rfl (by obtain ⟨ad_, cs_, e_, _, hK_, hc_⟩ := Kd.C_get (Ft.now (HJ431.ft)) z78 (rd l1 x430) (by first | assumption | decide | omega) (by first | assumption | decide | omega); rw [hA457] at e_; injection e_ with e_; subst e_; obtain rfl := k78_open hK_; exact load_cell Try.underlying2 rfl (by first | (rw [add_add]; exact hc_ 1 _ rfl) | (have h_ := hc_ 1 _ rfl; rw [Nat.add_zero] at h_; exact h_)))) ?_
    refine st (.int .i64 (mn x429 ((rd_T78 l0_0 (rd l1 x430)).f1))) rfl rfl (xr_builtin #[.int .i64 x429, .int .i64 ((rd_T78 l0_0 (rd l1 x430)).f1)] (.int .i64 (mn x429 ((rd_T78 l0_0 (rd l1 x430)).f1))) rfl (mp_ rfl) (by first | rfl | (go_simp; done) | (go_simp; rfl) | (go_simp; exact i64_w _) | (go_simp; exact i32_w _))) ?_
    refine as_ rfl ?_
    refine wl_end ?_
    (try simp only [ls0, ls1])
    refine hK449 _ _ ?_
    (try clear hK449 K449)
    refine wl_region ?_
    refine st (.int .i64 (wrap64 (x430 + 1))) rfl rfl (xr_bin _ _ _ rfl rfl rfl (B.add_i64 _ _)) ?_
    refine mv_ rfl ?_
    refine wl_end ?_
    (try simp only [ls0, ls1])
    exact jmpL (fun a_ h_ => ih442 k445 (by omega) a_ _ h_) (fun g_ => ⟨_, mn x429 ((rd_T78 l0_0 (rd l1 x430)).f1), wrap64 (x430 + 1), g_, rfl, HS440, (by omega), HJ428, HJ431, HJ432, HJ433, HJ434, HJ435, HJ436, H⟩) rfl
   rw [if_neg c448] at H
   (try rw [(decide_eq_false c448)])
   refine wp_cond_false rfl ?_
   refine wp_exit ?_
   (try simp only [ls0, ls1])
   refine hK310 _ _ ?_
   (try clear hK310 K310)
   refine wp_seq_k fun K459 hK459 => ?_
   refine wp_seq_k fun K460 hK460 => ?_
   refine wl_region ?_
   refine mv_ rfl ?_
   refine st (.int .i64 (l1.length : Int)) rfl rfl (xr_builtin #[.slice A1 l1.length c1] (.int .i64 (l1.length : Int)) rfl (mp_ rfl) (by first | rfl | (go_simp; done) | (go_simp; rfl) | (go_simp; exact i64_w _) | (go_simp; exact i32_w _))) ?_
   refine st (.int .i64 0) rfl rfl (xr_move _ rfl rfl) ?_
   refine wl_end ?_
   (try simp only [ls0, ls1])
   refine hK460 _ _ ?_
   (try clear hK460 K460)
   refine wp_block ?_
   (try simp only [ls0, ls1])
   refine wp_looped (looped_fin (fun kq570 a_ w569 => ∃ (C568 : Nat → Nat) (x556 : Int) (A558 : Option Addr) (n559 cp560 : Nat) (x557 : List (S78)) (g_ : Nat → Value), a_ = ⟨#[.pointer (some ⟨g0, 0, none⟩), (g_ 1), (g_ 2), (g_ 3), (g_ 4), .int .i64 x429, (g_ 6), (g_ 7), (g_ 8), (g_ 9), (g_ 10), (g_ 11), (g_ 12), (g_ 13), (g_ 14), (g_ 15), (g_ 16), (g_ 17), (g_ 18), (g_ 19), (g_ 20), (g_ 21), (g_ 22), (g_ 23), (g_ 24), (g_ 25), (g_ 26), .slice A1 l1.length c1, .int .i64 (l1.length : Int), .int .i64 x556, (g_ 30), (g_ 31), (g_ 32), (g_ 33), (g_ 34), (g_ 35), (g_ 36), (g_ 37), (g_ 38), (g_ 39), (g_ 40), (g_ 41), (g_ 42), (g_ 43), (g_ 44), (g_ 45), (g_ 46), (g_ 47), (g_ 48), (g_ 49), (g_ 50), (g_ 51), (g_ 52), (g_ 53), (g_ 54), (g_ 55), (g_ 56), (g_ 57), (g_ 58), (g_ 59)], []⟩ ∧ Step c w C568 w569 [1, 2] ∧ kq570 ≤ k445 ∧ (Ft C568 [0] w569 (fun w_ => (Kd.int .i64).C w_ A1 l1.length l1)) ∧ (Own C568 2 w569 k78 78 (.slice A558 n559 cp560) x557) ∧ (n559 ≤ cp560) ∧ (Ft C568 [0] w569 (fun w_ => (Kd.int .i64).C w_ A0_1 l0_1.length l0_1)) ∧ (Ft C568 [0] w569 (fun w_ => (Kd.slice 3 (Kd.int .i64)).C w_ A0_2 l0_2.length l0_2)) ∧ (Ft C568 [0] w569 (fun w_ => (Kd.int .i64).C w_ A0_5 l0_5.length l0_5)) ∧ (Ft C568 [0] w569 (fun w_ => (Kd.int .i64).C w_ A0_6 l0_6.length l0_6)) ∧ (Bx C568 1 w569 g0 74 ([.slice A558 n559 cp560, .slice A0_1 l0_1.length c0_1, .slice A0_2 l0_2.length c0_2, .int .i64 a0_3, .bool a0_4, .slice A0_5 l0_5.length c0_5, .slice A0_6 l0_6.length c0_6, .int .i64 a0_7])) ∧ maxflow_Net_push.l0 kq570 l1 x429 x556 x557 = some (r1, r2)) ?step fun hL_ => ?init)
   case init =>
    exact jmpL (fun a_ h_ => hL_ k445 a_ _ h_) (fun g_ => ⟨_, 0, A0_0, l0_0.length, c0_0, l0_0, g_, rfl, HS440, Nat.le_refl _, HJ428, HJ431, HCP0_0, HJ432, HJ433, HJ434, HJ435, HJ436, H⟩) rfl
   case step =>
    intro kq570 ih573 a574 w569 hr575
    obtain ⟨C568, x556, A558, n559, cp560, x557, g_, rfl, HS571, hk572, HJ555, HJ562, HC561, HJ563, HJ564, HJ565, HJ566, HJ567, H⟩ := hr575
    refine looped_round ?_
    obtain rfl : n559 = x557.length := HJ562.at_.1
    cases kq570 with
    | zero => exact absurd H (by simp [maxflow_Net_push.l0])
    | succ k576 =>
     simp only [maxflow_Net_push.l0] at H
     refine wp_seq_k fun K577 hK577 => ?_
     refine wl_region ?_
     refine st (.bool (decide (x556 < (l1.length : Int)))) rfl rfl (xr_bin _ _ _ rfl rfl rfl (B.lss_i64 _ _)) ?_
     refine wl_end ?_
     (try simp only [ls0, ls1])
     refine hK577 _ _ ?_
     (try clear hK577 K577)
     refine wp_seq_k fun K578 hK578 => ?_
     by_cases c579 : x556 < (l1.length : Int)
     ·rw [if_pos c579] at H
      (try rw [(decide_eq_true c579)])
      refine wp_cond_true rfl ?_
      refine wp_skip ?_
      (try simp only [ls0, ls1])
      refine hK578 _ _ ?_
      (try clear hK578 K578)
      refine wp_seq_k fun K580 hK580 => ?_
      refine wp_block ?_
      refine wp_seq_k fun K581 hK581 => ?_
      refine wl_region ?_
      obtain ⟨c582, H⟩ := if_some H
      obtain ⟨ad583, hA584⟩ := c_addr (Ft.now HJ555) (pos_of (j := x556) (by first | assumption | decide) (by first | assumption | omega))
      refine st (.pointer (some (ad583.add ((x556 : Int).toNat * 1)))) rfl rfl (xr_indexAddr _ _ _ rfl rfl rfl (index_at Try.underlying47 info3 hA584 (by first | assumption | decide | omega) (by first | assumption | decide | omega))) ?_
      refine st (.int .i64 (rd l1 x556)) rfl rfl (xr_load _ _ rfl rfl (load_int Try.underlying3 rfl hA584 (Ft.now HJ555) (by first | assumption | decide | omega) (by first | assumption | decide | omega))) ?_
      refine as_ rfl ?_
      refine wl_end ?_
      (try simp only [ls0, ls1])
      refine hK581 _ _ ?_
      (try clear hK581 K581)
      refine wp_seq_k fun K585 hK585 => ?_
      refine wl_region ?_
      refine mv_ rfl ?_
      refine st (.pointer (some ⟨g0, 0, none⟩)) rfl rfl (xr_nilCheck _ rfl rfl) ?_
      refine st (.pointer (some ⟨g0, 0, none⟩)) rfl rfl (xr_fieldAddr _ _ rfl rfl (bx_field2 Try.underlying74 rfl rfl (by kernel_rfl))) ?_
      refine st (.slice A558 x557.length cp560) rfl rfl (xr_load _ _ rfl rfl (load_cell Try.underlying67 rfl (bx_cell (HJ567).2 0 rfl))) ?_
      simp only [ls0, ls1]
      refine mv_ rfl ?_
      obtain ⟨c586, H⟩ := if_some H
      obtain ⟨c587, H⟩ := if_some H
      obtain ⟨g588, hA589⟩ := HJ562.form (pos_of (j := (rd l1 x556)) (by first | assumption | decide) (by first | assumption | omega))
      refine st (.pointer (some ((⟨g588, 0, none⟩ : Addr).add ((rd l1 x556 : Int).toNat * 2)))) rfl rfl (xr_indexAddr _ _ _ rfl rfl rfl (index_at Try.underlying67 info78 hA589 (by first | assumption | decide | omega) (by first | assumption | decide | omega))) ?_
      refine st (.pointer (some (((⟨g588, 0, none⟩ : Addr).add ((rd l1 x556 : Int).toNat * 2)).add 1))) rfl rfl (xr_fieldAddr _ _ rfl rfl (field_at2 Try.underlying78 rfl rfl (by kernel_rfl))) ?_
      refine st (.int .i64 ((rd_T78 x557 (rd l1 x556)).f1)) rfl rfl (xr_load (.pointer (some (((⟨g588, 0, none⟩ : Addr).add ((rd l1 x556 : Int).toNat * 2)).add 1))) (.int .i64 ((rd_T78 x557 (rd l1 x556)).f1)) rfl rfl (by obtain ⟨ad_, cs_, e_, _, hK_, hc_⟩ := Kd.C_get (Ft.now (HJ562.ft)) z78 (rd l1 x556) (by first | assumption | decide | omega) (by first | assumption | decide | omega); rw [hA589] at e_; injection e_ with e_; subst e_; obtain rfl := k78_open hK_; exact load_cell Try.underlying2 rfl (by first | (rw [add_add]; exact hc_ 1 _ rfl) | (have h_ := hc_ 1 _ rfl; rw [Nat.add_zero] at h_; exact h_)))) ?_
      simp only [ls0, ls1]
      refine mv_ rfl ?_
      refine st (.int .i64 (wrap64 (((rd_T78 x557 (rd l1 x556)).f1) - x429))) rfl rfl (xr_bin _ _ _ rfl rfl rfl (B.sub_i64 _ _)) ?_
      obtain ⟨g591, hA592⟩ := HJ562.form (pos_of (j := (rd l1 x556)) (by first | assumption | decide) (by first | assumption | omega))
      refine st (.pointer (some ((⟨g591, 0, none⟩ : Addr).add ((rd l1 x556 : Int).toNat * 2)))) rfl rfl (xr_indexAddr _ _ _ rfl rfl rfl (index_at Try.underlying67 info78 hA592 (by first | assumption | decide | omega) (by first | assumption | decide | omega))) ?_
      refine st (.pointer (some (((⟨g591, 0, none⟩ : Addr).add ((rd l1 x556 : Int).toNat * 2)).add 1))) rfl rfl (xr_fieldAddr _ _ rfl rfl (field_at2 Try.underlying78 rfl rfl (by kernel_rfl))) ?_
      simp only [ls0, ls1]
      obtain ⟨y593, A594, H⟩ := bnd H
      refine Own.storef k78 (C := C568) (i := 2) rfl rfl 2 _ _ rfl 78 2 (rd l1 x556) 1 x557 (⟨(rd_T78 x557 (rd l1 x556)).f0, wrap64 (((rd_T78 x557 (rd l1 x556)).f1) - x429)⟩ : S78) (.int .i64 (wrap64 (((rd_T78 x557 (rd l1 x556)).f1) - x429))) [.int .i64 (wrap64 (((rd_T78 x557 (rd l1 x556)).f1) - x429))] [.int .i64 ((rd_T78 x557 (rd l1 x556)).f0), .int .i64 ((rd_T78 x557 (rd l1 x556)).f1)] z78 hA592 rfl rfl rfl rfl (by kernel_rfl) (by simp [Value.oneCell']) (fun _ h_ => k78_open h_) (by first | decide | simp) HJ562 (by decide) (by first | assumption | decide | omega) (by first | assumption | decide | omega) (k78_mkF _ _ (⟨(rd_T78 x557 (rd l1 x556)).f0, wrap64 (((rd_T78 x557 (rd l1 x556)).f1) - x429)⟩ : S78)) (Option.some.inj A594) ?_
      intro w595 C596 HO597 HC599 hs598
      replace HJ555 := HJ555.thru hs598 rfl
      replace HJ567 := HJ567.thru hs598 rfl
      replace HJ563 := HJ563.thru hs598 rfl
      replace HJ564 := HJ564.thru hs598 rfl
      replace HJ565 := HJ565.thru hs598 rfl
      replace HJ566 := HJ566.thru hs598 rfl
      replace HS571 := HS571.trans hs598 hc rfl
      (try simp only [ls0, ls1])
      (try rw [show x557.length = y593.length by rw [← Option.some.inj A594, List.length_set]])
      (try rw [show x557.length = y593.length by rw [← Option.some.inj A594, List.length_set]] at HJ567)
      refine wl_end ?_
      (try simp only [ls0, ls1])
      refine hK585 _ _ ?_
      (try clear hK585 K585)
      refine wl_region ?_
      refine mv_ rfl ?_
      refine st (.pointer (some ⟨g0, 0, none⟩)) rfl rfl (xr_nilCheck _ rfl rfl) ?_
      refine st (.pointer (some ⟨g0, 0, none⟩)) rfl rfl (xr_fieldAddr _ _ rfl rfl (bx_field2 Try.underlying74 rfl rfl (by kernel_rfl))) ?_
      refine st (.slice A558 y593.length cp560) rfl rfl (xr_load _ _ rfl rfl (load_cell Try.underlying67 rfl (bx_cell (HJ567).2 0 rfl))) ?_
      simp only [ls0, ls1]
      refine mv_ rfl ?_
      refine st (.int .i64 (Go.bits .xor .i64 (rd l1 x556) 1)) rfl rfl (xr_bin _ _ _ rfl rfl rfl (B.xor_i64 _ _)) ?_
      obtain ⟨c600, H⟩ := if_some H
      obtain ⟨c601, H⟩ := if_some H
      obtain ⟨g602, hA603⟩ := HO597.form (pos_of (j := (Go.bits .xor .i64 (rd l1 x556) 1)) (by first | assumption | decide) (by first | assumption | omega))
      refine st (.pointer (some ((⟨g602, 0, none⟩ : Addr).add ((Go.bits .xor .i64 (rd l1 x556) 1 : Int).toNat * 2)))) rfl rfl (xr_indexAddr _ _ _ rfl rfl rfl (index_at Try.underlying67 info78 hA603 (by first | assumption | decide | omega) (by first | assumption | decide | omega))) ?_
      refine st (.pointer (some (((⟨g602, 0, none⟩ : Addr).add ((Go.bits .xor .i64 (rd l1 x556) 1 : Int).toNat * 2)).add 1))) rfl rfl (xr_fieldAddr _ _ rfl rfl (field_at2 Try.underlying78 rfl rfl (by kernel_rfl))) ?_
      simp only [ls0, ls1]
      refine st (.int .i64 ((rd_T78 y593 (Go.bits .xor .i64 (rd l1 x556) 1)).f1)) rfl rfl (xr_load (.pointer (some (((⟨g602, 0, none⟩ : Addr).add ((Go.bits .xor .i64 (rd l1 x556) 1 : Int).toNat * 2)).add 1))) (.int .i64 ((rd_T78 y593 (Go.bits .xor .i64 (rd l1 x556) 1)).f1)) rfl rfl (by obtain ⟨ad_, cs_, e_, _, hK_, hc_⟩ := Kd.C_get (Ft.now (HO597.ft)) z78 (Go.bits .xor .i64 (rd l1 x556) 1) (by first | assumption | decide | omega) (by first | assumption | decide | omega); rw [hA603] at e_; injection e_ with e_; subst e_; obtain rfl := k78_open hK_; exact load_cell Try.underlying2 rfl (by first | (rw [add_add]; exact hc_ 1 _ rfl) | (have h_ := hc_ 1 _ rfl; rw [Nat.add_zero] at h_; exact h_)))) ?_
      refine mv_ rfl ?_
      refine st (.int .i64 (wrap64 (((rd_T78 y593 (Go.bits .xor .i64 (rd l1 x556) 1)).f1) + x429))) rfl rfl (xr_bin _ _ _ rfl rfl rfl (B.add_i64 _ _)) ?_
      obtain ⟨g605, hA606⟩ := HO597.form (pos_of (j := (Go.bits .xor .i64 (rd l1 x556) 1)) (by first | assumption | decide) (by first | assumption | omega))
      refine st (.pointer (some ((⟨g605, 0, none⟩ : Addr).add ((Go.bits .xor .i64 (rd l1 x556) 1 : Int).toNat * 2)))) rfl rfl (xr_indexAddr _ _ _ rfl rfl rfl (index_at Try.underlying67 info78 hA606 (by first | assumption | decide | omega) (by first | assumption | decide | omega))) ?_
      simp only [ls0, ls1]
      refine st (.pointer (some (((⟨g605, 0, none⟩ : Addr).add ((Go.bits .xor .i64 (rd l1 x556) 1 : Int).toNat * 2)).add 1))) rfl rfl (xr_fieldAddr _ _ rfl rfl (field_at2 Try.underlying78 rfl rfl (by kernel_rfl))) ?_
      obtain ⟨y607, A608, H⟩ := bnd H
      refine Own.storef k78 (C := C596) (i := 2) rfl rfl 2 _ _ rfl 78 2 (Go.bits .xor .i64 (rd l1 x556) 1) 1 y593 (⟨(rd_T78 y593 (Go.bits .xor .i64 (rd l1 x556) 1)).f0, wrap64 (((rd_T78 y593 (Go.bits .xor .i64 (rd l1 x556) 1)).f1) + x429)⟩ : S78) (.int .i64 (wrap64 (((rd_T78 y593 (Go.bits .xor .i64 (rd l1 x556) 1)).f1) + x429))) [.int .i64 (wrap64 (((rd_T78 y593 (Go.bits .xor .i64 (rd l1 x556) 1)).f1) + x429))] [.int .i64 ((rd_T78 y593 (Go.bits .xor .i64 (rd l1 x556) 1)).f0), .int .i64 ((rd_T78 y593 (Go.bits .xor .i64 (rd l1 x556) 1)).f1)] z78 hA606 rfl rfl rfl rfl (by kernel_rfl) (by simp [Value.oneCell']) (fun _ h_ => k78_open h_) (by first | decide | simp) HO597 (by decide) (by first | assumption | decide | omega) (by first | assumption | decide | omega) (k78_mkF _ _ (⟨(rd_T78 y593 (Go.bits .xor .i64 (rd l1 x556) 1)).f0, wrap64 (((rd_T78 y593 (Go.bits .xor .i64 (rd l1 x556) 1)).f1) + x429)⟩ : S78)) (Option.some.inj A608) ?_
      intro w609 C610 HO611 HC613 hs612
      replace HJ555 := HJ555.thru hs612 rfl
      replace HJ567 := HJ567.thru hs612 rfl
      replace HJ563 := HJ563.thru hs612 rfl
      replace HJ564 := HJ564.thru hs612 rfl
      replace HJ565 := HJ565.thru hs612 rfl
      replace HJ566 := HJ566.thru hs612 rfl
      replace HS571 := HS571.trans hs612 hc rfl
      (try simp only [ls0, ls1])
      (try rw [show y593.length = y607.length by rw [← Option.some.inj A608, List.length_set]])
      (try rw [show y593.length = y607.length by rw [← Option.some.inj A608, List.length_set]] at HJ567)
      refine wl_end ?_
      (try simp only [ls0, ls1])
      refine hK580 _ _ ?_
      (try clear hK580 K580)
      refine wl_region ?_
      refine st (.int .i64 (wrap64 (x556 + 1))) rfl rfl (xr_bin _ _ _ rfl rfl rfl (B.add_i64 _ _)) ?_
      refine mv_ rfl ?_
      refine wl_end ?_
      (try simp only [ls0, ls1])
      exact jmpL (fun a_ h_ => ih573 k576 (by omega) a_ _ h_) (fun g_ => ⟨_, wrap64 (x556 + 1), A558, y607.length, cp560, y607, g_, rfl, HS571, (by omega), HJ555, HO611, HC613, HJ563, HJ564, HJ565, HJ566, HJ567, H⟩) rfl
     rw [if_neg c579] at H
     (try rw [(decide_eq_false c579)])
     refine wp_cond_false rfl ?_
     refine wp_exit ?_
     (try simp only [ls0, ls1])
     refine hK459 _ _ ?_
     (try clear hK459 K459)
     refine wp_seq_k fun K614 hK614 => ?_
     refine wl_region ?_
     refine mv_ rfl ?_
     refine as_ rfl ?_
     refine wl_end ?_
     (try simp only [ls0, ls1])
     refine hK614 _ _ ?_
     (try clear hK614 K614)
     refine wp_ret ?_
     (try simp only [Exit.inBlock, Exit.then, Exit.noGoto])
     (try simp only [ls0, ls1])
     simp only [Option.some.injEq, Prod.mk.injEq] at H
     obtain ⟨rfl, rfl⟩ := H
     refine bodyPost_ret (results_tmp rfl _ _ _) rfl ?_
     exact ⟨_, A558, cp560, rfl, HS571, HJ562, HC561, HJ567⟩

/-! ### maxflow_Net_Max_1: function 39 -/
def maxflow_Net_Max_1.f (a0 : Int) (x1 : Option S24) : Option (Bool) := if (Int.tmod a0 2) = 0 then (onOpt x1 (none) (fun o25 => (onOpt o25.f0 (none) (fun o31 => (if 0 ≤ a0 then (if a0 < (o31.f0.length : Int) then (some (decide (((rd_T78 o31.f0 a0).f1) = 4611686018427387904))) else (none)) else (none)))))) else (some false)
set_option maxHeartbeats 8000000 in
set_option maxRecDepth 100000 in
theorem maxflow_Net_Max_1.calls (a0 : Int) (v1 : Value) (x1 : Option S24) (r : Bool) (c : Nat → Nat) (w : World) (hc : ∀ k, c k < 10) (HP1 : Ft c [0] w (fun w_ => (Kd.ptr 24 k24).K w_ x1 [v1])) (H : maxflow_Net_Max_1.f a0 x1 = some r) :
    Calls Try.prog 39 #[.int .i64 a0, v1] w fun e w' => ∃ (c' : Nat → Nat) , e = .returned (.bool r) ∧ Step c w c' w' [] := by
 unfold maxflow_Net_Max_1.f at H
 have HS := Step.refl c w []
 go_enter Try.func39, Try.ntmps39
 refine wp_seq_k fun K22 hK22 => ?_
 refine wl_region ?_
 refine st (.bool false) rfl rfl (xr_assign _ rfl rfl) ?_
 refine wl_end ?_
 (try simp only [ls0, ls1])
 refine hK22 _ _ ?_
 (try clear hK22 K22)
 refine wp_seq_k fun K23 hK23 => ?_
 refine wl_region ?_
 refine mv_ rfl ?_
 refine st (.int .i64 (Int.tmod a0 2)) rfl rfl (xr_bin _ _ _ rfl rfl rfl (B.rem_i64 _ _ (by decide))) ?_
 refine st (.bool (decide ((Int.tmod a0 2) = 0))) rfl rfl (xr_bin _ _ _ rfl rfl rfl (B.eql_i64 _ _)) ?_
 refine mv_ rfl ?_
 simp only [ls0, ls1]
 by_cases c24 : (Int.tmod a0 2) = 0
 ·rw [if_pos c24] at H
  (try rw [(decide_eq_true c24)])
  refine on_guard (guard_on 3 true 7 rfl rfl rfl) ?_
  cases x1 with
  | none =>
   (try simp only [onOpt] at H)
   obtain rfl := ptr_none HP1
   exact absurd H (by simp)
  | some o25 =>
   (try simp only [onOpt] at H)
   obtain ⟨g26, cs27, rfl, HX28, HK29⟩ := ptr_some HP1
   obtain ⟨vq30_0, rfl, HRq30_0⟩ := k24_openF HK29
   replace HRq30_0 : Ft c [0] w (fun w_ => (Kd.ptr 74 k74).K w_ o25.f0 [vq30_0]) := HRq30_0
   refine st (vq30_0) rfl rfl (xr_load _ _ rfl rfl (load_cell Try.underlying24 rfl (bx_cell (Ft.now HX28) 0 rfl))) ?_
   refine on_guard (guard_on 3 true 7 rfl rfl rfl) ?_
   generalize o25.f0 = z32 at *
   cases z32 with
   | none =>
    (try simp only [onOpt] at H)
    obtain rfl := ptr_none HRq30_0
    exact absurd H (by simp)
   | some o31 =>
    (try simp only [onOpt] at H)
    obtain ⟨g33, cs34, rfl, HX35, HK36⟩ := ptr_some HRq30_0
    obtain ⟨Aq37_0, cpq37_0, Aq37_1, cpq37_1, Aq37_2, cpq37_2, Aq37_5, cpq37_5, Aq37_6, cpq37_6, rfl, HCq37_0, HRq37_0, HCq37_1, HRq37_1, HCq37_2, HRq37_2, HCq37_5, HRq37_5, HCq37_6, HRq37_6⟩ := k74_openF HK36
    replace HRq37_0 : Ft c [0] w (fun w_ => k78.C w_ Aq37_0 o31.f0.length o31.f0) := HRq37_0
    replace HRq37_1 : Ft c [0] w (fun w_ => (Kd.int .i64).C w_ Aq37_1 o31.f1.length o31.f1) := HRq37_1
    replace HRq37_2 : Ft c [0] w (fun w_ => (Kd.slice 3 (Kd.int .i64)).C w_ Aq37_2 o31.f2.length o31.f2) := HRq37_2
    replace HRq37_5 : Ft c [0] w (fun w_ => (Kd.int .i64).C w_ Aq37_5 o31.f5.length o31.f5) := HRq37_5
    replace HRq37_6 : Ft c [0] w (fun w_ => (Kd.int .i64).C w_ Aq37_6 o31.f6.length o31.f6) := HRq37_6
    refine st (.pointer (some ⟨g33, 0, none⟩)) rfl rfl (xr_nilCheck _ rfl rfl) ?_
    refine on_guard (guard_on 3 true 7 rfl rfl rfl) ?_
    refine st (.pointer (some ⟨g33, 0, none⟩)) rfl rfl (xr_fieldAddr _ _ rfl rfl (bx_field2 Try.underlying74 rfl rfl (by kernel_rfl))) ?_
    refine on_guard (guard_on 3 true 7 rfl rfl rfl) ?_
    refine st (.slice Aq37_0 o31.f0.length cpq37_0) rfl rfl (xr_load _ _ rfl rfl (load_cell Try.underlying67 rfl (bx_cell (Ft.now HX35) 0 rfl))) ?_
    simp only [ls0, ls1]
    refine on_guard (guard_on 3 true 7 rfl rfl rfl) ?_
    refine mv_ rfl ?_
    refine on_guard (guard_on 3 true 7 rfl rfl rfl) ?_
    obtain ⟨c38, H⟩ := if_some H
    obtain ⟨c39, H⟩ := if_some H
    obtain ⟨ad40, hA41⟩ := c_addr (Ft.now HRq37_0) (pos_of (j := a0) (by first | assumption | decide) (by first | assumption | omega))
    refine st (.pointer (some (ad40.add ((a0 : Int).toNat * 2)))) rfl rfl (xr_indexAddr _ _ _ rfl rfl rfl (index_at Try.underlying67 info78 hA41 (by first | assumption | decide | omega) (by first | assumption | decide | omega))) ?_
    refine on_guard (guard_on 3 true 7 rfl rfl rfl) ?_
    refine st (.pointer (some ((ad40.add ((a0 : Int).toNat * 2)).add 1))) rfl rfl (xr_fieldAddr _ _ rfl rfl (field_at2 Try.underlying78 rfl rfl (by kernel_rfl))) ?_
    refine on_guard (guard_on 3 true 7 rfl rfl rfl) ?_
    refine st (.int .i64 ((rd_T78 o31.f0 a0).f1)) rfl rfl (xr_load (.pointer (some ((ad40.add ((a0 : Int).toNat * 2)).add 1))) (.int .i64 ((rd_T78 o31.f0 a0).f1)) rfl rfl (by obtain ⟨ad_, cs_, e_, _, hK_, hc_⟩ := Kd.C_get (Ft.now HRq37_0) z78 a0 (by first | assumption | decide | omega) (by first | assumption | decide | omega); rw [hA41] at e_; injection e_ with e_; subst e_; obtain rfl := k78_open hK_; exact load_cell Try.underlying2 rfl (by first | (rw [add_add]; exact hc_ 1 _ rfl) | (have h_ := hc_ 1 _ rfl; rw [Nat.add_zero] at h_; exact h_)))) ?_
    simp only [ls0, ls1]
    refine on_guard (guard_on 3 true 7 rfl rfl rfl) ?_
    refine st (.bool (decide (((rd_T78 o31.f0 a0).f1) = 4611686018427387904))) rfl rfl (xr_bin _ _ _ rfl rfl rfl (B.eql_i64 _ _)) ?_
    refine st (.bool (decide (((rd_T78 o31.f0 a0).f1) = 4611686018427387904))) rfl rfl (xr_pick true _ rfl rfl rfl) ?_
    refine as_ rfl ?_
    refine wl_end ?_
    (try simp only [ls0, ls1])
    refine hK23 _ _ ?_
    (try clear hK23 K23)
    refine wp_ret ?_
    (try simp only [Exit.inBlock, Exit.then, Exit.noGoto])
    (try simp only [ls0, ls1])
    obtain rfl := Option.some.inj H
    refine bodyPost_ret (results_tmp rfl _ _ _) rfl ?_
    exact ⟨_, rfl, HS⟩
 rw [if_neg c24] at H
 (try rw [(decide_eq_false c24)])
 refine sk_guard (guard_off 3 true 7 rfl rfl false (by decide) rfl) rfl ?_
 refine sk_guard (guard_off 3 true 7 rfl rfl false (by decide) rfl) rfl ?_
 refine sk_guard (guard_off 3 true 7 rfl rfl false (by decide) rfl) rfl ?_
 refine sk_guard (guard_off 3 true 7 rfl rfl false (by decide) rfl) rfl ?_
 simp only [ls0, ls1]
 refine sk_guard (guard_off 3 true 7 rfl rfl false (by decide) rfl) rfl ?_
 refine sk_guard (guard_off 3 true 7 rfl rfl false (by decide) rfl) rfl ?_
 refine sk_guard (guard_off 3 true 7 rfl rfl false (by decide) rfl) rfl ?_
 refine sk_guard (guard_off 3 true 7 rfl rfl false (by decide) rfl) rfl ?_
 simp only [ls0, ls1]
 refine sk_guard (guard_off 3 true 7 rfl rfl false (by decide) rfl) rfl ?_
 refine st (.bool false) rfl rfl (xr_pick false _ rfl rfl rfl) ?_
 refine as_ rfl ?_
 refine wl_end ?_
 (try simp only [ls0, ls1])
 refine hK23 _ _ ?_
 (try clear hK23 K23)
 refine wp_ret ?_
 (try simp only [Exit.inBlock, Exit.then, Exit.noGoto])
 (try simp only [ls0, ls1])
 obtain rfl := Option.some.inj H
 refine bodyPost_ret (results_tmp rfl _ _ _) rfl ?_
 exact ⟨_, rfl, HS⟩

/-! ### maxflow_Net_reach_maxflow_Net_Max_1: function 38 -/
mutual
def maxflow_Net_reach_maxflow_Net_Max_1.j0 : Nat → Int → Bool → (List (S78)) → (List Int) → (List (List Int)) → (List Int) → (List Int) → (List Int) → (List Int) → (List Int) → Int → Bool → Int → Option (List Int × Int)
  | 0, _, _, _, _, _, _, _, _, _, _, _, _, _ => none
  | k + 1, a0_3, a0_4, l0_0, l0_1, l0_2, l0_5, l0_6, x2072, x2340, x2346, x2353, x2405, y2113 => if x2405 = true then (if 0 ≤ (rd x2072 0) then (if (rd x2072 0) < (x2340.length : Int) then (if 0 ≤ ((rd_T78 l0_0 (rd (rd_L4 l0_2 (rd x2072 0)) x2353)).f0) then (if ((rd_T78 l0_0 (rd (rd_L4 l0_2 (rd x2072 0)) x2353)).f0) < (x2340.length : Int) then ((some (x2340.set ((rd_T78 l0_0 (rd (rd_L4 l0_2 (rd x2072 0)) x2353)).f0 : Int).toNat (wrap64 ((rd x2340 (rd x2072 0)) + 1)) : List Int)).bind fun y2426 => (if x2346.length < 17592186044416 then ((some (x2346 ++ [(rd_T78 l0_0 (rd (rd_L4 l0_2 (rd x2072 0)) x2353)).f0] : List Int)).bind fun y2434 => (maxflow_Net_reach_maxflow_Net_Max_1.l0 k a0_3 a0_4 l0_0 l0_1 l0_2 l0_5 l0_6 x2072 y2426 y2434 (wrap64 (x2353 + 1)) y2113)) else (none))) else (none)) else (none)) else (none)) else (none)) else (maxflow_Net_reach_maxflow_Net_Max_1.l0 k a0_3 a0_4 l0_0 l0_1 l0_2 l0_5 l0_6 x2072 x2340 x2346 (wrap64 (x2353 + 1)) y2113)
def maxflow_Net_reach_maxflow_Net_Max_1.l0 : Nat → Int → Bool → (List (S78)) → (List Int) → (List (List Int)) → (List Int) → (List Int) → (List Int) → (List Int) → (List Int) → Int → Int → Option (List Int × Int)
  | 0, _, _, _, _, _, _, _, _, _, _, _, _ => none
  | k + 1, a0_3, a0_4, l0_0, l0_1, l0_2, l0_5, l0_6, x2072, x2340, x2346, x2353, y2113 => if x2353 < ((rd_L4 l0_2 (rd x2072 0)).length : Int) then (if 0 ≤ x2353 then (if 0 ≤ (rd (rd_L4 l0_2 (rd x2072 0)) x2353) then (if (rd (rd_L4 l0_2 (rd x2072 0)) x2353) < (l0_0.length : Int) then (if 0 ≤ ((rd_T78 l0_0 (rd (rd_L4 l0_2 (rd x2072 0)) x2353)).f0) then (if ((rd_T78 l0_0 (rd (rd_L4 l0_2 (rd x2072 0)) x2353)).f0) < (x2340.length : Int) then (if (rd x2340 ((rd_T78 l0_0 (rd (rd_L4 l0_2 (rd x2072 0)) x2353)).f0)) = 0 then ((maxflow_Net_Max_1.f (rd (rd_L4 l0_2 (rd x2072 0)) x2353) (some (⟨(some (⟨l0_0, l0_1, l0_2, a0_3, a0_4, l0_5, l0_6, (⟨y2113⟩ : S72)⟩ : S74) : Option S74)⟩ : S24) : Option S24)).bind fun t2450 => (maxflow_Net_reach_maxflow_Net_Max_1.j0 k a0_3 a0_4 l0_0 l0_1 l0_2 l0_5 l0_6 x2072 x2340 x2346 x2353 t2450 y2113)) else (maxflow_Net_reach_maxflow_Net_Max_1.j0 k a0_3 a0_4 l0_0 l0_1 l0_2 l0_5 l0_6 x2072 x2340 x2346 x2353 false y2113)) else (none)) else (none)) else (none)) else (none)) else (none)) else (maxflow_Net_reach_maxflow_Net_Max_1.l1 k a0_3 a0_4 l0_0 l0_1 l0_2 l0_5 l0_6 x2340 x2346 y2113)
def maxflow_Net_reach_maxflow_Net_Max_1.l1 : Nat → Int → Bool → (List (S78)) → (List Int) → (List (List Int)) → (List Int) → (List Int) → (List Int) → (List Int) → Int → Option (List Int × Int)
  | 0, _, _, _, _, _, _, _, _, _, _ => none
  | k + 1, a0_3, a0_4, l0_0, l0_1, l0_2, l0_5, l0_6, x2066, x2072, x2083 => if (x2072.length : Int) > 0 then (if 0 < (x2072.length : Int) then (if 1 ≤ (x2072.length : Int) then ((some (x2072.drop (1 : Int).toNat : List Int)).bind fun y2104 => ((some (wrap64 (x2083 + 1) : Int)).bind fun y2113 => (if 0 ≤ (rd x2072 0) then (if (rd x2072 0) < (l0_2.length : Int) then (maxflow_Net_reach_maxflow_Net_Max_1.l0 k a0_3 a0_4 l0_0 l0_1 l0_2 l0_5 l0_6 x2072 x2066 y2104 0 y2113) else (none)) else (none)))) else (none)) else (none)) else (some (x2066, x2083))
end
def maxflow_Net_reach_maxflow_Net_Max_1.f (k : Nat) (l0_0 : List (S78)) (l0_1 : List Int) (l0_2 : List (List Int)) (a0_3 : Int) (a0_4 : Bool) (l0_5 : List Int) (l0_6 : List Int) (a0_7 : Int) (a1 : Int) : Option (List Int × Int) := if 0 ≤ (l0_2.length : Int) then (if ((l0_2.length : Int) : Int).toNat * 8 ≤ 281474976710656 then ((some (List.replicate ((l0_2.length : Int) : Int).toNat 0 : List Int)).bind fun y1233 => (if 0 ≤ a1 then (if a1 < (y1233.length : Int) then ((some (y1233.set (a1 : Int).toNat 1 : List Int)).bind fun y1247 => ((some ([a1] : List Int)).bind fun y1256 => (maxflow_Net_reach_maxflow_Net_Max_1.l1 k a0_3 a0_4 l0_0 l0_1 l0_2 l0_5 l0_6 y1247 y1256 a0_7))) else (none)) else (none))) else (none)) else (none)

set_option maxHeartbeats 8000000 in
set_option maxRecDepth 100000 in
theorem maxflow_Net_reach_maxflow_Net_Max_1.calls (k : Nat) (g0 : Nat) (A0_0 : Option Addr) (c0_0 : Nat) (l0_0 : List (S78)) (A0_1 : Option Addr) (c0_1 : Nat) (l0_1 : List Int) (A0_2 : Option Addr) (c0_2 : Nat) (l0_2 : List (List Int)) (a0_3 : Int) (a0_4 : Bool) (A0_5 : Option Addr) (c0_5 : Nat) (l0_5 : List Int) (A0_6 : Option Addr) (c0_6 : Nat) (l0_6 : List Int) (a0_7 : Int) (a1 : Int) (g2_0 : Nat) (r1 : List Int) (r2 : Int) (c : Nat → Nat) (w : World) (hc : ∀ k, c k < 10) (HP0 : Bx c 1 w g0 74 ([.slice A0_0 l0_0.length c0_0, .slice A0_1 l0_1.length c0_1, .slice A0_2 l0_2.length c0_2, .int .i64 a0_3, .bool a0_4, .slice A0_5 l0_5.length c0_5, .slice A0_6 l0_6.length c0_6, .int .i64 a0_7])) (HP0_0 : Ft c [0] w (fun w_ => k78.C w_ A0_0 l0_0.length l0_0)) (HCP0_0 : l0_0.length ≤ c0_0) (HP0_1 : Ft c [0] w (fun w_ => (Kd.int .i64).C w_ A0_1 l0_1.length l0_1)) (HCP0_1 : l0_1.length ≤ c0_1) (HP0_2 : Ft c [0] w (fun w_ => (Kd.slice 3 (Kd.int .i64)).C w_ A0_2 l0_2.length l0_2)) (HCP0_2 : l0_2.length ≤ c0_2) (HP0_5 : Ft c [0] w (fun w_ => (Kd.int .i64).C w_ A0_5 l0_5.length l0_5)) (HCP0_5 : l0_5.length ≤ c0_5) (HP0_6 : Ft c [0] w (fun w_ => (Kd.int .i64).C w_ A0_6 l0_6.length l0_6)) (HCP0_6 : l0_6.length ≤ c0_6) (HP2_0 : Ft c [0] w (fun w_ => w_.heap[g2_0]? = some (.cells (List.toArray ([.pointer (some ⟨g0, 0, none⟩)])) 24 (0, 0)))) (H : maxflow_Net_reach_maxflow_Net_Max_1.f k l0_0 l0_1 l0_2 a0_3 a0_4 l0_5 l0_6 a0_7 a1 = some (r1, r2)) :
    Calls Try.prog 38 #[.pointer (some ⟨g0, 0, none⟩), .int .i64 a1, .func (.func 39) #[] #[.pointer (some ⟨g2_0, 0, none⟩)]] w fun e w' => ∃ (c' : Nat → Nat) (A_r1 : Option Addr) (c_r1 : Nat), e = .returned (.slice A_r1 r1.length c_r1) ∧ Step c w c' w' [1] ∧ Own c' 5 w' (Kd.int .i64) 3 (.slice A_r1 r1.length c_r1) r1 ∧ r1.length ≤ c_r1 ∧ Bx c' 1 w' g0 74 ([.slice A0_0 l0_0.length c0_0, .slice A0_1 l0_1.length c0_1, .slice A0_2 l0_2.length c0_2, .int .i64 a0_3, .bool a0_4, .slice A0_5 l0_5.length c0_5, .slice A0_6 l0_6.length c0_6, .int .i64 r2]) := by
 unfold maxflow_Net_reach_maxflow_Net_Max_1.f at H
 have HS := Step.refl c w [1]
 go_enter Try.func38, Try.ntmps38
 refine wp_seq_k fun K1229 hK1229 => ?_
 refine wl_region ?_
 refine st (.slice none 0 0) rfl rfl (xr_assign _ rfl rfl) ?_
 refine wl_end ?_
 (try simp only [ls0, ls1])
 refine hK1229 _ _ ?_
 (try clear hK1229 K1229)
 refine wp_seq_k fun K1230 hK1230 => ?_
 refine wl_region ?_
 refine mv_ rfl ?_
 refine st (.pointer (some ⟨g0, 0, none⟩)) rfl rfl (xr_nilCheck _ rfl rfl) ?_
 refine st (.pointer (some ⟨g0, 2, none⟩)) rfl rfl (xr_fieldAddr _ _ rfl rfl (bx_field2 Try.underlying74 rfl rfl (by kernel_rfl))) ?_
 refine st (.slice A0_2 l0_2.length c0_2) rfl rfl (xr_load _ _ rfl rfl (load_cell Try.underlying66 rfl (bx_cell (HP0).2 2 rfl))) ?_
 simp only [ls0, ls1]
 refine st (.int .i64 (l0_2.length : Int)) rfl rfl (xr_builtin #[.slice A0_2 l0_2.length c0_2] (.int .i64 (l0_2.length : Int)) rfl (mp_ rfl) (by first | rfl | (go_simp; done) | (go_simp; rfl) | (go_simp; exact i64_w _) | (go_simp; exact i32_w _))) ?_
 obtain ⟨c1231, H⟩ := if_some H
 obtain ⟨c1232, H⟩ := if_some H
 obtain ⟨y1233, A1234, H⟩ := bnd H
 refine Own.make (Kd.int .i64) (C := c) (i := 11) rfl 3 rfl 47 _ _ rfl (l0_2.length : Int) rfl rfl Try.underlying47 (.int .i64 0) 8 info3 rfl (by decide) (by decide) 0 (fun _ _ => rfl) (by first | decide | assumption | omega) (by first | decide | assumption | omega) (Option.some.inj A1234) ?_
 intro A1235 cp1236 w1237 C1238 HO1239 HC1240 hs1241
 replace HP0 := HP0.thru hs1241 rfl
 replace HP0_0 := HP0_0.thru hs1241 rfl
 replace HP0_1 := HP0_1.thru hs1241 rfl
 replace HP0_2 := HP0_2.thru hs1241 rfl
 replace HP0_5 := HP0_5.thru hs1241 rfl
 replace HP0_6 := HP0_6.thru hs1241 rfl
 replace HP2_0 := HP2_0.thru hs1241 rfl
 replace HS := HS.trans hs1241 hc rfl
 (try simp only [Act.put, List.setIfInBounds_toArray, ls0, ls1])
 refine as_ rfl ?_
 refine wl_end ?_
 (try simp only [ls0, ls1])
 refine hK1230 _ _ ?_
 (try clear hK1230 K1230)
 refine wp_seq_k fun K1242 hK1242 => ?_
 refine wl_region ?_
 refine mv_ rfl ?_
 refine mv_ rfl ?_
 obtain ⟨c1243, H⟩ := if_some H
 obtain ⟨c1244, H⟩ := if_some H
 obtain ⟨g1245, hA1246⟩ := HO1239.form (pos_of (j := a1) (by first | assumption | decide) (by first | assumption | omega))
 refine st (.pointer (some ((⟨g1245, 0, none⟩ : Addr).add ((a1 : Int).toNat * 1)))) rfl rfl (xr_indexAddr _ _ _ rfl rfl rfl (index_at Try.underlying47 info3 hA1246 (by first | assumption | decide | omega) (by first | assumption | decide | omega))) ?_
 obtain ⟨y1247, A1248, H⟩ := bnd H
 refine Own.store1 (Kd.int .i64) (C := C1238) (i := 11) rfl rfl 3 _ _ rfl 3 1 a1 y1233 1 (.int .i64 1) [.int .i64 1] hA1246 rfl rfl rfl rfl (by kernel_rfl) (by simp [Value.oneCell']) rfl HO1239 (by decide) (by first | assumption | decide | omega) (by first | assumption | decide | omega) (fk_int .i64 _ _ 1) (Option.some.inj A1248) ?_
 intro w1249 C1250 HO1251 HC1253 hs1252
 replace HP0 := HP0.thru hs1252 rfl
 replace HP0_0 := HP0_0.thru hs1252 rfl
 replace HP0_1 := HP0_1.thru hs1252 rfl
 replace HP0_2 := HP0_2.thru hs1252 rfl
 replace HP0_5 := HP0_5.thru hs1252 rfl
 replace HP0_6 := HP0_6.thru hs1252 rfl
 replace HP2_0 := HP2_0.thru hs1252 rfl
 replace HS := HS.trans hs1252 hc rfl
 (try simp only [ls0, ls1])
 (try rw [show y1233.length = y1247.length by rw [← Option.some.inj A1248, List.length_set]])
 refine wl_end ?_
 (try simp only [ls0, ls1])
 refine hK1242 _ _ ?_
 (try clear hK1242 K1242)
 refine wp_seq_k fun K1254 hK1254 => ?_
 refine wp_seq_k fun K1255 hK1255 => ?_
 refine wl_region ?_
 refine mv_ rfl ?_
 obtain ⟨y1256, A1257, H⟩ := bnd H
 refine Own.lit (Kd.int .i64) (C := C1250) (i := 12) rfl 3 rfl (xs := [a1]) (inner := [.int .i64 a1]) (by first | (go_simp; done) | (go_simp; rfl)) (reps_cons (fk_int .i64 _ _ a1) rfl (Reps.none _ _)) (by simp only [List.length_cons, List.length_nil]; omega) (Option.some.inj A1257) ?_
 intro A1258 cp1259 w1260 C1261 HO1262 HC1263 hs1264
 replace HP0 := HP0.thru hs1264 rfl
 replace HP0_0 := HP0_0.thru hs1264 rfl
 replace HP0_1 := HP0_1.thru hs1264 rfl
 replace HP0_2 := HP0_2.thru hs1264 rfl
 replace HP0_5 := HP0_5.thru hs1264 rfl
 replace HP0_6 := HP0_6.thru hs1264 rfl
 replace HP2_0 := HP2_0.thru hs1264 rfl
 replace HO1251 := HO1251.thru hs1264 rfl
 replace HS := HS.trans hs1264 hc rfl
 (try simp only [Act.put, List.setIfInBounds_toArray, ls0, ls1])
 refine as_ rfl ?_
 refine wl_end ?_
 (try simp only [ls0, ls1])
 refine hK1255 _ _ ?_
 (try clear hK1255 K1255)
 refine wp_block ?_
 (try simp only [ls0, ls1])
 refine wp_looped (looped_fin (fun kq2088 a_ w2087 => ∃ (C2086 : Nat → Nat) (x2083 : Int) (A2067 : Option Addr) (n2068 cp2069 : Nat) (x2066 : List Int) (A2073 : Option Addr) (n2074 cp2075 : Nat) (x2072 : List Int) (g_ : Nat → Value), a_ = ⟨#[.pointer (some ⟨g0, 0, none⟩), (g_ 1), .func (.func 39) #[] #[.pointer (some ⟨g2_0, 0, none⟩)], (g_ 3), (g_ 4), (g_ 5), (g_ 6), .slice A2067 n2068 cp2069, .slice A2073 n2074 cp2075, (g_ 9), (g_ 10), (g_ 11), (g_ 12), (g_ 13), (g_ 14), (g_ 15), (g_ 16), (g_ 17), (g_ 18), (g_ 19), (g_ 20), (g_ 21), (g_ 22), (g_ 23), (g_ 24), (g_ 25), (g_ 26), (g_ 27), (g_ 28), (g_ 29), (g_ 30), (g_ 31), (g_ 32), (g_ 33), (g_ 34), (g_ 35), (g_ 36), (g_ 37), (g_ 38), (g_ 39), (g_ 40), (g_ 41), (g_ 42), (g_ 43), (g_ 44), (g_ 45), (g_ 46), (g_ 47), (g_ 48), (g_ 49), (g_ 50), (g_ 51), (g_ 52), (g_ 53), (g_ 54), (g_ 55), (g_ 56), (g_ 57), (g_ 58), (g_ 59), (g_ 60), (g_ 61), (g_ 62), (g_ 63), (g_ 64), (g_ 65), (g_ 66), (g_ 67), (g_ 68), (g_ 69), (g_ 70), (g_ 71), (g_ 72), (g_ 73), (g_ 74), (g_ 75), (g_ 76), (g_ 77), (g_ 78), (g_ 79)], []⟩ ∧ Step c w C2086 w2087 [1] ∧ kq2088 ≤ k ∧ (Own C2086 13 w2087 (Kd.int .i64) 3 (.slice A2067 n2068 cp2069) x2066) ∧ (n2068 ≤ cp2069) ∧ (OwnG false C2086 14 w2087 .i64 3 (.slice A2073 n2074 cp2075) x2072) ∧ (n2074 ≤ cp2075) ∧ (Ft C2086 [0] w2087 (fun w_ => k78.C w_ A0_0 l0_0.length l0_0)) ∧ (Ft C2086 [0] w2087 (fun w_ => (Kd.int .i64).C w_ A0_1 l0_1.length l0_1)) ∧ (Ft C2086 [0] w2087 (fun w_ => (Kd.slice 3 (Kd.int .i64)).C w_ A0_2 l0_2.length l0_2)) ∧ (Ft C2086 [0] w2087 (fun w_ => (Kd.int .i64).C w_ A0_5 l0_5.length l0_5)) ∧ (Ft C2086 [0] w2087 (fun w_ => (Kd.int .i64).C w_ A0_6 l0_6.length l0_6)) ∧ (Bx C2086 1 w2087 g0 74 ([.slice A0_0 l0_0.length c0_0, .slice A0_1 l0_1.length c0_1, .slice A0_2 l0_2.length c0_2, .int .i64 a0_3, .bool a0_4, .slice A0_5 l0_5.length c0_5, .slice A0_6 l0_6.length c0_6, .int .i64 x2083])) ∧ (Ft C2086 [0] w2087 (fun w_ => w_.heap[g2_0]? = some (.cells (List.toArray ([.pointer (some ⟨g0, 0, none⟩)])) 24 (0, 0)))) ∧ maxflow_Net_reach_maxflow_Net_Max_1.l1 kq2088 a0_3 a0_4 l0_0 l0_1 l0_2 l0_5 l0_6 x2066 x2072 x2083 = some (r1, r2)) ?step fun hL_ => ?init)
 case init =>
  replace HP0 := Bx.recol (a := 11) (b := 13) HP0 (by decide)
  replace HP0_0 := Ft.recol (a := 11) (b := 13) HP0_0 (.inl rfl)
  replace HP0_1 := Ft.recol (a := 11) (b := 13) HP0_1 (.inl rfl)
  replace HP0_2 := Ft.recol (a := 11) (b := 13) HP0_2 (.inl rfl)
  replace HP0_5 := Ft.recol (a := 11) (b := 13) HP0_5 (.inl rfl)
  replace HP0_6 := Ft.recol (a := 11) (b := 13) HP0_6 (.inl rfl)
  replace HP2_0 := Ft.recol (a := 11) (b := 13) HP2_0 (.inl rfl)
  replace HO1251 := Own.recolor (b := 13) HO1251 (by decide)
  replace HO1262 := Own.recol (a := 11) (b := 13) HO1262 (by decide) (by decide)
  replace HS := Step.recol (a := 11) (b := 13) HS hc (by decide)
  replace HP0 := Bx.recol (a := 12) (b := 14) HP0 (by decide)
  replace HP0_0 := Ft.recol (a := 12) (b := 14) HP0_0 (.inl rfl)
  replace HP0_1 := Ft.recol (a := 12) (b := 14) HP0_1 (.inl rfl)
  replace HP0_2 := Ft.recol (a := 12) (b := 14) HP0_2 (.inl rfl)
  replace HP0_5 := Ft.recol (a := 12) (b := 14) HP0_5 (.inl rfl)
  replace HP0_6 := Ft.recol (a := 12) (b := 14) HP0_6 (.inl rfl)
  replace HP2_0 := Ft.recol (a := 12) (b := 14) HP2_0 (.inl rfl)
  replace HO1251 := Own.recol (a := 12) (b := 14) HO1251 (by decide) (by decide)
  replace HO1262 := Own.recolor (b := 14) HO1262 (by decide)
  replace HS := Step.recol (a := 12) (b := 14) HS hc (by decide)
  exact jmpL (fun a_ h_ => hL_ k a_ _ h_) (fun g_ => ⟨_, a0_7, A1235, y1247.length, cp1236, y1247, A1258, y1256.length, cp1259, y1256, g_, rfl, HS, Nat.le_refl _, HO1251, HC1253, (OwnG.of HO1262), HC1263, HP0_0, HP0_1, HP0_2, HP0_5, HP0_6, HP0, HP2_0, H⟩) rfl
 case step =>
  intro kq2088 ih2091 a2092 w2087 hr2093
  obtain ⟨C2086, x2083, A2067, n2068, cp2069, x2066, A2073, n2074, cp2075, x2072, g_, rfl, HS2089, hk2090, HJ2071, HC2070, HJ2077, HC2076, HJ2078, HJ2079, HJ2080, HJ2081, HJ2082, HJ2084, HJ2085, H⟩ := hr2093
  refine looped_round ?_
  obtain rfl : n2068 = x2066.length := HJ2071.at_.1
  obtain rfl : n2074 = x2072.length := HJ2077.at_.1
  cases kq2088 with
  | zero => exact absurd H (by simp [maxflow_Net_reach_maxflow_Net_Max_1.l1])
  | succ k2094 =>
   simp only [maxflow_Net_reach_maxflow_Net_Max_1.l1] at H
   refine wp_seq_k fun K2095 hK2095 => ?_
   refine wp_seq_k fun K2096 hK2096 => ?_
   refine wl_region ?_
   refine mv_ rfl ?_
   refine st (.int .i64 (x2072.length : Int)) rfl rfl (xr_builtin #[.slice A2073 x2072.length cp2075] (.int .i64 (x2072.length : Int)) rfl (mp_ rfl) (by first | rfl | (go_simp; done) | (go_simp; rfl) | (go_simp; exact i64_w _) | (go_simp; exact i32_w _))) ?_
   refine st (.bool (decide ((x2072.length : Int) > 0))) rfl rfl (xr_bin _ _ _ rfl rfl rfl (B.gtr_i64 _ _)) ?_
   refine wl_end ?_
   (try simp only [ls0, ls1])
   refine hK2096 _ _ ?_
   (try clear hK2096 K2096)
   by_cases c2097 : (x2072.length : Int) > 0
   ·rw [if_pos c2097] at H
    (try rw [(decide_eq_true c2097)])
    refine wp_cond_true rfl ?_
    refine wp_skip ?_
    (try simp only [ls0, ls1])
    refine hK2095 _ _ ?_
    (try clear hK2095 K2095)
    refine wp_block ?_
    refine wp_seq_k fun K2098 hK2098 => ?_
    refine wl_region ?_
    refine mv_ rfl ?_
    obtain ⟨c2099, H⟩ := if_some H
    obtain ⟨ad2100, hA2101⟩ := c_addr (Ft.now (HJ2077.ft)) (pos_of (j := 0) (by first | assumption | decide) (by first | assumption | omega))
    refine st (.pointer (some (ad2100.add ((0 : Int).toNat * 1)))) rfl rfl (xr_indexAddr _ _ _ rfl rfl rfl (index_at Try.underlying47 info3 hA2101 (by first | assumption | decide | omega) (by first | assumption | decide | omega))) ?_
    refine st (.int .i64 (rd x2072 0)) rfl rfl (xr_load _ _ rfl rfl (load_int Try.underlying3 rfl hA2101 (Ft.now (HJ2077.ft)) (by first | assumption | decide | omega) (by first | assumption | decide | omega))) ?_
    refine as_ rfl ?_
    simp only [ls0, ls1]
    refine wl_end ?_
    (try simp only [ls0, ls1])
    refine hK2098 _ _ ?_
    (try clear hK2098 K2098)
    refine wp_seq_k fun K2102 hK2102 => ?_
    refine wl_region ?_
    refine mv_ rfl ?_
    obtain ⟨c2103, H⟩ := if_some H
    obtain ⟨y2104, A2105, H⟩ := bnd H
    obtain ⟨iz2111, hiz2111, _, hzz2111, _⟩ := info_parts info3
    obtain ⟨A2106, cp2107, hr2110, HR2108, HC2109⟩ := OwnG.cutFrom (t := 47) 3 .i64 Try.underlying47 hiz2111 hzz2111 HJ2077 (by first | assumption | omega | decide) (by first | assumption | omega | decide) (Option.some.inj A2105)
    refine st (.slice A2106 y2104.length cp2107) rfl rfl (xr_slice (.slice A2073 x2072.length cp2075) (some (.int .i64 1)) none none (.slice A2106 y2104.length cp2107) rfl rfl rfl rfl rfl (hr2110 _)) ?_
    clear hr2110 hiz2111 hzz2111
    refine as_ rfl ?_
    refine wl_end ?_
    (try simp only [ls0, ls1])
    refine hK2102 _ _ ?_
    (try clear hK2102 K2102)
    refine wp_seq_k fun K2112 hK2112 => ?_
    refine wl_region ?_
    refine mv_ rfl ?_
    refine st (.pointer (some ⟨g0, 0, none⟩)) rfl rfl (xr_nilCheck _ rfl rfl) ?_
    refine st (.pointer (some ⟨g0, 7, none⟩)) rfl rfl (xr_fieldAddr _ _ rfl rfl (bx_field2 Try.underlying74 rfl rfl (by kernel_rfl))) ?_
    obtain ⟨y2113, A2114, H⟩ := bnd H
    refine st_call #[.pointer (some ⟨g0, 7, none⟩), .int .i64 1] rfl rfl Try.func49 (by kernel_rfl) rfl rfl (mp_ rfl) ?_
    refine atomic_add (C := C2086) (pre := [.slice A0_0 l0_0.length c0_0, .slice A0_1 l0_1.length c0_1, .slice A0_2 l0_2.length c0_2, .int .i64 a0_3, .bool a0_4, .slice A0_5 l0_5.length c0_5, .slice A0_6 l0_6.length c0_6]) (post := []) (old := x2083) (y := 1) HJ2084 (by first | (simp only [List.append_assoc, List.cons_append, List.nil_append, List.append_nil]; done) | rfl) rfl (r := y2113) (Option.some.inj A2114) (xs' := [.slice A0_0 l0_0.length c0_0, .slice A0_1 l0_1.length c0_1, .slice A0_2 l0_2.length c0_2, .int .i64 a0_3, .bool a0_4, .slice A0_5 l0_5.length c0_5, .slice A0_6 l0_6.length c0_6, .int .i64 y2113]) (by first | (simp only [List.append_assoc, List.cons_append, List.nil_append, List.append_nil]; done) | rfl) ?_
    intro w2115 HX2116 hs2117
    replace HJ2071 := HJ2071.thru hs2117 rfl
    replace HR2108 := HR2108.thru hs2117 rfl
    replace HJ2078 := HJ2078.thru hs2117 rfl
    replace HJ2079 := HJ2079.thru hs2117 rfl
    replace HJ2080 := HJ2080.thru hs2117 rfl
    replace HJ2081 := HJ2081.thru hs2117 rfl
    replace HJ2082 := HJ2082.thru hs2117 rfl
    replace HJ2085 := HJ2085.thru hs2117 rfl
    replace HS2089 := HS2089.trans hs2117 hc rfl
    (try simp only [ls0, ls1])
    refine wl_end ?_
    (try simp only [ls0, ls1])
    refine hK2112 _ _ ?_
    (try clear hK2112 K2112)
    refine wp_seq_k fun K2118 hK2118 => ?_
    refine wl_region ?_
    refine mv_ rfl ?_
    refine st (.pointer (some ⟨g0, 0, none⟩)) rfl rfl (xr_nilCheck _ rfl rfl) ?_
    refine st (.pointer (some ⟨g0, 2, none⟩)) rfl rfl (xr_fieldAddr _ _ rfl rfl (bx_field2 Try.underlying74 rfl rfl (by kernel_rfl))) ?_
    refine st (.slice A0_2 l0_2.length c0_2) rfl rfl (xr_load _ _ rfl rfl (load_cell Try.underlying66 rfl (bx_cell (HX2116).2 2 rfl))) ?_
    simp only [ls0, ls1]
    refine mv_ rfl ?_
    obtain ⟨c2119, H⟩ := if_some H
    obtain ⟨c2120, H⟩ := if_some H
    obtain ⟨ad2121, hA2122⟩ := c_addr (Ft.now HJ2080) (pos_of (j := (rd x2072 0)) (by first | assumption | decide) (by first | assumption | omega))
    refine st (.pointer (some (ad2121.add ((rd x2072 0 : Int).toNat * 1)))) rfl rfl (xr_indexAddr _ _ _ rfl rfl rfl (index_at Try.underlying66 info47 hA2122 (by first | assumption | decide | omega) (by first | assumption | decide | omega))) ?_
    obtain ⟨csq2124, _, hKq2124, hcq2124, hinq2124⟩ := Ft.elem HJ2080 hA2122 [] (rd x2072 0) (by first | assumption | decide | omega) (by first | assumption | decide | omega) (by decide)
    obtain ⟨Aq2124_0, cpq2124_0, rfl, HCq2124_0, HRq2124_0⟩ := slice_openF hKq2124
    replace HRq2124_0 : Ft C2086 [0] w2115 (fun w_ => (Kd.int .i64).C w_ Aq2124_0 (rd_L4 l0_2 (rd x2072 0)).length (rd_L4 l0_2 (rd x2072 0))) := HRq2124_0
    refine st (.slice Aq2124_0 (rd_L4 l0_2 (rd x2072 0)).length cpq2124_0) rfl rfl (xr_load (.pointer (some (ad2121.add ((rd x2072 0 : Int).toNat * 1)))) (.slice Aq2124_0 (rd_L4 l0_2 (rd x2072 0)).length cpq2124_0) rfl rfl (load_cell Try.underlying47 rfl (by have h_ := (hcq2124 0 _ rfl); rw [add_zero_] at h_; exact h_))) ?_
    refine st (.int .i64 ((rd_L4 l0_2 (rd x2072 0)).length : Int)) rfl rfl (xr_builtin #[.slice Aq2124_0 (rd_L4 l0_2 (rd x2072 0)).length cpq2124_0] (.int .i64 ((rd_L4 l0_2 (rd x2072 0)).length : Int)) rfl (mp_ rfl) (by first | rfl | (go_simp; done) | (go_simp; rfl) | (go_simp; exact i64_w _) | (go_simp; exact i32_w _))) ?_
    simp only [ls0, ls1]
    refine st (.int .i64 0) rfl rfl (xr_move _ rfl rfl) ?_
    refine wl_end ?_
    (try simp only [ls0, ls1])
    refine hK2118 _ _ ?_
    (try clear hK2118 K2118)
    refine wp_block ?_
    (try simp only [ls0, ls1])
    refine wp_looped (looped_fin (fun kq2363 a_ w2362 => ∃ (C2361 : Nat → Nat) (x2353 : Int) (A2341 : Option Addr) (n2342 cp2343 : Nat) (x2340 : List Int) (A2347 : Option Addr) (n2348 cp2349 : Nat) (x2346 : List Int) (g_ : Nat → Value), a_ = ⟨#[.pointer (some ⟨g0, 0, none⟩), (g_ 1), .func (.func 39) #[] #[.pointer (some ⟨g2_0, 0, none⟩)], (g_ 3), (g_ 4), (g_ 5), (g_ 6), .slice A2341 n2342 cp2343, .slice A2347 n2348 cp2349, .int .i64 (rd x2072 0), (g_ 10), (g_ 11), (g_ 12), (g_ 13), (g_ 14), (g_ 15), (g_ 16), (g_ 17), (g_ 18), (g_ 19), (g_ 20), (g_ 21), (g_ 22), (g_ 23), (g_ 24), (g_ 25), (g_ 26), (g_ 27), (g_ 28), (g_ 29), (g_ 30), (g_ 31), (g_ 32), (g_ 33), (g_ 34), (g_ 35), (g_ 36), (g_ 37), (g_ 38), (g_ 39), (g_ 40), (g_ 41), .slice Aq2124_0 (rd_L4 l0_2 (rd x2072 0)).length cpq2124_0, .int .i64 ((rd_L4 l0_2 (rd x2072 0)).length : Int), .int .i64 x2353, (g_ 45), (g_ 46), (g_ 47), (g_ 48), (g_ 49), (g_ 50), (g_ 51), (g_ 52), (g_ 53), (g_ 54), (g_ 55), (g_ 56), (g_ 57), (g_ 58), (g_ 59), (g_ 60), (g_ 61), (g_ 62), (g_ 63), (g_ 64), (g_ 65), (g_ 66), (g_ 67), (g_ 68), (g_ 69), (g_ 70), (g_ 71), (g_ 72), (g_ 73), (g_ 74), (g_ 75), (g_ 76), (g_ 77), (g_ 78), (g_ 79)], []⟩ ∧ Step c w C2361 w2362 [1] ∧ kq2363 ≤ k2094 ∧ (Own C2361 15 w2362 (Kd.int .i64) 3 (.slice A2341 n2342 cp2343) x2340) ∧ (n2342 ≤ cp2343) ∧ (OwnG false C2361 16 w2362 .i64 3 (.slice A2347 n2348 cp2349) x2346) ∧ (n2348 ≤ cp2349) ∧ (Ft C2361 [0] w2362 (fun w_ => (Kd.int .i64).C w_ Aq2124_0 ((rd_L4 l0_2 (rd x2072 0)).length) (rd_L4 l0_2 (rd x2072 0)))) ∧ (Ft C2361 [0] w2362 (fun w_ => k78.C w_ A0_0 l0_0.length l0_0)) ∧ (Ft C2361 [0] w2362 (fun w_ => (Kd.int .i64).C w_ A0_1 l0_1.length l0_1)) ∧ (Ft C2361 [0] w2362 (fun w_ => (Kd.slice 3 (Kd.int .i64)).C w_ A0_2 l0_2.length l0_2)) ∧ (Ft C2361 [0] w2362 (fun w_ => (Kd.int .i64).C w_ A0_5 l0_5.length l0_5)) ∧ (Ft C2361 [0] w2362 (fun w_ => (Kd.int .i64).C w_ A0_6 l0_6.length l0_6)) ∧ (Bx C2361 1 w2362 g0 74 ([.slice A0_0 l0_0.length c0_0, .slice A0_1 l0_1.length c0_1, .slice A0_2 l0_2.length c0_2, .int .i64 a0_3, .bool a0_4, .slice A0_5 l0_5.length c0_5, .slice A0_6 l0_6.length c0_6, .int .i64 y2113])) ∧ (Ft C2361 [0] w2362 (fun w_ => w_.heap[g2_0]? = some (.cells (List.toArray ([.pointer (some ⟨g0, 0, none⟩)])) 24 (0, 0)))) ∧ maxflow_Net_reach_maxflow_Net_Max_1.l0 kq2363 a0_3 a0_4 l0_0 l0_1 l0_2 l0_5 l0_6 x2072 x2340 x2346 x2353 y2113 = some (r1, r2)) ?step fun hL_ => ?init)
    case init =>
     replace HJ2071 := Own.recolor (b := 15) HJ2071 (by decide)
     replace HR2108 := OwnG.recol (a := 13) (b := 15) HR2108 (by decide) (by decide)
     replace HX2116 := Bx.recol (a := 13) (b := 15) HX2116 (by decide)
     replace HJ2078 := Ft.recol (a := 13) (b := 15) HJ2078 (.inl rfl)
     replace HJ2079 := Ft.recol (a := 13) (b := 15) HJ2079 (.inl rfl)
     replace HJ2080 := Ft.recol (a := 13) (b := 15) HJ2080 (.inl rfl)
     replace HJ2081 := Ft.recol (a := 13) (b := 15) HJ2081 (.inl rfl)
     replace HJ2082 := Ft.recol (a := 13) (b := 15) HJ2082 (.inl rfl)
     replace HJ2085 := Ft.recol (a := 13) (b := 15) HJ2085 (.inl rfl)
     replace HRq2124_0 := Ft.recol (a := 13) (b := 15) HRq2124_0 (.inl rfl)
     replace HS2089 := Step.recol (a := 13) (b := 15) HS2089 hc (by decide)
     replace HJ2071 := Own.recol (a := 14) (b := 16) HJ2071 (by decide) (by decide)
     replace HR2108 := OwnG.recolor (b := 16) HR2108 (by decide)
     replace HX2116 := Bx.recol (a := 14) (b := 16) HX2116 (by decide)
     replace HJ2078 := Ft.recol (a := 14) (b := 16) HJ2078 (.inl rfl)
     replace HJ2079 := Ft.recol (a := 14) (b := 16) HJ2079 (.inl rfl)
     replace HJ2080 := Ft.recol (a := 14) (b := 16) HJ2080 (.inl rfl)
     replace HJ2081 := Ft.recol (a := 14) (b := 16) HJ2081 (.inl rfl)
     replace HJ2082 := Ft.recol (a := 14) (b := 16) HJ2082 (.inl rfl)
     replace HJ2085 := Ft.recol (a := 14) (b := 16) HJ2085 (.inl rfl)
     replace HRq2124_0 := Ft.recol (a := 14) (b := 16) HRq2124_0 (.inl rfl)
     replace HS2089 := Step.recol (a := 14) (b := 16) HS2089 hc (by decide)
     exact jmpL (fun a_ h_ => hL_ k2094 a_ _ h_) (fun g_ => ⟨_, 0, A2067, x2066.length, cp2069, x2066, A2106, y2104.length, cp2107, y2104, g_, rfl, HS2089, Nat.le_refl _, HJ2071, HC2070, HR2108, HC2109, HRq2124_0, HJ2078, HJ2079, HJ2080, HJ2081, HJ2082, HX2116, HJ2085, H⟩) rfl
    case step =>
     intro kq2363 ih2366 a2367 w2362 hr2368
     obtain ⟨C2361, x2353, A2341, n2342, cp2343, x2340, A2347, n2348, cp2349, x2346, g_, rfl, HS2364, hk2365, HJ2345, HC2344, HJ2351, HC2350, HJ2352, HJ2354, HJ2355, HJ2356, HJ2357, HJ2358, HJ2359, HJ2360, H⟩ := hr2368
     refine looped_round ?_
     obtain rfl : n2342 = x2340.length := HJ2345.at_.1
     obtain rfl : n2348 = x2346.length := HJ2351.at_.1
     cases kq2363 with
     | zero => exact absurd H (by simp [maxflow_Net_reach_maxflow_Net_Max_1.l0])
     | succ k2369 =>
      simp only [maxflow_Net_reach_maxflow_Net_Max_1.l0] at H
      refine wp_seq_k fun K2370 hK2370 => ?_
      refine wl_region ?_
      refine st (.bool (decide (x2353 < ((rd_L4 l0_2 (rd x2072 0)).length : Int)))) rfl rfl (xr_bin _ _ _ rfl rfl rfl (B.lss_i64 _ _)) ?_
      refine wl_end ?_
      (try simp only [ls0, ls1])
      refine hK2370 _ _ ?_
      (try clear hK2370 K2370)
      refine wp_seq_k fun K2371 hK2371 => ?_
      by_cases c2372 : x2353 < ((rd_L4 l0_2 (rd x2072 0)).length : Int)
      ·rw [if_pos c2372] at H
       (try rw [(decide_eq_true c2372)])
       refine wp_cond_true rfl ?_
       refine wp_skip ?_
       (try simp only [ls0, ls1])
       refine hK2371 _ _ ?_
       (try clear hK2371 K2371)
       refine wp_seq_k fun K2373 hK2373 => ?_
       refine wp_block ?_
       refine wp_seq_k fun K2374 hK2374 => ?_
       refine wl_region ?_
       obtain ⟨c2375, H⟩ := if_some H
       obtain ⟨ad2376, hA2377⟩ := c_addr (Ft.now HJ2352) (pos_of (j := x2353) (by first | assumption | decide) (by first | assumption | omega))
       refine st (.pointer (some (ad2376.add ((x2353 : Int).toNat * 1)))) rfl rfl (xr_indexAddr _ _ _ rfl rfl rfl (index_at Try.underlying47 info3 hA2377 (by first | assumption | decide | omega) (by first | assumption | decide | omega))) ?_
       refine st (.int .i64 (rd (rd_L4 l0_2 (rd x2072 0)) x2353)) rfl rfl (xr_load _ _ rfl rfl (load_int Try.underlying3 rfl hA2377 (Ft.now HJ2352) (by first | assumption | decide | omega) (by first | assumption | decide | omega))) ?_
       refine as_ rfl ?_
       refine wl_end ?_
       (try simp only [ls0, ls1])
       refine hK2374 _ _ ?_
       (try clear hK2374 K2374)
       refine wp_seq_k fun K2378 hK2378 => ?_
       refine wl_region ?_
       refine mv_ rfl ?_
       refine st (.pointer (some ⟨g0, 0, none⟩)) rfl rfl (xr_nilCheck _ rfl rfl) ?_
       refine st (.pointer (some ⟨g0, 0, none⟩)) rfl rfl (xr_fieldAddr _ _ rfl rfl (bx_field2 Try.underlying74 rfl rfl (by kernel_rfl))) ?_
       refine st (.slice A0_0 l0_0.length c0_0) rfl rfl (xr_load _ _ rfl rfl (load_cell Try.underlying67 rfl (bx_cell (HJ2359).2 0 rfl))) ?_
       simp only [ls0, ls1]
       refine mv_ rfl ?_
       obtain ⟨c2379, H⟩ := if_some H
       obtain ⟨c2380, H⟩ := if_some H
       obtain ⟨ad2381, hA2382⟩ := c_addr (Ft.now HJ2354) (pos_of (j := (rd (rd_L4 l0_2 (rd x2072 0)) x2353)) (by first | assumption | decide) (by first | assumption | omega))
       refine st (.pointer (some (ad2381.add ((rd (rd_L4 l0_2 (rd x2072 0)) x2353 : Int).toNat * 2)))) rfl rfl (xr_indexAddr _ _ _ rfl rfl rfl (index_at Try.underlying67 info78 hA2382 (by first | assumption | decide | omega) (by first | assumption | decide | omega))) ?_
       refine st (.pointer (some ((ad2381.add ((rd (rd_L4 l0_2 (rd x2072 0)) x2353 : Int).toNat * 2)).add 0))) rfl rfl (xr_fieldAddr _ _ rfl rfl (field_at2 Try.underlying78 rfl rfl (by kernel_rfl))) ?_
       refine st (.int .i64 ((rd_T78 l0_0 (rd (rd_L4 l0_2 (rd x2072 0)) x2353)).f0)) rfl rfl (xr_load (.pointer (some ((ad2381.add ((rd (rd_L4 l0_2 (rd x2072 0)) x2353 : Int).toNat * 2)).add 0))) (.int .i64 ((rd_T78 l0_0 (rd (rd_L4 l0_2 (rd x2072 0)) x2353)).f0)) rfl rfl (by obtain ⟨ad_, cs_, e_, _, hK_, hc_⟩ := Kd.C_get (Ft.now HJ2354) z78 (rd (rd_L4 l0_2 (rd x2072 0)) x2353) (by first | assumption | decide | omega) (by first | assumption | decide | omega); rw [hA2382] at e_; injection e_ with e_; subst e_; obtain rfl := k78_open hK_; exact load_cell Try.underlying3 rfl (by first | (rw [add_add]; exact hc_ 0 _ rfl) | (have h_ := hc_ 0 _ rfl; rw [Nat.add_zero] at h_; exact h_)))) ?_
       simp only [ls0, ls1]
       refine as_ rfl ?_
       refine wl_end ?_
       (try simp only [ls0, ls1])
       refine hK2378 _ _ ?_
       (try clear hK2378 K2378)
       refine wp_seq_k fun K2384 hK2384 => ?_
       have hj2398 : ∀ (kq2413 : Nat) (C2399 : Nat → Nat) (w2400 : World) (x2405 : Bool) (g_ : Nat → Value), Step c w C2399 w2400 [1] → kq2413 ≤ k2369 → (Own C2399 15 w2400 (Kd.int .i64) 3 (.slice A2341 x2340.length cp2343) x2340) → (OwnG false C2399 16 w2400 .i64 3 (.slice A2347 x2346.length cp2349) x2346) → (Ft C2399 [0] w2400 (fun w_ => (Kd.int .i64).C w_ Aq2124_0 ((rd_L4 l0_2 (rd x2072 0)).length) (rd_L4 l0_2 (rd x2072 0)))) → (Ft C2399 [0] w2400 (fun w_ => k78.C w_ A0_0 l0_0.length l0_0)) → (Ft C2399 [0] w2400 (fun w_ => (Kd.int .i64).C w_ A0_1 l0_1.length l0_1)) → (Ft C2399 [0] w2400 (fun w_ => (Kd.slice 3 (Kd.int .i64)).C w_ A0_2 l0_2.length l0_2)) → (Ft C2399 [0] w2400 (fun w_ => (Kd.int .i64).C w_ A0_5 l0_5.length l0_5)) → (Ft C2399 [0] w2400 (fun w_ => (Kd.int .i64).C w_ A0_6 l0_6.length l0_6)) → (Bx C2399 1 w2400 g0 74 ([.slice A0_0 l0_0.length c0_0, .slice A0_1 l0_1.length c0_1, .slice A0_2 l0_2.length c0_2, .int .i64 a0_3, .bool a0_4, .slice A0_5 l0_5.length c0_5, .slice A0_6 l0_6.length c0_6, .int .i64 y2113])) → (Ft C2399 [0] w2400 (fun w_ => w_.heap[g2_0]? = some (.cells (List.toArray ([.pointer (some ⟨g0, 0, none⟩)])) 24 (0, 0)))) → maxflow_Net_reach_maxflow_Net_Max_1.j0 kq2413 a0_3 a0_4 l0_0 l0_1 l0_2 l0_5 l0_6 x2072 x2340 x2346 x2353 x2405 y2113 = some (r1, r2) → K2384 ⟨#[.pointer (some ⟨g0, 0, none⟩), (g_ 1), .func (.func 39) #[] #[.pointer (some ⟨g2_0, 0, none⟩)], (g_ 3), (g_ 4), (g_ 5), (g_ 6), .slice A2341 x2340.length cp2343, .slice A2347 x2346.length cp2349, .int .i64 (rd x2072 0), (g_ 10), (g_ 11), .int .i64 ((rd_T78 l0_0 (rd (rd_L4 l0_2 (rd x2072 0)) x2353)).f0), (g_ 13), (g_ 14), (g_ 15), (g_ 16), (g_ 17), (g_ 18), (g_ 19), (g_ 20), (g_ 21), (g_ 22), (g_ 23), (g_ 24), (g_ 25), (g_ 26), (g_ 27), (g_ 28), (g_ 29), (g_ 30), (g_ 31), (g_ 32), (g_ 33), (g_ 34), (g_ 35), (g_ 36), (g_ 37), (g_ 38), (g_ 39), (g_ 40), (g_ 41), .slice Aq2124_0 (rd_L4 l0_2 (rd x2072 0)).length cpq2124_0, .int .i64 ((rd_L4 l0_2 (rd x2072 0)).length : Int), .int .i64 x2353, (g_ 45), (g_ 46), (g_ 47), (g_ 48), (g_ 49), (g_ 50), (g_ 51), (g_ 52), (g_ 53), (g_ 54), (g_ 55), (g_ 56), (g_ 57), (g_ 58), (g_ 59), (g_ 60), (g_ 61), (g_ 62), (g_ 63), (g_ 64), .bool x2405, (g_ 66), (g_ 67), (g_ 68), (g_ 69), (g_ 70), (g_ 71), (g_ 72), (g_ 73), (g_ 74), (g_ 75), (g_ 76), (g_ 77), (g_ 78), (g_ 79)], []⟩ w2400 := by
        intro kq2413 C2399 w2400 x2405 g_ HS2401 hk2414 HJ2402 HJ2403 HJ2404 HJ2406 HJ2407 HJ2408 HJ2409 HJ2410 HJ2411 HJ2412 H
        cases kq2413 with
        | zero => exact absurd H (by simp [maxflow_Net_reach_maxflow_Net_Max_1.j0])
        | succ k2415 =>
         simp only [maxflow_Net_reach_maxflow_Net_Max_1.j0] at H
         refine hK2384 _ _ ?_
         (try clear hK2384)
         by_cases c2416 : x2405 = true
         ·rw [if_pos c2416] at H
          (try rw [c2416])
          refine wp_cond_true rfl ?_
          refine wp_seq_k fun K2417 hK2417 => ?_
          refine wl_region ?_
          refine mv_ rfl ?_
          refine mv_ rfl ?_
          refine mv_ rfl ?_
          simp only [ls0, ls1]
          refine mv_ rfl ?_
          obtain ⟨c2418, H⟩ := if_some H
          obtain ⟨c2419, H⟩ := if_some H
          obtain ⟨g2420, hA2421⟩ := HJ2402.form (pos_of (j := (rd x2072 0)) (by first | assumption | decide) (by first | assumption | omega))
          refine st (.pointer (some ((⟨g2420, 0, none⟩ : Addr).add ((rd x2072 0 : Int).toNat * 1)))) rfl rfl (xr_indexAddr _ _ _ rfl rfl rfl (index_at Try.underlying47 info3 hA2421 (by first | assumption | decide | omega) (by first | assumption | decide | omega))) ?_
          refine st (.int .i64 (rd x2340 (rd x2072 0))) rfl rfl (xr_load _ _ rfl rfl (load_int Try.underlying3 rfl hA2421 (Ft.now (HJ2402.ft)) (by first | assumption | decide | omega) (by first | assumption | decide | omega))) ?_
          refine st (.int .i64 (wrap64 ((rd x2340 (rd x2072 0)) + 1))) rfl rfl (xr_bin _ _ _ rfl rfl rfl (B.add_i64 _ _)) ?_
          simp only [ls0, ls1]
          obtain ⟨c2422, H⟩ := if_some H
          obtain ⟨c2423, H⟩ := if_some H
          obtain ⟨g2424, hA2425⟩ := HJ2402.form (pos_of (j := ((rd_T78 l0_0 (rd (rd_L4 l0_2 (rd x2072 0)) x2353)).f0)) (by first | assumption | decide) (by first | assumption | omega))
          refine st (.pointer (some ((⟨g2424, 0, none⟩ : Addr).add (((rd_T78 l0_0 (rd (rd_L4 l0_2 (rd x2072 0)) x2353)).f0 : Int).toNat * 1)))) rfl rfl (xr_indexAddr _ _ _ rfl rfl rfl (index_at Try.underlying47 info3 hA2425 (by first | assumption | decide | omega) (by first | assumption | decide | omega))) ?_
          obtain ⟨y2426, A2427, H⟩ := bnd H
          refine Own.store1 (Kd.int .i64) (C := C2399) (i := 15) rfl rfl 3 _ _ rfl 3 1 ((rd_T78 l0_0 (rd (rd_L4 l0_2 (rd x2072 0)) x2353)).f0) x2340 (wrap64 ((rd x2340 (rd x2072 0)) + 1)) (.int .i64 (wrap64 ((rd x2340 (rd x2072 0)) + 1))) [.int .i64 (wrap64 ((rd x2340 (rd x2072 0)) + 1))] hA2425 rfl rfl rfl rfl (by kernel_rfl) (by simp [Value.oneCell']) rfl HJ2402 (by decide) (by first | assumption | decide | omega) (by first | assumption | decide | omega) (fk_int .i64 _ _ (wrap64 ((rd x2340 (rd x2072 0)) + 1))) (Option.some.inj A2427) ?_
          intro w2428 C2429 HO2430 HC2432 hs2431
          replace HJ2403 := HJ2403.thru hs2431 rfl
          replace HJ2404 := HJ2404.thru hs2431 rfl
          replace HJ2411 := HJ2411.thru hs2431 rfl
          replace HJ2406 := HJ2406.thru hs2431 rfl
          replace HJ2407 := HJ2407.thru hs2431 rfl
          replace HJ2408 := HJ2408.thru hs2431 rfl
          replace HJ2409 := HJ2409.thru hs2431 rfl
          replace HJ2410 := HJ2410.thru hs2431 rfl
          replace HJ2412 := HJ2412.thru hs2431 rfl
          replace HS2401 := HS2401.trans hs2431 hc rfl
          (try simp only [ls0, ls1])
          (try rw [show x2340.length = y2426.length by rw [← Option.some.inj A2427, List.length_set]])
          refine wl_end ?_
          (try simp only [ls0, ls1])
          refine hK2417 _ _ ?_
          (try clear hK2417 K2417)
          refine wl_region ?_
          refine mv_ rfl ?_
          refine mv_ rfl ?_
          refine ev_run (w1 := w2428.alloc (.cells #[.int .i64 ((rd_T78 l0_0 (rd (rd_L4 l0_2 (rd x2072 0)) x2353)).f0)] 3)) (.slice (some ⟨w2428.heap.size, 0, none⟩) 1 1) rfl rfl (by first | (go_simp; done) | (go_simp; rfl)) ?_
          (try simp only [Act.put, List.setIfInBounds_toArray, ls0, ls1])
          obtain ⟨c2433, H⟩ := if_some H
          obtain ⟨y2434, A2435, H⟩ := bnd H
          refine OwnG.append .i64 (C := C2429) (i := 16) rfl (.tmp 74) (.tmp 76) 47 3 8 rfl Try.underlying47 info3 (by decide) (.slice A2347 x2346.length cp2349) x2346 ((rd_T78 l0_0 (rd (rd_L4 l0_2 (rd x2072 0)) x2353)).f0) rfl rfl HJ2403 (by decide) (by omega) (Option.some.inj A2435) ?_
          intro A2436 cp2437 w2438 C2439 HO2440 HC2441 hs2442
          replace HO2430 := HO2430.thru hs2442 rfl
          replace HJ2404 := HJ2404.thru hs2442 rfl
          replace HJ2411 := HJ2411.thru hs2442 rfl
          replace HJ2406 := HJ2406.thru hs2442 rfl
          replace HJ2407 := HJ2407.thru hs2442 rfl
          replace HJ2408 := HJ2408.thru hs2442 rfl
          replace HJ2409 := HJ2409.thru hs2442 rfl
          replace HJ2410 := HJ2410.thru hs2442 rfl
          replace HJ2412 := HJ2412.thru hs2442 rfl
          replace HS2401 := HS2401.trans hs2442 hc rfl
          (try simp only [Act.put, List.setIfInBounds_toArray, ls0, ls1])
          refine as_ rfl ?_
          refine wl_end ?_
          (try simp only [ls0, ls1])
          refine hK2373 _ _ ?_
          (try clear hK2373 K2373)
          refine wl_region ?_
          refine st (.int .i64 (wrap64 (x2353 + 1))) rfl rfl (xr_bin _ _ _ rfl rfl rfl (B.add_i64 _ _)) ?_
          refine mv_ rfl ?_
          refine wl_end ?_
          (try simp only [ls0, ls1])
          exact jmpL (fun a_ h_ => ih2366 k2415 (by omega) a_ _ h_) (fun g_ => ⟨_, wrap64 (x2353 + 1), A2341, y2426.length, cp2343, y2426, A2436, y2434.length, cp2437, y2434, g_, rfl, HS2401, (by omega), HO2430, HC2432, HO2440, HC2441, HJ2404, HJ2406, HJ2407, HJ2408, HJ2409, HJ2410, HJ2411, HJ2412, H⟩) rfl
         rw [if_neg c2416] at H
         (try rw [(Bool.eq_false_iff.mpr c2416)])
         refine wp_cond_false rfl ?_
         refine wp_skip ?_
         (try simp only [ls0, ls1])
         refine hK2373 _ _ ?_
         (try clear hK2373 K2373)
         refine wl_region ?_
         refine st (.int .i64 (wrap64 (x2353 + 1))) rfl rfl (xr_bin _ _ _ rfl rfl rfl (B.add_i64 _ _)) ?_
         refine mv_ rfl ?_
         refine wl_end ?_
         (try simp only [ls0, ls1])
         exact jmpL (fun a_ h_ => ih2366 k2415 (by omega) a_ _ h_) (fun g_ => ⟨_, wrap64 (x2353 + 1), A2341, x2340.length, cp2343, x2340, A2347, x2346.length, cp2349, x2346, g_, rfl, HS2401, (by omega), HJ2402, HC2344, HJ2403, HC2350, HJ2404, HJ2406, HJ2407, HJ2408, HJ2409, HJ2410, HJ2411, HJ2412, H⟩) rfl
       refine wl_region ?_
       refine mv_ rfl ?_
       refine mv_ rfl ?_
       obtain ⟨c2443, H⟩ := if_some H
       obtain ⟨c2444, H⟩ := if_some H
       obtain ⟨g2445, hA2446⟩ := HJ2345.form (pos_of (j := ((rd_T78 l0_0 (rd (rd_L4 l0_2 (rd x2072 0)) x2353)).f0)) (by first | assumption | decide) (by first | assumption | omega))
       refine st (.pointer (some ((⟨g2445, 0, none⟩ : Addr).add (((rd_T78 l0_0 (rd (rd_L4 l0_2 (rd x2072 0)) x2353)).f0 : Int).toNat * 1)))) rfl rfl (xr_indexAddr _ _ _ rfl rfl rfl (index_at Try.underlying47 info3 hA2446 (by first | assumption | decide | omega) (by first | assumption | decide | omega))) ?_
       refine st (.int .i64 (rd x2340 ((rd_T78 l0_0 (rd (rd_L4 l0_2 (rd x2072 0)) x2353)).f0))) rfl rfl (xr_load _ _ rfl rfl (load_int Try.underlying3 rfl hA2446 (Ft.now (HJ2345.ft)) (by first | assumption | decide | omega) (by first | assumption | decide | omega))) ?_
       simp only [ls0, ls1]
       refine st (.bool (decide ((rd x2340 ((rd_T78 l0_0 (rd (rd_L4 l0_2 (rd x2072 0)) x2353)).f0)) = 0))) rfl rfl (xr_bin _ _ _ rfl rfl rfl (B.eql_i64 _ _)) ?_
       refine mv_ rfl ?_
       by_cases c2447 : (rd x2340 ((rd_T78 l0_0 (rd (rd_L4 l0_2 (rd x2072 0)) x2353)).f0)) = 0
       ·rw [if_pos c2447] at H
        (try rw [(decide_eq_true c2447)])
        refine on_guard (guard_on 5 true 61 rfl rfl rfl) ?_
        refine mv_ rfl ?_
        refine on_guard (guard_on 5 true 61 rfl rfl rfl) ?_
        refine mv_ rfl ?_
        simp only [ls0, ls1]
        refine on_guard (guard_on 5 true 61 rfl rfl rfl) ?_
        have HP2448 : Ft C2361 [0, 1] w2362 (fun w_ => (Kd.ptr 74 k74).K w_ (some (⟨l0_0, l0_1, l0_2, a0_3, a0_4, l0_5, l0_6, (⟨y2113⟩ : S72)⟩ : S74)) [.pointer (some ⟨g0, 0, none⟩)]) := ptr_mk (Ft.more (HJ2359.ft) rfl) (k74_mkF _ _ (⟨l0_0, l0_1, l0_2, a0_3, a0_4, l0_5, l0_6, (⟨y2113⟩ : S72)⟩ : S74) HCP0_0 (Ft.more HJ2354 rfl) HCP0_1 (Ft.more HJ2355 rfl) HCP0_2 (Ft.more HJ2356 rfl) HCP0_5 (Ft.more HJ2357 rfl) HCP0_6 (Ft.more HJ2358 rfl))
        have HP2449 : Ft C2361 [0, 1] w2362 (fun w_ => (Kd.ptr 24 k24).K w_ (some (⟨(some (⟨l0_0, l0_1, l0_2, a0_3, a0_4, l0_5, l0_6, (⟨y2113⟩ : S72)⟩ : S74) : Option S74)⟩ : S24)) [.pointer (some ⟨g2_0, 0, none⟩)]) := ptr_mk (Ft.more HJ2360 rfl) (k24_mkF _ _ (⟨(some (⟨l0_0, l0_1, l0_2, a0_3, a0_4, l0_5, l0_6, (⟨y2113⟩ : S72)⟩ : S74) : Option S74)⟩ : S24) (Ft.more HP2448 rfl))
        obtain ⟨t2450, A2451, H⟩ := bnd H
        refine st_callV #[.int .i64 (rd (rd_L4 l0_2 (rd x2072 0)) x2353)] #[.pointer (some ⟨g2_0, 0, none⟩)] #[.int .i64 (rd (rd_L4 l0_2 (rd x2072 0)) x2353), .pointer (some ⟨g2_0, 0, none⟩)] rfl rfl Try.func39 (by kernel_rfl) rfl rfl rfl (mp_ rfl) (by rfl) ?_
        refine (maxflow_Net_Max_1.calls (rd (rd_L4 l0_2 (rd x2072 0)) x2353) (.pointer (some ⟨g2_0, 0, none⟩)) (some (⟨(some (⟨l0_0, l0_1, l0_2, a0_3, a0_4, l0_5, l0_6, (⟨y2113⟩ : S72)⟩ : S74) : Option S74)⟩ : S24) : Option S24) t2450  (fun z_ => pal [(0, 0), (1, 0)] (C2361 z_)) w2362 (fun _ => pal_lt rfl _) (Ft.arg HP2449 rfl) A2451).mono ?_
        rintro _ w2453 ⟨C2454, rfl, hs2455⟩
        refine ⟨_, rfl, ?_⟩
        replace hs2455 := Step.lift (U := [(0, 0)]) hs2455 [] rfl rfl
        generalize up C2361 C2454 w2362.heap.size [(0, 0)] = C2454_ at hs2455
        replace HJ2345 := HJ2345.thru hs2455 rfl
        replace HJ2351 := HJ2351.thru hs2455 rfl
        replace HJ2352 := HJ2352.thru hs2455 rfl
        replace HJ2359 := HJ2359.thru hs2455 rfl
        replace HJ2354 := HJ2354.thru hs2455 rfl
        replace HJ2355 := HJ2355.thru hs2455 rfl
        replace HJ2356 := HJ2356.thru hs2455 rfl
        replace HJ2357 := HJ2357.thru hs2455 rfl
        replace HJ2358 := HJ2358.thru hs2455 rfl
        replace HJ2360 := HJ2360.thru hs2455 rfl
        replace HS2364 := HS2364.trans hs2455 hc rfl
        (try simp only [Act.put, List.setIfInBounds_toArray, ls0, ls1])
        refine st (.bool t2450) rfl rfl (xr_pick true _ rfl rfl rfl) ?_
        refine wl_end ?_
        (try simp only [ls0, ls1])
        exact jmp (fun g_ => hj2398 _ _ _ (t2450) g_ HS2364 (by omega) HJ2345 HJ2351 HJ2352 HJ2354 HJ2355 HJ2356 HJ2357 HJ2358 HJ2359 HJ2360 H) rfl
       rw [if_neg c2447] at H
       (try rw [(decide_eq_false c2447)])
       refine sk_guard (guard_off 5 true 61 rfl rfl false (by decide) rfl) rfl ?_
       refine sk_guard (guard_off 5 true 61 rfl rfl false (by decide) rfl) rfl ?_
       refine sk_guard (guard_off 5 true 61 rfl rfl false (by decide) rfl) rfl ?_
       refine st (.bool false) rfl rfl (xr_pick false _ rfl rfl rfl) ?_
       simp only [ls0, ls1]
       refine wl_end ?_
       (try simp only [ls0, ls1])
       exact jmp (fun g_ => hj2398 _ _ _ (false) g_ HS2364 (by omega) HJ2345 HJ2351 HJ2352 HJ2354 HJ2355 HJ2356 HJ2357 HJ2358 HJ2359 HJ2360 H) rfl
      rw [if_neg c2372] at H
      (try rw [(decide_eq_false c2372)])
      refine wp_cond_false rfl ?_
      refine wp_exit ?_
      (try simp only [ls0, ls1])
      replace HJ2345 := Own.recolor (b := 13) HJ2345 (by decide)
      replace HJ2351 := OwnG.recol (a := 15) (b := 13) HJ2351 (by decide) (by decide)
      replace HJ2352 := Ft.recol (a := 15) (b := 13) HJ2352 (.inl rfl)
      replace HJ2359 := Bx.recol (a := 15) (b := 13) HJ2359 (by decide)
      replace HJ2354 := Ft.recol (a := 15) (b := 13) HJ2354 (.inl rfl)
      replace HJ2355 := Ft.recol (a := 15) (b := 13) HJ2355 (.inl rfl)
      replace HJ2356 := Ft.recol (a := 15) (b := 13) HJ2356 (.inl rfl)
      replace HJ2357 := Ft.recol (a := 15) (b := 13) HJ2357 (.inl rfl)
      replace HJ2358 := Ft.recol (a := 15) (b := 13) HJ2358 (.inl rfl)
      replace HJ2360 := Ft.recol (a := 15) (b := 13) HJ2360 (.inl rfl)
      replace HS2364 := Step.recol (a := 15) (b := 13) HS2364 hc (by decide)
      replace HJ2345 := Own.recol (a := 16) (b := 14) HJ2345 (by decide) (by decide)
      replace HJ2351 := OwnG.recolor (b := 14) HJ2351 (by decide)
      replace HJ2352 := Ft.recol (a := 16) (b := 14) HJ2352 (.inl rfl)
      replace HJ2359 := Bx.recol (a := 16) (b := 14) HJ2359 (by decide)
      replace HJ2354 := Ft.recol (a := 16) (b := 14) HJ2354 (.inl rfl)
      replace HJ2355 := Ft.recol (a := 16) (b := 14) HJ2355 (.inl rfl)
      replace HJ2356 := Ft.recol (a := 16) (b := 14) HJ2356 (.inl rfl)
      replace HJ2357 := Ft.recol (a := 16) (b := 14) HJ2357 (.inl rfl)
      replace HJ2358 := Ft.recol (a := 16) (b := 14) HJ2358 (.inl rfl)
      replace HJ2360 := Ft.recol (a := 16) (b := 14) HJ2360 (.inl rfl)
      replace HS2364 := Step.recol (a := 16) (b := 14) HS2364 hc (by decide)
      exact jmpL (fun a_ h_ => ih2091 k2369 (by omega) a_ _ h_) (fun g_ => ⟨_, y2113, A2341, x2340.length, cp2343, x2340, A2347, x2346.length, cp2349, x2346, g_, rfl, HS2364, (by omega), HJ2345, HC2344, HJ2351, HC2350, HJ2354, HJ2355, HJ2356, HJ2357, HJ2358, HJ2359, HJ2360, H⟩) rfl
   rw [if_neg c2097] at H
   (try rw [(decide_eq_false c2097)])
   refine wp_cond_false rfl ?_
   refine wp_exit ?_
   (try simp only [ls0, ls1])
   refine hK1254 _ _ ?_
   (try clear hK1254 K1254)
   refine wp_seq_k fun K2456 hK2456 => ?_
   refine wl_region ?_
   refine mv_ rfl ?_
   refine as_ rfl ?_
   refine wl_end ?_
   (try simp only [ls0, ls1])
   refine hK2456 _ _ ?_
   (try clear hK2456 K2456)
   refine wp_ret ?_
   (try simp only [Exit.inBlock, Exit.then, Exit.noGoto])
   (try simp only [ls0, ls1])
   replace HJ2071 := Own.recolor (b := 5) HJ2071 (by decide)
   replace HJ2077 := OwnG.recol (a := 13) (b := 5) HJ2077 (by decide) (by decide)
   replace HJ2084 := Bx.recol (a := 13) (b := 5) HJ2084 (by decide)
   replace HJ2078 := Ft.recol (a := 13) (b := 5) HJ2078 (.inl rfl)
   replace HJ2079 := Ft.recol (a := 13) (b := 5) HJ2079 (.inl rfl)
   replace HJ2080 := Ft.recol (a := 13) (b := 5) HJ2080 (.inl rfl)
   replace HJ2081 := Ft.recol (a := 13) (b := 5) HJ2081 (.inl rfl)
   replace HJ2082 := Ft.recol (a := 13) (b := 5) HJ2082 (.inl rfl)
   replace HJ2085 := Ft.recol (a := 13) (b := 5) HJ2085 (.inl rfl)
   replace HS2089 := Step.recol (a := 13) (b := 5) HS2089 hc (by decide)
   simp only [Option.some.injEq, Prod.mk.injEq] at H
   obtain ⟨rfl, rfl⟩ := H
   refine bodyPost_ret (results_tmp rfl _ _ _) rfl ?_
   exact ⟨_, A2067, cp2069, rfl, HS2089, HJ2071, HC2070, HJ2084⟩

end Go.Proofs.Ytdkbmchbkkhpoaa.PMfr
