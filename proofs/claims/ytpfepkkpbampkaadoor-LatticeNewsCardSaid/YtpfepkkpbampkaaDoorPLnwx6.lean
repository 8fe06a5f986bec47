-- By cprint.py, a program of this work. Lean checks it.
import Derived.Test.YtpfepkkpbampkaaDoorPLnwx0
namespace Go.Proofs.YtpfepkkpbampkaaDoor.PLnw
open Go.RowKit Go.Proofs.YtpfepkkpbampkaaDoorW.PrintWords Go.Proofs.YtpfepkkpbampkaaDoorW.PrintLast Go.Proofs.YtpfepkkpbampkaaDoorW.PrintMore
set_option linter.unusedVariables false
set_option linter.unusedSimpArgs false

/-! ### blazonref14_Join: function 60 -/
mutual
def blazonref14_Join.l0 : Nat → Int → Int → (List ByteArray) → (List (List Bool)) → Int → Bool → Int → Option (Int)
  | 0, _, _, _, _, _, _, _ => none
  | k + 1, a1, a2, l0_0, l0_1, x2535, x2964, x2965 => if x2965 < (l0_0.length : Int) then (if 0 ≤ a1 then (if a1 < (l0_1.length : Int) then (if 0 ≤ x2965 then (if x2965 < ((rd_L20 l0_1 a1).length : Int) then (if rdOf false (rd_L20 l0_1 a1) x2965 = true then (if 0 ≤ a2 then (if a2 < (l0_1.length : Int) then (if x2965 < ((rd_L20 l0_1 a2).length : Int) then (if rdOf false (rd_L20 l0_1 a2) x2965 = true then (if 0 ≤ x2535 then (if x2535 < (l0_1.length : Int) then (if x2965 < ((rd_L20 l0_1 x2535).length : Int) then (if rdOf false (rd_L20 l0_1 x2535) x2965 = true then (blazonref14_Join.l0 k a1 a2 l0_0 l0_1 x2535 x2964 (wrap64 (x2965 + 1))) else (blazonref14_Join.l0 k a1 a2 l0_0 l0_1 x2535 false (wrap64 (x2965 + 1)))) else (none)) else (none)) else (none)) else (blazonref14_Join.l0 k a1 a2 l0_0 l0_1 x2535 x2964 (wrap64 (x2965 + 1)))) else (none)) else (none)) else (none)) else (blazonref14_Join.l0 k a1 a2 l0_0 l0_1 x2535 x2964 (wrap64 (x2965 + 1)))) else (none)) else (none)) else (none)) else (none)) else (if x2964 = true then (some x2535) else (blazonref14_Join.l1 k a1 a2 l0_0 l0_1 (wrap64 (x2535 + 1))))
def blazonref14_Join.l1 : Nat → Int → Int → (List ByteArray) → (List (List Bool)) → Int → Option (Int)
  | 0, _, _, _, _, _ => none
  | k + 1, a1, a2, l0_0, l0_1, x2535 => if x2535 < (l0_0.length : Int) then (if 0 ≤ a1 then (if a1 < (l0_1.length : Int) then (if 0 ≤ x2535 then (if x2535 < ((rd_L20 l0_1 a1).length : Int) then (if rdOf false (rd_L20 l0_1 a1) x2535 = true then (if 0 ≤ a2 then (if a2 < (l0_1.length : Int) then (if x2535 < ((rd_L20 l0_1 a2).length : Int) then (if rdOf false (rd_L20 l0_1 a2) x2535 = true then (blazonref14_Join.l0 k a1 a2 l0_0 l0_1 x2535 true 0) else (blazonref14_Join.l1 k a1 a2 l0_0 l0_1 (wrap64 (x2535 + 1)))) else (none)) else (none)) else (none)) else (blazonref14_Join.l1 k a1 a2 l0_0 l0_1 (wrap64 (x2535 + 1)))) else (none)) else (none)) else (none)) else (none)) else (some (-1))
end
def blazonref14_Join.f (k : Nat) (l0_0 : List ByteArray) (l0_1 : List (List Bool)) (a1 : Int) (a2 : Int) : Option (Int) := blazonref14_Join.l1 k a1 a2 l0_0 l0_1 0

set_option maxHeartbeats 2000000 in
set_option maxRecDepth 100000 in
theorem blazonref14_Join.calls (k : Nat) (A0_0 : Option Addr) (c0_0 : Nat) (l0_0 : List ByteArray) (A0_1 : Option Addr) (c0_1 : Nat) (l0_1 : List (List Bool)) (a1 : Int) (a2 : Int) (r : Int) (c : Nat → Nat) (w : World) (hc : ∀ k, c k < 10) (HP0_0 : Ft c [0] w (fun w_ => Kd.string.C w_ A0_0 l0_0.length l0_0)) (HCP0_0 : l0_0.length ≤ c0_0) (HP0_1 : Ft c [0] w (fun w_ => (Kd.slice 4 Kd.bool).C w_ A0_1 l0_1.length l0_1)) (HCP0_1 : l0_1.length ≤ c0_1) (H : blazonref14_Join.f k l0_0 l0_1 a1 a2 = some r) :
    Calls Tryd.prog 60 #[.agg #[.slice A0_0 l0_0.length c0_0, .slice A0_1 l0_1.length c0_1], .int .i64 a1, .int .i64 a2] w fun e w' => ∃ (c' : Nat → Nat) , e = .returned (.int .i64 r) ∧ Step c w c' w' [] := by
 unfold blazonref14_Join.f at H
 have HS := Step.refl c w []
 go_enter Tryd.func60, Tryd.ntmps60
 refine wp_seq_k fun K1525 hK1525 => ?_
 refine wl_region ?_
 refine bx_new (C := c) 33 ([.slice A0_0 l0_0.length c0_0, .slice A0_1 l0_1.length c0_1]) 11 rfl rfl (by first | (go_simp; done) | (go_simp; rfl)) ?_
 intro g1526 w1527 C1528 HX1529 hs1530
 replace HP0_0 := HP0_0.thru hs1530 rfl
 replace HP0_1 := HP0_1.thru hs1530 rfl
 replace HS := HS.trans hs1530 hc rfl
 (try simp only [ls0, ls1])
 refine st (.int .i64 0) rfl rfl (xr_assign _ rfl rfl) ?_
 refine wl_end ?_
 (try simp only [ls0, ls1])
 refine hK1525 _ _ ?_
 (try clear hK1525 K1525)
 refine wp_seq_k fun K1531 hK1531 => ?_
 refine wp_seq_k fun K1532 hK1532 => ?_
 refine wl_region ?_
 refine st (.int .i64 0) rfl rfl (xr_assign _ rfl rfl) ?_
 refine wl_end ?_
 (try simp only [ls0, ls1])
 refine hK1532 _ _ ?_
 (try clear hK1532 K1532)
 refine wp_block ?_
 (try simp only [ls0, ls1])
 refine wp_looped (looped_fin (fun kq2541 a_ w2540 => ∃ (C2539 : Nat → Nat) (x2535 : Int) (g_ : Nat → Value), a_ = ⟨#[(g_ 0), .int .i64 a1, .int .i64 a2, .pointer (some ⟨g1526, 0, none⟩), (g_ 4), (g_ 5), (g_ 6), .int .i64 x2535, (g_ 8), (g_ 9), (g_ 10), (g_ 11), (g_ 12), (g_ 13), (g_ 14), (g_ 15), (g_ 16), (g_ 17), (g_ 18), (g_ 19), (g_ 20), (g_ 21), (g_ 22), (g_ 23), (g_ 24), (g_ 25), (g_ 26), (g_ 27), (g_ 28), (g_ 29), (g_ 30), (g_ 31), (g_ 32), (g_ 33), (g_ 34), (g_ 35), (g_ 36), (g_ 37), (g_ 38), (g_ 39), (g_ 40), (g_ 41), (g_ 42), (g_ 43), (g_ 44), (g_ 45), (g_ 46), (g_ 47), (g_ 48), (g_ 49), (g_ 50), (g_ 51), (g_ 52), (g_ 53), (g_ 54), (g_ 55), (g_ 56), (g_ 57), (g_ 58), (g_ 59), (g_ 60), (g_ 61), (g_ 62), (g_ 63), (g_ 64), (g_ 65), (g_ 66), (g_ 67), (g_ 68), (g_ 69), (g_ 70), (g_ 71), (g_ 72), (g_ 73), (g_ 74)], []⟩ ∧ Step c w C2539 w2540 [] ∧ kq2541 ≤ k ∧ (Ft C2539 [0] w2540 (fun w_ => Kd.string.C w_ A0_0 l0_0.length l0_0)) ∧ (Ft C2539 [0] w2540 (fun w_ => (Kd.slice 4 Kd.bool).C w_ A0_1 l0_1.length l0_1)) ∧ (Bx C2539 11 w2540 g1526 33 ([.slice A0_0 l0_0.length c0_0, .slice A0_1 l0_1.length c0_1])) ∧ blazonref14_Join.l1 kq2541 a1 a2 l0_0 l0_1 x2535 = some r) ?step fun hL_ => ?init)
 case init =>
  exact jmpL (fun a_ h_ => hL_ k a_ _ h_) (fun g_ => ⟨_, 0, g_, rfl, HS, Nat.le_refl _, HP0_0, HP0_1, HX1529, H⟩) rfl
 case step =>
  intro kq2541 ih2544 a2545 w2540 hr2546
  obtain ⟨C2539, x2535, g_, rfl, HS2542, hk2543, HJ2536, HJ2537, HJ2538, H⟩ := hr2546
  refine looped_round ?_
  cases kq2541 with
  | zero => exact absurd H (by simp [blazonref14_Join.l1])
  | succ k2547 =>
   simp only [blazonref14_Join.l1] at H
   refine wp_seq_k fun K2548 hK2548 => ?_
   refine wp_seq_k fun K2549 hK2549 => ?_
   refine wl_region ?_
   refine mv_ rfl ?_
   refine st (.pointer (some ⟨g1526, 0, none⟩)) rfl rfl (xr_fieldAddr _ _ rfl rfl (bx_field2 Tryd.underlying33 rfl rfl (by kernel_rfl))) ?_
   refine st (.slice A0_0 l0_0.length c0_0) rfl rfl (xr_load _ _ rfl rfl (load_cell Tryd.underlying30 rfl (bx_cell (HJ2538).2 0 rfl))) ?_
   refine st (.int .i64 (l0_0.length : Int)) rfl rfl (xr_builtin #[.slice A0_0 l0_0.length c0_0] (.int .i64 (l0_0.length : Int)) rfl (mp_ rfl) (by first | rfl | (go_simp; done) | (go_simp; rfl) | (go_simp; exact i64_w _) | (go_simp; exact i32_w _))) ?_
   simp only [ls0, ls1]
   refine st (.bool (decide (x2535 < (l0_0.length : Int)))) rfl rfl (xr_bin _ _ _ rfl rfl rfl (B.lss_i64 _ _)) ?_
   refine wl_end ?_
   (try simp only [ls0, ls1])
   refine hK2549 _ _ ?_
   (try clear hK2549 K2549)
   by_cases c2550 : x2535 < (l0_0.length : Int)
   ·rw [if_pos c2550] at H
    (try rw [(decide_eq_true c2550)])
    refine wp_cond_true rfl ?_
    refine wp_skip ?_
    (try simp only [ls0, ls1])
    refine hK2548 _ _ ?_
    (try clear hK2548 K2548)
    refine wp_seq_k fun K2551 hK2551 => ?_
    refine wp_block ?_
    refine wp_seq_k fun K2552 hK2552 => ?_
    refine wp_seq_k fun K2595 hK2595 => ?_
    refine wl_region ?_
    refine st (.pointer (some ⟨g1526, 1, none⟩)) rfl rfl (xr_fieldAddr _ _ rfl rfl (bx_field2 Tryd.underlying33 rfl rfl (by kernel_rfl))) ?_
    refine st (.slice A0_1 l0_1.length c0_1) rfl rfl (xr_load _ _ rfl rfl (load_cell Tryd.underlying31 rfl (bx_cell (HJ2538).2 1 rfl))) ?_
    simp only [ls0, ls1]
    refine mv_ rfl ?_
    obtain ⟨c2616, H⟩ := if_some H
    obtain ⟨c2617, H⟩ := if_some H
    obtain ⟨ad2618, hA2619⟩ := c_addr (Ft.now HJ2537) (pos_of (j := a1) (by first | assumption | decide) (by first | assumption | omega))
    refine st (.pointer (some (ad2618.add ((a1 : Int).toNat * 1)))) rfl rfl (xr_indexAddr _ _ _ rfl rfl rfl (index_at Tryd.underlying31 info74 hA2619 (by first | assumption | decide | omega) (by first | assumption | decide | omega))) ?_
    obtain ⟨csq2621, _, hKq2621, hcq2621, hinq2621⟩ := Ft.elem HJ2537 hA2619 [] a1 (by first | assumption | decide | omega) (by first | assumption | decide | omega) (by decide)
    obtain ⟨Aq2621_0, cpq2621_0, rfl, HCq2621_0, HRq2621_0⟩ := slice_openF hKq2621
    replace HRq2621_0 : Ft C2539 [0] w2540 (fun w_ => Kd.bool.C w_ Aq2621_0 (rd_L20 l0_1 a1).length (rd_L20 l0_1 a1)) := HRq2621_0
    refine st (.slice Aq2621_0 (rd_L20 l0_1 a1).length cpq2621_0) rfl rfl (xr_load (.pointer (some (ad2618.add ((a1 : Int).toNat * 1)))) (.slice Aq2621_0 (rd_L20 l0_1 a1).length cpq2621_0) rfl rfl (load_cell Tryd.underlying74 rfl (by have h_ := (hcq2621 0 _ rfl); rw [add_zero_] at h_; exact h_))) ?_
    refine mv_ rfl ?_
    simp only [ls0, ls1]
    obtain ⟨c2622, H⟩ := if_some H
    obtain ⟨c2623, H⟩ := if_some H
    obtain ⟨ad2624, hA2625⟩ := c_addr (Ft.now HRq2621_0) (pos_of (j := x2535) (by first | assumption | decide) (by first | assumption | omega))
    refine st (.pointer (some (ad2624.add ((x2535 : Int).toNat * 1)))) rfl rfl (xr_indexAddr _ _ _ rfl rfl rfl (index_at Tryd.underlying74 info4 hA2625 (by first | assumption | decide | omega) (by first | assumption | decide | omega))) ?_
    refine st (.bool (rdOf false (rd_L20 l0_1 a1) x2535)) rfl rfl (xr_load _ _ rfl rfl (load_bool Tryd.underlying4 rfl hA2625 (Ft.now HRq2621_0) (by first | assumption | decide | omega) (by first | assumption | decide | omega))) ?_
    refine st (.bool (!(rdOf false (rd_L20 l0_1 a1) x2535))) rfl rfl (xr_un (.bool (rdOf false (rd_L20 l0_1 a1) x2535)) _ rfl rfl (by first | rfl | (go_simp; done) | (go_simp; rfl) | (go_simp; exact i64_w _) | (go_simp; exact i32_w _))) ?_
    refine mv_ rfl ?_
    simp only [ls0, ls1]
    by_cases c2626 : rdOf false (rd_L20 l0_1 a1) x2535 = true
    ·rw [if_pos c2626] at H
     (try rw [c2626])
     (try simp only [Bool.not_true, Bool.not_false])
     refine on_guard (guard_on 9 false 26 rfl rfl rfl) ?_
     refine st (.pointer (some ⟨g1526, 1, none⟩)) rfl rfl (xr_fieldAddr _ _ rfl rfl (bx_field2 Tryd.underlying33 rfl rfl (by kernel_rfl))) ?_
     refine on_guard (guard_on 9 false 26 rfl rfl rfl) ?_
     refine st (.slice A0_1 l0_1.length c0_1) rfl rfl (xr_load _ _ rfl rfl (load_cell Tryd.underlying31 rfl (bx_cell (HJ2538).2 1 rfl))) ?_
     refine on_guard (guard_on 9 false 26 rfl rfl rfl) ?_
     refine mv_ rfl ?_
     refine on_guard (guard_on 9 false 26 rfl rfl rfl) ?_
     obtain ⟨c2627, H⟩ := if_some H
     obtain ⟨c2628, H⟩ := if_some H
     obtain ⟨ad2629, hA2630⟩ := c_addr (Ft.now HJ2537) (pos_of (j := a2) (by first | assumption | decide) (by first | assumption | omega))
     refine st (.pointer (some (ad2629.add ((a2 : Int).toNat * 1)))) rfl rfl (xr_indexAddr _ _ _ rfl rfl rfl (index_at Tryd.underlying31 info74 hA2630 (by first | assumption | decide | omega) (by first | assumption | decide | omega))) ?_
     simp only [ls0, ls1]
     refine on_guard (guard_on 9 false 26 rfl rfl rfl) ?_
     obtain ⟨csq2632, _, hKq2632, hcq2632, hinq2632⟩ := Ft.elem HJ2537 hA2630 [] a2 (by first | assumption | decide | omega) (by first | assumption | decide | omega) (by decide)
     obtain ⟨Aq2632_0, cpq2632_0, rfl, HCq2632_0, HRq2632_0⟩ := slice_openF hKq2632
     replace HRq2632_0 : Ft C2539 [0] w2540 (fun w_ => Kd.bool.C w_ Aq2632_0 (rd_L20 l0_1 a2).length (rd_L20 l0_1 a2)) := HRq2632_0
     refine st (.slice Aq2632_0 (rd_L20 l0_1 a2).length cpq2632_0) rfl rfl (xr_load (.pointer (some (ad2629.add ((a2 : Int).toNat * 1)))) (.slice Aq2632_0 (rd_L20 l0_1 a2).length cpq2632_0) rfl rfl (load_cell Tryd.underlying74 rfl (by have h_ := (hcq2632 0 _ rfl); rw [add_zero_] at h_; exact h_))) ?_
     refine on_guard (guard_on 9 false 26 rfl rfl rfl) ?_
     refine mv_ rfl ?_
     refine on_guard (guard_on 9 false 26 rfl rfl rfl) ?_
     obtain ⟨c2633, H⟩ := if_some H
     obtain ⟨ad2634, hA2635⟩ := c_addr (Ft.now HRq2632_0) (pos_of (j := x2535) (by first | assumption | decide) (by first | assumption | omega))
     refine st (.pointer (some (ad2634.add ((x2535 : Int).toNat * 1)))) rfl rfl (xr_indexAddr _ _ _ rfl rfl rfl (index_at Tryd.underlying74 info4 hA2635 (by first | assumption | decide | omega) (by first | assumption | decide | omega))) ?_
     refine on_guard (guard_on 9 false 26 rfl rfl rfl) ?_
     refine st (.bool (rdOf false (rd_L20 l0_1 a2) x2535)) rfl rfl (xr_load _ _ rfl rfl (load_bool Tryd.underlying4 rfl hA2635 (Ft.now HRq2632_0) (by first | assumption | decide | omega) (by first | assumption | decide | omega))) ?_
     simp only [ls0, ls1]
     refine on_guard (guard_on 9 false 26 rfl rfl rfl) ?_
     refine st (.bool (!(rdOf false (rd_L20 l0_1 a2) x2535))) rfl rfl (xr_un (.bool (rdOf false (rd_L20 l0_1 a2) x2535)) _ rfl rfl (by first | rfl | (go_simp; done) | (go_simp; rfl) | (go_simp; exact i64_w _) | (go_simp; exact i32_w _))) ?_
     refine st (.bool (!(rdOf false (rd_L20 l0_1 a2) x2535))) rfl rfl (xr_pick false _ rfl rfl rfl) ?_
     refine wl_end ?_
     (try simp only [ls0, ls1])
     refine hK2595 _ _ ?_
     (try clear hK2595 K2595)
     by_cases c2636 : rdOf false (rd_L20 l0_1 a2) x2535 = true
     ·rw [if_pos c2636] at H
      (try rw [c2636])
      (try simp only [Bool.not_true, Bool.not_false])
      refine wp_cond_false rfl ?_
      refine wp_skip ?_
      (try simp only [ls0, ls1])
      refine hK2552 _ _ ?_
      (try clear hK2552 K2552)
      refine wp_seq_k fun K2637 hK2637 => ?_
      refine wl_region ?_
      refine st (.bool true) rfl rfl (xr_assign _ rfl rfl) ?_
      refine wl_end ?_
      (try simp only [ls0, ls1])
      refine hK2637 _ _ ?_
      (try clear hK2637 K2637)
      refine wp_seq_k fun K2638 hK2638 => ?_
      refine wp_seq_k fun K2842 hK2842 => ?_
      refine wl_region ?_
      refine st (.int .i64 0) rfl rfl (xr_assign _ rfl rfl) ?_
      refine wl_end ?_
      (try simp only [ls0, ls1])
      refine hK2842 _ _ ?_
      (try clear hK2842 K2842)
      refine wp_block ?_
      (try simp only [ls0, ls1])
      refine wp_looped (looped_fin (fun kq2972 a_ w2971 => ∃ (C2970 : Nat → Nat) (x2964 : Bool) (x2965 : Int) (g_ : Nat → Value), a_ = ⟨#[(g_ 0), .int .i64 a1, .int .i64 a2, .pointer (some ⟨g1526, 0, none⟩), (g_ 4), (g_ 5), (g_ 6), .int .i64 x2535, .bool x2964, .int .i64 x2965, (g_ 10), (g_ 11), (g_ 12), (g_ 13), (g_ 14), (g_ 15), (g_ 16), (g_ 17), (g_ 18), (g_ 19), (g_ 20), (g_ 21), (g_ 22), (g_ 23), (g_ 24), (g_ 25), (g_ 26), .pointer (some ⟨g1526, 1, none⟩), .slice A0_1 l0_1.length c0_1, .int .i64 a2, (g_ 30), .slice Aq2632_0 (rd_L20 l0_1 a2).length cpq2632_0, .int .i64 x2535, (g_ 33), .bool true, .bool false, (g_ 36), (g_ 37), (g_ 38), (g_ 39), (g_ 40), (g_ 41), (g_ 42), (g_ 43), (g_ 44), (g_ 45), (g_ 46), (g_ 47), (g_ 48), (g_ 49), (g_ 50), (g_ 51), (g_ 52), (g_ 53), (g_ 54), (g_ 55), (g_ 56), (g_ 57), (g_ 58), (g_ 59), (g_ 60), (g_ 61), (g_ 62), (g_ 63), (g_ 64), (g_ 65), (g_ 66), (g_ 67), (g_ 68), (g_ 69), (g_ 70), (g_ 71), (g_ 72), (g_ 73), (g_ 74)], []⟩ ∧ Step c w C2970 w2971 [] ∧ kq2972 ≤ k2547 ∧ (Ft C2970 [0] w2971 (fun w_ => (Kd.slice 4 Kd.bool).C w_ A0_1 l0_1.length l0_1)) ∧ (Ft C2970 [0] w2971 (fun w_ => Kd.bool.C w_ Aq2632_0 ((rd_L20 l0_1 a2).length) (rd_L20 l0_1 a2))) ∧ (Ft C2970 [0] w2971 (fun w_ => Kd.string.C w_ A0_0 l0_0.length l0_0)) ∧ (Bx C2970 11 w2971 g1526 33 ([.slice A0_0 l0_0.length c0_0, .slice A0_1 l0_1.length c0_1])) ∧ blazonref14_Join.l0 kq2972 a1 a2 l0_0 l0_1 x2535 x2964 x2965 = some r) ?step fun hL_ => ?init)
      case init =>
       exact jmpL (fun a_ h_ => hL_ k2547 a_ _ h_) (fun g_ => ⟨_, true, 0, g_, rfl, HS2542, Nat.le_refl _, HJ2537, HRq2632_0, HJ2536, HJ2538, H⟩) rfl
      case step =>
       intro kq2972 ih2975 a2976 w2971 hr2977
       obtain ⟨C2970, x2964, x2965, g_, rfl, HS2973, hk2974, HJ2966, HJ2967, HJ2968, HJ2969, H⟩ := hr2977
       refine looped_round ?_
       cases kq2972 with
       | zero => exact absurd H (by simp [blazonref14_Join.l0])
       | succ k2978 =>
        simp only [blazonref14_Join.l0] at H
        refine wp_seq_k fun K2979 hK2979 => ?_
        refine wp_seq_k fun K2980 hK2980 => ?_
        refine wl_region ?_
        refine mv_ rfl ?_
        refine st (.pointer (some ⟨g1526, 0, none⟩)) rfl rfl (xr_fieldAddr _ _ rfl rfl (bx_field2 Tryd.underlying33 rfl rfl (by kernel_rfl))) ?_
        refine st (.slice A0_0 l0_0.length c0_0) rfl rfl (xr_load _ _ rfl rfl (load_cell Tryd.underlying30 rfl (bx_cell (HJ2969).2 0 rfl))) ?_
        refine st (.int .i64 (l0_0.length : Int)) rfl rfl (xr_builtin #[.slice A0_0 l0_0.length c0_0] (.int .i64 (l0_0.length : Int)) rfl (mp_ rfl) (by first | rfl | (go_simp; done) | (go_simp; rfl) | (go_simp; exact i64_w _) | (go_simp; exact i32_w _))) ?_
        simp only [ls0, ls1]
        refine st (.bool (decide (x2965 < (l0_0.length : Int)))) rfl rfl (xr_bin _ _ _ rfl rfl rfl (B.lss_i64 _ _)) ?_
        refine wl_end ?_
        (try simp only [ls0, ls1])
        refine hK2980 _ _ ?_
        (try clear hK2980 K2980)
        by_cases c2981 : x2965 < (l0_0.length : Int)
        ·rw [if_pos c2981] at H
         (try rw [(decide_eq_true c2981)])
         refine wp_cond_true rfl ?_
         refine wp_skip ?_
         (try simp only [ls0, ls1])
         refine hK2979 _ _ ?_
         (try clear hK2979 K2979)
         refine wp_seq_k fun K2982 hK2982 => ?_
         refine wp_block ?_
         refine wp_seq_k fun K2983 hK2983 => ?_
         refine wl_region ?_
         refine st (.pointer (some ⟨g1526, 1, none⟩)) rfl rfl (xr_fieldAddr _ _ rfl rfl (bx_field2 Tryd.underlying33 rfl rfl (by kernel_rfl))) ?_
         simp only [ls0, ls1]
         refine st (.slice A0_1 l0_1.length c0_1) rfl rfl (xr_load _ _ rfl rfl (load_cell Tryd.underlying31 rfl (bx_cell (HJ2969).2 1 rfl))) ?_
         refine mv_ rfl ?_
         obtain ⟨c3014, H⟩ := if_some H
         obtain ⟨c3015, H⟩ := if_some H
         obtain ⟨ad3016, hA3017⟩ := c_addr (Ft.now HJ2966) (pos_of (j := a1) (by first | assumption | decide) (by first | assumption | omega))
         refine st (.pointer (some (ad3016.add ((a1 : Int).toNat * 1)))) rfl rfl (xr_indexAddr _ _ _ rfl rfl rfl (index_at Tryd.underlying31 info74 hA3017 (by first | assumption | decide | omega) (by first | assumption | decide | omega))) ?_
         obtain ⟨csq3019, _, hKq3019, hcq3019, hinq3019⟩ := Ft.elem HJ2966 hA3017 [] a1 (by first | assumption | decide | omega) (by first | assumption | decide | omega) (by decide)
         obtain ⟨Aq3019_0, cpq3019_0, rfl, HCq3019_0, HRq3019_0⟩ := slice_openF hKq3019
         replace HRq3019_0 : Ft C2970 [0] w2971 (fun w_ => Kd.bool.C w_ Aq3019_0 (rd_L20 l0_1 a1).length (rd_L20 l0_1 a1)) := HRq3019_0
         refine st (.slice Aq3019_0 (rd_L20 l0_1 a1).length cpq3019_0) rfl rfl (xr_load (.pointer (some (ad3016.add ((a1 : Int).toNat * 1)))) (.slice Aq3019_0 (rd_L20 l0_1 a1).length cpq3019_0) rfl rfl (load_cell Tryd.underlying74 rfl (by have h_ := (hcq3019 0 _ rfl); rw [add_zero_] at h_; exact h_))) ?_
         simp only [ls0, ls1]
         refine mv_ rfl ?_
         obtain ⟨c3020, H⟩ := if_some H
         obtain ⟨c3021, H⟩ := if_some H
         obtain ⟨ad3022, hA3023⟩ := c_addr (Ft.now HRq3019_0) (pos_of (j := x2965) (by first | assumption | decide) (by first | assumption | omega))
         refine st (.pointer (some (ad3022.add ((x2965 : Int).toNat * 1)))) rfl rfl (xr_indexAddr _ _ _ rfl rfl rfl (index_at Tryd.underlying74 info4 hA3023 (by first | assumption | decide | omega) (by first | assumption | decide | omega))) ?_
         refine st (.bool (rdOf false (rd_L20 l0_1 a1) x2965)) rfl rfl (xr_load _ _ rfl rfl (load_bool Tryd.underlying4 rfl hA3023 (Ft.now HRq3019_0) (by first | assumption | decide | omega) (by first | assumption | decide | omega))) ?_
         refine mv_ rfl ?_
         simp only [ls0, ls1]
         by_cases c3024 : rdOf false (rd_L20 l0_1 a1) x2965 = true
         ·rw [if_pos c3024] at H
          (try rw [c3024])
          refine on_guard (guard_on 8 true 52 rfl rfl rfl) ?_
          refine st (.pointer (some ⟨g1526, 1, none⟩)) rfl rfl (xr_fieldAddr _ _ rfl rfl (bx_field2 Tryd.underlying33 rfl rfl (by kernel_rfl))) ?_
          refine on_guard (guard_on 8 true 52 rfl rfl rfl) ?_
          refine st (.slice A0_1 l0_1.length c0_1) rfl rfl (xr_load _ _ rfl rfl (load_cell Tryd.underlying31 rfl (bx_cell (HJ2969).2 1 rfl))) ?_
          refine on_guard (guard_on 8 true 52 rfl rfl rfl) ?_
          refine mv_ rfl ?_
          refine on_guard (guard_on 8 true 52 rfl rfl rfl) ?_
          obtain ⟨c3025, H⟩ := if_some H
          obtain ⟨c3026, H⟩ := if_some H
          obtain ⟨ad3027, hA3028⟩ := c_addr (Ft.now HJ2966) (pos_of (j := a2) (by first | assumption | decide) (by first | assumption | omega))
          refine st (.pointer (some (ad3027.add ((a2 : Int).toNat * 1)))) rfl rfl (xr_indexAddr _ _ _ rfl rfl rfl (index_at Tryd.underlying31 info74 hA3028 (by first | assumption | decide | omega) (by first | assumption | decide | omega))) ?_
          simp only [ls0, ls1]
          refine on_guard (guard_on 8 true 52 rfl rfl rfl) ?_
          obtain ⟨csq3030, _, hKq3030, hcq3030, hinq3030⟩ := Ft.elem HJ2966 hA3028 [] a2 (by first | assumption | decide | omega) (by first | assumption | decide | omega) (by decide)
          obtain ⟨Aq3030_0, cpq3030_0, rfl, HCq3030_0, HRq3030_0⟩ := slice_openF hKq3030
          replace HRq3030_0 : Ft C2970 [0] w2971 (fun w_ => Kd.bool.C w_ Aq3030_0 (rd_L20 l0_1 a2).length (rd_L20 l0_1 a2)) := HRq3030_0
          refine st (.slice Aq3030_0 (rd_L20 l0_1 a2).length cpq3030_0) rfl rfl (xr_load (.pointer (some (ad3027.add ((a2 : Int).toNat * 1)))) (.slice Aq3030_0 (rd_L20 l0_1 a2).length cpq3030_0) rfl rfl (load_cell Tryd.underlying74 rfl (by have h_ := (hcq3030 0 _ rfl); rw [add_zero_] at h_; exact h_))) ?_
          refine on_guard (guard_on 8 true 52 rfl rfl rfl) ?_
          refine mv_ rfl ?_
          refine on_guard (guard_on 8 true 52 rfl rfl rfl) ?_
          obtain ⟨c3031, H⟩ := if_some H
          obtain ⟨ad3032, hA3033⟩ := c_addr (Ft.now HRq3030_0) (pos_of (j := x2965) (by first | assumption | decide) (by first | assumption | omega))
          refine st (.pointer (some (ad3032.add ((x2965 : Int).toNat * 1)))) rfl rfl (xr_indexAddr _ _ _ rfl rfl rfl (index_at Tryd.underlying74 info4 hA3033 (by first | assumption | decide | omega) (by first | assumption | decide | omega))) ?_
          refine on_guard (guard_on 8 true 52 rfl rfl rfl) ?_
          refine st (.bool (rdOf false (rd_L20 l0_1 a2) x2965)) rfl rfl (xr_load _ _ rfl rfl (load_bool Tryd.underlying4 rfl hA3033 (Ft.now HRq3030_0) (by first | assumption | decide | omega) (by first | assumption | decide | omega))) ?_
          simp only [ls0, ls1]
          refine st (.bool (rdOf false (rd_L20 l0_1 a2) x2965)) rfl rfl (xr_pick true _ rfl rfl rfl) ?_
          refine mv_ rfl ?_
          by_cases c3034 : rdOf false (rd_L20 l0_1 a2) x2965 = true
          ·rw [if_pos c3034] at H
           (try rw [c3034])
           refine on_guard (guard_on 18 true 62 rfl rfl rfl) ?_
           refine st (.pointer (some ⟨g1526, 1, none⟩)) rfl rfl (xr_fieldAddr _ _ rfl rfl (bx_field2 Tryd.underlying33 rfl rfl (by kernel_rfl))) ?_
           refine on_guard (guard_on 18 true 62 rfl rfl rfl) ?_
           refine st (.slice A0_1 l0_1.length c0_1) rfl rfl (xr_load _ _ rfl rfl (load_cell Tryd.underlying31 rfl (bx_cell (HJ2969).2 1 rfl))) ?_
           simp only [ls0, ls1]
           refine on_guard (guard_on 18 true 62 rfl rfl rfl) ?_
           refine mv_ rfl ?_
           refine on_guard (guard_on 18 true 62 rfl rfl rfl) ?_
           obtain ⟨c3035, H⟩ := if_some H
           obtain ⟨c3036, H⟩ := if_some H
           obtain ⟨ad3037, hA3038⟩ := c_addr (Ft.now HJ2966) (pos_of (j := x2535) (by first | assumption | decide) (by first | assumption | omega))
           refine st (.pointer (some (ad3037.add ((x2535 : Int).toNat * 1)))) rfl rfl (xr_indexAddr _ _ _ rfl rfl rfl (index_at Tryd.underlying31 info74 hA3038 (by first | assumption | decide | omega) (by first | assumption | decide | omega))) ?_
           refine on_guard (guard_on 18 true 62 rfl rfl rfl) ?_
           obtain ⟨csq3040, _, hKq3040, hcq3040, hinq3040⟩ := Ft.elem HJ2966 hA3038 [] x2535 (by first | assumption | decide | omega) (by first | assumption | decide | omega) (by decide)
           obtain ⟨Aq3040_0, cpq3040_0, rfl, HCq3040_0, HRq3040_0⟩ := slice_openF hKq3040
           replace HRq3040_0 : Ft C2970 [0] w2971 (fun w_ => Kd.bool.C w_ Aq3040_0 (rd_L20 l0_1 x2535).length (rd_L20 l0_1 x2535)) := HRq3040_0
           refine st (.slice Aq3040_0 (rd_L20 l0_1 x2535).length cpq3040_0) rfl rfl (xr_load (.pointer (some (ad3037.add ((x2535 : Int).toNat * 1)))) (.slice Aq3040_0 (rd_L20 l0_1 x2535).length cpq3040_0) rfl rfl (load_cell Tryd.underlying74 rfl (by have h_ := (hcq3040 0 _ rfl); rw [add_zero_] at h_; exact h_))) ?_
           refine on_guard (guard_on 18 true 62 rfl rfl rfl) ?_
           refine mv_ rfl ?_
           simp only [ls0, ls1]
           refine on_guard (guard_on 18 true 62 rfl rfl rfl) ?_
           obtain ⟨c3041, H⟩ := if_some H
           obtain ⟨ad3042, hA3043⟩ := c_addr (Ft.now HRq3040_0) (pos_of (j := x2965) (by first | assumption | decide) (by first | assumption | omega))
           refine st (.pointer (some (ad3042.add ((x2965 : Int).toNat * 1)))) rfl rfl (xr_indexAddr _ _ _ rfl rfl rfl (index_at Tryd.underlying74 info4 hA3043 (by first | assumption | decide | omega) (by first | assumption | decide | omega))) ?_
           refine on_guard (guard_on 18 true 62 rfl rfl rfl) ?_
           refine st (.bool (rdOf false (rd_L20 l0_1 x2535) x2965)) rfl rfl (xr_load _ _ rfl rfl (load_bool Tryd.underlying4 rfl hA3043 (Ft.now HRq3040_0) (by first | assumption | decide | omega) (by first | assumption | decide | omega))) ?_
           refine on_guard (guard_on 18 true 62 rfl rfl rfl) ?_
           refine st (.bool (!(rdOf false (rd_L20 l0_1 x2535) x2965))) rfl rfl (xr_un (.bool (rdOf false (rd_L20 l0_1 x2535) x2965)) _ rfl rfl (by first | rfl | (go_simp; done) | (go_simp; rfl) | (go_simp; exact i64_w _) | (go_simp; exact i32_w _))) ?_
           refine st (.bool (!(rdOf false (rd_L20 l0_1 x2535) x2965))) rfl rfl (xr_pick true _ rfl rfl rfl) ?_
           simp only [ls0, ls1]
           refine wl_end ?_
           (try simp only [ls0, ls1])
           refine hK2983 _ _ ?_
           (try clear hK2983 K2983)
           by_cases c3044 : rdOf false (rd_L20 l0_1 x2535) x2965 = true
           ·rw [if_pos c3044] at H
            (try rw [c3044])
            (try simp only [Bool.not_true, Bool.not_false])
            refine wp_cond_false rfl ?_
            refine wp_skip ?_
            (try simp only [ls0, ls1])
            refine hK2982 _ _ ?_
            (try clear hK2982 K2982)
            refine wl_region ?_
            refine mv_ rfl ?_
            refine st (.int .i64 (wrap64 (x2965 + 1))) rfl rfl (xr_bin _ _ _ rfl rfl rfl (B.add_i64 _ _)) ?_
            refine as_ rfl ?_
            refine wl_end ?_
            (try simp only [ls0, ls1])
            exact jmpL (fun a_ h_ => ih2975 k2978 (by omega) a_ _ h_) (fun g_ => ⟨_, x2964, wrap64 (x2965 + 1), g_, rfl, HS2973, (by omega), HJ2966, HJ2967, HJ2968, HJ2969, H⟩) rfl
           rw [if_neg c3044] at H
           (try rw [(Bool.eq_false_iff.mpr c3044)])
           (try simp only [Bool.not_true, Bool.not_false])
           refine wp_cond_true rfl ?_
           refine wl_region ?_
           refine st (.bool false) rfl rfl (xr_assign _ rfl rfl) ?_
           refine wl_end ?_
           (try simp only [ls0, ls1])
           refine hK2982 _ _ ?_
           (try clear hK2982 K2982)
           refine wl_region ?_
           refine mv_ rfl ?_
           refine st (.int .i64 (wrap64 (x2965 + 1))) rfl rfl (xr_bin _ _ _ rfl rfl rfl (B.add_i64 _ _)) ?_
           refine as_ rfl ?_
           refine wl_end ?_
           (try simp only [ls0, ls1])
           exact jmpL (fun a_ h_ => ih2975 k2978 (by omega) a_ _ h_) (fun g_ => ⟨_, false, wrap64 (x2965 + 1), g_, rfl, HS2973, (by omega), HJ2966, HJ2967, HJ2968, HJ2969, H⟩) rfl
          rw [if_neg c3034] at H
          (try rw [(Bool.eq_false_iff.mpr c3034)])
          refine sk_guard (guard_off 18 true 62 rfl rfl false (by decide) rfl) rfl ?_
          refine sk_guard (guard_off 18 true 62 rfl rfl false (by decide) rfl) rfl ?_
          refine sk_guard (guard_off 18 true 62 rfl rfl false (by decide) rfl) rfl ?_
          refine sk_guard (guard_off 18 true 62 rfl rfl false (by decide) rfl) rfl ?_
          simp only [ls0, ls1]
          refine sk_guard (guard_off 18 true 62 rfl rfl false (by decide) rfl) rfl ?_
          refine sk_guard (guard_off 18 true 62 rfl rfl false (by decide) rfl) rfl ?_
          refine sk_guard (guard_off 18 true 62 rfl rfl false (by decide) rfl) rfl ?_
          refine sk_guard (guard_off 18 true 62 rfl rfl false (by decide) rfl) rfl ?_
          simp only [ls0, ls1]
          refine sk_guard (guard_off 18 true 62 rfl rfl false (by decide) rfl) rfl ?_
          refine st (.bool false) rfl rfl (xr_pick false _ rfl rfl rfl) ?_
          refine wl_end ?_
          (try simp only [ls0, ls1])
          refine hK2983 _ _ ?_
          (try clear hK2983 K2983)
          refine wp_cond_false rfl ?_
          refine wp_skip ?_
          (try simp only [ls0, ls1])
          refine hK2982 _ _ ?_
          (try clear hK2982 K2982)
          refine wl_region ?_
          refine mv_ rfl ?_
          refine st (.int .i64 (wrap64 (x2965 + 1))) rfl rfl (xr_bin _ _ _ rfl rfl rfl (B.add_i64 _ _)) ?_
          refine as_ rfl ?_
          refine wl_end ?_
          (try simp only [ls0, ls1])
          exact jmpL (fun a_ h_ => ih2975 k2978 (by omega) a_ _ h_) (fun g_ => ⟨_, x2964, wrap64 (x2965 + 1), g_, rfl, HS2973, (by omega), HJ2966, HJ2967, HJ2968, HJ2969, H⟩) rfl
         rw [if_neg c3024] at H
         (try rw [(Bool.eq_false_iff.mpr c3024)])
         refine sk_guard (guard_off 8 true 52 rfl rfl false (by decide) rfl) rfl ?_
         refine sk_guard (guard_off 8 true 52 rfl rfl false (by decide) rfl) rfl ?_
         refine sk_guard (guard_off 8 true 52 rfl rfl false (by decide) rfl) rfl ?_
         refine sk_guard (guard_off 8 true 52 rfl rfl false (by decide) rfl) rfl ?_
         simp only [ls0, ls1]
         refine sk_guard (guard_off 8 true 52 rfl rfl false (by decide) rfl) rfl ?_
         refine sk_guard (guard_off 8 true 52 rfl rfl false (by decide) rfl) rfl ?_
         refine sk_guard (guard_off 8 true 52 rfl rfl false (by decide) rfl) rfl ?_
         refine sk_guard (guard_off 8 true 52 rfl rfl false (by decide) rfl) rfl ?_
         simp only [ls0, ls1]
         refine st (.bool false) rfl rfl (xr_pick false _ rfl rfl rfl) ?_
         refine mv_ rfl ?_
         refine sk_guard (guard_off 18 true 62 rfl rfl false (by decide) rfl) rfl ?_
         refine sk_guard (guard_off 18 true 62 rfl rfl false (by decide) rfl) rfl ?_
         simp only [ls0, ls1]
         refine sk_guard (guard_off 18 true 62 rfl rfl false (by decide) rfl) rfl ?_
         refine sk_guard (guard_off 18 true 62 rfl rfl false (by decide) rfl) rfl ?_
         refine sk_guard (guard_off 18 true 62 rfl rfl false (by decide) rfl) rfl ?_
         refine sk_guard (guard_off 18 true 62 rfl rfl false (by decide) rfl) rfl ?_
         simp only [ls0, ls1]
         refine sk_guard (guard_off 18 true 62 rfl rfl false (by decide) rfl) rfl ?_
         refine sk_guard (guard_off 18 true 62 rfl rfl false (by decide) rfl) rfl ?_
         refine sk_guard (guard_off 18 true 62 rfl rfl false (by decide) rfl) rfl ?_
         refine st (.bool false) rfl rfl (xr_pick false _ rfl rfl rfl) ?_
         simp only [ls0, ls1]
         refine wl_end ?_
         (try simp only [ls0, ls1])
         refine hK2983 _ _ ?_
         (try clear hK2983 K2983)
         refine wp_cond_false rfl ?_
         refine wp_skip ?_
         (try simp only [ls0, ls1])
         refine hK2982 _ _ ?_
         (try clear hK2982 K2982)
         refine wl_region ?_
         refine mv_ rfl ?_
         refine st (.int .i64 (wrap64 (x2965 + 1))) rfl rfl (xr_bin _ _ _ rfl rfl rfl (B.add_i64 _ _)) ?_
         refine as_ rfl ?_
         refine wl_end ?_
         (try simp only [ls0, ls1])
         exact jmpL (fun a_ h_ => ih2975 k2978 (by omega) a_ _ h_) (fun g_ => ⟨_, x2964, wrap64 (x2965 + 1), g_, rfl, HS2973, (by omega), HJ2966, HJ2967, HJ2968, HJ2969, H⟩) rfl
        rw [if_neg c2981] at H
        (try rw [(decide_eq_false c2981)])
        refine wp_cond_false rfl ?_
        refine wp_exit ?_
        (try simp only [ls0, ls1])
        refine hK2638 _ _ ?_
        (try clear hK2638 K2638)
        refine wp_seq_k fun K3045 hK3045 => ?_
        refine wl_region ?_
        refine mv_ rfl ?_
        refine wl_end ?_
        (try simp only [ls0, ls1])
        refine hK3045 _ _ ?_
        (try clear hK3045 K3045)
        by_cases c3046 : x2964 = true
        ·rw [if_pos c3046] at H
         (try rw [c3046])
         refine wp_cond_true rfl ?_
         refine wp_seq_k fun K3047 hK3047 => ?_
         refine wl_region ?_
         refine mv_ rfl ?_
         refine as_ rfl ?_
         refine wl_end ?_
         (try simp only [ls0, ls1])
         refine hK3047 _ _ ?_
         (try clear hK3047 K3047)
         refine wp_ret ?_
         (try simp only [Exit.inBlock, Exit.then, Exit.noGoto])
         (try simp only [ls0, ls1])
         obtain rfl := Option.some.inj H
         refine bodyPost_ret (results_tmp rfl _ _ _) rfl ?_
         exact ⟨_, rfl, HS2973⟩
        rw [if_neg c3046] at H
        (try rw [(Bool.eq_false_iff.mpr c3046)])
        refine wp_cond_false rfl ?_
        refine wp_skip ?_
        (try simp only [ls0, ls1])
        refine hK2551 _ _ ?_
        (try clear hK2551 K2551)
        refine wl_region ?_
        refine mv_ rfl ?_
        refine st (.int .i64 (wrap64 (x2535 + 1))) rfl rfl (xr_bin _ _ _ rfl rfl rfl (B.add_i64 _ _)) ?_
        refine as_ rfl ?_
        refine wl_end ?_
        (try simp only [ls0, ls1])
        exact jmpL (fun a_ h_ => ih2544 k2978 (by omega) a_ _ h_) (fun g_ => ⟨_, wrap64 (x2535 + 1), g_, rfl, HS2973, (by omega), HJ2968, HJ2966, HJ2969, H⟩) rfl
     rw [if_neg c2636] at H
     (try rw [(Bool.eq_false_iff.mpr c2636)])
     (try simp only [Bool.not_true, Bool.not_false])
     refine wp_cond_true rfl ?_
     refine wp_exit ?_
     (try simp only [ls0, ls1])
     refine hK2551 _ _ ?_
     (try clear hK2551 K2551)
     refine wl_region ?_
     refine mv_ rfl ?_
     refine st (.int .i64 (wrap64 (x2535 + 1))) rfl rfl (xr_bin _ _ _ rfl rfl rfl (B.add_i64 _ _)) ?_
     refine as_ rfl ?_
     refine wl_end ?_
     (try simp only [ls0, ls1])
     exact jmpL (fun a_ h_ => ih2544 k2547 (by omega) a_ _ h_) (fun g_ => ⟨_, wrap64 (x2535 + 1), g_, rfl, HS2542, (by omega), HJ2536, HJ2537, HJ2538, H⟩) rfl
    rw [if_neg c2626] at H
    (try rw [(Bool.eq_false_iff.mpr c2626)])
    (try simp only [Bool.not_true, Bool.not_false])
    refine sk_guard (guard_off 9 false 26 rfl rfl true (by decide) rfl) rfl ?_
    refine sk_guard (guard_off 9 false 26 rfl rfl true (by decide) rfl) rfl ?_
    refine sk_guard (guard_off 9 false 26 rfl rfl true (by decide) rfl) rfl ?_
    refine sk_guard (guard_off 9 false 26 rfl rfl true (by decide) rfl) rfl ?_
    simp only [ls0, ls1]
    refine sk_guard (guard_off 9 false 26 rfl rfl true (by decide) rfl) rfl ?_
    refine sk_guard (guard_off 9 false 26 rfl rfl true (by decide) rfl) rfl ?_
    refine sk_guard (guard_off 9 false 26 rfl rfl true (by decide) rfl) rfl ?_
    refine sk_guard (guard_off 9 false 26 rfl rfl true (by decide) rfl) rfl ?_
    simp only [ls0, ls1]
    refine sk_guard (guard_off 9 false 26 rfl rfl true (by decide) rfl) rfl ?_
    refine st (.bool true) rfl rfl (xr_pick true _ rfl rfl rfl) ?_
    refine wl_end ?_
    (try simp only [ls0, ls1])
    refine hK2595 _ _ ?_
    (try clear hK2595 K2595)
    refine wp_cond_true rfl ?_
    refine wp_exit ?_
    (try simp only [ls0, ls1])
    refine hK2551 _ _ ?_
    (try clear hK2551 K2551)
    refine wl_region ?_
    refine mv_ rfl ?_
    refine st (.int .i64 (wrap64 (x2535 + 1))) rfl rfl (xr_bin _ _ _ rfl rfl rfl (B.add_i64 _ _)) ?_
    refine as_ rfl ?_
    refine wl_end ?_
    (try simp only [ls0, ls1])
    exact jmpL (fun a_ h_ => ih2544 k2547 (by omega) a_ _ h_) (fun g_ => ⟨_, wrap64 (x2535 + 1), g_, rfl, HS2542, (by omega), HJ2536, HJ2537, HJ2538, H⟩) rfl
   rw [if_neg c2550] at H
   (try rw [(decide_eq_false c2550)])
   refine wp_cond_false rfl ?_
   refine wp_exit ?_
   (try simp only [ls0, ls1])
   refine hK1531 _ _ ?_
   (try clear hK1531 K1531)
   refine wp_seq_k fun K3048 hK3048 => ?_
   refine wl_region ?_
   refine st (.int .i64 (-1)) rfl rfl (xr_assign _ rfl rfl) ?_
   refine wl_end ?_
   (try simp only [ls0, ls1])
   refine hK3048 _ _ ?_
   (try clear hK3048 K3048)
   refine wp_ret ?_
   (try simp only [Exit.inBlock, Exit.then, Exit.noGoto])
   (try simp only [ls0, ls1])
   obtain rfl := Option.some.inj H
   refine bodyPost_ret (results_tmp rfl _ _ _) rfl ?_
   exact ⟨_, rfl, HS2542⟩

/-! ### blazonref14_Meet: function 61 -/
mutual
def blazonref14_Meet.l0 : Nat → Int → Int → (List ByteArray) → (List (List Bool)) → Int → Bool → Int → Option (Int)
  | 0, _, _, _, _, _, _, _ => none
  | k + 1, a1, a2, l0_0, l0_1, x2527, x2948, x2949 => if x2949 < (l0_0.length : Int) then (if 0 ≤ x2949 then (if x2949 < (l0_1.length : Int) then (if 0 ≤ a1 then (if a1 < ((rd_L20 l0_1 x2949).length : Int) then (if rdOf false (rd_L20 l0_1 x2949) a1 = true then (if 0 ≤ a2 then (if a2 < ((rd_L20 l0_1 x2949).length : Int) then (if rdOf false (rd_L20 l0_1 x2949) a2 = true then (if 0 ≤ x2527 then (if x2527 < ((rd_L20 l0_1 x2949).length : Int) then (if rdOf false (rd_L20 l0_1 x2949) x2527 = true then (blazonref14_Meet.l0 k a1 a2 l0_0 l0_1 x2527 x2948 (wrap64 (x2949 + 1))) else (blazonref14_Meet.l0 k a1 a2 l0_0 l0_1 x2527 false (wrap64 (x2949 + 1)))) else (none)) else (none)) else (blazonref14_Meet.l0 k a1 a2 l0_0 l0_1 x2527 x2948 (wrap64 (x2949 + 1)))) else (none)) else (none)) else (blazonref14_Meet.l0 k a1 a2 l0_0 l0_1 x2527 x2948 (wrap64 (x2949 + 1)))) else (none)) else (none)) else (none)) else (none)) else (if x2948 = true then (some x2527) else (blazonref14_Meet.l1 k a1 a2 l0_0 l0_1 (wrap64 (x2527 + 1))))
def blazonref14_Meet.l1 : Nat → Int → Int → (List ByteArray) → (List (List Bool)) → Int → Option (Int)
  | 0, _, _, _, _, _ => none
  | k + 1, a1, a2, l0_0, l0_1, x2527 => if x2527 < (l0_0.length : Int) then (if 0 ≤ x2527 then (if x2527 < (l0_1.length : Int) then (if 0 ≤ a1 then (if a1 < ((rd_L20 l0_1 x2527).length : Int) then (if rdOf false (rd_L20 l0_1 x2527) a1 = true then (if 0 ≤ a2 then (if a2 < ((rd_L20 l0_1 x2527).length : Int) then (if rdOf false (rd_L20 l0_1 x2527) a2 = true then (blazonref14_Meet.l0 k a1 a2 l0_0 l0_1 x2527 true 0) else (blazonref14_Meet.l1 k a1 a2 l0_0 l0_1 (wrap64 (x2527 + 1)))) else (none)) else (none)) else (blazonref14_Meet.l1 k a1 a2 l0_0 l0_1 (wrap64 (x2527 + 1)))) else (none)) else (none)) else (none)) else (none)) else (some (-1))
end
def blazonref14_Meet.f (k : Nat) (l0_0 : List ByteArray) (l0_1 : List (List Bool)) (a1 : Int) (a2 : Int) : Option (Int) := blazonref14_Meet.l1 k a1 a2 l0_0 l0_1 0

set_option maxHeartbeats 2000000 in
set_option maxRecDepth 100000 in
theorem blazonref14_Meet.calls (k : Nat) (A0_0 : Option Addr) (c0_0 : Nat) (l0_0 : List ByteArray) (A0_1 : Option Addr) (c0_1 : Nat) (l0_1 : List (List Bool)) (a1 : Int) (a2 : Int) (r : Int) (c : Nat → Nat) (w : World) (hc : ∀ k, c k < 10) (HP0_0 : Ft c [0] w (fun w_ => Kd.string.C w_ A0_0 l0_0.length l0_0)) (HCP0_0 : l0_0.length ≤ c0_0) (HP0_1 : Ft c [0] w (fun w_ => (Kd.slice 4 Kd.bool).C w_ A0_1 l0_1.length l0_1)) (HCP0_1 : l0_1.length ≤ c0_1) (H : blazonref14_Meet.f k l0_0 l0_1 a1 a2 = some r) :
    Calls Tryd.prog 61 #[.agg #[.slice A0_0 l0_0.length c0_0, .slice A0_1 l0_1.length c0_1], .int .i64 a1, .int .i64 a2] w fun e w' => ∃ (c' : Nat → Nat) , e = .returned (.int .i64 r) ∧ Step c w c' w' [] := by
 unfold blazonref14_Meet.f at H
 have HS := Step.refl c w []
 go_enter Tryd.func61, Tryd.ntmps61
 refine wp_seq_k fun K1515 hK1515 => ?_
 refine wl_region ?_
 refine bx_new (C := c) 33 ([.slice A0_0 l0_0.length c0_0, .slice A0_1 l0_1.length c0_1]) 11 rfl rfl (by first | (go_simp; done) | (go_simp; rfl)) ?_
 intro g1516 w1517 C1518 HX1519 hs1520
 replace HP0_0 := HP0_0.thru hs1520 rfl
 replace HP0_1 := HP0_1.thru hs1520 rfl
 replace HS := HS.trans hs1520 hc rfl
 (try simp only [ls0, ls1])
 refine st (.int .i64 0) rfl rfl (xr_assign _ rfl rfl) ?_
 refine wl_end ?_
 (try simp only [ls0, ls1])
 refine hK1515 _ _ ?_
 (try clear hK1515 K1515)
 refine wp_seq_k fun K1521 hK1521 => ?_
 refine wp_seq_k fun K1522 hK1522 => ?_
 refine wl_region ?_
 refine st (.int .i64 0) rfl rfl (xr_assign _ rfl rfl) ?_
 refine wl_end ?_
 (try simp only [ls0, ls1])
 refine hK1522 _ _ ?_
 (try clear hK1522 K1522)
 refine wp_block ?_
 (try simp only [ls0, ls1])
 refine wp_looped (looped_fin (fun kq2533 a_ w2532 => ∃ (C2531 : Nat → Nat) (x2527 : Int) (g_ : Nat → Value), a_ = ⟨#[(g_ 0), .int .i64 a1, .int .i64 a2, .pointer (some ⟨g1516, 0, none⟩), (g_ 4), (g_ 5), (g_ 6), .int .i64 x2527, (g_ 8), (g_ 9), (g_ 10), (g_ 11), (g_ 12), (g_ 13), (g_ 14), (g_ 15), (g_ 16), (g_ 17), (g_ 18), (g_ 19), (g_ 20), (g_ 21), (g_ 22), (g_ 23), (g_ 24), (g_ 25), (g_ 26), (g_ 27), (g_ 28), (g_ 29), (g_ 30), (g_ 31), (g_ 32), (g_ 33), (g_ 34), (g_ 35), (g_ 36), (g_ 37), (g_ 38), (g_ 39), (g_ 40), (g_ 41), (g_ 42), (g_ 43), (g_ 44), (g_ 45), (g_ 46), (g_ 47), (g_ 48), (g_ 49), (g_ 50), (g_ 51), (g_ 52), (g_ 53), (g_ 54), (g_ 55), (g_ 56), (g_ 57), (g_ 58), (g_ 59), (g_ 60), (g_ 61), (g_ 62), (g_ 63), (g_ 64), (g_ 65), (g_ 66), (g_ 67), (g_ 68), (g_ 69), (g_ 70), (g_ 71), (g_ 72), (g_ 73), (g_ 74)], []⟩ ∧ Step c w C2531 w2532 [] ∧ kq2533 ≤ k ∧ (Ft C2531 [0] w2532 (fun w_ => Kd.string.C w_ A0_0 l0_0.length l0_0)) ∧ (Ft C2531 [0] w2532 (fun w_ => (Kd.slice 4 Kd.bool).C w_ A0_1 l0_1.length l0_1)) ∧ (Bx C2531 11 w2532 g1516 33 ([.slice A0_0 l0_0.length c0_0, .slice A0_1 l0_1.length c0_1])) ∧ blazonref14_Meet.l1 kq2533 a1 a2 l0_0 l0_1 x2527 = some r) ?step fun hL_ => ?init)
 case init =>
  exact jmpL (fun a_ h_ => hL_ k a_ _ h_) (fun g_ => ⟨_, 0, g_, rfl, HS, Nat.le_refl _, HP0_0, HP0_1, HX1519, H⟩) rfl
 case step =>
  intro kq2533 ih2536 a2537 w2532 hr2538
  obtain ⟨C2531, x2527, g_, rfl, HS2534, hk2535, HJ2528, HJ2529, HJ2530, H⟩ := hr2538
  refine looped_round ?_
  cases kq2533 with
  | zero => exact absurd H (by simp [blazonref14_Meet.l1])
  | succ k2539 =>
   simp only [blazonref14_Meet.l1] at H
   refine wp_seq_k fun K2540 hK2540 => ?_
   refine wp_seq_k fun K2541 hK2541 => ?_
   refine wl_region ?_
   refine mv_ rfl ?_
   refine st (.pointer (some ⟨g1516, 0, none⟩)) rfl rfl (xr_fieldAddr _ _ rfl rfl (bx_field2 Tryd.underlying33 rfl rfl (by kernel_rfl))) ?_
   refine st (.slice A0_0 l0_0.length c0_0) rfl rfl (xr_load _ _ rfl rfl (load_cell Tryd.underlying30 rfl (bx_cell (HJ2530).2 0 rfl))) ?_
   refine st (.int .i64 (l0_0.length : Int)) rfl rfl (xr_builtin #[.slice A0_0 l0_0.length c0_0] (.int .i64 (l0_0.length : Int)) rfl (mp_ rfl) (by first | rfl | (go_simp; done) | (go_simp; rfl) | (go_simp; exact i64_w _) | (go_simp; exact i32_w _))) ?_
   simp only [ls0, ls1]
   refine st (.bool (decide (x2527 < (l0_0.length : Int)))) rfl rfl (xr_bin _ _ _ rfl rfl rfl (B.lss_i64 _ _)) ?_
   refine wl_end ?_
   (try simp only [ls0, ls1])
   refine hK2541 _ _ ?_
   (try clear hK2541 K2541)
   by_cases c2542 : x2527 < (l0_0.length : Int)
   ·rw [if_pos c2542] at H
    (try rw [(decide_eq_true c2542)])
    refine wp_cond_true rfl ?_
    refine wp_skip ?_
    (try simp only [ls0, ls1])
    refine hK2540 _ _ ?_
    (try clear hK2540 K2540)
    refine wp_seq_k fun K2543 hK2543 => ?_
    refine wp_block ?_
    refine wp_seq_k fun K2544 hK2544 => ?_
    refine wp_seq_k fun K2585 hK2585 => ?_
    refine wl_region ?_
    refine st (.pointer (some ⟨g1516, 1, none⟩)) rfl rfl (xr_fieldAddr _ _ rfl rfl (bx_field2 Tryd.underlying33 rfl rfl (by kernel_rfl))) ?_
    refine st (.slice A0_1 l0_1.length c0_1) rfl rfl (xr_load _ _ rfl rfl (load_cell Tryd.underlying31 rfl (bx_cell (HJ2530).2 1 rfl))) ?_
    simp only [ls0, ls1]
    refine mv_ rfl ?_
    obtain ⟨c2605, H⟩ := if_some H
    obtain ⟨c2606, H⟩ := if_some H
    obtain ⟨ad2607, hA2608⟩ := c_addr (Ft.now HJ2529) (pos_of (j := x2527) (by first | assumption | decide) (by first | assumption | omega))
    refine st (.pointer (some (ad2607.add ((x2527 : Int).toNat * 1)))) rfl rfl (xr_indexAddr _ _ _ rfl rfl rfl (index_at Tryd.underlying31 info74 hA2608 (by first | assumption | decide | omega) (by first | assumption | decide | omega))) ?_
    obtain ⟨csq2610, _, hKq2610, hcq2610, hinq2610⟩ := Ft.elem HJ2529 hA2608 [] x2527 (by first | assumption | decide | omega) (by first | assumption | decide | omega) (by decide)
    obtain ⟨Aq2610_0, cpq2610_0, rfl, HCq2610_0, HRq2610_0⟩ := slice_openF hKq2610
    replace HRq2610_0 : Ft C2531 [0] w2532 (fun w_ => Kd.bool.C w_ Aq2610_0 (rd_L20 l0_1 x2527).length (rd_L20 l0_1 x2527)) := HRq2610_0
    refine st (.slice Aq2610_0 (rd_L20 l0_1 x2527).length cpq2610_0) rfl rfl (xr_load (.pointer (some (ad2607.add ((x2527 : Int).toNat * 1)))) (.slice Aq2610_0 (rd_L20 l0_1 x2527).length cpq2610_0) rfl rfl (load_cell Tryd.underlying74 rfl (by have h_ := (hcq2610 0 _ rfl); rw [add_zero_] at h_; exact h_))) ?_
    refine mv_ rfl ?_
    simp only [ls0, ls1]
    obtain ⟨c2611, H⟩ := if_some H
    obtain ⟨c2612, H⟩ := if_some H
    obtain ⟨ad2613, hA2614⟩ := c_addr (Ft.now HRq2610_0) (pos_of (j := a1) (by first | assumption | decide) (by first | assumption | omega))
    refine st (.pointer (some (ad2613.add ((a1 : Int).toNat * 1)))) rfl rfl (xr_indexAddr _ _ _ rfl rfl rfl (index_at Tryd.underlying74 info4 hA2614 (by first | assumption | decide | omega) (by first | assumption | decide | omega))) ?_
    refine st (.bool (rdOf false (rd_L20 l0_1 x2527) a1)) rfl rfl (xr_load _ _ rfl rfl (load_bool Tryd.underlying4 rfl hA2614 (Ft.now HRq2610_0) (by first | assumption | decide | omega) (by first | assumption | decide | omega))) ?_
    refine st (.bool (!(rdOf false (rd_L20 l0_1 x2527) a1))) rfl rfl (xr_un (.bool (rdOf false (rd_L20 l0_1 x2527) a1)) _ rfl rfl (by first | rfl | (go_simp; done) | (go_simp; rfl) | (go_simp; exact i64_w _) | (go_simp; exact i32_w _))) ?_
    refine mv_ rfl ?_
    simp only [ls0, ls1]
    by_cases c2615 : rdOf false (rd_L20 l0_1 x2527) a1 = true
    ·rw [if_pos c2615] at H
     (try rw [c2615])
     (try simp only [Bool.not_true, Bool.not_false])
     refine on_guard (guard_on 9 false 26 rfl rfl rfl) ?_
     refine st (.pointer (some ⟨g1516, 1, none⟩)) rfl rfl (xr_fieldAddr _ _ rfl rfl (bx_field2 Tryd.underlying33 rfl rfl (by kernel_rfl))) ?_
     refine on_guard (guard_on 9 false 26 rfl rfl rfl) ?_
     refine st (.slice A0_1 l0_1.length c0_1) rfl rfl (xr_load _ _ rfl rfl (load_cell Tryd.underlying31 rfl (bx_cell (HJ2530).2 1 rfl))) ?_
     refine on_guard (guard_on 9 false 26 rfl rfl rfl) ?_
     refine mv_ rfl ?_
     refine on_guard (guard_on 9 false 26 rfl rfl rfl) ?_
     obtain ⟨ad2616, hA2617⟩ := c_addr (Ft.now HJ2529) (pos_of (j := x2527) (by first | assumption | decide) (by first | assumption | omega))
     refine st (.pointer (some (ad2616.add ((x2527 : Int).toNat * 1)))) rfl rfl (xr_indexAddr _ _ _ rfl rfl rfl (index_at Tryd.underlying31 info74 hA2617 (by first | assumption | decide | omega) (by first | assumption | decide | omega))) ?_
     simp only [ls0, ls1]
     refine on_guard (guard_on 9 false 26 rfl rfl rfl) ?_
     obtain ⟨csq2619, _, hKq2619, hcq2619, hinq2619⟩ := Ft.elem HJ2529 hA2617 [] x2527 (by first | assumption | decide | omega) (by first | assumption | decide | omega) (by decide)
     obtain ⟨Aq2619_0, cpq2619_0, rfl, HCq2619_0, HRq2619_0⟩ := slice_openF hKq2619
     replace HRq2619_0 : Ft C2531 [0] w2532 (fun w_ => Kd.bool.C w_ Aq2619_0 (rd_L20 l0_1 x2527).length (rd_L20 l0_1 x2527)) := HRq2619_0
     refine st (.slice Aq2619_0 (rd_L20 l0_1 x2527).length cpq2619_0) rfl rfl (xr_load (.pointer (some (ad2616.add ((x2527 : Int).toNat * 1)))) (.slice Aq2619_0 (rd_L20 l0_1 x2527).length cpq2619_0) rfl rfl (load_cell Tryd.underlying74 rfl (by have h_ := (hcq2619 0 _ rfl); rw [add_zero_] at h_; exact h_))) ?_
     refine on_guard (guard_on 9 false 26 rfl rfl rfl) ?_
     refine mv_ rfl ?_
     refine on_guard (guard_on 9 false 26 rfl rfl rfl) ?_
     obtain ⟨c2620, H⟩ := if_some H
     obtain ⟨c2621, H⟩ := if_some H
     obtain ⟨ad2622, hA2623⟩ := c_addr (Ft.now HRq2619_0) (pos_of (j := a2) (by first | assumption | decide) (by first | assumption | omega))
     refine st (.pointer (some (ad2622.add ((a2 : Int).toNat * 1)))) rfl rfl (xr_indexAddr _ _ _ rfl rfl rfl (index_at Tryd.underlying74 info4 hA2623 (by first | assumption | decide | omega) (by first | assumption | decide | omega))) ?_
     refine on_guard (guard_on 9 false 26 rfl rfl rfl) ?_
     refine st (.bool (rdOf false (rd_L20 l0_1 x2527) a2)) rfl rfl (xr_load _ _ rfl rfl (load_bool Tryd.underlying4 rfl hA2623 (Ft.now HRq2619_0) (by first | assumption | decide | omega) (by first | assumption | decide | omega))) ?_
     simp only [ls0, ls1]
     refine on_guard (guard_on 9 false 26 rfl rfl rfl) ?_
     refine st (.bool (!(rdOf false (rd_L20 l0_1 x2527) a2))) rfl rfl (xr_un (.bool (rdOf false (rd_L20 l0_1 x2527) a2)) _ rfl rfl (by first | rfl | (go_simp; done) | (go_simp; rfl) | (go_simp; exact i64_w _) | (go_simp; exact i32_w _))) ?_
     refine st (.bool (!(rdOf false (rd_L20 l0_1 x2527) a2))) rfl rfl (xr_pick false _ rfl rfl rfl) ?_
     refine wl_end ?_
     (try simp only [ls0, ls1])
     refine hK2585 _ _ ?_
     (try clear hK2585 K2585)
     by_cases c2624 : rdOf false (rd_L20 l0_1 x2527) a2 = true
     ·rw [if_pos c2624] at H
      (try rw [c2624])
      (try simp only [Bool.not_true, Bool.not_false])
      refine wp_cond_false rfl ?_
      refine wp_skip ?_
      (try simp only [ls0, ls1])
      refine hK2544 _ _ ?_
      (try clear hK2544 K2544)
      refine wp_seq_k fun K2625 hK2625 => ?_
      refine wl_region ?_
      refine st (.bool true) rfl rfl (xr_assign _ rfl rfl) ?_
      refine wl_end ?_
      (try simp only [ls0, ls1])
      refine hK2625 _ _ ?_
      (try clear hK2625 K2625)
      refine wp_seq_k fun K2626 hK2626 => ?_
      refine wp_seq_k fun K2826 hK2826 => ?_
      refine wl_region ?_
      refine st (.int .i64 0) rfl rfl (xr_assign _ rfl rfl) ?_
      refine wl_end ?_
      (try simp only [ls0, ls1])
      refine hK2826 _ _ ?_
      (try clear hK2826 K2826)
      refine wp_block ?_
      (try simp only [ls0, ls1])
      refine wp_looped (looped_fin (fun kq2956 a_ w2955 => ∃ (C2954 : Nat → Nat) (x2948 : Bool) (x2949 : Int) (g_ : Nat → Value), a_ = ⟨#[(g_ 0), .int .i64 a1, .int .i64 a2, .pointer (some ⟨g1516, 0, none⟩), (g_ 4), (g_ 5), (g_ 6), .int .i64 x2527, .bool x2948, .int .i64 x2949, (g_ 10), (g_ 11), (g_ 12), (g_ 13), (g_ 14), (g_ 15), (g_ 16), (g_ 17), (g_ 18), (g_ 19), (g_ 20), (g_ 21), (g_ 22), (g_ 23), (g_ 24), (g_ 25), (g_ 26), .pointer (some ⟨g1516, 1, none⟩), .slice A0_1 l0_1.length c0_1, .int .i64 x2527, (g_ 30), .slice Aq2619_0 (rd_L20 l0_1 x2527).length cpq2619_0, .int .i64 a2, (g_ 33), .bool true, .bool false, (g_ 36), (g_ 37), (g_ 38), (g_ 39), (g_ 40), (g_ 41), (g_ 42), (g_ 43), (g_ 44), (g_ 45), (g_ 46), (g_ 47), (g_ 48), (g_ 49), (g_ 50), (g_ 51), (g_ 52), (g_ 53), (g_ 54), (g_ 55), (g_ 56), (g_ 57), (g_ 58), (g_ 59), (g_ 60), (g_ 61), (g_ 62), (g_ 63), (g_ 64), (g_ 65), (g_ 66), (g_ 67), (g_ 68), (g_ 69), (g_ 70), (g_ 71), (g_ 72), (g_ 73), (g_ 74)], []⟩ ∧ Step c w C2954 w2955 [] ∧ kq2956 ≤ k2539 ∧ (Ft C2954 [0] w2955 (fun w_ => (Kd.slice 4 Kd.bool).C w_ A0_1 l0_1.length l0_1)) ∧ (Ft C2954 [0] w2955 (fun w_ => Kd.bool.C w_ Aq2619_0 ((rd_L20 l0_1 x2527).length) (rd_L20 l0_1 x2527))) ∧ (Ft C2954 [0] w2955 (fun w_ => Kd.string.C w_ A0_0 l0_0.length l0_0)) ∧ (Bx C2954 11 w2955 g1516 33 ([.slice A0_0 l0_0.length c0_0, .slice A0_1 l0_1.length c0_1])) ∧ blazonref14_Meet.l0 kq2956 a1 a2 l0_0 l0_1 x2527 x2948 x2949 = some r) ?step fun hL_ => ?init)
      case init =>
       exact jmpL (fun a_ h_ => hL_ k2539 a_ _ h_) (fun g_ => ⟨_, true, 0, g_, rfl, HS2534, Nat.le_refl _, HJ2529, HRq2619_0, HJ2528, HJ2530, H⟩) rfl
      case step =>
       intro kq2956 ih2959 a2960 w2955 hr2961
       obtain ⟨C2954, x2948, x2949, g_, rfl, HS2957, hk2958, HJ2950, HJ2951, HJ2952, HJ2953, H⟩ := hr2961
       refine looped_round ?_
       cases kq2956 with
       | zero => exact absurd H (by simp [blazonref14_Meet.l0])
       | succ k2962 =>
        simp only [blazonref14_Meet.l0] at H
        refine wp_seq_k fun K2963 hK2963 => ?_
        refine wp_seq_k fun K2964 hK2964 => ?_
        refine wl_region ?_
        refine mv_ rfl ?_
        refine st (.pointer (some ⟨g1516, 0, none⟩)) rfl rfl (xr_fieldAddr _ _ rfl rfl (bx_field2 Tryd.underlying33 rfl rfl (by kernel_rfl))) ?_
        refine st (.slice A0_0 l0_0.length c0_0) rfl rfl (xr_load _ _ rfl rfl (load_cell Tryd.underlying30 rfl (bx_cell (HJ2953).2 0 rfl))) ?_
        refine st (.int .i64 (l0_0.length : Int)) rfl rfl (xr_builtin #[.slice A0_0 l0_0.length c0_0] (.int .i64 (l0_0.length : Int)) rfl (mp_ rfl) (by first | rfl | (go_simp; done) | (go_simp; rfl) | (go_simp; exact i64_w _) | (go_simp; exact i32_w _))) ?_
        simp only [ls0, ls1]
        refine st (.bool (decide (x2949 < (l0_0.length : Int)))) rfl rfl (xr_bin _ _ _ rfl rfl rfl (B.lss_i64 _ _)) ?_
        refine wl_end ?_
        (try simp only [ls0, ls1])
        refine hK2964 _ _ ?_
        (try clear hK2964 K2964)
        by_cases c2965 : x2949 < (l0_0.length : Int)
        ·rw [if_pos c2965] at H
         (try rw [(decide_eq_true c2965)])
         refine wp_cond_true rfl ?_
         refine wp_skip ?_
         (try simp only [ls0, ls1])
         refine hK2963 _ _ ?_
         (try clear hK2963 K2963)
         refine wp_seq_k fun K2966 hK2966 => ?_
         refine wp_block ?_
         refine wp_seq_k fun K2967 hK2967 => ?_
         refine wl_region ?_
         refine st (.pointer (some ⟨g1516, 1, none⟩)) rfl rfl (xr_fieldAddr _ _ rfl rfl (bx_field2 Tryd.underlying33 rfl rfl (by kernel_rfl))) ?_
         simp only [ls0, ls1]
         refine st (.slice A0_1 l0_1.length c0_1) rfl rfl (xr_load _ _ rfl rfl (load_cell Tryd.underlying31 rfl (bx_cell (HJ2953).2 1 rfl))) ?_
         refine mv_ rfl ?_
         obtain ⟨c2996, H⟩ := if_some H
         obtain ⟨c2997, H⟩ := if_some H
         obtain ⟨ad2998, hA2999⟩ := c_addr (Ft.now HJ2950) (pos_of (j := x2949) (by first | assumption | decide) (by first | assumption | omega))
         refine st (.pointer (some (ad2998.add ((x2949 : Int).toNat * 1)))) rfl rfl (xr_indexAddr _ _ _ rfl rfl rfl (index_at Tryd.underlying31 info74 hA2999 (by first | assumption | decide | omega) (by first | assumption | decide | omega))) ?_
         obtain ⟨csq3001, _, hKq3001, hcq3001, hinq3001⟩ := Ft.elem HJ2950 hA2999 [] x2949 (by first | assumption | decide | omega) (by first | assumption | decide | omega) (by decide)
         obtain ⟨Aq3001_0, cpq3001_0, rfl, HCq3001_0, HRq3001_0⟩ := slice_openF hKq3001
         replace HRq3001_0 : Ft C2954 [0] w2955 (fun w_ => Kd.bool.C w_ Aq3001_0 (rd_L20 l0_1 x2949).length (rd_L20 l0_1 x2949)) := HRq3001_0
         refine st (.slice Aq3001_0 (rd_L20 l0_1 x2949).length cpq3001_0) rfl rfl (xr_load (.pointer (some (ad2998.add ((x2949 : Int).toNat * 1)))) (.slice Aq3001_0 (rd_L20 l0_1 x2949).length cpq3001_0) rfl rfl (load_cell Tryd.underlying74 rfl (by have h_ := (hcq3001 0 _ rfl); rw [add_zero_] at h_; exact h_))) ?_
         simp only [ls0, ls1]
         refine mv_ rfl ?_
         obtain ⟨c3002, H⟩ := if_some H
         obtain ⟨c3003, H⟩ := if_some H
         obtain ⟨ad3004, hA3005⟩ := c_addr (Ft.now HRq3001_0) (pos_of (j := a1) (by first | assumption | decide) (by first | assumption | omega))
         refine st (.pointer (some (ad3004.add ((a1 : Int).toNat * 1)))) rfl rfl (xr_indexAddr _ _ _ rfl rfl rfl (index_at Tryd.underlying74 info4 hA3005 (by first | assumption | decide | omega) (by first | assumption | decide | omega))) ?_
         refine st (.bool (rdOf false (rd_L20 l0_1 x2949) a1)) rfl rfl (xr_load _ _ rfl rfl (load_bool Tryd.underlying4 rfl hA3005 (Ft.now HRq3001_0) (by first | assumption | decide | omega) (by first | assumption | decide | omega))) ?_
         refine mv_ rfl ?_
         simp only [ls0, ls1]
         by_cases c3006 : rdOf false (rd_L20 l0_1 x2949) a1 = true
         ·rw [if_pos c3006] at H
          (try rw [c3006])
          refine on_guard (guard_on 8 true 52 rfl rfl rfl) ?_
          refine st (.pointer (some ⟨g1516, 1, none⟩)) rfl rfl (xr_fieldAddr _ _ rfl rfl (bx_field2 Tryd.underlying33 rfl rfl (by kernel_rfl))) ?_
          refine on_guard (guard_on 8 true 52 rfl rfl rfl) ?_
          refine st (.slice A0_1 l0_1.length c0_1) rfl rfl (xr_load _ _ rfl rfl (load_cell Tryd.underlying31 rfl (bx_cell (HJ2953).2 1 rfl))) ?_
          refine on_guard (guard_on 8 true 52 rfl rfl rfl) ?_
          refine mv_ rfl ?_
          refine on_guard (guard_on 8 true 52 rfl rfl rfl) ?_
          obtain ⟨ad3007, hA3008⟩ := c_addr (Ft.now HJ2950) (pos_of (j := x2949) (by first | assumption | decide) (by first | assumption | omega))
          refine st (.pointer (some (ad3007.add ((x2949 : Int).toNat * 1)))) rfl rfl (xr_indexAddr _ _ _ rfl rfl rfl (index_at Tryd.underlying31 info74 hA3008 (by first | assumption | decide | omega) (by first | assumption | decide | omega))) ?_
          simp only [ls0, ls1]
          refine on_guard (guard_on 8 true 52 rfl rfl rfl) ?_
          obtain ⟨csq3010, _, hKq3010, hcq3010, hinq3010⟩ := Ft.elem HJ2950 hA3008 [] x2949 (by first | assumption | decide | omega) (by first | assumption | decide | omega) (by decide)
          obtain ⟨Aq3010_0, cpq3010_0, rfl, HCq3010_0, HRq3010_0⟩ := slice_openF hKq3010
          replace HRq3010_0 : Ft C2954 [0] w2955 (fun w_ => Kd.bool.C w_ Aq3010_0 (rd_L20 l0_1 x2949).length (rd_L20 l0_1 x2949)) := HRq3010_0
          refine st (.slice Aq3010_0 (rd_L20 l0_1 x2949).length cpq3010_0) rfl rfl (xr_load (.pointer (some (ad3007.add ((x2949 : Int).toNat * 1)))) (.slice Aq3010_0 (rd_L20 l0_1 x2949).length cpq3010_0) rfl rfl (load_cell Tryd.underlying74 rfl (by have h_ := (hcq3010 0 _ rfl); rw [add_zero_] at h_; exact h_))) ?_
          refine on_guard (guard_on 8 true 52 rfl rfl rfl) ?_
          refine mv_ rfl ?_
          refine on_guard (guard_on 8 true 52 rfl rfl rfl) ?_
          obtain ⟨c3011, H⟩ := if_some H
          obtain ⟨c3012, H⟩ := if_some H
          obtain ⟨ad3013, hA3014⟩ := c_addr (Ft.now HRq3010_0) (pos_of (j := a2) (by first | assumption | decide) (by first | assumption | omega))
          refine st (.pointer (some (ad3013.add ((a2 : Int).toNat * 1)))) rfl rfl (xr_indexAddr _ _ _ rfl rfl rfl (index_at Tryd.underlying74 info4 hA3014 (by first | assumption | decide | omega) (by first | assumption | decide | omega))) ?_
          refine on_guard (guard_on 8 true 52 rfl rfl rfl) ?_
          refine st (.bool (rdOf false (rd_L20 l0_1 x2949) a2)) rfl rfl (xr_load _ _ rfl rfl (load_bool Tryd.underlying4 rfl hA3014 (Ft.now HRq3010_0) (by first | assumption | decide | omega) (by first | assumption | decide | omega))) ?_
          simp only [ls0, ls1]
          refine st (.bool (rdOf false (rd_L20 l0_1 x2949) a2)) rfl rfl (xr_pick true _ rfl rfl rfl) ?_
          refine mv_ rfl ?_
          by_cases c3015 : rdOf false (rd_L20 l0_1 x2949) a2 = true
          ·rw [if_pos c3015] at H
           (try rw [c3015])
           refine on_guard (guard_on 18 true 62 rfl rfl rfl) ?_
           refine st (.pointer (some ⟨g1516, 1, none⟩)) rfl rfl (xr_fieldAddr _ _ rfl rfl (bx_field2 Tryd.underlying33 rfl rfl (by kernel_rfl))) ?_
           refine on_guard (guard_on 18 true 62 rfl rfl rfl) ?_
           refine st (.slice A0_1 l0_1.length c0_1) rfl rfl (xr_load _ _ rfl rfl (load_cell Tryd.underlying31 rfl (bx_cell (HJ2953).2 1 rfl))) ?_
           simp only [ls0, ls1]
           refine on_guard (guard_on 18 true 62 rfl rfl rfl) ?_
           refine mv_ rfl ?_
           refine on_guard (guard_on 18 true 62 rfl rfl rfl) ?_
           obtain ⟨ad3016, hA3017⟩ := c_addr (Ft.now HJ2950) (pos_of (j := x2949) (by first | assumption | decide) (by first | assumption | omega))
           refine st (.pointer (some (ad3016.add ((x2949 : Int).toNat * 1)))) rfl rfl (xr_indexAddr _ _ _ rfl rfl rfl (index_at Tryd.underlying31 info74 hA3017 (by first | assumption | decide | omega) (by first | assumption | decide | omega))) ?_
           refine on_guard (guard_on 18 true 62 rfl rfl rfl) ?_
           obtain ⟨csq3019, _, hKq3019, hcq3019, hinq3019⟩ := Ft.elem HJ2950 hA3017 [] x2949 (by first | assumption | decide | omega) (by first | assumption | decide | omega) (by decide)
           obtain ⟨Aq3019_0, cpq3019_0, rfl, HCq3019_0, HRq3019_0⟩ := slice_openF hKq3019
           replace HRq3019_0 : Ft C2954 [0] w2955 (fun w_ => Kd.bool.C w_ Aq3019_0 (rd_L20 l0_1 x2949).length (rd_L20 l0_1 x2949)) := HRq3019_0
           refine st (.slice Aq3019_0 (rd_L20 l0_1 x2949).length cpq3019_0) rfl rfl (xr_load (.pointer (some (ad3016.add ((x2949 : Int).toNat * 1)))) (.slice Aq3019_0 (rd_L20 l0_1 x2949).length cpq3019_0) rfl rfl (load_cell Tryd.underlying74 rfl (by have h_ := (hcq3019 0 _ rfl); rw [add_zero_] at h_; exact h_))) ?_
           refine on_guard (guard_on 18 true 62 rfl rfl rfl) ?_
           refine mv_ rfl ?_
           simp only [ls0, ls1]
           refine on_guard (guard_on 18 true 62 rfl rfl rfl) ?_
           obtain ⟨c3020, H⟩ := if_some H
           obtain ⟨c3021, H⟩ := if_some H
           obtain ⟨ad3022, hA3023⟩ := c_addr (Ft.now HRq3019_0) (pos_of (j := x2527) (by first | assumption | decide) (by first | assumption | omega))
           refine st (.pointer (some (ad3022.add ((x2527 : Int).toNat * 1)))) rfl rfl (xr_indexAddr _ _ _ rfl rfl rfl (index_at Tryd.underlying74 info4 hA3023 (by first | assumption | decide | omega) (by first | assumption | decide | omega))) ?_
           refine on_guard (guard_on 18 true 62 rfl rfl rfl) ?_
           refine st (.bool (rdOf false (rd_L20 l0_1 x2949) x2527)) rfl rfl (xr_load _ _ rfl rfl (load_bool Tryd.underlying4 rfl hA3023 (Ft.now HRq3019_0) (by first | assumption | decide | omega) (by first | assumption | decide | omega))) ?_
           refine on_guard (guard_on 18 true 62 rfl rfl rfl) ?_
           refine st (.bool (!(rdOf false (rd_L20 l0_1 x2949) x2527))) rfl rfl (xr_un (.bool (rdOf false (rd_L20 l0_1 x2949) x2527)) _ rfl rfl (by first | rfl | (go_simp; done) | (go_simp; rfl) | (go_simp; exact i64_w _) | (go_simp; exact i32_w _))) ?_
           refine st (.bool (!(rdOf false (rd_L20 l0_1 x2949) x2527))) rfl rfl (xr_pick true _ rfl rfl rfl) ?_
           simp only [ls0, ls1]
           refine wl_end ?_
           (try simp only [ls0, ls1])
           refine hK2967 _ _ ?_
           (try clear hK2967 K2967)
           by_cases c3024 : rdOf false (rd_L20 l0_1 x2949) x2527 = true
           ·rw [if_pos c3024] at H
            (try rw [c3024])
            (try simp only [Bool.not_true, Bool.not_false])
            refine wp_cond_false rfl ?_
            refine wp_skip ?_
            (try simp only [ls0, ls1])
            refine hK2966 _ _ ?_
            (try clear hK2966 K2966)
            refine wl_region ?_
            refine mv_ rfl ?_
            refine st (.int .i64 (wrap64 (x2949 + 1))) rfl rfl (xr_bin _ _ _ rfl rfl rfl (B.add_i64 _ _)) ?_
            refine as_ rfl ?_
            refine wl_end ?_
            (try simp only [ls0, ls1])
            exact jmpL (fun a_ h_ => ih2959 k2962 (by omega) a_ _ h_) (fun g_ => ⟨_, x2948, wrap64 (x2949 + 1), g_, rfl, HS2957, (by omega), HJ2950, HJ2951, HJ2952, HJ2953, H⟩) rfl
           rw [if_neg c3024] at H
           (try rw [(Bool.eq_false_iff.mpr c3024)])
           (try simp only [Bool.not_true, Bool.not_false])
           refine wp_cond_true rfl ?_
           refine wl_region ?_
           refine st (.bool false) rfl rfl (xr_assign _ rfl rfl) ?_
           refine wl_end ?_
           (try simp only [ls0, ls1])
           refine hK2966 _ _ ?_
           (try clear hK2966 K2966)
           refine wl_region ?_
           refine mv_ rfl ?_
           refine st (.int .i64 (wrap64 (x2949 + 1))) rfl rfl (xr_bin _ _ _ rfl rfl rfl (B.add_i64 _ _)) ?_
           refine as_ rfl ?_
           refine wl_end ?_
           (try simp only [ls0, ls1])
           exact jmpL (fun a_ h_ => ih2959 k2962 (by omega) a_ _ h_) (fun g_ => ⟨_, false, wrap64 (x2949 + 1), g_, rfl, HS2957, (by omega), HJ2950, HJ2951, HJ2952, HJ2953, H⟩) rfl
          rw [if_neg c3015] at H
          (try rw [(Bool.eq_false_iff.mpr c3015)])
          refine sk_guard (guard_off 18 true 62 rfl rfl false (by decide) rfl) rfl ?_
          refine sk_guard (guard_off 18 true 62 rfl rfl false (by decide) rfl) rfl ?_
          refine sk_guard (guard_off 18 true 62 rfl rfl false (by decide) rfl) rfl ?_
          refine sk_guard (guard_off 18 true 62 rfl rfl false (by decide) rfl) rfl ?_
          simp only [ls0, ls1]
          refine sk_guard (guard_off 18 true 62 rfl rfl false (by decide) rfl) rfl ?_
          refine sk_guard (guard_off 18 true 62 rfl rfl false (by decide) rfl) rfl ?_
          refine sk_guard (guard_off 18 true 62 rfl rfl false (by decide) rfl) rfl ?_
          refine sk_guard (guard_off 18 true 62 rfl rfl false (by decide) rfl) rfl ?_
          simp only [ls0, ls1]
          refine sk_guard (guard_off 18 true 62 rfl rfl false (by decide) rfl) rfl ?_
          refine st (.bool false) rfl rfl (xr_pick false _ rfl rfl rfl) ?_
          refine wl_end ?_
          (try simp only [ls0, ls1])
          refine hK2967 _ _ ?_
          (try clear hK2967 K2967)
          refine wp_cond_false rfl ?_
          refine wp_skip ?_
          (try simp only [ls0, ls1])
          refine hK2966 _ _ ?_
          (try clear hK2966 K2966)
          refine wl_region ?_
          refine mv_ rfl ?_
          refine st (.int .i64 (wrap64 (x2949 + 1))) rfl rfl (xr_bin _ _ _ rfl rfl rfl (B.add_i64 _ _)) ?_
          refine as_ rfl ?_
          refine wl_end ?_
          (try simp only [ls0, ls1])
          exact jmpL (fun a_ h_ => ih2959 k2962 (by omega) a_ _ h_) (fun g_ => ⟨_, x2948, wrap64 (x2949 + 1), g_, rfl, HS2957, (by omega), HJ2950, HJ2951, HJ2952, HJ2953, H⟩) rfl
         rw [if_neg c3006] at H
         (try rw [(Bool.eq_false_iff.mpr c3006)])
         refine sk_guard (guard_off 8 true 52 rfl rfl false (by decide) rfl) rfl ?_
         refine sk_guard (guard_off 8 true 52 rfl rfl false (by decide) rfl) rfl ?_
         refine sk_guard (guard_off 8 true 52 rfl rfl false (by decide) rfl) rfl ?_
         refine sk_guard (guard_off 8 true 52 rfl rfl false (by decide) rfl) rfl ?_
         simp only [ls0, ls1]
         refine sk_guard (guard_off 8 true 52 rfl rfl false (by decide) rfl) rfl ?_
         refine sk_guard (guard_off 8 true 52 rfl rfl false (by decide) rfl) rfl ?_
         refine sk_guard (guard_off 8 true 52 rfl rfl false (by decide) rfl) rfl ?_
         refine sk_guard (guard_off 8 true 52 rfl rfl false (by decide) rfl) rfl ?_
         simp only [ls0, ls1]
         refine st (.bool false) rfl rfl (xr_pick false _ rfl rfl rfl) ?_
         refine mv_ rfl ?_
         refine sk_guard (guard_off 18 true 62 rfl rfl false (by decide) rfl) rfl ?_
         refine sk_guard (guard_off 18 true 62 rfl rfl false (by decide) rfl) rfl ?_
         simp only [ls0, ls1]
         refine sk_guard (guard_off 18 true 62 rfl rfl false (by decide) rfl) rfl ?_
         refine sk_guard (guard_off 18 true 62 rfl rfl false (by decide) rfl) rfl ?_
         refine sk_guard (guard_off 18 true 62 rfl rfl false (by decide) rfl) rfl ?_
         refine sk_guard (guard_off 18 true 62 rfl rfl false (by decide) rfl) rfl ?_
         simp only [ls0, ls1]
         refine sk_guard (guard_off 18 true 62 rfl rfl false (by decide) rfl) rfl ?_
         refine sk_guard (guard_off 18 true 62 rfl rfl false (by decide) rfl) rfl ?_
         refine sk_guard (guard_off 18 true 62 rfl rfl false (by decide) rfl) rfl ?_
         refine st (.bool false) rfl rfl (xr_pick false _ rfl rfl rfl) ?_
         simp only [ls0, ls1]
         refine wl_end ?_
         (try simp only [ls0, ls1])
         refine hK2967 _ _ ?_
         (try clear hK2967 K2967)
         refine wp_cond_false rfl ?_
         refine wp_skip ?_
         (try simp only [ls0, ls1])
         refine hK2966 _ _ ?_
         (try clear hK2966 K2966)
         refine wl_region ?_
         refine mv_ rfl ?_
         refine st (.int .i64 (wrap64 (x2949 + 1))) rfl rfl (xr_bin _ _ _ rfl rfl rfl (B.add_i64 _ _)) ?_
         refine as_ rfl ?_
         refine wl_end ?_
         (try simp only [ls0, ls1])
         exact jmpL (fun a_ h_ => ih2959 k2962 (by omega) a_ _ h_) (fun g_ => ⟨_, x2948, wrap64 (x2949 + 1), g_, rfl, HS2957, (by omega), HJ2950, HJ2951, HJ2952, HJ2953, H⟩) rfl
        rw [if_neg c2965] at H
        (try rw [(decide_eq_false c2965)])
        refine wp_cond_false rfl ?_
        refine wp_exit ?_
        (try simp only [ls0, ls1])
        refine hK2626 _ _ ?_
        (try clear hK2626 K2626)
        refine wp_seq_k fun K3025 hK3025 => ?_
        refine wl_region ?_
        refine mv_ rfl ?_
        refine wl_end ?_
        (try simp only [ls0, ls1])
        refine hK3025 _ _ ?_
        (try clear hK3025 K3025)
        by_cases c3026 : x2948 = true
        ·rw [if_pos c3026] at H
         (try rw [c3026])
         refine wp_cond_true rfl ?_
         refine wp_seq_k fun K3027 hK3027 => ?_
         refine wl_region ?_
         refine mv_ rfl ?_
         refine as_ rfl ?_
         refine wl_end ?_
         (try simp only [ls0, ls1])
         refine hK3027 _ _ ?_
         (try clear hK3027 K3027)
         refine wp_ret ?_
         (try simp only [Exit.inBlock, Exit.then, Exit.noGoto])
         (try simp only [ls0, ls1])
         obtain rfl := Option.some.inj H
         refine bodyPost_ret (results_tmp rfl _ _ _) rfl ?_
         exact ⟨_, rfl, HS2957⟩
        rw [if_neg c3026] at H
        (try rw [(Bool.eq_false_iff.mpr c3026)])
        refine wp_cond_false rfl ?_
        refine wp_skip ?_
        (try simp only [ls0, ls1])
        refine hK2543 _ _ ?_
        (try clear hK2543 K2543)
        refine wl_region ?_
        refine mv_ rfl ?_
        refine st (.int .i64 (wrap64 (x2527 + 1))) rfl rfl (xr_bin _ _ _ rfl rfl rfl (B.add_i64 _ _)) ?_
        refine as_ rfl ?_
        refine wl_end ?_
        (try simp only [ls0, ls1])
        exact jmpL (fun a_ h_ => ih2536 k2962 (by omega) a_ _ h_) (fun g_ => ⟨_, wrap64 (x2527 + 1), g_, rfl, HS2957, (by omega), HJ2952, HJ2950, HJ2953, H⟩) rfl
     rw [if_neg c2624] at H
     (try rw [(Bool.eq_false_iff.mpr c2624)])
     (try simp only [Bool.not_true, Bool.not_false])
     refine wp_cond_true rfl ?_
     refine wp_exit ?_
     (try simp only [ls0, ls1])
     refine hK2543 _ _ ?_
     (try clear hK2543 K2543)
     refine wl_region ?_
     refine mv_ rfl ?_
     refine st (.int .i64 (wrap64 (x2527 + 1))) rfl rfl (xr_bin _ _ _ rfl rfl rfl (B.add_i64 _ _)) ?_
     refine as_ rfl ?_
     refine wl_end ?_
     (try simp only [ls0, ls1])
     exact jmpL (fun a_ h_ => ih2536 k2539 (by omega) a_ _ h_) (fun g_ => ⟨_, wrap64 (x2527 + 1), g_, rfl, HS2534, (by omega), HJ2528, HJ2529, HJ2530, H⟩) rfl
    rw [if_neg c2615] at H
    (try rw [(Bool.eq_false_iff.mpr c2615)])
    (try simp only [Bool.not_true, Bool.not_false])
    refine sk_guard (guard_off 9 false 26 rfl rfl true (by decide) rfl) rfl ?_
    refine sk_guard (guard_off 9 false 26 rfl rfl true (by decide) rfl) rfl ?_
    refine sk_guard (guard_off 9 false 26 rfl rfl true (by decide) rfl) rfl ?_
    refine sk_guard (guard_off 9 false 26 rfl rfl true (by decide) rfl) rfl ?_
    simp only [ls0, ls1]
    refine sk_guard (guard_off 9 false 26 rfl rfl true (by decide) rfl) rfl ?_
    refine sk_guard (guard_off 9 false 26 rfl rfl true (by decide) rfl) rfl ?_
    refine sk_guard (guard_off 9 false 26 rfl rfl true (by decide) rfl) rfl ?_
    refine sk_guard (guard_off 9 false 26 rfl rfl true (by decide) rfl) rfl ?_
    simp only [ls0, ls1]
    refine sk_guard (guard_off 9 false 26 rfl rfl true (by decide) rfl) rfl ?_
    refine st (.bool true) rfl rfl (xr_pick true _ rfl rfl rfl) ?_
    refine wl_end ?_
    (try simp only [ls0, ls1])
    refine hK2585 _ _ ?_
    (try clear hK2585 K2585)
    refine wp_cond_true rfl ?_
    refine wp_exit ?_
    (try simp only [ls0, ls1])
    refine hK2543 _ _ ?_
    (try clear hK2543 K2543)
    refine wl_region ?_
    refine mv_ rfl ?_
    refine st (.int .i64 (wrap64 (x2527 + 1))) rfl rfl (xr_bin _ _ _ rfl rfl rfl (B.add_i64 _ _)) ?_
    refine as_ rfl ?_
    refine wl_end ?_
    (try simp only [ls0, ls1])
    exact jmpL (fun a_ h_ => ih2536 k2539 (by omega) a_ _ h_) (fun g_ => ⟨_, wrap64 (x2527 + 1), g_, rfl, HS2534, (by omega), HJ2528, HJ2529, HJ2530, H⟩) rfl
   rw [if_neg c2542] at H
   (try rw [(decide_eq_false c2542)])
   refine wp_cond_false rfl ?_
   refine wp_exit ?_
   (try simp only [ls0, ls1])
   refine hK1521 _ _ ?_
   (try clear hK1521 K1521)
   refine wp_seq_k fun K3028 hK3028 => ?_
   refine wl_region ?_
   refine st (.int .i64 (-1)) rfl rfl (xr_assign _ rfl rfl) ?_
   refine wl_end ?_
   (try simp only [ls0, ls1])
   refine hK3028 _ _ ?_
   (try clear hK3028 K3028)
   refine wp_ret ?_
   (try simp only [Exit.inBlock, Exit.then, Exit.noGoto])
   (try simp only [ls0, ls1])
   obtain rfl := Option.some.inj H
   refine bodyPost_ret (results_tmp rfl _ _ _) rfl ?_
   exact ⟨_, rfl, HS2534⟩

end Go.Proofs.YtpfepkkpbampkaaDoor.PLnw
