-- By cprint.py, a program of this work. Lean checks it.
import Derived.Test.YtpfepkkpbampkaaPOrdx0
import Derived.Test.YtpfepkkpbampkaaPOrdx1
import Derived.Test.YtpfepkkpbampkaaPOrdx4
import Derived.Test.YtpfepkkpbampkaaPOrdx7
namespace Go.Proofs.Ytpfepkkpbampkaa.POrd
open Go.RowKit Go.Proofs.YtpfepkkpbampkaaW.PrintWords Go.Proofs.YtpfepkkpbampkaaW.PrintLast Go.Proofs.YtpfepkkpbampkaaW.PrintMore
set_option linter.unusedVariables false
set_option linter.unusedSimpArgs false

/-! ### order_Order_Sorted: function 15 -/
mutual
def order_Order_Sorted.j0 : Nat → Int → Int → (Option S47) → (List Int) → Int → Int → Bool → Option (List Int)
  | 0, _, _, _, _, _, _, _ => none
  | k + 1, t11526, t11663, x0, x11498, x11504, x11646, x11684 => if x11684 = true then (if x11498.length < 17592186044416 then ((some (x11498 ++ [x11646] : List Int)).bind fun y11692 => (order_Order_Sorted.l1 k x0 y11692 (Go.bits .or .u64 x11504 (Go.bits .andNot .u64 t11663 x11504)))) else (none)) else (order_Order_Sorted.l0 k t11526 x0 x11498 x11504 (wrap64 (x11646 + 1)))
def order_Order_Sorted.l0 : Nat → Int → (Option S47) → (List Int) → Int → Int → Option (List Int)
  | 0, _, _, _, _, _ => none
  | k + 1, t11526, x0, x11498, x11504, x11646 => if x11646 < t11526 then ((order_Order_Below.f x0 x11646).bind fun t11663 => ((bits_OnesCount64.f (Go.bits .andNot .u64 t11663 x11504)).bind fun t11702 => (if t11702 = 1 then (if 0 ≤ (IntKind.u64.wrap (x11646)) then (order_Order_Sorted.j0 k t11526 t11663 x0 x11498 x11504 x11646 (decide ((Go.bits .and .u64 (shr .u64 (Go.bits .andNot .u64 t11663 x11504) (IntKind.u64.wrap (x11646))) 1) = 1))) else (none)) else (order_Order_Sorted.j0 k t11526 t11663 x0 x11498 x11504 x11646 false)))) else (some x11498)
def order_Order_Sorted.l1 : Nat → (Option S47) → (List Int) → Int → Option (List Int)
  | 0, _, _, _ => none
  | k + 1, x0, x11498, x11504 => (order_Order_Len.f x0).bind fun t11517 => (if (x11498.length : Int) < t11517 then ((order_Order_Len.f x0).bind fun t11526 => (order_Order_Sorted.l0 k t11526 x0 x11498 x11504 0)) else (some x11498))
end
def order_Order_Sorted.f (k : Nat) (x0 : Option S47) : Option (List Int) := order_Order_Sorted.l1 k x0 ([] : List Int) 0

set_option maxHeartbeats 2000000 in
set_option maxRecDepth 100000 in
theorem order_Order_Sorted.calls (k : Nat) (v0 : Value) (x0 : Option S47) (r : List Int) (c : Nat → Nat) (w : World) (hc : ∀ k, c k < 10) (HP0 : Ft c [0] w (fun w_ => (Kd.ptr 47 k47).K w_ x0 [v0])) (H : order_Order_Sorted.f k x0 = some r) :
    Calls Try.prog 15 #[v0] w fun e w' => ∃ (c' : Nat → Nat) (A_r : Option Addr) (c_r : Nat), e = .returned (.slice A_r r.length c_r) ∧ Step c w c' w' [] ∧ Own c' 5 w' (Kd.int .i64) 3 (.slice A_r r.length c_r) r ∧ r.length ≤ c_r := by
  unfold order_Order_Sorted.f at H
  have HS := Step.refl c w []
  go_enter Try.func15, Try.ntmps15
  refine wp_seq_k fun K11066 hK11066 => ?_
  refine wl_region ?_
  refine st (.slice none 0 0) rfl rfl (xr_assign (.slice none 0 0) rfl rfl) ?_
  simp only [ls0, ls1]
  refine wl_end ?_
  (try simp only [Act.put, List.setIfInBounds_toArray, ls0, ls1])
  refine hK11066 _ _ ?_
  (try clear hK11066 K11066)
  refine wp_scope_straight ?_
  refine wp_seq_k fun K11067 hK11067 => ?_
  refine wl_region ?_
  refine st (.slice none 0 0) rfl rfl (xr_assign (.slice none 0 0) rfl rfl) ?_
  simp only [ls0, ls1]
  refine wl_end ?_
  (try simp only [Act.put, List.setIfInBounds_toArray, ls0, ls1])
  refine hK11067 _ _ ?_
  (try clear hK11067 K11067)
  refine wp_seq_k fun K11068 hK11068 => ?_
  refine wl_region ?_
  refine st (.int .u64 0) rfl rfl (xr_assign (.int .u64 0) rfl rfl) ?_
  simp only [ls0, ls1]
  refine wl_end ?_
  (try simp only [Act.put, List.setIfInBounds_toArray, ls0, ls1])
  refine hK11068 _ _ ?_
  (try clear hK11068 K11068)
  refine wp_seq_k fun K11069 hK11069 => ?_
  refine wp_label ?_
  (try simp only [Act.put, List.setIfInBounds_toArray, ls0, ls1])
  refine hK11069 _ _ ?_
  (try clear hK11069 K11069)
  refine wp_seq_k fun K11070 hK11070 => ?_
  refine wp_block ?_
  (try simp only [Act.put, List.setIfInBounds_toArray, ls0, ls1])
  refine wp_looped (looped_ind (fun kq11508 a_ w11507 => ∃ (C11506 : Nat → Nat) (x11504 : Int) (A11499 : Option Addr) (n11500 cp11501 : Nat) (x11498 : List Int) (g11505 : Nat → Value), a_ = ⟨#[v0, (g11505 1), (g11505 2), .slice A11499 n11500 cp11501, .int .u64 x11504, (g11505 5), (g11505 6), (g11505 7), (g11505 8), (g11505 9), (g11505 10), (g11505 11), (g11505 12), (g11505 13), (g11505 14), (g11505 15), (g11505 16), (g11505 17), (g11505 18), (g11505 19), (g11505 20), (g11505 21), (g11505 22), (g11505 23), (g11505 24), (g11505 25), (g11505 26), (g11505 27), (g11505 28), (g11505 29), (g11505 30), (g11505 31), (g11505 32), (g11505 33), (g11505 34), (g11505 35), (g11505 36), (g11505 37), (g11505 38), (g11505 39), (g11505 40), (g11505 41)], []⟩ ∧ Step c w C11506 w11507 [] ∧ kq11508 ≤ k ∧ (Ft C11506 [0] w11507 (fun w_ => (Kd.ptr 47 k47).K w_ x0 [v0])) ∧ (Own C11506 11 w11507 (Kd.int .i64) 3 (.slice A11499 n11500 cp11501) x11498) ∧ (n11500 ≤ cp11501) ∧ order_Order_Sorted.l1 kq11508 x0 x11498 x11504 = some r) ?step k _ _ ?init)
  case init =>
    exact ⟨_, 0, none, 0, 0, ([] : List Int), (fun q_ => List.getD [undef, undef, .slice none 0 0, undef, undef, undef, undef, undef, undef, undef, undef, undef, undef, undef, undef, undef, undef, undef, undef, undef, undef, undef, undef, undef, undef, undef, undef, undef, undef, undef, undef, undef, undef, undef, undef, undef, undef, undef, undef, undef, undef, undef] q_ undef), rfl, HS, Nat.le_refl _, HP0, (Own.nil _ _ _ _ _), (Nat.le_refl 0), H⟩
  case step =>
    intro kq11508 ih11511 a11512 w11507 hr11513
    obtain ⟨C11506, x11504, A11499, n11500, cp11501, x11498, g11505, rfl, HS11509, hk11510, HJ11497, HJ11503, HC11502, H⟩ := hr11513
    refine looped_round ?_
    obtain rfl : n11500 = x11498.length := HJ11503.at_.1
    cases kq11508 with
    | zero => exact absurd H (by simp [order_Order_Sorted.l1])
    | succ k11514 =>
      simp only [order_Order_Sorted.l1] at H
      refine wp_seq_k fun K11515 hK11515 => ?_
      refine wp_seq_k fun K11516 hK11516 => ?_
      refine wl_region ?_
      refine st (.slice A11499 x11498.length cp11501) rfl rfl (xr_move (.slice A11499 x11498.length cp11501) rfl rfl) ?_
      simp only [ls0, ls1]
      refine st (.int .i64 (x11498.length : Int)) rfl rfl (xr_builtin #[.slice A11499 x11498.length cp11501] (.int .i64 (x11498.length : Int)) rfl (by simp only [List.map_toArray, List.map_cons, List.map_nil]; first | done | rfl) (by first | rfl | (go_simp; done) | (go_simp; rfl) | (go_simp; exact i64_w _) | (go_simp; exact i32_w _))) ?_
      simp only [ls0, ls1]
      refine st (v0) rfl rfl (xr_move (v0) rfl rfl) ?_
      simp only [ls0, ls1]
      obtain ⟨t11517, A11518, H⟩ := Option.bind_eq_some_iff.mp H
      (try dsimp only at H)
      refine st_call #[v0] rfl rfl Try.func10 (by kernel_rfl) rfl rfl (by simp only [List.map_toArray, List.map_cons, List.map_nil]; first | done | rfl) ?_
      refine (order_Order_Len.calls v0 x0 t11517  (fun z_ => pal [(0, 0)] (C11506 z_)) w11507 (fun _ => pal_lt rfl _) (Ft.arg HJ11497 rfl) A11518).mono ?_
      rintro _ w11520 ⟨C11521, rfl, hs11522⟩
      refine ⟨_, rfl, ?_⟩
      replace hs11522 := Step.lift (U := [(0, 0)]) hs11522 [] rfl rfl
      generalize up C11506 C11521 w11507.heap.size [(0, 0)] = C11521_ at hs11522
      replace HJ11497 := HJ11497.thru hs11522 rfl
      replace HJ11503 := HJ11503.thru hs11522 rfl
      replace HS11509 := HS11509.trans hs11522 hc rfl
      (try simp only [Act.put, List.setIfInBounds_toArray, ls0, ls1])
      refine st (.bool (decide ((x11498.length : Int) < t11517))) rfl rfl (xr_bin (.int .i64 (x11498.length : Int)) (.int .i64 t11517) (.bool (decide ((x11498.length : Int) < t11517))) rfl rfl rfl (B.lss_i64 (x11498.length : Int) t11517)) ?_
      simp only [ls0, ls1]
      refine wl_end ?_
      (try simp only [Act.put, List.setIfInBounds_toArray, ls0, ls1])
      refine hK11516 _ _ ?_
      (try clear hK11516 K11516)
      by_cases c11523 : (x11498.length : Int) < t11517
      · rw [if_pos c11523] at H
        (try rw [(decide_eq_true c11523)])
        (try simp only [Bool.not_true, Bool.not_false])
        refine wp_cond_true rfl ?_
        refine wp_skip ?_
        (try simp only [Act.put, List.setIfInBounds_toArray, ls0, ls1])
        refine hK11515 _ _ ?_
        (try clear hK11515 K11515)
        refine wp_block ?_
        refine wp_seq_k fun K11524 hK11524 => ?_
        refine wp_seq_k fun K11525 hK11525 => ?_
        refine wl_region ?_
        refine st (v0) rfl rfl (xr_move (v0) rfl rfl) ?_
        simp only [ls0, ls1]
        obtain ⟨t11526, A11527, H⟩ := Option.bind_eq_some_iff.mp H
        (try dsimp only at H)
        refine st_call #[v0] rfl rfl Try.func10 (by kernel_rfl) rfl rfl (by simp only [List.map_toArray, List.map_cons, List.map_nil]; first | done | rfl) ?_
        refine (order_Order_Len.calls v0 x0 t11526  (fun z_ => pal [(0, 0)] (C11521_ z_)) w11520 (fun _ => pal_lt rfl _) (Ft.arg HJ11497 rfl) A11527).mono ?_
        rintro _ w11529 ⟨C11530, rfl, hs11531⟩
        refine ⟨_, rfl, ?_⟩
        replace hs11531 := Step.lift (U := [(0, 0)]) hs11531 [] rfl rfl
        generalize up C11521_ C11530 w11520.heap.size [(0, 0)] = C11530_ at hs11531
        replace HJ11497 := HJ11497.thru hs11531 rfl
        replace HJ11503 := HJ11503.thru hs11531 rfl
        replace HS11509 := HS11509.trans hs11531 hc rfl
        (try simp only [Act.put, List.setIfInBounds_toArray, ls0, ls1])
        refine st (.int .i64 0) rfl rfl (xr_move (.int .i64 0) rfl rfl) ?_
        simp only [ls0, ls1]
        refine wl_end ?_
        (try simp only [Act.put, List.setIfInBounds_toArray, ls0, ls1])
        refine hK11525 _ _ ?_
        (try clear hK11525 K11525)
        refine wp_block ?_
        (try simp only [Act.put, List.setIfInBounds_toArray, ls0, ls1])
        refine wp_looped (looped_ind (fun kq11650 a_ w11649 => ∃ (C11648 : Nat → Nat) (x11646 : Int) (g11647 : Nat → Value), a_ = ⟨#[v0, (g11647 1), (g11647 2), .slice A11499 x11498.length cp11501, .int .u64 x11504, (g11647 5), (g11647 6), (g11647 7), (g11647 8), (g11647 9), (g11647 10), (g11647 11), (g11647 12), .int .i64 t11526, .int .i64 x11646, (g11647 15), (g11647 16), (g11647 17), (g11647 18), (g11647 19), (g11647 20), (g11647 21), (g11647 22), (g11647 23), (g11647 24), (g11647 25), (g11647 26), (g11647 27), (g11647 28), (g11647 29), (g11647 30), (g11647 31), (g11647 32), (g11647 33), (g11647 34), (g11647 35), (g11647 36), (g11647 37), (g11647 38), (g11647 39), (g11647 40), (g11647 41)], []⟩ ∧ Step c w C11648 w11649 [] ∧ kq11650 ≤ k11514 ∧ (Ft C11648 [0] w11649 (fun w_ => (Kd.ptr 47 k47).K w_ x0 [v0])) ∧ (Own C11648 11 w11649 (Kd.int .i64) 3 (.slice A11499 x11498.length cp11501) x11498) ∧ order_Order_Sorted.l0 kq11650 t11526 x0 x11498 x11504 x11646 = some r) ?step k11514 _ _ ?init)
        case init =>
          exact ⟨_, 0, (fun q_ => List.getD [undef, (g11505 1), (g11505 2), undef, undef, (g11505 5), (g11505 6), .slice A11499 x11498.length cp11501, .int .i64 (x11498.length : Int), v0, .int .i64 t11517, .bool true, v0, undef, undef, (g11505 15), (g11505 16), (g11505 17), (g11505 18), (g11505 19), (g11505 20), (g11505 21), (g11505 22), (g11505 23), (g11505 24), (g11505 25), (g11505 26), (g11505 27), (g11505 28), (g11505 29), (g11505 30), (g11505 31), (g11505 32), (g11505 33), (g11505 34), (g11505 35), (g11505 36), (g11505 37), (g11505 38), (g11505 39), (g11505 40), (g11505 41)] q_ undef), rfl, HS11509, Nat.le_refl _, HJ11497, HJ11503, H⟩
        case step =>
          intro kq11650 ih11653 a11654 w11649 hr11655
          obtain ⟨C11648, x11646, g11647, rfl, HS11651, hk11652, HJ11644, HJ11645, H⟩ := hr11655
          refine looped_round ?_
          cases kq11650 with
          | zero => exact absurd H (by simp [order_Order_Sorted.l0])
          | succ k11656 =>
            simp only [order_Order_Sorted.l0] at H
            refine wp_seq_k fun K11657 hK11657 => ?_
            refine wl_region ?_
            refine st (.bool (decide (x11646 < t11526))) rfl rfl (xr_bin (.int .i64 x11646) (.int .i64 t11526) (.bool (decide (x11646 < t11526))) rfl rfl rfl (B.lss_i64 x11646 t11526)) ?_
            simp only [ls0, ls1]
            refine wl_end ?_
            (try simp only [Act.put, List.setIfInBounds_toArray, ls0, ls1])
            refine hK11657 _ _ ?_
            (try clear hK11657 K11657)
            refine wp_seq_k fun K11658 hK11658 => ?_
            by_cases c11659 : x11646 < t11526
            · rw [if_pos c11659] at H
              (try rw [(decide_eq_true c11659)])
              (try simp only [Bool.not_true, Bool.not_false])
              refine wp_cond_true rfl ?_
              refine wp_skip ?_
              (try simp only [Act.put, List.setIfInBounds_toArray, ls0, ls1])
              refine hK11658 _ _ ?_
              (try clear hK11658 K11658)
              refine wp_seq_k fun K11660 hK11660 => ?_
              refine wp_block ?_
              refine wp_seq_k fun K11661 hK11661 => ?_
              refine wl_region ?_
              refine st (.int .i64 x11646) rfl rfl (xr_move (.int .i64 x11646) rfl rfl) ?_
              simp only [ls0, ls1]
              refine st (.int .i64 x11646) rfl rfl (xr_assign (.int .i64 x11646) rfl rfl) ?_
              simp only [ls0, ls1]
              refine wl_end ?_
              (try simp only [Act.put, List.setIfInBounds_toArray, ls0, ls1])
              refine hK11661 _ _ ?_
              (try clear hK11661 K11661)
              refine wp_seq_k fun K11662 hK11662 => ?_
              refine wl_region ?_
              refine st (v0) rfl rfl (xr_move (v0) rfl rfl) ?_
              simp only [ls0, ls1]
              refine st (.int .i64 x11646) rfl rfl (xr_move (.int .i64 x11646) rfl rfl) ?_
              simp only [ls0, ls1]
              obtain ⟨t11663, A11664, H⟩ := Option.bind_eq_some_iff.mp H
              (try dsimp only at H)
              refine st_call #[v0, .int .i64 x11646] rfl rfl Try.func16 (by kernel_rfl) rfl rfl (by simp only [List.map_toArray, List.map_cons, List.map_nil]; first | done | rfl) ?_
              refine (order_Order_Below.calls v0 x0 x11646 t11663  (fun z_ => pal [(0, 0)] (C11648 z_)) w11649 (fun _ => pal_lt rfl _) (Ft.arg HJ11644 rfl) A11664).mono ?_
              rintro _ w11666 ⟨C11667, rfl, hs11668⟩
              refine ⟨_, rfl, ?_⟩
              replace hs11668 := Step.lift (U := [(0, 0)]) hs11668 [] rfl rfl
              generalize up C11648 C11667 w11649.heap.size [(0, 0)] = C11667_ at hs11668
              replace HJ11644 := HJ11644.thru hs11668 rfl
              replace HJ11645 := HJ11645.thru hs11668 rfl
              replace HS11651 := HS11651.trans hs11668 hc rfl
              (try simp only [Act.put, List.setIfInBounds_toArray, ls0, ls1])
              refine st (.int .u64 x11504) rfl rfl (xr_move (.int .u64 x11504) rfl rfl) ?_
              simp only [ls0, ls1]
              refine st (.int .u64 (Go.bits .andNot .u64 t11663 x11504)) rfl rfl (xr_bin (.int .u64 t11663) (.int .u64 x11504) (.int .u64 (Go.bits .andNot .u64 t11663 x11504)) rfl rfl rfl (B.andNot_u64 t11663 x11504)) ?_
              simp only [ls0, ls1]
              refine st (.int .u64 (Go.bits .andNot .u64 t11663 x11504)) rfl rfl (xr_assign (.int .u64 (Go.bits .andNot .u64 t11663 x11504)) rfl rfl) ?_
              simp only [ls0, ls1]
              refine wl_end ?_
              (try simp only [Act.put, List.setIfInBounds_toArray, ls0, ls1])
              refine hK11662 _ _ ?_
              (try clear hK11662 K11662)
              refine wp_seq_k fun K11669 hK11669 => ?_
              have hj11678 : ∀ (kq11686 : Nat) (C11679 : Nat → Nat) (w11680 : World) (x11684 : Bool) (g11685 : Nat → Value), Step c w C11679 w11680 [] → kq11686 ≤ k11656 → (Ft C11679 [0] w11680 (fun w_ => (Kd.ptr 47 k47).K w_ x0 [v0])) → (Own C11679 11 w11680 (Kd.int .i64) 3 (.slice A11499 x11498.length cp11501) x11498) → order_Order_Sorted.j0 kq11686 t11526 t11663 x0 x11498 x11504 x11646 x11684 = some r → K11669 ⟨#[v0, (g11685 1), (g11685 2), .slice A11499 x11498.length cp11501, .int .u64 x11504, .int .i64 x11646, .int .u64 (Go.bits .andNot .u64 t11663 x11504), (g11685 7), (g11685 8), (g11685 9), (g11685 10), (g11685 11), (g11685 12), .int .i64 t11526, .int .i64 x11646, (g11685 15), (g11685 16), (g11685 17), (g11685 18), (g11685 19), (g11685 20), (g11685 21), (g11685 22), (g11685 23), (g11685 24), (g11685 25), (g11685 26), (g11685 27), (g11685 28), (g11685 29), (g11685 30), (g11685 31), .bool x11684, (g11685 33), (g11685 34), (g11685 35), (g11685 36), (g11685 37), (g11685 38), (g11685 39), (g11685 40), (g11685 41)], []⟩ w11680 := by
                intro kq11686 C11679 w11680 x11684 g11685 HS11681 hk11687 HJ11682 HJ11683 H
                cases kq11686 with
                | zero => exact absurd H (by simp [order_Order_Sorted.j0])
                | succ k11688 =>
                  simp only [order_Order_Sorted.j0] at H
                  refine hK11669 _ _ ?_
                  (try clear hK11669)
                  by_cases c11689 : x11684 = true
                  · rw [if_pos c11689] at H
                    (try rw [c11689])
                    (try simp only [Bool.not_true, Bool.not_false])
                    refine wp_cond_true rfl ?_
                    refine wp_seq_k fun K11690 hK11690 => ?_
                    refine wl_region ?_
                    refine st (.slice A11499 x11498.length cp11501) rfl rfl (xr_move (.slice A11499 x11498.length cp11501) rfl rfl) ?_
                    simp only [ls0, ls1]
                    refine st (.int .i64 x11646) rfl rfl (xr_move (.int .i64 x11646) rfl rfl) ?_
                    simp only [ls0, ls1]
                    refine ev_run (w1 := w11680.alloc (.cells #[.int .i64 x11646] 3)) (.slice (some ⟨w11680.heap.size, 0, none⟩) 1 1) rfl rfl (by first | (go_simp; done) | (go_simp; rfl)) ?_
                    (try simp only [Act.put, List.setIfInBounds_toArray, ls0, ls1])
                    by_cases c11691 : x11498.length < 17592186044416
                    · rw [if_pos c11691] at H
                      obtain ⟨y11692, A11693, H⟩ := Option.bind_eq_some_iff.mp H
                      (try dsimp only at H)
                      refine Own.append (Kd.int .i64) (C := C11679) (i := 11) rfl (.tmp 33) (.tmp 35) 38 3 (.int .i64 0) 8 rfl Try.underlying38 info3 rfl (by decide) (by decide) (.slice A11499 x11498.length cp11501) x11498 x11646 [.int .i64 x11646] rfl rfl (fk_int .i64 _ _ x11646) HJ11683 (by decide) (by omega) (Option.some.inj A11693) ?_
                      intro A11694 cp11695 w11696 C11697 HO11698 HC11699 hs11700
                      replace HJ11682 := HJ11682.thru hs11700 rfl
                      replace HS11681 := HS11681.trans hs11700 hc rfl
                      (try simp only [Act.put, List.setIfInBounds_toArray, ls0, ls1])
                      refine st (.slice A11694 y11692.length cp11695) rfl rfl (xr_assign (.slice A11694 y11692.length cp11695) rfl rfl) ?_
                      simp only [ls0, ls1]
                      refine wl_end ?_
                      (try simp only [Act.put, List.setIfInBounds_toArray, ls0, ls1])
                      refine hK11690 _ _ ?_
                      (try clear hK11690 K11690)
                      refine wp_seq_k fun K11701 hK11701 => ?_
                      refine wl_region ?_
                      refine st (.int .u64 x11504) rfl rfl (xr_move (.int .u64 x11504) rfl rfl) ?_
                      simp only [ls0, ls1]
                      refine st (.int .u64 (Go.bits .andNot .u64 t11663 x11504)) rfl rfl (xr_move (.int .u64 (Go.bits .andNot .u64 t11663 x11504)) rfl rfl) ?_
                      simp only [ls0, ls1]
                      refine st (.int .u64 (Go.bits .or .u64 x11504 (Go.bits .andNot .u64 t11663 x11504))) rfl rfl (xr_bin (.int .u64 x11504) (.int .u64 (Go.bits .andNot .u64 t11663 x11504)) (.int .u64 (Go.bits .or .u64 x11504 (Go.bits .andNot .u64 t11663 x11504))) rfl rfl rfl (B.or_u64 x11504 (Go.bits .andNot .u64 t11663 x11504))) ?_
                      simp only [ls0, ls1]
                      refine st (.int .u64 (Go.bits .or .u64 x11504 (Go.bits .andNot .u64 t11663 x11504))) rfl rfl (xr_assign (.int .u64 (Go.bits .or .u64 x11504 (Go.bits .andNot .u64 t11663 x11504))) rfl rfl) ?_
                      simp only [ls0, ls1]
                      refine wl_end ?_
                      (try simp only [Act.put, List.setIfInBounds_toArray, ls0, ls1])
                      refine hK11701 _ _ ?_
                      (try clear hK11701 K11701)
                      refine wp_exit ?_
                      (try simp only [Act.put, List.setIfInBounds_toArray, ls0, ls1])
                      exact ih11511 k11688 (by omega) _ _ ⟨_, Go.bits .or .u64 x11504 (Go.bits .andNot .u64 t11663 x11504), A11694, y11692.length, cp11695, y11692, (fun q_ => List.getD [undef, (g11685 1), (g11685 2), undef, undef, .int .i64 x11646, .int .u64 (Go.bits .andNot .u64 t11663 x11504), (g11685 7), (g11685 8), (g11685 9), (g11685 10), (g11685 11), (g11685 12), .int .i64 t11526, .int .i64 x11646, (g11685 15), (g11685 16), (g11685 17), (g11685 18), (g11685 19), (g11685 20), (g11685 21), (g11685 22), (g11685 23), (g11685 24), (g11685 25), (g11685 26), (g11685 27), (g11685 28), (g11685 29), (g11685 30), (g11685 31), .bool true, .slice A11499 x11498.length cp11501, .int .i64 x11646, .slice (some ⟨w11680.heap.size, 0, none⟩) 1 1, .slice A11694 y11692.length cp11695, .int .u64 x11504, .int .u64 (Go.bits .andNot .u64 t11663 x11504), .int .u64 (Go.bits .or .u64 x11504 (Go.bits .andNot .u64 t11663 x11504)), (g11685 40), (g11685 41)] q_ undef), rfl, HS11681, (by omega), HJ11682, HO11698, HC11699, H⟩
                    · rw [if_neg c11691] at H
                      exact absurd H (by simp)
                  · rw [if_neg c11689] at H
                    (try rw [(Bool.eq_false_iff.mpr c11689)])
                    (try simp only [Bool.not_true, Bool.not_false])
                    refine wp_cond_false rfl ?_
                    refine wp_skip ?_
                    (try simp only [Act.put, List.setIfInBounds_toArray, ls0, ls1])
                    refine hK11660 _ _ ?_
                    (try clear hK11660 K11660)
                    refine wl_region ?_
                    refine st (.int .i64 (wrap64 (x11646 + 1))) rfl rfl (xr_bin (.int .i64 x11646) (.int .i64 1) (.int .i64 (wrap64 (x11646 + 1))) rfl rfl rfl (B.add_i64 x11646 1)) ?_
                    simp only [ls0, ls1]
                    refine st (.int .i64 (wrap64 (x11646 + 1))) rfl rfl (xr_move (.int .i64 (wrap64 (x11646 + 1))) rfl rfl) ?_
                    simp only [ls0, ls1]
                    refine wl_end ?_
                    (try simp only [Act.put, List.setIfInBounds_toArray, ls0, ls1])
                    exact ih11653 k11688 (by omega) _ _ ⟨_, wrap64 (x11646 + 1), (fun q_ => List.getD [undef, (g11685 1), (g11685 2), undef, undef, .int .i64 x11646, .int .u64 (Go.bits .andNot .u64 t11663 x11504), (g11685 7), (g11685 8), (g11685 9), (g11685 10), (g11685 11), (g11685 12), undef, undef, (g11685 15), (g11685 16), (g11685 17), (g11685 18), (g11685 19), (g11685 20), (g11685 21), (g11685 22), (g11685 23), (g11685 24), (g11685 25), (g11685 26), (g11685 27), (g11685 28), (g11685 29), (g11685 30), (g11685 31), .bool false, (g11685 33), (g11685 34), (g11685 35), (g11685 36), (g11685 37), (g11685 38), (g11685 39), .int .i64 (wrap64 (x11646 + 1)), (g11685 41)] q_ undef), rfl, HS11681, (by omega), HJ11682, HJ11683, H⟩
              refine wl_region ?_
              refine st (.int .u64 (Go.bits .andNot .u64 t11663 x11504)) rfl rfl (xr_move (.int .u64 (Go.bits .andNot .u64 t11663 x11504)) rfl rfl) ?_
              simp only [ls0, ls1]
              obtain ⟨t11702, A11703, H⟩ := Option.bind_eq_some_iff.mp H
              (try dsimp only at H)
              refine st_call #[.int .u64 (Go.bits .andNot .u64 t11663 x11504)] rfl rfl Try.func21 (by kernel_rfl) rfl rfl (by simp only [List.map_toArray, List.map_cons, List.map_nil]; first | done | rfl) ?_
              refine (bits_OnesCount64.calls (Go.bits .andNot .u64 t11663 x11504) t11702  (fun z_ => pal [(0, 0)] (C11667_ z_)) w11666 (fun _ => pal_lt rfl _) A11703).mono ?_
              rintro _ w11705 ⟨C11706, rfl, hs11707⟩
              refine ⟨_, rfl, ?_⟩
              replace hs11707 := Step.lift (U := [(0, 0)]) hs11707 [] rfl rfl
              generalize up C11667_ C11706 w11666.heap.size [(0, 0)] = C11706_ at hs11707
              replace HJ11644 := HJ11644.thru hs11707 rfl
              replace HJ11645 := HJ11645.thru hs11707 rfl
              replace HS11651 := HS11651.trans hs11707 hc rfl
              (try simp only [Act.put, List.setIfInBounds_toArray, ls0, ls1])
              refine st (.bool (decide (t11702 = 1))) rfl rfl (xr_bin (.int .i64 t11702) (.int .i64 1) (.bool (decide (t11702 = 1))) rfl rfl rfl (B.eql_i64 t11702 1)) ?_
              simp only [ls0, ls1]
              refine st (.bool (decide (t11702 = 1))) rfl rfl (xr_move (.bool (decide (t11702 = 1))) rfl rfl) ?_
              simp only [ls0, ls1]
              by_cases c11708 : t11702 = 1
              · rw [if_pos c11708] at H
                (try rw [(decide_eq_true c11708)])
                (try simp only [Bool.not_true, Bool.not_false])
                refine on_guard (guard_on 3 true 25 rfl rfl rfl) ?_
                refine st (.int .u64 (Go.bits .andNot .u64 t11663 x11504)) rfl rfl (xr_move (.int .u64 (Go.bits .andNot .u64 t11663 x11504)) rfl rfl) ?_
                simp only [ls0, ls1]
                refine on_guard (guard_on 3 true 25 rfl rfl rfl) ?_
                refine st (.int .i64 x11646) rfl rfl (xr_move (.int .i64 x11646) rfl rfl) ?_
                simp only [ls0, ls1]
                refine on_guard (guard_on 3 true 25 rfl rfl rfl) ?_
                refine st (.int .u64 (IntKind.u64.wrap (x11646))) rfl rfl (xr_conv (.int .i64 x11646) (.int .u64 (IntKind.u64.wrap (x11646))) rfl rfl (by first | rfl | (go_simp; done) | (go_simp; rfl) | (go_simp; exact i64_w _) | (go_simp; exact i32_w _))) ?_
                simp only [ls0, ls1]
                refine on_guard (guard_on 3 true 25 rfl rfl rfl) ?_
                by_cases c11709 : 0 ≤ (IntKind.u64.wrap (x11646))
                · rw [if_pos c11709] at H
                  refine st (.int .u64 (shr .u64 (Go.bits .andNot .u64 t11663 x11504) (IntKind.u64.wrap (x11646)))) rfl rfl (xr_bin (.int .u64 (Go.bits .andNot .u64 t11663 x11504)) (.int .u64 (IntKind.u64.wrap (x11646))) (.int .u64 (shr .u64 (Go.bits .andNot .u64 t11663 x11504) (IntKind.u64.wrap (x11646)))) rfl rfl rfl (B.shr_u64_u64 (Go.bits .andNot .u64 t11663 x11504) (IntKind.u64.wrap (x11646)) (by assumption))) ?_
                  simp only [ls0, ls1]
                  refine on_guard (guard_on 3 true 25 rfl rfl rfl) ?_
                  refine st (.int .u64 (Go.bits .and .u64 (shr .u64 (Go.bits .andNot .u64 t11663 x11504) (IntKind.u64.wrap (x11646))) 1)) rfl rfl (xr_bin (.int .u64 (shr .u64 (Go.bits .andNot .u64 t11663 x11504) (IntKind.u64.wrap (x11646)))) (.int .u64 1) (.int .u64 (Go.bits .and .u64 (shr .u64 (Go.bits .andNot .u64 t11663 x11504) (IntKind.u64.wrap (x11646))) 1)) rfl rfl rfl (B.and_u64 (shr .u64 (Go.bits .andNot .u64 t11663 x11504) (IntKind.u64.wrap (x11646))) 1)) ?_
                  simp only [ls0, ls1]
                  refine on_guard (guard_on 3 true 25 rfl rfl rfl) ?_
                  refine st (.bool (decide ((Go.bits .and .u64 (shr .u64 (Go.bits .andNot .u64 t11663 x11504) (IntKind.u64.wrap (x11646))) 1) = 1))) rfl rfl (xr_bin (.int .u64 (Go.bits .and .u64 (shr .u64 (Go.bits .andNot .u64 t11663 x11504) (IntKind.u64.wrap (x11646))) 1)) (.int .u64 1) (.bool (decide ((Go.bits .and .u64 (shr .u64 (Go.bits .andNot .u64 t11663 x11504) (IntKind.u64.wrap (x11646))) 1) = 1))) rfl rfl rfl (B.eql_u64 (Go.bits .and .u64 (shr .u64 (Go.bits .andNot .u64 t11663 x11504) (IntKind.u64.wrap (x11646))) 1) 1)) ?_
                  simp only [ls0, ls1]
                  refine st (.bool (decide ((Go.bits .and .u64 (shr .u64 (Go.bits .andNot .u64 t11663 x11504) (IntKind.u64.wrap (x11646))) 1) = 1))) rfl rfl (xr_pick true (.bool (decide ((Go.bits .and .u64 (shr .u64 (Go.bits .andNot .u64 t11663 x11504) (IntKind.u64.wrap (x11646))) 1) = 1))) rfl rfl rfl) ?_
                  simp only [ls0, ls1]
                  refine wl_end ?_
                  (try simp only [Act.put, List.setIfInBounds_toArray, ls0, ls1])
                  exact hj11678 _ _ _ (decide ((Go.bits .and .u64 (shr .u64 (Go.bits .andNot .u64 t11663 x11504) (IntKind.u64.wrap (x11646))) 1) = 1)) (fun q_ => List.getD [undef, (g11647 1), (g11647 2), undef, undef, undef, undef, (g11647 7), (g11647 8), (g11647 9), (g11647 10), (g11647 11), (g11647 12), undef, undef, .bool true, .int .i64 x11646, v0, .int .i64 x11646, .int .u64 t11663, .int .u64 x11504, .int .u64 (Go.bits .andNot .u64 t11663 x11504), .int .u64 (Go.bits .andNot .u64 t11663 x11504), .int .i64 t11702, .bool true, .bool true, .int .u64 (Go.bits .andNot .u64 t11663 x11504), .int .i64 x11646, .int .u64 (IntKind.u64.wrap (x11646)), .int .u64 (shr .u64 (Go.bits .andNot .u64 t11663 x11504) (IntKind.u64.wrap (x11646))), .int .u64 (Go.bits .and .u64 (shr .u64 (Go.bits .andNot .u64 t11663 x11504) (IntKind.u64.wrap (x11646))) 1), .bool (decide ((Go.bits .and .u64 (shr .u64 (Go.bits .andNot .u64 t11663 x11504) (IntKind.u64.wrap (x11646))) 1) = 1)), undef, (g11647 33), (g11647 34), (g11647 35), (g11647 36), (g11647 37), (g11647 38), (g11647 39), (g11647 40), (g11647 41)] q_ undef)  HS11651 (by omega) HJ11644 HJ11645 H
                · rw [if_neg c11709] at H
                  exact absurd H (by simp)
              · rw [if_neg c11708] at H
                (try rw [(decide_eq_false c11708)])
                (try simp only [Bool.not_true, Bool.not_false])
                refine sk_guard (guard_off 3 true 25 rfl rfl false (by decide) rfl) rfl ?_
                simp only [ls0, ls1]
                refine sk_guard (guard_off 3 true 25 rfl rfl false (by decide) rfl) rfl ?_
                simp only [ls0, ls1]
                refine sk_guard (guard_off 3 true 25 rfl rfl false (by decide) rfl) rfl ?_
                simp only [ls0, ls1]
                refine sk_guard (guard_off 3 true 25 rfl rfl false (by decide) rfl) rfl ?_
                simp only [ls0, ls1]
                refine sk_guard (guard_off 3 true 25 rfl rfl false (by decide) rfl) rfl ?_
                simp only [ls0, ls1]
                refine sk_guard (guard_off 3 true 25 rfl rfl false (by decide) rfl) rfl ?_
                simp only [ls0, ls1]
                refine st (.bool false) rfl rfl (xr_pick false (.bool false) rfl rfl rfl) ?_
                simp only [ls0, ls1]
                refine wl_end ?_
                (try simp only [Act.put, List.setIfInBounds_toArray, ls0, ls1])
                exact hj11678 _ _ _ (false) (fun q_ => List.getD [undef, (g11647 1), (g11647 2), undef, undef, undef, undef, (g11647 7), (g11647 8), (g11647 9), (g11647 10), (g11647 11), (g11647 12), undef, undef, .bool true, .int .i64 x11646, v0, .int .i64 x11646, .int .u64 t11663, .int .u64 x11504, .int .u64 (Go.bits .andNot .u64 t11663 x11504), .int .u64 (Go.bits .andNot .u64 t11663 x11504), .int .i64 t11702, .bool false, .bool false, undef, undef, undef, undef, undef, undef, undef, (g11647 33), (g11647 34), (g11647 35), (g11647 36), (g11647 37), (g11647 38), (g11647 39), (g11647 40), (g11647 41)] q_ undef)  HS11651 (by omega) HJ11644 HJ11645 H
            · rw [if_neg c11659] at H
              (try rw [(decide_eq_false c11659)])
              (try simp only [Bool.not_true, Bool.not_false])
              refine wp_cond_false rfl ?_
              refine wp_exit ?_
              (try simp only [Act.put, List.setIfInBounds_toArray, ls0, ls1])
              refine hK11524 _ _ ?_
              (try clear hK11524 K11524)
              refine wp_exit ?_
              (try simp only [Act.put, List.setIfInBounds_toArray, ls0, ls1])
              refine hK11070 _ _ ?_
              (try clear hK11070 K11070)
              refine wp_seq_k fun K11710 hK11710 => ?_
              refine wl_region ?_
              refine st (.slice A11499 x11498.length cp11501) rfl rfl (xr_move (.slice A11499 x11498.length cp11501) rfl rfl) ?_
              simp only [ls0, ls1]
              refine st (.slice A11499 x11498.length cp11501) rfl rfl (xr_assign (.slice A11499 x11498.length cp11501) rfl rfl) ?_
              simp only [ls0, ls1]
              refine wl_end ?_
              (try simp only [Act.put, List.setIfInBounds_toArray, ls0, ls1])
              refine hK11710 _ _ ?_
              (try clear hK11710 K11710)
              refine wp_ret ?_
              (try simp only [Exit.inBlock, Exit.then, Exit.noGoto])
              (try simp only [Act.put, List.setIfInBounds_toArray, ls0, ls1])
              replace HJ11644 := Ft.recol (a := 11) (b := 5) HJ11644 (.inl rfl)
              replace HJ11645 := Own.recolor (b := 5) HJ11645 (by decide)
              replace HS11651 := Step.recol (a := 11) (b := 5) HS11651 hc (by decide)
              obtain rfl := Option.some.inj H
              refine bodyPost_ret (results_tmp rfl _ _ _) rfl ?_
              exact ⟨_, A11499, cp11501, rfl, HS11651, HJ11645, HC11502⟩
      · rw [if_neg c11523] at H
        (try rw [(decide_eq_false c11523)])
        (try simp only [Bool.not_true, Bool.not_false])
        refine wp_cond_false rfl ?_
        refine wp_exit ?_
        (try simp only [Act.put, List.setIfInBounds_toArray, ls0, ls1])
        refine hK11070 _ _ ?_
        (try clear hK11070 K11070)
        refine wp_seq_k fun K11711 hK11711 => ?_
        refine wl_region ?_
        refine st (.slice A11499 x11498.length cp11501) rfl rfl (xr_move (.slice A11499 x11498.length cp11501) rfl rfl) ?_
        simp only [ls0, ls1]
        refine st (.slice A11499 x11498.length cp11501) rfl rfl (xr_assign (.slice A11499 x11498.length cp11501) rfl rfl) ?_
        simp only [ls0, ls1]
        refine wl_end ?_
        (try simp only [Act.put, List.setIfInBounds_toArray, ls0, ls1])
        refine hK11711 _ _ ?_
        (try clear hK11711 K11711)
        refine wp_ret ?_
        (try simp only [Exit.inBlock, Exit.then, Exit.noGoto])
        (try simp only [Act.put, List.setIfInBounds_toArray, ls0, ls1])
        replace HJ11497 := Ft.recol (a := 11) (b := 5) HJ11497 (.inl rfl)
        replace HJ11503 := Own.recolor (b := 5) HJ11503 (by decide)
        replace HS11509 := Step.recol (a := 11) (b := 5) HS11509 hc (by decide)
        obtain rfl := Option.some.inj H
        refine bodyPost_ret (results_tmp rfl _ _ _) rfl ?_
        exact ⟨_, A11499, cp11501, rfl, HS11509, HJ11503, HC11502⟩

end Go.Proofs.Ytpfepkkpbampkaa.POrd
