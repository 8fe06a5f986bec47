-- By cprint.py, a program of this work. Lean checks it.
import Derived.Test.YtpfepkkpbampkaaDoorPLanx0
import Derived.Test.YtpfepkkpbampkaaDoorPLanx1
import Derived.Test.YtpfepkkpbampkaaDoorPLanx3
namespace Go.Proofs.YtpfepkkpbampkaaDoor.PLan
open Go.RowKit Go.Proofs.YtpfepkkpbampkaaDoorW.PrintWords Go.Proofs.YtpfepkkpbampkaaDoorW.PrintLast Go.Proofs.YtpfepkkpbampkaaDoorW.PrintMore
set_option linter.unusedVariables false
set_option linter.unusedSimpArgs false

/-! ### lattice_Lattice_fill: function 57 -/
mutual
def lattice_Lattice_fill.l0 : Nat → (Option S81) → Int → Int → Int → Int → (List Int) → (List Int) → Option ((List Int) × (List Int))
  | 0, _, _, _, _, _, _, _ => none
  | k + 1, m0_0, t7152, t7638, x7614, x7774, x7776, x7778 => if x7774 < t7638 then (if 0 ≤ x7614 then (if x7614 < 64 then ((order_Order_Above.f m0_0 x7614).bind fun t7801 => ((order_Order_Above.f m0_0 x7774).bind fun t7807 => ((lattice_least_order_Order_Above.f k (Go.bits .and .u64 t7801 t7807) m0_0).bind fun t7813 => (if 0 ≤ x7774 then (if x7774 < 64 then ((some (List.set x7776 ((x7614 : Int).toNat * 64 + (x7774 : Int).toNat) t7813 : List Int)).bind fun y7821 => ((order_Order_Below.f m0_0 x7614).bind fun t7828 => ((order_Order_Below.f m0_0 x7774).bind fun t7834 => ((lattice_least_order_Order_Below.f k (Go.bits .and .u64 t7828 t7834) m0_0).bind fun t7840 => ((some (List.set x7778 ((x7614 : Int).toNat * 64 + (x7774 : Int).toNat) t7840 : List Int)).bind fun y7846 => (lattice_Lattice_fill.l0 k m0_0 t7152 t7638 x7614 (wrap64 (x7774 + 1)) y7821 y7846)))))) else (none)) else (none))))) else (none)) else (none)) else (lattice_Lattice_fill.l1 k m0_0 t7152 (wrap64 (x7614 + 1)) x7776 x7778)
def lattice_Lattice_fill.l1 : Nat → (Option S81) → Int → Int → (List Int) → (List Int) → Option ((List Int) × (List Int))
  | 0, _, _, _, _, _ => none
  | k + 1, m0_0, t7152, x7614, x7616, x7618 => if x7614 < t7152 then ((order_Order_Len.f m0_0).bind fun t7638 => (lattice_Lattice_fill.l0 k m0_0 t7152 t7638 x7614 0 x7616 x7618)) else (some (x7616, x7618))
end
def lattice_Lattice_fill.f (k : Nat) (m0_0 : Option S81) (a0_1 : Int) (a0_2 : Int) (a0_3 : Int) (a0_4 : List Int) (a0_5 : List Int) (a0_6 : Int) : Option ((List Int) × (List Int)) := (order_Order_Len.f m0_0).bind fun t7152 => (lattice_Lattice_fill.l1 k m0_0 t7152 0 a0_4 a0_5)

set_option maxHeartbeats 2000000 in
set_option maxRecDepth 100000 in
theorem lattice_Lattice_fill.calls (k : Nat) (g0 : Nat) (v0_0 : Value) (m0_0 : Option S81) (a0_1 : Int) (a0_2 : Int) (a0_3 : Int) (a0_4 : List Int) (a0_5 : List Int) (a0_6 : Int) (r1 : List Int) (r2 : List Int) (c : Nat → Nat) (w : World) (hc : ∀ k, c k < 10) (HG : Ft c [0] w GTab) (HP0 : Bx c 1 w g0 107 ([v0_0, .int .u32 a0_1, .int .i32 a0_2, .int .u32 a0_3] ++ (List.map (Value.int .i8) a0_4 ++ (List.map (Value.int .i8) a0_5 ++ ([.int .i64 a0_6]))))) (HP0_0 : Ft c [0] w (fun w_ => (Kd.ptr 81 k81).K w_ m0_0 [v0_0])) (HL0_4 : a0_4.length = 4096) (HL0_5 : a0_5.length = 4096) (H : lattice_Lattice_fill.f k m0_0 a0_1 a0_2 a0_3 a0_4 a0_5 a0_6 = some (r1, r2)) :
    Calls Tryd.prog 57 #[.pointer (some ⟨g0, 0, none⟩)] w fun e w' => ∃ (c' : Nat → Nat) , e = .returned (.tuple #[]) ∧ Step c w c' w' [1] ∧ r1.length = 4096 ∧ r2.length = 4096 ∧ Bx c' 1 w' g0 107 ([v0_0, .int .u32 a0_1, .int .i32 a0_2, .int .u32 a0_3] ++ (List.map (Value.int .i8) r1 ++ (List.map (Value.int .i8) r2 ++ ([.int .i64 a0_6])))) := by
 unfold lattice_Lattice_fill.f at H
 have HS := Step.refl c w [1]
 go_enter Tryd.func57, Tryd.ntmps57
 refine wp_seq_k fun K7151 hK7151 => ?_
 refine wl_region ?_
 refine st (.pointer (some ⟨g0, 0, none⟩)) rfl rfl (xr_move _ rfl rfl) ?_
 refine st (.pointer (some ⟨g0, 0, none⟩)) rfl rfl (xr_nilCheck _ rfl rfl) ?_
 refine st (.pointer (some ⟨g0, 0, none⟩)) rfl rfl (xr_fieldAddr _ _ rfl rfl (bx_field2 Tryd.underlying107 rfl rfl (by kernel_rfl))) ?_
 refine st (v0_0) rfl rfl (xr_load _ _ rfl rfl (load_cell Tryd.underlying26 rfl (bx_cell (HP0).2 0 rfl))) ?_
 simp only [ls0, ls1]
 obtain ⟨t7152, A7153, H⟩ := Option.bind_eq_some_iff.mp H
 (try dsimp only at H)
 refine st_call #[v0_0] rfl rfl Tryd.func21 (by kernel_rfl) rfl rfl (mp_ rfl) ?_
 refine (order_Order_Len.calls v0_0 m0_0 t7152  (fun z_ => pal [(0, 0)] (c z_)) w (fun _ => pal_lt rfl _) (Ft.arg HP0_0 rfl) A7153).mono ?_
 rintro _ w7155 ⟨C7156, rfl, hs7157⟩
 refine ⟨_, rfl, ?_⟩
 replace hs7157 := Step.lift (U := [(0, 0)]) hs7157 [] rfl rfl
 generalize up c C7156 w.heap.size [(0, 0)] = C7156_ at hs7157
 replace HG := HG.thru hs7157 rfl
 replace HP0 := HP0.thru hs7157 rfl
 replace HP0_0 := HP0_0.thru hs7157 rfl
 replace HS := HS.trans hs7157 hc rfl
 (try simp only [Act.put, List.setIfInBounds_toArray, ls0, ls1])
 refine st (.int .i64 0) rfl rfl (xr_move _ rfl rfl) ?_
 refine wl_end ?_
 (try simp only [Act.put, List.setIfInBounds_toArray, ls0, ls1])
 refine hK7151 _ _ ?_
 (try clear hK7151 K7151)
 refine wp_block ?_
 (try simp only [Act.put, List.setIfInBounds_toArray, ls0, ls1])
 refine wp_looped (looped_ind (fun kq7625 a_ w7624 => ∃ (C7623 : Nat → Nat) (x7614 : Int) (x7616 : List Int) (x7618 : List Int) (g7622 : Nat → Value), a_ = ⟨#[.pointer (some ⟨g0, 0, none⟩), (g7622 1), (g7622 2), (g7622 3), (g7622 4), (g7622 5), (g7622 6), (g7622 7), .int .i64 t7152, .int .i64 x7614, (g7622 10), (g7622 11), (g7622 12), (g7622 13), (g7622 14), (g7622 15), (g7622 16), (g7622 17), (g7622 18), (g7622 19), (g7622 20), (g7622 21), (g7622 22), (g7622 23), (g7622 24), (g7622 25), (g7622 26), (g7622 27), (g7622 28), (g7622 29), (g7622 30), (g7622 31), (g7622 32), (g7622 33), (g7622 34), (g7622 35), (g7622 36), (g7622 37), (g7622 38), (g7622 39), (g7622 40), (g7622 41), (g7622 42), (g7622 43), (g7622 44), (g7622 45), (g7622 46), (g7622 47), (g7622 48), (g7622 49), (g7622 50), (g7622 51), (g7622 52), (g7622 53), (g7622 54), (g7622 55), (g7622 56), (g7622 57), (g7622 58), (g7622 59), (g7622 60), (g7622 61), (g7622 62), (g7622 63), (g7622 64), (g7622 65), (g7622 66), (g7622 67), (g7622 68), (g7622 69), (g7622 70), (g7622 71), (g7622 72), (g7622 73)], []⟩ ∧ Step c w C7623 w7624 [1] ∧ kq7625 ≤ k ∧ (Ft C7623 [0] w7624 (fun w_ => (Kd.ptr 81 k81).K w_ m0_0 [v0_0])) ∧ (x7616.length = 4096) ∧ (x7618.length = 4096) ∧ (Bx C7623 1 w7624 g0 107 ([v0_0, .int .u32 a0_1, .int .i32 a0_2, .int .u32 a0_3] ++ (List.map (Value.int .i8) x7616 ++ (List.map (Value.int .i8) x7618 ++ ([.int .i64 a0_6]))))) ∧ (Ft C7623 [0] w7624 GTab) ∧ lattice_Lattice_fill.l1 kq7625 m0_0 t7152 x7614 x7616 x7618 = some (r1, r2)) ?step k _ _ ?init)
 case init =>
  exact ⟨_, 0, a0_4, a0_5, (fun q_ => List.getD [undef, undef, undef, undef, .pointer (some ⟨g0, 0, none⟩), .pointer (some ⟨g0, 0, none⟩), .pointer (some ⟨g0, 0, none⟩), v0_0, undef, undef, undef, undef, undef, undef, undef, undef, undef, undef, undef, undef, undef, undef, undef, undef, undef, undef, undef, undef, undef, undef, undef, undef, undef, undef, undef, undef, undef, undef, undef, undef, undef, undef, undef, undef, undef, undef, undef, undef, undef, undef, undef, undef, undef, undef, undef, undef, undef, undef, undef, undef, undef, undef, undef, undef, undef, undef, undef, undef, undef, undef, undef, undef, undef, undef] q_ undef), rfl, HS, Nat.le_refl _, HP0_0, HL0_4, HL0_5, HP0, HG, H⟩
 case step =>
  intro kq7625 ih7628 a7629 w7624 hr7630
  obtain ⟨C7623, x7614, x7616, x7618, g7622, rfl, HS7626, hk7627, HJ7615, HL7617, HL7619, HJ7620, HG7621, H⟩ := hr7630
  refine looped_round ?_
  cases kq7625 with
  | zero => exact absurd H (by simp [lattice_Lattice_fill.l1])
  | succ k7631 =>
   simp only [lattice_Lattice_fill.l1] at H
   refine wp_seq_k fun K7632 hK7632 => ?_
   refine wl_region ?_
   refine st (.bool (decide (x7614 < t7152))) rfl rfl (xr_bin _ _ _ rfl rfl rfl (B.lss_i64 _ _)) ?_
   refine wl_end ?_
   (try simp only [Act.put, List.setIfInBounds_toArray, ls0, ls1])
   refine hK7632 _ _ ?_
   (try clear hK7632 K7632)
   refine wp_seq_k fun K7633 hK7633 => ?_
   by_cases c7634 : x7614 < t7152
   ·rw [if_pos c7634] at H
    (try rw [(decide_eq_true c7634)])
    (try simp only [Bool.not_true, Bool.not_false])
    refine wp_cond_true rfl ?_
    refine wp_skip ?_
    (try simp only [Act.put, List.setIfInBounds_toArray, ls0, ls1])
    refine hK7633 _ _ ?_
    (try clear hK7633 K7633)
    refine wp_seq_k fun K7635 hK7635 => ?_
    refine wp_block ?_
    refine wp_seq_k fun K7636 hK7636 => ?_
    refine wl_region ?_
    refine st (.int .i64 x7614) rfl rfl (xr_move _ rfl rfl) ?_
    refine st (.int .i64 x7614) rfl rfl (xr_assign _ rfl rfl) ?_
    refine wl_end ?_
    (try simp only [Act.put, List.setIfInBounds_toArray, ls0, ls1])
    refine hK7636 _ _ ?_
    (try clear hK7636 K7636)
    refine wp_seq_k fun K7637 hK7637 => ?_
    refine wl_region ?_
    refine st (.pointer (some ⟨g0, 0, none⟩)) rfl rfl (xr_move _ rfl rfl) ?_
    refine st (.pointer (some ⟨g0, 0, none⟩)) rfl rfl (xr_nilCheck _ rfl rfl) ?_
    refine st (.pointer (some ⟨g0, 0, none⟩)) rfl rfl (xr_fieldAddr _ _ rfl rfl (bx_field2 Tryd.underlying107 rfl rfl (by kernel_rfl))) ?_
    refine st (v0_0) rfl rfl (xr_load _ _ rfl rfl (load_cell Tryd.underlying26 rfl (bx_cell (HJ7620).2 0 rfl))) ?_
    simp only [ls0, ls1]
    obtain ⟨t7638, A7639, H⟩ := Option.bind_eq_some_iff.mp H
    (try dsimp only at H)
    refine st_call #[v0_0] rfl rfl Tryd.func21 (by kernel_rfl) rfl rfl (mp_ rfl) ?_
    refine (order_Order_Len.calls v0_0 m0_0 t7638  (fun z_ => pal [(0, 0)] (C7623 z_)) w7624 (fun _ => pal_lt rfl _) (Ft.arg HJ7615 rfl) A7639).mono ?_
    rintro _ w7641 ⟨C7642, rfl, hs7643⟩
    refine ⟨_, rfl, ?_⟩
    replace hs7643 := Step.lift (U := [(0, 0)]) hs7643 [] rfl rfl
    generalize up C7623 C7642 w7624.heap.size [(0, 0)] = C7642_ at hs7643
    replace HJ7620 := HJ7620.thru hs7643 rfl
    replace HJ7615 := HJ7615.thru hs7643 rfl
    replace HG7621 := HG7621.thru hs7643 rfl
    replace HS7626 := HS7626.trans hs7643 hc rfl
    (try simp only [Act.put, List.setIfInBounds_toArray, ls0, ls1])
    refine st (.int .i64 0) rfl rfl (xr_move _ rfl rfl) ?_
    refine wl_end ?_
    (try simp only [Act.put, List.setIfInBounds_toArray, ls0, ls1])
    refine hK7637 _ _ ?_
    (try clear hK7637 K7637)
    refine wp_block ?_
    (try simp only [Act.put, List.setIfInBounds_toArray, ls0, ls1])
    refine wp_looped (looped_ind (fun kq7785 a_ w7784 => ∃ (C7783 : Nat → Nat) (x7774 : Int) (x7776 : List Int) (x7778 : List Int) (g7782 : Nat → Value), a_ = ⟨#[.pointer (some ⟨g0, 0, none⟩), (g7782 1), .int .i64 x7614, (g7782 3), (g7782 4), (g7782 5), (g7782 6), (g7782 7), .int .i64 t7152, .int .i64 x7614, (g7782 10), (g7782 11), (g7782 12), (g7782 13), (g7782 14), (g7782 15), .int .i64 t7638, .int .i64 x7774, (g7782 18), (g7782 19), (g7782 20), (g7782 21), (g7782 22), (g7782 23), (g7782 24), (g7782 25), (g7782 26), (g7782 27), (g7782 28), (g7782 29), (g7782 30), (g7782 31), (g7782 32), (g7782 33), (g7782 34), (g7782 35), (g7782 36), (g7782 37), (g7782 38), (g7782 39), (g7782 40), (g7782 41), (g7782 42), (g7782 43), (g7782 44), (g7782 45), (g7782 46), (g7782 47), (g7782 48), (g7782 49), (g7782 50), (g7782 51), (g7782 52), (g7782 53), (g7782 54), (g7782 55), (g7782 56), (g7782 57), (g7782 58), (g7782 59), (g7782 60), (g7782 61), (g7782 62), (g7782 63), (g7782 64), (g7782 65), (g7782 66), (g7782 67), (g7782 68), (g7782 69), (g7782 70), (g7782 71), (g7782 72), (g7782 73)], []⟩ ∧ Step c w C7783 w7784 [1] ∧ kq7785 ≤ k7631 ∧ (Ft C7783 [0] w7784 (fun w_ => (Kd.ptr 81 k81).K w_ m0_0 [v0_0])) ∧ (x7776.length = 4096) ∧ (x7778.length = 4096) ∧ (Bx C7783 1 w7784 g0 107 ([v0_0, .int .u32 a0_1, .int .i32 a0_2, .int .u32 a0_3] ++ (List.map (Value.int .i8) x7776 ++ (List.map (Value.int .i8) x7778 ++ ([.int .i64 a0_6]))))) ∧ (Ft C7783 [0] w7784 GTab) ∧ lattice_Lattice_fill.l0 kq7785 m0_0 t7152 t7638 x7614 x7774 x7776 x7778 = some (r1, r2)) ?step k7631 _ _ ?init)
    case init =>
     exact ⟨_, 0, x7616, x7618, (fun q_ => List.getD [undef, (g7622 1), undef, (g7622 3), (g7622 4), (g7622 5), (g7622 6), (g7622 7), undef, undef, .bool true, .int .i64 x7614, .pointer (some ⟨g0, 0, none⟩), .pointer (some ⟨g0, 0, none⟩), .pointer (some ⟨g0, 0, none⟩), v0_0, undef, undef, (g7622 18), (g7622 19), (g7622 20), (g7622 21), (g7622 22), (g7622 23), (g7622 24), (g7622 25), (g7622 26), (g7622 27), (g7622 28), (g7622 29), (g7622 30), (g7622 31), (g7622 32), (g7622 33), (g7622 34), (g7622 35), (g7622 36), (g7622 37), (g7622 38), (g7622 39), (g7622 40), (g7622 41), (g7622 42), (g7622 43), (g7622 44), (g7622 45), (g7622 46), (g7622 47), (g7622 48), (g7622 49), (g7622 50), (g7622 51), (g7622 52), (g7622 53), (g7622 54), (g7622 55), (g7622 56), (g7622 57), (g7622 58), (g7622 59), (g7622 60), (g7622 61), (g7622 62), (g7622 63), (g7622 64), (g7622 65), (g7622 66), (g7622 67), (g7622 68), (g7622 69), (g7622 70), (g7622 71), (g7622 72), (g7622 73)] q_ undef), rfl, HS7626, Nat.le_refl _, HJ7615, HL7617, HL7619, HJ7620, HG7621, H⟩
    case step =>
     intro kq7785 ih7788 a7789 w7784 hr7790
     obtain ⟨C7783, x7774, x7776, x7778, g7782, rfl, HS7786, hk7787, HJ7775, HL7777, HL7779, HJ7780, HG7781, H⟩ := hr7790
     refine looped_round ?_
     cases kq7785 with
     | zero => exact absurd H (by simp [lattice_Lattice_fill.l0])
     | succ k7791 =>
      simp only [lattice_Lattice_fill.l0] at H
      refine wp_seq_k fun K7792 hK7792 => ?_
      refine wl_region ?_
      refine st (.bool (decide (x7774 < t7638))) rfl rfl (xr_bin _ _ _ rfl rfl rfl (B.lss_i64 _ _)) ?_
      refine wl_end ?_
      (try simp only [Act.put, List.setIfInBounds_toArray, ls0, ls1])
      refine hK7792 _ _ ?_
      (try clear hK7792 K7792)
      refine wp_seq_k fun K7793 hK7793 => ?_
      by_cases c7794 : x7774 < t7638
      ·rw [if_pos c7794] at H
       (try rw [(decide_eq_true c7794)])
       (try simp only [Bool.not_true, Bool.not_false])
       refine wp_cond_true rfl ?_
       refine wp_skip ?_
       (try simp only [Act.put, List.setIfInBounds_toArray, ls0, ls1])
       refine hK7793 _ _ ?_
       (try clear hK7793 K7793)
       refine wp_seq_k fun K7795 hK7795 => ?_
       refine wp_block ?_
       refine wp_seq_k fun K7796 hK7796 => ?_
       refine wl_region ?_
       refine st (.int .i64 x7774) rfl rfl (xr_move _ rfl rfl) ?_
       refine st (.int .i64 x7774) rfl rfl (xr_assign _ rfl rfl) ?_
       refine wl_end ?_
       (try simp only [Act.put, List.setIfInBounds_toArray, ls0, ls1])
       refine hK7796 _ _ ?_
       (try clear hK7796 K7796)
       refine wp_seq_k fun K7797 hK7797 => ?_
       (try simp only [Act.put, List.setIfInBounds_toArray, ls0, ls1])
       refine al_start (lb 27 0) rfl rfl rfl (fun w_ => w_.heap[g0]? = some (.cells (List.toArray ([v0_0, .int .u32 a0_1, .int .i32 a0_2, .int .u32 a0_3] ++ (List.map (Value.int .i8) x7776 ++ (List.map (Value.int .i8) x7778 ++ ([.int .i64 a0_6]))))) 107 (0, 0))) (HJ7780.drew).2 [26] ?_
       replace HJ7780 := HJ7780.drew
       replace HJ7775 := HJ7775.drew
       replace HG7781 := HG7781.drew
       replace HS7786 := Step.ofDrew HS7786
       generalize w7784.drew = w7798 at *
       refine al_pure 0 20 (.pointer (some ⟨g0, 0, none⟩)) (lb 27 1) rfl rfl (by kernel_rfl) (fun _ _ _ => id) rfl (fun w_ => xr_move _ rfl rfl) ?_
       refine al_pure 1 21 (.int .i64 x7614) (lb 27 3) rfl rfl (by kernel_rfl) (fun _ _ _ => id) rfl (fun w_ => xr_move _ rfl rfl) ?_
       refine al_pure 2 22 (.int .i64 x7774) (lb 27 7) rfl rfl (by kernel_rfl) (fun _ _ _ => id) rfl (fun w_ => xr_move _ rfl rfl) ?_
       refine al_pure 3 23 (.pointer (some ⟨g0, 0, none⟩)) (lb 27 15) rfl rfl (by kernel_rfl) (fun _ _ _ => id) rfl (fun w_ => xr_move _ rfl rfl) ?_
       simp only [ls0, ls1]
       refine al_pure 4 24 (.pointer (some ⟨g0, 0, none⟩)) (lb 27 31) rfl rfl (by kernel_rfl) (fun _ _ _ => id) rfl (fun w_ => xr_nilCheck _ rfl rfl) ?_
       refine al_pure 5 25 (.pointer (some ⟨g0, 0, none⟩)) (lb 27 63) rfl rfl (by kernel_rfl) (fun _ _ _ => id) rfl (fun w_ => xr_fieldAddr _ _ rfl rfl (bx_field2 Tryd.underlying107 rfl rfl (by kernel_rfl))) ?_
       refine al_pure 7 27 (.int .i64 x7614) (lb 27 191) rfl rfl (by kernel_rfl) (fun _ _ _ => id) rfl (fun w_ => xr_move _ rfl rfl) ?_
       refine al_pure 9 29 (.pointer (some ⟨g0, 0, none⟩)) (lb 27 703) rfl rfl (by kernel_rfl) (fun _ _ _ => id) rfl (fun w_ => xr_move _ rfl rfl) ?_
       simp only [ls0, ls1]
       refine al_pure 10 30 (.pointer (some ⟨g0, 0, none⟩)) (lb 27 1727) rfl rfl (by kernel_rfl) (fun _ _ _ => id) rfl (fun w_ => xr_nilCheck _ rfl rfl) ?_
       refine al_pure 11 31 (.pointer (some ⟨g0, 0, none⟩)) (lb 27 3775) rfl rfl (by kernel_rfl) (fun _ _ _ => id) rfl (fun w_ => xr_fieldAddr _ _ rfl rfl (bx_field2 Tryd.underlying107 rfl rfl (by kernel_rfl))) ?_
       refine al_pure 13 33 (.int .i64 x7774) (lb 27 11967) rfl rfl (by kernel_rfl) (fun _ _ _ => id) rfl (fun w_ => xr_move _ rfl rfl) ?_
       refine al_pure 16 36 (.pointer (some ⟨g0, 0, none⟩)) (lb 27 77503) rfl rfl (by kernel_rfl) (fun _ _ _ => id) rfl (fun w_ => xr_move _ rfl rfl) ?_
       simp only [ls0, ls1]
       refine al_pure 17 37 (.pointer (some ⟨g0, 0, none⟩)) (lb 27 208575) rfl rfl (by kernel_rfl) (fun _ _ _ => id) rfl (fun w_ => xr_nilCheck _ rfl rfl) ?_
       refine al_pure 18 38 (.pointer (some ⟨g0, 0, none⟩)) (lb 27 470719) rfl rfl (by kernel_rfl) (fun _ _ _ => id) rfl (fun w_ => xr_fieldAddr _ _ rfl rfl (bx_field2 Tryd.underlying107 rfl rfl (by kernel_rfl))) ?_
       refine al_pure 22 42 (.pointer (some ⟨g0, 0, none⟩)) (lb 27 4665023) rfl rfl (by kernel_rfl) (fun _ _ _ => id) rfl (fun w_ => xr_nilCheck _ rfl rfl) ?_
       refine al_pure 23 43 (.pointer (some ⟨g0, 4, none⟩)) (lb 27 13053631) rfl rfl (by kernel_rfl) (fun _ _ _ => id) rfl (fun w_ => xr_fieldAddr _ _ rfl rfl (bx_field2 Tryd.underlying107 rfl rfl (by kernel_rfl))) ?_
       simp only [ls0, ls1]
       by_cases c7799 : 0 ≤ x7614
       ·rw [if_pos c7799] at H
        by_cases c7800 : x7614 < 64
        ·rw [if_pos c7800] at H
         refine al_pure 24 44 (.pointer (some ⟨g0, 4 + ((x7614 : Int).toNat * 64), none⟩)) (lb 27 29830847) rfl rfl (by kernel_rfl) (fun _ _ _ => id) rfl (fun w_ => xr_indexAddr _ _ _ rfl rfl rfl (arr_index (sz := 64) Tryd.underlying102 (by kernel_rfl) (by first | assumption | decide | omega) (by first | assumption | decide | omega) (by omega))) ?_
         refine al_take 6 26 (v0_0) (lb 27 29830911) rfl rfl (by kernel_rfl) (fun _ _ _ => id) rfl (fun w_ hS_ => xr_load _ _ rfl rfl (load_cell Tryd.underlying26 rfl (bx_cell hS_ 0 rfl))) (HJ7780).2 ?_
         refine al_take 12 32 (v0_0) (lb 27 29835007) rfl rfl (by kernel_rfl) (fun _ _ _ => id) rfl (fun w_ hS_ => xr_load _ _ rfl rfl (load_cell Tryd.underlying26 rfl (bx_cell hS_ 0 rfl))) (HJ7780).2 ?_
         refine al_take 19 39 (v0_0) (lb 27 30359295) rfl rfl (by kernel_rfl) (fun _ _ _ => id) rfl (fun w_ hS_ => xr_load _ _ rfl rfl (load_cell Tryd.underlying26 rfl (bx_cell hS_ 0 rfl))) (HJ7780).2 ?_
         simp only [ls0, ls1]
         refine al_pure 20 40 (.func (.func 79) #[v0_0] #[]) (lb 27 31407871) rfl rfl (by kernel_rfl) (fun _ _ _ => id) rfl (fun w_ => xr_makeFunc #[v0_0] #[] rfl (mp_ rfl) (mp_ rfl)) ?_
         obtain ⟨t7801, A7802, H⟩ := Option.bind_eq_some_iff.mp H
         (try dsimp only at H)
         refine al_one 8 (lb 27 31408127) rfl rfl (by kernel_rfl) rfl (fun K_ hK_ => ?_)
         refine goes_ Tryd.func79 (by kernel_rfl) rfl #[v0_0, .int .i64 x7614] rfl rfl rfl (mpe_ rfl) ?_
         refine (order_Order_Above.calls v0_0 m0_0 x7614 t7801  (fun z_ => pal [(0, 0)] (C7783 z_)) w7798 (fun _ => pal_lt rfl _) (Ft.arg HJ7775 rfl) A7802).mono ?_
         rintro _ w7804 ⟨C7805, rfl, hs7806⟩
         refine ⟨_, rfl, ?_⟩
         replace hs7806 := Step.lift (U := [(0, 0)]) hs7806 [] rfl rfl
         generalize up C7783 C7805 w7798.heap.size [(0, 0)] = C7805_ at hs7806
         replace HJ7780 := HJ7780.thru hs7806 rfl
         replace HJ7775 := HJ7775.thru hs7806 rfl
         replace HG7781 := HG7781.thru hs7806 rfl
         replace HS7786 := HS7786.trans hs7806 hc rfl
         refine hK_ _ _ (HJ7780).2 ?_
         clear hK_ K_
         (try simp only [Act.put, List.setIfInBounds_toArray, ls0, ls1])
         obtain ⟨t7807, A7808, H⟩ := Option.bind_eq_some_iff.mp H
         (try dsimp only at H)
         refine al_one 14 (lb 27 31424511) rfl rfl (by kernel_rfl) rfl (fun K_ hK_ => ?_)
         refine goes_ Tryd.func79 (by kernel_rfl) rfl #[v0_0, .int .i64 x7774] rfl rfl rfl (mpe_ rfl) ?_
         refine (order_Order_Above.calls v0_0 m0_0 x7774 t7807  (fun z_ => pal [(0, 0)] (C7805_ z_)) w7804 (fun _ => pal_lt rfl _) (Ft.arg HJ7775 rfl) A7808).mono ?_
         rintro _ w7810 ⟨C7811, rfl, hs7812⟩
         refine ⟨_, rfl, ?_⟩
         replace hs7812 := Step.lift (U := [(0, 0)]) hs7812 [] rfl rfl
         generalize up C7805_ C7811 w7804.heap.size [(0, 0)] = C7811_ at hs7812
         replace HJ7780 := HJ7780.thru hs7812 rfl
         replace HJ7775 := HJ7775.thru hs7812 rfl
         replace HG7781 := HG7781.thru hs7812 rfl
         replace HS7786 := HS7786.trans hs7812 hc rfl
         refine hK_ _ _ (HJ7780).2 ?_
         clear hK_ K_
         (try simp only [Act.put, List.setIfInBounds_toArray, ls0, ls1])
         refine al_pure 15 35 (.int .u64 (Go.bits .and .u64 t7801 t7807)) (lb 27 31457279) rfl rfl (by kernel_rfl) (fun _ _ _ => id) rfl (fun w_ => xr_bin _ _ _ rfl rfl rfl (B.and_u64 _ _)) ?_
         obtain ⟨t7813, A7814, H⟩ := Option.bind_eq_some_iff.mp H
         (try dsimp only at H)
         refine al_one 21 (lb 27 33554431) rfl rfl (by kernel_rfl) rfl (fun K_ hK_ => ?_)
         refine goes_ Tryd.func78 (by kernel_rfl) rfl #[.int .u64 (Go.bits .and .u64 t7801 t7807), .func (.func 79) #[v0_0] #[]] rfl rfl rfl (mpe_ rfl) ?_
         refine (lattice_least_order_Order_Above.calls k7791 (Go.bits .and .u64 t7801 t7807) v0_0 m0_0 t7813  (fun z_ => pal [(0, 0)] (C7811_ z_)) w7810 (fun _ => pal_lt rfl _) (Ft.arg HG7781 rfl) (Ft.arg HJ7775 rfl) A7814).mono ?_
         rintro _ w7816 ⟨C7817, rfl, hs7818⟩
         refine ⟨_, rfl, ?_⟩
         replace hs7818 := Step.lift (U := [(0, 0)]) hs7818 [] rfl rfl
         generalize up C7811_ C7817 w7810.heap.size [(0, 0)] = C7817_ at hs7818
         replace HJ7780 := HJ7780.thru hs7818 rfl
         replace HJ7775 := HJ7775.thru hs7818 rfl
         replace HG7781 := HG7781.thru hs7818 rfl
         replace HS7786 := HS7786.trans hs7818 hc rfl
         refine hK_ _ _ (HJ7780).2 ?_
         clear hK_ K_
         (try simp only [Act.put, List.setIfInBounds_toArray, ls0, ls1])
         by_cases c7819 : 0 ≤ x7774
         ·rw [if_pos c7819] at H
          by_cases c7820 : x7774 < 64
          ·rw [if_pos c7820] at H
           refine al_pure 25 45 (.pointer (some ⟨g0, 4 + ((x7614 : Int).toNat * 64 + (x7774 : Int).toNat), none⟩)) (lb 27 67108863) rfl rfl (by kernel_rfl) (fun _ _ _ => id) rfl (fun w_ => xr_indexAddr _ _ _ rfl rfl rfl (arr_index (sz := 1) Tryd.underlying100 (by kernel_rfl) (by first | assumption | decide | omega) (by first | assumption | decide | omega) (by omega))) ?_
           obtain ⟨y7821, A7822, H⟩ := Option.bind_eq_some_iff.mp H
           (try dsimp only at H)
           refine al_last 26 (lb 27 134217727) rfl rfl (by kernel_rfl) rfl (fun K_ hK_ => ?_)
           refine arr_store_step (C := C7817_) (z := 1) (g := g0) (tb := 107) (of := 4) (N := 4096) (pre := [v0_0, .int .u32 a0_1, .int .i32 a0_2, .int .u32 a0_3]) (post := List.map (Value.int .i8) x7778 ++ ([.int .i64 a0_6])) (enc := (Value.int .i8)) (l0 := x7776) (i := (x7614 : Int).toNat * 64 + (x7774 : Int).toNat) t7813 rfl rfl rfl rfl rfl rfl (by kernel_rfl) rfl HJ7780 (by first | (simp only [List.append_assoc, List.cons_append, List.nil_append, List.append_nil]; done) | rfl) rfl HL7777 (by omega) (by omega) (Option.some.inj A7822) (xs' := [v0_0, .int .u32 a0_1, .int .i32 a0_2, .int .u32 a0_3] ++ (List.map (Value.int .i8) y7821 ++ (List.map (Value.int .i8) x7778 ++ ([.int .i64 a0_6])))) (by first | (simp only [List.append_assoc, List.cons_append, List.nil_append, List.append_nil]; done) | rfl) ?_
           intro w7823 HX7824 HL7826 hs7825
           replace HJ7775 := HJ7775.thru hs7825 rfl
           replace HG7781 := HG7781.thru hs7825 rfl
           replace HS7786 := HS7786.trans hs7825 hc rfl
           refine hK_ _ _ ?_
           clear hK_ K_
           (try simp only [Act.put, List.setIfInBounds_toArray, ls0, ls1])
           refine al_end (by kernel_rfl) ?_
           (try simp only [Act.put, List.setIfInBounds_toArray, ls0, ls1])
           refine hK7797 _ _ ?_
           (try clear hK7797 K7797)
           (try simp only [Act.put, List.setIfInBounds_toArray, ls0, ls1])
           refine al_start (lb 27 0) rfl rfl rfl (fun w_ => w_.heap[g0]? = some (.cells (List.toArray ([v0_0, .int .u32 a0_1, .int .i32 a0_2, .int .u32 a0_3] ++ (List.map (Value.int .i8) y7821 ++ (List.map (Value.int .i8) x7778 ++ ([.int .i64 a0_6]))))) 107 (0, 0))) (HX7824.drew).2 [26] ?_
           replace HX7824 := HX7824.drew
           replace HJ7775 := HJ7775.drew
           replace HG7781 := HG7781.drew
           replace HS7786 := Step.ofDrew HS7786
           generalize w7823.drew = w7827 at *
           refine al_pure 0 46 (.pointer (some ⟨g0, 0, none⟩)) (lb 27 1) rfl rfl (by kernel_rfl) (fun _ _ _ => id) rfl (fun w_ => xr_move _ rfl rfl) ?_
           refine al_pure 1 47 (.int .i64 x7614) (lb 27 3) rfl rfl (by kernel_rfl) (fun _ _ _ => id) rfl (fun w_ => xr_move _ rfl rfl) ?_
           refine al_pure 2 48 (.int .i64 x7774) (lb 27 7) rfl rfl (by kernel_rfl) (fun _ _ _ => id) rfl (fun w_ => xr_move _ rfl rfl) ?_
           refine al_pure 3 49 (.pointer (some ⟨g0, 0, none⟩)) (lb 27 15) rfl rfl (by kernel_rfl) (fun _ _ _ => id) rfl (fun w_ => xr_move _ rfl rfl) ?_
           simp only [ls0, ls1]
           refine al_pure 4 50 (.pointer (some ⟨g0, 0, none⟩)) (lb 27 31) rfl rfl (by kernel_rfl) (fun _ _ _ => id) rfl (fun w_ => xr_nilCheck _ rfl rfl) ?_
           refine al_pure 5 51 (.pointer (some ⟨g0, 0, none⟩)) (lb 27 63) rfl rfl (by kernel_rfl) (fun _ _ _ => id) rfl (fun w_ => xr_fieldAddr _ _ rfl rfl (bx_field2 Tryd.underlying107 rfl rfl (by kernel_rfl))) ?_
           refine al_pure 7 53 (.int .i64 x7614) (lb 27 191) rfl rfl (by kernel_rfl) (fun _ _ _ => id) rfl (fun w_ => xr_move _ rfl rfl) ?_
           refine al_pure 9 55 (.pointer (some ⟨g0, 0, none⟩)) (lb 27 703) rfl rfl (by kernel_rfl) (fun _ _ _ => id) rfl (fun w_ => xr_move _ rfl rfl) ?_
           simp only [ls0, ls1]
           refine al_pure 10 56 (.pointer (some ⟨g0, 0, none⟩)) (lb 27 1727) rfl rfl (by kernel_rfl) (fun _ _ _ => id) rfl (fun w_ => xr_nilCheck _ rfl rfl) ?_
           refine al_pure 11 57 (.pointer (some ⟨g0, 0, none⟩)) (lb 27 3775) rfl rfl (by kernel_rfl) (fun _ _ _ => id) rfl (fun w_ => xr_fieldAddr _ _ rfl rfl (bx_field2 Tryd.underlying107 rfl rfl (by kernel_rfl))) ?_
           refine al_pure 13 59 (.int .i64 x7774) (lb 27 11967) rfl rfl (by kernel_rfl) (fun _ _ _ => id) rfl (fun w_ => xr_move _ rfl rfl) ?_
           refine al_pure 16 62 (.pointer (some ⟨g0, 0, none⟩)) (lb 27 77503) rfl rfl (by kernel_rfl) (fun _ _ _ => id) rfl (fun w_ => xr_move _ rfl rfl) ?_
           simp only [ls0, ls1]
           refine al_pure 17 63 (.pointer (some ⟨g0, 0, none⟩)) (lb 27 208575) rfl rfl (by kernel_rfl) (fun _ _ _ => id) rfl (fun w_ => xr_nilCheck _ rfl rfl) ?_
           refine al_pure 18 64 (.pointer (some ⟨g0, 0, none⟩)) (lb 27 470719) rfl rfl (by kernel_rfl) (fun _ _ _ => id) rfl (fun w_ => xr_fieldAddr _ _ rfl rfl (bx_field2 Tryd.underlying107 rfl rfl (by kernel_rfl))) ?_
           refine al_pure 22 68 (.pointer (some ⟨g0, 0, none⟩)) (lb 27 4665023) rfl rfl (by kernel_rfl) (fun _ _ _ => id) rfl (fun w_ => xr_nilCheck _ rfl rfl) ?_
           refine al_pure 23 69 (.pointer (some ⟨g0, 4100, none⟩)) (lb 27 13053631) rfl rfl (by kernel_rfl) (fun _ _ _ => id) rfl (fun w_ => xr_fieldAddr _ _ rfl rfl (bx_field2 Tryd.underlying107 rfl rfl (by kernel_rfl))) ?_
           simp only [ls0, ls1]
           refine al_pure 24 70 (.pointer (some ⟨g0, 4100 + ((x7614 : Int).toNat * 64), none⟩)) (lb 27 29830847) rfl rfl (by kernel_rfl) (fun _ _ _ => id) rfl (fun w_ => xr_indexAddr _ _ _ rfl rfl rfl (arr_index (sz := 64) Tryd.underlying102 (by kernel_rfl) (by first | assumption | decide | omega) (by first | assumption | decide | omega) (by omega))) ?_
           refine al_take 6 52 (v0_0) (lb 27 29830911) rfl rfl (by kernel_rfl) (fun _ _ _ => id) rfl (fun w_ hS_ => xr_load _ _ rfl rfl (load_cell Tryd.underlying26 rfl (bx_cell hS_ 0 rfl))) (HX7824).2 ?_
           refine al_take 12 58 (v0_0) (lb 27 29835007) rfl rfl (by kernel_rfl) (fun _ _ _ => id) rfl (fun w_ hS_ => xr_load _ _ rfl rfl (load_cell Tryd.underlying26 rfl (bx_cell hS_ 0 rfl))) (HX7824).2 ?_
           refine al_take 19 65 (v0_0) (lb 27 30359295) rfl rfl (by kernel_rfl) (fun _ _ _ => id) rfl (fun w_ hS_ => xr_load _ _ rfl rfl (load_cell Tryd.underlying26 rfl (bx_cell hS_ 0 rfl))) (HX7824).2 ?_
           simp only [ls0, ls1]
           refine al_pure 20 66 (.func (.func 80) #[v0_0] #[]) (lb 27 31407871) rfl rfl (by kernel_rfl) (fun _ _ _ => id) rfl (fun w_ => xr_makeFunc #[v0_0] #[] rfl (mp_ rfl) (mp_ rfl)) ?_
           obtain ⟨t7828, A7829, H⟩ := Option.bind_eq_some_iff.mp H
           (try dsimp only at H)
           refine al_one 8 (lb 27 31408127) rfl rfl (by kernel_rfl) rfl (fun K_ hK_ => ?_)
           refine goes_ Tryd.func80 (by kernel_rfl) rfl #[v0_0, .int .i64 x7614] rfl rfl rfl (mpe_ rfl) ?_
           refine (order_Order_Below.calls v0_0 m0_0 x7614 t7828  (fun z_ => pal [(0, 0)] (C7817_ z_)) w7827 (fun _ => pal_lt rfl _) (Ft.arg HJ7775 rfl) A7829).mono ?_
           rintro _ w7831 ⟨C7832, rfl, hs7833⟩
           refine ⟨_, rfl, ?_⟩
           replace hs7833 := Step.lift (U := [(0, 0)]) hs7833 [] rfl rfl
           generalize up C7817_ C7832 w7827.heap.size [(0, 0)] = C7832_ at hs7833
           replace HX7824 := HX7824.thru hs7833 rfl
           replace HJ7775 := HJ7775.thru hs7833 rfl
           replace HG7781 := HG7781.thru hs7833 rfl
           replace HS7786 := HS7786.trans hs7833 hc rfl
           refine hK_ _ _ (HX7824).2 ?_
           clear hK_ K_
           (try simp only [Act.put, List.setIfInBounds_toArray, ls0, ls1])
           obtain ⟨t7834, A7835, H⟩ := Option.bind_eq_some_iff.mp H
           (try dsimp only at H)
           refine al_one 14 (lb 27 31424511) rfl rfl (by kernel_rfl) rfl (fun K_ hK_ => ?_)
           refine goes_ Tryd.func80 (by kernel_rfl) rfl #[v0_0, .int .i64 x7774] rfl rfl rfl (mpe_ rfl) ?_
           refine (order_Order_Below.calls v0_0 m0_0 x7774 t7834  (fun z_ => pal [(0, 0)] (C7832_ z_)) w7831 (fun _ => pal_lt rfl _) (Ft.arg HJ7775 rfl) A7835).mono ?_
           rintro _ w7837 ⟨C7838, rfl, hs7839⟩
           refine ⟨_, rfl, ?_⟩
           replace hs7839 := Step.lift (U := [(0, 0)]) hs7839 [] rfl rfl
           generalize up C7832_ C7838 w7831.heap.size [(0, 0)] = C7838_ at hs7839
           replace HX7824 := HX7824.thru hs7839 rfl
           replace HJ7775 := HJ7775.thru hs7839 rfl
           replace HG7781 := HG7781.thru hs7839 rfl
           replace HS7786 := HS7786.trans hs7839 hc rfl
           refine hK_ _ _ (HX7824).2 ?_
           clear hK_ K_
           (try simp only [Act.put, List.setIfInBounds_toArray, ls0, ls1])
           refine al_pure 15 61 (.int .u64 (Go.bits .and .u64 t7828 t7834)) (lb 27 31457279) rfl rfl (by kernel_rfl) (fun _ _ _ => id) rfl (fun w_ => xr_bin _ _ _ rfl rfl rfl (B.and_u64 _ _)) ?_
           obtain ⟨t7840, A7841, H⟩ := Option.bind_eq_some_iff.mp H
           (try dsimp only at H)
           refine al_one 21 (lb 27 33554431) rfl rfl (by kernel_rfl) rfl (fun K_ hK_ => ?_)
           refine goes_ Tryd.func78 (by kernel_rfl) rfl #[.int .u64 (Go.bits .and .u64 t7828 t7834), .func (.func 80) #[v0_0] #[]] rfl rfl rfl (mpe_ rfl) ?_
           refine (lattice_least_order_Order_Below.calls k7791 (Go.bits .and .u64 t7828 t7834) v0_0 m0_0 t7840  (fun z_ => pal [(0, 0)] (C7838_ z_)) w7837 (fun _ => pal_lt rfl _) (Ft.arg HG7781 rfl) (Ft.arg HJ7775 rfl) A7841).mono ?_
           rintro _ w7843 ⟨C7844, rfl, hs7845⟩
           refine ⟨_, rfl, ?_⟩
           replace hs7845 := Step.lift (U := [(0, 0)]) hs7845 [] rfl rfl
           generalize up C7838_ C7844 w7837.heap.size [(0, 0)] = C7844_ at hs7845
           replace HX7824 := HX7824.thru hs7845 rfl
           replace HJ7775 := HJ7775.thru hs7845 rfl
           replace HG7781 := HG7781.thru hs7845 rfl
           replace HS7786 := HS7786.trans hs7845 hc rfl
           refine hK_ _ _ (HX7824).2 ?_
           clear hK_ K_
           (try simp only [Act.put, List.setIfInBounds_toArray, ls0, ls1])
           refine al_pure 25 71 (.pointer (some ⟨g0, 4100 + ((x7614 : Int).toNat * 64 + (x7774 : Int).toNat), none⟩)) (lb 27 67108863) rfl rfl (by kernel_rfl) (fun _ _ _ => id) rfl (fun w_ => xr_indexAddr _ _ _ rfl rfl rfl (arr_index (sz := 1) Tryd.underlying100 (by kernel_rfl) (by first | assumption | decide | omega) (by first | assumption | decide | omega) (by omega))) ?_
           obtain ⟨y7846, A7847, H⟩ := Option.bind_eq_some_iff.mp H
           (try dsimp only at H)
           refine al_last 26 (lb 27 134217727) rfl rfl (by kernel_rfl) rfl (fun K_ hK_ => ?_)
           refine arr_store_step (C := C7844_) (z := 1) (g := g0) (tb := 107) (of := 4100) (N := 4096) (pre := [v0_0, .int .u32 a0_1, .int .i32 a0_2, .int .u32 a0_3] ++ (List.map (Value.int .i8) y7821)) (post := [.int .i64 a0_6]) (enc := (Value.int .i8)) (l0 := x7778) (i := (x7614 : Int).toNat * 64 + (x7774 : Int).toNat) t7840 rfl rfl rfl rfl rfl rfl (by kernel_rfl) rfl HX7824 (by first | (simp only [List.append_assoc, List.cons_append, List.nil_append, List.append_nil]; done) | rfl) (by simp [HL7826]) HL7779 (by omega) (by omega) (Option.some.inj A7847) (xs' := [v0_0, .int .u32 a0_1, .int .i32 a0_2, .int .u32 a0_3] ++ (List.map (Value.int .i8) y7821 ++ (List.map (Value.int .i8) y7846 ++ ([.int .i64 a0_6])))) (by first | (simp only [List.append_assoc, List.cons_append, List.nil_append, List.append_nil]; done) | rfl) ?_
           intro w7848 HX7849 HL7851 hs7850
           replace HJ7775 := HJ7775.thru hs7850 rfl
           replace HG7781 := HG7781.thru hs7850 rfl
           replace HS7786 := HS7786.trans hs7850 hc rfl
           refine hK_ _ _ ?_
           clear hK_ K_
           (try simp only [Act.put, List.setIfInBounds_toArray, ls0, ls1])
           refine al_end (by kernel_rfl) ?_
           (try simp only [Act.put, List.setIfInBounds_toArray, ls0, ls1])
           refine hK7795 _ _ ?_
           (try clear hK7795 K7795)
           refine wl_region ?_
           refine st (.int .i64 (wrap64 (x7774 + 1))) rfl rfl (xr_bin _ _ _ rfl rfl rfl (B.add_i64 _ _)) ?_
           refine st (.int .i64 (wrap64 (x7774 + 1))) rfl rfl (xr_move _ rfl rfl) ?_
           refine wl_end ?_
           (try simp only [Act.put, List.setIfInBounds_toArray, ls0, ls1])
           exact ih7788 k7791 (by omega) _ _ ⟨_, wrap64 (x7774 + 1), y7821, y7846, (fun q_ => List.getD [undef, (g7782 1), undef, .int .i64 x7774, (g7782 4), (g7782 5), (g7782 6), (g7782 7), undef, undef, (g7782 10), (g7782 11), (g7782 12), (g7782 13), (g7782 14), (g7782 15), undef, undef, .bool true, .int .i64 x7774, .pointer (some ⟨g0, 0, none⟩), .int .i64 x7614, .int .i64 x7774, .pointer (some ⟨g0, 0, none⟩), .pointer (some ⟨g0, 0, none⟩), .pointer (some ⟨g0, 0, none⟩), v0_0, .int .i64 x7614, .int .u64 t7801, .pointer (some ⟨g0, 0, none⟩), .pointer (some ⟨g0, 0, none⟩), .pointer (some ⟨g0, 0, none⟩), v0_0, .int .i64 x7774, .int .u64 t7807, .int .u64 (Go.bits .and .u64 t7801 t7807), .pointer (some ⟨g0, 0, none⟩), .pointer (some ⟨g0, 0, none⟩), .pointer (some ⟨g0, 0, none⟩), v0_0, .func (.func 79) #[v0_0] #[], .int .i8 t7813, .pointer (some ⟨g0, 0, none⟩), .pointer (some ⟨g0, 4, none⟩), .pointer (some ⟨g0, 4 + ((x7614 : Int).toNat * 64), none⟩), .pointer (some ⟨g0, 4 + ((x7614 : Int).toNat * 64 + (x7774 : Int).toNat), none⟩), .pointer (some ⟨g0, 0, none⟩), .int .i64 x7614, .int .i64 x7774, .pointer (some ⟨g0, 0, none⟩), .pointer (some ⟨g0, 0, none⟩), .pointer (some ⟨g0, 0, none⟩), v0_0, .int .i64 x7614, .int .u64 t7828, .pointer (some ⟨g0, 0, none⟩), .pointer (some ⟨g0, 0, none⟩), .pointer (some ⟨g0, 0, none⟩), v0_0, .int .i64 x7774, .int .u64 t7834, .int .u64 (Go.bits .and .u64 t7828 t7834), .pointer (some ⟨g0, 0, none⟩), .pointer (some ⟨g0, 0, none⟩), .pointer (some ⟨g0, 0, none⟩), v0_0, .func (.func 80) #[v0_0] #[], .int .i8 t7840, .pointer (some ⟨g0, 0, none⟩), .pointer (some ⟨g0, 4100, none⟩), .pointer (some ⟨g0, 4100 + ((x7614 : Int).toNat * 64), none⟩), .pointer (some ⟨g0, 4100 + ((x7614 : Int).toNat * 64 + (x7774 : Int).toNat), none⟩), .int .i64 (wrap64 (x7774 + 1)), (g7782 73)] q_ undef), rfl, HS7786, (by omega), HJ7775, HL7826, HL7851, HX7849, HG7781, H⟩
          ·rw [if_neg c7820] at H
           exact absurd H (by simp)
         ·rw [if_neg c7819] at H
          exact absurd H (by simp)
        ·rw [if_neg c7800] at H
         exact absurd H (by simp)
       ·rw [if_neg c7799] at H
        exact absurd H (by simp)
      ·rw [if_neg c7794] at H
       (try rw [(decide_eq_false c7794)])
       (try simp only [Bool.not_true, Bool.not_false])
       refine wp_cond_false rfl ?_
       refine wp_exit ?_
       (try simp only [Act.put, List.setIfInBounds_toArray, ls0, ls1])
       refine hK7635 _ _ ?_
       (try clear hK7635 K7635)
       refine wl_region ?_
       refine st (.int .i64 (wrap64 (x7614 + 1))) rfl rfl (xr_bin _ _ _ rfl rfl rfl (B.add_i64 _ _)) ?_
       refine st (.int .i64 (wrap64 (x7614 + 1))) rfl rfl (xr_move _ rfl rfl) ?_
       refine wl_end ?_
       (try simp only [Act.put, List.setIfInBounds_toArray, ls0, ls1])
       exact ih7628 k7791 (by omega) _ _ ⟨_, wrap64 (x7614 + 1), x7776, x7778, (fun q_ => List.getD [undef, (g7782 1), .int .i64 x7614, (g7782 3), (g7782 4), (g7782 5), (g7782 6), (g7782 7), undef, undef, (g7782 10), (g7782 11), (g7782 12), (g7782 13), (g7782 14), (g7782 15), .int .i64 t7638, .int .i64 x7774, .bool false, (g7782 19), (g7782 20), (g7782 21), (g7782 22), (g7782 23), (g7782 24), (g7782 25), (g7782 26), (g7782 27), (g7782 28), (g7782 29), (g7782 30), (g7782 31), (g7782 32), (g7782 33), (g7782 34), (g7782 35), (g7782 36), (g7782 37), (g7782 38), (g7782 39), (g7782 40), (g7782 41), (g7782 42), (g7782 43), (g7782 44), (g7782 45), (g7782 46), (g7782 47), (g7782 48), (g7782 49), (g7782 50), (g7782 51), (g7782 52), (g7782 53), (g7782 54), (g7782 55), (g7782 56), (g7782 57), (g7782 58), (g7782 59), (g7782 60), (g7782 61), (g7782 62), (g7782 63), (g7782 64), (g7782 65), (g7782 66), (g7782 67), (g7782 68), (g7782 69), (g7782 70), (g7782 71), (g7782 72), .int .i64 (wrap64 (x7614 + 1))] q_ undef), rfl, HS7786, (by omega), HJ7775, HL7777, HL7779, HJ7780, HG7781, H⟩
   ·rw [if_neg c7634] at H
    (try rw [(decide_eq_false c7634)])
    (try simp only [Bool.not_true, Bool.not_false])
    refine wp_cond_false rfl ?_
    refine wp_exit ?_
    (try simp only [Exit.inBlock, Exit.then, Exit.noGoto, if_true, if_pos])
    (try simp only [Act.put, List.setIfInBounds_toArray, ls0, ls1])
    simp only [Option.some.injEq, Prod.mk.injEq] at H
    obtain ⟨rfl, rfl⟩ := H
    refine bodyPost_end (results_none rfl _ _ _) rfl ?_
    exact ⟨_, rfl, HS7626, HL7617, HL7619, HJ7620⟩

/-! ### lattice_Lattice_whole: function 58 -/
mutual
def lattice_Lattice_whole.l0 : Nat → S107 → Int → Int → Int → Option (Int × Int × Bool)
  | 0, _, _, _, _ => none
  | k + 1, o8139, t8145, x8313, x8382 => (order_Order_Len.f o8139.f0).bind fun t8397 => (if x8382 < t8397 then (if 0 ≤ x8313 then (if x8313 < 64 then (if 0 ≤ x8382 then (if x8382 < 64 then (if (List.getD o8139.f2 ((x8313 : Int).toNat * 64 + (x8382 : Int).toNat) 0) = (-1) then (some (x8313, x8382, false)) else (if (List.getD o8139.f3 ((x8313 : Int).toNat * 64 + (x8382 : Int).toNat) 0) = (-1) then (some (x8313, x8382, false)) else (lattice_Lattice_whole.l0 k o8139 t8145 x8313 (wrap64 (x8382 + 1))))) else (none)) else (none)) else (none)) else (none)) else (lattice_Lattice_whole.l1 k o8139 t8145 (wrap64 (x8313 + 1))))
def lattice_Lattice_whole.l1 : Nat → S107 → Int → Int → Option (Int × Int × Bool)
  | 0, _, _, _ => none
  | k + 1, o8139, t8145, x8313 => if x8313 < t8145 then (lattice_Lattice_whole.l0 k o8139 t8145 x8313 x8313) else (some (0, 0, true))
end
def lattice_Lattice_whole.f (k : Nat) (x0 : Option S107) : Option (Int × Int × Bool) := onOpt x0 (none) (fun o8139 => ((order_Order_Len.f o8139.f0).bind fun t8145 => (lattice_Lattice_whole.l1 k o8139 t8145 0)))

set_option maxHeartbeats 2000000 in
set_option maxRecDepth 100000 in
theorem lattice_Lattice_whole.calls (k : Nat) (v0 : Value) (x0 : Option S107) (r1 : Int) (r2 : Int) (r3 : Bool) (c : Nat → Nat) (w : World) (hc : ∀ k, c k < 10) (HP0 : Ft c [0] w (fun w_ => (Kd.ptr 107 k107).K w_ x0 [v0])) (H : lattice_Lattice_whole.f k x0 = some (r1, r2, r3)) :
    Calls Tryd.prog 58 #[v0] w fun e w' => ∃ (c' : Nat → Nat) , e = .returned (.tuple #[.int .i64 r1, .int .i64 r2, .bool r3]) ∧ Step c w c' w' [] := by
 unfold lattice_Lattice_whole.f at H
 have HS := Step.refl c w []
 go_enter Tryd.func58, Tryd.ntmps58
 refine wp_seq_k fun K8136 hK8136 => ?_
 refine wl_region ?_
 refine st (.int .i64 0) rfl rfl (xr_assign _ rfl rfl) ?_
 refine st (.int .i64 0) rfl rfl (xr_assign _ rfl rfl) ?_
 refine st (.bool false) rfl rfl (xr_assign _ rfl rfl) ?_
 refine wl_end ?_
 (try simp only [Act.put, List.setIfInBounds_toArray, ls0, ls1])
 refine hK8136 _ _ ?_
 (try clear hK8136 K8136)
 refine wp_seq_k fun K8137 hK8137 => ?_
 refine wp_seq_k fun K8138 hK8138 => ?_
 refine wl_region ?_
 refine st (v0) rfl rfl (xr_move _ rfl rfl) ?_
 cases x0 with
 | none =>
  (try simp only [onOpt] at H)
  obtain rfl := ptr_none HP0
  exact absurd H (by simp)
 | some o8139 =>
  (try simp only [onOpt] at H)
  obtain ⟨g8140, cs8141, rfl, HX8142, HK8143⟩ := ptr_some HP0
  obtain ⟨vq8144_0, rfl, HRq8144_0, HLq8144_4, HLq8144_5⟩ := k107_openF HK8143
  replace HRq8144_0 : Ft c [0] w (fun w_ => (Kd.ptr 81 k81).K w_ o8139.f0 [vq8144_0]) := HRq8144_0
  refine st (.pointer (some ⟨g8140, 0, none⟩)) rfl rfl (xr_nilCheck _ rfl rfl) ?_
  refine st (.pointer (some ⟨g8140, 0, none⟩)) rfl rfl (xr_fieldAddr _ _ rfl rfl (bx_field2 Tryd.underlying107 rfl rfl (by kernel_rfl))) ?_
  refine st (vq8144_0) rfl rfl (xr_load _ _ rfl rfl (load_cell Tryd.underlying26 rfl (bx_cell (Ft.now HX8142) 0 rfl))) ?_
  simp only [ls0, ls1]
  obtain ⟨t8145, A8146, H⟩ := Option.bind_eq_some_iff.mp H
  (try dsimp only at H)
  refine st_call #[vq8144_0] rfl rfl Tryd.func21 (by kernel_rfl) rfl rfl (mp_ rfl) ?_
  refine (order_Order_Len.calls vq8144_0 o8139.f0 t8145  (fun z_ => pal [(0, 0)] (c z_)) w (fun _ => pal_lt rfl _) (Ft.arg HRq8144_0 rfl) A8146).mono ?_
  rintro _ w8148 ⟨C8149, rfl, hs8150⟩
  refine ⟨_, rfl, ?_⟩
  replace hs8150 := Step.lift (U := [(0, 0)]) hs8150 [] rfl rfl
  generalize up c C8149 w.heap.size [(0, 0)] = C8149_ at hs8150
  replace HX8142 := HX8142.thru hs8150 rfl
  replace HRq8144_0 := HRq8144_0.thru hs8150 rfl
  replace HS := HS.trans hs8150 hc rfl
  (try simp only [Act.put, List.setIfInBounds_toArray, ls0, ls1])
  refine st (.int .i64 0) rfl rfl (xr_move _ rfl rfl) ?_
  refine wl_end ?_
  (try simp only [Act.put, List.setIfInBounds_toArray, ls0, ls1])
  refine hK8138 _ _ ?_
  (try clear hK8138 K8138)
  refine wp_block ?_
  (try simp only [Act.put, List.setIfInBounds_toArray, ls0, ls1])
  refine wp_looped (looped_ind (fun kq8319 a_ w8318 => ∃ (C8317 : Nat → Nat) (x8313 : Int) (g8316 : Nat → Value), a_ = ⟨#[.pointer (some ⟨g8140, 0, none⟩), (g8316 1), (g8316 2), (g8316 3), (g8316 4), (g8316 5), (g8316 6), (g8316 7), (g8316 8), (g8316 9), (g8316 10), .int .i64 t8145, .int .i64 x8313, (g8316 13), (g8316 14), (g8316 15), (g8316 16), (g8316 17), (g8316 18), (g8316 19), (g8316 20), (g8316 21), (g8316 22), (g8316 23), (g8316 24), (g8316 25), (g8316 26), (g8316 27), (g8316 28), (g8316 29), (g8316 30), (g8316 31), (g8316 32), (g8316 33), (g8316 34), (g8316 35), (g8316 36), (g8316 37), (g8316 38), (g8316 39), (g8316 40), (g8316 41), (g8316 42), (g8316 43), (g8316 44), (g8316 45), (g8316 46), (g8316 47)], []⟩ ∧ Step c w C8317 w8318 [] ∧ kq8319 ≤ k ∧ (Ft C8317 [0] w8318 (fun w_ => (Kd.ptr 81 k81).K w_ o8139.f0 [vq8144_0])) ∧ (Ft C8317 [0] w8318 (fun w_ => w_.heap[g8140]? = some (.cells (List.toArray ([vq8144_0, .int .u32 o8139.f1.f0.f0, .int .i32 o8139.f1.f1.f0.f0, .int .u32 o8139.f1.f1.f0.f1] ++ (List.map (Value.int .i8) o8139.f2 ++ (List.map (Value.int .i8) o8139.f3 ++ ([.int .i64 o8139.f4.f0]))))) 107 (0, 0)))) ∧ lattice_Lattice_whole.l1 kq8319 o8139 t8145 x8313 = some (r1, r2, r3)) ?step k _ _ ?init)
  case init =>
   exact ⟨_, 0, (fun q_ => List.getD [undef, undef, .int .i64 0, .int .i64 0, .bool false, undef, undef, .pointer (some ⟨g8140, 0, none⟩), .pointer (some ⟨g8140, 0, none⟩), .pointer (some ⟨g8140, 0, none⟩), vq8144_0, undef, undef, undef, undef, undef, undef, undef, undef, undef, undef, undef, undef, undef, undef, undef, undef, undef, undef, undef, undef, undef, undef, undef, undef, undef, undef, undef, undef, undef, undef, undef, undef, undef, undef, undef, undef, undef] q_ undef), rfl, HS, Nat.le_refl _, HRq8144_0, HX8142, H⟩
  case step =>
   intro kq8319 ih8322 a8323 w8318 hr8324
   obtain ⟨C8317, x8313, g8316, rfl, HS8320, hk8321, HJ8314, HJ8315, H⟩ := hr8324
   refine looped_round ?_
   cases kq8319 with
   | zero => exact absurd H (by simp [lattice_Lattice_whole.l1])
   | succ k8325 =>
    simp only [lattice_Lattice_whole.l1] at H
    refine wp_seq_k fun K8326 hK8326 => ?_
    refine wl_region ?_
    refine st (.bool (decide (x8313 < t8145))) rfl rfl (xr_bin _ _ _ rfl rfl rfl (B.lss_i64 _ _)) ?_
    refine wl_end ?_
    (try simp only [Act.put, List.setIfInBounds_toArray, ls0, ls1])
    refine hK8326 _ _ ?_
    (try clear hK8326 K8326)
    refine wp_seq_k fun K8327 hK8327 => ?_
    by_cases c8328 : x8313 < t8145
    ·rw [if_pos c8328] at H
     (try rw [(decide_eq_true c8328)])
     (try simp only [Bool.not_true, Bool.not_false])
     refine wp_cond_true rfl ?_
     refine wp_skip ?_
     (try simp only [Act.put, List.setIfInBounds_toArray, ls0, ls1])
     refine hK8327 _ _ ?_
     (try clear hK8327 K8327)
     refine wp_seq_k fun K8329 hK8329 => ?_
     refine wp_block ?_
     refine wp_seq_k fun K8330 hK8330 => ?_
     refine wl_region ?_
     refine st (.int .i64 x8313) rfl rfl (xr_move _ rfl rfl) ?_
     refine st (.int .i64 x8313) rfl rfl (xr_assign _ rfl rfl) ?_
     refine wl_end ?_
     (try simp only [Act.put, List.setIfInBounds_toArray, ls0, ls1])
     refine hK8330 _ _ ?_
     (try clear hK8330 K8330)
     refine wp_seq_k fun K8331 hK8331 => ?_
     refine wl_region ?_
     refine st (.int .i64 x8313) rfl rfl (xr_move _ rfl rfl) ?_
     refine st (.int .i64 x8313) rfl rfl (xr_assign _ rfl rfl) ?_
     refine wl_end ?_
     (try simp only [Act.put, List.setIfInBounds_toArray, ls0, ls1])
     refine hK8331 _ _ ?_
     (try clear hK8331 K8331)
     refine wp_block ?_
     (try simp only [Act.put, List.setIfInBounds_toArray, ls0, ls1])
     refine wp_looped (looped_ind (fun kq8388 a_ w8387 => ∃ (C8386 : Nat → Nat) (x8382 : Int) (g8385 : Nat → Value), a_ = ⟨#[.pointer (some ⟨g8140, 0, none⟩), (g8385 1), (g8385 2), (g8385 3), (g8385 4), .int .i64 x8313, .int .i64 x8382, (g8385 7), (g8385 8), (g8385 9), (g8385 10), .int .i64 t8145, .int .i64 x8313, (g8385 13), (g8385 14), (g8385 15), (g8385 16), (g8385 17), (g8385 18), (g8385 19), (g8385 20), (g8385 21), (g8385 22), (g8385 23), (g8385 24), (g8385 25), (g8385 26), (g8385 27), (g8385 28), (g8385 29), (g8385 30), (g8385 31), (g8385 32), (g8385 33), (g8385 34), (g8385 35), (g8385 36), (g8385 37), (g8385 38), (g8385 39), (g8385 40), (g8385 41), (g8385 42), (g8385 43), (g8385 44), (g8385 45), (g8385 46), (g8385 47)], []⟩ ∧ Step c w C8386 w8387 [] ∧ kq8388 ≤ k8325 ∧ (Ft C8386 [0] w8387 (fun w_ => (Kd.ptr 81 k81).K w_ o8139.f0 [vq8144_0])) ∧ (Ft C8386 [0] w8387 (fun w_ => w_.heap[g8140]? = some (.cells (List.toArray ([vq8144_0, .int .u32 o8139.f1.f0.f0, .int .i32 o8139.f1.f1.f0.f0, .int .u32 o8139.f1.f1.f0.f1] ++ (List.map (Value.int .i8) o8139.f2 ++ (List.map (Value.int .i8) o8139.f3 ++ ([.int .i64 o8139.f4.f0]))))) 107 (0, 0)))) ∧ lattice_Lattice_whole.l0 kq8388 o8139 t8145 x8313 x8382 = some (r1, r2, r3)) ?step k8325 _ _ ?init)
     case init =>
      exact ⟨_, x8313, (fun q_ => List.getD [undef, (g8316 1), (g8316 2), (g8316 3), (g8316 4), undef, undef, (g8316 7), (g8316 8), (g8316 9), (g8316 10), undef, undef, .bool true, .int .i64 x8313, .int .i64 x8313, (g8316 16), (g8316 17), (g8316 18), (g8316 19), (g8316 20), (g8316 21), (g8316 22), (g8316 23), (g8316 24), (g8316 25), (g8316 26), (g8316 27), (g8316 28), (g8316 29), (g8316 30), (g8316 31), (g8316 32), (g8316 33), (g8316 34), (g8316 35), (g8316 36), (g8316 37), (g8316 38), (g8316 39), (g8316 40), (g8316 41), (g8316 42), (g8316 43), (g8316 44), (g8316 45), (g8316 46), (g8316 47)] q_ undef), rfl, HS8320, Nat.le_refl _, HJ8314, HJ8315, H⟩
     case step =>
      intro kq8388 ih8391 a8392 w8387 hr8393
      obtain ⟨C8386, x8382, g8385, rfl, HS8389, hk8390, HJ8383, HJ8384, H⟩ := hr8393
      refine looped_round ?_
      cases kq8388 with
      | zero => exact absurd H (by simp [lattice_Lattice_whole.l0])
      | succ k8394 =>
       simp only [lattice_Lattice_whole.l0] at H
       refine wp_seq_k fun K8395 hK8395 => ?_
       refine wp_seq_k fun K8396 hK8396 => ?_
       refine wl_region ?_
       refine st (.int .i64 x8382) rfl rfl (xr_move _ rfl rfl) ?_
       refine st (.pointer (some ⟨g8140, 0, none⟩)) rfl rfl (xr_move _ rfl rfl) ?_
       refine st (.pointer (some ⟨g8140, 0, none⟩)) rfl rfl (xr_nilCheck _ rfl rfl) ?_
       refine st (.pointer (some ⟨g8140, 0, none⟩)) rfl rfl (xr_fieldAddr _ _ rfl rfl (bx_field2 Tryd.underlying107 rfl rfl (by kernel_rfl))) ?_
       simp only [ls0, ls1]
       refine st (vq8144_0) rfl rfl (xr_load _ _ rfl rfl (load_cell Tryd.underlying26 rfl (bx_cell (Ft.now HJ8384) 0 rfl))) ?_
       obtain ⟨t8397, A8398, H⟩ := Option.bind_eq_some_iff.mp H
       (try dsimp only at H)
       refine st_call #[vq8144_0] rfl rfl Tryd.func21 (by kernel_rfl) rfl rfl (mp_ rfl) ?_
       refine (order_Order_Len.calls vq8144_0 o8139.f0 t8397  (fun z_ => pal [(0, 0)] (C8386 z_)) w8387 (fun _ => pal_lt rfl _) (Ft.arg HJ8383 rfl) A8398).mono ?_
       rintro _ w8400 ⟨C8401, rfl, hs8402⟩
       refine ⟨_, rfl, ?_⟩
       replace hs8402 := Step.lift (U := [(0, 0)]) hs8402 [] rfl rfl
       generalize up C8386 C8401 w8387.heap.size [(0, 0)] = C8401_ at hs8402
       replace HJ8384 := HJ8384.thru hs8402 rfl
       replace HJ8383 := HJ8383.thru hs8402 rfl
       replace HS8389 := HS8389.trans hs8402 hc rfl
       (try simp only [Act.put, List.setIfInBounds_toArray, ls0, ls1])
       refine st (.bool (decide (x8382 < t8397))) rfl rfl (xr_bin _ _ _ rfl rfl rfl (B.lss_i64 _ _)) ?_
       refine wl_end ?_
       (try simp only [Act.put, List.setIfInBounds_toArray, ls0, ls1])
       refine hK8396 _ _ ?_
       (try clear hK8396 K8396)
       by_cases c8403 : x8382 < t8397
       ·rw [if_pos c8403] at H
        (try rw [(decide_eq_true c8403)])
        (try simp only [Bool.not_true, Bool.not_false])
        refine wp_cond_true rfl ?_
        refine wp_skip ?_
        (try simp only [Act.put, List.setIfInBounds_toArray, ls0, ls1])
        refine hK8395 _ _ ?_
        (try clear hK8395 K8395)
        refine wp_seq_k fun K8404 hK8404 => ?_
        refine wp_block ?_
        refine wp_seq_k fun K8405 hK8405 => ?_
        refine wl_region ?_
        refine st (.pointer (some ⟨g8140, 0, none⟩)) rfl rfl (xr_move _ rfl rfl) ?_
        refine st (.int .i64 x8313) rfl rfl (xr_move _ rfl rfl) ?_
        simp only [ls0, ls1]
        refine st (.int .i64 x8382) rfl rfl (xr_move _ rfl rfl) ?_
        refine st (.pointer (some ⟨g8140, 0, none⟩)) rfl rfl (xr_nilCheck _ rfl rfl) ?_
        refine st (.pointer (some ⟨g8140, 4, none⟩)) rfl rfl (xr_fieldAddr _ _ rfl rfl (bx_field2 Tryd.underlying107 rfl rfl (by kernel_rfl))) ?_
        by_cases c8411 : 0 ≤ x8313
        ·rw [if_pos c8411] at H
         by_cases c8412 : x8313 < 64
         ·rw [if_pos c8412] at H
          refine st (.pointer (some ⟨g8140, 4 + ((x8313 : Int).toNat * 64), none⟩)) rfl rfl (xr_indexAddr _ _ _ rfl rfl rfl (arr_index (sz := 64) Tryd.underlying102 (by kernel_rfl) (by first | assumption | decide | omega) (by first | assumption | decide | omega) (by omega))) ?_
          simp only [ls0, ls1]
          by_cases c8413 : 0 ≤ x8382
          ·rw [if_pos c8413] at H
           by_cases c8414 : x8382 < 64
           ·rw [if_pos c8414] at H
            refine st (.pointer (some ⟨g8140, 4 + ((x8313 : Int).toNat * 64 + (x8382 : Int).toNat), none⟩)) rfl rfl (xr_indexAddr _ _ _ rfl rfl rfl (arr_index (sz := 1) Tryd.underlying100 (by kernel_rfl) (by first | assumption | decide | omega) (by first | assumption | decide | omega) (by omega))) ?_
            refine st (.int .i8 (List.getD o8139.f2 ((x8313 : Int).toNat * 64 + (x8382 : Int).toNat) 0)) rfl rfl (xr_load _ _ rfl rfl (arr_load (o := 4) (N := 4096) (pre := [vq8144_0, .int .u32 o8139.f1.f0.f0, .int .i32 o8139.f1.f1.f0.f0, .int .u32 o8139.f1.f1.f0.f1]) (post := List.map (Value.int .i8) o8139.f3 ++ ([.int .i64 o8139.f4.f0])) (enc := (Value.int .i8)) (l := o8139.f2) (i := (x8313 : Int).toNat * 64 + (x8382 : Int).toNat) 0 Tryd.underlying99 rfl (Ft.now HJ8384) (by first | (simp only [List.append_assoc, List.cons_append, List.nil_append, List.append_nil]; done) | rfl) rfl HLq8144_4 (by omega) (by omega))) ?_
            refine st (.bool (decide ((List.getD o8139.f2 ((x8313 : Int).toNat * 64 + (x8382 : Int).toNat) 0) = (-1)))) rfl rfl (xr_bin _ _ _ rfl rfl rfl (B.eql_i8 _ _)) ?_
            refine st (.bool (decide ((List.getD o8139.f2 ((x8313 : Int).toNat * 64 + (x8382 : Int).toNat) 0) = (-1)))) rfl rfl (xr_move _ rfl rfl) ?_
            simp only [ls0, ls1]
            by_cases c8415 : (List.getD o8139.f2 ((x8313 : Int).toNat * 64 + (x8382 : Int).toNat) 0) = (-1)
            ·rw [if_pos c8415] at H
             (try rw [(decide_eq_true c8415)])
             (try simp only [Bool.not_true, Bool.not_false])
             refine sk_guard (guard_off 9 false 34 rfl rfl true (by decide) rfl) rfl ?_
             refine sk_guard (guard_off 9 false 34 rfl rfl true (by decide) rfl) rfl ?_
             refine sk_guard (guard_off 9 false 34 rfl rfl true (by decide) rfl) rfl ?_
             refine sk_guard (guard_off 9 false 34 rfl rfl true (by decide) rfl) rfl ?_
             simp only [ls0, ls1]
             refine sk_guard (guard_off 9 false 34 rfl rfl true (by decide) rfl) rfl ?_
             refine sk_guard (guard_off 9 false 34 rfl rfl true (by decide) rfl) rfl ?_
             refine sk_guard (guard_off 9 false 34 rfl rfl true (by decide) rfl) rfl ?_
             refine sk_guard (guard_off 9 false 34 rfl rfl true (by decide) rfl) rfl ?_
             simp only [ls0, ls1]
             refine sk_guard (guard_off 9 false 34 rfl rfl true (by decide) rfl) rfl ?_
             refine st (.bool true) rfl rfl (xr_pick true _ rfl rfl rfl) ?_
             refine wl_end ?_
             (try simp only [Act.put, List.setIfInBounds_toArray, ls0, ls1])
             refine hK8405 _ _ ?_
             (try clear hK8405 K8405)
             refine wp_cond_true rfl ?_
             refine wp_seq_k fun K8416 hK8416 => ?_
             refine wl_region ?_
             refine st (.int .i64 x8313) rfl rfl (xr_move _ rfl rfl) ?_
             refine st (.int .i64 x8382) rfl rfl (xr_move _ rfl rfl) ?_
             refine st (.int .i64 x8313) rfl rfl (xr_assign _ rfl rfl) ?_
             refine st (.int .i64 x8382) rfl rfl (xr_assign _ rfl rfl) ?_
             simp only [ls0, ls1]
             refine st (.bool false) rfl rfl (xr_assign _ rfl rfl) ?_
             refine wl_end ?_
             (try simp only [Act.put, List.setIfInBounds_toArray, ls0, ls1])
             refine hK8416 _ _ ?_
             (try clear hK8416 K8416)
             refine wp_ret ?_
             (try simp only [Exit.inBlock, Exit.then, Exit.noGoto])
             (try simp only [Act.put, List.setIfInBounds_toArray, ls0, ls1])
             simp only [Option.some.injEq, Prod.mk.injEq] at H
             obtain ⟨rfl, rfl, rfl⟩ := H
             refine bodyPost_ret (results_tmp3 rfl _ _ _) rfl ?_
             exact ⟨_, rfl, HS8389⟩
            ·rw [if_neg c8415] at H
             (try rw [(decide_eq_false c8415)])
             (try simp only [Bool.not_true, Bool.not_false])
             refine on_guard (guard_on 9 false 34 rfl rfl rfl) ?_
             refine st (.pointer (some ⟨g8140, 0, none⟩)) rfl rfl (xr_move _ rfl rfl) ?_
             refine on_guard (guard_on 9 false 34 rfl rfl rfl) ?_
             refine st (.int .i64 x8313) rfl rfl (xr_move _ rfl rfl) ?_
             refine on_guard (guard_on 9 false 34 rfl rfl rfl) ?_
             refine st (.int .i64 x8382) rfl rfl (xr_move _ rfl rfl) ?_
             refine on_guard (guard_on 9 false 34 rfl rfl rfl) ?_
             refine st (.pointer (some ⟨g8140, 0, none⟩)) rfl rfl (xr_nilCheck _ rfl rfl) ?_
             simp only [ls0, ls1]
             refine on_guard (guard_on 9 false 34 rfl rfl rfl) ?_
             refine st (.pointer (some ⟨g8140, 4100, none⟩)) rfl rfl (xr_fieldAddr _ _ rfl rfl (bx_field2 Tryd.underlying107 rfl rfl (by kernel_rfl))) ?_
             refine on_guard (guard_on 9 false 34 rfl rfl rfl) ?_
             refine st (.pointer (some ⟨g8140, 4100 + ((x8313 : Int).toNat * 64), none⟩)) rfl rfl (xr_indexAddr _ _ _ rfl rfl rfl (arr_index (sz := 64) Tryd.underlying102 (by kernel_rfl) (by first | assumption | decide | omega) (by first | assumption | decide | omega) (by omega))) ?_
             refine on_guard (guard_on 9 false 34 rfl rfl rfl) ?_
             refine st (.pointer (some ⟨g8140, 4100 + ((x8313 : Int).toNat * 64 + (x8382 : Int).toNat), none⟩)) rfl rfl (xr_indexAddr _ _ _ rfl rfl rfl (arr_index (sz := 1) Tryd.underlying100 (by kernel_rfl) (by first | assumption | decide | omega) (by first | assumption | decide | omega) (by omega))) ?_
             refine on_guard (guard_on 9 false 34 rfl rfl rfl) ?_
             refine st (.int .i8 (List.getD o8139.f3 ((x8313 : Int).toNat * 64 + (x8382 : Int).toNat) 0)) rfl rfl (xr_load _ _ rfl rfl (arr_load (o := 4100) (N := 4096) (pre := [vq8144_0, .int .u32 o8139.f1.f0.f0, .int .i32 o8139.f1.f1.f0.f0, .int .u32 o8139.f1.f1.f0.f1] ++ (List.map (Value.int .i8) o8139.f2)) (post := [.int .i64 o8139.f4.f0]) (enc := (Value.int .i8)) (l := o8139.f3) (i := (x8313 : Int).toNat * 64 + (x8382 : Int).toNat) 0 Tryd.underlying99 rfl (Ft.now HJ8384) (by first | (simp only [List.append_assoc, List.cons_append, List.nil_append, List.append_nil]; done) | rfl) (by simp [HLq8144_4]) HLq8144_5 (by omega) (by omega))) ?_
             simp only [ls0, ls1]
             refine on_guard (guard_on 9 false 34 rfl rfl rfl) ?_
             refine st (.bool (decide ((List.getD o8139.f3 ((x8313 : Int).toNat * 64 + (x8382 : Int).toNat) 0) = (-1)))) rfl rfl (xr_bin _ _ _ rfl rfl rfl (B.eql_i8 _ _)) ?_
             refine st (.bool (decide ((List.getD o8139.f3 ((x8313 : Int).toNat * 64 + (x8382 : Int).toNat) 0) = (-1)))) rfl rfl (xr_pick false _ rfl rfl rfl) ?_
             refine wl_end ?_
             (try simp only [Act.put, List.setIfInBounds_toArray, ls0, ls1])
             refine hK8405 _ _ ?_
             (try clear hK8405 K8405)
             by_cases c8417 : (List.getD o8139.f3 ((x8313 : Int).toNat * 64 + (x8382 : Int).toNat) 0) = (-1)
             ·rw [if_pos c8417] at H
              (try rw [(decide_eq_true c8417)])
              (try simp only [Bool.not_true, Bool.not_false])
              refine wp_cond_true rfl ?_
              refine wp_seq_k fun K8418 hK8418 => ?_
              refine wl_region ?_
              refine st (.int .i64 x8313) rfl rfl (xr_move _ rfl rfl) ?_
              refine st (.int .i64 x8382) rfl rfl (xr_move _ rfl rfl) ?_
              refine st (.int .i64 x8313) rfl rfl (xr_assign _ rfl rfl) ?_
              refine st (.int .i64 x8382) rfl rfl (xr_assign _ rfl rfl) ?_
              simp only [ls0, ls1]
              refine st (.bool false) rfl rfl (xr_assign _ rfl rfl) ?_
              refine wl_end ?_
              (try simp only [Act.put, List.setIfInBounds_toArray, ls0, ls1])
              refine hK8418 _ _ ?_
              (try clear hK8418 K8418)
              refine wp_ret ?_
              (try simp only [Exit.inBlock, Exit.then, Exit.noGoto])
              (try simp only [Act.put, List.setIfInBounds_toArray, ls0, ls1])
              simp only [Option.some.injEq, Prod.mk.injEq] at H
              obtain ⟨rfl, rfl, rfl⟩ := H
              refine bodyPost_ret (results_tmp3 rfl _ _ _) rfl ?_
              exact ⟨_, rfl, HS8389⟩
             ·rw [if_neg c8417] at H
              (try rw [(decide_eq_false c8417)])
              (try simp only [Bool.not_true, Bool.not_false])
              refine wp_cond_false rfl ?_
              refine wp_skip ?_
              (try simp only [Act.put, List.setIfInBounds_toArray, ls0, ls1])
              refine hK8404 _ _ ?_
              (try clear hK8404 K8404)
              refine wl_region ?_
              refine st (.int .i64 x8382) rfl rfl (xr_move _ rfl rfl) ?_
              refine st (.int .i64 (wrap64 (x8382 + 1))) rfl rfl (xr_bin _ _ _ rfl rfl rfl (B.add_i64 _ _)) ?_
              refine st (.int .i64 (wrap64 (x8382 + 1))) rfl rfl (xr_assign _ rfl rfl) ?_
              refine wl_end ?_
              (try simp only [Act.put, List.setIfInBounds_toArray, ls0, ls1])
              exact ih8391 k8394 (by omega) _ _ ⟨_, wrap64 (x8382 + 1), (fun q_ => List.getD [undef, (g8385 1), (g8385 2), (g8385 3), (g8385 4), undef, undef, (g8385 7), (g8385 8), (g8385 9), (g8385 10), undef, undef, (g8385 13), (g8385 14), (g8385 15), .int .i64 x8382, .pointer (some ⟨g8140, 0, none⟩), .pointer (some ⟨g8140, 0, none⟩), .pointer (some ⟨g8140, 0, none⟩), vq8144_0, .int .i64 t8397, .bool true, .int .i64 x8382, .int .i64 (wrap64 (x8382 + 1)), .pointer (some ⟨g8140, 0, none⟩), .int .i64 x8313, .int .i64 x8382, .pointer (some ⟨g8140, 0, none⟩), .pointer (some ⟨g8140, 4, none⟩), .pointer (some ⟨g8140, 4 + ((x8313 : Int).toNat * 64), none⟩), .pointer (some ⟨g8140, 4 + ((x8313 : Int).toNat * 64 + (x8382 : Int).toNat), none⟩), .int .i8 (List.getD o8139.f2 ((x8313 : Int).toNat * 64 + (x8382 : Int).toNat) 0), .bool false, .bool false, .pointer (some ⟨g8140, 0, none⟩), .int .i64 x8313, .int .i64 x8382, .pointer (some ⟨g8140, 0, none⟩), .pointer (some ⟨g8140, 4100, none⟩), .pointer (some ⟨g8140, 4100 + ((x8313 : Int).toNat * 64), none⟩), .pointer (some ⟨g8140, 4100 + ((x8313 : Int).toNat * 64 + (x8382 : Int).toNat), none⟩), .int .i8 (List.getD o8139.f3 ((x8313 : Int).toNat * 64 + (x8382 : Int).toNat) 0), .bool false, .bool false, (g8385 45), (g8385 46), (g8385 47)] q_ undef), rfl, HS8389, (by omega), HJ8383, HJ8384, H⟩
           ·rw [if_neg c8414] at H
            exact absurd H (by simp)
          ·rw [if_neg c8413] at H
           exact absurd H (by simp)
         ·rw [if_neg c8412] at H
          exact absurd H (by simp)
        ·rw [if_neg c8411] at H
         exact absurd H (by simp)
       ·rw [if_neg c8403] at H
        (try rw [(decide_eq_false c8403)])
        (try simp only [Bool.not_true, Bool.not_false])
        refine wp_cond_false rfl ?_
        refine wp_exit ?_
        (try simp only [Act.put, List.setIfInBounds_toArray, ls0, ls1])
        refine hK8329 _ _ ?_
        (try clear hK8329 K8329)
        refine wl_region ?_
        refine st (.int .i64 (wrap64 (x8313 + 1))) rfl rfl (xr_bin _ _ _ rfl rfl rfl (B.add_i64 _ _)) ?_
        refine st (.int .i64 (wrap64 (x8313 + 1))) rfl rfl (xr_move _ rfl rfl) ?_
        refine wl_end ?_
        (try simp only [Act.put, List.setIfInBounds_toArray, ls0, ls1])
        exact ih8322 k8394 (by omega) _ _ ⟨_, wrap64 (x8313 + 1), (fun q_ => List.getD [undef, (g8385 1), (g8385 2), (g8385 3), (g8385 4), .int .i64 x8313, .int .i64 x8382, (g8385 7), (g8385 8), (g8385 9), (g8385 10), undef, undef, (g8385 13), (g8385 14), (g8385 15), .int .i64 x8382, .pointer (some ⟨g8140, 0, none⟩), .pointer (some ⟨g8140, 0, none⟩), .pointer (some ⟨g8140, 0, none⟩), vq8144_0, .int .i64 t8397, .bool false, (g8385 23), (g8385 24), (g8385 25), (g8385 26), (g8385 27), (g8385 28), (g8385 29), (g8385 30), (g8385 31), (g8385 32), (g8385 33), (g8385 34), (g8385 35), (g8385 36), (g8385 37), (g8385 38), (g8385 39), (g8385 40), (g8385 41), (g8385 42), (g8385 43), (g8385 44), (g8385 45), (g8385 46), .int .i64 (wrap64 (x8313 + 1))] q_ undef), rfl, HS8389, (by omega), HJ8383, HJ8384, H⟩
    ·rw [if_neg c8328] at H
     (try rw [(decide_eq_false c8328)])
     (try simp only [Bool.not_true, Bool.not_false])
     refine wp_cond_false rfl ?_
     refine wp_exit ?_
     (try simp only [Act.put, List.setIfInBounds_toArray, ls0, ls1])
     refine hK8137 _ _ ?_
     (try clear hK8137 K8137)
     refine wp_seq_k fun K8419 hK8419 => ?_
     refine wl_region ?_
     refine st (.int .i64 0) rfl rfl (xr_assign _ rfl rfl) ?_
     refine st (.int .i64 0) rfl rfl (xr_assign _ rfl rfl) ?_
     refine st (.bool true) rfl rfl (xr_assign _ rfl rfl) ?_
     refine wl_end ?_
     (try simp only [Act.put, List.setIfInBounds_toArray, ls0, ls1])
     refine hK8419 _ _ ?_
     (try clear hK8419 K8419)
     refine wp_ret ?_
     (try simp only [Exit.inBlock, Exit.then, Exit.noGoto])
     (try simp only [Act.put, List.setIfInBounds_toArray, ls0, ls1])
     simp only [Option.some.injEq, Prod.mk.injEq] at H
     obtain ⟨rfl, rfl, rfl⟩ := H
     refine bodyPost_ret (results_tmp3 rfl _ _ _) rfl ?_
     exact ⟨_, rfl, HS8320⟩

/-! ### lattice_Lattice_spreads: function 59 -/
mutual
def lattice_Lattice_spreads.l0 : Nat → S107 → Int → Int → Int → Int → Option (Int × Int × Bool)
  | 0, _, _, _, _, _ => none
  | k + 1, o9296, t9302, x9874, x10068, x10133 => if x10133 < t9302 then (if 0 ≤ x10068 then (if x10068 < 64 then (if 0 ≤ x10133 then (if x10133 < 64 then (if 0 ≤ x9874 then (if x9874 < 64 then (if 0 ≤ (List.getD o9296.f2 ((x10068 : Int).toNat * 64 + (x10133 : Int).toNat) 0) then (if (List.getD o9296.f2 ((x10068 : Int).toNat * 64 + (x10133 : Int).toNat) 0) < 64 then (if 0 ≤ (List.getD o9296.f3 ((x9874 : Int).toNat * 64 + (x10068 : Int).toNat) 0) then (if (List.getD o9296.f3 ((x9874 : Int).toNat * 64 + (x10068 : Int).toNat) 0) < 64 then (if 0 ≤ (List.getD o9296.f3 ((x9874 : Int).toNat * 64 + (x10133 : Int).toNat) 0) then (if (List.getD o9296.f3 ((x9874 : Int).toNat * 64 + (x10133 : Int).toNat) 0) < 64 then (if (List.getD o9296.f3 ((x9874 : Int).toNat * 64 + (List.getD o9296.f2 ((x10068 : Int).toNat * 64 + (x10133 : Int).toNat) 0 : Int).toNat) 0) = (List.getD o9296.f2 ((List.getD o9296.f3 ((x9874 : Int).toNat * 64 + (x10068 : Int).toNat) 0 : Int).toNat * 64 + (List.getD o9296.f3 ((x9874 : Int).toNat * 64 + (x10133 : Int).toNat) 0 : Int).toNat) 0) then (lattice_Lattice_spreads.l0 k o9296 t9302 x9874 x10068 (wrap64 (x10133 + 1))) else (some (x9874, x10068, false))) else (none)) else (none)) else (none)) else (none)) else (none)) else (none)) else (none)) else (none)) else (none)) else (none)) else (none)) else (none)) else (lattice_Lattice_spreads.l1 k o9296 t9302 x9874 (wrap64 (x10068 + 1)))
def lattice_Lattice_spreads.l1 : Nat → S107 → Int → Int → Int → Option (Int × Int × Bool)
  | 0, _, _, _, _ => none
  | k + 1, o9296, t9302, x9874, x10068 => if x10068 < t9302 then (lattice_Lattice_spreads.l0 k o9296 t9302 x9874 x10068 0) else (lattice_Lattice_spreads.l2 k o9296 t9302 (wrap64 (x9874 + 1)))
def lattice_Lattice_spreads.l2 : Nat → S107 → Int → Int → Option (Int × Int × Bool)
  | 0, _, _, _ => none
  | k + 1, o9296, t9302, x9874 => if x9874 < t9302 then (lattice_Lattice_spreads.l1 k o9296 t9302 x9874 0) else (some (0, 0, true))
end
def lattice_Lattice_spreads.f (k : Nat) (x0 : Option S107) : Option (Int × Int × Bool) := onOpt x0 (none) (fun o9296 => ((order_Order_Len.f o9296.f0).bind fun t9302 => (lattice_Lattice_spreads.l2 k o9296 t9302 0)))

set_option maxHeartbeats 2000000 in
set_option maxRecDepth 100000 in
theorem lattice_Lattice_spreads.calls (k : Nat) (v0 : Value) (x0 : Option S107) (r1 : Int) (r2 : Int) (r3 : Bool) (c : Nat → Nat) (w : World) (hc : ∀ k, c k < 10) (HP0 : Ft c [0] w (fun w_ => (Kd.ptr 107 k107).K w_ x0 [v0])) (H : lattice_Lattice_spreads.f k x0 = some (r1, r2, r3)) :
    Calls Tryd.prog 59 #[v0] w fun e w' => ∃ (c' : Nat → Nat) , e = .returned (.tuple #[.int .i64 r1, .int .i64 r2, .bool r3]) ∧ Step c w c' w' [] := by
 unfold lattice_Lattice_spreads.f at H
 have HS := Step.refl c w []
 go_enter Tryd.func59, Tryd.ntmps59
 refine wp_seq_k fun K9294 hK9294 => ?_
 refine wl_region ?_
 refine st (.int .i64 0) rfl rfl (xr_assign _ rfl rfl) ?_
 refine st (.int .i64 0) rfl rfl (xr_assign _ rfl rfl) ?_
 refine st (.bool false) rfl rfl (xr_assign _ rfl rfl) ?_
 refine wl_end ?_
 (try simp only [Act.put, List.setIfInBounds_toArray, ls0, ls1])
 refine hK9294 _ _ ?_
 (try clear hK9294 K9294)
 refine wp_seq_k fun K9295 hK9295 => ?_
 refine wl_region ?_
 refine st (v0) rfl rfl (xr_move _ rfl rfl) ?_
 cases x0 with
 | none =>
  (try simp only [onOpt] at H)
  obtain rfl := ptr_none HP0
  exact absurd H (by simp)
 | some o9296 =>
  (try simp only [onOpt] at H)
  obtain ⟨g9297, cs9298, rfl, HX9299, HK9300⟩ := ptr_some HP0
  obtain ⟨vq9301_0, rfl, HRq9301_0, HLq9301_4, HLq9301_5⟩ := k107_openF HK9300
  replace HRq9301_0 : Ft c [0] w (fun w_ => (Kd.ptr 81 k81).K w_ o9296.f0 [vq9301_0]) := HRq9301_0
  refine st (.pointer (some ⟨g9297, 0, none⟩)) rfl rfl (xr_nilCheck _ rfl rfl) ?_
  refine st (.pointer (some ⟨g9297, 0, none⟩)) rfl rfl (xr_fieldAddr _ _ rfl rfl (bx_field2 Tryd.underlying107 rfl rfl (by kernel_rfl))) ?_
  refine st (vq9301_0) rfl rfl (xr_load _ _ rfl rfl (load_cell Tryd.underlying26 rfl (bx_cell (Ft.now HX9299) 0 rfl))) ?_
  simp only [ls0, ls1]
  obtain ⟨t9302, A9303, H⟩ := Option.bind_eq_some_iff.mp H
  (try dsimp only at H)
  refine st_call #[vq9301_0] rfl rfl Tryd.func21 (by kernel_rfl) rfl rfl (mp_ rfl) ?_
  refine (order_Order_Len.calls vq9301_0 o9296.f0 t9302  (fun z_ => pal [(0, 0)] (c z_)) w (fun _ => pal_lt rfl _) (Ft.arg HRq9301_0 rfl) A9303).mono ?_
  rintro _ w9305 ⟨C9306, rfl, hs9307⟩
  refine ⟨_, rfl, ?_⟩
  replace hs9307 := Step.lift (U := [(0, 0)]) hs9307 [] rfl rfl
  generalize up c C9306 w.heap.size [(0, 0)] = C9306_ at hs9307
  replace HX9299 := HX9299.thru hs9307 rfl
  replace HRq9301_0 := HRq9301_0.thru hs9307 rfl
  replace HS := HS.trans hs9307 hc rfl
  (try simp only [Act.put, List.setIfInBounds_toArray, ls0, ls1])
  refine st (.int .i64 t9302) rfl rfl (xr_assign _ rfl rfl) ?_
  refine wl_end ?_
  (try simp only [Act.put, List.setIfInBounds_toArray, ls0, ls1])
  refine hK9295 _ _ ?_
  (try clear hK9295 K9295)
  refine wp_seq_k fun K9308 hK9308 => ?_
  refine wp_seq_k fun K9309 hK9309 => ?_
  refine wl_region ?_
  refine st (.int .i64 t9302) rfl rfl (xr_move _ rfl rfl) ?_
  refine st (.int .i64 0) rfl rfl (xr_move _ rfl rfl) ?_
  refine wl_end ?_
  (try simp only [Act.put, List.setIfInBounds_toArray, ls0, ls1])
  refine hK9309 _ _ ?_
  (try clear hK9309 K9309)
  refine wp_block ?_
  (try simp only [Act.put, List.setIfInBounds_toArray, ls0, ls1])
  refine wp_looped (looped_ind (fun kq9880 a_ w9879 => ∃ (C9878 : Nat → Nat) (x9874 : Int) (g9877 : Nat → Value), a_ = ⟨#[.pointer (some ⟨g9297, 0, none⟩), (g9877 1), (g9877 2), (g9877 3), (g9877 4), .int .i64 t9302, (g9877 6), (g9877 7), (g9877 8), (g9877 9), (g9877 10), (g9877 11), (g9877 12), (g9877 13), .int .i64 t9302, .int .i64 x9874, (g9877 16), (g9877 17), (g9877 18), (g9877 19), (g9877 20), (g9877 21), (g9877 22), (g9877 23), (g9877 24), (g9877 25), (g9877 26), (g9877 27), (g9877 28), (g9877 29), (g9877 30), (g9877 31), (g9877 32), (g9877 33), (g9877 34), (g9877 35), (g9877 36), (g9877 37), (g9877 38), (g9877 39), (g9877 40), (g9877 41), (g9877 42), (g9877 43), (g9877 44), (g9877 45), (g9877 46), (g9877 47), (g9877 48), (g9877 49), (g9877 50), (g9877 51), (g9877 52), (g9877 53), (g9877 54), (g9877 55), (g9877 56), (g9877 57), (g9877 58), (g9877 59), (g9877 60), (g9877 61), (g9877 62), (g9877 63), (g9877 64), (g9877 65), (g9877 66), (g9877 67), (g9877 68)], []⟩ ∧ Step c w C9878 w9879 [] ∧ kq9880 ≤ k ∧ (Ft C9878 [0] w9879 (fun w_ => (Kd.ptr 81 k81).K w_ o9296.f0 [vq9301_0])) ∧ (Ft C9878 [0] w9879 (fun w_ => w_.heap[g9297]? = some (.cells (List.toArray ([vq9301_0, .int .u32 o9296.f1.f0.f0, .int .i32 o9296.f1.f1.f0.f0, .int .u32 o9296.f1.f1.f0.f1] ++ (List.map (Value.int .i8) o9296.f2 ++ (List.map (Value.int .i8) o9296.f3 ++ ([.int .i64 o9296.f4.f0]))))) 107 (0, 0)))) ∧ lattice_Lattice_spreads.l2 kq9880 o9296 t9302 x9874 = some (r1, r2, r3)) ?step k _ _ ?init)
  case init =>
   exact ⟨_, 0, (fun q_ => List.getD [undef, undef, .int .i64 0, .int .i64 0, .bool false, undef, undef, undef, undef, .pointer (some ⟨g9297, 0, none⟩), .pointer (some ⟨g9297, 0, none⟩), .pointer (some ⟨g9297, 0, none⟩), vq9301_0, .int .i64 t9302, undef, undef, undef, undef, undef, undef, undef, undef, undef, undef, undef, undef, undef, undef, undef, undef, undef, undef, undef, undef, undef, undef, undef, undef, undef, undef, undef, undef, undef, undef, undef, undef, undef, undef, undef, undef, undef, undef, undef, undef, undef, undef, undef, undef, undef, undef, undef, undef, undef, undef, undef, undef, undef, undef, undef] q_ undef), rfl, HS, Nat.le_refl _, HRq9301_0, HX9299, H⟩
  case step =>
   intro kq9880 ih9883 a9884 w9879 hr9885
   obtain ⟨C9878, x9874, g9877, rfl, HS9881, hk9882, HJ9875, HJ9876, H⟩ := hr9885
   refine looped_round ?_
   cases kq9880 with
   | zero => exact absurd H (by simp [lattice_Lattice_spreads.l2])
   | succ k9886 =>
    simp only [lattice_Lattice_spreads.l2] at H
    refine wp_seq_k fun K9887 hK9887 => ?_
    refine wl_region ?_
    refine st (.bool (decide (x9874 < t9302))) rfl rfl (xr_bin _ _ _ rfl rfl rfl (B.lss_i64 _ _)) ?_
    refine wl_end ?_
    (try simp only [Act.put, List.setIfInBounds_toArray, ls0, ls1])
    refine hK9887 _ _ ?_
    (try clear hK9887 K9887)
    refine wp_seq_k fun K9888 hK9888 => ?_
    by_cases c9889 : x9874 < t9302
    ·rw [if_pos c9889] at H
     (try rw [(decide_eq_true c9889)])
     (try simp only [Bool.not_true, Bool.not_false])
     refine wp_cond_true rfl ?_
     refine wp_skip ?_
     (try simp only [Act.put, List.setIfInBounds_toArray, ls0, ls1])
     refine hK9888 _ _ ?_
     (try clear hK9888 K9888)
     refine wp_seq_k fun K9890 hK9890 => ?_
     refine wp_block ?_
     refine wp_seq_k fun K9891 hK9891 => ?_
     refine wl_region ?_
     refine st (.int .i64 x9874) rfl rfl (xr_move _ rfl rfl) ?_
     refine st (.int .i64 x9874) rfl rfl (xr_assign _ rfl rfl) ?_
     refine wl_end ?_
     (try simp only [Act.put, List.setIfInBounds_toArray, ls0, ls1])
     refine hK9891 _ _ ?_
     (try clear hK9891 K9891)
     refine wp_seq_k fun K9892 hK9892 => ?_
     refine wl_region ?_
     refine st (.int .i64 t9302) rfl rfl (xr_move _ rfl rfl) ?_
     refine st (.int .i64 0) rfl rfl (xr_move _ rfl rfl) ?_
     refine wl_end ?_
     (try simp only [Act.put, List.setIfInBounds_toArray, ls0, ls1])
     refine hK9892 _ _ ?_
     (try clear hK9892 K9892)
     refine wp_block ?_
     (try simp only [Act.put, List.setIfInBounds_toArray, ls0, ls1])
     refine wp_looped (looped_ind (fun kq10074 a_ w10073 => ∃ (C10072 : Nat → Nat) (x10068 : Int) (g10071 : Nat → Value), a_ = ⟨#[.pointer (some ⟨g9297, 0, none⟩), (g10071 1), (g10071 2), (g10071 3), (g10071 4), .int .i64 t9302, .int .i64 x9874, (g10071 7), (g10071 8), (g10071 9), (g10071 10), (g10071 11), (g10071 12), (g10071 13), .int .i64 t9302, .int .i64 x9874, (g10071 16), (g10071 17), .int .i64 t9302, .int .i64 x10068, (g10071 20), (g10071 21), (g10071 22), (g10071 23), (g10071 24), (g10071 25), (g10071 26), (g10071 27), (g10071 28), (g10071 29), (g10071 30), (g10071 31), (g10071 32), (g10071 33), (g10071 34), (g10071 35), (g10071 36), (g10071 37), (g10071 38), (g10071 39), (g10071 40), (g10071 41), (g10071 42), (g10071 43), (g10071 44), (g10071 45), (g10071 46), (g10071 47), (g10071 48), (g10071 49), (g10071 50), (g10071 51), (g10071 52), (g10071 53), (g10071 54), (g10071 55), (g10071 56), (g10071 57), (g10071 58), (g10071 59), (g10071 60), (g10071 61), (g10071 62), (g10071 63), (g10071 64), (g10071 65), (g10071 66), (g10071 67), (g10071 68)], []⟩ ∧ Step c w C10072 w10073 [] ∧ kq10074 ≤ k9886 ∧ (Ft C10072 [0] w10073 (fun w_ => (Kd.ptr 81 k81).K w_ o9296.f0 [vq9301_0])) ∧ (Ft C10072 [0] w10073 (fun w_ => w_.heap[g9297]? = some (.cells (List.toArray ([vq9301_0, .int .u32 o9296.f1.f0.f0, .int .i32 o9296.f1.f1.f0.f0, .int .u32 o9296.f1.f1.f0.f1] ++ (List.map (Value.int .i8) o9296.f2 ++ (List.map (Value.int .i8) o9296.f3 ++ ([.int .i64 o9296.f4.f0]))))) 107 (0, 0)))) ∧ lattice_Lattice_spreads.l1 kq10074 o9296 t9302 x9874 x10068 = some (r1, r2, r3)) ?step k9886 _ _ ?init)
     case init =>
      exact ⟨_, 0, (fun q_ => List.getD [undef, (g9877 1), (g9877 2), (g9877 3), (g9877 4), undef, undef, (g9877 7), (g9877 8), (g9877 9), (g9877 10), (g9877 11), (g9877 12), (g9877 13), undef, undef, .bool true, .int .i64 x9874, undef, undef, (g9877 20), (g9877 21), (g9877 22), (g9877 23), (g9877 24), (g9877 25), (g9877 26), (g9877 27), (g9877 28), (g9877 29), (g9877 30), (g9877 31), (g9877 32), (g9877 33), (g9877 34), (g9877 35), (g9877 36), (g9877 37), (g9877 38), (g9877 39), (g9877 40), (g9877 41), (g9877 42), (g9877 43), (g9877 44), (g9877 45), (g9877 46), (g9877 47), (g9877 48), (g9877 49), (g9877 50), (g9877 51), (g9877 52), (g9877 53), (g9877 54), (g9877 55), (g9877 56), (g9877 57), (g9877 58), (g9877 59), (g9877 60), (g9877 61), (g9877 62), (g9877 63), (g9877 64), (g9877 65), (g9877 66), (g9877 67), (g9877 68)] q_ undef), rfl, HS9881, Nat.le_refl _, HJ9875, HJ9876, H⟩
     case step =>
      intro kq10074 ih10077 a10078 w10073 hr10079
      obtain ⟨C10072, x10068, g10071, rfl, HS10075, hk10076, HJ10069, HJ10070, H⟩ := hr10079
      refine looped_round ?_
      cases kq10074 with
      | zero => exact absurd H (by simp [lattice_Lattice_spreads.l1])
      | succ k10080 =>
       simp only [lattice_Lattice_spreads.l1] at H
       refine wp_seq_k fun K10081 hK10081 => ?_
       refine wl_region ?_
       refine st (.bool (decide (x10068 < t9302))) rfl rfl (xr_bin _ _ _ rfl rfl rfl (B.lss_i64 _ _)) ?_
       refine wl_end ?_
       (try simp only [Act.put, List.setIfInBounds_toArray, ls0, ls1])
       refine hK10081 _ _ ?_
       (try clear hK10081 K10081)
       refine wp_seq_k fun K10082 hK10082 => ?_
       by_cases c10083 : x10068 < t9302
       ·rw [if_pos c10083] at H
        (try rw [(decide_eq_true c10083)])
        (try simp only [Bool.not_true, Bool.not_false])
        refine wp_cond_true rfl ?_
        refine wp_skip ?_
        (try simp only [Act.put, List.setIfInBounds_toArray, ls0, ls1])
        refine hK10082 _ _ ?_
        (try clear hK10082 K10082)
        refine wp_seq_k fun K10084 hK10084 => ?_
        refine wp_block ?_
        refine wp_seq_k fun K10085 hK10085 => ?_
        refine wl_region ?_
        refine st (.int .i64 x10068) rfl rfl (xr_move _ rfl rfl) ?_
        refine st (.int .i64 x10068) rfl rfl (xr_assign _ rfl rfl) ?_
        refine wl_end ?_
        (try simp only [Act.put, List.setIfInBounds_toArray, ls0, ls1])
        refine hK10085 _ _ ?_
        (try clear hK10085 K10085)
        refine wp_seq_k fun K10086 hK10086 => ?_
        refine wl_region ?_
        refine st (.int .i64 t9302) rfl rfl (xr_move _ rfl rfl) ?_
        refine st (.int .i64 0) rfl rfl (xr_move _ rfl rfl) ?_
        refine wl_end ?_
        (try simp only [Act.put, List.setIfInBounds_toArray, ls0, ls1])
        refine hK10086 _ _ ?_
        (try clear hK10086 K10086)
        refine wp_block ?_
        (try simp only [Act.put, List.setIfInBounds_toArray, ls0, ls1])
        refine wp_looped (looped_ind (fun kq10139 a_ w10138 => ∃ (C10137 : Nat → Nat) (x10133 : Int) (g10136 : Nat → Value), a_ = ⟨#[.pointer (some ⟨g9297, 0, none⟩), (g10136 1), (g10136 2), (g10136 3), (g10136 4), .int .i64 t9302, .int .i64 x9874, .int .i64 x10068, (g10136 8), (g10136 9), (g10136 10), (g10136 11), (g10136 12), (g10136 13), .int .i64 t9302, .int .i64 x9874, (g10136 16), (g10136 17), .int .i64 t9302, .int .i64 x10068, (g10136 20), (g10136 21), .int .i64 t9302, .int .i64 x10133, (g10136 24), (g10136 25), (g10136 26), (g10136 27), (g10136 28), (g10136 29), (g10136 30), (g10136 31), (g10136 32), (g10136 33), (g10136 34), (g10136 35), (g10136 36), (g10136 37), (g10136 38), (g10136 39), (g10136 40), (g10136 41), (g10136 42), (g10136 43), (g10136 44), (g10136 45), (g10136 46), (g10136 47), (g10136 48), (g10136 49), (g10136 50), (g10136 51), (g10136 52), (g10136 53), (g10136 54), (g10136 55), (g10136 56), (g10136 57), (g10136 58), (g10136 59), (g10136 60), (g10136 61), (g10136 62), (g10136 63), (g10136 64), (g10136 65), (g10136 66), (g10136 67), (g10136 68)], []⟩ ∧ Step c w C10137 w10138 [] ∧ kq10139 ≤ k10080 ∧ (Ft C10137 [0] w10138 (fun w_ => (Kd.ptr 81 k81).K w_ o9296.f0 [vq9301_0])) ∧ (Ft C10137 [0] w10138 (fun w_ => w_.heap[g9297]? = some (.cells (List.toArray ([vq9301_0, .int .u32 o9296.f1.f0.f0, .int .i32 o9296.f1.f1.f0.f0, .int .u32 o9296.f1.f1.f0.f1] ++ (List.map (Value.int .i8) o9296.f2 ++ (List.map (Value.int .i8) o9296.f3 ++ ([.int .i64 o9296.f4.f0]))))) 107 (0, 0)))) ∧ lattice_Lattice_spreads.l0 kq10139 o9296 t9302 x9874 x10068 x10133 = some (r1, r2, r3)) ?step k10080 _ _ ?init)
        case init =>
         exact ⟨_, 0, (fun q_ => List.getD [undef, (g10071 1), (g10071 2), (g10071 3), (g10071 4), undef, undef, undef, (g10071 8), (g10071 9), (g10071 10), (g10071 11), (g10071 12), (g10071 13), undef, undef, (g10071 16), (g10071 17), undef, undef, .bool true, .int .i64 x10068, undef, undef, (g10071 24), (g10071 25), (g10071 26), (g10071 27), (g10071 28), (g10071 29), (g10071 30), (g10071 31), (g10071 32), (g10071 33), (g10071 34), (g10071 35), (g10071 36), (g10071 37), (g10071 38), (g10071 39), (g10071 40), (g10071 41), (g10071 42), (g10071 43), (g10071 44), (g10071 45), (g10071 46), (g10071 47), (g10071 48), (g10071 49), (g10071 50), (g10071 51), (g10071 52), (g10071 53), (g10071 54), (g10071 55), (g10071 56), (g10071 57), (g10071 58), (g10071 59), (g10071 60), (g10071 61), (g10071 62), (g10071 63), (g10071 64), (g10071 65), (g10071 66), (g10071 67), (g10071 68)] q_ undef), rfl, HS10075, Nat.le_refl _, HJ10069, HJ10070, H⟩
        case step =>
         intro kq10139 ih10142 a10143 w10138 hr10144
         obtain ⟨C10137, x10133, g10136, rfl, HS10140, hk10141, HJ10134, HJ10135, H⟩ := hr10144
         refine looped_round ?_
         cases kq10139 with
         | zero => exact absurd H (by simp [lattice_Lattice_spreads.l0])
         | succ k10145 =>
          simp only [lattice_Lattice_spreads.l0] at H
          refine wp_seq_k fun K10146 hK10146 => ?_
          refine wl_region ?_
          refine st (.bool (decide (x10133 < t9302))) rfl rfl (xr_bin _ _ _ rfl rfl rfl (B.lss_i64 _ _)) ?_
          refine wl_end ?_
          (try simp only [Act.put, List.setIfInBounds_toArray, ls0, ls1])
          refine hK10146 _ _ ?_
          (try clear hK10146 K10146)
          refine wp_seq_k fun K10147 hK10147 => ?_
          by_cases c10148 : x10133 < t9302
          ·rw [if_pos c10148] at H
           (try rw [(decide_eq_true c10148)])
           (try simp only [Bool.not_true, Bool.not_false])
           refine wp_cond_true rfl ?_
           refine wp_skip ?_
           (try simp only [Act.put, List.setIfInBounds_toArray, ls0, ls1])
           refine hK10147 _ _ ?_
           (try clear hK10147 K10147)
           refine wp_seq_k fun K10149 hK10149 => ?_
           refine wp_block ?_
           refine wp_seq_k fun K10150 hK10150 => ?_
           refine wl_region ?_
           refine st (.int .i64 x10133) rfl rfl (xr_move _ rfl rfl) ?_
           refine st (.int .i64 x10133) rfl rfl (xr_assign _ rfl rfl) ?_
           refine wl_end ?_
           (try simp only [Act.put, List.setIfInBounds_toArray, ls0, ls1])
           refine hK10150 _ _ ?_
           (try clear hK10150 K10150)
           refine wp_seq_k fun K10151 hK10151 => ?_
           (try simp only [Act.put, List.setIfInBounds_toArray, ls0, ls1])
           refine al_start (lb 38 0) rfl rfl rfl (fun w_ => w_.heap[g9297]? = some (.cells (List.toArray ([vq9301_0, .int .u32 o9296.f1.f0.f0, .int .i32 o9296.f1.f1.f0.f0, .int .u32 o9296.f1.f1.f0.f1] ++ (List.map (Value.int .i8) o9296.f2 ++ (List.map (Value.int .i8) o9296.f3 ++ ([.int .i64 o9296.f4.f0]))))) 107 (0, 0))) (Ft.now (HJ10135.drew)) [] ?_
           replace HJ10135 := HJ10135.drew
           replace HJ10134 := HJ10134.drew
           replace HS10140 := Step.ofDrew HS10140
           generalize w10138.drew = w10152 at *
           refine al_pure 0 26 (.pointer (some ⟨g9297, 0, none⟩)) (lb 38 1) rfl rfl (by kernel_rfl) (fun _ _ _ => id) rfl (fun w_ => xr_move _ rfl rfl) ?_
           refine al_pure 1 27 (.int .i64 x9874) (lb 38 3) rfl rfl (by kernel_rfl) (fun _ _ _ => id) rfl (fun w_ => xr_move _ rfl rfl) ?_
           refine al_pure 2 28 (.pointer (some ⟨g9297, 0, none⟩)) (lb 38 7) rfl rfl (by kernel_rfl) (fun _ _ _ => id) rfl (fun w_ => xr_move _ rfl rfl) ?_
           refine al_pure 3 29 (.int .i64 x10068) (lb 38 15) rfl rfl (by kernel_rfl) (fun _ _ _ => id) rfl (fun w_ => xr_move _ rfl rfl) ?_
           simp only [ls0, ls1]
           refine al_pure 4 30 (.int .i64 x10133) (lb 38 31) rfl rfl (by kernel_rfl) (fun _ _ _ => id) rfl (fun w_ => xr_move _ rfl rfl) ?_
           refine al_pure 5 31 (.pointer (some ⟨g9297, 0, none⟩)) (lb 38 63) rfl rfl (by kernel_rfl) (fun _ _ _ => id) rfl (fun w_ => xr_nilCheck _ rfl rfl) ?_
           refine al_pure 6 32 (.pointer (some ⟨g9297, 4, none⟩)) (lb 38 127) rfl rfl (by kernel_rfl) (fun _ _ _ => id) rfl (fun w_ => xr_fieldAddr _ _ rfl rfl (bx_field2 Tryd.underlying107 rfl rfl (by kernel_rfl))) ?_
           by_cases c10153 : 0 ≤ x10068
           ·rw [if_pos c10153] at H
            by_cases c10154 : x10068 < 64
            ·rw [if_pos c10154] at H
             refine al_pure 7 33 (.pointer (some ⟨g9297, 4 + ((x10068 : Int).toNat * 64), none⟩)) (lb 38 255) rfl rfl (by kernel_rfl) (fun _ _ _ => id) rfl (fun w_ => xr_indexAddr _ _ _ rfl rfl rfl (arr_index (sz := 64) Tryd.underlying102 (by kernel_rfl) (by first | assumption | decide | omega) (by first | assumption | decide | omega) (by omega))) ?_
             simp only [ls0, ls1]
             by_cases c10155 : 0 ≤ x10133
             ·rw [if_pos c10155] at H
              by_cases c10156 : x10133 < 64
              ·rw [if_pos c10156] at H
               refine al_pure 8 34 (.pointer (some ⟨g9297, 4 + ((x10068 : Int).toNat * 64 + (x10133 : Int).toNat), none⟩)) (lb 38 511) rfl rfl (by kernel_rfl) (fun _ _ _ => id) rfl (fun w_ => xr_indexAddr _ _ _ rfl rfl rfl (arr_index (sz := 1) Tryd.underlying100 (by kernel_rfl) (by first | assumption | decide | omega) (by first | assumption | decide | omega) (by omega))) ?_
               refine al_pure 10 36 (.pointer (some ⟨g9297, 0, none⟩)) (lb 38 1535) rfl rfl (by kernel_rfl) (fun _ _ _ => id) rfl (fun w_ => xr_nilCheck _ rfl rfl) ?_
               refine al_pure 11 37 (.pointer (some ⟨g9297, 4100, none⟩)) (lb 38 3583) rfl rfl (by kernel_rfl) (fun _ _ _ => id) rfl (fun w_ => xr_fieldAddr _ _ rfl rfl (bx_field2 Tryd.underlying107 rfl rfl (by kernel_rfl))) ?_
               by_cases c10157 : 0 ≤ x9874
               ·rw [if_pos c10157] at H
                by_cases c10158 : x9874 < 64
                ·rw [if_pos c10158] at H
                 refine al_pure 12 38 (.pointer (some ⟨g9297, 4100 + ((x9874 : Int).toNat * 64), none⟩)) (lb 38 7679) rfl rfl (by kernel_rfl) (fun _ _ _ => id) rfl (fun w_ => xr_indexAddr _ _ _ rfl rfl rfl (arr_index (sz := 64) Tryd.underlying102 (by kernel_rfl) (by first | assumption | decide | omega) (by first | assumption | decide | omega) (by omega))) ?_
                 simp only [ls0, ls1]
                 refine al_pure 15 41 (.pointer (some ⟨g9297, 0, none⟩)) (lb 38 40447) rfl rfl (by kernel_rfl) (fun _ _ _ => id) rfl (fun w_ => xr_move _ rfl rfl) ?_
                 refine al_pure 16 42 (.pointer (some ⟨g9297, 0, none⟩)) (lb 38 105983) rfl rfl (by kernel_rfl) (fun _ _ _ => id) rfl (fun w_ => xr_move _ rfl rfl) ?_
                 refine al_pure 17 43 (.int .i64 x9874) (lb 38 237055) rfl rfl (by kernel_rfl) (fun _ _ _ => id) rfl (fun w_ => xr_move _ rfl rfl) ?_
                 refine al_pure 18 44 (.int .i64 x10068) (lb 38 499199) rfl rfl (by kernel_rfl) (fun _ _ _ => id) rfl (fun w_ => xr_move _ rfl rfl) ?_
                 simp only [ls0, ls1]
                 refine al_pure 19 45 (.pointer (some ⟨g9297, 0, none⟩)) (lb 38 1023487) rfl rfl (by kernel_rfl) (fun _ _ _ => id) rfl (fun w_ => xr_nilCheck _ rfl rfl) ?_
                 refine al_pure 20 46 (.pointer (some ⟨g9297, 4100, none⟩)) (lb 38 2072063) rfl rfl (by kernel_rfl) (fun _ _ _ => id) rfl (fun w_ => xr_fieldAddr _ _ rfl rfl (bx_field2 Tryd.underlying107 rfl rfl (by kernel_rfl))) ?_
                 refine al_pure 21 47 (.pointer (some ⟨g9297, 4100 + ((x9874 : Int).toNat * 64), none⟩)) (lb 38 4169215) rfl rfl (by kernel_rfl) (fun _ _ _ => id) rfl (fun w_ => xr_indexAddr _ _ _ rfl rfl rfl (arr_index (sz := 64) Tryd.underlying102 (by kernel_rfl) (by first | assumption | decide | omega) (by first | assumption | decide | omega) (by omega))) ?_
                 refine al_pure 22 48 (.pointer (some ⟨g9297, 4100 + ((x9874 : Int).toNat * 64 + (x10068 : Int).toNat), none⟩)) (lb 38 8363519) rfl rfl (by kernel_rfl) (fun _ _ _ => id) rfl (fun w_ => xr_indexAddr _ _ _ rfl rfl rfl (arr_index (sz := 1) Tryd.underlying100 (by kernel_rfl) (by first | assumption | decide | omega) (by first | assumption | decide | omega) (by omega))) ?_
                 simp only [ls0, ls1]
                 refine al_pure 24 50 (.pointer (some ⟨g9297, 0, none⟩)) (lb 38 25140735) rfl rfl (by kernel_rfl) (fun _ _ _ => id) rfl (fun w_ => xr_move _ rfl rfl) ?_
                 refine al_pure 25 51 (.int .i64 x9874) (lb 38 58695167) rfl rfl (by kernel_rfl) (fun _ _ _ => id) rfl (fun w_ => xr_move _ rfl rfl) ?_
                 refine al_pure 26 52 (.int .i64 x10133) (lb 38 125804031) rfl rfl (by kernel_rfl) (fun _ _ _ => id) rfl (fun w_ => xr_move _ rfl rfl) ?_
                 refine al_pure 27 53 (.pointer (some ⟨g9297, 0, none⟩)) (lb 38 260021759) rfl rfl (by kernel_rfl) (fun _ _ _ => id) rfl (fun w_ => xr_nilCheck _ rfl rfl) ?_
                 simp only [ls0, ls1]
                 refine al_pure 28 54 (.pointer (some ⟨g9297, 4100, none⟩)) (lb 38 528457215) rfl rfl (by kernel_rfl) (fun _ _ _ => id) rfl (fun w_ => xr_fieldAddr _ _ rfl rfl (bx_field2 Tryd.underlying107 rfl rfl (by kernel_rfl))) ?_
                 refine al_pure 29 55 (.pointer (some ⟨g9297, 4100 + ((x9874 : Int).toNat * 64), none⟩)) (lb 38 1065328127) rfl rfl (by kernel_rfl) (fun _ _ _ => id) rfl (fun w_ => xr_indexAddr _ _ _ rfl rfl rfl (arr_index (sz := 64) Tryd.underlying102 (by kernel_rfl) (by first | assumption | decide | omega) (by first | assumption | decide | omega) (by omega))) ?_
                 refine al_pure 30 56 (.pointer (some ⟨g9297, 4100 + ((x9874 : Int).toNat * 64 + (x10133 : Int).toNat), none⟩)) (lb 38 2139069951) rfl rfl (by kernel_rfl) (fun _ _ _ => id) rfl (fun w_ => xr_indexAddr _ _ _ rfl rfl rfl (arr_index (sz := 1) Tryd.underlying100 (by kernel_rfl) (by first | assumption | decide | omega) (by first | assumption | decide | omega) (by omega))) ?_
                 refine al_pure 32 58 (.pointer (some ⟨g9297, 0, none⟩)) (lb 38 6434037247) rfl rfl (by kernel_rfl) (fun _ _ _ => id) rfl (fun w_ => xr_nilCheck _ rfl rfl) ?_
                 simp only [ls0, ls1]
                 refine al_pure 33 59 (.pointer (some ⟨g9297, 4, none⟩)) (lb 38 15023971839) rfl rfl (by kernel_rfl) (fun _ _ _ => id) rfl (fun w_ => xr_fieldAddr _ _ rfl rfl (bx_field2 Tryd.underlying107 rfl rfl (by kernel_rfl))) ?_
                 refine al_take 9 35 (.int .i8 (List.getD o9296.f2 ((x10068 : Int).toNat * 64 + (x10133 : Int).toNat) 0)) (lb 38 15023972351) rfl rfl (by kernel_rfl) (fun _ _ _ => id) rfl (fun w_ hS_ => xr_load _ _ rfl rfl (arr_load (o := 4) (N := 4096) (pre := [vq9301_0, .int .u32 o9296.f1.f0.f0, .int .i32 o9296.f1.f1.f0.f0, .int .u32 o9296.f1.f1.f0.f1]) (post := List.map (Value.int .i8) o9296.f3 ++ ([.int .i64 o9296.f4.f0])) (enc := (Value.int .i8)) (l := o9296.f2) (i := (x10068 : Int).toNat * 64 + (x10133 : Int).toNat) 0 Tryd.underlying99 rfl hS_ (by first | (simp only [List.append_assoc, List.cons_append, List.nil_append, List.append_nil]; done) | rfl) rfl HLq9301_4 (by omega) (by omega))) (Ft.now (HJ10135)) ?_
                 by_cases c10159 : 0 ≤ (List.getD o9296.f2 ((x10068 : Int).toNat * 64 + (x10133 : Int).toNat) 0)
                 ·rw [if_pos c10159] at H
                  by_cases c10160 : (List.getD o9296.f2 ((x10068 : Int).toNat * 64 + (x10133 : Int).toNat) 0) < 64
                  ·rw [if_pos c10160] at H
                   refine al_pure 13 39 (.pointer (some ⟨g9297, 4100 + ((x9874 : Int).toNat * 64 + (List.getD o9296.f2 ((x10068 : Int).toNat * 64 + (x10133 : Int).toNat) 0 : Int).toNat), none⟩)) (lb 38 15023980543) rfl rfl (by kernel_rfl) (fun _ _ _ => id) rfl (fun w_ => xr_indexAddr _ _ _ rfl rfl rfl (arr_index (sz := 1) Tryd.underlying100 (by kernel_rfl) (by first | assumption | decide | omega) (by first | assumption | decide | omega) (by omega))) ?_
                   refine al_take 14 40 (.int .i8 (List.getD o9296.f3 ((x9874 : Int).toNat * 64 + (List.getD o9296.f2 ((x10068 : Int).toNat * 64 + (x10133 : Int).toNat) 0 : Int).toNat) 0)) (lb 38 15023996927) rfl rfl (by kernel_rfl) (fun _ _ _ => id) rfl (fun w_ hS_ => xr_load _ _ rfl rfl (arr_load (o := 4100) (N := 4096) (pre := [vq9301_0, .int .u32 o9296.f1.f0.f0, .int .i32 o9296.f1.f1.f0.f0, .int .u32 o9296.f1.f1.f0.f1] ++ (List.map (Value.int .i8) o9296.f2)) (post := [.int .i64 o9296.f4.f0]) (enc := (Value.int .i8)) (l := o9296.f3) (i := (x9874 : Int).toNat * 64 + (List.getD o9296.f2 ((x10068 : Int).toNat * 64 + (x10133 : Int).toNat) 0 : Int).toNat) 0 Tryd.underlying99 rfl hS_ (by first | (simp only [List.append_assoc, List.cons_append, List.nil_append, List.append_nil]; done) | rfl) (by simp [HLq9301_4]) HLq9301_5 (by omega) (by omega))) (Ft.now (HJ10135)) ?_
                   simp only [ls0, ls1]
                   refine al_take 23 49 (.int .i8 (List.getD o9296.f3 ((x9874 : Int).toNat * 64 + (x10068 : Int).toNat) 0)) (lb 38 15032385535) rfl rfl (by kernel_rfl) (fun _ _ _ => id) rfl (fun w_ hS_ => xr_load _ _ rfl rfl (arr_load (o := 4100) (N := 4096) (pre := [vq9301_0, .int .u32 o9296.f1.f0.f0, .int .i32 o9296.f1.f1.f0.f0, .int .u32 o9296.f1.f1.f0.f1] ++ (List.map (Value.int .i8) o9296.f2)) (post := [.int .i64 o9296.f4.f0]) (enc := (Value.int .i8)) (l := o9296.f3) (i := (x9874 : Int).toNat * 64 + (x10068 : Int).toNat) 0 Tryd.underlying99 rfl hS_ (by first | (simp only [List.append_assoc, List.cons_append, List.nil_append, List.append_nil]; done) | rfl) (by simp [HLq9301_4]) HLq9301_5 (by omega) (by omega))) (Ft.now (HJ10135)) ?_
                   by_cases c10161 : 0 ≤ (List.getD o9296.f3 ((x9874 : Int).toNat * 64 + (x10068 : Int).toNat) 0)
                   ·rw [if_pos c10161] at H
                    by_cases c10162 : (List.getD o9296.f3 ((x9874 : Int).toNat * 64 + (x10068 : Int).toNat) 0) < 64
                    ·rw [if_pos c10162] at H
                     refine al_pure 34 60 (.pointer (some ⟨g9297, 4 + ((List.getD o9296.f3 ((x9874 : Int).toNat * 64 + (x10068 : Int).toNat) 0 : Int).toNat * 64), none⟩)) (lb 38 32212254719) rfl rfl (by kernel_rfl) (fun _ _ _ => id) rfl (fun w_ => xr_indexAddr _ _ _ rfl rfl rfl (arr_index (sz := 64) Tryd.underlying102 (by kernel_rfl) (by first | assumption | decide | omega) (by first | assumption | decide | omega) (by omega))) ?_
                     refine al_take 31 57 (.int .i8 (List.getD o9296.f3 ((x9874 : Int).toNat * 64 + (x10133 : Int).toNat) 0)) (lb 38 34359738367) rfl rfl (by kernel_rfl) (fun _ _ _ => id) rfl (fun w_ hS_ => xr_load _ _ rfl rfl (arr_load (o := 4100) (N := 4096) (pre := [vq9301_0, .int .u32 o9296.f1.f0.f0, .int .i32 o9296.f1.f1.f0.f0, .int .u32 o9296.f1.f1.f0.f1] ++ (List.map (Value.int .i8) o9296.f2)) (post := [.int .i64 o9296.f4.f0]) (enc := (Value.int .i8)) (l := o9296.f3) (i := (x9874 : Int).toNat * 64 + (x10133 : Int).toNat) 0 Tryd.underlying99 rfl hS_ (by first | (simp only [List.append_assoc, List.cons_append, List.nil_append, List.append_nil]; done) | rfl) (by simp [HLq9301_4]) HLq9301_5 (by omega) (by omega))) (Ft.now (HJ10135)) ?_
                     by_cases c10163 : 0 ≤ (List.getD o9296.f3 ((x9874 : Int).toNat * 64 + (x10133 : Int).toNat) 0)
                     ·rw [if_pos c10163] at H
                      by_cases c10164 : (List.getD o9296.f3 ((x9874 : Int).toNat * 64 + (x10133 : Int).toNat) 0) < 64
                      ·rw [if_pos c10164] at H
                       refine al_pure 35 61 (.pointer (some ⟨g9297, 4 + ((List.getD o9296.f3 ((x9874 : Int).toNat * 64 + (x10068 : Int).toNat) 0 : Int).toNat * 64 + (List.getD o9296.f3 ((x9874 : Int).toNat * 64 + (x10133 : Int).toNat) 0 : Int).toNat), none⟩)) (lb 38 68719476735) rfl rfl (by kernel_rfl) (fun _ _ _ => id) rfl (fun w_ => xr_indexAddr _ _ _ rfl rfl rfl (arr_index (sz := 1) Tryd.underlying100 (by kernel_rfl) (by first | assumption | decide | omega) (by first | assumption | decide | omega) (by omega))) ?_
                       simp only [ls0, ls1]
                       refine al_take 36 62 (.int .i8 (List.getD o9296.f2 ((List.getD o9296.f3 ((x9874 : Int).toNat * 64 + (x10068 : Int).toNat) 0 : Int).toNat * 64 + (List.getD o9296.f3 ((x9874 : Int).toNat * 64 + (x10133 : Int).toNat) 0 : Int).toNat) 0)) (lb 38 137438953471) rfl rfl (by kernel_rfl) (fun _ _ _ => id) rfl (fun w_ hS_ => xr_load _ _ rfl rfl (arr_load (o := 4) (N := 4096) (pre := [vq9301_0, .int .u32 o9296.f1.f0.f0, .int .i32 o9296.f1.f1.f0.f0, .int .u32 o9296.f1.f1.f0.f1]) (post := List.map (Value.int .i8) o9296.f3 ++ ([.int .i64 o9296.f4.f0])) (enc := (Value.int .i8)) (l := o9296.f2) (i := (List.getD o9296.f3 ((x9874 : Int).toNat * 64 + (x10068 : Int).toNat) 0 : Int).toNat * 64 + (List.getD o9296.f3 ((x9874 : Int).toNat * 64 + (x10133 : Int).toNat) 0 : Int).toNat) 0 Tryd.underlying99 rfl hS_ (by first | (simp only [List.append_assoc, List.cons_append, List.nil_append, List.append_nil]; done) | rfl) rfl HLq9301_4 (by omega) (by omega))) (Ft.now (HJ10135)) ?_
                       refine al_pure 37 63 (.bool (!decide ((List.getD o9296.f3 ((x9874 : Int).toNat * 64 + (List.getD o9296.f2 ((x10068 : Int).toNat * 64 + (x10133 : Int).toNat) 0 : Int).toNat) 0) = (List.getD o9296.f2 ((List.getD o9296.f3 ((x9874 : Int).toNat * 64 + (x10068 : Int).toNat) 0 : Int).toNat * 64 + (List.getD o9296.f3 ((x9874 : Int).toNat * 64 + (x10133 : Int).toNat) 0 : Int).toNat) 0)))) (lb 38 274877906943) rfl rfl (by kernel_rfl) (fun _ _ _ => id) rfl (fun w_ => xr_bin _ _ _ rfl rfl rfl (B.neq_i8 _ _)) ?_
                       refine al_end (by kernel_rfl) ?_
                       (try simp only [Act.put, List.setIfInBounds_toArray, ls0, ls1])
                       refine hK10151 _ _ ?_
                       (try clear hK10151 K10151)
                       by_cases c10165 : (List.getD o9296.f3 ((x9874 : Int).toNat * 64 + (List.getD o9296.f2 ((x10068 : Int).toNat * 64 + (x10133 : Int).toNat) 0 : Int).toNat) 0) = (List.getD o9296.f2 ((List.getD o9296.f3 ((x9874 : Int).toNat * 64 + (x10068 : Int).toNat) 0 : Int).toNat * 64 + (List.getD o9296.f3 ((x9874 : Int).toNat * 64 + (x10133 : Int).toNat) 0 : Int).toNat) 0)
                       ·rw [if_pos c10165] at H
                        (try rw [(decide_eq_true c10165)])
                        (try simp only [Bool.not_true, Bool.not_false])
                        refine wp_cond_false rfl ?_
                        refine wp_skip ?_
                        (try simp only [Act.put, List.setIfInBounds_toArray, ls0, ls1])
                        refine hK10149 _ _ ?_
                        (try clear hK10149 K10149)
                        refine wl_region ?_
                        refine st (.int .i64 (wrap64 (x10133 + 1))) rfl rfl (xr_bin _ _ _ rfl rfl rfl (B.add_i64 _ _)) ?_
                        refine st (.int .i64 (wrap64 (x10133 + 1))) rfl rfl (xr_move _ rfl rfl) ?_
                        refine wl_end ?_
                        (try simp only [Act.put, List.setIfInBounds_toArray, ls0, ls1])
                        exact ih10142 k10145 (by omega) _ _ ⟨_, wrap64 (x10133 + 1), (fun q_ => List.getD [undef, (g10136 1), (g10136 2), (g10136 3), (g10136 4), undef, undef, undef, .int .i64 x10133, (g10136 9), (g10136 10), (g10136 11), (g10136 12), (g10136 13), undef, undef, (g10136 16), (g10136 17), undef, undef, (g10136 20), (g10136 21), undef, undef, .bool true, .int .i64 x10133, .pointer (some ⟨g9297, 0, none⟩), .int .i64 x9874, .pointer (some ⟨g9297, 0, none⟩), .int .i64 x10068, .int .i64 x10133, .pointer (some ⟨g9297, 0, none⟩), .pointer (some ⟨g9297, 4, none⟩), .pointer (some ⟨g9297, 4 + ((x10068 : Int).toNat * 64), none⟩), .pointer (some ⟨g9297, 4 + ((x10068 : Int).toNat * 64 + (x10133 : Int).toNat), none⟩), .int .i8 (List.getD o9296.f2 ((x10068 : Int).toNat * 64 + (x10133 : Int).toNat) 0), .pointer (some ⟨g9297, 0, none⟩), .pointer (some ⟨g9297, 4100, none⟩), .pointer (some ⟨g9297, 4100 + ((x9874 : Int).toNat * 64), none⟩), .pointer (some ⟨g9297, 4100 + ((x9874 : Int).toNat * 64 + (List.getD o9296.f2 ((x10068 : Int).toNat * 64 + (x10133 : Int).toNat) 0 : Int).toNat), none⟩), .int .i8 (List.getD o9296.f3 ((x9874 : Int).toNat * 64 + (List.getD o9296.f2 ((x10068 : Int).toNat * 64 + (x10133 : Int).toNat) 0 : Int).toNat) 0), .pointer (some ⟨g9297, 0, none⟩), .pointer (some ⟨g9297, 0, none⟩), .int .i64 x9874, .int .i64 x10068, .pointer (some ⟨g9297, 0, none⟩), .pointer (some ⟨g9297, 4100, none⟩), .pointer (some ⟨g9297, 4100 + ((x9874 : Int).toNat * 64), none⟩), .pointer (some ⟨g9297, 4100 + ((x9874 : Int).toNat * 64 + (x10068 : Int).toNat), none⟩), .int .i8 (List.getD o9296.f3 ((x9874 : Int).toNat * 64 + (x10068 : Int).toNat) 0), .pointer (some ⟨g9297, 0, none⟩), .int .i64 x9874, .int .i64 x10133, .pointer (some ⟨g9297, 0, none⟩), .pointer (some ⟨g9297, 4100, none⟩), .pointer (some ⟨g9297, 4100 + ((x9874 : Int).toNat * 64), none⟩), .pointer (some ⟨g9297, 4100 + ((x9874 : Int).toNat * 64 + (x10133 : Int).toNat), none⟩), .int .i8 (List.getD o9296.f3 ((x9874 : Int).toNat * 64 + (x10133 : Int).toNat) 0), .pointer (some ⟨g9297, 0, none⟩), .pointer (some ⟨g9297, 4, none⟩), .pointer (some ⟨g9297, 4 + ((List.getD o9296.f3 ((x9874 : Int).toNat * 64 + (x10068 : Int).toNat) 0 : Int).toNat * 64), none⟩), .pointer (some ⟨g9297, 4 + ((List.getD o9296.f3 ((x9874 : Int).toNat * 64 + (x10068 : Int).toNat) 0 : Int).toNat * 64 + (List.getD o9296.f3 ((x9874 : Int).toNat * 64 + (x10133 : Int).toNat) 0 : Int).toNat), none⟩), .int .i8 (List.getD o9296.f2 ((List.getD o9296.f3 ((x9874 : Int).toNat * 64 + (x10068 : Int).toNat) 0 : Int).toNat * 64 + (List.getD o9296.f3 ((x9874 : Int).toNat * 64 + (x10133 : Int).toNat) 0 : Int).toNat) 0), .bool false, (g10136 64), (g10136 65), .int .i64 (wrap64 (x10133 + 1)), (g10136 67), (g10136 68)] q_ undef), rfl, HS10140, (by omega), HJ10134, HJ10135, H⟩
                       ·rw [if_neg c10165] at H
                        (try rw [(decide_eq_false c10165)])
                        (try simp only [Bool.not_true, Bool.not_false])
                        refine wp_cond_true rfl ?_
                        refine wp_seq_k fun K10166 hK10166 => ?_
                        refine wl_region ?_
                        refine st (.int .i64 x9874) rfl rfl (xr_move _ rfl rfl) ?_
                        refine st (.int .i64 x10068) rfl rfl (xr_move _ rfl rfl) ?_
                        refine st (.int .i64 x9874) rfl rfl (xr_assign _ rfl rfl) ?_
                        refine st (.int .i64 x10068) rfl rfl (xr_assign _ rfl rfl) ?_
                        simp only [ls0, ls1]
                        refine st (.bool false) rfl rfl (xr_assign _ rfl rfl) ?_
                        refine wl_end ?_
                        (try simp only [Act.put, List.setIfInBounds_toArray, ls0, ls1])
                        refine hK10166 _ _ ?_
                        (try clear hK10166 K10166)
                        refine wp_ret ?_
                        (try simp only [Exit.inBlock, Exit.then, Exit.noGoto])
                        (try simp only [Act.put, List.setIfInBounds_toArray, ls0, ls1])
                        simp only [Option.some.injEq, Prod.mk.injEq] at H
                        obtain ⟨rfl, rfl, rfl⟩ := H
                        refine bodyPost_ret (results_tmp3 rfl _ _ _) rfl ?_
                        exact ⟨_, rfl, HS10140⟩
                      ·rw [if_neg c10164] at H
                       exact absurd H (by simp)
                     ·rw [if_neg c10163] at H
                      exact absurd H (by simp)
                    ·rw [if_neg c10162] at H
                     exact absurd H (by simp)
                   ·rw [if_neg c10161] at H
                    exact absurd H (by simp)
                  ·rw [if_neg c10160] at H
                   exact absurd H (by simp)
                 ·rw [if_neg c10159] at H
                  exact absurd H (by simp)
                ·rw [if_neg c10158] at H
                 exact absurd H (by simp)
               ·rw [if_neg c10157] at H
                exact absurd H (by simp)
              ·rw [if_neg c10156] at H
               exact absurd H (by simp)
             ·rw [if_neg c10155] at H
              exact absurd H (by simp)
            ·rw [if_neg c10154] at H
             exact absurd H (by simp)
           ·rw [if_neg c10153] at H
            exact absurd H (by simp)
          ·rw [if_neg c10148] at H
           (try rw [(decide_eq_false c10148)])
           (try simp only [Bool.not_true, Bool.not_false])
           refine wp_cond_false rfl ?_
           refine wp_exit ?_
           (try simp only [Act.put, List.setIfInBounds_toArray, ls0, ls1])
           refine hK10084 _ _ ?_
           (try clear hK10084 K10084)
           refine wl_region ?_
           refine st (.int .i64 (wrap64 (x10068 + 1))) rfl rfl (xr_bin _ _ _ rfl rfl rfl (B.add_i64 _ _)) ?_
           refine st (.int .i64 (wrap64 (x10068 + 1))) rfl rfl (xr_move _ rfl rfl) ?_
           refine wl_end ?_
           (try simp only [Act.put, List.setIfInBounds_toArray, ls0, ls1])
           exact ih10077 k10145 (by omega) _ _ ⟨_, wrap64 (x10068 + 1), (fun q_ => List.getD [undef, (g10136 1), (g10136 2), (g10136 3), (g10136 4), undef, undef, .int .i64 x10068, (g10136 8), (g10136 9), (g10136 10), (g10136 11), (g10136 12), (g10136 13), undef, undef, (g10136 16), (g10136 17), undef, undef, (g10136 20), (g10136 21), .int .i64 t9302, .int .i64 x10133, .bool false, (g10136 25), (g10136 26), (g10136 27), (g10136 28), (g10136 29), (g10136 30), (g10136 31), (g10136 32), (g10136 33), (g10136 34), (g10136 35), (g10136 36), (g10136 37), (g10136 38), (g10136 39), (g10136 40), (g10136 41), (g10136 42), (g10136 43), (g10136 44), (g10136 45), (g10136 46), (g10136 47), (g10136 48), (g10136 49), (g10136 50), (g10136 51), (g10136 52), (g10136 53), (g10136 54), (g10136 55), (g10136 56), (g10136 57), (g10136 58), (g10136 59), (g10136 60), (g10136 61), (g10136 62), (g10136 63), (g10136 64), (g10136 65), (g10136 66), .int .i64 (wrap64 (x10068 + 1)), (g10136 68)] q_ undef), rfl, HS10140, (by omega), HJ10134, HJ10135, H⟩
       ·rw [if_neg c10083] at H
        (try rw [(decide_eq_false c10083)])
        (try simp only [Bool.not_true, Bool.not_false])
        refine wp_cond_false rfl ?_
        refine wp_exit ?_
        (try simp only [Act.put, List.setIfInBounds_toArray, ls0, ls1])
        refine hK9890 _ _ ?_
        (try clear hK9890 K9890)
        refine wl_region ?_
        refine st (.int .i64 (wrap64 (x9874 + 1))) rfl rfl (xr_bin _ _ _ rfl rfl rfl (B.add_i64 _ _)) ?_
        refine st (.int .i64 (wrap64 (x9874 + 1))) rfl rfl (xr_move _ rfl rfl) ?_
        refine wl_end ?_
        (try simp only [Act.put, List.setIfInBounds_toArray, ls0, ls1])
        exact ih9883 k10080 (by omega) _ _ ⟨_, wrap64 (x9874 + 1), (fun q_ => List.getD [undef, (g10071 1), (g10071 2), (g10071 3), (g10071 4), undef, .int .i64 x9874, (g10071 7), (g10071 8), (g10071 9), (g10071 10), (g10071 11), (g10071 12), (g10071 13), undef, undef, (g10071 16), (g10071 17), .int .i64 t9302, .int .i64 x10068, .bool false, (g10071 21), (g10071 22), (g10071 23), (g10071 24), (g10071 25), (g10071 26), (g10071 27), (g10071 28), (g10071 29), (g10071 30), (g10071 31), (g10071 32), (g10071 33), (g10071 34), (g10071 35), (g10071 36), (g10071 37), (g10071 38), (g10071 39), (g10071 40), (g10071 41), (g10071 42), (g10071 43), (g10071 44), (g10071 45), (g10071 46), (g10071 47), (g10071 48), (g10071 49), (g10071 50), (g10071 51), (g10071 52), (g10071 53), (g10071 54), (g10071 55), (g10071 56), (g10071 57), (g10071 58), (g10071 59), (g10071 60), (g10071 61), (g10071 62), (g10071 63), (g10071 64), (g10071 65), (g10071 66), (g10071 67), .int .i64 (wrap64 (x9874 + 1))] q_ undef), rfl, HS10075, (by omega), HJ10069, HJ10070, H⟩
    ·rw [if_neg c9889] at H
     (try rw [(decide_eq_false c9889)])
     (try simp only [Bool.not_true, Bool.not_false])
     refine wp_cond_false rfl ?_
     refine wp_exit ?_
     (try simp only [Act.put, List.setIfInBounds_toArray, ls0, ls1])
     refine hK9308 _ _ ?_
     (try clear hK9308 K9308)
     refine wp_seq_k fun K10167 hK10167 => ?_
     refine wl_region ?_
     refine st (.int .i64 0) rfl rfl (xr_assign _ rfl rfl) ?_
     refine st (.int .i64 0) rfl rfl (xr_assign _ rfl rfl) ?_
     refine st (.bool true) rfl rfl (xr_assign _ rfl rfl) ?_
     refine wl_end ?_
     (try simp only [Act.put, List.setIfInBounds_toArray, ls0, ls1])
     refine hK10167 _ _ ?_
     (try clear hK10167 K10167)
     refine wp_ret ?_
     (try simp only [Exit.inBlock, Exit.then, Exit.noGoto])
     (try simp only [Act.put, List.setIfInBounds_toArray, ls0, ls1])
     simp only [Option.some.injEq, Prod.mk.injEq] at H
     obtain ⟨rfl, rfl, rfl⟩ := H
     refine bodyPost_ret (results_tmp3 rfl _ _ _) rfl ?_
     exact ⟨_, rfl, HS9881⟩

/-! ### sync_Once_Do -/
theorem once_disable (w : World) : (callFunc 97 #[]).run Tryd.prog w = .ok (.value (.tuple #[])) w := run_call_mark0 Tryd.func97 (by kernel_rfl) (by kernel_rfl) (by kernel_rfl) .disable (by kernel_rfl) w
theorem once_enable (w : World) : (callFunc 99 #[]).run Tryd.prog w = .ok (.value (.tuple #[])) w := run_call_mark0 Tryd.func99 (by kernel_rfl) (by kernel_rfl) (by kernel_rfl) .enable (by kernel_rfl) w
theorem once_acquire (a : Addr) (w : World) : (callFunc 100 #[.pointer (some a)]).run Tryd.prog w = .ok (.value (.tuple #[])) w := run_call_marked Tryd.func100 (by kernel_rfl) (by kernel_rfl) (by kernel_rfl) .acquire (by kernel_rfl) a w
theorem once_release (a : Addr) (w : World) : (callFunc 102 #[.pointer (some a)]).run Tryd.prog w = .ok (.value (.tuple #[])) w := run_call_marked Tryd.func102 (by kernel_rfl) (by kernel_rfl) (by kernel_rfl) .releaseMerge (by kernel_rfl) a w
set_option maxRecDepth 100000 in
set_option maxHeartbeats 1600000 in
theorem once_store (a : Addr) (x : Value) (u : FrameMode) (w : World) (hc : w.cell? a = some x) (hz : w.frozen? a = false) :
    CallsD Tryd.prog 91 #[.pointer (some a), .bool true] u w fun e u' w' => u' = u ∧ (e = .returned (.tuple #[]) ∧ w' = w.drew.setCell a (.int .u32 1)) := by
  have hc' : w.drew.cell? a = some x := by go_simp
  have hz' : w.drew.frozen? a = false := by go_simp
  have hst := run_call_store (P := Tryd.prog) Tryd.func95 (by kernel_rfl) (by kernel_rfl) (by kernel_rfl) (by kernel_rfl) (k := .u32) (y := 1) hc' hz'
  go_enter_d Tryd.func91, Tryd.ntmps91
  go_wp2
  go_region_calls
  all_goals (go_end0; exact ⟨rfl, rfl⟩)
set_option maxRecDepth 100000 in
set_option maxHeartbeats 1600000 in
theorem once_unlock (a : Addr) (u : FrameMode) (w : World) (hc : w.cell? a = some (.int .i32 1)) (hz : w.frozen? a = false) :
    CallsD Tryd.prog 90 #[.pointer (some a)] u w fun e u' w' => u' = u ∧ (e = .returned (.tuple #[]) ∧ w' = w.setCell a (.int .i32 0)) := by
  have hd := once_disable
  have he := once_enable
  have hr := once_release
  have hadd := run_call_add (P := Tryd.prog) Tryd.func103 (by kernel_rfl) (by kernel_rfl) (by kernel_rfl) .i32 (by kernel_rfl) (y := -1) (s := 0) hc hz (by simp [go_sem]; rfl)
  have hcv := run_convert_to_unsafe (P := Tryd.prog) (src := 138) (dst := 142) Tryd.underlying138 Tryd.underlying142 (by kernel_rfl) hc
  go_enter_d Tryd.func90, Tryd.ntmps90
  go_wp2
  go_end0
  go_wp2
  go_end0
  exact ⟨rfl, rfl⟩
set_option maxRecDepth 100000 in
set_option maxHeartbeats 1600000 in
theorem once_lock (a : Addr) (w : World) (hc : w.cell? a = some (.int .i32 0)) (hz : w.frozen? a = false) :
    Calls Tryd.prog 89 #[.pointer (some a)] w fun e w' => e = .returned (.tuple #[]) ∧ w' = w.setCell a (.int .i32 1) := by
  have hd := once_disable
  have he := once_enable
  have ha := once_acquire
  have hcas := run_call_cas_hit (P := Tryd.prog) Tryd.func98 (by kernel_rfl) (by kernel_rfl) (by kernel_rfl) .i32 (by kernel_rfl) (y := 1) hc hz
  have hc' : (w.setCell a (.int .i32 1)).cell? a = some (.int .i32 1) := World.cell?_setCell_same w a _ hc
  have hcv := run_convert_to_unsafe (P := Tryd.prog) (src := 138) (dst := 142) Tryd.underlying138 Tryd.underlying142 (by kernel_rfl) hc'
  go_enter Tryd.func89, Tryd.ntmps89
  go_wp2
  first | go_end0 | (simp only [Exit.inBlock, Exit.then]; refine bodyPost_ret (results_none rfl _ _ _) rfl ?_) | refine bodyPost_ret (results_none rfl _ _ _) rfl ?_
  go_wp2
  go_end0
  exact ⟨rfl, rfl⟩
set_option maxRecDepth 100000 in
theorem once_load (a : Addr) (d : Int) (w : World) (h0 : w.cell? a = some (.int .u32 d)) : Calls Tryd.prog 76 #[.pointer (some a)] w fun e w' => e = .returned (.bool (d != 0)) ∧ w' = w := by
  have hl := run_call_load (P := Tryd.prog) Tryd.func88 (by kernel_rfl) (by kernel_rfl) (by kernel_rfl) .u32 (by kernel_rfl) h0
  go_enter Tryd.func76, Tryd.ntmps76
  go_wp2
  go_ret
  exact ⟨rfl, rfl⟩
def OnceEnd (g : Nat) (K : Value → World → Prop) (w : World) : Prop :=
  w.cell? ⟨g, 1, none⟩ = some (.int .u32 0) ∧ w.frozen? ⟨g, 1, none⟩ = false ∧ w.cell? ⟨g, 2, none⟩ = some (.int .i32 1) ∧ w.frozen? ⟨g, 2, none⟩ = false ∧ K (.tuple #[]) ((w.drew.setCell ⟨g, 1, none⟩ (.int .u32 1)).setCell ⟨g, 2, none⟩ (.int .i32 0))
set_option maxRecDepth 100000 in
set_option maxHeartbeats 1600000 in
theorem once_slow {g : Nat} {w : World} {K : Value → World → Prop} (h1 : w.cell? ⟨g, 1, none⟩ = some (.int .u32 0)) (h2 : w.cell? ⟨g, 2, none⟩ = some (.int .i32 0)) (f2 : w.frozen? ⟨g, 2, none⟩ = false)
    (HC : Calls Tryd.prog 57 #[.pointer (some ⟨g, 0, none⟩)] (w.setCell ⟨g, 2, none⟩ (.int .i32 1)) fun e w' => ∃ v, e = .returned v ∧ OnceEnd g K w') :
    Calls Tryd.prog 77 #[.pointer (some ⟨g, 1, none⟩), .func (.func 57) #[.pointer (some ⟨g, 0, none⟩)] #[]] w fun e w' => e = .returned (.tuple #[]) ∧ K (.tuple #[]) w' := by
  have HL := Aside0.mk ((World.cell?_setCell_other w ⟨g, 2, none⟩ ⟨g, 1, none⟩ (.int .i32 1) (by simp)).trans h1)
  have hnot : ∀ (x : Bool) (w : World), (Op.unary .not (.bool x)).run Tryd.prog w = .ok (.bool (!x)) w := fun _ _ => rfl
  have HF := Aside0.mk HC
  clear HC
  go_enter_defers Tryd.func77, Tryd.ntmps77
  go_wp2_with (first | (go_at_call 89; refine (once_lock ⟨g, 2, none⟩ _ (by go_simp) (by go_simp)).mono ?_; rintro e w' ⟨rfl, rfl⟩) | (go_at_call 76; refine (once_load ⟨g, 1, none⟩ 0 _ HL.out).mono ?_; rintro e w' ⟨rfl, rfl⟩) | (go_at_call 57; refine HF.out.mono ?_; rintro e w1 ⟨v, rfl, hE⟩))
  obtain ⟨e1, z1, e2, z2, hk⟩ := hE
  refine leaves_cons (f := 91) (args := #[.pointer (some ⟨g, 1, none⟩), .bool true]) (by simp) (by simp [go_sem]) ?_
  refine (once_store ⟨g, 1, none⟩ (.int .u32 0) .returning _ e1 z1).mono ?_
  rintro e u' w'' ⟨rfl, rfl, rfl⟩
  refine leaves_cons (f := 90) (args := #[.pointer (some ⟨g, 2, none⟩)]) (by simp [settle]) (by simp [go_sem]) ?_
  refine (once_unlock ⟨g, 2, none⟩ _ _ ?_ ?_).mono ?_
  · refine (World.cell?_setCell_other _ ⟨g, 1, none⟩ ⟨g, 2, none⟩ _ (by simp)).trans ?_
    rw [World.cell?_drew]
    exact e2
  · simp [z2]
  rintro e u' w'' ⟨rfl, rfl, rfl⟩
  simpa [Leaves, settle, results, Tryd.results77] using hk
set_option maxRecDepth 100000 in
set_option maxHeartbeats 1600000 in
theorem once_first {g : Nat} {w : World} {K : Value → World → Prop} (h1 : w.cell? ⟨g, 1, none⟩ = some (.int .u32 0)) (h2 : w.cell? ⟨g, 2, none⟩ = some (.int .i32 0)) (f2 : w.frozen? ⟨g, 2, none⟩ = false)
    (HC : Calls Tryd.prog 57 #[.pointer (some ⟨g, 0, none⟩)] (w.setCell ⟨g, 2, none⟩ (.int .i32 1)) fun e w' => ∃ v, e = .returned v ∧ OnceEnd g K w') :
    Calls Tryd.prog 56 #[.pointer (some ⟨g, 1, none⟩), .func (.func 57) #[.pointer (some ⟨g, 0, none⟩)] #[]] w fun e w' => ∃ v, e = .returned v ∧ K v w' := by
  have hnot : ∀ (x : Bool) (w : World), (Op.unary .not (.bool x)).run Tryd.prog w = .ok (.bool (!x)) w := fun _ _ => rfl
  have H1 := Aside0.mk h1
  have HS := Aside0.mk (once_slow h1 h2 f2 HC)
  clear h1 h2 f2 HC
  go_enter Tryd.func56, Tryd.ntmps56
  go_wp2_with (first | (go_at_call 76; refine (once_load ⟨g, 1, none⟩ 0 _ H1.out).mono ?_; rintro e w' ⟨rfl, rfl⟩) | (go_at_call 77; refine HS.out.mono ?_; rintro e w' ⟨rfl, hk⟩))
  go_end0
  exact ⟨_, rfl, hk⟩
set_option maxRecDepth 100000 in
theorem once_done (a : Addr) (fv : Value) (d : Int) (hd : d = 1) (w : World) (h0 : w.cell? a = some (.int .u32 d)) :
    Calls Tryd.prog 56 #[.pointer (some a), fv] w fun e w' => e = .returned (.tuple #[]) ∧ w = w' := by
  subst hd
  have hnot : ∀ (x : Bool) (w : World), (Op.unary .not (.bool x)).run Tryd.prog w = .ok (.bool (!x)) w := fun _ _ => rfl
  have H0 := Aside0.mk h0
  clear h0
  go_enter Tryd.func56, Tryd.ntmps56
  go_wp2_with (go_at_call 76; refine (once_load a 1 _ H0.out).mono ?_; rintro e w' ⟨rfl, rfl⟩)
  go_end0
  exact ⟨rfl, rfl⟩
/-- Do, the first time: between the lock and its end the function. -/
theorem once_go {C : Nat → Nat} {z g tb : Nat} {w : World} {K : Value → World → Prop} {v0 : Value} {rest : List Value} (HB : Bx C z w g tb (v0 :: .int .u32 0 :: .int .i32 0 :: rest))
    (h : ∀ w1, Bx C z w1 g tb (v0 :: .int .u32 0 :: .int .i32 1 :: rest) → Step C w C w1 [z] → Calls Tryd.prog 57 #[.pointer (some ⟨g, 0, none⟩)] w1 fun e w' => ∃ v, e = .returned v ∧ OnceEnd g K w') :
    Calls Tryd.prog 56 #[.pointer (some ⟨g, 1, none⟩), .func (.func 57) #[.pointer (some ⟨g, 0, none⟩)] #[]] w fun e w' => ∃ v, e = .returned v ∧ K v w' := by
  obtain ⟨hb, hs⟩ := bx_set (pre := [v0, .int .u32 0]) (v := .int .i32 1) HB rfl rfl rfl
  exact once_first (bx_cell HB.2 1 rfl) (bx_cell HB.2 2 rfl) (bx_frozen HB.2 2) (h _ hb hs)
theorem once_end {C : Nat → Nat} {z g tb : Nat} {w : World} {K : Value → World → Prop} {v0 : Value} {rest : List Value} (HB : Bx C z w g tb (v0 :: .int .u32 0 :: .int .i32 1 :: rest))
    (h : ∀ w1, Bx C z w1 g tb (v0 :: .int .u32 1 :: .int .i32 0 :: rest) → Step C w C w1 [z] → K (.tuple #[]) w1) : OnceEnd g K w := by
  obtain ⟨hb1, hs1⟩ := bx_set (pre := [v0]) (v := .int .u32 1) HB.drew rfl rfl rfl
  obtain ⟨hb2, hs2⟩ := bx_set (pre := [v0, .int .u32 1]) (v := .int .i32 0) hb1 rfl rfl rfl
  refine ⟨bx_cell HB.2 1 rfl, bx_frozen HB.2 1, bx_cell HB.2 2 rfl, bx_frozen HB.2 2, h _ hb2 ⟨hs2.os.trans hs1.os, hs2.tape.trans hs1.tape, hs2.output.trans hs1.output, Nat.le_trans hs1.size hs2.size, fun _ _ => rfl, fun k hk hn => ?_⟩⟩
  exact (hs2.keep k (Nat.lt_of_lt_of_le hk hs1.size) hn).trans (hs1.keep k hk hn)

end Go.Proofs.YtpfepkkpbampkaaDoor.PLan
