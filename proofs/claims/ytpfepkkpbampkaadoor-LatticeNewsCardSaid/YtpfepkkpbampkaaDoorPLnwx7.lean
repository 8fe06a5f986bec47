-- By cprint.py, a program of this work. Lean checks it.
import Derived.Test.YtpfepkkpbampkaaDoorPLnwx0
import Derived.Test.YtpfepkkpbampkaaDoorPLnwx3
import Derived.Test.YtpfepkkpbampkaaDoorPLnwx6
namespace Go.Proofs.YtpfepkkpbampkaaDoor.PLnw
open Go.RowKit Go.Proofs.YtpfepkkpbampkaaDoorW.PrintWords Go.Proofs.YtpfepkkpbampkaaDoorW.PrintLast Go.Proofs.YtpfepkkpbampkaaDoorW.PrintMore
set_option linter.unusedVariables false
set_option linter.unusedSimpArgs false

/-! ### blazonref14_New: function 18 -/
mutual
def blazonref14_New.l0 : Nat → (List ByteArray) → (List (List Bool)) → Int → (List (List Int)) → (List (List Int)) → (List Int) → (List Int) → Int → Option (List ByteArray × (List (List Bool)) × (List (List Int)) × (List (List Int)) × Int × Int × Int)
  | 0, _, _, _, _, _, _, _, _ => none
  | k + 1, l0_0, l0_1, x7742, x7747, x7753, x8045, x8051, x8057 => if x8057 < (l0_0.length : Int) then ((blazonref14_Join.f k l0_0 l0_1 x7742 x8057).bind fun t8079 => (if x8045.length < 17592186044416 then ((some (x8045 ++ [t8079] : List Int)).bind fun y8086 => ((blazonref14_Meet.f k l0_0 l0_1 x7742 x8057).bind fun t8095 => (if x8051.length < 17592186044416 then ((some (x8051 ++ [t8095] : List Int)).bind fun y8102 => (blazonref14_New.l0 k l0_0 l0_1 x7742 x7747 x7753 y8086 y8102 (wrap64 (x8057 + 1)))) else (none)))) else (none))) else (if x7747.length < 5864062014805 then ((some (x7747 ++ [x8045] : List (List Int))).bind fun y8114 => (if x7753.length < 5864062014805 then ((some (x7753 ++ [x8051] : List (List Int))).bind fun y8128 => (blazonref14_New.l6 k l0_0 l0_1 (wrap64 (x7742 + 1)) y8114 y8128)) else (none))) else (none))
def blazonref14_New.l1 : Nat → (List ByteArray) → (List (List Bool)) → (List (List Int)) → (List (List Int)) → Int → Int → Option (List ByteArray × (List (List Bool)) × (List (List Int)) × (List (List Int)) × Int × Int × Int)
  | 0, _, _, _, _, _, _ => none
  | k + 1, l0_0, l0_1, x7747, x7753, x9027, x9166 => if x9166 < (l0_0.length : Int) then (if 0 ≤ x9027 then (if x9027 < (x7747.length : Int) then (if 0 ≤ x9166 then (if x9166 < ((rd_L21 x7747 x9027).length : Int) then (if (rd (rd_L21 x7747 x9027) x9166) < 0 then (some (([] : List ByteArray), ([] : List (List Bool)), ([] : List (List Int)), ([] : List (List Int)), x9027, x9166, 17)) else (if x9027 < (x7753.length : Int) then (if x9166 < ((rd_L21 x7753 x9027).length : Int) then (if (rd (rd_L21 x7753 x9027) x9166) < 0 then (some (([] : List ByteArray), ([] : List (List Bool)), ([] : List (List Int)), ([] : List (List Int)), x9027, x9166, 17)) else (blazonref14_New.l1 k l0_0 l0_1 x7747 x7753 x9027 (wrap64 (x9166 + 1)))) else (none)) else (none))) else (none)) else (none)) else (none)) else (none)) else (blazonref14_New.l5 k l0_0 l0_1 x7747 x7753 (wrap64 (x9027 + 1)))
def blazonref14_New.l2 : Nat → (List ByteArray) → (List (List Bool)) → (List (List Int)) → (List (List Int)) → Int → Int → Int → Option (List ByteArray × (List (List Bool)) × (List (List Int)) × (List (List Int)) × Int × Int × Int)
  | 0, _, _, _, _, _, _, _ => none
  | k + 1, l0_0, l0_1, x7747, x7753, x10641, x11116, x11275 => if x11275 < (l0_0.length : Int) then (if 0 ≤ x10641 then (if x10641 < (x7753.length : Int) then (if 0 ≤ x11116 then (if x11116 < (x7747.length : Int) then (if 0 ≤ x11275 then (if x11275 < ((rd_L21 x7747 x11116).length : Int) then (if 0 ≤ (rd (rd_L21 x7747 x11116) x11275) then (if (rd (rd_L21 x7747 x11116) x11275) < ((rd_L21 x7753 x10641).length : Int) then (if x11116 < ((rd_L21 x7753 x10641).length : Int) then (if 0 ≤ (rd (rd_L21 x7753 x10641) x11116) then (if (rd (rd_L21 x7753 x10641) x11116) < (x7747.length : Int) then (if x11275 < ((rd_L21 x7753 x10641).length : Int) then (if 0 ≤ (rd (rd_L21 x7753 x10641) x11275) then (if (rd (rd_L21 x7753 x10641) x11275) < ((rd_L21 x7747 (rd (rd_L21 x7753 x10641) x11116)).length : Int) then (if (rd (rd_L21 x7753 x10641) (rd (rd_L21 x7747 x11116) x11275)) = (rd (rd_L21 x7747 (rd (rd_L21 x7753 x10641) x11116)) (rd (rd_L21 x7753 x10641) x11275)) then (blazonref14_New.l2 k l0_0 l0_1 x7747 x7753 x10641 x11116 (wrap64 (x11275 + 1))) else (some (([] : List ByteArray), ([] : List (List Bool)), ([] : List (List Int)), ([] : List (List Int)), x10641, x11116, 17))) else (none)) else (none)) else (none)) else (none)) else (none)) else (none)) else (none)) else (none)) else (none)) else (none)) else (none)) else (none)) else (none)) else (none)) else (blazonref14_New.l3 k l0_0 l0_1 x7747 x7753 x10641 (wrap64 (x11116 + 1)))
def blazonref14_New.l3 : Nat → (List ByteArray) → (List (List Bool)) → (List (List Int)) → (List (List Int)) → Int → Int → Option (List ByteArray × (List (List Bool)) × (List (List Int)) × (List (List Int)) × Int × Int × Int)
  | 0, _, _, _, _, _, _ => none
  | k + 1, l0_0, l0_1, x7747, x7753, x10641, x11116 => if x11116 < (l0_0.length : Int) then (blazonref14_New.l2 k l0_0 l0_1 x7747 x7753 x10641 x11116 0) else (blazonref14_New.l4 k l0_0 l0_1 x7747 x7753 (wrap64 (x10641 + 1)))
def blazonref14_New.l4 : Nat → (List ByteArray) → (List (List Bool)) → (List (List Int)) → (List (List Int)) → Int → Option (List ByteArray × (List (List Bool)) × (List (List Int)) × (List (List Int)) × Int × Int × Int)
  | 0, _, _, _, _, _ => none
  | k + 1, l0_0, l0_1, x7747, x7753, x10641 => if x10641 < (l0_0.length : Int) then (blazonref14_New.l3 k l0_0 l0_1 x7747 x7753 x10641 0) else (some (l0_0, l0_1, x7747, x7753, 0, 0, 0))
def blazonref14_New.l5 : Nat → (List ByteArray) → (List (List Bool)) → (List (List Int)) → (List (List Int)) → Int → Option (List ByteArray × (List (List Bool)) × (List (List Int)) × (List (List Int)) × Int × Int × Int)
  | 0, _, _, _, _, _ => none
  | k + 1, l0_0, l0_1, x7747, x7753, x9027 => if x9027 < (l0_0.length : Int) then (blazonref14_New.l1 k l0_0 l0_1 x7747 x7753 x9027 x9027) else (blazonref14_New.l4 k l0_0 l0_1 x7747 x7753 0)
def blazonref14_New.l6 : Nat → (List ByteArray) → (List (List Bool)) → Int → (List (List Int)) → (List (List Int)) → Option (List ByteArray × (List (List Bool)) × (List (List Int)) × (List (List Int)) × Int × Int × Int)
  | 0, _, _, _, _, _ => none
  | k + 1, l0_0, l0_1, x7742, x7747, x7753 => if x7742 < (l0_0.length : Int) then (blazonref14_New.l0 k l0_0 l0_1 x7742 x7747 x7753 ([] : List Int) ([] : List Int) 0) else (blazonref14_New.l5 k l0_0 l0_1 x7747 x7753 0)
end
def blazonref14_New.f (k : Nat) (l0_0 : List ByteArray) (l0_1 : List (List Bool)) : Option (List ByteArray × (List (List Bool)) × (List (List Int)) × (List (List Int)) × Int × Int × Int) := if (l0_0.length : Int) = 0 then (some (([] : List ByteArray), ([] : List (List Bool)), ([] : List (List Int)), ([] : List (List Int)), 0, 0, 1)) else (blazonref14_New.l6 k l0_0 l0_1 0 ([] : List (List Int)) ([] : List (List Int)))

set_option maxHeartbeats 2000000 in
set_option maxRecDepth 100000 in
theorem blazonref14_New.calls (k : Nat) (A0_0 : Option Addr) (c0_0 : Nat) (l0_0 : List ByteArray) (A0_1 : Option Addr) (c0_1 : Nat) (l0_1 : List (List Bool)) (r1 : List ByteArray) (r2 : List (List Bool)) (r3 : List (List Int)) (r4 : List (List Int)) (r5 : Int) (r6 : Int) (r7 : Int) (c : Nat → Nat) (w : World) (hc : ∀ k, c k < 10) (HP0_0 : Ft c [0] w (fun w_ => Kd.string.C w_ A0_0 l0_0.length l0_0)) (HCP0_0 : l0_0.length ≤ c0_0) (HP0_1 : Ft c [0] w (fun w_ => (Kd.slice 4 Kd.bool).C w_ A0_1 l0_1.length l0_1)) (HCP0_1 : l0_1.length ≤ c0_1) (H : blazonref14_New.f k l0_0 l0_1 = some (r1, r2, r3, r4, r5, r6, r7)) :
    Calls Tryd.prog 18 #[.agg #[.slice A0_0 l0_0.length c0_0, .slice A0_1 l0_1.length c0_1]] w fun e w' => ∃ (c' : Nat → Nat) (A_r1 : Option Addr) (c_r1 : Nat) (A_r2 : Option Addr) (c_r2 : Nat) (A_r3 : Option Addr) (c_r3 : Nat) (A_r4 : Option Addr) (c_r4 : Nat), e = .returned (.tuple #[.agg #[.slice A_r1 r1.length c_r1, .slice A_r2 r2.length c_r2, .slice A_r3 r3.length c_r3, .slice A_r4 r4.length c_r4], .int .i64 r5, .int .i64 r6, .int .i64 r7]) ∧ Step c w c' w' [] ∧ Ft c' [0] w' (fun w_ => Kd.string.C w_ A_r1 r1.length r1) ∧ r1.length ≤ c_r1 ∧ Ft c' [0] w' (fun w_ => (Kd.slice 4 Kd.bool).C w_ A_r2 r2.length r2) ∧ r2.length ≤ c_r2 ∧ Own c' 7 w' (Kd.slice 3 (Kd.int .i64)) 23 (.slice A_r3 r3.length c_r3) r3 ∧ r3.length ≤ c_r3 ∧ Own c' 8 w' (Kd.slice 3 (Kd.int .i64)) 23 (.slice A_r4 r4.length c_r4) r4 ∧ r4.length ≤ c_r4 := by
 unfold blazonref14_New.f at H
 have HS := Step.refl c w []
 go_enter Tryd.func18, Tryd.ntmps18
 refine wp_seq_k fun K5679 hK5679 => ?_
 refine wl_region ?_
 refine bx_new (C := c) 33 ([.slice A0_0 l0_0.length c0_0, .slice A0_1 l0_1.length c0_1]) 11 rfl rfl (by first | (go_simp; done) | (go_simp; rfl)) ?_
 intro g5680 w5681 C5682 HX5683 hs5684
 replace HP0_0 := HP0_0.thru hs5684 rfl
 replace HP0_1 := HP0_1.thru hs5684 rfl
 replace HS := HS.trans hs5684 hc rfl
 (try simp only [ls0, ls1])
 refine bx_new (C := C5682) 41 ([.slice none 0 0, .slice none 0 0, .slice none 0 0, .slice none 0 0]) 12 rfl rfl (by first | (go_simp; done) | (go_simp; rfl)) ?_
 intro g5685 w5686 C5687 HX5688 hs5689
 replace HP0_0 := HP0_0.thru hs5689 rfl
 replace HP0_1 := HP0_1.thru hs5689 rfl
 replace HX5683 := HX5683.thru hs5689 rfl
 replace HS := HS.trans hs5689 hc rfl
 (try simp only [ls0, ls1])
 refine st (.int .i64 0) rfl rfl (xr_assign _ rfl rfl) ?_
 refine st (.int .i64 0) rfl rfl (xr_assign _ rfl rfl) ?_
 refine st (.int .i64 0) rfl rfl (xr_assign _ rfl rfl) ?_
 refine wl_end ?_
 (try simp only [ls0, ls1])
 refine hK5679 _ _ ?_
 (try clear hK5679 K5679)
 refine wp_seq_k fun K5690 hK5690 => ?_
 refine wl_region ?_
 refine st (.pointer (some ⟨g5680, 0, none⟩)) rfl rfl (xr_fieldAddr _ _ rfl rfl (bx_field2 Tryd.underlying33 rfl rfl (by kernel_rfl))) ?_
 refine st (.slice A0_0 l0_0.length c0_0) rfl rfl (xr_load _ _ rfl rfl (load_cell Tryd.underlying30 rfl (bx_cell (HX5683).2 0 rfl))) ?_
 refine st (.int .i64 (l0_0.length : Int)) rfl rfl (xr_builtin #[.slice A0_0 l0_0.length c0_0] (.int .i64 (l0_0.length : Int)) rfl (mp_ rfl) (by first | rfl | (go_simp; done) | (go_simp; rfl) | (go_simp; exact i64_w _) | (go_simp; exact i32_w _))) ?_
 refine as_ rfl ?_
 simp only [ls0, ls1]
 refine wl_end ?_
 (try simp only [ls0, ls1])
 refine hK5690 _ _ ?_
 (try clear hK5690 K5690)
 refine wp_seq_k fun K5691 hK5691 => ?_
 refine wp_seq_k fun K5692 hK5692 => ?_
 refine wl_region ?_
 refine mv_ rfl ?_
 refine st (.bool (decide ((l0_0.length : Int) = 0))) rfl rfl (xr_bin _ _ _ rfl rfl rfl (B.eql_i64 _ _)) ?_
 refine wl_end ?_
 (try simp only [ls0, ls1])
 refine hK5692 _ _ ?_
 (try clear hK5692 K5692)
 by_cases c5693 : (l0_0.length : Int) = 0
 ·rw [if_pos c5693] at H
  (try rw [(decide_eq_true c5693)])
  refine wp_cond_true rfl ?_
  refine wp_seq_k fun K5694 hK5694 => ?_
  refine wl_region ?_
  refine st (.agg #[.slice none 0 0, .slice none 0 0, .slice none 0 0, .slice none 0 0]) rfl rfl (xr_build #[] (.agg #[.slice none 0 0, .slice none 0 0, .slice none 0 0, .slice none 0 0]) rfl (mp_ rfl) (by first | rfl | (go_simp; done) | (go_simp; rfl) | (go_simp; exact i64_w _) | (go_simp; exact i32_w _))) ?_
  refine bx_store (C := C5687) (z := 12) (g := g5685) (j := 0) (tb := 41) (u := .agg #[.slice none 0 0, .slice none 0 0, .slice none 0 0, .slice none 0 0]) (seg := [.slice none 0 0, .slice none 0 0, .slice none 0 0, .slice none 0 0]) (xs := [.slice none 0 0, .slice none 0 0, .slice none 0 0, .slice none 0 0]) rfl rfl rfl rfl rfl rfl (by first | kernel_rfl | rfl) (by simp [Value.oneCell']) HX5688 (by simp only [List.length_cons, List.length_nil]; omega) rfl ?_
  intro w5695 HX5696 hs5697
  replace HP0_0 := HP0_0.thru hs5697 rfl
  replace HP0_1 := HP0_1.thru hs5697 rfl
  replace HX5683 := HX5683.thru hs5697 rfl
  replace HS := HS.trans hs5697 hc rfl
  (try simp only [ls0, ls1])
  refine st (.int .i64 0) rfl rfl (xr_assign _ rfl rfl) ?_
  refine st (.int .i64 0) rfl rfl (xr_assign _ rfl rfl) ?_
  refine st (.int .i64 1) rfl rfl (xr_assign _ rfl rfl) ?_
  refine wl_end ?_
  (try simp only [ls0, ls1])
  refine hK5694 _ _ ?_
  (try clear hK5694 K5694)
  refine wp_ret ?_
  (try simp only [Exit.inBlock, Exit.then, Exit.noGoto])
  (try simp only [ls0, ls1])
  simp only [Option.some.injEq, Prod.mk.injEq] at H
  obtain ⟨rfl, rfl, rfl, rfl, rfl, rfl, rfl⟩ := H
  refine bodyPost_ret (res_cttt rfl rfl (load_of (load_agg (cs := [.slice none 0 0, .slice none 0 0, .slice none 0 0, .slice none 0 0]) Tryd.underlying41 rfl (by kernel_rfl) (bx_cells (HX5696).2 0 rfl)))) rfl ?_
  exact ⟨_, none, 0, none, 0, none, 0, none, 0, rfl, HS, (Kd.F_nil _ _ _), (Nat.le_refl 0), (Kd.F_nil _ _ _), (Nat.le_refl 0), (Own.nil _ _ _ _ _), (Nat.le_refl 0), (Own.nil _ _ _ _ _), (Nat.le_refl 0)⟩
 rw [if_neg c5693] at H
 (try rw [(decide_eq_false c5693)])
 refine wp_cond_false rfl ?_
 refine wp_skip ?_
 (try simp only [ls0, ls1])
 refine hK5691 _ _ ?_
 (try clear hK5691 K5691)
 refine wp_seq_k fun K5698 hK5698 => ?_
 refine wl_region ?_
 refine st (.agg #[.slice A0_0 l0_0.length c0_0, .slice A0_1 l0_1.length c0_1]) rfl rfl (xr_load _ _ rfl rfl (load_agg (cs := [.slice A0_0 l0_0.length c0_0, .slice A0_1 l0_1.length c0_1]) Tryd.underlying33 rfl (by kernel_rfl) (bx_cells (HX5683).2 0 rfl))) ?_
 refine st (.agg #[.slice A0_0 l0_0.length c0_0, .slice A0_1 l0_1.length c0_1, .slice none 0 0, .slice none 0 0]) rfl rfl (xr_build #[(0, .agg #[.slice A0_0 l0_0.length c0_0, .slice A0_1 l0_1.length c0_1])] (.agg #[.slice A0_0 l0_0.length c0_0, .slice A0_1 l0_1.length c0_1, .slice none 0 0, .slice none 0 0]) rfl (mp_ rfl) (by first | rfl | (go_simp; done) | (go_simp; rfl) | (go_simp; exact i64_w _) | (go_simp; exact i32_w _))) ?_
 refine bx_new (C := C5687) 41 ([.slice none 0 0, .slice none 0 0, .slice none 0 0, .slice none 0 0]) 13 rfl rfl (by first | (go_simp; done) | (go_simp; rfl)) ?_
 intro g5699 w5700 C5701 HX5702 hs5703
 replace HP0_0 := HP0_0.thru hs5703 rfl
 replace HP0_1 := HP0_1.thru hs5703 rfl
 replace HX5683 := HX5683.thru hs5703 rfl
 replace HX5688 := HX5688.thru hs5703 rfl
 replace HS := HS.trans hs5703 hc rfl
 (try simp only [ls0, ls1])
 refine bx_store (C := C5701) (z := 13) (g := g5699) (j := 0) (tb := 41) (u := .agg #[.slice A0_0 l0_0.length c0_0, .slice A0_1 l0_1.length c0_1, .slice none 0 0, .slice none 0 0]) (seg := [.slice A0_0 l0_0.length c0_0, .slice A0_1 l0_1.length c0_1, .slice none 0 0, .slice none 0 0]) (xs := [.slice none 0 0, .slice none 0 0, .slice none 0 0, .slice none 0 0]) rfl rfl rfl rfl rfl rfl (by first | kernel_rfl | rfl) (by simp [Value.oneCell']) HX5702 (by simp only [List.length_cons, List.length_nil]; omega) rfl ?_
 intro w5704 HX5705 hs5706
 replace HP0_0 := HP0_0.thru hs5706 rfl
 replace HP0_1 := HP0_1.thru hs5706 rfl
 replace HX5683 := HX5683.thru hs5706 rfl
 replace HX5688 := HX5688.thru hs5706 rfl
 replace HS := HS.trans hs5706 hc rfl
 (try simp only [ls0, ls1])
 refine wl_end ?_
 (try simp only [ls0, ls1])
 refine hK5698 _ _ ?_
 (try clear hK5698 K5698)
 refine wp_seq_k fun K5707 hK5707 => ?_
 refine wp_seq_k fun K6924 hK6924 => ?_
 refine wl_region ?_
 refine st (.int .i64 0) rfl rfl (xr_assign _ rfl rfl) ?_
 refine wl_end ?_
 (try simp only [ls0, ls1])
 refine hK6924 _ _ ?_
 (try clear hK6924 K6924)
 refine wp_block ?_
 (try simp only [ls0, ls1])
 refine wp_looped (looped_fin (fun kq7762 a_ w7761 => ∃ (C7760 : Nat → Nat) (x7742 : Int) (A7748 : Option Addr) (n7749 cp7750 : Nat) (x7747 : List (List Int)) (A7754 : Option Addr) (n7755 cp7756 : Nat) (x7753 : List (List Int)) (g_ : Nat → Value), a_ = ⟨#[(g_ 0), .pointer (some ⟨g5680, 0, none⟩), .pointer (some ⟨g5685, 0, none⟩), (g_ 3), (g_ 4), (g_ 5), .int .i64 (l0_0.length : Int), .pointer (some ⟨g5699, 0, none⟩), .int .i64 x7742, (g_ 9), (g_ 10), (g_ 11), (g_ 12), (g_ 13), (g_ 14), (g_ 15), (g_ 16), (g_ 17), (g_ 18), (g_ 19), (g_ 20), (g_ 21), (g_ 22), (g_ 23), (g_ 24), (g_ 25), (g_ 26), (g_ 27), (g_ 28), (g_ 29), (g_ 30), (g_ 31), (g_ 32), (g_ 33), (g_ 34), (g_ 35), (g_ 36), (g_ 37), (g_ 38), (g_ 39), (g_ 40), (g_ 41), (g_ 42), (g_ 43), (g_ 44), (g_ 45), (g_ 46), (g_ 47), (g_ 48), (g_ 49), (g_ 50), (g_ 51), (g_ 52), (g_ 53), (g_ 54), (g_ 55), (g_ 56), (g_ 57), (g_ 58), (g_ 59), (g_ 60), (g_ 61), (g_ 62), (g_ 63), (g_ 64), (g_ 65), (g_ 66), (g_ 67), (g_ 68), (g_ 69), (g_ 70), (g_ 71), (g_ 72), (g_ 73), (g_ 74), (g_ 75), (g_ 76), (g_ 77), (g_ 78), (g_ 79), (g_ 80), (g_ 81), (g_ 82), (g_ 83), (g_ 84), (g_ 85), (g_ 86), (g_ 87), (g_ 88), (g_ 89), (g_ 90), (g_ 91), (g_ 92), (g_ 93), (g_ 94), (g_ 95), (g_ 96), (g_ 97), (g_ 98), (g_ 99), (g_ 100), (g_ 101), (g_ 102), (g_ 103), (g_ 104), (g_ 105), (g_ 106), (g_ 107), (g_ 108), (g_ 109), (g_ 110), (g_ 111), (g_ 112), (g_ 113), (g_ 114), (g_ 115), (g_ 116), (g_ 117), (g_ 118), (g_ 119), (g_ 120), (g_ 121), (g_ 122), (g_ 123), (g_ 124), (g_ 125), (g_ 126), (g_ 127), (g_ 128), (g_ 129), (g_ 130), (g_ 131), (g_ 132), (g_ 133), (g_ 134), (g_ 135), (g_ 136), (g_ 137), (g_ 138), (g_ 139), (g_ 140), (g_ 141), (g_ 142), (g_ 143), (g_ 144), (g_ 145), (g_ 146), (g_ 147), (g_ 148), (g_ 149), (g_ 150), (g_ 151)], []⟩ ∧ Step c w C7760 w7761 [] ∧ kq7762 ≤ k ∧ (Ft C7760 [0] w7761 (fun w_ => Kd.string.C w_ A0_0 l0_0.length l0_0)) ∧ (Ft C7760 [0] w7761 (fun w_ => (Kd.slice 4 Kd.bool).C w_ A0_1 l0_1.length l0_1)) ∧ (Bx C7760 11 w7761 g5680 33 ([.slice A0_0 l0_0.length c0_0, .slice A0_1 l0_1.length c0_1])) ∧ (Bx C7760 12 w7761 g5685 41 ([.slice none 0 0, .slice none 0 0, .slice none 0 0, .slice none 0 0])) ∧ (Own C7760 14 w7761 (Kd.slice 3 (Kd.int .i64)) 23 (.slice A7748 n7749 cp7750) x7747) ∧ (n7749 ≤ cp7750) ∧ (Own C7760 15 w7761 (Kd.slice 3 (Kd.int .i64)) 23 (.slice A7754 n7755 cp7756) x7753) ∧ (n7755 ≤ cp7756) ∧ (Bx C7760 13 w7761 g5699 41 ([.slice A0_0 l0_0.length c0_0, .slice A0_1 l0_1.length c0_1, .slice A7748 n7749 cp7750, .slice A7754 n7755 cp7756])) ∧ blazonref14_New.l6 kq7762 l0_0 l0_1 x7742 x7747 x7753 = some (r1, r2, r3, r4, r5, r6, r7)) ?step fun hL_ => ?init)
 case init =>
  exact jmpL (fun a_ h_ => hL_ k a_ _ h_) (fun g_ => ⟨_, 0, none, 0, 0, ([] : List (List Int)), none, 0, 0, ([] : List (List Int)), g_, rfl, HS, Nat.le_refl _, HP0_0, HP0_1, HX5683, HX5688, (Own.nil _ _ _ _ _), (Nat.le_refl 0), (Own.nil _ _ _ _ _), (Nat.le_refl 0), HX5705, H⟩) rfl
 case step =>
  intro kq7762 ih7765 a7766 w7761 hr7767
  obtain ⟨C7760, x7742, A7748, n7749, cp7750, x7747, A7754, n7755, cp7756, x7753, g_, rfl, HS7763, hk7764, HJ7743, HJ7744, HJ7745, HJ7746, HJ7752, HC7751, HJ7758, HC7757, HJ7759, H⟩ := hr7767
  refine looped_round ?_
  obtain rfl : n7749 = x7747.length := HJ7752.at_.1
  obtain rfl : n7755 = x7753.length := HJ7758.at_.1
  cases kq7762 with
  | zero => exact absurd H (by simp [blazonref14_New.l6])
  | succ k7768 =>
   simp only [blazonref14_New.l6] at H
   refine wp_seq_k fun K7769 hK7769 => ?_
   refine wp_seq_k fun K7770 hK7770 => ?_
   refine wl_region ?_
   refine mv_ rfl ?_
   refine mv_ rfl ?_
   refine st (.bool (decide (x7742 < (l0_0.length : Int)))) rfl rfl (xr_bin _ _ _ rfl rfl rfl (B.lss_i64 _ _)) ?_
   refine wl_end ?_
   (try simp only [ls0, ls1])
   refine hK7770 _ _ ?_
   (try clear hK7770 K7770)
   by_cases c7771 : x7742 < (l0_0.length : Int)
   ·rw [if_pos c7771] at H
    (try rw [(decide_eq_true c7771)])
    refine wp_cond_true rfl ?_
    refine wp_skip ?_
    (try simp only [ls0, ls1])
    refine hK7769 _ _ ?_
    (try clear hK7769 K7769)
    refine wp_seq_k fun K7772 hK7772 => ?_
    refine wp_block ?_
    refine wp_seq_k fun K7773 hK7773 => ?_
    refine wl_region ?_
    refine st (.slice none 0 0) rfl rfl (xr_assign _ rfl rfl) ?_
    refine st (.slice none 0 0) rfl rfl (xr_assign _ rfl rfl) ?_
    refine wl_end ?_
    (try simp only [ls0, ls1])
    refine hK7773 _ _ ?_
    (try clear hK7773 K7773)
    refine wp_seq_k fun K7774 hK7774 => ?_
    refine wp_seq_k fun K7943 hK7943 => ?_
    refine wl_region ?_
    refine st (.int .i64 0) rfl rfl (xr_assign _ rfl rfl) ?_
    refine wl_end ?_
    (try simp only [ls0, ls1])
    refine hK7943 _ _ ?_
    (try clear hK7943 K7943)
    refine wp_block ?_
    (try simp only [ls0, ls1])
    refine wp_looped (looped_fin (fun kq8067 a_ w8066 => ∃ (C8065 : Nat → Nat) (x8057 : Int) (A8046 : Option Addr) (n8047 cp8048 : Nat) (x8045 : List Int) (A8052 : Option Addr) (n8053 cp8054 : Nat) (x8051 : List Int) (g_ : Nat → Value), a_ = ⟨#[(g_ 0), .pointer (some ⟨g5680, 0, none⟩), .pointer (some ⟨g5685, 0, none⟩), (g_ 3), (g_ 4), (g_ 5), .int .i64 (l0_0.length : Int), .pointer (some ⟨g5699, 0, none⟩), .int .i64 x7742, .slice A8046 n8047 cp8048, .slice A8052 n8053 cp8054, .int .i64 x8057, (g_ 12), (g_ 13), (g_ 14), (g_ 15), (g_ 16), (g_ 17), (g_ 18), (g_ 19), (g_ 20), (g_ 21), (g_ 22), (g_ 23), (g_ 24), (g_ 25), (g_ 26), (g_ 27), (g_ 28), (g_ 29), (g_ 30), (g_ 31), (g_ 32), (g_ 33), (g_ 34), (g_ 35), (g_ 36), (g_ 37), (g_ 38), (g_ 39), (g_ 40), (g_ 41), (g_ 42), (g_ 43), (g_ 44), (g_ 45), (g_ 46), (g_ 47), (g_ 48), (g_ 49), (g_ 50), (g_ 51), (g_ 52), (g_ 53), (g_ 54), (g_ 55), (g_ 56), (g_ 57), (g_ 58), (g_ 59), (g_ 60), (g_ 61), (g_ 62), (g_ 63), (g_ 64), (g_ 65), (g_ 66), (g_ 67), (g_ 68), (g_ 69), (g_ 70), (g_ 71), (g_ 72), (g_ 73), (g_ 74), (g_ 75), (g_ 76), (g_ 77), (g_ 78), (g_ 79), (g_ 80), (g_ 81), (g_ 82), (g_ 83), (g_ 84), (g_ 85), (g_ 86), (g_ 87), (g_ 88), (g_ 89), (g_ 90), (g_ 91), (g_ 92), (g_ 93), (g_ 94), (g_ 95), (g_ 96), (g_ 97), (g_ 98), (g_ 99), (g_ 100), (g_ 101), (g_ 102), (g_ 103), (g_ 104), (g_ 105), (g_ 106), (g_ 107), (g_ 108), (g_ 109), (g_ 110), (g_ 111), (g_ 112), (g_ 113), (g_ 114), (g_ 115), (g_ 116), (g_ 117), (g_ 118), (g_ 119), (g_ 120), (g_ 121), (g_ 122), (g_ 123), (g_ 124), (g_ 125), (g_ 126), (g_ 127), (g_ 128), (g_ 129), (g_ 130), (g_ 131), (g_ 132), (g_ 133), (g_ 134), (g_ 135), (g_ 136), (g_ 137), (g_ 138), (g_ 139), (g_ 140), (g_ 141), (g_ 142), (g_ 143), (g_ 144), (g_ 145), (g_ 146), (g_ 147), (g_ 148), (g_ 149), (g_ 150), (g_ 151)], []⟩ ∧ Step c w C8065 w8066 [] ∧ kq8067 ≤ k7768 ∧ (Own C8065 16 w8066 (Kd.int .i64) 3 (.slice A8046 n8047 cp8048) x8045) ∧ (n8047 ≤ cp8048) ∧ (Own C8065 17 w8066 (Kd.int .i64) 3 (.slice A8052 n8053 cp8054) x8051) ∧ (n8053 ≤ cp8054) ∧ (Ft C8065 [0] w8066 (fun w_ => Kd.string.C w_ A0_0 l0_0.length l0_0)) ∧ (Ft C8065 [0] w8066 (fun w_ => (Kd.slice 4 Kd.bool).C w_ A0_1 l0_1.length l0_1)) ∧ (Bx C8065 11 w8066 g5680 33 ([.slice A0_0 l0_0.length c0_0, .slice A0_1 l0_1.length c0_1])) ∧ (Bx C8065 12 w8066 g5685 41 ([.slice none 0 0, .slice none 0 0, .slice none 0 0, .slice none 0 0])) ∧ (Own C8065 14 w8066 (Kd.slice 3 (Kd.int .i64)) 23 (.slice A7748 x7747.length cp7750) x7747) ∧ (Own C8065 15 w8066 (Kd.slice 3 (Kd.int .i64)) 23 (.slice A7754 x7753.length cp7756) x7753) ∧ (Bx C8065 13 w8066 g5699 41 ([.slice A0_0 l0_0.length c0_0, .slice A0_1 l0_1.length c0_1, .slice A7748 x7747.length cp7750, .slice A7754 x7753.length cp7756])) ∧ blazonref14_New.l0 kq8067 l0_0 l0_1 x7742 x7747 x7753 x8045 x8051 x8057 = some (r1, r2, r3, r4, r5, r6, r7)) ?step fun hL_ => ?init)
    case init =>
     exact jmpL (fun a_ h_ => hL_ k7768 a_ _ h_) (fun g_ => ⟨_, 0, none, 0, 0, ([] : List Int), none, 0, 0, ([] : List Int), g_, rfl, HS7763, Nat.le_refl _, (Own.nil _ _ _ _ _), (Nat.le_refl 0), (Own.nil _ _ _ _ _), (Nat.le_refl 0), HJ7743, HJ7744, HJ7745, HJ7746, HJ7752, HJ7758, HJ7759, H⟩) rfl
    case step =>
     intro kq8067 ih8070 a8071 w8066 hr8072
     obtain ⟨C8065, x8057, A8046, n8047, cp8048, x8045, A8052, n8053, cp8054, x8051, g_, rfl, HS8068, hk8069, HJ8050, HC8049, HJ8056, HC8055, HJ8058, HJ8059, HJ8060, HJ8061, HJ8062, HJ8063, HJ8064, H⟩ := hr8072
     refine looped_round ?_
     obtain rfl : n8047 = x8045.length := HJ8050.at_.1
     obtain rfl : n8053 = x8051.length := HJ8056.at_.1
     cases kq8067 with
     | zero => exact absurd H (by simp [blazonref14_New.l0])
     | succ k8073 =>
      simp only [blazonref14_New.l0] at H
      refine wp_seq_k fun K8074 hK8074 => ?_
      refine wp_seq_k fun K8075 hK8075 => ?_
      refine wl_region ?_
      refine mv_ rfl ?_
      refine mv_ rfl ?_
      refine st (.bool (decide (x8057 < (l0_0.length : Int)))) rfl rfl (xr_bin _ _ _ rfl rfl rfl (B.lss_i64 _ _)) ?_
      refine wl_end ?_
      (try simp only [ls0, ls1])
      refine hK8075 _ _ ?_
      (try clear hK8075 K8075)
      by_cases c8076 : x8057 < (l0_0.length : Int)
      ·rw [if_pos c8076] at H
       (try rw [(decide_eq_true c8076)])
       refine wp_cond_true rfl ?_
       refine wp_skip ?_
       (try simp only [ls0, ls1])
       refine hK8074 _ _ ?_
       (try clear hK8074 K8074)
       refine wp_seq_k fun K8077 hK8077 => ?_
       refine wp_block ?_
       refine wp_seq_k fun K8078 hK8078 => ?_
       refine wl_region ?_
       refine mv_ rfl ?_
       refine st (.agg #[.slice A0_0 l0_0.length c0_0, .slice A0_1 l0_1.length c0_1]) rfl rfl (xr_load _ _ rfl rfl (load_agg (cs := [.slice A0_0 l0_0.length c0_0, .slice A0_1 l0_1.length c0_1]) Tryd.underlying33 rfl (by kernel_rfl) (bx_cells (HJ8060).2 0 rfl))) ?_
       refine mv_ rfl ?_
       refine mv_ rfl ?_
       simp only [ls0, ls1]
       obtain ⟨t8079, A8080, H⟩ := bnd H
       refine st_call #[.agg #[.slice A0_0 l0_0.length c0_0, .slice A0_1 l0_1.length c0_1], .int .i64 x7742, .int .i64 x8057] rfl rfl Tryd.func60 (by kernel_rfl) rfl rfl (mp_ rfl) ?_
       refine (blazonref14_Join.calls k8073 A0_0 c0_0 l0_0 A0_1 c0_1 l0_1 x7742 x8057 t8079  (fun z_ => pal [(0, 0)] (C8065 z_)) w8066 (fun _ => pal_lt rfl _) (Ft.arg HJ8058 rfl) HCP0_0 (Ft.arg HJ8059 rfl) HCP0_1 A8080).mono ?_
       rintro _ w8082 ⟨C8083, rfl, hs8084⟩
       refine ⟨_, rfl, ?_⟩
       replace hs8084 := Step.lift (U := [(0, 0)]) hs8084 [] rfl rfl
       generalize up C8065 C8083 w8066.heap.size [(0, 0)] = C8083_ at hs8084
       replace HJ8050 := HJ8050.thru hs8084 rfl
       replace HJ8056 := HJ8056.thru hs8084 rfl
       replace HJ8060 := HJ8060.thru hs8084 rfl
       replace HJ8058 := HJ8058.thru hs8084 rfl
       replace HJ8059 := HJ8059.thru hs8084 rfl
       replace HJ8061 := HJ8061.thru hs8084 rfl
       replace HJ8064 := HJ8064.thru hs8084 rfl
       replace HJ8062 := HJ8062.thru hs8084 rfl
       replace HJ8063 := HJ8063.thru hs8084 rfl
       replace HS8068 := HS8068.trans hs8084 hc rfl
       (try simp only [ls0, ls1])
       refine ev_run (w1 := w8082.alloc (.cells #[.int .i64 t8079] 3)) (.slice (some ⟨w8082.heap.size, 0, none⟩) 1 1) rfl rfl (by first | (go_simp; done) | (go_simp; rfl)) ?_
       (try simp only [Act.put, List.setIfInBounds_toArray, ls0, ls1])
       obtain ⟨c8085, H⟩ := if_some H
       obtain ⟨y8086, A8087, H⟩ := bnd H
       refine Own.append (Kd.int .i64) (C := C8083_) (i := 16) rfl (.tmp 35) (.tmp 40) 23 3 (.int .i64 0) 8 rfl Tryd.underlying23 info3 rfl (by decide) (by decide) (.slice A8046 x8045.length cp8048) x8045 t8079 [.int .i64 t8079] rfl rfl (fk_int .i64 _ _ t8079) HJ8050 (by decide) (by omega) (Option.some.inj A8087) ?_
       intro A8088 cp8089 w8090 C8091 HO8092 HC8093 hs8094
       replace HJ8056 := HJ8056.thru hs8094 rfl
       replace HJ8060 := HJ8060.thru hs8094 rfl
       replace HJ8058 := HJ8058.thru hs8094 rfl
       replace HJ8059 := HJ8059.thru hs8094 rfl
       replace HJ8061 := HJ8061.thru hs8094 rfl
       replace HJ8064 := HJ8064.thru hs8094 rfl
       replace HJ8062 := HJ8062.thru hs8094 rfl
       replace HJ8063 := HJ8063.thru hs8094 rfl
       replace HS8068 := HS8068.trans hs8094 hc rfl
       (try simp only [ls0, ls1])
       refine as_ rfl ?_
       refine wl_end ?_
       (try simp only [ls0, ls1])
       refine hK8078 _ _ ?_
       (try clear hK8078 K8078)
       refine wl_region ?_
       refine mv_ rfl ?_
       refine st (.agg #[.slice A0_0 l0_0.length c0_0, .slice A0_1 l0_1.length c0_1]) rfl rfl (xr_load _ _ rfl rfl (load_agg (cs := [.slice A0_0 l0_0.length c0_0, .slice A0_1 l0_1.length c0_1]) Tryd.underlying33 rfl (by kernel_rfl) (bx_cells (HJ8060).2 0 rfl))) ?_
       refine mv_ rfl ?_
       refine mv_ rfl ?_
       simp only [ls0, ls1]
       obtain ⟨t8095, A8096, H⟩ := bnd H
       refine st_call #[.agg #[.slice A0_0 l0_0.length c0_0, .slice A0_1 l0_1.length c0_1], .int .i64 x7742, .int .i64 x8057] rfl rfl Tryd.func61 (by kernel_rfl) rfl rfl (mp_ rfl) ?_
       refine (blazonref14_Meet.calls k8073 A0_0 c0_0 l0_0 A0_1 c0_1 l0_1 x7742 x8057 t8095  (fun z_ => pal [(0, 0)] (C8091 z_)) w8090 (fun _ => pal_lt rfl _) (Ft.arg HJ8058 rfl) HCP0_0 (Ft.arg HJ8059 rfl) HCP0_1 A8096).mono ?_
       rintro _ w8098 ⟨C8099, rfl, hs8100⟩
       refine ⟨_, rfl, ?_⟩
       replace hs8100 := Step.lift (U := [(0, 0)]) hs8100 [] rfl rfl
       generalize up C8091 C8099 w8090.heap.size [(0, 0)] = C8099_ at hs8100
       replace HO8092 := HO8092.thru hs8100 rfl
       replace HJ8056 := HJ8056.thru hs8100 rfl
       replace HJ8060 := HJ8060.thru hs8100 rfl
       replace HJ8058 := HJ8058.thru hs8100 rfl
       replace HJ8059 := HJ8059.thru hs8100 rfl
       replace HJ8061 := HJ8061.thru hs8100 rfl
       replace HJ8064 := HJ8064.thru hs8100 rfl
       replace HJ8062 := HJ8062.thru hs8100 rfl
       replace HJ8063 := HJ8063.thru hs8100 rfl
       replace HS8068 := HS8068.trans hs8100 hc rfl
       (try simp only [ls0, ls1])
       refine ev_run (w1 := w8098.alloc (.cells #[.int .i64 t8095] 3)) (.slice (some ⟨w8098.heap.size, 0, none⟩) 1 1) rfl rfl (by first | (go_simp; done) | (go_simp; rfl)) ?_
       (try simp only [Act.put, List.setIfInBounds_toArray, ls0, ls1])
       obtain ⟨c8101, H⟩ := if_some H
       obtain ⟨y8102, A8103, H⟩ := bnd H
       refine Own.append (Kd.int .i64) (C := C8099_) (i := 17) rfl (.tmp 42) (.tmp 47) 23 3 (.int .i64 0) 8 rfl Tryd.underlying23 info3 rfl (by decide) (by decide) (.slice A8052 x8051.length cp8054) x8051 t8095 [.int .i64 t8095] rfl rfl (fk_int .i64 _ _ t8095) HJ8056 (by decide) (by omega) (Option.some.inj A8103) ?_
       intro A8104 cp8105 w8106 C8107 HO8108 HC8109 hs8110
       replace HO8092 := HO8092.thru hs8110 rfl
       replace HJ8060 := HJ8060.thru hs8110 rfl
       replace HJ8058 := HJ8058.thru hs8110 rfl
       replace HJ8059 := HJ8059.thru hs8110 rfl
       replace HJ8061 := HJ8061.thru hs8110 rfl
       replace HJ8064 := HJ8064.thru hs8110 rfl
       replace HJ8062 := HJ8062.thru hs8110 rfl
       replace HJ8063 := HJ8063.thru hs8110 rfl
       replace HS8068 := HS8068.trans hs8110 hc rfl
       (try simp only [ls0, ls1])
       refine as_ rfl ?_
       refine wl_end ?_
       (try simp only [ls0, ls1])
       refine hK8077 _ _ ?_
       (try clear hK8077 K8077)
       refine wl_region ?_
       refine mv_ rfl ?_
       refine st (.int .i64 (wrap64 (x8057 + 1))) rfl rfl (xr_bin _ _ _ rfl rfl rfl (B.add_i64 _ _)) ?_
       refine as_ rfl ?_
       refine wl_end ?_
       (try simp only [ls0, ls1])
       exact jmpL (fun a_ h_ => ih8070 k8073 (by omega) a_ _ h_) (fun g_ => ⟨_, wrap64 (x8057 + 1), A8088, y8086.length, cp8089, y8086, A8104, y8102.length, cp8105, y8102, g_, rfl, HS8068, (by omega), HO8092, HC8093, HO8108, HC8109, HJ8058, HJ8059, HJ8060, HJ8061, HJ8062, HJ8063, HJ8064, H⟩) rfl
      rw [if_neg c8076] at H
      (try rw [(decide_eq_false c8076)])
      refine wp_cond_false rfl ?_
      refine wp_exit ?_
      (try simp only [ls0, ls1])
      refine hK7774 _ _ ?_
      (try clear hK7774 K7774)
      refine wp_seq_k fun K8111 hK8111 => ?_
      refine wl_region ?_
      refine st (.pointer (some ⟨g5699, 2, none⟩)) rfl rfl (xr_fieldAddr _ _ rfl rfl (bx_field2 Tryd.underlying41 rfl rfl (by kernel_rfl))) ?_
      refine st (.slice A7748 x7747.length cp7750) rfl rfl (xr_load _ _ rfl rfl (load_cell Tryd.underlying39 rfl (bx_cell (HJ8064).2 2 rfl))) ?_
      refine mv_ rfl ?_
      have HR8112 := Ft.recolor (a := 16) (b := 0) (HJ8050.ft) [0] rfl
      replace HJ8056 := Own.recol (a := 16) (b := 0) HJ8056 (by decide) (by decide)
      replace HJ8060 := Bx.recol (a := 16) (b := 0) HJ8060 (by decide)
      replace HJ8058 := Ft.recol (a := 16) (b := 0) HJ8058 (.inl rfl)
      replace HJ8059 := Ft.recol (a := 16) (b := 0) HJ8059 (.inl rfl)
      replace HJ8061 := Bx.recol (a := 16) (b := 0) HJ8061 (by decide)
      replace HJ8064 := Bx.recol (a := 16) (b := 0) HJ8064 (by decide)
      replace HJ8062 := Own.recol (a := 16) (b := 0) HJ8062 (by decide) (by decide)
      replace HJ8063 := Own.recol (a := 16) (b := 0) HJ8063 (by decide) (by decide)
      replace HS8068 := Step.recol (a := 16) (b := 0) HS8068 hc (by decide)
      refine ev_run (w1 := w8066.alloc (.cells #[.slice A8046 x8045.length cp8048] 23)) (.slice (some ⟨w8066.heap.size, 0, none⟩) 1 1) rfl rfl (by first | (go_simp; done) | (go_simp; rfl)) ?_
      (try simp only [Act.put, List.setIfInBounds_toArray, ls0, ls1])
      obtain ⟨c8113, H⟩ := if_some H
      obtain ⟨y8114, A8115, H⟩ := bnd H
      refine Own.append (Kd.slice 3 (Kd.int .i64)) (C := (recol C8065 16 0)) (i := 14) rfl (.tmp 50) (.tmp 52) 39 23 (.slice none 0 0) 24 rfl Tryd.underlying39 info23 rfl (by decide) (by decide) (.slice A7748 x7747.length cp7750) x7747 x8045 [.slice A8046 x8045.length cp8048] rfl rfl (fk_slice 3 (Kd.int .i64) HC8049 HR8112) HJ8062 (by decide) (by omega) (Option.some.inj A8115) ?_
      intro A8116 cp8117 w8118 C8119 HO8120 HC8121 hs8122
      replace HJ8056 := HJ8056.thru hs8122 rfl
      replace HJ8060 := HJ8060.thru hs8122 rfl
      replace HJ8058 := HJ8058.thru hs8122 rfl
      replace HJ8059 := HJ8059.thru hs8122 rfl
      replace HJ8061 := HJ8061.thru hs8122 rfl
      replace HJ8064 := HJ8064.thru hs8122 rfl
      replace HJ8063 := HJ8063.thru hs8122 rfl
      replace HS8068 := HS8068.trans hs8122 hc rfl
      (try simp only [ls0, ls1])
      refine st (.pointer (some ⟨g5699, 2, none⟩)) rfl rfl (xr_fieldAddr _ _ rfl rfl (bx_field2 Tryd.underlying41 rfl rfl (by kernel_rfl))) ?_
      refine bx_store (C := C8119) (z := 13) (g := g5699) (j := 2) (tb := 41) (u := .slice A8116 y8114.length cp8117) (seg := [.slice A8116 y8114.length cp8117]) (xs := [.slice A0_0 l0_0.length c0_0, .slice A0_1 l0_1.length c0_1, .slice A7748 x7747.length cp7750, .slice A7754 x7753.length cp7756]) rfl rfl rfl rfl rfl rfl (by first | kernel_rfl | rfl) (by simp [Value.oneCell']) HJ8064 (by simp only [List.length_cons, List.length_nil]; omega) rfl ?_
      intro w8123 HX8124 hs8125
      replace HJ8056 := HJ8056.thru hs8125 rfl
      replace HJ8060 := HJ8060.thru hs8125 rfl
      replace HJ8058 := HJ8058.thru hs8125 rfl
      replace HJ8059 := HJ8059.thru hs8125 rfl
      replace HJ8061 := HJ8061.thru hs8125 rfl
      replace HO8120 := HO8120.thru hs8125 rfl
      replace HJ8063 := HJ8063.thru hs8125 rfl
      replace HS8068 := HS8068.trans hs8125 hc rfl
      (try simp only [ls0, ls1])
      refine wl_end ?_
      (try simp only [ls0, ls1])
      refine hK8111 _ _ ?_
      (try clear hK8111 K8111)
      refine wl_region ?_
      refine st (.pointer (some ⟨g5699, 3, none⟩)) rfl rfl (xr_fieldAddr _ _ rfl rfl (bx_field2 Tryd.underlying41 rfl rfl (by kernel_rfl))) ?_
      refine st (.slice A7754 x7753.length cp7756) rfl rfl (xr_load _ _ rfl rfl (load_cell Tryd.underlying39 rfl (bx_cell (HX8124).2 3 rfl))) ?_
      refine mv_ rfl ?_
      have HR8126 := Ft.recolor (a := 17) (b := 0) (HJ8056.ft) [0] rfl
      replace HJ8060 := Bx.recol (a := 17) (b := 0) HJ8060 (by decide)
      replace HJ8058 := Ft.recol (a := 17) (b := 0) HJ8058 (.inl rfl)
      replace HJ8059 := Ft.recol (a := 17) (b := 0) HJ8059 (.inl rfl)
      replace HJ8061 := Bx.recol (a := 17) (b := 0) HJ8061 (by decide)
      replace HX8124 := Bx.recol (a := 17) (b := 0) HX8124 (by decide)
      replace HO8120 := Own.recol (a := 17) (b := 0) HO8120 (by decide) (by decide)
      replace HJ8063 := Own.recol (a := 17) (b := 0) HJ8063 (by decide) (by decide)
      replace HS8068 := Step.recol (a := 17) (b := 0) HS8068 hc (by decide)
      refine ev_run (w1 := w8123.alloc (.cells #[.slice A8052 x8051.length cp8054] 23)) (.slice (some ⟨w8123.heap.size, 0, none⟩) 1 1) rfl rfl (by first | (go_simp; done) | (go_simp; rfl)) ?_
      (try simp only [Act.put, List.setIfInBounds_toArray, ls0, ls1])
      obtain ⟨c8127, H⟩ := if_some H
      obtain ⟨y8128, A8129, H⟩ := bnd H
      refine Own.append (Kd.slice 3 (Kd.int .i64)) (C := (recol C8119 17 0)) (i := 15) rfl (.tmp 56) (.tmp 58) 39 23 (.slice none 0 0) 24 rfl Tryd.underlying39 info23 rfl (by decide) (by decide) (.slice A7754 x7753.length cp7756) x7753 x8051 [.slice A8052 x8051.length cp8054] rfl rfl (fk_slice 3 (Kd.int .i64) HC8055 HR8126) HJ8063 (by decide) (by omega) (Option.some.inj A8129) ?_
      intro A8130 cp8131 w8132 C8133 HO8134 HC8135 hs8136
      replace HJ8060 := HJ8060.thru hs8136 rfl
      replace HJ8058 := HJ8058.thru hs8136 rfl
      replace HJ8059 := HJ8059.thru hs8136 rfl
      replace HJ8061 := HJ8061.thru hs8136 rfl
      replace HX8124 := HX8124.thru hs8136 rfl
      replace HO8120 := HO8120.thru hs8136 rfl
      replace HS8068 := HS8068.trans hs8136 hc rfl
      (try simp only [ls0, ls1])
      refine st (.pointer (some ⟨g5699, 3, none⟩)) rfl rfl (xr_fieldAddr _ _ rfl rfl (bx_field2 Tryd.underlying41 rfl rfl (by kernel_rfl))) ?_
      refine bx_store (C := C8133) (z := 13) (g := g5699) (j := 3) (tb := 41) (u := .slice A8130 y8128.length cp8131) (seg := [.slice A8130 y8128.length cp8131]) (xs := [.slice A0_0 l0_0.length c0_0, .slice A0_1 l0_1.length c0_1, .slice A8116 y8114.length cp8117, .slice A7754 x7753.length cp7756]) rfl rfl rfl rfl rfl rfl (by first | kernel_rfl | rfl) (by simp [Value.oneCell']) HX8124 (by simp only [List.length_cons, List.length_nil]; omega) rfl ?_
      intro w8137 HX8138 hs8139
      replace HJ8060 := HJ8060.thru hs8139 rfl
      replace HJ8058 := HJ8058.thru hs8139 rfl
      replace HJ8059 := HJ8059.thru hs8139 rfl
      replace HJ8061 := HJ8061.thru hs8139 rfl
      replace HO8120 := HO8120.thru hs8139 rfl
      replace HO8134 := HO8134.thru hs8139 rfl
      replace HS8068 := HS8068.trans hs8139 hc rfl
      (try simp only [ls0, ls1])
      refine wl_end ?_
      (try simp only [ls0, ls1])
      refine hK7772 _ _ ?_
      (try clear hK7772 K7772)
      refine wl_region ?_
      refine mv_ rfl ?_
      refine st (.int .i64 (wrap64 (x7742 + 1))) rfl rfl (xr_bin _ _ _ rfl rfl rfl (B.add_i64 _ _)) ?_
      refine as_ rfl ?_
      refine wl_end ?_
      (try simp only [ls0, ls1])
      exact jmpL (fun a_ h_ => ih7765 k8073 (by omega) a_ _ h_) (fun g_ => ⟨_, wrap64 (x7742 + 1), A8116, y8114.length, cp8117, y8114, A8130, y8128.length, cp8131, y8128, g_, rfl, HS8068, (by omega), HJ8058, HJ8059, HJ8060, HJ8061, HO8120, HC8121, HO8134, HC8135, HX8138, H⟩) rfl
   rw [if_neg c7771] at H
   (try rw [(decide_eq_false c7771)])
   refine wp_cond_false rfl ?_
   refine wp_exit ?_
   (try simp only [ls0, ls1])
   refine hK5707 _ _ ?_
   (try clear hK5707 K5707)
   refine wp_seq_k fun K8140 hK8140 => ?_
   refine wp_seq_k fun K8688 hK8688 => ?_
   refine wl_region ?_
   refine st (.int .i64 0) rfl rfl (xr_assign _ rfl rfl) ?_
   refine wl_end ?_
   (try simp only [ls0, ls1])
   refine hK8688 _ _ ?_
   (try clear hK8688 K8688)
   refine wp_block ?_
   (try simp only [ls0, ls1])
   refine wp_looped (looped_fin (fun kq9037 a_ w9036 => ∃ (C9035 : Nat → Nat) (x9027 : Int) (g_ : Nat → Value), a_ = ⟨#[(g_ 0), (g_ 1), .pointer (some ⟨g5685, 0, none⟩), (g_ 3), (g_ 4), (g_ 5), .int .i64 (l0_0.length : Int), .pointer (some ⟨g5699, 0, none⟩), (g_ 8), (g_ 9), (g_ 10), (g_ 11), .int .i64 x9027, (g_ 13), (g_ 14), (g_ 15), (g_ 16), (g_ 17), (g_ 18), (g_ 19), (g_ 20), (g_ 21), (g_ 22), (g_ 23), (g_ 24), (g_ 25), (g_ 26), (g_ 27), (g_ 28), (g_ 29), (g_ 30), (g_ 31), (g_ 32), (g_ 33), (g_ 34), (g_ 35), (g_ 36), (g_ 37), (g_ 38), (g_ 39), (g_ 40), (g_ 41), (g_ 42), (g_ 43), (g_ 44), (g_ 45), (g_ 46), (g_ 47), (g_ 48), (g_ 49), (g_ 50), (g_ 51), (g_ 52), (g_ 53), (g_ 54), (g_ 55), (g_ 56), (g_ 57), (g_ 58), (g_ 59), (g_ 60), (g_ 61), (g_ 62), (g_ 63), (g_ 64), (g_ 65), (g_ 66), (g_ 67), (g_ 68), (g_ 69), (g_ 70), (g_ 71), (g_ 72), (g_ 73), (g_ 74), (g_ 75), (g_ 76), (g_ 77), (g_ 78), (g_ 79), (g_ 80), (g_ 81), (g_ 82), (g_ 83), (g_ 84), (g_ 85), (g_ 86), (g_ 87), (g_ 88), (g_ 89), (g_ 90), (g_ 91), (g_ 92), (g_ 93), (g_ 94), (g_ 95), (g_ 96), (g_ 97), (g_ 98), (g_ 99), (g_ 100), (g_ 101), (g_ 102), (g_ 103), (g_ 104), (g_ 105), (g_ 106), (g_ 107), (g_ 108), (g_ 109), (g_ 110), (g_ 111), (g_ 112), (g_ 113), (g_ 114), (g_ 115), (g_ 116), (g_ 117), (g_ 118), (g_ 119), (g_ 120), (g_ 121), (g_ 122), (g_ 123), (g_ 124), (g_ 125), (g_ 126), (g_ 127), (g_ 128), (g_ 129), (g_ 130), (g_ 131), (g_ 132), (g_ 133), (g_ 134), (g_ 135), (g_ 136), (g_ 137), (g_ 138), (g_ 139), (g_ 140), (g_ 141), (g_ 142), (g_ 143), (g_ 144), (g_ 145), (g_ 146), (g_ 147), (g_ 148), (g_ 149), (g_ 150), (g_ 151)], []⟩ ∧ Step c w C9035 w9036 [] ∧ kq9037 ≤ k7768 ∧ (Ft C9035 [0] w9036 (fun w_ => Kd.string.C w_ A0_0 l0_0.length l0_0)) ∧ (Ft C9035 [0] w9036 (fun w_ => (Kd.slice 4 Kd.bool).C w_ A0_1 l0_1.length l0_1)) ∧ (Bx C9035 11 w9036 g5680 33 ([.slice A0_0 l0_0.length c0_0, .slice A0_1 l0_1.length c0_1])) ∧ (Bx C9035 12 w9036 g5685 41 ([.slice none 0 0, .slice none 0 0, .slice none 0 0, .slice none 0 0])) ∧ (Own C9035 14 w9036 (Kd.slice 3 (Kd.int .i64)) 23 (.slice A7748 x7747.length cp7750) x7747) ∧ (Own C9035 15 w9036 (Kd.slice 3 (Kd.int .i64)) 23 (.slice A7754 x7753.length cp7756) x7753) ∧ (Bx C9035 13 w9036 g5699 41 ([.slice A0_0 l0_0.length c0_0, .slice A0_1 l0_1.length c0_1, .slice A7748 x7747.length cp7750, .slice A7754 x7753.length cp7756])) ∧ blazonref14_New.l5 kq9037 l0_0 l0_1 x7747 x7753 x9027 = some (r1, r2, r3, r4, r5, r6, r7)) ?step fun hL_ => ?init)
   case init =>
    exact jmpL (fun a_ h_ => hL_ k7768 a_ _ h_) (fun g_ => ⟨_, 0, g_, rfl, HS7763, Nat.le_refl _, HJ7743, HJ7744, HJ7745, HJ7746, HJ7752, HJ7758, HJ7759, H⟩) rfl
   case step =>
    intro kq9037 ih9040 a9041 w9036 hr9042
    obtain ⟨C9035, x9027, g_, rfl, HS9038, hk9039, HJ9028, HJ9029, HJ9030, HJ9031, HJ9032, HJ9033, HJ9034, H⟩ := hr9042
    refine looped_round ?_
    cases kq9037 with
    | zero => exact absurd H (by simp [blazonref14_New.l5])
    | succ k9043 =>
     simp only [blazonref14_New.l5] at H
     refine wp_seq_k fun K9044 hK9044 => ?_
     refine wp_seq_k fun K9045 hK9045 => ?_
     refine wl_region ?_
     refine mv_ rfl ?_
     refine mv_ rfl ?_
     refine st (.bool (decide (x9027 < (l0_0.length : Int)))) rfl rfl (xr_bin _ _ _ rfl rfl rfl (B.lss_i64 _ _)) ?_
     refine wl_end ?_
     (try simp only [ls0, ls1])
     refine hK9045 _ _ ?_
     (try clear hK9045 K9045)
     by_cases c9046 : x9027 < (l0_0.length : Int)
     ·rw [if_pos c9046] at H
      (try rw [(decide_eq_true c9046)])
      refine wp_cond_true rfl ?_
      refine wp_skip ?_
      (try simp only [ls0, ls1])
      refine hK9044 _ _ ?_
      (try clear hK9044 K9044)
      refine wp_seq_k fun K9047 hK9047 => ?_
      refine wp_block ?_
      refine wp_seq_k fun K9048 hK9048 => ?_
      refine wl_region ?_
      refine mv_ rfl ?_
      refine as_ rfl ?_
      refine wl_end ?_
      (try simp only [ls0, ls1])
      refine hK9048 _ _ ?_
      (try clear hK9048 K9048)
      refine wp_block ?_
      (try simp only [ls0, ls1])
      refine wp_looped (looped_fin (fun kq9176 a_ w9175 => ∃ (C9174 : Nat → Nat) (x9166 : Int) (g_ : Nat → Value), a_ = ⟨#[(g_ 0), (g_ 1), .pointer (some ⟨g5685, 0, none⟩), (g_ 3), (g_ 4), (g_ 5), .int .i64 (l0_0.length : Int), .pointer (some ⟨g5699, 0, none⟩), (g_ 8), (g_ 9), (g_ 10), (g_ 11), .int .i64 x9027, .int .i64 x9166, (g_ 14), (g_ 15), (g_ 16), (g_ 17), (g_ 18), (g_ 19), (g_ 20), (g_ 21), (g_ 22), (g_ 23), (g_ 24), (g_ 25), (g_ 26), (g_ 27), (g_ 28), (g_ 29), (g_ 30), (g_ 31), (g_ 32), (g_ 33), (g_ 34), (g_ 35), (g_ 36), (g_ 37), (g_ 38), (g_ 39), (g_ 40), (g_ 41), (g_ 42), (g_ 43), (g_ 44), (g_ 45), (g_ 46), (g_ 47), (g_ 48), (g_ 49), (g_ 50), (g_ 51), (g_ 52), (g_ 53), (g_ 54), (g_ 55), (g_ 56), (g_ 57), (g_ 58), (g_ 59), (g_ 60), (g_ 61), (g_ 62), (g_ 63), (g_ 64), (g_ 65), (g_ 66), (g_ 67), (g_ 68), (g_ 69), (g_ 70), (g_ 71), (g_ 72), (g_ 73), (g_ 74), (g_ 75), (g_ 76), (g_ 77), (g_ 78), (g_ 79), (g_ 80), (g_ 81), (g_ 82), (g_ 83), (g_ 84), (g_ 85), (g_ 86), (g_ 87), (g_ 88), (g_ 89), (g_ 90), (g_ 91), (g_ 92), (g_ 93), (g_ 94), (g_ 95), (g_ 96), (g_ 97), (g_ 98), (g_ 99), (g_ 100), (g_ 101), (g_ 102), (g_ 103), (g_ 104), (g_ 105), (g_ 106), (g_ 107), (g_ 108), (g_ 109), (g_ 110), (g_ 111), (g_ 112), (g_ 113), (g_ 114), (g_ 115), (g_ 116), (g_ 117), (g_ 118), (g_ 119), (g_ 120), (g_ 121), (g_ 122), (g_ 123), (g_ 124), (g_ 125), (g_ 126), (g_ 127), (g_ 128), (g_ 129), (g_ 130), (g_ 131), (g_ 132), (g_ 133), (g_ 134), (g_ 135), (g_ 136), (g_ 137), (g_ 138), (g_ 139), (g_ 140), (g_ 141), (g_ 142), (g_ 143), (g_ 144), (g_ 145), (g_ 146), (g_ 147), (g_ 148), (g_ 149), (g_ 150), (g_ 151)], []⟩ ∧ Step c w C9174 w9175 [] ∧ kq9176 ≤ k9043 ∧ (Ft C9174 [0] w9175 (fun w_ => Kd.string.C w_ A0_0 l0_0.length l0_0)) ∧ (Ft C9174 [0] w9175 (fun w_ => (Kd.slice 4 Kd.bool).C w_ A0_1 l0_1.length l0_1)) ∧ (Bx C9174 11 w9175 g5680 33 ([.slice A0_0 l0_0.length c0_0, .slice A0_1 l0_1.length c0_1])) ∧ (Bx C9174 12 w9175 g5685 41 ([.slice none 0 0, .slice none 0 0, .slice none 0 0, .slice none 0 0])) ∧ (Own C9174 14 w9175 (Kd.slice 3 (Kd.int .i64)) 23 (.slice A7748 x7747.length cp7750) x7747) ∧ (Own C9174 15 w9175 (Kd.slice 3 (Kd.int .i64)) 23 (.slice A7754 x7753.length cp7756) x7753) ∧ (Bx C9174 13 w9175 g5699 41 ([.slice A0_0 l0_0.length c0_0, .slice A0_1 l0_1.length c0_1, .slice A7748 x7747.length cp7750, .slice A7754 x7753.length cp7756])) ∧ blazonref14_New.l1 kq9176 l0_0 l0_1 x7747 x7753 x9027 x9166 = some (r1, r2, r3, r4, r5, r6, r7)) ?step fun hL_ => ?init)
      case init =>
       exact jmpL (fun a_ h_ => hL_ k9043 a_ _ h_) (fun g_ => ⟨_, x9027, g_, rfl, HS9038, Nat.le_refl _, HJ9028, HJ9029, HJ9030, HJ9031, HJ9032, HJ9033, HJ9034, H⟩) rfl
      case step =>
       intro kq9176 ih9179 a9180 w9175 hr9181
       obtain ⟨C9174, x9166, g_, rfl, HS9177, hk9178, HJ9167, HJ9168, HJ9169, HJ9170, HJ9171, HJ9172, HJ9173, H⟩ := hr9181
       refine looped_round ?_
       cases kq9176 with
       | zero => exact absurd H (by simp [blazonref14_New.l1])
       | succ k9182 =>
        simp only [blazonref14_New.l1] at H
        refine wp_seq_k fun K9183 hK9183 => ?_
        refine wp_seq_k fun K9184 hK9184 => ?_
        refine wl_region ?_
        refine mv_ rfl ?_
        refine mv_ rfl ?_
        refine st (.bool (decide (x9166 < (l0_0.length : Int)))) rfl rfl (xr_bin _ _ _ rfl rfl rfl (B.lss_i64 _ _)) ?_
        refine wl_end ?_
        (try simp only [ls0, ls1])
        refine hK9184 _ _ ?_
        (try clear hK9184 K9184)
        by_cases c9185 : x9166 < (l0_0.length : Int)
        ·rw [if_pos c9185] at H
         (try rw [(decide_eq_true c9185)])
         refine wp_cond_true rfl ?_
         refine wp_skip ?_
         (try simp only [ls0, ls1])
         refine hK9183 _ _ ?_
         (try clear hK9183 K9183)
         refine wp_seq_k fun K9186 hK9186 => ?_
         refine wp_block ?_
         refine wp_seq_k fun K9187 hK9187 => ?_
         refine wl_region ?_
         refine st (.pointer (some ⟨g5699, 2, none⟩)) rfl rfl (xr_fieldAddr _ _ rfl rfl (bx_field2 Tryd.underlying41 rfl rfl (by kernel_rfl))) ?_
         refine st (.slice A7748 x7747.length cp7750) rfl rfl (xr_load _ _ rfl rfl (load_cell Tryd.underlying39 rfl (bx_cell (HJ9173).2 2 rfl))) ?_
         simp only [ls0, ls1]
         refine mv_ rfl ?_
         obtain ⟨c9207, H⟩ := if_some H
         obtain ⟨c9208, H⟩ := if_some H
         obtain ⟨g9209, hA9210⟩ := HJ9171.form (pos_of (j := x9027) (by first | assumption | decide) (by first | assumption | omega))
         refine st (.pointer (some ((⟨g9209, 0, none⟩ : Addr).add ((x9027 : Int).toNat * 1)))) rfl rfl (xr_indexAddr _ _ _ rfl rfl rfl (index_at Tryd.underlying39 info23 hA9210 (by first | assumption | decide | omega) (by first | assumption | decide | omega))) ?_
         obtain ⟨csq9212, _, hKq9212, hcq9212, hinq9212⟩ := Ft.elem (HJ9171.ft) hA9210 [] x9027 (by first | assumption | decide | omega) (by first | assumption | decide | omega) (by decide)
         obtain ⟨Aq9212_0, cpq9212_0, rfl, HCq9212_0, HRq9212_0⟩ := slice_openF hKq9212
         replace HRq9212_0 : Ft C9174 [14, 0] w9175 (fun w_ => (Kd.int .i64).C w_ Aq9212_0 (rd_L21 x7747 x9027).length (rd_L21 x7747 x9027)) := HRq9212_0
         refine st (.slice Aq9212_0 (rd_L21 x7747 x9027).length cpq9212_0) rfl rfl (xr_load (.pointer (some ((⟨g9209, 0, none⟩ : Addr).add ((x9027 : Int).toNat * 1)))) (.slice Aq9212_0 (rd_L21 x7747 x9027).length cpq9212_0) rfl rfl (load_cell Tryd.underlying23 rfl (by have h_ := (hcq9212 0 _ rfl); rw [add_zero_] at h_; exact h_))) ?_
         refine mv_ rfl ?_
         simp only [ls0, ls1]
         obtain ⟨c9213, H⟩ := if_some H
         obtain ⟨c9214, H⟩ := if_some H
         obtain ⟨ad9215, hA9216⟩ := c_addr (Ft.now HRq9212_0) (pos_of (j := x9166) (by first | assumption | decide) (by first | assumption | omega))
         refine st (.pointer (some (ad9215.add ((x9166 : Int).toNat * 1)))) rfl rfl (xr_indexAddr _ _ _ rfl rfl rfl (index_at Tryd.underlying23 info3 hA9216 (by first | assumption | decide | omega) (by first | assumption | decide | omega))) ?_
         refine st (.int .i64 (rd (rd_L21 x7747 x9027) x9166)) rfl rfl (xr_load _ _ rfl rfl (load_int Tryd.underlying3 rfl hA9216 (Ft.now HRq9212_0) (by first | assumption | decide | omega) (by first | assumption | decide | omega))) ?_
         refine st (.bool (decide ((rd (rd_L21 x7747 x9027) x9166) < 0))) rfl rfl (xr_bin _ _ _ rfl rfl rfl (B.lss_i64 _ _)) ?_
         refine mv_ rfl ?_
         simp only [ls0, ls1]
         by_cases c9217 : (rd (rd_L21 x7747 x9027) x9166) < 0
         ·rw [if_pos c9217] at H
          (try rw [(decide_eq_true c9217)])
          refine sk_guard (guard_off 9 false 81 rfl rfl true (by decide) rfl) rfl ?_
          refine sk_guard (guard_off 9 false 81 rfl rfl true (by decide) rfl) rfl ?_
          refine sk_guard (guard_off 9 false 81 rfl rfl true (by decide) rfl) rfl ?_
          refine sk_guard (guard_off 9 false 81 rfl rfl true (by decide) rfl) rfl ?_
          simp only [ls0, ls1]
          refine sk_guard (guard_off 9 false 81 rfl rfl true (by decide) rfl) rfl ?_
          refine sk_guard (guard_off 9 false 81 rfl rfl true (by decide) rfl) rfl ?_
          refine sk_guard (guard_off 9 false 81 rfl rfl true (by decide) rfl) rfl ?_
          refine sk_guard (guard_off 9 false 81 rfl rfl true (by decide) rfl) rfl ?_
          simp only [ls0, ls1]
          refine sk_guard (guard_off 9 false 81 rfl rfl true (by decide) rfl) rfl ?_
          refine st (.bool true) rfl rfl (xr_pick true _ rfl rfl rfl) ?_
          refine wl_end ?_
          (try simp only [ls0, ls1])
          refine hK9187 _ _ ?_
          (try clear hK9187 K9187)
          refine wp_cond_true rfl ?_
          refine wp_seq_k fun K9218 hK9218 => ?_
          refine wl_region ?_
          refine st (.agg #[.slice none 0 0, .slice none 0 0, .slice none 0 0, .slice none 0 0]) rfl rfl (xr_build #[] (.agg #[.slice none 0 0, .slice none 0 0, .slice none 0 0, .slice none 0 0]) rfl (mp_ rfl) (by first | rfl | (go_simp; done) | (go_simp; rfl) | (go_simp; exact i64_w _) | (go_simp; exact i32_w _))) ?_
          refine mv_ rfl ?_
          refine mv_ rfl ?_
          refine bx_store (C := C9174) (z := 12) (g := g5685) (j := 0) (tb := 41) (u := .agg #[.slice none 0 0, .slice none 0 0, .slice none 0 0, .slice none 0 0]) (seg := [.slice none 0 0, .slice none 0 0, .slice none 0 0, .slice none 0 0]) (xs := [.slice none 0 0, .slice none 0 0, .slice none 0 0, .slice none 0 0]) rfl rfl rfl rfl rfl rfl (by first | kernel_rfl | rfl) (by simp [Value.oneCell']) HJ9170 (by simp only [List.length_cons, List.length_nil]; omega) rfl ?_
          intro w9219 HX9220 hs9221
          replace HJ9169 := HJ9169.thru hs9221 rfl
          replace HJ9167 := HJ9167.thru hs9221 rfl
          replace HJ9168 := HJ9168.thru hs9221 rfl
          replace HJ9173 := HJ9173.thru hs9221 rfl
          replace HJ9171 := HJ9171.thru hs9221 rfl
          replace HJ9172 := HJ9172.thru hs9221 rfl
          replace HS9177 := HS9177.trans hs9221 hc rfl
          (try simp only [ls0, ls1])
          refine as_ rfl ?_
          refine as_ rfl ?_
          refine st (.int .i64 17) rfl rfl (xr_assign _ rfl rfl) ?_
          refine wl_end ?_
          (try simp only [ls0, ls1])
          refine hK9218 _ _ ?_
          (try clear hK9218 K9218)
          refine wp_ret ?_
          (try simp only [Exit.inBlock, Exit.then, Exit.noGoto])
          (try simp only [ls0, ls1])
          simp only [Option.some.injEq, Prod.mk.injEq] at H
          obtain ⟨rfl, rfl, rfl, rfl, rfl, rfl, rfl⟩ := H
          refine bodyPost_ret (res_cttt rfl rfl (load_of (load_agg (cs := [.slice none 0 0, .slice none 0 0, .slice none 0 0, .slice none 0 0]) Tryd.underlying41 rfl (by kernel_rfl) (bx_cells (HX9220).2 0 rfl)))) rfl ?_
          exact ⟨_, none, 0, none, 0, none, 0, none, 0, rfl, HS9177, (Kd.F_nil _ _ _), (Nat.le_refl 0), (Kd.F_nil _ _ _), (Nat.le_refl 0), (Own.nil _ _ _ _ _), (Nat.le_refl 0), (Own.nil _ _ _ _ _), (Nat.le_refl 0)⟩
         rw [if_neg c9217] at H
         (try rw [(decide_eq_false c9217)])
         refine on_guard (guard_on 9 false 81 rfl rfl rfl) ?_
         refine st (.pointer (some ⟨g5699, 3, none⟩)) rfl rfl (xr_fieldAddr _ _ rfl rfl (bx_field2 Tryd.underlying41 rfl rfl (by kernel_rfl))) ?_
         refine on_guard (guard_on 9 false 81 rfl rfl rfl) ?_
         refine st (.slice A7754 x7753.length cp7756) rfl rfl (xr_load _ _ rfl rfl (load_cell Tryd.underlying39 rfl (bx_cell (HJ9173).2 3 rfl))) ?_
         refine on_guard (guard_on 9 false 81 rfl rfl rfl) ?_
         refine mv_ rfl ?_
         refine on_guard (guard_on 9 false 81 rfl rfl rfl) ?_
         obtain ⟨c9222, H⟩ := if_some H
         obtain ⟨g9223, hA9224⟩ := HJ9172.form (pos_of (j := x9027) (by first | assumption | decide) (by first | assumption | omega))
         refine st (.pointer (some ((⟨g9223, 0, none⟩ : Addr).add ((x9027 : Int).toNat * 1)))) rfl rfl (xr_indexAddr _ _ _ rfl rfl rfl (index_at Tryd.underlying39 info23 hA9224 (by first | assumption | decide | omega) (by first | assumption | decide | omega))) ?_
         simp only [ls0, ls1]
         refine on_guard (guard_on 9 false 81 rfl rfl rfl) ?_
         obtain ⟨csq9226, _, hKq9226, hcq9226, hinq9226⟩ := Ft.elem (HJ9172.ft) hA9224 [] x9027 (by first | assumption | decide | omega) (by first | assumption | decide | omega) (by decide)
         obtain ⟨Aq9226_0, cpq9226_0, rfl, HCq9226_0, HRq9226_0⟩ := slice_openF hKq9226
         replace HRq9226_0 : Ft C9174 [15, 0] w9175 (fun w_ => (Kd.int .i64).C w_ Aq9226_0 (rd_L21 x7753 x9027).length (rd_L21 x7753 x9027)) := HRq9226_0
         refine st (.slice Aq9226_0 (rd_L21 x7753 x9027).length cpq9226_0) rfl rfl (xr_load (.pointer (some ((⟨g9223, 0, none⟩ : Addr).add ((x9027 : Int).toNat * 1)))) (.slice Aq9226_0 (rd_L21 x7753 x9027).length cpq9226_0) rfl rfl (load_cell Tryd.underlying23 rfl (by have h_ := (hcq9226 0 _ rfl); rw [add_zero_] at h_; exact h_))) ?_
         refine on_guard (guard_on 9 false 81 rfl rfl rfl) ?_
         refine mv_ rfl ?_
         refine on_guard (guard_on 9 false 81 rfl rfl rfl) ?_
         obtain ⟨c9227, H⟩ := if_some H
         obtain ⟨ad9228, hA9229⟩ := c_addr (Ft.now HRq9226_0) (pos_of (j := x9166) (by first | assumption | decide) (by first | assumption | omega))
         refine st (.pointer (some (ad9228.add ((x9166 : Int).toNat * 1)))) rfl rfl (xr_indexAddr _ _ _ rfl rfl rfl (index_at Tryd.underlying23 info3 hA9229 (by first | assumption | decide | omega) (by first | assumption | decide | omega))) ?_
         refine on_guard (guard_on 9 false 81 rfl rfl rfl) ?_
         refine st (.int .i64 (rd (rd_L21 x7753 x9027) x9166)) rfl rfl (xr_load _ _ rfl rfl (load_int Tryd.underlying3 rfl hA9229 (Ft.now HRq9226_0) (by first | assumption | decide | omega) (by first | assumption | decide | omega))) ?_
         simp only [ls0, ls1]
         refine on_guard (guard_on 9 false 81 rfl rfl rfl) ?_
         refine st (.bool (decide ((rd (rd_L21 x7753 x9027) x9166) < 0))) rfl rfl (xr_bin _ _ _ rfl rfl rfl (B.lss_i64 _ _)) ?_
         refine st (.bool (decide ((rd (rd_L21 x7753 x9027) x9166) < 0))) rfl rfl (xr_pick false _ rfl rfl rfl) ?_
         refine wl_end ?_
         (try simp only [ls0, ls1])
         refine hK9187 _ _ ?_
         (try clear hK9187 K9187)
         by_cases c9230 : (rd (rd_L21 x7753 x9027) x9166) < 0
         ·rw [if_pos c9230] at H
          (try rw [(decide_eq_true c9230)])
          refine wp_cond_true rfl ?_
          refine wp_seq_k fun K9231 hK9231 => ?_
          refine wl_region ?_
          refine st (.agg #[.slice none 0 0, .slice none 0 0, .slice none 0 0, .slice none 0 0]) rfl rfl (xr_build #[] (.agg #[.slice none 0 0, .slice none 0 0, .slice none 0 0, .slice none 0 0]) rfl (mp_ rfl) (by first | rfl | (go_simp; done) | (go_simp; rfl) | (go_simp; exact i64_w _) | (go_simp; exact i32_w _))) ?_
          refine mv_ rfl ?_
          refine mv_ rfl ?_
          refine bx_store (C := C9174) (z := 12) (g := g5685) (j := 0) (tb := 41) (u := .agg #[.slice none 0 0, .slice none 0 0, .slice none 0 0, .slice none 0 0]) (seg := [.slice none 0 0, .slice none 0 0, .slice none 0 0, .slice none 0 0]) (xs := [.slice none 0 0, .slice none 0 0, .slice none 0 0, .slice none 0 0]) rfl rfl rfl rfl rfl rfl (by first | kernel_rfl | rfl) (by simp [Value.oneCell']) HJ9170 (by simp only [List.length_cons, List.length_nil]; omega) rfl ?_
          intro w9232 HX9233 hs9234
          replace HJ9169 := HJ9169.thru hs9234 rfl
          replace HJ9167 := HJ9167.thru hs9234 rfl
          replace HJ9168 := HJ9168.thru hs9234 rfl
          replace HJ9173 := HJ9173.thru hs9234 rfl
          replace HJ9171 := HJ9171.thru hs9234 rfl
          replace HJ9172 := HJ9172.thru hs9234 rfl
          replace HS9177 := HS9177.trans hs9234 hc rfl
          (try simp only [ls0, ls1])
          refine as_ rfl ?_
          refine as_ rfl ?_
          refine st (.int .i64 17) rfl rfl (xr_assign _ rfl rfl) ?_
          refine wl_end ?_
          (try simp only [ls0, ls1])
          refine hK9231 _ _ ?_
          (try clear hK9231 K9231)
          refine wp_ret ?_
          (try simp only [Exit.inBlock, Exit.then, Exit.noGoto])
          (try simp only [ls0, ls1])
          simp only [Option.some.injEq, Prod.mk.injEq] at H
          obtain ⟨rfl, rfl, rfl, rfl, rfl, rfl, rfl⟩ := H
          refine bodyPost_ret (res_cttt rfl rfl (load_of (load_agg (cs := [.slice none 0 0, .slice none 0 0, .slice none 0 0, .slice none 0 0]) Tryd.underlying41 rfl (by kernel_rfl) (bx_cells (HX9233).2 0 rfl)))) rfl ?_
          exact ⟨_, none, 0, none, 0, none, 0, none, 0, rfl, HS9177, (Kd.F_nil _ _ _), (Nat.le_refl 0), (Kd.F_nil _ _ _), (Nat.le_refl 0), (Own.nil _ _ _ _ _), (Nat.le_refl 0), (Own.nil _ _ _ _ _), (Nat.le_refl 0)⟩
         rw [if_neg c9230] at H
         (try rw [(decide_eq_false c9230)])
         refine wp_cond_false rfl ?_
         refine wp_skip ?_
         (try simp only [ls0, ls1])
         refine hK9186 _ _ ?_
         (try clear hK9186 K9186)
         refine wl_region ?_
         refine mv_ rfl ?_
         refine st (.int .i64 (wrap64 (x9166 + 1))) rfl rfl (xr_bin _ _ _ rfl rfl rfl (B.add_i64 _ _)) ?_
         refine as_ rfl ?_
         refine wl_end ?_
         (try simp only [ls0, ls1])
         exact jmpL (fun a_ h_ => ih9179 k9182 (by omega) a_ _ h_) (fun g_ => ⟨_, wrap64 (x9166 + 1), g_, rfl, HS9177, (by omega), HJ9167, HJ9168, HJ9169, HJ9170, HJ9171, HJ9172, HJ9173, H⟩) rfl
        rw [if_neg c9185] at H
        (try rw [(decide_eq_false c9185)])
        refine wp_cond_false rfl ?_
        refine wp_exit ?_
        (try simp only [ls0, ls1])
        refine hK9047 _ _ ?_
        (try clear hK9047 K9047)
        refine wl_region ?_
        refine mv_ rfl ?_
        refine st (.int .i64 (wrap64 (x9027 + 1))) rfl rfl (xr_bin _ _ _ rfl rfl rfl (B.add_i64 _ _)) ?_
        refine as_ rfl ?_
        refine wl_end ?_
        (try simp only [ls0, ls1])
        exact jmpL (fun a_ h_ => ih9040 k9182 (by omega) a_ _ h_) (fun g_ => ⟨_, wrap64 (x9027 + 1), g_, rfl, HS9177, (by omega), HJ9167, HJ9168, HJ9169, HJ9170, HJ9171, HJ9172, HJ9173, H⟩) rfl
     rw [if_neg c9046] at H
     (try rw [(decide_eq_false c9046)])
     refine wp_cond_false rfl ?_
     refine wp_exit ?_
     (try simp only [ls0, ls1])
     refine hK8140 _ _ ?_
     (try clear hK8140 K8140)
     refine wp_seq_k fun K9235 hK9235 => ?_
     refine wp_seq_k fun K9236 hK9236 => ?_
     refine wl_region ?_
     refine st (.int .i64 0) rfl rfl (xr_assign _ rfl rfl) ?_
     refine wl_end ?_
     (try simp only [ls0, ls1])
     refine hK9236 _ _ ?_
     (try clear hK9236 K9236)
     refine wp_block ?_
     (try simp only [ls0, ls1])
     refine wp_looped (looped_fin (fun kq10651 a_ w10650 => ∃ (C10649 : Nat → Nat) (x10641 : Int) (g_ : Nat → Value), a_ = ⟨#[(g_ 0), (g_ 1), .pointer (some ⟨g5685, 0, none⟩), (g_ 3), (g_ 4), (g_ 5), .int .i64 (l0_0.length : Int), .pointer (some ⟨g5699, 0, none⟩), (g_ 8), (g_ 9), (g_ 10), (g_ 11), (g_ 12), (g_ 13), .int .i64 x10641, (g_ 15), (g_ 16), (g_ 17), (g_ 18), (g_ 19), (g_ 20), (g_ 21), (g_ 22), (g_ 23), (g_ 24), (g_ 25), (g_ 26), (g_ 27), (g_ 28), (g_ 29), (g_ 30), (g_ 31), (g_ 32), (g_ 33), (g_ 34), (g_ 35), (g_ 36), (g_ 37), (g_ 38), (g_ 39), (g_ 40), (g_ 41), (g_ 42), (g_ 43), (g_ 44), (g_ 45), (g_ 46), (g_ 47), (g_ 48), (g_ 49), (g_ 50), (g_ 51), (g_ 52), (g_ 53), (g_ 54), (g_ 55), (g_ 56), (g_ 57), (g_ 58), (g_ 59), (g_ 60), (g_ 61), (g_ 62), (g_ 63), (g_ 64), (g_ 65), (g_ 66), (g_ 67), (g_ 68), (g_ 69), (g_ 70), (g_ 71), (g_ 72), (g_ 73), (g_ 74), (g_ 75), (g_ 76), (g_ 77), (g_ 78), (g_ 79), (g_ 80), (g_ 81), (g_ 82), (g_ 83), (g_ 84), (g_ 85), (g_ 86), (g_ 87), (g_ 88), (g_ 89), (g_ 90), (g_ 91), (g_ 92), (g_ 93), (g_ 94), (g_ 95), (g_ 96), (g_ 97), (g_ 98), (g_ 99), (g_ 100), (g_ 101), (g_ 102), (g_ 103), (g_ 104), (g_ 105), (g_ 106), (g_ 107), (g_ 108), (g_ 109), (g_ 110), (g_ 111), (g_ 112), (g_ 113), (g_ 114), (g_ 115), (g_ 116), (g_ 117), (g_ 118), (g_ 119), (g_ 120), (g_ 121), (g_ 122), (g_ 123), (g_ 124), (g_ 125), (g_ 126), (g_ 127), (g_ 128), (g_ 129), (g_ 130), (g_ 131), (g_ 132), (g_ 133), (g_ 134), (g_ 135), (g_ 136), (g_ 137), (g_ 138), (g_ 139), (g_ 140), (g_ 141), (g_ 142), (g_ 143), (g_ 144), (g_ 145), (g_ 146), (g_ 147), (g_ 148), (g_ 149), (g_ 150), (g_ 151)], []⟩ ∧ Step c w C10649 w10650 [] ∧ kq10651 ≤ k9043 ∧ (Ft C10649 [0] w10650 (fun w_ => Kd.string.C w_ A0_0 l0_0.length l0_0)) ∧ (Ft C10649 [0] w10650 (fun w_ => (Kd.slice 4 Kd.bool).C w_ A0_1 l0_1.length l0_1)) ∧ (Bx C10649 11 w10650 g5680 33 ([.slice A0_0 l0_0.length c0_0, .slice A0_1 l0_1.length c0_1])) ∧ (Bx C10649 12 w10650 g5685 41 ([.slice none 0 0, .slice none 0 0, .slice none 0 0, .slice none 0 0])) ∧ (Own C10649 14 w10650 (Kd.slice 3 (Kd.int .i64)) 23 (.slice A7748 x7747.length cp7750) x7747) ∧ (Own C10649 15 w10650 (Kd.slice 3 (Kd.int .i64)) 23 (.slice A7754 x7753.length cp7756) x7753) ∧ (Bx C10649 13 w10650 g5699 41 ([.slice A0_0 l0_0.length c0_0, .slice A0_1 l0_1.length c0_1, .slice A7748 x7747.length cp7750, .slice A7754 x7753.length cp7756])) ∧ blazonref14_New.l4 kq10651 l0_0 l0_1 x7747 x7753 x10641 = some (r1, r2, r3, r4, r5, r6, r7)) ?step fun hL_ => ?init)
     case init =>
      exact jmpL (fun a_ h_ => hL_ k9043 a_ _ h_) (fun g_ => ⟨_, 0, g_, rfl, HS9038, Nat.le_refl _, HJ9028, HJ9029, HJ9030, HJ9031, HJ9032, HJ9033, HJ9034, H⟩) rfl
     case step =>
      intro kq10651 ih10654 a10655 w10650 hr10656
      obtain ⟨C10649, x10641, g_, rfl, HS10652, hk10653, HJ10642, HJ10643, HJ10644, HJ10645, HJ10646, HJ10647, HJ10648, H⟩ := hr10656
      refine looped_round ?_
      cases kq10651 with
      | zero => exact absurd H (by simp [blazonref14_New.l4])
      | succ k10657 =>
       simp only [blazonref14_New.l4] at H
       refine wp_seq_k fun K10658 hK10658 => ?_
       refine wp_seq_k fun K10659 hK10659 => ?_
       refine wl_region ?_
       refine mv_ rfl ?_
       refine mv_ rfl ?_
       refine st (.bool (decide (x10641 < (l0_0.length : Int)))) rfl rfl (xr_bin _ _ _ rfl rfl rfl (B.lss_i64 _ _)) ?_
       refine wl_end ?_
       (try simp only [ls0, ls1])
       refine hK10659 _ _ ?_
       (try clear hK10659 K10659)
       by_cases c10660 : x10641 < (l0_0.length : Int)
       ·rw [if_pos c10660] at H
        (try rw [(decide_eq_true c10660)])
        refine wp_cond_true rfl ?_
        refine wp_skip ?_
        (try simp only [ls0, ls1])
        refine hK10658 _ _ ?_
        (try clear hK10658 K10658)
        refine wp_seq_k fun K10661 hK10661 => ?_
        refine wp_block ?_
        refine wp_seq_k fun K10662 hK10662 => ?_
        refine wl_region ?_
        refine st (.int .i64 0) rfl rfl (xr_assign _ rfl rfl) ?_
        refine wl_end ?_
        (try simp only [ls0, ls1])
        refine hK10662 _ _ ?_
        (try clear hK10662 K10662)
        refine wp_block ?_
        (try simp only [ls0, ls1])
        refine wp_looped (looped_fin (fun kq11126 a_ w11125 => ∃ (C11124 : Nat → Nat) (x11116 : Int) (g_ : Nat → Value), a_ = ⟨#[(g_ 0), (g_ 1), .pointer (some ⟨g5685, 0, none⟩), (g_ 3), (g_ 4), (g_ 5), .int .i64 (l0_0.length : Int), .pointer (some ⟨g5699, 0, none⟩), (g_ 8), (g_ 9), (g_ 10), (g_ 11), (g_ 12), (g_ 13), .int .i64 x10641, .int .i64 x11116, (g_ 16), (g_ 17), (g_ 18), (g_ 19), (g_ 20), (g_ 21), (g_ 22), (g_ 23), (g_ 24), (g_ 25), (g_ 26), (g_ 27), (g_ 28), (g_ 29), (g_ 30), (g_ 31), (g_ 32), (g_ 33), (g_ 34), (g_ 35), (g_ 36), (g_ 37), (g_ 38), (g_ 39), (g_ 40), (g_ 41), (g_ 42), (g_ 43), (g_ 44), (g_ 45), (g_ 46), (g_ 47), (g_ 48), (g_ 49), (g_ 50), (g_ 51), (g_ 52), (g_ 53), (g_ 54), (g_ 55), (g_ 56), (g_ 57), (g_ 58), (g_ 59), (g_ 60), (g_ 61), (g_ 62), (g_ 63), (g_ 64), (g_ 65), (g_ 66), (g_ 67), (g_ 68), (g_ 69), (g_ 70), (g_ 71), (g_ 72), (g_ 73), (g_ 74), (g_ 75), (g_ 76), (g_ 77), (g_ 78), (g_ 79), (g_ 80), (g_ 81), (g_ 82), (g_ 83), (g_ 84), (g_ 85), (g_ 86), (g_ 87), (g_ 88), (g_ 89), (g_ 90), (g_ 91), (g_ 92), (g_ 93), (g_ 94), (g_ 95), (g_ 96), (g_ 97), (g_ 98), (g_ 99), (g_ 100), (g_ 101), (g_ 102), (g_ 103), (g_ 104), (g_ 105), (g_ 106), (g_ 107), (g_ 108), (g_ 109), (g_ 110), (g_ 111), (g_ 112), (g_ 113), (g_ 114), (g_ 115), (g_ 116), (g_ 117), (g_ 118), (g_ 119), (g_ 120), (g_ 121), (g_ 122), (g_ 123), (g_ 124), (g_ 125), (g_ 126), (g_ 127), (g_ 128), (g_ 129), (g_ 130), (g_ 131), (g_ 132), (g_ 133), (g_ 134), (g_ 135), (g_ 136), (g_ 137), (g_ 138), (g_ 139), (g_ 140), (g_ 141), (g_ 142), (g_ 143), (g_ 144), (g_ 145), (g_ 146), (g_ 147), (g_ 148), (g_ 149), (g_ 150), (g_ 151)], []⟩ ∧ Step c w C11124 w11125 [] ∧ kq11126 ≤ k10657 ∧ (Ft C11124 [0] w11125 (fun w_ => Kd.string.C w_ A0_0 l0_0.length l0_0)) ∧ (Ft C11124 [0] w11125 (fun w_ => (Kd.slice 4 Kd.bool).C w_ A0_1 l0_1.length l0_1)) ∧ (Bx C11124 11 w11125 g5680 33 ([.slice A0_0 l0_0.length c0_0, .slice A0_1 l0_1.length c0_1])) ∧ (Bx C11124 12 w11125 g5685 41 ([.slice none 0 0, .slice none 0 0, .slice none 0 0, .slice none 0 0])) ∧ (Own C11124 14 w11125 (Kd.slice 3 (Kd.int .i64)) 23 (.slice A7748 x7747.length cp7750) x7747) ∧ (Own C11124 15 w11125 (Kd.slice 3 (Kd.int .i64)) 23 (.slice A7754 x7753.length cp7756) x7753) ∧ (Bx C11124 13 w11125 g5699 41 ([.slice A0_0 l0_0.length c0_0, .slice A0_1 l0_1.length c0_1, .slice A7748 x7747.length cp7750, .slice A7754 x7753.length cp7756])) ∧ blazonref14_New.l3 kq11126 l0_0 l0_1 x7747 x7753 x10641 x11116 = some (r1, r2, r3, r4, r5, r6, r7)) ?step fun hL_ => ?init)
        case init =>
         exact jmpL (fun a_ h_ => hL_ k10657 a_ _ h_) (fun g_ => ⟨_, 0, g_, rfl, HS10652, Nat.le_refl _, HJ10642, HJ10643, HJ10644, HJ10645, HJ10646, HJ10647, HJ10648, H⟩) rfl
        case step =>
         intro kq11126 ih11129 a11130 w11125 hr11131
         obtain ⟨C11124, x11116, g_, rfl, HS11127, hk11128, HJ11117, HJ11118, HJ11119, HJ11120, HJ11121, HJ11122, HJ11123, H⟩ := hr11131
         refine looped_round ?_
         cases kq11126 with
         | zero => exact absurd H (by simp [blazonref14_New.l3])
         | succ k11132 =>
          simp only [blazonref14_New.l3] at H
          refine wp_seq_k fun K11133 hK11133 => ?_
          refine wp_seq_k fun K11134 hK11134 => ?_
          refine wl_region ?_
          refine mv_ rfl ?_
          refine mv_ rfl ?_
          refine st (.bool (decide (x11116 < (l0_0.length : Int)))) rfl rfl (xr_bin _ _ _ rfl rfl rfl (B.lss_i64 _ _)) ?_
          refine wl_end ?_
          (try simp only [ls0, ls1])
          refine hK11134 _ _ ?_
          (try clear hK11134 K11134)
          by_cases c11135 : x11116 < (l0_0.length : Int)
          ·rw [if_pos c11135] at H
           (try rw [(decide_eq_true c11135)])
           refine wp_cond_true rfl ?_
           refine wp_skip ?_
           (try simp only [ls0, ls1])
           refine hK11133 _ _ ?_
           (try clear hK11133 K11133)
           refine wp_seq_k fun K11136 hK11136 => ?_
           refine wp_block ?_
           refine wp_seq_k fun K11137 hK11137 => ?_
           refine wl_region ?_
           refine st (.int .i64 0) rfl rfl (xr_assign _ rfl rfl) ?_
           refine wl_end ?_
           (try simp only [ls0, ls1])
           refine hK11137 _ _ ?_
           (try clear hK11137 K11137)
           refine wp_block ?_
           (try simp only [ls0, ls1])
           refine wp_looped (looped_fin (fun kq11285 a_ w11284 => ∃ (C11283 : Nat → Nat) (x11275 : Int) (g_ : Nat → Value), a_ = ⟨#[(g_ 0), (g_ 1), .pointer (some ⟨g5685, 0, none⟩), (g_ 3), (g_ 4), (g_ 5), .int .i64 (l0_0.length : Int), .pointer (some ⟨g5699, 0, none⟩), (g_ 8), (g_ 9), (g_ 10), (g_ 11), (g_ 12), (g_ 13), .int .i64 x10641, .int .i64 x11116, .int .i64 x11275, (g_ 17), (g_ 18), (g_ 19), (g_ 20), (g_ 21), (g_ 22), (g_ 23), (g_ 24), (g_ 25), (g_ 26), (g_ 27), (g_ 28), (g_ 29), (g_ 30), (g_ 31), (g_ 32), (g_ 33), (g_ 34), (g_ 35), (g_ 36), (g_ 37), (g_ 38), (g_ 39), (g_ 40), (g_ 41), (g_ 42), (g_ 43), (g_ 44), (g_ 45), (g_ 46), (g_ 47), (g_ 48), (g_ 49), (g_ 50), (g_ 51), (g_ 52), (g_ 53), (g_ 54), (g_ 55), (g_ 56), (g_ 57), (g_ 58), (g_ 59), (g_ 60), (g_ 61), (g_ 62), (g_ 63), (g_ 64), (g_ 65), (g_ 66), (g_ 67), (g_ 68), (g_ 69), (g_ 70), (g_ 71), (g_ 72), (g_ 73), (g_ 74), (g_ 75), (g_ 76), (g_ 77), (g_ 78), (g_ 79), (g_ 80), (g_ 81), (g_ 82), (g_ 83), (g_ 84), (g_ 85), (g_ 86), (g_ 87), (g_ 88), (g_ 89), (g_ 90), (g_ 91), (g_ 92), (g_ 93), (g_ 94), (g_ 95), (g_ 96), (g_ 97), (g_ 98), (g_ 99), (g_ 100), (g_ 101), (g_ 102), (g_ 103), (g_ 104), (g_ 105), (g_ 106), (g_ 107), (g_ 108), (g_ 109), (g_ 110), (g_ 111), (g_ 112), (g_ 113), (g_ 114), (g_ 115), (g_ 116), (g_ 117), (g_ 118), (g_ 119), (g_ 120), (g_ 121), (g_ 122), (g_ 123), (g_ 124), (g_ 125), (g_ 126), (g_ 127), (g_ 128), (g_ 129), (g_ 130), (g_ 131), (g_ 132), (g_ 133), (g_ 134), (g_ 135), (g_ 136), (g_ 137), (g_ 138), (g_ 139), (g_ 140), (g_ 141), (g_ 142), (g_ 143), (g_ 144), (g_ 145), (g_ 146), (g_ 147), (g_ 148), (g_ 149), (g_ 150), (g_ 151)], []⟩ ∧ Step c w C11283 w11284 [] ∧ kq11285 ≤ k11132 ∧ (Ft C11283 [0] w11284 (fun w_ => Kd.string.C w_ A0_0 l0_0.length l0_0)) ∧ (Ft C11283 [0] w11284 (fun w_ => (Kd.slice 4 Kd.bool).C w_ A0_1 l0_1.length l0_1)) ∧ (Bx C11283 11 w11284 g5680 33 ([.slice A0_0 l0_0.length c0_0, .slice A0_1 l0_1.length c0_1])) ∧ (Bx C11283 12 w11284 g5685 41 ([.slice none 0 0, .slice none 0 0, .slice none 0 0, .slice none 0 0])) ∧ (Own C11283 14 w11284 (Kd.slice 3 (Kd.int .i64)) 23 (.slice A7748 x7747.length cp7750) x7747) ∧ (Own C11283 15 w11284 (Kd.slice 3 (Kd.int .i64)) 23 (.slice A7754 x7753.length cp7756) x7753) ∧ (Bx C11283 13 w11284 g5699 41 ([.slice A0_0 l0_0.length c0_0, .slice A0_1 l0_1.length c0_1, .slice A7748 x7747.length cp7750, .slice A7754 x7753.length cp7756])) ∧ blazonref14_New.l2 kq11285 l0_0 l0_1 x7747 x7753 x10641 x11116 x11275 = some (r1, r2, r3, r4, r5, r6, r7)) ?step fun hL_ => ?init)
           case init =>
            exact jmpL (fun a_ h_ => hL_ k11132 a_ _ h_) (fun g_ => ⟨_, 0, g_, rfl, HS11127, Nat.le_refl _, HJ11117, HJ11118, HJ11119, HJ11120, HJ11121, HJ11122, HJ11123, H⟩) rfl
           case step =>
            intro kq11285 ih11288 a11289 w11284 hr11290
            obtain ⟨C11283, x11275, g_, rfl, HS11286, hk11287, HJ11276, HJ11277, HJ11278, HJ11279, HJ11280, HJ11281, HJ11282, H⟩ := hr11290
            refine looped_round ?_
            cases kq11285 with
            | zero => exact absurd H (by simp [blazonref14_New.l2])
            | succ k11291 =>
             simp only [blazonref14_New.l2] at H
             refine wp_seq_k fun K11292 hK11292 => ?_
             refine wp_seq_k fun K11293 hK11293 => ?_
             refine wl_region ?_
             refine mv_ rfl ?_
             refine mv_ rfl ?_
             refine st (.bool (decide (x11275 < (l0_0.length : Int)))) rfl rfl (xr_bin _ _ _ rfl rfl rfl (B.lss_i64 _ _)) ?_
             refine wl_end ?_
             (try simp only [ls0, ls1])
             refine hK11293 _ _ ?_
             (try clear hK11293 K11293)
             by_cases c11294 : x11275 < (l0_0.length : Int)
             ·rw [if_pos c11294] at H
              (try rw [(decide_eq_true c11294)])
              refine wp_cond_true rfl ?_
              refine wp_skip ?_
              (try simp only [ls0, ls1])
              refine hK11292 _ _ ?_
              (try clear hK11292 K11292)
              refine wp_seq_k fun K11295 hK11295 => ?_
              refine wp_block ?_
              refine wp_seq_k fun K11296 hK11296 => ?_
              have HQ11297 := Ft.same C11283 [0] w11284
              have HQ11298 := Ft.same C11283 [14, 0] w11284
              have HQ11299 := Ft.same C11283 [15, 0] w11284
              (try simp only [ls0, ls1])
              refine al_start (lb 38 0) rfl rfl rfl (fun w_ => Kd.string.C w_ A0_0 l0_0.length l0_0 ∧ (Kd.slice 4 Kd.bool).C w_ A0_1 l0_1.length l0_1 ∧ (Kd.slice 3 (Kd.int .i64)).C w_ A7748 x7747.length x7747 ∧ (Kd.slice 3 (Kd.int .i64)).C w_ A7754 x7753.length x7753 ∧ w_.heap[g5699]? = some (.cells (List.toArray ([.slice A0_0 l0_0.length c0_0, .slice A0_1 l0_1.length c0_1, .slice A7748 x7747.length cp7750, .slice A7754 x7753.length cp7756])) 41 (0, 0)) ∧ (∀ k_, C11283 k_ ∈ [0] → k_ < (w11284).drew.heap.size → w_.heap[k_]? = (w11284).drew.heap[k_]?) ∧ (∀ k_, C11283 k_ ∈ [14, 0] → k_ < (w11284).drew.heap.size → w_.heap[k_]? = (w11284).drew.heap[k_]?) ∧ (∀ k_, C11283 k_ ∈ [15, 0] → k_ < (w11284).drew.heap.size → w_.heap[k_]? = (w11284).drew.heap[k_]?)) ⟨(Ft.now (HJ11276).drew), (Ft.now (HJ11277).drew), (Ft.now ((HJ11280.ft)).drew), (Ft.now ((HJ11281.ft)).drew), (HJ11282.drew).2, (Ft.now (HQ11297.drew)), (Ft.now (HQ11298.drew)), (Ft.now (HQ11299.drew))⟩ [] ?_
              replace HJ11278 := HJ11278.drew
              replace HJ11276 := HJ11276.drew
              replace HJ11277 := HJ11277.drew
              replace HJ11279 := HJ11279.drew
              replace HJ11282 := HJ11282.drew
              replace HJ11280 := HJ11280.drew
              replace HJ11281 := HJ11281.drew
              replace HQ11297 := HQ11297.drew
              replace HQ11298 := HQ11298.drew
              replace HQ11299 := HQ11299.drew
              replace HS11286 := Step.ofDrew HS11286
              replace HQ11297 := Ft.same C11283 [0] (w11284.drew)
              replace HQ11298 := Ft.same C11283 [14, 0] (w11284.drew)
              replace HQ11299 := Ft.same C11283 [15, 0] (w11284.drew)
              generalize w11284.drew = w11300 at *
              have HZ11301 := HJ11277
              have HZ11302 := (HJ11280.ft)
              have HZ11303 := (HJ11281.ft)
              refine al_pure 0 110 (.pointer (some ⟨g5699, 3, none⟩)) (lb 38 1) rfl rfl (by kernel_rfl) (fun _ _ _ => id) rfl (fun w_ => xr_fieldAddr _ _ rfl rfl (bx_field2 Tryd.underlying41 rfl rfl (by kernel_rfl))) ?_
              refine al_mv 2 (lb 38 5) rfl rfl (by kernel_rfl) (fun _ _ _ => id) rfl ?_
              refine al_pure 5 115 (.pointer (some ⟨g5699, 2, none⟩)) (lb 38 37) rfl rfl (by kernel_rfl) (fun _ _ _ => id) rfl (fun w_ => xr_fieldAddr _ _ rfl rfl (bx_field2 Tryd.underlying41 rfl rfl (by kernel_rfl))) ?_
              refine al_mv 7 (lb 38 165) rfl rfl (by kernel_rfl) (fun _ _ _ => id) rfl ?_
              simp only [ls0, ls1]
              refine al_mv 10 (lb 38 1189) rfl rfl (by kernel_rfl) (fun _ _ _ => id) rfl ?_
              refine al_pure 15 125 (.pointer (some ⟨g5699, 2, none⟩)) (lb 38 33957) rfl rfl (by kernel_rfl) (fun _ _ _ => id) rfl (fun w_ => xr_fieldAddr _ _ rfl rfl (bx_field2 Tryd.underlying41 rfl rfl (by kernel_rfl))) ?_
              refine al_pure 17 127 (.pointer (some ⟨g5699, 3, none⟩)) (lb 38 165029) rfl rfl (by kernel_rfl) (fun _ _ _ => id) rfl (fun w_ => xr_fieldAddr _ _ rfl rfl (bx_field2 Tryd.underlying41 rfl rfl (by kernel_rfl))) ?_
              refine al_mv 19 (lb 38 689317) rfl rfl (by kernel_rfl) (fun _ _ _ => id) rfl ?_
              simp only [ls0, ls1]
              refine al_mv 22 (lb 38 4883621) rfl rfl (by kernel_rfl) (fun _ _ _ => id) rfl ?_
              refine al_pure 27 137 (.pointer (some ⟨g5699, 3, none⟩)) (lb 38 139101349) rfl rfl (by kernel_rfl) (fun _ _ _ => id) rfl (fun w_ => xr_fieldAddr _ _ rfl rfl (bx_field2 Tryd.underlying41 rfl rfl (by kernel_rfl))) ?_
              refine al_mv 29 (lb 38 675972261) rfl rfl (by kernel_rfl) (fun _ _ _ => id) rfl ?_
              refine al_mv 32 (lb 38 4970939557) rfl rfl (by kernel_rfl) (fun _ _ _ => id) rfl ?_
              simp only [ls0, ls1]
              refine al_take 1 111 (.slice A7754 x7753.length cp7756) (lb 38 4970939559) rfl rfl (by kernel_rfl) (fun _ _ _ => id) rfl (fun w_ hS_ => xr_load _ _ rfl rfl (load_cell Tryd.underlying39 rfl (bx_cell hS_.2.2.2.2.1 3 rfl))) ⟨(Ft.now HJ11276), (Ft.now HJ11277), (Ft.now (HJ11280.ft)), (Ft.now (HJ11281.ft)), (HJ11282).2, (Ft.now (HQ11297)), (Ft.now (HQ11298)), (Ft.now (HQ11299))⟩ ?_
              obtain ⟨c11304, H⟩ := if_some H
              obtain ⟨c11305, H⟩ := if_some H
              obtain ⟨g11306, hA11307⟩ := HJ11281.form (pos_of (j := x10641) (by first | assumption | decide) (by first | assumption | omega))
              refine al_pure 3 113 (.pointer (some ((⟨g11306, 0, none⟩ : Addr).add ((x10641 : Int).toNat * 1)))) (lb 38 4970939567) rfl rfl (by kernel_rfl) (fun _ _ _ => id) rfl (fun w_ => xr_indexAddr _ _ _ rfl rfl rfl (index_at Tryd.underlying39 info23 hA11307 (by first | assumption | decide | omega) (by first | assumption | decide | omega))) ?_
              obtain ⟨csq11309, _, hKq11309, hcq11309, hinq11309⟩ := Ft.elem (HJ11281.ft) hA11307 [] x10641 (by first | assumption | decide | omega) (by first | assumption | decide | omega) (by decide)
              obtain ⟨Aq11309_0, cpq11309_0, rfl, HCq11309_0, HRq11309_0⟩ := slice_openF hKq11309
              replace HRq11309_0 : Ft C11283 [15, 0] w11300 (fun w_ => (Kd.int .i64).C w_ Aq11309_0 (rd_L21 x7753 x10641).length (rd_L21 x7753 x10641)) := HRq11309_0
              have HNq11309 : Ft C11283 [15, 0] w11300 (fun w_ => (Kd.int .i64).C w_ Aq11309_0 (rd_L21 x7753 x10641).length (rd_L21 x7753 x10641)) := HRq11309_0
              refine al_take 4 114 (.slice Aq11309_0 (rd_L21 x7753 x10641).length cpq11309_0) (lb 38 4970939583) rfl rfl (by kernel_rfl) (fun _ _ _ => id) rfl (fun w_ hS_ => xr_load (.pointer (some ((⟨g11306, 0, none⟩ : Addr).add ((x10641 : Int).toNat * 1)))) (.slice Aq11309_0 (rd_L21 x7753 x10641).length cpq11309_0) rfl rfl (load_cell Tryd.underlying23 rfl (by have h_ := (same_cell hS_.2.2.2.2.2.2.2 hinq11309 (add2_block _ _ _) (hcq11309 0 _ rfl)); rw [add_zero_] at h_; exact h_))) ⟨(Ft.now HJ11276), (Ft.now HJ11277), (Ft.now (HJ11280.ft)), (Ft.now (HJ11281.ft)), (HJ11282).2, (Ft.now (HQ11297)), (Ft.now (HQ11298)), (Ft.now (HQ11299))⟩ ?_
              refine al_take 6 116 (.slice A7748 x7747.length cp7750) (lb 38 4970939647) rfl rfl (by kernel_rfl) (fun _ _ _ => id) rfl (fun w_ hS_ => xr_load _ _ rfl rfl (load_cell Tryd.underlying39 rfl (bx_cell hS_.2.2.2.2.1 2 rfl))) ⟨(Ft.now HJ11276), (Ft.now HJ11277), (Ft.now (HJ11280.ft)), (Ft.now (HJ11281.ft)), (HJ11282).2, (Ft.now (HQ11297)), (Ft.now (HQ11298)), (Ft.now (HQ11299))⟩ ?_
              simp only [ls0, ls1]
              obtain ⟨c11310, H⟩ := if_some H
              obtain ⟨c11311, H⟩ := if_some H
              obtain ⟨g11312, hA11313⟩ := HJ11280.form (pos_of (j := x11116) (by first | assumption | decide) (by first | assumption | omega))
              refine al_pure 8 118 (.pointer (some ((⟨g11312, 0, none⟩ : Addr).add ((x11116 : Int).toNat * 1)))) (lb 38 4970939903) rfl rfl (by kernel_rfl) (fun _ _ _ => id) rfl (fun w_ => xr_indexAddr _ _ _ rfl rfl rfl (index_at Tryd.underlying39 info23 hA11313 (by first | assumption | decide | omega) (by first | assumption | decide | omega))) ?_
              obtain ⟨csq11315, _, hKq11315, hcq11315, hinq11315⟩ := Ft.elem (HJ11280.ft) hA11313 [] x11116 (by first | assumption | decide | omega) (by first | assumption | decide | omega) (by decide)
              obtain ⟨Aq11315_0, cpq11315_0, rfl, HCq11315_0, HRq11315_0⟩ := slice_openF hKq11315
              replace HRq11315_0 : Ft C11283 [14, 0] w11300 (fun w_ => (Kd.int .i64).C w_ Aq11315_0 (rd_L21 x7747 x11116).length (rd_L21 x7747 x11116)) := HRq11315_0
              have HNq11315 : Ft C11283 [14, 0] w11300 (fun w_ => (Kd.int .i64).C w_ Aq11315_0 (rd_L21 x7747 x11116).length (rd_L21 x7747 x11116)) := HRq11315_0
              refine al_take 9 119 (.slice Aq11315_0 (rd_L21 x7747 x11116).length cpq11315_0) (lb 38 4970940415) rfl rfl (by kernel_rfl) (fun _ _ _ => id) rfl (fun w_ hS_ => xr_load (.pointer (some ((⟨g11312, 0, none⟩ : Addr).add ((x11116 : Int).toNat * 1)))) (.slice Aq11315_0 (rd_L21 x7747 x11116).length cpq11315_0) rfl rfl (load_cell Tryd.underlying23 rfl (by have h_ := (same_cell hS_.2.2.2.2.2.2.1 hinq11315 (add2_block _ _ _) (hcq11315 0 _ rfl)); rw [add_zero_] at h_; exact h_))) ⟨(Ft.now HJ11276), (Ft.now HJ11277), (Ft.now (HJ11280.ft)), (Ft.now (HJ11281.ft)), (HJ11282).2, (Ft.now (HQ11297)), (Ft.now (HQ11298)), (Ft.now (HQ11299))⟩ ?_
              obtain ⟨c11316, H⟩ := if_some H
              obtain ⟨c11317, H⟩ := if_some H
              obtain ⟨ad11318, hA11319⟩ := c_addr (Ft.now HRq11315_0) (pos_of (j := x11275) (by first | assumption | decide) (by first | assumption | omega))
              refine al_pure 11 121 (.pointer (some (ad11318.add ((x11275 : Int).toNat * 1)))) (lb 38 4970942463) rfl rfl (by kernel_rfl) (fun _ _ _ => id) rfl (fun w_ => xr_indexAddr _ _ _ rfl rfl rfl (index_at Tryd.underlying23 info3 hA11319 (by first | assumption | decide | omega) (by first | assumption | decide | omega))) ?_
              refine al_take 12 122 (.int .i64 (rd (rd_L21 x7747 x11116) x11275)) (lb 38 4970946559) rfl rfl (by kernel_rfl) (fun _ _ _ => id) rfl (fun w_ hS_ => xr_load _ _ rfl rfl (load_int Tryd.underlying3 rfl hA11319 (HNq11315 _ (hS_.2.2.2.2.2.2.1)) (by first | assumption | decide | omega) (by first | assumption | decide | omega))) ⟨(Ft.now HJ11276), (Ft.now HJ11277), (Ft.now (HJ11280.ft)), (Ft.now (HJ11281.ft)), (HJ11282).2, (Ft.now (HQ11297)), (Ft.now (HQ11298)), (Ft.now (HQ11299))⟩ ?_
              simp only [ls0, ls1]
              obtain ⟨c11320, H⟩ := if_some H
              obtain ⟨c11321, H⟩ := if_some H
              obtain ⟨ad11322, hA11323⟩ := c_addr (Ft.now HRq11309_0) (pos_of (j := (rd (rd_L21 x7747 x11116) x11275)) (by first | assumption | decide) (by first | assumption | omega))
              refine al_pure 13 123 (.pointer (some (ad11322.add ((rd (rd_L21 x7747 x11116) x11275 : Int).toNat * 1)))) (lb 38 4970954751) rfl rfl (by kernel_rfl) (fun _ _ _ => id) rfl (fun w_ => xr_indexAddr _ _ _ rfl rfl rfl (index_at Tryd.underlying23 info3 hA11323 (by first | assumption | decide | omega) (by first | assumption | decide | omega))) ?_
              refine al_take 14 124 (.int .i64 (rd (rd_L21 x7753 x10641) (rd (rd_L21 x7747 x11116) x11275))) (lb 38 4970971135) rfl rfl (by kernel_rfl) (fun _ _ _ => id) rfl (fun w_ hS_ => xr_load _ _ rfl rfl (load_int Tryd.underlying3 rfl hA11323 (HNq11309 _ (hS_.2.2.2.2.2.2.2)) (by first | assumption | decide | omega) (by first | assumption | decide | omega))) ⟨(Ft.now HJ11276), (Ft.now HJ11277), (Ft.now (HJ11280.ft)), (Ft.now (HJ11281.ft)), (HJ11282).2, (Ft.now (HQ11297)), (Ft.now (HQ11298)), (Ft.now (HQ11299))⟩ ?_
              refine al_take 16 126 (.slice A7748 x7747.length cp7750) (lb 38 4971036671) rfl rfl (by kernel_rfl) (fun _ _ _ => id) rfl (fun w_ hS_ => xr_load _ _ rfl rfl (load_cell Tryd.underlying39 rfl (bx_cell hS_.2.2.2.2.1 2 rfl))) ⟨(Ft.now HJ11276), (Ft.now HJ11277), (Ft.now (HJ11280.ft)), (Ft.now (HJ11281.ft)), (HJ11282).2, (Ft.now (HQ11297)), (Ft.now (HQ11298)), (Ft.now (HQ11299))⟩ ?_
              refine al_take 18 128 (.slice A7754 x7753.length cp7756) (lb 38 4971298815) rfl rfl (by kernel_rfl) (fun _ _ _ => id) rfl (fun w_ hS_ => xr_load _ _ rfl rfl (load_cell Tryd.underlying39 rfl (bx_cell hS_.2.2.2.2.1 3 rfl))) ⟨(Ft.now HJ11276), (Ft.now HJ11277), (Ft.now (HJ11280.ft)), (Ft.now (HJ11281.ft)), (HJ11282).2, (Ft.now (HQ11297)), (Ft.now (HQ11298)), (Ft.now (HQ11299))⟩ ?_
              simp only [ls0, ls1]
              obtain ⟨g11324, hA11325⟩ := HJ11281.form (pos_of (j := x10641) (by first | assumption | decide) (by first | assumption | omega))
              refine al_pure 20 130 (.pointer (some ((⟨g11324, 0, none⟩ : Addr).add ((x10641 : Int).toNat * 1)))) (lb 38 4972347391) rfl rfl (by kernel_rfl) (fun _ _ _ => id) rfl (fun w_ => xr_indexAddr _ _ _ rfl rfl rfl (index_at Tryd.underlying39 info23 hA11325 (by first | assumption | decide | omega) (by first | assumption | decide | omega))) ?_
              obtain ⟨csq11327, _, hKq11327, hcq11327, hinq11327⟩ := Ft.elem (HJ11281.ft) hA11325 [] x10641 (by first | assumption | decide | omega) (by first | assumption | decide | omega) (by decide)
              obtain ⟨Aq11327_0, cpq11327_0, rfl, HCq11327_0, HRq11327_0⟩ := slice_openF hKq11327
              replace HRq11327_0 : Ft C11283 [15, 0] w11300 (fun w_ => (Kd.int .i64).C w_ Aq11327_0 (rd_L21 x7753 x10641).length (rd_L21 x7753 x10641)) := HRq11327_0
              have HNq11327 : Ft C11283 [15, 0] w11300 (fun w_ => (Kd.int .i64).C w_ Aq11327_0 (rd_L21 x7753 x10641).length (rd_L21 x7753 x10641)) := HRq11327_0
              refine al_take 21 131 (.slice Aq11327_0 (rd_L21 x7753 x10641).length cpq11327_0) (lb 38 4974444543) rfl rfl (by kernel_rfl) (fun _ _ _ => id) rfl (fun w_ hS_ => xr_load (.pointer (some ((⟨g11324, 0, none⟩ : Addr).add ((x10641 : Int).toNat * 1)))) (.slice Aq11327_0 (rd_L21 x7753 x10641).length cpq11327_0) rfl rfl (load_cell Tryd.underlying23 rfl (by have h_ := (same_cell hS_.2.2.2.2.2.2.2 hinq11327 (add2_block _ _ _) (hcq11327 0 _ rfl)); rw [add_zero_] at h_; exact h_))) ⟨(Ft.now HJ11276), (Ft.now HJ11277), (Ft.now (HJ11280.ft)), (Ft.now (HJ11281.ft)), (HJ11282).2, (Ft.now (HQ11297)), (Ft.now (HQ11298)), (Ft.now (HQ11299))⟩ ?_
              obtain ⟨c11328, H⟩ := if_some H
              obtain ⟨ad11329, hA11330⟩ := c_addr (Ft.now HRq11327_0) (pos_of (j := x11116) (by first | assumption | decide) (by first | assumption | omega))
              refine al_pure 23 133 (.pointer (some (ad11329.add ((x11116 : Int).toNat * 1)))) (lb 38 4982833151) rfl rfl (by kernel_rfl) (fun _ _ _ => id) rfl (fun w_ => xr_indexAddr _ _ _ rfl rfl rfl (index_at Tryd.underlying23 info3 hA11330 (by first | assumption | decide | omega) (by first | assumption | decide | omega))) ?_
              refine al_take 24 134 (.int .i64 (rd (rd_L21 x7753 x10641) x11116)) (lb 38 4999610367) rfl rfl (by kernel_rfl) (fun _ _ _ => id) rfl (fun w_ hS_ => xr_load _ _ rfl rfl (load_int Tryd.underlying3 rfl hA11330 (HNq11327 _ (hS_.2.2.2.2.2.2.2)) (by first | assumption | decide | omega) (by first | assumption | decide | omega))) ⟨(Ft.now HJ11276), (Ft.now HJ11277), (Ft.now (HJ11280.ft)), (Ft.now (HJ11281.ft)), (HJ11282).2, (Ft.now (HQ11297)), (Ft.now (HQ11298)), (Ft.now (HQ11299))⟩ ?_
              simp only [ls0, ls1]
              obtain ⟨c11331, H⟩ := if_some H
              obtain ⟨c11332, H⟩ := if_some H
              obtain ⟨g11333, hA11334⟩ := HJ11280.form (pos_of (j := (rd (rd_L21 x7753 x10641) x11116)) (by first | assumption | decide) (by first | assumption | omega))
              refine al_pure 25 135 (.pointer (some ((⟨g11333, 0, none⟩ : Addr).add ((rd (rd_L21 x7753 x10641) x11116 : Int).toNat * 1)))) (lb 38 5033164799) rfl rfl (by kernel_rfl) (fun _ _ _ => id) rfl (fun w_ => xr_indexAddr _ _ _ rfl rfl rfl (index_at Tryd.underlying39 info23 hA11334 (by first | assumption | decide | omega) (by first | assumption | decide | omega))) ?_
              obtain ⟨csq11336, _, hKq11336, hcq11336, hinq11336⟩ := Ft.elem (HJ11280.ft) hA11334 [] (rd (rd_L21 x7753 x10641) x11116) (by first | assumption | decide | omega) (by first | assumption | decide | omega) (by decide)
              obtain ⟨Aq11336_0, cpq11336_0, rfl, HCq11336_0, HRq11336_0⟩ := slice_openF hKq11336
              replace HRq11336_0 : Ft C11283 [14, 0] w11300 (fun w_ => (Kd.int .i64).C w_ Aq11336_0 (rd_L21 x7747 (rd (rd_L21 x7753 x10641) x11116)).length (rd_L21 x7747 (rd (rd_L21 x7753 x10641) x11116))) := HRq11336_0
              have HNq11336 : Ft C11283 [14, 0] w11300 (fun w_ => (Kd.int .i64).C w_ Aq11336_0 (rd_L21 x7747 (rd (rd_L21 x7753 x10641) x11116)).length (rd_L21 x7747 (rd (rd_L21 x7753 x10641) x11116))) := HRq11336_0
              refine al_take 26 136 (.slice Aq11336_0 (rd_L21 x7747 (rd (rd_L21 x7753 x10641) x11116)).length cpq11336_0) (lb 38 5100273663) rfl rfl (by kernel_rfl) (fun _ _ _ => id) rfl (fun w_ hS_ => xr_load (.pointer (some ((⟨g11333, 0, none⟩ : Addr).add ((rd (rd_L21 x7753 x10641) x11116 : Int).toNat * 1)))) (.slice Aq11336_0 (rd_L21 x7747 (rd (rd_L21 x7753 x10641) x11116)).length cpq11336_0) rfl rfl (load_cell Tryd.underlying23 rfl (by have h_ := (same_cell hS_.2.2.2.2.2.2.1 hinq11336 (add2_block _ _ _) (hcq11336 0 _ rfl)); rw [add_zero_] at h_; exact h_))) ⟨(Ft.now HJ11276), (Ft.now HJ11277), (Ft.now (HJ11280.ft)), (Ft.now (HJ11281.ft)), (HJ11282).2, (Ft.now (HQ11297)), (Ft.now (HQ11298)), (Ft.now (HQ11299))⟩ ?_
              refine al_take 28 138 (.slice A7754 x7753.length cp7756) (lb 38 5368709119) rfl rfl (by kernel_rfl) (fun _ _ _ => id) rfl (fun w_ hS_ => xr_load _ _ rfl rfl (load_cell Tryd.underlying39 rfl (bx_cell hS_.2.2.2.2.1 3 rfl))) ⟨(Ft.now HJ11276), (Ft.now HJ11277), (Ft.now (HJ11280.ft)), (Ft.now (HJ11281.ft)), (HJ11282).2, (Ft.now (HQ11297)), (Ft.now (HQ11298)), (Ft.now (HQ11299))⟩ ?_
              obtain ⟨g11337, hA11338⟩ := HJ11281.form (pos_of (j := x10641) (by first | assumption | decide) (by first | assumption | omega))
              refine al_pure 30 140 (.pointer (some ((⟨g11337, 0, none⟩ : Addr).add ((x10641 : Int).toNat * 1)))) (lb 38 6442450943) rfl rfl (by kernel_rfl) (fun _ _ _ => id) rfl (fun w_ => xr_indexAddr _ _ _ rfl rfl rfl (index_at Tryd.underlying39 info23 hA11338 (by first | assumption | decide | omega) (by first | assumption | decide | omega))) ?_
              simp only [ls0, ls1]
              obtain ⟨csq11340, _, hKq11340, hcq11340, hinq11340⟩ := Ft.elem (HJ11281.ft) hA11338 [] x10641 (by first | assumption | decide | omega) (by first | assumption | decide | omega) (by decide)
              obtain ⟨Aq11340_0, cpq11340_0, rfl, HCq11340_0, HRq11340_0⟩ := slice_openF hKq11340
              replace HRq11340_0 : Ft C11283 [15, 0] w11300 (fun w_ => (Kd.int .i64).C w_ Aq11340_0 (rd_L21 x7753 x10641).length (rd_L21 x7753 x10641)) := HRq11340_0
              have HNq11340 : Ft C11283 [15, 0] w11300 (fun w_ => (Kd.int .i64).C w_ Aq11340_0 (rd_L21 x7753 x10641).length (rd_L21 x7753 x10641)) := HRq11340_0
              refine al_take 31 141 (.slice Aq11340_0 (rd_L21 x7753 x10641).length cpq11340_0) (lb 38 8589934591) rfl rfl (by kernel_rfl) (fun _ _ _ => id) rfl (fun w_ hS_ => xr_load (.pointer (some ((⟨g11337, 0, none⟩ : Addr).add ((x10641 : Int).toNat * 1)))) (.slice Aq11340_0 (rd_L21 x7753 x10641).length cpq11340_0) rfl rfl (load_cell Tryd.underlying23 rfl (by have h_ := (same_cell hS_.2.2.2.2.2.2.2 hinq11340 (add2_block _ _ _) (hcq11340 0 _ rfl)); rw [add_zero_] at h_; exact h_))) ⟨(Ft.now HJ11276), (Ft.now HJ11277), (Ft.now (HJ11280.ft)), (Ft.now (HJ11281.ft)), (HJ11282).2, (Ft.now (HQ11297)), (Ft.now (HQ11298)), (Ft.now (HQ11299))⟩ ?_
              obtain ⟨c11341, H⟩ := if_some H
              obtain ⟨ad11342, hA11343⟩ := c_addr (Ft.now HRq11340_0) (pos_of (j := x11275) (by first | assumption | decide) (by first | assumption | omega))
              refine al_pure 33 143 (.pointer (some (ad11342.add ((x11275 : Int).toNat * 1)))) (lb 38 17179869183) rfl rfl (by kernel_rfl) (fun _ _ _ => id) rfl (fun w_ => xr_indexAddr _ _ _ rfl rfl rfl (index_at Tryd.underlying23 info3 hA11343 (by first | assumption | decide | omega) (by first | assumption | decide | omega))) ?_
              refine al_take 34 144 (.int .i64 (rd (rd_L21 x7753 x10641) x11275)) (lb 38 34359738367) rfl rfl (by kernel_rfl) (fun _ _ _ => id) rfl (fun w_ hS_ => xr_load _ _ rfl rfl (load_int Tryd.underlying3 rfl hA11343 (HNq11340 _ (hS_.2.2.2.2.2.2.2)) (by first | assumption | decide | omega) (by first | assumption | decide | omega))) ⟨(Ft.now HJ11276), (Ft.now HJ11277), (Ft.now (HJ11280.ft)), (Ft.now (HJ11281.ft)), (HJ11282).2, (Ft.now (HQ11297)), (Ft.now (HQ11298)), (Ft.now (HQ11299))⟩ ?_
              obtain ⟨c11344, H⟩ := if_some H
              obtain ⟨c11345, H⟩ := if_some H
              obtain ⟨ad11346, hA11347⟩ := c_addr (Ft.now HRq11336_0) (pos_of (j := (rd (rd_L21 x7753 x10641) x11275)) (by first | assumption | decide) (by first | assumption | omega))
              refine al_pure 35 145 (.pointer (some (ad11346.add ((rd (rd_L21 x7753 x10641) x11275 : Int).toNat * 1)))) (lb 38 68719476735) rfl rfl (by kernel_rfl) (fun _ _ _ => id) rfl (fun w_ => xr_indexAddr _ _ _ rfl rfl rfl (index_at Tryd.underlying23 info3 hA11347 (by first | assumption | decide | omega) (by first | assumption | decide | omega))) ?_
              simp only [ls0, ls1]
              refine al_take 36 146 (.int .i64 (rd (rd_L21 x7747 (rd (rd_L21 x7753 x10641) x11116)) (rd (rd_L21 x7753 x10641) x11275))) (lb 38 137438953471) rfl rfl (by kernel_rfl) (fun _ _ _ => id) rfl (fun w_ hS_ => xr_load _ _ rfl rfl (load_int Tryd.underlying3 rfl hA11347 (HNq11336 _ (hS_.2.2.2.2.2.2.1)) (by first | assumption | decide | omega) (by first | assumption | decide | omega))) ⟨(Ft.now HJ11276), (Ft.now HJ11277), (Ft.now (HJ11280.ft)), (Ft.now (HJ11281.ft)), (HJ11282).2, (Ft.now (HQ11297)), (Ft.now (HQ11298)), (Ft.now (HQ11299))⟩ ?_
              refine al_pure 37 147 (.bool (!decide ((rd (rd_L21 x7753 x10641) (rd (rd_L21 x7747 x11116) x11275)) = (rd (rd_L21 x7747 (rd (rd_L21 x7753 x10641) x11116)) (rd (rd_L21 x7753 x10641) x11275))))) (lb 38 274877906943) rfl rfl (by kernel_rfl) (fun _ _ _ => id) rfl (fun w_ => xr_bin _ _ _ rfl rfl rfl (B.neq_i64 _ _)) ?_
              refine al_end (by kernel_rfl) ?_
              (try simp only [ls0, ls1])
              refine hK11296 _ _ ?_
              (try clear hK11296 K11296)
              by_cases c11348 : (rd (rd_L21 x7753 x10641) (rd (rd_L21 x7747 x11116) x11275)) = (rd (rd_L21 x7747 (rd (rd_L21 x7753 x10641) x11116)) (rd (rd_L21 x7753 x10641) x11275))
              ·rw [if_pos c11348] at H
               (try rw [(decide_eq_true c11348)])
               (try simp only [Bool.not_true, Bool.not_false])
               refine wp_cond_false rfl ?_
               refine wp_skip ?_
               (try simp only [ls0, ls1])
               refine hK11295 _ _ ?_
               (try clear hK11295 K11295)
               refine wl_region ?_
               refine mv_ rfl ?_
               refine st (.int .i64 (wrap64 (x11275 + 1))) rfl rfl (xr_bin _ _ _ rfl rfl rfl (B.add_i64 _ _)) ?_
               refine as_ rfl ?_
               refine wl_end ?_
               (try simp only [ls0, ls1])
               exact jmpL (fun a_ h_ => ih11288 k11291 (by omega) a_ _ h_) (fun g_ => ⟨_, wrap64 (x11275 + 1), g_, rfl, HS11286, (by omega), HJ11276, HJ11277, HJ11278, HJ11279, HJ11280, HJ11281, HJ11282, H⟩) rfl
              rw [if_neg c11348] at H
              (try rw [(decide_eq_false c11348)])
              (try simp only [Bool.not_true, Bool.not_false])
              refine wp_cond_true rfl ?_
              refine wp_seq_k fun K11349 hK11349 => ?_
              refine wl_region ?_
              refine st (.agg #[.slice none 0 0, .slice none 0 0, .slice none 0 0, .slice none 0 0]) rfl rfl (xr_build #[] (.agg #[.slice none 0 0, .slice none 0 0, .slice none 0 0, .slice none 0 0]) rfl (mp_ rfl) (by first | rfl | (go_simp; done) | (go_simp; rfl) | (go_simp; exact i64_w _) | (go_simp; exact i32_w _))) ?_
              refine mv_ rfl ?_
              refine mv_ rfl ?_
              refine bx_store (C := C11283) (z := 12) (g := g5685) (j := 0) (tb := 41) (u := .agg #[.slice none 0 0, .slice none 0 0, .slice none 0 0, .slice none 0 0]) (seg := [.slice none 0 0, .slice none 0 0, .slice none 0 0, .slice none 0 0]) (xs := [.slice none 0 0, .slice none 0 0, .slice none 0 0, .slice none 0 0]) rfl rfl rfl rfl rfl rfl (by first | kernel_rfl | rfl) (by simp [Value.oneCell']) HJ11279 (by simp only [List.length_cons, List.length_nil]; omega) rfl ?_
              intro w11350 HX11351 hs11352
              replace HJ11278 := HJ11278.thru hs11352 rfl
              replace HJ11276 := HJ11276.thru hs11352 rfl
              replace HJ11277 := HJ11277.thru hs11352 rfl
              replace HJ11282 := HJ11282.thru hs11352 rfl
              replace HJ11280 := HJ11280.thru hs11352 rfl
              replace HJ11281 := HJ11281.thru hs11352 rfl
              replace HQ11297 := HQ11297.thru hs11352 rfl
              replace HQ11298 := HQ11298.thru hs11352 rfl
              replace HQ11299 := HQ11299.thru hs11352 rfl
              replace HS11286 := HS11286.trans hs11352 hc rfl
              (try simp only [ls0, ls1])
              refine as_ rfl ?_
              refine as_ rfl ?_
              refine st (.int .i64 17) rfl rfl (xr_assign _ rfl rfl) ?_
              refine wl_end ?_
              (try simp only [ls0, ls1])
              refine hK11349 _ _ ?_
              (try clear hK11349 K11349)
              refine wp_ret ?_
              (try simp only [Exit.inBlock, Exit.then, Exit.noGoto])
              (try simp only [ls0, ls1])
              simp only [Option.some.injEq, Prod.mk.injEq] at H
              obtain ⟨rfl, rfl, rfl, rfl, rfl, rfl, rfl⟩ := H
              refine bodyPost_ret (res_cttt rfl rfl (load_of (load_agg (cs := [.slice none 0 0, .slice none 0 0, .slice none 0 0, .slice none 0 0]) Tryd.underlying41 rfl (by kernel_rfl) (bx_cells (HX11351).2 0 rfl)))) rfl ?_
              exact ⟨_, none, 0, none, 0, none, 0, none, 0, rfl, HS11286, (Kd.F_nil _ _ _), (Nat.le_refl 0), (Kd.F_nil _ _ _), (Nat.le_refl 0), (Own.nil _ _ _ _ _), (Nat.le_refl 0), (Own.nil _ _ _ _ _), (Nat.le_refl 0)⟩
             rw [if_neg c11294] at H
             (try rw [(decide_eq_false c11294)])
             refine wp_cond_false rfl ?_
             refine wp_exit ?_
             (try simp only [ls0, ls1])
             refine hK11136 _ _ ?_
             (try clear hK11136 K11136)
             refine wl_region ?_
             refine mv_ rfl ?_
             refine st (.int .i64 (wrap64 (x11116 + 1))) rfl rfl (xr_bin _ _ _ rfl rfl rfl (B.add_i64 _ _)) ?_
             refine as_ rfl ?_
             refine wl_end ?_
             (try simp only [ls0, ls1])
             exact jmpL (fun a_ h_ => ih11129 k11291 (by omega) a_ _ h_) (fun g_ => ⟨_, wrap64 (x11116 + 1), g_, rfl, HS11286, (by omega), HJ11276, HJ11277, HJ11278, HJ11279, HJ11280, HJ11281, HJ11282, H⟩) rfl
          rw [if_neg c11135] at H
          (try rw [(decide_eq_false c11135)])
          refine wp_cond_false rfl ?_
          refine wp_exit ?_
          (try simp only [ls0, ls1])
          refine hK10661 _ _ ?_
          (try clear hK10661 K10661)
          refine wl_region ?_
          refine mv_ rfl ?_
          refine st (.int .i64 (wrap64 (x10641 + 1))) rfl rfl (xr_bin _ _ _ rfl rfl rfl (B.add_i64 _ _)) ?_
          refine as_ rfl ?_
          refine wl_end ?_
          (try simp only [ls0, ls1])
          exact jmpL (fun a_ h_ => ih10654 k11132 (by omega) a_ _ h_) (fun g_ => ⟨_, wrap64 (x10641 + 1), g_, rfl, HS11127, (by omega), HJ11117, HJ11118, HJ11119, HJ11120, HJ11121, HJ11122, HJ11123, H⟩) rfl
       rw [if_neg c10660] at H
       (try rw [(decide_eq_false c10660)])
       refine wp_cond_false rfl ?_
       refine wp_exit ?_
       (try simp only [ls0, ls1])
       refine hK9235 _ _ ?_
       (try clear hK9235 K9235)
       refine wp_seq_k fun K11353 hK11353 => ?_
       refine wl_region ?_
       refine st (.agg #[.slice A0_0 l0_0.length c0_0, .slice A0_1 l0_1.length c0_1, .slice A7748 x7747.length cp7750, .slice A7754 x7753.length cp7756]) rfl rfl (xr_load _ _ rfl rfl (load_agg (cs := [.slice A0_0 l0_0.length c0_0, .slice A0_1 l0_1.length c0_1, .slice A7748 x7747.length cp7750, .slice A7754 x7753.length cp7756]) Tryd.underlying41 rfl (by kernel_rfl) (bx_cells (HJ10648).2 0 rfl))) ?_
       refine bx_store (C := C10649) (z := 12) (g := g5685) (j := 0) (tb := 41) (u := .agg #[.slice A0_0 l0_0.length c0_0, .slice A0_1 l0_1.length c0_1, .slice A7748 x7747.length cp7750, .slice A7754 x7753.length cp7756]) (seg := [.slice A0_0 l0_0.length c0_0, .slice A0_1 l0_1.length c0_1, .slice A7748 x7747.length cp7750, .slice A7754 x7753.length cp7756]) (xs := [.slice none 0 0, .slice none 0 0, .slice none 0 0, .slice none 0 0]) rfl rfl rfl rfl rfl rfl (by first | kernel_rfl | rfl) (by simp [Value.oneCell']) HJ10645 (by simp only [List.length_cons, List.length_nil]; omega) rfl ?_
       intro w11354 HX11355 hs11356
       replace HJ10644 := HJ10644.thru hs11356 rfl
       replace HJ10642 := HJ10642.thru hs11356 rfl
       replace HJ10643 := HJ10643.thru hs11356 rfl
       replace HJ10646 := HJ10646.thru hs11356 rfl
       replace HJ10647 := HJ10647.thru hs11356 rfl
       replace HJ10648 := HJ10648.thru hs11356 rfl
       replace HS10652 := HS10652.trans hs11356 hc rfl
       (try simp only [ls0, ls1])
       refine st (.int .i64 0) rfl rfl (xr_assign _ rfl rfl) ?_
       refine st (.int .i64 0) rfl rfl (xr_assign _ rfl rfl) ?_
       refine st (.int .i64 0) rfl rfl (xr_assign _ rfl rfl) ?_
       refine wl_end ?_
       (try simp only [ls0, ls1])
       refine hK11353 _ _ ?_
       (try clear hK11353 K11353)
       refine wp_ret ?_
       (try simp only [Exit.inBlock, Exit.then, Exit.noGoto])
       (try simp only [ls0, ls1])
       replace HJ10644 := Bx.recol (a := 14) (b := 7) HJ10644 (by decide)
       replace HJ10642 := Ft.recol (a := 14) (b := 7) HJ10642 (.inl rfl)
       replace HJ10643 := Ft.recol (a := 14) (b := 7) HJ10643 (.inl rfl)
       replace HX11355 := Bx.recol (a := 14) (b := 7) HX11355 (by decide)
       replace HJ10646 := Own.recolor (b := 7) HJ10646 (by decide)
       replace HJ10647 := Own.recol (a := 14) (b := 7) HJ10647 (by decide) (by decide)
       replace HJ10648 := Bx.recol (a := 14) (b := 7) HJ10648 (by decide)
       replace HS10652 := Step.recol (a := 14) (b := 7) HS10652 hc (by decide)
       replace HJ10644 := Bx.recol (a := 15) (b := 8) HJ10644 (by decide)
       replace HJ10642 := Ft.recol (a := 15) (b := 8) HJ10642 (.inl rfl)
       replace HJ10643 := Ft.recol (a := 15) (b := 8) HJ10643 (.inl rfl)
       replace HX11355 := Bx.recol (a := 15) (b := 8) HX11355 (by decide)
       replace HJ10646 := Own.recol (a := 15) (b := 8) HJ10646 (by decide) (by decide)
       replace HJ10647 := Own.recolor (b := 8) HJ10647 (by decide)
       replace HJ10648 := Bx.recol (a := 15) (b := 8) HJ10648 (by decide)
       replace HS10652 := Step.recol (a := 15) (b := 8) HS10652 hc (by decide)
       simp only [Option.some.injEq, Prod.mk.injEq] at H
       obtain ⟨rfl, rfl, rfl, rfl, rfl, rfl, rfl⟩ := H
       refine bodyPost_ret (res_cttt rfl rfl (load_of (load_agg (cs := [.slice A0_0 l0_0.length c0_0, .slice A0_1 l0_1.length c0_1, .slice A7748 x7747.length cp7750, .slice A7754 x7753.length cp7756]) Tryd.underlying41 rfl (by kernel_rfl) (bx_cells (HX11355).2 0 rfl)))) rfl ?_
       exact ⟨_, A0_0, c0_0, A0_1, c0_1, A7748, cp7750, A7754, cp7756, rfl, HS10652, HJ10642, HCP0_0, HJ10643, HCP0_1, HJ10646, HC7751, HJ10647, HC7757⟩

/-! ### lattice_Lattice_Meet: function 23 -/
def lattice_Lattice_Meet.f (m0_0 : Option S81) (a0_1 : Int) (a0_2 : Int) (a0_3 : Int) (a0_4 : List Int) (a0_5 : List Int) (a0_6 : Int) (a1 : Int) (a2 : Int) : Option (Int × Int) := (some (wrap64 (a0_6 + 1) : Int)).bind fun y40 => ((lattice_Lattice_in.f (some (⟨m0_0, (⟨(⟨a0_1⟩ : S92), (⟨(⟨a0_2, a0_3⟩ : S94)⟩ : S96)⟩ : S98), a0_4, a0_5, (⟨y40⟩ : S105)⟩ : S107) : Option S107) a1 a2).bind fun t48 => (if t48 = true then (if 0 ≤ a1 then (if a1 < 64 then (if 0 ≤ a2 then (if a2 < 64 then (some (wrap64 (List.getD a0_5 ((a1 : Int).toNat * 64 + (a2 : Int).toNat) 0), y40)) else (none)) else (none)) else (none)) else (none)) else (some ((-1), y40))))
set_option maxHeartbeats 2000000 in
set_option maxRecDepth 100000 in
theorem lattice_Lattice_Meet.calls (g0 : Nat) (v0_0 : Value) (m0_0 : Option S81) (a0_1 : Int) (a0_2 : Int) (a0_3 : Int) (a0_4 : List Int) (a0_5 : List Int) (a0_6 : Int) (a1 : Int) (a2 : Int) (r1 : Int) (r2 : Int) (c : Nat → Nat) (w : World) (hc : ∀ k, c k < 10) (HP0 : Bx c 1 w g0 107 ([v0_0, .int .u32 a0_1, .int .i32 a0_2, .int .u32 a0_3] ++ (List.map (Value.int .i8) a0_4 ++ (List.map (Value.int .i8) a0_5 ++ ([.int .i64 a0_6]))))) (HP0_0 : Ft c [0] w (fun w_ => (Kd.ptr 81 k81).K w_ m0_0 [v0_0])) (HL0_4 : a0_4.length = 4096) (HL0_5 : a0_5.length = 4096) (H : lattice_Lattice_Meet.f m0_0 a0_1 a0_2 a0_3 a0_4 a0_5 a0_6 a1 a2 = some (r1, r2)) :
    Calls Tryd.prog 23 #[.pointer (some ⟨g0, 0, none⟩), .int .i64 a1, .int .i64 a2] w fun e w' => ∃ (c' : Nat → Nat) , e = .returned (.int .i64 r1) ∧ Step c w c' w' [1] ∧ Bx c' 1 w' g0 107 ([v0_0, .int .u32 a0_1, .int .i32 a0_2, .int .u32 a0_3] ++ (List.map (Value.int .i8) a0_4 ++ (List.map (Value.int .i8) a0_5 ++ ([.int .i64 r2])))) := by
 unfold lattice_Lattice_Meet.f at H
 have HS := Step.refl c w [1]
 go_enter Tryd.func23, Tryd.ntmps23
 refine wp_seq_k fun K31 hK31 => ?_
 refine wl_region ?_
 refine st (.int .i64 0) rfl rfl (xr_assign _ rfl rfl) ?_
 refine wl_end ?_
 (try simp only [ls0, ls1])
 refine hK31 _ _ ?_
 (try clear hK31 K31)
 refine wp_seq_k fun K32 hK32 => ?_
 refine wp_seq_k fun K39 hK39 => ?_
 refine wl_region ?_
 refine mv_ rfl ?_
 refine st (.bool true) rfl rfl (xr_bin (.pointer (some ⟨g0, 0, none⟩)) (.pointer none) (.bool true) rfl rfl rfl (B.neq_pn ⟨_, Tryd.underlying36⟩ ⟨g0, 0, none⟩)) ?_
 refine wl_end ?_
 (try simp only [ls0, ls1])
 refine hK39 _ _ ?_
 (try clear hK39 K39)
 refine wp_cond_true rfl ?_
 refine wl_region ?_
 refine mv_ rfl ?_
 refine st (.pointer (some ⟨g0, 0, none⟩)) rfl rfl (xr_nilCheck _ rfl rfl) ?_
 refine st (.pointer (some ⟨g0, 8196, none⟩)) rfl rfl (xr_fieldAddr _ _ rfl rfl (bx_field2 Tryd.underlying107 rfl rfl (by kernel_rfl))) ?_
 obtain ⟨y40, A41, H⟩ := bnd H
 refine st_call #[.pointer (some ⟨g0, 8196, none⟩), .int .i64 1] rfl rfl Tryd.func63 (by kernel_rfl) rfl rfl (mp_ rfl) ?_
 refine atomic_add (C := c) (pre := [v0_0, .int .u32 a0_1, .int .i32 a0_2, .int .u32 a0_3] ++ (List.map (Value.int .i8) a0_4 ++ (List.map (Value.int .i8) a0_5))) (post := []) (old := a0_6) (y := 1) HP0 (by first | (simp only [List.append_assoc, List.cons_append, List.nil_append, List.append_nil]; done) | rfl) (by simp [HL0_4, HL0_5]) (r := y40) (Option.some.inj A41) (xs' := [v0_0, .int .u32 a0_1, .int .i32 a0_2, .int .u32 a0_3] ++ (List.map (Value.int .i8) a0_4 ++ (List.map (Value.int .i8) a0_5 ++ ([.int .i64 y40])))) (by first | (simp only [List.append_assoc, List.cons_append, List.nil_append, List.append_nil]; done) | rfl) ?_
 intro w42 HX43 hs44
 replace HP0_0 := HP0_0.thru hs44 rfl
 replace HS := HS.trans hs44 hc rfl
 (try simp only [ls0, ls1])
 refine wl_end ?_
 (try simp only [ls0, ls1])
 refine hK32 _ _ ?_
 (try clear hK32 K32)
 refine wp_seq_k fun K45 hK45 => ?_
 refine wp_seq_k fun K46 hK46 => ?_
 refine wl_region ?_
 refine mv_ rfl ?_
 refine mv_ rfl ?_
 refine mv_ rfl ?_
 have HP47 : Ft c [0, 1] w42 (fun w_ => (Kd.ptr 107 k107).K w_ (some (⟨m0_0, (⟨(⟨a0_1⟩ : S92), (⟨(⟨a0_2, a0_3⟩ : S94)⟩ : S96)⟩ : S98), a0_4, a0_5, (⟨y40⟩ : S105)⟩ : S107)) [.pointer (some ⟨g0, 0, none⟩)]) := ptr_mk (Ft.more (HX43.ft) rfl) (k107_mkF _ _ (⟨m0_0, (⟨(⟨a0_1⟩ : S92), (⟨(⟨a0_2, a0_3⟩ : S94)⟩ : S96)⟩ : S98), a0_4, a0_5, (⟨y40⟩ : S105)⟩ : S107) (Ft.more HP0_0 rfl) HL0_4 HL0_5)
 obtain ⟨t48, A49, H⟩ := bnd H
 refine st_call #[.pointer (some ⟨g0, 0, none⟩), .int .i64 a1, .int .i64 a2] rfl rfl Tryd.func62 (by kernel_rfl) rfl rfl (mp_ rfl) ?_
 refine (lattice_Lattice_in.calls (.pointer (some ⟨g0, 0, none⟩)) (some (⟨m0_0, (⟨(⟨a0_1⟩ : S92), (⟨(⟨a0_2, a0_3⟩ : S94)⟩ : S96)⟩ : S98), a0_4, a0_5, (⟨y40⟩ : S105)⟩ : S107) : Option S107) a1 a2 t48  (fun z_ => pal [(0, 0), (1, 0)] (c z_)) w42 (fun _ => pal_lt rfl _) (Ft.arg HP47 rfl) A49).mono ?_
 rintro _ w51 ⟨C52, rfl, hs53⟩
 refine ⟨_, rfl, ?_⟩
 replace hs53 := Step.lift (U := [(0, 0)]) hs53 [] rfl rfl
 generalize up c C52 w42.heap.size [(0, 0)] = C52_ at hs53
 replace HX43 := HX43.thru hs53 rfl
 replace HP0_0 := HP0_0.thru hs53 rfl
 replace HS := HS.trans hs53 hc rfl
 (try simp only [ls0, ls1])
 refine st (.bool (!t48)) rfl rfl (xr_un (.bool t48) _ rfl rfl (by first | rfl | (go_simp; done) | (go_simp; rfl) | (go_simp; exact i64_w _) | (go_simp; exact i32_w _))) ?_
 refine wl_end ?_
 (try simp only [ls0, ls1])
 refine hK46 _ _ ?_
 (try clear hK46 K46)
 by_cases c54 : t48 = true
 ·rw [if_pos c54] at H
  (try rw [c54])
  (try simp only [Bool.not_true, Bool.not_false])
  refine wp_cond_false rfl ?_
  refine wp_skip ?_
  (try simp only [ls0, ls1])
  refine hK45 _ _ ?_
  (try clear hK45 K45)
  refine wp_seq_k fun K55 hK55 => ?_
  refine wl_region ?_
  refine mv_ rfl ?_
  refine mv_ rfl ?_
  refine mv_ rfl ?_
  refine st (.pointer (some ⟨g0, 0, none⟩)) rfl rfl (xr_nilCheck _ rfl rfl) ?_
  simp only [ls0, ls1]
  refine st (.pointer (some ⟨g0, 4100, none⟩)) rfl rfl (xr_fieldAddr _ _ rfl rfl (bx_field2 Tryd.underlying107 rfl rfl (by kernel_rfl))) ?_
  obtain ⟨c56, H⟩ := if_some H
  obtain ⟨c57, H⟩ := if_some H
  refine st (.pointer (some ⟨g0, 4100 + ((a1 : Int).toNat * 64), none⟩)) rfl rfl (xr_indexAddr _ _ _ rfl rfl rfl (arr_index (sz := 64) Tryd.underlying102 (by kernel_rfl) (by first | assumption | decide | omega) (by first | assumption | decide | omega) (by omega))) ?_
  obtain ⟨c58, H⟩ := if_some H
  obtain ⟨c59, H⟩ := if_some H
  refine st (.pointer (some ⟨g0, 4100 + ((a1 : Int).toNat * 64 + (a2 : Int).toNat), none⟩)) rfl rfl (xr_indexAddr _ _ _ rfl rfl rfl (arr_index (sz := 1) Tryd.underlying100 (by kernel_rfl) (by first | assumption | decide | omega) (by first | assumption | decide | omega) (by omega))) ?_
  refine st (.int .i8 (List.getD a0_5 ((a1 : Int).toNat * 64 + (a2 : Int).toNat) 0)) rfl rfl (xr_load _ _ rfl rfl (arr_load (o := 4100) (N := 4096) (pre := [v0_0, .int .u32 a0_1, .int .i32 a0_2, .int .u32 a0_3] ++ (List.map (Value.int .i8) a0_4)) (post := [.int .i64 y40]) (enc := (Value.int .i8)) (l := a0_5) (i := (a1 : Int).toNat * 64 + (a2 : Int).toNat) 0 Tryd.underlying99 rfl (HX43).2 (by first | (simp only [List.append_assoc, List.cons_append, List.nil_append, List.append_nil]; done) | rfl) (by simp [HL0_4]) HL0_5 (by omega) (by omega))) ?_
  simp only [ls0, ls1]
  refine st (.int .i64 (wrap64 (List.getD a0_5 ((a1 : Int).toNat * 64 + (a2 : Int).toNat) 0))) rfl rfl (xr_conv (.int .i8 (List.getD a0_5 ((a1 : Int).toNat * 64 + (a2 : Int).toNat) 0)) _ rfl rfl (by first | rfl | (go_simp; done) | (go_simp; rfl) | (go_simp; exact i64_w _) | (go_simp; exact i32_w _))) ?_
  refine as_ rfl ?_
  refine wl_end ?_
  (try simp only [ls0, ls1])
  refine hK55 _ _ ?_
  (try clear hK55 K55)
  refine wp_ret ?_
  (try simp only [Exit.inBlock, Exit.then, Exit.noGoto])
  (try simp only [ls0, ls1])
  simp only [Option.some.injEq, Prod.mk.injEq] at H
  obtain ⟨rfl, rfl⟩ := H
  refine bodyPost_ret (results_tmp rfl _ _ _) rfl ?_
  exact ⟨_, rfl, HS, HX43⟩
 rw [if_neg c54] at H
 (try rw [(Bool.eq_false_iff.mpr c54)])
 (try simp only [Bool.not_true, Bool.not_false])
 refine wp_cond_true rfl ?_
 refine wp_seq_k fun K60 hK60 => ?_
 refine wl_region ?_
 refine st (.int .i64 (-1)) rfl rfl (xr_assign _ rfl rfl) ?_
 refine wl_end ?_
 (try simp only [ls0, ls1])
 refine hK60 _ _ ?_
 (try clear hK60 K60)
 refine wp_ret ?_
 (try simp only [Exit.inBlock, Exit.then, Exit.noGoto])
 (try simp only [ls0, ls1])
 simp only [Option.some.injEq, Prod.mk.injEq] at H
 obtain ⟨rfl, rfl⟩ := H
 refine bodyPost_ret (results_tmp rfl _ _ _) rfl ?_
 exact ⟨_, rfl, HS, HX43⟩

end Go.Proofs.YtpfepkkpbampkaaDoor.PLnw
