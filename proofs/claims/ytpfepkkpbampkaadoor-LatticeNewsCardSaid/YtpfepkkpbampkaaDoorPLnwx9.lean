-- By cprint.py, a program of this work. Lean checks it.
import Derived.Test.YtpfepkkpbampkaaDoorPLnwx0
import Derived.Test.YtpfepkkpbampkaaDoorPLnwx1
import Derived.Test.YtpfepkkpbampkaaDoorPLnwx2
import Derived.Test.YtpfepkkpbampkaaDoorPLnwx3
import Derived.Test.YtpfepkkpbampkaaDoorPLnwx4
import Derived.Test.YtpfepkkpbampkaaDoorPLnwx5
import Derived.Test.YtpfepkkpbampkaaDoorPLnwx7
import Derived.Test.YtpfepkkpbampkaaDoorPLnwx8
namespace Go.Proofs.YtpfepkkpbampkaaDoor.PLnw
open Go.RowKit Go.Proofs.YtpfepkkpbampkaaDoorW.PrintWords Go.Proofs.YtpfepkkpbampkaaDoorW.PrintLast Go.Proofs.YtpfepkkpbampkaaDoorW.PrintMore
set_option linter.unusedVariables false
set_option linter.unusedSimpArgs false

/-! ### blazonlaw14_LatticeNews: function 5 -/
mutual
def blazonlaw14_LatticeNews.l0 : Nat → Int → Int → S107 → (List ByteArray) → (List ByteArray) → (List (List Bool)) → (List (List Int)) → (List (List Int)) → Int → Int → Int → Option (Bool)
  | 0, _, _, _, _, _, _, _, _, _, _, _ => none
  | k + 1, a1, a2, o3889, t2676, t2769, t2770, t2771, t2772, x4569, x4803, x4813 => if x4803 < (t2676.length : Int) then (if 0 ≤ x4569 then (if x4569 < (t2771.length : Int) then (if 0 ≤ x4803 then (if x4803 < ((rd_L21 t2771 x4569).length : Int) then ((lattice_Lattice_Join.f o3889.f0 o3889.f1.f0.f0 o3889.f1.f1.f0.f0 o3889.f1.f1.f0.f1 o3889.f2 o3889.f3 x4813 x4569 x4803).bind fun bt4889 => (if bt4889.1 = (rd (rd_L21 t2771 x4569) x4803) then (if x4569 < (t2772.length : Int) then (if x4803 < ((rd_L21 t2772 x4569).length : Int) then ((lattice_Lattice_Meet.f o3889.f0 o3889.f1.f0.f0 o3889.f1.f1.f0.f0 o3889.f1.f1.f0.f1 o3889.f2 o3889.f3 bt4889.2 x4569 x4803).bind fun bt4906 => (if bt4906.1 = (rd (rd_L21 t2772 x4569) x4803) then (blazonlaw14_LatticeNews.l0 k a1 a2 o3889 t2676 t2769 t2770 t2771 t2772 x4569 (wrap64 (x4803 + 1)) bt4906.2) else (some false))) else (none)) else (none)) else (some false))) else (none)) else (none)) else (none)) else (none)) else (blazonlaw14_LatticeNews.l1 k a1 a2 o3889 t2676 t2769 t2770 t2771 t2772 (wrap64 (x4569 + 1)) x4813)
def blazonlaw14_LatticeNews.j0 : Nat → S107 → (List ByteArray) → (List (List Bool)) → (List (List Int)) → (List (List Int)) → Int → Int → Option (Bool)
  | 0, _, _, _, _, _, _, _ => none
  | k + 1, o3889, t2769, t2770, t2771, t2772, x5142, x5158 => (lattice_Lattice_Asked.f (some (⟨o3889.f0, (⟨(⟨o3889.f1.f0.f0⟩ : S92), (⟨(⟨o3889.f1.f1.f0.f0, o3889.f1.f1.f0.f1⟩ : S94)⟩ : S96)⟩ : S98), o3889.f2, o3889.f3, (⟨x5142⟩ : S105)⟩ : S107) : Option S107)).bind fun t5176 => (if t5176 = x5158 then ((lattice_Lattice_Bottom.f k (some (⟨o3889.f0, (⟨(⟨o3889.f1.f0.f0⟩ : S92), (⟨(⟨o3889.f1.f1.f0.f0, o3889.f1.f1.f0.f1⟩ : S94)⟩ : S96)⟩ : S98), o3889.f2, o3889.f3, (⟨x5142⟩ : S105)⟩ : S107) : Option S107)).bind fun t5184 => ((blazonref14_Lattice_Bottom.f k t2769 t2770 t2771 t2772).bind fun t5190 => (if t5184 = t5190 then ((lattice_Lattice_Top.f k (some (⟨o3889.f0, (⟨(⟨o3889.f1.f0.f0⟩ : S92), (⟨(⟨o3889.f1.f1.f0.f0, o3889.f1.f1.f0.f1⟩ : S94)⟩ : S96)⟩ : S98), o3889.f2, o3889.f3, (⟨x5142⟩ : S105)⟩ : S107) : Option S107)).bind fun t5198 => ((blazonref14_Lattice_Top.f k t2769 t2770 t2771 t2772).bind fun t5204 => (if t5198 = t5204 then ((blazonlaw14_awake.f k).bind fun t5211 => (some t5211)) else (some false)))) else (some false)))) else (some false))
def blazonlaw14_LatticeNews.j1 : Nat → S107 → (List ByteArray) → (List ByteArray) → (List (List Bool)) → (List (List Int)) → (List (List Int)) → Bool → Bool → Int → Option (Bool)
  | 0, _, _, _, _, _, _, _, _, _ => none
  | k + 1, o3889, t2676, t2769, t2770, t2771, t2772, x5131, x5132, x5142 => if x5132 = true then (some false) else (if x5131 = true then (blazonlaw14_LatticeNews.j0 k o3889 t2769 t2770 t2771 t2772 x5142 (wrap64 ((wrap64 (2 * (t2676.length : Int))) * (t2676.length : Int)))) else (blazonlaw14_LatticeNews.j0 k o3889 t2769 t2770 t2771 t2772 x5142 (wrap64 ((wrap64 ((wrap64 (2 * (t2676.length : Int))) * (t2676.length : Int))) + 2))))
def blazonlaw14_LatticeNews.j2 : Nat → Int → Int → S107 → (List ByteArray) → (List ByteArray) → (List (List Bool)) → (List (List Int)) → (List (List Int)) → Int → Bool → Option (Bool)
  | 0, _, _, _, _, _, _, _, _, _, _ => none
  | k + 1, a1, a2, o3889, t2676, t2769, t2770, t2771, t2772, x4579, x4925 => if x4925 = true then ((lattice_Lattice_Order.f (some (⟨o3889.f0, (⟨(⟨o3889.f1.f0.f0⟩ : S92), (⟨(⟨o3889.f1.f1.f0.f0, o3889.f1.f1.f0.f1⟩ : S94)⟩ : S96)⟩ : S98), o3889.f2, o3889.f3, (⟨x4579⟩ : S105)⟩ : S107) : Option S107)).bind fun t5223 => ((order_Order_Len.f t5223).bind fun t5231 => (blazonlaw14_LatticeNews.j1 k o3889 t2676 t2769 t2770 t2771 t2772 true (!decide (t5231 = (t2676.length : Int))) x4579))) else ((lattice_Lattice_Join.f o3889.f0 o3889.f1.f0.f0 o3889.f1.f1.f0.f0 o3889.f1.f1.f0.f1 o3889.f2 o3889.f3 x4579 a1 a2).bind fun bt5237 => (if bt5237.1 = (-1) then ((lattice_Lattice_Meet.f o3889.f0 o3889.f1.f0.f0 o3889.f1.f1.f0.f0 o3889.f1.f1.f0.f1 o3889.f2 o3889.f3 bt5237.2 a1 a2).bind fun bt5246 => (if bt5246.1 = (-1) then ((lattice_Lattice_Order.f (some (⟨o3889.f0, (⟨(⟨o3889.f1.f0.f0⟩ : S92), (⟨(⟨o3889.f1.f1.f0.f0, o3889.f1.f1.f0.f1⟩ : S94)⟩ : S96)⟩ : S98), o3889.f2, o3889.f3, (⟨bt5246.2⟩ : S105)⟩ : S107) : Option S107)).bind fun t5258 => ((order_Order_Len.f t5258).bind fun t5266 => (blazonlaw14_LatticeNews.j1 k o3889 t2676 t2769 t2770 t2771 t2772 false (!decide (t5266 = (t2676.length : Int))) bt5246.2))) else (blazonlaw14_LatticeNews.j1 k o3889 t2676 t2769 t2770 t2771 t2772 false true bt5246.2))) else (blazonlaw14_LatticeNews.j1 k o3889 t2676 t2769 t2770 t2771 t2772 false true bt5237.2)))
def blazonlaw14_LatticeNews.l1 : Nat → Int → Int → S107 → (List ByteArray) → (List ByteArray) → (List (List Bool)) → (List (List Int)) → (List (List Int)) → Int → Int → Option (Bool)
  | 0, _, _, _, _, _, _, _, _, _, _ => none
  | k + 1, a1, a2, o3889, t2676, t2769, t2770, t2771, t2772, x4569, x4579 => if x4569 < (t2676.length : Int) then (blazonlaw14_LatticeNews.l0 k a1 a2 o3889 t2676 t2769 t2770 t2771 t2772 x4569 0 x4579) else (if a1 ≥ 0 then (if a2 ≥ 0 then (if a1 < (t2676.length : Int) then (blazonlaw14_LatticeNews.j2 k a1 a2 o3889 t2676 t2769 t2770 t2771 t2772 x4579 (decide (a2 < (t2676.length : Int)))) else (blazonlaw14_LatticeNews.j2 k a1 a2 o3889 t2676 t2769 t2770 t2771 t2772 x4579 false)) else (blazonlaw14_LatticeNews.j2 k a1 a2 o3889 t2676 t2769 t2770 t2771 t2772 x4579 false)) else (blazonlaw14_LatticeNews.j2 k a1 a2 o3889 t2676 t2769 t2770 t2771 t2772 x4579 false))
def blazonlaw14_LatticeNews.j3 : Nat → Int → Int → (List ByteArray) → (Option S107) → Int → (List ByteArray) → (List (List Bool)) → (List (List Int)) → (List (List Int)) → Bool → Option (Bool)
  | 0, _, _, _, _, _, _, _, _, _, _ => none
  | k + 1, a1, a2, t2676, t2756, t2759, t2769, t2770, t2771, t2772, x2839 => if x2839 = true then (some false) else (if t2759 = 0 then (onOpt t2756 (none) (fun o3889 => (blazonlaw14_LatticeNews.l1 k a1 a2 o3889 t2676 t2769 t2770 t2771 t2772 0 o3889.f4.f0))) else (onOpt t2756 ((blazonlaw14_awake.f k).bind fun t5279 => (some t5279)) (fun o5278 => (some false))))
def blazonlaw14_LatticeNews.j4 : Nat → Int → Int → Int → (List ByteArray) → (List (List Bool)) → Int → (Option S81) → Bool → Option (Bool)
  | 0, _, _, _, _, _, _, _, _ => none
  | k + 1, a1, a2, t2667, t2676, t2677, t2679, x2735, x2738 => if x2738 = true then (if t2667 = t2679 then ((blazonlaw14_awake.f k).bind fun t2749 => (some t2749)) else (some false)) else ((lattice_New.f k x2735).bind fun bt2756 => ((blazonref14_New.f k t2676 t2677).bind fun bt2769 => (if bt2756.2.2.2 = bt2769.2.2.2.2.2.2 then (if bt2756.2.1 = bt2769.2.2.2.2.1 then (blazonlaw14_LatticeNews.j3 k a1 a2 t2676 bt2756.1 bt2756.2.2.2 bt2769.1 bt2769.2.1 bt2769.2.2.1 bt2769.2.2.2.1 (!decide (bt2756.2.2.1 = bt2769.2.2.2.2.2.1))) else (blazonlaw14_LatticeNews.j3 k a1 a2 t2676 bt2756.1 bt2756.2.2.2 bt2769.1 bt2769.2.1 bt2769.2.2.1 bt2769.2.2.2.1 true)) else (blazonlaw14_LatticeNews.j3 k a1 a2 t2676 bt2756.1 bt2756.2.2.2 bt2769.1 bt2769.2.1 bt2769.2.2.1 bt2769.2.2.2.1 true))))
end
def blazonlaw14_LatticeNews.f (k : Nat) (l0 : List (S53)) (a1 : Int) (a2 : Int) : Option (Bool) := (blazonref13_Great.f k l0 12).bind fun t2650 => (if t2650 = true then ((blazonlaw14_awake.f k).bind fun t2658 => (some t2658)) else ((order_New.f k l0).bind fun bt2665 => ((blazonref13_New.f k l0).bind fun bt2676 => (if bt2665.2.2 = 0 then (blazonlaw14_LatticeNews.j4 k a1 a2 bt2665.2.2 bt2676.1 bt2676.2.1 bt2676.2.2.2 bt2665.1 (!decide (bt2676.2.2.2 = 0))) else (blazonlaw14_LatticeNews.j4 k a1 a2 bt2665.2.2 bt2676.1 bt2676.2.1 bt2676.2.2.2 bt2665.1 true)))))

set_option maxHeartbeats 2000000 in
set_option maxRecDepth 100000 in
theorem blazonlaw14_LatticeNews.calls (k : Nat) (A0 : Option Addr) (c0 : Nat) (l0 : List (S53)) (a1 : Int) (a2 : Int) (r : Bool) (c : Nat → Nat) (w : World) (hc : ∀ k, c k < 10) (HG : Ft c [0] w GTab) (HP0 : Ft c [0] w (fun w_ => k53.C w_ A0 l0.length l0)) (HCP0 : l0.length ≤ c0) (H : blazonlaw14_LatticeNews.f k l0 a1 a2 = some r) :
    Calls Tryd.prog 5 #[.slice A0 l0.length c0, .int .i64 a1, .int .i64 a2] w fun e w' => ∃ (c' : Nat → Nat) , e = .returned (.bool r) ∧ Step c w c' w' [] := by
 unfold blazonlaw14_LatticeNews.f at H
 have HS := Step.refl c w []
 go_enter Tryd.func5, Tryd.ntmps5
 refine wp_seq_k fun K2647 hK2647 => ?_
 refine wl_region ?_
 refine st (.bool false) rfl rfl (xr_assign _ rfl rfl) ?_
 refine wl_end ?_
 (try simp only [ls0, ls1])
 refine hK2647 _ _ ?_
 (try clear hK2647 K2647)
 refine wp_seq_k fun K2648 hK2648 => ?_
 refine wp_seq_k fun K2649 hK2649 => ?_
 refine wl_region ?_
 refine mv_ rfl ?_
 obtain ⟨t2650, A2651, H⟩ := bnd H
 refine st_call #[.slice A0 l0.length c0, .int .i64 12] rfl rfl Tryd.func13 (by kernel_rfl) rfl rfl (mp_ rfl) ?_
 refine (blazonref13_Great.calls k A0 c0 l0 12 t2650  (fun z_ => pal [(0, 0)] (c z_)) w (fun _ => pal_lt rfl _) (Ft.arg HP0 rfl) HCP0 A2651).mono ?_
 rintro _ w2653 ⟨C2654, rfl, hs2655⟩
 refine ⟨_, rfl, ?_⟩
 replace hs2655 := Step.lift (U := [(0, 0)]) hs2655 [] rfl rfl
 generalize up c C2654 w.heap.size [(0, 0)] = C2654_ at hs2655
 replace HG := HG.thru hs2655 rfl
 replace HP0 := HP0.thru hs2655 rfl
 replace HS := HS.trans hs2655 hc rfl
 (try simp only [ls0, ls1])
 refine wl_end ?_
 (try simp only [ls0, ls1])
 refine hK2649 _ _ ?_
 (try clear hK2649 K2649)
 by_cases c2656 : t2650 = true
 ·rw [if_pos c2656] at H
  (try rw [c2656])
  refine wp_cond_true rfl ?_
  refine wp_seq_k fun K2657 hK2657 => ?_
  refine wl_region ?_
  obtain ⟨t2658, A2659, H⟩ := bnd H
  refine st_call #[] rfl rfl Tryd.func14 (by kernel_rfl) rfl rfl (mp_ rfl) ?_
  refine (blazonlaw14_awake.calls k t2658  (fun z_ => pal [(0, 0)] (C2654_ z_)) w2653 (fun _ => pal_lt rfl _) (Ft.arg HG rfl) A2659).mono ?_
  rintro _ w2661 ⟨C2662, rfl, hs2663⟩
  refine ⟨_, rfl, ?_⟩
  replace hs2663 := Step.lift (U := [(0, 0)]) hs2663 [] rfl rfl
  generalize up C2654_ C2662 w2653.heap.size [(0, 0)] = C2662_ at hs2663
  replace HG := HG.thru hs2663 rfl
  replace HS := HS.trans hs2663 hc rfl
  (try simp only [ls0, ls1])
  refine as_ rfl ?_
  refine wl_end ?_
  (try simp only [ls0, ls1])
  refine hK2657 _ _ ?_
  (try clear hK2657 K2657)
  refine wp_ret ?_
  (try simp only [Exit.inBlock, Exit.then, Exit.noGoto])
  (try simp only [ls0, ls1])
  obtain rfl := Option.some.inj H
  refine bodyPost_ret (results_tmp rfl _ _ _) rfl ?_
  exact ⟨_, rfl, HS⟩
 rw [if_neg c2656] at H
 (try rw [(Bool.eq_false_iff.mpr c2656)])
 refine wp_cond_false rfl ?_
 refine wp_skip ?_
 (try simp only [ls0, ls1])
 refine hK2648 _ _ ?_
 (try clear hK2648 K2648)
 refine wp_seq_k fun K2664 hK2664 => ?_
 refine wl_region ?_
 refine mv_ rfl ?_
 obtain ⟨⟨t2665, t2666, t2667⟩, A2668, H⟩ := bnd H
 (try dsimp only at H)
 refine st_call #[.slice A0 l0.length c0] rfl rfl Tryd.func15 (by kernel_rfl) rfl rfl (mp_ rfl) ?_
 refine (order_New.calls k A0 c0 l0 t2665 t2666 t2667  (fun z_ => pal [(0, 0)] (C2654_ z_)) w2653 (fun _ => pal_lt rfl _) (Ft.arg HP0 rfl) HCP0 A2668).mono ?_
 rintro _ w2670 ⟨C2671, v2673, rfl, hs2672, HB2674⟩
 refine ⟨_, rfl, ?_⟩
 replace HB2674 := Ft.res (U := [(0, 0)]) HB2674 hs2672 [0] rfl rfl rfl
 replace hs2672 := Step.lift (U := [(0, 0)]) hs2672 [] rfl rfl
 generalize up C2654_ C2671 w2653.heap.size [(0, 0)] = C2671_ at HB2674 hs2672
 replace HG := HG.thru hs2672 rfl
 replace HP0 := HP0.thru hs2672 rfl
 replace HS := HS.trans hs2672 hc rfl
 (try simp only [ls0, ls1])
 refine mv_ rfl ?_
 refine st (v2673) rfl rfl (xr_extract (.tuple #[v2673, .int .i64 t2666, .int .i64 t2667]) _ rfl rfl rfl) ?_
 refine st (.int .i64 t2666) rfl rfl (xr_extract (.tuple #[v2673, .int .i64 t2666, .int .i64 t2667]) _ rfl rfl rfl) ?_
 refine st (.int .i64 t2667) rfl rfl (xr_extract (.tuple #[v2673, .int .i64 t2666, .int .i64 t2667]) _ rfl rfl rfl) ?_
 simp only [ls0, ls1]
 refine as_ rfl ?_
 refine as_ rfl ?_
 refine as_ rfl ?_
 refine wl_end ?_
 (try simp only [ls0, ls1])
 refine hK2664 _ _ ?_
 (try clear hK2664 K2664)
 refine wp_seq_k fun K2675 hK2675 => ?_
 refine wl_region ?_
 refine mv_ rfl ?_
 obtain ⟨⟨t2676, t2677, t2678, t2679⟩, A2680, H⟩ := bnd H
 (try dsimp only at H)
 refine st_call #[.slice A0 l0.length c0] rfl rfl Tryd.func16 (by kernel_rfl) rfl rfl (mp_ rfl) ?_
 refine (blazonref13_New.calls k A0 c0 l0 t2676 t2677 t2678 t2679  (fun z_ => pal [(0, 0)] (C2671_ z_)) w2670 (fun _ => pal_lt rfl _) (Ft.arg HP0 rfl) HCP0 A2680).mono ?_
 rintro _ w2682 ⟨C2683, A2685, cp2686, A2689, cp2690, rfl, hs2684, HO2687, HC2688, HO2691, HC2692⟩
 refine ⟨_, rfl, ?_⟩
 replace HO2687 := Ft.res (U := [(0, 0), (6, 11)]) HO2687 hs2684 [0] rfl rfl rfl
 replace HO2691 := Own.res (U := [(0, 0), (6, 11)]) (j := 11) HO2691 hs2684 (by rfl) (by decide) rfl rfl
 replace hs2684 := Step.lift (U := [(0, 0), (6, 11)]) hs2684 [] rfl rfl
 generalize up C2671_ C2683 w2670.heap.size [(0, 0), (6, 11)] = C2683_ at HO2687 HO2691 hs2684
 replace HG := HG.thru hs2684 rfl
 replace HB2674 := HB2674.thru hs2684 rfl
 replace HS := HS.trans hs2684 hc rfl
 (try simp only [ls0, ls1])
 refine mv_ rfl ?_
 refine st (.agg #[.slice A2685 t2676.length cp2686, .slice A2689 t2677.length cp2690]) rfl rfl (xr_extract (.tuple #[.agg #[.slice A2685 t2676.length cp2686, .slice A2689 t2677.length cp2690], .int .i64 t2678, .int .i64 t2679]) _ rfl rfl rfl) ?_
 refine st (.int .i64 t2678) rfl rfl (xr_extract (.tuple #[.agg #[.slice A2685 t2676.length cp2686, .slice A2689 t2677.length cp2690], .int .i64 t2678, .int .i64 t2679]) _ rfl rfl rfl) ?_
 refine st (.int .i64 t2679) rfl rfl (xr_extract (.tuple #[.agg #[.slice A2685 t2676.length cp2686, .slice A2689 t2677.length cp2690], .int .i64 t2678, .int .i64 t2679]) _ rfl rfl rfl) ?_
 simp only [ls0, ls1]
 refine bx_new (C := C2683_) 33 ([.slice none 0 0, .slice none 0 0]) 12 rfl rfl (by first | (go_simp; done) | (go_simp; rfl)) ?_
 intro g2693 w2694 C2695 HX2696 hs2697
 replace HG := HG.thru hs2697 rfl
 replace HB2674 := HB2674.thru hs2697 rfl
 replace HO2687 := HO2687.thru hs2697 rfl
 replace HO2691 := HO2691.thru hs2697 rfl
 replace HS := HS.trans hs2697 hc rfl
 (try simp only [ls0, ls1])
 refine bx_store (C := C2695) (z := 12) (g := g2693) (j := 0) (tb := 33) (u := .agg #[.slice A2685 t2676.length cp2686, .slice A2689 t2677.length cp2690]) (seg := [.slice A2685 t2676.length cp2686, .slice A2689 t2677.length cp2690]) (xs := [.slice none 0 0, .slice none 0 0]) rfl rfl rfl rfl rfl rfl (by first | kernel_rfl | rfl) (by simp [Value.oneCell']) HX2696 (by simp only [List.length_cons, List.length_nil]; omega) rfl ?_
 intro w2698 HX2699 hs2700
 replace HG := HG.thru hs2700 rfl
 replace HB2674 := HB2674.thru hs2700 rfl
 replace HO2687 := HO2687.thru hs2700 rfl
 replace HO2691 := HO2691.thru hs2700 rfl
 replace HS := HS.trans hs2700 hc rfl
 (try simp only [ls0, ls1])
 refine as_ rfl ?_
 refine as_ rfl ?_
 refine wl_end ?_
 (try simp only [ls0, ls1])
 refine hK2675 _ _ ?_
 (try clear hK2675 K2675)
 refine wp_seq_k fun K2701 hK2701 => ?_
 refine wp_seq_k fun K2729 hK2729 => ?_
 have hj2731 : ∀ (kq2743 : Nat) (C2732 : Nat → Nat) (w2733 : World) (x2738 : Bool) (v2736 : Value) (x2735 : Option S81) (g_ : Nat → Value), Step c w C2732 w2733 [] → kq2743 ≤ k → (Ft C2732 [0] w2733 (fun w_ => (Kd.ptr 81 k81).K w_ x2735 [v2736])) → (Ft C2732 [0] w2733 (fun w_ => Kd.string.C w_ A2685 t2676.length t2676)) → (Own C2732 11 w2733 (Kd.slice 4 Kd.bool) 74 (.slice A2689 t2677.length cp2690) t2677) → (Bx C2732 12 w2733 g2693 33 ([.slice A2685 t2676.length cp2686, .slice A2689 t2677.length cp2690])) → (Ft C2732 [0] w2733 GTab) → blazonlaw14_LatticeNews.j4 kq2743 a1 a2 t2667 t2676 t2677 t2679 x2735 x2738 = some r → K2729 ⟨#[(g_ 0), .int .i64 a1, .int .i64 a2, (g_ 3), (g_ 4), (g_ 5), (g_ 6), v2736, (g_ 8), .int .i64 t2667, .pointer (some ⟨g2693, 0, none⟩), (g_ 11), .int .i64 t2679, (g_ 13), (g_ 14), (g_ 15), (g_ 16), (g_ 17), (g_ 18), (g_ 19), (g_ 20), (g_ 21), (g_ 22), (g_ 23), (g_ 24), (g_ 25), (g_ 26), (g_ 27), (g_ 28), (g_ 29), (g_ 30), (g_ 31), (g_ 32), (g_ 33), (g_ 34), (g_ 35), (g_ 36), (g_ 37), (g_ 38), (g_ 39), (g_ 40), (g_ 41), (g_ 42), (g_ 43), (g_ 44), (g_ 45), .bool x2738, (g_ 47), (g_ 48), (g_ 49), (g_ 50), (g_ 51), (g_ 52), (g_ 53), (g_ 54), (g_ 55), (g_ 56), (g_ 57), (g_ 58), (g_ 59), (g_ 60), (g_ 61), (g_ 62), (g_ 63), (g_ 64), (g_ 65), (g_ 66), (g_ 67), (g_ 68), (g_ 69), (g_ 70), (g_ 71), (g_ 72), (g_ 73), (g_ 74), (g_ 75), (g_ 76), (g_ 77), (g_ 78), (g_ 79), (g_ 80), (g_ 81), (g_ 82), (g_ 83), (g_ 84), (g_ 85), (g_ 86), (g_ 87), (g_ 88), (g_ 89), (g_ 90), (g_ 91), (g_ 92), (g_ 93), (g_ 94), (g_ 95), (g_ 96), (g_ 97), (g_ 98), (g_ 99), (g_ 100), (g_ 101), (g_ 102), (g_ 103), (g_ 104), (g_ 105), (g_ 106), (g_ 107), (g_ 108), (g_ 109), (g_ 110), (g_ 111), (g_ 112), (g_ 113), (g_ 114), (g_ 115), (g_ 116), (g_ 117), (g_ 118), (g_ 119), (g_ 120), (g_ 121), (g_ 122), (g_ 123), (g_ 124), (g_ 125), (g_ 126), (g_ 127), (g_ 128), (g_ 129), (g_ 130), (g_ 131), (g_ 132), (g_ 133), (g_ 134), (g_ 135), (g_ 136), (g_ 137), (g_ 138), (g_ 139), (g_ 140), (g_ 141), (g_ 142), (g_ 143), (g_ 144), (g_ 145), (g_ 146), (g_ 147), (g_ 148), (g_ 149), (g_ 150), (g_ 151), (g_ 152), (g_ 153), (g_ 154), (g_ 155), (g_ 156), (g_ 157), (g_ 158), (g_ 159), (g_ 160), (g_ 161), (g_ 162), (g_ 163), (g_ 164), (g_ 165), (g_ 166), (g_ 167), (g_ 168), (g_ 169), (g_ 170), (g_ 171), (g_ 172), (g_ 173), (g_ 174), (g_ 175), (g_ 176), (g_ 177), (g_ 178), (g_ 179), (g_ 180), (g_ 181), (g_ 182), (g_ 183), (g_ 184), (g_ 185), (g_ 186), (g_ 187), (g_ 188), (g_ 189), (g_ 190), (g_ 191), (g_ 192), (g_ 193), (g_ 194), (g_ 195)], []⟩ w2733 := by
  intro kq2743 C2732 w2733 x2738 v2736 x2735 g_ HS2734 hk2744 HJ2737 HJ2739 HJ2740 HJ2741 HG2742 H
  cases kq2743 with
  | zero => exact absurd H (by simp [blazonlaw14_LatticeNews.j4])
  | succ k2745 =>
   simp only [blazonlaw14_LatticeNews.j4] at H
   refine hK2729 _ _ ?_
   (try clear hK2729)
   by_cases c2746 : x2738 = true
   ·rw [if_pos c2746] at H
    (try rw [c2746])
    refine wp_cond_true rfl ?_
    refine wp_seq_k fun K2747 hK2747 => ?_
    refine wl_region ?_
    refine mv_ rfl ?_
    refine mv_ rfl ?_
    refine st (.bool (decide (t2667 = t2679))) rfl rfl (xr_bin _ _ _ rfl rfl rfl (B.eql_i64 _ _)) ?_
    simp only [ls0, ls1]
    refine mv_ rfl ?_
    by_cases c2748 : t2667 = t2679
    ·rw [if_pos c2748] at H
     (try rw [(decide_eq_true c2748)])
     refine on_guard (guard_on 3 true 50 rfl rfl rfl) ?_
     obtain ⟨t2749, A2750, H⟩ := bnd H
     refine st_call #[] rfl rfl Tryd.func14 (by kernel_rfl) rfl rfl (mp_ rfl) ?_
     refine (blazonlaw14_awake.calls k2745 t2749  (fun z_ => pal [(0, 0)] (C2732 z_)) w2733 (fun _ => pal_lt rfl _) (Ft.arg HG2742 rfl) A2750).mono ?_
     rintro _ w2752 ⟨C2753, rfl, hs2754⟩
     refine ⟨_, rfl, ?_⟩
     replace hs2754 := Step.lift (U := [(0, 0)]) hs2754 [] rfl rfl
     generalize up C2732 C2753 w2733.heap.size [(0, 0)] = C2753_ at hs2754
     replace HJ2741 := HJ2741.thru hs2754 rfl
     replace HJ2739 := HJ2739.thru hs2754 rfl
     replace HJ2740 := HJ2740.thru hs2754 rfl
     replace HG2742 := HG2742.thru hs2754 rfl
     replace HS2734 := HS2734.trans hs2754 hc rfl
     (try simp only [ls0, ls1])
     refine st (.bool t2749) rfl rfl (xr_pick true _ rfl rfl rfl) ?_
     refine as_ rfl ?_
     refine wl_end ?_
     (try simp only [ls0, ls1])
     refine hK2747 _ _ ?_
     (try clear hK2747 K2747)
     refine wp_ret ?_
     (try simp only [Exit.inBlock, Exit.then, Exit.noGoto])
     (try simp only [ls0, ls1])
     obtain rfl := Option.some.inj H
     refine bodyPost_ret (results_tmp rfl _ _ _) rfl ?_
     exact ⟨_, rfl, HS2734⟩
    rw [if_neg c2748] at H
    (try rw [(decide_eq_false c2748)])
    refine sk_guard (guard_off 3 true 50 rfl rfl false (by decide) rfl) rfl ?_
    refine st (.bool false) rfl rfl (xr_pick false _ rfl rfl rfl) ?_
    refine as_ rfl ?_
    refine wl_end ?_
    (try simp only [ls0, ls1])
    refine hK2747 _ _ ?_
    (try clear hK2747 K2747)
    refine wp_ret ?_
    (try simp only [Exit.inBlock, Exit.then, Exit.noGoto])
    (try simp only [ls0, ls1])
    obtain rfl := Option.some.inj H
    refine bodyPost_ret (results_tmp rfl _ _ _) rfl ?_
    exact ⟨_, rfl, HS2734⟩
   rw [if_neg c2746] at H
   (try rw [(Bool.eq_false_iff.mpr c2746)])
   refine wp_cond_false rfl ?_
   refine wp_skip ?_
   (try simp only [ls0, ls1])
   refine hK2701 _ _ ?_
   (try clear hK2701 K2701)
   refine wp_seq_k fun K2755 hK2755 => ?_
   refine wl_region ?_
   refine mv_ rfl ?_
   obtain ⟨⟨t2756, t2757, t2758, t2759⟩, A2760, H⟩ := bnd H
   (try dsimp only at H)
   refine st_call #[v2736] rfl rfl Tryd.func17 (by kernel_rfl) rfl rfl (mp_ rfl) ?_
   refine (lattice_New.calls k2745 v2736 x2735 t2756 t2757 t2758 t2759  (fun z_ => pal [(0, 0)] (C2732 z_)) w2733 (fun _ => pal_lt rfl _) (Ft.arg HG2742 rfl) (Ft.arg HJ2737 rfl) A2760).mono ?_
   rintro _ w2762 ⟨C2763, v2765, rfl, hs2764, HB2766⟩
   refine ⟨_, rfl, ?_⟩
   replace HB2766 := OwnPt.res (U := [(0, 0), (5, 13)]) (j := 13) HB2766 hs2764 (by rfl) (by rfl) (by decide) rfl rfl
   replace hs2764 := Step.lift (U := [(0, 0), (5, 13)]) hs2764 [] rfl rfl
   generalize up C2732 C2763 w2733.heap.size [(0, 0), (5, 13)] = C2763_ at HB2766 hs2764
   replace HJ2741 := HJ2741.thru hs2764 rfl
   replace HJ2739 := HJ2739.thru hs2764 rfl
   replace HJ2740 := HJ2740.thru hs2764 rfl
   replace HG2742 := HG2742.thru hs2764 rfl
   replace HS2734 := HS2734.trans hs2764 hc rfl
   (try simp only [ls0, ls1])
   refine mv_ rfl ?_
   refine st (v2765) rfl rfl (xr_extract (.tuple #[v2765, .int .i64 t2757, .int .i64 t2758, .int .i64 t2759]) _ rfl rfl rfl) ?_
   refine st (.int .i64 t2757) rfl rfl (xr_extract (.tuple #[v2765, .int .i64 t2757, .int .i64 t2758, .int .i64 t2759]) _ rfl rfl rfl) ?_
   refine st (.int .i64 t2758) rfl rfl (xr_extract (.tuple #[v2765, .int .i64 t2757, .int .i64 t2758, .int .i64 t2759]) _ rfl rfl rfl) ?_
   simp only [ls0, ls1]
   refine st (.int .i64 t2759) rfl rfl (xr_extract (.tuple #[v2765, .int .i64 t2757, .int .i64 t2758, .int .i64 t2759]) _ rfl rfl rfl) ?_
   refine as_ rfl ?_
   refine as_ rfl ?_
   refine as_ rfl ?_
   simp only [ls0, ls1]
   refine as_ rfl ?_
   refine wl_end ?_
   (try simp only [ls0, ls1])
   refine hK2755 _ _ ?_
   (try clear hK2755 K2755)
   refine wp_seq_k fun K2767 hK2767 => ?_
   refine wl_region ?_
   refine st (.agg #[.slice A2685 t2676.length cp2686, .slice A2689 t2677.length cp2690]) rfl rfl (xr_load _ _ rfl rfl (load_agg (cs := [.slice A2685 t2676.length cp2686, .slice A2689 t2677.length cp2690]) Tryd.underlying33 rfl (by kernel_rfl) (bx_cells (HJ2741).2 0 rfl))) ?_
   replace HJ2741 := Bx.recol (a := 11) (b := 0) HJ2741 (by decide)
   replace HJ2739 := Ft.recol (a := 11) (b := 0) HJ2739 (.inl rfl)
   have HR2768 := Ft.recolor (a := 11) (b := 0) (HJ2740.ft) [0] rfl
   replace HG2742 := Ft.recol (a := 11) (b := 0) HG2742 (.inl rfl)
   replace HB2766 := OwnPt.recol (a := 11) (b := 0) HB2766 (by decide) (by decide)
   replace HS2734 := Step.recol (a := 11) (b := 0) HS2734 hc (by decide)
   obtain ⟨⟨t2769, t2770, t2771, t2772, t2773, t2774, t2775⟩, A2776, H⟩ := bnd H
   (try dsimp only at H)
   refine st_call #[.agg #[.slice A2685 t2676.length cp2686, .slice A2689 t2677.length cp2690]] rfl rfl Tryd.func18 (by kernel_rfl) rfl rfl (mp_ rfl) ?_
   refine (blazonref14_New.calls k2745 A2685 cp2686 t2676 A2689 cp2690 t2677 t2769 t2770 t2771 t2772 t2773 t2774 t2775  (fun z_ => pal [(0, 0)] ((recol C2763_ 11 0) z_)) w2762 (fun _ => pal_lt rfl _) (Ft.arg HJ2739 rfl) HC2688 (Ft.arg HR2768 rfl) HC2692 A2776).mono ?_
   rintro _ w2778 ⟨C2779, A2781, cp2782, A2785, cp2786, A2789, cp2790, A2793, cp2794, rfl, hs2780, HO2783, HC2784, HO2787, HC2788, HO2791, HC2792, HO2795, HC2796⟩
   refine ⟨_, rfl, ?_⟩
   replace HO2783 := Ft.res (U := [(0, 0), (7, 14), (8, 15)]) HO2783 hs2780 [0] rfl rfl rfl
   replace HO2787 := Ft.res (U := [(0, 0), (7, 14), (8, 15)]) HO2787 hs2780 [0] rfl rfl rfl
   replace HO2791 := Own.res (U := [(0, 0), (7, 14), (8, 15)]) (j := 14) HO2791 hs2780 (by rfl) (by decide) rfl rfl
   replace HO2795 := Own.res (U := [(0, 0), (7, 14), (8, 15)]) (j := 15) HO2795 hs2780 (by rfl) (by decide) rfl rfl
   replace hs2780 := Step.lift (U := [(0, 0), (7, 14), (8, 15)]) hs2780 [] rfl rfl
   generalize up (recol C2763_ 11 0) C2779 w2762.heap.size [(0, 0), (7, 14), (8, 15)] = C2779_ at HO2783 HO2787 HO2791 HO2795 hs2780
   replace HJ2741 := HJ2741.thru hs2780 rfl
   replace HJ2739 := HJ2739.thru hs2780 rfl
   replace HR2768 := HR2768.thru hs2780 rfl
   replace HG2742 := HG2742.thru hs2780 rfl
   replace HB2766 := HB2766.thru hs2780 rfl
   replace HS2734 := HS2734.trans hs2780 hc rfl
   (try simp only [ls0, ls1])
   refine mv_ rfl ?_
   refine st (.agg #[.slice A2781 t2769.length cp2782, .slice A2785 t2770.length cp2786, .slice A2789 t2771.length cp2790, .slice A2793 t2772.length cp2794]) rfl rfl (xr_extract (.tuple #[.agg #[.slice A2781 t2769.length cp2782, .slice A2785 t2770.length cp2786, .slice A2789 t2771.length cp2790, .slice A2793 t2772.length cp2794], .int .i64 t2773, .int .i64 t2774, .int .i64 t2775]) _ rfl rfl rfl) ?_
   refine st (.int .i64 t2773) rfl rfl (xr_extract (.tuple #[.agg #[.slice A2781 t2769.length cp2782, .slice A2785 t2770.length cp2786, .slice A2789 t2771.length cp2790, .slice A2793 t2772.length cp2794], .int .i64 t2773, .int .i64 t2774, .int .i64 t2775]) _ rfl rfl rfl) ?_
   refine st (.int .i64 t2774) rfl rfl (xr_extract (.tuple #[.agg #[.slice A2781 t2769.length cp2782, .slice A2785 t2770.length cp2786, .slice A2789 t2771.length cp2790, .slice A2793 t2772.length cp2794], .int .i64 t2773, .int .i64 t2774, .int .i64 t2775]) _ rfl rfl rfl) ?_
   simp only [ls0, ls1]
   refine st (.int .i64 t2775) rfl rfl (xr_extract (.tuple #[.agg #[.slice A2781 t2769.length cp2782, .slice A2785 t2770.length cp2786, .slice A2789 t2771.length cp2790, .slice A2793 t2772.length cp2794], .int .i64 t2773, .int .i64 t2774, .int .i64 t2775]) _ rfl rfl rfl) ?_
   refine bx_new (C := C2779_) 41 ([.slice none 0 0, .slice none 0 0, .slice none 0 0, .slice none 0 0]) 16 rfl rfl (by first | (go_simp; done) | (go_simp; rfl)) ?_
   intro g2797 w2798 C2799 HX2800 hs2801
   replace HJ2741 := HJ2741.thru hs2801 rfl
   replace HJ2739 := HJ2739.thru hs2801 rfl
   replace HR2768 := HR2768.thru hs2801 rfl
   replace HG2742 := HG2742.thru hs2801 rfl
   replace HB2766 := HB2766.thru hs2801 rfl
   replace HO2783 := HO2783.thru hs2801 rfl
   replace HO2787 := HO2787.thru hs2801 rfl
   replace HO2791 := HO2791.thru hs2801 rfl
   replace HO2795 := HO2795.thru hs2801 rfl
   replace HS2734 := HS2734.trans hs2801 hc rfl
   (try simp only [ls0, ls1])
   refine bx_store (C := C2799) (z := 16) (g := g2797) (j := 0) (tb := 41) (u := .agg #[.slice A2781 t2769.length cp2782, .slice A2785 t2770.length cp2786, .slice A2789 t2771.length cp2790, .slice A2793 t2772.length cp2794]) (seg := [.slice A2781 t2769.length cp2782, .slice A2785 t2770.length cp2786, .slice A2789 t2771.length cp2790, .slice A2793 t2772.length cp2794]) (xs := [.slice none 0 0, .slice none 0 0, .slice none 0 0, .slice none 0 0]) rfl rfl rfl rfl rfl rfl (by first | kernel_rfl | rfl) (by simp [Value.oneCell']) HX2800 (by simp only [List.length_cons, List.length_nil]; omega) rfl ?_
   intro w2802 HX2803 hs2804
   replace HJ2741 := HJ2741.thru hs2804 rfl
   replace HJ2739 := HJ2739.thru hs2804 rfl
   replace HR2768 := HR2768.thru hs2804 rfl
   replace HG2742 := HG2742.thru hs2804 rfl
   replace HB2766 := HB2766.thru hs2804 rfl
   replace HO2783 := HO2783.thru hs2804 rfl
   replace HO2787 := HO2787.thru hs2804 rfl
   replace HO2791 := HO2791.thru hs2804 rfl
   replace HO2795 := HO2795.thru hs2804 rfl
   replace HS2734 := HS2734.trans hs2804 hc rfl
   (try simp only [ls0, ls1])
   refine as_ rfl ?_
   refine as_ rfl ?_
   refine as_ rfl ?_
   refine wl_end ?_
   (try simp only [ls0, ls1])
   refine hK2767 _ _ ?_
   (try clear hK2767 K2767)
   refine wp_seq_k fun K2805 hK2805 => ?_
   refine wp_seq_k fun K2831 hK2831 => ?_
   have hj2834 : ∀ (kq2849 : Nat) (C2835 : Nat → Nat) (w2836 : World) (x2839 : Bool) (g_ : Nat → Value), Step c w C2835 w2836 [] → kq2849 ≤ k2745 → (OwnPt C2835 13 w2836 107 k107 v2765 t2756) → (Ft C2835 [0] w2836 (fun w_ => Kd.string.C w_ A2685 t2676.length t2676)) → (Ft C2835 [0] w2836 (fun w_ => (Kd.slice 4 Kd.bool).C w_ A2689 t2677.length t2677)) → (Bx C2835 12 w2836 g2693 33 ([.slice A2685 t2676.length cp2686, .slice A2689 t2677.length cp2690])) → (Ft C2835 [0] w2836 (fun w_ => Kd.string.C w_ A2781 t2769.length t2769)) → (Ft C2835 [0] w2836 (fun w_ => (Kd.slice 4 Kd.bool).C w_ A2785 t2770.length t2770)) → (Own C2835 14 w2836 (Kd.slice 3 (Kd.int .i64)) 23 (.slice A2789 t2771.length cp2790) t2771) → (Own C2835 15 w2836 (Kd.slice 3 (Kd.int .i64)) 23 (.slice A2793 t2772.length cp2794) t2772) → (Bx C2835 16 w2836 g2797 41 ([.slice A2781 t2769.length cp2782, .slice A2785 t2770.length cp2786, .slice A2789 t2771.length cp2790, .slice A2793 t2772.length cp2794])) → (Ft C2835 [0] w2836 GTab) → blazonlaw14_LatticeNews.j3 kq2849 a1 a2 t2676 t2756 t2759 t2769 t2770 t2771 t2772 x2839 = some r → K2831 ⟨#[(g_ 0), .int .i64 a1, .int .i64 a2, (g_ 3), (g_ 4), (g_ 5), (g_ 6), (g_ 7), (g_ 8), (g_ 9), .pointer (some ⟨g2693, 0, none⟩), (g_ 11), (g_ 12), v2765, (g_ 14), (g_ 15), .int .i64 t2759, .pointer (some ⟨g2797, 0, none⟩), (g_ 18), (g_ 19), (g_ 20), (g_ 21), (g_ 22), (g_ 23), (g_ 24), (g_ 25), (g_ 26), (g_ 27), (g_ 28), (g_ 29), (g_ 30), (g_ 31), (g_ 32), (g_ 33), (g_ 34), (g_ 35), (g_ 36), (g_ 37), (g_ 38), (g_ 39), (g_ 40), (g_ 41), (g_ 42), (g_ 43), (g_ 44), (g_ 45), (g_ 46), (g_ 47), (g_ 48), (g_ 49), (g_ 50), (g_ 51), (g_ 52), (g_ 53), (g_ 54), (g_ 55), (g_ 56), (g_ 57), (g_ 58), (g_ 59), (g_ 60), (g_ 61), (g_ 62), (g_ 63), (g_ 64), (g_ 65), (g_ 66), (g_ 67), (g_ 68), (g_ 69), (g_ 70), (g_ 71), (g_ 72), (g_ 73), (g_ 74), (g_ 75), (g_ 76), (g_ 77), (g_ 78), .bool x2839, (g_ 80), (g_ 81), (g_ 82), (g_ 83), (g_ 84), (g_ 85), (g_ 86), (g_ 87), (g_ 88), (g_ 89), (g_ 90), (g_ 91), (g_ 92), (g_ 93), (g_ 94), (g_ 95), (g_ 96), (g_ 97), (g_ 98), (g_ 99), (g_ 100), (g_ 101), (g_ 102), (g_ 103), (g_ 104), (g_ 105), (g_ 106), (g_ 107), (g_ 108), (g_ 109), (g_ 110), (g_ 111), (g_ 112), (g_ 113), (g_ 114), (g_ 115), (g_ 116), (g_ 117), (g_ 118), (g_ 119), (g_ 120), (g_ 121), (g_ 122), (g_ 123), (g_ 124), (g_ 125), (g_ 126), (g_ 127), (g_ 128), (g_ 129), (g_ 130), (g_ 131), (g_ 132), (g_ 133), (g_ 134), (g_ 135), (g_ 136), (g_ 137), (g_ 138), (g_ 139), (g_ 140), (g_ 141), (g_ 142), (g_ 143), (g_ 144), (g_ 145), (g_ 146), (g_ 147), (g_ 148), (g_ 149), (g_ 150), (g_ 151), (g_ 152), (g_ 153), (g_ 154), (g_ 155), (g_ 156), (g_ 157), (g_ 158), (g_ 159), (g_ 160), (g_ 161), (g_ 162), (g_ 163), (g_ 164), (g_ 165), (g_ 166), (g_ 167), (g_ 168), (g_ 169), (g_ 170), (g_ 171), (g_ 172), (g_ 173), (g_ 174), (g_ 175), (g_ 176), (g_ 177), (g_ 178), (g_ 179), (g_ 180), (g_ 181), (g_ 182), (g_ 183), (g_ 184), (g_ 185), (g_ 186), (g_ 187), (g_ 188), (g_ 189), (g_ 190), (g_ 191), (g_ 192), (g_ 193), (g_ 194), (g_ 195)], []⟩ w2836 := by
    intro kq2849 C2835 w2836 x2839 g_ HS2837 hk2850 HJ2838 HJ2840 HJ2841 HJ2842 HJ2843 HJ2844 HJ2845 HJ2846 HJ2847 HG2848 H
    cases kq2849 with
    | zero => exact absurd H (by simp [blazonlaw14_LatticeNews.j3])
    | succ k2851 =>
     simp only [blazonlaw14_LatticeNews.j3] at H
     refine hK2831 _ _ ?_
     (try clear hK2831)
     by_cases c2852 : x2839 = true
     ·rw [if_pos c2852] at H
      (try rw [c2852])
      refine wp_cond_true rfl ?_
      refine wp_seq_k fun K2853 hK2853 => ?_
      refine wl_region ?_
      refine st (.bool false) rfl rfl (xr_assign _ rfl rfl) ?_
      refine wl_end ?_
      (try simp only [ls0, ls1])
      refine hK2853 _ _ ?_
      (try clear hK2853 K2853)
      refine wp_ret ?_
      (try simp only [Exit.inBlock, Exit.then, Exit.noGoto])
      (try simp only [ls0, ls1])
      obtain rfl := Option.some.inj H
      refine bodyPost_ret (results_tmp rfl _ _ _) rfl ?_
      exact ⟨_, rfl, HS2837⟩
     rw [if_neg c2852] at H
     (try rw [(Bool.eq_false_iff.mpr c2852)])
     refine wp_cond_false rfl ?_
     refine wp_skip ?_
     (try simp only [ls0, ls1])
     refine hK2805 _ _ ?_
     (try clear hK2805 K2805)
     refine wp_seq_k fun K2854 hK2854 => ?_
     refine wp_seq_k fun K2855 hK2855 => ?_
     refine wl_region ?_
     refine mv_ rfl ?_
     refine st (.bool (!decide (t2759 = 0))) rfl rfl (xr_bin _ _ _ rfl rfl rfl (B.neq_i64 _ _)) ?_
     refine wl_end ?_
     (try simp only [ls0, ls1])
     refine hK2855 _ _ ?_
     (try clear hK2855 K2855)
     by_cases c2856 : t2759 = 0
     ·rw [if_pos c2856] at H
      (try rw [(decide_eq_true c2856)])
      (try simp only [Bool.not_true, Bool.not_false])
      refine wp_cond_false rfl ?_
      refine wp_skip ?_
      (try simp only [ls0, ls1])
      refine hK2854 _ _ ?_
      (try clear hK2854 K2854)
      refine wp_seq_k fun K2857 hK2857 => ?_
      refine wl_region ?_
      refine st (.pointer (some ⟨g2693, 0, none⟩)) rfl rfl (xr_fieldAddr _ _ rfl rfl (bx_field2 Tryd.underlying33 rfl rfl (by kernel_rfl))) ?_
      refine st (.slice A2685 t2676.length cp2686) rfl rfl (xr_load _ _ rfl rfl (load_cell Tryd.underlying30 rfl (bx_cell (HJ2842).2 0 rfl))) ?_
      refine st (.int .i64 (t2676.length : Int)) rfl rfl (xr_builtin #[.slice A2685 t2676.length cp2686] (.int .i64 (t2676.length : Int)) rfl (mp_ rfl) (by first | rfl | (go_simp; done) | (go_simp; rfl) | (go_simp; exact i64_w _) | (go_simp; exact i32_w _))) ?_
      refine as_ rfl ?_
      simp only [ls0, ls1]
      refine wl_end ?_
      (try simp only [ls0, ls1])
      refine hK2857 _ _ ?_
      (try clear hK2857 K2857)
      refine wp_seq_k fun K2858 hK2858 => ?_
      refine wp_seq_k fun K3888 hK3888 => ?_
      refine wl_region ?_
      refine st (.int .i64 0) rfl rfl (xr_assign _ rfl rfl) ?_
      refine wl_end ?_
      (try simp only [ls0, ls1])
      refine hK3888 _ _ ?_
      (try clear hK3888 K3888)
      refine wp_block ?_
      cases t2756 with
      | none =>
       (try simp only [onOpt] at H)
       obtain rfl := OwnPt.isNone HJ2838
       exact absurd H (by simp)
      | some o3889 =>
       (try simp only [onOpt] at H)
       obtain ⟨g3890, cs3891, rfl, HX3892, HK3893⟩ := OwnPt.isSome HJ2838
       obtain ⟨vq3894_0, rfl, HRq3894_0, HLq3894_4, HLq3894_5⟩ := k107_openF HK3893
       replace HRq3894_0 : Ft C2835 [0] w2836 (fun w_ => (Kd.ptr 81 k81).K w_ o3889.f0 [vq3894_0]) := HRq3894_0
       replace HX3892 : Bx C2835 13 w2836 g3890 107 ([vq3894_0, .int .u32 o3889.f1.f0.f0, .int .i32 o3889.f1.f1.f0.f0, .int .u32 o3889.f1.f1.f0.f1] ++ (List.map (Value.int .i8) o3889.f2 ++ (List.map (Value.int .i8) o3889.f3 ++ ([.int .i64 o3889.f4.f0])))) := HX3892
       (try simp only [ls0, ls1])
       refine wp_looped (looped_fin (fun kq4584 a_ w4583 => ∃ (C4582 : Nat → Nat) (x4569 : Int) (x4579 : Int) (g_ : Nat → Value), a_ = ⟨#[(g_ 0), .int .i64 a1, .int .i64 a2, (g_ 3), (g_ 4), (g_ 5), (g_ 6), (g_ 7), (g_ 8), (g_ 9), (g_ 10), (g_ 11), (g_ 12), .pointer (some ⟨g3890, 0, none⟩), (g_ 14), (g_ 15), (g_ 16), .pointer (some ⟨g2797, 0, none⟩), (g_ 18), (g_ 19), (g_ 20), .int .i64 (t2676.length : Int), .int .i64 x4569, (g_ 23), (g_ 24), (g_ 25), (g_ 26), (g_ 27), (g_ 28), (g_ 29), (g_ 30), (g_ 31), (g_ 32), (g_ 33), (g_ 34), (g_ 35), (g_ 36), (g_ 37), (g_ 38), (g_ 39), (g_ 40), (g_ 41), (g_ 42), (g_ 43), (g_ 44), (g_ 45), (g_ 46), (g_ 47), (g_ 48), (g_ 49), (g_ 50), (g_ 51), (g_ 52), (g_ 53), (g_ 54), (g_ 55), (g_ 56), (g_ 57), (g_ 58), (g_ 59), (g_ 60), (g_ 61), (g_ 62), (g_ 63), (g_ 64), (g_ 65), (g_ 66), (g_ 67), (g_ 68), (g_ 69), (g_ 70), (g_ 71), (g_ 72), (g_ 73), (g_ 74), (g_ 75), (g_ 76), (g_ 77), (g_ 78), (g_ 79), (g_ 80), (g_ 81), (g_ 82), (g_ 83), (g_ 84), (g_ 85), (g_ 86), (g_ 87), (g_ 88), (g_ 89), (g_ 90), (g_ 91), (g_ 92), (g_ 93), (g_ 94), (g_ 95), (g_ 96), (g_ 97), (g_ 98), (g_ 99), (g_ 100), (g_ 101), (g_ 102), (g_ 103), (g_ 104), (g_ 105), (g_ 106), (g_ 107), (g_ 108), (g_ 109), (g_ 110), (g_ 111), (g_ 112), (g_ 113), (g_ 114), (g_ 115), (g_ 116), (g_ 117), (g_ 118), (g_ 119), (g_ 120), (g_ 121), (g_ 122), (g_ 123), (g_ 124), (g_ 125), (g_ 126), (g_ 127), (g_ 128), (g_ 129), (g_ 130), (g_ 131), (g_ 132), (g_ 133), (g_ 134), (g_ 135), (g_ 136), (g_ 137), (g_ 138), (g_ 139), (g_ 140), (g_ 141), (g_ 142), (g_ 143), (g_ 144), (g_ 145), (g_ 146), (g_ 147), (g_ 148), (g_ 149), (g_ 150), (g_ 151), (g_ 152), (g_ 153), (g_ 154), (g_ 155), (g_ 156), (g_ 157), (g_ 158), (g_ 159), (g_ 160), (g_ 161), (g_ 162), (g_ 163), (g_ 164), (g_ 165), (g_ 166), (g_ 167), (g_ 168), (g_ 169), (g_ 170), (g_ 171), (g_ 172), (g_ 173), (g_ 174), (g_ 175), (g_ 176), (g_ 177), (g_ 178), (g_ 179), (g_ 180), (g_ 181), (g_ 182), (g_ 183), (g_ 184), (g_ 185), (g_ 186), (g_ 187), (g_ 188), (g_ 189), (g_ 190), (g_ 191), (g_ 192), (g_ 193), (g_ 194), (g_ 195)], []⟩ ∧ Step c w C4582 w4583 [] ∧ kq4584 ≤ k2851 ∧ (Ft C4582 [0] w4583 (fun w_ => Kd.string.C w_ A2685 t2676.length t2676)) ∧ (Ft C4582 [0] w4583 (fun w_ => (Kd.slice 4 Kd.bool).C w_ A2689 t2677.length t2677)) ∧ (Bx C4582 12 w4583 g2693 33 ([.slice A2685 t2676.length cp2686, .slice A2689 t2677.length cp2690])) ∧ (Ft C4582 [0] w4583 (fun w_ => Kd.string.C w_ A2781 t2769.length t2769)) ∧ (Ft C4582 [0] w4583 (fun w_ => (Kd.slice 4 Kd.bool).C w_ A2785 t2770.length t2770)) ∧ (Own C4582 14 w4583 (Kd.slice 3 (Kd.int .i64)) 23 (.slice A2789 t2771.length cp2790) t2771) ∧ (Own C4582 15 w4583 (Kd.slice 3 (Kd.int .i64)) 23 (.slice A2793 t2772.length cp2794) t2772) ∧ (Bx C4582 16 w4583 g2797 41 ([.slice A2781 t2769.length cp2782, .slice A2785 t2770.length cp2786, .slice A2789 t2771.length cp2790, .slice A2793 t2772.length cp2794])) ∧ (Ft C4582 [0] w4583 (fun w_ => (Kd.ptr 81 k81).K w_ o3889.f0 [vq3894_0])) ∧ (Bx C4582 13 w4583 g3890 107 ([vq3894_0, .int .u32 o3889.f1.f0.f0, .int .i32 o3889.f1.f1.f0.f0, .int .u32 o3889.f1.f1.f0.f1] ++ (List.map (Value.int .i8) o3889.f2 ++ (List.map (Value.int .i8) o3889.f3 ++ ([.int .i64 x4579]))))) ∧ (Ft C4582 [0] w4583 GTab) ∧ blazonlaw14_LatticeNews.l1 kq4584 a1 a2 o3889 t2676 t2769 t2770 t2771 t2772 x4569 x4579 = some r) ?step fun hL_ => ?init)
       case init =>
        exact jmpL (fun a_ h_ => hL_ k2851 a_ _ h_) (fun g_ => ⟨_, 0, o3889.f4.f0, g_, rfl, HS2837, Nat.le_refl _, HJ2840, HJ2841, HJ2842, HJ2843, HJ2844, HJ2845, HJ2846, HJ2847, HRq3894_0, HX3892, HG2848, H⟩) rfl
       case step =>
        intro kq4584 ih4587 a4588 w4583 hr4589
        obtain ⟨C4582, x4569, x4579, g_, rfl, HS4585, hk4586, HJ4570, HJ4571, HJ4572, HJ4573, HJ4574, HJ4575, HJ4576, HJ4577, HJ4578, HJ4580, HG4581, H⟩ := hr4589
        refine looped_round ?_
        cases kq4584 with
        | zero => exact absurd H (by simp [blazonlaw14_LatticeNews.l1])
        | succ k4590 =>
         simp only [blazonlaw14_LatticeNews.l1] at H
         refine wp_seq_k fun K4591 hK4591 => ?_
         refine wp_seq_k fun K4592 hK4592 => ?_
         refine wl_region ?_
         refine mv_ rfl ?_
         refine mv_ rfl ?_
         refine st (.bool (decide (x4569 < (t2676.length : Int)))) rfl rfl (xr_bin _ _ _ rfl rfl rfl (B.lss_i64 _ _)) ?_
         refine wl_end ?_
         (try simp only [ls0, ls1])
         refine hK4592 _ _ ?_
         (try clear hK4592 K4592)
         by_cases c4593 : x4569 < (t2676.length : Int)
         ·rw [if_pos c4593] at H
          (try rw [(decide_eq_true c4593)])
          refine wp_cond_true rfl ?_
          refine wp_skip ?_
          (try simp only [ls0, ls1])
          refine hK4591 _ _ ?_
          (try clear hK4591 K4591)
          refine wp_seq_k fun K4594 hK4594 => ?_
          refine wp_block ?_
          refine wp_seq_k fun K4595 hK4595 => ?_
          refine wl_region ?_
          refine st (.int .i64 0) rfl rfl (xr_assign _ rfl rfl) ?_
          refine wl_end ?_
          (try simp only [ls0, ls1])
          refine hK4595 _ _ ?_
          (try clear hK4595 K4595)
          refine wp_block ?_
          (try simp only [ls0, ls1])
          refine wp_looped (looped_fin (fun kq4818 a_ w4817 => ∃ (C4816 : Nat → Nat) (x4803 : Int) (x4813 : Int) (g_ : Nat → Value), a_ = ⟨#[(g_ 0), .int .i64 a1, .int .i64 a2, (g_ 3), (g_ 4), (g_ 5), (g_ 6), (g_ 7), (g_ 8), (g_ 9), (g_ 10), (g_ 11), (g_ 12), .pointer (some ⟨g3890, 0, none⟩), (g_ 14), (g_ 15), (g_ 16), .pointer (some ⟨g2797, 0, none⟩), (g_ 18), (g_ 19), (g_ 20), .int .i64 (t2676.length : Int), .int .i64 x4569, .int .i64 x4803, (g_ 24), (g_ 25), (g_ 26), (g_ 27), (g_ 28), (g_ 29), (g_ 30), (g_ 31), (g_ 32), (g_ 33), (g_ 34), (g_ 35), (g_ 36), (g_ 37), (g_ 38), (g_ 39), (g_ 40), (g_ 41), (g_ 42), (g_ 43), (g_ 44), (g_ 45), (g_ 46), (g_ 47), (g_ 48), (g_ 49), (g_ 50), (g_ 51), (g_ 52), (g_ 53), (g_ 54), (g_ 55), (g_ 56), (g_ 57), (g_ 58), (g_ 59), (g_ 60), (g_ 61), (g_ 62), (g_ 63), (g_ 64), (g_ 65), (g_ 66), (g_ 67), (g_ 68), (g_ 69), (g_ 70), (g_ 71), (g_ 72), (g_ 73), (g_ 74), (g_ 75), (g_ 76), (g_ 77), (g_ 78), (g_ 79), (g_ 80), (g_ 81), (g_ 82), (g_ 83), (g_ 84), (g_ 85), (g_ 86), (g_ 87), (g_ 88), (g_ 89), (g_ 90), (g_ 91), (g_ 92), (g_ 93), (g_ 94), (g_ 95), (g_ 96), (g_ 97), (g_ 98), (g_ 99), (g_ 100), (g_ 101), (g_ 102), (g_ 103), (g_ 104), (g_ 105), (g_ 106), (g_ 107), (g_ 108), (g_ 109), (g_ 110), (g_ 111), (g_ 112), (g_ 113), (g_ 114), (g_ 115), (g_ 116), (g_ 117), (g_ 118), (g_ 119), (g_ 120), (g_ 121), (g_ 122), (g_ 123), (g_ 124), (g_ 125), (g_ 126), (g_ 127), (g_ 128), (g_ 129), (g_ 130), (g_ 131), (g_ 132), (g_ 133), (g_ 134), (g_ 135), (g_ 136), (g_ 137), (g_ 138), (g_ 139), (g_ 140), (g_ 141), (g_ 142), (g_ 143), (g_ 144), (g_ 145), (g_ 146), (g_ 147), (g_ 148), (g_ 149), (g_ 150), (g_ 151), (g_ 152), (g_ 153), (g_ 154), (g_ 155), (g_ 156), (g_ 157), (g_ 158), (g_ 159), (g_ 160), (g_ 161), (g_ 162), (g_ 163), (g_ 164), (g_ 165), (g_ 166), (g_ 167), (g_ 168), (g_ 169), (g_ 170), (g_ 171), (g_ 172), (g_ 173), (g_ 174), (g_ 175), (g_ 176), (g_ 177), (g_ 178), (g_ 179), (g_ 180), (g_ 181), (g_ 182), (g_ 183), (g_ 184), (g_ 185), (g_ 186), (g_ 187), (g_ 188), (g_ 189), (g_ 190), (g_ 191), (g_ 192), (g_ 193), (g_ 194), (g_ 195)], []⟩ ∧ Step c w C4816 w4817 [] ∧ kq4818 ≤ k4590 ∧ (Ft C4816 [0] w4817 (fun w_ => Kd.string.C w_ A2685 t2676.length t2676)) ∧ (Ft C4816 [0] w4817 (fun w_ => (Kd.slice 4 Kd.bool).C w_ A2689 t2677.length t2677)) ∧ (Bx C4816 12 w4817 g2693 33 ([.slice A2685 t2676.length cp2686, .slice A2689 t2677.length cp2690])) ∧ (Ft C4816 [0] w4817 (fun w_ => Kd.string.C w_ A2781 t2769.length t2769)) ∧ (Ft C4816 [0] w4817 (fun w_ => (Kd.slice 4 Kd.bool).C w_ A2785 t2770.length t2770)) ∧ (Own C4816 14 w4817 (Kd.slice 3 (Kd.int .i64)) 23 (.slice A2789 t2771.length cp2790) t2771) ∧ (Own C4816 15 w4817 (Kd.slice 3 (Kd.int .i64)) 23 (.slice A2793 t2772.length cp2794) t2772) ∧ (Bx C4816 16 w4817 g2797 41 ([.slice A2781 t2769.length cp2782, .slice A2785 t2770.length cp2786, .slice A2789 t2771.length cp2790, .slice A2793 t2772.length cp2794])) ∧ (Ft C4816 [0] w4817 (fun w_ => (Kd.ptr 81 k81).K w_ o3889.f0 [vq3894_0])) ∧ (Bx C4816 13 w4817 g3890 107 ([vq3894_0, .int .u32 o3889.f1.f0.f0, .int .i32 o3889.f1.f1.f0.f0, .int .u32 o3889.f1.f1.f0.f1] ++ (List.map (Value.int .i8) o3889.f2 ++ (List.map (Value.int .i8) o3889.f3 ++ ([.int .i64 x4813]))))) ∧ (Ft C4816 [0] w4817 GTab) ∧ blazonlaw14_LatticeNews.l0 kq4818 a1 a2 o3889 t2676 t2769 t2770 t2771 t2772 x4569 x4803 x4813 = some r) ?step fun hL_ => ?init)
          case init =>
           exact jmpL (fun a_ h_ => hL_ k4590 a_ _ h_) (fun g_ => ⟨_, 0, x4579, g_, rfl, HS4585, Nat.le_refl _, HJ4570, HJ4571, HJ4572, HJ4573, HJ4574, HJ4575, HJ4576, HJ4577, HJ4578, HJ4580, HG4581, H⟩) rfl
          case step =>
           intro kq4818 ih4821 a4822 w4817 hr4823
           obtain ⟨C4816, x4803, x4813, g_, rfl, HS4819, hk4820, HJ4804, HJ4805, HJ4806, HJ4807, HJ4808, HJ4809, HJ4810, HJ4811, HJ4812, HJ4814, HG4815, H⟩ := hr4823
           refine looped_round ?_
           cases kq4818 with
           | zero => exact absurd H (by simp [blazonlaw14_LatticeNews.l0])
           | succ k4824 =>
            simp only [blazonlaw14_LatticeNews.l0] at H
            refine wp_seq_k fun K4825 hK4825 => ?_
            refine wp_seq_k fun K4826 hK4826 => ?_
            refine wl_region ?_
            refine mv_ rfl ?_
            refine mv_ rfl ?_
            refine st (.bool (decide (x4803 < (t2676.length : Int)))) rfl rfl (xr_bin _ _ _ rfl rfl rfl (B.lss_i64 _ _)) ?_
            refine wl_end ?_
            (try simp only [ls0, ls1])
            refine hK4826 _ _ ?_
            (try clear hK4826 K4826)
            by_cases c4827 : x4803 < (t2676.length : Int)
            ·rw [if_pos c4827] at H
             (try rw [(decide_eq_true c4827)])
             refine wp_cond_true rfl ?_
             refine wp_skip ?_
             (try simp only [ls0, ls1])
             refine hK4825 _ _ ?_
             (try clear hK4825 K4825)
             refine wp_seq_k fun K4828 hK4828 => ?_
             refine wp_block ?_
             refine wp_seq_k fun K4829 hK4829 => ?_
             have HQ4872 := Ft.same C4816 [0] w4817
             have HQ4873 := Ft.same C4816 [14, 0] w4817
             have HQ4874 := Ft.same C4816 [15, 0] w4817
             (try simp only [ls0, ls1])
             refine al_start (lb 28 0) rfl rfl rfl (fun w_ => Kd.string.C w_ A2781 t2769.length t2769 ∧ (Kd.slice 4 Kd.bool).C w_ A2785 t2770.length t2770 ∧ (Kd.slice 3 (Kd.int .i64)).C w_ A2789 t2771.length t2771 ∧ (Kd.slice 3 (Kd.int .i64)).C w_ A2793 t2772.length t2772 ∧ w_.heap[g2797]? = some (.cells (List.toArray ([.slice A2781 t2769.length cp2782, .slice A2785 t2770.length cp2786, .slice A2789 t2771.length cp2790, .slice A2793 t2772.length cp2794])) 41 (0, 0)) ∧ (∀ k_, C4816 k_ ∈ [0] → k_ < (w4817).drew.heap.size → w_.heap[k_]? = (w4817).drew.heap[k_]?) ∧ (∀ k_, C4816 k_ ∈ [14, 0] → k_ < (w4817).drew.heap.size → w_.heap[k_]? = (w4817).drew.heap[k_]?) ∧ (∀ k_, C4816 k_ ∈ [15, 0] → k_ < (w4817).drew.heap.size → w_.heap[k_]? = (w4817).drew.heap[k_]?)) ⟨(Ft.now (HJ4807).drew), (Ft.now (HJ4808).drew), (Ft.now ((HJ4809.ft)).drew), (Ft.now ((HJ4810.ft)).drew), (HJ4811.drew).2, (Ft.now (HQ4872.drew)), (Ft.now (HQ4873.drew)), (Ft.now (HQ4874.drew))⟩ [] ?_
             replace HJ4806 := HJ4806.drew
             replace HJ4804 := HJ4804.drew
             replace HJ4805 := HJ4805.drew
             replace HJ4811 := HJ4811.drew
             replace HJ4807 := HJ4807.drew
             replace HJ4808 := HJ4808.drew
             replace HJ4809 := HJ4809.drew
             replace HJ4810 := HJ4810.drew
             replace HJ4814 := HJ4814.drew
             replace HJ4812 := HJ4812.drew
             replace HG4815 := HG4815.drew
             replace HQ4872 := HQ4872.drew
             replace HQ4873 := HQ4873.drew
             replace HQ4874 := HQ4874.drew
             replace HS4819 := Step.ofDrew HS4819
             replace HQ4872 := Ft.same C4816 [0] (w4817.drew)
             replace HQ4873 := Ft.same C4816 [14, 0] (w4817.drew)
             replace HQ4874 := Ft.same C4816 [15, 0] (w4817.drew)
             generalize w4817.drew = w4875 at *
             have HZ4876 := HJ4808
             have HZ4877 := (HJ4809.ft)
             have HZ4878 := (HJ4810.ft)
             refine al_mv 0 (lb 28 1) rfl rfl (by kernel_rfl) (fun _ _ _ => id) rfl ?_
             refine al_mv 1 (lb 28 3) rfl rfl (by kernel_rfl) (fun _ _ _ => id) rfl ?_
             refine al_mv 2 (lb 28 7) rfl rfl (by kernel_rfl) (fun _ _ _ => id) rfl ?_
             refine al_pure 4 104 (.pointer (some ⟨g2797, 2, none⟩)) (lb 28 23) rfl rfl (by kernel_rfl) (fun _ _ _ => id) rfl (fun w_ => xr_fieldAddr _ _ rfl rfl (bx_field2 Tryd.underlying41 rfl rfl (by kernel_rfl))) ?_
             simp only [ls0, ls1]
             refine al_mv 6 (lb 28 87) rfl rfl (by kernel_rfl) (fun _ _ _ => id) rfl ?_
             refine al_mv 9 (lb 28 599) rfl rfl (by kernel_rfl) (fun _ _ _ => id) rfl ?_
             refine al_take 5 105 (.slice A2789 t2771.length cp2790) (lb 28 631) rfl rfl (by kernel_rfl) (fun _ _ _ => id) rfl (fun w_ hS_ => xr_load _ _ rfl rfl (load_cell Tryd.underlying39 rfl (bx_cell hS_.2.2.2.2.1 2 rfl))) ⟨(Ft.now HJ4807), (Ft.now HJ4808), (Ft.now (HJ4809.ft)), (Ft.now (HJ4810.ft)), (HJ4811).2, (Ft.now (HQ4872)), (Ft.now (HQ4873)), (Ft.now (HQ4874))⟩ ?_
             obtain ⟨c4879, H⟩ := if_some H
             obtain ⟨c4880, H⟩ := if_some H
             obtain ⟨g4881, hA4882⟩ := HJ4809.form (pos_of (j := x4569) (by first | assumption | decide) (by first | assumption | omega))
             refine al_pure 7 107 (.pointer (some ((⟨g4881, 0, none⟩ : Addr).add ((x4569 : Int).toNat * 1)))) (lb 28 759) rfl rfl (by kernel_rfl) (fun _ _ _ => id) rfl (fun w_ => xr_indexAddr _ _ _ rfl rfl rfl (index_at Tryd.underlying39 info23 hA4882 (by first | assumption | decide | omega) (by first | assumption | decide | omega))) ?_
             simp only [ls0, ls1]
             obtain ⟨csq4884, _, hKq4884, hcq4884, hinq4884⟩ := Ft.elem (HJ4809.ft) hA4882 [] x4569 (by first | assumption | decide | omega) (by first | assumption | decide | omega) (by decide)
             obtain ⟨Aq4884_0, cpq4884_0, rfl, HCq4884_0, HRq4884_0⟩ := slice_openF hKq4884
             replace HRq4884_0 : Ft C4816 [14, 0] w4875 (fun w_ => (Kd.int .i64).C w_ Aq4884_0 (rd_L21 t2771 x4569).length (rd_L21 t2771 x4569)) := HRq4884_0
             have HNq4884 : Ft C4816 [14, 0] w4875 (fun w_ => (Kd.int .i64).C w_ Aq4884_0 (rd_L21 t2771 x4569).length (rd_L21 t2771 x4569)) := HRq4884_0
             refine al_take 8 108 (.slice Aq4884_0 (rd_L21 t2771 x4569).length cpq4884_0) (lb 28 1015) rfl rfl (by kernel_rfl) (fun _ _ _ => id) rfl (fun w_ hS_ => xr_load (.pointer (some ((⟨g4881, 0, none⟩ : Addr).add ((x4569 : Int).toNat * 1)))) (.slice Aq4884_0 (rd_L21 t2771 x4569).length cpq4884_0) rfl rfl (load_cell Tryd.underlying23 rfl (by have h_ := (same_cell hS_.2.2.2.2.2.2.1 hinq4884 (add2_block _ _ _) (hcq4884 0 _ rfl)); rw [add_zero_] at h_; exact h_))) ⟨(Ft.now HJ4807), (Ft.now HJ4808), (Ft.now (HJ4809.ft)), (Ft.now (HJ4810.ft)), (HJ4811).2, (Ft.now (HQ4872)), (Ft.now (HQ4873)), (Ft.now (HQ4874))⟩ ?_
             obtain ⟨c4885, H⟩ := if_some H
             obtain ⟨c4886, H⟩ := if_some H
             obtain ⟨ad4887, hA4888⟩ := c_addr (Ft.now HRq4884_0) (pos_of (j := x4803) (by first | assumption | decide) (by first | assumption | omega))
             refine al_pure 10 110 (.pointer (some (ad4887.add ((x4803 : Int).toNat * 1)))) (lb 28 2039) rfl rfl (by kernel_rfl) (fun _ _ _ => id) rfl (fun w_ => xr_indexAddr _ _ _ rfl rfl rfl (index_at Tryd.underlying23 info3 hA4888 (by first | assumption | decide | omega) (by first | assumption | decide | omega))) ?_
             refine al_take 11 111 (.int .i64 (rd (rd_L21 t2771 x4569) x4803)) (lb 28 4087) rfl rfl (by kernel_rfl) (fun _ _ _ => id) rfl (fun w_ hS_ => xr_load _ _ rfl rfl (load_int Tryd.underlying3 rfl hA4888 (HNq4884 _ (hS_.2.2.2.2.2.2.1)) (by first | assumption | decide | omega) (by first | assumption | decide | omega))) ⟨(Ft.now HJ4807), (Ft.now HJ4808), (Ft.now (HJ4809.ft)), (Ft.now (HJ4810.ft)), (HJ4811).2, (Ft.now (HQ4872)), (Ft.now (HQ4873)), (Ft.now (HQ4874))⟩ ?_
             obtain ⟨⟨t4889, t4890⟩, A4891, H⟩ := bnd H
             (try dsimp only at H)
             refine al_one 3 (lb 28 4095) rfl rfl (by kernel_rfl) rfl (fun K_ hK_ => ?_)
             refine goes_ Tryd.func22 (by kernel_rfl) rfl #[.pointer (some ⟨g3890, 0, none⟩), .int .i64 x4569, .int .i64 x4803] rfl rfl rfl (mpe_ rfl) ?_
             refine (lattice_Lattice_Join.calls g3890 vq3894_0 o3889.f0 o3889.f1.f0.f0 o3889.f1.f1.f0.f0 o3889.f1.f1.f0.f1 o3889.f2 o3889.f3 x4813 x4569 x4803 t4889 t4890  (fun z_ => pal [(0, 0), (13, 1)] (C4816 z_)) w4875 (fun _ => pal_lt rfl _) (Bx.arg HJ4814 rfl) (Ft.arg HJ4812 rfl) HLq3894_4 HLq3894_5 A4891).mono ?_
             rintro _ w4893 ⟨C4894, rfl, hs4895, HX4896⟩
             refine ⟨_, rfl, ?_⟩
             replace HX4896 := Bx.res (U := [(0, 0), (1, 13)]) (j := 13) HX4896 hs4895 (by rfl) (by decide) rfl
             replace hs4895 := Step.lift (U := [(0, 0), (1, 13)]) hs4895 [13] rfl rfl
             generalize up C4816 C4894 w4875.heap.size [(0, 0), (1, 13)] = C4894_ at HX4896 hs4895
             replace HJ4806 := HJ4806.thru hs4895 rfl
             replace HJ4804 := HJ4804.thru hs4895 rfl
             replace HJ4805 := HJ4805.thru hs4895 rfl
             replace HJ4811 := HJ4811.thru hs4895 rfl
             replace HJ4807 := HJ4807.thru hs4895 rfl
             replace HJ4808 := HJ4808.thru hs4895 rfl
             replace HJ4809 := HJ4809.thru hs4895 rfl
             replace HJ4810 := HJ4810.thru hs4895 rfl
             replace HJ4812 := HJ4812.thru hs4895 rfl
             replace HG4815 := HG4815.thru hs4895 rfl
             replace HQ4872 := HQ4872.thru hs4895 rfl
             replace HQ4873 := HQ4873.thru hs4895 rfl
             replace HQ4874 := HQ4874.thru hs4895 rfl
             replace HS4819 := HS4819.trans hs4895 hc rfl
             refine hK_ _ _ ⟨(Ft.now HJ4807), (Ft.now HJ4808), (Ft.now (HJ4809.ft)), (Ft.now (HJ4810.ft)), (HJ4811).2, (Ft.now (HQ4872)), (Ft.now (HQ4873)), (Ft.now (HQ4874))⟩ ?_
             clear hK_ K_
             (try simp only [Act.put, List.setIfInBounds_toArray, ls0, ls1])
             refine al_pure 12 112 (.bool (!decide (t4889 = (rd (rd_L21 t2771 x4569) x4803)))) (lb 28 8191) rfl rfl (by kernel_rfl) (fun _ _ _ => id) rfl (fun w_ => xr_bin _ _ _ rfl rfl rfl (B.neq_i64 _ _)) ?_
             refine al_mv 13 (lb 28 16383) rfl rfl (by kernel_rfl) (fun _ _ _ => id) rfl ?_
             by_cases c4897 : t4889 = (rd (rd_L21 t2771 x4569) x4803)
             ·rw [if_pos c4897] at H
              (try rw [(decide_eq_true c4897)])
              (try simp only [Bool.not_true, Bool.not_false])
              refine al_mv 14 (lb 28 32767) rfl rfl (by kernel_rfl) (fun _ _ _ => id) (guard_on 13 false 113 rfl rfl rfl) ?_
              refine al_mv 15 (lb 28 65535) rfl rfl (by kernel_rfl) (fun _ _ _ => id) (guard_on 13 false 113 rfl rfl rfl) ?_
              simp only [ls0, ls1]
              refine al_mv 16 (lb 28 131071) rfl rfl (by kernel_rfl) (fun _ _ _ => id) (guard_on 13 false 113 rfl rfl rfl) ?_
              refine al_pure 18 118 (.pointer (some ⟨g2797, 3, none⟩)) (lb 28 393215) rfl rfl (by kernel_rfl) (fun _ _ _ => id) (guard_on 13 false 113 rfl rfl rfl) (fun w_ => xr_fieldAddr _ _ rfl rfl (bx_field2 Tryd.underlying41 rfl rfl (by kernel_rfl))) ?_
              refine al_mv 20 (lb 28 1441791) rfl rfl (by kernel_rfl) (fun _ _ _ => id) (guard_on 13 false 113 rfl rfl rfl) ?_
              refine al_mv 23 (lb 28 9830399) rfl rfl (by kernel_rfl) (fun _ _ _ => id) (guard_on 13 false 113 rfl rfl rfl) ?_
              simp only [ls0, ls1]
              refine al_take 19 119 (.slice A2793 t2772.length cp2794) (lb 28 10354687) rfl rfl (by kernel_rfl) (fun _ _ _ => id) (guard_on 13 false 113 rfl rfl rfl) (fun w_ hS_ => xr_load _ _ rfl rfl (load_cell Tryd.underlying39 rfl (bx_cell hS_.2.2.2.2.1 3 rfl))) ⟨(Ft.now HJ4807), (Ft.now HJ4808), (Ft.now (HJ4809.ft)), (Ft.now (HJ4810.ft)), (HJ4811).2, (Ft.now (HQ4872)), (Ft.now (HQ4873)), (Ft.now (HQ4874))⟩ ?_
              obtain ⟨c4898, H⟩ := if_some H
              obtain ⟨g4899, hA4900⟩ := HJ4810.form (pos_of (j := x4569) (by first | assumption | decide) (by first | assumption | omega))
              refine al_pure 21 121 (.pointer (some ((⟨g4899, 0, none⟩ : Addr).add ((x4569 : Int).toNat * 1)))) (lb 28 12451839) rfl rfl (by kernel_rfl) (fun _ _ _ => id) (guard_on 13 false 113 rfl rfl rfl) (fun w_ => xr_indexAddr _ _ _ rfl rfl rfl (index_at Tryd.underlying39 info23 hA4900 (by first | assumption | decide | omega) (by first | assumption | decide | omega))) ?_
              obtain ⟨csq4902, _, hKq4902, hcq4902, hinq4902, hNq4902⟩ := Ft.elem2 HZ4878 (HJ4810.ft) (Ft.now HQ4874) hA4900 [] x4569 (by first | assumption | decide | omega) (by first | assumption | decide | omega) (by decide)
              obtain ⟨Aq4902_0, cpq4902_0, rfl, HCq4902_0, HRq4902_0⟩ := slice_openF hKq4902
              replace HRq4902_0 : Ft C4894_ [15, 0] w4893 (fun w_ => (Kd.int .i64).C w_ Aq4902_0 (rd_L21 t2772 x4569).length (rd_L21 t2772 x4569)) := HRq4902_0
              have HNq4902 : Ft C4816 [15, 0] w4875 (fun w_ => (Kd.int .i64).C w_ Aq4902_0 (rd_L21 t2772 x4569).length (rd_L21 t2772 x4569)) := slice_at hNq4902
              refine al_take 22 122 (.slice Aq4902_0 (rd_L21 t2772 x4569).length cpq4902_0) (lb 28 16646143) rfl rfl (by kernel_rfl) (fun _ _ _ => id) (guard_on 13 false 113 rfl rfl rfl) (fun w_ hS_ => xr_load (.pointer (some ((⟨g4899, 0, none⟩ : Addr).add ((x4569 : Int).toNat * 1)))) (.slice Aq4902_0 (rd_L21 t2772 x4569).length cpq4902_0) rfl rfl (load_cell Tryd.underlying23 rfl (by have h_ := (same_cell hS_.2.2.2.2.2.2.2 hinq4902 (add2_block _ _ _) (hcq4902 0 _ rfl)); rw [add_zero_] at h_; exact h_))) ⟨(Ft.now HJ4807), (Ft.now HJ4808), (Ft.now (HJ4809.ft)), (Ft.now (HJ4810.ft)), (HJ4811).2, (Ft.now (HQ4872)), (Ft.now (HQ4873)), (Ft.now (HQ4874))⟩ ?_
              obtain ⟨c4903, H⟩ := if_some H
              obtain ⟨ad4904, hA4905⟩ := c_addr (Ft.now HRq4902_0) (pos_of (j := x4803) (by first | assumption | decide) (by first | assumption | omega))
              refine al_pure 24 124 (.pointer (some (ad4904.add ((x4803 : Int).toNat * 1)))) (lb 28 33423359) rfl rfl (by kernel_rfl) (fun _ _ _ => id) (guard_on 13 false 113 rfl rfl rfl) (fun w_ => xr_indexAddr _ _ _ rfl rfl rfl (index_at Tryd.underlying23 info3 hA4905 (by first | assumption | decide | omega) (by first | assumption | decide | omega))) ?_
              simp only [ls0, ls1]
              refine al_take 25 125 (.int .i64 (rd (rd_L21 t2772 x4569) x4803)) (lb 28 66977791) rfl rfl (by kernel_rfl) (fun _ _ _ => id) (guard_on 13 false 113 rfl rfl rfl) (fun w_ hS_ => xr_load _ _ rfl rfl (load_int Tryd.underlying3 rfl hA4905 (HNq4902 _ (hS_.2.2.2.2.2.2.2)) (by first | assumption | decide | omega) (by first | assumption | decide | omega))) ⟨(Ft.now HJ4807), (Ft.now HJ4808), (Ft.now (HJ4809.ft)), (Ft.now (HJ4810.ft)), (HJ4811).2, (Ft.now (HQ4872)), (Ft.now (HQ4873)), (Ft.now (HQ4874))⟩ ?_
              obtain ⟨⟨t4906, t4907⟩, A4908, H⟩ := bnd H
              (try dsimp only at H)
              refine al_one 17 (lb 28 67108863) rfl rfl (by kernel_rfl) rfl (fun K_ hK_ => ?_)
              refine goes_ Tryd.func23 (by kernel_rfl) rfl #[.pointer (some ⟨g3890, 0, none⟩), .int .i64 x4569, .int .i64 x4803] (guard_on 13 false 113 rfl rfl rfl) rfl rfl (mpe_ rfl) ?_
              refine (lattice_Lattice_Meet.calls g3890 vq3894_0 o3889.f0 o3889.f1.f0.f0 o3889.f1.f1.f0.f0 o3889.f1.f1.f0.f1 o3889.f2 o3889.f3 t4890 x4569 x4803 t4906 t4907  (fun z_ => pal [(0, 0), (13, 1)] (C4894_ z_)) w4893 (fun _ => pal_lt rfl _) (Bx.arg HX4896 rfl) (Ft.arg HJ4812 rfl) HLq3894_4 HLq3894_5 A4908).mono ?_
              rintro _ w4910 ⟨C4911, rfl, hs4912, HX4913⟩
              refine ⟨_, rfl, ?_⟩
              replace HX4913 := Bx.res (U := [(0, 0), (1, 13)]) (j := 13) HX4913 hs4912 (by rfl) (by decide) rfl
              replace hs4912 := Step.lift (U := [(0, 0), (1, 13)]) hs4912 [13] rfl rfl
              generalize up C4894_ C4911 w4893.heap.size [(0, 0), (1, 13)] = C4911_ at HX4913 hs4912
              replace HJ4806 := HJ4806.thru hs4912 rfl
              replace HJ4804 := HJ4804.thru hs4912 rfl
              replace HJ4805 := HJ4805.thru hs4912 rfl
              replace HJ4811 := HJ4811.thru hs4912 rfl
              replace HJ4807 := HJ4807.thru hs4912 rfl
              replace HJ4808 := HJ4808.thru hs4912 rfl
              replace HJ4809 := HJ4809.thru hs4912 rfl
              replace HJ4810 := HJ4810.thru hs4912 rfl
              replace HJ4812 := HJ4812.thru hs4912 rfl
              replace HG4815 := HG4815.thru hs4912 rfl
              replace HQ4872 := HQ4872.thru hs4912 rfl
              replace HQ4873 := HQ4873.thru hs4912 rfl
              replace HQ4874 := HQ4874.thru hs4912 rfl
              replace HRq4902_0 := HRq4902_0.thru hs4912 rfl
              replace HS4819 := HS4819.trans hs4912 hc rfl
              refine hK_ _ _ ⟨(Ft.now HJ4807), (Ft.now HJ4808), (Ft.now (HJ4809.ft)), (Ft.now (HJ4810.ft)), (HJ4811).2, (Ft.now (HQ4872)), (Ft.now (HQ4873)), (Ft.now (HQ4874))⟩ ?_
              clear hK_ K_
              (try simp only [Act.put, List.setIfInBounds_toArray, ls0, ls1])
              refine al_pure 26 126 (.bool (!decide (t4906 = (rd (rd_L21 t2772 x4569) x4803)))) (lb 28 134217727) rfl rfl (by kernel_rfl) (fun _ _ _ => id) (guard_on 13 false 113 rfl rfl rfl) (fun w_ => xr_bin _ _ _ rfl rfl rfl (B.neq_i64 _ _)) ?_
              refine al_pure 27 127 (.bool (!decide (t4906 = (rd (rd_L21 t2772 x4569) x4803)))) (lb 28 268435455) rfl rfl (by kernel_rfl) (fun _ _ _ => id) rfl (fun w_ => xr_pick false _ rfl rfl rfl) ?_
              refine al_end (by kernel_rfl) ?_
              (try simp only [ls0, ls1])
              refine hK4829 _ _ ?_
              (try clear hK4829 K4829)
              by_cases c4914 : t4906 = (rd (rd_L21 t2772 x4569) x4803)
              ·rw [if_pos c4914] at H
               (try rw [(decide_eq_true c4914)])
               (try simp only [Bool.not_true, Bool.not_false])
               refine wp_cond_false rfl ?_
               refine wp_skip ?_
               (try simp only [ls0, ls1])
               refine hK4828 _ _ ?_
               (try clear hK4828 K4828)
               refine wl_region ?_
               refine mv_ rfl ?_
               refine st (.int .i64 (wrap64 (x4803 + 1))) rfl rfl (xr_bin _ _ _ rfl rfl rfl (B.add_i64 _ _)) ?_
               refine as_ rfl ?_
               refine wl_end ?_
               (try simp only [ls0, ls1])
               exact jmpL (fun a_ h_ => ih4821 k4824 (by omega) a_ _ h_) (fun g_ => ⟨_, wrap64 (x4803 + 1), t4907, g_, rfl, HS4819, (by omega), HJ4804, HJ4805, HJ4806, HJ4807, HJ4808, HJ4809, HJ4810, HJ4811, HJ4812, HX4913, HG4815, H⟩) rfl
              rw [if_neg c4914] at H
              (try rw [(decide_eq_false c4914)])
              (try simp only [Bool.not_true, Bool.not_false])
              refine wp_cond_true rfl ?_
              refine wp_seq_k fun K4915 hK4915 => ?_
              refine wl_region ?_
              refine st (.bool false) rfl rfl (xr_assign _ rfl rfl) ?_
              refine wl_end ?_
              (try simp only [ls0, ls1])
              refine hK4915 _ _ ?_
              (try clear hK4915 K4915)
              refine wp_ret ?_
              (try simp only [Exit.inBlock, Exit.then, Exit.noGoto])
              (try simp only [ls0, ls1])
              obtain rfl := Option.some.inj H
              refine bodyPost_ret (results_tmp rfl _ _ _) rfl ?_
              exact ⟨_, rfl, HS4819⟩
             rw [if_neg c4897] at H
             (try rw [(decide_eq_false c4897)])
             (try simp only [Bool.not_true, Bool.not_false])
             refine al_off 14 114 (lb 28 32767) rfl rfl (by kernel_rfl) (fun _ _ _ => id) (guard_off 13 false 113 rfl rfl true (by decide) rfl) ?_
             refine al_off 15 115 (lb 28 65535) rfl rfl (by kernel_rfl) (fun _ _ _ => id) (guard_off 13 false 113 rfl rfl true (by decide) rfl) ?_
             refine al_off 16 116 (lb 28 131071) rfl rfl (by kernel_rfl) (fun _ _ _ => id) (guard_off 13 false 113 rfl rfl true (by decide) rfl) ?_
             refine al_off 17 117 (lb 28 262143) rfl rfl (by kernel_rfl) (fun _ _ _ => id) (guard_off 13 false 113 rfl rfl true (by decide) rfl) ?_
             simp only [ls0, ls1]
             refine al_off 18 118 (lb 28 524287) rfl rfl (by kernel_rfl) (fun _ _ _ => id) (guard_off 13 false 113 rfl rfl true (by decide) rfl) ?_
             refine al_off 19 119 (lb 28 1048575) rfl rfl (by kernel_rfl) (fun _ _ _ => id) (guard_off 13 false 113 rfl rfl true (by decide) rfl) ?_
             refine al_off 20 120 (lb 28 2097151) rfl rfl (by kernel_rfl) (fun _ _ _ => id) (guard_off 13 false 113 rfl rfl true (by decide) rfl) ?_
             refine al_off 21 121 (lb 28 4194303) rfl rfl (by kernel_rfl) (fun _ _ _ => id) (guard_off 13 false 113 rfl rfl true (by decide) rfl) ?_
             simp only [ls0, ls1]
             refine al_off 22 122 (lb 28 8388607) rfl rfl (by kernel_rfl) (fun _ _ _ => id) (guard_off 13 false 113 rfl rfl true (by decide) rfl) ?_
             refine al_off 23 123 (lb 28 16777215) rfl rfl (by kernel_rfl) (fun _ _ _ => id) (guard_off 13 false 113 rfl rfl true (by decide) rfl) ?_
             refine al_off 24 124 (lb 28 33554431) rfl rfl (by kernel_rfl) (fun _ _ _ => id) (guard_off 13 false 113 rfl rfl true (by decide) rfl) ?_
             refine al_off 25 125 (lb 28 67108863) rfl rfl (by kernel_rfl) (fun _ _ _ => id) (guard_off 13 false 113 rfl rfl true (by decide) rfl) ?_
             simp only [ls0, ls1]
             refine al_off 26 126 (lb 28 134217727) rfl rfl (by kernel_rfl) (fun _ _ _ => id) (guard_off 13 false 113 rfl rfl true (by decide) rfl) ?_
             refine al_pure 27 127 (.bool true) (lb 28 268435455) rfl rfl (by kernel_rfl) (fun _ _ _ => id) rfl (fun w_ => xr_pick true _ rfl rfl rfl) ?_
             refine al_end (by kernel_rfl) ?_
             (try simp only [ls0, ls1])
             refine hK4829 _ _ ?_
             (try clear hK4829 K4829)
             refine wp_cond_true rfl ?_
             refine wp_seq_k fun K4916 hK4916 => ?_
             refine wl_region ?_
             refine st (.bool false) rfl rfl (xr_assign _ rfl rfl) ?_
             refine wl_end ?_
             (try simp only [ls0, ls1])
             refine hK4916 _ _ ?_
             (try clear hK4916 K4916)
             refine wp_ret ?_
             (try simp only [Exit.inBlock, Exit.then, Exit.noGoto])
             (try simp only [ls0, ls1])
             obtain rfl := Option.some.inj H
             refine bodyPost_ret (results_tmp rfl _ _ _) rfl ?_
             exact ⟨_, rfl, HS4819⟩
            rw [if_neg c4827] at H
            (try rw [(decide_eq_false c4827)])
            refine wp_cond_false rfl ?_
            refine wp_exit ?_
            (try simp only [ls0, ls1])
            refine hK4594 _ _ ?_
            (try clear hK4594 K4594)
            refine wl_region ?_
            refine mv_ rfl ?_
            refine st (.int .i64 (wrap64 (x4569 + 1))) rfl rfl (xr_bin _ _ _ rfl rfl rfl (B.add_i64 _ _)) ?_
            refine as_ rfl ?_
            refine wl_end ?_
            (try simp only [ls0, ls1])
            exact jmpL (fun a_ h_ => ih4587 k4824 (by omega) a_ _ h_) (fun g_ => ⟨_, wrap64 (x4569 + 1), x4813, g_, rfl, HS4819, (by omega), HJ4804, HJ4805, HJ4806, HJ4807, HJ4808, HJ4809, HJ4810, HJ4811, HJ4812, HJ4814, HG4815, H⟩) rfl
         rw [if_neg c4593] at H
         (try rw [(decide_eq_false c4593)])
         refine wp_cond_false rfl ?_
         refine wp_exit ?_
         (try simp only [ls0, ls1])
         refine hK2858 _ _ ?_
         (try clear hK2858 K2858)
         refine wp_seq_k fun K4917 hK4917 => ?_
         have hj4921 : ∀ (kq4937 : Nat) (C4922 : Nat → Nat) (w4923 : World) (x4925 : Bool) (g_ : Nat → Value), Step c w C4922 w4923 [] → kq4937 ≤ k4590 → (Ft C4922 [0] w4923 (fun w_ => Kd.string.C w_ A2685 t2676.length t2676)) → (Ft C4922 [0] w4923 (fun w_ => (Kd.slice 4 Kd.bool).C w_ A2689 t2677.length t2677)) → (Bx C4922 12 w4923 g2693 33 ([.slice A2685 t2676.length cp2686, .slice A2689 t2677.length cp2690])) → (Ft C4922 [0] w4923 (fun w_ => Kd.string.C w_ A2781 t2769.length t2769)) → (Ft C4922 [0] w4923 (fun w_ => (Kd.slice 4 Kd.bool).C w_ A2785 t2770.length t2770)) → (Own C4922 14 w4923 (Kd.slice 3 (Kd.int .i64)) 23 (.slice A2789 t2771.length cp2790) t2771) → (Own C4922 15 w4923 (Kd.slice 3 (Kd.int .i64)) 23 (.slice A2793 t2772.length cp2794) t2772) → (Bx C4922 16 w4923 g2797 41 ([.slice A2781 t2769.length cp2782, .slice A2785 t2770.length cp2786, .slice A2789 t2771.length cp2790, .slice A2793 t2772.length cp2794])) → (Ft C4922 [0] w4923 (fun w_ => (Kd.ptr 81 k81).K w_ o3889.f0 [vq3894_0])) → (Bx C4922 13 w4923 g3890 107 ([vq3894_0, .int .u32 o3889.f1.f0.f0, .int .i32 o3889.f1.f1.f0.f0, .int .u32 o3889.f1.f1.f0.f1] ++ (List.map (Value.int .i8) o3889.f2 ++ (List.map (Value.int .i8) o3889.f3 ++ ([.int .i64 x4579]))))) → (Ft C4922 [0] w4923 GTab) → blazonlaw14_LatticeNews.j2 kq4937 a1 a2 o3889 t2676 t2769 t2770 t2771 t2772 x4579 x4925 = some r → K4917 ⟨#[(g_ 0), .int .i64 a1, .int .i64 a2, (g_ 3), (g_ 4), (g_ 5), (g_ 6), (g_ 7), (g_ 8), (g_ 9), (g_ 10), (g_ 11), (g_ 12), .pointer (some ⟨g3890, 0, none⟩), (g_ 14), (g_ 15), (g_ 16), .pointer (some ⟨g2797, 0, none⟩), (g_ 18), (g_ 19), (g_ 20), .int .i64 (t2676.length : Int), (g_ 22), (g_ 23), .bool x4925, (g_ 25), (g_ 26), (g_ 27), (g_ 28), (g_ 29), (g_ 30), (g_ 31), (g_ 32), (g_ 33), (g_ 34), (g_ 35), (g_ 36), (g_ 37), (g_ 38), (g_ 39), (g_ 40), (g_ 41), (g_ 42), (g_ 43), (g_ 44), (g_ 45), (g_ 46), (g_ 47), (g_ 48), (g_ 49), (g_ 50), (g_ 51), (g_ 52), (g_ 53), (g_ 54), (g_ 55), (g_ 56), (g_ 57), (g_ 58), (g_ 59), (g_ 60), (g_ 61), (g_ 62), (g_ 63), (g_ 64), (g_ 65), (g_ 66), (g_ 67), (g_ 68), (g_ 69), (g_ 70), (g_ 71), (g_ 72), (g_ 73), (g_ 74), (g_ 75), (g_ 76), (g_ 77), (g_ 78), (g_ 79), (g_ 80), (g_ 81), (g_ 82), (g_ 83), (g_ 84), (g_ 85), (g_ 86), (g_ 87), (g_ 88), (g_ 89), (g_ 90), (g_ 91), (g_ 92), (g_ 93), (g_ 94), (g_ 95), (g_ 96), (g_ 97), (g_ 98), (g_ 99), (g_ 100), (g_ 101), (g_ 102), (g_ 103), (g_ 104), (g_ 105), (g_ 106), (g_ 107), (g_ 108), (g_ 109), (g_ 110), (g_ 111), (g_ 112), (g_ 113), (g_ 114), (g_ 115), (g_ 116), (g_ 117), (g_ 118), (g_ 119), (g_ 120), (g_ 121), (g_ 122), (g_ 123), (g_ 124), (g_ 125), (g_ 126), (g_ 127), (g_ 128), (g_ 129), (g_ 130), (g_ 131), (g_ 132), (g_ 133), (g_ 134), (g_ 135), (g_ 136), (g_ 137), (g_ 138), (g_ 139), (g_ 140), (g_ 141), (g_ 142), (g_ 143), (g_ 144), (g_ 145), (g_ 146), (g_ 147), (g_ 148), (g_ 149), (g_ 150), (g_ 151), (g_ 152), (g_ 153), (g_ 154), (g_ 155), (g_ 156), (g_ 157), (g_ 158), (g_ 159), (g_ 160), (g_ 161), (g_ 162), (g_ 163), (g_ 164), (g_ 165), (g_ 166), (g_ 167), (g_ 168), (g_ 169), (g_ 170), (g_ 171), (g_ 172), (g_ 173), (g_ 174), (g_ 175), (g_ 176), (g_ 177), (g_ 178), (g_ 179), (g_ 180), (g_ 181), (g_ 182), (g_ 183), (g_ 184), (g_ 185), (g_ 186), (g_ 187), (g_ 188), (g_ 189), (g_ 190), (g_ 191), (g_ 192), (g_ 193), (g_ 194), (g_ 195)], []⟩ w4923 := by
          intro kq4937 C4922 w4923 x4925 g_ HS4924 hk4938 HJ4926 HJ4927 HJ4928 HJ4929 HJ4930 HJ4931 HJ4932 HJ4933 HJ4934 HJ4935 HG4936 H
          cases kq4937 with
          | zero => exact absurd H (by simp [blazonlaw14_LatticeNews.j2])
          | succ k4939 =>
           simp only [blazonlaw14_LatticeNews.j2] at H
           refine hK4917 _ _ ?_
           (try clear hK4917)
           refine wp_seq_k fun K4940 hK4940 => ?_
           refine wp_seq_k fun K5073 hK5073 => ?_
           have hj5127 : ∀ (kq5145 : Nat) (C5128 : Nat → Nat) (w5129 : World) (x5131 : Bool) (x5132 : Bool) (x5142 : Int) (g_ : Nat → Value), Step c w C5128 w5129 [] → kq5145 ≤ k4939 → (Ft C5128 [0] w5129 (fun w_ => Kd.string.C w_ A2685 t2676.length t2676)) → (Ft C5128 [0] w5129 (fun w_ => (Kd.slice 4 Kd.bool).C w_ A2689 t2677.length t2677)) → (Bx C5128 12 w5129 g2693 33 ([.slice A2685 t2676.length cp2686, .slice A2689 t2677.length cp2690])) → (Ft C5128 [0] w5129 (fun w_ => Kd.string.C w_ A2781 t2769.length t2769)) → (Ft C5128 [0] w5129 (fun w_ => (Kd.slice 4 Kd.bool).C w_ A2785 t2770.length t2770)) → (Own C5128 14 w5129 (Kd.slice 3 (Kd.int .i64)) 23 (.slice A2789 t2771.length cp2790) t2771) → (Own C5128 15 w5129 (Kd.slice 3 (Kd.int .i64)) 23 (.slice A2793 t2772.length cp2794) t2772) → (Bx C5128 16 w5129 g2797 41 ([.slice A2781 t2769.length cp2782, .slice A2785 t2770.length cp2786, .slice A2789 t2771.length cp2790, .slice A2793 t2772.length cp2794])) → (Ft C5128 [0] w5129 (fun w_ => (Kd.ptr 81 k81).K w_ o3889.f0 [vq3894_0])) → (Ft C5128 [0] w5129 (fun w_ => w_.heap[g3890]? = some (.cells (List.toArray ([vq3894_0, .int .u32 o3889.f1.f0.f0, .int .i32 o3889.f1.f1.f0.f0, .int .u32 o3889.f1.f1.f0.f1] ++ (List.map (Value.int .i8) o3889.f2 ++ (List.map (Value.int .i8) o3889.f3 ++ ([.int .i64 x5142]))))) 107 (0, 0)))) → (Ft C5128 [0] w5129 GTab) → blazonlaw14_LatticeNews.j1 kq5145 o3889 t2676 t2769 t2770 t2771 t2772 x5131 x5132 x5142 = some r → K5073 ⟨#[(g_ 0), (g_ 1), (g_ 2), (g_ 3), (g_ 4), (g_ 5), (g_ 6), (g_ 7), (g_ 8), (g_ 9), (g_ 10), (g_ 11), (g_ 12), .pointer (some ⟨g3890, 0, none⟩), (g_ 14), (g_ 15), (g_ 16), .pointer (some ⟨g2797, 0, none⟩), (g_ 18), (g_ 19), (g_ 20), .int .i64 (t2676.length : Int), (g_ 22), (g_ 23), .bool x5131, (g_ 25), (g_ 26), (g_ 27), (g_ 28), (g_ 29), (g_ 30), (g_ 31), (g_ 32), (g_ 33), (g_ 34), (g_ 35), (g_ 36), (g_ 37), (g_ 38), (g_ 39), (g_ 40), (g_ 41), (g_ 42), (g_ 43), (g_ 44), (g_ 45), (g_ 46), (g_ 47), (g_ 48), (g_ 49), (g_ 50), (g_ 51), (g_ 52), (g_ 53), (g_ 54), (g_ 55), (g_ 56), (g_ 57), (g_ 58), (g_ 59), (g_ 60), (g_ 61), (g_ 62), (g_ 63), (g_ 64), (g_ 65), (g_ 66), (g_ 67), (g_ 68), (g_ 69), (g_ 70), (g_ 71), (g_ 72), (g_ 73), (g_ 74), (g_ 75), (g_ 76), (g_ 77), (g_ 78), (g_ 79), (g_ 80), (g_ 81), (g_ 82), (g_ 83), (g_ 84), (g_ 85), (g_ 86), (g_ 87), (g_ 88), (g_ 89), (g_ 90), (g_ 91), (g_ 92), (g_ 93), (g_ 94), (g_ 95), (g_ 96), (g_ 97), (g_ 98), (g_ 99), (g_ 100), (g_ 101), (g_ 102), (g_ 103), (g_ 104), (g_ 105), (g_ 106), (g_ 107), (g_ 108), (g_ 109), (g_ 110), (g_ 111), (g_ 112), (g_ 113), (g_ 114), (g_ 115), (g_ 116), (g_ 117), (g_ 118), (g_ 119), (g_ 120), (g_ 121), (g_ 122), (g_ 123), (g_ 124), (g_ 125), (g_ 126), (g_ 127), (g_ 128), (g_ 129), (g_ 130), (g_ 131), (g_ 132), (g_ 133), (g_ 134), (g_ 135), (g_ 136), (g_ 137), (g_ 138), (g_ 139), (g_ 140), (g_ 141), (g_ 142), (g_ 143), (g_ 144), (g_ 145), (g_ 146), (g_ 147), (g_ 148), (g_ 149), (g_ 150), (g_ 151), (g_ 152), (g_ 153), (g_ 154), (g_ 155), (g_ 156), (g_ 157), (g_ 158), (g_ 159), (g_ 160), (g_ 161), (g_ 162), (g_ 163), (g_ 164), (g_ 165), .bool x5132, (g_ 167), (g_ 168), (g_ 169), (g_ 170), (g_ 171), (g_ 172), (g_ 173), (g_ 174), (g_ 175), (g_ 176), (g_ 177), (g_ 178), (g_ 179), (g_ 180), (g_ 181), (g_ 182), (g_ 183), (g_ 184), (g_ 185), (g_ 186), (g_ 187), (g_ 188), (g_ 189), (g_ 190), (g_ 191), (g_ 192), (g_ 193), (g_ 194), (g_ 195)], []⟩ w5129 := by
            intro kq5145 C5128 w5129 x5131 x5132 x5142 g_ HS5130 hk5146 HJ5133 HJ5134 HJ5135 HJ5136 HJ5137 HJ5138 HJ5139 HJ5140 HJ5141 HJ5143 HG5144 H
            cases kq5145 with
            | zero => exact absurd H (by simp [blazonlaw14_LatticeNews.j1])
            | succ k5147 =>
             simp only [blazonlaw14_LatticeNews.j1] at H
             refine hK5073 _ _ ?_
             (try clear hK5073)
             by_cases c5148 : x5132 = true
             ·rw [if_pos c5148] at H
              (try rw [c5148])
              refine wp_cond_true rfl ?_
              refine wp_seq_k fun K5149 hK5149 => ?_
              refine wl_region ?_
              refine st (.bool false) rfl rfl (xr_assign _ rfl rfl) ?_
              simp only [ls0, ls1]
              refine wl_end ?_
              (try simp only [ls0, ls1])
              refine hK5149 _ _ ?_
              (try clear hK5149 K5149)
              refine wp_ret ?_
              (try simp only [Exit.inBlock, Exit.then, Exit.noGoto])
              (try simp only [ls0, ls1])
              obtain rfl := Option.some.inj H
              refine bodyPost_ret (results_tmp rfl _ _ _) rfl ?_
              exact ⟨_, rfl, HS5130⟩
             rw [if_neg c5148] at H
             (try rw [(Bool.eq_false_iff.mpr c5148)])
             refine wp_cond_false rfl ?_
             refine wp_skip ?_
             (try simp only [ls0, ls1])
             refine hK4940 _ _ ?_
             (try clear hK4940 K4940)
             refine wp_seq_k fun K5150 hK5150 => ?_
             refine wl_region ?_
             refine mv_ rfl ?_
             refine st (.int .i64 (wrap64 (2 * (t2676.length : Int)))) rfl rfl (xr_bin _ _ _ rfl rfl rfl (B.mul_i64 _ _)) ?_
             refine mv_ rfl ?_
             refine st (.int .i64 (wrap64 ((wrap64 (2 * (t2676.length : Int))) * (t2676.length : Int)))) rfl rfl (xr_bin _ _ _ rfl rfl rfl (B.mul_i64 _ _)) ?_
             simp only [ls0, ls1]
             refine as_ rfl ?_
             refine wl_end ?_
             (try simp only [ls0, ls1])
             refine hK5150 _ _ ?_
             (try clear hK5150 K5150)
             refine wp_seq_k fun K5151 hK5151 => ?_
             have hj5154 : ∀ (kq5170 : Nat) (C5155 : Nat → Nat) (w5156 : World) (x5158 : Int) (g_ : Nat → Value), Step c w C5155 w5156 [] → kq5170 ≤ k5147 → (Ft C5155 [0] w5156 (fun w_ => Kd.string.C w_ A2685 t2676.length t2676)) → (Ft C5155 [0] w5156 (fun w_ => (Kd.slice 4 Kd.bool).C w_ A2689 t2677.length t2677)) → (Bx C5155 12 w5156 g2693 33 ([.slice A2685 t2676.length cp2686, .slice A2689 t2677.length cp2690])) → (Ft C5155 [0] w5156 (fun w_ => Kd.string.C w_ A2781 t2769.length t2769)) → (Ft C5155 [0] w5156 (fun w_ => (Kd.slice 4 Kd.bool).C w_ A2785 t2770.length t2770)) → (Own C5155 14 w5156 (Kd.slice 3 (Kd.int .i64)) 23 (.slice A2789 t2771.length cp2790) t2771) → (Own C5155 15 w5156 (Kd.slice 3 (Kd.int .i64)) 23 (.slice A2793 t2772.length cp2794) t2772) → (Bx C5155 16 w5156 g2797 41 ([.slice A2781 t2769.length cp2782, .slice A2785 t2770.length cp2786, .slice A2789 t2771.length cp2790, .slice A2793 t2772.length cp2794])) → (Ft C5155 [0] w5156 (fun w_ => (Kd.ptr 81 k81).K w_ o3889.f0 [vq3894_0])) → (Ft C5155 [0] w5156 (fun w_ => w_.heap[g3890]? = some (.cells (List.toArray ([vq3894_0, .int .u32 o3889.f1.f0.f0, .int .i32 o3889.f1.f1.f0.f0, .int .u32 o3889.f1.f1.f0.f1] ++ (List.map (Value.int .i8) o3889.f2 ++ (List.map (Value.int .i8) o3889.f3 ++ ([.int .i64 x5142]))))) 107 (0, 0)))) → (Ft C5155 [0] w5156 GTab) → blazonlaw14_LatticeNews.j0 kq5170 o3889 t2769 t2770 t2771 t2772 x5142 x5158 = some r → K5151 ⟨#[(g_ 0), (g_ 1), (g_ 2), (g_ 3), (g_ 4), (g_ 5), (g_ 6), (g_ 7), (g_ 8), (g_ 9), (g_ 10), (g_ 11), (g_ 12), .pointer (some ⟨g3890, 0, none⟩), (g_ 14), (g_ 15), (g_ 16), .pointer (some ⟨g2797, 0, none⟩), (g_ 18), (g_ 19), (g_ 20), (g_ 21), (g_ 22), (g_ 23), (g_ 24), .int .i64 x5158, (g_ 26), (g_ 27), (g_ 28), (g_ 29), (g_ 30), (g_ 31), (g_ 32), (g_ 33), (g_ 34), (g_ 35), (g_ 36), (g_ 37), (g_ 38), (g_ 39), (g_ 40), (g_ 41), (g_ 42), (g_ 43), (g_ 44), (g_ 45), (g_ 46), (g_ 47), (g_ 48), (g_ 49), (g_ 50), (g_ 51), (g_ 52), (g_ 53), (g_ 54), (g_ 55), (g_ 56), (g_ 57), (g_ 58), (g_ 59), (g_ 60), (g_ 61), (g_ 62), (g_ 63), (g_ 64), (g_ 65), (g_ 66), (g_ 67), (g_ 68), (g_ 69), (g_ 70), (g_ 71), (g_ 72), (g_ 73), (g_ 74), (g_ 75), (g_ 76), (g_ 77), (g_ 78), (g_ 79), (g_ 80), (g_ 81), (g_ 82), (g_ 83), (g_ 84), (g_ 85), (g_ 86), (g_ 87), (g_ 88), (g_ 89), (g_ 90), (g_ 91), (g_ 92), (g_ 93), (g_ 94), (g_ 95), (g_ 96), (g_ 97), (g_ 98), (g_ 99), (g_ 100), (g_ 101), (g_ 102), (g_ 103), (g_ 104), (g_ 105), (g_ 106), (g_ 107), (g_ 108), (g_ 109), (g_ 110), (g_ 111), (g_ 112), (g_ 113), (g_ 114), (g_ 115), (g_ 116), (g_ 117), (g_ 118), (g_ 119), (g_ 120), (g_ 121), (g_ 122), (g_ 123), (g_ 124), (g_ 125), (g_ 126), (g_ 127), (g_ 128), (g_ 129), (g_ 130), (g_ 131), (g_ 132), (g_ 133), (g_ 134), (g_ 135), (g_ 136), (g_ 137), (g_ 138), (g_ 139), (g_ 140), (g_ 141), (g_ 142), (g_ 143), (g_ 144), (g_ 145), (g_ 146), (g_ 147), (g_ 148), (g_ 149), (g_ 150), (g_ 151), (g_ 152), (g_ 153), (g_ 154), (g_ 155), (g_ 156), (g_ 157), (g_ 158), (g_ 159), (g_ 160), (g_ 161), (g_ 162), (g_ 163), (g_ 164), (g_ 165), (g_ 166), (g_ 167), (g_ 168), (g_ 169), (g_ 170), (g_ 171), (g_ 172), (g_ 173), (g_ 174), (g_ 175), (g_ 176), (g_ 177), (g_ 178), (g_ 179), (g_ 180), (g_ 181), (g_ 182), (g_ 183), (g_ 184), (g_ 185), (g_ 186), (g_ 187), (g_ 188), (g_ 189), (g_ 190), (g_ 191), (g_ 192), (g_ 193), (g_ 194), (g_ 195)], []⟩ w5156 := by
              intro kq5170 C5155 w5156 x5158 g_ HS5157 hk5171 HJ5159 HJ5160 HJ5161 HJ5162 HJ5163 HJ5164 HJ5165 HJ5166 HJ5167 HJ5168 HG5169 H
              cases kq5170 with
              | zero => exact absurd H (by simp [blazonlaw14_LatticeNews.j0])
              | succ k5172 =>
               simp only [blazonlaw14_LatticeNews.j0] at H
               refine hK5151 _ _ ?_
               (try clear hK5151)
               refine wp_seq_k fun K5173 hK5173 => ?_
               (try simp only [ls0, ls1])
               refine al_start (lb 22 0) rfl rfl rfl (fun w_ => w_.heap[g2797]? = some (.cells (List.toArray ([.slice A2781 t2769.length cp2782, .slice A2785 t2770.length cp2786, .slice A2789 t2771.length cp2790, .slice A2793 t2772.length cp2794])) 41 (0, 0))) (HJ5166.drew).2 [] ?_
               replace HJ5161 := HJ5161.drew
               replace HJ5159 := HJ5159.drew
               replace HJ5160 := HJ5160.drew
               replace HJ5166 := HJ5166.drew
               replace HJ5162 := HJ5162.drew
               replace HJ5163 := HJ5163.drew
               replace HJ5164 := HJ5164.drew
               replace HJ5165 := HJ5165.drew
               replace HJ5168 := HJ5168.drew
               replace HJ5167 := HJ5167.drew
               replace HG5169 := HG5169.drew
               replace HS5157 := Step.ofDrew HS5157
               generalize w5156.drew = w5174 at *
               refine al_mv 0 (lb 22 1) rfl rfl (by kernel_rfl) (fun _ _ _ => id) rfl ?_
               refine al_mv 2 (lb 22 5) rfl rfl (by kernel_rfl) (fun _ _ _ => id) rfl ?_
               have HP5175 : Ft C5155 [0] w5174 (fun w_ => (Kd.ptr 107 k107).K w_ (some (⟨o3889.f0, (⟨(⟨o3889.f1.f0.f0⟩ : S92), (⟨(⟨o3889.f1.f1.f0.f0, o3889.f1.f1.f0.f1⟩ : S94)⟩ : S96)⟩ : S98), o3889.f2, o3889.f3, (⟨x5142⟩ : S105)⟩ : S107)) [.pointer (some ⟨g3890, 0, none⟩)]) := ptr_mk (Ft.more HJ5168 rfl) (k107_mkF _ _ (⟨o3889.f0, (⟨(⟨o3889.f1.f0.f0⟩ : S92), (⟨(⟨o3889.f1.f1.f0.f0, o3889.f1.f1.f0.f1⟩ : S94)⟩ : S96)⟩ : S98), o3889.f2, o3889.f3, (⟨x5142⟩ : S105)⟩ : S107) (Ft.more HJ5167 rfl) HLq3894_4 HLq3894_5)
               obtain ⟨t5176, A5177, H⟩ := bnd H
               refine al_one 1 (lb 22 7) rfl rfl (by kernel_rfl) rfl (fun K_ hK_ => ?_)
               refine goes_ Tryd.func28 (by kernel_rfl) rfl #[.pointer (some ⟨g3890, 0, none⟩)] rfl rfl rfl (mpe_ rfl) ?_
               refine (lattice_Lattice_Asked.calls (.pointer (some ⟨g3890, 0, none⟩)) (some (⟨o3889.f0, (⟨(⟨o3889.f1.f0.f0⟩ : S92), (⟨(⟨o3889.f1.f1.f0.f0, o3889.f1.f1.f0.f1⟩ : S94)⟩ : S96)⟩ : S98), o3889.f2, o3889.f3, (⟨x5142⟩ : S105)⟩ : S107) : Option S107) t5176  (fun z_ => pal [(0, 0)] (C5155 z_)) w5174 (fun _ => pal_lt rfl _) (Ft.arg HP5175 rfl) A5177).mono ?_
               rintro _ w5179 ⟨C5180, rfl, hs5181⟩
               refine ⟨_, rfl, ?_⟩
               replace hs5181 := Step.lift (U := [(0, 0)]) hs5181 [] rfl rfl
               generalize up C5155 C5180 w5174.heap.size [(0, 0)] = C5180_ at hs5181
               replace HJ5161 := HJ5161.thru hs5181 rfl
               replace HJ5159 := HJ5159.thru hs5181 rfl
               replace HJ5160 := HJ5160.thru hs5181 rfl
               replace HJ5166 := HJ5166.thru hs5181 rfl
               replace HJ5162 := HJ5162.thru hs5181 rfl
               replace HJ5163 := HJ5163.thru hs5181 rfl
               replace HJ5164 := HJ5164.thru hs5181 rfl
               replace HJ5165 := HJ5165.thru hs5181 rfl
               replace HJ5168 := HJ5168.thru hs5181 rfl
               replace HJ5167 := HJ5167.thru hs5181 rfl
               replace HG5169 := HG5169.thru hs5181 rfl
               replace HS5157 := HS5157.trans hs5181 hc rfl
               refine hK_ _ _ (HJ5166).2 ?_
               clear hK_ K_
               (try simp only [Act.put, List.setIfInBounds_toArray, ls0, ls1])
               refine al_pure 3 178 (.bool (decide (t5176 = x5158))) (lb 22 15) rfl rfl (by kernel_rfl) (fun _ _ _ => id) rfl (fun w_ => xr_bin _ _ _ rfl rfl rfl (B.eql_i64 _ _)) ?_
               refine al_mv 4 (lb 22 31) rfl rfl (by kernel_rfl) (fun _ _ _ => id) rfl ?_
               by_cases c5182 : t5176 = x5158
               ·rw [if_pos c5182] at H
                (try rw [(decide_eq_true c5182)])
                refine al_mv 5 (lb 22 63) rfl rfl (by kernel_rfl) (fun _ _ _ => id) (guard_on 4 true 179 rfl rfl rfl) ?_
                refine al_take 7 182 (.agg #[.slice A2781 t2769.length cp2782, .slice A2785 t2770.length cp2786, .slice A2789 t2771.length cp2790, .slice A2793 t2772.length cp2794]) (lb 22 191) rfl rfl (by kernel_rfl) (fun _ _ _ => id) (guard_on 4 true 179 rfl rfl rfl) (fun w_ hS_ => xr_load _ _ rfl rfl (load_agg (cs := [.slice A2781 t2769.length cp2782, .slice A2785 t2770.length cp2786, .slice A2789 t2771.length cp2790, .slice A2793 t2772.length cp2794]) Tryd.underlying41 rfl (by kernel_rfl) (bx_cells hS_ 0 rfl))) (HJ5166).2 ?_
                simp only [ls0, ls1]
                have HP5183 : Ft C5180_ [0] w5179 (fun w_ => (Kd.ptr 107 k107).K w_ (some (⟨o3889.f0, (⟨(⟨o3889.f1.f0.f0⟩ : S92), (⟨(⟨o3889.f1.f1.f0.f0, o3889.f1.f1.f0.f1⟩ : S94)⟩ : S96)⟩ : S98), o3889.f2, o3889.f3, (⟨x5142⟩ : S105)⟩ : S107)) [.pointer (some ⟨g3890, 0, none⟩)]) := ptr_mk (Ft.more HJ5168 rfl) (k107_mkF _ _ (⟨o3889.f0, (⟨(⟨o3889.f1.f0.f0⟩ : S92), (⟨(⟨o3889.f1.f1.f0.f0, o3889.f1.f1.f0.f1⟩ : S94)⟩ : S96)⟩ : S98), o3889.f2, o3889.f3, (⟨x5142⟩ : S105)⟩ : S107) (Ft.more HJ5167 rfl) HLq3894_4 HLq3894_5)
                obtain ⟨t5184, A5185, H⟩ := bnd H
                refine al_one 6 (lb 22 255) rfl rfl (by kernel_rfl) rfl (fun K_ hK_ => ?_)
                refine goes_ Tryd.func26 (by kernel_rfl) rfl #[.pointer (some ⟨g3890, 0, none⟩)] (guard_on 4 true 179 rfl rfl rfl) rfl rfl (mpe_ rfl) ?_
                refine (lattice_Lattice_Bottom.calls k5172 (.pointer (some ⟨g3890, 0, none⟩)) (some (⟨o3889.f0, (⟨(⟨o3889.f1.f0.f0⟩ : S92), (⟨(⟨o3889.f1.f1.f0.f0, o3889.f1.f1.f0.f1⟩ : S94)⟩ : S96)⟩ : S98), o3889.f2, o3889.f3, (⟨x5142⟩ : S105)⟩ : S107) : Option S107) t5184  (fun z_ => pal [(0, 0)] (C5180_ z_)) w5179 (fun _ => pal_lt rfl _) (Ft.arg HP5183 rfl) A5185).mono ?_
                rintro _ w5187 ⟨C5188, rfl, hs5189⟩
                refine ⟨_, rfl, ?_⟩
                replace hs5189 := Step.lift (U := [(0, 0)]) hs5189 [] rfl rfl
                generalize up C5180_ C5188 w5179.heap.size [(0, 0)] = C5188_ at hs5189
                replace HJ5161 := HJ5161.thru hs5189 rfl
                replace HJ5159 := HJ5159.thru hs5189 rfl
                replace HJ5160 := HJ5160.thru hs5189 rfl
                replace HJ5166 := HJ5166.thru hs5189 rfl
                replace HJ5162 := HJ5162.thru hs5189 rfl
                replace HJ5163 := HJ5163.thru hs5189 rfl
                replace HJ5164 := HJ5164.thru hs5189 rfl
                replace HJ5165 := HJ5165.thru hs5189 rfl
                replace HJ5168 := HJ5168.thru hs5189 rfl
                replace HJ5167 := HJ5167.thru hs5189 rfl
                replace HG5169 := HG5169.thru hs5189 rfl
                replace HS5157 := HS5157.trans hs5189 hc rfl
                refine hK_ _ _ (HJ5166).2 ?_
                clear hK_ K_
                (try simp only [Act.put, List.setIfInBounds_toArray, ls0, ls1])
                obtain ⟨t5190, A5191, H⟩ := bnd H
                refine al_one 8 (lb 22 511) rfl rfl (by kernel_rfl) rfl (fun K_ hK_ => ?_)
                refine goes_ Tryd.func29 (by kernel_rfl) rfl #[.agg #[.slice A2781 t2769.length cp2782, .slice A2785 t2770.length cp2786, .slice A2789 t2771.length cp2790, .slice A2793 t2772.length cp2794]] (guard_on 4 true 179 rfl rfl rfl) rfl rfl (mpe_ rfl) ?_
                refine (blazonref14_Lattice_Bottom.calls k5172 A2781 cp2782 t2769 A2785 cp2786 t2770 A2789 cp2790 t2771 A2793 cp2794 t2772 t5190  (fun z_ => pal [(0, 0), (14, 0), (15, 0)] (C5188_ z_)) w5187 (fun _ => pal_lt rfl _) (Ft.arg HJ5162 rfl) HC2784 (Ft.arg HJ5163 rfl) HC2788 (Ft.arg (HJ5164.ft) rfl) HC2792 (Ft.arg (HJ5165.ft) rfl) HC2796 A5191).mono ?_
                rintro _ w5193 ⟨C5194, rfl, hs5195⟩
                refine ⟨_, rfl, ?_⟩
                replace hs5195 := Step.lift (U := [(0, 0)]) hs5195 [] rfl rfl
                generalize up C5188_ C5194 w5187.heap.size [(0, 0)] = C5194_ at hs5195
                replace HJ5161 := HJ5161.thru hs5195 rfl
                replace HJ5159 := HJ5159.thru hs5195 rfl
                replace HJ5160 := HJ5160.thru hs5195 rfl
                replace HJ5166 := HJ5166.thru hs5195 rfl
                replace HJ5162 := HJ5162.thru hs5195 rfl
                replace HJ5163 := HJ5163.thru hs5195 rfl
                replace HJ5164 := HJ5164.thru hs5195 rfl
                replace HJ5165 := HJ5165.thru hs5195 rfl
                replace HJ5168 := HJ5168.thru hs5195 rfl
                replace HJ5167 := HJ5167.thru hs5195 rfl
                replace HG5169 := HG5169.thru hs5195 rfl
                replace HS5157 := HS5157.trans hs5195 hc rfl
                refine hK_ _ _ (HJ5166).2 ?_
                clear hK_ K_
                (try simp only [Act.put, List.setIfInBounds_toArray, ls0, ls1])
                refine al_pure 9 184 (.bool (decide (t5184 = t5190))) (lb 22 1023) rfl rfl (by kernel_rfl) (fun _ _ _ => id) (guard_on 4 true 179 rfl rfl rfl) (fun w_ => xr_bin _ _ _ rfl rfl rfl (B.eql_i64 _ _)) ?_
                refine al_pure 10 185 (.bool (decide (t5184 = t5190))) (lb 22 2047) rfl rfl (by kernel_rfl) (fun _ _ _ => id) rfl (fun w_ => xr_pick true _ rfl rfl rfl) ?_
                refine al_mv 11 (lb 22 4095) rfl rfl (by kernel_rfl) (fun _ _ _ => id) rfl ?_
                by_cases c5196 : t5184 = t5190
                ·rw [if_pos c5196] at H
                 (try rw [(decide_eq_true c5196)])
                 refine al_mv 12 (lb 22 8191) rfl rfl (by kernel_rfl) (fun _ _ _ => id) (guard_on 11 true 186 rfl rfl rfl) ?_
                 simp only [ls0, ls1]
                 refine al_take 14 189 (.agg #[.slice A2781 t2769.length cp2782, .slice A2785 t2770.length cp2786, .slice A2789 t2771.length cp2790, .slice A2793 t2772.length cp2794]) (lb 22 24575) rfl rfl (by kernel_rfl) (fun _ _ _ => id) (guard_on 11 true 186 rfl rfl rfl) (fun w_ hS_ => xr_load _ _ rfl rfl (load_agg (cs := [.slice A2781 t2769.length cp2782, .slice A2785 t2770.length cp2786, .slice A2789 t2771.length cp2790, .slice A2793 t2772.length cp2794]) Tryd.underlying41 rfl (by kernel_rfl) (bx_cells hS_ 0 rfl))) (HJ5166).2 ?_
                 have HP5197 : Ft C5194_ [0] w5193 (fun w_ => (Kd.ptr 107 k107).K w_ (some (⟨o3889.f0, (⟨(⟨o3889.f1.f0.f0⟩ : S92), (⟨(⟨o3889.f1.f1.f0.f0, o3889.f1.f1.f0.f1⟩ : S94)⟩ : S96)⟩ : S98), o3889.f2, o3889.f3, (⟨x5142⟩ : S105)⟩ : S107)) [.pointer (some ⟨g3890, 0, none⟩)]) := ptr_mk (Ft.more HJ5168 rfl) (k107_mkF _ _ (⟨o3889.f0, (⟨(⟨o3889.f1.f0.f0⟩ : S92), (⟨(⟨o3889.f1.f1.f0.f0, o3889.f1.f1.f0.f1⟩ : S94)⟩ : S96)⟩ : S98), o3889.f2, o3889.f3, (⟨x5142⟩ : S105)⟩ : S107) (Ft.more HJ5167 rfl) HLq3894_4 HLq3894_5)
                 obtain ⟨t5198, A5199, H⟩ := bnd H
                 refine al_one 13 (lb 22 32767) rfl rfl (by kernel_rfl) rfl (fun K_ hK_ => ?_)
                 refine goes_ Tryd.func25 (by kernel_rfl) rfl #[.pointer (some ⟨g3890, 0, none⟩)] (guard_on 11 true 186 rfl rfl rfl) rfl rfl (mpe_ rfl) ?_
                 refine (lattice_Lattice_Top.calls k5172 (.pointer (some ⟨g3890, 0, none⟩)) (some (⟨o3889.f0, (⟨(⟨o3889.f1.f0.f0⟩ : S92), (⟨(⟨o3889.f1.f1.f0.f0, o3889.f1.f1.f0.f1⟩ : S94)⟩ : S96)⟩ : S98), o3889.f2, o3889.f3, (⟨x5142⟩ : S105)⟩ : S107) : Option S107) t5198  (fun z_ => pal [(0, 0)] (C5194_ z_)) w5193 (fun _ => pal_lt rfl _) (Ft.arg HP5197 rfl) A5199).mono ?_
                 rintro _ w5201 ⟨C5202, rfl, hs5203⟩
                 refine ⟨_, rfl, ?_⟩
                 replace hs5203 := Step.lift (U := [(0, 0)]) hs5203 [] rfl rfl
                 generalize up C5194_ C5202 w5193.heap.size [(0, 0)] = C5202_ at hs5203
                 replace HJ5161 := HJ5161.thru hs5203 rfl
                 replace HJ5159 := HJ5159.thru hs5203 rfl
                 replace HJ5160 := HJ5160.thru hs5203 rfl
                 replace HJ5166 := HJ5166.thru hs5203 rfl
                 replace HJ5162 := HJ5162.thru hs5203 rfl
                 replace HJ5163 := HJ5163.thru hs5203 rfl
                 replace HJ5164 := HJ5164.thru hs5203 rfl
                 replace HJ5165 := HJ5165.thru hs5203 rfl
                 replace HJ5168 := HJ5168.thru hs5203 rfl
                 replace HJ5167 := HJ5167.thru hs5203 rfl
                 replace HG5169 := HG5169.thru hs5203 rfl
                 replace HS5157 := HS5157.trans hs5203 hc rfl
                 refine hK_ _ _ (HJ5166).2 ?_
                 clear hK_ K_
                 (try simp only [Act.put, List.setIfInBounds_toArray, ls0, ls1])
                 obtain ⟨t5204, A5205, H⟩ := bnd H
                 refine al_one 15 (lb 22 65535) rfl rfl (by kernel_rfl) rfl (fun K_ hK_ => ?_)
                 refine goes_ Tryd.func30 (by kernel_rfl) rfl #[.agg #[.slice A2781 t2769.length cp2782, .slice A2785 t2770.length cp2786, .slice A2789 t2771.length cp2790, .slice A2793 t2772.length cp2794]] (guard_on 11 true 186 rfl rfl rfl) rfl rfl (mpe_ rfl) ?_
                 refine (blazonref14_Lattice_Top.calls k5172 A2781 cp2782 t2769 A2785 cp2786 t2770 A2789 cp2790 t2771 A2793 cp2794 t2772 t5204  (fun z_ => pal [(0, 0), (14, 0), (15, 0)] (C5202_ z_)) w5201 (fun _ => pal_lt rfl _) (Ft.arg HJ5162 rfl) HC2784 (Ft.arg HJ5163 rfl) HC2788 (Ft.arg (HJ5164.ft) rfl) HC2792 (Ft.arg (HJ5165.ft) rfl) HC2796 A5205).mono ?_
                 rintro _ w5207 ⟨C5208, rfl, hs5209⟩
                 refine ⟨_, rfl, ?_⟩
                 replace hs5209 := Step.lift (U := [(0, 0)]) hs5209 [] rfl rfl
                 generalize up C5202_ C5208 w5201.heap.size [(0, 0)] = C5208_ at hs5209
                 replace HJ5161 := HJ5161.thru hs5209 rfl
                 replace HJ5159 := HJ5159.thru hs5209 rfl
                 replace HJ5160 := HJ5160.thru hs5209 rfl
                 replace HJ5166 := HJ5166.thru hs5209 rfl
                 replace HJ5162 := HJ5162.thru hs5209 rfl
                 replace HJ5163 := HJ5163.thru hs5209 rfl
                 replace HJ5164 := HJ5164.thru hs5209 rfl
                 replace HJ5165 := HJ5165.thru hs5209 rfl
                 replace HJ5168 := HJ5168.thru hs5209 rfl
                 replace HJ5167 := HJ5167.thru hs5209 rfl
                 replace HG5169 := HG5169.thru hs5209 rfl
                 replace HS5157 := HS5157.trans hs5209 hc rfl
                 refine hK_ _ _ (HJ5166).2 ?_
                 clear hK_ K_
                 (try simp only [Act.put, List.setIfInBounds_toArray, ls0, ls1])
                 refine al_pure 16 191 (.bool (decide (t5198 = t5204))) (lb 22 131071) rfl rfl (by kernel_rfl) (fun _ _ _ => id) (guard_on 11 true 186 rfl rfl rfl) (fun w_ => xr_bin _ _ _ rfl rfl rfl (B.eql_i64 _ _)) ?_
                 refine al_pure 17 192 (.bool (decide (t5198 = t5204))) (lb 22 262143) rfl rfl (by kernel_rfl) (fun _ _ _ => id) rfl (fun w_ => xr_pick true _ rfl rfl rfl) ?_
                 refine al_mv 18 (lb 22 524287) rfl rfl (by kernel_rfl) (fun _ _ _ => id) rfl ?_
                 by_cases c5210 : t5198 = t5204
                 ·rw [if_pos c5210] at H
                  (try rw [(decide_eq_true c5210)])
                  obtain ⟨t5211, A5212, H⟩ := bnd H
                  refine al_one 19 (lb 22 1048575) rfl rfl (by kernel_rfl) rfl (fun K_ hK_ => ?_)
                  refine goes_ Tryd.func14 (by kernel_rfl) rfl #[] (guard_on 18 true 193 rfl rfl rfl) rfl rfl (mpe_ rfl) ?_
                  refine (blazonlaw14_awake.calls k5172 t5211  (fun z_ => pal [(0, 0)] (C5208_ z_)) w5207 (fun _ => pal_lt rfl _) (Ft.arg HG5169 rfl) A5212).mono ?_
                  rintro _ w5214 ⟨C5215, rfl, hs5216⟩
                  refine ⟨_, rfl, ?_⟩
                  replace hs5216 := Step.lift (U := [(0, 0)]) hs5216 [] rfl rfl
                  generalize up C5208_ C5215 w5207.heap.size [(0, 0)] = C5215_ at hs5216
                  replace HJ5161 := HJ5161.thru hs5216 rfl
                  replace HJ5159 := HJ5159.thru hs5216 rfl
                  replace HJ5160 := HJ5160.thru hs5216 rfl
                  replace HJ5166 := HJ5166.thru hs5216 rfl
                  replace HJ5162 := HJ5162.thru hs5216 rfl
                  replace HJ5163 := HJ5163.thru hs5216 rfl
                  replace HJ5164 := HJ5164.thru hs5216 rfl
                  replace HJ5165 := HJ5165.thru hs5216 rfl
                  replace HJ5168 := HJ5168.thru hs5216 rfl
                  replace HJ5167 := HJ5167.thru hs5216 rfl
                  replace HG5169 := HG5169.thru hs5216 rfl
                  replace HS5157 := HS5157.trans hs5216 hc rfl
                  refine hK_ _ _ (HJ5166).2 ?_
                  clear hK_ K_
                  (try simp only [Act.put, List.setIfInBounds_toArray, ls0, ls1])
                  refine al_pure 20 195 (.bool t5211) (lb 22 2097151) rfl rfl (by kernel_rfl) (fun _ _ _ => id) rfl (fun w_ => xr_pick true _ rfl rfl rfl) ?_
                  refine al_as 21 (lb 22 4194303) rfl rfl (by kernel_rfl) (fun _ _ _ => id) rfl ?_
                  refine al_end (by kernel_rfl) ?_
                  (try simp only [ls0, ls1])
                  refine hK5173 _ _ ?_
                  (try clear hK5173 K5173)
                  refine wp_ret ?_
                  (try simp only [Exit.inBlock, Exit.then, Exit.noGoto])
                  (try simp only [ls0, ls1])
                  obtain rfl := Option.some.inj H
                  refine bodyPost_ret (results_tmp rfl _ _ _) rfl ?_
                  exact ⟨_, rfl, HS5157⟩
                 rw [if_neg c5210] at H
                 (try rw [(decide_eq_false c5210)])
                 refine al_off 19 194 (lb 22 1048575) rfl rfl (by kernel_rfl) (fun _ _ _ => id) (guard_off 18 true 193 rfl rfl false (by decide) rfl) ?_
                 refine al_pure 20 195 (.bool false) (lb 22 2097151) rfl rfl (by kernel_rfl) (fun _ _ _ => id) rfl (fun w_ => xr_pick false _ rfl rfl rfl) ?_
                 refine al_as 21 (lb 22 4194303) rfl rfl (by kernel_rfl) (fun _ _ _ => id) rfl ?_
                 refine al_end (by kernel_rfl) ?_
                 (try simp only [ls0, ls1])
                 refine hK5173 _ _ ?_
                 (try clear hK5173 K5173)
                 refine wp_ret ?_
                 (try simp only [Exit.inBlock, Exit.then, Exit.noGoto])
                 (try simp only [ls0, ls1])
                 obtain rfl := Option.some.inj H
                 refine bodyPost_ret (results_tmp rfl _ _ _) rfl ?_
                 exact ⟨_, rfl, HS5157⟩
                rw [if_neg c5196] at H
                (try rw [(decide_eq_false c5196)])
                refine al_off 12 187 (lb 22 8191) rfl rfl (by kernel_rfl) (fun _ _ _ => id) (guard_off 11 true 186 rfl rfl false (by decide) rfl) ?_
                refine al_off 13 188 (lb 22 16383) rfl rfl (by kernel_rfl) (fun _ _ _ => id) (guard_off 11 true 186 rfl rfl false (by decide) rfl) ?_
                refine al_off 14 189 (lb 22 32767) rfl rfl (by kernel_rfl) (fun _ _ _ => id) (guard_off 11 true 186 rfl rfl false (by decide) rfl) ?_
                refine al_off 15 190 (lb 22 65535) rfl rfl (by kernel_rfl) (fun _ _ _ => id) (guard_off 11 true 186 rfl rfl false (by decide) rfl) ?_
                simp only [ls0, ls1]
                refine al_off 16 191 (lb 22 131071) rfl rfl (by kernel_rfl) (fun _ _ _ => id) (guard_off 11 true 186 rfl rfl false (by decide) rfl) ?_
                refine al_pure 17 192 (.bool false) (lb 22 262143) rfl rfl (by kernel_rfl) (fun _ _ _ => id) rfl (fun w_ => xr_pick false _ rfl rfl rfl) ?_
                refine al_mv 18 (lb 22 524287) rfl rfl (by kernel_rfl) (fun _ _ _ => id) rfl ?_
                refine al_off 19 194 (lb 22 1048575) rfl rfl (by kernel_rfl) (fun _ _ _ => id) (guard_off 18 true 193 rfl rfl false (by decide) rfl) ?_
                simp only [ls0, ls1]
                refine al_pure 20 195 (.bool false) (lb 22 2097151) rfl rfl (by kernel_rfl) (fun _ _ _ => id) rfl (fun w_ => xr_pick false _ rfl rfl rfl) ?_
                refine al_as 21 (lb 22 4194303) rfl rfl (by kernel_rfl) (fun _ _ _ => id) rfl ?_
                refine al_end (by kernel_rfl) ?_
                (try simp only [ls0, ls1])
                refine hK5173 _ _ ?_
                (try clear hK5173 K5173)
                refine wp_ret ?_
                (try simp only [Exit.inBlock, Exit.then, Exit.noGoto])
                (try simp only [ls0, ls1])
                obtain rfl := Option.some.inj H
                refine bodyPost_ret (results_tmp rfl _ _ _) rfl ?_
                exact ⟨_, rfl, HS5157⟩
               rw [if_neg c5182] at H
               (try rw [(decide_eq_false c5182)])
               refine al_off 5 180 (lb 22 63) rfl rfl (by kernel_rfl) (fun _ _ _ => id) (guard_off 4 true 179 rfl rfl false (by decide) rfl) ?_
               refine al_off 6 181 (lb 22 127) rfl rfl (by kernel_rfl) (fun _ _ _ => id) (guard_off 4 true 179 rfl rfl false (by decide) rfl) ?_
               refine al_off 7 182 (lb 22 255) rfl rfl (by kernel_rfl) (fun _ _ _ => id) (guard_off 4 true 179 rfl rfl false (by decide) rfl) ?_
               refine al_off 8 183 (lb 22 511) rfl rfl (by kernel_rfl) (fun _ _ _ => id) (guard_off 4 true 179 rfl rfl false (by decide) rfl) ?_
               simp only [ls0, ls1]
               refine al_off 9 184 (lb 22 1023) rfl rfl (by kernel_rfl) (fun _ _ _ => id) (guard_off 4 true 179 rfl rfl false (by decide) rfl) ?_
               refine al_pure 10 185 (.bool false) (lb 22 2047) rfl rfl (by kernel_rfl) (fun _ _ _ => id) rfl (fun w_ => xr_pick false _ rfl rfl rfl) ?_
               refine al_mv 11 (lb 22 4095) rfl rfl (by kernel_rfl) (fun _ _ _ => id) rfl ?_
               refine al_off 12 187 (lb 22 8191) rfl rfl (by kernel_rfl) (fun _ _ _ => id) (guard_off 11 true 186 rfl rfl false (by decide) rfl) ?_
               simp only [ls0, ls1]
               refine al_off 13 188 (lb 22 16383) rfl rfl (by kernel_rfl) (fun _ _ _ => id) (guard_off 11 true 186 rfl rfl false (by decide) rfl) ?_
               refine al_off 14 189 (lb 22 32767) rfl rfl (by kernel_rfl) (fun _ _ _ => id) (guard_off 11 true 186 rfl rfl false (by decide) rfl) ?_
               refine al_off 15 190 (lb 22 65535) rfl rfl (by kernel_rfl) (fun _ _ _ => id) (guard_off 11 true 186 rfl rfl false (by decide) rfl) ?_
               refine al_off 16 191 (lb 22 131071) rfl rfl (by kernel_rfl) (fun _ _ _ => id) (guard_off 11 true 186 rfl rfl false (by decide) rfl) ?_
               simp only [ls0, ls1]
               refine al_pure 17 192 (.bool false) (lb 22 262143) rfl rfl (by kernel_rfl) (fun _ _ _ => id) rfl (fun w_ => xr_pick false _ rfl rfl rfl) ?_
               refine al_mv 18 (lb 22 524287) rfl rfl (by kernel_rfl) (fun _ _ _ => id) rfl ?_
               refine al_off 19 194 (lb 22 1048575) rfl rfl (by kernel_rfl) (fun _ _ _ => id) (guard_off 18 true 193 rfl rfl false (by decide) rfl) ?_
               refine al_pure 20 195 (.bool false) (lb 22 2097151) rfl rfl (by kernel_rfl) (fun _ _ _ => id) rfl (fun w_ => xr_pick false _ rfl rfl rfl) ?_
               simp only [ls0, ls1]
               refine al_as 21 (lb 22 4194303) rfl rfl (by kernel_rfl) (fun _ _ _ => id) rfl ?_
               refine al_end (by kernel_rfl) ?_
               (try simp only [ls0, ls1])
               refine hK5173 _ _ ?_
               (try clear hK5173 K5173)
               refine wp_ret ?_
               (try simp only [Exit.inBlock, Exit.then, Exit.noGoto])
               (try simp only [ls0, ls1])
               obtain rfl := Option.some.inj H
               refine bodyPost_ret (results_tmp rfl _ _ _) rfl ?_
               exact ⟨_, rfl, HS5157⟩
             refine wp_seq_k fun K5217 hK5217 => ?_
             refine wl_region ?_
             refine mv_ rfl ?_
             refine st (.bool (!x5131)) rfl rfl (xr_un (.bool x5131) _ rfl rfl (by first | rfl | (go_simp; done) | (go_simp; rfl) | (go_simp; exact i64_w _) | (go_simp; exact i32_w _))) ?_
             refine wl_end ?_
             (try simp only [ls0, ls1])
             refine hK5217 _ _ ?_
             (try clear hK5217 K5217)
             by_cases c5218 : x5131 = true
             ·rw [if_pos c5218] at H
              (try rw [c5218])
              (try simp only [Bool.not_true, Bool.not_false])
              refine wp_cond_false rfl ?_
              refine wp_skip ?_
              (try simp only [ls0, ls1])
              exact jmp (fun g_ => hj5154 _ _ _ (wrap64 ((wrap64 (2 * (t2676.length : Int))) * (t2676.length : Int))) g_ HS5130 (by omega) HJ5133 HJ5134 HJ5135 HJ5136 HJ5137 HJ5138 HJ5139 HJ5140 HJ5141 HJ5143 HG5144 H) rfl
             rw [if_neg c5218] at H
             (try rw [(Bool.eq_false_iff.mpr c5218)])
             (try simp only [Bool.not_true, Bool.not_false])
             refine wp_cond_true rfl ?_
             refine wl_region ?_
             refine mv_ rfl ?_
             refine st (.int .i64 (wrap64 ((wrap64 ((wrap64 (2 * (t2676.length : Int))) * (t2676.length : Int))) + 2))) rfl rfl (xr_bin _ _ _ rfl rfl rfl (B.add_i64 _ _)) ?_
             refine as_ rfl ?_
             refine wl_end ?_
             (try simp only [ls0, ls1])
             exact jmp (fun g_ => hj5154 _ _ _ (wrap64 ((wrap64 ((wrap64 (2 * (t2676.length : Int))) * (t2676.length : Int))) + 2)) g_ HS5130 (by omega) HJ5133 HJ5134 HJ5135 HJ5136 HJ5137 HJ5138 HJ5139 HJ5140 HJ5141 HJ5143 HG5144 H) rfl
           refine wl_region ?_
           refine mv_ rfl ?_
           refine st (.bool (!x4925)) rfl rfl (xr_un (.bool x4925) _ rfl rfl (by first | rfl | (go_simp; done) | (go_simp; rfl) | (go_simp; exact i64_w _) | (go_simp; exact i32_w _))) ?_
           refine mv_ rfl ?_
           by_cases c5219 : x4925 = true
           ·rw [if_pos c5219] at H
            (try rw [c5219])
            (try simp only [Bool.not_true, Bool.not_false])
            refine sk_guard (guard_off 2 true 146 rfl rfl false (by decide) rfl) rfl ?_
            simp only [ls0, ls1]
            refine sk_guard (guard_off 2 true 146 rfl rfl false (by decide) rfl) rfl ?_
            refine sk_guard (guard_off 2 true 146 rfl rfl false (by decide) rfl) rfl ?_
            refine sk_guard (guard_off 2 true 146 rfl rfl false (by decide) rfl) rfl ?_
            refine sk_guard (guard_off 2 true 146 rfl rfl false (by decide) rfl) rfl ?_
            simp only [ls0, ls1]
            refine sk_guard (guard_off 2 true 146 rfl rfl false (by decide) rfl) rfl ?_
            refine sk_guard (guard_und 8 false 152 rfl rfl rfl) rfl ?_
            refine sk_guard (guard_und 8 false 152 rfl rfl rfl) rfl ?_
            refine sk_guard (guard_und 8 false 152 rfl rfl rfl) rfl ?_
            simp only [ls0, ls1]
            refine sk_guard (guard_und 8 false 152 rfl rfl rfl) rfl ?_
            refine sk_guard (guard_und 8 false 152 rfl rfl rfl) rfl ?_
            refine sk_guard (guard_off 2 true 146 rfl rfl false (by decide) rfl) rfl ?_
            refine st (.bool false) rfl rfl (xr_pick false _ rfl rfl rfl) ?_
            simp only [ls0, ls1]
            refine mv_ rfl ?_
            refine on_guard (guard_on 16 false 160 rfl rfl rfl) ?_
            refine mv_ rfl ?_
            refine on_guard (guard_on 16 false 160 rfl rfl rfl) ?_
            have HP5220 : Ft C4922 [0, 13] w4923 (fun w_ => (Kd.ptr 107 k107).K w_ (some (⟨o3889.f0, (⟨(⟨o3889.f1.f0.f0⟩ : S92), (⟨(⟨o3889.f1.f1.f0.f0, o3889.f1.f1.f0.f1⟩ : S94)⟩ : S96)⟩ : S98), o3889.f2, o3889.f3, (⟨x4579⟩ : S105)⟩ : S107)) [.pointer (some ⟨g3890, 0, none⟩)]) := ptr_mk (Ft.more (HJ4935.ft) rfl) (k107_mkF _ _ (⟨o3889.f0, (⟨(⟨o3889.f1.f0.f0⟩ : S92), (⟨(⟨o3889.f1.f1.f0.f0, o3889.f1.f1.f0.f1⟩ : S94)⟩ : S96)⟩ : S98), o3889.f2, o3889.f3, (⟨x4579⟩ : S105)⟩ : S107) (Ft.more HJ4934 rfl) HLq3894_4 HLq3894_5)
            replace HJ4928 := Bx.recol (a := 13) (b := 0) HJ4928 (by decide)
            replace HJ4926 := Ft.recol (a := 13) (b := 0) HJ4926 (.inl rfl)
            replace HJ4927 := Ft.recol (a := 13) (b := 0) HJ4927 (.inl rfl)
            replace HJ4933 := Bx.recol (a := 13) (b := 0) HJ4933 (by decide)
            replace HJ4929 := Ft.recol (a := 13) (b := 0) HJ4929 (.inl rfl)
            replace HJ4930 := Ft.recol (a := 13) (b := 0) HJ4930 (.inl rfl)
            replace HJ4931 := Own.recol (a := 13) (b := 0) HJ4931 (by decide) (by decide)
            replace HJ4932 := Own.recol (a := 13) (b := 0) HJ4932 (by decide) (by decide)
            have HX5221 := Ft.recolor (a := 13) (b := 0) (HJ4935.ft) [0] rfl
            replace HJ4934 := Ft.recol (a := 13) (b := 0) HJ4934 (.inl rfl)
            replace HG4936 := Ft.recol (a := 13) (b := 0) HG4936 (.inl rfl)
            replace HS4924 := Step.recol (a := 13) (b := 0) HS4924 hc (by decide)
            have HP5222 : Ft (recol C4922 13 0) [0] w4923 (fun w_ => (Kd.ptr 107 k107).K w_ (some (⟨o3889.f0, (⟨(⟨o3889.f1.f0.f0⟩ : S92), (⟨(⟨o3889.f1.f1.f0.f0, o3889.f1.f1.f0.f1⟩ : S94)⟩ : S96)⟩ : S98), o3889.f2, o3889.f3, (⟨x4579⟩ : S105)⟩ : S107)) [.pointer (some ⟨g3890, 0, none⟩)]) := ptr_mk (Ft.more HX5221 rfl) (k107_mkF _ _ (⟨o3889.f0, (⟨(⟨o3889.f1.f0.f0⟩ : S92), (⟨(⟨o3889.f1.f1.f0.f0, o3889.f1.f1.f0.f1⟩ : S94)⟩ : S96)⟩ : S98), o3889.f2, o3889.f3, (⟨x4579⟩ : S105)⟩ : S107) (Ft.more HJ4934 rfl) HLq3894_4 HLq3894_5)
            obtain ⟨t5223, A5224, H⟩ := bnd H
            refine st_call #[.pointer (some ⟨g3890, 0, none⟩)] rfl rfl Tryd.func27 (by kernel_rfl) rfl rfl (mp_ rfl) ?_
            refine (lattice_Lattice_Order.calls (.pointer (some ⟨g3890, 0, none⟩)) (some (⟨o3889.f0, (⟨(⟨o3889.f1.f0.f0⟩ : S92), (⟨(⟨o3889.f1.f1.f0.f0, o3889.f1.f1.f0.f1⟩ : S94)⟩ : S96)⟩ : S98), o3889.f2, o3889.f3, (⟨x4579⟩ : S105)⟩ : S107) : Option S107) t5223  (fun z_ => pal [(0, 0)] ((recol C4922 13 0) z_)) w4923 (fun _ => pal_lt rfl _) (Ft.arg HP5222 rfl) A5224).mono ?_
            rintro _ w5226 ⟨C5227, v5229, rfl, hs5228, HB5230⟩
            refine ⟨_, rfl, ?_⟩
            replace HB5230 := Ft.res (U := [(0, 0)]) HB5230 hs5228 [0] rfl rfl rfl
            replace hs5228 := Step.lift (U := [(0, 0)]) hs5228 [] rfl rfl
            generalize up (recol C4922 13 0) C5227 w4923.heap.size [(0, 0)] = C5227_ at HB5230 hs5228
            replace HJ4928 := HJ4928.thru hs5228 rfl
            replace HJ4926 := HJ4926.thru hs5228 rfl
            replace HJ4927 := HJ4927.thru hs5228 rfl
            replace HJ4933 := HJ4933.thru hs5228 rfl
            replace HJ4929 := HJ4929.thru hs5228 rfl
            replace HJ4930 := HJ4930.thru hs5228 rfl
            replace HJ4931 := HJ4931.thru hs5228 rfl
            replace HJ4932 := HJ4932.thru hs5228 rfl
            replace HX5221 := HX5221.thru hs5228 rfl
            replace HJ4934 := HJ4934.thru hs5228 rfl
            replace HG4936 := HG4936.thru hs5228 rfl
            replace HS4924 := HS4924.trans hs5228 hc rfl
            (try simp only [ls0, ls1])
            refine on_guard (guard_on 16 false 160 rfl rfl rfl) ?_
            obtain ⟨t5231, A5232, H⟩ := bnd H
            refine st_call #[v5229] rfl rfl Tryd.func21 (by kernel_rfl) rfl rfl (mp_ rfl) ?_
            refine (order_Order_Len.calls v5229 t5223 t5231  (fun z_ => pal [(0, 0)] (C5227_ z_)) w5226 (fun _ => pal_lt rfl _) (Ft.arg HB5230 rfl) A5232).mono ?_
            rintro _ w5234 ⟨C5235, rfl, hs5236⟩
            refine ⟨_, rfl, ?_⟩
            replace hs5236 := Step.lift (U := [(0, 0)]) hs5236 [] rfl rfl
            generalize up C5227_ C5235 w5226.heap.size [(0, 0)] = C5235_ at hs5236
            replace HJ4928 := HJ4928.thru hs5236 rfl
            replace HJ4926 := HJ4926.thru hs5236 rfl
            replace HJ4927 := HJ4927.thru hs5236 rfl
            replace HJ4933 := HJ4933.thru hs5236 rfl
            replace HJ4929 := HJ4929.thru hs5236 rfl
            replace HJ4930 := HJ4930.thru hs5236 rfl
            replace HJ4931 := HJ4931.thru hs5236 rfl
            replace HJ4932 := HJ4932.thru hs5236 rfl
            replace HX5221 := HX5221.thru hs5236 rfl
            replace HJ4934 := HJ4934.thru hs5236 rfl
            replace HG4936 := HG4936.thru hs5236 rfl
            replace HS4924 := HS4924.trans hs5236 hc rfl
            (try simp only [ls0, ls1])
            refine on_guard (guard_on 16 false 160 rfl rfl rfl) ?_
            refine mv_ rfl ?_
            refine on_guard (guard_on 16 false 160 rfl rfl rfl) ?_
            refine st (.bool (!decide (t5231 = (t2676.length : Int)))) rfl rfl (xr_bin _ _ _ rfl rfl rfl (B.neq_i64 _ _)) ?_
            refine st (.bool (!decide (t5231 = (t2676.length : Int)))) rfl rfl (xr_pick false _ rfl rfl rfl) ?_
            refine wl_end ?_
            (try simp only [ls0, ls1])
            exact jmp (fun g_ => hj5127 _ _ _ (true) (!decide (t5231 = (t2676.length : Int))) (x4579) g_ HS4924 (by omega) HJ4926 HJ4927 HJ4928 HJ4929 HJ4930 HJ4931 HJ4932 HJ4933 HJ4934 HX5221 HG4936 H) rfl
           rw [if_neg c5219] at H
           (try rw [(Bool.eq_false_iff.mpr c5219)])
           (try simp only [Bool.not_true, Bool.not_false])
           refine on_guard (guard_on 2 true 146 rfl rfl rfl) ?_
           refine mv_ rfl ?_
           refine on_guard (guard_on 2 true 146 rfl rfl rfl) ?_
           refine mv_ rfl ?_
           refine on_guard (guard_on 2 true 146 rfl rfl rfl) ?_
           refine mv_ rfl ?_
           refine on_guard (guard_on 2 true 146 rfl rfl rfl) ?_
           obtain ⟨⟨t5237, t5238⟩, A5239, H⟩ := bnd H
           (try dsimp only at H)
           refine st_call #[.pointer (some ⟨g3890, 0, none⟩), .int .i64 a1, .int .i64 a2] rfl rfl Tryd.func22 (by kernel_rfl) rfl rfl (mp_ rfl) ?_
           refine (lattice_Lattice_Join.calls g3890 vq3894_0 o3889.f0 o3889.f1.f0.f0 o3889.f1.f1.f0.f0 o3889.f1.f1.f0.f1 o3889.f2 o3889.f3 x4579 a1 a2 t5237 t5238  (fun z_ => pal [(0, 0), (13, 1)] (C4922 z_)) w4923 (fun _ => pal_lt rfl _) (Bx.arg HJ4935 rfl) (Ft.arg HJ4934 rfl) HLq3894_4 HLq3894_5 A5239).mono ?_
           rintro _ w5241 ⟨C5242, rfl, hs5243, HX5244⟩
           refine ⟨_, rfl, ?_⟩
           replace HX5244 := Bx.res (U := [(0, 0), (1, 13)]) (j := 13) HX5244 hs5243 (by rfl) (by decide) rfl
           replace hs5243 := Step.lift (U := [(0, 0), (1, 13)]) hs5243 [13] rfl rfl
           generalize up C4922 C5242 w4923.heap.size [(0, 0), (1, 13)] = C5242_ at HX5244 hs5243
           replace HJ4928 := HJ4928.thru hs5243 rfl
           replace HJ4926 := HJ4926.thru hs5243 rfl
           replace HJ4927 := HJ4927.thru hs5243 rfl
           replace HJ4933 := HJ4933.thru hs5243 rfl
           replace HJ4929 := HJ4929.thru hs5243 rfl
           replace HJ4930 := HJ4930.thru hs5243 rfl
           replace HJ4931 := HJ4931.thru hs5243 rfl
           replace HJ4932 := HJ4932.thru hs5243 rfl
           replace HJ4934 := HJ4934.thru hs5243 rfl
           replace HG4936 := HG4936.thru hs5243 rfl
           replace HS4924 := HS4924.trans hs5243 hc rfl
           (try simp only [ls0, ls1])
           refine on_guard (guard_on 2 true 146 rfl rfl rfl) ?_
           refine st (.bool (!decide (t5237 = (-1)))) rfl rfl (xr_bin _ _ _ rfl rfl rfl (B.neq_i64 _ _)) ?_
           refine on_guard (guard_on 2 true 146 rfl rfl rfl) ?_
           refine mv_ rfl ?_
           by_cases c5245 : t5237 = (-1)
           ·rw [if_pos c5245] at H
            (try rw [(decide_eq_true c5245)])
            (try simp only [Bool.not_true, Bool.not_false])
            refine on_guard (guard_on 8 false 152 rfl rfl rfl) ?_
            refine mv_ rfl ?_
            refine on_guard (guard_on 8 false 152 rfl rfl rfl) ?_
            refine mv_ rfl ?_
            simp only [ls0, ls1]
            refine on_guard (guard_on 8 false 152 rfl rfl rfl) ?_
            refine mv_ rfl ?_
            refine on_guard (guard_on 8 false 152 rfl rfl rfl) ?_
            obtain ⟨⟨t5246, t5247⟩, A5248, H⟩ := bnd H
            (try dsimp only at H)
            refine st_call #[.pointer (some ⟨g3890, 0, none⟩), .int .i64 a1, .int .i64 a2] rfl rfl Tryd.func23 (by kernel_rfl) rfl rfl (mp_ rfl) ?_
            refine (lattice_Lattice_Meet.calls g3890 vq3894_0 o3889.f0 o3889.f1.f0.f0 o3889.f1.f1.f0.f0 o3889.f1.f1.f0.f1 o3889.f2 o3889.f3 t5238 a1 a2 t5246 t5247  (fun z_ => pal [(0, 0), (13, 1)] (C5242_ z_)) w5241 (fun _ => pal_lt rfl _) (Bx.arg HX5244 rfl) (Ft.arg HJ4934 rfl) HLq3894_4 HLq3894_5 A5248).mono ?_
            rintro _ w5250 ⟨C5251, rfl, hs5252, HX5253⟩
            refine ⟨_, rfl, ?_⟩
            replace HX5253 := Bx.res (U := [(0, 0), (1, 13)]) (j := 13) HX5253 hs5252 (by rfl) (by decide) rfl
            replace hs5252 := Step.lift (U := [(0, 0), (1, 13)]) hs5252 [13] rfl rfl
            generalize up C5242_ C5251 w5241.heap.size [(0, 0), (1, 13)] = C5251_ at HX5253 hs5252
            replace HJ4928 := HJ4928.thru hs5252 rfl
            replace HJ4926 := HJ4926.thru hs5252 rfl
            replace HJ4927 := HJ4927.thru hs5252 rfl
            replace HJ4933 := HJ4933.thru hs5252 rfl
            replace HJ4929 := HJ4929.thru hs5252 rfl
            replace HJ4930 := HJ4930.thru hs5252 rfl
            replace HJ4931 := HJ4931.thru hs5252 rfl
            replace HJ4932 := HJ4932.thru hs5252 rfl
            replace HJ4934 := HJ4934.thru hs5252 rfl
            replace HG4936 := HG4936.thru hs5252 rfl
            replace HS4924 := HS4924.trans hs5252 hc rfl
            (try simp only [ls0, ls1])
            refine on_guard (guard_on 8 false 152 rfl rfl rfl) ?_
            refine st (.bool (!decide (t5246 = (-1)))) rfl rfl (xr_bin _ _ _ rfl rfl rfl (B.neq_i64 _ _)) ?_
            refine on_guard (guard_on 2 true 146 rfl rfl rfl) ?_
            refine st (.bool (!decide (t5246 = (-1)))) rfl rfl (xr_pick false _ rfl rfl rfl) ?_
            refine st (.bool (!decide (t5246 = (-1)))) rfl rfl (xr_pick true _ rfl rfl rfl) ?_
            refine mv_ rfl ?_
            simp only [ls0, ls1]
            by_cases c5254 : t5246 = (-1)
            ·rw [if_pos c5254] at H
             (try rw [(decide_eq_true c5254)])
             (try simp only [Bool.not_true, Bool.not_false])
             refine on_guard (guard_on 16 false 160 rfl rfl rfl) ?_
             refine mv_ rfl ?_
             refine on_guard (guard_on 16 false 160 rfl rfl rfl) ?_
             have HP5255 : Ft C5251_ [0, 13] w5250 (fun w_ => (Kd.ptr 107 k107).K w_ (some (⟨o3889.f0, (⟨(⟨o3889.f1.f0.f0⟩ : S92), (⟨(⟨o3889.f1.f1.f0.f0, o3889.f1.f1.f0.f1⟩ : S94)⟩ : S96)⟩ : S98), o3889.f2, o3889.f3, (⟨t5247⟩ : S105)⟩ : S107)) [.pointer (some ⟨g3890, 0, none⟩)]) := ptr_mk (Ft.more (HX5253.ft) rfl) (k107_mkF _ _ (⟨o3889.f0, (⟨(⟨o3889.f1.f0.f0⟩ : S92), (⟨(⟨o3889.f1.f1.f0.f0, o3889.f1.f1.f0.f1⟩ : S94)⟩ : S96)⟩ : S98), o3889.f2, o3889.f3, (⟨t5247⟩ : S105)⟩ : S107) (Ft.more HJ4934 rfl) HLq3894_4 HLq3894_5)
             replace HJ4928 := Bx.recol (a := 13) (b := 0) HJ4928 (by decide)
             replace HJ4926 := Ft.recol (a := 13) (b := 0) HJ4926 (.inl rfl)
             replace HJ4927 := Ft.recol (a := 13) (b := 0) HJ4927 (.inl rfl)
             replace HJ4933 := Bx.recol (a := 13) (b := 0) HJ4933 (by decide)
             replace HJ4929 := Ft.recol (a := 13) (b := 0) HJ4929 (.inl rfl)
             replace HJ4930 := Ft.recol (a := 13) (b := 0) HJ4930 (.inl rfl)
             replace HJ4931 := Own.recol (a := 13) (b := 0) HJ4931 (by decide) (by decide)
             replace HJ4932 := Own.recol (a := 13) (b := 0) HJ4932 (by decide) (by decide)
             have HX5256 := Ft.recolor (a := 13) (b := 0) (HX5253.ft) [0] rfl
             replace HJ4934 := Ft.recol (a := 13) (b := 0) HJ4934 (.inl rfl)
             replace HG4936 := Ft.recol (a := 13) (b := 0) HG4936 (.inl rfl)
             replace HS4924 := Step.recol (a := 13) (b := 0) HS4924 hc (by decide)
             have HP5257 : Ft (recol C5251_ 13 0) [0] w5250 (fun w_ => (Kd.ptr 107 k107).K w_ (some (⟨o3889.f0, (⟨(⟨o3889.f1.f0.f0⟩ : S92), (⟨(⟨o3889.f1.f1.f0.f0, o3889.f1.f1.f0.f1⟩ : S94)⟩ : S96)⟩ : S98), o3889.f2, o3889.f3, (⟨t5247⟩ : S105)⟩ : S107)) [.pointer (some ⟨g3890, 0, none⟩)]) := ptr_mk (Ft.more HX5256 rfl) (k107_mkF _ _ (⟨o3889.f0, (⟨(⟨o3889.f1.f0.f0⟩ : S92), (⟨(⟨o3889.f1.f1.f0.f0, o3889.f1.f1.f0.f1⟩ : S94)⟩ : S96)⟩ : S98), o3889.f2, o3889.f3, (⟨t5247⟩ : S105)⟩ : S107) (Ft.more HJ4934 rfl) HLq3894_4 HLq3894_5)
             obtain ⟨t5258, A5259, H⟩ := bnd H
             refine st_call #[.pointer (some ⟨g3890, 0, none⟩)] rfl rfl Tryd.func27 (by kernel_rfl) rfl rfl (mp_ rfl) ?_
             refine (lattice_Lattice_Order.calls (.pointer (some ⟨g3890, 0, none⟩)) (some (⟨o3889.f0, (⟨(⟨o3889.f1.f0.f0⟩ : S92), (⟨(⟨o3889.f1.f1.f0.f0, o3889.f1.f1.f0.f1⟩ : S94)⟩ : S96)⟩ : S98), o3889.f2, o3889.f3, (⟨t5247⟩ : S105)⟩ : S107) : Option S107) t5258  (fun z_ => pal [(0, 0)] ((recol C5251_ 13 0) z_)) w5250 (fun _ => pal_lt rfl _) (Ft.arg HP5257 rfl) A5259).mono ?_
             rintro _ w5261 ⟨C5262, v5264, rfl, hs5263, HB5265⟩
             refine ⟨_, rfl, ?_⟩
             replace HB5265 := Ft.res (U := [(0, 0)]) HB5265 hs5263 [0] rfl rfl rfl
             replace hs5263 := Step.lift (U := [(0, 0)]) hs5263 [] rfl rfl
             generalize up (recol C5251_ 13 0) C5262 w5250.heap.size [(0, 0)] = C5262_ at HB5265 hs5263
             replace HJ4928 := HJ4928.thru hs5263 rfl
             replace HJ4926 := HJ4926.thru hs5263 rfl
             replace HJ4927 := HJ4927.thru hs5263 rfl
             replace HJ4933 := HJ4933.thru hs5263 rfl
             replace HJ4929 := HJ4929.thru hs5263 rfl
             replace HJ4930 := HJ4930.thru hs5263 rfl
             replace HJ4931 := HJ4931.thru hs5263 rfl
             replace HJ4932 := HJ4932.thru hs5263 rfl
             replace HX5256 := HX5256.thru hs5263 rfl
             replace HJ4934 := HJ4934.thru hs5263 rfl
             replace HG4936 := HG4936.thru hs5263 rfl
             replace HS4924 := HS4924.trans hs5263 hc rfl
             (try simp only [ls0, ls1])
             refine on_guard (guard_on 16 false 160 rfl rfl rfl) ?_
             obtain ⟨t5266, A5267, H⟩ := bnd H
             refine st_call #[v5264] rfl rfl Tryd.func21 (by kernel_rfl) rfl rfl (mp_ rfl) ?_
             refine (order_Order_Len.calls v5264 t5258 t5266  (fun z_ => pal [(0, 0)] (C5262_ z_)) w5261 (fun _ => pal_lt rfl _) (Ft.arg HB5265 rfl) A5267).mono ?_
             rintro _ w5269 ⟨C5270, rfl, hs5271⟩
             refine ⟨_, rfl, ?_⟩
             replace hs5271 := Step.lift (U := [(0, 0)]) hs5271 [] rfl rfl
             generalize up C5262_ C5270 w5261.heap.size [(0, 0)] = C5270_ at hs5271
             replace HJ4928 := HJ4928.thru hs5271 rfl
             replace HJ4926 := HJ4926.thru hs5271 rfl
             replace HJ4927 := HJ4927.thru hs5271 rfl
             replace HJ4933 := HJ4933.thru hs5271 rfl
             replace HJ4929 := HJ4929.thru hs5271 rfl
             replace HJ4930 := HJ4930.thru hs5271 rfl
             replace HJ4931 := HJ4931.thru hs5271 rfl
             replace HJ4932 := HJ4932.thru hs5271 rfl
             replace HX5256 := HX5256.thru hs5271 rfl
             replace HJ4934 := HJ4934.thru hs5271 rfl
             replace HG4936 := HG4936.thru hs5271 rfl
             replace HS4924 := HS4924.trans hs5271 hc rfl
             (try simp only [ls0, ls1])
             refine on_guard (guard_on 16 false 160 rfl rfl rfl) ?_
             refine mv_ rfl ?_
             refine on_guard (guard_on 16 false 160 rfl rfl rfl) ?_
             refine st (.bool (!decide (t5266 = (t2676.length : Int)))) rfl rfl (xr_bin _ _ _ rfl rfl rfl (B.neq_i64 _ _)) ?_
             refine st (.bool (!decide (t5266 = (t2676.length : Int)))) rfl rfl (xr_pick false _ rfl rfl rfl) ?_
             refine wl_end ?_
             (try simp only [ls0, ls1])
             exact jmp (fun g_ => hj5127 _ _ _ (false) (!decide (t5266 = (t2676.length : Int))) (t5247) g_ HS4924 (by omega) HJ4926 HJ4927 HJ4928 HJ4929 HJ4930 HJ4931 HJ4932 HJ4933 HJ4934 HX5256 HG4936 H) rfl
            rw [if_neg c5254] at H
            (try rw [(decide_eq_false c5254)])
            (try simp only [Bool.not_true, Bool.not_false])
            refine sk_guard (guard_off 16 false 160 rfl rfl true (by decide) rfl) rfl ?_
            refine sk_guard (guard_off 16 false 160 rfl rfl true (by decide) rfl) rfl ?_
            refine sk_guard (guard_off 16 false 160 rfl rfl true (by decide) rfl) rfl ?_
            refine sk_guard (guard_off 16 false 160 rfl rfl true (by decide) rfl) rfl ?_
            simp only [ls0, ls1]
            refine sk_guard (guard_off 16 false 160 rfl rfl true (by decide) rfl) rfl ?_
            refine st (.bool true) rfl rfl (xr_pick true _ rfl rfl rfl) ?_
            refine wl_end ?_
            replace HJ4928 := Bx.recol (a := 13) (b := 0) HJ4928 (by decide)
            replace HJ4926 := Ft.recol (a := 13) (b := 0) HJ4926 (.inl rfl)
            replace HJ4927 := Ft.recol (a := 13) (b := 0) HJ4927 (.inl rfl)
            replace HJ4933 := Bx.recol (a := 13) (b := 0) HJ4933 (by decide)
            replace HJ4929 := Ft.recol (a := 13) (b := 0) HJ4929 (.inl rfl)
            replace HJ4930 := Ft.recol (a := 13) (b := 0) HJ4930 (.inl rfl)
            replace HJ4931 := Own.recol (a := 13) (b := 0) HJ4931 (by decide) (by decide)
            replace HJ4932 := Own.recol (a := 13) (b := 0) HJ4932 (by decide) (by decide)
            have HX5272 := Ft.recolor (a := 13) (b := 0) (HX5253.ft) [0] rfl
            replace HJ4934 := Ft.recol (a := 13) (b := 0) HJ4934 (.inl rfl)
            replace HG4936 := Ft.recol (a := 13) (b := 0) HG4936 (.inl rfl)
            replace HS4924 := Step.recol (a := 13) (b := 0) HS4924 hc (by decide)
            (try simp only [ls0, ls1])
            exact jmp (fun g_ => hj5127 _ _ _ (false) (true) (t5247) g_ HS4924 (by omega) HJ4926 HJ4927 HJ4928 HJ4929 HJ4930 HJ4931 HJ4932 HJ4933 HJ4934 HX5272 HG4936 H) rfl
           rw [if_neg c5245] at H
           (try rw [(decide_eq_false c5245)])
           (try simp only [Bool.not_true, Bool.not_false])
           refine sk_guard (guard_off 8 false 152 rfl rfl true (by decide) rfl) rfl ?_
           refine sk_guard (guard_off 8 false 152 rfl rfl true (by decide) rfl) rfl ?_
           refine sk_guard (guard_off 8 false 152 rfl rfl true (by decide) rfl) rfl ?_
           refine sk_guard (guard_off 8 false 152 rfl rfl true (by decide) rfl) rfl ?_
           simp only [ls0, ls1]
           refine sk_guard (guard_off 8 false 152 rfl rfl true (by decide) rfl) rfl ?_
           refine on_guard (guard_on 2 true 146 rfl rfl rfl) ?_
           refine st (.bool true) rfl rfl (xr_pick true _ rfl rfl rfl) ?_
           refine st (.bool true) rfl rfl (xr_pick true _ rfl rfl rfl) ?_
           refine mv_ rfl ?_
           simp only [ls0, ls1]
           refine sk_guard (guard_off 16 false 160 rfl rfl true (by decide) rfl) rfl ?_
           refine sk_guard (guard_off 16 false 160 rfl rfl true (by decide) rfl) rfl ?_
           refine sk_guard (guard_off 16 false 160 rfl rfl true (by decide) rfl) rfl ?_
           refine sk_guard (guard_off 16 false 160 rfl rfl true (by decide) rfl) rfl ?_
           simp only [ls0, ls1]
           refine sk_guard (guard_off 16 false 160 rfl rfl true (by decide) rfl) rfl ?_
           refine st (.bool true) rfl rfl (xr_pick true _ rfl rfl rfl) ?_
           refine wl_end ?_
           replace HJ4928 := Bx.recol (a := 13) (b := 0) HJ4928 (by decide)
           replace HJ4926 := Ft.recol (a := 13) (b := 0) HJ4926 (.inl rfl)
           replace HJ4927 := Ft.recol (a := 13) (b := 0) HJ4927 (.inl rfl)
           replace HJ4933 := Bx.recol (a := 13) (b := 0) HJ4933 (by decide)
           replace HJ4929 := Ft.recol (a := 13) (b := 0) HJ4929 (.inl rfl)
           replace HJ4930 := Ft.recol (a := 13) (b := 0) HJ4930 (.inl rfl)
           replace HJ4931 := Own.recol (a := 13) (b := 0) HJ4931 (by decide) (by decide)
           replace HJ4932 := Own.recol (a := 13) (b := 0) HJ4932 (by decide) (by decide)
           have HX5273 := Ft.recolor (a := 13) (b := 0) (HX5244.ft) [0] rfl
           replace HJ4934 := Ft.recol (a := 13) (b := 0) HJ4934 (.inl rfl)
           replace HG4936 := Ft.recol (a := 13) (b := 0) HG4936 (.inl rfl)
           replace HS4924 := Step.recol (a := 13) (b := 0) HS4924 hc (by decide)
           (try simp only [ls0, ls1])
           exact jmp (fun g_ => hj5127 _ _ _ (false) (true) (t5238) g_ HS4924 (by omega) HJ4926 HJ4927 HJ4928 HJ4929 HJ4930 HJ4931 HJ4932 HJ4933 HJ4934 HX5273 HG4936 H) rfl
         refine wl_region ?_
         refine mv_ rfl ?_
         refine st (.bool (decide (a1 ≥ 0))) rfl rfl (xr_bin _ _ _ rfl rfl rfl (B.geq_i64 _ _)) ?_
         refine mv_ rfl ?_
         by_cases c5274 : a1 ≥ 0
         ·rw [if_pos c5274] at H
          (try rw [(decide_eq_true c5274)])
          refine on_guard (guard_on 2 true 130 rfl rfl rfl) ?_
          refine mv_ rfl ?_
          simp only [ls0, ls1]
          refine on_guard (guard_on 2 true 130 rfl rfl rfl) ?_
          refine st (.bool (decide (a2 ≥ 0))) rfl rfl (xr_bin _ _ _ rfl rfl rfl (B.geq_i64 _ _)) ?_
          refine st (.bool (decide (a2 ≥ 0))) rfl rfl (xr_pick true _ rfl rfl rfl) ?_
          refine mv_ rfl ?_
          by_cases c5275 : a2 ≥ 0
          ·rw [if_pos c5275] at H
           (try rw [(decide_eq_true c5275)])
           refine on_guard (guard_on 6 true 134 rfl rfl rfl) ?_
           refine mv_ rfl ?_
           simp only [ls0, ls1]
           refine on_guard (guard_on 6 true 134 rfl rfl rfl) ?_
           refine mv_ rfl ?_
           refine on_guard (guard_on 6 true 134 rfl rfl rfl) ?_
           refine st (.bool (decide (a1 < (t2676.length : Int)))) rfl rfl (xr_bin _ _ _ rfl rfl rfl (B.lss_i64 _ _)) ?_
           refine st (.bool (decide (a1 < (t2676.length : Int)))) rfl rfl (xr_pick true _ rfl rfl rfl) ?_
           refine mv_ rfl ?_
           simp only [ls0, ls1]
           by_cases c5276 : a1 < (t2676.length : Int)
           ·rw [if_pos c5276] at H
            (try rw [(decide_eq_true c5276)])
            refine on_guard (guard_on 11 true 139 rfl rfl rfl) ?_
            refine mv_ rfl ?_
            refine on_guard (guard_on 11 true 139 rfl rfl rfl) ?_
            refine mv_ rfl ?_
            refine on_guard (guard_on 11 true 139 rfl rfl rfl) ?_
            refine st (.bool (decide (a2 < (t2676.length : Int)))) rfl rfl (xr_bin _ _ _ rfl rfl rfl (B.lss_i64 _ _)) ?_
            refine st (.bool (decide (a2 < (t2676.length : Int)))) rfl rfl (xr_pick true _ rfl rfl rfl) ?_
            simp only [ls0, ls1]
            refine as_ rfl ?_
            refine wl_end ?_
            (try simp only [ls0, ls1])
            exact jmp (fun g_ => hj4921 _ _ _ (decide (a2 < (t2676.length : Int))) g_ HS4585 (by omega) HJ4570 HJ4571 HJ4572 HJ4573 HJ4574 HJ4575 HJ4576 HJ4577 HJ4578 HJ4580 HG4581 H) rfl
           rw [if_neg c5276] at H
           (try rw [(decide_eq_false c5276)])
           refine sk_guard (guard_off 11 true 139 rfl rfl false (by decide) rfl) rfl ?_
           refine sk_guard (guard_off 11 true 139 rfl rfl false (by decide) rfl) rfl ?_
           refine sk_guard (guard_off 11 true 139 rfl rfl false (by decide) rfl) rfl ?_
           refine st (.bool false) rfl rfl (xr_pick false _ rfl rfl rfl) ?_
           simp only [ls0, ls1]
           refine as_ rfl ?_
           refine wl_end ?_
           (try simp only [ls0, ls1])
           exact jmp (fun g_ => hj4921 _ _ _ (false) g_ HS4585 (by omega) HJ4570 HJ4571 HJ4572 HJ4573 HJ4574 HJ4575 HJ4576 HJ4577 HJ4578 HJ4580 HG4581 H) rfl
          rw [if_neg c5275] at H
          (try rw [(decide_eq_false c5275)])
          refine sk_guard (guard_off 6 true 134 rfl rfl false (by decide) rfl) rfl ?_
          refine sk_guard (guard_off 6 true 134 rfl rfl false (by decide) rfl) rfl ?_
          refine sk_guard (guard_off 6 true 134 rfl rfl false (by decide) rfl) rfl ?_
          refine st (.bool false) rfl rfl (xr_pick false _ rfl rfl rfl) ?_
          simp only [ls0, ls1]
          refine mv_ rfl ?_
          refine sk_guard (guard_off 11 true 139 rfl rfl false (by decide) rfl) rfl ?_
          refine sk_guard (guard_off 11 true 139 rfl rfl false (by decide) rfl) rfl ?_
          refine sk_guard (guard_off 11 true 139 rfl rfl false (by decide) rfl) rfl ?_
          simp only [ls0, ls1]
          refine st (.bool false) rfl rfl (xr_pick false _ rfl rfl rfl) ?_
          refine as_ rfl ?_
          refine wl_end ?_
          (try simp only [ls0, ls1])
          exact jmp (fun g_ => hj4921 _ _ _ (false) g_ HS4585 (by omega) HJ4570 HJ4571 HJ4572 HJ4573 HJ4574 HJ4575 HJ4576 HJ4577 HJ4578 HJ4580 HG4581 H) rfl
         rw [if_neg c5274] at H
         (try rw [(decide_eq_false c5274)])
         refine sk_guard (guard_off 2 true 130 rfl rfl false (by decide) rfl) rfl ?_
         refine sk_guard (guard_off 2 true 130 rfl rfl false (by decide) rfl) rfl ?_
         refine st (.bool false) rfl rfl (xr_pick false _ rfl rfl rfl) ?_
         refine mv_ rfl ?_
         simp only [ls0, ls1]
         refine sk_guard (guard_off 6 true 134 rfl rfl false (by decide) rfl) rfl ?_
         refine sk_guard (guard_off 6 true 134 rfl rfl false (by decide) rfl) rfl ?_
         refine sk_guard (guard_off 6 true 134 rfl rfl false (by decide) rfl) rfl ?_
         refine st (.bool false) rfl rfl (xr_pick false _ rfl rfl rfl) ?_
         simp only [ls0, ls1]
         refine mv_ rfl ?_
         refine sk_guard (guard_off 11 true 139 rfl rfl false (by decide) rfl) rfl ?_
         refine sk_guard (guard_off 11 true 139 rfl rfl false (by decide) rfl) rfl ?_
         refine sk_guard (guard_off 11 true 139 rfl rfl false (by decide) rfl) rfl ?_
         simp only [ls0, ls1]
         refine st (.bool false) rfl rfl (xr_pick false _ rfl rfl rfl) ?_
         refine as_ rfl ?_
         refine wl_end ?_
         (try simp only [ls0, ls1])
         exact jmp (fun g_ => hj4921 _ _ _ (false) g_ HS4585 (by omega) HJ4570 HJ4571 HJ4572 HJ4573 HJ4574 HJ4575 HJ4576 HJ4577 HJ4578 HJ4580 HG4581 H) rfl
     rw [if_neg c2856] at H
     (try rw [(decide_eq_false c2856)])
     (try simp only [Bool.not_true, Bool.not_false])
     refine wp_cond_true rfl ?_
     refine wp_seq_k fun K5277 hK5277 => ?_
     refine wl_region ?_
     refine mv_ rfl ?_
     cases t2756 with
     | none =>
      (try simp only [onOpt] at H)
      obtain rfl := OwnPt.isNone HJ2838
      refine st (.bool true) rfl rfl (xr_bin (.pointer none) (.pointer none) (.bool true) rfl rfl rfl (B.eql_nn ⟨_, Tryd.underlying36⟩ (⟨0, 0, none⟩ : Addr))) ?_
      refine mv_ rfl ?_
      refine on_guard (guard_on 2 true 84 rfl rfl rfl) ?_
      obtain ⟨t5279, A5280, H⟩ := bnd H
      refine st_call #[] rfl rfl Tryd.func14 (by kernel_rfl) rfl rfl (mp_ rfl) ?_
      refine (blazonlaw14_awake.calls k2851 t5279  (fun z_ => pal [(0, 0)] (C2835 z_)) w2836 (fun _ => pal_lt rfl _) (Ft.arg HG2848 rfl) A5280).mono ?_
      rintro _ w5282 ⟨C5283, rfl, hs5284⟩
      refine ⟨_, rfl, ?_⟩
      replace hs5284 := Step.lift (U := [(0, 0)]) hs5284 [] rfl rfl
      generalize up C2835 C5283 w2836.heap.size [(0, 0)] = C5283_ at hs5284
      replace HJ2842 := HJ2842.thru hs5284 rfl
      replace HJ2840 := HJ2840.thru hs5284 rfl
      replace HJ2841 := HJ2841.thru hs5284 rfl
      replace HJ2847 := HJ2847.thru hs5284 rfl
      replace HJ2843 := HJ2843.thru hs5284 rfl
      replace HJ2844 := HJ2844.thru hs5284 rfl
      replace HJ2845 := HJ2845.thru hs5284 rfl
      replace HJ2846 := HJ2846.thru hs5284 rfl
      replace HG2848 := HG2848.thru hs5284 rfl
      replace HS2837 := HS2837.trans hs5284 hc rfl
      (try simp only [ls0, ls1])
      refine st (.bool t5279) rfl rfl (xr_pick true _ rfl rfl rfl) ?_
      refine as_ rfl ?_
      refine wl_end ?_
      (try simp only [ls0, ls1])
      refine hK5277 _ _ ?_
      (try clear hK5277 K5277)
      refine wp_ret ?_
      (try simp only [Exit.inBlock, Exit.then, Exit.noGoto])
      (try simp only [ls0, ls1])
      obtain rfl := Option.some.inj H
      refine bodyPost_ret (results_tmp rfl _ _ _) rfl ?_
      exact ⟨_, rfl, HS2837⟩
     | some o5278 =>
      (try simp only [onOpt] at H)
      obtain ⟨g5285, cs5286, rfl, HX5287, HK5288⟩ := OwnPt.isSome HJ2838
      obtain ⟨vq5289_0, rfl, HRq5289_0, HLq5289_4, HLq5289_5⟩ := k107_openF HK5288
      replace HRq5289_0 : Ft C2835 [0] w2836 (fun w_ => (Kd.ptr 81 k81).K w_ o5278.f0 [vq5289_0]) := HRq5289_0
      replace HX5287 : Bx C2835 13 w2836 g5285 107 ([vq5289_0, .int .u32 o5278.f1.f0.f0, .int .i32 o5278.f1.f1.f0.f0, .int .u32 o5278.f1.f1.f0.f1] ++ (List.map (Value.int .i8) o5278.f2 ++ (List.map (Value.int .i8) o5278.f3 ++ ([.int .i64 o5278.f4.f0])))) := HX5287
      refine st (.bool false) rfl rfl (xr_bin (.pointer (some ⟨g5285, 0, none⟩)) (.pointer none) (.bool false) rfl rfl rfl (B.eql_pn ⟨_, Tryd.underlying36⟩ ⟨g5285, 0, none⟩)) ?_
      refine mv_ rfl ?_
      refine sk_guard (guard_off 2 true 84 rfl rfl false (by decide) rfl) rfl ?_
      refine st (.bool false) rfl rfl (xr_pick false _ rfl rfl rfl) ?_
      simp only [ls0, ls1]
      refine as_ rfl ?_
      refine wl_end ?_
      (try simp only [ls0, ls1])
      refine hK5277 _ _ ?_
      (try clear hK5277 K5277)
      refine wp_ret ?_
      (try simp only [Exit.inBlock, Exit.then, Exit.noGoto])
      (try simp only [ls0, ls1])
      obtain rfl := Option.some.inj H
      refine bodyPost_ret (results_tmp rfl _ _ _) rfl ?_
      exact ⟨_, rfl, HS2837⟩
   refine wl_region ?_
   refine mv_ rfl ?_
   refine mv_ rfl ?_
   refine st (.bool (!decide (t2759 = t2775))) rfl rfl (xr_bin _ _ _ rfl rfl rfl (B.neq_i64 _ _)) ?_
   refine mv_ rfl ?_
   simp only [ls0, ls1]
   by_cases c5290 : t2759 = t2775
   ·rw [if_pos c5290] at H
    (try rw [(decide_eq_true c5290)])
    (try simp only [Bool.not_true, Bool.not_false])
    refine on_guard (guard_on 3 false 70 rfl rfl rfl) ?_
    refine mv_ rfl ?_
    refine on_guard (guard_on 3 false 70 rfl rfl rfl) ?_
    refine mv_ rfl ?_
    refine on_guard (guard_on 3 false 70 rfl rfl rfl) ?_
    refine st (.bool (!decide (t2757 = t2773))) rfl rfl (xr_bin _ _ _ rfl rfl rfl (B.neq_i64 _ _)) ?_
    refine st (.bool (!decide (t2757 = t2773))) rfl rfl (xr_pick false _ rfl rfl rfl) ?_
    simp only [ls0, ls1]
    refine mv_ rfl ?_
    by_cases c5291 : t2757 = t2773
    ·rw [if_pos c5291] at H
     (try rw [(decide_eq_true c5291)])
     (try simp only [Bool.not_true, Bool.not_false])
     refine on_guard (guard_on 8 false 75 rfl rfl rfl) ?_
     refine mv_ rfl ?_
     refine on_guard (guard_on 8 false 75 rfl rfl rfl) ?_
     refine mv_ rfl ?_
     refine on_guard (guard_on 8 false 75 rfl rfl rfl) ?_
     refine st (.bool (!decide (t2758 = t2774))) rfl rfl (xr_bin _ _ _ rfl rfl rfl (B.neq_i64 _ _)) ?_
     simp only [ls0, ls1]
     refine st (.bool (!decide (t2758 = t2774))) rfl rfl (xr_pick false _ rfl rfl rfl) ?_
     refine wl_end ?_
     (try simp only [ls0, ls1])
     exact jmp (fun g_ => hj2834 _ _ _ (!decide (t2758 = t2774)) g_ HS2734 (by omega) HB2766 HJ2739 HR2768 HJ2741 HO2783 HO2787 HO2791 HO2795 HX2803 HG2742 H) rfl
    rw [if_neg c5291] at H
    (try rw [(decide_eq_false c5291)])
    (try simp only [Bool.not_true, Bool.not_false])
    refine sk_guard (guard_off 8 false 75 rfl rfl true (by decide) rfl) rfl ?_
    refine sk_guard (guard_off 8 false 75 rfl rfl true (by decide) rfl) rfl ?_
    refine sk_guard (guard_off 8 false 75 rfl rfl true (by decide) rfl) rfl ?_
    refine st (.bool true) rfl rfl (xr_pick true _ rfl rfl rfl) ?_
    simp only [ls0, ls1]
    refine wl_end ?_
    (try simp only [ls0, ls1])
    exact jmp (fun g_ => hj2834 _ _ _ (true) g_ HS2734 (by omega) HB2766 HJ2739 HR2768 HJ2741 HO2783 HO2787 HO2791 HO2795 HX2803 HG2742 H) rfl
   rw [if_neg c5290] at H
   (try rw [(decide_eq_false c5290)])
   (try simp only [Bool.not_true, Bool.not_false])
   refine sk_guard (guard_off 3 false 70 rfl rfl true (by decide) rfl) rfl ?_
   refine sk_guard (guard_off 3 false 70 rfl rfl true (by decide) rfl) rfl ?_
   refine sk_guard (guard_off 3 false 70 rfl rfl true (by decide) rfl) rfl ?_
   refine st (.bool true) rfl rfl (xr_pick true _ rfl rfl rfl) ?_
   simp only [ls0, ls1]
   refine mv_ rfl ?_
   refine sk_guard (guard_off 8 false 75 rfl rfl true (by decide) rfl) rfl ?_
   refine sk_guard (guard_off 8 false 75 rfl rfl true (by decide) rfl) rfl ?_
   refine sk_guard (guard_off 8 false 75 rfl rfl true (by decide) rfl) rfl ?_
   simp only [ls0, ls1]
   refine st (.bool true) rfl rfl (xr_pick true _ rfl rfl rfl) ?_
   refine wl_end ?_
   (try simp only [ls0, ls1])
   exact jmp (fun g_ => hj2834 _ _ _ (true) g_ HS2734 (by omega) HB2766 HJ2739 HR2768 HJ2741 HO2783 HO2787 HO2791 HO2795 HX2803 HG2742 H) rfl
 refine wl_region ?_
 refine mv_ rfl ?_
 refine st (.bool (!decide (t2667 = 0))) rfl rfl (xr_bin _ _ _ rfl rfl rfl (B.neq_i64 _ _)) ?_
 refine mv_ rfl ?_
 by_cases c5292 : t2667 = 0
 ·rw [if_pos c5292] at H
  (try rw [(decide_eq_true c5292)])
  (try simp only [Bool.not_true, Bool.not_false])
  refine on_guard (guard_on 2 false 43 rfl rfl rfl) ?_
  refine mv_ rfl ?_
  simp only [ls0, ls1]
  refine on_guard (guard_on 2 false 43 rfl rfl rfl) ?_
  refine st (.bool (!decide (t2679 = 0))) rfl rfl (xr_bin _ _ _ rfl rfl rfl (B.neq_i64 _ _)) ?_
  refine st (.bool (!decide (t2679 = 0))) rfl rfl (xr_pick false _ rfl rfl rfl) ?_
  refine wl_end ?_
  (try simp only [ls0, ls1])
  exact jmp (fun g_ => hj2731 _ _ _ (!decide (t2679 = 0)) (v2673) (t2665) g_ HS (by omega) HB2674 HO2687 HO2691 HX2699 HG H) rfl
 rw [if_neg c5292] at H
 (try rw [(decide_eq_false c5292)])
 (try simp only [Bool.not_true, Bool.not_false])
 refine sk_guard (guard_off 2 false 43 rfl rfl true (by decide) rfl) rfl ?_
 refine sk_guard (guard_off 2 false 43 rfl rfl true (by decide) rfl) rfl ?_
 refine st (.bool true) rfl rfl (xr_pick true _ rfl rfl rfl) ?_
 refine wl_end ?_
 (try simp only [ls0, ls1])
 exact jmp (fun g_ => hj2731 _ _ _ (true) (v2673) (t2665) g_ HS (by omega) HB2674 HO2687 HO2691 HX2699 HG H) rfl
/-- THE ONE PURE STATEMENT of blazonlaw14_LatticeNews. -/
def blazonlaw14_LatticeNews.Pure : Prop := ∀ (l0 : List (S53)) (a1 : Int) (a2 : Int), l0.length ≤ maxLen → l0.length * 40 ≤ 140737488351232 → (∀ x_ ∈ l0, Ok53 x_) → (Lit.int .i64 a1).wf = true → (Lit.int .i64 a2).wf = true → ∃ k, blazonlaw14_LatticeNews.f k l0 a1 a2 = some true

end Go.Proofs.YtpfepkkpbampkaaDoor.PLnw
