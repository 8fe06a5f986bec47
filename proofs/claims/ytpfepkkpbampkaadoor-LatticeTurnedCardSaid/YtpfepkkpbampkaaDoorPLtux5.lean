-- By cprint.py, a program of this work. Lean checks it.
import Derived.Test.YtpfepkkpbampkaaDoorPLtux0
import Derived.Test.YtpfepkkpbampkaaDoorPLtux1
import Derived.Test.YtpfepkkpbampkaaDoorPLtux2
import Derived.Test.YtpfepkkpbampkaaDoorPLtux3
import Derived.Test.YtpfepkkpbampkaaDoorPLtux4
namespace Go.Proofs.YtpfepkkpbampkaaDoor.PLtu
open Go.RowKit Go.Proofs.YtpfepkkpbampkaaDoorW.PrintWords Go.Proofs.YtpfepkkpbampkaaDoorW.PrintLast Go.Proofs.YtpfepkkpbampkaaDoorW.PrintMore
set_option linter.unusedVariables false
set_option linter.unusedSimpArgs false

/-! ### blazonlaw14_LatticeTurned: function 6 -/
mutual
def blazonlaw14_LatticeTurned.j0 : Nat → Int → Int → (Option S107) → Int → (Option S107) → Int → (Option S81) → (Option S81) → Bool → Option (Bool)
  | 0, _, _, _, _, _, _, _, _, _ => none
  | k + 1, a1, a2, t966, t969, t978, t981, x1027, x1030, x1035 => if x1035 = true then ((blazonlaw14_awake.f k).bind fun t1042 => (some t1042)) else (if t969 = t981 then (if t969 = 0 then ((order_Order_Len.f x1027).bind fun t1055 => (if t1055 = 0 then (some false) else ((order_Order_Name.f x1027 (Int.tmod (wrap64 (a1)) t1055)).bind fun t1068 => ((order_Order_Find.f x1030 t1068).bind fun bt1074 => ((order_Order_Name.f x1027 (Int.tmod (wrap64 (a2)) t1055)).bind fun t1082 => ((order_Order_Find.f x1030 t1082).bind fun bt1088 => (onOpt t966 (none) (fun o1095 => (onOpt t978 (none) (fun o1101 => ((lattice_Lattice_Join.f o1095.f0 o1095.f1.f0.f0 o1095.f1.f1.f0.f0 o1095.f1.f1.f0.f1 o1095.f2 o1095.f3 o1095.f4.f0 (Int.tmod (wrap64 (a1)) t1055) (Int.tmod (wrap64 (a2)) t1055)).bind fun bt1108 => ((order_Order_Name.f x1027 bt1108.1).bind fun t1116 => ((lattice_Lattice_Meet.f o1101.f0 o1101.f1.f0.f0 o1101.f1.f1.f0.f0 o1101.f1.f1.f0.f1 o1101.f2 o1101.f3 o1101.f4.f0 bt1074.1 bt1088.1).bind fun bt1122 => ((order_Order_Name.f x1030 bt1122.1).bind fun t1130 => (if t1116 = t1130 then ((lattice_Lattice_Meet.f o1095.f0 o1095.f1.f0.f0 o1095.f1.f1.f0.f0 o1095.f1.f1.f0.f1 o1095.f2 o1095.f3 bt1108.2 (Int.tmod (wrap64 (a1)) t1055) (Int.tmod (wrap64 (a2)) t1055)).bind fun bt1137 => ((order_Order_Name.f x1027 bt1137.1).bind fun t1145 => ((lattice_Lattice_Join.f o1101.f0 o1101.f1.f0.f0 o1101.f1.f1.f0.f0 o1101.f1.f1.f0.f1 o1101.f2 o1101.f3 bt1122.2 bt1074.1 bt1088.1).bind fun bt1151 => ((order_Order_Name.f x1030 bt1151.1).bind fun t1159 => (if t1145 = t1159 then ((lattice_Lattice_Top.f k (some (⟨o1095.f0, (⟨(⟨o1095.f1.f0.f0⟩ : S92), (⟨(⟨o1095.f1.f1.f0.f0, o1095.f1.f1.f0.f1⟩ : S94)⟩ : S96)⟩ : S98), o1095.f2, o1095.f3, (⟨bt1137.2⟩ : S105)⟩ : S107) : Option S107)).bind fun t1167 => ((order_Order_Name.f x1027 t1167).bind fun t1173 => ((lattice_Lattice_Bottom.f k (some (⟨o1101.f0, (⟨(⟨o1101.f1.f0.f0⟩ : S92), (⟨(⟨o1101.f1.f1.f0.f0, o1101.f1.f1.f0.f1⟩ : S94)⟩ : S96)⟩ : S98), o1101.f2, o1101.f3, (⟨bt1151.2⟩ : S105)⟩ : S107) : Option S107)).bind fun t1180 => ((order_Order_Name.f x1030 t1180).bind fun t1186 => (if t1173 = t1186 then ((blazonlaw14_awake.f k).bind fun t1193 => (some t1193)) else (some false)))))) else (some false)))))) else (some false)))))))))))))))) else ((blazonlaw14_awake.f k).bind fun t1200 => (some t1200))) else (some false))
def blazonlaw14_LatticeTurned.l0 : Nat → Int → Int → (List (S53)) → (List (S53)) → Int → Option (Bool)
  | 0, _, _, _, _, _ => none
  | k + 1, a1, a2, l0, x882, x888 => if x888 < (l0.length : Int) then (if 0 ≤ x888 then (if ((rd_T53 l0 x888).f1) = (⟨#[]⟩ : ByteArray) then (if x882.length < 3518437208883 then ((some (x882 ++ [(⟨(rd_T53 l0 x888).f0, (rd_T53 l0 x888).f1, (rd_T53 l0 x888).f2⟩ : S53)] : List (S53))).bind fun y920 => (blazonlaw14_LatticeTurned.l0 k a1 a2 l0 y920 (wrap64 (x888 + 1)))) else (none)) else (if x882.length < 3518437208883 then ((some (x882 ++ [(⟨(rd_T53 l0 x888).f1, (rd_T53 l0 x888).f0, 0⟩ : S53)] : List (S53))).bind fun y933 => (blazonlaw14_LatticeTurned.l0 k a1 a2 l0 y933 (wrap64 (x888 + 1)))) else (none))) else (none)) else ((order_New.f k l0).bind fun bt943 => ((order_New.f k x882).bind fun bt955 => ((lattice_New.f k bt943.1).bind fun bt966 => ((lattice_New.f k bt955.1).bind fun bt978 => (if bt943.2.2 = 0 then (if bt955.2.2 = 0 then (blazonlaw14_LatticeTurned.j0 k a1 a2 bt966.1 bt966.2.2.2 bt978.1 bt978.2.2.2 bt943.1 bt955.1 (decide (bt966.2.2.2 = 1))) else (blazonlaw14_LatticeTurned.j0 k a1 a2 bt966.1 bt966.2.2.2 bt978.1 bt978.2.2.2 bt943.1 bt955.1 true)) else (blazonlaw14_LatticeTurned.j0 k a1 a2 bt966.1 bt966.2.2.2 bt978.1 bt978.2.2.2 bt943.1 bt955.1 true))))))
end
def blazonlaw14_LatticeTurned.f (k : Nat) (l0 : List (S53)) (a1 : Int) (a2 : Int) : Option (Bool) := (blazonref13_Great.f k l0 12).bind fun t608 => (if t608 = true then ((blazonlaw14_awake.f k).bind fun t616 => (some t616)) else (blazonlaw14_LatticeTurned.l0 k a1 a2 l0 ([] : List (S53)) 0))

set_option maxHeartbeats 2000000 in
set_option maxRecDepth 100000 in
theorem blazonlaw14_LatticeTurned.calls (k : Nat) (A0 : Option Addr) (c0 : Nat) (l0 : List (S53)) (a1 : Int) (a2 : Int) (r : Bool) (c : Nat → Nat) (w : World) (hc : ∀ k, c k < 10) (HG : Ft c [0] w GTab) (HP0 : Ft c [0] w (fun w_ => k53.C w_ A0 l0.length l0)) (HCP0 : l0.length ≤ c0) (H : blazonlaw14_LatticeTurned.f k l0 a1 a2 = some r) :
    Calls Tryd.prog 6 #[.slice A0 l0.length c0, .int .u8 a1, .int .u8 a2] w fun e w' => ∃ (c' : Nat → Nat) , e = .returned (.bool r) ∧ Step c w c' w' [] := by
 unfold blazonlaw14_LatticeTurned.f at H
 have HS := Step.refl c w []
 go_enter Tryd.func6, Tryd.ntmps6
 refine wp_seq_k fun K605 hK605 => ?_
 refine wl_region ?_
 refine st (.bool false) rfl rfl (xr_assign _ rfl rfl) ?_
 refine wl_end ?_
 (try simp only [ls0, ls1])
 refine hK605 _ _ ?_
 (try clear hK605 K605)
 refine wp_seq_k fun K606 hK606 => ?_
 refine wp_seq_k fun K607 hK607 => ?_
 refine wl_region ?_
 refine mv_ rfl ?_
 obtain ⟨t608, A609, H⟩ := bnd H
 refine st_call #[.slice A0 l0.length c0, .int .i64 12] rfl rfl Tryd.func13 (by kernel_rfl) rfl rfl (mp_ rfl) ?_
 refine (blazonref13_Great.calls k A0 c0 l0 12 t608  (fun z_ => pal [(0, 0)] (c z_)) w (fun _ => pal_lt rfl _) (Ft.arg HP0 rfl) HCP0 A609).mono ?_
 rintro _ w611 ⟨C612, rfl, hs613⟩
 refine ⟨_, rfl, ?_⟩
 replace hs613 := Step.lift (U := [(0, 0)]) hs613 [] rfl rfl
 generalize up c C612 w.heap.size [(0, 0)] = C612_ at hs613
 replace HG := HG.thru hs613 rfl
 replace HP0 := HP0.thru hs613 rfl
 replace HS := HS.trans hs613 hc rfl
 (try simp only [ls0, ls1])
 refine wl_end ?_
 (try simp only [ls0, ls1])
 refine hK607 _ _ ?_
 (try clear hK607 K607)
 by_cases c614 : t608 = true
 ·rw [if_pos c614] at H
  (try rw [c614])
  refine wp_cond_true rfl ?_
  refine wp_seq_k fun K615 hK615 => ?_
  refine wl_region ?_
  obtain ⟨t616, A617, H⟩ := bnd H
  refine st_call #[] rfl rfl Tryd.func14 (by kernel_rfl) rfl rfl (mp_ rfl) ?_
  refine (blazonlaw14_awake.calls k t616  (fun z_ => pal [(0, 0)] (C612_ z_)) w611 (fun _ => pal_lt rfl _) (Ft.arg HG rfl) A617).mono ?_
  rintro _ w619 ⟨C620, rfl, hs621⟩
  refine ⟨_, rfl, ?_⟩
  replace hs621 := Step.lift (U := [(0, 0)]) hs621 [] rfl rfl
  generalize up C612_ C620 w611.heap.size [(0, 0)] = C620_ at hs621
  replace HG := HG.thru hs621 rfl
  replace HS := HS.trans hs621 hc rfl
  (try simp only [ls0, ls1])
  refine as_ rfl ?_
  refine wl_end ?_
  (try simp only [ls0, ls1])
  refine hK615 _ _ ?_
  (try clear hK615 K615)
  refine wp_ret ?_
  (try simp only [Exit.inBlock, Exit.then, Exit.noGoto])
  (try simp only [ls0, ls1])
  obtain rfl := Option.some.inj H
  refine bodyPost_ret (results_tmp rfl _ _ _) rfl ?_
  exact ⟨_, rfl, HS⟩
 rw [if_neg c614] at H
 (try rw [(Bool.eq_false_iff.mpr c614)])
 refine wp_cond_false rfl ?_
 refine wp_skip ?_
 (try simp only [ls0, ls1])
 refine hK606 _ _ ?_
 (try clear hK606 K606)
 refine wp_seq_k fun K622 hK622 => ?_
 refine wl_region ?_
 refine st (.slice none 0 0) rfl rfl (xr_assign _ rfl rfl) ?_
 refine wl_end ?_
 (try simp only [ls0, ls1])
 refine hK622 _ _ ?_
 (try clear hK622 K622)
 refine wp_seq_k fun K623 hK623 => ?_
 refine wp_seq_k fun K783 hK783 => ?_
 refine wl_region ?_
 refine st (.int .i64 0) rfl rfl (xr_assign _ rfl rfl) ?_
 refine wl_end ?_
 (try simp only [ls0, ls1])
 refine hK783 _ _ ?_
 (try clear hK783 K783)
 refine wp_block ?_
 (try simp only [ls0, ls1])
 refine wp_looped (looped_fin (fun kq892 a_ w891 => ∃ (C890 : Nat → Nat) (x888 : Int) (A883 : Option Addr) (n884 cp885 : Nat) (x882 : List (S53)) (g_ : Nat → Value), a_ = ⟨#[.slice A0 l0.length c0, .int .u8 a1, .int .u8 a2, (g_ 3), (g_ 4), (g_ 5), (g_ 6), .slice A883 n884 cp885, .int .i64 x888, (g_ 9), (g_ 10), (g_ 11), (g_ 12), (g_ 13), (g_ 14), (g_ 15), (g_ 16), (g_ 17), (g_ 18), (g_ 19), (g_ 20), (g_ 21), (g_ 22), (g_ 23), (g_ 24), (g_ 25), (g_ 26), (g_ 27), (g_ 28), (g_ 29), (g_ 30), (g_ 31), (g_ 32), (g_ 33), (g_ 34), (g_ 35), (g_ 36), (g_ 37), (g_ 38), (g_ 39), (g_ 40), (g_ 41), (g_ 42), (g_ 43), (g_ 44), (g_ 45), (g_ 46), (g_ 47), (g_ 48), (g_ 49), (g_ 50), (g_ 51), (g_ 52), (g_ 53), (g_ 54), (g_ 55), (g_ 56), (g_ 57), (g_ 58), (g_ 59), (g_ 60), (g_ 61), (g_ 62), (g_ 63), (g_ 64), (g_ 65), (g_ 66), (g_ 67), (g_ 68), (g_ 69), (g_ 70), (g_ 71), (g_ 72), (g_ 73), (g_ 74), (g_ 75), (g_ 76), (g_ 77), (g_ 78), (g_ 79), (g_ 80), (g_ 81), (g_ 82), (g_ 83), (g_ 84), (g_ 85), (g_ 86), (g_ 87), (g_ 88), (g_ 89), (g_ 90), (g_ 91), (g_ 92), (g_ 93), (g_ 94), (g_ 95), (g_ 96), (g_ 97), (g_ 98), (g_ 99), (g_ 100), (g_ 101), (g_ 102), (g_ 103), (g_ 104), (g_ 105), (g_ 106), (g_ 107), (g_ 108), (g_ 109), (g_ 110), (g_ 111), (g_ 112), (g_ 113), (g_ 114), (g_ 115), (g_ 116), (g_ 117), (g_ 118), (g_ 119), (g_ 120), (g_ 121), (g_ 122), (g_ 123), (g_ 124), (g_ 125), (g_ 126), (g_ 127), (g_ 128), (g_ 129), (g_ 130), (g_ 131), (g_ 132), (g_ 133), (g_ 134), (g_ 135), (g_ 136), (g_ 137), (g_ 138), (g_ 139), (g_ 140), (g_ 141), (g_ 142), (g_ 143), (g_ 144), (g_ 145), (g_ 146), (g_ 147), (g_ 148), (g_ 149), (g_ 150), (g_ 151), (g_ 152), (g_ 153), (g_ 154), (g_ 155), (g_ 156), (g_ 157), (g_ 158), (g_ 159), (g_ 160), (g_ 161), (g_ 162), (g_ 163), (g_ 164), (g_ 165), (g_ 166), (g_ 167), (g_ 168)], []⟩ ∧ Step c w C890 w891 [] ∧ kq892 ≤ k ∧ (Ft C890 [0] w891 (fun w_ => k53.C w_ A0 l0.length l0)) ∧ (Own C890 11 w891 k53 53 (.slice A883 n884 cp885) x882) ∧ (n884 ≤ cp885) ∧ (Ft C890 [0] w891 GTab) ∧ blazonlaw14_LatticeTurned.l0 kq892 a1 a2 l0 x882 x888 = some r) ?step fun hL_ => ?init)
 case init =>
  exact jmpL (fun a_ h_ => hL_ k a_ _ h_) (fun g_ => ⟨_, 0, none, 0, 0, ([] : List (S53)), g_, rfl, HS, Nat.le_refl _, HP0, (Own.nil _ _ _ _ _), (Nat.le_refl 0), HG, H⟩) rfl
 case step =>
  intro kq892 ih895 a896 w891 hr897
  obtain ⟨C890, x888, A883, n884, cp885, x882, g_, rfl, HS893, hk894, HJ881, HJ887, HC886, HG889, H⟩ := hr897
  refine looped_round ?_
  obtain rfl : n884 = x882.length := HJ887.at_.1
  cases kq892 with
  | zero => exact absurd H (by simp [blazonlaw14_LatticeTurned.l0])
  | succ k898 =>
   simp only [blazonlaw14_LatticeTurned.l0] at H
   refine wp_seq_k fun K899 hK899 => ?_
   refine wp_seq_k fun K900 hK900 => ?_
   refine wl_region ?_
   refine mv_ rfl ?_
   refine mv_ rfl ?_
   refine st (.int .i64 (l0.length : Int)) rfl rfl (xr_builtin #[.slice A0 l0.length c0] (.int .i64 (l0.length : Int)) rfl (mp_ rfl) (by first | rfl | (go_simp; done) | (go_simp; rfl) | (go_simp; exact i64_w _) | (go_simp; exact i32_w _))) ?_
   refine st (.bool (decide (x888 < (l0.length : Int)))) rfl rfl (xr_bin _ _ _ rfl rfl rfl (B.lss_i64 _ _)) ?_
   simp only [ls0, ls1]
   refine wl_end ?_
   (try simp only [ls0, ls1])
   refine hK900 _ _ ?_
   (try clear hK900 K900)
   by_cases c901 : x888 < (l0.length : Int)
   ·rw [if_pos c901] at H
    (try rw [(decide_eq_true c901)])
    refine wp_cond_true rfl ?_
    refine wp_skip ?_
    (try simp only [ls0, ls1])
    refine hK899 _ _ ?_
    (try clear hK899 K899)
    refine wp_seq_k fun K902 hK902 => ?_
    refine wp_block ?_
    refine wp_seq_k fun K903 hK903 => ?_
    refine wl_region ?_
    refine mv_ rfl ?_
    refine mv_ rfl ?_
    obtain ⟨c904, H⟩ := if_some H
    obtain ⟨ad905, hA906⟩ := c_addr (Ft.now HJ881) (pos_of (j := x888) (by first | assumption | decide) (by first | assumption | omega))
    refine st (.pointer (some (ad905.add ((x888 : Int).toNat * 3)))) rfl rfl (xr_indexAddr _ _ _ rfl rfl rfl (index_at Tryd.underlying22 info53 hA906 (by first | assumption | decide | omega) (by first | assumption | decide | omega))) ?_
    refine st (.agg #[.string ((rd_T53 l0 x888).f0), .string ((rd_T53 l0 x888).f1), .int .i64 ((rd_T53 l0 x888).f2)]) rfl rfl (xr_load (.pointer (some (ad905.add ((x888 : Int).toNat * 3)))) (.agg #[.string ((rd_T53 l0 x888).f0), .string ((rd_T53 l0 x888).f1), .int .i64 ((rd_T53 l0 x888).f2)]) rfl rfl (by obtain ⟨ad_, cs_, e_, _, hK_, hc_⟩ := Kd.C_get (Ft.now HJ881) z53 x888 (by first | assumption | decide | omega) (by first | assumption | decide | omega); rw [hA906] at e_; injection e_ with e_; subst e_; obtain rfl := k53_open hK_; exact load_agg (cs := [.string ((rd_T53 l0 x888).f0), .string ((rd_T53 l0 x888).f1), .int .i64 ((rd_T53 l0 x888).f2)]) Tryd.underlying53 rfl (by kernel_rfl) (fun j_ u_ hu_ => by first | (rw [add_add]; exact hc_ _ _ hu_) | exact add_cells hc_ hu_))) ?_
    simp only [ls0, ls1]
    refine bx_new (C := C890) 53 ([.string (⟨#[]⟩ : ByteArray), .string (⟨#[]⟩ : ByteArray), .int .i64 0]) 12 rfl rfl (by first | (go_simp; done) | (go_simp; rfl)) ?_
    intro g908 w909 C910 HX911 hs912
    replace HJ881 := HJ881.thru hs912 rfl
    replace HJ887 := HJ887.thru hs912 rfl
    replace HG889 := HG889.thru hs912 rfl
    replace HS893 := HS893.trans hs912 hc rfl
    (try simp only [ls0, ls1])
    refine bx_store (C := C910) (z := 12) (g := g908) (j := 0) (tb := 53) (u := .agg #[.string ((rd_T53 l0 x888).f0), .string ((rd_T53 l0 x888).f1), .int .i64 ((rd_T53 l0 x888).f2)]) (seg := [.string ((rd_T53 l0 x888).f0), .string ((rd_T53 l0 x888).f1), .int .i64 ((rd_T53 l0 x888).f2)]) (xs := [.string (⟨#[]⟩ : ByteArray), .string (⟨#[]⟩ : ByteArray), .int .i64 0]) rfl rfl rfl rfl rfl rfl (by first | kernel_rfl | rfl) (by simp [Value.oneCell']) HX911 (by simp only [List.length_cons, List.length_nil]; omega) rfl ?_
    intro w913 HX914 hs915
    replace HJ881 := HJ881.thru hs915 rfl
    replace HJ887 := HJ887.thru hs915 rfl
    replace HG889 := HG889.thru hs915 rfl
    replace HS893 := HS893.trans hs915 hc rfl
    (try simp only [ls0, ls1])
    refine wl_end ?_
    (try simp only [ls0, ls1])
    refine hK903 _ _ ?_
    (try clear hK903 K903)
    refine wp_seq_k fun K916 hK916 => ?_
    refine wp_seq_k fun K917 hK917 => ?_
    refine wl_region ?_
    refine st (.pointer (some ⟨g908, 1, none⟩)) rfl rfl (xr_fieldAddr _ _ rfl rfl (bx_field2 Tryd.underlying53 rfl rfl (by kernel_rfl))) ?_
    refine st (.string ((rd_T53 l0 x888).f1)) rfl rfl (xr_load _ _ rfl rfl (load_cell Tryd.underlying9 rfl (bx_cell (HX914).2 1 rfl))) ?_
    refine st (.bool (!decide (((rd_T53 l0 x888).f1) = (⟨#[]⟩ : ByteArray)))) rfl rfl (xr_bin _ _ _ rfl rfl rfl (B.neq_str _ _)) ?_
    refine wl_end ?_
    (try simp only [ls0, ls1])
    refine hK917 _ _ ?_
    (try clear hK917 K917)
    by_cases c918 : ((rd_T53 l0 x888).f1) = (⟨#[]⟩ : ByteArray)
    ·rw [if_pos c918] at H
     (try rw [(decide_eq_true c918)])
     (try simp only [Bool.not_true, Bool.not_false])
     refine wp_cond_false rfl ?_
     refine wp_skip ?_
     (try simp only [ls0, ls1])
     refine hK916 _ _ ?_
     (try clear hK916 K916)
     refine wl_region ?_
     refine mv_ rfl ?_
     refine st (.agg #[.string ((rd_T53 l0 x888).f0), .string ((rd_T53 l0 x888).f1), .int .i64 ((rd_T53 l0 x888).f2)]) rfl rfl (xr_load _ _ rfl rfl (load_agg (cs := [.string ((rd_T53 l0 x888).f0), .string ((rd_T53 l0 x888).f1), .int .i64 ((rd_T53 l0 x888).f2)]) Tryd.underlying53 rfl (by kernel_rfl) (bx_cells (HX914).2 0 rfl))) ?_
     refine ev_run (w1 := w913.alloc (.cells #[.string ((rd_T53 l0 x888).f0), .string ((rd_T53 l0 x888).f1), .int .i64 ((rd_T53 l0 x888).f2)] 53)) (.slice (some ⟨w913.heap.size, 0, none⟩) 1 1) rfl rfl (by first | (go_simp; done) | (go_simp; rfl)) ?_
     (try simp only [Act.put, List.setIfInBounds_toArray, ls0, ls1])
     obtain ⟨c919, H⟩ := if_some H
     obtain ⟨y920, A921, H⟩ := bnd H
     refine Own.append k53 (C := C910) (i := 11) rfl (.tmp 52) (.tmp 54) 22 53 (.agg #[(.string ⟨#[]⟩), (.string ⟨#[]⟩), (.int .i64 0)]) 40 rfl Tryd.underlying22 info53 rfl (by decide) (by decide) (.slice A883 x882.length cp885) x882 (⟨(rd_T53 l0 x888).f0, (rd_T53 l0 x888).f1, (rd_T53 l0 x888).f2⟩ : S53) [.string ((rd_T53 l0 x888).f0), .string ((rd_T53 l0 x888).f1), .int .i64 ((rd_T53 l0 x888).f2)] rfl rfl (k53_mkF _ _ (⟨(rd_T53 l0 x888).f0, (rd_T53 l0 x888).f1, (rd_T53 l0 x888).f2⟩ : S53)) HJ887 (by decide) (by omega) (Option.some.inj A921) ?_
     intro A922 cp923 w924 C925 HO926 HC927 hs928
     replace HJ881 := HJ881.thru hs928 rfl
     replace HG889 := HG889.thru hs928 rfl
     replace HX914 := HX914.thru hs928 rfl
     replace HS893 := HS893.trans hs928 hc rfl
     (try simp only [ls0, ls1])
     refine as_ rfl ?_
     refine wl_end ?_
     (try simp only [ls0, ls1])
     refine hK902 _ _ ?_
     (try clear hK902 K902)
     refine wl_region ?_
     refine mv_ rfl ?_
     refine st (.int .i64 (wrap64 (x888 + 1))) rfl rfl (xr_bin _ _ _ rfl rfl rfl (B.add_i64 _ _)) ?_
     refine as_ rfl ?_
     refine wl_end ?_
     (try simp only [ls0, ls1])
     exact jmpL (fun a_ h_ => ih895 k898 (by omega) a_ _ h_) (fun g_ => ⟨_, wrap64 (x888 + 1), A922, y920.length, cp923, y920, g_, rfl, HS893, (by omega), HJ881, HO926, HC927, HG889, H⟩) rfl
    rw [if_neg c918] at H
    (try rw [(decide_eq_false c918)])
    (try simp only [Bool.not_true, Bool.not_false])
    refine wp_cond_true rfl ?_
    refine wl_region ?_
    refine st (.pointer (some ⟨g908, 1, none⟩)) rfl rfl (xr_fieldAddr _ _ rfl rfl (bx_field2 Tryd.underlying53 rfl rfl (by kernel_rfl))) ?_
    refine st (.string ((rd_T53 l0 x888).f1)) rfl rfl (xr_load _ _ rfl rfl (load_cell Tryd.underlying9 rfl (bx_cell (HX914).2 1 rfl))) ?_
    refine st (.pointer (some ⟨g908, 0, none⟩)) rfl rfl (xr_fieldAddr _ _ rfl rfl (bx_field2 Tryd.underlying53 rfl rfl (by kernel_rfl))) ?_
    refine st (.string ((rd_T53 l0 x888).f0)) rfl rfl (xr_load _ _ rfl rfl (load_cell Tryd.underlying9 rfl (bx_cell (HX914).2 0 rfl))) ?_
    simp only [ls0, ls1]
    refine st (.agg #[.string ((rd_T53 l0 x888).f1), .string ((rd_T53 l0 x888).f0), .int .i64 0]) rfl rfl (xr_build #[(0, .string ((rd_T53 l0 x888).f1)), (1, .string ((rd_T53 l0 x888).f0))] (.agg #[.string ((rd_T53 l0 x888).f1), .string ((rd_T53 l0 x888).f0), .int .i64 0]) rfl (mp_ rfl) (by first | rfl | (go_simp; done) | (go_simp; rfl) | (go_simp; exact i64_w _) | (go_simp; exact i32_w _))) ?_
    refine bx_store (C := C910) (z := 12) (g := g908) (j := 0) (tb := 53) (u := .agg #[.string ((rd_T53 l0 x888).f1), .string ((rd_T53 l0 x888).f0), .int .i64 0]) (seg := [.string ((rd_T53 l0 x888).f1), .string ((rd_T53 l0 x888).f0), .int .i64 0]) (xs := [.string ((rd_T53 l0 x888).f0), .string ((rd_T53 l0 x888).f1), .int .i64 ((rd_T53 l0 x888).f2)]) rfl rfl rfl rfl rfl rfl (by first | kernel_rfl | rfl) (by simp [Value.oneCell']) HX914 (by simp only [List.length_cons, List.length_nil]; omega) rfl ?_
    intro w929 HX930 hs931
    replace HJ881 := HJ881.thru hs931 rfl
    replace HJ887 := HJ887.thru hs931 rfl
    replace HG889 := HG889.thru hs931 rfl
    replace HS893 := HS893.trans hs931 hc rfl
    (try simp only [ls0, ls1])
    refine wl_end ?_
    (try simp only [ls0, ls1])
    refine hK916 _ _ ?_
    (try clear hK916 K916)
    refine wl_region ?_
    refine mv_ rfl ?_
    refine st (.agg #[.string ((rd_T53 l0 x888).f1), .string ((rd_T53 l0 x888).f0), .int .i64 0]) rfl rfl (xr_load _ _ rfl rfl (load_agg (cs := [.string ((rd_T53 l0 x888).f1), .string ((rd_T53 l0 x888).f0), .int .i64 0]) Tryd.underlying53 rfl (by kernel_rfl) (bx_cells (HX930).2 0 rfl))) ?_
    refine ev_run (w1 := w929.alloc (.cells #[.string ((rd_T53 l0 x888).f1), .string ((rd_T53 l0 x888).f0), .int .i64 0] 53)) (.slice (some ⟨w929.heap.size, 0, none⟩) 1 1) rfl rfl (by first | (go_simp; done) | (go_simp; rfl)) ?_
    (try simp only [Act.put, List.setIfInBounds_toArray, ls0, ls1])
    obtain ⟨c932, H⟩ := if_some H
    obtain ⟨y933, A934, H⟩ := bnd H
    refine Own.append k53 (C := C910) (i := 11) rfl (.tmp 52) (.tmp 54) 22 53 (.agg #[(.string ⟨#[]⟩), (.string ⟨#[]⟩), (.int .i64 0)]) 40 rfl Tryd.underlying22 info53 rfl (by decide) (by decide) (.slice A883 x882.length cp885) x882 (⟨(rd_T53 l0 x888).f1, (rd_T53 l0 x888).f0, 0⟩ : S53) [.string ((rd_T53 l0 x888).f1), .string ((rd_T53 l0 x888).f0), .int .i64 0] rfl rfl (k53_mkF _ _ (⟨(rd_T53 l0 x888).f1, (rd_T53 l0 x888).f0, 0⟩ : S53)) HJ887 (by decide) (by omega) (Option.some.inj A934) ?_
    intro A935 cp936 w937 C938 HO939 HC940 hs941
    replace HJ881 := HJ881.thru hs941 rfl
    replace HG889 := HG889.thru hs941 rfl
    replace HX930 := HX930.thru hs941 rfl
    replace HS893 := HS893.trans hs941 hc rfl
    (try simp only [ls0, ls1])
    refine as_ rfl ?_
    refine wl_end ?_
    (try simp only [ls0, ls1])
    refine hK902 _ _ ?_
    (try clear hK902 K902)
    refine wl_region ?_
    refine mv_ rfl ?_
    refine st (.int .i64 (wrap64 (x888 + 1))) rfl rfl (xr_bin _ _ _ rfl rfl rfl (B.add_i64 _ _)) ?_
    refine as_ rfl ?_
    refine wl_end ?_
    (try simp only [ls0, ls1])
    exact jmpL (fun a_ h_ => ih895 k898 (by omega) a_ _ h_) (fun g_ => ⟨_, wrap64 (x888 + 1), A935, y933.length, cp936, y933, g_, rfl, HS893, (by omega), HJ881, HO939, HC940, HG889, H⟩) rfl
   rw [if_neg c901] at H
   (try rw [(decide_eq_false c901)])
   refine wp_cond_false rfl ?_
   refine wp_exit ?_
   (try simp only [ls0, ls1])
   refine hK623 _ _ ?_
   (try clear hK623 K623)
   refine wp_seq_k fun K942 hK942 => ?_
   refine wl_region ?_
   refine mv_ rfl ?_
   obtain ⟨⟨t943, t944, t945⟩, A946, H⟩ := bnd H
   (try dsimp only at H)
   refine st_call #[.slice A0 l0.length c0] rfl rfl Tryd.func15 (by kernel_rfl) rfl rfl (mp_ rfl) ?_
   refine (order_New.calls k898 A0 c0 l0 t943 t944 t945  (fun z_ => pal [(0, 0)] (C890 z_)) w891 (fun _ => pal_lt rfl _) (Ft.arg HJ881 rfl) HCP0 A946).mono ?_
   rintro _ w948 ⟨C949, v951, rfl, hs950, HB952⟩
   refine ⟨_, rfl, ?_⟩
   replace HB952 := Ft.res (U := [(0, 0)]) HB952 hs950 [0] rfl rfl rfl
   replace hs950 := Step.lift (U := [(0, 0)]) hs950 [] rfl rfl
   generalize up C890 C949 w891.heap.size [(0, 0)] = C949_ at HB952 hs950
   replace HJ887 := HJ887.thru hs950 rfl
   replace HG889 := HG889.thru hs950 rfl
   replace HS893 := HS893.trans hs950 hc rfl
   (try simp only [ls0, ls1])
   refine mv_ rfl ?_
   refine st (v951) rfl rfl (xr_extract (.tuple #[v951, .int .i64 t944, .int .i64 t945]) _ rfl rfl rfl) ?_
   refine st (.int .i64 t944) rfl rfl (xr_extract (.tuple #[v951, .int .i64 t944, .int .i64 t945]) _ rfl rfl rfl) ?_
   refine st (.int .i64 t945) rfl rfl (xr_extract (.tuple #[v951, .int .i64 t944, .int .i64 t945]) _ rfl rfl rfl) ?_
   simp only [ls0, ls1]
   refine as_ rfl ?_
   refine as_ rfl ?_
   refine as_ rfl ?_
   refine wl_end ?_
   (try simp only [ls0, ls1])
   refine hK942 _ _ ?_
   (try clear hK942 K942)
   refine wp_seq_k fun K953 hK953 => ?_
   refine wl_region ?_
   refine mv_ rfl ?_
   have HR954 := Ft.recolor (a := 11) (b := 0) (HJ887.ft) [0] rfl
   replace HG889 := Ft.recol (a := 11) (b := 0) HG889 (.inl rfl)
   replace HB952 := Ft.recol (a := 11) (b := 0) HB952 (.inl rfl)
   replace HS893 := Step.recol (a := 11) (b := 0) HS893 hc (by decide)
   obtain ⟨⟨t955, t956, t957⟩, A958, H⟩ := bnd H
   (try dsimp only at H)
   refine st_call #[.slice A883 x882.length cp885] rfl rfl Tryd.func15 (by kernel_rfl) rfl rfl (mp_ rfl) ?_
   refine (order_New.calls k898 A883 cp885 x882 t955 t956 t957  (fun z_ => pal [(0, 0)] ((recol C949_ 11 0) z_)) w948 (fun _ => pal_lt rfl _) (Ft.arg HR954 rfl) HC886 A958).mono ?_
   rintro _ w960 ⟨C961, v963, rfl, hs962, HB964⟩
   refine ⟨_, rfl, ?_⟩
   replace HB964 := Ft.res (U := [(0, 0)]) HB964 hs962 [0] rfl rfl rfl
   replace hs962 := Step.lift (U := [(0, 0)]) hs962 [] rfl rfl
   generalize up (recol C949_ 11 0) C961 w948.heap.size [(0, 0)] = C961_ at HB964 hs962
   replace HG889 := HG889.thru hs962 rfl
   replace HB952 := HB952.thru hs962 rfl
   replace HS893 := HS893.trans hs962 hc rfl
   (try simp only [ls0, ls1])
   refine mv_ rfl ?_
   refine st (v963) rfl rfl (xr_extract (.tuple #[v963, .int .i64 t956, .int .i64 t957]) _ rfl rfl rfl) ?_
   refine st (.int .i64 t956) rfl rfl (xr_extract (.tuple #[v963, .int .i64 t956, .int .i64 t957]) _ rfl rfl rfl) ?_
   refine st (.int .i64 t957) rfl rfl (xr_extract (.tuple #[v963, .int .i64 t956, .int .i64 t957]) _ rfl rfl rfl) ?_
   simp only [ls0, ls1]
   refine as_ rfl ?_
   refine as_ rfl ?_
   refine as_ rfl ?_
   refine wl_end ?_
   (try simp only [ls0, ls1])
   refine hK953 _ _ ?_
   (try clear hK953 K953)
   refine wp_seq_k fun K965 hK965 => ?_
   refine wl_region ?_
   refine mv_ rfl ?_
   obtain ⟨⟨t966, t967, t968, t969⟩, A970, H⟩ := bnd H
   (try dsimp only at H)
   refine st_call #[v951] rfl rfl Tryd.func17 (by kernel_rfl) rfl rfl (mp_ rfl) ?_
   refine (lattice_New.calls k898 v951 t943 t966 t967 t968 t969  (fun z_ => pal [(0, 0)] (C961_ z_)) w960 (fun _ => pal_lt rfl _) (Ft.arg HG889 rfl) (Ft.arg HB952 rfl) A970).mono ?_
   rintro _ w972 ⟨C973, v975, rfl, hs974, HB976⟩
   refine ⟨_, rfl, ?_⟩
   replace HB976 := OwnPt.res (U := [(0, 0), (5, 12)]) (j := 12) HB976 hs974 (by rfl) (by rfl) (by decide) rfl rfl
   replace hs974 := Step.lift (U := [(0, 0), (5, 12)]) hs974 [] rfl rfl
   generalize up C961_ C973 w960.heap.size [(0, 0), (5, 12)] = C973_ at HB976 hs974
   replace HG889 := HG889.thru hs974 rfl
   replace HB952 := HB952.thru hs974 rfl
   replace HB964 := HB964.thru hs974 rfl
   replace HS893 := HS893.trans hs974 hc rfl
   (try simp only [ls0, ls1])
   refine mv_ rfl ?_
   refine st (v975) rfl rfl (xr_extract (.tuple #[v975, .int .i64 t967, .int .i64 t968, .int .i64 t969]) _ rfl rfl rfl) ?_
   refine st (.int .i64 t967) rfl rfl (xr_extract (.tuple #[v975, .int .i64 t967, .int .i64 t968, .int .i64 t969]) _ rfl rfl rfl) ?_
   refine st (.int .i64 t968) rfl rfl (xr_extract (.tuple #[v975, .int .i64 t967, .int .i64 t968, .int .i64 t969]) _ rfl rfl rfl) ?_
   simp only [ls0, ls1]
   refine st (.int .i64 t969) rfl rfl (xr_extract (.tuple #[v975, .int .i64 t967, .int .i64 t968, .int .i64 t969]) _ rfl rfl rfl) ?_
   refine as_ rfl ?_
   refine as_ rfl ?_
   refine as_ rfl ?_
   simp only [ls0, ls1]
   refine as_ rfl ?_
   refine wl_end ?_
   (try simp only [ls0, ls1])
   refine hK965 _ _ ?_
   (try clear hK965 K965)
   refine wp_seq_k fun K977 hK977 => ?_
   refine wl_region ?_
   refine mv_ rfl ?_
   obtain ⟨⟨t978, t979, t980, t981⟩, A982, H⟩ := bnd H
   (try dsimp only at H)
   refine st_call #[v963] rfl rfl Tryd.func17 (by kernel_rfl) rfl rfl (mp_ rfl) ?_
   refine (lattice_New.calls k898 v963 t955 t978 t979 t980 t981  (fun z_ => pal [(0, 0)] (C973_ z_)) w972 (fun _ => pal_lt rfl _) (Ft.arg HG889 rfl) (Ft.arg HB964 rfl) A982).mono ?_
   rintro _ w984 ⟨C985, v987, rfl, hs986, HB988⟩
   refine ⟨_, rfl, ?_⟩
   replace HB988 := OwnPt.res (U := [(0, 0), (5, 13)]) (j := 13) HB988 hs986 (by rfl) (by rfl) (by decide) rfl rfl
   replace hs986 := Step.lift (U := [(0, 0), (5, 13)]) hs986 [] rfl rfl
   generalize up C973_ C985 w972.heap.size [(0, 0), (5, 13)] = C985_ at HB988 hs986
   replace HG889 := HG889.thru hs986 rfl
   replace HB952 := HB952.thru hs986 rfl
   replace HB964 := HB964.thru hs986 rfl
   replace HB976 := HB976.thru hs986 rfl
   replace HS893 := HS893.trans hs986 hc rfl
   (try simp only [ls0, ls1])
   refine mv_ rfl ?_
   refine st (v987) rfl rfl (xr_extract (.tuple #[v987, .int .i64 t979, .int .i64 t980, .int .i64 t981]) _ rfl rfl rfl) ?_
   refine st (.int .i64 t979) rfl rfl (xr_extract (.tuple #[v987, .int .i64 t979, .int .i64 t980, .int .i64 t981]) _ rfl rfl rfl) ?_
   refine st (.int .i64 t980) rfl rfl (xr_extract (.tuple #[v987, .int .i64 t979, .int .i64 t980, .int .i64 t981]) _ rfl rfl rfl) ?_
   simp only [ls0, ls1]
   refine st (.int .i64 t981) rfl rfl (xr_extract (.tuple #[v987, .int .i64 t979, .int .i64 t980, .int .i64 t981]) _ rfl rfl rfl) ?_
   refine as_ rfl ?_
   refine as_ rfl ?_
   refine as_ rfl ?_
   simp only [ls0, ls1]
   refine as_ rfl ?_
   refine wl_end ?_
   (try simp only [ls0, ls1])
   refine hK977 _ _ ?_
   (try clear hK977 K977)
   refine wp_seq_k fun K989 hK989 => ?_
   refine wp_seq_k fun K1020 hK1020 => ?_
   have hj1023 : ∀ (kq1037 : Nat) (C1024 : Nat → Nat) (w1025 : World) (x1035 : Bool) (v1028 : Value) (x1027 : Option S81) (v1031 : Value) (x1030 : Option S81) (g_ : Nat → Value), Step c w C1024 w1025 [] → kq1037 ≤ k898 → (Ft C1024 [0] w1025 (fun w_ => (Kd.ptr 81 k81).K w_ x1027 [v1028])) → (Ft C1024 [0] w1025 (fun w_ => (Kd.ptr 81 k81).K w_ x1030 [v1031])) → (OwnPt C1024 12 w1025 107 k107 v975 t966) → (OwnPt C1024 13 w1025 107 k107 v987 t978) → (Ft C1024 [0] w1025 GTab) → blazonlaw14_LatticeTurned.j0 kq1037 a1 a2 t966 t969 t978 t981 x1027 x1030 x1035 = some r → K1020 ⟨#[(g_ 0), .int .u8 a1, .int .u8 a2, (g_ 3), (g_ 4), (g_ 5), (g_ 6), (g_ 7), (g_ 8), (g_ 9), v1028, (g_ 11), (g_ 12), v1031, (g_ 14), (g_ 15), v975, (g_ 17), (g_ 18), .int .i64 t969, v987, (g_ 21), (g_ 22), .int .i64 t981, (g_ 24), (g_ 25), (g_ 26), (g_ 27), (g_ 28), (g_ 29), (g_ 30), (g_ 31), (g_ 32), (g_ 33), (g_ 34), (g_ 35), (g_ 36), (g_ 37), (g_ 38), (g_ 39), (g_ 40), (g_ 41), (g_ 42), (g_ 43), (g_ 44), (g_ 45), (g_ 46), (g_ 47), (g_ 48), (g_ 49), (g_ 50), (g_ 51), (g_ 52), (g_ 53), (g_ 54), (g_ 55), (g_ 56), (g_ 57), (g_ 58), (g_ 59), (g_ 60), (g_ 61), (g_ 62), (g_ 63), (g_ 64), (g_ 65), (g_ 66), (g_ 67), (g_ 68), (g_ 69), (g_ 70), (g_ 71), (g_ 72), (g_ 73), (g_ 74), (g_ 75), (g_ 76), (g_ 77), (g_ 78), (g_ 79), (g_ 80), (g_ 81), (g_ 82), (g_ 83), (g_ 84), (g_ 85), (g_ 86), (g_ 87), (g_ 88), (g_ 89), (g_ 90), .bool x1035, (g_ 92), (g_ 93), (g_ 94), (g_ 95), (g_ 96), (g_ 97), (g_ 98), (g_ 99), (g_ 100), (g_ 101), (g_ 102), (g_ 103), (g_ 104), (g_ 105), (g_ 106), (g_ 107), (g_ 108), (g_ 109), (g_ 110), (g_ 111), (g_ 112), (g_ 113), (g_ 114), (g_ 115), (g_ 116), (g_ 117), (g_ 118), (g_ 119), (g_ 120), (g_ 121), (g_ 122), (g_ 123), (g_ 124), (g_ 125), (g_ 126), (g_ 127), (g_ 128), (g_ 129), (g_ 130), (g_ 131), (g_ 132), (g_ 133), (g_ 134), (g_ 135), (g_ 136), (g_ 137), (g_ 138), (g_ 139), (g_ 140), (g_ 141), (g_ 142), (g_ 143), (g_ 144), (g_ 145), (g_ 146), (g_ 147), (g_ 148), (g_ 149), (g_ 150), (g_ 151), (g_ 152), (g_ 153), (g_ 154), (g_ 155), (g_ 156), (g_ 157), (g_ 158), (g_ 159), (g_ 160), (g_ 161), (g_ 162), (g_ 163), (g_ 164), (g_ 165), (g_ 166), (g_ 167), (g_ 168)], []⟩ w1025 := by
    intro kq1037 C1024 w1025 x1035 v1028 x1027 v1031 x1030 g_ HS1026 hk1038 HJ1029 HJ1032 HJ1033 HJ1034 HG1036 H
    cases kq1037 with
    | zero => exact absurd H (by simp [blazonlaw14_LatticeTurned.j0])
    | succ k1039 =>
     simp only [blazonlaw14_LatticeTurned.j0] at H
     refine hK1020 _ _ ?_
     (try clear hK1020)
     by_cases c1040 : x1035 = true
     ·rw [if_pos c1040] at H
      (try rw [c1040])
      refine wp_cond_true rfl ?_
      refine wp_seq_k fun K1041 hK1041 => ?_
      refine wl_region ?_
      obtain ⟨t1042, A1043, H⟩ := bnd H
      refine st_call #[] rfl rfl Tryd.func14 (by kernel_rfl) rfl rfl (mp_ rfl) ?_
      refine (blazonlaw14_awake.calls k1039 t1042  (fun z_ => pal [(0, 0)] (C1024 z_)) w1025 (fun _ => pal_lt rfl _) (Ft.arg HG1036 rfl) A1043).mono ?_
      rintro _ w1045 ⟨C1046, rfl, hs1047⟩
      refine ⟨_, rfl, ?_⟩
      replace hs1047 := Step.lift (U := [(0, 0)]) hs1047 [] rfl rfl
      generalize up C1024 C1046 w1025.heap.size [(0, 0)] = C1046_ at hs1047
      replace HG1036 := HG1036.thru hs1047 rfl
      replace HS1026 := HS1026.trans hs1047 hc rfl
      (try simp only [ls0, ls1])
      refine as_ rfl ?_
      refine wl_end ?_
      (try simp only [ls0, ls1])
      refine hK1041 _ _ ?_
      (try clear hK1041 K1041)
      refine wp_ret ?_
      (try simp only [Exit.inBlock, Exit.then, Exit.noGoto])
      (try simp only [ls0, ls1])
      obtain rfl := Option.some.inj H
      refine bodyPost_ret (results_tmp rfl _ _ _) rfl ?_
      exact ⟨_, rfl, HS1026⟩
     rw [if_neg c1040] at H
     (try rw [(Bool.eq_false_iff.mpr c1040)])
     refine wp_cond_false rfl ?_
     refine wp_skip ?_
     (try simp only [ls0, ls1])
     refine hK989 _ _ ?_
     (try clear hK989 K989)
     refine wp_seq_k fun K1048 hK1048 => ?_
     refine wp_seq_k fun K1049 hK1049 => ?_
     refine wl_region ?_
     refine mv_ rfl ?_
     refine mv_ rfl ?_
     refine st (.bool (!decide (t969 = t981))) rfl rfl (xr_bin _ _ _ rfl rfl rfl (B.neq_i64 _ _)) ?_
     refine wl_end ?_
     (try simp only [ls0, ls1])
     refine hK1049 _ _ ?_
     (try clear hK1049 K1049)
     by_cases c1050 : t969 = t981
     ·rw [if_pos c1050] at H
      (try rw [(decide_eq_true c1050)])
      (try simp only [Bool.not_true, Bool.not_false])
      refine wp_cond_false rfl ?_
      refine wp_skip ?_
      (try simp only [ls0, ls1])
      refine hK1048 _ _ ?_
      (try clear hK1048 K1048)
      refine wp_seq_k fun K1051 hK1051 => ?_
      refine wp_seq_k fun K1052 hK1052 => ?_
      refine wl_region ?_
      refine mv_ rfl ?_
      refine st (.bool (!decide (t969 = 0))) rfl rfl (xr_bin _ _ _ rfl rfl rfl (B.neq_i64 _ _)) ?_
      refine wl_end ?_
      (try simp only [ls0, ls1])
      refine hK1052 _ _ ?_
      (try clear hK1052 K1052)
      by_cases c1053 : t969 = 0
      ·rw [if_pos c1053] at H
       (try rw [(decide_eq_true c1053)])
       (try simp only [Bool.not_true, Bool.not_false])
       refine wp_cond_false rfl ?_
       refine wp_skip ?_
       (try simp only [ls0, ls1])
       refine hK1051 _ _ ?_
       (try clear hK1051 K1051)
       refine wp_seq_k fun K1054 hK1054 => ?_
       refine wl_region ?_
       refine mv_ rfl ?_
       obtain ⟨t1055, A1056, H⟩ := bnd H
       refine st_call #[v1028] rfl rfl Tryd.func21 (by kernel_rfl) rfl rfl (mp_ rfl) ?_
       refine (order_Order_Len.calls v1028 x1027 t1055  (fun z_ => pal [(0, 0)] (C1024 z_)) w1025 (fun _ => pal_lt rfl _) (Ft.arg HJ1029 rfl) A1056).mono ?_
       rintro _ w1058 ⟨C1059, rfl, hs1060⟩
       refine ⟨_, rfl, ?_⟩
       replace hs1060 := Step.lift (U := [(0, 0)]) hs1060 [] rfl rfl
       generalize up C1024 C1059 w1025.heap.size [(0, 0)] = C1059_ at hs1060
       replace HJ1029 := HJ1029.thru hs1060 rfl
       replace HJ1032 := HJ1032.thru hs1060 rfl
       replace HJ1033 := HJ1033.thru hs1060 rfl
       replace HJ1034 := HJ1034.thru hs1060 rfl
       replace HG1036 := HG1036.thru hs1060 rfl
       replace HS1026 := HS1026.trans hs1060 hc rfl
       (try simp only [ls0, ls1])
       refine as_ rfl ?_
       refine wl_end ?_
       (try simp only [ls0, ls1])
       refine hK1054 _ _ ?_
       (try clear hK1054 K1054)
       refine wp_seq_k fun K1061 hK1061 => ?_
       refine wp_seq_k fun K1062 hK1062 => ?_
       refine wl_region ?_
       refine mv_ rfl ?_
       refine st (.bool (decide (t1055 = 0))) rfl rfl (xr_bin _ _ _ rfl rfl rfl (B.eql_i64 _ _)) ?_
       refine wl_end ?_
       (try simp only [ls0, ls1])
       refine hK1062 _ _ ?_
       (try clear hK1062 K1062)
       by_cases c1063 : t1055 = 0
       ·rw [if_pos c1063] at H
        (try rw [(decide_eq_true c1063)])
        refine wp_cond_true rfl ?_
        refine wp_seq_k fun K1064 hK1064 => ?_
        refine wl_region ?_
        refine st (.bool false) rfl rfl (xr_assign _ rfl rfl) ?_
        refine wl_end ?_
        (try simp only [ls0, ls1])
        refine hK1064 _ _ ?_
        (try clear hK1064 K1064)
        refine wp_ret ?_
        (try simp only [Exit.inBlock, Exit.then, Exit.noGoto])
        (try simp only [ls0, ls1])
        obtain rfl := Option.some.inj H
        refine bodyPost_ret (results_tmp rfl _ _ _) rfl ?_
        exact ⟨_, rfl, HS1026⟩
       rw [if_neg c1063] at H
       (try rw [(decide_eq_false c1063)])
       refine wp_cond_false rfl ?_
       refine wp_skip ?_
       (try simp only [ls0, ls1])
       refine hK1061 _ _ ?_
       (try clear hK1061 K1061)
       refine wp_seq_k fun K1065 hK1065 => ?_
       (try simp only [ls0, ls1])
       refine al_start (lb 10 0) rfl rfl rfl (fun w_ => True) trivial [] ?_
       replace HJ1029 := HJ1029.drew
       replace HJ1032 := HJ1032.drew
       replace HJ1033 := HJ1033.drew
       replace HJ1034 := HJ1034.drew
       replace HG1036 := HG1036.drew
       replace HS1026 := Step.ofDrew HS1026
       generalize w1058.drew = w1066 at *
       refine al_mv 0 (lb 10 1) rfl rfl (by kernel_rfl) (fun _ _ _ => id) rfl ?_
       refine al_pure 1 104 (.int .i64 (wrap64 (a1))) (lb 10 3) rfl rfl (by kernel_rfl) (fun _ _ _ => id) rfl (fun w_ => xr_conv (.int .u8 a1) _ rfl rfl (by first | rfl | (go_simp; done) | (go_simp; rfl) | (go_simp; exact i64_w _) | (go_simp; exact i32_w _))) ?_
       refine al_mv 2 (lb 10 7) rfl rfl (by kernel_rfl) (fun _ _ _ => id) rfl ?_
       refine al_pure 3 106 (.int .i64 (Int.tmod (wrap64 (a1)) t1055)) (lb 10 15) rfl rfl (by kernel_rfl) (fun _ _ _ => id) rfl (fun w_ => xr_bin _ _ _ rfl rfl rfl (B.rem_i64 _ _ (by assumption))) ?_
       simp only [ls0, ls1]
       refine al_mv 4 (lb 10 31) rfl rfl (by kernel_rfl) (fun _ _ _ => id) rfl ?_
       refine al_pure 5 108 (.int .i64 (wrap64 (a2))) (lb 10 63) rfl rfl (by kernel_rfl) (fun _ _ _ => id) rfl (fun w_ => xr_conv (.int .u8 a2) _ rfl rfl (by first | rfl | (go_simp; done) | (go_simp; rfl) | (go_simp; exact i64_w _) | (go_simp; exact i32_w _))) ?_
       refine al_mv 6 (lb 10 127) rfl rfl (by kernel_rfl) (fun _ _ _ => id) rfl ?_
       refine al_pure 7 110 (.int .i64 (Int.tmod (wrap64 (a2)) t1055)) (lb 10 255) rfl rfl (by kernel_rfl) (fun _ _ _ => id) rfl (fun w_ => xr_bin _ _ _ rfl rfl rfl (B.rem_i64 _ _ (by assumption))) ?_
       simp only [ls0, ls1]
       refine al_as 8 (lb 10 511) rfl rfl (by kernel_rfl) (fun _ _ _ => id) rfl ?_
       refine al_as 9 (lb 10 1023) rfl rfl (by kernel_rfl) (fun _ _ _ => id) rfl ?_
       refine al_end (by kernel_rfl) ?_
       (try simp only [ls0, ls1])
       refine hK1065 _ _ ?_
       (try clear hK1065 K1065)
       refine wp_seq_k fun K1067 hK1067 => ?_
       refine wl_region ?_
       refine mv_ rfl ?_
       refine mv_ rfl ?_
       refine mv_ rfl ?_
       obtain ⟨t1068, A1069, H⟩ := bnd H
       refine st_call #[v1028, .int .i64 (Int.tmod (wrap64 (a1)) t1055)] rfl rfl Tryd.func32 (by kernel_rfl) rfl rfl (mp_ rfl) ?_
       refine (order_Order_Name.calls v1028 x1027 (Int.tmod (wrap64 (a1)) t1055) t1068  (fun z_ => pal [(0, 0)] (C1059_ z_)) w1066 (fun _ => pal_lt rfl _) (Ft.arg HJ1029 rfl) A1069).mono ?_
       rintro _ w1071 ⟨C1072, rfl, hs1073⟩
       refine ⟨_, rfl, ?_⟩
       replace hs1073 := Step.lift (U := [(0, 0)]) hs1073 [] rfl rfl
       generalize up C1059_ C1072 w1066.heap.size [(0, 0)] = C1072_ at hs1073
       replace HJ1029 := HJ1029.thru hs1073 rfl
       replace HJ1032 := HJ1032.thru hs1073 rfl
       replace HJ1033 := HJ1033.thru hs1073 rfl
       replace HJ1034 := HJ1034.thru hs1073 rfl
       replace HG1036 := HG1036.thru hs1073 rfl
       replace HS1026 := HS1026.trans hs1073 hc rfl
       (try simp only [ls0, ls1])
       obtain ⟨⟨t1074, t1075⟩, A1076, H⟩ := bnd H
       (try dsimp only at H)
       refine st_call #[v1031, .string t1068] rfl rfl Tryd.func31 (by kernel_rfl) rfl rfl (mp_ rfl) ?_
       refine (order_Order_Find.calls v1031 x1030 t1068 t1074 t1075  (fun z_ => pal [(0, 0)] (C1072_ z_)) w1071 (fun _ => pal_lt rfl _) (Ft.arg HJ1032 rfl) A1076).mono ?_
       rintro _ w1078 ⟨C1079, rfl, hs1080⟩
       refine ⟨_, rfl, ?_⟩
       replace hs1080 := Step.lift (U := [(0, 0)]) hs1080 [] rfl rfl
       generalize up C1072_ C1079 w1071.heap.size [(0, 0)] = C1079_ at hs1080
       replace HJ1029 := HJ1029.thru hs1080 rfl
       replace HJ1032 := HJ1032.thru hs1080 rfl
       replace HJ1033 := HJ1033.thru hs1080 rfl
       replace HJ1034 := HJ1034.thru hs1080 rfl
       replace HG1036 := HG1036.thru hs1080 rfl
       replace HS1026 := HS1026.trans hs1080 hc rfl
       (try simp only [ls0, ls1])
       refine mv_ rfl ?_
       refine st (.int .i64 t1074) rfl rfl (xr_extract (.tuple #[.int .i64 t1074, .bool t1075]) _ rfl rfl rfl) ?_
       refine st (.bool t1075) rfl rfl (xr_extract (.tuple #[.int .i64 t1074, .bool t1075]) _ rfl rfl rfl) ?_
       refine as_ rfl ?_
       simp only [ls0, ls1]
       refine as_ rfl ?_
       refine wl_end ?_
       (try simp only [ls0, ls1])
       refine hK1067 _ _ ?_
       (try clear hK1067 K1067)
       refine wp_seq_k fun K1081 hK1081 => ?_
       refine wl_region ?_
       refine mv_ rfl ?_
       refine mv_ rfl ?_
       refine mv_ rfl ?_
       obtain ⟨t1082, A1083, H⟩ := bnd H
       refine st_call #[v1028, .int .i64 (Int.tmod (wrap64 (a2)) t1055)] rfl rfl Tryd.func32 (by kernel_rfl) rfl rfl (mp_ rfl) ?_
       refine (order_Order_Name.calls v1028 x1027 (Int.tmod (wrap64 (a2)) t1055) t1082  (fun z_ => pal [(0, 0)] (C1079_ z_)) w1078 (fun _ => pal_lt rfl _) (Ft.arg HJ1029 rfl) A1083).mono ?_
       rintro _ w1085 ⟨C1086, rfl, hs1087⟩
       refine ⟨_, rfl, ?_⟩
       replace hs1087 := Step.lift (U := [(0, 0)]) hs1087 [] rfl rfl
       generalize up C1079_ C1086 w1078.heap.size [(0, 0)] = C1086_ at hs1087
       replace HJ1029 := HJ1029.thru hs1087 rfl
       replace HJ1032 := HJ1032.thru hs1087 rfl
       replace HJ1033 := HJ1033.thru hs1087 rfl
       replace HJ1034 := HJ1034.thru hs1087 rfl
       replace HG1036 := HG1036.thru hs1087 rfl
       replace HS1026 := HS1026.trans hs1087 hc rfl
       (try simp only [ls0, ls1])
       obtain ⟨⟨t1088, t1089⟩, A1090, H⟩ := bnd H
       (try dsimp only at H)
       refine st_call #[v1031, .string t1082] rfl rfl Tryd.func31 (by kernel_rfl) rfl rfl (mp_ rfl) ?_
       refine (order_Order_Find.calls v1031 x1030 t1082 t1088 t1089  (fun z_ => pal [(0, 0)] (C1086_ z_)) w1085 (fun _ => pal_lt rfl _) (Ft.arg HJ1032 rfl) A1090).mono ?_
       rintro _ w1092 ⟨C1093, rfl, hs1094⟩
       refine ⟨_, rfl, ?_⟩
       replace hs1094 := Step.lift (U := [(0, 0)]) hs1094 [] rfl rfl
       generalize up C1086_ C1093 w1085.heap.size [(0, 0)] = C1093_ at hs1094
       replace HJ1029 := HJ1029.thru hs1094 rfl
       replace HJ1032 := HJ1032.thru hs1094 rfl
       replace HJ1033 := HJ1033.thru hs1094 rfl
       replace HJ1034 := HJ1034.thru hs1094 rfl
       replace HG1036 := HG1036.thru hs1094 rfl
       replace HS1026 := HS1026.trans hs1094 hc rfl
       (try simp only [ls0, ls1])
       refine mv_ rfl ?_
       refine st (.int .i64 t1088) rfl rfl (xr_extract (.tuple #[.int .i64 t1088, .bool t1089]) _ rfl rfl rfl) ?_
       refine st (.bool t1089) rfl rfl (xr_extract (.tuple #[.int .i64 t1088, .bool t1089]) _ rfl rfl rfl) ?_
       refine as_ rfl ?_
       simp only [ls0, ls1]
       refine as_ rfl ?_
       refine wl_end ?_
       (try simp only [ls0, ls1])
       refine hK1081 _ _ ?_
       (try clear hK1081 K1081)
       cases t966 with
       | none =>
        (try simp only [onOpt] at H)
        obtain rfl := OwnPt.isNone HJ1033
        exact absurd H (by simp)
       | some o1095 =>
        (try simp only [onOpt] at H)
        obtain ⟨g1096, cs1097, rfl, HX1098, HK1099⟩ := OwnPt.isSome HJ1033
        obtain ⟨vq1100_0, rfl, HRq1100_0, HLq1100_4, HLq1100_5⟩ := k107_openF HK1099
        replace HRq1100_0 : Ft C1093_ [0] w1092 (fun w_ => (Kd.ptr 81 k81).K w_ o1095.f0 [vq1100_0]) := HRq1100_0
        replace HX1098 : Bx C1093_ 12 w1092 g1096 107 ([vq1100_0, .int .u32 o1095.f1.f0.f0, .int .i32 o1095.f1.f1.f0.f0, .int .u32 o1095.f1.f1.f0.f1] ++ (List.map (Value.int .i8) o1095.f2 ++ (List.map (Value.int .i8) o1095.f3 ++ ([.int .i64 o1095.f4.f0])))) := HX1098
        cases t978 with
        | none =>
         (try simp only [onOpt] at H)
         obtain rfl := OwnPt.isNone HJ1034
         exact absurd H (by simp)
        | some o1101 =>
         (try simp only [onOpt] at H)
         obtain ⟨g1102, cs1103, rfl, HX1104, HK1105⟩ := OwnPt.isSome HJ1034
         obtain ⟨vq1106_0, rfl, HRq1106_0, HLq1106_4, HLq1106_5⟩ := k107_openF HK1105
         replace HRq1106_0 : Ft C1093_ [0] w1092 (fun w_ => (Kd.ptr 81 k81).K w_ o1101.f0 [vq1106_0]) := HRq1106_0
         replace HX1104 : Bx C1093_ 13 w1092 g1102 107 ([vq1106_0, .int .u32 o1101.f1.f0.f0, .int .i32 o1101.f1.f1.f0.f0, .int .u32 o1101.f1.f1.f0.f1] ++ (List.map (Value.int .i8) o1101.f2 ++ (List.map (Value.int .i8) o1101.f3 ++ ([.int .i64 o1101.f4.f0])))) := HX1104
         refine wp_seq_k fun K1107 hK1107 => ?_
         refine wl_region ?_
         refine mv_ rfl ?_
         refine mv_ rfl ?_
         refine mv_ rfl ?_
         refine mv_ rfl ?_
         simp only [ls0, ls1]
         obtain ⟨⟨t1108, t1109⟩, A1110, H⟩ := bnd H
         (try dsimp only at H)
         refine st_call #[.pointer (some ⟨g1096, 0, none⟩), .int .i64 (Int.tmod (wrap64 (a1)) t1055), .int .i64 (Int.tmod (wrap64 (a2)) t1055)] rfl rfl Tryd.func22 (by kernel_rfl) rfl rfl (mp_ rfl) ?_
         refine (lattice_Lattice_Join.calls g1096 vq1100_0 o1095.f0 o1095.f1.f0.f0 o1095.f1.f1.f0.f0 o1095.f1.f1.f0.f1 o1095.f2 o1095.f3 o1095.f4.f0 (Int.tmod (wrap64 (a1)) t1055) (Int.tmod (wrap64 (a2)) t1055) t1108 t1109  (fun z_ => pal [(0, 0), (12, 1)] (C1093_ z_)) w1092 (fun _ => pal_lt rfl _) (Bx.arg HX1098 rfl) (Ft.arg HRq1100_0 rfl) HLq1100_4 HLq1100_5 A1110).mono ?_
         rintro _ w1112 ⟨C1113, rfl, hs1114, HX1115⟩
         refine ⟨_, rfl, ?_⟩
         replace HX1115 := Bx.res (U := [(0, 0), (1, 12)]) (j := 12) HX1115 hs1114 (by rfl) (by decide) rfl
         replace hs1114 := Step.lift (U := [(0, 0), (1, 12)]) hs1114 [12] rfl rfl
         generalize up C1093_ C1113 w1092.heap.size [(0, 0), (1, 12)] = C1113_ at HX1115 hs1114
         replace HJ1029 := HJ1029.thru hs1114 rfl
         replace HJ1032 := HJ1032.thru hs1114 rfl
         replace HG1036 := HG1036.thru hs1114 rfl
         replace HRq1100_0 := HRq1100_0.thru hs1114 rfl
         replace HX1104 := HX1104.thru hs1114 rfl
         replace HRq1106_0 := HRq1106_0.thru hs1114 rfl
         replace HS1026 := HS1026.trans hs1114 hc rfl
         (try simp only [ls0, ls1])
         obtain ⟨t1116, A1117, H⟩ := bnd H
         refine st_call #[v1028, .int .i64 t1108] rfl rfl Tryd.func32 (by kernel_rfl) rfl rfl (mp_ rfl) ?_
         refine (order_Order_Name.calls v1028 x1027 t1108 t1116  (fun z_ => pal [(0, 0)] (C1113_ z_)) w1112 (fun _ => pal_lt rfl _) (Ft.arg HJ1029 rfl) A1117).mono ?_
         rintro _ w1119 ⟨C1120, rfl, hs1121⟩
         refine ⟨_, rfl, ?_⟩
         replace hs1121 := Step.lift (U := [(0, 0)]) hs1121 [] rfl rfl
         generalize up C1113_ C1120 w1112.heap.size [(0, 0)] = C1120_ at hs1121
         replace HJ1029 := HJ1029.thru hs1121 rfl
         replace HJ1032 := HJ1032.thru hs1121 rfl
         replace HG1036 := HG1036.thru hs1121 rfl
         replace HX1115 := HX1115.thru hs1121 rfl
         replace HRq1100_0 := HRq1100_0.thru hs1121 rfl
         replace HX1104 := HX1104.thru hs1121 rfl
         replace HRq1106_0 := HRq1106_0.thru hs1121 rfl
         replace HS1026 := HS1026.trans hs1121 hc rfl
         (try simp only [ls0, ls1])
         refine mv_ rfl ?_
         refine mv_ rfl ?_
         refine mv_ rfl ?_
         refine mv_ rfl ?_
         simp only [ls0, ls1]
         obtain ⟨⟨t1122, t1123⟩, A1124, H⟩ := bnd H
         (try dsimp only at H)
         refine st_call #[.pointer (some ⟨g1102, 0, none⟩), .int .i64 t1074, .int .i64 t1088] rfl rfl Tryd.func23 (by kernel_rfl) rfl rfl (mp_ rfl) ?_
         refine (lattice_Lattice_Meet.calls g1102 vq1106_0 o1101.f0 o1101.f1.f0.f0 o1101.f1.f1.f0.f0 o1101.f1.f1.f0.f1 o1101.f2 o1101.f3 o1101.f4.f0 t1074 t1088 t1122 t1123  (fun z_ => pal [(0, 0), (13, 1)] (C1120_ z_)) w1119 (fun _ => pal_lt rfl _) (Bx.arg HX1104 rfl) (Ft.arg HRq1106_0 rfl) HLq1106_4 HLq1106_5 A1124).mono ?_
         rintro _ w1126 ⟨C1127, rfl, hs1128, HX1129⟩
         refine ⟨_, rfl, ?_⟩
         replace HX1129 := Bx.res (U := [(0, 0), (1, 13)]) (j := 13) HX1129 hs1128 (by rfl) (by decide) rfl
         replace hs1128 := Step.lift (U := [(0, 0), (1, 13)]) hs1128 [13] rfl rfl
         generalize up C1120_ C1127 w1119.heap.size [(0, 0), (1, 13)] = C1127_ at HX1129 hs1128
         replace HJ1029 := HJ1029.thru hs1128 rfl
         replace HJ1032 := HJ1032.thru hs1128 rfl
         replace HG1036 := HG1036.thru hs1128 rfl
         replace HX1115 := HX1115.thru hs1128 rfl
         replace HRq1100_0 := HRq1100_0.thru hs1128 rfl
         replace HRq1106_0 := HRq1106_0.thru hs1128 rfl
         replace HS1026 := HS1026.trans hs1128 hc rfl
         (try simp only [ls0, ls1])
         obtain ⟨t1130, A1131, H⟩ := bnd H
         refine st_call #[v1031, .int .i64 t1122] rfl rfl Tryd.func32 (by kernel_rfl) rfl rfl (mp_ rfl) ?_
         refine (order_Order_Name.calls v1031 x1030 t1122 t1130  (fun z_ => pal [(0, 0)] (C1127_ z_)) w1126 (fun _ => pal_lt rfl _) (Ft.arg HJ1032 rfl) A1131).mono ?_
         rintro _ w1133 ⟨C1134, rfl, hs1135⟩
         refine ⟨_, rfl, ?_⟩
         replace hs1135 := Step.lift (U := [(0, 0)]) hs1135 [] rfl rfl
         generalize up C1127_ C1134 w1126.heap.size [(0, 0)] = C1134_ at hs1135
         replace HJ1029 := HJ1029.thru hs1135 rfl
         replace HJ1032 := HJ1032.thru hs1135 rfl
         replace HG1036 := HG1036.thru hs1135 rfl
         replace HX1115 := HX1115.thru hs1135 rfl
         replace HRq1100_0 := HRq1100_0.thru hs1135 rfl
         replace HX1129 := HX1129.thru hs1135 rfl
         replace HRq1106_0 := HRq1106_0.thru hs1135 rfl
         replace HS1026 := HS1026.trans hs1135 hc rfl
         (try simp only [ls0, ls1])
         refine st (.bool (decide (t1116 = t1130))) rfl rfl (xr_bin _ _ _ rfl rfl rfl (B.eql_str _ _)) ?_
         refine mv_ rfl ?_
         by_cases c1136 : t1116 = t1130
         ·rw [if_pos c1136] at H
          (try rw [(decide_eq_true c1136)])
          refine on_guard (guard_on 13 true 140 rfl rfl rfl) ?_
          refine mv_ rfl ?_
          refine on_guard (guard_on 13 true 140 rfl rfl rfl) ?_
          refine mv_ rfl ?_
          simp only [ls0, ls1]
          refine on_guard (guard_on 13 true 140 rfl rfl rfl) ?_
          refine mv_ rfl ?_
          refine on_guard (guard_on 13 true 140 rfl rfl rfl) ?_
          refine mv_ rfl ?_
          refine on_guard (guard_on 13 true 140 rfl rfl rfl) ?_
          obtain ⟨⟨t1137, t1138⟩, A1139, H⟩ := bnd H
          (try dsimp only at H)
          refine st_call #[.pointer (some ⟨g1096, 0, none⟩), .int .i64 (Int.tmod (wrap64 (a1)) t1055), .int .i64 (Int.tmod (wrap64 (a2)) t1055)] rfl rfl Tryd.func23 (by kernel_rfl) rfl rfl (mp_ rfl) ?_
          refine (lattice_Lattice_Meet.calls g1096 vq1100_0 o1095.f0 o1095.f1.f0.f0 o1095.f1.f1.f0.f0 o1095.f1.f1.f0.f1 o1095.f2 o1095.f3 t1109 (Int.tmod (wrap64 (a1)) t1055) (Int.tmod (wrap64 (a2)) t1055) t1137 t1138  (fun z_ => pal [(0, 0), (12, 1)] (C1134_ z_)) w1133 (fun _ => pal_lt rfl _) (Bx.arg HX1115 rfl) (Ft.arg HRq1100_0 rfl) HLq1100_4 HLq1100_5 A1139).mono ?_
          rintro _ w1141 ⟨C1142, rfl, hs1143, HX1144⟩
          refine ⟨_, rfl, ?_⟩
          replace HX1144 := Bx.res (U := [(0, 0), (1, 12)]) (j := 12) HX1144 hs1143 (by rfl) (by decide) rfl
          replace hs1143 := Step.lift (U := [(0, 0), (1, 12)]) hs1143 [12] rfl rfl
          generalize up C1134_ C1142 w1133.heap.size [(0, 0), (1, 12)] = C1142_ at HX1144 hs1143
          replace HJ1029 := HJ1029.thru hs1143 rfl
          replace HJ1032 := HJ1032.thru hs1143 rfl
          replace HG1036 := HG1036.thru hs1143 rfl
          replace HRq1100_0 := HRq1100_0.thru hs1143 rfl
          replace HX1129 := HX1129.thru hs1143 rfl
          replace HRq1106_0 := HRq1106_0.thru hs1143 rfl
          replace HS1026 := HS1026.trans hs1143 hc rfl
          (try simp only [ls0, ls1])
          refine on_guard (guard_on 13 true 140 rfl rfl rfl) ?_
          obtain ⟨t1145, A1146, H⟩ := bnd H
          refine st_call #[v1028, .int .i64 t1137] rfl rfl Tryd.func32 (by kernel_rfl) rfl rfl (mp_ rfl) ?_
          refine (order_Order_Name.calls v1028 x1027 t1137 t1145  (fun z_ => pal [(0, 0)] (C1142_ z_)) w1141 (fun _ => pal_lt rfl _) (Ft.arg HJ1029 rfl) A1146).mono ?_
          rintro _ w1148 ⟨C1149, rfl, hs1150⟩
          refine ⟨_, rfl, ?_⟩
          replace hs1150 := Step.lift (U := [(0, 0)]) hs1150 [] rfl rfl
          generalize up C1142_ C1149 w1141.heap.size [(0, 0)] = C1149_ at hs1150
          replace HJ1029 := HJ1029.thru hs1150 rfl
          replace HJ1032 := HJ1032.thru hs1150 rfl
          replace HG1036 := HG1036.thru hs1150 rfl
          replace HX1144 := HX1144.thru hs1150 rfl
          replace HRq1100_0 := HRq1100_0.thru hs1150 rfl
          replace HX1129 := HX1129.thru hs1150 rfl
          replace HRq1106_0 := HRq1106_0.thru hs1150 rfl
          replace HS1026 := HS1026.trans hs1150 hc rfl
          (try simp only [ls0, ls1])
          refine on_guard (guard_on 13 true 140 rfl rfl rfl) ?_
          refine mv_ rfl ?_
          refine on_guard (guard_on 13 true 140 rfl rfl rfl) ?_
          refine mv_ rfl ?_
          refine on_guard (guard_on 13 true 140 rfl rfl rfl) ?_
          refine mv_ rfl ?_
          refine on_guard (guard_on 13 true 140 rfl rfl rfl) ?_
          refine mv_ rfl ?_
          simp only [ls0, ls1]
          refine on_guard (guard_on 13 true 140 rfl rfl rfl) ?_
          obtain ⟨⟨t1151, t1152⟩, A1153, H⟩ := bnd H
          (try dsimp only at H)
          refine st_call #[.pointer (some ⟨g1102, 0, none⟩), .int .i64 t1074, .int .i64 t1088] rfl rfl Tryd.func22 (by kernel_rfl) rfl rfl (mp_ rfl) ?_
          refine (lattice_Lattice_Join.calls g1102 vq1106_0 o1101.f0 o1101.f1.f0.f0 o1101.f1.f1.f0.f0 o1101.f1.f1.f0.f1 o1101.f2 o1101.f3 t1123 t1074 t1088 t1151 t1152  (fun z_ => pal [(0, 0), (13, 1)] (C1149_ z_)) w1148 (fun _ => pal_lt rfl _) (Bx.arg HX1129 rfl) (Ft.arg HRq1106_0 rfl) HLq1106_4 HLq1106_5 A1153).mono ?_
          rintro _ w1155 ⟨C1156, rfl, hs1157, HX1158⟩
          refine ⟨_, rfl, ?_⟩
          replace HX1158 := Bx.res (U := [(0, 0), (1, 13)]) (j := 13) HX1158 hs1157 (by rfl) (by decide) rfl
          replace hs1157 := Step.lift (U := [(0, 0), (1, 13)]) hs1157 [13] rfl rfl
          generalize up C1149_ C1156 w1148.heap.size [(0, 0), (1, 13)] = C1156_ at HX1158 hs1157
          replace HJ1029 := HJ1029.thru hs1157 rfl
          replace HJ1032 := HJ1032.thru hs1157 rfl
          replace HG1036 := HG1036.thru hs1157 rfl
          replace HX1144 := HX1144.thru hs1157 rfl
          replace HRq1100_0 := HRq1100_0.thru hs1157 rfl
          replace HRq1106_0 := HRq1106_0.thru hs1157 rfl
          replace HS1026 := HS1026.trans hs1157 hc rfl
          (try simp only [ls0, ls1])
          refine on_guard (guard_on 13 true 140 rfl rfl rfl) ?_
          obtain ⟨t1159, A1160, H⟩ := bnd H
          refine st_call #[v1031, .int .i64 t1151] rfl rfl Tryd.func32 (by kernel_rfl) rfl rfl (mp_ rfl) ?_
          refine (order_Order_Name.calls v1031 x1030 t1151 t1159  (fun z_ => pal [(0, 0)] (C1156_ z_)) w1155 (fun _ => pal_lt rfl _) (Ft.arg HJ1032 rfl) A1160).mono ?_
          rintro _ w1162 ⟨C1163, rfl, hs1164⟩
          refine ⟨_, rfl, ?_⟩
          replace hs1164 := Step.lift (U := [(0, 0)]) hs1164 [] rfl rfl
          generalize up C1156_ C1163 w1155.heap.size [(0, 0)] = C1163_ at hs1164
          replace HJ1029 := HJ1029.thru hs1164 rfl
          replace HJ1032 := HJ1032.thru hs1164 rfl
          replace HG1036 := HG1036.thru hs1164 rfl
          replace HX1144 := HX1144.thru hs1164 rfl
          replace HRq1100_0 := HRq1100_0.thru hs1164 rfl
          replace HX1158 := HX1158.thru hs1164 rfl
          replace HRq1106_0 := HRq1106_0.thru hs1164 rfl
          replace HS1026 := HS1026.trans hs1164 hc rfl
          (try simp only [ls0, ls1])
          refine on_guard (guard_on 13 true 140 rfl rfl rfl) ?_
          refine st (.bool (decide (t1145 = t1159))) rfl rfl (xr_bin _ _ _ rfl rfl rfl (B.eql_str _ _)) ?_
          refine st (.bool (decide (t1145 = t1159))) rfl rfl (xr_pick true _ rfl rfl rfl) ?_
          refine mv_ rfl ?_
          by_cases c1165 : t1145 = t1159
          ·rw [if_pos c1165] at H
           (try rw [(decide_eq_true c1165)])
           refine on_guard (guard_on 28 true 155 rfl rfl rfl) ?_
           refine mv_ rfl ?_
           simp only [ls0, ls1]
           refine on_guard (guard_on 28 true 155 rfl rfl rfl) ?_
           refine mv_ rfl ?_
           refine on_guard (guard_on 28 true 155 rfl rfl rfl) ?_
           have HP1166 : Ft C1163_ [0, 12] w1162 (fun w_ => (Kd.ptr 107 k107).K w_ (some (⟨o1095.f0, (⟨(⟨o1095.f1.f0.f0⟩ : S92), (⟨(⟨o1095.f1.f1.f0.f0, o1095.f1.f1.f0.f1⟩ : S94)⟩ : S96)⟩ : S98), o1095.f2, o1095.f3, (⟨t1138⟩ : S105)⟩ : S107)) [.pointer (some ⟨g1096, 0, none⟩)]) := ptr_mk (Ft.more (HX1144.ft) rfl) (k107_mkF _ _ (⟨o1095.f0, (⟨(⟨o1095.f1.f0.f0⟩ : S92), (⟨(⟨o1095.f1.f1.f0.f0, o1095.f1.f1.f0.f1⟩ : S94)⟩ : S96)⟩ : S98), o1095.f2, o1095.f3, (⟨t1138⟩ : S105)⟩ : S107) (Ft.more HRq1100_0 rfl) HLq1100_4 HLq1100_5)
           obtain ⟨t1167, A1168, H⟩ := bnd H
           refine st_call #[.pointer (some ⟨g1096, 0, none⟩)] rfl rfl Tryd.func25 (by kernel_rfl) rfl rfl (mp_ rfl) ?_
           refine (lattice_Lattice_Top.calls k1039 (.pointer (some ⟨g1096, 0, none⟩)) (some (⟨o1095.f0, (⟨(⟨o1095.f1.f0.f0⟩ : S92), (⟨(⟨o1095.f1.f1.f0.f0, o1095.f1.f1.f0.f1⟩ : S94)⟩ : S96)⟩ : S98), o1095.f2, o1095.f3, (⟨t1138⟩ : S105)⟩ : S107) : Option S107) t1167  (fun z_ => pal [(0, 0), (12, 0)] (C1163_ z_)) w1162 (fun _ => pal_lt rfl _) (Ft.arg HP1166 rfl) A1168).mono ?_
           rintro _ w1170 ⟨C1171, rfl, hs1172⟩
           refine ⟨_, rfl, ?_⟩
           replace hs1172 := Step.lift (U := [(0, 0)]) hs1172 [] rfl rfl
           generalize up C1163_ C1171 w1162.heap.size [(0, 0)] = C1171_ at hs1172
           replace HJ1029 := HJ1029.thru hs1172 rfl
           replace HJ1032 := HJ1032.thru hs1172 rfl
           replace HG1036 := HG1036.thru hs1172 rfl
           replace HX1144 := HX1144.thru hs1172 rfl
           replace HRq1100_0 := HRq1100_0.thru hs1172 rfl
           replace HX1158 := HX1158.thru hs1172 rfl
           replace HRq1106_0 := HRq1106_0.thru hs1172 rfl
           replace HS1026 := HS1026.trans hs1172 hc rfl
           (try simp only [ls0, ls1])
           refine on_guard (guard_on 28 true 155 rfl rfl rfl) ?_
           obtain ⟨t1173, A1174, H⟩ := bnd H
           refine st_call #[v1028, .int .i64 t1167] rfl rfl Tryd.func32 (by kernel_rfl) rfl rfl (mp_ rfl) ?_
           refine (order_Order_Name.calls v1028 x1027 t1167 t1173  (fun z_ => pal [(0, 0)] (C1171_ z_)) w1170 (fun _ => pal_lt rfl _) (Ft.arg HJ1029 rfl) A1174).mono ?_
           rintro _ w1176 ⟨C1177, rfl, hs1178⟩
           refine ⟨_, rfl, ?_⟩
           replace hs1178 := Step.lift (U := [(0, 0)]) hs1178 [] rfl rfl
           generalize up C1171_ C1177 w1170.heap.size [(0, 0)] = C1177_ at hs1178
           replace HJ1032 := HJ1032.thru hs1178 rfl
           replace HG1036 := HG1036.thru hs1178 rfl
           replace HX1144 := HX1144.thru hs1178 rfl
           replace HRq1100_0 := HRq1100_0.thru hs1178 rfl
           replace HX1158 := HX1158.thru hs1178 rfl
           replace HRq1106_0 := HRq1106_0.thru hs1178 rfl
           replace HS1026 := HS1026.trans hs1178 hc rfl
           (try simp only [ls0, ls1])
           refine on_guard (guard_on 28 true 155 rfl rfl rfl) ?_
           refine mv_ rfl ?_
           refine on_guard (guard_on 28 true 155 rfl rfl rfl) ?_
           refine mv_ rfl ?_
           refine on_guard (guard_on 28 true 155 rfl rfl rfl) ?_
           have HP1179 : Ft C1177_ [0, 13] w1176 (fun w_ => (Kd.ptr 107 k107).K w_ (some (⟨o1101.f0, (⟨(⟨o1101.f1.f0.f0⟩ : S92), (⟨(⟨o1101.f1.f1.f0.f0, o1101.f1.f1.f0.f1⟩ : S94)⟩ : S96)⟩ : S98), o1101.f2, o1101.f3, (⟨t1152⟩ : S105)⟩ : S107)) [.pointer (some ⟨g1102, 0, none⟩)]) := ptr_mk (Ft.more (HX1158.ft) rfl) (k107_mkF _ _ (⟨o1101.f0, (⟨(⟨o1101.f1.f0.f0⟩ : S92), (⟨(⟨o1101.f1.f1.f0.f0, o1101.f1.f1.f0.f1⟩ : S94)⟩ : S96)⟩ : S98), o1101.f2, o1101.f3, (⟨t1152⟩ : S105)⟩ : S107) (Ft.more HRq1106_0 rfl) HLq1106_4 HLq1106_5)
           obtain ⟨t1180, A1181, H⟩ := bnd H
           refine st_call #[.pointer (some ⟨g1102, 0, none⟩)] rfl rfl Tryd.func26 (by kernel_rfl) rfl rfl (mp_ rfl) ?_
           refine (lattice_Lattice_Bottom.calls k1039 (.pointer (some ⟨g1102, 0, none⟩)) (some (⟨o1101.f0, (⟨(⟨o1101.f1.f0.f0⟩ : S92), (⟨(⟨o1101.f1.f1.f0.f0, o1101.f1.f1.f0.f1⟩ : S94)⟩ : S96)⟩ : S98), o1101.f2, o1101.f3, (⟨t1152⟩ : S105)⟩ : S107) : Option S107) t1180  (fun z_ => pal [(0, 0), (13, 0)] (C1177_ z_)) w1176 (fun _ => pal_lt rfl _) (Ft.arg HP1179 rfl) A1181).mono ?_
           rintro _ w1183 ⟨C1184, rfl, hs1185⟩
           refine ⟨_, rfl, ?_⟩
           replace hs1185 := Step.lift (U := [(0, 0)]) hs1185 [] rfl rfl
           generalize up C1177_ C1184 w1176.heap.size [(0, 0)] = C1184_ at hs1185
           replace HJ1032 := HJ1032.thru hs1185 rfl
           replace HG1036 := HG1036.thru hs1185 rfl
           replace HX1144 := HX1144.thru hs1185 rfl
           replace HRq1100_0 := HRq1100_0.thru hs1185 rfl
           replace HX1158 := HX1158.thru hs1185 rfl
           replace HRq1106_0 := HRq1106_0.thru hs1185 rfl
           replace HS1026 := HS1026.trans hs1185 hc rfl
           (try simp only [ls0, ls1])
           refine on_guard (guard_on 28 true 155 rfl rfl rfl) ?_
           obtain ⟨t1186, A1187, H⟩ := bnd H
           refine st_call #[v1031, .int .i64 t1180] rfl rfl Tryd.func32 (by kernel_rfl) rfl rfl (mp_ rfl) ?_
           refine (order_Order_Name.calls v1031 x1030 t1180 t1186  (fun z_ => pal [(0, 0)] (C1184_ z_)) w1183 (fun _ => pal_lt rfl _) (Ft.arg HJ1032 rfl) A1187).mono ?_
           rintro _ w1189 ⟨C1190, rfl, hs1191⟩
           refine ⟨_, rfl, ?_⟩
           replace hs1191 := Step.lift (U := [(0, 0)]) hs1191 [] rfl rfl
           generalize up C1184_ C1190 w1183.heap.size [(0, 0)] = C1190_ at hs1191
           replace HG1036 := HG1036.thru hs1191 rfl
           replace HX1144 := HX1144.thru hs1191 rfl
           replace HRq1100_0 := HRq1100_0.thru hs1191 rfl
           replace HX1158 := HX1158.thru hs1191 rfl
           replace HRq1106_0 := HRq1106_0.thru hs1191 rfl
           replace HS1026 := HS1026.trans hs1191 hc rfl
           (try simp only [ls0, ls1])
           refine on_guard (guard_on 28 true 155 rfl rfl rfl) ?_
           refine st (.bool (decide (t1173 = t1186))) rfl rfl (xr_bin _ _ _ rfl rfl rfl (B.eql_str _ _)) ?_
           refine st (.bool (decide (t1173 = t1186))) rfl rfl (xr_pick true _ rfl rfl rfl) ?_
           refine mv_ rfl ?_
           by_cases c1192 : t1173 = t1186
           ·rw [if_pos c1192] at H
            (try rw [(decide_eq_true c1192)])
            refine on_guard (guard_on 39 true 166 rfl rfl rfl) ?_
            obtain ⟨t1193, A1194, H⟩ := bnd H
            refine st_call #[] rfl rfl Tryd.func14 (by kernel_rfl) rfl rfl (mp_ rfl) ?_
            refine (blazonlaw14_awake.calls k1039 t1193  (fun z_ => pal [(0, 0)] (C1190_ z_)) w1189 (fun _ => pal_lt rfl _) (Ft.arg HG1036 rfl) A1194).mono ?_
            rintro _ w1196 ⟨C1197, rfl, hs1198⟩
            refine ⟨_, rfl, ?_⟩
            replace hs1198 := Step.lift (U := [(0, 0)]) hs1198 [] rfl rfl
            generalize up C1190_ C1197 w1189.heap.size [(0, 0)] = C1197_ at hs1198
            replace HG1036 := HG1036.thru hs1198 rfl
            replace HX1144 := HX1144.thru hs1198 rfl
            replace HRq1100_0 := HRq1100_0.thru hs1198 rfl
            replace HX1158 := HX1158.thru hs1198 rfl
            replace HRq1106_0 := HRq1106_0.thru hs1198 rfl
            replace HS1026 := HS1026.trans hs1198 hc rfl
            (try simp only [ls0, ls1])
            refine st (.bool t1193) rfl rfl (xr_pick true _ rfl rfl rfl) ?_
            refine as_ rfl ?_
            refine wl_end ?_
            (try simp only [ls0, ls1])
            refine hK1107 _ _ ?_
            (try clear hK1107 K1107)
            refine wp_ret ?_
            (try simp only [Exit.inBlock, Exit.then, Exit.noGoto])
            (try simp only [ls0, ls1])
            obtain rfl := Option.some.inj H
            refine bodyPost_ret (results_tmp rfl _ _ _) rfl ?_
            exact ⟨_, rfl, HS1026⟩
           rw [if_neg c1192] at H
           (try rw [(decide_eq_false c1192)])
           refine sk_guard (guard_off 39 true 166 rfl rfl false (by decide) rfl) rfl ?_
           refine st (.bool false) rfl rfl (xr_pick false _ rfl rfl rfl) ?_
           refine as_ rfl ?_
           refine wl_end ?_
           (try simp only [ls0, ls1])
           refine hK1107 _ _ ?_
           (try clear hK1107 K1107)
           refine wp_ret ?_
           (try simp only [Exit.inBlock, Exit.then, Exit.noGoto])
           (try simp only [ls0, ls1])
           obtain rfl := Option.some.inj H
           refine bodyPost_ret (results_tmp rfl _ _ _) rfl ?_
           exact ⟨_, rfl, HS1026⟩
          rw [if_neg c1165] at H
          (try rw [(decide_eq_false c1165)])
          refine sk_guard (guard_off 28 true 155 rfl rfl false (by decide) rfl) rfl ?_
          refine sk_guard (guard_off 28 true 155 rfl rfl false (by decide) rfl) rfl ?_
          refine sk_guard (guard_off 28 true 155 rfl rfl false (by decide) rfl) rfl ?_
          refine sk_guard (guard_off 28 true 155 rfl rfl false (by decide) rfl) rfl ?_
          simp only [ls0, ls1]
          refine sk_guard (guard_off 28 true 155 rfl rfl false (by decide) rfl) rfl ?_
          refine sk_guard (guard_off 28 true 155 rfl rfl false (by decide) rfl) rfl ?_
          refine sk_guard (guard_off 28 true 155 rfl rfl false (by decide) rfl) rfl ?_
          refine sk_guard (guard_off 28 true 155 rfl rfl false (by decide) rfl) rfl ?_
          simp only [ls0, ls1]
          refine sk_guard (guard_off 28 true 155 rfl rfl false (by decide) rfl) rfl ?_
          refine st (.bool false) rfl rfl (xr_pick false _ rfl rfl rfl) ?_
          refine mv_ rfl ?_
          refine sk_guard (guard_off 39 true 166 rfl rfl false (by decide) rfl) rfl ?_
          simp only [ls0, ls1]
          refine st (.bool false) rfl rfl (xr_pick false _ rfl rfl rfl) ?_
          refine as_ rfl ?_
          refine wl_end ?_
          (try simp only [ls0, ls1])
          refine hK1107 _ _ ?_
          (try clear hK1107 K1107)
          refine wp_ret ?_
          (try simp only [Exit.inBlock, Exit.then, Exit.noGoto])
          (try simp only [ls0, ls1])
          obtain rfl := Option.some.inj H
          refine bodyPost_ret (results_tmp rfl _ _ _) rfl ?_
          exact ⟨_, rfl, HS1026⟩
         rw [if_neg c1136] at H
         (try rw [(decide_eq_false c1136)])
         refine sk_guard (guard_off 13 true 140 rfl rfl false (by decide) rfl) rfl ?_
         refine sk_guard (guard_off 13 true 140 rfl rfl false (by decide) rfl) rfl ?_
         refine sk_guard (guard_off 13 true 140 rfl rfl false (by decide) rfl) rfl ?_
         refine sk_guard (guard_off 13 true 140 rfl rfl false (by decide) rfl) rfl ?_
         simp only [ls0, ls1]
         refine sk_guard (guard_off 13 true 140 rfl rfl false (by decide) rfl) rfl ?_
         refine sk_guard (guard_off 13 true 140 rfl rfl false (by decide) rfl) rfl ?_
         refine sk_guard (guard_off 13 true 140 rfl rfl false (by decide) rfl) rfl ?_
         refine sk_guard (guard_off 13 true 140 rfl rfl false (by decide) rfl) rfl ?_
         simp only [ls0, ls1]
         refine sk_guard (guard_off 13 true 140 rfl rfl false (by decide) rfl) rfl ?_
         refine sk_guard (guard_off 13 true 140 rfl rfl false (by decide) rfl) rfl ?_
         refine sk_guard (guard_off 13 true 140 rfl rfl false (by decide) rfl) rfl ?_
         refine sk_guard (guard_off 13 true 140 rfl rfl false (by decide) rfl) rfl ?_
         simp only [ls0, ls1]
         refine sk_guard (guard_off 13 true 140 rfl rfl false (by decide) rfl) rfl ?_
         refine st (.bool false) rfl rfl (xr_pick false _ rfl rfl rfl) ?_
         refine mv_ rfl ?_
         refine sk_guard (guard_off 28 true 155 rfl rfl false (by decide) rfl) rfl ?_
         simp only [ls0, ls1]
         refine sk_guard (guard_off 28 true 155 rfl rfl false (by decide) rfl) rfl ?_
         refine sk_guard (guard_off 28 true 155 rfl rfl false (by decide) rfl) rfl ?_
         refine sk_guard (guard_off 28 true 155 rfl rfl false (by decide) rfl) rfl ?_
         refine sk_guard (guard_off 28 true 155 rfl rfl false (by decide) rfl) rfl ?_
         simp only [ls0, ls1]
         refine sk_guard (guard_off 28 true 155 rfl rfl false (by decide) rfl) rfl ?_
         refine sk_guard (guard_off 28 true 155 rfl rfl false (by decide) rfl) rfl ?_
         refine sk_guard (guard_off 28 true 155 rfl rfl false (by decide) rfl) rfl ?_
         refine sk_guard (guard_off 28 true 155 rfl rfl false (by decide) rfl) rfl ?_
         simp only [ls0, ls1]
         refine st (.bool false) rfl rfl (xr_pick false _ rfl rfl rfl) ?_
         refine mv_ rfl ?_
         refine sk_guard (guard_off 39 true 166 rfl rfl false (by decide) rfl) rfl ?_
         refine st (.bool false) rfl rfl (xr_pick false _ rfl rfl rfl) ?_
         simp only [ls0, ls1]
         refine as_ rfl ?_
         refine wl_end ?_
         (try simp only [ls0, ls1])
         refine hK1107 _ _ ?_
         (try clear hK1107 K1107)
         refine wp_ret ?_
         (try simp only [Exit.inBlock, Exit.then, Exit.noGoto])
         (try simp only [ls0, ls1])
         obtain rfl := Option.some.inj H
         refine bodyPost_ret (results_tmp rfl _ _ _) rfl ?_
         exact ⟨_, rfl, HS1026⟩
      rw [if_neg c1053] at H
      (try rw [(decide_eq_false c1053)])
      (try simp only [Bool.not_true, Bool.not_false])
      refine wp_cond_true rfl ?_
      refine wp_seq_k fun K1199 hK1199 => ?_
      refine wl_region ?_
      obtain ⟨t1200, A1201, H⟩ := bnd H
      refine st_call #[] rfl rfl Tryd.func14 (by kernel_rfl) rfl rfl (mp_ rfl) ?_
      refine (blazonlaw14_awake.calls k1039 t1200  (fun z_ => pal [(0, 0)] (C1024 z_)) w1025 (fun _ => pal_lt rfl _) (Ft.arg HG1036 rfl) A1201).mono ?_
      rintro _ w1203 ⟨C1204, rfl, hs1205⟩
      refine ⟨_, rfl, ?_⟩
      replace hs1205 := Step.lift (U := [(0, 0)]) hs1205 [] rfl rfl
      generalize up C1024 C1204 w1025.heap.size [(0, 0)] = C1204_ at hs1205
      replace HG1036 := HG1036.thru hs1205 rfl
      replace HS1026 := HS1026.trans hs1205 hc rfl
      (try simp only [ls0, ls1])
      refine as_ rfl ?_
      refine wl_end ?_
      (try simp only [ls0, ls1])
      refine hK1199 _ _ ?_
      (try clear hK1199 K1199)
      refine wp_ret ?_
      (try simp only [Exit.inBlock, Exit.then, Exit.noGoto])
      (try simp only [ls0, ls1])
      obtain rfl := Option.some.inj H
      refine bodyPost_ret (results_tmp rfl _ _ _) rfl ?_
      exact ⟨_, rfl, HS1026⟩
     rw [if_neg c1050] at H
     (try rw [(decide_eq_false c1050)])
     (try simp only [Bool.not_true, Bool.not_false])
     refine wp_cond_true rfl ?_
     refine wp_seq_k fun K1206 hK1206 => ?_
     refine wl_region ?_
     refine st (.bool false) rfl rfl (xr_assign _ rfl rfl) ?_
     refine wl_end ?_
     (try simp only [ls0, ls1])
     refine hK1206 _ _ ?_
     (try clear hK1206 K1206)
     refine wp_ret ?_
     (try simp only [Exit.inBlock, Exit.then, Exit.noGoto])
     (try simp only [ls0, ls1])
     obtain rfl := Option.some.inj H
     refine bodyPost_ret (results_tmp rfl _ _ _) rfl ?_
     exact ⟨_, rfl, HS1026⟩
   refine wl_region ?_
   refine mv_ rfl ?_
   refine st (.bool (!decide (t945 = 0))) rfl rfl (xr_bin _ _ _ rfl rfl rfl (B.neq_i64 _ _)) ?_
   refine mv_ rfl ?_
   by_cases c1207 : t945 = 0
   ·rw [if_pos c1207] at H
    (try rw [(decide_eq_true c1207)])
    (try simp only [Bool.not_true, Bool.not_false])
    refine on_guard (guard_on 2 false 84 rfl rfl rfl) ?_
    refine mv_ rfl ?_
    simp only [ls0, ls1]
    refine on_guard (guard_on 2 false 84 rfl rfl rfl) ?_
    refine st (.bool (!decide (t957 = 0))) rfl rfl (xr_bin _ _ _ rfl rfl rfl (B.neq_i64 _ _)) ?_
    refine st (.bool (!decide (t957 = 0))) rfl rfl (xr_pick false _ rfl rfl rfl) ?_
    refine mv_ rfl ?_
    by_cases c1208 : t957 = 0
    ·rw [if_pos c1208] at H
     (try rw [(decide_eq_true c1208)])
     (try simp only [Bool.not_true, Bool.not_false])
     refine on_guard (guard_on 6 false 88 rfl rfl rfl) ?_
     refine mv_ rfl ?_
     simp only [ls0, ls1]
     refine on_guard (guard_on 6 false 88 rfl rfl rfl) ?_
     refine st (.bool (decide (t969 = 1))) rfl rfl (xr_bin _ _ _ rfl rfl rfl (B.eql_i64 _ _)) ?_
     refine st (.bool (decide (t969 = 1))) rfl rfl (xr_pick false _ rfl rfl rfl) ?_
     refine wl_end ?_
     (try simp only [ls0, ls1])
     exact jmp (fun g_ => hj1023 _ _ _ (decide (t969 = 1)) (v951) (t943) (v963) (t955) g_ HS893 (by omega) HB952 HB964 HB976 HB988 HG889 H) rfl
    rw [if_neg c1208] at H
    (try rw [(decide_eq_false c1208)])
    (try simp only [Bool.not_true, Bool.not_false])
    refine sk_guard (guard_off 6 false 88 rfl rfl true (by decide) rfl) rfl ?_
    refine sk_guard (guard_off 6 false 88 rfl rfl true (by decide) rfl) rfl ?_
    refine st (.bool true) rfl rfl (xr_pick true _ rfl rfl rfl) ?_
    refine wl_end ?_
    (try simp only [ls0, ls1])
    exact jmp (fun g_ => hj1023 _ _ _ (true) (v951) (t943) (v963) (t955) g_ HS893 (by omega) HB952 HB964 HB976 HB988 HG889 H) rfl
   rw [if_neg c1207] at H
   (try rw [(decide_eq_false c1207)])
   (try simp only [Bool.not_true, Bool.not_false])
   refine sk_guard (guard_off 2 false 84 rfl rfl true (by decide) rfl) rfl ?_
   refine sk_guard (guard_off 2 false 84 rfl rfl true (by decide) rfl) rfl ?_
   refine st (.bool true) rfl rfl (xr_pick true _ rfl rfl rfl) ?_
   refine mv_ rfl ?_
   simp only [ls0, ls1]
   refine sk_guard (guard_off 6 false 88 rfl rfl true (by decide) rfl) rfl ?_
   refine sk_guard (guard_off 6 false 88 rfl rfl true (by decide) rfl) rfl ?_
   refine st (.bool true) rfl rfl (xr_pick true _ rfl rfl rfl) ?_
   refine wl_end ?_
   (try simp only [ls0, ls1])
   exact jmp (fun g_ => hj1023 _ _ _ (true) (v951) (t943) (v963) (t955) g_ HS893 (by omega) HB952 HB964 HB976 HB988 HG889 H) rfl
/-- THE ONE PURE STATEMENT of blazonlaw14_LatticeTurned. -/
def blazonlaw14_LatticeTurned.Pure : Prop := ∀ (l0 : List (S53)) (a1 : Int) (a2 : Int), l0.length ≤ maxLen → l0.length * 40 ≤ 140737488351232 → (∀ x_ ∈ l0, Ok53 x_) → (Lit.int .u8 a1).wf = true → (Lit.int .u8 a2).wf = true → ∃ k, blazonlaw14_LatticeTurned.f k l0 a1 a2 = some true

end Go.Proofs.YtpfepkkpbampkaaDoor.PLtu
