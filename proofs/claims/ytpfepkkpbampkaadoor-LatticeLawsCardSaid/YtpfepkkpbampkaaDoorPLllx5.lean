-- By cprint.py, a program of this work. Lean checks it.
import Derived.Test.YtpfepkkpbampkaaDoorPLllx0
import Derived.Test.YtpfepkkpbampkaaDoorPLllx1
import Derived.Test.YtpfepkkpbampkaaDoorPLllx2
import Derived.Test.YtpfepkkpbampkaaDoorPLllx3
import Derived.Test.YtpfepkkpbampkaaDoorPLllx4
namespace Go.Proofs.YtpfepkkpbampkaaDoor.PLll
open Go.RowKit Go.Proofs.YtpfepkkpbampkaaDoorW.PrintWords Go.Proofs.YtpfepkkpbampkaaDoorW.PrintLast Go.Proofs.YtpfepkkpbampkaaDoorW.PrintMore
set_option linter.unusedVariables false
set_option linter.unusedSimpArgs false

/-! ### blazonlaw14_LatticeLaws: function 4 -/
mutual
def blazonlaw14_LatticeLaws.j0 : Nat → Int → Int → S107 → Int → (Option S81) → Bool → Int → Option (Bool)
  | 0, _, _, _, _, _, _, _ => none
  | k + 1, a1, a2, o1427, t1194, x1176, x1916, x1918 => if x1916 = true then (some false) else ((order_Order_Most.f x1176 (Int.tmod (wrap64 (a1)) t1194) (Int.tmod (wrap64 (a2)) t1194)).bind fun t1927 => ((lattice_Lattice_Join.f o1427.f0 o1427.f1.f0.f0 o1427.f1.f1.f0.f0 o1427.f1.f1.f0.f1 o1427.f2 o1427.f3 x1918 (Int.tmod (wrap64 (a1)) t1194) (Int.tmod (wrap64 (a2)) t1194)).bind fun bt1933 => (if t1927 = (decide (bt1933.1 = (Int.tmod (wrap64 (a2)) t1194))) then ((lattice_Lattice_Top.f k (some (⟨o1427.f0, (⟨(⟨o1427.f1.f0.f0⟩ : S92), (⟨(⟨o1427.f1.f1.f0.f0, o1427.f1.f1.f0.f1⟩ : S94)⟩ : S96)⟩ : S98), o1427.f2, o1427.f3, (⟨bt1933.2⟩ : S105)⟩ : S107) : Option S107)).bind fun t1943 => ((lattice_Lattice_Join.f o1427.f0 o1427.f1.f0.f0 o1427.f1.f1.f0.f0 o1427.f1.f1.f0.f1 o1427.f2 o1427.f3 bt1933.2 (Int.tmod (wrap64 (a1)) t1194) t1943).bind fun bt1949 => ((lattice_Lattice_Top.f k (some (⟨o1427.f0, (⟨(⟨o1427.f1.f0.f0⟩ : S92), (⟨(⟨o1427.f1.f1.f0.f0, o1427.f1.f1.f0.f1⟩ : S94)⟩ : S96)⟩ : S98), o1427.f2, o1427.f3, (⟨bt1949.2⟩ : S105)⟩ : S107) : Option S107)).bind fun t1958 => (if bt1949.1 = t1958 then ((lattice_Lattice_Bottom.f k (some (⟨o1427.f0, (⟨(⟨o1427.f1.f0.f0⟩ : S92), (⟨(⟨o1427.f1.f1.f0.f0, o1427.f1.f1.f0.f1⟩ : S94)⟩ : S96)⟩ : S98), o1427.f2, o1427.f3, (⟨bt1949.2⟩ : S105)⟩ : S107) : Option S107)).bind fun t1966 => ((lattice_Lattice_Meet.f o1427.f0 o1427.f1.f0.f0 o1427.f1.f1.f0.f0 o1427.f1.f1.f0.f1 o1427.f2 o1427.f3 bt1949.2 (Int.tmod (wrap64 (a1)) t1194) t1966).bind fun bt1972 => ((lattice_Lattice_Bottom.f k (some (⟨o1427.f0, (⟨(⟨o1427.f1.f0.f0⟩ : S92), (⟨(⟨o1427.f1.f1.f0.f0, o1427.f1.f1.f0.f1⟩ : S94)⟩ : S96)⟩ : S98), o1427.f2, o1427.f3, (⟨bt1972.2⟩ : S105)⟩ : S107) : Option S107)).bind fun t1981 => (if bt1972.1 = t1981 then ((blazonlaw14_awake.f k).bind fun t1988 => (some t1988)) else (some false))))) else (some false))))) else (some false))))
def blazonlaw14_LatticeLaws.j1 : Nat → Int → Int → Int → S107 → Int → (Option S81) → Bool → Int → Option (Bool)
  | 0, _, _, _, _, _, _, _, _ => none
  | k + 1, a1, a2, a3, o1427, t1194, x1176, x1538, x1540 => if x1538 = true then (some false) else ((lattice_Lattice_Meet.f o1427.f0 o1427.f1.f0.f0 o1427.f1.f1.f0.f0 o1427.f1.f1.f0.f1 o1427.f2 o1427.f3 x1540 (Int.tmod (wrap64 (a1)) t1194) (Int.tmod (wrap64 (a2)) t1194)).bind fun bt1994 => ((lattice_Lattice_Join.f o1427.f0 o1427.f1.f0.f0 o1427.f1.f1.f0.f0 o1427.f1.f1.f0.f1 o1427.f2 o1427.f3 bt1994.2 (Int.tmod (wrap64 (a1)) t1194) bt1994.1).bind fun bt2002 => (if bt2002.1 = (Int.tmod (wrap64 (a1)) t1194) then ((lattice_Lattice_Join.f o1427.f0 o1427.f1.f0.f0 o1427.f1.f1.f0.f0 o1427.f1.f1.f0.f1 o1427.f2 o1427.f3 bt2002.2 (Int.tmod (wrap64 (a1)) t1194) (Int.tmod (wrap64 (a2)) t1194)).bind fun bt2011 => ((lattice_Lattice_Meet.f o1427.f0 o1427.f1.f0.f0 o1427.f1.f1.f0.f0 o1427.f1.f1.f0.f1 o1427.f2 o1427.f3 bt2011.2 (Int.tmod (wrap64 (a1)) t1194) bt2011.1).bind fun bt2019 => (if bt2019.1 = (Int.tmod (wrap64 (a1)) t1194) then ((lattice_Lattice_Join.f o1427.f0 o1427.f1.f0.f0 o1427.f1.f1.f0.f0 o1427.f1.f1.f0.f1 o1427.f2 o1427.f3 bt2019.2 (Int.tmod (wrap64 (a2)) t1194) (Int.tmod (wrap64 (a3)) t1194)).bind fun bt2028 => ((lattice_Lattice_Meet.f o1427.f0 o1427.f1.f0.f0 o1427.f1.f1.f0.f0 o1427.f1.f1.f0.f1 o1427.f2 o1427.f3 bt2028.2 (Int.tmod (wrap64 (a1)) t1194) bt2028.1).bind fun bt2036 => ((lattice_Lattice_Meet.f o1427.f0 o1427.f1.f0.f0 o1427.f1.f1.f0.f0 o1427.f1.f1.f0.f1 o1427.f2 o1427.f3 bt2036.2 (Int.tmod (wrap64 (a1)) t1194) (Int.tmod (wrap64 (a2)) t1194)).bind fun bt2044 => ((lattice_Lattice_Meet.f o1427.f0 o1427.f1.f0.f0 o1427.f1.f1.f0.f0 o1427.f1.f1.f0.f1 o1427.f2 o1427.f3 bt2044.2 (Int.tmod (wrap64 (a1)) t1194) (Int.tmod (wrap64 (a3)) t1194)).bind fun bt2052 => ((lattice_Lattice_Join.f o1427.f0 o1427.f1.f0.f0 o1427.f1.f1.f0.f0 o1427.f1.f1.f0.f1 o1427.f2 o1427.f3 bt2052.2 bt2044.1 bt2052.1).bind fun bt2060 => (if bt2036.1 = bt2060.1 then ((lattice_Lattice_Meet.f o1427.f0 o1427.f1.f0.f0 o1427.f1.f1.f0.f0 o1427.f1.f1.f0.f1 o1427.f2 o1427.f3 bt2060.2 (Int.tmod (wrap64 (a2)) t1194) (Int.tmod (wrap64 (a3)) t1194)).bind fun bt2069 => ((lattice_Lattice_Join.f o1427.f0 o1427.f1.f0.f0 o1427.f1.f1.f0.f0 o1427.f1.f1.f0.f1 o1427.f2 o1427.f3 bt2069.2 (Int.tmod (wrap64 (a1)) t1194) bt2069.1).bind fun bt2077 => ((lattice_Lattice_Join.f o1427.f0 o1427.f1.f0.f0 o1427.f1.f1.f0.f0 o1427.f1.f1.f0.f1 o1427.f2 o1427.f3 bt2077.2 (Int.tmod (wrap64 (a1)) t1194) (Int.tmod (wrap64 (a2)) t1194)).bind fun bt2085 => ((lattice_Lattice_Join.f o1427.f0 o1427.f1.f0.f0 o1427.f1.f1.f0.f0 o1427.f1.f1.f0.f1 o1427.f2 o1427.f3 bt2085.2 (Int.tmod (wrap64 (a1)) t1194) (Int.tmod (wrap64 (a3)) t1194)).bind fun bt2093 => ((lattice_Lattice_Meet.f o1427.f0 o1427.f1.f0.f0 o1427.f1.f1.f0.f0 o1427.f1.f1.f0.f1 o1427.f2 o1427.f3 bt2093.2 bt2085.1 bt2093.1).bind fun bt2101 => (blazonlaw14_LatticeLaws.j0 k a1 a2 o1427 t1194 x1176 (!decide (bt2077.1 = bt2101.1)) bt2101.2)))))) else (blazonlaw14_LatticeLaws.j0 k a1 a2 o1427 t1194 x1176 true bt2060.2))))))) else (blazonlaw14_LatticeLaws.j0 k a1 a2 o1427 t1194 x1176 true bt2019.2)))) else (blazonlaw14_LatticeLaws.j0 k a1 a2 o1427 t1194 x1176 true bt2002.2))))
def blazonlaw14_LatticeLaws.j2 : Nat → Int → Int → Int → (Option S107) → (Option S81) → Bool → Option (Bool)
  | 0, _, _, _, _, _, _ => none
  | k + 1, a1, a2, a3, t1134, x1176, x1180 => if x1180 = true then ((blazonlaw14_awake.f k).bind fun t1187 => (some t1187)) else ((order_Order_Len.f x1176).bind fun t1194 => (if t1194 = 0 then (some false) else (onOpt t1134 (none) (fun o1427 => ((lattice_Lattice_Join.f o1427.f0 o1427.f1.f0.f0 o1427.f1.f1.f0.f0 o1427.f1.f1.f0.f1 o1427.f2 o1427.f3 o1427.f4.f0 (Int.tmod (wrap64 (a1)) t1194) (Int.tmod (wrap64 (a2)) t1194)).bind fun bt2109 => ((lattice_Lattice_Join.f o1427.f0 o1427.f1.f0.f0 o1427.f1.f1.f0.f0 o1427.f1.f1.f0.f1 o1427.f2 o1427.f3 bt2109.2 (Int.tmod (wrap64 (a2)) t1194) (Int.tmod (wrap64 (a1)) t1194)).bind fun bt2117 => (if bt2109.1 = bt2117.1 then ((lattice_Lattice_Meet.f o1427.f0 o1427.f1.f0.f0 o1427.f1.f1.f0.f0 o1427.f1.f1.f0.f1 o1427.f2 o1427.f3 bt2117.2 (Int.tmod (wrap64 (a1)) t1194) (Int.tmod (wrap64 (a2)) t1194)).bind fun bt2126 => ((lattice_Lattice_Meet.f o1427.f0 o1427.f1.f0.f0 o1427.f1.f1.f0.f0 o1427.f1.f1.f0.f1 o1427.f2 o1427.f3 bt2126.2 (Int.tmod (wrap64 (a2)) t1194) (Int.tmod (wrap64 (a1)) t1194)).bind fun bt2134 => (if bt2126.1 = bt2134.1 then ((lattice_Lattice_Join.f o1427.f0 o1427.f1.f0.f0 o1427.f1.f1.f0.f0 o1427.f1.f1.f0.f1 o1427.f2 o1427.f3 bt2134.2 (Int.tmod (wrap64 (a1)) t1194) (Int.tmod (wrap64 (a2)) t1194)).bind fun bt2143 => ((lattice_Lattice_Join.f o1427.f0 o1427.f1.f0.f0 o1427.f1.f1.f0.f0 o1427.f1.f1.f0.f1 o1427.f2 o1427.f3 bt2143.2 bt2143.1 (Int.tmod (wrap64 (a3)) t1194)).bind fun bt2151 => ((lattice_Lattice_Join.f o1427.f0 o1427.f1.f0.f0 o1427.f1.f1.f0.f0 o1427.f1.f1.f0.f1 o1427.f2 o1427.f3 bt2151.2 (Int.tmod (wrap64 (a2)) t1194) (Int.tmod (wrap64 (a3)) t1194)).bind fun bt2159 => ((lattice_Lattice_Join.f o1427.f0 o1427.f1.f0.f0 o1427.f1.f1.f0.f0 o1427.f1.f1.f0.f1 o1427.f2 o1427.f3 bt2159.2 (Int.tmod (wrap64 (a1)) t1194) bt2159.1).bind fun bt2167 => (if bt2151.1 = bt2167.1 then ((lattice_Lattice_Meet.f o1427.f0 o1427.f1.f0.f0 o1427.f1.f1.f0.f0 o1427.f1.f1.f0.f1 o1427.f2 o1427.f3 bt2167.2 (Int.tmod (wrap64 (a1)) t1194) (Int.tmod (wrap64 (a2)) t1194)).bind fun bt2176 => ((lattice_Lattice_Meet.f o1427.f0 o1427.f1.f0.f0 o1427.f1.f1.f0.f0 o1427.f1.f1.f0.f1 o1427.f2 o1427.f3 bt2176.2 bt2176.1 (Int.tmod (wrap64 (a3)) t1194)).bind fun bt2184 => ((lattice_Lattice_Meet.f o1427.f0 o1427.f1.f0.f0 o1427.f1.f1.f0.f0 o1427.f1.f1.f0.f1 o1427.f2 o1427.f3 bt2184.2 (Int.tmod (wrap64 (a2)) t1194) (Int.tmod (wrap64 (a3)) t1194)).bind fun bt2192 => ((lattice_Lattice_Meet.f o1427.f0 o1427.f1.f0.f0 o1427.f1.f1.f0.f0 o1427.f1.f1.f0.f1 o1427.f2 o1427.f3 bt2192.2 (Int.tmod (wrap64 (a1)) t1194) bt2192.1).bind fun bt2200 => (blazonlaw14_LatticeLaws.j1 k a1 a2 a3 o1427 t1194 x1176 (!decide (bt2184.1 = bt2200.1)) bt2200.2))))) else (blazonlaw14_LatticeLaws.j1 k a1 a2 a3 o1427 t1194 x1176 true bt2167.2)))))) else (blazonlaw14_LatticeLaws.j1 k a1 a2 a3 o1427 t1194 x1176 true bt2134.2)))) else (blazonlaw14_LatticeLaws.j1 k a1 a2 a3 o1427 t1194 x1176 true bt2117.2))))))))
end
def blazonlaw14_LatticeLaws.f (k : Nat) (l0 : List (S53)) (a1 : Int) (a2 : Int) (a3 : Int) : Option (Bool) := (blazonref13_Great.f k l0 12).bind fun t1108 => (if t1108 = true then ((blazonlaw14_awake.f k).bind fun t1116 => (some t1116)) else ((order_New.f k l0).bind fun bt1123 => ((lattice_New.f k bt1123.1).bind fun bt1134 => (if bt1123.2.2 = 0 then (blazonlaw14_LatticeLaws.j2 k a1 a2 a3 bt1134.1 bt1123.1 (!decide (bt1134.2.2.2 = 0))) else (blazonlaw14_LatticeLaws.j2 k a1 a2 a3 bt1134.1 bt1123.1 true)))))

set_option maxHeartbeats 2000000 in
set_option maxRecDepth 100000 in
theorem blazonlaw14_LatticeLaws.calls (k : Nat) (A0 : Option Addr) (c0 : Nat) (l0 : List (S53)) (a1 : Int) (a2 : Int) (a3 : Int) (r : Bool) (c : Nat → Nat) (w : World) (hc : ∀ k, c k < 10) (HG : Ft c [0] w GTab) (HP0 : Ft c [0] w (fun w_ => k53.C w_ A0 l0.length l0)) (HCP0 : l0.length ≤ c0) (H : blazonlaw14_LatticeLaws.f k l0 a1 a2 a3 = some r) :
    Calls Tryd.prog 4 #[.slice A0 l0.length c0, .int .u8 a1, .int .u8 a2, .int .u8 a3] w fun e w' => ∃ (c' : Nat → Nat) , e = .returned (.bool r) ∧ Step c w c' w' [] := by
 unfold blazonlaw14_LatticeLaws.f at H
 have HS := Step.refl c w []
 go_enter Tryd.func4, Tryd.ntmps4
 refine wp_seq_k fun K1105 hK1105 => ?_
 refine wl_region ?_
 refine st (.bool false) rfl rfl (xr_assign _ rfl rfl) ?_
 refine wl_end ?_
 (try simp only [ls0, ls1])
 refine hK1105 _ _ ?_
 (try clear hK1105 K1105)
 refine wp_seq_k fun K1106 hK1106 => ?_
 refine wp_seq_k fun K1107 hK1107 => ?_
 refine wl_region ?_
 refine mv_ rfl ?_
 obtain ⟨t1108, A1109, H⟩ := bnd H
 refine st_call #[.slice A0 l0.length c0, .int .i64 12] rfl rfl Tryd.func13 (by kernel_rfl) rfl rfl (mp_ rfl) ?_
 refine (blazonref13_Great.calls k A0 c0 l0 12 t1108  (fun z_ => pal [(0, 0)] (c z_)) w (fun _ => pal_lt rfl _) (Ft.arg HP0 rfl) HCP0 A1109).mono ?_
 rintro _ w1111 ⟨C1112, rfl, hs1113⟩
 refine ⟨_, rfl, ?_⟩
 replace hs1113 := Step.lift (U := [(0, 0)]) hs1113 [] rfl rfl
 generalize up c C1112 w.heap.size [(0, 0)] = C1112_ at hs1113
 replace HG := HG.thru hs1113 rfl
 replace HP0 := HP0.thru hs1113 rfl
 replace HS := HS.trans hs1113 hc rfl
 (try simp only [ls0, ls1])
 refine wl_end ?_
 (try simp only [ls0, ls1])
 refine hK1107 _ _ ?_
 (try clear hK1107 K1107)
 by_cases c1114 : t1108 = true
 ·rw [if_pos c1114] at H
  (try rw [c1114])
  refine wp_cond_true rfl ?_
  refine wp_seq_k fun K1115 hK1115 => ?_
  refine wl_region ?_
  obtain ⟨t1116, A1117, H⟩ := bnd H
  refine st_call #[] rfl rfl Tryd.func14 (by kernel_rfl) rfl rfl (mp_ rfl) ?_
  refine (blazonlaw14_awake.calls k t1116  (fun z_ => pal [(0, 0)] (C1112_ z_)) w1111 (fun _ => pal_lt rfl _) (Ft.arg HG rfl) A1117).mono ?_
  rintro _ w1119 ⟨C1120, rfl, hs1121⟩
  refine ⟨_, rfl, ?_⟩
  replace hs1121 := Step.lift (U := [(0, 0)]) hs1121 [] rfl rfl
  generalize up C1112_ C1120 w1111.heap.size [(0, 0)] = C1120_ at hs1121
  replace HG := HG.thru hs1121 rfl
  replace HS := HS.trans hs1121 hc rfl
  (try simp only [ls0, ls1])
  refine as_ rfl ?_
  refine wl_end ?_
  (try simp only [ls0, ls1])
  refine hK1115 _ _ ?_
  (try clear hK1115 K1115)
  refine wp_ret ?_
  (try simp only [Exit.inBlock, Exit.then, Exit.noGoto])
  (try simp only [ls0, ls1])
  obtain rfl := Option.some.inj H
  refine bodyPost_ret (results_tmp rfl _ _ _) rfl ?_
  exact ⟨_, rfl, HS⟩
 rw [if_neg c1114] at H
 (try rw [(Bool.eq_false_iff.mpr c1114)])
 refine wp_cond_false rfl ?_
 refine wp_skip ?_
 (try simp only [ls0, ls1])
 refine hK1106 _ _ ?_
 (try clear hK1106 K1106)
 refine wp_seq_k fun K1122 hK1122 => ?_
 refine wl_region ?_
 refine mv_ rfl ?_
 obtain ⟨⟨t1123, t1124, t1125⟩, A1126, H⟩ := bnd H
 (try dsimp only at H)
 refine st_call #[.slice A0 l0.length c0] rfl rfl Tryd.func15 (by kernel_rfl) rfl rfl (mp_ rfl) ?_
 refine (order_New.calls k A0 c0 l0 t1123 t1124 t1125  (fun z_ => pal [(0, 0)] (C1112_ z_)) w1111 (fun _ => pal_lt rfl _) (Ft.arg HP0 rfl) HCP0 A1126).mono ?_
 rintro _ w1128 ⟨C1129, v1131, rfl, hs1130, HB1132⟩
 refine ⟨_, rfl, ?_⟩
 replace HB1132 := Ft.res (U := [(0, 0)]) HB1132 hs1130 [0] rfl rfl rfl
 replace hs1130 := Step.lift (U := [(0, 0)]) hs1130 [] rfl rfl
 generalize up C1112_ C1129 w1111.heap.size [(0, 0)] = C1129_ at HB1132 hs1130
 replace HG := HG.thru hs1130 rfl
 replace HS := HS.trans hs1130 hc rfl
 (try simp only [ls0, ls1])
 refine mv_ rfl ?_
 refine st (v1131) rfl rfl (xr_extract (.tuple #[v1131, .int .i64 t1124, .int .i64 t1125]) _ rfl rfl rfl) ?_
 refine st (.int .i64 t1124) rfl rfl (xr_extract (.tuple #[v1131, .int .i64 t1124, .int .i64 t1125]) _ rfl rfl rfl) ?_
 refine st (.int .i64 t1125) rfl rfl (xr_extract (.tuple #[v1131, .int .i64 t1124, .int .i64 t1125]) _ rfl rfl rfl) ?_
 simp only [ls0, ls1]
 refine as_ rfl ?_
 refine as_ rfl ?_
 refine as_ rfl ?_
 refine wl_end ?_
 (try simp only [ls0, ls1])
 refine hK1122 _ _ ?_
 (try clear hK1122 K1122)
 refine wp_seq_k fun K1133 hK1133 => ?_
 refine wl_region ?_
 refine mv_ rfl ?_
 obtain ⟨⟨t1134, t1135, t1136, t1137⟩, A1138, H⟩ := bnd H
 (try dsimp only at H)
 refine st_call #[v1131] rfl rfl Tryd.func17 (by kernel_rfl) rfl rfl (mp_ rfl) ?_
 refine (lattice_New.calls k v1131 t1123 t1134 t1135 t1136 t1137  (fun z_ => pal [(0, 0)] (C1129_ z_)) w1128 (fun _ => pal_lt rfl _) (Ft.arg HG rfl) (Ft.arg HB1132 rfl) A1138).mono ?_
 rintro _ w1140 ⟨C1141, v1143, rfl, hs1142, HB1144⟩
 refine ⟨_, rfl, ?_⟩
 replace HB1144 := OwnPt.res (U := [(0, 0), (5, 11)]) (j := 11) HB1144 hs1142 (by rfl) (by rfl) (by decide) rfl rfl
 replace hs1142 := Step.lift (U := [(0, 0), (5, 11)]) hs1142 [] rfl rfl
 generalize up C1129_ C1141 w1128.heap.size [(0, 0), (5, 11)] = C1141_ at HB1144 hs1142
 replace HG := HG.thru hs1142 rfl
 replace HB1132 := HB1132.thru hs1142 rfl
 replace HS := HS.trans hs1142 hc rfl
 (try simp only [ls0, ls1])
 refine mv_ rfl ?_
 refine st (v1143) rfl rfl (xr_extract (.tuple #[v1143, .int .i64 t1135, .int .i64 t1136, .int .i64 t1137]) _ rfl rfl rfl) ?_
 refine st (.int .i64 t1135) rfl rfl (xr_extract (.tuple #[v1143, .int .i64 t1135, .int .i64 t1136, .int .i64 t1137]) _ rfl rfl rfl) ?_
 refine st (.int .i64 t1136) rfl rfl (xr_extract (.tuple #[v1143, .int .i64 t1135, .int .i64 t1136, .int .i64 t1137]) _ rfl rfl rfl) ?_
 simp only [ls0, ls1]
 refine st (.int .i64 t1137) rfl rfl (xr_extract (.tuple #[v1143, .int .i64 t1135, .int .i64 t1136, .int .i64 t1137]) _ rfl rfl rfl) ?_
 refine as_ rfl ?_
 refine as_ rfl ?_
 refine as_ rfl ?_
 simp only [ls0, ls1]
 refine as_ rfl ?_
 refine wl_end ?_
 (try simp only [ls0, ls1])
 refine hK1133 _ _ ?_
 (try clear hK1133 K1133)
 refine wp_seq_k fun K1145 hK1145 => ?_
 refine wp_seq_k fun K1170 hK1170 => ?_
 have hj1172 : ∀ (kq1182 : Nat) (C1173 : Nat → Nat) (w1174 : World) (x1180 : Bool) (v1177 : Value) (x1176 : Option S81) (g_ : Nat → Value), Step c w C1173 w1174 [] → kq1182 ≤ k → (Ft C1173 [0] w1174 (fun w_ => (Kd.ptr 81 k81).K w_ x1176 [v1177])) → (OwnPt C1173 11 w1174 107 k107 v1143 t1134) → (Ft C1173 [0] w1174 GTab) → blazonlaw14_LatticeLaws.j2 kq1182 a1 a2 a3 t1134 x1176 x1180 = some r → K1170 ⟨#[(g_ 0), .int .u8 a1, .int .u8 a2, .int .u8 a3, (g_ 4), (g_ 5), (g_ 6), (g_ 7), (g_ 8), v1177, (g_ 10), (g_ 11), v1143, (g_ 13), (g_ 14), (g_ 15), (g_ 16), (g_ 17), (g_ 18), (g_ 19), (g_ 20), (g_ 21), (g_ 22), (g_ 23), (g_ 24), (g_ 25), (g_ 26), (g_ 27), (g_ 28), (g_ 29), (g_ 30), (g_ 31), (g_ 32), (g_ 33), (g_ 34), (g_ 35), (g_ 36), (g_ 37), (g_ 38), (g_ 39), (g_ 40), .bool x1180, (g_ 42), (g_ 43), (g_ 44), (g_ 45), (g_ 46), (g_ 47), (g_ 48), (g_ 49), (g_ 50), (g_ 51), (g_ 52), (g_ 53), (g_ 54), (g_ 55), (g_ 56), (g_ 57), (g_ 58), (g_ 59), (g_ 60), (g_ 61), (g_ 62), (g_ 63), (g_ 64), (g_ 65), (g_ 66), (g_ 67), (g_ 68), (g_ 69), (g_ 70), (g_ 71), (g_ 72), (g_ 73), (g_ 74), (g_ 75), (g_ 76), (g_ 77), (g_ 78), (g_ 79), (g_ 80), (g_ 81), (g_ 82), (g_ 83), (g_ 84), (g_ 85), (g_ 86), (g_ 87), (g_ 88), (g_ 89), (g_ 90), (g_ 91), (g_ 92), (g_ 93), (g_ 94), (g_ 95), (g_ 96), (g_ 97), (g_ 98), (g_ 99), (g_ 100), (g_ 101), (g_ 102), (g_ 103), (g_ 104), (g_ 105), (g_ 106), (g_ 107), (g_ 108), (g_ 109), (g_ 110), (g_ 111), (g_ 112), (g_ 113), (g_ 114), (g_ 115), (g_ 116), (g_ 117), (g_ 118), (g_ 119), (g_ 120), (g_ 121), (g_ 122), (g_ 123), (g_ 124), (g_ 125), (g_ 126), (g_ 127), (g_ 128), (g_ 129), (g_ 130), (g_ 131), (g_ 132), (g_ 133), (g_ 134), (g_ 135), (g_ 136), (g_ 137), (g_ 138), (g_ 139), (g_ 140), (g_ 141), (g_ 142), (g_ 143), (g_ 144), (g_ 145), (g_ 146), (g_ 147), (g_ 148), (g_ 149), (g_ 150), (g_ 151), (g_ 152), (g_ 153), (g_ 154), (g_ 155), (g_ 156), (g_ 157), (g_ 158), (g_ 159), (g_ 160), (g_ 161), (g_ 162), (g_ 163), (g_ 164), (g_ 165), (g_ 166), (g_ 167), (g_ 168), (g_ 169), (g_ 170), (g_ 171), (g_ 172), (g_ 173), (g_ 174), (g_ 175), (g_ 176), (g_ 177), (g_ 178), (g_ 179), (g_ 180), (g_ 181), (g_ 182), (g_ 183), (g_ 184), (g_ 185), (g_ 186), (g_ 187), (g_ 188), (g_ 189), (g_ 190), (g_ 191), (g_ 192), (g_ 193), (g_ 194), (g_ 195), (g_ 196), (g_ 197), (g_ 198), (g_ 199), (g_ 200), (g_ 201), (g_ 202), (g_ 203), (g_ 204), (g_ 205), (g_ 206)], []⟩ w1174 := by
  intro kq1182 C1173 w1174 x1180 v1177 x1176 g_ HS1175 hk1183 HJ1178 HJ1179 HG1181 H
  cases kq1182 with
  | zero => exact absurd H (by simp [blazonlaw14_LatticeLaws.j2])
  | succ k1184 =>
   simp only [blazonlaw14_LatticeLaws.j2] at H
   refine hK1170 _ _ ?_
   (try clear hK1170)
   by_cases c1185 : x1180 = true
   ·rw [if_pos c1185] at H
    (try rw [c1185])
    refine wp_cond_true rfl ?_
    refine wp_seq_k fun K1186 hK1186 => ?_
    refine wl_region ?_
    obtain ⟨t1187, A1188, H⟩ := bnd H
    refine st_call #[] rfl rfl Tryd.func14 (by kernel_rfl) rfl rfl (mp_ rfl) ?_
    refine (blazonlaw14_awake.calls k1184 t1187  (fun z_ => pal [(0, 0)] (C1173 z_)) w1174 (fun _ => pal_lt rfl _) (Ft.arg HG1181 rfl) A1188).mono ?_
    rintro _ w1190 ⟨C1191, rfl, hs1192⟩
    refine ⟨_, rfl, ?_⟩
    replace hs1192 := Step.lift (U := [(0, 0)]) hs1192 [] rfl rfl
    generalize up C1173 C1191 w1174.heap.size [(0, 0)] = C1191_ at hs1192
    replace HG1181 := HG1181.thru hs1192 rfl
    replace HS1175 := HS1175.trans hs1192 hc rfl
    (try simp only [ls0, ls1])
    refine as_ rfl ?_
    refine wl_end ?_
    (try simp only [ls0, ls1])
    refine hK1186 _ _ ?_
    (try clear hK1186 K1186)
    refine wp_ret ?_
    (try simp only [Exit.inBlock, Exit.then, Exit.noGoto])
    (try simp only [ls0, ls1])
    obtain rfl := Option.some.inj H
    refine bodyPost_ret (results_tmp rfl _ _ _) rfl ?_
    exact ⟨_, rfl, HS1175⟩
   rw [if_neg c1185] at H
   (try rw [(Bool.eq_false_iff.mpr c1185)])
   refine wp_cond_false rfl ?_
   refine wp_skip ?_
   (try simp only [ls0, ls1])
   refine hK1145 _ _ ?_
   (try clear hK1145 K1145)
   refine wp_seq_k fun K1193 hK1193 => ?_
   refine wl_region ?_
   refine mv_ rfl ?_
   obtain ⟨t1194, A1195, H⟩ := bnd H
   refine st_call #[v1177] rfl rfl Tryd.func21 (by kernel_rfl) rfl rfl (mp_ rfl) ?_
   refine (order_Order_Len.calls v1177 x1176 t1194  (fun z_ => pal [(0, 0)] (C1173 z_)) w1174 (fun _ => pal_lt rfl _) (Ft.arg HJ1178 rfl) A1195).mono ?_
   rintro _ w1197 ⟨C1198, rfl, hs1199⟩
   refine ⟨_, rfl, ?_⟩
   replace hs1199 := Step.lift (U := [(0, 0)]) hs1199 [] rfl rfl
   generalize up C1173 C1198 w1174.heap.size [(0, 0)] = C1198_ at hs1199
   replace HJ1178 := HJ1178.thru hs1199 rfl
   replace HJ1179 := HJ1179.thru hs1199 rfl
   replace HG1181 := HG1181.thru hs1199 rfl
   replace HS1175 := HS1175.trans hs1199 hc rfl
   (try simp only [ls0, ls1])
   refine as_ rfl ?_
   refine wl_end ?_
   (try simp only [ls0, ls1])
   refine hK1193 _ _ ?_
   (try clear hK1193 K1193)
   refine wp_seq_k fun K1200 hK1200 => ?_
   refine wp_seq_k fun K1201 hK1201 => ?_
   refine wl_region ?_
   refine mv_ rfl ?_
   refine st (.bool (decide (t1194 = 0))) rfl rfl (xr_bin _ _ _ rfl rfl rfl (B.eql_i64 _ _)) ?_
   refine wl_end ?_
   (try simp only [ls0, ls1])
   refine hK1201 _ _ ?_
   (try clear hK1201 K1201)
   by_cases c1202 : t1194 = 0
   ·rw [if_pos c1202] at H
    (try rw [(decide_eq_true c1202)])
    refine wp_cond_true rfl ?_
    refine wp_seq_k fun K1203 hK1203 => ?_
    refine wl_region ?_
    refine st (.bool false) rfl rfl (xr_assign _ rfl rfl) ?_
    refine wl_end ?_
    (try simp only [ls0, ls1])
    refine hK1203 _ _ ?_
    (try clear hK1203 K1203)
    refine wp_ret ?_
    (try simp only [Exit.inBlock, Exit.then, Exit.noGoto])
    (try simp only [ls0, ls1])
    obtain rfl := Option.some.inj H
    refine bodyPost_ret (results_tmp rfl _ _ _) rfl ?_
    exact ⟨_, rfl, HS1175⟩
   rw [if_neg c1202] at H
   (try rw [(decide_eq_false c1202)])
   refine wp_cond_false rfl ?_
   refine wp_skip ?_
   (try simp only [ls0, ls1])
   refine hK1200 _ _ ?_
   (try clear hK1200 K1200)
   refine wp_seq_k fun K1204 hK1204 => ?_
   (try simp only [ls0, ls1])
   refine al_start (lb 15 0) rfl rfl rfl (fun w_ => True) trivial [] ?_
   replace HJ1178 := HJ1178.drew
   replace HJ1179 := HJ1179.drew
   replace HG1181 := HG1181.drew
   replace HS1175 := Step.ofDrew HS1175
   generalize w1197.drew = w1205 at *
   refine al_mv 0 (lb 15 1) rfl rfl (by kernel_rfl) (fun _ _ _ => id) rfl ?_
   refine al_pure 1 48 (.int .i64 (wrap64 (a1))) (lb 15 3) rfl rfl (by kernel_rfl) (fun _ _ _ => id) rfl (fun w_ => xr_conv (.int .u8 a1) _ rfl rfl (by first | rfl | (go_simp; done) | (go_simp; rfl) | (go_simp; exact i64_w _) | (go_simp; exact i32_w _))) ?_
   refine al_mv 2 (lb 15 7) rfl rfl (by kernel_rfl) (fun _ _ _ => id) rfl ?_
   refine al_pure 3 50 (.int .i64 (Int.tmod (wrap64 (a1)) t1194)) (lb 15 15) rfl rfl (by kernel_rfl) (fun _ _ _ => id) rfl (fun w_ => xr_bin _ _ _ rfl rfl rfl (B.rem_i64 _ _ (by assumption))) ?_
   simp only [ls0, ls1]
   refine al_mv 4 (lb 15 31) rfl rfl (by kernel_rfl) (fun _ _ _ => id) rfl ?_
   refine al_pure 5 52 (.int .i64 (wrap64 (a2))) (lb 15 63) rfl rfl (by kernel_rfl) (fun _ _ _ => id) rfl (fun w_ => xr_conv (.int .u8 a2) _ rfl rfl (by first | rfl | (go_simp; done) | (go_simp; rfl) | (go_simp; exact i64_w _) | (go_simp; exact i32_w _))) ?_
   refine al_mv 6 (lb 15 127) rfl rfl (by kernel_rfl) (fun _ _ _ => id) rfl ?_
   refine al_pure 7 54 (.int .i64 (Int.tmod (wrap64 (a2)) t1194)) (lb 15 255) rfl rfl (by kernel_rfl) (fun _ _ _ => id) rfl (fun w_ => xr_bin _ _ _ rfl rfl rfl (B.rem_i64 _ _ (by assumption))) ?_
   simp only [ls0, ls1]
   refine al_mv 8 (lb 15 511) rfl rfl (by kernel_rfl) (fun _ _ _ => id) rfl ?_
   refine al_pure 9 56 (.int .i64 (wrap64 (a3))) (lb 15 1023) rfl rfl (by kernel_rfl) (fun _ _ _ => id) rfl (fun w_ => xr_conv (.int .u8 a3) _ rfl rfl (by first | rfl | (go_simp; done) | (go_simp; rfl) | (go_simp; exact i64_w _) | (go_simp; exact i32_w _))) ?_
   refine al_mv 10 (lb 15 2047) rfl rfl (by kernel_rfl) (fun _ _ _ => id) rfl ?_
   refine al_pure 11 58 (.int .i64 (Int.tmod (wrap64 (a3)) t1194)) (lb 15 4095) rfl rfl (by kernel_rfl) (fun _ _ _ => id) rfl (fun w_ => xr_bin _ _ _ rfl rfl rfl (B.rem_i64 _ _ (by assumption))) ?_
   simp only [ls0, ls1]
   refine al_as 12 (lb 15 8191) rfl rfl (by kernel_rfl) (fun _ _ _ => id) rfl ?_
   refine al_as 13 (lb 15 16383) rfl rfl (by kernel_rfl) (fun _ _ _ => id) rfl ?_
   refine al_as 14 (lb 15 32767) rfl rfl (by kernel_rfl) (fun _ _ _ => id) rfl ?_
   refine al_end (by kernel_rfl) ?_
   (try simp only [ls0, ls1])
   refine hK1204 _ _ ?_
   (try clear hK1204 K1204)
   refine wp_seq_k fun K1206 hK1206 => ?_
   cases t1134 with
   | none =>
    (try simp only [onOpt] at H)
    obtain rfl := OwnPt.isNone HJ1179
    exact absurd H (by simp)
   | some o1427 =>
    (try simp only [onOpt] at H)
    obtain ⟨g1428, cs1429, rfl, HX1430, HK1431⟩ := OwnPt.isSome HJ1179
    obtain ⟨vq1432_0, rfl, HRq1432_0, HLq1432_4, HLq1432_5⟩ := k107_openF HK1431
    replace HRq1432_0 : Ft C1198_ [0] w1205 (fun w_ => (Kd.ptr 81 k81).K w_ o1427.f0 [vq1432_0]) := HRq1432_0
    replace HX1430 : Bx C1198_ 11 w1205 g1428 107 ([vq1432_0, .int .u32 o1427.f1.f0.f0, .int .i32 o1427.f1.f1.f0.f0, .int .u32 o1427.f1.f1.f0.f1] ++ (List.map (Value.int .i8) o1427.f2 ++ (List.map (Value.int .i8) o1427.f3 ++ ([.int .i64 o1427.f4.f0])))) := HX1430
    refine wp_seq_k fun K1433 hK1433 => ?_
    have hj1533 : ∀ (kq1543 : Nat) (C1534 : Nat → Nat) (w1535 : World) (x1538 : Bool) (x1540 : Int) (g_ : Nat → Value), Step c w C1534 w1535 [] → kq1543 ≤ k1184 → (Ft C1534 [0] w1535 (fun w_ => (Kd.ptr 81 k81).K w_ x1176 [v1177])) → (Ft C1534 [0] w1535 (fun w_ => (Kd.ptr 81 k81).K w_ o1427.f0 [vq1432_0])) → (Bx C1534 11 w1535 g1428 107 ([vq1432_0, .int .u32 o1427.f1.f0.f0, .int .i32 o1427.f1.f1.f0.f0, .int .u32 o1427.f1.f1.f0.f1] ++ (List.map (Value.int .i8) o1427.f2 ++ (List.map (Value.int .i8) o1427.f3 ++ ([.int .i64 x1540]))))) → (Ft C1534 [0] w1535 GTab) → blazonlaw14_LatticeLaws.j1 kq1543 a1 a2 a3 o1427 t1194 x1176 x1538 x1540 = some r → K1433 ⟨#[(g_ 0), (g_ 1), (g_ 2), (g_ 3), (g_ 4), (g_ 5), (g_ 6), (g_ 7), (g_ 8), v1177, (g_ 10), (g_ 11), .pointer (some ⟨g1428, 0, none⟩), (g_ 13), (g_ 14), (g_ 15), (g_ 16), .int .i64 (Int.tmod (wrap64 (a1)) t1194), .int .i64 (Int.tmod (wrap64 (a2)) t1194), .int .i64 (Int.tmod (wrap64 (a3)) t1194), (g_ 20), (g_ 21), (g_ 22), (g_ 23), (g_ 24), (g_ 25), (g_ 26), (g_ 27), (g_ 28), (g_ 29), (g_ 30), (g_ 31), (g_ 32), (g_ 33), (g_ 34), (g_ 35), (g_ 36), (g_ 37), (g_ 38), (g_ 39), (g_ 40), (g_ 41), (g_ 42), (g_ 43), (g_ 44), (g_ 45), (g_ 46), (g_ 47), (g_ 48), (g_ 49), (g_ 50), (g_ 51), (g_ 52), (g_ 53), (g_ 54), (g_ 55), (g_ 56), (g_ 57), (g_ 58), (g_ 59), (g_ 60), (g_ 61), (g_ 62), (g_ 63), (g_ 64), (g_ 65), (g_ 66), (g_ 67), (g_ 68), (g_ 69), (g_ 70), (g_ 71), (g_ 72), (g_ 73), (g_ 74), (g_ 75), (g_ 76), (g_ 77), (g_ 78), (g_ 79), (g_ 80), (g_ 81), (g_ 82), (g_ 83), (g_ 84), (g_ 85), (g_ 86), (g_ 87), (g_ 88), (g_ 89), (g_ 90), (g_ 91), (g_ 92), (g_ 93), (g_ 94), (g_ 95), (g_ 96), (g_ 97), (g_ 98), (g_ 99), (g_ 100), (g_ 101), (g_ 102), (g_ 103), (g_ 104), (g_ 105), (g_ 106), (g_ 107), (g_ 108), (g_ 109), (g_ 110), (g_ 111), .bool x1538, (g_ 113), (g_ 114), (g_ 115), (g_ 116), (g_ 117), (g_ 118), (g_ 119), (g_ 120), (g_ 121), (g_ 122), (g_ 123), (g_ 124), (g_ 125), (g_ 126), (g_ 127), (g_ 128), (g_ 129), (g_ 130), (g_ 131), (g_ 132), (g_ 133), (g_ 134), (g_ 135), (g_ 136), (g_ 137), (g_ 138), (g_ 139), (g_ 140), (g_ 141), (g_ 142), (g_ 143), (g_ 144), (g_ 145), (g_ 146), (g_ 147), (g_ 148), (g_ 149), (g_ 150), (g_ 151), (g_ 152), (g_ 153), (g_ 154), (g_ 155), (g_ 156), (g_ 157), (g_ 158), (g_ 159), (g_ 160), (g_ 161), (g_ 162), (g_ 163), (g_ 164), (g_ 165), (g_ 166), (g_ 167), (g_ 168), (g_ 169), (g_ 170), (g_ 171), (g_ 172), (g_ 173), (g_ 174), (g_ 175), (g_ 176), (g_ 177), (g_ 178), (g_ 179), (g_ 180), (g_ 181), (g_ 182), (g_ 183), (g_ 184), (g_ 185), (g_ 186), (g_ 187), (g_ 188), (g_ 189), (g_ 190), (g_ 191), (g_ 192), (g_ 193), (g_ 194), (g_ 195), (g_ 196), (g_ 197), (g_ 198), (g_ 199), (g_ 200), (g_ 201), (g_ 202), (g_ 203), (g_ 204), (g_ 205), (g_ 206)], []⟩ w1535 := by
     intro kq1543 C1534 w1535 x1538 x1540 g_ HS1536 hk1544 HJ1537 HJ1539 HJ1541 HG1542 H
     cases kq1543 with
     | zero => exact absurd H (by simp [blazonlaw14_LatticeLaws.j1])
     | succ k1545 =>
      simp only [blazonlaw14_LatticeLaws.j1] at H
      refine hK1433 _ _ ?_
      (try clear hK1433)
      by_cases c1546 : x1538 = true
      ·rw [if_pos c1546] at H
       (try rw [c1546])
       refine wp_cond_true rfl ?_
       refine wp_seq_k fun K1547 hK1547 => ?_
       refine wl_region ?_
       refine st (.bool false) rfl rfl (xr_assign _ rfl rfl) ?_
       simp only [ls0, ls1]
       refine wl_end ?_
       (try simp only [ls0, ls1])
       refine hK1547 _ _ ?_
       (try clear hK1547 K1547)
       refine wp_ret ?_
       (try simp only [Exit.inBlock, Exit.then, Exit.noGoto])
       (try simp only [ls0, ls1])
       obtain rfl := Option.some.inj H
       refine bodyPost_ret (results_tmp rfl _ _ _) rfl ?_
       exact ⟨_, rfl, HS1536⟩
      rw [if_neg c1546] at H
      (try rw [(Bool.eq_false_iff.mpr c1546)])
      refine wp_cond_false rfl ?_
      refine wp_skip ?_
      (try simp only [ls0, ls1])
      refine hK1206 _ _ ?_
      (try clear hK1206 K1206)
      refine wp_seq_k fun K1548 hK1548 => ?_
      refine wp_seq_k fun K1795 hK1795 => ?_
      have hj1911 : ∀ (kq1921 : Nat) (C1912 : Nat → Nat) (w1913 : World) (x1916 : Bool) (x1918 : Int) (g_ : Nat → Value), Step c w C1912 w1913 [] → kq1921 ≤ k1545 → (Ft C1912 [0] w1913 (fun w_ => (Kd.ptr 81 k81).K w_ x1176 [v1177])) → (Ft C1912 [0] w1913 (fun w_ => (Kd.ptr 81 k81).K w_ o1427.f0 [vq1432_0])) → (Bx C1912 11 w1913 g1428 107 ([vq1432_0, .int .u32 o1427.f1.f0.f0, .int .i32 o1427.f1.f1.f0.f0, .int .u32 o1427.f1.f1.f0.f1] ++ (List.map (Value.int .i8) o1427.f2 ++ (List.map (Value.int .i8) o1427.f3 ++ ([.int .i64 x1918]))))) → (Ft C1912 [0] w1913 GTab) → blazonlaw14_LatticeLaws.j0 kq1921 a1 a2 o1427 t1194 x1176 x1916 x1918 = some r → K1795 ⟨#[(g_ 0), (g_ 1), (g_ 2), (g_ 3), (g_ 4), (g_ 5), (g_ 6), (g_ 7), (g_ 8), v1177, (g_ 10), (g_ 11), .pointer (some ⟨g1428, 0, none⟩), (g_ 13), (g_ 14), (g_ 15), (g_ 16), .int .i64 (Int.tmod (wrap64 (a1)) t1194), .int .i64 (Int.tmod (wrap64 (a2)) t1194), (g_ 19), (g_ 20), (g_ 21), (g_ 22), (g_ 23), (g_ 24), (g_ 25), (g_ 26), (g_ 27), (g_ 28), (g_ 29), (g_ 30), (g_ 31), (g_ 32), (g_ 33), (g_ 34), (g_ 35), (g_ 36), (g_ 37), (g_ 38), (g_ 39), (g_ 40), (g_ 41), (g_ 42), (g_ 43), (g_ 44), (g_ 45), (g_ 46), (g_ 47), (g_ 48), (g_ 49), (g_ 50), (g_ 51), (g_ 52), (g_ 53), (g_ 54), (g_ 55), (g_ 56), (g_ 57), (g_ 58), (g_ 59), (g_ 60), (g_ 61), (g_ 62), (g_ 63), (g_ 64), (g_ 65), (g_ 66), (g_ 67), (g_ 68), (g_ 69), (g_ 70), (g_ 71), (g_ 72), (g_ 73), (g_ 74), (g_ 75), (g_ 76), (g_ 77), (g_ 78), (g_ 79), (g_ 80), (g_ 81), (g_ 82), (g_ 83), (g_ 84), (g_ 85), (g_ 86), (g_ 87), (g_ 88), (g_ 89), (g_ 90), (g_ 91), (g_ 92), (g_ 93), (g_ 94), (g_ 95), (g_ 96), (g_ 97), (g_ 98), (g_ 99), (g_ 100), (g_ 101), (g_ 102), (g_ 103), (g_ 104), (g_ 105), (g_ 106), (g_ 107), (g_ 108), (g_ 109), (g_ 110), (g_ 111), (g_ 112), (g_ 113), (g_ 114), (g_ 115), (g_ 116), (g_ 117), (g_ 118), (g_ 119), (g_ 120), (g_ 121), (g_ 122), (g_ 123), (g_ 124), (g_ 125), (g_ 126), (g_ 127), (g_ 128), (g_ 129), (g_ 130), (g_ 131), (g_ 132), (g_ 133), (g_ 134), (g_ 135), (g_ 136), (g_ 137), (g_ 138), (g_ 139), (g_ 140), (g_ 141), (g_ 142), (g_ 143), (g_ 144), (g_ 145), (g_ 146), (g_ 147), (g_ 148), (g_ 149), (g_ 150), (g_ 151), (g_ 152), (g_ 153), (g_ 154), (g_ 155), (g_ 156), (g_ 157), (g_ 158), (g_ 159), (g_ 160), (g_ 161), (g_ 162), (g_ 163), (g_ 164), (g_ 165), (g_ 166), (g_ 167), (g_ 168), (g_ 169), (g_ 170), (g_ 171), .bool x1916, (g_ 173), (g_ 174), (g_ 175), (g_ 176), (g_ 177), (g_ 178), (g_ 179), (g_ 180), (g_ 181), (g_ 182), (g_ 183), (g_ 184), (g_ 185), (g_ 186), (g_ 187), (g_ 188), (g_ 189), (g_ 190), (g_ 191), (g_ 192), (g_ 193), (g_ 194), (g_ 195), (g_ 196), (g_ 197), (g_ 198), (g_ 199), (g_ 200), (g_ 201), (g_ 202), (g_ 203), (g_ 204), (g_ 205), (g_ 206)], []⟩ w1913 := by
       intro kq1921 C1912 w1913 x1916 x1918 g_ HS1914 hk1922 HJ1915 HJ1917 HJ1919 HG1920 H
       cases kq1921 with
       | zero => exact absurd H (by simp [blazonlaw14_LatticeLaws.j0])
       | succ k1923 =>
        simp only [blazonlaw14_LatticeLaws.j0] at H
        refine hK1795 _ _ ?_
        (try clear hK1795)
        by_cases c1924 : x1916 = true
        ·rw [if_pos c1924] at H
         (try rw [c1924])
         refine wp_cond_true rfl ?_
         refine wp_seq_k fun K1925 hK1925 => ?_
         refine wl_region ?_
         refine st (.bool false) rfl rfl (xr_assign _ rfl rfl) ?_
         refine wl_end ?_
         (try simp only [ls0, ls1])
         refine hK1925 _ _ ?_
         (try clear hK1925 K1925)
         refine wp_ret ?_
         (try simp only [Exit.inBlock, Exit.then, Exit.noGoto])
         (try simp only [ls0, ls1])
         obtain rfl := Option.some.inj H
         refine bodyPost_ret (results_tmp rfl _ _ _) rfl ?_
         exact ⟨_, rfl, HS1914⟩
        rw [if_neg c1924] at H
        (try rw [(Bool.eq_false_iff.mpr c1924)])
        refine wp_cond_false rfl ?_
        refine wp_skip ?_
        (try simp only [ls0, ls1])
        refine hK1548 _ _ ?_
        (try clear hK1548 K1548)
        refine wp_seq_k fun K1926 hK1926 => ?_
        refine wl_region ?_
        refine mv_ rfl ?_
        refine mv_ rfl ?_
        refine mv_ rfl ?_
        obtain ⟨t1927, A1928, H⟩ := bnd H
        refine st_call #[v1177, .int .i64 (Int.tmod (wrap64 (a1)) t1194), .int .i64 (Int.tmod (wrap64 (a2)) t1194)] rfl rfl Tryd.func24 (by kernel_rfl) rfl rfl (mp_ rfl) ?_
        refine (order_Order_Most.calls v1177 x1176 (Int.tmod (wrap64 (a1)) t1194) (Int.tmod (wrap64 (a2)) t1194) t1927  (fun z_ => pal [(0, 0)] (C1912 z_)) w1913 (fun _ => pal_lt rfl _) (Ft.arg HJ1915 rfl) A1928).mono ?_
        rintro _ w1930 ⟨C1931, rfl, hs1932⟩
        refine ⟨_, rfl, ?_⟩
        replace hs1932 := Step.lift (U := [(0, 0)]) hs1932 [] rfl rfl
        generalize up C1912 C1931 w1913.heap.size [(0, 0)] = C1931_ at hs1932
        replace HJ1919 := HJ1919.thru hs1932 rfl
        replace HJ1917 := HJ1917.thru hs1932 rfl
        replace HG1920 := HG1920.thru hs1932 rfl
        replace HS1914 := HS1914.trans hs1932 hc rfl
        (try simp only [ls0, ls1])
        refine mv_ rfl ?_
        refine mv_ rfl ?_
        refine mv_ rfl ?_
        obtain ⟨⟨t1933, t1934⟩, A1935, H⟩ := bnd H
        (try dsimp only at H)
        refine st_call #[.pointer (some ⟨g1428, 0, none⟩), .int .i64 (Int.tmod (wrap64 (a1)) t1194), .int .i64 (Int.tmod (wrap64 (a2)) t1194)] rfl rfl Tryd.func22 (by kernel_rfl) rfl rfl (mp_ rfl) ?_
        refine (lattice_Lattice_Join.calls g1428 vq1432_0 o1427.f0 o1427.f1.f0.f0 o1427.f1.f1.f0.f0 o1427.f1.f1.f0.f1 o1427.f2 o1427.f3 x1918 (Int.tmod (wrap64 (a1)) t1194) (Int.tmod (wrap64 (a2)) t1194) t1933 t1934  (fun z_ => pal [(0, 0), (11, 1)] (C1931_ z_)) w1930 (fun _ => pal_lt rfl _) (Bx.arg HJ1919 rfl) (Ft.arg HJ1917 rfl) HLq1432_4 HLq1432_5 A1935).mono ?_
        rintro _ w1937 ⟨C1938, rfl, hs1939, HX1940⟩
        refine ⟨_, rfl, ?_⟩
        replace HX1940 := Bx.res (U := [(0, 0), (1, 11)]) (j := 11) HX1940 hs1939 (by rfl) (by decide) rfl
        replace hs1939 := Step.lift (U := [(0, 0), (1, 11)]) hs1939 [11] rfl rfl
        generalize up C1931_ C1938 w1930.heap.size [(0, 0), (1, 11)] = C1938_ at HX1940 hs1939
        replace HJ1917 := HJ1917.thru hs1939 rfl
        replace HG1920 := HG1920.thru hs1939 rfl
        replace HS1914 := HS1914.trans hs1939 hc rfl
        (try simp only [ls0, ls1])
        refine mv_ rfl ?_
        refine st (.bool (decide (t1933 = (Int.tmod (wrap64 (a2)) t1194)))) rfl rfl (xr_bin _ _ _ rfl rfl rfl (B.eql_i64 _ _)) ?_
        refine st (.bool (decide (t1927 = (decide (t1933 = (Int.tmod (wrap64 (a2)) t1194)))))) rfl rfl (xr_bin _ _ _ rfl rfl rfl (B.eql_bool Tryd.underlying4 _ _)) ?_
        refine mv_ rfl ?_
        simp only [ls0, ls1]
        by_cases c1941 : t1927 = (decide (t1933 = (Int.tmod (wrap64 (a2)) t1194)))
        ·rw [if_pos c1941] at H
         (try rw [(decide_eq_true c1941)])
         refine on_guard (guard_on 11 true 184 rfl rfl rfl) ?_
         refine mv_ rfl ?_
         refine on_guard (guard_on 11 true 184 rfl rfl rfl) ?_
         refine mv_ rfl ?_
         refine on_guard (guard_on 11 true 184 rfl rfl rfl) ?_
         refine mv_ rfl ?_
         refine on_guard (guard_on 11 true 184 rfl rfl rfl) ?_
         have HP1942 : Ft C1938_ [0, 11] w1937 (fun w_ => (Kd.ptr 107 k107).K w_ (some (⟨o1427.f0, (⟨(⟨o1427.f1.f0.f0⟩ : S92), (⟨(⟨o1427.f1.f1.f0.f0, o1427.f1.f1.f0.f1⟩ : S94)⟩ : S96)⟩ : S98), o1427.f2, o1427.f3, (⟨t1934⟩ : S105)⟩ : S107)) [.pointer (some ⟨g1428, 0, none⟩)]) := ptr_mk (Ft.more (HX1940.ft) rfl) (k107_mkF _ _ (⟨o1427.f0, (⟨(⟨o1427.f1.f0.f0⟩ : S92), (⟨(⟨o1427.f1.f1.f0.f0, o1427.f1.f1.f0.f1⟩ : S94)⟩ : S96)⟩ : S98), o1427.f2, o1427.f3, (⟨t1934⟩ : S105)⟩ : S107) (Ft.more HJ1917 rfl) HLq1432_4 HLq1432_5)
         obtain ⟨t1943, A1944, H⟩ := bnd H
         refine st_call #[.pointer (some ⟨g1428, 0, none⟩)] rfl rfl Tryd.func25 (by kernel_rfl) rfl rfl (mp_ rfl) ?_
         refine (lattice_Lattice_Top.calls k1923 (.pointer (some ⟨g1428, 0, none⟩)) (some (⟨o1427.f0, (⟨(⟨o1427.f1.f0.f0⟩ : S92), (⟨(⟨o1427.f1.f1.f0.f0, o1427.f1.f1.f0.f1⟩ : S94)⟩ : S96)⟩ : S98), o1427.f2, o1427.f3, (⟨t1934⟩ : S105)⟩ : S107) : Option S107) t1943  (fun z_ => pal [(0, 0), (11, 0)] (C1938_ z_)) w1937 (fun _ => pal_lt rfl _) (Ft.arg HP1942 rfl) A1944).mono ?_
         rintro _ w1946 ⟨C1947, rfl, hs1948⟩
         refine ⟨_, rfl, ?_⟩
         replace hs1948 := Step.lift (U := [(0, 0)]) hs1948 [] rfl rfl
         generalize up C1938_ C1947 w1937.heap.size [(0, 0)] = C1947_ at hs1948
         replace HX1940 := HX1940.thru hs1948 rfl
         replace HJ1917 := HJ1917.thru hs1948 rfl
         replace HG1920 := HG1920.thru hs1948 rfl
         replace HS1914 := HS1914.trans hs1948 hc rfl
         (try simp only [ls0, ls1])
         refine on_guard (guard_on 11 true 184 rfl rfl rfl) ?_
         obtain ⟨⟨t1949, t1950⟩, A1951, H⟩ := bnd H
         (try dsimp only at H)
         refine st_call #[.pointer (some ⟨g1428, 0, none⟩), .int .i64 (Int.tmod (wrap64 (a1)) t1194), .int .i64 t1943] rfl rfl Tryd.func22 (by kernel_rfl) rfl rfl (mp_ rfl) ?_
         refine (lattice_Lattice_Join.calls g1428 vq1432_0 o1427.f0 o1427.f1.f0.f0 o1427.f1.f1.f0.f0 o1427.f1.f1.f0.f1 o1427.f2 o1427.f3 t1934 (Int.tmod (wrap64 (a1)) t1194) t1943 t1949 t1950  (fun z_ => pal [(0, 0), (11, 1)] (C1947_ z_)) w1946 (fun _ => pal_lt rfl _) (Bx.arg HX1940 rfl) (Ft.arg HJ1917 rfl) HLq1432_4 HLq1432_5 A1951).mono ?_
         rintro _ w1953 ⟨C1954, rfl, hs1955, HX1956⟩
         refine ⟨_, rfl, ?_⟩
         replace HX1956 := Bx.res (U := [(0, 0), (1, 11)]) (j := 11) HX1956 hs1955 (by rfl) (by decide) rfl
         replace hs1955 := Step.lift (U := [(0, 0), (1, 11)]) hs1955 [11] rfl rfl
         generalize up C1947_ C1954 w1946.heap.size [(0, 0), (1, 11)] = C1954_ at HX1956 hs1955
         replace HJ1917 := HJ1917.thru hs1955 rfl
         replace HG1920 := HG1920.thru hs1955 rfl
         replace HS1914 := HS1914.trans hs1955 hc rfl
         (try simp only [ls0, ls1])
         refine on_guard (guard_on 11 true 184 rfl rfl rfl) ?_
         refine mv_ rfl ?_
         refine on_guard (guard_on 11 true 184 rfl rfl rfl) ?_
         have HP1957 : Ft C1954_ [0, 11] w1953 (fun w_ => (Kd.ptr 107 k107).K w_ (some (⟨o1427.f0, (⟨(⟨o1427.f1.f0.f0⟩ : S92), (⟨(⟨o1427.f1.f1.f0.f0, o1427.f1.f1.f0.f1⟩ : S94)⟩ : S96)⟩ : S98), o1427.f2, o1427.f3, (⟨t1950⟩ : S105)⟩ : S107)) [.pointer (some ⟨g1428, 0, none⟩)]) := ptr_mk (Ft.more (HX1956.ft) rfl) (k107_mkF _ _ (⟨o1427.f0, (⟨(⟨o1427.f1.f0.f0⟩ : S92), (⟨(⟨o1427.f1.f1.f0.f0, o1427.f1.f1.f0.f1⟩ : S94)⟩ : S96)⟩ : S98), o1427.f2, o1427.f3, (⟨t1950⟩ : S105)⟩ : S107) (Ft.more HJ1917 rfl) HLq1432_4 HLq1432_5)
         obtain ⟨t1958, A1959, H⟩ := bnd H
         refine st_call #[.pointer (some ⟨g1428, 0, none⟩)] rfl rfl Tryd.func25 (by kernel_rfl) rfl rfl (mp_ rfl) ?_
         refine (lattice_Lattice_Top.calls k1923 (.pointer (some ⟨g1428, 0, none⟩)) (some (⟨o1427.f0, (⟨(⟨o1427.f1.f0.f0⟩ : S92), (⟨(⟨o1427.f1.f1.f0.f0, o1427.f1.f1.f0.f1⟩ : S94)⟩ : S96)⟩ : S98), o1427.f2, o1427.f3, (⟨t1950⟩ : S105)⟩ : S107) : Option S107) t1958  (fun z_ => pal [(0, 0), (11, 0)] (C1954_ z_)) w1953 (fun _ => pal_lt rfl _) (Ft.arg HP1957 rfl) A1959).mono ?_
         rintro _ w1961 ⟨C1962, rfl, hs1963⟩
         refine ⟨_, rfl, ?_⟩
         replace hs1963 := Step.lift (U := [(0, 0)]) hs1963 [] rfl rfl
         generalize up C1954_ C1962 w1953.heap.size [(0, 0)] = C1962_ at hs1963
         replace HX1956 := HX1956.thru hs1963 rfl
         replace HJ1917 := HJ1917.thru hs1963 rfl
         replace HG1920 := HG1920.thru hs1963 rfl
         replace HS1914 := HS1914.trans hs1963 hc rfl
         (try simp only [ls0, ls1])
         refine on_guard (guard_on 11 true 184 rfl rfl rfl) ?_
         refine st (.bool (decide (t1949 = t1958))) rfl rfl (xr_bin _ _ _ rfl rfl rfl (B.eql_i64 _ _)) ?_
         refine st (.bool (decide (t1949 = t1958))) rfl rfl (xr_pick true _ rfl rfl rfl) ?_
         refine mv_ rfl ?_
         by_cases c1964 : t1949 = t1958
         ·rw [if_pos c1964] at H
          (try rw [(decide_eq_true c1964)])
          refine on_guard (guard_on 21 true 194 rfl rfl rfl) ?_
          refine mv_ rfl ?_
          simp only [ls0, ls1]
          refine on_guard (guard_on 21 true 194 rfl rfl rfl) ?_
          refine mv_ rfl ?_
          refine on_guard (guard_on 21 true 194 rfl rfl rfl) ?_
          refine mv_ rfl ?_
          refine on_guard (guard_on 21 true 194 rfl rfl rfl) ?_
          have HP1965 : Ft C1962_ [0, 11] w1961 (fun w_ => (Kd.ptr 107 k107).K w_ (some (⟨o1427.f0, (⟨(⟨o1427.f1.f0.f0⟩ : S92), (⟨(⟨o1427.f1.f1.f0.f0, o1427.f1.f1.f0.f1⟩ : S94)⟩ : S96)⟩ : S98), o1427.f2, o1427.f3, (⟨t1950⟩ : S105)⟩ : S107)) [.pointer (some ⟨g1428, 0, none⟩)]) := ptr_mk (Ft.more (HX1956.ft) rfl) (k107_mkF _ _ (⟨o1427.f0, (⟨(⟨o1427.f1.f0.f0⟩ : S92), (⟨(⟨o1427.f1.f1.f0.f0, o1427.f1.f1.f0.f1⟩ : S94)⟩ : S96)⟩ : S98), o1427.f2, o1427.f3, (⟨t1950⟩ : S105)⟩ : S107) (Ft.more HJ1917 rfl) HLq1432_4 HLq1432_5)
          obtain ⟨t1966, A1967, H⟩ := bnd H
          refine st_call #[.pointer (some ⟨g1428, 0, none⟩)] rfl rfl Tryd.func26 (by kernel_rfl) rfl rfl (mp_ rfl) ?_
          refine (lattice_Lattice_Bottom.calls k1923 (.pointer (some ⟨g1428, 0, none⟩)) (some (⟨o1427.f0, (⟨(⟨o1427.f1.f0.f0⟩ : S92), (⟨(⟨o1427.f1.f1.f0.f0, o1427.f1.f1.f0.f1⟩ : S94)⟩ : S96)⟩ : S98), o1427.f2, o1427.f3, (⟨t1950⟩ : S105)⟩ : S107) : Option S107) t1966  (fun z_ => pal [(0, 0), (11, 0)] (C1962_ z_)) w1961 (fun _ => pal_lt rfl _) (Ft.arg HP1965 rfl) A1967).mono ?_
          rintro _ w1969 ⟨C1970, rfl, hs1971⟩
          refine ⟨_, rfl, ?_⟩
          replace hs1971 := Step.lift (U := [(0, 0)]) hs1971 [] rfl rfl
          generalize up C1962_ C1970 w1961.heap.size [(0, 0)] = C1970_ at hs1971
          replace HX1956 := HX1956.thru hs1971 rfl
          replace HJ1917 := HJ1917.thru hs1971 rfl
          replace HG1920 := HG1920.thru hs1971 rfl
          replace HS1914 := HS1914.trans hs1971 hc rfl
          (try simp only [ls0, ls1])
          refine on_guard (guard_on 21 true 194 rfl rfl rfl) ?_
          obtain ⟨⟨t1972, t1973⟩, A1974, H⟩ := bnd H
          (try dsimp only at H)
          refine st_call #[.pointer (some ⟨g1428, 0, none⟩), .int .i64 (Int.tmod (wrap64 (a1)) t1194), .int .i64 t1966] rfl rfl Tryd.func23 (by kernel_rfl) rfl rfl (mp_ rfl) ?_
          refine (lattice_Lattice_Meet.calls g1428 vq1432_0 o1427.f0 o1427.f1.f0.f0 o1427.f1.f1.f0.f0 o1427.f1.f1.f0.f1 o1427.f2 o1427.f3 t1950 (Int.tmod (wrap64 (a1)) t1194) t1966 t1972 t1973  (fun z_ => pal [(0, 0), (11, 1)] (C1970_ z_)) w1969 (fun _ => pal_lt rfl _) (Bx.arg HX1956 rfl) (Ft.arg HJ1917 rfl) HLq1432_4 HLq1432_5 A1974).mono ?_
          rintro _ w1976 ⟨C1977, rfl, hs1978, HX1979⟩
          refine ⟨_, rfl, ?_⟩
          replace HX1979 := Bx.res (U := [(0, 0), (1, 11)]) (j := 11) HX1979 hs1978 (by rfl) (by decide) rfl
          replace hs1978 := Step.lift (U := [(0, 0), (1, 11)]) hs1978 [11] rfl rfl
          generalize up C1970_ C1977 w1969.heap.size [(0, 0), (1, 11)] = C1977_ at HX1979 hs1978
          replace HJ1917 := HJ1917.thru hs1978 rfl
          replace HG1920 := HG1920.thru hs1978 rfl
          replace HS1914 := HS1914.trans hs1978 hc rfl
          (try simp only [ls0, ls1])
          refine on_guard (guard_on 21 true 194 rfl rfl rfl) ?_
          refine mv_ rfl ?_
          refine on_guard (guard_on 21 true 194 rfl rfl rfl) ?_
          have HP1980 : Ft C1977_ [0, 11] w1976 (fun w_ => (Kd.ptr 107 k107).K w_ (some (⟨o1427.f0, (⟨(⟨o1427.f1.f0.f0⟩ : S92), (⟨(⟨o1427.f1.f1.f0.f0, o1427.f1.f1.f0.f1⟩ : S94)⟩ : S96)⟩ : S98), o1427.f2, o1427.f3, (⟨t1973⟩ : S105)⟩ : S107)) [.pointer (some ⟨g1428, 0, none⟩)]) := ptr_mk (Ft.more (HX1979.ft) rfl) (k107_mkF _ _ (⟨o1427.f0, (⟨(⟨o1427.f1.f0.f0⟩ : S92), (⟨(⟨o1427.f1.f1.f0.f0, o1427.f1.f1.f0.f1⟩ : S94)⟩ : S96)⟩ : S98), o1427.f2, o1427.f3, (⟨t1973⟩ : S105)⟩ : S107) (Ft.more HJ1917 rfl) HLq1432_4 HLq1432_5)
          obtain ⟨t1981, A1982, H⟩ := bnd H
          refine st_call #[.pointer (some ⟨g1428, 0, none⟩)] rfl rfl Tryd.func26 (by kernel_rfl) rfl rfl (mp_ rfl) ?_
          refine (lattice_Lattice_Bottom.calls k1923 (.pointer (some ⟨g1428, 0, none⟩)) (some (⟨o1427.f0, (⟨(⟨o1427.f1.f0.f0⟩ : S92), (⟨(⟨o1427.f1.f1.f0.f0, o1427.f1.f1.f0.f1⟩ : S94)⟩ : S96)⟩ : S98), o1427.f2, o1427.f3, (⟨t1973⟩ : S105)⟩ : S107) : Option S107) t1981  (fun z_ => pal [(0, 0), (11, 0)] (C1977_ z_)) w1976 (fun _ => pal_lt rfl _) (Ft.arg HP1980 rfl) A1982).mono ?_
          rintro _ w1984 ⟨C1985, rfl, hs1986⟩
          refine ⟨_, rfl, ?_⟩
          replace hs1986 := Step.lift (U := [(0, 0)]) hs1986 [] rfl rfl
          generalize up C1977_ C1985 w1976.heap.size [(0, 0)] = C1985_ at hs1986
          replace HX1979 := HX1979.thru hs1986 rfl
          replace HJ1917 := HJ1917.thru hs1986 rfl
          replace HG1920 := HG1920.thru hs1986 rfl
          replace HS1914 := HS1914.trans hs1986 hc rfl
          (try simp only [ls0, ls1])
          refine on_guard (guard_on 21 true 194 rfl rfl rfl) ?_
          refine st (.bool (decide (t1972 = t1981))) rfl rfl (xr_bin _ _ _ rfl rfl rfl (B.eql_i64 _ _)) ?_
          refine st (.bool (decide (t1972 = t1981))) rfl rfl (xr_pick true _ rfl rfl rfl) ?_
          refine mv_ rfl ?_
          by_cases c1987 : t1972 = t1981
          ·rw [if_pos c1987] at H
           (try rw [(decide_eq_true c1987)])
           refine on_guard (guard_on 31 true 204 rfl rfl rfl) ?_
           obtain ⟨t1988, A1989, H⟩ := bnd H
           refine st_call #[] rfl rfl Tryd.func14 (by kernel_rfl) rfl rfl (mp_ rfl) ?_
           refine (blazonlaw14_awake.calls k1923 t1988  (fun z_ => pal [(0, 0)] (C1985_ z_)) w1984 (fun _ => pal_lt rfl _) (Ft.arg HG1920 rfl) A1989).mono ?_
           rintro _ w1991 ⟨C1992, rfl, hs1993⟩
           refine ⟨_, rfl, ?_⟩
           replace hs1993 := Step.lift (U := [(0, 0)]) hs1993 [] rfl rfl
           generalize up C1985_ C1992 w1984.heap.size [(0, 0)] = C1992_ at hs1993
           replace HX1979 := HX1979.thru hs1993 rfl
           replace HJ1917 := HJ1917.thru hs1993 rfl
           replace HG1920 := HG1920.thru hs1993 rfl
           replace HS1914 := HS1914.trans hs1993 hc rfl
           (try simp only [ls0, ls1])
           refine st (.bool t1988) rfl rfl (xr_pick true _ rfl rfl rfl) ?_
           refine as_ rfl ?_
           refine wl_end ?_
           (try simp only [ls0, ls1])
           refine hK1926 _ _ ?_
           (try clear hK1926 K1926)
           refine wp_ret ?_
           (try simp only [Exit.inBlock, Exit.then, Exit.noGoto])
           (try simp only [ls0, ls1])
           obtain rfl := Option.some.inj H
           refine bodyPost_ret (results_tmp rfl _ _ _) rfl ?_
           exact ⟨_, rfl, HS1914⟩
          rw [if_neg c1987] at H
          (try rw [(decide_eq_false c1987)])
          refine sk_guard (guard_off 31 true 204 rfl rfl false (by decide) rfl) rfl ?_
          refine st (.bool false) rfl rfl (xr_pick false _ rfl rfl rfl) ?_
          refine as_ rfl ?_
          refine wl_end ?_
          (try simp only [ls0, ls1])
          refine hK1926 _ _ ?_
          (try clear hK1926 K1926)
          refine wp_ret ?_
          (try simp only [Exit.inBlock, Exit.then, Exit.noGoto])
          (try simp only [ls0, ls1])
          obtain rfl := Option.some.inj H
          refine bodyPost_ret (results_tmp rfl _ _ _) rfl ?_
          exact ⟨_, rfl, HS1914⟩
         rw [if_neg c1964] at H
         (try rw [(decide_eq_false c1964)])
         refine sk_guard (guard_off 21 true 194 rfl rfl false (by decide) rfl) rfl ?_
         refine sk_guard (guard_off 21 true 194 rfl rfl false (by decide) rfl) rfl ?_
         refine sk_guard (guard_off 21 true 194 rfl rfl false (by decide) rfl) rfl ?_
         refine sk_guard (guard_off 21 true 194 rfl rfl false (by decide) rfl) rfl ?_
         simp only [ls0, ls1]
         refine sk_guard (guard_off 21 true 194 rfl rfl false (by decide) rfl) rfl ?_
         refine sk_guard (guard_off 21 true 194 rfl rfl false (by decide) rfl) rfl ?_
         refine sk_guard (guard_off 21 true 194 rfl rfl false (by decide) rfl) rfl ?_
         refine sk_guard (guard_off 21 true 194 rfl rfl false (by decide) rfl) rfl ?_
         simp only [ls0, ls1]
         refine st (.bool false) rfl rfl (xr_pick false _ rfl rfl rfl) ?_
         refine mv_ rfl ?_
         refine sk_guard (guard_off 31 true 204 rfl rfl false (by decide) rfl) rfl ?_
         refine st (.bool false) rfl rfl (xr_pick false _ rfl rfl rfl) ?_
         simp only [ls0, ls1]
         refine as_ rfl ?_
         refine wl_end ?_
         (try simp only [ls0, ls1])
         refine hK1926 _ _ ?_
         (try clear hK1926 K1926)
         refine wp_ret ?_
         (try simp only [Exit.inBlock, Exit.then, Exit.noGoto])
         (try simp only [ls0, ls1])
         obtain rfl := Option.some.inj H
         refine bodyPost_ret (results_tmp rfl _ _ _) rfl ?_
         exact ⟨_, rfl, HS1914⟩
        rw [if_neg c1941] at H
        (try rw [(decide_eq_false c1941)])
        refine sk_guard (guard_off 11 true 184 rfl rfl false (by decide) rfl) rfl ?_
        refine sk_guard (guard_off 11 true 184 rfl rfl false (by decide) rfl) rfl ?_
        refine sk_guard (guard_off 11 true 184 rfl rfl false (by decide) rfl) rfl ?_
        refine sk_guard (guard_off 11 true 184 rfl rfl false (by decide) rfl) rfl ?_
        simp only [ls0, ls1]
        refine sk_guard (guard_off 11 true 184 rfl rfl false (by decide) rfl) rfl ?_
        refine sk_guard (guard_off 11 true 184 rfl rfl false (by decide) rfl) rfl ?_
        refine sk_guard (guard_off 11 true 184 rfl rfl false (by decide) rfl) rfl ?_
        refine sk_guard (guard_off 11 true 184 rfl rfl false (by decide) rfl) rfl ?_
        simp only [ls0, ls1]
        refine st (.bool false) rfl rfl (xr_pick false _ rfl rfl rfl) ?_
        refine mv_ rfl ?_
        refine sk_guard (guard_off 21 true 194 rfl rfl false (by decide) rfl) rfl ?_
        refine sk_guard (guard_off 21 true 194 rfl rfl false (by decide) rfl) rfl ?_
        simp only [ls0, ls1]
        refine sk_guard (guard_off 21 true 194 rfl rfl false (by decide) rfl) rfl ?_
        refine sk_guard (guard_off 21 true 194 rfl rfl false (by decide) rfl) rfl ?_
        refine sk_guard (guard_off 21 true 194 rfl rfl false (by decide) rfl) rfl ?_
        refine sk_guard (guard_off 21 true 194 rfl rfl false (by decide) rfl) rfl ?_
        simp only [ls0, ls1]
        refine sk_guard (guard_off 21 true 194 rfl rfl false (by decide) rfl) rfl ?_
        refine sk_guard (guard_off 21 true 194 rfl rfl false (by decide) rfl) rfl ?_
        refine st (.bool false) rfl rfl (xr_pick false _ rfl rfl rfl) ?_
        refine mv_ rfl ?_
        simp only [ls0, ls1]
        refine sk_guard (guard_off 31 true 204 rfl rfl false (by decide) rfl) rfl ?_
        refine st (.bool false) rfl rfl (xr_pick false _ rfl rfl rfl) ?_
        refine as_ rfl ?_
        refine wl_end ?_
        (try simp only [ls0, ls1])
        refine hK1926 _ _ ?_
        (try clear hK1926 K1926)
        refine wp_ret ?_
        (try simp only [Exit.inBlock, Exit.then, Exit.noGoto])
        (try simp only [ls0, ls1])
        obtain rfl := Option.some.inj H
        refine bodyPost_ret (results_tmp rfl _ _ _) rfl ?_
        exact ⟨_, rfl, HS1914⟩
      refine wl_region ?_
      refine mv_ rfl ?_
      refine mv_ rfl ?_
      refine mv_ rfl ?_
      refine mv_ rfl ?_
      simp only [ls0, ls1]
      refine mv_ rfl ?_
      obtain ⟨⟨t1994, t1995⟩, A1996, H⟩ := bnd H
      (try dsimp only at H)
      refine st_call #[.pointer (some ⟨g1428, 0, none⟩), .int .i64 (Int.tmod (wrap64 (a1)) t1194), .int .i64 (Int.tmod (wrap64 (a2)) t1194)] rfl rfl Tryd.func23 (by kernel_rfl) rfl rfl (mp_ rfl) ?_
      refine (lattice_Lattice_Meet.calls g1428 vq1432_0 o1427.f0 o1427.f1.f0.f0 o1427.f1.f1.f0.f0 o1427.f1.f1.f0.f1 o1427.f2 o1427.f3 x1540 (Int.tmod (wrap64 (a1)) t1194) (Int.tmod (wrap64 (a2)) t1194) t1994 t1995  (fun z_ => pal [(0, 0), (11, 1)] (C1534 z_)) w1535 (fun _ => pal_lt rfl _) (Bx.arg HJ1541 rfl) (Ft.arg HJ1539 rfl) HLq1432_4 HLq1432_5 A1996).mono ?_
      rintro _ w1998 ⟨C1999, rfl, hs2000, HX2001⟩
      refine ⟨_, rfl, ?_⟩
      replace HX2001 := Bx.res (U := [(0, 0), (1, 11)]) (j := 11) HX2001 hs2000 (by rfl) (by decide) rfl
      replace hs2000 := Step.lift (U := [(0, 0), (1, 11)]) hs2000 [11] rfl rfl
      generalize up C1534 C1999 w1535.heap.size [(0, 0), (1, 11)] = C1999_ at HX2001 hs2000
      replace HJ1537 := HJ1537.thru hs2000 rfl
      replace HJ1539 := HJ1539.thru hs2000 rfl
      replace HG1542 := HG1542.thru hs2000 rfl
      replace HS1536 := HS1536.trans hs2000 hc rfl
      (try simp only [ls0, ls1])
      obtain ⟨⟨t2002, t2003⟩, A2004, H⟩ := bnd H
      (try dsimp only at H)
      refine st_call #[.pointer (some ⟨g1428, 0, none⟩), .int .i64 (Int.tmod (wrap64 (a1)) t1194), .int .i64 t1994] rfl rfl Tryd.func22 (by kernel_rfl) rfl rfl (mp_ rfl) ?_
      refine (lattice_Lattice_Join.calls g1428 vq1432_0 o1427.f0 o1427.f1.f0.f0 o1427.f1.f1.f0.f0 o1427.f1.f1.f0.f1 o1427.f2 o1427.f3 t1995 (Int.tmod (wrap64 (a1)) t1194) t1994 t2002 t2003  (fun z_ => pal [(0, 0), (11, 1)] (C1999_ z_)) w1998 (fun _ => pal_lt rfl _) (Bx.arg HX2001 rfl) (Ft.arg HJ1539 rfl) HLq1432_4 HLq1432_5 A2004).mono ?_
      rintro _ w2006 ⟨C2007, rfl, hs2008, HX2009⟩
      refine ⟨_, rfl, ?_⟩
      replace HX2009 := Bx.res (U := [(0, 0), (1, 11)]) (j := 11) HX2009 hs2008 (by rfl) (by decide) rfl
      replace hs2008 := Step.lift (U := [(0, 0), (1, 11)]) hs2008 [11] rfl rfl
      generalize up C1999_ C2007 w1998.heap.size [(0, 0), (1, 11)] = C2007_ at HX2009 hs2008
      replace HJ1537 := HJ1537.thru hs2008 rfl
      replace HJ1539 := HJ1539.thru hs2008 rfl
      replace HG1542 := HG1542.thru hs2008 rfl
      replace HS1536 := HS1536.trans hs2008 hc rfl
      (try simp only [ls0, ls1])
      refine mv_ rfl ?_
      refine st (.bool (!decide (t2002 = (Int.tmod (wrap64 (a1)) t1194)))) rfl rfl (xr_bin _ _ _ rfl rfl rfl (B.neq_i64 _ _)) ?_
      refine mv_ rfl ?_
      by_cases c2010 : t2002 = (Int.tmod (wrap64 (a1)) t1194)
      ·rw [if_pos c2010] at H
       (try rw [(decide_eq_true c2010)])
       (try simp only [Bool.not_true, Bool.not_false])
       refine on_guard (guard_on 9 false 122 rfl rfl rfl) ?_
       refine mv_ rfl ?_
       simp only [ls0, ls1]
       refine on_guard (guard_on 9 false 122 rfl rfl rfl) ?_
       refine mv_ rfl ?_
       refine on_guard (guard_on 9 false 122 rfl rfl rfl) ?_
       refine mv_ rfl ?_
       refine on_guard (guard_on 9 false 122 rfl rfl rfl) ?_
       refine mv_ rfl ?_
       refine on_guard (guard_on 9 false 122 rfl rfl rfl) ?_
       refine mv_ rfl ?_
       simp only [ls0, ls1]
       refine on_guard (guard_on 9 false 122 rfl rfl rfl) ?_
       obtain ⟨⟨t2011, t2012⟩, A2013, H⟩ := bnd H
       (try dsimp only at H)
       refine st_call #[.pointer (some ⟨g1428, 0, none⟩), .int .i64 (Int.tmod (wrap64 (a1)) t1194), .int .i64 (Int.tmod (wrap64 (a2)) t1194)] rfl rfl Tryd.func22 (by kernel_rfl) rfl rfl (mp_ rfl) ?_
       refine (lattice_Lattice_Join.calls g1428 vq1432_0 o1427.f0 o1427.f1.f0.f0 o1427.f1.f1.f0.f0 o1427.f1.f1.f0.f1 o1427.f2 o1427.f3 t2003 (Int.tmod (wrap64 (a1)) t1194) (Int.tmod (wrap64 (a2)) t1194) t2011 t2012  (fun z_ => pal [(0, 0), (11, 1)] (C2007_ z_)) w2006 (fun _ => pal_lt rfl _) (Bx.arg HX2009 rfl) (Ft.arg HJ1539 rfl) HLq1432_4 HLq1432_5 A2013).mono ?_
       rintro _ w2015 ⟨C2016, rfl, hs2017, HX2018⟩
       refine ⟨_, rfl, ?_⟩
       replace HX2018 := Bx.res (U := [(0, 0), (1, 11)]) (j := 11) HX2018 hs2017 (by rfl) (by decide) rfl
       replace hs2017 := Step.lift (U := [(0, 0), (1, 11)]) hs2017 [11] rfl rfl
       generalize up C2007_ C2016 w2006.heap.size [(0, 0), (1, 11)] = C2016_ at HX2018 hs2017
       replace HJ1537 := HJ1537.thru hs2017 rfl
       replace HJ1539 := HJ1539.thru hs2017 rfl
       replace HG1542 := HG1542.thru hs2017 rfl
       replace HS1536 := HS1536.trans hs2017 hc rfl
       (try simp only [ls0, ls1])
       refine on_guard (guard_on 9 false 122 rfl rfl rfl) ?_
       obtain ⟨⟨t2019, t2020⟩, A2021, H⟩ := bnd H
       (try dsimp only at H)
       refine st_call #[.pointer (some ⟨g1428, 0, none⟩), .int .i64 (Int.tmod (wrap64 (a1)) t1194), .int .i64 t2011] rfl rfl Tryd.func23 (by kernel_rfl) rfl rfl (mp_ rfl) ?_
       refine (lattice_Lattice_Meet.calls g1428 vq1432_0 o1427.f0 o1427.f1.f0.f0 o1427.f1.f1.f0.f0 o1427.f1.f1.f0.f1 o1427.f2 o1427.f3 t2012 (Int.tmod (wrap64 (a1)) t1194) t2011 t2019 t2020  (fun z_ => pal [(0, 0), (11, 1)] (C2016_ z_)) w2015 (fun _ => pal_lt rfl _) (Bx.arg HX2018 rfl) (Ft.arg HJ1539 rfl) HLq1432_4 HLq1432_5 A2021).mono ?_
       rintro _ w2023 ⟨C2024, rfl, hs2025, HX2026⟩
       refine ⟨_, rfl, ?_⟩
       replace HX2026 := Bx.res (U := [(0, 0), (1, 11)]) (j := 11) HX2026 hs2025 (by rfl) (by decide) rfl
       replace hs2025 := Step.lift (U := [(0, 0), (1, 11)]) hs2025 [11] rfl rfl
       generalize up C2016_ C2024 w2015.heap.size [(0, 0), (1, 11)] = C2024_ at HX2026 hs2025
       replace HJ1537 := HJ1537.thru hs2025 rfl
       replace HJ1539 := HJ1539.thru hs2025 rfl
       replace HG1542 := HG1542.thru hs2025 rfl
       replace HS1536 := HS1536.trans hs2025 hc rfl
       (try simp only [ls0, ls1])
       refine on_guard (guard_on 9 false 122 rfl rfl rfl) ?_
       refine mv_ rfl ?_
       refine on_guard (guard_on 9 false 122 rfl rfl rfl) ?_
       refine st (.bool (!decide (t2019 = (Int.tmod (wrap64 (a1)) t1194)))) rfl rfl (xr_bin _ _ _ rfl rfl rfl (B.neq_i64 _ _)) ?_
       refine st (.bool (!decide (t2019 = (Int.tmod (wrap64 (a1)) t1194)))) rfl rfl (xr_pick false _ rfl rfl rfl) ?_
       refine mv_ rfl ?_
       simp only [ls0, ls1]
       by_cases c2027 : t2019 = (Int.tmod (wrap64 (a1)) t1194)
       ·rw [if_pos c2027] at H
        (try rw [(decide_eq_true c2027)])
        (try simp only [Bool.not_true, Bool.not_false])
        refine on_guard (guard_on 20 false 133 rfl rfl rfl) ?_
        refine mv_ rfl ?_
        refine on_guard (guard_on 20 false 133 rfl rfl rfl) ?_
        refine mv_ rfl ?_
        refine on_guard (guard_on 20 false 133 rfl rfl rfl) ?_
        refine mv_ rfl ?_
        refine on_guard (guard_on 20 false 133 rfl rfl rfl) ?_
        refine mv_ rfl ?_
        simp only [ls0, ls1]
        refine on_guard (guard_on 20 false 133 rfl rfl rfl) ?_
        refine mv_ rfl ?_
        refine on_guard (guard_on 20 false 133 rfl rfl rfl) ?_
        obtain ⟨⟨t2028, t2029⟩, A2030, H⟩ := bnd H
        (try dsimp only at H)
        refine st_call #[.pointer (some ⟨g1428, 0, none⟩), .int .i64 (Int.tmod (wrap64 (a2)) t1194), .int .i64 (Int.tmod (wrap64 (a3)) t1194)] rfl rfl Tryd.func22 (by kernel_rfl) rfl rfl (mp_ rfl) ?_
        refine (lattice_Lattice_Join.calls g1428 vq1432_0 o1427.f0 o1427.f1.f0.f0 o1427.f1.f1.f0.f0 o1427.f1.f1.f0.f1 o1427.f2 o1427.f3 t2020 (Int.tmod (wrap64 (a2)) t1194) (Int.tmod (wrap64 (a3)) t1194) t2028 t2029  (fun z_ => pal [(0, 0), (11, 1)] (C2024_ z_)) w2023 (fun _ => pal_lt rfl _) (Bx.arg HX2026 rfl) (Ft.arg HJ1539 rfl) HLq1432_4 HLq1432_5 A2030).mono ?_
        rintro _ w2032 ⟨C2033, rfl, hs2034, HX2035⟩
        refine ⟨_, rfl, ?_⟩
        replace HX2035 := Bx.res (U := [(0, 0), (1, 11)]) (j := 11) HX2035 hs2034 (by rfl) (by decide) rfl
        replace hs2034 := Step.lift (U := [(0, 0), (1, 11)]) hs2034 [11] rfl rfl
        generalize up C2024_ C2033 w2023.heap.size [(0, 0), (1, 11)] = C2033_ at HX2035 hs2034
        replace HJ1537 := HJ1537.thru hs2034 rfl
        replace HJ1539 := HJ1539.thru hs2034 rfl
        replace HG1542 := HG1542.thru hs2034 rfl
        replace HS1536 := HS1536.trans hs2034 hc rfl
        (try simp only [ls0, ls1])
        refine on_guard (guard_on 20 false 133 rfl rfl rfl) ?_
        obtain ⟨⟨t2036, t2037⟩, A2038, H⟩ := bnd H
        (try dsimp only at H)
        refine st_call #[.pointer (some ⟨g1428, 0, none⟩), .int .i64 (Int.tmod (wrap64 (a1)) t1194), .int .i64 t2028] rfl rfl Tryd.func23 (by kernel_rfl) rfl rfl (mp_ rfl) ?_
        refine (lattice_Lattice_Meet.calls g1428 vq1432_0 o1427.f0 o1427.f1.f0.f0 o1427.f1.f1.f0.f0 o1427.f1.f1.f0.f1 o1427.f2 o1427.f3 t2029 (Int.tmod (wrap64 (a1)) t1194) t2028 t2036 t2037  (fun z_ => pal [(0, 0), (11, 1)] (C2033_ z_)) w2032 (fun _ => pal_lt rfl _) (Bx.arg HX2035 rfl) (Ft.arg HJ1539 rfl) HLq1432_4 HLq1432_5 A2038).mono ?_
        rintro _ w2040 ⟨C2041, rfl, hs2042, HX2043⟩
        refine ⟨_, rfl, ?_⟩
        replace HX2043 := Bx.res (U := [(0, 0), (1, 11)]) (j := 11) HX2043 hs2042 (by rfl) (by decide) rfl
        replace hs2042 := Step.lift (U := [(0, 0), (1, 11)]) hs2042 [11] rfl rfl
        generalize up C2033_ C2041 w2032.heap.size [(0, 0), (1, 11)] = C2041_ at HX2043 hs2042
        replace HJ1537 := HJ1537.thru hs2042 rfl
        replace HJ1539 := HJ1539.thru hs2042 rfl
        replace HG1542 := HG1542.thru hs2042 rfl
        replace HS1536 := HS1536.trans hs2042 hc rfl
        (try simp only [ls0, ls1])
        refine on_guard (guard_on 20 false 133 rfl rfl rfl) ?_
        refine mv_ rfl ?_
        refine on_guard (guard_on 20 false 133 rfl rfl rfl) ?_
        refine mv_ rfl ?_
        refine on_guard (guard_on 20 false 133 rfl rfl rfl) ?_
        refine mv_ rfl ?_
        refine on_guard (guard_on 20 false 133 rfl rfl rfl) ?_
        refine mv_ rfl ?_
        simp only [ls0, ls1]
        refine on_guard (guard_on 20 false 133 rfl rfl rfl) ?_
        obtain ⟨⟨t2044, t2045⟩, A2046, H⟩ := bnd H
        (try dsimp only at H)
        refine st_call #[.pointer (some ⟨g1428, 0, none⟩), .int .i64 (Int.tmod (wrap64 (a1)) t1194), .int .i64 (Int.tmod (wrap64 (a2)) t1194)] rfl rfl Tryd.func23 (by kernel_rfl) rfl rfl (mp_ rfl) ?_
        refine (lattice_Lattice_Meet.calls g1428 vq1432_0 o1427.f0 o1427.f1.f0.f0 o1427.f1.f1.f0.f0 o1427.f1.f1.f0.f1 o1427.f2 o1427.f3 t2037 (Int.tmod (wrap64 (a1)) t1194) (Int.tmod (wrap64 (a2)) t1194) t2044 t2045  (fun z_ => pal [(0, 0), (11, 1)] (C2041_ z_)) w2040 (fun _ => pal_lt rfl _) (Bx.arg HX2043 rfl) (Ft.arg HJ1539 rfl) HLq1432_4 HLq1432_5 A2046).mono ?_
        rintro _ w2048 ⟨C2049, rfl, hs2050, HX2051⟩
        refine ⟨_, rfl, ?_⟩
        replace HX2051 := Bx.res (U := [(0, 0), (1, 11)]) (j := 11) HX2051 hs2050 (by rfl) (by decide) rfl
        replace hs2050 := Step.lift (U := [(0, 0), (1, 11)]) hs2050 [11] rfl rfl
        generalize up C2041_ C2049 w2040.heap.size [(0, 0), (1, 11)] = C2049_ at HX2051 hs2050
        replace HJ1537 := HJ1537.thru hs2050 rfl
        replace HJ1539 := HJ1539.thru hs2050 rfl
        replace HG1542 := HG1542.thru hs2050 rfl
        replace HS1536 := HS1536.trans hs2050 hc rfl
        (try simp only [ls0, ls1])
        refine on_guard (guard_on 20 false 133 rfl rfl rfl) ?_
        refine mv_ rfl ?_
        refine on_guard (guard_on 20 false 133 rfl rfl rfl) ?_
        refine mv_ rfl ?_
        refine on_guard (guard_on 20 false 133 rfl rfl rfl) ?_
        refine mv_ rfl ?_
        refine on_guard (guard_on 20 false 133 rfl rfl rfl) ?_
        obtain ⟨⟨t2052, t2053⟩, A2054, H⟩ := bnd H
        (try dsimp only at H)
        refine st_call #[.pointer (some ⟨g1428, 0, none⟩), .int .i64 (Int.tmod (wrap64 (a1)) t1194), .int .i64 (Int.tmod (wrap64 (a3)) t1194)] rfl rfl Tryd.func23 (by kernel_rfl) rfl rfl (mp_ rfl) ?_
        refine (lattice_Lattice_Meet.calls g1428 vq1432_0 o1427.f0 o1427.f1.f0.f0 o1427.f1.f1.f0.f0 o1427.f1.f1.f0.f1 o1427.f2 o1427.f3 t2045 (Int.tmod (wrap64 (a1)) t1194) (Int.tmod (wrap64 (a3)) t1194) t2052 t2053  (fun z_ => pal [(0, 0), (11, 1)] (C2049_ z_)) w2048 (fun _ => pal_lt rfl _) (Bx.arg HX2051 rfl) (Ft.arg HJ1539 rfl) HLq1432_4 HLq1432_5 A2054).mono ?_
        rintro _ w2056 ⟨C2057, rfl, hs2058, HX2059⟩
        refine ⟨_, rfl, ?_⟩
        replace HX2059 := Bx.res (U := [(0, 0), (1, 11)]) (j := 11) HX2059 hs2058 (by rfl) (by decide) rfl
        replace hs2058 := Step.lift (U := [(0, 0), (1, 11)]) hs2058 [11] rfl rfl
        generalize up C2049_ C2057 w2048.heap.size [(0, 0), (1, 11)] = C2057_ at HX2059 hs2058
        replace HJ1537 := HJ1537.thru hs2058 rfl
        replace HJ1539 := HJ1539.thru hs2058 rfl
        replace HG1542 := HG1542.thru hs2058 rfl
        replace HS1536 := HS1536.trans hs2058 hc rfl
        (try simp only [ls0, ls1])
        refine on_guard (guard_on 20 false 133 rfl rfl rfl) ?_
        obtain ⟨⟨t2060, t2061⟩, A2062, H⟩ := bnd H
        (try dsimp only at H)
        refine st_call #[.pointer (some ⟨g1428, 0, none⟩), .int .i64 t2044, .int .i64 t2052] rfl rfl Tryd.func22 (by kernel_rfl) rfl rfl (mp_ rfl) ?_
        refine (lattice_Lattice_Join.calls g1428 vq1432_0 o1427.f0 o1427.f1.f0.f0 o1427.f1.f1.f0.f0 o1427.f1.f1.f0.f1 o1427.f2 o1427.f3 t2053 t2044 t2052 t2060 t2061  (fun z_ => pal [(0, 0), (11, 1)] (C2057_ z_)) w2056 (fun _ => pal_lt rfl _) (Bx.arg HX2059 rfl) (Ft.arg HJ1539 rfl) HLq1432_4 HLq1432_5 A2062).mono ?_
        rintro _ w2064 ⟨C2065, rfl, hs2066, HX2067⟩
        refine ⟨_, rfl, ?_⟩
        replace HX2067 := Bx.res (U := [(0, 0), (1, 11)]) (j := 11) HX2067 hs2066 (by rfl) (by decide) rfl
        replace hs2066 := Step.lift (U := [(0, 0), (1, 11)]) hs2066 [11] rfl rfl
        generalize up C2057_ C2065 w2056.heap.size [(0, 0), (1, 11)] = C2065_ at HX2067 hs2066
        replace HJ1537 := HJ1537.thru hs2066 rfl
        replace HJ1539 := HJ1539.thru hs2066 rfl
        replace HG1542 := HG1542.thru hs2066 rfl
        replace HS1536 := HS1536.trans hs2066 hc rfl
        (try simp only [ls0, ls1])
        refine on_guard (guard_on 20 false 133 rfl rfl rfl) ?_
        refine st (.bool (!decide (t2036 = t2060))) rfl rfl (xr_bin _ _ _ rfl rfl rfl (B.neq_i64 _ _)) ?_
        refine st (.bool (!decide (t2036 = t2060))) rfl rfl (xr_pick false _ rfl rfl rfl) ?_
        refine mv_ rfl ?_
        by_cases c2068 : t2036 = t2060
        ·rw [if_pos c2068] at H
         (try rw [(decide_eq_true c2068)])
         (try simp only [Bool.not_true, Bool.not_false])
         refine on_guard (guard_on 40 false 153 rfl rfl rfl) ?_
         refine mv_ rfl ?_
         simp only [ls0, ls1]
         refine on_guard (guard_on 40 false 153 rfl rfl rfl) ?_
         refine mv_ rfl ?_
         refine on_guard (guard_on 40 false 153 rfl rfl rfl) ?_
         refine mv_ rfl ?_
         refine on_guard (guard_on 40 false 153 rfl rfl rfl) ?_
         refine mv_ rfl ?_
         refine on_guard (guard_on 40 false 153 rfl rfl rfl) ?_
         refine mv_ rfl ?_
         simp only [ls0, ls1]
         refine on_guard (guard_on 40 false 153 rfl rfl rfl) ?_
         obtain ⟨⟨t2069, t2070⟩, A2071, H⟩ := bnd H
         (try dsimp only at H)
         refine st_call #[.pointer (some ⟨g1428, 0, none⟩), .int .i64 (Int.tmod (wrap64 (a2)) t1194), .int .i64 (Int.tmod (wrap64 (a3)) t1194)] rfl rfl Tryd.func23 (by kernel_rfl) rfl rfl (mp_ rfl) ?_
         refine (lattice_Lattice_Meet.calls g1428 vq1432_0 o1427.f0 o1427.f1.f0.f0 o1427.f1.f1.f0.f0 o1427.f1.f1.f0.f1 o1427.f2 o1427.f3 t2061 (Int.tmod (wrap64 (a2)) t1194) (Int.tmod (wrap64 (a3)) t1194) t2069 t2070  (fun z_ => pal [(0, 0), (11, 1)] (C2065_ z_)) w2064 (fun _ => pal_lt rfl _) (Bx.arg HX2067 rfl) (Ft.arg HJ1539 rfl) HLq1432_4 HLq1432_5 A2071).mono ?_
         rintro _ w2073 ⟨C2074, rfl, hs2075, HX2076⟩
         refine ⟨_, rfl, ?_⟩
         replace HX2076 := Bx.res (U := [(0, 0), (1, 11)]) (j := 11) HX2076 hs2075 (by rfl) (by decide) rfl
         replace hs2075 := Step.lift (U := [(0, 0), (1, 11)]) hs2075 [11] rfl rfl
         generalize up C2065_ C2074 w2064.heap.size [(0, 0), (1, 11)] = C2074_ at HX2076 hs2075
         replace HJ1537 := HJ1537.thru hs2075 rfl
         replace HJ1539 := HJ1539.thru hs2075 rfl
         replace HG1542 := HG1542.thru hs2075 rfl
         replace HS1536 := HS1536.trans hs2075 hc rfl
         (try simp only [ls0, ls1])
         refine on_guard (guard_on 40 false 153 rfl rfl rfl) ?_
         obtain ⟨⟨t2077, t2078⟩, A2079, H⟩ := bnd H
         (try dsimp only at H)
         refine st_call #[.pointer (some ⟨g1428, 0, none⟩), .int .i64 (Int.tmod (wrap64 (a1)) t1194), .int .i64 t2069] rfl rfl Tryd.func22 (by kernel_rfl) rfl rfl (mp_ rfl) ?_
         refine (lattice_Lattice_Join.calls g1428 vq1432_0 o1427.f0 o1427.f1.f0.f0 o1427.f1.f1.f0.f0 o1427.f1.f1.f0.f1 o1427.f2 o1427.f3 t2070 (Int.tmod (wrap64 (a1)) t1194) t2069 t2077 t2078  (fun z_ => pal [(0, 0), (11, 1)] (C2074_ z_)) w2073 (fun _ => pal_lt rfl _) (Bx.arg HX2076 rfl) (Ft.arg HJ1539 rfl) HLq1432_4 HLq1432_5 A2079).mono ?_
         rintro _ w2081 ⟨C2082, rfl, hs2083, HX2084⟩
         refine ⟨_, rfl, ?_⟩
         replace HX2084 := Bx.res (U := [(0, 0), (1, 11)]) (j := 11) HX2084 hs2083 (by rfl) (by decide) rfl
         replace hs2083 := Step.lift (U := [(0, 0), (1, 11)]) hs2083 [11] rfl rfl
         generalize up C2074_ C2082 w2073.heap.size [(0, 0), (1, 11)] = C2082_ at HX2084 hs2083
         replace HJ1537 := HJ1537.thru hs2083 rfl
         replace HJ1539 := HJ1539.thru hs2083 rfl
         replace HG1542 := HG1542.thru hs2083 rfl
         replace HS1536 := HS1536.trans hs2083 hc rfl
         (try simp only [ls0, ls1])
         refine on_guard (guard_on 40 false 153 rfl rfl rfl) ?_
         refine mv_ rfl ?_
         refine on_guard (guard_on 40 false 153 rfl rfl rfl) ?_
         refine mv_ rfl ?_
         refine on_guard (guard_on 40 false 153 rfl rfl rfl) ?_
         refine mv_ rfl ?_
         refine on_guard (guard_on 40 false 153 rfl rfl rfl) ?_
         refine mv_ rfl ?_
         simp only [ls0, ls1]
         refine on_guard (guard_on 40 false 153 rfl rfl rfl) ?_
         obtain ⟨⟨t2085, t2086⟩, A2087, H⟩ := bnd H
         (try dsimp only at H)
         refine st_call #[.pointer (some ⟨g1428, 0, none⟩), .int .i64 (Int.tmod (wrap64 (a1)) t1194), .int .i64 (Int.tmod (wrap64 (a2)) t1194)] rfl rfl Tryd.func22 (by kernel_rfl) rfl rfl (mp_ rfl) ?_
         refine (lattice_Lattice_Join.calls g1428 vq1432_0 o1427.f0 o1427.f1.f0.f0 o1427.f1.f1.f0.f0 o1427.f1.f1.f0.f1 o1427.f2 o1427.f3 t2078 (Int.tmod (wrap64 (a1)) t1194) (Int.tmod (wrap64 (a2)) t1194) t2085 t2086  (fun z_ => pal [(0, 0), (11, 1)] (C2082_ z_)) w2081 (fun _ => pal_lt rfl _) (Bx.arg HX2084 rfl) (Ft.arg HJ1539 rfl) HLq1432_4 HLq1432_5 A2087).mono ?_
         rintro _ w2089 ⟨C2090, rfl, hs2091, HX2092⟩
         refine ⟨_, rfl, ?_⟩
         replace HX2092 := Bx.res (U := [(0, 0), (1, 11)]) (j := 11) HX2092 hs2091 (by rfl) (by decide) rfl
         replace hs2091 := Step.lift (U := [(0, 0), (1, 11)]) hs2091 [11] rfl rfl
         generalize up C2082_ C2090 w2081.heap.size [(0, 0), (1, 11)] = C2090_ at HX2092 hs2091
         replace HJ1537 := HJ1537.thru hs2091 rfl
         replace HJ1539 := HJ1539.thru hs2091 rfl
         replace HG1542 := HG1542.thru hs2091 rfl
         replace HS1536 := HS1536.trans hs2091 hc rfl
         (try simp only [ls0, ls1])
         refine on_guard (guard_on 40 false 153 rfl rfl rfl) ?_
         refine mv_ rfl ?_
         refine on_guard (guard_on 40 false 153 rfl rfl rfl) ?_
         refine mv_ rfl ?_
         refine on_guard (guard_on 40 false 153 rfl rfl rfl) ?_
         refine mv_ rfl ?_
         refine on_guard (guard_on 40 false 153 rfl rfl rfl) ?_
         obtain ⟨⟨t2093, t2094⟩, A2095, H⟩ := bnd H
         (try dsimp only at H)
         refine st_call #[.pointer (some ⟨g1428, 0, none⟩), .int .i64 (Int.tmod (wrap64 (a1)) t1194), .int .i64 (Int.tmod (wrap64 (a3)) t1194)] rfl rfl Tryd.func22 (by kernel_rfl) rfl rfl (mp_ rfl) ?_
         refine (lattice_Lattice_Join.calls g1428 vq1432_0 o1427.f0 o1427.f1.f0.f0 o1427.f1.f1.f0.f0 o1427.f1.f1.f0.f1 o1427.f2 o1427.f3 t2086 (Int.tmod (wrap64 (a1)) t1194) (Int.tmod (wrap64 (a3)) t1194) t2093 t2094  (fun z_ => pal [(0, 0), (11, 1)] (C2090_ z_)) w2089 (fun _ => pal_lt rfl _) (Bx.arg HX2092 rfl) (Ft.arg HJ1539 rfl) HLq1432_4 HLq1432_5 A2095).mono ?_
         rintro _ w2097 ⟨C2098, rfl, hs2099, HX2100⟩
         refine ⟨_, rfl, ?_⟩
         replace HX2100 := Bx.res (U := [(0, 0), (1, 11)]) (j := 11) HX2100 hs2099 (by rfl) (by decide) rfl
         replace hs2099 := Step.lift (U := [(0, 0), (1, 11)]) hs2099 [11] rfl rfl
         generalize up C2090_ C2098 w2089.heap.size [(0, 0), (1, 11)] = C2098_ at HX2100 hs2099
         replace HJ1537 := HJ1537.thru hs2099 rfl
         replace HJ1539 := HJ1539.thru hs2099 rfl
         replace HG1542 := HG1542.thru hs2099 rfl
         replace HS1536 := HS1536.trans hs2099 hc rfl
         (try simp only [ls0, ls1])
         refine on_guard (guard_on 40 false 153 rfl rfl rfl) ?_
         obtain ⟨⟨t2101, t2102⟩, A2103, H⟩ := bnd H
         (try dsimp only at H)
         refine st_call #[.pointer (some ⟨g1428, 0, none⟩), .int .i64 t2085, .int .i64 t2093] rfl rfl Tryd.func23 (by kernel_rfl) rfl rfl (mp_ rfl) ?_
         refine (lattice_Lattice_Meet.calls g1428 vq1432_0 o1427.f0 o1427.f1.f0.f0 o1427.f1.f1.f0.f0 o1427.f1.f1.f0.f1 o1427.f2 o1427.f3 t2094 t2085 t2093 t2101 t2102  (fun z_ => pal [(0, 0), (11, 1)] (C2098_ z_)) w2097 (fun _ => pal_lt rfl _) (Bx.arg HX2100 rfl) (Ft.arg HJ1539 rfl) HLq1432_4 HLq1432_5 A2103).mono ?_
         rintro _ w2105 ⟨C2106, rfl, hs2107, HX2108⟩
         refine ⟨_, rfl, ?_⟩
         replace HX2108 := Bx.res (U := [(0, 0), (1, 11)]) (j := 11) HX2108 hs2107 (by rfl) (by decide) rfl
         replace hs2107 := Step.lift (U := [(0, 0), (1, 11)]) hs2107 [11] rfl rfl
         generalize up C2098_ C2106 w2097.heap.size [(0, 0), (1, 11)] = C2106_ at HX2108 hs2107
         replace HJ1537 := HJ1537.thru hs2107 rfl
         replace HJ1539 := HJ1539.thru hs2107 rfl
         replace HG1542 := HG1542.thru hs2107 rfl
         replace HS1536 := HS1536.trans hs2107 hc rfl
         (try simp only [ls0, ls1])
         refine on_guard (guard_on 40 false 153 rfl rfl rfl) ?_
         refine st (.bool (!decide (t2077 = t2101))) rfl rfl (xr_bin _ _ _ rfl rfl rfl (B.neq_i64 _ _)) ?_
         refine st (.bool (!decide (t2077 = t2101))) rfl rfl (xr_pick false _ rfl rfl rfl) ?_
         refine wl_end ?_
         (try simp only [ls0, ls1])
         exact jmp (fun g_ => hj1911 _ _ _ (!decide (t2077 = t2101)) (t2102) g_ HS1536 (by omega) HJ1537 HJ1539 HX2108 HG1542 H) rfl
        rw [if_neg c2068] at H
        (try rw [(decide_eq_false c2068)])
        (try simp only [Bool.not_true, Bool.not_false])
        refine sk_guard (guard_off 40 false 153 rfl rfl true (by decide) rfl) rfl ?_
        refine sk_guard (guard_off 40 false 153 rfl rfl true (by decide) rfl) rfl ?_
        refine sk_guard (guard_off 40 false 153 rfl rfl true (by decide) rfl) rfl ?_
        refine sk_guard (guard_off 40 false 153 rfl rfl true (by decide) rfl) rfl ?_
        simp only [ls0, ls1]
        refine sk_guard (guard_off 40 false 153 rfl rfl true (by decide) rfl) rfl ?_
        refine sk_guard (guard_off 40 false 153 rfl rfl true (by decide) rfl) rfl ?_
        refine sk_guard (guard_off 40 false 153 rfl rfl true (by decide) rfl) rfl ?_
        refine sk_guard (guard_off 40 false 153 rfl rfl true (by decide) rfl) rfl ?_
        simp only [ls0, ls1]
        refine sk_guard (guard_off 40 false 153 rfl rfl true (by decide) rfl) rfl ?_
        refine sk_guard (guard_off 40 false 153 rfl rfl true (by decide) rfl) rfl ?_
        refine sk_guard (guard_off 40 false 153 rfl rfl true (by decide) rfl) rfl ?_
        refine sk_guard (guard_off 40 false 153 rfl rfl true (by decide) rfl) rfl ?_
        simp only [ls0, ls1]
        refine sk_guard (guard_off 40 false 153 rfl rfl true (by decide) rfl) rfl ?_
        refine sk_guard (guard_off 40 false 153 rfl rfl true (by decide) rfl) rfl ?_
        refine sk_guard (guard_off 40 false 153 rfl rfl true (by decide) rfl) rfl ?_
        refine sk_guard (guard_off 40 false 153 rfl rfl true (by decide) rfl) rfl ?_
        simp only [ls0, ls1]
        refine sk_guard (guard_off 40 false 153 rfl rfl true (by decide) rfl) rfl ?_
        refine sk_guard (guard_off 40 false 153 rfl rfl true (by decide) rfl) rfl ?_
        refine st (.bool true) rfl rfl (xr_pick true _ rfl rfl rfl) ?_
        refine wl_end ?_
        (try simp only [ls0, ls1])
        exact jmp (fun g_ => hj1911 _ _ _ (true) (t2061) g_ HS1536 (by omega) HJ1537 HJ1539 HX2067 HG1542 H) rfl
       rw [if_neg c2027] at H
       (try rw [(decide_eq_false c2027)])
       (try simp only [Bool.not_true, Bool.not_false])
       refine sk_guard (guard_off 20 false 133 rfl rfl true (by decide) rfl) rfl ?_
       refine sk_guard (guard_off 20 false 133 rfl rfl true (by decide) rfl) rfl ?_
       refine sk_guard (guard_off 20 false 133 rfl rfl true (by decide) rfl) rfl ?_
       refine sk_guard (guard_off 20 false 133 rfl rfl true (by decide) rfl) rfl ?_
       simp only [ls0, ls1]
       refine sk_guard (guard_off 20 false 133 rfl rfl true (by decide) rfl) rfl ?_
       refine sk_guard (guard_off 20 false 133 rfl rfl true (by decide) rfl) rfl ?_
       refine sk_guard (guard_off 20 false 133 rfl rfl true (by decide) rfl) rfl ?_
       refine sk_guard (guard_off 20 false 133 rfl rfl true (by decide) rfl) rfl ?_
       simp only [ls0, ls1]
       refine sk_guard (guard_off 20 false 133 rfl rfl true (by decide) rfl) rfl ?_
       refine sk_guard (guard_off 20 false 133 rfl rfl true (by decide) rfl) rfl ?_
       refine sk_guard (guard_off 20 false 133 rfl rfl true (by decide) rfl) rfl ?_
       refine sk_guard (guard_off 20 false 133 rfl rfl true (by decide) rfl) rfl ?_
       simp only [ls0, ls1]
       refine sk_guard (guard_off 20 false 133 rfl rfl true (by decide) rfl) rfl ?_
       refine sk_guard (guard_off 20 false 133 rfl rfl true (by decide) rfl) rfl ?_
       refine sk_guard (guard_off 20 false 133 rfl rfl true (by decide) rfl) rfl ?_
       refine sk_guard (guard_off 20 false 133 rfl rfl true (by decide) rfl) rfl ?_
       simp only [ls0, ls1]
       refine sk_guard (guard_off 20 false 133 rfl rfl true (by decide) rfl) rfl ?_
       refine sk_guard (guard_off 20 false 133 rfl rfl true (by decide) rfl) rfl ?_
       refine st (.bool true) rfl rfl (xr_pick true _ rfl rfl rfl) ?_
       refine mv_ rfl ?_
       simp only [ls0, ls1]
       refine sk_guard (guard_off 40 false 153 rfl rfl true (by decide) rfl) rfl ?_
       refine sk_guard (guard_off 40 false 153 rfl rfl true (by decide) rfl) rfl ?_
       refine sk_guard (guard_off 40 false 153 rfl rfl true (by decide) rfl) rfl ?_
       refine sk_guard (guard_off 40 false 153 rfl rfl true (by decide) rfl) rfl ?_
       simp only [ls0, ls1]
       refine sk_guard (guard_off 40 false 153 rfl rfl true (by decide) rfl) rfl ?_
       refine sk_guard (guard_off 40 false 153 rfl rfl true (by decide) rfl) rfl ?_
       refine sk_guard (guard_off 40 false 153 rfl rfl true (by decide) rfl) rfl ?_
       refine sk_guard (guard_off 40 false 153 rfl rfl true (by decide) rfl) rfl ?_
       simp only [ls0, ls1]
       refine sk_guard (guard_off 40 false 153 rfl rfl true (by decide) rfl) rfl ?_
       refine sk_guard (guard_off 40 false 153 rfl rfl true (by decide) rfl) rfl ?_
       refine sk_guard (guard_off 40 false 153 rfl rfl true (by decide) rfl) rfl ?_
       refine sk_guard (guard_off 40 false 153 rfl rfl true (by decide) rfl) rfl ?_
       simp only [ls0, ls1]
       refine sk_guard (guard_off 40 false 153 rfl rfl true (by decide) rfl) rfl ?_
       refine sk_guard (guard_off 40 false 153 rfl rfl true (by decide) rfl) rfl ?_
       refine sk_guard (guard_off 40 false 153 rfl rfl true (by decide) rfl) rfl ?_
       refine sk_guard (guard_off 40 false 153 rfl rfl true (by decide) rfl) rfl ?_
       simp only [ls0, ls1]
       refine sk_guard (guard_off 40 false 153 rfl rfl true (by decide) rfl) rfl ?_
       refine sk_guard (guard_off 40 false 153 rfl rfl true (by decide) rfl) rfl ?_
       refine st (.bool true) rfl rfl (xr_pick true _ rfl rfl rfl) ?_
       refine wl_end ?_
       (try simp only [ls0, ls1])
       exact jmp (fun g_ => hj1911 _ _ _ (true) (t2020) g_ HS1536 (by omega) HJ1537 HJ1539 HX2026 HG1542 H) rfl
      rw [if_neg c2010] at H
      (try rw [(decide_eq_false c2010)])
      (try simp only [Bool.not_true, Bool.not_false])
      refine sk_guard (guard_off 9 false 122 rfl rfl true (by decide) rfl) rfl ?_
      refine sk_guard (guard_off 9 false 122 rfl rfl true (by decide) rfl) rfl ?_
      refine sk_guard (guard_off 9 false 122 rfl rfl true (by decide) rfl) rfl ?_
      refine sk_guard (guard_off 9 false 122 rfl rfl true (by decide) rfl) rfl ?_
      simp only [ls0, ls1]
      refine sk_guard (guard_off 9 false 122 rfl rfl true (by decide) rfl) rfl ?_
      refine sk_guard (guard_off 9 false 122 rfl rfl true (by decide) rfl) rfl ?_
      refine sk_guard (guard_off 9 false 122 rfl rfl true (by decide) rfl) rfl ?_
      refine sk_guard (guard_off 9 false 122 rfl rfl true (by decide) rfl) rfl ?_
      simp only [ls0, ls1]
      refine sk_guard (guard_off 9 false 122 rfl rfl true (by decide) rfl) rfl ?_
      refine st (.bool true) rfl rfl (xr_pick true _ rfl rfl rfl) ?_
      refine mv_ rfl ?_
      refine sk_guard (guard_off 20 false 133 rfl rfl true (by decide) rfl) rfl ?_
      simp only [ls0, ls1]
      refine sk_guard (guard_off 20 false 133 rfl rfl true (by decide) rfl) rfl ?_
      refine sk_guard (guard_off 20 false 133 rfl rfl true (by decide) rfl) rfl ?_
      refine sk_guard (guard_off 20 false 133 rfl rfl true (by decide) rfl) rfl ?_
      refine sk_guard (guard_off 20 false 133 rfl rfl true (by decide) rfl) rfl ?_
      simp only [ls0, ls1]
      refine sk_guard (guard_off 20 false 133 rfl rfl true (by decide) rfl) rfl ?_
      refine sk_guard (guard_off 20 false 133 rfl rfl true (by decide) rfl) rfl ?_
      refine sk_guard (guard_off 20 false 133 rfl rfl true (by decide) rfl) rfl ?_
      refine sk_guard (guard_off 20 false 133 rfl rfl true (by decide) rfl) rfl ?_
      simp only [ls0, ls1]
      refine sk_guard (guard_off 20 false 133 rfl rfl true (by decide) rfl) rfl ?_
      refine sk_guard (guard_off 20 false 133 rfl rfl true (by decide) rfl) rfl ?_
      refine sk_guard (guard_off 20 false 133 rfl rfl true (by decide) rfl) rfl ?_
      refine sk_guard (guard_off 20 false 133 rfl rfl true (by decide) rfl) rfl ?_
      simp only [ls0, ls1]
      refine sk_guard (guard_off 20 false 133 rfl rfl true (by decide) rfl) rfl ?_
      refine sk_guard (guard_off 20 false 133 rfl rfl true (by decide) rfl) rfl ?_
      refine sk_guard (guard_off 20 false 133 rfl rfl true (by decide) rfl) rfl ?_
      refine sk_guard (guard_off 20 false 133 rfl rfl true (by decide) rfl) rfl ?_
      simp only [ls0, ls1]
      refine sk_guard (guard_off 20 false 133 rfl rfl true (by decide) rfl) rfl ?_
      refine st (.bool true) rfl rfl (xr_pick true _ rfl rfl rfl) ?_
      refine mv_ rfl ?_
      refine sk_guard (guard_off 40 false 153 rfl rfl true (by decide) rfl) rfl ?_
      simp only [ls0, ls1]
      refine sk_guard (guard_off 40 false 153 rfl rfl true (by decide) rfl) rfl ?_
      refine sk_guard (guard_off 40 false 153 rfl rfl true (by decide) rfl) rfl ?_
      refine sk_guard (guard_off 40 false 153 rfl rfl true (by decide) rfl) rfl ?_
      refine sk_guard (guard_off 40 false 153 rfl rfl true (by decide) rfl) rfl ?_
      simp only [ls0, ls1]
      refine sk_guard (guard_off 40 false 153 rfl rfl true (by decide) rfl) rfl ?_
      refine sk_guard (guard_off 40 false 153 rfl rfl true (by decide) rfl) rfl ?_
      refine sk_guard (guard_off 40 false 153 rfl rfl true (by decide) rfl) rfl ?_
      refine sk_guard (guard_off 40 false 153 rfl rfl true (by decide) rfl) rfl ?_
      simp only [ls0, ls1]
      refine sk_guard (guard_off 40 false 153 rfl rfl true (by decide) rfl) rfl ?_
      refine sk_guard (guard_off 40 false 153 rfl rfl true (by decide) rfl) rfl ?_
      refine sk_guard (guard_off 40 false 153 rfl rfl true (by decide) rfl) rfl ?_
      refine sk_guard (guard_off 40 false 153 rfl rfl true (by decide) rfl) rfl ?_
      simp only [ls0, ls1]
      refine sk_guard (guard_off 40 false 153 rfl rfl true (by decide) rfl) rfl ?_
      refine sk_guard (guard_off 40 false 153 rfl rfl true (by decide) rfl) rfl ?_
      refine sk_guard (guard_off 40 false 153 rfl rfl true (by decide) rfl) rfl ?_
      refine sk_guard (guard_off 40 false 153 rfl rfl true (by decide) rfl) rfl ?_
      simp only [ls0, ls1]
      refine sk_guard (guard_off 40 false 153 rfl rfl true (by decide) rfl) rfl ?_
      refine st (.bool true) rfl rfl (xr_pick true _ rfl rfl rfl) ?_
      refine wl_end ?_
      (try simp only [ls0, ls1])
      exact jmp (fun g_ => hj1911 _ _ _ (true) (t2003) g_ HS1536 (by omega) HJ1537 HJ1539 HX2009 HG1542 H) rfl
    refine wl_region ?_
    refine mv_ rfl ?_
    refine mv_ rfl ?_
    refine mv_ rfl ?_
    obtain ⟨⟨t2109, t2110⟩, A2111, H⟩ := bnd H
    (try dsimp only at H)
    refine st_call #[.pointer (some ⟨g1428, 0, none⟩), .int .i64 (Int.tmod (wrap64 (a1)) t1194), .int .i64 (Int.tmod (wrap64 (a2)) t1194)] rfl rfl Tryd.func22 (by kernel_rfl) rfl rfl (mp_ rfl) ?_
    refine (lattice_Lattice_Join.calls g1428 vq1432_0 o1427.f0 o1427.f1.f0.f0 o1427.f1.f1.f0.f0 o1427.f1.f1.f0.f1 o1427.f2 o1427.f3 o1427.f4.f0 (Int.tmod (wrap64 (a1)) t1194) (Int.tmod (wrap64 (a2)) t1194) t2109 t2110  (fun z_ => pal [(0, 0), (11, 1)] (C1198_ z_)) w1205 (fun _ => pal_lt rfl _) (Bx.arg HX1430 rfl) (Ft.arg HRq1432_0 rfl) HLq1432_4 HLq1432_5 A2111).mono ?_
    rintro _ w2113 ⟨C2114, rfl, hs2115, HX2116⟩
    refine ⟨_, rfl, ?_⟩
    replace HX2116 := Bx.res (U := [(0, 0), (1, 11)]) (j := 11) HX2116 hs2115 (by rfl) (by decide) rfl
    replace hs2115 := Step.lift (U := [(0, 0), (1, 11)]) hs2115 [11] rfl rfl
    generalize up C1198_ C2114 w1205.heap.size [(0, 0), (1, 11)] = C2114_ at HX2116 hs2115
    replace HJ1178 := HJ1178.thru hs2115 rfl
    replace HG1181 := HG1181.thru hs2115 rfl
    replace HRq1432_0 := HRq1432_0.thru hs2115 rfl
    replace HS1175 := HS1175.trans hs2115 hc rfl
    (try simp only [ls0, ls1])
    refine mv_ rfl ?_
    refine mv_ rfl ?_
    refine mv_ rfl ?_
    obtain ⟨⟨t2117, t2118⟩, A2119, H⟩ := bnd H
    (try dsimp only at H)
    refine st_call #[.pointer (some ⟨g1428, 0, none⟩), .int .i64 (Int.tmod (wrap64 (a2)) t1194), .int .i64 (Int.tmod (wrap64 (a1)) t1194)] rfl rfl Tryd.func22 (by kernel_rfl) rfl rfl (mp_ rfl) ?_
    refine (lattice_Lattice_Join.calls g1428 vq1432_0 o1427.f0 o1427.f1.f0.f0 o1427.f1.f1.f0.f0 o1427.f1.f1.f0.f1 o1427.f2 o1427.f3 t2110 (Int.tmod (wrap64 (a2)) t1194) (Int.tmod (wrap64 (a1)) t1194) t2117 t2118  (fun z_ => pal [(0, 0), (11, 1)] (C2114_ z_)) w2113 (fun _ => pal_lt rfl _) (Bx.arg HX2116 rfl) (Ft.arg HRq1432_0 rfl) HLq1432_4 HLq1432_5 A2119).mono ?_
    rintro _ w2121 ⟨C2122, rfl, hs2123, HX2124⟩
    refine ⟨_, rfl, ?_⟩
    replace HX2124 := Bx.res (U := [(0, 0), (1, 11)]) (j := 11) HX2124 hs2123 (by rfl) (by decide) rfl
    replace hs2123 := Step.lift (U := [(0, 0), (1, 11)]) hs2123 [11] rfl rfl
    generalize up C2114_ C2122 w2113.heap.size [(0, 0), (1, 11)] = C2122_ at HX2124 hs2123
    replace HJ1178 := HJ1178.thru hs2123 rfl
    replace HG1181 := HG1181.thru hs2123 rfl
    replace HRq1432_0 := HRq1432_0.thru hs2123 rfl
    replace HS1175 := HS1175.trans hs2123 hc rfl
    (try simp only [ls0, ls1])
    refine st (.bool (!decide (t2109 = t2117))) rfl rfl (xr_bin _ _ _ rfl rfl rfl (B.neq_i64 _ _)) ?_
    refine mv_ rfl ?_
    by_cases c2125 : t2109 = t2117
    ·rw [if_pos c2125] at H
     (try rw [(decide_eq_true c2125)])
     (try simp only [Bool.not_true, Bool.not_false])
     refine on_guard (guard_on 9 false 68 rfl rfl rfl) ?_
     refine mv_ rfl ?_
     refine on_guard (guard_on 9 false 68 rfl rfl rfl) ?_
     refine mv_ rfl ?_
     simp only [ls0, ls1]
     refine on_guard (guard_on 9 false 68 rfl rfl rfl) ?_
     refine mv_ rfl ?_
     refine on_guard (guard_on 9 false 68 rfl rfl rfl) ?_
     obtain ⟨⟨t2126, t2127⟩, A2128, H⟩ := bnd H
     (try dsimp only at H)
     refine st_call #[.pointer (some ⟨g1428, 0, none⟩), .int .i64 (Int.tmod (wrap64 (a1)) t1194), .int .i64 (Int.tmod (wrap64 (a2)) t1194)] rfl rfl Tryd.func23 (by kernel_rfl) rfl rfl (mp_ rfl) ?_
     refine (lattice_Lattice_Meet.calls g1428 vq1432_0 o1427.f0 o1427.f1.f0.f0 o1427.f1.f1.f0.f0 o1427.f1.f1.f0.f1 o1427.f2 o1427.f3 t2118 (Int.tmod (wrap64 (a1)) t1194) (Int.tmod (wrap64 (a2)) t1194) t2126 t2127  (fun z_ => pal [(0, 0), (11, 1)] (C2122_ z_)) w2121 (fun _ => pal_lt rfl _) (Bx.arg HX2124 rfl) (Ft.arg HRq1432_0 rfl) HLq1432_4 HLq1432_5 A2128).mono ?_
     rintro _ w2130 ⟨C2131, rfl, hs2132, HX2133⟩
     refine ⟨_, rfl, ?_⟩
     replace HX2133 := Bx.res (U := [(0, 0), (1, 11)]) (j := 11) HX2133 hs2132 (by rfl) (by decide) rfl
     replace hs2132 := Step.lift (U := [(0, 0), (1, 11)]) hs2132 [11] rfl rfl
     generalize up C2122_ C2131 w2121.heap.size [(0, 0), (1, 11)] = C2131_ at HX2133 hs2132
     replace HJ1178 := HJ1178.thru hs2132 rfl
     replace HG1181 := HG1181.thru hs2132 rfl
     replace HRq1432_0 := HRq1432_0.thru hs2132 rfl
     replace HS1175 := HS1175.trans hs2132 hc rfl
     (try simp only [ls0, ls1])
     refine on_guard (guard_on 9 false 68 rfl rfl rfl) ?_
     refine mv_ rfl ?_
     refine on_guard (guard_on 9 false 68 rfl rfl rfl) ?_
     refine mv_ rfl ?_
     refine on_guard (guard_on 9 false 68 rfl rfl rfl) ?_
     refine mv_ rfl ?_
     refine on_guard (guard_on 9 false 68 rfl rfl rfl) ?_
     obtain ⟨⟨t2134, t2135⟩, A2136, H⟩ := bnd H
     (try dsimp only at H)
     refine st_call #[.pointer (some ⟨g1428, 0, none⟩), .int .i64 (Int.tmod (wrap64 (a2)) t1194), .int .i64 (Int.tmod (wrap64 (a1)) t1194)] rfl rfl Tryd.func23 (by kernel_rfl) rfl rfl (mp_ rfl) ?_
     refine (lattice_Lattice_Meet.calls g1428 vq1432_0 o1427.f0 o1427.f1.f0.f0 o1427.f1.f1.f0.f0 o1427.f1.f1.f0.f1 o1427.f2 o1427.f3 t2127 (Int.tmod (wrap64 (a2)) t1194) (Int.tmod (wrap64 (a1)) t1194) t2134 t2135  (fun z_ => pal [(0, 0), (11, 1)] (C2131_ z_)) w2130 (fun _ => pal_lt rfl _) (Bx.arg HX2133 rfl) (Ft.arg HRq1432_0 rfl) HLq1432_4 HLq1432_5 A2136).mono ?_
     rintro _ w2138 ⟨C2139, rfl, hs2140, HX2141⟩
     refine ⟨_, rfl, ?_⟩
     replace HX2141 := Bx.res (U := [(0, 0), (1, 11)]) (j := 11) HX2141 hs2140 (by rfl) (by decide) rfl
     replace hs2140 := Step.lift (U := [(0, 0), (1, 11)]) hs2140 [11] rfl rfl
     generalize up C2131_ C2139 w2130.heap.size [(0, 0), (1, 11)] = C2139_ at HX2141 hs2140
     replace HJ1178 := HJ1178.thru hs2140 rfl
     replace HG1181 := HG1181.thru hs2140 rfl
     replace HRq1432_0 := HRq1432_0.thru hs2140 rfl
     replace HS1175 := HS1175.trans hs2140 hc rfl
     (try simp only [ls0, ls1])
     refine on_guard (guard_on 9 false 68 rfl rfl rfl) ?_
     refine st (.bool (!decide (t2126 = t2134))) rfl rfl (xr_bin _ _ _ rfl rfl rfl (B.neq_i64 _ _)) ?_
     refine st (.bool (!decide (t2126 = t2134))) rfl rfl (xr_pick false _ rfl rfl rfl) ?_
     refine mv_ rfl ?_
     by_cases c2142 : t2126 = t2134
     ·rw [if_pos c2142] at H
      (try rw [(decide_eq_true c2142)])
      (try simp only [Bool.not_true, Bool.not_false])
      refine on_guard (guard_on 20 false 79 rfl rfl rfl) ?_
      refine mv_ rfl ?_
      simp only [ls0, ls1]
      refine on_guard (guard_on 20 false 79 rfl rfl rfl) ?_
      refine mv_ rfl ?_
      refine on_guard (guard_on 20 false 79 rfl rfl rfl) ?_
      refine mv_ rfl ?_
      refine on_guard (guard_on 20 false 79 rfl rfl rfl) ?_
      refine mv_ rfl ?_
      refine on_guard (guard_on 20 false 79 rfl rfl rfl) ?_
      obtain ⟨⟨t2143, t2144⟩, A2145, H⟩ := bnd H
      (try dsimp only at H)
      refine st_call #[.pointer (some ⟨g1428, 0, none⟩), .int .i64 (Int.tmod (wrap64 (a1)) t1194), .int .i64 (Int.tmod (wrap64 (a2)) t1194)] rfl rfl Tryd.func22 (by kernel_rfl) rfl rfl (mp_ rfl) ?_
      refine (lattice_Lattice_Join.calls g1428 vq1432_0 o1427.f0 o1427.f1.f0.f0 o1427.f1.f1.f0.f0 o1427.f1.f1.f0.f1 o1427.f2 o1427.f3 t2135 (Int.tmod (wrap64 (a1)) t1194) (Int.tmod (wrap64 (a2)) t1194) t2143 t2144  (fun z_ => pal [(0, 0), (11, 1)] (C2139_ z_)) w2138 (fun _ => pal_lt rfl _) (Bx.arg HX2141 rfl) (Ft.arg HRq1432_0 rfl) HLq1432_4 HLq1432_5 A2145).mono ?_
      rintro _ w2147 ⟨C2148, rfl, hs2149, HX2150⟩
      refine ⟨_, rfl, ?_⟩
      replace HX2150 := Bx.res (U := [(0, 0), (1, 11)]) (j := 11) HX2150 hs2149 (by rfl) (by decide) rfl
      replace hs2149 := Step.lift (U := [(0, 0), (1, 11)]) hs2149 [11] rfl rfl
      generalize up C2139_ C2148 w2138.heap.size [(0, 0), (1, 11)] = C2148_ at HX2150 hs2149
      replace HJ1178 := HJ1178.thru hs2149 rfl
      replace HG1181 := HG1181.thru hs2149 rfl
      replace HRq1432_0 := HRq1432_0.thru hs2149 rfl
      replace HS1175 := HS1175.trans hs2149 hc rfl
      (try simp only [ls0, ls1])
      refine on_guard (guard_on 20 false 79 rfl rfl rfl) ?_
      refine mv_ rfl ?_
      refine on_guard (guard_on 20 false 79 rfl rfl rfl) ?_
      obtain ⟨⟨t2151, t2152⟩, A2153, H⟩ := bnd H
      (try dsimp only at H)
      refine st_call #[.pointer (some ⟨g1428, 0, none⟩), .int .i64 t2143, .int .i64 (Int.tmod (wrap64 (a3)) t1194)] rfl rfl Tryd.func22 (by kernel_rfl) rfl rfl (mp_ rfl) ?_
      refine (lattice_Lattice_Join.calls g1428 vq1432_0 o1427.f0 o1427.f1.f0.f0 o1427.f1.f1.f0.f0 o1427.f1.f1.f0.f1 o1427.f2 o1427.f3 t2144 t2143 (Int.tmod (wrap64 (a3)) t1194) t2151 t2152  (fun z_ => pal [(0, 0), (11, 1)] (C2148_ z_)) w2147 (fun _ => pal_lt rfl _) (Bx.arg HX2150 rfl) (Ft.arg HRq1432_0 rfl) HLq1432_4 HLq1432_5 A2153).mono ?_
      rintro _ w2155 ⟨C2156, rfl, hs2157, HX2158⟩
      refine ⟨_, rfl, ?_⟩
      replace HX2158 := Bx.res (U := [(0, 0), (1, 11)]) (j := 11) HX2158 hs2157 (by rfl) (by decide) rfl
      replace hs2157 := Step.lift (U := [(0, 0), (1, 11)]) hs2157 [11] rfl rfl
      generalize up C2148_ C2156 w2147.heap.size [(0, 0), (1, 11)] = C2156_ at HX2158 hs2157
      replace HJ1178 := HJ1178.thru hs2157 rfl
      replace HG1181 := HG1181.thru hs2157 rfl
      replace HRq1432_0 := HRq1432_0.thru hs2157 rfl
      replace HS1175 := HS1175.trans hs2157 hc rfl
      (try simp only [ls0, ls1])
      refine on_guard (guard_on 20 false 79 rfl rfl rfl) ?_
      refine mv_ rfl ?_
      refine on_guard (guard_on 20 false 79 rfl rfl rfl) ?_
      refine mv_ rfl ?_
      refine on_guard (guard_on 20 false 79 rfl rfl rfl) ?_
      refine mv_ rfl ?_
      refine on_guard (guard_on 20 false 79 rfl rfl rfl) ?_
      refine mv_ rfl ?_
      simp only [ls0, ls1]
      refine on_guard (guard_on 20 false 79 rfl rfl rfl) ?_
      refine mv_ rfl ?_
      refine on_guard (guard_on 20 false 79 rfl rfl rfl) ?_
      obtain ⟨⟨t2159, t2160⟩, A2161, H⟩ := bnd H
      (try dsimp only at H)
      refine st_call #[.pointer (some ⟨g1428, 0, none⟩), .int .i64 (Int.tmod (wrap64 (a2)) t1194), .int .i64 (Int.tmod (wrap64 (a3)) t1194)] rfl rfl Tryd.func22 (by kernel_rfl) rfl rfl (mp_ rfl) ?_
      refine (lattice_Lattice_Join.calls g1428 vq1432_0 o1427.f0 o1427.f1.f0.f0 o1427.f1.f1.f0.f0 o1427.f1.f1.f0.f1 o1427.f2 o1427.f3 t2152 (Int.tmod (wrap64 (a2)) t1194) (Int.tmod (wrap64 (a3)) t1194) t2159 t2160  (fun z_ => pal [(0, 0), (11, 1)] (C2156_ z_)) w2155 (fun _ => pal_lt rfl _) (Bx.arg HX2158 rfl) (Ft.arg HRq1432_0 rfl) HLq1432_4 HLq1432_5 A2161).mono ?_
      rintro _ w2163 ⟨C2164, rfl, hs2165, HX2166⟩
      refine ⟨_, rfl, ?_⟩
      replace HX2166 := Bx.res (U := [(0, 0), (1, 11)]) (j := 11) HX2166 hs2165 (by rfl) (by decide) rfl
      replace hs2165 := Step.lift (U := [(0, 0), (1, 11)]) hs2165 [11] rfl rfl
      generalize up C2156_ C2164 w2155.heap.size [(0, 0), (1, 11)] = C2164_ at HX2166 hs2165
      replace HJ1178 := HJ1178.thru hs2165 rfl
      replace HG1181 := HG1181.thru hs2165 rfl
      replace HRq1432_0 := HRq1432_0.thru hs2165 rfl
      replace HS1175 := HS1175.trans hs2165 hc rfl
      (try simp only [ls0, ls1])
      refine on_guard (guard_on 20 false 79 rfl rfl rfl) ?_
      obtain ⟨⟨t2167, t2168⟩, A2169, H⟩ := bnd H
      (try dsimp only at H)
      refine st_call #[.pointer (some ⟨g1428, 0, none⟩), .int .i64 (Int.tmod (wrap64 (a1)) t1194), .int .i64 t2159] rfl rfl Tryd.func22 (by kernel_rfl) rfl rfl (mp_ rfl) ?_
      refine (lattice_Lattice_Join.calls g1428 vq1432_0 o1427.f0 o1427.f1.f0.f0 o1427.f1.f1.f0.f0 o1427.f1.f1.f0.f1 o1427.f2 o1427.f3 t2160 (Int.tmod (wrap64 (a1)) t1194) t2159 t2167 t2168  (fun z_ => pal [(0, 0), (11, 1)] (C2164_ z_)) w2163 (fun _ => pal_lt rfl _) (Bx.arg HX2166 rfl) (Ft.arg HRq1432_0 rfl) HLq1432_4 HLq1432_5 A2169).mono ?_
      rintro _ w2171 ⟨C2172, rfl, hs2173, HX2174⟩
      refine ⟨_, rfl, ?_⟩
      replace HX2174 := Bx.res (U := [(0, 0), (1, 11)]) (j := 11) HX2174 hs2173 (by rfl) (by decide) rfl
      replace hs2173 := Step.lift (U := [(0, 0), (1, 11)]) hs2173 [11] rfl rfl
      generalize up C2164_ C2172 w2163.heap.size [(0, 0), (1, 11)] = C2172_ at HX2174 hs2173
      replace HJ1178 := HJ1178.thru hs2173 rfl
      replace HG1181 := HG1181.thru hs2173 rfl
      replace HRq1432_0 := HRq1432_0.thru hs2173 rfl
      replace HS1175 := HS1175.trans hs2173 hc rfl
      (try simp only [ls0, ls1])
      refine on_guard (guard_on 20 false 79 rfl rfl rfl) ?_
      refine st (.bool (!decide (t2151 = t2167))) rfl rfl (xr_bin _ _ _ rfl rfl rfl (B.neq_i64 _ _)) ?_
      refine st (.bool (!decide (t2151 = t2167))) rfl rfl (xr_pick false _ rfl rfl rfl) ?_
      refine mv_ rfl ?_
      by_cases c2175 : t2151 = t2167
      ·rw [if_pos c2175] at H
       (try rw [(decide_eq_true c2175)])
       (try simp only [Bool.not_true, Bool.not_false])
       refine on_guard (guard_on 37 false 96 rfl rfl rfl) ?_
       refine mv_ rfl ?_
       simp only [ls0, ls1]
       refine on_guard (guard_on 37 false 96 rfl rfl rfl) ?_
       refine mv_ rfl ?_
       refine on_guard (guard_on 37 false 96 rfl rfl rfl) ?_
       refine mv_ rfl ?_
       refine on_guard (guard_on 37 false 96 rfl rfl rfl) ?_
       refine mv_ rfl ?_
       refine on_guard (guard_on 37 false 96 rfl rfl rfl) ?_
       obtain ⟨⟨t2176, t2177⟩, A2178, H⟩ := bnd H
       (try dsimp only at H)
       refine st_call #[.pointer (some ⟨g1428, 0, none⟩), .int .i64 (Int.tmod (wrap64 (a1)) t1194), .int .i64 (Int.tmod (wrap64 (a2)) t1194)] rfl rfl Tryd.func23 (by kernel_rfl) rfl rfl (mp_ rfl) ?_
       refine (lattice_Lattice_Meet.calls g1428 vq1432_0 o1427.f0 o1427.f1.f0.f0 o1427.f1.f1.f0.f0 o1427.f1.f1.f0.f1 o1427.f2 o1427.f3 t2168 (Int.tmod (wrap64 (a1)) t1194) (Int.tmod (wrap64 (a2)) t1194) t2176 t2177  (fun z_ => pal [(0, 0), (11, 1)] (C2172_ z_)) w2171 (fun _ => pal_lt rfl _) (Bx.arg HX2174 rfl) (Ft.arg HRq1432_0 rfl) HLq1432_4 HLq1432_5 A2178).mono ?_
       rintro _ w2180 ⟨C2181, rfl, hs2182, HX2183⟩
       refine ⟨_, rfl, ?_⟩
       replace HX2183 := Bx.res (U := [(0, 0), (1, 11)]) (j := 11) HX2183 hs2182 (by rfl) (by decide) rfl
       replace hs2182 := Step.lift (U := [(0, 0), (1, 11)]) hs2182 [11] rfl rfl
       generalize up C2172_ C2181 w2171.heap.size [(0, 0), (1, 11)] = C2181_ at HX2183 hs2182
       replace HJ1178 := HJ1178.thru hs2182 rfl
       replace HG1181 := HG1181.thru hs2182 rfl
       replace HRq1432_0 := HRq1432_0.thru hs2182 rfl
       replace HS1175 := HS1175.trans hs2182 hc rfl
       (try simp only [ls0, ls1])
       refine on_guard (guard_on 37 false 96 rfl rfl rfl) ?_
       refine mv_ rfl ?_
       refine on_guard (guard_on 37 false 96 rfl rfl rfl) ?_
       obtain ⟨⟨t2184, t2185⟩, A2186, H⟩ := bnd H
       (try dsimp only at H)
       refine st_call #[.pointer (some ⟨g1428, 0, none⟩), .int .i64 t2176, .int .i64 (Int.tmod (wrap64 (a3)) t1194)] rfl rfl Tryd.func23 (by kernel_rfl) rfl rfl (mp_ rfl) ?_
       refine (lattice_Lattice_Meet.calls g1428 vq1432_0 o1427.f0 o1427.f1.f0.f0 o1427.f1.f1.f0.f0 o1427.f1.f1.f0.f1 o1427.f2 o1427.f3 t2177 t2176 (Int.tmod (wrap64 (a3)) t1194) t2184 t2185  (fun z_ => pal [(0, 0), (11, 1)] (C2181_ z_)) w2180 (fun _ => pal_lt rfl _) (Bx.arg HX2183 rfl) (Ft.arg HRq1432_0 rfl) HLq1432_4 HLq1432_5 A2186).mono ?_
       rintro _ w2188 ⟨C2189, rfl, hs2190, HX2191⟩
       refine ⟨_, rfl, ?_⟩
       replace HX2191 := Bx.res (U := [(0, 0), (1, 11)]) (j := 11) HX2191 hs2190 (by rfl) (by decide) rfl
       replace hs2190 := Step.lift (U := [(0, 0), (1, 11)]) hs2190 [11] rfl rfl
       generalize up C2181_ C2189 w2180.heap.size [(0, 0), (1, 11)] = C2189_ at HX2191 hs2190
       replace HJ1178 := HJ1178.thru hs2190 rfl
       replace HG1181 := HG1181.thru hs2190 rfl
       replace HRq1432_0 := HRq1432_0.thru hs2190 rfl
       replace HS1175 := HS1175.trans hs2190 hc rfl
       (try simp only [ls0, ls1])
       refine on_guard (guard_on 37 false 96 rfl rfl rfl) ?_
       refine mv_ rfl ?_
       refine on_guard (guard_on 37 false 96 rfl rfl rfl) ?_
       refine mv_ rfl ?_
       refine on_guard (guard_on 37 false 96 rfl rfl rfl) ?_
       refine mv_ rfl ?_
       refine on_guard (guard_on 37 false 96 rfl rfl rfl) ?_
       refine mv_ rfl ?_
       simp only [ls0, ls1]
       refine on_guard (guard_on 37 false 96 rfl rfl rfl) ?_
       refine mv_ rfl ?_
       refine on_guard (guard_on 37 false 96 rfl rfl rfl) ?_
       obtain ⟨⟨t2192, t2193⟩, A2194, H⟩ := bnd H
       (try dsimp only at H)
       refine st_call #[.pointer (some ⟨g1428, 0, none⟩), .int .i64 (Int.tmod (wrap64 (a2)) t1194), .int .i64 (Int.tmod (wrap64 (a3)) t1194)] rfl rfl Tryd.func23 (by kernel_rfl) rfl rfl (mp_ rfl) ?_
       refine (lattice_Lattice_Meet.calls g1428 vq1432_0 o1427.f0 o1427.f1.f0.f0 o1427.f1.f1.f0.f0 o1427.f1.f1.f0.f1 o1427.f2 o1427.f3 t2185 (Int.tmod (wrap64 (a2)) t1194) (Int.tmod (wrap64 (a3)) t1194) t2192 t2193  (fun z_ => pal [(0, 0), (11, 1)] (C2189_ z_)) w2188 (fun _ => pal_lt rfl _) (Bx.arg HX2191 rfl) (Ft.arg HRq1432_0 rfl) HLq1432_4 HLq1432_5 A2194).mono ?_
       rintro _ w2196 ⟨C2197, rfl, hs2198, HX2199⟩
       refine ⟨_, rfl, ?_⟩
       replace HX2199 := Bx.res (U := [(0, 0), (1, 11)]) (j := 11) HX2199 hs2198 (by rfl) (by decide) rfl
       replace hs2198 := Step.lift (U := [(0, 0), (1, 11)]) hs2198 [11] rfl rfl
       generalize up C2189_ C2197 w2188.heap.size [(0, 0), (1, 11)] = C2197_ at HX2199 hs2198
       replace HJ1178 := HJ1178.thru hs2198 rfl
       replace HG1181 := HG1181.thru hs2198 rfl
       replace HRq1432_0 := HRq1432_0.thru hs2198 rfl
       replace HS1175 := HS1175.trans hs2198 hc rfl
       (try simp only [ls0, ls1])
       refine on_guard (guard_on 37 false 96 rfl rfl rfl) ?_
       obtain ⟨⟨t2200, t2201⟩, A2202, H⟩ := bnd H
       (try dsimp only at H)
       refine st_call #[.pointer (some ⟨g1428, 0, none⟩), .int .i64 (Int.tmod (wrap64 (a1)) t1194), .int .i64 t2192] rfl rfl Tryd.func23 (by kernel_rfl) rfl rfl (mp_ rfl) ?_
       refine (lattice_Lattice_Meet.calls g1428 vq1432_0 o1427.f0 o1427.f1.f0.f0 o1427.f1.f1.f0.f0 o1427.f1.f1.f0.f1 o1427.f2 o1427.f3 t2193 (Int.tmod (wrap64 (a1)) t1194) t2192 t2200 t2201  (fun z_ => pal [(0, 0), (11, 1)] (C2197_ z_)) w2196 (fun _ => pal_lt rfl _) (Bx.arg HX2199 rfl) (Ft.arg HRq1432_0 rfl) HLq1432_4 HLq1432_5 A2202).mono ?_
       rintro _ w2204 ⟨C2205, rfl, hs2206, HX2207⟩
       refine ⟨_, rfl, ?_⟩
       replace HX2207 := Bx.res (U := [(0, 0), (1, 11)]) (j := 11) HX2207 hs2206 (by rfl) (by decide) rfl
       replace hs2206 := Step.lift (U := [(0, 0), (1, 11)]) hs2206 [11] rfl rfl
       generalize up C2197_ C2205 w2196.heap.size [(0, 0), (1, 11)] = C2205_ at HX2207 hs2206
       replace HJ1178 := HJ1178.thru hs2206 rfl
       replace HG1181 := HG1181.thru hs2206 rfl
       replace HRq1432_0 := HRq1432_0.thru hs2206 rfl
       replace HS1175 := HS1175.trans hs2206 hc rfl
       (try simp only [ls0, ls1])
       refine on_guard (guard_on 37 false 96 rfl rfl rfl) ?_
       refine st (.bool (!decide (t2184 = t2200))) rfl rfl (xr_bin _ _ _ rfl rfl rfl (B.neq_i64 _ _)) ?_
       refine st (.bool (!decide (t2184 = t2200))) rfl rfl (xr_pick false _ rfl rfl rfl) ?_
       refine wl_end ?_
       (try simp only [ls0, ls1])
       exact jmp (fun g_ => hj1533 _ _ _ (!decide (t2184 = t2200)) (t2201) g_ HS1175 (by omega) HJ1178 HRq1432_0 HX2207 HG1181 H) rfl
      rw [if_neg c2175] at H
      (try rw [(decide_eq_false c2175)])
      (try simp only [Bool.not_true, Bool.not_false])
      refine sk_guard (guard_off 37 false 96 rfl rfl true (by decide) rfl) rfl ?_
      refine sk_guard (guard_off 37 false 96 rfl rfl true (by decide) rfl) rfl ?_
      refine sk_guard (guard_off 37 false 96 rfl rfl true (by decide) rfl) rfl ?_
      refine sk_guard (guard_off 37 false 96 rfl rfl true (by decide) rfl) rfl ?_
      simp only [ls0, ls1]
      refine sk_guard (guard_off 37 false 96 rfl rfl true (by decide) rfl) rfl ?_
      refine sk_guard (guard_off 37 false 96 rfl rfl true (by decide) rfl) rfl ?_
      refine sk_guard (guard_off 37 false 96 rfl rfl true (by decide) rfl) rfl ?_
      refine sk_guard (guard_off 37 false 96 rfl rfl true (by decide) rfl) rfl ?_
      simp only [ls0, ls1]
      refine sk_guard (guard_off 37 false 96 rfl rfl true (by decide) rfl) rfl ?_
      refine sk_guard (guard_off 37 false 96 rfl rfl true (by decide) rfl) rfl ?_
      refine sk_guard (guard_off 37 false 96 rfl rfl true (by decide) rfl) rfl ?_
      refine sk_guard (guard_off 37 false 96 rfl rfl true (by decide) rfl) rfl ?_
      simp only [ls0, ls1]
      refine sk_guard (guard_off 37 false 96 rfl rfl true (by decide) rfl) rfl ?_
      refine sk_guard (guard_off 37 false 96 rfl rfl true (by decide) rfl) rfl ?_
      refine sk_guard (guard_off 37 false 96 rfl rfl true (by decide) rfl) rfl ?_
      refine st (.bool true) rfl rfl (xr_pick true _ rfl rfl rfl) ?_
      simp only [ls0, ls1]
      refine wl_end ?_
      (try simp only [ls0, ls1])
      exact jmp (fun g_ => hj1533 _ _ _ (true) (t2168) g_ HS1175 (by omega) HJ1178 HRq1432_0 HX2174 HG1181 H) rfl
     rw [if_neg c2142] at H
     (try rw [(decide_eq_false c2142)])
     (try simp only [Bool.not_true, Bool.not_false])
     refine sk_guard (guard_off 20 false 79 rfl rfl true (by decide) rfl) rfl ?_
     refine sk_guard (guard_off 20 false 79 rfl rfl true (by decide) rfl) rfl ?_
     refine sk_guard (guard_off 20 false 79 rfl rfl true (by decide) rfl) rfl ?_
     refine sk_guard (guard_off 20 false 79 rfl rfl true (by decide) rfl) rfl ?_
     simp only [ls0, ls1]
     refine sk_guard (guard_off 20 false 79 rfl rfl true (by decide) rfl) rfl ?_
     refine sk_guard (guard_off 20 false 79 rfl rfl true (by decide) rfl) rfl ?_
     refine sk_guard (guard_off 20 false 79 rfl rfl true (by decide) rfl) rfl ?_
     refine sk_guard (guard_off 20 false 79 rfl rfl true (by decide) rfl) rfl ?_
     simp only [ls0, ls1]
     refine sk_guard (guard_off 20 false 79 rfl rfl true (by decide) rfl) rfl ?_
     refine sk_guard (guard_off 20 false 79 rfl rfl true (by decide) rfl) rfl ?_
     refine sk_guard (guard_off 20 false 79 rfl rfl true (by decide) rfl) rfl ?_
     refine sk_guard (guard_off 20 false 79 rfl rfl true (by decide) rfl) rfl ?_
     simp only [ls0, ls1]
     refine sk_guard (guard_off 20 false 79 rfl rfl true (by decide) rfl) rfl ?_
     refine sk_guard (guard_off 20 false 79 rfl rfl true (by decide) rfl) rfl ?_
     refine sk_guard (guard_off 20 false 79 rfl rfl true (by decide) rfl) rfl ?_
     refine st (.bool true) rfl rfl (xr_pick true _ rfl rfl rfl) ?_
     simp only [ls0, ls1]
     refine mv_ rfl ?_
     refine sk_guard (guard_off 37 false 96 rfl rfl true (by decide) rfl) rfl ?_
     refine sk_guard (guard_off 37 false 96 rfl rfl true (by decide) rfl) rfl ?_
     refine sk_guard (guard_off 37 false 96 rfl rfl true (by decide) rfl) rfl ?_
     simp only [ls0, ls1]
     refine sk_guard (guard_off 37 false 96 rfl rfl true (by decide) rfl) rfl ?_
     refine sk_guard (guard_off 37 false 96 rfl rfl true (by decide) rfl) rfl ?_
     refine sk_guard (guard_off 37 false 96 rfl rfl true (by decide) rfl) rfl ?_
     refine sk_guard (guard_off 37 false 96 rfl rfl true (by decide) rfl) rfl ?_
     simp only [ls0, ls1]
     refine sk_guard (guard_off 37 false 96 rfl rfl true (by decide) rfl) rfl ?_
     refine sk_guard (guard_off 37 false 96 rfl rfl true (by decide) rfl) rfl ?_
     refine sk_guard (guard_off 37 false 96 rfl rfl true (by decide) rfl) rfl ?_
     refine sk_guard (guard_off 37 false 96 rfl rfl true (by decide) rfl) rfl ?_
     simp only [ls0, ls1]
     refine sk_guard (guard_off 37 false 96 rfl rfl true (by decide) rfl) rfl ?_
     refine sk_guard (guard_off 37 false 96 rfl rfl true (by decide) rfl) rfl ?_
     refine sk_guard (guard_off 37 false 96 rfl rfl true (by decide) rfl) rfl ?_
     refine sk_guard (guard_off 37 false 96 rfl rfl true (by decide) rfl) rfl ?_
     simp only [ls0, ls1]
     refine st (.bool true) rfl rfl (xr_pick true _ rfl rfl rfl) ?_
     refine wl_end ?_
     (try simp only [ls0, ls1])
     exact jmp (fun g_ => hj1533 _ _ _ (true) (t2135) g_ HS1175 (by omega) HJ1178 HRq1432_0 HX2141 HG1181 H) rfl
    rw [if_neg c2125] at H
    (try rw [(decide_eq_false c2125)])
    (try simp only [Bool.not_true, Bool.not_false])
    refine sk_guard (guard_off 9 false 68 rfl rfl true (by decide) rfl) rfl ?_
    refine sk_guard (guard_off 9 false 68 rfl rfl true (by decide) rfl) rfl ?_
    refine sk_guard (guard_off 9 false 68 rfl rfl true (by decide) rfl) rfl ?_
    refine sk_guard (guard_off 9 false 68 rfl rfl true (by decide) rfl) rfl ?_
    simp only [ls0, ls1]
    refine sk_guard (guard_off 9 false 68 rfl rfl true (by decide) rfl) rfl ?_
    refine sk_guard (guard_off 9 false 68 rfl rfl true (by decide) rfl) rfl ?_
    refine sk_guard (guard_off 9 false 68 rfl rfl true (by decide) rfl) rfl ?_
    refine sk_guard (guard_off 9 false 68 rfl rfl true (by decide) rfl) rfl ?_
    simp only [ls0, ls1]
    refine sk_guard (guard_off 9 false 68 rfl rfl true (by decide) rfl) rfl ?_
    refine st (.bool true) rfl rfl (xr_pick true _ rfl rfl rfl) ?_
    refine mv_ rfl ?_
    refine sk_guard (guard_off 20 false 79 rfl rfl true (by decide) rfl) rfl ?_
    simp only [ls0, ls1]
    refine sk_guard (guard_off 20 false 79 rfl rfl true (by decide) rfl) rfl ?_
    refine sk_guard (guard_off 20 false 79 rfl rfl true (by decide) rfl) rfl ?_
    refine sk_guard (guard_off 20 false 79 rfl rfl true (by decide) rfl) rfl ?_
    refine sk_guard (guard_off 20 false 79 rfl rfl true (by decide) rfl) rfl ?_
    simp only [ls0, ls1]
    refine sk_guard (guard_off 20 false 79 rfl rfl true (by decide) rfl) rfl ?_
    refine sk_guard (guard_off 20 false 79 rfl rfl true (by decide) rfl) rfl ?_
    refine sk_guard (guard_off 20 false 79 rfl rfl true (by decide) rfl) rfl ?_
    refine sk_guard (guard_off 20 false 79 rfl rfl true (by decide) rfl) rfl ?_
    simp only [ls0, ls1]
    refine sk_guard (guard_off 20 false 79 rfl rfl true (by decide) rfl) rfl ?_
    refine sk_guard (guard_off 20 false 79 rfl rfl true (by decide) rfl) rfl ?_
    refine sk_guard (guard_off 20 false 79 rfl rfl true (by decide) rfl) rfl ?_
    refine sk_guard (guard_off 20 false 79 rfl rfl true (by decide) rfl) rfl ?_
    simp only [ls0, ls1]
    refine sk_guard (guard_off 20 false 79 rfl rfl true (by decide) rfl) rfl ?_
    refine sk_guard (guard_off 20 false 79 rfl rfl true (by decide) rfl) rfl ?_
    refine st (.bool true) rfl rfl (xr_pick true _ rfl rfl rfl) ?_
    refine mv_ rfl ?_
    simp only [ls0, ls1]
    refine sk_guard (guard_off 37 false 96 rfl rfl true (by decide) rfl) rfl ?_
    refine sk_guard (guard_off 37 false 96 rfl rfl true (by decide) rfl) rfl ?_
    refine sk_guard (guard_off 37 false 96 rfl rfl true (by decide) rfl) rfl ?_
    refine sk_guard (guard_off 37 false 96 rfl rfl true (by decide) rfl) rfl ?_
    simp only [ls0, ls1]
    refine sk_guard (guard_off 37 false 96 rfl rfl true (by decide) rfl) rfl ?_
    refine sk_guard (guard_off 37 false 96 rfl rfl true (by decide) rfl) rfl ?_
    refine sk_guard (guard_off 37 false 96 rfl rfl true (by decide) rfl) rfl ?_
    refine sk_guard (guard_off 37 false 96 rfl rfl true (by decide) rfl) rfl ?_
    simp only [ls0, ls1]
    refine sk_guard (guard_off 37 false 96 rfl rfl true (by decide) rfl) rfl ?_
    refine sk_guard (guard_off 37 false 96 rfl rfl true (by decide) rfl) rfl ?_
    refine sk_guard (guard_off 37 false 96 rfl rfl true (by decide) rfl) rfl ?_
    refine sk_guard (guard_off 37 false 96 rfl rfl true (by decide) rfl) rfl ?_
    simp only [ls0, ls1]
    refine sk_guard (guard_off 37 false 96 rfl rfl true (by decide) rfl) rfl ?_
    refine sk_guard (guard_off 37 false 96 rfl rfl true (by decide) rfl) rfl ?_
    refine sk_guard (guard_off 37 false 96 rfl rfl true (by decide) rfl) rfl ?_
    refine st (.bool true) rfl rfl (xr_pick true _ rfl rfl rfl) ?_
    simp only [ls0, ls1]
    refine wl_end ?_
    (try simp only [ls0, ls1])
    exact jmp (fun g_ => hj1533 _ _ _ (true) (t2118) g_ HS1175 (by omega) HJ1178 HRq1432_0 HX2124 HG1181 H) rfl
 refine wl_region ?_
 refine mv_ rfl ?_
 refine st (.bool (!decide (t1125 = 0))) rfl rfl (xr_bin _ _ _ rfl rfl rfl (B.neq_i64 _ _)) ?_
 refine mv_ rfl ?_
 by_cases c2208 : t1125 = 0
 ·rw [if_pos c2208] at H
  (try rw [(decide_eq_true c2208)])
  (try simp only [Bool.not_true, Bool.not_false])
  refine on_guard (guard_on 2 false 38 rfl rfl rfl) ?_
  refine mv_ rfl ?_
  simp only [ls0, ls1]
  refine on_guard (guard_on 2 false 38 rfl rfl rfl) ?_
  refine st (.bool (!decide (t1137 = 0))) rfl rfl (xr_bin _ _ _ rfl rfl rfl (B.neq_i64 _ _)) ?_
  refine st (.bool (!decide (t1137 = 0))) rfl rfl (xr_pick false _ rfl rfl rfl) ?_
  refine wl_end ?_
  (try simp only [ls0, ls1])
  exact jmp (fun g_ => hj1172 _ _ _ (!decide (t1137 = 0)) (v1131) (t1123) g_ HS (by omega) HB1132 HB1144 HG H) rfl
 rw [if_neg c2208] at H
 (try rw [(decide_eq_false c2208)])
 (try simp only [Bool.not_true, Bool.not_false])
 refine sk_guard (guard_off 2 false 38 rfl rfl true (by decide) rfl) rfl ?_
 refine sk_guard (guard_off 2 false 38 rfl rfl true (by decide) rfl) rfl ?_
 refine st (.bool true) rfl rfl (xr_pick true _ rfl rfl rfl) ?_
 refine wl_end ?_
 (try simp only [ls0, ls1])
 exact jmp (fun g_ => hj1172 _ _ _ (true) (v1131) (t1123) g_ HS (by omega) HB1132 HB1144 HG H) rfl
/-- THE ONE PURE STATEMENT of blazonlaw14_LatticeLaws. -/
def blazonlaw14_LatticeLaws.Pure : Prop := ∀ (l0 : List (S53)) (a1 : Int) (a2 : Int) (a3 : Int), l0.length ≤ maxLen → l0.length * 40 ≤ 140737488351232 → (∀ x_ ∈ l0, Ok53 x_) → (Lit.int .u8 a1).wf = true → (Lit.int .u8 a2).wf = true → (Lit.int .u8 a3).wf = true → ∃ k, blazonlaw14_LatticeLaws.f k l0 a1 a2 a3 = some true

end Go.Proofs.YtpfepkkpbampkaaDoor.PLll
