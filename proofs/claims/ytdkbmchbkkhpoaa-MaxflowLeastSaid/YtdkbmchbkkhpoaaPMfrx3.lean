-- By cprint.py, a program of this work. Lean checks it.
import Derived.Test.YtdkbmchbkkhpoaaPMfrx0
import Derived.Test.YtdkbmchbkkhpoaaPMfrx1
import Derived.Test.YtdkbmchbkkhpoaaPMfrx2
namespace Go.Proofs.Ytdkbmchbkkhpoaa.PMfr
open Go.RowKit Go.Proofs.YtdkbmchbkkhpoaaW.PrintWords Go.Proofs.YtdkbmchbkkhpoaaW.PrintLast Go.Proofs.YtdkbmchbkkhpoaaW.PrintMore
set_option linter.unusedVariables false
set_option linter.unusedSimpArgs false

/-! ### maxflow_Net_reach_maxflow_Net_room: function 38 -/
mutual
def maxflow_Net_reach_maxflow_Net_room.j0 : Nat → Int → Bool → (List (S78)) → (List Int) → (List (List Int)) → (List Int) → (List Int) → (List Int) → (List Int) → (List Int) → Int → Bool → Int → Option (List Int × Int)
  | 0, _, _, _, _, _, _, _, _, _, _, _, _, _ => none
  | k + 1, a0_3, a0_4, l0_0, l0_1, l0_2, l0_5, l0_6, x2007, x2266, x2272, x2279, x2329, y2047 => if x2329 = true then (if 0 ≤ (rd x2007 0) then (if (rd x2007 0) < (x2266.length : Int) then (if 0 ≤ ((rd_T78 l0_0 (rd (rd_L4 l0_2 (rd x2007 0)) x2279)).f0) then (if ((rd_T78 l0_0 (rd (rd_L4 l0_2 (rd x2007 0)) x2279)).f0) < (x2266.length : Int) then ((some (x2266.set ((rd_T78 l0_0 (rd (rd_L4 l0_2 (rd x2007 0)) x2279)).f0 : Int).toNat (wrap64 ((rd x2266 (rd x2007 0)) + 1)) : List Int)).bind fun y2349 => (if x2272.length < 17592186044416 then ((some (x2272 ++ [(rd_T78 l0_0 (rd (rd_L4 l0_2 (rd x2007 0)) x2279)).f0] : List Int)).bind fun y2357 => (maxflow_Net_reach_maxflow_Net_room.l0 k a0_3 a0_4 l0_0 l0_1 l0_2 l0_5 l0_6 x2007 y2349 y2357 (wrap64 (x2279 + 1)) y2047)) else (none))) else (none)) else (none)) else (none)) else (none)) else (maxflow_Net_reach_maxflow_Net_room.l0 k a0_3 a0_4 l0_0 l0_1 l0_2 l0_5 l0_6 x2007 x2266 x2272 (wrap64 (x2279 + 1)) y2047)
def maxflow_Net_reach_maxflow_Net_room.l0 : Nat → Int → Bool → (List (S78)) → (List Int) → (List (List Int)) → (List Int) → (List Int) → (List Int) → (List Int) → (List Int) → Int → Int → Option (List Int × Int)
  | 0, _, _, _, _, _, _, _, _, _, _, _, _ => none
  | k + 1, a0_3, a0_4, l0_0, l0_1, l0_2, l0_5, l0_6, x2007, x2266, x2272, x2279, y2047 => if x2279 < ((rd_L4 l0_2 (rd x2007 0)).length : Int) then (if 0 ≤ x2279 then (if 0 ≤ (rd (rd_L4 l0_2 (rd x2007 0)) x2279) then (if (rd (rd_L4 l0_2 (rd x2007 0)) x2279) < (l0_0.length : Int) then (if 0 ≤ ((rd_T78 l0_0 (rd (rd_L4 l0_2 (rd x2007 0)) x2279)).f0) then (if ((rd_T78 l0_0 (rd (rd_L4 l0_2 (rd x2007 0)) x2279)).f0) < (x2266.length : Int) then (if (rd x2266 ((rd_T78 l0_0 (rd (rd_L4 l0_2 (rd x2007 0)) x2279)).f0)) = 0 then ((maxflow_Net_room.f (some (⟨l0_0, l0_1, l0_2, a0_3, a0_4, l0_5, l0_6, (⟨y2047⟩ : S72)⟩ : S74) : Option S74) (rd (rd_L4 l0_2 (rd x2007 0)) x2279)).bind fun t2372 => (maxflow_Net_reach_maxflow_Net_room.j0 k a0_3 a0_4 l0_0 l0_1 l0_2 l0_5 l0_6 x2007 x2266 x2272 x2279 t2372 y2047)) else (maxflow_Net_reach_maxflow_Net_room.j0 k a0_3 a0_4 l0_0 l0_1 l0_2 l0_5 l0_6 x2007 x2266 x2272 x2279 false y2047)) else (none)) else (none)) else (none)) else (none)) else (none)) else (maxflow_Net_reach_maxflow_Net_room.l1 k a0_3 a0_4 l0_0 l0_1 l0_2 l0_5 l0_6 x2266 x2272 y2047)
def maxflow_Net_reach_maxflow_Net_room.l1 : Nat → Int → Bool → (List (S78)) → (List Int) → (List (List Int)) → (List Int) → (List Int) → (List Int) → (List Int) → Int → Option (List Int × Int)
  | 0, _, _, _, _, _, _, _, _, _, _ => none
  | k + 1, a0_3, a0_4, l0_0, l0_1, l0_2, l0_5, l0_6, x2001, x2007, x2018 => if (x2007.length : Int) > 0 then (if 0 < (x2007.length : Int) then (if 1 ≤ (x2007.length : Int) then ((some (x2007.drop (1 : Int).toNat : List Int)).bind fun y2038 => ((some (wrap64 (x2018 + 1) : Int)).bind fun y2047 => (if 0 ≤ (rd x2007 0) then (if (rd x2007 0) < (l0_2.length : Int) then (maxflow_Net_reach_maxflow_Net_room.l0 k a0_3 a0_4 l0_0 l0_1 l0_2 l0_5 l0_6 x2007 x2001 y2038 0 y2047) else (none)) else (none)))) else (none)) else (none)) else (some (x2001, x2018))
end
def maxflow_Net_reach_maxflow_Net_room.f (k : Nat) (l0_0 : List (S78)) (l0_1 : List Int) (l0_2 : List (List Int)) (a0_3 : Int) (a0_4 : Bool) (l0_5 : List Int) (l0_6 : List Int) (a0_7 : Int) (a1 : Int) : Option (List Int × Int) := if 0 ≤ (l0_2.length : Int) then (if ((l0_2.length : Int) : Int).toNat * 8 ≤ 281474976710656 then ((some (List.replicate ((l0_2.length : Int) : Int).toNat 0 : List Int)).bind fun y1194 => (if 0 ≤ a1 then (if a1 < (y1194.length : Int) then ((some (y1194.set (a1 : Int).toNat 1 : List Int)).bind fun y1208 => ((some ([a1] : List Int)).bind fun y1217 => (maxflow_Net_reach_maxflow_Net_room.l1 k a0_3 a0_4 l0_0 l0_1 l0_2 l0_5 l0_6 y1208 y1217 a0_7))) else (none)) else (none))) else (none)) else (none)

set_option maxHeartbeats 8000000 in
set_option maxRecDepth 100000 in
theorem maxflow_Net_reach_maxflow_Net_room.calls (k : Nat) (g0 : Nat) (A0_0 : Option Addr) (c0_0 : Nat) (l0_0 : List (S78)) (A0_1 : Option Addr) (c0_1 : Nat) (l0_1 : List Int) (A0_2 : Option Addr) (c0_2 : Nat) (l0_2 : List (List Int)) (a0_3 : Int) (a0_4 : Bool) (A0_5 : Option Addr) (c0_5 : Nat) (l0_5 : List Int) (A0_6 : Option Addr) (c0_6 : Nat) (l0_6 : List Int) (a0_7 : Int) (a1 : Int) (r1 : List Int) (r2 : Int) (c : Nat → Nat) (w : World) (hc : ∀ k, c k < 10) (HP0 : Bx c 1 w g0 74 ([.slice A0_0 l0_0.length c0_0, .slice A0_1 l0_1.length c0_1, .slice A0_2 l0_2.length c0_2, .int .i64 a0_3, .bool a0_4, .slice A0_5 l0_5.length c0_5, .slice A0_6 l0_6.length c0_6, .int .i64 a0_7])) (HP0_0 : Ft c [0] w (fun w_ => k78.C w_ A0_0 l0_0.length l0_0)) (HCP0_0 : l0_0.length ≤ c0_0) (HP0_1 : Ft c [0] w (fun w_ => (Kd.int .i64).C w_ A0_1 l0_1.length l0_1)) (HCP0_1 : l0_1.length ≤ c0_1) (HP0_2 : Ft c [0] w (fun w_ => (Kd.slice 3 (Kd.int .i64)).C w_ A0_2 l0_2.length l0_2)) (HCP0_2 : l0_2.length ≤ c0_2) (HP0_5 : Ft c [0] w (fun w_ => (Kd.int .i64).C w_ A0_5 l0_5.length l0_5)) (HCP0_5 : l0_5.length ≤ c0_5) (HP0_6 : Ft c [0] w (fun w_ => (Kd.int .i64).C w_ A0_6 l0_6.length l0_6)) (HCP0_6 : l0_6.length ≤ c0_6) (H : maxflow_Net_reach_maxflow_Net_room.f k l0_0 l0_1 l0_2 a0_3 a0_4 l0_5 l0_6 a0_7 a1 = some (r1, r2)) :
    Calls Try.prog 38 #[.pointer (some ⟨g0, 0, none⟩), .int .i64 a1, .func (.func 40) #[.pointer (some ⟨g0, 0, none⟩)] #[]] w fun e w' => ∃ (c' : Nat → Nat) (A_r1 : Option Addr) (c_r1 : Nat), e = .returned (.slice A_r1 r1.length c_r1) ∧ Step c w c' w' [1] ∧ Own c' 5 w' (Kd.int .i64) 3 (.slice A_r1 r1.length c_r1) r1 ∧ r1.length ≤ c_r1 ∧ Bx c' 1 w' g0 74 ([.slice A0_0 l0_0.length c0_0, .slice A0_1 l0_1.length c0_1, .slice A0_2 l0_2.length c0_2, .int .i64 a0_3, .bool a0_4, .slice A0_5 l0_5.length c0_5, .slice A0_6 l0_6.length c0_6, .int .i64 r2]) := by
 unfold maxflow_Net_reach_maxflow_Net_room.f at H
 have HS := Step.refl c w [1]
 go_enter Try.func38, Try.ntmps38
 refine wp_seq_k fun K1190 hK1190 => ?_
 refine wl_region ?_
 refine st (.slice none 0 0) rfl rfl (xr_assign _ rfl rfl) ?_
 refine wl_end ?_
 (try simp only [ls0, ls1])
 refine hK1190 _ _ ?_
 (try clear hK1190 K1190)
 refine wp_seq_k fun K1191 hK1191 => ?_
 refine wl_region ?_
 refine mv_ rfl ?_
 refine st (.pointer (some ⟨g0, 0, none⟩)) rfl rfl (xr_nilCheck _ rfl rfl) ?_
 refine st (.pointer (some ⟨g0, 2, none⟩)) rfl rfl (xr_fieldAddr _ _ rfl rfl (bx_field2 Try.underlying74 rfl rfl (by kernel_rfl))) ?_
 refine st (.slice A0_2 l0_2.length c0_2) rfl rfl (xr_load _ _ rfl rfl (load_cell Try.underlying66 rfl (bx_cell (HP0).2 2 rfl))) ?_
 simp only [ls0, ls1]
 refine st (.int .i64 (l0_2.length : Int)) rfl rfl (xr_builtin #[.slice A0_2 l0_2.length c0_2] (.int .i64 (l0_2.length : Int)) rfl (mp_ rfl) (by first | rfl | (go_simp; done) | (go_simp; rfl) | (go_simp; exact i64_w _) | (go_simp; exact i32_w _))) ?_
 obtain ⟨c1192, H⟩ := if_some H
 obtain ⟨c1193, H⟩ := if_some H
 obtain ⟨y1194, A1195, H⟩ := bnd H
 refine Own.make (Kd.int .i64) (C := c) (i := 11) rfl 3 rfl 47 _ _ rfl (l0_2.length : Int) rfl rfl Try.underlying47 (.int .i64 0) 8 info3 rfl (by decide) (by decide) 0 (fun _ _ => rfl) (by first | decide | assumption | omega) (by first | decide | assumption | omega) (Option.some.inj A1195) ?_
 intro A1196 cp1197 w1198 C1199 HO1200 HC1201 hs1202
 replace HP0 := HP0.thru hs1202 rfl
 replace HP0_0 := HP0_0.thru hs1202 rfl
 replace HP0_1 := HP0_1.thru hs1202 rfl
 replace HP0_2 := HP0_2.thru hs1202 rfl
 replace HP0_5 := HP0_5.thru hs1202 rfl
 replace HP0_6 := HP0_6.thru hs1202 rfl
 replace HS := HS.trans hs1202 hc rfl
 (try simp only [Act.put, List.setIfInBounds_toArray, ls0, ls1])
 refine as_ rfl ?_
 refine wl_end ?_
 (try simp only [ls0, ls1])
 refine hK1191 _ _ ?_
 (try clear hK1191 K1191)
 refine wp_seq_k fun K1203 hK1203 => ?_
 refine wl_region ?_
 refine mv_ rfl ?_
 refine mv_ rfl ?_
 obtain ⟨c1204, H⟩ := if_some H
 obtain ⟨c1205, H⟩ := if_some H
 obtain ⟨g1206, hA1207⟩ := HO1200.form (pos_of (j := a1) (by first | assumption | decide) (by first | assumption | omega))
 refine st (.pointer (some ((⟨g1206, 0, none⟩ : Addr).add ((a1 : Int).toNat * 1)))) rfl rfl (xr_indexAddr _ _ _ rfl rfl rfl (index_at Try.underlying47 info3 hA1207 (by first | assumption | decide | omega) (by first | assumption | decide | omega))) ?_
 obtain ⟨y1208, A1209, H⟩ := bnd H
 refine Own.store1 (Kd.int .i64) (C := C1199) (i := 11) rfl rfl 3 _ _ rfl 3 1 a1 y1194 1 (.int .i64 1) [.int .i64 1] hA1207 rfl rfl rfl rfl (by kernel_rfl) (by simp [Value.oneCell']) rfl HO1200 (by decide) (by first | assumption | decide | omega) (by first | assumption | decide | omega) (fk_int .i64 _ _ 1) (Option.some.inj A1209) ?_
 intro w1210 C1211 HO1212 HC1214 hs1213
 replace HP0 := HP0.thru hs1213 rfl
 replace HP0_0 := HP0_0.thru hs1213 rfl
 replace HP0_1 := HP0_1.thru hs1213 rfl
 replace HP0_2 := HP0_2.thru hs1213 rfl
 replace HP0_5 := HP0_5.thru hs1213 rfl
 replace HP0_6 := HP0_6.thru hs1213 rfl
 replace HS := HS.trans hs1213 hc rfl
 (try simp only [ls0, ls1])
 (try rw [show y1194.length = y1208.length by rw [← Option.some.inj A1209, List.length_set]])
 refine wl_end ?_
 (try simp only [ls0, ls1])
 refine hK1203 _ _ ?_
 (try clear hK1203 K1203)
 refine wp_seq_k fun K1215 hK1215 => ?_
 refine wp_seq_k fun K1216 hK1216 => ?_
 refine wl_region ?_
 refine mv_ rfl ?_
 obtain ⟨y1217, A1218, H⟩ := bnd H
 refine Own.lit (Kd.int .i64) (C := C1211) (i := 12) rfl 3 rfl (xs := [a1]) (inner := [.int .i64 a1]) (by first | (go_simp; done) | (go_simp; rfl)) (reps_cons (fk_int .i64 _ _ a1) rfl (Reps.none _ _)) (by simp only [List.length_cons, List.length_nil]; omega) (Option.some.inj A1218) ?_
 intro A1219 cp1220 w1221 C1222 HO1223 HC1224 hs1225
 replace HP0 := HP0.thru hs1225 rfl
 replace HP0_0 := HP0_0.thru hs1225 rfl
 replace HP0_1 := HP0_1.thru hs1225 rfl
 replace HP0_2 := HP0_2.thru hs1225 rfl
 replace HP0_5 := HP0_5.thru hs1225 rfl
 replace HP0_6 := HP0_6.thru hs1225 rfl
 replace HO1212 := HO1212.thru hs1225 rfl
 replace HS := HS.trans hs1225 hc rfl
 (try simp only [Act.put, List.setIfInBounds_toArray, ls0, ls1])
 refine as_ rfl ?_
 refine wl_end ?_
 (try simp only [ls0, ls1])
 refine hK1216 _ _ ?_
 (try clear hK1216 K1216)
 refine wp_block ?_
 (try simp only [ls0, ls1])
 refine wp_looped (looped_fin (fun kq2022 a_ w2021 => ∃ (C2020 : Nat → Nat) (x2018 : Int) (A2002 : Option Addr) (n2003 cp2004 : Nat) (x2001 : List Int) (A2008 : Option Addr) (n2009 cp2010 : Nat) (x2007 : List Int) (g_ : Nat → Value), a_ = ⟨#[.pointer (some ⟨g0, 0, none⟩), (g_ 1), .func (.func 40) #[.pointer (some ⟨g0, 0, none⟩)] #[], (g_ 3), (g_ 4), (g_ 5), (g_ 6), .slice A2002 n2003 cp2004, .slice A2008 n2009 cp2010, (g_ 9), (g_ 10), (g_ 11), (g_ 12), (g_ 13), (g_ 14), (g_ 15), (g_ 16), (g_ 17), (g_ 18), (g_ 19), (g_ 20), (g_ 21), (g_ 22), (g_ 23), (g_ 24), (g_ 25), (g_ 26), (g_ 27), (g_ 28), (g_ 29), (g_ 30), (g_ 31), (g_ 32), (g_ 33), (g_ 34), (g_ 35), (g_ 36), (g_ 37), (g_ 38), (g_ 39), (g_ 40), (g_ 41), (g_ 42), (g_ 43), (g_ 44), (g_ 45), (g_ 46), (g_ 47), (g_ 48), (g_ 49), (g_ 50), (g_ 51), (g_ 52), (g_ 53), (g_ 54), (g_ 55), (g_ 56), (g_ 57), (g_ 58), (g_ 59), (g_ 60), (g_ 61), (g_ 62), (g_ 63), (g_ 64), (g_ 65), (g_ 66), (g_ 67), (g_ 68), (g_ 69), (g_ 70), (g_ 71), (g_ 72), (g_ 73), (g_ 74), (g_ 75), (g_ 76), (g_ 77), (g_ 78), (g_ 79)], []⟩ ∧ Step c w C2020 w2021 [1] ∧ kq2022 ≤ k ∧ (Own C2020 13 w2021 (Kd.int .i64) 3 (.slice A2002 n2003 cp2004) x2001) ∧ (n2003 ≤ cp2004) ∧ (OwnG false C2020 14 w2021 .i64 3 (.slice A2008 n2009 cp2010) x2007) ∧ (n2009 ≤ cp2010) ∧ (Ft C2020 [0] w2021 (fun w_ => k78.C w_ A0_0 l0_0.length l0_0)) ∧ (Ft C2020 [0] w2021 (fun w_ => (Kd.int .i64).C w_ A0_1 l0_1.length l0_1)) ∧ (Ft C2020 [0] w2021 (fun w_ => (Kd.slice 3 (Kd.int .i64)).C w_ A0_2 l0_2.length l0_2)) ∧ (Ft C2020 [0] w2021 (fun w_ => (Kd.int .i64).C w_ A0_5 l0_5.length l0_5)) ∧ (Ft C2020 [0] w2021 (fun w_ => (Kd.int .i64).C w_ A0_6 l0_6.length l0_6)) ∧ (Bx C2020 1 w2021 g0 74 ([.slice A0_0 l0_0.length c0_0, .slice A0_1 l0_1.length c0_1, .slice A0_2 l0_2.length c0_2, .int .i64 a0_3, .bool a0_4, .slice A0_5 l0_5.length c0_5, .slice A0_6 l0_6.length c0_6, .int .i64 x2018])) ∧ maxflow_Net_reach_maxflow_Net_room.l1 kq2022 a0_3 a0_4 l0_0 l0_1 l0_2 l0_5 l0_6 x2001 x2007 x2018 = some (r1, r2)) ?step fun hL_ => ?init)
 case init =>
  replace HP0 := Bx.recol (a := 11) (b := 13) HP0 (by decide)
  replace HP0_0 := Ft.recol (a := 11) (b := 13) HP0_0 (.inl rfl)
  replace HP0_1 := Ft.recol (a := 11) (b := 13) HP0_1 (.inl rfl)
  replace HP0_2 := Ft.recol (a := 11) (b := 13) HP0_2 (.inl rfl)
  replace HP0_5 := Ft.recol (a := 11) (b := 13) HP0_5 (.inl rfl)
  replace HP0_6 := Ft.recol (a := 11) (b := 13) HP0_6 (.inl rfl)
  replace HO1212 := Own.recolor (b := 13) HO1212 (by decide)
  replace HO1223 := Own.recol (a := 11) (b := 13) HO1223 (by decide) (by decide)
  replace HS := Step.recol (a := 11) (b := 13) HS hc (by decide)
  replace HP0 := Bx.recol (a := 12) (b := 14) HP0 (by decide)
  replace HP0_0 := Ft.recol (a := 12) (b := 14) HP0_0 (.inl rfl)
  replace HP0_1 := Ft.recol (a := 12) (b := 14) HP0_1 (.inl rfl)
  replace HP0_2 := Ft.recol (a := 12) (b := 14) HP0_2 (.inl rfl)
  replace HP0_5 := Ft.recol (a := 12) (b := 14) HP0_5 (.inl rfl)
  replace HP0_6 := Ft.recol (a := 12) (b := 14) HP0_6 (.inl rfl)
  replace HO1212 := Own.recol (a := 12) (b := 14) HO1212 (by decide) (by decide)
  replace HO1223 := Own.recolor (b := 14) HO1223 (by decide)
  replace HS := Step.recol (a := 12) (b := 14) HS hc (by decide)
  exact jmpL (fun a_ h_ => hL_ k a_ _ h_) (fun g_ => ⟨_, a0_7, A1196, y1208.length, cp1197, y1208, A1219, y1217.length, cp1220, y1217, g_, rfl, HS, Nat.le_refl _, HO1212, HC1214, (OwnG.of HO1223), HC1224, HP0_0, HP0_1, HP0_2, HP0_5, HP0_6, HP0, H⟩) rfl
 case step =>
  intro kq2022 ih2025 a2026 w2021 hr2027
  obtain ⟨C2020, x2018, A2002, n2003, cp2004, x2001, A2008, n2009, cp2010, x2007, g_, rfl, HS2023, hk2024, HJ2006, HC2005, HJ2012, HC2011, HJ2013, HJ2014, HJ2015, HJ2016, HJ2017, HJ2019, H⟩ := hr2027
  refine looped_round ?_
  obtain rfl : n2003 = x2001.length := HJ2006.at_.1
  obtain rfl : n2009 = x2007.length := HJ2012.at_.1
  cases kq2022 with
  | zero => exact absurd H (by simp [maxflow_Net_reach_maxflow_Net_room.l1])
  | succ k2028 =>
   simp only [maxflow_Net_reach_maxflow_Net_room.l1] at H
   refine wp_seq_k fun K2029 hK2029 => ?_
   refine wp_seq_k fun K2030 hK2030 => ?_
   refine wl_region ?_
   refine mv_ rfl ?_
   refine st (.int .i64 (x2007.length : Int)) rfl rfl (xr_builtin #[.slice A2008 x2007.length cp2010] (.int .i64 (x2007.length : Int)) rfl (mp_ rfl) (by first | rfl | (go_simp; done) | (go_simp; rfl) | (go_simp; exact i64_w _) | (go_simp; exact i32_w _))) ?_
   refine st (.bool (decide ((x2007.length : Int) > 0))) rfl rfl (xr_bin _ _ _ rfl rfl rfl (B.gtr_i64 _ _)) ?_
   refine wl_end ?_
   (try simp only [ls0, ls1])
   refine hK2030 _ _ ?_
   (try clear hK2030 K2030)
   by_cases c2031 : (x2007.length : Int) > 0
   ·rw [if_pos c2031] at H
    (try rw [(decide_eq_true c2031)])
    refine wp_cond_true rfl ?_
    refine wp_skip ?_
    (try simp only [ls0, ls1])
    refine hK2029 _ _ ?_
    (try clear hK2029 K2029)
    refine wp_block ?_
    refine wp_seq_k fun K2032 hK2032 => ?_
    refine wl_region ?_
    refine mv_ rfl ?_
    obtain ⟨c2033, H⟩ := if_some H
    obtain ⟨ad2034, hA2035⟩ := c_addr (Ft.now (HJ2012.ft)) (pos_of (j := 0) (by first | assumption | decide) (by first | assumption | omega))
    refine st (.pointer (some (ad2034.add ((0 : Int).toNat * 1)))) rfl rfl (xr_indexAddr _ _ _ rfl rfl rfl (index_at Try.underlying47 info3 hA2035 (by first | assumption | decide | omega) (by first | assumption | decide | omega))) ?_
    refine st (.int .i64 (rd x2007 0)) rfl rfl (xr_load _ _ rfl rfl (load_int Try.underlying3 rfl hA2035 (Ft.now (HJ2012.ft)) (by first | assumption | decide | omega) (by first | assumption | decide | omega))) ?_
    refine as_ rfl ?_
    simp only [ls0, ls1]
    refine wl_end ?_
    (try simp only [ls0, ls1])
    refine hK2032 _ _ ?_
    (try clear hK2032 K2032)
    refine wp_seq_k fun K2036 hK2036 => ?_
    refine wl_region ?_
    refine mv_ rfl ?_
    obtain ⟨c2037, H⟩ := if_some H
    obtain ⟨y2038, A2039, H⟩ := bnd H
    obtain ⟨iz2045, hiz2045, _, hzz2045, _⟩ := info_parts info3
    obtain ⟨A2040, cp2041, hr2044, HR2042, HC2043⟩ := OwnG.cutFrom (t := 47) 3 .i64 Try.underlying47 hiz2045 hzz2045 HJ2012 (by first | assumption | omega | decide) (by first | assumption | omega | decide) (Option.some.inj A2039)
    refine st (.slice A2040 y2038.length cp2041) rfl rfl (xr_slice (.slice A2008 x2007.length cp2010) (some (.int .i64 1)) none none (.slice A2040 y2038.length cp2041) rfl rfl rfl rfl rfl (hr2044 _)) ?_
    clear hr2044 hiz2045 hzz2045
    refine as_ rfl ?_
    refine wl_end ?_
    (try simp only [ls0, ls1])
    refine hK2036 _ _ ?_
    (try clear hK2036 K2036)
    refine wp_seq_k fun K2046 hK2046 => ?_
    refine wl_region ?_
    refine mv_ rfl ?_
    refine st (.pointer (some ⟨g0, 0, none⟩)) rfl rfl (xr_nilCheck _ rfl rfl) ?_
    refine st (.pointer (some ⟨g0, 7, none⟩)) rfl rfl (xr_fieldAddr _ _ rfl rfl (bx_field2 Try.underlying74 rfl rfl (by kernel_rfl))) ?_
    obtain ⟨y2047, A2048, H⟩ := bnd H
    refine st_call #[.pointer (some ⟨g0, 7, none⟩), .int .i64 1] rfl rfl Try.func49 (by kernel_rfl) rfl rfl (mp_ rfl) ?_
    refine atomic_add (C := C2020) (pre := [.slice A0_0 l0_0.length c0_0, .slice A0_1 l0_1.length c0_1, .slice A0_2 l0_2.length c0_2, .int .i64 a0_3, .bool a0_4, .slice A0_5 l0_5.length c0_5, .slice A0_6 l0_6.length c0_6]) (post := []) (old := x2018) (y := 1) HJ2019 (by first | (simp only [List.append_assoc, List.cons_append, List.nil_append, List.append_nil]; done) | rfl) rfl (r := y2047) (Option.some.inj A2048) (xs' := [.slice A0_0 l0_0.length c0_0, .slice A0_1 l0_1.length c0_1, .slice A0_2 l0_2.length c0_2, .int .i64 a0_3, .bool a0_4, .slice A0_5 l0_5.length c0_5, .slice A0_6 l0_6.length c0_6, .int .i64 y2047]) (by first | (simp only [List.append_assoc, List.cons_append, List.nil_append, List.append_nil]; done) | rfl) ?_
    intro w2049 HX2050 hs2051
    replace HJ2006 := HJ2006.thru hs2051 rfl
    replace HR2042 := HR2042.thru hs2051 rfl
    replace HJ2013 := HJ2013.thru hs2051 rfl
    replace HJ2014 := HJ2014.thru hs2051 rfl
    replace HJ2015 := HJ2015.thru hs2051 rfl
    replace HJ2016 := HJ2016.thru hs2051 rfl
    replace HJ2017 := HJ2017.thru hs2051 rfl
    replace HS2023 := HS2023.trans hs2051 hc rfl
    (try simp only [ls0, ls1])
    refine wl_end ?_
    (try simp only [ls0, ls1])
    refine hK2046 _ _ ?_
    (try clear hK2046 K2046)
    refine wp_seq_k fun K2052 hK2052 => ?_
    refine wl_region ?_
    refine mv_ rfl ?_
    refine st (.pointer (some ⟨g0, 0, none⟩)) rfl rfl (xr_nilCheck _ rfl rfl) ?_
    refine st (.pointer (some ⟨g0, 2, none⟩)) rfl rfl (xr_fieldAddr _ _ rfl rfl (bx_field2 Try.underlying74 rfl rfl (by kernel_rfl))) ?_
    refine st (.slice A0_2 l0_2.length c0_2) rfl rfl (xr_load _ _ rfl rfl (load_cell Try.underlying66 rfl (bx_cell (HX2050).2 2 rfl))) ?_
    simp only [ls0, ls1]
    refine mv_ rfl ?_
    obtain ⟨c2053, H⟩ := if_some H
    obtain ⟨c2054, H⟩ := if_some H
    obtain ⟨ad2055, hA2056⟩ := c_addr (Ft.now HJ2015) (pos_of (j := (rd x2007 0)) (by first | assumption | decide) (by first | assumption | omega))
    refine st (.pointer (some (ad2055.add ((rd x2007 0 : Int).toNat * 1)))) rfl rfl (xr_indexAddr _ _ _ rfl rfl rfl (index_at Try.underlying66 info47 hA2056 (by first | assumption | decide | omega) (by first | assumption | decide | omega))) ?_
    obtain ⟨csq2058, _, hKq2058, hcq2058, hinq2058⟩ := Ft.elem HJ2015 hA2056 [] (rd x2007 0) (by first | assumption | decide | omega) (by first | assumption | decide | omega) (by decide)
    obtain ⟨Aq2058_0, cpq2058_0, rfl, HCq2058_0, HRq2058_0⟩ := slice_openF hKq2058
    replace HRq2058_0 : Ft C2020 [0] w2049 (fun w_ => (Kd.int .i64).C w_ Aq2058_0 (rd_L4 l0_2 (rd x2007 0)).length (rd_L4 l0_2 (rd x2007 0))) := HRq2058_0
    refine st (.slice Aq2058_0 (rd_L4 l0_2 (rd x2007 0)).length cpq2058_0) rfl rfl (xr_load (.pointer (some (ad2055.add ((rd x2007 0 : Int).toNat * 1)))) (.slice Aq2058_0 (rd_L4 l0_2 (rd x2007 0)).length cpq2058_0) rfl rfl (load_cell Try.underlying47 rfl (by have h_ := (hcq2058 0 _ rfl); rw [add_zero_] at h_; exact h_))) ?_
    refine st (.int .i64 ((rd_L4 l0_2 (rd x2007 0)).length : Int)) rfl rfl (xr_builtin #[.slice Aq2058_0 (rd_L4 l0_2 (rd x2007 0)).length cpq2058_0] (.int .i64 ((rd_L4 l0_2 (rd x2007 0)).length : Int)) rfl (mp_ rfl) (by first | rfl | (go_simp; done) | (go_simp; rfl) | (go_simp; exact i64_w _) | (go_simp; exact i32_w _))) ?_
    simp only [ls0, ls1]
    refine st (.int .i64 0) rfl rfl (xr_move _ rfl rfl) ?_
    refine wl_end ?_
    (try simp only [ls0, ls1])
    refine hK2052 _ _ ?_
    (try clear hK2052 K2052)
    refine wp_block ?_
    (try simp only [ls0, ls1])
    refine wp_looped (looped_fin (fun kq2288 a_ w2287 => ∃ (C2286 : Nat → Nat) (x2279 : Int) (A2267 : Option Addr) (n2268 cp2269 : Nat) (x2266 : List Int) (A2273 : Option Addr) (n2274 cp2275 : Nat) (x2272 : List Int) (g_ : Nat → Value), a_ = ⟨#[.pointer (some ⟨g0, 0, none⟩), (g_ 1), .func (.func 40) #[.pointer (some ⟨g0, 0, none⟩)] #[], (g_ 3), (g_ 4), (g_ 5), (g_ 6), .slice A2267 n2268 cp2269, .slice A2273 n2274 cp2275, .int .i64 (rd x2007 0), (g_ 10), (g_ 11), (g_ 12), (g_ 13), (g_ 14), (g_ 15), (g_ 16), (g_ 17), (g_ 18), (g_ 19), (g_ 20), (g_ 21), (g_ 22), (g_ 23), (g_ 24), (g_ 25), (g_ 26), (g_ 27), (g_ 28), (g_ 29), (g_ 30), (g_ 31), (g_ 32), (g_ 33), (g_ 34), (g_ 35), (g_ 36), (g_ 37), (g_ 38), (g_ 39), (g_ 40), (g_ 41), .slice Aq2058_0 (rd_L4 l0_2 (rd x2007 0)).length cpq2058_0, .int .i64 ((rd_L4 l0_2 (rd x2007 0)).length : Int), .int .i64 x2279, (g_ 45), (g_ 46), (g_ 47), (g_ 48), (g_ 49), (g_ 50), (g_ 51), (g_ 52), (g_ 53), (g_ 54), (g_ 55), (g_ 56), (g_ 57), (g_ 58), (g_ 59), (g_ 60), (g_ 61), (g_ 62), (g_ 63), (g_ 64), (g_ 65), (g_ 66), (g_ 67), (g_ 68), (g_ 69), (g_ 70), (g_ 71), (g_ 72), (g_ 73), (g_ 74), (g_ 75), (g_ 76), (g_ 77), (g_ 78), (g_ 79)], []⟩ ∧ Step c w C2286 w2287 [1] ∧ kq2288 ≤ k2028 ∧ (Own C2286 15 w2287 (Kd.int .i64) 3 (.slice A2267 n2268 cp2269) x2266) ∧ (n2268 ≤ cp2269) ∧ (OwnG false C2286 16 w2287 .i64 3 (.slice A2273 n2274 cp2275) x2272) ∧ (n2274 ≤ cp2275) ∧ (Ft C2286 [0] w2287 (fun w_ => (Kd.int .i64).C w_ Aq2058_0 ((rd_L4 l0_2 (rd x2007 0)).length) (rd_L4 l0_2 (rd x2007 0)))) ∧ (Ft C2286 [0] w2287 (fun w_ => k78.C w_ A0_0 l0_0.length l0_0)) ∧ (Ft C2286 [0] w2287 (fun w_ => (Kd.int .i64).C w_ A0_1 l0_1.length l0_1)) ∧ (Ft C2286 [0] w2287 (fun w_ => (Kd.slice 3 (Kd.int .i64)).C w_ A0_2 l0_2.length l0_2)) ∧ (Ft C2286 [0] w2287 (fun w_ => (Kd.int .i64).C w_ A0_5 l0_5.length l0_5)) ∧ (Ft C2286 [0] w2287 (fun w_ => (Kd.int .i64).C w_ A0_6 l0_6.length l0_6)) ∧ (Bx C2286 1 w2287 g0 74 ([.slice A0_0 l0_0.length c0_0, .slice A0_1 l0_1.length c0_1, .slice A0_2 l0_2.length c0_2, .int .i64 a0_3, .bool a0_4, .slice A0_5 l0_5.length c0_5, .slice A0_6 l0_6.length c0_6, .int .i64 y2047])) ∧ maxflow_Net_reach_maxflow_Net_room.l0 kq2288 a0_3 a0_4 l0_0 l0_1 l0_2 l0_5 l0_6 x2007 x2266 x2272 x2279 y2047 = some (r1, r2)) ?step fun hL_ => ?init)
    case init =>
     replace HJ2006 := Own.recolor (b := 15) HJ2006 (by decide)
     replace HR2042 := OwnG.recol (a := 13) (b := 15) HR2042 (by decide) (by decide)
     replace HX2050 := Bx.recol (a := 13) (b := 15) HX2050 (by decide)
     replace HJ2013 := Ft.recol (a := 13) (b := 15) HJ2013 (.inl rfl)
     replace HJ2014 := Ft.recol (a := 13) (b := 15) HJ2014 (.inl rfl)
     replace HJ2015 := Ft.recol (a := 13) (b := 15) HJ2015 (.inl rfl)
     replace HJ2016 := Ft.recol (a := 13) (b := 15) HJ2016 (.inl rfl)
     replace HJ2017 := Ft.recol (a := 13) (b := 15) HJ2017 (.inl rfl)
     replace HRq2058_0 := Ft.recol (a := 13) (b := 15) HRq2058_0 (.inl rfl)
     replace HS2023 := Step.recol (a := 13) (b := 15) HS2023 hc (by decide)
     replace HJ2006 := Own.recol (a := 14) (b := 16) HJ2006 (by decide) (by decide)
     replace HR2042 := OwnG.recolor (b := 16) HR2042 (by decide)
     replace HX2050 := Bx.recol (a := 14) (b := 16) HX2050 (by decide)
     replace HJ2013 := Ft.recol (a := 14) (b := 16) HJ2013 (.inl rfl)
     replace HJ2014 := Ft.recol (a := 14) (b := 16) HJ2014 (.inl rfl)
     replace HJ2015 := Ft.recol (a := 14) (b := 16) HJ2015 (.inl rfl)
     replace HJ2016 := Ft.recol (a := 14) (b := 16) HJ2016 (.inl rfl)
     replace HJ2017 := Ft.recol (a := 14) (b := 16) HJ2017 (.inl rfl)
     replace HRq2058_0 := Ft.recol (a := 14) (b := 16) HRq2058_0 (.inl rfl)
     replace HS2023 := Step.recol (a := 14) (b := 16) HS2023 hc (by decide)
     exact jmpL (fun a_ h_ => hL_ k2028 a_ _ h_) (fun g_ => ⟨_, 0, A2002, x2001.length, cp2004, x2001, A2040, y2038.length, cp2041, y2038, g_, rfl, HS2023, Nat.le_refl _, HJ2006, HC2005, HR2042, HC2043, HRq2058_0, HJ2013, HJ2014, HJ2015, HJ2016, HJ2017, HX2050, H⟩) rfl
    case step =>
     intro kq2288 ih2291 a2292 w2287 hr2293
     obtain ⟨C2286, x2279, A2267, n2268, cp2269, x2266, A2273, n2274, cp2275, x2272, g_, rfl, HS2289, hk2290, HJ2271, HC2270, HJ2277, HC2276, HJ2278, HJ2280, HJ2281, HJ2282, HJ2283, HJ2284, HJ2285, H⟩ := hr2293
     refine looped_round ?_
     obtain rfl : n2268 = x2266.length := HJ2271.at_.1
     obtain rfl : n2274 = x2272.length := HJ2277.at_.1
     cases kq2288 with
     | zero => exact absurd H (by simp [maxflow_Net_reach_maxflow_Net_room.l0])
     | succ k2294 =>
      simp only [maxflow_Net_reach_maxflow_Net_room.l0] at H
      refine wp_seq_k fun K2295 hK2295 => ?_
      refine wl_region ?_
      refine st (.bool (decide (x2279 < ((rd_L4 l0_2 (rd x2007 0)).length : Int)))) rfl rfl (xr_bin _ _ _ rfl rfl rfl (B.lss_i64 _ _)) ?_
      refine wl_end ?_
      (try simp only [ls0, ls1])
      refine hK2295 _ _ ?_
      (try clear hK2295 K2295)
      refine wp_seq_k fun K2296 hK2296 => ?_
      by_cases c2297 : x2279 < ((rd_L4 l0_2 (rd x2007 0)).length : Int)
      ·rw [if_pos c2297] at H
       (try rw [(decide_eq_true c2297)])
       refine wp_cond_true rfl ?_
       refine wp_skip ?_
       (try simp only [ls0, ls1])
       refine hK2296 _ _ ?_
       (try clear hK2296 K2296)
       refine wp_seq_k fun K2298 hK2298 => ?_
       refine wp_block ?_
       refine wp_seq_k fun K2299 hK2299 => ?_
       refine wl_region ?_
       obtain ⟨c2300, H⟩ := if_some H
       obtain ⟨ad2301, hA2302⟩ := c_addr (Ft.now HJ2278) (pos_of (j := x2279) (by first | assumption | decide) (by first | assumption | omega))
       refine st (.pointer (some (ad2301.add ((x2279 : Int).toNat * 1)))) rfl rfl (xr_indexAddr _ _ _ rfl rfl rfl (index_at Try.underlying47 info3 hA2302 (by first | assumption | decide | omega) (by first | assumption | decide | omega))) ?_
       refine st (.int .i64 (rd (rd_L4 l0_2 (rd x2007 0)) x2279)) rfl rfl (xr_load _ _ rfl rfl (load_int Try.underlying3 rfl hA2302 (Ft.now HJ2278) (by first | assumption | decide | omega) (by first | assumption | decide | omega))) ?_
       refine as_ rfl ?_
       refine wl_end ?_
       (try simp only [ls0, ls1])
       refine hK2299 _ _ ?_
       (try clear hK2299 K2299)
       refine wp_seq_k fun K2303 hK2303 => ?_
       refine wl_region ?_
       refine mv_ rfl ?_
       refine st (.pointer (some ⟨g0, 0, none⟩)) rfl rfl (xr_nilCheck _ rfl rfl) ?_
       refine st (.pointer (some ⟨g0, 0, none⟩)) rfl rfl (xr_fieldAddr _ _ rfl rfl (bx_field2 Try.underlying74 rfl rfl (by kernel_rfl))) ?_
       refine st (.slice A0_0 l0_0.length c0_0) rfl rfl (xr_load _ _ rfl rfl (load_cell Try.underlying67 rfl (bx_cell (HJ2285).2 0 rfl))) ?_
       simp only [ls0, ls1]
       refine mv_ rfl ?_
       obtain ⟨c2304, H⟩ := if_some H
       obtain ⟨c2305, H⟩ := if_some H
       obtain ⟨ad2306, hA2307⟩ := c_addr (Ft.now HJ2280) (pos_of (j := (rd (rd_L4 l0_2 (rd x2007 0)) x2279)) (by first | assumption | decide) (by first | assumption | omega))
       refine st (.pointer (some (ad2306.add ((rd (rd_L4 l0_2 (rd x2007 0)) x2279 : Int).toNat * 2)))) rfl rfl (xr_indexAddr _ _ _ rfl rfl rfl (index_at Try.underlying67 info78 hA2307 (by first | assumption | decide | omega) (by first | assumption | decide | omega))) ?_
       refine st (.pointer (some ((ad2306.add ((rd (rd_L4 l0_2 (rd x2007 0)) x2279 : Int).toNat * 2)).add 0))) rfl rfl (xr_fieldAddr _ _ rfl rfl (field_at2 Try.underlying78 rfl rfl (by kernel_rfl))) ?_
       refine st (.int .i64 ((rd_T78 l0_0 (rd (rd_L4 l0_2 (rd x2007 0)) x2279)).f0)) rfl rfl (xr_load (.pointer (some ((ad2306.add ((rd (rd_L4 l0_2 (rd x2007 0)) x2279 : Int).toNat * 2)).add 0))) (.int .i64 ((rd_T78 l0_0 (rd (rd_L4 l0_2 (rd x2007 0)) x2279)).f0)) rfl rfl (by obtain ⟨ad_, cs_, e_, _, hK_, hc_⟩ := Kd.C_get (Ft.now HJ2280) z78 (rd (rd_L4 l0_2 (rd x2007 0)) x2279) (by first | assumption | decide | omega) (by first | assumption | decide | omega); rw [hA2307] at e_; injection e_ with e_; subst e_; obtain rfl := k78_open hK_; exact load_cell Try.underlying3 rfl (by first | (rw [add_add]; exact hc_ 0 _ rfl) | (have h_ := hc_ 0 _ rfl; rw [Nat.add_zero] at h_; exact h_)))) ?_
       simp only [ls0, ls1]
       refine as_ rfl ?_
       refine wl_end ?_
       (try simp only [ls0, ls1])
       refine hK2303 _ _ ?_
       (try clear hK2303 K2303)
       refine wp_seq_k fun K2309 hK2309 => ?_
       have hj2322 : ∀ (kq2336 : Nat) (C2323 : Nat → Nat) (w2324 : World) (x2329 : Bool) (g_ : Nat → Value), Step c w C2323 w2324 [1] → kq2336 ≤ k2294 → (Own C2323 15 w2324 (Kd.int .i64) 3 (.slice A2267 x2266.length cp2269) x2266) → (OwnG false C2323 16 w2324 .i64 3 (.slice A2273 x2272.length cp2275) x2272) → (Ft C2323 [0] w2324 (fun w_ => (Kd.int .i64).C w_ Aq2058_0 ((rd_L4 l0_2 (rd x2007 0)).length) (rd_L4 l0_2 (rd x2007 0)))) → (Ft C2323 [0] w2324 (fun w_ => k78.C w_ A0_0 l0_0.length l0_0)) → (Ft C2323 [0] w2324 (fun w_ => (Kd.int .i64).C w_ A0_1 l0_1.length l0_1)) → (Ft C2323 [0] w2324 (fun w_ => (Kd.slice 3 (Kd.int .i64)).C w_ A0_2 l0_2.length l0_2)) → (Ft C2323 [0] w2324 (fun w_ => (Kd.int .i64).C w_ A0_5 l0_5.length l0_5)) → (Ft C2323 [0] w2324 (fun w_ => (Kd.int .i64).C w_ A0_6 l0_6.length l0_6)) → (Bx C2323 1 w2324 g0 74 ([.slice A0_0 l0_0.length c0_0, .slice A0_1 l0_1.length c0_1, .slice A0_2 l0_2.length c0_2, .int .i64 a0_3, .bool a0_4, .slice A0_5 l0_5.length c0_5, .slice A0_6 l0_6.length c0_6, .int .i64 y2047])) → maxflow_Net_reach_maxflow_Net_room.j0 kq2336 a0_3 a0_4 l0_0 l0_1 l0_2 l0_5 l0_6 x2007 x2266 x2272 x2279 x2329 y2047 = some (r1, r2) → K2309 ⟨#[.pointer (some ⟨g0, 0, none⟩), (g_ 1), .func (.func 40) #[.pointer (some ⟨g0, 0, none⟩)] #[], (g_ 3), (g_ 4), (g_ 5), (g_ 6), .slice A2267 x2266.length cp2269, .slice A2273 x2272.length cp2275, .int .i64 (rd x2007 0), (g_ 10), (g_ 11), .int .i64 ((rd_T78 l0_0 (rd (rd_L4 l0_2 (rd x2007 0)) x2279)).f0), (g_ 13), (g_ 14), (g_ 15), (g_ 16), (g_ 17), (g_ 18), (g_ 19), (g_ 20), (g_ 21), (g_ 22), (g_ 23), (g_ 24), (g_ 25), (g_ 26), (g_ 27), (g_ 28), (g_ 29), (g_ 30), (g_ 31), (g_ 32), (g_ 33), (g_ 34), (g_ 35), (g_ 36), (g_ 37), (g_ 38), (g_ 39), (g_ 40), (g_ 41), .slice Aq2058_0 (rd_L4 l0_2 (rd x2007 0)).length cpq2058_0, .int .i64 ((rd_L4 l0_2 (rd x2007 0)).length : Int), .int .i64 x2279, (g_ 45), (g_ 46), (g_ 47), (g_ 48), (g_ 49), (g_ 50), (g_ 51), (g_ 52), (g_ 53), (g_ 54), (g_ 55), (g_ 56), (g_ 57), (g_ 58), (g_ 59), (g_ 60), (g_ 61), (g_ 62), (g_ 63), (g_ 64), .bool x2329, (g_ 66), (g_ 67), (g_ 68), (g_ 69), (g_ 70), (g_ 71), (g_ 72), (g_ 73), (g_ 74), (g_ 75), (g_ 76), (g_ 77), (g_ 78), (g_ 79)], []⟩ w2324 := by
        intro kq2336 C2323 w2324 x2329 g_ HS2325 hk2337 HJ2326 HJ2327 HJ2328 HJ2330 HJ2331 HJ2332 HJ2333 HJ2334 HJ2335 H
        cases kq2336 with
        | zero => exact absurd H (by simp [maxflow_Net_reach_maxflow_Net_room.j0])
        | succ k2338 =>
         simp only [maxflow_Net_reach_maxflow_Net_room.j0] at H
         refine hK2309 _ _ ?_
         (try clear hK2309)
         by_cases c2339 : x2329 = true
         ·rw [if_pos c2339] at H
          (try rw [c2339])
          refine wp_cond_true rfl ?_
          refine wp_seq_k fun K2340 hK2340 => ?_
          refine wl_region ?_
          refine mv_ rfl ?_
          refine mv_ rfl ?_
          refine mv_ rfl ?_
          simp only [ls0, ls1]
          refine mv_ rfl ?_
          obtain ⟨c2341, H⟩ := if_some H
          obtain ⟨c2342, H⟩ := if_some H
          obtain ⟨g2343, hA2344⟩ := HJ2326.form (pos_of (j := (rd x2007 0)) (by first | assumption | decide) (by first | assumption | omega))
          refine st (.pointer (some ((⟨g2343, 0, none⟩ : Addr).add ((rd x2007 0 : Int).toNat * 1)))) rfl rfl (xr_indexAddr _ _ _ rfl rfl rfl (index_at Try.underlying47 info3 hA2344 (by first | assumption | decide | omega) (by first | assumption | decide | omega))) ?_
          refine st (.int .i64 (rd x2266 (rd x2007 0))) rfl rfl (xr_load _ _ rfl rfl (load_int Try.underlying3 rfl hA2344 (Ft.now (HJ2326.ft)) (by first | assumption | decide | omega) (by first | assumption | decide | omega))) ?_
          refine st (.int .i64 (wrap64 ((rd x2266 (rd x2007 0)) + 1))) rfl rfl (xr_bin _ _ _ rfl rfl rfl (B.add_i64 _ _)) ?_
          simp only [ls0, ls1]
          obtain ⟨c2345, H⟩ := if_some H
          obtain ⟨c2346, H⟩ := if_some H
          obtain ⟨g2347, hA2348⟩ := HJ2326.form (pos_of (j := ((rd_T78 l0_0 (rd (rd_L4 l0_2 (rd x2007 0)) x2279)).f0)) (by first | assumption | decide) (by first | assumption | omega))
          refine st (.pointer (some ((⟨g2347, 0, none⟩ : Addr).add (((rd_T78 l0_0 (rd (rd_L4 l0_2 (rd x2007 0)) x2279)).f0 : Int).toNat * 1)))) rfl rfl (xr_indexAddr _ _ _ rfl rfl rfl (index_at Try.underlying47 info3 hA2348 (by first | assumption | decide | omega) (by first | assumption | decide | omega))) ?_
          obtain ⟨y2349, A2350, H⟩ := bnd H
          refine Own.store1 (Kd.int .i64) (C := C2323) (i := 15) rfl rfl 3 _ _ rfl 3 1 ((rd_T78 l0_0 (rd (rd_L4 l0_2 (rd x2007 0)) x2279)).f0) x2266 (wrap64 ((rd x2266 (rd x2007 0)) + 1)) (.int .i64 (wrap64 ((rd x2266 (rd x2007 0)) + 1))) [.int .i64 (wrap64 ((rd x2266 (rd x2007 0)) + 1))] hA2348 rfl rfl rfl rfl (by kernel_rfl) (by simp [Value.oneCell']) rfl HJ2326 (by decide) (by first | assumption | decide | omega) (by first | assumption | decide | omega) (fk_int .i64 _ _ (wrap64 ((rd x2266 (rd x2007 0)) + 1))) (Option.some.inj A2350) ?_
          intro w2351 C2352 HO2353 HC2355 hs2354
          replace HJ2327 := HJ2327.thru hs2354 rfl
          replace HJ2328 := HJ2328.thru hs2354 rfl
          replace HJ2335 := HJ2335.thru hs2354 rfl
          replace HJ2330 := HJ2330.thru hs2354 rfl
          replace HJ2331 := HJ2331.thru hs2354 rfl
          replace HJ2332 := HJ2332.thru hs2354 rfl
          replace HJ2333 := HJ2333.thru hs2354 rfl
          replace HJ2334 := HJ2334.thru hs2354 rfl
          replace HS2325 := HS2325.trans hs2354 hc rfl
          (try simp only [ls0, ls1])
          (try rw [show x2266.length = y2349.length by rw [← Option.some.inj A2350, List.length_set]])
          refine wl_end ?_
          (try simp only [ls0, ls1])
          refine hK2340 _ _ ?_
          (try clear hK2340 K2340)
          refine wl_region ?_
          refine mv_ rfl ?_
          refine mv_ rfl ?_
          refine ev_run (w1 := w2351.alloc (.cells #[.int .i64 ((rd_T78 l0_0 (rd (rd_L4 l0_2 (rd x2007 0)) x2279)).f0)] 3)) (.slice (some ⟨w2351.heap.size, 0, none⟩) 1 1) rfl rfl (by first | (go_simp; done) | (go_simp; rfl)) ?_
          (try simp only [Act.put, List.setIfInBounds_toArray, ls0, ls1])
          obtain ⟨c2356, H⟩ := if_some H
          obtain ⟨y2357, A2358, H⟩ := bnd H
          refine OwnG.append .i64 (C := C2352) (i := 16) rfl (.tmp 74) (.tmp 76) 47 3 8 rfl Try.underlying47 info3 (by decide) (.slice A2273 x2272.length cp2275) x2272 ((rd_T78 l0_0 (rd (rd_L4 l0_2 (rd x2007 0)) x2279)).f0) rfl rfl HJ2327 (by decide) (by omega) (Option.some.inj A2358) ?_
          intro A2359 cp2360 w2361 C2362 HO2363 HC2364 hs2365
          replace HO2353 := HO2353.thru hs2365 rfl
          replace HJ2328 := HJ2328.thru hs2365 rfl
          replace HJ2335 := HJ2335.thru hs2365 rfl
          replace HJ2330 := HJ2330.thru hs2365 rfl
          replace HJ2331 := HJ2331.thru hs2365 rfl
          replace HJ2332 := HJ2332.thru hs2365 rfl
          replace HJ2333 := HJ2333.thru hs2365 rfl
          replace HJ2334 := HJ2334.thru hs2365 rfl
          replace HS2325 := HS2325.trans hs2365 hc rfl
          (try simp only [Act.put, List.setIfInBounds_toArray, ls0, ls1])
          refine as_ rfl ?_
          refine wl_end ?_
          (try simp only [ls0, ls1])
          refine hK2298 _ _ ?_
          (try clear hK2298 K2298)
          refine wl_region ?_
          refine st (.int .i64 (wrap64 (x2279 + 1))) rfl rfl (xr_bin _ _ _ rfl rfl rfl (B.add_i64 _ _)) ?_
          refine mv_ rfl ?_
          refine wl_end ?_
          (try simp only [ls0, ls1])
          exact jmpL (fun a_ h_ => ih2291 k2338 (by omega) a_ _ h_) (fun g_ => ⟨_, wrap64 (x2279 + 1), A2267, y2349.length, cp2269, y2349, A2359, y2357.length, cp2360, y2357, g_, rfl, HS2325, (by omega), HO2353, HC2355, HO2363, HC2364, HJ2328, HJ2330, HJ2331, HJ2332, HJ2333, HJ2334, HJ2335, H⟩) rfl
         rw [if_neg c2339] at H
         (try rw [(Bool.eq_false_iff.mpr c2339)])
         refine wp_cond_false rfl ?_
         refine wp_skip ?_
         (try simp only [ls0, ls1])
         refine hK2298 _ _ ?_
         (try clear hK2298 K2298)
         refine wl_region ?_
         refine st (.int .i64 (wrap64 (x2279 + 1))) rfl rfl (xr_bin _ _ _ rfl rfl rfl (B.add_i64 _ _)) ?_
         refine mv_ rfl ?_
         refine wl_end ?_
         (try simp only [ls0, ls1])
         exact jmpL (fun a_ h_ => ih2291 k2338 (by omega) a_ _ h_) (fun g_ => ⟨_, wrap64 (x2279 + 1), A2267, x2266.length, cp2269, x2266, A2273, x2272.length, cp2275, x2272, g_, rfl, HS2325, (by omega), HJ2326, HC2270, HJ2327, HC2276, HJ2328, HJ2330, HJ2331, HJ2332, HJ2333, HJ2334, HJ2335, H⟩) rfl
       refine wl_region ?_
       refine mv_ rfl ?_
       refine mv_ rfl ?_
       obtain ⟨c2366, H⟩ := if_some H
       obtain ⟨c2367, H⟩ := if_some H
       obtain ⟨g2368, hA2369⟩ := HJ2271.form (pos_of (j := ((rd_T78 l0_0 (rd (rd_L4 l0_2 (rd x2007 0)) x2279)).f0)) (by first | assumption | decide) (by first | assumption | omega))
       refine st (.pointer (some ((⟨g2368, 0, none⟩ : Addr).add (((rd_T78 l0_0 (rd (rd_L4 l0_2 (rd x2007 0)) x2279)).f0 : Int).toNat * 1)))) rfl rfl (xr_indexAddr _ _ _ rfl rfl rfl (index_at Try.underlying47 info3 hA2369 (by first | assumption | decide | omega) (by first | assumption | decide | omega))) ?_
       refine st (.int .i64 (rd x2266 ((rd_T78 l0_0 (rd (rd_L4 l0_2 (rd x2007 0)) x2279)).f0))) rfl rfl (xr_load _ _ rfl rfl (load_int Try.underlying3 rfl hA2369 (Ft.now (HJ2271.ft)) (by first | assumption | decide | omega) (by first | assumption | decide | omega))) ?_
       simp only [ls0, ls1]
       refine st (.bool (decide ((rd x2266 ((rd_T78 l0_0 (rd (rd_L4 l0_2 (rd x2007 0)) x2279)).f0)) = 0))) rfl rfl (xr_bin _ _ _ rfl rfl rfl (B.eql_i64 _ _)) ?_
       refine mv_ rfl ?_
       by_cases c2370 : (rd x2266 ((rd_T78 l0_0 (rd (rd_L4 l0_2 (rd x2007 0)) x2279)).f0)) = 0
       ·rw [if_pos c2370] at H
        (try rw [(decide_eq_true c2370)])
        refine on_guard (guard_on 5 true 61 rfl rfl rfl) ?_
        refine mv_ rfl ?_
        refine on_guard (guard_on 5 true 61 rfl rfl rfl) ?_
        refine mv_ rfl ?_
        simp only [ls0, ls1]
        refine on_guard (guard_on 5 true 61 rfl rfl rfl) ?_
        have HP2371 : Ft C2286 [0, 1] w2287 (fun w_ => (Kd.ptr 74 k74).K w_ (some (⟨l0_0, l0_1, l0_2, a0_3, a0_4, l0_5, l0_6, (⟨y2047⟩ : S72)⟩ : S74)) [.pointer (some ⟨g0, 0, none⟩)]) := ptr_mk (Ft.more (HJ2285.ft) rfl) (k74_mkF _ _ (⟨l0_0, l0_1, l0_2, a0_3, a0_4, l0_5, l0_6, (⟨y2047⟩ : S72)⟩ : S74) HCP0_0 (Ft.more HJ2280 rfl) HCP0_1 (Ft.more HJ2281 rfl) HCP0_2 (Ft.more HJ2282 rfl) HCP0_5 (Ft.more HJ2283 rfl) HCP0_6 (Ft.more HJ2284 rfl))
        obtain ⟨t2372, A2373, H⟩ := bnd H
        refine st_callF #[.int .i64 (rd (rd_L4 l0_2 (rd x2007 0)) x2279)] #[.pointer (some ⟨g0, 0, none⟩)] #[] #[.pointer (some ⟨g0, 0, none⟩), .int .i64 (rd (rd_L4 l0_2 (rd x2007 0)) x2279)] rfl rfl Try.func40 (by kernel_rfl) rfl rfl rfl (mp_ rfl) (by rfl) ?_
        refine (maxflow_Net_room.calls (.pointer (some ⟨g0, 0, none⟩)) (some (⟨l0_0, l0_1, l0_2, a0_3, a0_4, l0_5, l0_6, (⟨y2047⟩ : S72)⟩ : S74) : Option S74) (rd (rd_L4 l0_2 (rd x2007 0)) x2279) t2372  (fun z_ => pal [(0, 0), (1, 0)] (C2286 z_)) w2287 (fun _ => pal_lt rfl _) (Ft.arg HP2371 rfl) A2373).mono ?_
        rintro _ w2375 ⟨C2376, rfl, hs2377⟩
        refine ⟨_, rfl, ?_⟩
        replace hs2377 := Step.lift (U := [(0, 0)]) hs2377 [] rfl rfl
        generalize up C2286 C2376 w2287.heap.size [(0, 0)] = C2376_ at hs2377
        replace HJ2271 := HJ2271.thru hs2377 rfl
        replace HJ2277 := HJ2277.thru hs2377 rfl
        replace HJ2278 := HJ2278.thru hs2377 rfl
        replace HJ2285 := HJ2285.thru hs2377 rfl
        replace HJ2280 := HJ2280.thru hs2377 rfl
        replace HJ2281 := HJ2281.thru hs2377 rfl
        replace HJ2282 := HJ2282.thru hs2377 rfl
        replace HJ2283 := HJ2283.thru hs2377 rfl
        replace HJ2284 := HJ2284.thru hs2377 rfl
        replace HS2289 := HS2289.trans hs2377 hc rfl
        (try simp only [Act.put, List.setIfInBounds_toArray, ls0, ls1])
        refine st (.bool t2372) rfl rfl (xr_pick true _ rfl rfl rfl) ?_
        refine wl_end ?_
        (try simp only [ls0, ls1])
        exact jmp (fun g_ => hj2322 _ _ _ (t2372) g_ HS2289 (by omega) HJ2271 HJ2277 HJ2278 HJ2280 HJ2281 HJ2282 HJ2283 HJ2284 HJ2285 H) rfl
       rw [if_neg c2370] at H
       (try rw [(decide_eq_false c2370)])
       refine sk_guard (guard_off 5 true 61 rfl rfl false (by decide) rfl) rfl ?_
       refine sk_guard (guard_off 5 true 61 rfl rfl false (by decide) rfl) rfl ?_
       refine sk_guard (guard_off 5 true 61 rfl rfl false (by decide) rfl) rfl ?_
       refine st (.bool false) rfl rfl (xr_pick false _ rfl rfl rfl) ?_
       simp only [ls0, ls1]
       refine wl_end ?_
       (try simp only [ls0, ls1])
       exact jmp (fun g_ => hj2322 _ _ _ (false) g_ HS2289 (by omega) HJ2271 HJ2277 HJ2278 HJ2280 HJ2281 HJ2282 HJ2283 HJ2284 HJ2285 H) rfl
      rw [if_neg c2297] at H
      (try rw [(decide_eq_false c2297)])
      refine wp_cond_false rfl ?_
      refine wp_exit ?_
      (try simp only [ls0, ls1])
      replace HJ2271 := Own.recolor (b := 13) HJ2271 (by decide)
      replace HJ2277 := OwnG.recol (a := 15) (b := 13) HJ2277 (by decide) (by decide)
      replace HJ2278 := Ft.recol (a := 15) (b := 13) HJ2278 (.inl rfl)
      replace HJ2285 := Bx.recol (a := 15) (b := 13) HJ2285 (by decide)
      replace HJ2280 := Ft.recol (a := 15) (b := 13) HJ2280 (.inl rfl)
      replace HJ2281 := Ft.recol (a := 15) (b := 13) HJ2281 (.inl rfl)
      replace HJ2282 := Ft.recol (a := 15) (b := 13) HJ2282 (.inl rfl)
      replace HJ2283 := Ft.recol (a := 15) (b := 13) HJ2283 (.inl rfl)
      replace HJ2284 := Ft.recol (a := 15) (b := 13) HJ2284 (.inl rfl)
      replace HS2289 := Step.recol (a := 15) (b := 13) HS2289 hc (by decide)
      replace HJ2271 := Own.recol (a := 16) (b := 14) HJ2271 (by decide) (by decide)
      replace HJ2277 := OwnG.recolor (b := 14) HJ2277 (by decide)
      replace HJ2278 := Ft.recol (a := 16) (b := 14) HJ2278 (.inl rfl)
      replace HJ2285 := Bx.recol (a := 16) (b := 14) HJ2285 (by decide)
      replace HJ2280 := Ft.recol (a := 16) (b := 14) HJ2280 (.inl rfl)
      replace HJ2281 := Ft.recol (a := 16) (b := 14) HJ2281 (.inl rfl)
      replace HJ2282 := Ft.recol (a := 16) (b := 14) HJ2282 (.inl rfl)
      replace HJ2283 := Ft.recol (a := 16) (b := 14) HJ2283 (.inl rfl)
      replace HJ2284 := Ft.recol (a := 16) (b := 14) HJ2284 (.inl rfl)
      replace HS2289 := Step.recol (a := 16) (b := 14) HS2289 hc (by decide)
      exact jmpL (fun a_ h_ => ih2025 k2294 (by omega) a_ _ h_) (fun g_ => ⟨_, y2047, A2267, x2266.length, cp2269, x2266, A2273, x2272.length, cp2275, x2272, g_, rfl, HS2289, (by omega), HJ2271, HC2270, HJ2277, HC2276, HJ2280, HJ2281, HJ2282, HJ2283, HJ2284, HJ2285, H⟩) rfl
   rw [if_neg c2031] at H
   (try rw [(decide_eq_false c2031)])
   refine wp_cond_false rfl ?_
   refine wp_exit ?_
   (try simp only [ls0, ls1])
   refine hK1215 _ _ ?_
   (try clear hK1215 K1215)
   refine wp_seq_k fun K2378 hK2378 => ?_
   refine wl_region ?_
   refine mv_ rfl ?_
   refine as_ rfl ?_
   refine wl_end ?_
   (try simp only [ls0, ls1])
   refine hK2378 _ _ ?_
   (try clear hK2378 K2378)
   refine wp_ret ?_
   (try simp only [Exit.inBlock, Exit.then, Exit.noGoto])
   (try simp only [ls0, ls1])
   replace HJ2006 := Own.recolor (b := 5) HJ2006 (by decide)
   replace HJ2012 := OwnG.recol (a := 13) (b := 5) HJ2012 (by decide) (by decide)
   replace HJ2019 := Bx.recol (a := 13) (b := 5) HJ2019 (by decide)
   replace HJ2013 := Ft.recol (a := 13) (b := 5) HJ2013 (.inl rfl)
   replace HJ2014 := Ft.recol (a := 13) (b := 5) HJ2014 (.inl rfl)
   replace HJ2015 := Ft.recol (a := 13) (b := 5) HJ2015 (.inl rfl)
   replace HJ2016 := Ft.recol (a := 13) (b := 5) HJ2016 (.inl rfl)
   replace HJ2017 := Ft.recol (a := 13) (b := 5) HJ2017 (.inl rfl)
   replace HS2023 := Step.recol (a := 13) (b := 5) HS2023 hc (by decide)
   simp only [Option.some.injEq, Prod.mk.injEq] at H
   obtain ⟨rfl, rfl⟩ := H
   refine bodyPost_ret (results_tmp rfl _ _ _) rfl ?_
   exact ⟨_, A2002, cp2004, rfl, HS2023, HJ2006, HC2005, HJ2019⟩

/-! ### maxflow_Net_Max: function 17 -/
mutual
def maxflow_Net_Max.l0 : Nat → Int → Int → Int → (List Int) → (List (List Int)) → Bool → (List Int) → Int → (List Int) → (List (S78)) → (List Int) → Int → Option (Int × Int × (List (S78)) × Bool × List Int × List Int × Int)
  | 0, _, _, _, _, _, _, _, _, _, _, _, _ => none
  | k + 1, a0_3, a1, a2, l0_1, l0_2, t949, t1618, x1789, x1790, x1797, x1806, x1812 => if 0 < (x1790.length : Int) then ((maxflow_Net_push.f k x1797 l0_1 l0_2 a0_3 t949 t1618 x1806 x1812 x1790).bind fun bt1830 => ((maxflow_Net_path.f k bt1830.2 l0_1 l0_2 a0_3 t949 t1618 x1806 x1812 a1 a2).bind fun bt1842 => (maxflow_Net_Max.l0 k a0_3 a1 a2 l0_1 l0_2 t949 t1618 (wrap64 (x1789 + bt1830.1)) bt1842.1 bt1830.2 bt1842.2.1 bt1842.2.2))) else (maxflow_Net_Max.l1 k a0_3 a1 a2 l0_1 l0_2 t949 x1789 x1797 t1618 x1806 x1812)
def maxflow_Net_Max.l1 : Nat → Int → Int → Int → (List Int) → (List (List Int)) → Bool → Int → (List (S78)) → (List Int) → (List Int) → Int → Option (Int × Int × (List (S78)) × Bool × List Int × List Int × Int)
  | 0, _, _, _, _, _, _, _, _, _, _, _ => none
  | k + 1, a0_3, a1, a2, l0_1, l0_2, t949, x1583, x1584, x1592, x1598, x1604 => (maxflow_Net_reach_maxflow_Net_room.f k x1584 l0_1 l0_2 a0_3 t949 x1592 x1598 x1604 a1).bind fun bt1618 => (if 0 ≤ a2 then (if a2 < (bt1618.1.length : Int) then (if (rd bt1618.1 a2) = 0 then (some (x1583, 0, x1584, true, bt1618.1, x1598, bt1618.2)) else (if 0 ≤ (l0_2.length : Int) then (if ((l0_2.length : Int) : Int).toNat * 8 ≤ 281474976710656 then ((some (List.replicate ((l0_2.length : Int) : Int).toNat 0 : List Int)).bind fun y1649 => ((maxflow_Net_path.f k x1584 l0_1 l0_2 a0_3 t949 bt1618.1 y1649 bt1618.2 a1 a2).bind fun bt1662 => (maxflow_Net_Max.l0 k a0_3 a1 a2 l0_1 l0_2 t949 bt1618.1 x1583 bt1662.1 x1584 bt1662.2.1 bt1662.2.2))) else (none)) else (none))) else (none)) else (none))
def maxflow_Net_Max.j0 : Nat → Int → Int → Int → Int → (List Int) → (List (List Int)) → (List Int) → (List Int) → (List (S78)) → Bool → Bool → Option (Int × Int × (List (S78)) × Bool × List Int × List Int × Int)
  | 0, _, _, _, _, _, _, _, _, _, _, _ => none
  | k + 1, a0_3, a0_7, a1, a2, l0_1, l0_2, l0_5, l0_6, t948, t949, x1032 => if x1032 = true then (some (0, 1, t948, t949, l0_5, l0_6, a0_7)) else ((maxflow_Net_reach_maxflow_Net_Max_1.f k t948 l0_1 l0_2 a0_3 t949 l0_5 l0_6 a0_7 a1).bind fun bt1047 => (if 0 ≤ a2 then (if a2 < (bt1047.1.length : Int) then (if (rd bt1047.1 a2) > 0 then (some (0, 18, t948, t949, l0_5, l0_6, bt1047.2)) else (maxflow_Net_Max.l1 k a0_3 a1 a2 l0_1 l0_2 t949 0 t948 l0_5 l0_6 bt1047.2)) else (none)) else (none)))
end
def maxflow_Net_Max.f (k : Nat) (l0_0 : List (S78)) (l0_1 : List Int) (l0_2 : List (List Int)) (a0_3 : Int) (a0_4 : Bool) (l0_5 : List Int) (l0_6 : List Int) (a0_7 : Int) (a1 : Int) (a2 : Int) : Option (Int × Int × (List (S78)) × Bool × List Int × List Int × Int) := (maxflow_Net_reset.f k l0_0 l0_1 l0_2 a0_3 a0_4 l0_5 l0_6 a0_7).bind fun bt948 => ((maxflow_Net_in.f (some (⟨bt948.1, l0_1, l0_2, a0_3, bt948.2, l0_5, l0_6, (⟨a0_7⟩ : S72)⟩ : S74) : Option S74) a1).bind fun t1862 => (if t1862 = true then ((maxflow_Net_in.f (some (⟨bt948.1, l0_1, l0_2, a0_3, bt948.2, l0_5, l0_6, (⟨a0_7⟩ : S72)⟩ : S74) : Option S74) a2).bind fun t1870 => (if t1870 = true then (maxflow_Net_Max.j0 k a0_3 a0_7 a1 a2 l0_1 l0_2 l0_5 l0_6 bt948.1 bt948.2 (decide (a1 = a2))) else (maxflow_Net_Max.j0 k a0_3 a0_7 a1 a2 l0_1 l0_2 l0_5 l0_6 bt948.1 bt948.2 true))) else (maxflow_Net_Max.j0 k a0_3 a0_7 a1 a2 l0_1 l0_2 l0_5 l0_6 bt948.1 bt948.2 true)))

set_option maxHeartbeats 8000000 in
set_option maxRecDepth 100000 in
theorem maxflow_Net_Max.calls (k : Nat) (g0 : Nat) (A0_0 : Option Addr) (c0_0 : Nat) (l0_0 : List (S78)) (A0_1 : Option Addr) (c0_1 : Nat) (l0_1 : List Int) (A0_2 : Option Addr) (c0_2 : Nat) (l0_2 : List (List Int)) (a0_3 : Int) (a0_4 : Bool) (A0_5 : Option Addr) (c0_5 : Nat) (l0_5 : List Int) (A0_6 : Option Addr) (c0_6 : Nat) (l0_6 : List Int) (a0_7 : Int) (a1 : Int) (a2 : Int) (r1 : Int) (r2 : Int) (r3 : List (S78)) (r4 : Bool) (r5 : List Int) (r6 : List Int) (r7 : Int) (c : Nat → Nat) (w : World) (hc : ∀ k, c k < 10) (HP0 : Bx c 1 w g0 74 ([.slice A0_0 l0_0.length c0_0, .slice A0_1 l0_1.length c0_1, .slice A0_2 l0_2.length c0_2, .int .i64 a0_3, .bool a0_4, .slice A0_5 l0_5.length c0_5, .slice A0_6 l0_6.length c0_6, .int .i64 a0_7])) (HP0_0 : Own c 2 w k78 78 (.slice A0_0 l0_0.length c0_0) l0_0) (HCP0_0 : l0_0.length ≤ c0_0) (HP0_1 : Ft c [0] w (fun w_ => (Kd.int .i64).C w_ A0_1 l0_1.length l0_1)) (HCP0_1 : l0_1.length ≤ c0_1) (HP0_2 : Ft c [0] w (fun w_ => (Kd.slice 3 (Kd.int .i64)).C w_ A0_2 l0_2.length l0_2)) (HCP0_2 : l0_2.length ≤ c0_2) (HP0_5 : Own c 3 w (Kd.int .i64) 3 (.slice A0_5 l0_5.length c0_5) l0_5) (HCP0_5 : l0_5.length ≤ c0_5) (HP0_6 : Own c 4 w (Kd.int .i64) 3 (.slice A0_6 l0_6.length c0_6) l0_6) (HCP0_6 : l0_6.length ≤ c0_6) (H : maxflow_Net_Max.f k l0_0 l0_1 l0_2 a0_3 a0_4 l0_5 l0_6 a0_7 a1 a2 = some (r1, r2, r3, r4, r5, r6, r7)) :
    Calls Try.prog 17 #[.pointer (some ⟨g0, 0, none⟩), .int .i64 a1, .int .i64 a2] w fun e w' => ∃ (c' : Nat → Nat) (A_r3 : Option Addr) (c_r3 : Nat) (A_r5 : Option Addr) (c_r5 : Nat) (A_r6 : Option Addr) (c_r6 : Nat), e = .returned (.tuple #[.int .i64 r1, .int .i64 r2]) ∧ Step c w c' w' [1, 2, 3, 4] ∧ Own c' 2 w' k78 78 (.slice A_r3 r3.length c_r3) r3 ∧ r3.length ≤ c_r3 ∧ Own c' 3 w' (Kd.int .i64) 3 (.slice A_r5 r5.length c_r5) r5 ∧ r5.length ≤ c_r5 ∧ Own c' 4 w' (Kd.int .i64) 3 (.slice A_r6 r6.length c_r6) r6 ∧ r6.length ≤ c_r6 ∧ Bx c' 1 w' g0 74 ([.slice A_r3 r3.length c_r3, .slice A0_1 l0_1.length c0_1, .slice A0_2 l0_2.length c0_2, .int .i64 a0_3, .bool r4, .slice A_r5 r5.length c_r5, .slice A_r6 r6.length c_r6, .int .i64 r7]) := by
 unfold maxflow_Net_Max.f at H
 have HS := Step.refl c w [1, 2, 3, 4]
 go_enter Try.func17, Try.ntmps17
 refine wp_seq_k fun K939 hK939 => ?_
 refine wl_region ?_
 refine bx_new (C := c) 24 ([.pointer (some ⟨g0, 0, none⟩)]) 11 rfl rfl (by first | (go_simp; done) | (go_simp; rfl)) ?_
 intro g940 w941 C942 HX943 hs944
 replace HP0 := HP0.thru hs944 rfl
 replace HP0_0 := HP0_0.thru hs944 rfl
 replace HP0_1 := HP0_1.thru hs944 rfl
 replace HP0_2 := HP0_2.thru hs944 rfl
 replace HP0_5 := HP0_5.thru hs944 rfl
 replace HP0_6 := HP0_6.thru hs944 rfl
 replace HS := HS.trans hs944 hc rfl
 (try simp only [Act.put, List.setIfInBounds_toArray, ls0, ls1])
 refine st (.int .i64 0) rfl rfl (xr_assign _ rfl rfl) ?_
 refine st (.int .i64 0) rfl rfl (xr_assign _ rfl rfl) ?_
 refine wl_end ?_
 (try simp only [ls0, ls1])
 refine hK939 _ _ ?_
 (try clear hK939 K939)
 refine wp_seq_k fun K945 hK945 => ?_
 refine wp_seq_k fun K946 hK946 => ?_
 refine wl_region ?_
 refine st (.pointer (some ⟨g0, 0, none⟩)) rfl rfl (xr_load _ _ rfl rfl (load_cell Try.underlying24 rfl (bx_cell (HX943).2 0 rfl))) ?_
 refine st (.bool false) rfl rfl (xr_bin (.pointer (some ⟨g0, 0, none⟩)) (.pointer none) (.bool false) rfl rfl rfl (B.eql_pn ⟨_, Try.underlying24⟩ ⟨g0, 0, none⟩)) ?_
 refine wl_end ?_
 (try simp only [ls0, ls1])
 refine hK946 _ _ ?_
 (try clear hK946 K946)
 refine wp_cond_false rfl ?_
 refine wp_skip ?_
 (try simp only [ls0, ls1])
 refine hK945 _ _ ?_
 (try clear hK945 K945)
 refine wp_seq_k fun K947 hK947 => ?_
 refine wl_region ?_
 refine st (.pointer (some ⟨g0, 0, none⟩)) rfl rfl (xr_load _ _ rfl rfl (load_cell Try.underlying24 rfl (bx_cell (HX943).2 0 rfl))) ?_
 obtain ⟨⟨t948, t949⟩, A950, H⟩ := bnd H
 (try dsimp only at H)
 refine st_call #[.pointer (some ⟨g0, 0, none⟩)] rfl rfl Try.func36 (by kernel_rfl) rfl rfl (mp_ rfl) ?_
 refine (maxflow_Net_reset.calls k g0 A0_0 c0_0 l0_0 A0_1 c0_1 l0_1 A0_2 c0_2 l0_2 a0_3 a0_4 A0_5 c0_5 l0_5 A0_6 c0_6 l0_6 a0_7 t948 t949  (fun z_ => pal [(0, 0), (1, 1), (2, 2), (3, 0), (4, 0)] (C942 z_)) w941 (fun _ => pal_lt rfl _) (Bx.arg HP0 rfl) (Own.arg HP0_0 rfl rfl) HCP0_0 (Ft.arg HP0_1 rfl) HCP0_1 (Ft.arg HP0_2 rfl) HCP0_2 (Ft.arg (HP0_5.ft) rfl) HCP0_5 (Ft.arg (HP0_6.ft) rfl) HCP0_6 A950).mono ?_
 rintro _ w952 ⟨C953, A955, cp956, rfl, hs954, HO957, HC958, HX959⟩
 refine ⟨_, rfl, ?_⟩
 replace HO957 := Own.resF (U := [(0, 0), (1, 1), (2, 2)]) (j := 2) (fun _ _ _ _ h_ => h_) HO957 hs954 (by rfl) (by decide) rfl
 replace HX959 := Bx.res (U := [(0, 0), (1, 1), (2, 2)]) (j := 1) HX959 hs954 (by rfl) (by decide) rfl
 replace hs954 := Step.lift (U := [(0, 0), (1, 1), (2, 2)]) hs954 [1, 2] rfl rfl
 generalize up C942 C953 w941.heap.size [(0, 0), (1, 1), (2, 2)] = C953_ at HO957 HX959 hs954
 replace HP0_1 := HP0_1.thru hs954 rfl
 replace HP0_2 := HP0_2.thru hs954 rfl
 replace HP0_5 := HP0_5.thru hs954 rfl
 replace HP0_6 := HP0_6.thru hs954 rfl
 replace HX943 := HX943.thru hs954 rfl
 replace HS := HS.trans hs954 hc rfl
 (try simp only [Act.put, List.setIfInBounds_toArray, ls0, ls1])
 refine wl_end ?_
 (try simp only [ls0, ls1])
 refine hK947 _ _ ?_
 (try clear hK947 K947)
 refine wp_seq_k fun K960 hK960 => ?_
 refine wp_seq_k fun K1011 hK1011 => ?_
 have hj1028 : ∀ (kq1040 : Nat) (C1029 : Nat → Nat) (w1030 : World) (x1032 : Bool) (g_ : Nat → Value), Step c w C1029 w1030 [1, 2, 3, 4] → kq1040 ≤ k → (Own C1029 2 w1030 k78 78 (.slice A955 t948.length cp956) t948) → (Ft C1029 [0] w1030 (fun w_ => (Kd.int .i64).C w_ A0_1 l0_1.length l0_1)) → (Ft C1029 [0] w1030 (fun w_ => (Kd.slice 3 (Kd.int .i64)).C w_ A0_2 l0_2.length l0_2)) → (Own C1029 3 w1030 (Kd.int .i64) 3 (.slice A0_5 l0_5.length c0_5) l0_5) → (Own C1029 4 w1030 (Kd.int .i64) 3 (.slice A0_6 l0_6.length c0_6) l0_6) → (Bx C1029 1 w1030 g0 74 ([.slice A955 t948.length cp956, .slice A0_1 l0_1.length c0_1, .slice A0_2 l0_2.length c0_2, .int .i64 a0_3, .bool t949, .slice A0_5 l0_5.length c0_5, .slice A0_6 l0_6.length c0_6, .int .i64 a0_7])) → (Bx C1029 11 w1030 g940 24 ([.pointer (some ⟨g0, 0, none⟩)])) → maxflow_Net_Max.j0 kq1040 a0_3 a0_7 a1 a2 l0_1 l0_2 l0_5 l0_6 t948 t949 x1032 = some (r1, r2, r3, r4, r5, r6, r7) → K1011 ⟨#[(g_ 0), .int .i64 a1, .int .i64 a2, .pointer (some ⟨g940, 0, none⟩), (g_ 4), (g_ 5), (g_ 6), (g_ 7), (g_ 8), (g_ 9), (g_ 10), (g_ 11), (g_ 12), (g_ 13), (g_ 14), (g_ 15), (g_ 16), (g_ 17), (g_ 18), (g_ 19), (g_ 20), (g_ 21), (g_ 22), (g_ 23), (g_ 24), (g_ 25), (g_ 26), (g_ 27), .bool x1032, (g_ 29), (g_ 30), (g_ 31), (g_ 32), (g_ 33), (g_ 34), (g_ 35), (g_ 36), (g_ 37), (g_ 38), (g_ 39), (g_ 40), (g_ 41), (g_ 42), (g_ 43), (g_ 44), (g_ 45), (g_ 46), (g_ 47), (g_ 48), (g_ 49), (g_ 50), (g_ 51), (g_ 52), (g_ 53), (g_ 54), (g_ 55), (g_ 56), (g_ 57), (g_ 58), (g_ 59), (g_ 60), (g_ 61), (g_ 62), (g_ 63), (g_ 64), (g_ 65), (g_ 66), (g_ 67), (g_ 68), (g_ 69), (g_ 70), (g_ 71), (g_ 72), (g_ 73), (g_ 74), (g_ 75), (g_ 76), (g_ 77), (g_ 78), (g_ 79), (g_ 80)], []⟩ w1030 := by
  intro kq1040 C1029 w1030 x1032 g_ HS1031 hk1041 HJ1033 HJ1034 HJ1035 HJ1036 HJ1037 HJ1038 HJ1039 H
  cases kq1040 with
  | zero => exact absurd H (by simp [maxflow_Net_Max.j0])
  | succ k1042 =>
   simp only [maxflow_Net_Max.j0] at H
   refine hK1011 _ _ ?_
   (try clear hK1011)
   by_cases c1043 : x1032 = true
   ·rw [if_pos c1043] at H
    (try rw [c1043])
    refine wp_cond_true rfl ?_
    refine wp_seq_k fun K1044 hK1044 => ?_
    refine wl_region ?_
    refine st (.int .i64 0) rfl rfl (xr_assign _ rfl rfl) ?_
    refine st (.int .i64 1) rfl rfl (xr_assign _ rfl rfl) ?_
    refine wl_end ?_
    (try simp only [ls0, ls1])
    refine hK1044 _ _ ?_
    (try clear hK1044 K1044)
    refine wp_ret ?_
    (try simp only [Exit.inBlock, Exit.then, Exit.noGoto])
    (try simp only [ls0, ls1])
    simp only [Option.some.injEq, Prod.mk.injEq] at H
    obtain ⟨rfl, rfl, rfl, rfl, rfl, rfl, rfl⟩ := H
    refine bodyPost_ret (results_tmp2 rfl _ _ _) rfl ?_
    exact ⟨_, A955, cp956, A0_5, c0_5, A0_6, c0_6, rfl, HS1031, HJ1033, HC958, HJ1036, HCP0_5, HJ1037, HCP0_6, HJ1038⟩
   rw [if_neg c1043] at H
   (try rw [(Bool.eq_false_iff.mpr c1043)])
   refine wp_cond_false rfl ?_
   refine wp_skip ?_
   (try simp only [ls0, ls1])
   refine hK960 _ _ ?_
   (try clear hK960 K960)
   refine wp_seq_k fun K1045 hK1045 => ?_
   refine wp_seq_k fun K1046 hK1046 => ?_
   refine wl_region ?_
   refine st (.pointer (some ⟨g0, 0, none⟩)) rfl rfl (xr_load _ _ rfl rfl (load_cell Try.underlying24 rfl (bx_cell (HJ1039).2 0 rfl))) ?_
   refine mv_ rfl ?_
   refine st (.func (.func 39) #[] #[.pointer (some ⟨g940, 0, none⟩)]) rfl rfl (xr_makeFunc #[] #[.pointer (some ⟨g940, 0, none⟩)] rfl (mp_ rfl) (mp_ rfl)) ?_
   obtain ⟨⟨t1047, t1048⟩, A1049, H⟩ := bnd H
   (try dsimp only at H)
   refine st_call #[.pointer (some ⟨g0, 0, none⟩), .int .i64 a1, .func (.func 39) #[] #[.pointer (some ⟨g940, 0, none⟩)]] rfl rfl Try.func38 (by kernel_rfl) rfl rfl (mp_ rfl) ?_
   refine (maxflow_Net_reach_maxflow_Net_Max_1.calls k1042 g0 A955 cp956 t948 A0_1 c0_1 l0_1 A0_2 c0_2 l0_2 a0_3 t949 A0_5 c0_5 l0_5 A0_6 c0_6 l0_6 a0_7 a1 g940 t1047 t1048  (fun z_ => pal [(0, 0), (1, 1), (2, 0), (3, 0), (4, 0), (11, 0)] (C1029 z_)) w1030 (fun _ => pal_lt rfl _) (Bx.arg HJ1038 rfl) (Ft.arg (HJ1033.ft) rfl) HC958 (Ft.arg HJ1034 rfl) HCP0_1 (Ft.arg HJ1035 rfl) HCP0_2 (Ft.arg (HJ1036.ft) rfl) HCP0_5 (Ft.arg (HJ1037.ft) rfl) HCP0_6 (Ft.arg (HJ1039.ft) rfl) A1049).mono ?_
   rintro _ w1051 ⟨C1052, A1054, cp1055, rfl, hs1053, HO1056, HC1057, HX1058⟩
   refine ⟨_, rfl, ?_⟩
   replace HO1056 := Own.resF (U := [(0, 0), (1, 1), (5, 12)]) (j := 12) (fun _ _ _ _ h_ => h_) HO1056 hs1053 (by rfl) (by decide) rfl
   replace HX1058 := Bx.res (U := [(0, 0), (1, 1), (5, 12)]) (j := 1) HX1058 hs1053 (by rfl) (by decide) rfl
   replace hs1053 := Step.lift (U := [(0, 0), (1, 1), (5, 12)]) hs1053 [1] rfl rfl
   generalize up C1029 C1052 w1030.heap.size [(0, 0), (1, 1), (5, 12)] = C1052_ at HO1056 HX1058 hs1053
   replace HJ1033 := HJ1033.thru hs1053 rfl
   replace HJ1034 := HJ1034.thru hs1053 rfl
   replace HJ1035 := HJ1035.thru hs1053 rfl
   replace HJ1036 := HJ1036.thru hs1053 rfl
   replace HJ1037 := HJ1037.thru hs1053 rfl
   replace HJ1039 := HJ1039.thru hs1053 rfl
   replace HS1031 := HS1031.trans hs1053 hc rfl
   (try simp only [Act.put, List.setIfInBounds_toArray, ls0, ls1])
   refine mv_ rfl ?_
   obtain ⟨c1059, H⟩ := if_some H
   obtain ⟨c1060, H⟩ := if_some H
   obtain ⟨g1061, hA1062⟩ := HO1056.form (pos_of (j := a2) (by first | assumption | decide) (by first | assumption | omega))
   refine st (.pointer (some ((⟨g1061, 0, none⟩ : Addr).add ((a2 : Int).toNat * 1)))) rfl rfl (xr_indexAddr _ _ _ rfl rfl rfl (index_at Try.underlying47 info3 hA1062 (by first | assumption | decide | omega) (by first | assumption | decide | omega))) ?_
   refine st (.int .i64 (rd t1047 a2)) rfl rfl (xr_load _ _ rfl rfl (load_int Try.underlying3 rfl hA1062 (Ft.now (HO1056.ft)) (by first | assumption | decide | omega) (by first | assumption | decide | omega))) ?_
   refine st (.bool (decide ((rd t1047 a2) > 0))) rfl rfl (xr_bin _ _ _ rfl rfl rfl (B.gtr_i64 _ _)) ?_
   simp only [ls0, ls1]
   refine wl_end ?_
   (try simp only [ls0, ls1])
   refine hK1046 _ _ ?_
   (try clear hK1046 K1046)
   by_cases c1063 : (rd t1047 a2) > 0
   ·rw [if_pos c1063] at H
    (try rw [(decide_eq_true c1063)])
    refine wp_cond_true rfl ?_
    refine wp_seq_k fun K1064 hK1064 => ?_
    refine wl_region ?_
    refine st (.int .i64 0) rfl rfl (xr_assign _ rfl rfl) ?_
    refine st (.int .i64 18) rfl rfl (xr_assign _ rfl rfl) ?_
    refine wl_end ?_
    (try simp only [ls0, ls1])
    refine hK1064 _ _ ?_
    (try clear hK1064 K1064)
    refine wp_ret ?_
    (try simp only [Exit.inBlock, Exit.then, Exit.noGoto])
    (try simp only [ls0, ls1])
    simp only [Option.some.injEq, Prod.mk.injEq] at H
    obtain ⟨rfl, rfl, rfl, rfl, rfl, rfl, rfl⟩ := H
    refine bodyPost_ret (results_tmp2 rfl _ _ _) rfl ?_
    exact ⟨_, A955, cp956, A0_5, c0_5, A0_6, c0_6, rfl, HS1031, HJ1033, HC958, HJ1036, HCP0_5, HJ1037, HCP0_6, HX1058⟩
   rw [if_neg c1063] at H
   (try rw [(decide_eq_false c1063)])
   refine wp_cond_false rfl ?_
   refine wp_skip ?_
   (try simp only [ls0, ls1])
   refine hK1045 _ _ ?_
   (try clear hK1045 K1045)
   refine wp_seq_k fun K1065 hK1065 => ?_
   refine wl_region ?_
   refine st (.int .i64 0) rfl rfl (xr_assign _ rfl rfl) ?_
   refine wl_end ?_
   (try simp only [ls0, ls1])
   refine hK1065 _ _ ?_
   (try clear hK1065 K1065)
   refine wp_seq_k fun K1066 hK1066 => ?_
   refine wp_block ?_
   (try simp only [ls0, ls1])
   refine wp_looped (looped_fin (fun kq1609 a_ w1608 => ∃ (C1607 : Nat → Nat) (x1583 : Int) (x1604 : Int) (A1585 : Option Addr) (n1586 cp1587 : Nat) (x1584 : List (S78)) (A1593 : Option Addr) (n1594 cp1595 : Nat) (x1592 : List Int) (A1599 : Option Addr) (n1600 cp1601 : Nat) (x1598 : List Int) (g_ : Nat → Value), a_ = ⟨#[(g_ 0), .int .i64 a1, .int .i64 a2, .pointer (some ⟨g940, 0, none⟩), (g_ 4), (g_ 5), (g_ 6), (g_ 7), .int .i64 x1583, (g_ 9), (g_ 10), (g_ 11), (g_ 12), (g_ 13), (g_ 14), (g_ 15), (g_ 16), (g_ 17), (g_ 18), (g_ 19), (g_ 20), (g_ 21), (g_ 22), (g_ 23), (g_ 24), (g_ 25), (g_ 26), (g_ 27), (g_ 28), (g_ 29), (g_ 30), (g_ 31), (g_ 32), (g_ 33), (g_ 34), (g_ 35), (g_ 36), (g_ 37), (g_ 38), (g_ 39), (g_ 40), (g_ 41), (g_ 42), (g_ 43), (g_ 44), (g_ 45), (g_ 46), (g_ 47), (g_ 48), (g_ 49), (g_ 50), (g_ 51), (g_ 52), (g_ 53), (g_ 54), (g_ 55), (g_ 56), (g_ 57), (g_ 58), (g_ 59), (g_ 60), (g_ 61), (g_ 62), (g_ 63), (g_ 64), (g_ 65), (g_ 66), (g_ 67), (g_ 68), (g_ 69), (g_ 70), (g_ 71), (g_ 72), (g_ 73), (g_ 74), (g_ 75), (g_ 76), (g_ 77), (g_ 78), (g_ 79), (g_ 80)], []⟩ ∧ Step c w C1607 w1608 [1, 2, 3, 4] ∧ kq1609 ≤ k1042 ∧ (Own C1607 2 w1608 k78 78 (.slice A1585 n1586 cp1587) x1584) ∧ (n1586 ≤ cp1587) ∧ (Ft C1607 [0] w1608 (fun w_ => (Kd.int .i64).C w_ A0_1 l0_1.length l0_1)) ∧ (Ft C1607 [0] w1608 (fun w_ => (Kd.slice 3 (Kd.int .i64)).C w_ A0_2 l0_2.length l0_2)) ∧ (Own C1607 3 w1608 (Kd.int .i64) 3 (.slice A1593 n1594 cp1595) x1592) ∧ (n1594 ≤ cp1595) ∧ (Own C1607 4 w1608 (Kd.int .i64) 3 (.slice A1599 n1600 cp1601) x1598) ∧ (n1600 ≤ cp1601) ∧ (Bx C1607 1 w1608 g0 74 ([.slice A1585 n1586 cp1587, .slice A0_1 l0_1.length c0_1, .slice A0_2 l0_2.length c0_2, .int .i64 a0_3, .bool t949, .slice A1593 n1594 cp1595, .slice A1599 n1600 cp1601, .int .i64 x1604])) ∧ (Bx C1607 11 w1608 g940 24 ([.pointer (some ⟨g0, 0, none⟩)])) ∧ maxflow_Net_Max.l1 kq1609 a0_3 a1 a2 l0_1 l0_2 t949 x1583 x1584 x1592 x1598 x1604 = some (r1, r2, r3, r4, r5, r6, r7)) ?step fun hL_ => ?init)
   case init =>
    exact jmpL (fun a_ h_ => hL_ k1042 a_ _ h_) (fun g_ => ⟨_, 0, t1048, A955, t948.length, cp956, t948, A0_5, l0_5.length, c0_5, l0_5, A0_6, l0_6.length, c0_6, l0_6, g_, rfl, HS1031, Nat.le_refl _, HJ1033, HC958, HJ1034, HJ1035, HJ1036, HCP0_5, HJ1037, HCP0_6, HX1058, HJ1039, H⟩) rfl
   case step =>
    intro kq1609 ih1612 a1613 w1608 hr1614
    obtain ⟨C1607, x1583, x1604, A1585, n1586, cp1587, x1584, A1593, n1594, cp1595, x1592, A1599, n1600, cp1601, x1598, g_, rfl, HS1610, hk1611, HJ1589, HC1588, HJ1590, HJ1591, HJ1597, HC1596, HJ1603, HC1602, HJ1605, HJ1606, H⟩ := hr1614
    refine looped_round ?_
    obtain rfl : n1586 = x1584.length := HJ1589.at_.1
    obtain rfl : n1594 = x1592.length := HJ1597.at_.1
    obtain rfl : n1600 = x1598.length := HJ1603.at_.1
    cases kq1609 with
    | zero => exact absurd H (by simp [maxflow_Net_Max.l1])
    | succ k1615 =>
     simp only [maxflow_Net_Max.l1] at H
     refine wp_block ?_
     refine wp_seq_k fun K1616 hK1616 => ?_
     (try simp only [ls0, ls1])
     refine al_start (lb 9 0) rfl rfl rfl (fun w_ => w_.heap[g940]? = some (.cells (List.toArray ([.pointer (some ⟨g0, 0, none⟩)])) 24 (0, 0))) (HJ1606.drew).2 [8] ?_
     replace HJ1605 := HJ1605.drew
     replace HJ1589 := HJ1589.drew
     replace HJ1590 := HJ1590.drew
     replace HJ1591 := HJ1591.drew
     replace HJ1597 := HJ1597.drew
     replace HJ1603 := HJ1603.drew
     replace HJ1606 := HJ1606.drew
     replace HS1610 := Step.ofDrew HS1610
     generalize w1608.drew = w1617 at *
     refine al_mv 2 (lb 9 4) rfl rfl (by kernel_rfl) (fun _ _ _ => id) rfl ?_
     refine al_take 0 37 (.pointer (some ⟨g0, 0, none⟩)) (lb 9 5) rfl rfl (by kernel_rfl) (fun _ _ _ => id) rfl (fun w_ hS_ => xr_load _ _ rfl rfl (load_cell Try.underlying24 rfl (bx_cell hS_ 0 rfl))) (HJ1606).2 ?_
     refine al_take 1 38 (.pointer (some ⟨g0, 0, none⟩)) (lb 9 7) rfl rfl (by kernel_rfl) (fun _ _ _ => id) rfl (fun w_ hS_ => xr_load _ _ rfl rfl (load_cell Try.underlying24 rfl (bx_cell hS_ 0 rfl))) (HJ1606).2 ?_
     refine al_take 3 40 (.pointer (some ⟨g0, 0, none⟩)) (lb 9 15) rfl rfl (by kernel_rfl) (fun _ _ _ => id) rfl (fun w_ hS_ => xr_load _ _ rfl rfl (load_cell Try.underlying24 rfl (bx_cell hS_ 0 rfl))) (HJ1606).2 ?_
     simp only [ls0, ls1]
     refine al_pure 4 41 (.func (.func 40) #[.pointer (some ⟨g0, 0, none⟩)] #[]) (lb 9 31) rfl rfl (by kernel_rfl) (fun _ _ _ => id) rfl (fun w_ => xr_makeFunc #[.pointer (some ⟨g0, 0, none⟩)] #[] rfl (mp_ rfl) (mp_ rfl)) ?_
     obtain ⟨⟨t1618, t1619⟩, A1620, H⟩ := bnd H
     (try dsimp only at H)
     refine al_one 5 (lb 9 63) rfl rfl (by kernel_rfl) rfl (fun K_ hK_ => ?_)
     refine goes_ Try.func38 (by kernel_rfl) rfl #[.pointer (some ⟨g0, 0, none⟩), .int .i64 a1, .func (.func 40) #[.pointer (some ⟨g0, 0, none⟩)] #[]] rfl rfl rfl (mpe_ rfl) ?_
     refine (maxflow_Net_reach_maxflow_Net_room.calls k1615 g0 A1585 cp1587 x1584 A0_1 c0_1 l0_1 A0_2 c0_2 l0_2 a0_3 t949 A1593 cp1595 x1592 A1599 cp1601 x1598 x1604 a1 t1618 t1619  (fun z_ => pal [(0, 0), (1, 1), (2, 0), (3, 0), (4, 0)] (C1607 z_)) w1617 (fun _ => pal_lt rfl _) (Bx.arg HJ1605 rfl) (Ft.arg (HJ1589.ft) rfl) HC1588 (Ft.arg HJ1590 rfl) HCP0_1 (Ft.arg HJ1591 rfl) HCP0_2 (Ft.arg (HJ1597.ft) rfl) HC1596 (Ft.arg (HJ1603.ft) rfl) HC1602 A1620).mono ?_
     rintro _ w1622 ⟨C1623, A1625, cp1626, rfl, hs1624, HO1627, HC1628, HX1629⟩
     refine ⟨_, rfl, ?_⟩
     replace HO1627 := Own.resF (U := [(0, 0), (1, 1), (5, 13)]) (j := 13) (fun _ _ _ _ h_ => h_) HO1627 hs1624 (by rfl) (by decide) rfl
     replace HX1629 := Bx.res (U := [(0, 0), (1, 1), (5, 13)]) (j := 1) HX1629 hs1624 (by rfl) (by decide) rfl
     replace hs1624 := Step.lift (U := [(0, 0), (1, 1), (5, 13)]) hs1624 [1] rfl rfl
     generalize up C1607 C1623 w1617.heap.size [(0, 0), (1, 1), (5, 13)] = C1623_ at HO1627 HX1629 hs1624
     replace HJ1589 := HJ1589.thru hs1624 rfl
     replace HJ1590 := HJ1590.thru hs1624 rfl
     replace HJ1591 := HJ1591.thru hs1624 rfl
     replace HJ1597 := HJ1597.thru hs1624 rfl
     replace HJ1603 := HJ1603.thru hs1624 rfl
     replace HJ1606 := HJ1606.thru hs1624 rfl
     replace HS1610 := HS1610.trans hs1624 hc rfl
     refine hK_ _ _ (HJ1606).2 ?_
     clear hK_ K_
     (try simp only [Act.put, List.setIfInBounds_toArray, ls0, ls1])
     refine al_pure 6 43 (.pointer (some ⟨g0, 0, none⟩)) (lb 9 127) rfl rfl (by kernel_rfl) (fun _ _ _ => id) rfl (fun w_ => xr_nilCheck _ rfl rfl) ?_
     refine al_pure 7 44 (.pointer (some ⟨g0, 5, none⟩)) (lb 9 255) rfl rfl (by kernel_rfl) (fun _ _ _ => id) rfl (fun w_ => xr_fieldAddr _ _ rfl rfl (bx_field2 Try.underlying74 rfl rfl (by kernel_rfl))) ?_
     refine al_last 8 (lb 9 511) rfl rfl (by kernel_rfl) rfl (fun K_ hK_ => ?_)
     refine bx_store_step (C := C1623_) (z := 1) (g := g0) (j := 5) (tb := 74) (u := .slice A1625 t1618.length cp1626) (seg := [.slice A1625 t1618.length cp1626]) (xs := [.slice A1585 x1584.length cp1587, .slice A0_1 l0_1.length c0_1, .slice A0_2 l0_2.length c0_2, .int .i64 a0_3, .bool t949, .slice A1593 x1592.length cp1595, .slice A1599 x1598.length cp1601, .int .i64 t1619]) rfl rfl rfl rfl rfl rfl (by first | kernel_rfl | rfl) (by simp [Value.oneCell']) HX1629 (by simp only [List.length_cons, List.length_nil]; omega) rfl ?_
     intro w1630 HX1631 hs1632
     replace HJ1589 := HJ1589.thru hs1632 rfl
     replace HJ1590 := HJ1590.thru hs1632 rfl
     replace HJ1591 := HJ1591.thru hs1632 rfl
     replace HO1627 := HO1627.thru hs1632 rfl
     replace HJ1603 := HJ1603.thru hs1632 rfl
     replace HJ1606 := HJ1606.thru hs1632 rfl
     replace HS1610 := HS1610.trans hs1632 hc rfl
     refine hK_ _ _ ?_
     clear hK_ K_
     (try simp only [Act.put, List.setIfInBounds_toArray, ls0, ls1])
     refine al_end (by kernel_rfl) ?_
     (try simp only [ls0, ls1])
     refine hK1616 _ _ ?_
     (try clear hK1616 K1616)
     refine wp_seq_k fun K1633 hK1633 => ?_
     refine wp_seq_k fun K1634 hK1634 => ?_
     refine wl_region ?_
     refine st (.pointer (some ⟨g0, 0, none⟩)) rfl rfl (xr_load _ _ rfl rfl (load_cell Try.underlying24 rfl (bx_cell (HJ1606).2 0 rfl))) ?_
     refine st (.pointer (some ⟨g0, 0, none⟩)) rfl rfl (xr_nilCheck _ rfl rfl) ?_
     refine st (.pointer (some ⟨g0, 5, none⟩)) rfl rfl (xr_fieldAddr _ _ rfl rfl (bx_field2 Try.underlying74 rfl rfl (by kernel_rfl))) ?_
     refine st (.slice A1625 t1618.length cp1626) rfl rfl (xr_load _ _ rfl rfl (load_cell Try.underlying47 rfl (bx_cell (HX1631).2 5 rfl))) ?_
     simp only [ls0, ls1]
     refine mv_ rfl ?_
     obtain ⟨c1635, H⟩ := if_some H
     obtain ⟨c1636, H⟩ := if_some H
     obtain ⟨g1637, hA1638⟩ := HO1627.form (pos_of (j := a2) (by first | assumption | decide) (by first | assumption | omega))
     refine st (.pointer (some ((⟨g1637, 0, none⟩ : Addr).add ((a2 : Int).toNat * 1)))) rfl rfl (xr_indexAddr _ _ _ rfl rfl rfl (index_at Try.underlying47 info3 hA1638 (by first | assumption | decide | omega) (by first | assumption | decide | omega))) ?_
     refine st (.int .i64 (rd t1618 a2)) rfl rfl (xr_load _ _ rfl rfl (load_int Try.underlying3 rfl hA1638 (Ft.now (HO1627.ft)) (by first | assumption | decide | omega) (by first | assumption | decide | omega))) ?_
     refine st (.bool (decide ((rd t1618 a2) = 0))) rfl rfl (xr_bin _ _ _ rfl rfl rfl (B.eql_i64 _ _)) ?_
     simp only [ls0, ls1]
     refine wl_end ?_
     (try simp only [ls0, ls1])
     refine hK1634 _ _ ?_
     (try clear hK1634 K1634)
     by_cases c1639 : (rd t1618 a2) = 0
     ·rw [if_pos c1639] at H
      (try rw [(decide_eq_true c1639)])
      refine wp_cond_true rfl ?_
      refine wp_exit ?_
      (try simp only [ls0, ls1])
      refine hK1066 _ _ ?_
      (try clear hK1066 K1066)
      refine wp_seq_k fun K1640 hK1640 => ?_
      refine wl_region ?_
      refine st (.pointer (some ⟨g0, 0, none⟩)) rfl rfl (xr_load _ _ rfl rfl (load_cell Try.underlying24 rfl (bx_cell (HJ1606).2 0 rfl))) ?_
      refine st (.pointer (some ⟨g0, 0, none⟩)) rfl rfl (xr_nilCheck _ rfl rfl) ?_
      refine st (.pointer (some ⟨g0, 4, none⟩)) rfl rfl (xr_fieldAddr _ _ rfl rfl (bx_field2 Try.underlying74 rfl rfl (by kernel_rfl))) ?_
      refine bx_store (C := C1623_) (z := 1) (g := g0) (j := 4) (tb := 74) (u := .bool true) (seg := [.bool true]) (xs := [.slice A1585 x1584.length cp1587, .slice A0_1 l0_1.length c0_1, .slice A0_2 l0_2.length c0_2, .int .i64 a0_3, .bool t949, .slice A1625 t1618.length cp1626, .slice A1599 x1598.length cp1601, .int .i64 t1619]) rfl rfl rfl rfl rfl rfl (by first | kernel_rfl | rfl) (by simp [Value.oneCell']) HX1631 (by simp only [List.length_cons, List.length_nil]; omega) rfl ?_
      intro w1641 HX1642 hs1643
      replace HJ1589 := HJ1589.thru hs1643 rfl
      replace HJ1590 := HJ1590.thru hs1643 rfl
      replace HJ1591 := HJ1591.thru hs1643 rfl
      replace HO1627 := HO1627.thru hs1643 rfl
      replace HJ1603 := HJ1603.thru hs1643 rfl
      replace HJ1606 := HJ1606.thru hs1643 rfl
      replace HS1610 := HS1610.trans hs1643 hc rfl
      (try simp only [Act.put, List.setIfInBounds_toArray, ls0, ls1])
      refine wl_end ?_
      (try simp only [ls0, ls1])
      refine hK1640 _ _ ?_
      (try clear hK1640 K1640)
      refine wp_seq_k fun K1644 hK1644 => ?_
      refine wl_region ?_
      refine mv_ rfl ?_
      refine as_ rfl ?_
      refine st (.int .i64 0) rfl rfl (xr_assign _ rfl rfl) ?_
      refine wl_end ?_
      (try simp only [ls0, ls1])
      refine hK1644 _ _ ?_
      (try clear hK1644 K1644)
      refine wp_ret ?_
      (try simp only [Exit.inBlock, Exit.then, Exit.noGoto])
      (try simp only [ls0, ls1])
      replace HX1642 := Bx.recol (a := 13) (b := 3) HX1642 (by decide)
      replace HJ1589 := Own.recol (a := 13) (b := 3) HJ1589 (by decide) (by decide)
      replace HJ1590 := Ft.recol (a := 13) (b := 3) HJ1590 (.inl rfl)
      replace HJ1591 := Ft.recol (a := 13) (b := 3) HJ1591 (.inl rfl)
      replace HO1627 := Own.recolor (b := 3) HO1627 (by decide)
      replace HJ1603 := Own.recol (a := 13) (b := 3) HJ1603 (by decide) (by decide)
      replace HJ1606 := Bx.recol (a := 13) (b := 3) HJ1606 (by decide)
      replace HS1610 := Step.recol (a := 13) (b := 3) HS1610 hc (by decide)
      simp only [Option.some.injEq, Prod.mk.injEq] at H
      obtain ⟨rfl, rfl, rfl, rfl, rfl, rfl, rfl⟩ := H
      refine bodyPost_ret (results_tmp2 rfl _ _ _) rfl ?_
      exact ⟨_, A1585, cp1587, A1625, cp1626, A1599, cp1601, rfl, HS1610, HJ1589, HC1588, HO1627, HC1628, HJ1603, HC1602, HX1642⟩
     rw [if_neg c1639] at H
     (try rw [(decide_eq_false c1639)])
     refine wp_cond_false rfl ?_
     refine wp_skip ?_
     (try simp only [ls0, ls1])
     refine hK1633 _ _ ?_
     (try clear hK1633 K1633)
     refine wp_seq_k fun K1645 hK1645 => ?_
     (try simp only [ls0, ls1])
     refine al_start (lb 10 0) rfl rfl rfl (fun w_ => w_.heap[g0]? = some (.cells (List.toArray ([.slice A1585 x1584.length cp1587, .slice A0_1 l0_1.length c0_1, .slice A0_2 l0_2.length c0_2, .int .i64 a0_3, .bool t949, .slice A1625 t1618.length cp1626, .slice A1599 x1598.length cp1601, .int .i64 t1619])) 74 (0, 0)) ∧ w_.heap[g940]? = some (.cells (List.toArray ([.pointer (some ⟨g0, 0, none⟩)])) 24 (0, 0))) ⟨(HX1631.drew).2, (HJ1606.drew).2⟩ [9] ?_
     replace HX1631 := HX1631.drew
     replace HJ1589 := HJ1589.drew
     replace HJ1590 := HJ1590.drew
     replace HJ1591 := HJ1591.drew
     replace HO1627 := HO1627.drew
     replace HJ1603 := HJ1603.drew
     replace HJ1606 := HJ1606.drew
     replace HS1610 := Step.ofDrew HS1610
     generalize w1630.drew = w1646 at *
     refine al_take 0 53 (.pointer (some ⟨g0, 0, none⟩)) (lb 10 1) rfl rfl (by kernel_rfl) (fun _ _ _ => id) rfl (fun w_ hS_ => xr_load _ _ rfl rfl (load_cell Try.underlying24 rfl (bx_cell hS_.2 0 rfl))) ⟨(HX1631).2, (HJ1606).2⟩ ?_
     refine al_take 1 54 (.pointer (some ⟨g0, 0, none⟩)) (lb 10 3) rfl rfl (by kernel_rfl) (fun _ _ _ => id) rfl (fun w_ hS_ => xr_load _ _ rfl rfl (load_cell Try.underlying24 rfl (bx_cell hS_.2 0 rfl))) ⟨(HX1631).2, (HJ1606).2⟩ ?_
     refine al_pure 2 55 (.pointer (some ⟨g0, 0, none⟩)) (lb 10 7) rfl rfl (by kernel_rfl) (fun _ _ _ => id) rfl (fun w_ => xr_nilCheck _ rfl rfl) ?_
     refine al_pure 3 56 (.pointer (some ⟨g0, 2, none⟩)) (lb 10 15) rfl rfl (by kernel_rfl) (fun _ _ _ => id) rfl (fun w_ => xr_fieldAddr _ _ rfl rfl (bx_field2 Try.underlying74 rfl rfl (by kernel_rfl))) ?_
     simp only [ls0, ls1]
     refine al_take 4 57 (.slice A0_2 l0_2.length c0_2) (lb 10 31) rfl rfl (by kernel_rfl) (fun _ _ _ => id) rfl (fun w_ hS_ => xr_load _ _ rfl rfl (load_cell Try.underlying66 rfl (bx_cell hS_.1 2 rfl))) ⟨(HX1631).2, (HJ1606).2⟩ ?_
     refine al_pure 5 58 (.int .i64 (l0_2.length : Int)) (lb 10 63) rfl rfl (by kernel_rfl) (fun _ _ _ => id) rfl (fun w_ => xr_builtin #[.slice A0_2 l0_2.length c0_2] (.int .i64 (l0_2.length : Int)) rfl (mp_ rfl) (by first | rfl | (go_simp; done) | (go_simp; rfl) | (go_simp; exact i64_w _) | (go_simp; exact i32_w _))) ?_
     obtain ⟨c1647, H⟩ := if_some H
     obtain ⟨c1648, H⟩ := if_some H
     obtain ⟨y1649, A1650, H⟩ := bnd H
     refine al_one 6 (lb 10 127) rfl rfl (by kernel_rfl) rfl (fun K_ hK_ => ?_)
     refine Own.make_step (Kd.int .i64) (C := C1623_) (i := 14) rfl 3 rfl 47 _ _ rfl (l0_2.length : Int) rfl rfl Try.underlying47 (.int .i64 0) 8 info3 rfl (by decide) (by decide) 0 (fun _ _ => rfl) (by first | decide | assumption | omega) (by first | decide | assumption | omega) (Option.some.inj A1650) ?_
     intro A1651 cp1652 w1653 C1654 HO1655 HC1656 hs1657
     replace HX1631 := HX1631.thru hs1657 rfl
     replace HJ1589 := HJ1589.thru hs1657 rfl
     replace HJ1590 := HJ1590.thru hs1657 rfl
     replace HJ1591 := HJ1591.thru hs1657 rfl
     replace HO1627 := HO1627.thru hs1657 rfl
     replace HJ1603 := HJ1603.thru hs1657 rfl
     replace HJ1606 := HJ1606.thru hs1657 rfl
     replace HS1610 := HS1610.trans hs1657 hc rfl
     refine hK_ _ _ ⟨(HX1631).2, (HJ1606).2⟩ ?_
     clear hK_ K_
     (try simp only [Act.put, List.setIfInBounds_toArray, ls0, ls1])
     refine al_pure 7 60 (.pointer (some ⟨g0, 0, none⟩)) (lb 10 255) rfl rfl (by kernel_rfl) (fun _ _ _ => id) rfl (fun w_ => xr_nilCheck _ rfl rfl) ?_
     refine al_pure 8 61 (.pointer (some ⟨g0, 6, none⟩)) (lb 10 511) rfl rfl (by kernel_rfl) (fun _ _ _ => id) rfl (fun w_ => xr_fieldAddr _ _ rfl rfl (bx_field2 Try.underlying74 rfl rfl (by kernel_rfl))) ?_
     refine al_last 9 (lb 10 1023) rfl rfl (by kernel_rfl) rfl (fun K_ hK_ => ?_)
     refine bx_store_step (C := C1654) (z := 1) (g := g0) (j := 6) (tb := 74) (u := .slice A1651 y1649.length cp1652) (seg := [.slice A1651 y1649.length cp1652]) (xs := [.slice A1585 x1584.length cp1587, .slice A0_1 l0_1.length c0_1, .slice A0_2 l0_2.length c0_2, .int .i64 a0_3, .bool t949, .slice A1625 t1618.length cp1626, .slice A1599 x1598.length cp1601, .int .i64 t1619]) rfl rfl rfl rfl rfl rfl (by first | kernel_rfl | rfl) (by simp [Value.oneCell']) HX1631 (by simp only [List.length_cons, List.length_nil]; omega) rfl ?_
     intro w1658 HX1659 hs1660
     replace HJ1589 := HJ1589.thru hs1660 rfl
     replace HJ1590 := HJ1590.thru hs1660 rfl
     replace HJ1591 := HJ1591.thru hs1660 rfl
     replace HO1627 := HO1627.thru hs1660 rfl
     replace HO1655 := HO1655.thru hs1660 rfl
     replace HJ1606 := HJ1606.thru hs1660 rfl
     replace HS1610 := HS1610.trans hs1660 hc rfl
     refine hK_ _ _ ?_
     clear hK_ K_
     (try simp only [Act.put, List.setIfInBounds_toArray, ls0, ls1])
     refine al_end (by kernel_rfl) ?_
     (try simp only [ls0, ls1])
     refine hK1645 _ _ ?_
     (try clear hK1645 K1645)
     refine wp_seq_k fun K1661 hK1661 => ?_
     refine wl_region ?_
     refine st (.pointer (some ⟨g0, 0, none⟩)) rfl rfl (xr_load _ _ rfl rfl (load_cell Try.underlying24 rfl (bx_cell (HJ1606).2 0 rfl))) ?_
     refine mv_ rfl ?_
     refine mv_ rfl ?_
     obtain ⟨⟨t1662, t1663, t1664⟩, A1665, H⟩ := bnd H
     (try dsimp only at H)
     refine st_call #[.pointer (some ⟨g0, 0, none⟩), .int .i64 a1, .int .i64 a2] rfl rfl Try.func41 (by kernel_rfl) rfl rfl (mp_ rfl) ?_
     refine (maxflow_Net_path.calls k1615 g0 A1585 cp1587 x1584 A0_1 c0_1 l0_1 A0_2 c0_2 l0_2 a0_3 t949 A1625 cp1626 t1618 A1651 cp1652 y1649 t1619 a1 a2 t1662 t1663 t1664  (fun z_ => pal [(0, 0), (1, 1), (2, 0), (13, 0), (14, 2)] (C1654 z_)) w1658 (fun _ => pal_lt rfl _) (Bx.arg HX1659 rfl) (Ft.arg (HJ1589.ft) rfl) HC1588 (Ft.arg HJ1590 rfl) HCP0_1 (Ft.arg HJ1591 rfl) HCP0_2 (Ft.arg (HO1627.ft) rfl) HC1628 (Own.arg HO1655 rfl rfl) HC1656 A1665).mono ?_
     rintro _ w1667 ⟨C1668, A1670, cp1671, A1675, cp1676, rfl, hs1669, HO1672, HC1673, HN1674, HO1677, HC1678, HX1679⟩
     refine ⟨_, rfl, ?_⟩
     replace HO1672 := OwnG.res (U := [(0, 0), (1, 1), (2, 14), (5, 15)]) (j := 15) HO1672 hs1669 (by rfl) (by decide) rfl
     replace HO1677 := Own.resF (U := [(0, 0), (1, 1), (2, 14), (5, 15)]) (j := 14) (fun _ _ _ _ h_ => h_) HO1677 hs1669 (by rfl) (by decide) rfl
     replace HX1679 := Bx.res (U := [(0, 0), (1, 1), (2, 14), (5, 15)]) (j := 1) HX1679 hs1669 (by rfl) (by decide) rfl
     replace hs1669 := Step.lift (U := [(0, 0), (1, 1), (2, 14), (5, 15)]) hs1669 [1, 14] rfl rfl
     generalize up C1654 C1668 w1658.heap.size [(0, 0), (1, 1), (2, 14), (5, 15)] = C1668_ at HO1672 HO1677 HX1679 hs1669
     replace HJ1589 := HJ1589.thru hs1669 rfl
     replace HJ1590 := HJ1590.thru hs1669 rfl
     replace HJ1591 := HJ1591.thru hs1669 rfl
     replace HO1627 := HO1627.thru hs1669 rfl
     replace HJ1606 := HJ1606.thru hs1669 rfl
     replace HS1610 := HS1610.trans hs1669 hc rfl
     (try simp only [Act.put, List.setIfInBounds_toArray, ls0, ls1])
     refine as_ rfl ?_
     refine wl_end ?_
     (try simp only [ls0, ls1])
     refine hK1661 _ _ ?_
     (try clear hK1661 K1661)
     refine wp_block ?_
     (try simp only [ls0, ls1])
     refine wp_looped (looped_fin (fun kq1817 a_ w1816 => ∃ (C1815 : Nat → Nat) (x1789 : Int) (x1812 : Int) (A1791 : Option Addr) (n1792 cp1793 : Nat) (x1790 : List Int) (A1798 : Option Addr) (n1799 cp1800 : Nat) (x1797 : List (S78)) (A1807 : Option Addr) (n1808 cp1809 : Nat) (x1806 : List Int) (g_ : Nat → Value), a_ = ⟨#[(g_ 0), .int .i64 a1, .int .i64 a2, .pointer (some ⟨g940, 0, none⟩), (g_ 4), (g_ 5), (g_ 6), (g_ 7), .int .i64 x1789, .slice A1791 n1792 cp1793, (g_ 10), (g_ 11), (g_ 12), (g_ 13), (g_ 14), (g_ 15), (g_ 16), (g_ 17), (g_ 18), (g_ 19), (g_ 20), (g_ 21), (g_ 22), (g_ 23), (g_ 24), (g_ 25), (g_ 26), (g_ 27), (g_ 28), (g_ 29), (g_ 30), (g_ 31), (g_ 32), (g_ 33), (g_ 34), (g_ 35), (g_ 36), (g_ 37), (g_ 38), (g_ 39), (g_ 40), (g_ 41), (g_ 42), (g_ 43), (g_ 44), (g_ 45), (g_ 46), (g_ 47), (g_ 48), (g_ 49), (g_ 50), (g_ 51), (g_ 52), (g_ 53), (g_ 54), (g_ 55), (g_ 56), (g_ 57), (g_ 58), (g_ 59), (g_ 60), (g_ 61), (g_ 62), (g_ 63), (g_ 64), (g_ 65), (g_ 66), (g_ 67), (g_ 68), (g_ 69), (g_ 70), (g_ 71), (g_ 72), (g_ 73), (g_ 74), (g_ 75), (g_ 76), (g_ 77), (g_ 78), (g_ 79), (g_ 80)], []⟩ ∧ Step c w C1815 w1816 [1, 2, 3, 4] ∧ kq1817 ≤ k1615 ∧ (OwnG false C1815 16 w1816 .i64 3 (.slice A1791 n1792 cp1793) x1790) ∧ (n1792 ≤ cp1793) ∧ (x1790 = [] → A1791 = none) ∧ (Own C1815 2 w1816 k78 78 (.slice A1798 n1799 cp1800) x1797) ∧ (n1799 ≤ cp1800) ∧ (Ft C1815 [0] w1816 (fun w_ => (Kd.int .i64).C w_ A0_1 l0_1.length l0_1)) ∧ (Ft C1815 [0] w1816 (fun w_ => (Kd.slice 3 (Kd.int .i64)).C w_ A0_2 l0_2.length l0_2)) ∧ (Own C1815 13 w1816 (Kd.int .i64) 3 (.slice A1625 t1618.length cp1626) t1618) ∧ (Own C1815 17 w1816 (Kd.int .i64) 3 (.slice A1807 n1808 cp1809) x1806) ∧ (n1808 ≤ cp1809) ∧ (Bx C1815 1 w1816 g0 74 ([.slice A1798 n1799 cp1800, .slice A0_1 l0_1.length c0_1, .slice A0_2 l0_2.length c0_2, .int .i64 a0_3, .bool t949, .slice A1625 t1618.length cp1626, .slice A1807 n1808 cp1809, .int .i64 x1812])) ∧ (Bx C1815 11 w1816 g940 24 ([.pointer (some ⟨g0, 0, none⟩)])) ∧ maxflow_Net_Max.l0 kq1817 a0_3 a1 a2 l0_1 l0_2 t949 t1618 x1789 x1790 x1797 x1806 x1812 = some (r1, r2, r3, r4, r5, r6, r7)) ?step fun hL_ => ?init)
     case init =>
      replace HX1679 := Bx.recol (a := 15) (b := 16) HX1679 (by decide)
      replace HJ1589 := Own.recol (a := 15) (b := 16) HJ1589 (by decide) (by decide)
      replace HJ1590 := Ft.recol (a := 15) (b := 16) HJ1590 (.inl rfl)
      replace HJ1591 := Ft.recol (a := 15) (b := 16) HJ1591 (.inl rfl)
      replace HO1627 := Own.recol (a := 15) (b := 16) HO1627 (by decide) (by decide)
      replace HO1677 := Own.recol (a := 15) (b := 16) HO1677 (by decide) (by decide)
      replace HJ1606 := Bx.recol (a := 15) (b := 16) HJ1606 (by decide)
      replace HO1672 := OwnG.recolor (b := 16) HO1672 (by decide)
      replace HS1610 := Step.recol (a := 15) (b := 16) HS1610 hc (by decide)
      replace HX1679 := Bx.recol (a := 14) (b := 17) HX1679 (by decide)
      replace HJ1589 := Own.recol (a := 14) (b := 17) HJ1589 (by decide) (by decide)
      replace HJ1590 := Ft.recol (a := 14) (b := 17) HJ1590 (.inl rfl)
      replace HJ1591 := Ft.recol (a := 14) (b := 17) HJ1591 (.inl rfl)
      replace HO1627 := Own.recol (a := 14) (b := 17) HO1627 (by decide) (by decide)
      replace HO1677 := Own.recolor (b := 17) HO1677 (by decide)
      replace HJ1606 := Bx.recol (a := 14) (b := 17) HJ1606 (by decide)
      replace HO1672 := OwnG.recol (a := 14) (b := 17) HO1672 (by decide) (by decide)
      replace HS1610 := Step.recol (a := 14) (b := 17) HS1610 hc (by decide)
      exact jmpL (fun a_ h_ => hL_ k1615 a_ _ h_) (fun g_ => ⟨_, x1583, t1664, A1670, t1662.length, cp1671, t1662, A1585, x1584.length, cp1587, x1584, A1675, t1663.length, cp1676, t1663, g_, rfl, HS1610, Nat.le_refl _, HO1672, HC1673, HN1674, HJ1589, HC1588, HJ1590, HJ1591, HO1627, HO1677, HC1678, HX1679, HJ1606, H⟩) rfl
     case step =>
      intro kq1817 ih1820 a1821 w1816 hr1822
      obtain ⟨C1815, x1789, x1812, A1791, n1792, cp1793, x1790, A1798, n1799, cp1800, x1797, A1807, n1808, cp1809, x1806, g_, rfl, HS1818, hk1819, HJ1795, HC1794, HN1796, HJ1802, HC1801, HJ1803, HJ1804, HJ1805, HJ1811, HC1810, HJ1813, HJ1814, H⟩ := hr1822
      refine looped_round ?_
      obtain rfl : n1792 = x1790.length := HJ1795.at_.1
      obtain rfl : n1799 = x1797.length := HJ1802.at_.1
      obtain rfl : n1808 = x1806.length := HJ1811.at_.1
      cases kq1817 with
      | zero => exact absurd H (by simp [maxflow_Net_Max.l0])
      | succ k1823 =>
       simp only [maxflow_Net_Max.l0] at H
       refine wp_seq_k fun K1824 hK1824 => ?_
       refine wp_seq_k fun K1825 hK1825 => ?_
       refine wl_region ?_
       refine mv_ rfl ?_
       by_cases c1826 : 0 < (x1790.length : Int)
       ·rw [if_pos c1826] at H
        obtain ⟨ad1827, hA1828⟩ := c_addr (Ft.now (HJ1795.ft)) (by omega)
        refine st (.bool true) rfl rfl (xr_bin (.slice A1791 x1790.length cp1793) (.slice none 0 0) (.bool true) rfl rfl rfl (by rw [hA1828]; exact B.neq_slnil ⟨_, Try.underlying47⟩)) ?_
        refine wl_end ?_
        (try simp only [ls0, ls1])
        refine hK1825 _ _ ?_
        (try clear hK1825 K1825)
        refine wp_cond_true rfl ?_
        refine wp_skip ?_
        (try simp only [ls0, ls1])
        refine hK1824 _ _ ?_
        (try clear hK1824 K1824)
        refine wp_seq_k fun K1829 hK1829 => ?_
        refine wp_block ?_
        refine wl_region ?_
        refine mv_ rfl ?_
        refine st (.pointer (some ⟨g0, 0, none⟩)) rfl rfl (xr_load _ _ rfl rfl (load_cell Try.underlying24 rfl (bx_cell (HJ1814).2 0 rfl))) ?_
        refine mv_ rfl ?_
        obtain ⟨⟨t1830, t1831⟩, A1832, H⟩ := bnd H
        (try dsimp only at H)
        refine st_call #[.pointer (some ⟨g0, 0, none⟩), .slice A1791 x1790.length cp1793] rfl rfl Try.func42 (by kernel_rfl) rfl rfl (mp_ rfl) ?_
        refine (maxflow_Net_push.calls k1823 g0 A1798 cp1800 x1797 A0_1 c0_1 l0_1 A0_2 c0_2 l0_2 a0_3 t949 A1625 cp1626 t1618 A1807 cp1809 x1806 x1812 A1791 cp1793 x1790 t1830 t1831  (fun z_ => pal [(0, 0), (1, 1), (2, 2), (13, 0), (16, 0), (17, 0)] (C1815 z_)) w1816 (fun _ => pal_lt rfl _) (Bx.arg HJ1813 rfl) (Own.arg HJ1802 rfl rfl) HC1801 (Ft.arg HJ1803 rfl) HCP0_1 (Ft.arg HJ1804 rfl) HCP0_2 (Ft.arg (HJ1805.ft) rfl) HC1628 (Ft.arg (HJ1811.ft) rfl) HC1810 (Ft.arg (HJ1795.ft) rfl) HC1794 A1832).mono ?_
        rintro _ w1834 ⟨C1835, A1837, cp1838, rfl, hs1836, HO1839, HC1840, HX1841⟩
        refine ⟨_, rfl, ?_⟩
        replace HO1839 := Own.resF (U := [(0, 0), (1, 1), (2, 2)]) (j := 2) (fun _ _ _ _ h_ => h_) HO1839 hs1836 (by rfl) (by decide) rfl
        replace HX1841 := Bx.res (U := [(0, 0), (1, 1), (2, 2)]) (j := 1) HX1841 hs1836 (by rfl) (by decide) rfl
        replace hs1836 := Step.lift (U := [(0, 0), (1, 1), (2, 2)]) hs1836 [1, 2] rfl rfl
        generalize up C1815 C1835 w1816.heap.size [(0, 0), (1, 1), (2, 2)] = C1835_ at HO1839 HX1841 hs1836
        replace HJ1803 := HJ1803.thru hs1836 rfl
        replace HJ1804 := HJ1804.thru hs1836 rfl
        replace HJ1805 := HJ1805.thru hs1836 rfl
        replace HJ1811 := HJ1811.thru hs1836 rfl
        replace HJ1814 := HJ1814.thru hs1836 rfl
        replace HS1818 := HS1818.trans hs1836 hc rfl
        (try simp only [Act.put, List.setIfInBounds_toArray, ls0, ls1])
        refine st (.int .i64 (wrap64 (x1789 + t1830))) rfl rfl (xr_bin _ _ _ rfl rfl rfl (B.add_i64 _ _)) ?_
        refine as_ rfl ?_
        refine wl_end ?_
        (try simp only [ls0, ls1])
        refine hK1829 _ _ ?_
        (try clear hK1829 K1829)
        refine wl_region ?_
        refine st (.pointer (some ⟨g0, 0, none⟩)) rfl rfl (xr_load _ _ rfl rfl (load_cell Try.underlying24 rfl (bx_cell (HJ1814).2 0 rfl))) ?_
        refine mv_ rfl ?_
        refine mv_ rfl ?_
        obtain ⟨⟨t1842, t1843, t1844⟩, A1845, H⟩ := bnd H
        (try dsimp only at H)
        refine st_call #[.pointer (some ⟨g0, 0, none⟩), .int .i64 a1, .int .i64 a2] rfl rfl Try.func41 (by kernel_rfl) rfl rfl (mp_ rfl) ?_
        refine (maxflow_Net_path.calls k1823 g0 A1837 cp1838 t1831 A0_1 c0_1 l0_1 A0_2 c0_2 l0_2 a0_3 t949 A1625 cp1626 t1618 A1807 cp1809 x1806 x1812 a1 a2 t1842 t1843 t1844  (fun z_ => pal [(0, 0), (1, 1), (2, 0), (13, 0), (17, 2)] (C1835_ z_)) w1834 (fun _ => pal_lt rfl _) (Bx.arg HX1841 rfl) (Ft.arg (HO1839.ft) rfl) HC1840 (Ft.arg HJ1803 rfl) HCP0_1 (Ft.arg HJ1804 rfl) HCP0_2 (Ft.arg (HJ1805.ft) rfl) HC1628 (Own.arg HJ1811 rfl rfl) HC1810 A1845).mono ?_
        rintro _ w1847 ⟨C1848, A1850, cp1851, A1855, cp1856, rfl, hs1849, HO1852, HC1853, HN1854, HO1857, HC1858, HX1859⟩
        refine ⟨_, rfl, ?_⟩
        replace HO1852 := OwnG.res (U := [(0, 0), (1, 1), (2, 17), (5, 18)]) (j := 18) HO1852 hs1849 (by rfl) (by decide) rfl
        replace HO1857 := Own.resF (U := [(0, 0), (1, 1), (2, 17), (5, 18)]) (j := 17) (fun _ _ _ _ h_ => h_) HO1857 hs1849 (by rfl) (by decide) rfl
        replace HX1859 := Bx.res (U := [(0, 0), (1, 1), (2, 17), (5, 18)]) (j := 1) HX1859 hs1849 (by rfl) (by decide) rfl
        replace hs1849 := Step.lift (U := [(0, 0), (1, 1), (2, 17), (5, 18)]) hs1849 [1, 17] rfl rfl
        generalize up C1835_ C1848 w1834.heap.size [(0, 0), (1, 1), (2, 17), (5, 18)] = C1848_ at HO1852 HO1857 HX1859 hs1849
        replace HO1839 := HO1839.thru hs1849 rfl
        replace HJ1803 := HJ1803.thru hs1849 rfl
        replace HJ1804 := HJ1804.thru hs1849 rfl
        replace HJ1805 := HJ1805.thru hs1849 rfl
        replace HJ1814 := HJ1814.thru hs1849 rfl
        replace HS1818 := HS1818.trans hs1849 hc rfl
        (try simp only [Act.put, List.setIfInBounds_toArray, ls0, ls1])
        refine as_ rfl ?_
        refine wl_end ?_
        (try simp only [ls0, ls1])
        replace HO1852 := OwnG.recolor (b := 16) HO1852 (by decide)
        replace HX1859 := Bx.recol (a := 18) (b := 16) HX1859 (by decide)
        replace HO1839 := Own.recol (a := 18) (b := 16) HO1839 (by decide) (by decide)
        replace HJ1803 := Ft.recol (a := 18) (b := 16) HJ1803 (.inl rfl)
        replace HJ1804 := Ft.recol (a := 18) (b := 16) HJ1804 (.inl rfl)
        replace HJ1805 := Own.recol (a := 18) (b := 16) HJ1805 (by decide) (by decide)
        replace HO1857 := Own.recol (a := 18) (b := 16) HO1857 (by decide) (by decide)
        replace HJ1814 := Bx.recol (a := 18) (b := 16) HJ1814 (by decide)
        replace HS1818 := Step.recol (a := 18) (b := 16) HS1818 hc (by decide)
        exact jmpL (fun a_ h_ => ih1820 k1823 (by omega) a_ _ h_) (fun g_ => ⟨_, wrap64 (x1789 + t1830), t1844, A1850, t1842.length, cp1851, t1842, A1837, t1831.length, cp1838, t1831, A1855, t1843.length, cp1856, t1843, g_, rfl, HS1818, (by omega), HO1852, HC1853, HN1854, HO1839, HC1840, HJ1803, HJ1804, HJ1805, HO1857, HC1858, HX1859, HJ1814, H⟩) rfl
       rw [if_neg c1826] at H
       have hA1860 := HN1796 (List.eq_nil_of_length_eq_zero (by omega))
       refine st (.bool false) rfl rfl (xr_bin (.slice A1791 x1790.length cp1793) (.slice none 0 0) (.bool false) rfl rfl rfl (by rw [hA1860]; exact B.neq_slnil ⟨_, Try.underlying47⟩)) ?_
       refine wl_end ?_
       (try simp only [ls0, ls1])
       refine hK1825 _ _ ?_
       (try clear hK1825 K1825)
       refine wp_cond_false rfl ?_
       refine wp_exit ?_
       (try simp only [ls0, ls1])
       replace HJ1795 := OwnG.recol (a := 13) (b := 3) HJ1795 (by decide) (by decide)
       replace HJ1813 := Bx.recol (a := 13) (b := 3) HJ1813 (by decide)
       replace HJ1802 := Own.recol (a := 13) (b := 3) HJ1802 (by decide) (by decide)
       replace HJ1803 := Ft.recol (a := 13) (b := 3) HJ1803 (.inl rfl)
       replace HJ1804 := Ft.recol (a := 13) (b := 3) HJ1804 (.inl rfl)
       replace HJ1805 := Own.recolor (b := 3) HJ1805 (by decide)
       replace HJ1811 := Own.recol (a := 13) (b := 3) HJ1811 (by decide) (by decide)
       replace HJ1814 := Bx.recol (a := 13) (b := 3) HJ1814 (by decide)
       replace HS1818 := Step.recol (a := 13) (b := 3) HS1818 hc (by decide)
       replace HJ1795 := OwnG.recol (a := 17) (b := 4) HJ1795 (by decide) (by decide)
       replace HJ1813 := Bx.recol (a := 17) (b := 4) HJ1813 (by decide)
       replace HJ1802 := Own.recol (a := 17) (b := 4) HJ1802 (by decide) (by decide)
       replace HJ1803 := Ft.recol (a := 17) (b := 4) HJ1803 (.inl rfl)
       replace HJ1804 := Ft.recol (a := 17) (b := 4) HJ1804 (.inl rfl)
       replace HJ1805 := Own.recol (a := 17) (b := 4) HJ1805 (by decide) (by decide)
       replace HJ1811 := Own.recolor (b := 4) HJ1811 (by decide)
       replace HJ1814 := Bx.recol (a := 17) (b := 4) HJ1814 (by decide)
       replace HS1818 := Step.recol (a := 17) (b := 4) HS1818 hc (by decide)
       exact jmpL (fun a_ h_ => ih1612 k1823 (by omega) a_ _ h_) (fun g_ => ⟨_, x1789, x1812, A1798, x1797.length, cp1800, x1797, A1625, t1618.length, cp1626, t1618, A1807, x1806.length, cp1809, x1806, g_, rfl, HS1818, (by omega), HJ1802, HC1801, HJ1803, HJ1804, HJ1805, HC1628, HJ1811, HC1810, HJ1813, HJ1814, H⟩) rfl
 refine wl_region ?_
 refine st (.pointer (some ⟨g0, 0, none⟩)) rfl rfl (xr_load _ _ rfl rfl (load_cell Try.underlying24 rfl (bx_cell (HX943).2 0 rfl))) ?_
 refine mv_ rfl ?_
 have HP1861 : Ft C953_ [0, 1, 2, 3, 4] w952 (fun w_ => (Kd.ptr 74 k74).K w_ (some (⟨t948, l0_1, l0_2, a0_3, t949, l0_5, l0_6, (⟨a0_7⟩ : S72)⟩ : S74)) [.pointer (some ⟨g0, 0, none⟩)]) := ptr_mk (Ft.more (HX959.ft) rfl) (k74_mkF _ _ (⟨t948, l0_1, l0_2, a0_3, t949, l0_5, l0_6, (⟨a0_7⟩ : S72)⟩ : S74) HC958 (Ft.more (HO957.ft) rfl) HCP0_1 (Ft.more HP0_1 rfl) HCP0_2 (Ft.more HP0_2 rfl) HCP0_5 (Ft.more (HP0_5.ft) rfl) HCP0_6 (Ft.more (HP0_6.ft) rfl))
 obtain ⟨t1862, A1863, H⟩ := bnd H
 refine st_call #[.pointer (some ⟨g0, 0, none⟩), .int .i64 a1] rfl rfl Try.func37 (by kernel_rfl) rfl rfl (mp_ rfl) ?_
 refine (maxflow_Net_in.calls (.pointer (some ⟨g0, 0, none⟩)) (some (⟨t948, l0_1, l0_2, a0_3, t949, l0_5, l0_6, (⟨a0_7⟩ : S72)⟩ : S74) : Option S74) a1 t1862  (fun z_ => pal [(0, 0), (1, 0), (2, 0), (3, 0), (4, 0)] (C953_ z_)) w952 (fun _ => pal_lt rfl _) (Ft.arg HP1861 rfl) A1863).mono ?_
 rintro _ w1865 ⟨C1866, rfl, hs1867⟩
 refine ⟨_, rfl, ?_⟩
 replace hs1867 := Step.lift (U := [(0, 0)]) hs1867 [] rfl rfl
 generalize up C953_ C1866 w952.heap.size [(0, 0)] = C1866_ at hs1867
 replace HX959 := HX959.thru hs1867 rfl
 replace HO957 := HO957.thru hs1867 rfl
 replace HP0_1 := HP0_1.thru hs1867 rfl
 replace HP0_2 := HP0_2.thru hs1867 rfl
 replace HP0_5 := HP0_5.thru hs1867 rfl
 replace HP0_6 := HP0_6.thru hs1867 rfl
 replace HX943 := HX943.thru hs1867 rfl
 replace HS := HS.trans hs1867 hc rfl
 (try simp only [Act.put, List.setIfInBounds_toArray, ls0, ls1])
 refine st (.bool (!t1862)) rfl rfl (xr_un (.bool t1862) _ rfl rfl (by first | rfl | (go_simp; done) | (go_simp; rfl) | (go_simp; exact i64_w _) | (go_simp; exact i32_w _))) ?_
 refine mv_ rfl ?_
 by_cases c1868 : t1862 = true
 ·rw [if_pos c1868] at H
  (try rw [c1868])
  (try simp only [Bool.not_true, Bool.not_false])
  refine on_guard (guard_on 4 false 18 rfl rfl rfl) ?_
  refine st (.pointer (some ⟨g0, 0, none⟩)) rfl rfl (xr_load _ _ rfl rfl (load_cell Try.underlying24 rfl (bx_cell (HX943).2 0 rfl))) ?_
  refine on_guard (guard_on 4 false 18 rfl rfl rfl) ?_
  refine mv_ rfl ?_
  simp only [ls0, ls1]
  refine on_guard (guard_on 4 false 18 rfl rfl rfl) ?_
  have HP1869 : Ft C1866_ [0, 1, 2, 3, 4] w1865 (fun w_ => (Kd.ptr 74 k74).K w_ (some (⟨t948, l0_1, l0_2, a0_3, t949, l0_5, l0_6, (⟨a0_7⟩ : S72)⟩ : S74)) [.pointer (some ⟨g0, 0, none⟩)]) := ptr_mk (Ft.more (HX959.ft) rfl) (k74_mkF _ _ (⟨t948, l0_1, l0_2, a0_3, t949, l0_5, l0_6, (⟨a0_7⟩ : S72)⟩ : S74) HC958 (Ft.more (HO957.ft) rfl) HCP0_1 (Ft.more HP0_1 rfl) HCP0_2 (Ft.more HP0_2 rfl) HCP0_5 (Ft.more (HP0_5.ft) rfl) HCP0_6 (Ft.more (HP0_6.ft) rfl))
  obtain ⟨t1870, A1871, H⟩ := bnd H
  refine st_call #[.pointer (some ⟨g0, 0, none⟩), .int .i64 a2] rfl rfl Try.func37 (by kernel_rfl) rfl rfl (mp_ rfl) ?_
  refine (maxflow_Net_in.calls (.pointer (some ⟨g0, 0, none⟩)) (some (⟨t948, l0_1, l0_2, a0_3, t949, l0_5, l0_6, (⟨a0_7⟩ : S72)⟩ : S74) : Option S74) a2 t1870  (fun z_ => pal [(0, 0), (1, 0), (2, 0), (3, 0), (4, 0)] (C1866_ z_)) w1865 (fun _ => pal_lt rfl _) (Ft.arg HP1869 rfl) A1871).mono ?_
  rintro _ w1873 ⟨C1874, rfl, hs1875⟩
  refine ⟨_, rfl, ?_⟩
  replace hs1875 := Step.lift (U := [(0, 0)]) hs1875 [] rfl rfl
  generalize up C1866_ C1874 w1865.heap.size [(0, 0)] = C1874_ at hs1875
  replace HX959 := HX959.thru hs1875 rfl
  replace HO957 := HO957.thru hs1875 rfl
  replace HP0_1 := HP0_1.thru hs1875 rfl
  replace HP0_2 := HP0_2.thru hs1875 rfl
  replace HP0_5 := HP0_5.thru hs1875 rfl
  replace HP0_6 := HP0_6.thru hs1875 rfl
  replace HX943 := HX943.thru hs1875 rfl
  replace HS := HS.trans hs1875 hc rfl
  (try simp only [Act.put, List.setIfInBounds_toArray, ls0, ls1])
  refine on_guard (guard_on 4 false 18 rfl rfl rfl) ?_
  refine st (.bool (!t1870)) rfl rfl (xr_un (.bool t1870) _ rfl rfl (by first | rfl | (go_simp; done) | (go_simp; rfl) | (go_simp; exact i64_w _) | (go_simp; exact i32_w _))) ?_
  refine st (.bool (!t1870)) rfl rfl (xr_pick false _ rfl rfl rfl) ?_
  refine mv_ rfl ?_
  by_cases c1876 : t1870 = true
  ·rw [if_pos c1876] at H
   (try rw [c1876])
   (try simp only [Bool.not_true, Bool.not_false])
   refine on_guard (guard_on 10 false 24 rfl rfl rfl) ?_
   refine mv_ rfl ?_
   simp only [ls0, ls1]
   refine on_guard (guard_on 10 false 24 rfl rfl rfl) ?_
   refine mv_ rfl ?_
   refine on_guard (guard_on 10 false 24 rfl rfl rfl) ?_
   refine st (.bool (decide (a1 = a2))) rfl rfl (xr_bin _ _ _ rfl rfl rfl (B.eql_i64 _ _)) ?_
   refine st (.bool (decide (a1 = a2))) rfl rfl (xr_pick false _ rfl rfl rfl) ?_
   refine wl_end ?_
   (try simp only [ls0, ls1])
   exact jmp (fun g_ => hj1028 _ _ _ (decide (a1 = a2)) g_ HS (by omega) HO957 HP0_1 HP0_2 HP0_5 HP0_6 HX959 HX943 H) rfl
  rw [if_neg c1876] at H
  (try rw [(Bool.eq_false_iff.mpr c1876)])
  (try simp only [Bool.not_true, Bool.not_false])
  refine sk_guard (guard_off 10 false 24 rfl rfl true (by decide) rfl) rfl ?_
  refine sk_guard (guard_off 10 false 24 rfl rfl true (by decide) rfl) rfl ?_
  refine sk_guard (guard_off 10 false 24 rfl rfl true (by decide) rfl) rfl ?_
  refine st (.bool true) rfl rfl (xr_pick true _ rfl rfl rfl) ?_
  simp only [ls0, ls1]
  refine wl_end ?_
  (try simp only [ls0, ls1])
  exact jmp (fun g_ => hj1028 _ _ _ (true) g_ HS (by omega) HO957 HP0_1 HP0_2 HP0_5 HP0_6 HX959 HX943 H) rfl
 rw [if_neg c1868] at H
 (try rw [(Bool.eq_false_iff.mpr c1868)])
 (try simp only [Bool.not_true, Bool.not_false])
 refine sk_guard (guard_off 4 false 18 rfl rfl true (by decide) rfl) rfl ?_
 refine sk_guard (guard_off 4 false 18 rfl rfl true (by decide) rfl) rfl ?_
 refine sk_guard (guard_off 4 false 18 rfl rfl true (by decide) rfl) rfl ?_
 refine sk_guard (guard_off 4 false 18 rfl rfl true (by decide) rfl) rfl ?_
 simp only [ls0, ls1]
 refine st (.bool true) rfl rfl (xr_pick true _ rfl rfl rfl) ?_
 refine mv_ rfl ?_
 refine sk_guard (guard_off 10 false 24 rfl rfl true (by decide) rfl) rfl ?_
 refine sk_guard (guard_off 10 false 24 rfl rfl true (by decide) rfl) rfl ?_
 simp only [ls0, ls1]
 refine sk_guard (guard_off 10 false 24 rfl rfl true (by decide) rfl) rfl ?_
 refine st (.bool true) rfl rfl (xr_pick true _ rfl rfl rfl) ?_
 refine wl_end ?_
 (try simp only [ls0, ls1])
 exact jmp (fun g_ => hj1028 _ _ _ (true) g_ HS (by omega) HO957 HP0_1 HP0_2 HP0_5 HP0_6 HX959 HX943 H) rfl

/-! ### maxflow_Net_reach_nil_maxflow_Net_room: function 38 -/
def maxflow_Net_reach_nil_maxflow_Net_room.f (k : Nat) (a1 : Int) : Option (List Int) := none

set_option maxHeartbeats 8000000 in
set_option maxRecDepth 100000 in
theorem maxflow_Net_reach_nil_maxflow_Net_room.calls (k : Nat) (a1 : Int) (r : List Int) (c : Nat → Nat) (w : World) (hc : ∀ k, c k < 10)  (H : maxflow_Net_reach_nil_maxflow_Net_room.f k a1 = some r) :
    Calls Try.prog 38 #[.pointer none, .int .i64 a1, .func (.func 40) #[.pointer none] #[]] w fun e w' => ∃ (c' : Nat → Nat) (A_r : Option Addr) (c_r : Nat), e = .returned (.slice A_r r.length c_r) ∧ Step c w c' w' [] ∧ Own c' 5 w' (Kd.int .i64) 3 (.slice A_r r.length c_r) r ∧ r.length ≤ c_r := by
 unfold maxflow_Net_reach_nil_maxflow_Net_room.f at H
 have HS := Step.refl c w []
 go_enter Try.func38, Try.ntmps38
 refine wp_seq_k fun K3 hK3 => ?_
 refine wl_region ?_
 refine st (.slice none 0 0) rfl rfl (xr_assign _ rfl rfl) ?_
 refine wl_end ?_
 (try simp only [ls0, ls1])
 refine hK3 _ _ ?_
 (try clear hK3 K3)
 refine wp_seq_k fun K4 hK4 => ?_
 refine wl_region ?_
 refine mv_ rfl ?_
 exact absurd H (by simp)

/-! ### maxflow_Net_Side: function 25 -/
def maxflow_Net_Side.l0 : Nat → (List Int) → Int → (List Bool) → Int → Option (List Bool × Int)
  | 0, _, _, _, _ => none
  | k + 1, t141, t142, x210, x217 => if x217 < (t141.length : Int) then (if 0 ≤ x217 then (if x210.length < 140737488355328 then ((some (x210 ++ [decide ((rd t141 x217) > 0)] : List Bool)).bind fun y242 => (maxflow_Net_Side.l0 k t141 t142 y242 (wrap64 (x217 + 1)))) else (none)) else (none)) else (some (x210, t142))
def maxflow_Net_Side.f (k : Nat) (l0_0 : List (S78)) (l0_1 : List Int) (l0_2 : List (List Int)) (a0_3 : Int) (a0_4 : Bool) (l0_5 : List Int) (l0_6 : List Int) (a0_7 : Int) (a1 : Int) : Option (List Bool × Int) := (maxflow_Net_in.f (some (⟨l0_0, l0_1, l0_2, a0_3, a0_4, l0_5, l0_6, (⟨a0_7⟩ : S72)⟩ : S74) : Option S74) a1).bind fun t131 => (if t131 = true then ((maxflow_Net_reach_maxflow_Net_room.f k l0_0 l0_1 l0_2 a0_3 a0_4 l0_5 l0_6 a0_7 a1).bind fun bt141 => (maxflow_Net_Side.l0 k bt141.1 bt141.2 ([] : List Bool) 0)) else (some (([] : List Bool), a0_7)))

set_option maxHeartbeats 8000000 in
set_option maxRecDepth 100000 in
theorem maxflow_Net_Side.calls (k : Nat) (g0 : Nat) (A0_0 : Option Addr) (c0_0 : Nat) (l0_0 : List (S78)) (A0_1 : Option Addr) (c0_1 : Nat) (l0_1 : List Int) (A0_2 : Option Addr) (c0_2 : Nat) (l0_2 : List (List Int)) (a0_3 : Int) (a0_4 : Bool) (A0_5 : Option Addr) (c0_5 : Nat) (l0_5 : List Int) (A0_6 : Option Addr) (c0_6 : Nat) (l0_6 : List Int) (a0_7 : Int) (a1 : Int) (r1 : List Bool) (r2 : Int) (c : Nat → Nat) (w : World) (hc : ∀ k, c k < 10) (HP0 : Bx c 1 w g0 74 ([.slice A0_0 l0_0.length c0_0, .slice A0_1 l0_1.length c0_1, .slice A0_2 l0_2.length c0_2, .int .i64 a0_3, .bool a0_4, .slice A0_5 l0_5.length c0_5, .slice A0_6 l0_6.length c0_6, .int .i64 a0_7])) (HP0_0 : Ft c [0] w (fun w_ => k78.C w_ A0_0 l0_0.length l0_0)) (HCP0_0 : l0_0.length ≤ c0_0) (HP0_1 : Ft c [0] w (fun w_ => (Kd.int .i64).C w_ A0_1 l0_1.length l0_1)) (HCP0_1 : l0_1.length ≤ c0_1) (HP0_2 : Ft c [0] w (fun w_ => (Kd.slice 3 (Kd.int .i64)).C w_ A0_2 l0_2.length l0_2)) (HCP0_2 : l0_2.length ≤ c0_2) (HP0_5 : Ft c [0] w (fun w_ => (Kd.int .i64).C w_ A0_5 l0_5.length l0_5)) (HCP0_5 : l0_5.length ≤ c0_5) (HP0_6 : Ft c [0] w (fun w_ => (Kd.int .i64).C w_ A0_6 l0_6.length l0_6)) (HCP0_6 : l0_6.length ≤ c0_6) (H : maxflow_Net_Side.f k l0_0 l0_1 l0_2 a0_3 a0_4 l0_5 l0_6 a0_7 a1 = some (r1, r2)) :
    Calls Try.prog 25 #[.pointer (some ⟨g0, 0, none⟩), .int .i64 a1] w fun e w' => ∃ (c' : Nat → Nat) (A_r1 : Option Addr) (c_r1 : Nat), e = .returned (.slice A_r1 r1.length c_r1) ∧ Step c w c' w' [1] ∧ Own c' 5 w' Kd.bool 4 (.slice A_r1 r1.length c_r1) r1 ∧ r1.length ≤ c_r1 ∧ Bx c' 1 w' g0 74 ([.slice A0_0 l0_0.length c0_0, .slice A0_1 l0_1.length c0_1, .slice A0_2 l0_2.length c0_2, .int .i64 a0_3, .bool a0_4, .slice A0_5 l0_5.length c0_5, .slice A0_6 l0_6.length c0_6, .int .i64 r2]) := by
 unfold maxflow_Net_Side.f at H
 have HS := Step.refl c w [1]
 go_enter Try.func25, Try.ntmps25
 refine wp_seq_k fun K127 hK127 => ?_
 refine wl_region ?_
 refine st (.slice none 0 0) rfl rfl (xr_assign _ rfl rfl) ?_
 refine wl_end ?_
 (try simp only [ls0, ls1])
 refine hK127 _ _ ?_
 (try clear hK127 K127)
 refine wp_seq_k fun K128 hK128 => ?_
 refine wp_seq_k fun K129 hK129 => ?_
 refine wl_region ?_
 refine mv_ rfl ?_
 refine mv_ rfl ?_
 have HP130 : Ft c [0, 1] w (fun w_ => (Kd.ptr 74 k74).K w_ (some (⟨l0_0, l0_1, l0_2, a0_3, a0_4, l0_5, l0_6, (⟨a0_7⟩ : S72)⟩ : S74)) [.pointer (some ⟨g0, 0, none⟩)]) := ptr_mk (Ft.more (HP0.ft) rfl) (k74_mkF _ _ (⟨l0_0, l0_1, l0_2, a0_3, a0_4, l0_5, l0_6, (⟨a0_7⟩ : S72)⟩ : S74) HCP0_0 (Ft.more HP0_0 rfl) HCP0_1 (Ft.more HP0_1 rfl) HCP0_2 (Ft.more HP0_2 rfl) HCP0_5 (Ft.more HP0_5 rfl) HCP0_6 (Ft.more HP0_6 rfl))
 obtain ⟨t131, A132, H⟩ := bnd H
 refine st_call #[.pointer (some ⟨g0, 0, none⟩), .int .i64 a1] rfl rfl Try.func37 (by kernel_rfl) rfl rfl (mp_ rfl) ?_
 refine (maxflow_Net_in.calls (.pointer (some ⟨g0, 0, none⟩)) (some (⟨l0_0, l0_1, l0_2, a0_3, a0_4, l0_5, l0_6, (⟨a0_7⟩ : S72)⟩ : S74) : Option S74) a1 t131  (fun z_ => pal [(0, 0), (1, 0)] (c z_)) w (fun _ => pal_lt rfl _) (Ft.arg HP130 rfl) A132).mono ?_
 rintro _ w134 ⟨C135, rfl, hs136⟩
 refine ⟨_, rfl, ?_⟩
 replace hs136 := Step.lift (U := [(0, 0)]) hs136 [] rfl rfl
 generalize up c C135 w.heap.size [(0, 0)] = C135_ at hs136
 replace HP0 := HP0.thru hs136 rfl
 replace HP0_0 := HP0_0.thru hs136 rfl
 replace HP0_1 := HP0_1.thru hs136 rfl
 replace HP0_2 := HP0_2.thru hs136 rfl
 replace HP0_5 := HP0_5.thru hs136 rfl
 replace HP0_6 := HP0_6.thru hs136 rfl
 replace HS := HS.trans hs136 hc rfl
 (try simp only [Act.put, List.setIfInBounds_toArray, ls0, ls1])
 refine st (.bool (!t131)) rfl rfl (xr_un (.bool t131) _ rfl rfl (by first | rfl | (go_simp; done) | (go_simp; rfl) | (go_simp; exact i64_w _) | (go_simp; exact i32_w _))) ?_
 refine wl_end ?_
 (try simp only [ls0, ls1])
 refine hK129 _ _ ?_
 (try clear hK129 K129)
 by_cases c137 : t131 = true
 ·rw [if_pos c137] at H
  (try rw [c137])
  (try simp only [Bool.not_true, Bool.not_false])
  refine wp_cond_false rfl ?_
  refine wp_skip ?_
  (try simp only [ls0, ls1])
  refine hK128 _ _ ?_
  (try clear hK128 K128)
  refine wp_seq_k fun K138 hK138 => ?_
  refine wl_region ?_
  refine st (.slice none 0 0) rfl rfl (xr_assign _ rfl rfl) ?_
  refine wl_end ?_
  (try simp only [ls0, ls1])
  refine hK138 _ _ ?_
  (try clear hK138 K138)
  refine wp_seq_k fun K139 hK139 => ?_
  refine wp_seq_k fun K140 hK140 => ?_
  refine wl_region ?_
  refine mv_ rfl ?_
  refine mv_ rfl ?_
  refine mv_ rfl ?_
  refine st (.func (.func 40) #[.pointer (some ⟨g0, 0, none⟩)] #[]) rfl rfl (xr_makeFunc #[.pointer (some ⟨g0, 0, none⟩)] #[] rfl (mp_ rfl) (mp_ rfl)) ?_
  simp only [ls0, ls1]
  obtain ⟨⟨t141, t142⟩, A143, H⟩ := bnd H
  (try dsimp only at H)
  refine st_call #[.pointer (some ⟨g0, 0, none⟩), .int .i64 a1, .func (.func 40) #[.pointer (some ⟨g0, 0, none⟩)] #[]] rfl rfl Try.func38 (by kernel_rfl) rfl rfl (mp_ rfl) ?_
  refine (maxflow_Net_reach_maxflow_Net_room.calls k g0 A0_0 c0_0 l0_0 A0_1 c0_1 l0_1 A0_2 c0_2 l0_2 a0_3 a0_4 A0_5 c0_5 l0_5 A0_6 c0_6 l0_6 a0_7 a1 t141 t142  (fun z_ => pal [(0, 0), (1, 1)] (C135_ z_)) w134 (fun _ => pal_lt rfl _) (Bx.arg HP0 rfl) (Ft.arg HP0_0 rfl) HCP0_0 (Ft.arg HP0_1 rfl) HCP0_1 (Ft.arg HP0_2 rfl) HCP0_2 (Ft.arg HP0_5 rfl) HCP0_5 (Ft.arg HP0_6 rfl) HCP0_6 A143).mono ?_
  rintro _ w145 ⟨C146, A148, cp149, rfl, hs147, HO150, HC151, HX152⟩
  refine ⟨_, rfl, ?_⟩
  replace HO150 := Own.resF (U := [(0, 0), (1, 1), (5, 11)]) (j := 11) (fun _ _ _ _ h_ => h_) HO150 hs147 (by rfl) (by decide) rfl
  replace HX152 := Bx.res (U := [(0, 0), (1, 1), (5, 11)]) (j := 1) HX152 hs147 (by rfl) (by decide) rfl
  replace hs147 := Step.lift (U := [(0, 0), (1, 1), (5, 11)]) hs147 [1] rfl rfl
  generalize up C135_ C146 w134.heap.size [(0, 0), (1, 1), (5, 11)] = C146_ at HO150 HX152 hs147
  replace HP0_0 := HP0_0.thru hs147 rfl
  replace HP0_1 := HP0_1.thru hs147 rfl
  replace HP0_2 := HP0_2.thru hs147 rfl
  replace HP0_5 := HP0_5.thru hs147 rfl
  replace HP0_6 := HP0_6.thru hs147 rfl
  replace HS := HS.trans hs147 hc rfl
  (try simp only [Act.put, List.setIfInBounds_toArray, ls0, ls1])
  refine st (.int .i64 (t141.length : Int)) rfl rfl (xr_builtin #[.slice A148 t141.length cp149] (.int .i64 (t141.length : Int)) rfl (mp_ rfl) (by first | rfl | (go_simp; done) | (go_simp; rfl) | (go_simp; exact i64_w _) | (go_simp; exact i32_w _))) ?_
  refine st (.int .i64 0) rfl rfl (xr_move _ rfl rfl) ?_
  refine wl_end ?_
  (try simp only [ls0, ls1])
  refine hK140 _ _ ?_
  (try clear hK140 K140)
  refine wp_block ?_
  (try simp only [ls0, ls1])
  refine wp_looped (looped_fin (fun kq226 a_ w225 => ∃ (C224 : Nat → Nat) (x217 : Int) (A211 : Option Addr) (n212 cp213 : Nat) (x210 : List Bool) (g_ : Nat → Value), a_ = ⟨#[(g_ 0), (g_ 1), (g_ 2), (g_ 3), (g_ 4), .slice A211 n212 cp213, (g_ 6), (g_ 7), (g_ 8), (g_ 9), (g_ 10), (g_ 11), (g_ 12), (g_ 13), (g_ 14), (g_ 15), .slice A148 t141.length cp149, .int .i64 (t141.length : Int), .int .i64 x217, (g_ 19), (g_ 20), (g_ 21), (g_ 22), (g_ 23), (g_ 24), (g_ 25), (g_ 26), (g_ 27), (g_ 28)], []⟩ ∧ Step c w C224 w225 [1] ∧ kq226 ≤ k ∧ (Own C224 12 w225 Kd.bool 4 (.slice A211 n212 cp213) x210) ∧ (n212 ≤ cp213) ∧ (Own C224 11 w225 (Kd.int .i64) 3 (.slice A148 t141.length cp149) t141) ∧ (Ft C224 [0] w225 (fun w_ => k78.C w_ A0_0 l0_0.length l0_0)) ∧ (Ft C224 [0] w225 (fun w_ => (Kd.int .i64).C w_ A0_1 l0_1.length l0_1)) ∧ (Ft C224 [0] w225 (fun w_ => (Kd.slice 3 (Kd.int .i64)).C w_ A0_2 l0_2.length l0_2)) ∧ (Ft C224 [0] w225 (fun w_ => (Kd.int .i64).C w_ A0_5 l0_5.length l0_5)) ∧ (Ft C224 [0] w225 (fun w_ => (Kd.int .i64).C w_ A0_6 l0_6.length l0_6)) ∧ (Bx C224 1 w225 g0 74 ([.slice A0_0 l0_0.length c0_0, .slice A0_1 l0_1.length c0_1, .slice A0_2 l0_2.length c0_2, .int .i64 a0_3, .bool a0_4, .slice A0_5 l0_5.length c0_5, .slice A0_6 l0_6.length c0_6, .int .i64 t142])) ∧ maxflow_Net_Side.l0 kq226 t141 t142 x210 x217 = some (r1, r2)) ?step fun hL_ => ?init)
  case init =>
   exact jmpL (fun a_ h_ => hL_ k a_ _ h_) (fun g_ => ⟨_, 0, none, 0, 0, ([] : List Bool), g_, rfl, HS, Nat.le_refl _, (Own.nil _ _ _ _ _), (Nat.le_refl 0), HO150, HP0_0, HP0_1, HP0_2, HP0_5, HP0_6, HX152, H⟩) rfl
  case step =>
   intro kq226 ih229 a230 w225 hr231
   obtain ⟨C224, x217, A211, n212, cp213, x210, g_, rfl, HS227, hk228, HJ215, HC214, HJ216, HJ218, HJ219, HJ220, HJ221, HJ222, HJ223, H⟩ := hr231
   refine looped_round ?_
   obtain rfl : n212 = x210.length := HJ215.at_.1
   cases kq226 with
   | zero => exact absurd H (by simp [maxflow_Net_Side.l0])
   | succ k232 =>
    simp only [maxflow_Net_Side.l0] at H
    refine wp_seq_k fun K233 hK233 => ?_
    refine wl_region ?_
    refine st (.bool (decide (x217 < (t141.length : Int)))) rfl rfl (xr_bin _ _ _ rfl rfl rfl (B.lss_i64 _ _)) ?_
    refine wl_end ?_
    (try simp only [ls0, ls1])
    refine hK233 _ _ ?_
    (try clear hK233 K233)
    refine wp_seq_k fun K234 hK234 => ?_
    by_cases c235 : x217 < (t141.length : Int)
    ·rw [if_pos c235] at H
     (try rw [(decide_eq_true c235)])
     refine wp_cond_true rfl ?_
     refine wp_skip ?_
     (try simp only [ls0, ls1])
     refine hK234 _ _ ?_
     (try clear hK234 K234)
     refine wp_seq_k fun K236 hK236 => ?_
     refine wp_block ?_
     refine wp_seq_k fun K237 hK237 => ?_
     refine wl_region ?_
     obtain ⟨c238, H⟩ := if_some H
     obtain ⟨g239, hA240⟩ := HJ216.form (pos_of (j := x217) (by first | assumption | decide) (by first | assumption | omega))
     refine st (.pointer (some ((⟨g239, 0, none⟩ : Addr).add ((x217 : Int).toNat * 1)))) rfl rfl (xr_indexAddr _ _ _ rfl rfl rfl (index_at Try.underlying47 info3 hA240 (by first | assumption | decide | omega) (by first | assumption | decide | omega))) ?_
     refine st (.int .i64 (rd t141 x217)) rfl rfl (xr_load _ _ rfl rfl (load_int Try.underlying3 rfl hA240 (Ft.now (HJ216.ft)) (by first | assumption | decide | omega) (by first | assumption | decide | omega))) ?_
     refine as_ rfl ?_
     refine wl_end ?_
     (try simp only [ls0, ls1])
     refine hK237 _ _ ?_
     (try clear hK237 K237)
     refine wl_region ?_
     refine mv_ rfl ?_
     refine mv_ rfl ?_
     refine st (.bool (decide ((rd t141 x217) > 0))) rfl rfl (xr_bin _ _ _ rfl rfl rfl (B.gtr_i64 _ _)) ?_
     refine ev_run (w1 := w225.alloc (.cells #[.bool (decide ((rd t141 x217) > 0))] 4)) (.slice (some ⟨w225.heap.size, 0, none⟩) 1 1) rfl rfl (by first | (go_simp; done) | (go_simp; rfl)) ?_
     (try simp only [Act.put, List.setIfInBounds_toArray, ls0, ls1])
     obtain ⟨c241, H⟩ := if_some H
     obtain ⟨y242, A243, H⟩ := bnd H
     refine Own.append Kd.bool (C := C224) (i := 12) rfl (.tmp 22) (.tmp 25) 43 4 (.bool false) 1 rfl Try.underlying43 info4 rfl (by decide) (by decide) (.slice A211 x210.length cp213) x210 (decide ((rd t141 x217) > 0)) [.bool (decide ((rd t141 x217) > 0))] rfl rfl (fk_bool _ _ (decide ((rd t141 x217) > 0))) HJ215 (by decide) (by omega) (Option.some.inj A243) ?_
     intro A244 cp245 w246 C247 HO248 HC249 hs250
     replace HJ216 := HJ216.thru hs250 rfl
     replace HJ223 := HJ223.thru hs250 rfl
     replace HJ218 := HJ218.thru hs250 rfl
     replace HJ219 := HJ219.thru hs250 rfl
     replace HJ220 := HJ220.thru hs250 rfl
     replace HJ221 := HJ221.thru hs250 rfl
     replace HJ222 := HJ222.thru hs250 rfl
     replace HS227 := HS227.trans hs250 hc rfl
     (try simp only [Act.put, List.setIfInBounds_toArray, ls0, ls1])
     refine as_ rfl ?_
     refine wl_end ?_
     (try simp only [ls0, ls1])
     refine hK236 _ _ ?_
     (try clear hK236 K236)
     refine wl_region ?_
     refine st (.int .i64 (wrap64 (x217 + 1))) rfl rfl (xr_bin _ _ _ rfl rfl rfl (B.add_i64 _ _)) ?_
     refine mv_ rfl ?_
     refine wl_end ?_
     (try simp only [ls0, ls1])
     exact jmpL (fun a_ h_ => ih229 k232 (by omega) a_ _ h_) (fun g_ => ⟨_, wrap64 (x217 + 1), A244, y242.length, cp245, y242, g_, rfl, HS227, (by omega), HO248, HC249, HJ216, HJ218, HJ219, HJ220, HJ221, HJ222, HJ223, H⟩) rfl
    rw [if_neg c235] at H
    (try rw [(decide_eq_false c235)])
    refine wp_cond_false rfl ?_
    refine wp_exit ?_
    (try simp only [ls0, ls1])
    refine hK139 _ _ ?_
    (try clear hK139 K139)
    refine wp_seq_k fun K251 hK251 => ?_
    refine wl_region ?_
    refine mv_ rfl ?_
    refine as_ rfl ?_
    refine wl_end ?_
    (try simp only [ls0, ls1])
    refine hK251 _ _ ?_
    (try clear hK251 K251)
    refine wp_ret ?_
    (try simp only [Exit.inBlock, Exit.then, Exit.noGoto])
    (try simp only [ls0, ls1])
    replace HJ215 := Own.recolor (b := 5) HJ215 (by decide)
    replace HJ216 := Own.recol (a := 12) (b := 5) HJ216 (by decide) (by decide)
    replace HJ223 := Bx.recol (a := 12) (b := 5) HJ223 (by decide)
    replace HJ218 := Ft.recol (a := 12) (b := 5) HJ218 (.inl rfl)
    replace HJ219 := Ft.recol (a := 12) (b := 5) HJ219 (.inl rfl)
    replace HJ220 := Ft.recol (a := 12) (b := 5) HJ220 (.inl rfl)
    replace HJ221 := Ft.recol (a := 12) (b := 5) HJ221 (.inl rfl)
    replace HJ222 := Ft.recol (a := 12) (b := 5) HJ222 (.inl rfl)
    replace HS227 := Step.recol (a := 12) (b := 5) HS227 hc (by decide)
    simp only [Option.some.injEq, Prod.mk.injEq] at H
    obtain ⟨rfl, rfl⟩ := H
    refine bodyPost_ret (results_tmp rfl _ _ _) rfl ?_
    exact ⟨_, A211, cp213, rfl, HS227, HJ215, HC214, HJ223⟩
 rw [if_neg c137] at H
 (try rw [(Bool.eq_false_iff.mpr c137)])
 (try simp only [Bool.not_true, Bool.not_false])
 refine wp_cond_true rfl ?_
 refine wp_seq_k fun K252 hK252 => ?_
 refine wl_region ?_
 refine st (.slice none 0 0) rfl rfl (xr_assign _ rfl rfl) ?_
 refine wl_end ?_
 (try simp only [ls0, ls1])
 refine hK252 _ _ ?_
 (try clear hK252 K252)
 refine wp_ret ?_
 (try simp only [Exit.inBlock, Exit.then, Exit.noGoto])
 (try simp only [ls0, ls1])
 simp only [Option.some.injEq, Prod.mk.injEq] at H
 obtain ⟨rfl, rfl⟩ := H
 refine bodyPost_ret (results_tmp rfl _ _ _) rfl ?_
 exact ⟨_, none, 0, rfl, HS, (Own.nil _ _ _ _ _), (Nat.le_refl 0), HP0⟩

end Go.Proofs.Ytdkbmchbkkhpoaa.PMfr
