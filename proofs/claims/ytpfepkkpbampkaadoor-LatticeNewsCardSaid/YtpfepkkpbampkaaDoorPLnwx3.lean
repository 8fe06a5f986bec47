-- By cprint.py, a program of this work. Lean checks it.
import Derived.Test.YtpfepkkpbampkaaDoorPLnwx0
import Derived.Test.YtpfepkkpbampkaaDoorPLnwx1
import Derived.Test.YtpfepkkpbampkaaDoorPLnwx2
namespace Go.Proofs.YtpfepkkpbampkaaDoor.PLnw
open Go.RowKit Go.Proofs.YtpfepkkpbampkaaDoorW.PrintWords Go.Proofs.YtpfepkkpbampkaaDoorW.PrintLast Go.Proofs.YtpfepkkpbampkaaDoorW.PrintMore
set_option linter.unusedVariables false
set_option linter.unusedSimpArgs false

/-! ### lattice_Lattice_fill: function 57 -/
mutual
def lattice_Lattice_fill.l0 : Nat → (Option S81) → Int → Int → Int → Int → (List Int) → (List Int) → Option ((List Int) × (List Int))
  | 0, _, _, _, _, _, _, _ => none
  | k + 1, m0_0, t699, t1182, x1159, x1318, x1320, x1322 => if x1318 < t1182 then (if 0 ≤ x1159 then (if x1159 < 64 then ((order_Order_Above.f m0_0 x1159).bind fun t1344 => ((order_Order_Above.f m0_0 x1318).bind fun t1350 => ((lattice_least_order_Order_Above.f k (Go.bits .and .u64 t1344 t1350) m0_0).bind fun t1356 => (if 0 ≤ x1318 then (if x1318 < 64 then ((some (List.set x1320 ((x1159 : Int).toNat * 64 + (x1318 : Int).toNat) t1356 : List Int)).bind fun y1364 => ((order_Order_Below.f m0_0 x1159).bind fun t1371 => ((order_Order_Below.f m0_0 x1318).bind fun t1377 => ((lattice_least_order_Order_Below.f k (Go.bits .and .u64 t1371 t1377) m0_0).bind fun t1383 => ((some (List.set x1322 ((x1159 : Int).toNat * 64 + (x1318 : Int).toNat) t1383 : List Int)).bind fun y1389 => (lattice_Lattice_fill.l0 k m0_0 t699 t1182 x1159 (wrap64 (x1318 + 1)) y1364 y1389)))))) else (none)) else (none))))) else (none)) else (none)) else (lattice_Lattice_fill.l1 k m0_0 t699 (wrap64 (x1159 + 1)) x1320 x1322)
def lattice_Lattice_fill.l1 : Nat → (Option S81) → Int → Int → (List Int) → (List Int) → Option ((List Int) × (List Int))
  | 0, _, _, _, _, _ => none
  | k + 1, m0_0, t699, x1159, x1161, x1163 => if x1159 < t699 then ((order_Order_Len.f m0_0).bind fun t1182 => (lattice_Lattice_fill.l0 k m0_0 t699 t1182 x1159 0 x1161 x1163)) else (some (x1161, x1163))
end
def lattice_Lattice_fill.f (k : Nat) (m0_0 : Option S81) (a0_1 : Int) (a0_2 : Int) (a0_3 : Int) (a0_4 : List Int) (a0_5 : List Int) (a0_6 : Int) : Option ((List Int) × (List Int)) := (order_Order_Len.f m0_0).bind fun t699 => (lattice_Lattice_fill.l1 k m0_0 t699 0 a0_4 a0_5)

set_option maxHeartbeats 2000000 in
set_option maxRecDepth 100000 in
theorem lattice_Lattice_fill.calls (k : Nat) (g0 : Nat) (v0_0 : Value) (m0_0 : Option S81) (a0_1 : Int) (a0_2 : Int) (a0_3 : Int) (a0_4 : List Int) (a0_5 : List Int) (a0_6 : Int) (r1 : List Int) (r2 : List Int) (c : Nat → Nat) (w : World) (hc : ∀ k, c k < 10) (HG : Ft c [0] w GTab) (HP0 : Bx c 1 w g0 107 ([v0_0, .int .u32 a0_1, .int .i32 a0_2, .int .u32 a0_3] ++ (List.map (Value.int .i8) a0_4 ++ (List.map (Value.int .i8) a0_5 ++ ([.int .i64 a0_6]))))) (HP0_0 : Ft c [0] w (fun w_ => (Kd.ptr 81 k81).K w_ m0_0 [v0_0])) (HL0_4 : a0_4.length = 4096) (HL0_5 : a0_5.length = 4096) (H : lattice_Lattice_fill.f k m0_0 a0_1 a0_2 a0_3 a0_4 a0_5 a0_6 = some (r1, r2)) :
    Calls Tryd.prog 57 #[.pointer (some ⟨g0, 0, none⟩)] w fun e w' => ∃ (c' : Nat → Nat) , e = .returned (.tuple #[]) ∧ Step c w c' w' [1] ∧ r1.length = 4096 ∧ r2.length = 4096 ∧ Bx c' 1 w' g0 107 ([v0_0, .int .u32 a0_1, .int .i32 a0_2, .int .u32 a0_3] ++ (List.map (Value.int .i8) r1 ++ (List.map (Value.int .i8) r2 ++ ([.int .i64 a0_6])))) := by
 unfold lattice_Lattice_fill.f at H
 have HS := Step.refl c w [1]
 go_enter Tryd.func57, Tryd.ntmps57
 refine wp_seq_k fun K698 hK698 => ?_
 refine wl_region ?_
 refine mv_ rfl ?_
 refine st (.pointer (some ⟨g0, 0, none⟩)) rfl rfl (xr_nilCheck _ rfl rfl) ?_
 refine st (.pointer (some ⟨g0, 0, none⟩)) rfl rfl (xr_fieldAddr _ _ rfl rfl (bx_field2 Tryd.underlying107 rfl rfl (by kernel_rfl))) ?_
 refine st (v0_0) rfl rfl (xr_load _ _ rfl rfl (load_cell Tryd.underlying26 rfl (bx_cell (HP0).2 0 rfl))) ?_
 simp only [ls0, ls1]
 obtain ⟨t699, A700, H⟩ := bnd H
 refine st_call #[v0_0] rfl rfl Tryd.func21 (by kernel_rfl) rfl rfl (mp_ rfl) ?_
 refine (order_Order_Len.calls v0_0 m0_0 t699  (fun z_ => pal [(0, 0)] (c z_)) w (fun _ => pal_lt rfl _) (Ft.arg HP0_0 rfl) A700).mono ?_
 rintro _ w702 ⟨C703, rfl, hs704⟩
 refine ⟨_, rfl, ?_⟩
 replace hs704 := Step.lift (U := [(0, 0)]) hs704 [] rfl rfl
 generalize up c C703 w.heap.size [(0, 0)] = C703_ at hs704
 replace HG := HG.thru hs704 rfl
 replace HP0 := HP0.thru hs704 rfl
 replace HP0_0 := HP0_0.thru hs704 rfl
 replace HS := HS.trans hs704 hc rfl
 (try simp only [ls0, ls1])
 refine st (.int .i64 0) rfl rfl (xr_move _ rfl rfl) ?_
 refine wl_end ?_
 (try simp only [ls0, ls1])
 refine hK698 _ _ ?_
 (try clear hK698 K698)
 refine wp_block ?_
 (try simp only [ls0, ls1])
 refine wp_looped (looped_fin (fun kq1169 a_ w1168 => ∃ (C1167 : Nat → Nat) (x1159 : Int) (x1161 : List Int) (x1163 : List Int) (g_ : Nat → Value), a_ = ⟨#[.pointer (some ⟨g0, 0, none⟩), (g_ 1), (g_ 2), (g_ 3), (g_ 4), (g_ 5), (g_ 6), (g_ 7), .int .i64 t699, .int .i64 x1159, (g_ 10), (g_ 11), (g_ 12), (g_ 13), (g_ 14), (g_ 15), (g_ 16), (g_ 17), (g_ 18), (g_ 19), (g_ 20), (g_ 21), (g_ 22), (g_ 23), (g_ 24), (g_ 25), (g_ 26), (g_ 27), (g_ 28), (g_ 29), (g_ 30), (g_ 31), (g_ 32), (g_ 33), (g_ 34), (g_ 35), (g_ 36), (g_ 37), (g_ 38), (g_ 39), (g_ 40), (g_ 41), (g_ 42), (g_ 43), (g_ 44), (g_ 45), (g_ 46), (g_ 47), (g_ 48), (g_ 49), (g_ 50), (g_ 51), (g_ 52), (g_ 53), (g_ 54), (g_ 55), (g_ 56), (g_ 57), (g_ 58), (g_ 59), (g_ 60), (g_ 61), (g_ 62), (g_ 63), (g_ 64), (g_ 65), (g_ 66), (g_ 67), (g_ 68), (g_ 69), (g_ 70), (g_ 71), (g_ 72), (g_ 73)], []⟩ ∧ Step c w C1167 w1168 [1] ∧ kq1169 ≤ k ∧ (Ft C1167 [0] w1168 (fun w_ => (Kd.ptr 81 k81).K w_ m0_0 [v0_0])) ∧ (x1161.length = 4096) ∧ (x1163.length = 4096) ∧ (Bx C1167 1 w1168 g0 107 ([v0_0, .int .u32 a0_1, .int .i32 a0_2, .int .u32 a0_3] ++ (List.map (Value.int .i8) x1161 ++ (List.map (Value.int .i8) x1163 ++ ([.int .i64 a0_6]))))) ∧ (Ft C1167 [0] w1168 GTab) ∧ lattice_Lattice_fill.l1 kq1169 m0_0 t699 x1159 x1161 x1163 = some (r1, r2)) ?step fun hL_ => ?init)
 case init =>
  exact jmpL (fun a_ h_ => hL_ k a_ _ h_) (fun g_ => ⟨_, 0, a0_4, a0_5, g_, rfl, HS, Nat.le_refl _, HP0_0, HL0_4, HL0_5, HP0, HG, H⟩) rfl
 case step =>
  intro kq1169 ih1172 a1173 w1168 hr1174
  obtain ⟨C1167, x1159, x1161, x1163, g_, rfl, HS1170, hk1171, HJ1160, HL1162, HL1164, HJ1165, HG1166, H⟩ := hr1174
  refine looped_round ?_
  cases kq1169 with
  | zero => exact absurd H (by simp [lattice_Lattice_fill.l1])
  | succ k1175 =>
   simp only [lattice_Lattice_fill.l1] at H
   refine wp_seq_k fun K1176 hK1176 => ?_
   refine wl_region ?_
   refine st (.bool (decide (x1159 < t699))) rfl rfl (xr_bin _ _ _ rfl rfl rfl (B.lss_i64 _ _)) ?_
   refine wl_end ?_
   (try simp only [ls0, ls1])
   refine hK1176 _ _ ?_
   (try clear hK1176 K1176)
   refine wp_seq_k fun K1177 hK1177 => ?_
   by_cases c1178 : x1159 < t699
   ·rw [if_pos c1178] at H
    (try rw [(decide_eq_true c1178)])
    refine wp_cond_true rfl ?_
    refine wp_skip ?_
    (try simp only [ls0, ls1])
    refine hK1177 _ _ ?_
    (try clear hK1177 K1177)
    refine wp_seq_k fun K1179 hK1179 => ?_
    refine wp_block ?_
    refine wp_seq_k fun K1180 hK1180 => ?_
    refine wl_region ?_
    refine mv_ rfl ?_
    refine as_ rfl ?_
    refine wl_end ?_
    (try simp only [ls0, ls1])
    refine hK1180 _ _ ?_
    (try clear hK1180 K1180)
    refine wp_seq_k fun K1181 hK1181 => ?_
    refine wl_region ?_
    refine mv_ rfl ?_
    refine st (.pointer (some ⟨g0, 0, none⟩)) rfl rfl (xr_nilCheck _ rfl rfl) ?_
    refine st (.pointer (some ⟨g0, 0, none⟩)) rfl rfl (xr_fieldAddr _ _ rfl rfl (bx_field2 Tryd.underlying107 rfl rfl (by kernel_rfl))) ?_
    refine st (v0_0) rfl rfl (xr_load _ _ rfl rfl (load_cell Tryd.underlying26 rfl (bx_cell (HJ1165).2 0 rfl))) ?_
    simp only [ls0, ls1]
    obtain ⟨t1182, A1183, H⟩ := bnd H
    refine st_call #[v0_0] rfl rfl Tryd.func21 (by kernel_rfl) rfl rfl (mp_ rfl) ?_
    refine (order_Order_Len.calls v0_0 m0_0 t1182  (fun z_ => pal [(0, 0)] (C1167 z_)) w1168 (fun _ => pal_lt rfl _) (Ft.arg HJ1160 rfl) A1183).mono ?_
    rintro _ w1185 ⟨C1186, rfl, hs1187⟩
    refine ⟨_, rfl, ?_⟩
    replace hs1187 := Step.lift (U := [(0, 0)]) hs1187 [] rfl rfl
    generalize up C1167 C1186 w1168.heap.size [(0, 0)] = C1186_ at hs1187
    replace HJ1165 := HJ1165.thru hs1187 rfl
    replace HJ1160 := HJ1160.thru hs1187 rfl
    replace HG1166 := HG1166.thru hs1187 rfl
    replace HS1170 := HS1170.trans hs1187 hc rfl
    (try simp only [ls0, ls1])
    refine st (.int .i64 0) rfl rfl (xr_move _ rfl rfl) ?_
    refine wl_end ?_
    (try simp only [ls0, ls1])
    refine hK1181 _ _ ?_
    (try clear hK1181 K1181)
    refine wp_block ?_
    (try simp only [ls0, ls1])
    refine wp_looped (looped_fin (fun kq1328 a_ w1327 => ∃ (C1326 : Nat → Nat) (x1318 : Int) (x1320 : List Int) (x1322 : List Int) (g_ : Nat → Value), a_ = ⟨#[.pointer (some ⟨g0, 0, none⟩), (g_ 1), .int .i64 x1159, (g_ 3), (g_ 4), (g_ 5), (g_ 6), (g_ 7), .int .i64 t699, .int .i64 x1159, (g_ 10), (g_ 11), (g_ 12), (g_ 13), (g_ 14), (g_ 15), .int .i64 t1182, .int .i64 x1318, (g_ 18), (g_ 19), (g_ 20), (g_ 21), (g_ 22), (g_ 23), (g_ 24), (g_ 25), (g_ 26), (g_ 27), (g_ 28), (g_ 29), (g_ 30), (g_ 31), (g_ 32), (g_ 33), (g_ 34), (g_ 35), (g_ 36), (g_ 37), (g_ 38), (g_ 39), (g_ 40), (g_ 41), (g_ 42), (g_ 43), (g_ 44), (g_ 45), (g_ 46), (g_ 47), (g_ 48), (g_ 49), (g_ 50), (g_ 51), (g_ 52), (g_ 53), (g_ 54), (g_ 55), (g_ 56), (g_ 57), (g_ 58), (g_ 59), (g_ 60), (g_ 61), (g_ 62), (g_ 63), (g_ 64), (g_ 65), (g_ 66), (g_ 67), (g_ 68), (g_ 69), (g_ 70), (g_ 71), (g_ 72), (g_ 73)], []⟩ ∧ Step c w C1326 w1327 [1] ∧ kq1328 ≤ k1175 ∧ (Ft C1326 [0] w1327 (fun w_ => (Kd.ptr 81 k81).K w_ m0_0 [v0_0])) ∧ (x1320.length = 4096) ∧ (x1322.length = 4096) ∧ (Bx C1326 1 w1327 g0 107 ([v0_0, .int .u32 a0_1, .int .i32 a0_2, .int .u32 a0_3] ++ (List.map (Value.int .i8) x1320 ++ (List.map (Value.int .i8) x1322 ++ ([.int .i64 a0_6]))))) ∧ (Ft C1326 [0] w1327 GTab) ∧ lattice_Lattice_fill.l0 kq1328 m0_0 t699 t1182 x1159 x1318 x1320 x1322 = some (r1, r2)) ?step fun hL_ => ?init)
    case init =>
     exact jmpL (fun a_ h_ => hL_ k1175 a_ _ h_) (fun g_ => ⟨_, 0, x1161, x1163, g_, rfl, HS1170, Nat.le_refl _, HJ1160, HL1162, HL1164, HJ1165, HG1166, H⟩) rfl
    case step =>
     intro kq1328 ih1331 a1332 w1327 hr1333
     obtain ⟨C1326, x1318, x1320, x1322, g_, rfl, HS1329, hk1330, HJ1319, HL1321, HL1323, HJ1324, HG1325, H⟩ := hr1333
     refine looped_round ?_
     cases kq1328 with
     | zero => exact absurd H (by simp [lattice_Lattice_fill.l0])
     | succ k1334 =>
      simp only [lattice_Lattice_fill.l0] at H
      refine wp_seq_k fun K1335 hK1335 => ?_
      refine wl_region ?_
      refine st (.bool (decide (x1318 < t1182))) rfl rfl (xr_bin _ _ _ rfl rfl rfl (B.lss_i64 _ _)) ?_
      refine wl_end ?_
      (try simp only [ls0, ls1])
      refine hK1335 _ _ ?_
      (try clear hK1335 K1335)
      refine wp_seq_k fun K1336 hK1336 => ?_
      by_cases c1337 : x1318 < t1182
      ·rw [if_pos c1337] at H
       (try rw [(decide_eq_true c1337)])
       refine wp_cond_true rfl ?_
       refine wp_skip ?_
       (try simp only [ls0, ls1])
       refine hK1336 _ _ ?_
       (try clear hK1336 K1336)
       refine wp_seq_k fun K1338 hK1338 => ?_
       refine wp_block ?_
       refine wp_seq_k fun K1339 hK1339 => ?_
       refine wl_region ?_
       refine mv_ rfl ?_
       refine as_ rfl ?_
       refine wl_end ?_
       (try simp only [ls0, ls1])
       refine hK1339 _ _ ?_
       (try clear hK1339 K1339)
       refine wp_seq_k fun K1340 hK1340 => ?_
       (try simp only [ls0, ls1])
       refine al_start (lb 27 0) rfl rfl rfl (fun w_ => w_.heap[g0]? = some (.cells (List.toArray ([v0_0, .int .u32 a0_1, .int .i32 a0_2, .int .u32 a0_3] ++ (List.map (Value.int .i8) x1320 ++ (List.map (Value.int .i8) x1322 ++ ([.int .i64 a0_6]))))) 107 (0, 0))) (HJ1324.drew).2 [26] ?_
       replace HJ1324 := HJ1324.drew
       replace HJ1319 := HJ1319.drew
       replace HG1325 := HG1325.drew
       replace HS1329 := Step.ofDrew HS1329
       generalize w1327.drew = w1341 at *
       refine al_mv 0 (lb 27 1) rfl rfl (by kernel_rfl) (fun _ _ _ => id) rfl ?_
       refine al_mv 1 (lb 27 3) rfl rfl (by kernel_rfl) (fun _ _ _ => id) rfl ?_
       refine al_mv 2 (lb 27 7) rfl rfl (by kernel_rfl) (fun _ _ _ => id) rfl ?_
       refine al_mv 3 (lb 27 15) rfl rfl (by kernel_rfl) (fun _ _ _ => id) rfl ?_
       simp only [ls0, ls1]
       refine al_pure 4 24 (.pointer (some ⟨g0, 0, none⟩)) (lb 27 31) rfl rfl (by kernel_rfl) (fun _ _ _ => id) rfl (fun w_ => xr_nilCheck _ rfl rfl) ?_
       refine al_pure 5 25 (.pointer (some ⟨g0, 0, none⟩)) (lb 27 63) rfl rfl (by kernel_rfl) (fun _ _ _ => id) rfl (fun w_ => xr_fieldAddr _ _ rfl rfl (bx_field2 Tryd.underlying107 rfl rfl (by kernel_rfl))) ?_
       refine al_mv 7 (lb 27 191) rfl rfl (by kernel_rfl) (fun _ _ _ => id) rfl ?_
       refine al_mv 9 (lb 27 703) rfl rfl (by kernel_rfl) (fun _ _ _ => id) rfl ?_
       simp only [ls0, ls1]
       refine al_pure 10 30 (.pointer (some ⟨g0, 0, none⟩)) (lb 27 1727) rfl rfl (by kernel_rfl) (fun _ _ _ => id) rfl (fun w_ => xr_nilCheck _ rfl rfl) ?_
       refine al_pure 11 31 (.pointer (some ⟨g0, 0, none⟩)) (lb 27 3775) rfl rfl (by kernel_rfl) (fun _ _ _ => id) rfl (fun w_ => xr_fieldAddr _ _ rfl rfl (bx_field2 Tryd.underlying107 rfl rfl (by kernel_rfl))) ?_
       refine al_mv 13 (lb 27 11967) rfl rfl (by kernel_rfl) (fun _ _ _ => id) rfl ?_
       refine al_mv 16 (lb 27 77503) rfl rfl (by kernel_rfl) (fun _ _ _ => id) rfl ?_
       simp only [ls0, ls1]
       refine al_pure 17 37 (.pointer (some ⟨g0, 0, none⟩)) (lb 27 208575) rfl rfl (by kernel_rfl) (fun _ _ _ => id) rfl (fun w_ => xr_nilCheck _ rfl rfl) ?_
       refine al_pure 18 38 (.pointer (some ⟨g0, 0, none⟩)) (lb 27 470719) rfl rfl (by kernel_rfl) (fun _ _ _ => id) rfl (fun w_ => xr_fieldAddr _ _ rfl rfl (bx_field2 Tryd.underlying107 rfl rfl (by kernel_rfl))) ?_
       refine al_pure 22 42 (.pointer (some ⟨g0, 0, none⟩)) (lb 27 4665023) rfl rfl (by kernel_rfl) (fun _ _ _ => id) rfl (fun w_ => xr_nilCheck _ rfl rfl) ?_
       refine al_pure 23 43 (.pointer (some ⟨g0, 4, none⟩)) (lb 27 13053631) rfl rfl (by kernel_rfl) (fun _ _ _ => id) rfl (fun w_ => xr_fieldAddr _ _ rfl rfl (bx_field2 Tryd.underlying107 rfl rfl (by kernel_rfl))) ?_
       simp only [ls0, ls1]
       obtain ⟨c1342, H⟩ := if_some H
       obtain ⟨c1343, H⟩ := if_some H
       refine al_pure 24 44 (.pointer (some ⟨g0, 4 + ((x1159 : Int).toNat * 64), none⟩)) (lb 27 29830847) rfl rfl (by kernel_rfl) (fun _ _ _ => id) rfl (fun w_ => xr_indexAddr _ _ _ rfl rfl rfl (arr_index (sz := 64) Tryd.underlying102 (by kernel_rfl) (by first | assumption | decide | omega) (by first | assumption | decide | omega) (by omega))) ?_
       refine al_take 6 26 (v0_0) (lb 27 29830911) rfl rfl (by kernel_rfl) (fun _ _ _ => id) rfl (fun w_ hS_ => xr_load _ _ rfl rfl (load_cell Tryd.underlying26 rfl (bx_cell hS_ 0 rfl))) (HJ1324).2 ?_
       refine al_take 12 32 (v0_0) (lb 27 29835007) rfl rfl (by kernel_rfl) (fun _ _ _ => id) rfl (fun w_ hS_ => xr_load _ _ rfl rfl (load_cell Tryd.underlying26 rfl (bx_cell hS_ 0 rfl))) (HJ1324).2 ?_
       refine al_take 19 39 (v0_0) (lb 27 30359295) rfl rfl (by kernel_rfl) (fun _ _ _ => id) rfl (fun w_ hS_ => xr_load _ _ rfl rfl (load_cell Tryd.underlying26 rfl (bx_cell hS_ 0 rfl))) (HJ1324).2 ?_
       simp only [ls0, ls1]
       refine al_pure 20 40 (.func (.func 79) #[v0_0] #[]) (lb 27 31407871) rfl rfl (by kernel_rfl) (fun _ _ _ => id) rfl (fun w_ => xr_makeFunc #[v0_0] #[] rfl (mp_ rfl) (mp_ rfl)) ?_
       obtain ⟨t1344, A1345, H⟩ := bnd H
       refine al_one 8 (lb 27 31408127) rfl rfl (by kernel_rfl) rfl (fun K_ hK_ => ?_)
       refine goes_ Tryd.func79 (by kernel_rfl) rfl #[v0_0, .int .i64 x1159] rfl rfl rfl (mpe_ rfl) ?_
       refine (order_Order_Above.calls v0_0 m0_0 x1159 t1344  (fun z_ => pal [(0, 0)] (C1326 z_)) w1341 (fun _ => pal_lt rfl _) (Ft.arg HJ1319 rfl) A1345).mono ?_
       rintro _ w1347 ⟨C1348, rfl, hs1349⟩
       refine ⟨_, rfl, ?_⟩
       replace hs1349 := Step.lift (U := [(0, 0)]) hs1349 [] rfl rfl
       generalize up C1326 C1348 w1341.heap.size [(0, 0)] = C1348_ at hs1349
       replace HJ1324 := HJ1324.thru hs1349 rfl
       replace HJ1319 := HJ1319.thru hs1349 rfl
       replace HG1325 := HG1325.thru hs1349 rfl
       replace HS1329 := HS1329.trans hs1349 hc rfl
       refine hK_ _ _ (HJ1324).2 ?_
       clear hK_ K_
       (try simp only [Act.put, List.setIfInBounds_toArray, ls0, ls1])
       obtain ⟨t1350, A1351, H⟩ := bnd H
       refine al_one 14 (lb 27 31424511) rfl rfl (by kernel_rfl) rfl (fun K_ hK_ => ?_)
       refine goes_ Tryd.func79 (by kernel_rfl) rfl #[v0_0, .int .i64 x1318] rfl rfl rfl (mpe_ rfl) ?_
       refine (order_Order_Above.calls v0_0 m0_0 x1318 t1350  (fun z_ => pal [(0, 0)] (C1348_ z_)) w1347 (fun _ => pal_lt rfl _) (Ft.arg HJ1319 rfl) A1351).mono ?_
       rintro _ w1353 ⟨C1354, rfl, hs1355⟩
       refine ⟨_, rfl, ?_⟩
       replace hs1355 := Step.lift (U := [(0, 0)]) hs1355 [] rfl rfl
       generalize up C1348_ C1354 w1347.heap.size [(0, 0)] = C1354_ at hs1355
       replace HJ1324 := HJ1324.thru hs1355 rfl
       replace HJ1319 := HJ1319.thru hs1355 rfl
       replace HG1325 := HG1325.thru hs1355 rfl
       replace HS1329 := HS1329.trans hs1355 hc rfl
       refine hK_ _ _ (HJ1324).2 ?_
       clear hK_ K_
       (try simp only [Act.put, List.setIfInBounds_toArray, ls0, ls1])
       refine al_pure 15 35 (.int .u64 (Go.bits .and .u64 t1344 t1350)) (lb 27 31457279) rfl rfl (by kernel_rfl) (fun _ _ _ => id) rfl (fun w_ => xr_bin _ _ _ rfl rfl rfl (B.and_u64 _ _)) ?_
       obtain ⟨t1356, A1357, H⟩ := bnd H
       refine al_one 21 (lb 27 33554431) rfl rfl (by kernel_rfl) rfl (fun K_ hK_ => ?_)
       refine goes_ Tryd.func78 (by kernel_rfl) rfl #[.int .u64 (Go.bits .and .u64 t1344 t1350), .func (.func 79) #[v0_0] #[]] rfl rfl rfl (mpe_ rfl) ?_
       refine (lattice_least_order_Order_Above.calls k1334 (Go.bits .and .u64 t1344 t1350) v0_0 m0_0 t1356  (fun z_ => pal [(0, 0)] (C1354_ z_)) w1353 (fun _ => pal_lt rfl _) (Ft.arg HG1325 rfl) (Ft.arg HJ1319 rfl) A1357).mono ?_
       rintro _ w1359 ⟨C1360, rfl, hs1361⟩
       refine ⟨_, rfl, ?_⟩
       replace hs1361 := Step.lift (U := [(0, 0)]) hs1361 [] rfl rfl
       generalize up C1354_ C1360 w1353.heap.size [(0, 0)] = C1360_ at hs1361
       replace HJ1324 := HJ1324.thru hs1361 rfl
       replace HJ1319 := HJ1319.thru hs1361 rfl
       replace HG1325 := HG1325.thru hs1361 rfl
       replace HS1329 := HS1329.trans hs1361 hc rfl
       refine hK_ _ _ (HJ1324).2 ?_
       clear hK_ K_
       (try simp only [Act.put, List.setIfInBounds_toArray, ls0, ls1])
       obtain ⟨c1362, H⟩ := if_some H
       obtain ⟨c1363, H⟩ := if_some H
       refine al_pure 25 45 (.pointer (some ⟨g0, 4 + ((x1159 : Int).toNat * 64 + (x1318 : Int).toNat), none⟩)) (lb 27 67108863) rfl rfl (by kernel_rfl) (fun _ _ _ => id) rfl (fun w_ => xr_indexAddr _ _ _ rfl rfl rfl (arr_index (sz := 1) Tryd.underlying100 (by kernel_rfl) (by first | assumption | decide | omega) (by first | assumption | decide | omega) (by omega))) ?_
       obtain ⟨y1364, A1365, H⟩ := bnd H
       refine al_last 26 (lb 27 134217727) rfl rfl (by kernel_rfl) rfl (fun K_ hK_ => ?_)
       refine arr_store_step (C := C1360_) (z := 1) (g := g0) (tb := 107) (of := 4) (N := 4096) (pre := [v0_0, .int .u32 a0_1, .int .i32 a0_2, .int .u32 a0_3]) (post := List.map (Value.int .i8) x1322 ++ ([.int .i64 a0_6])) (enc := (Value.int .i8)) (l0 := x1320) (i := (x1159 : Int).toNat * 64 + (x1318 : Int).toNat) t1356 rfl rfl rfl rfl rfl rfl (by kernel_rfl) rfl HJ1324 (by first | (simp only [List.append_assoc, List.cons_append, List.nil_append, List.append_nil]; done) | rfl) rfl HL1321 (by omega) (by omega) (Option.some.inj A1365) (xs' := [v0_0, .int .u32 a0_1, .int .i32 a0_2, .int .u32 a0_3] ++ (List.map (Value.int .i8) y1364 ++ (List.map (Value.int .i8) x1322 ++ ([.int .i64 a0_6])))) (by first | (simp only [List.append_assoc, List.cons_append, List.nil_append, List.append_nil]; done) | rfl) ?_
       intro w1366 HX1367 HL1369 hs1368
       replace HJ1319 := HJ1319.thru hs1368 rfl
       replace HG1325 := HG1325.thru hs1368 rfl
       replace HS1329 := HS1329.trans hs1368 hc rfl
       refine hK_ _ _ ?_
       clear hK_ K_
       (try simp only [Act.put, List.setIfInBounds_toArray, ls0, ls1])
       refine al_end (by kernel_rfl) ?_
       (try simp only [ls0, ls1])
       refine hK1340 _ _ ?_
       (try clear hK1340 K1340)
       (try simp only [ls0, ls1])
       refine al_start (lb 27 0) rfl rfl rfl (fun w_ => w_.heap[g0]? = some (.cells (List.toArray ([v0_0, .int .u32 a0_1, .int .i32 a0_2, .int .u32 a0_3] ++ (List.map (Value.int .i8) y1364 ++ (List.map (Value.int .i8) x1322 ++ ([.int .i64 a0_6]))))) 107 (0, 0))) (HX1367.drew).2 [26] ?_
       replace HX1367 := HX1367.drew
       replace HJ1319 := HJ1319.drew
       replace HG1325 := HG1325.drew
       replace HS1329 := Step.ofDrew HS1329
       generalize w1366.drew = w1370 at *
       refine al_mv 0 (lb 27 1) rfl rfl (by kernel_rfl) (fun _ _ _ => id) rfl ?_
       refine al_mv 1 (lb 27 3) rfl rfl (by kernel_rfl) (fun _ _ _ => id) rfl ?_
       refine al_mv 2 (lb 27 7) rfl rfl (by kernel_rfl) (fun _ _ _ => id) rfl ?_
       refine al_mv 3 (lb 27 15) rfl rfl (by kernel_rfl) (fun _ _ _ => id) rfl ?_
       simp only [ls0, ls1]
       refine al_pure 4 50 (.pointer (some ⟨g0, 0, none⟩)) (lb 27 31) rfl rfl (by kernel_rfl) (fun _ _ _ => id) rfl (fun w_ => xr_nilCheck _ rfl rfl) ?_
       refine al_pure 5 51 (.pointer (some ⟨g0, 0, none⟩)) (lb 27 63) rfl rfl (by kernel_rfl) (fun _ _ _ => id) rfl (fun w_ => xr_fieldAddr _ _ rfl rfl (bx_field2 Tryd.underlying107 rfl rfl (by kernel_rfl))) ?_
       refine al_mv 7 (lb 27 191) rfl rfl (by kernel_rfl) (fun _ _ _ => id) rfl ?_
       refine al_mv 9 (lb 27 703) rfl rfl (by kernel_rfl) (fun _ _ _ => id) rfl ?_
       simp only [ls0, ls1]
       refine al_pure 10 56 (.pointer (some ⟨g0, 0, none⟩)) (lb 27 1727) rfl rfl (by kernel_rfl) (fun _ _ _ => id) rfl (fun w_ => xr_nilCheck _ rfl rfl) ?_
       refine al_pure 11 57 (.pointer (some ⟨g0, 0, none⟩)) (lb 27 3775) rfl rfl (by kernel_rfl) (fun _ _ _ => id) rfl (fun w_ => xr_fieldAddr _ _ rfl rfl (bx_field2 Tryd.underlying107 rfl rfl (by kernel_rfl))) ?_
       refine al_mv 13 (lb 27 11967) rfl rfl (by kernel_rfl) (fun _ _ _ => id) rfl ?_
       refine al_mv 16 (lb 27 77503) rfl rfl (by kernel_rfl) (fun _ _ _ => id) rfl ?_
       simp only [ls0, ls1]
       refine al_pure 17 63 (.pointer (some ⟨g0, 0, none⟩)) (lb 27 208575) rfl rfl (by kernel_rfl) (fun _ _ _ => id) rfl (fun w_ => xr_nilCheck _ rfl rfl) ?_
       refine al_pure 18 64 (.pointer (some ⟨g0, 0, none⟩)) (lb 27 470719) rfl rfl (by kernel_rfl) (fun _ _ _ => id) rfl (fun w_ => xr_fieldAddr _ _ rfl rfl (bx_field2 Tryd.underlying107 rfl rfl (by kernel_rfl))) ?_
       refine al_pure 22 68 (.pointer (some ⟨g0, 0, none⟩)) (lb 27 4665023) rfl rfl (by kernel_rfl) (fun _ _ _ => id) rfl (fun w_ => xr_nilCheck _ rfl rfl) ?_
       refine al_pure 23 69 (.pointer (some ⟨g0, 4100, none⟩)) (lb 27 13053631) rfl rfl (by kernel_rfl) (fun _ _ _ => id) rfl (fun w_ => xr_fieldAddr _ _ rfl rfl (bx_field2 Tryd.underlying107 rfl rfl (by kernel_rfl))) ?_
       simp only [ls0, ls1]
       refine al_pure 24 70 (.pointer (some ⟨g0, 4100 + ((x1159 : Int).toNat * 64), none⟩)) (lb 27 29830847) rfl rfl (by kernel_rfl) (fun _ _ _ => id) rfl (fun w_ => xr_indexAddr _ _ _ rfl rfl rfl (arr_index (sz := 64) Tryd.underlying102 (by kernel_rfl) (by first | assumption | decide | omega) (by first | assumption | decide | omega) (by omega))) ?_
       refine al_take 6 52 (v0_0) (lb 27 29830911) rfl rfl (by kernel_rfl) (fun _ _ _ => id) rfl (fun w_ hS_ => xr_load _ _ rfl rfl (load_cell Tryd.underlying26 rfl (bx_cell hS_ 0 rfl))) (HX1367).2 ?_
       refine al_take 12 58 (v0_0) (lb 27 29835007) rfl rfl (by kernel_rfl) (fun _ _ _ => id) rfl (fun w_ hS_ => xr_load _ _ rfl rfl (load_cell Tryd.underlying26 rfl (bx_cell hS_ 0 rfl))) (HX1367).2 ?_
       refine al_take 19 65 (v0_0) (lb 27 30359295) rfl rfl (by kernel_rfl) (fun _ _ _ => id) rfl (fun w_ hS_ => xr_load _ _ rfl rfl (load_cell Tryd.underlying26 rfl (bx_cell hS_ 0 rfl))) (HX1367).2 ?_
       simp only [ls0, ls1]
       refine al_pure 20 66 (.func (.func 80) #[v0_0] #[]) (lb 27 31407871) rfl rfl (by kernel_rfl) (fun _ _ _ => id) rfl (fun w_ => xr_makeFunc #[v0_0] #[] rfl (mp_ rfl) (mp_ rfl)) ?_
       obtain ⟨t1371, A1372, H⟩ := bnd H
       refine al_one 8 (lb 27 31408127) rfl rfl (by kernel_rfl) rfl (fun K_ hK_ => ?_)
       refine goes_ Tryd.func80 (by kernel_rfl) rfl #[v0_0, .int .i64 x1159] rfl rfl rfl (mpe_ rfl) ?_
       refine (order_Order_Below.calls v0_0 m0_0 x1159 t1371  (fun z_ => pal [(0, 0)] (C1360_ z_)) w1370 (fun _ => pal_lt rfl _) (Ft.arg HJ1319 rfl) A1372).mono ?_
       rintro _ w1374 ⟨C1375, rfl, hs1376⟩
       refine ⟨_, rfl, ?_⟩
       replace hs1376 := Step.lift (U := [(0, 0)]) hs1376 [] rfl rfl
       generalize up C1360_ C1375 w1370.heap.size [(0, 0)] = C1375_ at hs1376
       replace HX1367 := HX1367.thru hs1376 rfl
       replace HJ1319 := HJ1319.thru hs1376 rfl
       replace HG1325 := HG1325.thru hs1376 rfl
       replace HS1329 := HS1329.trans hs1376 hc rfl
       refine hK_ _ _ (HX1367).2 ?_
       clear hK_ K_
       (try simp only [Act.put, List.setIfInBounds_toArray, ls0, ls1])
       obtain ⟨t1377, A1378, H⟩ := bnd H
       refine al_one 14 (lb 27 31424511) rfl rfl (by kernel_rfl) rfl (fun K_ hK_ => ?_)
       refine goes_ Tryd.func80 (by kernel_rfl) rfl #[v0_0, .int .i64 x1318] rfl rfl rfl (mpe_ rfl) ?_
       refine (order_Order_Below.calls v0_0 m0_0 x1318 t1377  (fun z_ => pal [(0, 0)] (C1375_ z_)) w1374 (fun _ => pal_lt rfl _) (Ft.arg HJ1319 rfl) A1378).mono ?_
       rintro _ w1380 ⟨C1381, rfl, hs1382⟩
       refine ⟨_, rfl, ?_⟩
       replace hs1382 := Step.lift (U := [(0, 0)]) hs1382 [] rfl rfl
       generalize up C1375_ C1381 w1374.heap.size [(0, 0)] = C1381_ at hs1382
       replace HX1367 := HX1367.thru hs1382 rfl
       replace HJ1319 := HJ1319.thru hs1382 rfl
       replace HG1325 := HG1325.thru hs1382 rfl
       replace HS1329 := HS1329.trans hs1382 hc rfl
       refine hK_ _ _ (HX1367).2 ?_
       clear hK_ K_
       (try simp only [Act.put, List.setIfInBounds_toArray, ls0, ls1])
       refine al_pure 15 61 (.int .u64 (Go.bits .and .u64 t1371 t1377)) (lb 27 31457279) rfl rfl (by kernel_rfl) (fun _ _ _ => id) rfl (fun w_ => xr_bin _ _ _ rfl rfl rfl (B.and_u64 _ _)) ?_
       obtain ⟨t1383, A1384, H⟩ := bnd H
       refine al_one 21 (lb 27 33554431) rfl rfl (by kernel_rfl) rfl (fun K_ hK_ => ?_)
       refine goes_ Tryd.func78 (by kernel_rfl) rfl #[.int .u64 (Go.bits .and .u64 t1371 t1377), .func (.func 80) #[v0_0] #[]] rfl rfl rfl (mpe_ rfl) ?_
       refine (lattice_least_order_Order_Below.calls k1334 (Go.bits .and .u64 t1371 t1377) v0_0 m0_0 t1383  (fun z_ => pal [(0, 0)] (C1381_ z_)) w1380 (fun _ => pal_lt rfl _) (Ft.arg HG1325 rfl) (Ft.arg HJ1319 rfl) A1384).mono ?_
       rintro _ w1386 ⟨C1387, rfl, hs1388⟩
       refine ⟨_, rfl, ?_⟩
       replace hs1388 := Step.lift (U := [(0, 0)]) hs1388 [] rfl rfl
       generalize up C1381_ C1387 w1380.heap.size [(0, 0)] = C1387_ at hs1388
       replace HX1367 := HX1367.thru hs1388 rfl
       replace HJ1319 := HJ1319.thru hs1388 rfl
       replace HG1325 := HG1325.thru hs1388 rfl
       replace HS1329 := HS1329.trans hs1388 hc rfl
       refine hK_ _ _ (HX1367).2 ?_
       clear hK_ K_
       (try simp only [Act.put, List.setIfInBounds_toArray, ls0, ls1])
       refine al_pure 25 71 (.pointer (some ⟨g0, 4100 + ((x1159 : Int).toNat * 64 + (x1318 : Int).toNat), none⟩)) (lb 27 67108863) rfl rfl (by kernel_rfl) (fun _ _ _ => id) rfl (fun w_ => xr_indexAddr _ _ _ rfl rfl rfl (arr_index (sz := 1) Tryd.underlying100 (by kernel_rfl) (by first | assumption | decide | omega) (by first | assumption | decide | omega) (by omega))) ?_
       obtain ⟨y1389, A1390, H⟩ := bnd H
       refine al_last 26 (lb 27 134217727) rfl rfl (by kernel_rfl) rfl (fun K_ hK_ => ?_)
       refine arr_store_step (C := C1387_) (z := 1) (g := g0) (tb := 107) (of := 4100) (N := 4096) (pre := [v0_0, .int .u32 a0_1, .int .i32 a0_2, .int .u32 a0_3] ++ (List.map (Value.int .i8) y1364)) (post := [.int .i64 a0_6]) (enc := (Value.int .i8)) (l0 := x1322) (i := (x1159 : Int).toNat * 64 + (x1318 : Int).toNat) t1383 rfl rfl rfl rfl rfl rfl (by kernel_rfl) rfl HX1367 (by first | (simp only [List.append_assoc, List.cons_append, List.nil_append, List.append_nil]; done) | rfl) (by simp [HL1369]) HL1323 (by omega) (by omega) (Option.some.inj A1390) (xs' := [v0_0, .int .u32 a0_1, .int .i32 a0_2, .int .u32 a0_3] ++ (List.map (Value.int .i8) y1364 ++ (List.map (Value.int .i8) y1389 ++ ([.int .i64 a0_6])))) (by first | (simp only [List.append_assoc, List.cons_append, List.nil_append, List.append_nil]; done) | rfl) ?_
       intro w1391 HX1392 HL1394 hs1393
       replace HJ1319 := HJ1319.thru hs1393 rfl
       replace HG1325 := HG1325.thru hs1393 rfl
       replace HS1329 := HS1329.trans hs1393 hc rfl
       refine hK_ _ _ ?_
       clear hK_ K_
       (try simp only [Act.put, List.setIfInBounds_toArray, ls0, ls1])
       refine al_end (by kernel_rfl) ?_
       (try simp only [ls0, ls1])
       refine hK1338 _ _ ?_
       (try clear hK1338 K1338)
       refine wl_region ?_
       refine st (.int .i64 (wrap64 (x1318 + 1))) rfl rfl (xr_bin _ _ _ rfl rfl rfl (B.add_i64 _ _)) ?_
       refine mv_ rfl ?_
       refine wl_end ?_
       (try simp only [ls0, ls1])
       exact jmpL (fun a_ h_ => ih1331 k1334 (by omega) a_ _ h_) (fun g_ => ⟨_, wrap64 (x1318 + 1), y1364, y1389, g_, rfl, HS1329, (by omega), HJ1319, HL1369, HL1394, HX1392, HG1325, H⟩) rfl
      rw [if_neg c1337] at H
      (try rw [(decide_eq_false c1337)])
      refine wp_cond_false rfl ?_
      refine wp_exit ?_
      (try simp only [ls0, ls1])
      refine hK1179 _ _ ?_
      (try clear hK1179 K1179)
      refine wl_region ?_
      refine st (.int .i64 (wrap64 (x1159 + 1))) rfl rfl (xr_bin _ _ _ rfl rfl rfl (B.add_i64 _ _)) ?_
      refine mv_ rfl ?_
      refine wl_end ?_
      (try simp only [ls0, ls1])
      exact jmpL (fun a_ h_ => ih1172 k1334 (by omega) a_ _ h_) (fun g_ => ⟨_, wrap64 (x1159 + 1), x1320, x1322, g_, rfl, HS1329, (by omega), HJ1319, HL1321, HL1323, HJ1324, HG1325, H⟩) rfl
   rw [if_neg c1178] at H
   (try rw [(decide_eq_false c1178)])
   refine wp_cond_false rfl ?_
   refine wp_exit ?_
   (try simp only [Exit.inBlock, Exit.then, Exit.noGoto, if_true, if_pos])
   (try simp only [ls0, ls1])
   simp only [Option.some.injEq, Prod.mk.injEq] at H
   obtain ⟨rfl, rfl⟩ := H
   refine bodyPost_end (results_none rfl _ _ _) rfl ?_
   exact ⟨_, rfl, HS1170, HL1162, HL1164, HJ1165⟩

/-! ### lattice_Lattice_whole: function 58 -/
mutual
def lattice_Lattice_whole.l0 : Nat → S107 → Int → Int → Int → Option (Int × Int × Bool)
  | 0, _, _, _, _ => none
  | k + 1, o284, t290, x456, x524 => (order_Order_Len.f o284.f0).bind fun t538 => (if x524 < t538 then (if 0 ≤ x456 then (if x456 < 64 then (if 0 ≤ x524 then (if x524 < 64 then (if (List.getD o284.f2 ((x456 : Int).toNat * 64 + (x524 : Int).toNat) 0) = (-1) then (some (x456, x524, false)) else (if (List.getD o284.f3 ((x456 : Int).toNat * 64 + (x524 : Int).toNat) 0) = (-1) then (some (x456, x524, false)) else (lattice_Lattice_whole.l0 k o284 t290 x456 (wrap64 (x524 + 1))))) else (none)) else (none)) else (none)) else (none)) else (lattice_Lattice_whole.l1 k o284 t290 (wrap64 (x456 + 1))))
def lattice_Lattice_whole.l1 : Nat → S107 → Int → Int → Option (Int × Int × Bool)
  | 0, _, _, _ => none
  | k + 1, o284, t290, x456 => if x456 < t290 then (lattice_Lattice_whole.l0 k o284 t290 x456 x456) else (some (0, 0, true))
end
def lattice_Lattice_whole.f (k : Nat) (x0 : Option S107) : Option (Int × Int × Bool) := onOpt x0 (none) (fun o284 => ((order_Order_Len.f o284.f0).bind fun t290 => (lattice_Lattice_whole.l1 k o284 t290 0)))

set_option maxHeartbeats 2000000 in
set_option maxRecDepth 100000 in
theorem lattice_Lattice_whole.calls (k : Nat) (v0 : Value) (x0 : Option S107) (r1 : Int) (r2 : Int) (r3 : Bool) (c : Nat → Nat) (w : World) (hc : ∀ k, c k < 10) (HP0 : Ft c [0] w (fun w_ => (Kd.ptr 107 k107).K w_ x0 [v0])) (H : lattice_Lattice_whole.f k x0 = some (r1, r2, r3)) :
    Calls Tryd.prog 58 #[v0] w fun e w' => ∃ (c' : Nat → Nat) , e = .returned (.tuple #[.int .i64 r1, .int .i64 r2, .bool r3]) ∧ Step c w c' w' [] := by
 unfold lattice_Lattice_whole.f at H
 have HS := Step.refl c w []
 go_enter Tryd.func58, Tryd.ntmps58
 refine wp_seq_k fun K281 hK281 => ?_
 refine wl_region ?_
 refine st (.int .i64 0) rfl rfl (xr_assign _ rfl rfl) ?_
 refine st (.int .i64 0) rfl rfl (xr_assign _ rfl rfl) ?_
 refine st (.bool false) rfl rfl (xr_assign _ rfl rfl) ?_
 refine wl_end ?_
 (try simp only [ls0, ls1])
 refine hK281 _ _ ?_
 (try clear hK281 K281)
 refine wp_seq_k fun K282 hK282 => ?_
 refine wp_seq_k fun K283 hK283 => ?_
 refine wl_region ?_
 refine mv_ rfl ?_
 cases x0 with
 | none =>
  (try simp only [onOpt] at H)
  obtain rfl := ptr_none HP0
  exact absurd H (by simp)
 | some o284 =>
  (try simp only [onOpt] at H)
  obtain ⟨g285, cs286, rfl, HX287, HK288⟩ := ptr_some HP0
  obtain ⟨vq289_0, rfl, HRq289_0, HLq289_4, HLq289_5⟩ := k107_openF HK288
  replace HRq289_0 : Ft c [0] w (fun w_ => (Kd.ptr 81 k81).K w_ o284.f0 [vq289_0]) := HRq289_0
  refine st (.pointer (some ⟨g285, 0, none⟩)) rfl rfl (xr_nilCheck _ rfl rfl) ?_
  refine st (.pointer (some ⟨g285, 0, none⟩)) rfl rfl (xr_fieldAddr _ _ rfl rfl (bx_field2 Tryd.underlying107 rfl rfl (by kernel_rfl))) ?_
  refine st (vq289_0) rfl rfl (xr_load _ _ rfl rfl (load_cell Tryd.underlying26 rfl (bx_cell (Ft.now HX287) 0 rfl))) ?_
  simp only [ls0, ls1]
  obtain ⟨t290, A291, H⟩ := bnd H
  refine st_call #[vq289_0] rfl rfl Tryd.func21 (by kernel_rfl) rfl rfl (mp_ rfl) ?_
  refine (order_Order_Len.calls vq289_0 o284.f0 t290  (fun z_ => pal [(0, 0)] (c z_)) w (fun _ => pal_lt rfl _) (Ft.arg HRq289_0 rfl) A291).mono ?_
  rintro _ w293 ⟨C294, rfl, hs295⟩
  refine ⟨_, rfl, ?_⟩
  replace hs295 := Step.lift (U := [(0, 0)]) hs295 [] rfl rfl
  generalize up c C294 w.heap.size [(0, 0)] = C294_ at hs295
  replace HX287 := HX287.thru hs295 rfl
  replace HRq289_0 := HRq289_0.thru hs295 rfl
  replace HS := HS.trans hs295 hc rfl
  (try simp only [ls0, ls1])
  refine st (.int .i64 0) rfl rfl (xr_move _ rfl rfl) ?_
  refine wl_end ?_
  (try simp only [ls0, ls1])
  refine hK283 _ _ ?_
  (try clear hK283 K283)
  refine wp_block ?_
  (try simp only [ls0, ls1])
  refine wp_looped (looped_fin (fun kq461 a_ w460 => ∃ (C459 : Nat → Nat) (x456 : Int) (g_ : Nat → Value), a_ = ⟨#[.pointer (some ⟨g285, 0, none⟩), (g_ 1), (g_ 2), (g_ 3), (g_ 4), (g_ 5), (g_ 6), (g_ 7), (g_ 8), (g_ 9), (g_ 10), .int .i64 t290, .int .i64 x456, (g_ 13), (g_ 14), (g_ 15), (g_ 16), (g_ 17), (g_ 18), (g_ 19), (g_ 20), (g_ 21), (g_ 22), (g_ 23), (g_ 24), (g_ 25), (g_ 26), (g_ 27), (g_ 28), (g_ 29), (g_ 30), (g_ 31), (g_ 32), (g_ 33), (g_ 34), (g_ 35), (g_ 36), (g_ 37), (g_ 38), (g_ 39), (g_ 40), (g_ 41), (g_ 42), (g_ 43), (g_ 44), (g_ 45), (g_ 46), (g_ 47)], []⟩ ∧ Step c w C459 w460 [] ∧ kq461 ≤ k ∧ (Ft C459 [0] w460 (fun w_ => (Kd.ptr 81 k81).K w_ o284.f0 [vq289_0])) ∧ (Ft C459 [0] w460 (fun w_ => w_.heap[g285]? = some (.cells (List.toArray ([vq289_0, .int .u32 o284.f1.f0.f0, .int .i32 o284.f1.f1.f0.f0, .int .u32 o284.f1.f1.f0.f1] ++ (List.map (Value.int .i8) o284.f2 ++ (List.map (Value.int .i8) o284.f3 ++ ([.int .i64 o284.f4.f0]))))) 107 (0, 0)))) ∧ lattice_Lattice_whole.l1 kq461 o284 t290 x456 = some (r1, r2, r3)) ?step fun hL_ => ?init)
  case init =>
   exact jmpL (fun a_ h_ => hL_ k a_ _ h_) (fun g_ => ⟨_, 0, g_, rfl, HS, Nat.le_refl _, HRq289_0, HX287, H⟩) rfl
  case step =>
   intro kq461 ih464 a465 w460 hr466
   obtain ⟨C459, x456, g_, rfl, HS462, hk463, HJ457, HJ458, H⟩ := hr466
   refine looped_round ?_
   cases kq461 with
   | zero => exact absurd H (by simp [lattice_Lattice_whole.l1])
   | succ k467 =>
    simp only [lattice_Lattice_whole.l1] at H
    refine wp_seq_k fun K468 hK468 => ?_
    refine wl_region ?_
    refine st (.bool (decide (x456 < t290))) rfl rfl (xr_bin _ _ _ rfl rfl rfl (B.lss_i64 _ _)) ?_
    refine wl_end ?_
    (try simp only [ls0, ls1])
    refine hK468 _ _ ?_
    (try clear hK468 K468)
    refine wp_seq_k fun K469 hK469 => ?_
    by_cases c470 : x456 < t290
    ·rw [if_pos c470] at H
     (try rw [(decide_eq_true c470)])
     refine wp_cond_true rfl ?_
     refine wp_skip ?_
     (try simp only [ls0, ls1])
     refine hK469 _ _ ?_
     (try clear hK469 K469)
     refine wp_seq_k fun K471 hK471 => ?_
     refine wp_block ?_
     refine wp_seq_k fun K472 hK472 => ?_
     refine wl_region ?_
     refine mv_ rfl ?_
     refine as_ rfl ?_
     refine wl_end ?_
     (try simp only [ls0, ls1])
     refine hK472 _ _ ?_
     (try clear hK472 K472)
     refine wp_seq_k fun K473 hK473 => ?_
     refine wl_region ?_
     refine mv_ rfl ?_
     refine as_ rfl ?_
     refine wl_end ?_
     (try simp only [ls0, ls1])
     refine hK473 _ _ ?_
     (try clear hK473 K473)
     refine wp_block ?_
     (try simp only [ls0, ls1])
     refine wp_looped (looped_fin (fun kq529 a_ w528 => ∃ (C527 : Nat → Nat) (x524 : Int) (g_ : Nat → Value), a_ = ⟨#[.pointer (some ⟨g285, 0, none⟩), (g_ 1), (g_ 2), (g_ 3), (g_ 4), .int .i64 x456, .int .i64 x524, (g_ 7), (g_ 8), (g_ 9), (g_ 10), .int .i64 t290, .int .i64 x456, (g_ 13), (g_ 14), (g_ 15), (g_ 16), (g_ 17), (g_ 18), (g_ 19), (g_ 20), (g_ 21), (g_ 22), (g_ 23), (g_ 24), (g_ 25), (g_ 26), (g_ 27), (g_ 28), (g_ 29), (g_ 30), (g_ 31), (g_ 32), (g_ 33), (g_ 34), (g_ 35), (g_ 36), (g_ 37), (g_ 38), (g_ 39), (g_ 40), (g_ 41), (g_ 42), (g_ 43), (g_ 44), (g_ 45), (g_ 46), (g_ 47)], []⟩ ∧ Step c w C527 w528 [] ∧ kq529 ≤ k467 ∧ (Ft C527 [0] w528 (fun w_ => (Kd.ptr 81 k81).K w_ o284.f0 [vq289_0])) ∧ (Ft C527 [0] w528 (fun w_ => w_.heap[g285]? = some (.cells (List.toArray ([vq289_0, .int .u32 o284.f1.f0.f0, .int .i32 o284.f1.f1.f0.f0, .int .u32 o284.f1.f1.f0.f1] ++ (List.map (Value.int .i8) o284.f2 ++ (List.map (Value.int .i8) o284.f3 ++ ([.int .i64 o284.f4.f0]))))) 107 (0, 0)))) ∧ lattice_Lattice_whole.l0 kq529 o284 t290 x456 x524 = some (r1, r2, r3)) ?step fun hL_ => ?init)
     case init =>
      exact jmpL (fun a_ h_ => hL_ k467 a_ _ h_) (fun g_ => ⟨_, x456, g_, rfl, HS462, Nat.le_refl _, HJ457, HJ458, H⟩) rfl
     case step =>
      intro kq529 ih532 a533 w528 hr534
      obtain ⟨C527, x524, g_, rfl, HS530, hk531, HJ525, HJ526, H⟩ := hr534
      refine looped_round ?_
      cases kq529 with
      | zero => exact absurd H (by simp [lattice_Lattice_whole.l0])
      | succ k535 =>
       simp only [lattice_Lattice_whole.l0] at H
       refine wp_seq_k fun K536 hK536 => ?_
       refine wp_seq_k fun K537 hK537 => ?_
       refine wl_region ?_
       refine mv_ rfl ?_
       refine mv_ rfl ?_
       refine st (.pointer (some ⟨g285, 0, none⟩)) rfl rfl (xr_nilCheck _ rfl rfl) ?_
       refine st (.pointer (some ⟨g285, 0, none⟩)) rfl rfl (xr_fieldAddr _ _ rfl rfl (bx_field2 Tryd.underlying107 rfl rfl (by kernel_rfl))) ?_
       simp only [ls0, ls1]
       refine st (vq289_0) rfl rfl (xr_load _ _ rfl rfl (load_cell Tryd.underlying26 rfl (bx_cell (Ft.now HJ526) 0 rfl))) ?_
       obtain ⟨t538, A539, H⟩ := bnd H
       refine st_call #[vq289_0] rfl rfl Tryd.func21 (by kernel_rfl) rfl rfl (mp_ rfl) ?_
       refine (order_Order_Len.calls vq289_0 o284.f0 t538  (fun z_ => pal [(0, 0)] (C527 z_)) w528 (fun _ => pal_lt rfl _) (Ft.arg HJ525 rfl) A539).mono ?_
       rintro _ w541 ⟨C542, rfl, hs543⟩
       refine ⟨_, rfl, ?_⟩
       replace hs543 := Step.lift (U := [(0, 0)]) hs543 [] rfl rfl
       generalize up C527 C542 w528.heap.size [(0, 0)] = C542_ at hs543
       replace HJ526 := HJ526.thru hs543 rfl
       replace HJ525 := HJ525.thru hs543 rfl
       replace HS530 := HS530.trans hs543 hc rfl
       (try simp only [ls0, ls1])
       refine st (.bool (decide (x524 < t538))) rfl rfl (xr_bin _ _ _ rfl rfl rfl (B.lss_i64 _ _)) ?_
       refine wl_end ?_
       (try simp only [ls0, ls1])
       refine hK537 _ _ ?_
       (try clear hK537 K537)
       by_cases c544 : x524 < t538
       ·rw [if_pos c544] at H
        (try rw [(decide_eq_true c544)])
        refine wp_cond_true rfl ?_
        refine wp_skip ?_
        (try simp only [ls0, ls1])
        refine hK536 _ _ ?_
        (try clear hK536 K536)
        refine wp_seq_k fun K545 hK545 => ?_
        refine wp_block ?_
        refine wp_seq_k fun K546 hK546 => ?_
        refine wl_region ?_
        refine mv_ rfl ?_
        refine mv_ rfl ?_
        simp only [ls0, ls1]
        refine mv_ rfl ?_
        refine st (.pointer (some ⟨g285, 0, none⟩)) rfl rfl (xr_nilCheck _ rfl rfl) ?_
        refine st (.pointer (some ⟨g285, 4, none⟩)) rfl rfl (xr_fieldAddr _ _ rfl rfl (bx_field2 Tryd.underlying107 rfl rfl (by kernel_rfl))) ?_
        obtain ⟨c552, H⟩ := if_some H
        obtain ⟨c553, H⟩ := if_some H
        refine st (.pointer (some ⟨g285, 4 + ((x456 : Int).toNat * 64), none⟩)) rfl rfl (xr_indexAddr _ _ _ rfl rfl rfl (arr_index (sz := 64) Tryd.underlying102 (by kernel_rfl) (by first | assumption | decide | omega) (by first | assumption | decide | omega) (by omega))) ?_
        simp only [ls0, ls1]
        obtain ⟨c554, H⟩ := if_some H
        obtain ⟨c555, H⟩ := if_some H
        refine st (.pointer (some ⟨g285, 4 + ((x456 : Int).toNat * 64 + (x524 : Int).toNat), none⟩)) rfl rfl (xr_indexAddr _ _ _ rfl rfl rfl (arr_index (sz := 1) Tryd.underlying100 (by kernel_rfl) (by first | assumption | decide | omega) (by first | assumption | decide | omega) (by omega))) ?_
        refine st (.int .i8 (List.getD o284.f2 ((x456 : Int).toNat * 64 + (x524 : Int).toNat) 0)) rfl rfl (xr_load _ _ rfl rfl (arr_load (o := 4) (N := 4096) (pre := [vq289_0, .int .u32 o284.f1.f0.f0, .int .i32 o284.f1.f1.f0.f0, .int .u32 o284.f1.f1.f0.f1]) (post := List.map (Value.int .i8) o284.f3 ++ ([.int .i64 o284.f4.f0])) (enc := (Value.int .i8)) (l := o284.f2) (i := (x456 : Int).toNat * 64 + (x524 : Int).toNat) 0 Tryd.underlying99 rfl (Ft.now HJ526) (by first | (simp only [List.append_assoc, List.cons_append, List.nil_append, List.append_nil]; done) | rfl) rfl HLq289_4 (by omega) (by omega))) ?_
        refine st (.bool (decide ((List.getD o284.f2 ((x456 : Int).toNat * 64 + (x524 : Int).toNat) 0) = (-1)))) rfl rfl (xr_bin _ _ _ rfl rfl rfl (B.eql_i8 _ _)) ?_
        refine mv_ rfl ?_
        simp only [ls0, ls1]
        by_cases c556 : (List.getD o284.f2 ((x456 : Int).toNat * 64 + (x524 : Int).toNat) 0) = (-1)
        ·rw [if_pos c556] at H
         (try rw [(decide_eq_true c556)])
         refine sk_guard (guard_off 9 false 34 rfl rfl true (by decide) rfl) rfl ?_
         refine sk_guard (guard_off 9 false 34 rfl rfl true (by decide) rfl) rfl ?_
         refine sk_guard (guard_off 9 false 34 rfl rfl true (by decide) rfl) rfl ?_
         refine sk_guard (guard_off 9 false 34 rfl rfl true (by decide) rfl) rfl ?_
         simp only [ls0, ls1]
         refine sk_guard (guard_off 9 false 34 rfl rfl true (by decide) rfl) rfl ?_
         refine sk_guard (guard_off 9 false 34 rfl rfl true (by decide) rfl) rfl ?_
         refine sk_guard (guard_off 9 false 34 rfl rfl true (by decide) rfl) rfl ?_
         refine sk_guard (guard_off 9 false 34 rfl rfl true (by decide) rfl) rfl ?_
         simp only [ls0, ls1]
         refine sk_guard (guard_off 9 false 34 rfl rfl true (by decide) rfl) rfl ?_
         refine st (.bool true) rfl rfl (xr_pick true _ rfl rfl rfl) ?_
         refine wl_end ?_
         (try simp only [ls0, ls1])
         refine hK546 _ _ ?_
         (try clear hK546 K546)
         refine wp_cond_true rfl ?_
         refine wp_seq_k fun K557 hK557 => ?_
         refine wl_region ?_
         refine mv_ rfl ?_
         refine mv_ rfl ?_
         refine as_ rfl ?_
         refine as_ rfl ?_
         simp only [ls0, ls1]
         refine st (.bool false) rfl rfl (xr_assign _ rfl rfl) ?_
         refine wl_end ?_
         (try simp only [ls0, ls1])
         refine hK557 _ _ ?_
         (try clear hK557 K557)
         refine wp_ret ?_
         (try simp only [Exit.inBlock, Exit.then, Exit.noGoto])
         (try simp only [ls0, ls1])
         simp only [Option.some.injEq, Prod.mk.injEq] at H
         obtain ⟨rfl, rfl, rfl⟩ := H
         refine bodyPost_ret (results_tmp3 rfl _ _ _) rfl ?_
         exact ⟨_, rfl, HS530⟩
        rw [if_neg c556] at H
        (try rw [(decide_eq_false c556)])
        refine on_guard (guard_on 9 false 34 rfl rfl rfl) ?_
        refine mv_ rfl ?_
        refine on_guard (guard_on 9 false 34 rfl rfl rfl) ?_
        refine mv_ rfl ?_
        refine on_guard (guard_on 9 false 34 rfl rfl rfl) ?_
        refine mv_ rfl ?_
        refine on_guard (guard_on 9 false 34 rfl rfl rfl) ?_
        refine st (.pointer (some ⟨g285, 0, none⟩)) rfl rfl (xr_nilCheck _ rfl rfl) ?_
        simp only [ls0, ls1]
        refine on_guard (guard_on 9 false 34 rfl rfl rfl) ?_
        refine st (.pointer (some ⟨g285, 4100, none⟩)) rfl rfl (xr_fieldAddr _ _ rfl rfl (bx_field2 Tryd.underlying107 rfl rfl (by kernel_rfl))) ?_
        refine on_guard (guard_on 9 false 34 rfl rfl rfl) ?_
        refine st (.pointer (some ⟨g285, 4100 + ((x456 : Int).toNat * 64), none⟩)) rfl rfl (xr_indexAddr _ _ _ rfl rfl rfl (arr_index (sz := 64) Tryd.underlying102 (by kernel_rfl) (by first | assumption | decide | omega) (by first | assumption | decide | omega) (by omega))) ?_
        refine on_guard (guard_on 9 false 34 rfl rfl rfl) ?_
        refine st (.pointer (some ⟨g285, 4100 + ((x456 : Int).toNat * 64 + (x524 : Int).toNat), none⟩)) rfl rfl (xr_indexAddr _ _ _ rfl rfl rfl (arr_index (sz := 1) Tryd.underlying100 (by kernel_rfl) (by first | assumption | decide | omega) (by first | assumption | decide | omega) (by omega))) ?_
        refine on_guard (guard_on 9 false 34 rfl rfl rfl) ?_
        refine st (.int .i8 (List.getD o284.f3 ((x456 : Int).toNat * 64 + (x524 : Int).toNat) 0)) rfl rfl (xr_load _ _ rfl rfl (arr_load (o := 4100) (N := 4096) (pre := [vq289_0, .int .u32 o284.f1.f0.f0, .int .i32 o284.f1.f1.f0.f0, .int .u32 o284.f1.f1.f0.f1] ++ (List.map (Value.int .i8) o284.f2)) (post := [.int .i64 o284.f4.f0]) (enc := (Value.int .i8)) (l := o284.f3) (i := (x456 : Int).toNat * 64 + (x524 : Int).toNat) 0 Tryd.underlying99 rfl (Ft.now HJ526) (by first | (simp only [List.append_assoc, List.cons_append, List.nil_append, List.append_nil]; done) | rfl) (by simp [HLq289_4]) HLq289_5 (by omega) (by omega))) ?_
        simp only [ls0, ls1]
        refine on_guard (guard_on 9 false 34 rfl rfl rfl) ?_
        refine st (.bool (decide ((List.getD o284.f3 ((x456 : Int).toNat * 64 + (x524 : Int).toNat) 0) = (-1)))) rfl rfl (xr_bin _ _ _ rfl rfl rfl (B.eql_i8 _ _)) ?_
        refine st (.bool (decide ((List.getD o284.f3 ((x456 : Int).toNat * 64 + (x524 : Int).toNat) 0) = (-1)))) rfl rfl (xr_pick false _ rfl rfl rfl) ?_
        refine wl_end ?_
        (try simp only [ls0, ls1])
        refine hK546 _ _ ?_
        (try clear hK546 K546)
        by_cases c558 : (List.getD o284.f3 ((x456 : Int).toNat * 64 + (x524 : Int).toNat) 0) = (-1)
        ·rw [if_pos c558] at H
         (try rw [(decide_eq_true c558)])
         refine wp_cond_true rfl ?_
         refine wp_seq_k fun K559 hK559 => ?_
         refine wl_region ?_
         refine mv_ rfl ?_
         refine mv_ rfl ?_
         refine as_ rfl ?_
         refine as_ rfl ?_
         simp only [ls0, ls1]
         refine st (.bool false) rfl rfl (xr_assign _ rfl rfl) ?_
         refine wl_end ?_
         (try simp only [ls0, ls1])
         refine hK559 _ _ ?_
         (try clear hK559 K559)
         refine wp_ret ?_
         (try simp only [Exit.inBlock, Exit.then, Exit.noGoto])
         (try simp only [ls0, ls1])
         simp only [Option.some.injEq, Prod.mk.injEq] at H
         obtain ⟨rfl, rfl, rfl⟩ := H
         refine bodyPost_ret (results_tmp3 rfl _ _ _) rfl ?_
         exact ⟨_, rfl, HS530⟩
        rw [if_neg c558] at H
        (try rw [(decide_eq_false c558)])
        refine wp_cond_false rfl ?_
        refine wp_skip ?_
        (try simp only [ls0, ls1])
        refine hK545 _ _ ?_
        (try clear hK545 K545)
        refine wl_region ?_
        refine mv_ rfl ?_
        refine st (.int .i64 (wrap64 (x524 + 1))) rfl rfl (xr_bin _ _ _ rfl rfl rfl (B.add_i64 _ _)) ?_
        refine as_ rfl ?_
        refine wl_end ?_
        (try simp only [ls0, ls1])
        exact jmpL (fun a_ h_ => ih532 k535 (by omega) a_ _ h_) (fun g_ => ⟨_, wrap64 (x524 + 1), g_, rfl, HS530, (by omega), HJ525, HJ526, H⟩) rfl
       rw [if_neg c544] at H
       (try rw [(decide_eq_false c544)])
       refine wp_cond_false rfl ?_
       refine wp_exit ?_
       (try simp only [ls0, ls1])
       refine hK471 _ _ ?_
       (try clear hK471 K471)
       refine wl_region ?_
       refine st (.int .i64 (wrap64 (x456 + 1))) rfl rfl (xr_bin _ _ _ rfl rfl rfl (B.add_i64 _ _)) ?_
       refine mv_ rfl ?_
       refine wl_end ?_
       (try simp only [ls0, ls1])
       exact jmpL (fun a_ h_ => ih464 k535 (by omega) a_ _ h_) (fun g_ => ⟨_, wrap64 (x456 + 1), g_, rfl, HS530, (by omega), HJ525, HJ526, H⟩) rfl
    rw [if_neg c470] at H
    (try rw [(decide_eq_false c470)])
    refine wp_cond_false rfl ?_
    refine wp_exit ?_
    (try simp only [ls0, ls1])
    refine hK282 _ _ ?_
    (try clear hK282 K282)
    refine wp_seq_k fun K560 hK560 => ?_
    refine wl_region ?_
    refine st (.int .i64 0) rfl rfl (xr_assign _ rfl rfl) ?_
    refine st (.int .i64 0) rfl rfl (xr_assign _ rfl rfl) ?_
    refine st (.bool true) rfl rfl (xr_assign _ rfl rfl) ?_
    refine wl_end ?_
    (try simp only [ls0, ls1])
    refine hK560 _ _ ?_
    (try clear hK560 K560)
    refine wp_ret ?_
    (try simp only [Exit.inBlock, Exit.then, Exit.noGoto])
    (try simp only [ls0, ls1])
    simp only [Option.some.injEq, Prod.mk.injEq] at H
    obtain ⟨rfl, rfl, rfl⟩ := H
    refine bodyPost_ret (results_tmp3 rfl _ _ _) rfl ?_
    exact ⟨_, rfl, HS462⟩

/-! ### lattice_Lattice_spreads: function 59 -/
mutual
def lattice_Lattice_spreads.l0 : Nat → S107 → Int → Int → Int → Int → Option (Int × Int × Bool)
  | 0, _, _, _, _, _ => none
  | k + 1, o864, t870, x1434, x1625, x1689 => if x1689 < t870 then (if 0 ≤ x1625 then (if x1625 < 64 then (if 0 ≤ x1689 then (if x1689 < 64 then (if 0 ≤ x1434 then (if x1434 < 64 then (if 0 ≤ (List.getD o864.f2 ((x1625 : Int).toNat * 64 + (x1689 : Int).toNat) 0) then (if (List.getD o864.f2 ((x1625 : Int).toNat * 64 + (x1689 : Int).toNat) 0) < 64 then (if 0 ≤ (List.getD o864.f3 ((x1434 : Int).toNat * 64 + (x1625 : Int).toNat) 0) then (if (List.getD o864.f3 ((x1434 : Int).toNat * 64 + (x1625 : Int).toNat) 0) < 64 then (if 0 ≤ (List.getD o864.f3 ((x1434 : Int).toNat * 64 + (x1689 : Int).toNat) 0) then (if (List.getD o864.f3 ((x1434 : Int).toNat * 64 + (x1689 : Int).toNat) 0) < 64 then (if (List.getD o864.f3 ((x1434 : Int).toNat * 64 + (List.getD o864.f2 ((x1625 : Int).toNat * 64 + (x1689 : Int).toNat) 0 : Int).toNat) 0) = (List.getD o864.f2 ((List.getD o864.f3 ((x1434 : Int).toNat * 64 + (x1625 : Int).toNat) 0 : Int).toNat * 64 + (List.getD o864.f3 ((x1434 : Int).toNat * 64 + (x1689 : Int).toNat) 0 : Int).toNat) 0) then (lattice_Lattice_spreads.l0 k o864 t870 x1434 x1625 (wrap64 (x1689 + 1))) else (some (x1434, x1625, false))) else (none)) else (none)) else (none)) else (none)) else (none)) else (none)) else (none)) else (none)) else (none)) else (none)) else (none)) else (none)) else (lattice_Lattice_spreads.l1 k o864 t870 x1434 (wrap64 (x1625 + 1)))
def lattice_Lattice_spreads.l1 : Nat → S107 → Int → Int → Int → Option (Int × Int × Bool)
  | 0, _, _, _, _ => none
  | k + 1, o864, t870, x1434, x1625 => if x1625 < t870 then (lattice_Lattice_spreads.l0 k o864 t870 x1434 x1625 0) else (lattice_Lattice_spreads.l2 k o864 t870 (wrap64 (x1434 + 1)))
def lattice_Lattice_spreads.l2 : Nat → S107 → Int → Int → Option (Int × Int × Bool)
  | 0, _, _, _ => none
  | k + 1, o864, t870, x1434 => if x1434 < t870 then (lattice_Lattice_spreads.l1 k o864 t870 x1434 0) else (some (0, 0, true))
end
def lattice_Lattice_spreads.f (k : Nat) (x0 : Option S107) : Option (Int × Int × Bool) := onOpt x0 (none) (fun o864 => ((order_Order_Len.f o864.f0).bind fun t870 => (lattice_Lattice_spreads.l2 k o864 t870 0)))

set_option maxHeartbeats 2000000 in
set_option maxRecDepth 100000 in
theorem lattice_Lattice_spreads.calls (k : Nat) (v0 : Value) (x0 : Option S107) (r1 : Int) (r2 : Int) (r3 : Bool) (c : Nat → Nat) (w : World) (hc : ∀ k, c k < 10) (HP0 : Ft c [0] w (fun w_ => (Kd.ptr 107 k107).K w_ x0 [v0])) (H : lattice_Lattice_spreads.f k x0 = some (r1, r2, r3)) :
    Calls Tryd.prog 59 #[v0] w fun e w' => ∃ (c' : Nat → Nat) , e = .returned (.tuple #[.int .i64 r1, .int .i64 r2, .bool r3]) ∧ Step c w c' w' [] := by
 unfold lattice_Lattice_spreads.f at H
 have HS := Step.refl c w []
 go_enter Tryd.func59, Tryd.ntmps59
 refine wp_seq_k fun K862 hK862 => ?_
 refine wl_region ?_
 refine st (.int .i64 0) rfl rfl (xr_assign _ rfl rfl) ?_
 refine st (.int .i64 0) rfl rfl (xr_assign _ rfl rfl) ?_
 refine st (.bool false) rfl rfl (xr_assign _ rfl rfl) ?_
 refine wl_end ?_
 (try simp only [ls0, ls1])
 refine hK862 _ _ ?_
 (try clear hK862 K862)
 refine wp_seq_k fun K863 hK863 => ?_
 refine wl_region ?_
 refine mv_ rfl ?_
 cases x0 with
 | none =>
  (try simp only [onOpt] at H)
  obtain rfl := ptr_none HP0
  exact absurd H (by simp)
 | some o864 =>
  (try simp only [onOpt] at H)
  obtain ⟨g865, cs866, rfl, HX867, HK868⟩ := ptr_some HP0
  obtain ⟨vq869_0, rfl, HRq869_0, HLq869_4, HLq869_5⟩ := k107_openF HK868
  replace HRq869_0 : Ft c [0] w (fun w_ => (Kd.ptr 81 k81).K w_ o864.f0 [vq869_0]) := HRq869_0
  refine st (.pointer (some ⟨g865, 0, none⟩)) rfl rfl (xr_nilCheck _ rfl rfl) ?_
  refine st (.pointer (some ⟨g865, 0, none⟩)) rfl rfl (xr_fieldAddr _ _ rfl rfl (bx_field2 Tryd.underlying107 rfl rfl (by kernel_rfl))) ?_
  refine st (vq869_0) rfl rfl (xr_load _ _ rfl rfl (load_cell Tryd.underlying26 rfl (bx_cell (Ft.now HX867) 0 rfl))) ?_
  simp only [ls0, ls1]
  obtain ⟨t870, A871, H⟩ := bnd H
  refine st_call #[vq869_0] rfl rfl Tryd.func21 (by kernel_rfl) rfl rfl (mp_ rfl) ?_
  refine (order_Order_Len.calls vq869_0 o864.f0 t870  (fun z_ => pal [(0, 0)] (c z_)) w (fun _ => pal_lt rfl _) (Ft.arg HRq869_0 rfl) A871).mono ?_
  rintro _ w873 ⟨C874, rfl, hs875⟩
  refine ⟨_, rfl, ?_⟩
  replace hs875 := Step.lift (U := [(0, 0)]) hs875 [] rfl rfl
  generalize up c C874 w.heap.size [(0, 0)] = C874_ at hs875
  replace HX867 := HX867.thru hs875 rfl
  replace HRq869_0 := HRq869_0.thru hs875 rfl
  replace HS := HS.trans hs875 hc rfl
  (try simp only [ls0, ls1])
  refine as_ rfl ?_
  refine wl_end ?_
  (try simp only [ls0, ls1])
  refine hK863 _ _ ?_
  (try clear hK863 K863)
  refine wp_seq_k fun K876 hK876 => ?_
  refine wp_seq_k fun K877 hK877 => ?_
  refine wl_region ?_
  refine mv_ rfl ?_
  refine st (.int .i64 0) rfl rfl (xr_move _ rfl rfl) ?_
  refine wl_end ?_
  (try simp only [ls0, ls1])
  refine hK877 _ _ ?_
  (try clear hK877 K877)
  refine wp_block ?_
  (try simp only [ls0, ls1])
  refine wp_looped (looped_fin (fun kq1439 a_ w1438 => ∃ (C1437 : Nat → Nat) (x1434 : Int) (g_ : Nat → Value), a_ = ⟨#[.pointer (some ⟨g865, 0, none⟩), (g_ 1), (g_ 2), (g_ 3), (g_ 4), .int .i64 t870, (g_ 6), (g_ 7), (g_ 8), (g_ 9), (g_ 10), (g_ 11), (g_ 12), (g_ 13), .int .i64 t870, .int .i64 x1434, (g_ 16), (g_ 17), (g_ 18), (g_ 19), (g_ 20), (g_ 21), (g_ 22), (g_ 23), (g_ 24), (g_ 25), (g_ 26), (g_ 27), (g_ 28), (g_ 29), (g_ 30), (g_ 31), (g_ 32), (g_ 33), (g_ 34), (g_ 35), (g_ 36), (g_ 37), (g_ 38), (g_ 39), (g_ 40), (g_ 41), (g_ 42), (g_ 43), (g_ 44), (g_ 45), (g_ 46), (g_ 47), (g_ 48), (g_ 49), (g_ 50), (g_ 51), (g_ 52), (g_ 53), (g_ 54), (g_ 55), (g_ 56), (g_ 57), (g_ 58), (g_ 59), (g_ 60), (g_ 61), (g_ 62), (g_ 63), (g_ 64), (g_ 65), (g_ 66), (g_ 67), (g_ 68)], []⟩ ∧ Step c w C1437 w1438 [] ∧ kq1439 ≤ k ∧ (Ft C1437 [0] w1438 (fun w_ => (Kd.ptr 81 k81).K w_ o864.f0 [vq869_0])) ∧ (Ft C1437 [0] w1438 (fun w_ => w_.heap[g865]? = some (.cells (List.toArray ([vq869_0, .int .u32 o864.f1.f0.f0, .int .i32 o864.f1.f1.f0.f0, .int .u32 o864.f1.f1.f0.f1] ++ (List.map (Value.int .i8) o864.f2 ++ (List.map (Value.int .i8) o864.f3 ++ ([.int .i64 o864.f4.f0]))))) 107 (0, 0)))) ∧ lattice_Lattice_spreads.l2 kq1439 o864 t870 x1434 = some (r1, r2, r3)) ?step fun hL_ => ?init)
  case init =>
   exact jmpL (fun a_ h_ => hL_ k a_ _ h_) (fun g_ => ⟨_, 0, g_, rfl, HS, Nat.le_refl _, HRq869_0, HX867, H⟩) rfl
  case step =>
   intro kq1439 ih1442 a1443 w1438 hr1444
   obtain ⟨C1437, x1434, g_, rfl, HS1440, hk1441, HJ1435, HJ1436, H⟩ := hr1444
   refine looped_round ?_
   cases kq1439 with
   | zero => exact absurd H (by simp [lattice_Lattice_spreads.l2])
   | succ k1445 =>
    simp only [lattice_Lattice_spreads.l2] at H
    refine wp_seq_k fun K1446 hK1446 => ?_
    refine wl_region ?_
    refine st (.bool (decide (x1434 < t870))) rfl rfl (xr_bin _ _ _ rfl rfl rfl (B.lss_i64 _ _)) ?_
    refine wl_end ?_
    (try simp only [ls0, ls1])
    refine hK1446 _ _ ?_
    (try clear hK1446 K1446)
    refine wp_seq_k fun K1447 hK1447 => ?_
    by_cases c1448 : x1434 < t870
    ·rw [if_pos c1448] at H
     (try rw [(decide_eq_true c1448)])
     refine wp_cond_true rfl ?_
     refine wp_skip ?_
     (try simp only [ls0, ls1])
     refine hK1447 _ _ ?_
     (try clear hK1447 K1447)
     refine wp_seq_k fun K1449 hK1449 => ?_
     refine wp_block ?_
     refine wp_seq_k fun K1450 hK1450 => ?_
     refine wl_region ?_
     refine mv_ rfl ?_
     refine as_ rfl ?_
     refine wl_end ?_
     (try simp only [ls0, ls1])
     refine hK1450 _ _ ?_
     (try clear hK1450 K1450)
     refine wp_seq_k fun K1451 hK1451 => ?_
     refine wl_region ?_
     refine mv_ rfl ?_
     refine st (.int .i64 0) rfl rfl (xr_move _ rfl rfl) ?_
     refine wl_end ?_
     (try simp only [ls0, ls1])
     refine hK1451 _ _ ?_
     (try clear hK1451 K1451)
     refine wp_block ?_
     (try simp only [ls0, ls1])
     refine wp_looped (looped_fin (fun kq1630 a_ w1629 => ∃ (C1628 : Nat → Nat) (x1625 : Int) (g_ : Nat → Value), a_ = ⟨#[.pointer (some ⟨g865, 0, none⟩), (g_ 1), (g_ 2), (g_ 3), (g_ 4), .int .i64 t870, .int .i64 x1434, (g_ 7), (g_ 8), (g_ 9), (g_ 10), (g_ 11), (g_ 12), (g_ 13), .int .i64 t870, .int .i64 x1434, (g_ 16), (g_ 17), .int .i64 t870, .int .i64 x1625, (g_ 20), (g_ 21), (g_ 22), (g_ 23), (g_ 24), (g_ 25), (g_ 26), (g_ 27), (g_ 28), (g_ 29), (g_ 30), (g_ 31), (g_ 32), (g_ 33), (g_ 34), (g_ 35), (g_ 36), (g_ 37), (g_ 38), (g_ 39), (g_ 40), (g_ 41), (g_ 42), (g_ 43), (g_ 44), (g_ 45), (g_ 46), (g_ 47), (g_ 48), (g_ 49), (g_ 50), (g_ 51), (g_ 52), (g_ 53), (g_ 54), (g_ 55), (g_ 56), (g_ 57), (g_ 58), (g_ 59), (g_ 60), (g_ 61), (g_ 62), (g_ 63), (g_ 64), (g_ 65), (g_ 66), (g_ 67), (g_ 68)], []⟩ ∧ Step c w C1628 w1629 [] ∧ kq1630 ≤ k1445 ∧ (Ft C1628 [0] w1629 (fun w_ => (Kd.ptr 81 k81).K w_ o864.f0 [vq869_0])) ∧ (Ft C1628 [0] w1629 (fun w_ => w_.heap[g865]? = some (.cells (List.toArray ([vq869_0, .int .u32 o864.f1.f0.f0, .int .i32 o864.f1.f1.f0.f0, .int .u32 o864.f1.f1.f0.f1] ++ (List.map (Value.int .i8) o864.f2 ++ (List.map (Value.int .i8) o864.f3 ++ ([.int .i64 o864.f4.f0]))))) 107 (0, 0)))) ∧ lattice_Lattice_spreads.l1 kq1630 o864 t870 x1434 x1625 = some (r1, r2, r3)) ?step fun hL_ => ?init)
     case init =>
      exact jmpL (fun a_ h_ => hL_ k1445 a_ _ h_) (fun g_ => ⟨_, 0, g_, rfl, HS1440, Nat.le_refl _, HJ1435, HJ1436, H⟩) rfl
     case step =>
      intro kq1630 ih1633 a1634 w1629 hr1635
      obtain ⟨C1628, x1625, g_, rfl, HS1631, hk1632, HJ1626, HJ1627, H⟩ := hr1635
      refine looped_round ?_
      cases kq1630 with
      | zero => exact absurd H (by simp [lattice_Lattice_spreads.l1])
      | succ k1636 =>
       simp only [lattice_Lattice_spreads.l1] at H
       refine wp_seq_k fun K1637 hK1637 => ?_
       refine wl_region ?_
       refine st (.bool (decide (x1625 < t870))) rfl rfl (xr_bin _ _ _ rfl rfl rfl (B.lss_i64 _ _)) ?_
       refine wl_end ?_
       (try simp only [ls0, ls1])
       refine hK1637 _ _ ?_
       (try clear hK1637 K1637)
       refine wp_seq_k fun K1638 hK1638 => ?_
       by_cases c1639 : x1625 < t870
       ·rw [if_pos c1639] at H
        (try rw [(decide_eq_true c1639)])
        refine wp_cond_true rfl ?_
        refine wp_skip ?_
        (try simp only [ls0, ls1])
        refine hK1638 _ _ ?_
        (try clear hK1638 K1638)
        refine wp_seq_k fun K1640 hK1640 => ?_
        refine wp_block ?_
        refine wp_seq_k fun K1641 hK1641 => ?_
        refine wl_region ?_
        refine mv_ rfl ?_
        refine as_ rfl ?_
        refine wl_end ?_
        (try simp only [ls0, ls1])
        refine hK1641 _ _ ?_
        (try clear hK1641 K1641)
        refine wp_seq_k fun K1642 hK1642 => ?_
        refine wl_region ?_
        refine mv_ rfl ?_
        refine st (.int .i64 0) rfl rfl (xr_move _ rfl rfl) ?_
        refine wl_end ?_
        (try simp only [ls0, ls1])
        refine hK1642 _ _ ?_
        (try clear hK1642 K1642)
        refine wp_block ?_
        (try simp only [ls0, ls1])
        refine wp_looped (looped_fin (fun kq1694 a_ w1693 => ∃ (C1692 : Nat → Nat) (x1689 : Int) (g_ : Nat → Value), a_ = ⟨#[.pointer (some ⟨g865, 0, none⟩), (g_ 1), (g_ 2), (g_ 3), (g_ 4), .int .i64 t870, .int .i64 x1434, .int .i64 x1625, (g_ 8), (g_ 9), (g_ 10), (g_ 11), (g_ 12), (g_ 13), .int .i64 t870, .int .i64 x1434, (g_ 16), (g_ 17), .int .i64 t870, .int .i64 x1625, (g_ 20), (g_ 21), .int .i64 t870, .int .i64 x1689, (g_ 24), (g_ 25), (g_ 26), (g_ 27), (g_ 28), (g_ 29), (g_ 30), (g_ 31), (g_ 32), (g_ 33), (g_ 34), (g_ 35), (g_ 36), (g_ 37), (g_ 38), (g_ 39), (g_ 40), (g_ 41), (g_ 42), (g_ 43), (g_ 44), (g_ 45), (g_ 46), (g_ 47), (g_ 48), (g_ 49), (g_ 50), (g_ 51), (g_ 52), (g_ 53), (g_ 54), (g_ 55), (g_ 56), (g_ 57), (g_ 58), (g_ 59), (g_ 60), (g_ 61), (g_ 62), (g_ 63), (g_ 64), (g_ 65), (g_ 66), (g_ 67), (g_ 68)], []⟩ ∧ Step c w C1692 w1693 [] ∧ kq1694 ≤ k1636 ∧ (Ft C1692 [0] w1693 (fun w_ => (Kd.ptr 81 k81).K w_ o864.f0 [vq869_0])) ∧ (Ft C1692 [0] w1693 (fun w_ => w_.heap[g865]? = some (.cells (List.toArray ([vq869_0, .int .u32 o864.f1.f0.f0, .int .i32 o864.f1.f1.f0.f0, .int .u32 o864.f1.f1.f0.f1] ++ (List.map (Value.int .i8) o864.f2 ++ (List.map (Value.int .i8) o864.f3 ++ ([.int .i64 o864.f4.f0]))))) 107 (0, 0)))) ∧ lattice_Lattice_spreads.l0 kq1694 o864 t870 x1434 x1625 x1689 = some (r1, r2, r3)) ?step fun hL_ => ?init)
        case init =>
         exact jmpL (fun a_ h_ => hL_ k1636 a_ _ h_) (fun g_ => ⟨_, 0, g_, rfl, HS1631, Nat.le_refl _, HJ1626, HJ1627, H⟩) rfl
        case step =>
         intro kq1694 ih1697 a1698 w1693 hr1699
         obtain ⟨C1692, x1689, g_, rfl, HS1695, hk1696, HJ1690, HJ1691, H⟩ := hr1699
         refine looped_round ?_
         cases kq1694 with
         | zero => exact absurd H (by simp [lattice_Lattice_spreads.l0])
         | succ k1700 =>
          simp only [lattice_Lattice_spreads.l0] at H
          refine wp_seq_k fun K1701 hK1701 => ?_
          refine wl_region ?_
          refine st (.bool (decide (x1689 < t870))) rfl rfl (xr_bin _ _ _ rfl rfl rfl (B.lss_i64 _ _)) ?_
          refine wl_end ?_
          (try simp only [ls0, ls1])
          refine hK1701 _ _ ?_
          (try clear hK1701 K1701)
          refine wp_seq_k fun K1702 hK1702 => ?_
          by_cases c1703 : x1689 < t870
          ·rw [if_pos c1703] at H
           (try rw [(decide_eq_true c1703)])
           refine wp_cond_true rfl ?_
           refine wp_skip ?_
           (try simp only [ls0, ls1])
           refine hK1702 _ _ ?_
           (try clear hK1702 K1702)
           refine wp_seq_k fun K1704 hK1704 => ?_
           refine wp_block ?_
           refine wp_seq_k fun K1705 hK1705 => ?_
           refine wl_region ?_
           refine mv_ rfl ?_
           refine as_ rfl ?_
           refine wl_end ?_
           (try simp only [ls0, ls1])
           refine hK1705 _ _ ?_
           (try clear hK1705 K1705)
           refine wp_seq_k fun K1706 hK1706 => ?_
           (try simp only [ls0, ls1])
           refine al_start (lb 38 0) rfl rfl rfl (fun w_ => w_.heap[g865]? = some (.cells (List.toArray ([vq869_0, .int .u32 o864.f1.f0.f0, .int .i32 o864.f1.f1.f0.f0, .int .u32 o864.f1.f1.f0.f1] ++ (List.map (Value.int .i8) o864.f2 ++ (List.map (Value.int .i8) o864.f3 ++ ([.int .i64 o864.f4.f0]))))) 107 (0, 0))) (Ft.now (HJ1691.drew)) [] ?_
           replace HJ1691 := HJ1691.drew
           replace HJ1690 := HJ1690.drew
           replace HS1695 := Step.ofDrew HS1695
           generalize w1693.drew = w1707 at *
           refine al_mv 0 (lb 38 1) rfl rfl (by kernel_rfl) (fun _ _ _ => id) rfl ?_
           refine al_mv 1 (lb 38 3) rfl rfl (by kernel_rfl) (fun _ _ _ => id) rfl ?_
           refine al_mv 2 (lb 38 7) rfl rfl (by kernel_rfl) (fun _ _ _ => id) rfl ?_
           refine al_mv 3 (lb 38 15) rfl rfl (by kernel_rfl) (fun _ _ _ => id) rfl ?_
           simp only [ls0, ls1]
           refine al_mv 4 (lb 38 31) rfl rfl (by kernel_rfl) (fun _ _ _ => id) rfl ?_
           refine al_pure 5 31 (.pointer (some ⟨g865, 0, none⟩)) (lb 38 63) rfl rfl (by kernel_rfl) (fun _ _ _ => id) rfl (fun w_ => xr_nilCheck _ rfl rfl) ?_
           refine al_pure 6 32 (.pointer (some ⟨g865, 4, none⟩)) (lb 38 127) rfl rfl (by kernel_rfl) (fun _ _ _ => id) rfl (fun w_ => xr_fieldAddr _ _ rfl rfl (bx_field2 Tryd.underlying107 rfl rfl (by kernel_rfl))) ?_
           obtain ⟨c1708, H⟩ := if_some H
           obtain ⟨c1709, H⟩ := if_some H
           refine al_pure 7 33 (.pointer (some ⟨g865, 4 + ((x1625 : Int).toNat * 64), none⟩)) (lb 38 255) rfl rfl (by kernel_rfl) (fun _ _ _ => id) rfl (fun w_ => xr_indexAddr _ _ _ rfl rfl rfl (arr_index (sz := 64) Tryd.underlying102 (by kernel_rfl) (by first | assumption | decide | omega) (by first | assumption | decide | omega) (by omega))) ?_
           simp only [ls0, ls1]
           obtain ⟨c1710, H⟩ := if_some H
           obtain ⟨c1711, H⟩ := if_some H
           refine al_pure 8 34 (.pointer (some ⟨g865, 4 + ((x1625 : Int).toNat * 64 + (x1689 : Int).toNat), none⟩)) (lb 38 511) rfl rfl (by kernel_rfl) (fun _ _ _ => id) rfl (fun w_ => xr_indexAddr _ _ _ rfl rfl rfl (arr_index (sz := 1) Tryd.underlying100 (by kernel_rfl) (by first | assumption | decide | omega) (by first | assumption | decide | omega) (by omega))) ?_
           refine al_pure 10 36 (.pointer (some ⟨g865, 0, none⟩)) (lb 38 1535) rfl rfl (by kernel_rfl) (fun _ _ _ => id) rfl (fun w_ => xr_nilCheck _ rfl rfl) ?_
           refine al_pure 11 37 (.pointer (some ⟨g865, 4100, none⟩)) (lb 38 3583) rfl rfl (by kernel_rfl) (fun _ _ _ => id) rfl (fun w_ => xr_fieldAddr _ _ rfl rfl (bx_field2 Tryd.underlying107 rfl rfl (by kernel_rfl))) ?_
           obtain ⟨c1712, H⟩ := if_some H
           obtain ⟨c1713, H⟩ := if_some H
           refine al_pure 12 38 (.pointer (some ⟨g865, 4100 + ((x1434 : Int).toNat * 64), none⟩)) (lb 38 7679) rfl rfl (by kernel_rfl) (fun _ _ _ => id) rfl (fun w_ => xr_indexAddr _ _ _ rfl rfl rfl (arr_index (sz := 64) Tryd.underlying102 (by kernel_rfl) (by first | assumption | decide | omega) (by first | assumption | decide | omega) (by omega))) ?_
           simp only [ls0, ls1]
           refine al_mv 15 (lb 38 40447) rfl rfl (by kernel_rfl) (fun _ _ _ => id) rfl ?_
           refine al_mv 16 (lb 38 105983) rfl rfl (by kernel_rfl) (fun _ _ _ => id) rfl ?_
           refine al_mv 17 (lb 38 237055) rfl rfl (by kernel_rfl) (fun _ _ _ => id) rfl ?_
           refine al_mv 18 (lb 38 499199) rfl rfl (by kernel_rfl) (fun _ _ _ => id) rfl ?_
           simp only [ls0, ls1]
           refine al_pure 19 45 (.pointer (some ⟨g865, 0, none⟩)) (lb 38 1023487) rfl rfl (by kernel_rfl) (fun _ _ _ => id) rfl (fun w_ => xr_nilCheck _ rfl rfl) ?_
           refine al_pure 20 46 (.pointer (some ⟨g865, 4100, none⟩)) (lb 38 2072063) rfl rfl (by kernel_rfl) (fun _ _ _ => id) rfl (fun w_ => xr_fieldAddr _ _ rfl rfl (bx_field2 Tryd.underlying107 rfl rfl (by kernel_rfl))) ?_
           refine al_pure 21 47 (.pointer (some ⟨g865, 4100 + ((x1434 : Int).toNat * 64), none⟩)) (lb 38 4169215) rfl rfl (by kernel_rfl) (fun _ _ _ => id) rfl (fun w_ => xr_indexAddr _ _ _ rfl rfl rfl (arr_index (sz := 64) Tryd.underlying102 (by kernel_rfl) (by first | assumption | decide | omega) (by first | assumption | decide | omega) (by omega))) ?_
           refine al_pure 22 48 (.pointer (some ⟨g865, 4100 + ((x1434 : Int).toNat * 64 + (x1625 : Int).toNat), none⟩)) (lb 38 8363519) rfl rfl (by kernel_rfl) (fun _ _ _ => id) rfl (fun w_ => xr_indexAddr _ _ _ rfl rfl rfl (arr_index (sz := 1) Tryd.underlying100 (by kernel_rfl) (by first | assumption | decide | omega) (by first | assumption | decide | omega) (by omega))) ?_
           simp only [ls0, ls1]
           refine al_mv 24 (lb 38 25140735) rfl rfl (by kernel_rfl) (fun _ _ _ => id) rfl ?_
           refine al_mv 25 (lb 38 58695167) rfl rfl (by kernel_rfl) (fun _ _ _ => id) rfl ?_
           refine al_mv 26 (lb 38 125804031) rfl rfl (by kernel_rfl) (fun _ _ _ => id) rfl ?_
           refine al_pure 27 53 (.pointer (some ⟨g865, 0, none⟩)) (lb 38 260021759) rfl rfl (by kernel_rfl) (fun _ _ _ => id) rfl (fun w_ => xr_nilCheck _ rfl rfl) ?_
           simp only [ls0, ls1]
           refine al_pure 28 54 (.pointer (some ⟨g865, 4100, none⟩)) (lb 38 528457215) rfl rfl (by kernel_rfl) (fun _ _ _ => id) rfl (fun w_ => xr_fieldAddr _ _ rfl rfl (bx_field2 Tryd.underlying107 rfl rfl (by kernel_rfl))) ?_
           refine al_pure 29 55 (.pointer (some ⟨g865, 4100 + ((x1434 : Int).toNat * 64), none⟩)) (lb 38 1065328127) rfl rfl (by kernel_rfl) (fun _ _ _ => id) rfl (fun w_ => xr_indexAddr _ _ _ rfl rfl rfl (arr_index (sz := 64) Tryd.underlying102 (by kernel_rfl) (by first | assumption | decide | omega) (by first | assumption | decide | omega) (by omega))) ?_
           refine al_pure 30 56 (.pointer (some ⟨g865, 4100 + ((x1434 : Int).toNat * 64 + (x1689 : Int).toNat), none⟩)) (lb 38 2139069951) rfl rfl (by kernel_rfl) (fun _ _ _ => id) rfl (fun w_ => xr_indexAddr _ _ _ rfl rfl rfl (arr_index (sz := 1) Tryd.underlying100 (by kernel_rfl) (by first | assumption | decide | omega) (by first | assumption | decide | omega) (by omega))) ?_
           refine al_pure 32 58 (.pointer (some ⟨g865, 0, none⟩)) (lb 38 6434037247) rfl rfl (by kernel_rfl) (fun _ _ _ => id) rfl (fun w_ => xr_nilCheck _ rfl rfl) ?_
           simp only [ls0, ls1]
           refine al_pure 33 59 (.pointer (some ⟨g865, 4, none⟩)) (lb 38 15023971839) rfl rfl (by kernel_rfl) (fun _ _ _ => id) rfl (fun w_ => xr_fieldAddr _ _ rfl rfl (bx_field2 Tryd.underlying107 rfl rfl (by kernel_rfl))) ?_
           refine al_take 9 35 (.int .i8 (List.getD o864.f2 ((x1625 : Int).toNat * 64 + (x1689 : Int).toNat) 0)) (lb 38 15023972351) rfl rfl (by kernel_rfl) (fun _ _ _ => id) rfl (fun w_ hS_ => xr_load _ _ rfl rfl (arr_load (o := 4) (N := 4096) (pre := [vq869_0, .int .u32 o864.f1.f0.f0, .int .i32 o864.f1.f1.f0.f0, .int .u32 o864.f1.f1.f0.f1]) (post := List.map (Value.int .i8) o864.f3 ++ ([.int .i64 o864.f4.f0])) (enc := (Value.int .i8)) (l := o864.f2) (i := (x1625 : Int).toNat * 64 + (x1689 : Int).toNat) 0 Tryd.underlying99 rfl hS_ (by first | (simp only [List.append_assoc, List.cons_append, List.nil_append, List.append_nil]; done) | rfl) rfl HLq869_4 (by omega) (by omega))) (Ft.now (HJ1691)) ?_
           obtain ⟨c1714, H⟩ := if_some H
           obtain ⟨c1715, H⟩ := if_some H
           refine al_pure 13 39 (.pointer (some ⟨g865, 4100 + ((x1434 : Int).toNat * 64 + (List.getD o864.f2 ((x1625 : Int).toNat * 64 + (x1689 : Int).toNat) 0 : Int).toNat), none⟩)) (lb 38 15023980543) rfl rfl (by kernel_rfl) (fun _ _ _ => id) rfl (fun w_ => xr_indexAddr _ _ _ rfl rfl rfl (arr_index (sz := 1) Tryd.underlying100 (by kernel_rfl) (by first | assumption | decide | omega) (by first | assumption | decide | omega) (by omega))) ?_
           refine al_take 14 40 (.int .i8 (List.getD o864.f3 ((x1434 : Int).toNat * 64 + (List.getD o864.f2 ((x1625 : Int).toNat * 64 + (x1689 : Int).toNat) 0 : Int).toNat) 0)) (lb 38 15023996927) rfl rfl (by kernel_rfl) (fun _ _ _ => id) rfl (fun w_ hS_ => xr_load _ _ rfl rfl (arr_load (o := 4100) (N := 4096) (pre := [vq869_0, .int .u32 o864.f1.f0.f0, .int .i32 o864.f1.f1.f0.f0, .int .u32 o864.f1.f1.f0.f1] ++ (List.map (Value.int .i8) o864.f2)) (post := [.int .i64 o864.f4.f0]) (enc := (Value.int .i8)) (l := o864.f3) (i := (x1434 : Int).toNat * 64 + (List.getD o864.f2 ((x1625 : Int).toNat * 64 + (x1689 : Int).toNat) 0 : Int).toNat) 0 Tryd.underlying99 rfl hS_ (by first | (simp only [List.append_assoc, List.cons_append, List.nil_append, List.append_nil]; done) | rfl) (by simp [HLq869_4]) HLq869_5 (by omega) (by omega))) (Ft.now (HJ1691)) ?_
           simp only [ls0, ls1]
           refine al_take 23 49 (.int .i8 (List.getD o864.f3 ((x1434 : Int).toNat * 64 + (x1625 : Int).toNat) 0)) (lb 38 15032385535) rfl rfl (by kernel_rfl) (fun _ _ _ => id) rfl (fun w_ hS_ => xr_load _ _ rfl rfl (arr_load (o := 4100) (N := 4096) (pre := [vq869_0, .int .u32 o864.f1.f0.f0, .int .i32 o864.f1.f1.f0.f0, .int .u32 o864.f1.f1.f0.f1] ++ (List.map (Value.int .i8) o864.f2)) (post := [.int .i64 o864.f4.f0]) (enc := (Value.int .i8)) (l := o864.f3) (i := (x1434 : Int).toNat * 64 + (x1625 : Int).toNat) 0 Tryd.underlying99 rfl hS_ (by first | (simp only [List.append_assoc, List.cons_append, List.nil_append, List.append_nil]; done) | rfl) (by simp [HLq869_4]) HLq869_5 (by omega) (by omega))) (Ft.now (HJ1691)) ?_
           obtain ⟨c1716, H⟩ := if_some H
           obtain ⟨c1717, H⟩ := if_some H
           refine al_pure 34 60 (.pointer (some ⟨g865, 4 + ((List.getD o864.f3 ((x1434 : Int).toNat * 64 + (x1625 : Int).toNat) 0 : Int).toNat * 64), none⟩)) (lb 38 32212254719) rfl rfl (by kernel_rfl) (fun _ _ _ => id) rfl (fun w_ => xr_indexAddr _ _ _ rfl rfl rfl (arr_index (sz := 64) Tryd.underlying102 (by kernel_rfl) (by first | assumption | decide | omega) (by first | assumption | decide | omega) (by omega))) ?_
           refine al_take 31 57 (.int .i8 (List.getD o864.f3 ((x1434 : Int).toNat * 64 + (x1689 : Int).toNat) 0)) (lb 38 34359738367) rfl rfl (by kernel_rfl) (fun _ _ _ => id) rfl (fun w_ hS_ => xr_load _ _ rfl rfl (arr_load (o := 4100) (N := 4096) (pre := [vq869_0, .int .u32 o864.f1.f0.f0, .int .i32 o864.f1.f1.f0.f0, .int .u32 o864.f1.f1.f0.f1] ++ (List.map (Value.int .i8) o864.f2)) (post := [.int .i64 o864.f4.f0]) (enc := (Value.int .i8)) (l := o864.f3) (i := (x1434 : Int).toNat * 64 + (x1689 : Int).toNat) 0 Tryd.underlying99 rfl hS_ (by first | (simp only [List.append_assoc, List.cons_append, List.nil_append, List.append_nil]; done) | rfl) (by simp [HLq869_4]) HLq869_5 (by omega) (by omega))) (Ft.now (HJ1691)) ?_
           obtain ⟨c1718, H⟩ := if_some H
           obtain ⟨c1719, H⟩ := if_some H
           refine al_pure 35 61 (.pointer (some ⟨g865, 4 + ((List.getD o864.f3 ((x1434 : Int).toNat * 64 + (x1625 : Int).toNat) 0 : Int).toNat * 64 + (List.getD o864.f3 ((x1434 : Int).toNat * 64 + (x1689 : Int).toNat) 0 : Int).toNat), none⟩)) (lb 38 68719476735) rfl rfl (by kernel_rfl) (fun _ _ _ => id) rfl (fun w_ => xr_indexAddr _ _ _ rfl rfl rfl (arr_index (sz := 1) Tryd.underlying100 (by kernel_rfl) (by first | assumption | decide | omega) (by first | assumption | decide | omega) (by omega))) ?_
           simp only [ls0, ls1]
           refine al_take 36 62 (.int .i8 (List.getD o864.f2 ((List.getD o864.f3 ((x1434 : Int).toNat * 64 + (x1625 : Int).toNat) 0 : Int).toNat * 64 + (List.getD o864.f3 ((x1434 : Int).toNat * 64 + (x1689 : Int).toNat) 0 : Int).toNat) 0)) (lb 38 137438953471) rfl rfl (by kernel_rfl) (fun _ _ _ => id) rfl (fun w_ hS_ => xr_load _ _ rfl rfl (arr_load (o := 4) (N := 4096) (pre := [vq869_0, .int .u32 o864.f1.f0.f0, .int .i32 o864.f1.f1.f0.f0, .int .u32 o864.f1.f1.f0.f1]) (post := List.map (Value.int .i8) o864.f3 ++ ([.int .i64 o864.f4.f0])) (enc := (Value.int .i8)) (l := o864.f2) (i := (List.getD o864.f3 ((x1434 : Int).toNat * 64 + (x1625 : Int).toNat) 0 : Int).toNat * 64 + (List.getD o864.f3 ((x1434 : Int).toNat * 64 + (x1689 : Int).toNat) 0 : Int).toNat) 0 Tryd.underlying99 rfl hS_ (by first | (simp only [List.append_assoc, List.cons_append, List.nil_append, List.append_nil]; done) | rfl) rfl HLq869_4 (by omega) (by omega))) (Ft.now (HJ1691)) ?_
           refine al_pure 37 63 (.bool (!decide ((List.getD o864.f3 ((x1434 : Int).toNat * 64 + (List.getD o864.f2 ((x1625 : Int).toNat * 64 + (x1689 : Int).toNat) 0 : Int).toNat) 0) = (List.getD o864.f2 ((List.getD o864.f3 ((x1434 : Int).toNat * 64 + (x1625 : Int).toNat) 0 : Int).toNat * 64 + (List.getD o864.f3 ((x1434 : Int).toNat * 64 + (x1689 : Int).toNat) 0 : Int).toNat) 0)))) (lb 38 274877906943) rfl rfl (by kernel_rfl) (fun _ _ _ => id) rfl (fun w_ => xr_bin _ _ _ rfl rfl rfl (B.neq_i8 _ _)) ?_
           refine al_end (by kernel_rfl) ?_
           (try simp only [ls0, ls1])
           refine hK1706 _ _ ?_
           (try clear hK1706 K1706)
           by_cases c1720 : (List.getD o864.f3 ((x1434 : Int).toNat * 64 + (List.getD o864.f2 ((x1625 : Int).toNat * 64 + (x1689 : Int).toNat) 0 : Int).toNat) 0) = (List.getD o864.f2 ((List.getD o864.f3 ((x1434 : Int).toNat * 64 + (x1625 : Int).toNat) 0 : Int).toNat * 64 + (List.getD o864.f3 ((x1434 : Int).toNat * 64 + (x1689 : Int).toNat) 0 : Int).toNat) 0)
           ·rw [if_pos c1720] at H
            (try rw [(decide_eq_true c1720)])
            (try simp only [Bool.not_true, Bool.not_false])
            refine wp_cond_false rfl ?_
            refine wp_skip ?_
            (try simp only [ls0, ls1])
            refine hK1704 _ _ ?_
            (try clear hK1704 K1704)
            refine wl_region ?_
            refine st (.int .i64 (wrap64 (x1689 + 1))) rfl rfl (xr_bin _ _ _ rfl rfl rfl (B.add_i64 _ _)) ?_
            refine mv_ rfl ?_
            refine wl_end ?_
            (try simp only [ls0, ls1])
            exact jmpL (fun a_ h_ => ih1697 k1700 (by omega) a_ _ h_) (fun g_ => ⟨_, wrap64 (x1689 + 1), g_, rfl, HS1695, (by omega), HJ1690, HJ1691, H⟩) rfl
           rw [if_neg c1720] at H
           (try rw [(decide_eq_false c1720)])
           (try simp only [Bool.not_true, Bool.not_false])
           refine wp_cond_true rfl ?_
           refine wp_seq_k fun K1721 hK1721 => ?_
           refine wl_region ?_
           refine mv_ rfl ?_
           refine mv_ rfl ?_
           refine as_ rfl ?_
           refine as_ rfl ?_
           simp only [ls0, ls1]
           refine st (.bool false) rfl rfl (xr_assign _ rfl rfl) ?_
           refine wl_end ?_
           (try simp only [ls0, ls1])
           refine hK1721 _ _ ?_
           (try clear hK1721 K1721)
           refine wp_ret ?_
           (try simp only [Exit.inBlock, Exit.then, Exit.noGoto])
           (try simp only [ls0, ls1])
           simp only [Option.some.injEq, Prod.mk.injEq] at H
           obtain ⟨rfl, rfl, rfl⟩ := H
           refine bodyPost_ret (results_tmp3 rfl _ _ _) rfl ?_
           exact ⟨_, rfl, HS1695⟩
          rw [if_neg c1703] at H
          (try rw [(decide_eq_false c1703)])
          refine wp_cond_false rfl ?_
          refine wp_exit ?_
          (try simp only [ls0, ls1])
          refine hK1640 _ _ ?_
          (try clear hK1640 K1640)
          refine wl_region ?_
          refine st (.int .i64 (wrap64 (x1625 + 1))) rfl rfl (xr_bin _ _ _ rfl rfl rfl (B.add_i64 _ _)) ?_
          refine mv_ rfl ?_
          refine wl_end ?_
          (try simp only [ls0, ls1])
          exact jmpL (fun a_ h_ => ih1633 k1700 (by omega) a_ _ h_) (fun g_ => ⟨_, wrap64 (x1625 + 1), g_, rfl, HS1695, (by omega), HJ1690, HJ1691, H⟩) rfl
       rw [if_neg c1639] at H
       (try rw [(decide_eq_false c1639)])
       refine wp_cond_false rfl ?_
       refine wp_exit ?_
       (try simp only [ls0, ls1])
       refine hK1449 _ _ ?_
       (try clear hK1449 K1449)
       refine wl_region ?_
       refine st (.int .i64 (wrap64 (x1434 + 1))) rfl rfl (xr_bin _ _ _ rfl rfl rfl (B.add_i64 _ _)) ?_
       refine mv_ rfl ?_
       refine wl_end ?_
       (try simp only [ls0, ls1])
       exact jmpL (fun a_ h_ => ih1442 k1636 (by omega) a_ _ h_) (fun g_ => ⟨_, wrap64 (x1434 + 1), g_, rfl, HS1631, (by omega), HJ1626, HJ1627, H⟩) rfl
    rw [if_neg c1448] at H
    (try rw [(decide_eq_false c1448)])
    refine wp_cond_false rfl ?_
    refine wp_exit ?_
    (try simp only [ls0, ls1])
    refine hK876 _ _ ?_
    (try clear hK876 K876)
    refine wp_seq_k fun K1722 hK1722 => ?_
    refine wl_region ?_
    refine st (.int .i64 0) rfl rfl (xr_assign _ rfl rfl) ?_
    refine st (.int .i64 0) rfl rfl (xr_assign _ rfl rfl) ?_
    refine st (.bool true) rfl rfl (xr_assign _ rfl rfl) ?_
    refine wl_end ?_
    (try simp only [ls0, ls1])
    refine hK1722 _ _ ?_
    (try clear hK1722 K1722)
    refine wp_ret ?_
    (try simp only [Exit.inBlock, Exit.then, Exit.noGoto])
    (try simp only [ls0, ls1])
    simp only [Option.some.injEq, Prod.mk.injEq] at H
    obtain ⟨rfl, rfl, rfl⟩ := H
    refine bodyPost_ret (results_tmp3 rfl _ _ _) rfl ?_
    exact ⟨_, rfl, HS1440⟩

/-! ### sync_Once_Do -/
theorem once_disable (w : World) : (callFunc 97 #[]).run Tryd.prog w = .ok (.value (.tuple #[])) w := run_call_mark0 Tryd.func97 (by kernel_rfl) (by kernel_rfl) (by kernel_rfl) .disable (by kernel_rfl) w
theorem once_enable (w : World) : (callFunc 99 #[]).run Tryd.prog w = .ok (.value (.tuple #[])) w := run_call_mark0 Tryd.func99 (by kernel_rfl) (by kernel_rfl) (by kernel_rfl) .enable (by kernel_rfl) w
theorem once_acquire (a : Addr) (w : World) : (callFunc 100 #[.pointer (some a)]).run Tryd.prog w = .ok (.value (.tuple #[])) w := run_call_marked Tryd.func100 (by kernel_rfl) (by kernel_rfl) (by kernel_rfl) .acquire (by kernel_rfl) a w
theorem once_release (a : Addr) (w : World) : (callFunc 102 #[.pointer (some a)]).run Tryd.prog w = .ok (.value (.tuple #[])) w := run_call_marked Tryd.func102 (by kernel_rfl) (by kernel_rfl) (by kernel_rfl) .releaseMerge (by kernel_rfl) a w
set_option maxRecDepth 100000 in
set_option maxHeartbeats 1600000 in
theorem once_store (a : Addr) (x : Value) (u : FrameMode) (w : World) (hc : w.cell? a = some x) (hz : w.frozen? a = false) :
    CallsD Tryd.prog 91 #[.pointer (some a), .bool true] u w fun e u' w' => u' = u ∧ (e = .returned (.tuple #[]) ∧ w' = w.drew.setCell a (.int .u32 1)) := by
  have hc' : w.drew.cell? a = some x := by go_simp
  have hz' : w.drew.frozen? a = false := by go_simp
  have hst := run_call_store (P := Tryd.prog) Tryd.func95 (by kernel_rfl) (by kernel_rfl) (by kernel_rfl) (by kernel_rfl) (k := .u32) (y := 1) hc' hz'
  go_enter_d Tryd.func91, Tryd.ntmps91
  go_wp2
  go_region_calls
  all_goals (go_end0; exact ⟨rfl, rfl⟩)
set_option maxRecDepth 100000 in
set_option maxHeartbeats 1600000 in
theorem once_unlock (a : Addr) (u : FrameMode) (w : World) (hc : w.cell? a = some (.int .i32 1)) (hz : w.frozen? a = false) :
    CallsD Tryd.prog 90 #[.pointer (some a)] u w fun e u' w' => u' = u ∧ (e = .returned (.tuple #[]) ∧ w' = w.setCell a (.int .i32 0)) := by
  have hd := once_disable
  have he := once_enable
  have hr := once_release
  have hadd := run_call_add (P := Tryd.prog) Tryd.func103 (by kernel_rfl) (by kernel_rfl) (by kernel_rfl) .i32 (by kernel_rfl) (y := -1) (s := 0) hc hz (by simp [go_sem]; rfl)
  have hcv := run_convert_to_unsafe (P := Tryd.prog) (src := 138) (dst := 142) Tryd.underlying138 Tryd.underlying142 (by kernel_rfl) hc
  go_enter_d Tryd.func90, Tryd.ntmps90
  go_wp2
  go_end0
  go_wp2
  go_end0
  exact ⟨rfl, rfl⟩
set_option maxRecDepth 100000 in
set_option maxHeartbeats 1600000 in
theorem once_lock (a : Addr) (w : World) (hc : w.cell? a = some (.int .i32 0)) (hz : w.frozen? a = false) :
    Calls Tryd.prog 89 #[.pointer (some a)] w fun e w' => e = .returned (.tuple #[]) ∧ w' = w.setCell a (.int .i32 1) := by
  have hd := once_disable
  have he := once_enable
  have ha := once_acquire
  have hcas := run_call_cas_hit (P := Tryd.prog) Tryd.func98 (by kernel_rfl) (by kernel_rfl) (by kernel_rfl) .i32 (by kernel_rfl) (y := 1) hc hz
  have hc' : (w.setCell a (.int .i32 1)).cell? a = some (.int .i32 1) := World.cell?_setCell_same w a _ hc
  have hcv := run_convert_to_unsafe (P := Tryd.prog) (src := 138) (dst := 142) Tryd.underlying138 Tryd.underlying142 (by kernel_rfl) hc'
  go_enter Tryd.func89, Tryd.ntmps89
  go_wp2
  first | go_end0 | (simp only [Exit.inBlock, Exit.then]; refine bodyPost_ret (results_none rfl _ _ _) rfl ?_) | refine bodyPost_ret (results_none rfl _ _ _) rfl ?_
  go_wp2
  go_end0
  exact ⟨rfl, rfl⟩
set_option maxRecDepth 100000 in
theorem once_load (a : Addr) (d : Int) (w : World) (h0 : w.cell? a = some (.int .u32 d)) : Calls Tryd.prog 76 #[.pointer (some a)] w fun e w' => e = .returned (.bool (d != 0)) ∧ w' = w := by
  have hl := run_call_load (P := Tryd.prog) Tryd.func88 (by kernel_rfl) (by kernel_rfl) (by kernel_rfl) .u32 (by kernel_rfl) h0
  go_enter Tryd.func76, Tryd.ntmps76
  go_wp2
  go_ret
  exact ⟨rfl, rfl⟩
def OnceEnd (g : Nat) (K : Value → World → Prop) (w : World) : Prop :=
  w.cell? ⟨g, 1, none⟩ = some (.int .u32 0) ∧ w.frozen? ⟨g, 1, none⟩ = false ∧ w.cell? ⟨g, 2, none⟩ = some (.int .i32 1) ∧ w.frozen? ⟨g, 2, none⟩ = false ∧ K (.tuple #[]) ((w.drew.setCell ⟨g, 1, none⟩ (.int .u32 1)).setCell ⟨g, 2, none⟩ (.int .i32 0))
set_option maxRecDepth 100000 in
set_option maxHeartbeats 1600000 in
theorem once_slow {g : Nat} {w : World} {K : Value → World → Prop} (h1 : w.cell? ⟨g, 1, none⟩ = some (.int .u32 0)) (h2 : w.cell? ⟨g, 2, none⟩ = some (.int .i32 0)) (f2 : w.frozen? ⟨g, 2, none⟩ = false)
    (HC : Calls Tryd.prog 57 #[.pointer (some ⟨g, 0, none⟩)] (w.setCell ⟨g, 2, none⟩ (.int .i32 1)) fun e w' => ∃ v, e = .returned v ∧ OnceEnd g K w') :
    Calls Tryd.prog 77 #[.pointer (some ⟨g, 1, none⟩), .func (.func 57) #[.pointer (some ⟨g, 0, none⟩)] #[]] w fun e w' => e = .returned (.tuple #[]) ∧ K (.tuple #[]) w' := by
  have HL := Aside0.mk ((World.cell?_setCell_other w ⟨g, 2, none⟩ ⟨g, 1, none⟩ (.int .i32 1) (by simp)).trans h1)
  have hnot : ∀ (x : Bool) (w : World), (Op.unary .not (.bool x)).run Tryd.prog w = .ok (.bool (!x)) w := fun _ _ => rfl
  have HF := Aside0.mk HC
  clear HC
  go_enter_defers Tryd.func77, Tryd.ntmps77
  go_wp2_with (first | (go_at_call 89; refine (once_lock ⟨g, 2, none⟩ _ (by go_simp) (by go_simp)).mono ?_; rintro e w' ⟨rfl, rfl⟩) | (go_at_call 76; refine (once_load ⟨g, 1, none⟩ 0 _ HL.out).mono ?_; rintro e w' ⟨rfl, rfl⟩) | (go_at_call 57; refine HF.out.mono ?_; rintro e w1 ⟨v, rfl, hE⟩))
  obtain ⟨e1, z1, e2, z2, hk⟩ := hE
  refine leaves_cons (f := 91) (args := #[.pointer (some ⟨g, 1, none⟩), .bool true]) (by simp) (by simp [go_sem]) ?_
  refine (once_store ⟨g, 1, none⟩ (.int .u32 0) .returning _ e1 z1).mono ?_
  rintro e u' w'' ⟨rfl, rfl, rfl⟩
  refine leaves_cons (f := 90) (args := #[.pointer (some ⟨g, 2, none⟩)]) (by simp [settle]) (by simp [go_sem]) ?_
  refine (once_unlock ⟨g, 2, none⟩ _ _ ?_ ?_).mono ?_
  · refine (World.cell?_setCell_other _ ⟨g, 1, none⟩ ⟨g, 2, none⟩ _ (by simp)).trans ?_
    rw [World.cell?_drew]
    exact e2
  · simp [z2]
  rintro e u' w'' ⟨rfl, rfl, rfl⟩
  simpa [Leaves, settle, results, Tryd.results77] using hk
set_option maxRecDepth 100000 in
set_option maxHeartbeats 1600000 in
theorem once_first {g : Nat} {w : World} {K : Value → World → Prop} (h1 : w.cell? ⟨g, 1, none⟩ = some (.int .u32 0)) (h2 : w.cell? ⟨g, 2, none⟩ = some (.int .i32 0)) (f2 : w.frozen? ⟨g, 2, none⟩ = false)
    (HC : Calls Tryd.prog 57 #[.pointer (some ⟨g, 0, none⟩)] (w.setCell ⟨g, 2, none⟩ (.int .i32 1)) fun e w' => ∃ v, e = .returned v ∧ OnceEnd g K w') :
    Calls Tryd.prog 56 #[.pointer (some ⟨g, 1, none⟩), .func (.func 57) #[.pointer (some ⟨g, 0, none⟩)] #[]] w fun e w' => ∃ v, e = .returned v ∧ K v w' := by
  have hnot : ∀ (x : Bool) (w : World), (Op.unary .not (.bool x)).run Tryd.prog w = .ok (.bool (!x)) w := fun _ _ => rfl
  have H1 := Aside0.mk h1
  have HS := Aside0.mk (once_slow h1 h2 f2 HC)
  clear h1 h2 f2 HC
  go_enter Tryd.func56, Tryd.ntmps56
  go_wp2_with (first | (go_at_call 76; refine (once_load ⟨g, 1, none⟩ 0 _ H1.out).mono ?_; rintro e w' ⟨rfl, rfl⟩) | (go_at_call 77; refine HS.out.mono ?_; rintro e w' ⟨rfl, hk⟩))
  go_end0
  exact ⟨_, rfl, hk⟩
set_option maxRecDepth 100000 in
theorem once_done (a : Addr) (fv : Value) (d : Int) (hd : d = 1) (w : World) (h0 : w.cell? a = some (.int .u32 d)) :
    Calls Tryd.prog 56 #[.pointer (some a), fv] w fun e w' => e = .returned (.tuple #[]) ∧ w = w' := by
  subst hd
  have hnot : ∀ (x : Bool) (w : World), (Op.unary .not (.bool x)).run Tryd.prog w = .ok (.bool (!x)) w := fun _ _ => rfl
  have H0 := Aside0.mk h0
  clear h0
  go_enter Tryd.func56, Tryd.ntmps56
  go_wp2_with (go_at_call 76; refine (once_load a 1 _ H0.out).mono ?_; rintro e w' ⟨rfl, rfl⟩)
  go_end0
  exact ⟨rfl, rfl⟩
/-- Do, the first time: between the lock and its end the function. -/
theorem once_go {C : Nat → Nat} {z g tb : Nat} {w : World} {K : Value → World → Prop} {v0 : Value} {rest : List Value} (HB : Bx C z w g tb (v0 :: .int .u32 0 :: .int .i32 0 :: rest))
    (h : ∀ w1, Bx C z w1 g tb (v0 :: .int .u32 0 :: .int .i32 1 :: rest) → Step C w C w1 [z] → Calls Tryd.prog 57 #[.pointer (some ⟨g, 0, none⟩)] w1 fun e w' => ∃ v, e = .returned v ∧ OnceEnd g K w') :
    Calls Tryd.prog 56 #[.pointer (some ⟨g, 1, none⟩), .func (.func 57) #[.pointer (some ⟨g, 0, none⟩)] #[]] w fun e w' => ∃ v, e = .returned v ∧ K v w' := by
  obtain ⟨hb, hs⟩ := bx_set (pre := [v0, .int .u32 0]) (v := .int .i32 1) HB rfl rfl rfl
  exact once_first (bx_cell HB.2 1 rfl) (bx_cell HB.2 2 rfl) (bx_frozen HB.2 2) (h _ hb hs)
theorem once_end {C : Nat → Nat} {z g tb : Nat} {w : World} {K : Value → World → Prop} {v0 : Value} {rest : List Value} (HB : Bx C z w g tb (v0 :: .int .u32 0 :: .int .i32 1 :: rest))
    (h : ∀ w1, Bx C z w1 g tb (v0 :: .int .u32 1 :: .int .i32 0 :: rest) → Step C w C w1 [z] → K (.tuple #[]) w1) : OnceEnd g K w := by
  obtain ⟨hb1, hs1⟩ := bx_set (pre := [v0]) (v := .int .u32 1) HB.drew rfl rfl rfl
  obtain ⟨hb2, hs2⟩ := bx_set (pre := [v0, .int .u32 1]) (v := .int .i32 0) hb1 rfl rfl rfl
  refine ⟨bx_cell HB.2 1 rfl, bx_frozen HB.2 1, bx_cell HB.2 2 rfl, bx_frozen HB.2 2, h _ hb2 ⟨hs2.os.trans hs1.os, hs2.tape.trans hs1.tape, hs2.output.trans hs1.output, Nat.le_trans hs1.size hs2.size, fun _ _ => rfl, fun k hk hn => ?_⟩⟩
  exact (hs2.keep k (Nat.lt_of_lt_of_le hk hs1.size) hn).trans (hs1.keep k hk hn)

/-! ### lattice_New: function 17 -/
def lattice_New.f (k : Nat) (x0 : Option S81) : Option ((Option S107) × Int × Int × Int) := (order_Order_Len.f x0).bind fun t67 => (if t67 = 0 then (some ((none : Option S107), 0, 0, 1)) else ((lattice_Lattice_fill.f k x0 0 1 0 (zer 4096 (0 : Int)) (zer 4096 (0 : Int)) 0).bind fun bt85 => ((lattice_Lattice_whole.f k (some (⟨x0, (⟨(⟨1⟩ : S92), (⟨(⟨0, 0⟩ : S94)⟩ : S96)⟩ : S98), bt85.1, bt85.2, (⟨0⟩ : S105)⟩ : S107) : Option S107)).bind fun bt101 => (if bt101.2.2 = true then ((lattice_Lattice_spreads.f k (some (⟨x0, (⟨(⟨1⟩ : S92), (⟨(⟨0, 0⟩ : S94)⟩ : S96)⟩ : S98), bt85.1, bt85.2, (⟨0⟩ : S105)⟩ : S107) : Option S107)).bind fun bt114 => (if bt114.2.2 = true then (some ((some (⟨x0, (⟨(⟨1⟩ : S92), (⟨(⟨0, 0⟩ : S94)⟩ : S96)⟩ : S98), bt85.1, bt85.2, (⟨0⟩ : S105)⟩ : S107) : Option S107), 0, 0, 0)) else (some ((none : Option S107), bt114.1, bt114.2.1, 17)))) else (some ((none : Option S107), bt101.1, bt101.2.1, 17))))))

set_option maxHeartbeats 2000000 in
set_option maxRecDepth 100000 in
theorem lattice_New.calls (k : Nat) (v0 : Value) (x0 : Option S81) (r1 : Option S107) (r2 : Int) (r3 : Int) (r4 : Int) (c : Nat → Nat) (w : World) (hc : ∀ k, c k < 10) (HG : Ft c [0] w GTab) (HP0 : Ft c [0] w (fun w_ => (Kd.ptr 81 k81).K w_ x0 [v0])) (H : lattice_New.f k x0 = some (r1, r2, r3, r4)) :
    Calls Tryd.prog 17 #[v0] w fun e w' => ∃ (c' : Nat → Nat) (v_r1 : Value), e = .returned (.tuple #[v_r1, .int .i64 r2, .int .i64 r3, .int .i64 r4]) ∧ Step c w c' w' [] ∧ OwnPt c' 5 w' 107 k107 v_r1 r1 := by
 unfold lattice_New.f at H
 have HS := Step.refl c w []
 go_enter Tryd.func17, Tryd.ntmps17
 refine wp_seq_k fun K64 hK64 => ?_
 refine wl_region ?_
 refine st (.pointer none) rfl rfl (xr_assign _ rfl rfl) ?_
 refine st (.int .i64 0) rfl rfl (xr_assign _ rfl rfl) ?_
 refine st (.int .i64 0) rfl rfl (xr_assign _ rfl rfl) ?_
 refine st (.int .i64 0) rfl rfl (xr_assign _ rfl rfl) ?_
 simp only [ls0, ls1]
 refine wl_end ?_
 (try simp only [ls0, ls1])
 refine hK64 _ _ ?_
 (try clear hK64 K64)
 refine wp_seq_k fun K65 hK65 => ?_
 refine wp_seq_k fun K66 hK66 => ?_
 refine wl_region ?_
 refine mv_ rfl ?_
 obtain ⟨t67, A68, H⟩ := bnd H
 refine st_call #[v0] rfl rfl Tryd.func21 (by kernel_rfl) rfl rfl (mp_ rfl) ?_
 refine (order_Order_Len.calls v0 x0 t67  (fun z_ => pal [(0, 0)] (c z_)) w (fun _ => pal_lt rfl _) (Ft.arg HP0 rfl) A68).mono ?_
 rintro _ w70 ⟨C71, rfl, hs72⟩
 refine ⟨_, rfl, ?_⟩
 replace hs72 := Step.lift (U := [(0, 0)]) hs72 [] rfl rfl
 generalize up c C71 w.heap.size [(0, 0)] = C71_ at hs72
 replace HG := HG.thru hs72 rfl
 replace HP0 := HP0.thru hs72 rfl
 replace HS := HS.trans hs72 hc rfl
 (try simp only [ls0, ls1])
 refine st (.bool (decide (t67 = 0))) rfl rfl (xr_bin _ _ _ rfl rfl rfl (B.eql_i64 _ _)) ?_
 refine wl_end ?_
 (try simp only [ls0, ls1])
 refine hK66 _ _ ?_
 (try clear hK66 K66)
 by_cases c73 : t67 = 0
 ·rw [if_pos c73] at H
  (try rw [(decide_eq_true c73)])
  refine wp_cond_true rfl ?_
  refine wp_seq_k fun K74 hK74 => ?_
  refine wl_region ?_
  refine st (.pointer none) rfl rfl (xr_assign _ rfl rfl) ?_
  refine st (.int .i64 0) rfl rfl (xr_assign _ rfl rfl) ?_
  refine st (.int .i64 0) rfl rfl (xr_assign _ rfl rfl) ?_
  refine st (.int .i64 1) rfl rfl (xr_assign _ rfl rfl) ?_
  simp only [ls0, ls1]
  refine wl_end ?_
  (try simp only [ls0, ls1])
  refine hK74 _ _ ?_
  (try clear hK74 K74)
  refine wp_ret ?_
  (try simp only [Exit.inBlock, Exit.then, Exit.noGoto])
  (try simp only [ls0, ls1])
  simp only [Option.some.injEq, Prod.mk.injEq] at H
  obtain ⟨rfl, rfl, rfl, rfl⟩ := H
  refine bodyPost_ret (by simp [results, Tryd.results17]; rfl) rfl ?_
  exact ⟨_, (.pointer none), rfl, HS, (OwnPt.nil _ _ _ _ _)⟩
 rw [if_neg c73] at H
 (try rw [(decide_eq_false c73)])
 refine wp_cond_false rfl ?_
 refine wp_skip ?_
 (try simp only [ls0, ls1])
 refine hK65 _ _ ?_
 (try clear hK65 K65)
 refine wp_seq_k fun K75 hK75 => ?_
 refine wl_region ?_
 refine mv_ rfl ?_
 refine st (.agg (List.toArray ([v0, .int .u32 0, .int .i32 0, .int .u32 0] ++ (List.map (Value.int .i8) (zer 4096 (0 : Int)) ++ (List.map (Value.int .i8) (zer 4096 (0 : Int)) ++ ([.int .i64 0])))))) rfl rfl (xr_build1 (u := .pointer none) (v := v0) (pre := []) (post := [.int .u32 0, .int .i32 0, .int .u32 0] ++ (List.map (Value.int .i8) (zer 4096 (0 : Int)) ++ (List.map (Value.int .i8) (zer 4096 (0 : Int)) ++ ([.int .i64 0])))) (places := #[(0, 1), (1, 3), (4, 4096), (4100, 4096), (8196, 1)]) rfl rfl Tryd.underlying107 (by kernel_rfl) (fun _ => by kernel_rfl) rfl rfl (one_cells ((Kd.ptr 81 k81).K_one (Ft.now HP0) _ (List.mem_singleton.2 rfl))) (by first | (simp only [List.append_assoc, List.cons_append, List.nil_append, List.append_nil]; done) | rfl)) ?_
 refine bx_new (C := C71_) 107 ([v0, .int .u32 0, .int .i32 0, .int .u32 0] ++ (List.map (Value.int .i8) (zer 4096 (0 : Int)) ++ (List.map (Value.int .i8) (zer 4096 (0 : Int)) ++ ([.int .i64 0])))) 11 rfl rfl (xr_box rfl rfl) ?_
 intro g76 w77 C78 HX79 hs80
 replace HG := HG.thru hs80 rfl
 replace HP0 := HP0.thru hs80 rfl
 replace HS := HS.trans hs80 hc rfl
 (try simp only [ls0, ls1])
 refine as_ rfl ?_
 refine wl_end ?_
 (try simp only [ls0, ls1])
 refine hK75 _ _ ?_
 (try clear hK75 K75)
 refine wp_seq_k fun K81 hK81 => ?_
 refine wl_region ?_
 refine mv_ rfl ?_
 refine st (.pointer (some ⟨g76, 0, none⟩)) rfl rfl (xr_nilCheck _ rfl rfl) ?_
 refine st (.pointer (some ⟨g76, 1, none⟩)) rfl rfl (xr_fieldAddr _ _ rfl rfl (bx_field2 Tryd.underlying107 rfl rfl (by kernel_rfl))) ?_
 refine mv_ rfl ?_
 simp only [ls0, ls1]
 refine st (.func (.func 57) #[.pointer (some ⟨g76, 0, none⟩)] #[]) rfl rfl (xr_makeFunc #[.pointer (some ⟨g76, 0, none⟩)] #[] rfl (mp_ rfl) (mp_ rfl)) ?_
 refine st_call #[.pointer (some ⟨g76, 1, none⟩), .func (.func 57) #[.pointer (some ⟨g76, 0, none⟩)] #[]] rfl rfl Tryd.func56 (by kernel_rfl) rfl rfl (mp_ rfl) ?_
 refine once_go (C := C78) HX79 ?_
 intro w82 HX83 hs84
 replace HX83 : Bx C78 11 w82 g76 107 ([v0, .int .u32 0, .int .i32 1, .int .u32 0] ++ (List.map (Value.int .i8) (zer 4096 (0 : Int)) ++ (List.map (Value.int .i8) (zer 4096 (0 : Int)) ++ ([.int .i64 0])))) := HX83
 replace HG := HG.thru hs84 rfl
 replace HP0 := HP0.thru hs84 rfl
 replace HS := HS.trans hs84 hc rfl
 obtain ⟨⟨t85, t86⟩, A87, H⟩ := bnd H
 (try dsimp only at H)
 refine (lattice_Lattice_fill.calls k g76 v0 x0 0 1 0 (zer 4096 (0 : Int)) (zer 4096 (0 : Int)) 0 t85 t86  (fun z_ => pal [(0, 0), (11, 1)] (C78 z_)) w82 (fun _ => pal_lt rfl _) (Ft.arg HG rfl) (Bx.arg HX83 rfl) (Ft.arg HP0 rfl) zer_length zer_length A87).mono ?_
 rintro _ w89 ⟨C90, rfl, hs91, HL92, HL93, HX94⟩
 refine ⟨_, rfl, ?_⟩
 replace HX94 := Bx.res (U := [(0, 0), (1, 11)]) (j := 11) HX94 hs91 (by rfl) (by decide) rfl
 replace hs91 := Step.lift (U := [(0, 0), (1, 11)]) hs91 [11] rfl rfl
 generalize up C78 C90 w82.heap.size [(0, 0), (1, 11)] = C90_ at HX94 hs91
 replace HG := HG.thru hs91 rfl
 replace HP0 := HP0.thru hs91 rfl
 replace HS := HS.trans hs91 hc rfl
 (try simp only [ls0, ls1])
 refine once_end (C := C90_) HX94 ?_
 intro w95 HX96 hs97
 replace HX96 : Bx C90_ 11 w95 g76 107 ([v0, .int .u32 1, .int .i32 0, .int .u32 0] ++ (List.map (Value.int .i8) t85 ++ (List.map (Value.int .i8) t86 ++ ([.int .i64 0])))) := HX96
 replace HG := HG.thru hs97 rfl
 replace HP0 := HP0.thru hs97 rfl
 replace HS := HS.trans hs97 hc rfl
 (try simp only [ls0, ls1])
 refine wl_end ?_
 (try simp only [ls0, ls1])
 refine hK81 _ _ ?_
 (try clear hK81 K81)
 refine wp_seq_k fun K98 hK98 => ?_
 refine wp_seq_k fun K99 hK99 => ?_
 refine wl_region ?_
 refine mv_ rfl ?_
 have HP100 : Ft C90_ [0, 11] w95 (fun w_ => (Kd.ptr 107 k107).K w_ (some (⟨x0, (⟨(⟨1⟩ : S92), (⟨(⟨0, 0⟩ : S94)⟩ : S96)⟩ : S98), t85, t86, (⟨0⟩ : S105)⟩ : S107)) [.pointer (some ⟨g76, 0, none⟩)]) := ptr_mk (Ft.more (HX96.ft) rfl) (k107_mkF _ _ (⟨x0, (⟨(⟨1⟩ : S92), (⟨(⟨0, 0⟩ : S94)⟩ : S96)⟩ : S98), t85, t86, (⟨0⟩ : S105)⟩ : S107) (Ft.more HP0 rfl) HL92 HL93)
 obtain ⟨⟨t101, t102, t103⟩, A104, H⟩ := bnd H
 (try dsimp only at H)
 refine st_call #[.pointer (some ⟨g76, 0, none⟩)] rfl rfl Tryd.func58 (by kernel_rfl) rfl rfl (mp_ rfl) ?_
 refine (lattice_Lattice_whole.calls k (.pointer (some ⟨g76, 0, none⟩)) (some (⟨x0, (⟨(⟨1⟩ : S92), (⟨(⟨0, 0⟩ : S94)⟩ : S96)⟩ : S98), t85, t86, (⟨0⟩ : S105)⟩ : S107) : Option S107) t101 t102 t103  (fun z_ => pal [(0, 0), (11, 0)] (C90_ z_)) w95 (fun _ => pal_lt rfl _) (Ft.arg HP100 rfl) A104).mono ?_
 rintro _ w106 ⟨C107, rfl, hs108⟩
 refine ⟨_, rfl, ?_⟩
 replace hs108 := Step.lift (U := [(0, 0)]) hs108 [] rfl rfl
 generalize up C90_ C107 w95.heap.size [(0, 0)] = C107_ at hs108
 replace HG := HG.thru hs108 rfl
 replace HP0 := HP0.thru hs108 rfl
 replace HX96 := HX96.thru hs108 rfl
 replace HS := HS.trans hs108 hc rfl
 (try simp only [ls0, ls1])
 refine mv_ rfl ?_
 refine st (.int .i64 t101) rfl rfl (xr_extract (.tuple #[.int .i64 t101, .int .i64 t102, .bool t103]) _ rfl rfl rfl) ?_
 refine st (.int .i64 t102) rfl rfl (xr_extract (.tuple #[.int .i64 t101, .int .i64 t102, .bool t103]) _ rfl rfl rfl) ?_
 refine st (.bool t103) rfl rfl (xr_extract (.tuple #[.int .i64 t101, .int .i64 t102, .bool t103]) _ rfl rfl rfl) ?_
 simp only [ls0, ls1]
 refine as_ rfl ?_
 refine as_ rfl ?_
 refine as_ rfl ?_
 refine wl_end ?_
 (try simp only [ls0, ls1])
 refine hK99 _ _ ?_
 (try clear hK99 K99)
 refine wp_seq_k fun K109 hK109 => ?_
 refine wl_region ?_
 refine mv_ rfl ?_
 refine st (.bool (!t103)) rfl rfl (xr_un (.bool t103) _ rfl rfl (by first | rfl | (go_simp; done) | (go_simp; rfl) | (go_simp; exact i64_w _) | (go_simp; exact i32_w _))) ?_
 refine wl_end ?_
 (try simp only [ls0, ls1])
 refine hK109 _ _ ?_
 (try clear hK109 K109)
 by_cases c110 : t103 = true
 ·rw [if_pos c110] at H
  (try rw [c110])
  (try simp only [Bool.not_true, Bool.not_false])
  refine wp_cond_false rfl ?_
  refine wp_skip ?_
  (try simp only [ls0, ls1])
  refine hK98 _ _ ?_
  (try clear hK98 K98)
  refine wp_seq_k fun K111 hK111 => ?_
  refine wp_seq_k fun K112 hK112 => ?_
  refine wl_region ?_
  refine mv_ rfl ?_
  have HP113 : Ft C107_ [0, 11] w106 (fun w_ => (Kd.ptr 107 k107).K w_ (some (⟨x0, (⟨(⟨1⟩ : S92), (⟨(⟨0, 0⟩ : S94)⟩ : S96)⟩ : S98), t85, t86, (⟨0⟩ : S105)⟩ : S107)) [.pointer (some ⟨g76, 0, none⟩)]) := ptr_mk (Ft.more (HX96.ft) rfl) (k107_mkF _ _ (⟨x0, (⟨(⟨1⟩ : S92), (⟨(⟨0, 0⟩ : S94)⟩ : S96)⟩ : S98), t85, t86, (⟨0⟩ : S105)⟩ : S107) (Ft.more HP0 rfl) HL92 HL93)
  obtain ⟨⟨t114, t115, t116⟩, A117, H⟩ := bnd H
  (try dsimp only at H)
  refine st_call #[.pointer (some ⟨g76, 0, none⟩)] rfl rfl Tryd.func59 (by kernel_rfl) rfl rfl (mp_ rfl) ?_
  refine (lattice_Lattice_spreads.calls k (.pointer (some ⟨g76, 0, none⟩)) (some (⟨x0, (⟨(⟨1⟩ : S92), (⟨(⟨0, 0⟩ : S94)⟩ : S96)⟩ : S98), t85, t86, (⟨0⟩ : S105)⟩ : S107) : Option S107) t114 t115 t116  (fun z_ => pal [(0, 0), (11, 0)] (C107_ z_)) w106 (fun _ => pal_lt rfl _) (Ft.arg HP113 rfl) A117).mono ?_
  rintro _ w119 ⟨C120, rfl, hs121⟩
  refine ⟨_, rfl, ?_⟩
  replace hs121 := Step.lift (U := [(0, 0)]) hs121 [] rfl rfl
  generalize up C107_ C120 w106.heap.size [(0, 0)] = C120_ at hs121
  replace HG := HG.thru hs121 rfl
  replace HP0 := HP0.thru hs121 rfl
  replace HX96 := HX96.thru hs121 rfl
  replace HS := HS.trans hs121 hc rfl
  (try simp only [ls0, ls1])
  refine mv_ rfl ?_
  refine st (.int .i64 t114) rfl rfl (xr_extract (.tuple #[.int .i64 t114, .int .i64 t115, .bool t116]) _ rfl rfl rfl) ?_
  refine st (.int .i64 t115) rfl rfl (xr_extract (.tuple #[.int .i64 t114, .int .i64 t115, .bool t116]) _ rfl rfl rfl) ?_
  refine st (.bool t116) rfl rfl (xr_extract (.tuple #[.int .i64 t114, .int .i64 t115, .bool t116]) _ rfl rfl rfl) ?_
  simp only [ls0, ls1]
  refine as_ rfl ?_
  refine as_ rfl ?_
  refine as_ rfl ?_
  refine wl_end ?_
  (try simp only [ls0, ls1])
  refine hK112 _ _ ?_
  (try clear hK112 K112)
  refine wp_seq_k fun K122 hK122 => ?_
  refine wl_region ?_
  refine mv_ rfl ?_
  refine st (.bool (!t116)) rfl rfl (xr_un (.bool t116) _ rfl rfl (by first | rfl | (go_simp; done) | (go_simp; rfl) | (go_simp; exact i64_w _) | (go_simp; exact i32_w _))) ?_
  refine wl_end ?_
  (try simp only [ls0, ls1])
  refine hK122 _ _ ?_
  (try clear hK122 K122)
  by_cases c123 : t116 = true
  ·rw [if_pos c123] at H
   (try rw [c123])
   (try simp only [Bool.not_true, Bool.not_false])
   refine wp_cond_false rfl ?_
   refine wp_skip ?_
   (try simp only [ls0, ls1])
   refine hK111 _ _ ?_
   (try clear hK111 K111)
   refine wp_seq_k fun K124 hK124 => ?_
   refine wl_region ?_
   refine mv_ rfl ?_
   refine as_ rfl ?_
   refine st (.int .i64 0) rfl rfl (xr_assign _ rfl rfl) ?_
   refine st (.int .i64 0) rfl rfl (xr_assign _ rfl rfl) ?_
   simp only [ls0, ls1]
   refine st (.int .i64 0) rfl rfl (xr_assign _ rfl rfl) ?_
   refine wl_end ?_
   (try simp only [ls0, ls1])
   refine hK124 _ _ ?_
   (try clear hK124 K124)
   refine wp_ret ?_
   (try simp only [Exit.inBlock, Exit.then, Exit.noGoto])
   (try simp only [ls0, ls1])
   have HP125 : OwnPt C120_ 11 w119 107 k107 (.pointer (some ⟨g76, 0, none⟩)) (some (⟨x0, (⟨(⟨1⟩ : S92), (⟨(⟨0, 0⟩ : S94)⟩ : S96)⟩ : S98), t85, t86, (⟨0⟩ : S105)⟩ : S107)) := OwnPt.mk HX96 (k107_mkF _ _ (⟨x0, (⟨(⟨1⟩ : S92), (⟨(⟨0, 0⟩ : S94)⟩ : S96)⟩ : S98), t85, t86, (⟨0⟩ : S105)⟩ : S107) (Ft.more HP0 rfl) HL92 HL93)
   replace HG := Ft.recol (a := 11) (b := 5) HG (.inl rfl)
   replace HP0 := Ft.recol (a := 11) (b := 5) HP0 (.inl rfl)
   replace HP125 := OwnPt.recolor (b := 5) HP125 (by decide)
   replace HS := Step.recol (a := 11) (b := 5) HS hc (by decide)
   simp only [Option.some.injEq, Prod.mk.injEq] at H
   obtain ⟨rfl, rfl, rfl, rfl⟩ := H
   refine bodyPost_ret (by simp [results, Tryd.results17]; rfl) rfl ?_
   exact ⟨_, (.pointer (some ⟨g76, 0, none⟩)), rfl, HS, HP125⟩
  rw [if_neg c123] at H
  (try rw [(Bool.eq_false_iff.mpr c123)])
  (try simp only [Bool.not_true, Bool.not_false])
  refine wp_cond_true rfl ?_
  refine wp_seq_k fun K126 hK126 => ?_
  refine wl_region ?_
  refine mv_ rfl ?_
  refine mv_ rfl ?_
  refine st (.pointer none) rfl rfl (xr_assign _ rfl rfl) ?_
  refine as_ rfl ?_
  simp only [ls0, ls1]
  refine as_ rfl ?_
  refine st (.int .i64 17) rfl rfl (xr_assign _ rfl rfl) ?_
  refine wl_end ?_
  (try simp only [ls0, ls1])
  refine hK126 _ _ ?_
  (try clear hK126 K126)
  refine wp_ret ?_
  (try simp only [Exit.inBlock, Exit.then, Exit.noGoto])
  (try simp only [ls0, ls1])
  simp only [Option.some.injEq, Prod.mk.injEq] at H
  obtain ⟨rfl, rfl, rfl, rfl⟩ := H
  refine bodyPost_ret (by simp [results, Tryd.results17]; rfl) rfl ?_
  exact ⟨_, (.pointer none), rfl, HS, (OwnPt.nil _ _ _ _ _)⟩
 rw [if_neg c110] at H
 (try rw [(Bool.eq_false_iff.mpr c110)])
 (try simp only [Bool.not_true, Bool.not_false])
 refine wp_cond_true rfl ?_
 refine wp_seq_k fun K127 hK127 => ?_
 refine wl_region ?_
 refine mv_ rfl ?_
 refine mv_ rfl ?_
 refine st (.pointer none) rfl rfl (xr_assign _ rfl rfl) ?_
 refine as_ rfl ?_
 simp only [ls0, ls1]
 refine as_ rfl ?_
 refine st (.int .i64 17) rfl rfl (xr_assign _ rfl rfl) ?_
 refine wl_end ?_
 (try simp only [ls0, ls1])
 refine hK127 _ _ ?_
 (try clear hK127 K127)
 refine wp_ret ?_
 (try simp only [Exit.inBlock, Exit.then, Exit.noGoto])
 (try simp only [ls0, ls1])
 simp only [Option.some.injEq, Prod.mk.injEq] at H
 obtain ⟨rfl, rfl, rfl, rfl⟩ := H
 refine bodyPost_ret (by simp [results, Tryd.results17]; rfl) rfl ?_
 exact ⟨_, (.pointer none), rfl, HS, (OwnPt.nil _ _ _ _ _)⟩

/-! ### lattice_Lattice_in: function 62 -/
def lattice_Lattice_in.f (x0 : Option S107) (a1 : Int) (a2 : Int) : Option (Bool) := onOpt x0 (some false) (fun o24 => (if o24.f1.f0.f0 = 1 then (if (mn a1 a2) ≥ 0 then ((order_Order_Len.f o24.f0).bind fun t35 => (some (decide ((mx a1 a2) < t35)))) else (some false)) else (none)))
set_option maxHeartbeats 2000000 in
set_option maxRecDepth 100000 in
theorem lattice_Lattice_in.calls (v0 : Value) (x0 : Option S107) (a1 : Int) (a2 : Int) (r : Bool) (c : Nat → Nat) (w : World) (hc : ∀ k, c k < 10) (HP0 : Ft c [0] w (fun w_ => (Kd.ptr 107 k107).K w_ x0 [v0])) (H : lattice_Lattice_in.f x0 a1 a2 = some r) :
    Calls Tryd.prog 62 #[v0, .int .i64 a1, .int .i64 a2] w fun e w' => ∃ (c' : Nat → Nat) , e = .returned (.bool r) ∧ Step c w c' w' [] := by
 unfold lattice_Lattice_in.f at H
 have HS := Step.refl c w []
 go_enter Tryd.func62, Tryd.ntmps62
 refine wp_seq_k fun K21 hK21 => ?_
 refine wl_region ?_
 refine st (.bool false) rfl rfl (xr_assign _ rfl rfl) ?_
 refine wl_end ?_
 (try simp only [ls0, ls1])
 refine hK21 _ _ ?_
 (try clear hK21 K21)
 refine wp_seq_k fun K22 hK22 => ?_
 refine wp_seq_k fun K23 hK23 => ?_
 refine wl_region ?_
 refine mv_ rfl ?_
 cases x0 with
 | none =>
  (try simp only [onOpt] at H)
  obtain rfl := ptr_none HP0
  refine st (.bool true) rfl rfl (xr_bin (.pointer none) (.pointer none) (.bool true) rfl rfl rfl (B.eql_nn ⟨_, Tryd.underlying36⟩ (⟨0, 0, none⟩ : Addr))) ?_
  refine wl_end ?_
  (try simp only [ls0, ls1])
  refine hK23 _ _ ?_
  (try clear hK23 K23)
  refine wp_cond_true rfl ?_
  refine wp_seq_k fun K25 hK25 => ?_
  refine wl_region ?_
  refine st (.bool false) rfl rfl (xr_assign _ rfl rfl) ?_
  refine wl_end ?_
  (try simp only [ls0, ls1])
  refine hK25 _ _ ?_
  (try clear hK25 K25)
  refine wp_ret ?_
  (try simp only [Exit.inBlock, Exit.then, Exit.noGoto])
  (try simp only [ls0, ls1])
  obtain rfl := Option.some.inj H
  refine bodyPost_ret (results_tmp rfl _ _ _) rfl ?_
  exact ⟨_, rfl, HS⟩
 | some o24 =>
  (try simp only [onOpt] at H)
  obtain ⟨g26, cs27, rfl, HX28, HK29⟩ := ptr_some HP0
  obtain ⟨vq30_0, rfl, HRq30_0, HLq30_4, HLq30_5⟩ := k107_openF HK29
  replace HRq30_0 : Ft c [0] w (fun w_ => (Kd.ptr 81 k81).K w_ o24.f0 [vq30_0]) := HRq30_0
  refine st (.bool false) rfl rfl (xr_bin (.pointer (some ⟨g26, 0, none⟩)) (.pointer none) (.bool false) rfl rfl rfl (B.eql_pn ⟨_, Tryd.underlying36⟩ ⟨g26, 0, none⟩)) ?_
  refine wl_end ?_
  (try simp only [ls0, ls1])
  refine hK23 _ _ ?_
  (try clear hK23 K23)
  refine wp_cond_false rfl ?_
  refine wp_skip ?_
  (try simp only [ls0, ls1])
  refine hK22 _ _ ?_
  (try clear hK22 K22)
  refine wp_seq_k fun K31 hK31 => ?_
  refine wl_region ?_
  refine mv_ rfl ?_
  refine st (.pointer (some ⟨g26, 0, none⟩)) rfl rfl (xr_nilCheck _ rfl rfl) ?_
  refine st (.pointer (some ⟨g26, 1, none⟩)) rfl rfl (xr_fieldAddr _ _ rfl rfl (bx_field2 Tryd.underlying107 rfl rfl (by kernel_rfl))) ?_
  refine mv_ rfl ?_
  simp only [ls0, ls1]
  refine st (.func (.func 57) #[.pointer (some ⟨g26, 0, none⟩)] #[]) rfl rfl (xr_makeFunc #[.pointer (some ⟨g26, 0, none⟩)] #[] rfl (mp_ rfl) (mp_ rfl)) ?_
  obtain ⟨c32, H⟩ := if_some H
  refine st_call #[.pointer (some ⟨g26, 1, none⟩), .func (.func 57) #[.pointer (some ⟨g26, 0, none⟩)] #[]] rfl rfl Tryd.func56 (by kernel_rfl) rfl rfl (mp_ rfl) ?_
  refine (once_done _ _ _ (by first | assumption | rfl) _ (bx_cell (l := [vq30_0, .int .u32 o24.f1.f0.f0, .int .i32 o24.f1.f1.f0.f0, .int .u32 o24.f1.f1.f0.f1] ++ (List.map (Value.int .i8) o24.f2 ++ (List.map (Value.int .i8) o24.f3 ++ ([.int .i64 o24.f4.f0])))) (Ft.now HX28) 1 rfl)).mono ?_
  rintro _ _ ⟨rfl, rfl⟩
  refine ⟨_, rfl, ?_⟩
  (try simp only [ls0, ls1])
  refine wl_end ?_
  (try simp only [ls0, ls1])
  refine hK31 _ _ ?_
  (try clear hK31 K31)
  refine wp_seq_k fun K33 hK33 => ?_
  refine wl_region ?_
  refine mv_ rfl ?_
  refine mv_ rfl ?_
  refine st (.int .i64 (mn a1 a2)) rfl rfl (xr_builtin #[.int .i64 a1, .int .i64 a2] (.int .i64 (mn a1 a2)) rfl (mp_ rfl) (by first | rfl | (go_simp; done) | (go_simp; rfl) | (go_simp; exact i64_w _) | (go_simp; exact i32_w _))) ?_
  refine st (.bool (decide ((mn a1 a2) ≥ 0))) rfl rfl (xr_bin _ _ _ rfl rfl rfl (B.geq_i64 _ _)) ?_
  simp only [ls0, ls1]
  refine mv_ rfl ?_
  by_cases c34 : (mn a1 a2) ≥ 0
  ·rw [if_pos c34] at H
   (try rw [(decide_eq_true c34)])
   refine on_guard (guard_on 4 true 19 rfl rfl rfl) ?_
   refine mv_ rfl ?_
   refine on_guard (guard_on 4 true 19 rfl rfl rfl) ?_
   refine mv_ rfl ?_
   refine on_guard (guard_on 4 true 19 rfl rfl rfl) ?_
   refine st (.int .i64 (mx a1 a2)) rfl rfl (xr_builtin #[.int .i64 a1, .int .i64 a2] (.int .i64 (mx a1 a2)) rfl (mp_ rfl) (by first | rfl | (go_simp; done) | (go_simp; rfl) | (go_simp; exact i64_w _) | (go_simp; exact i32_w _))) ?_
   simp only [ls0, ls1]
   refine on_guard (guard_on 4 true 19 rfl rfl rfl) ?_
   refine mv_ rfl ?_
   refine on_guard (guard_on 4 true 19 rfl rfl rfl) ?_
   refine st (.pointer (some ⟨g26, 0, none⟩)) rfl rfl (xr_nilCheck _ rfl rfl) ?_
   refine on_guard (guard_on 4 true 19 rfl rfl rfl) ?_
   refine st (.pointer (some ⟨g26, 0, none⟩)) rfl rfl (xr_fieldAddr _ _ rfl rfl (bx_field2 Tryd.underlying107 rfl rfl (by kernel_rfl))) ?_
   refine on_guard (guard_on 4 true 19 rfl rfl rfl) ?_
   refine st (vq30_0) rfl rfl (xr_load _ _ rfl rfl (load_cell Tryd.underlying26 rfl (bx_cell (Ft.now HX28) 0 rfl))) ?_
   simp only [ls0, ls1]
   refine on_guard (guard_on 4 true 19 rfl rfl rfl) ?_
   obtain ⟨t35, A36, H⟩ := bnd H
   refine st_call #[vq30_0] rfl rfl Tryd.func21 (by kernel_rfl) rfl rfl (mp_ rfl) ?_
   refine (order_Order_Len.calls vq30_0 o24.f0 t35  (fun z_ => pal [(0, 0)] (c z_)) w (fun _ => pal_lt rfl _) (Ft.arg HRq30_0 rfl) A36).mono ?_
   rintro _ w38 ⟨C39, rfl, hs40⟩
   refine ⟨_, rfl, ?_⟩
   replace hs40 := Step.lift (U := [(0, 0)]) hs40 [] rfl rfl
   generalize up c C39 w.heap.size [(0, 0)] = C39_ at hs40
   replace HX28 := HX28.thru hs40 rfl
   replace HRq30_0 := HRq30_0.thru hs40 rfl
   replace HS := HS.trans hs40 hc rfl
   (try simp only [ls0, ls1])
   refine on_guard (guard_on 4 true 19 rfl rfl rfl) ?_
   refine st (.bool (decide ((mx a1 a2) < t35))) rfl rfl (xr_bin _ _ _ rfl rfl rfl (B.lss_i64 _ _)) ?_
   refine st (.bool (decide ((mx a1 a2) < t35))) rfl rfl (xr_pick true _ rfl rfl rfl) ?_
   refine as_ rfl ?_
   refine wl_end ?_
   (try simp only [ls0, ls1])
   refine hK33 _ _ ?_
   (try clear hK33 K33)
   refine wp_ret ?_
   (try simp only [Exit.inBlock, Exit.then, Exit.noGoto])
   (try simp only [ls0, ls1])
   obtain rfl := Option.some.inj H
   refine bodyPost_ret (results_tmp rfl _ _ _) rfl ?_
   exact ⟨_, rfl, HS⟩
  rw [if_neg c34] at H
  (try rw [(decide_eq_false c34)])
  refine sk_guard (guard_off 4 true 19 rfl rfl false (by decide) rfl) rfl ?_
  refine sk_guard (guard_off 4 true 19 rfl rfl false (by decide) rfl) rfl ?_
  refine sk_guard (guard_off 4 true 19 rfl rfl false (by decide) rfl) rfl ?_
  refine sk_guard (guard_off 4 true 19 rfl rfl false (by decide) rfl) rfl ?_
  simp only [ls0, ls1]
  refine sk_guard (guard_off 4 true 19 rfl rfl false (by decide) rfl) rfl ?_
  refine sk_guard (guard_off 4 true 19 rfl rfl false (by decide) rfl) rfl ?_
  refine sk_guard (guard_off 4 true 19 rfl rfl false (by decide) rfl) rfl ?_
  refine sk_guard (guard_off 4 true 19 rfl rfl false (by decide) rfl) rfl ?_
  simp only [ls0, ls1]
  refine sk_guard (guard_off 4 true 19 rfl rfl false (by decide) rfl) rfl ?_
  refine st (.bool false) rfl rfl (xr_pick false _ rfl rfl rfl) ?_
  refine as_ rfl ?_
  refine wl_end ?_
  (try simp only [ls0, ls1])
  refine hK33 _ _ ?_
  (try clear hK33 K33)
  refine wp_ret ?_
  (try simp only [Exit.inBlock, Exit.then, Exit.noGoto])
  (try simp only [ls0, ls1])
  obtain rfl := Option.some.inj H
  refine bodyPost_ret (results_tmp rfl _ _ _) rfl ?_
  exact ⟨_, rfl, HS⟩

/-! ### sync_atomic_Int64_Add -/
theorem atomic_add {C : Nat → Nat} {z g tb o : Nat} {pre post xs : List Value} {w : World} {K : Value → World → Prop} {old y : Int} (HB : Bx C z w g tb xs) (hL : xs = pre ++ (.int .i64 old :: post)) (ho : pre.length = o) {r : Int} (hr : wrap64 (old + y) = r) {xs' : List Value} (hE : pre ++ (.int .i64 r :: post) = xs')
    (h : ∀ w1, Bx C z w1 g tb xs' → Step C w C w1 [z] → K (.int .i64 r) w1) :
    Calls Tryd.prog 63 #[.pointer (some ⟨g, o, none⟩), .int .i64 y] w fun e w' => ∃ v, e = .returned v ∧ K v w' := by
  subst hr
  obtain ⟨hb, hs⟩ := bx_set (v := .int .i64 (wrap64 (old + y))) HB hL ho hE
  have hc : w.cell? ⟨g, o, none⟩ = some (.int .i64 old) := bx_cell HB.2 o (at_get_ hL ho)
  have hk := h _ hb hs
  have hadd := run_call_add (P := Tryd.prog) Tryd.func81 (by kernel_rfl) (by kernel_rfl) (by kernel_rfl) .i64 (by kernel_rfl) (y := y) (s := wrap64 (old + y)) hc (bx_frozen HB.2 o) (by simp [go_sem]; unfold wrap64; exact IntKind.wrap_i64 _)
  clear HB hL hb hs h
  go_enter Tryd.func63, Tryd.ntmps63
  go_wp2
  go_ret
  exact ⟨_, rfl, hk⟩

end Go.Proofs.YtpfepkkpbampkaaDoor.PLnw
