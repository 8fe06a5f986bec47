-- By cprint.py, a program of this work. Lean checks it.
import Derived.Test.YtpfepkkpbampkaaDoorPLnwx0
import Derived.Test.YtpfepkkpbampkaaDoorPLnwx1
namespace Go.Proofs.YtpfepkkpbampkaaDoor.PLnw
open Go.RowKit Go.Proofs.YtpfepkkpbampkaaDoorW.PrintWords Go.Proofs.YtpfepkkpbampkaaDoorW.PrintLast Go.Proofs.YtpfepkkpbampkaaDoorW.PrintMore
set_option linter.unusedVariables false
set_option linter.unusedSimpArgs false

/-! ### order_Order_close: function 51 -/
mutual
def order_Order_close.l0 : Nat → (List Int) → (List ByteArray) → Int → Int → (List Int) → Option ((List Int) × (List Int))
  | 0, _, _, _, _, _ => none
  | k + 1, a0_3, l0_0, x1318, x1385, x1388 => if x1385 < (l0_0.length : Int) then (if 0 ≤ x1385 then (if x1385 < 64 then (if 0 ≤ (IntKind.u64.wrap (x1318)) then (if (Go.bits .and .u64 (shr .u64 (List.getD x1388 ((x1385 : Int).toNat) 0) (IntKind.u64.wrap (x1318))) 1) = 1 then (if 0 ≤ x1318 then (if x1318 < 64 then ((some (List.set x1388 ((x1385 : Int).toNat) (Go.bits .or .u64 (List.getD x1388 ((x1385 : Int).toNat) 0) (List.getD x1388 ((x1318 : Int).toNat) 0)) : List Int)).bind fun y1413 => (order_Order_close.l0 k a0_3 l0_0 x1318 (wrap64 (x1385 + 1)) y1413)) else (none)) else (none)) else (order_Order_close.l0 k a0_3 l0_0 x1318 (wrap64 (x1385 + 1)) x1388)) else (none)) else (none)) else (none)) else (order_Order_close.l3 k a0_3 l0_0 (wrap64 (x1318 + 1)) x1388)
def order_Order_close.l1 : Nat → (List ByteArray) → (List Int) → Int → Int → (List Int) → Option ((List Int) × (List Int))
  | 0, _, _, _, _, _ => none
  | k + 1, l0_0, x1321, x1604, x1672, x1675 => if x1672 < (l0_0.length : Int) then (if 0 ≤ x1672 then (if x1672 < 64 then (if 0 ≤ (IntKind.u64.wrap (x1604)) then (if (Go.bits .and .u64 (shr .u64 (List.getD x1321 ((x1672 : Int).toNat) 0) (IntKind.u64.wrap (x1604))) 1) = 1 then (if 0 ≤ x1604 then (if x1604 < 64 then (if 0 ≤ (IntKind.u64.wrap (x1672)) then ((some (List.set x1675 ((x1604 : Int).toNat) (Go.bits .or .u64 (List.getD x1675 ((x1604 : Int).toNat) 0) (shl .u64 1 (IntKind.u64.wrap (x1672)))) : List Int)).bind fun y1701 => (order_Order_close.l1 k l0_0 x1321 x1604 (wrap64 (x1672 + 1)) y1701)) else (none)) else (none)) else (none)) else (order_Order_close.l1 k l0_0 x1321 x1604 (wrap64 (x1672 + 1)) x1675)) else (none)) else (none)) else (none)) else (order_Order_close.l2 k l0_0 x1321 (wrap64 (x1604 + 1)) x1675)
def order_Order_close.l2 : Nat → (List ByteArray) → (List Int) → Int → (List Int) → Option ((List Int) × (List Int))
  | 0, _, _, _, _ => none
  | k + 1, l0_0, x1321, x1604, x1607 => if x1604 < (l0_0.length : Int) then (order_Order_close.l1 k l0_0 x1321 x1604 0 x1607) else (some (x1321, x1607))
def order_Order_close.l3 : Nat → (List Int) → (List ByteArray) → Int → (List Int) → Option ((List Int) × (List Int))
  | 0, _, _, _, _ => none
  | k + 1, a0_3, l0_0, x1318, x1321 => if x1318 < (l0_0.length : Int) then (order_Order_close.l0 k a0_3 l0_0 x1318 0 x1321) else (order_Order_close.l2 k l0_0 x1321 0 a0_3)
end
def order_Order_close.f (k : Nat) (l0_0 : List ByteArray) (m0_1 : List (ByteArray × Int)) (a0_2 : List Int) (a0_3 : List Int) : Option ((List Int) × (List Int)) := order_Order_close.l3 k a0_3 l0_0 0 a0_2

set_option maxHeartbeats 2000000 in
set_option maxRecDepth 100000 in
theorem order_Order_close.calls (k : Nat) (g0 : Nat) (A0_0 : Option Addr) (c0_0 : Nat) (l0_0 : List ByteArray) (v0_1 : Value) (m0_1 : List (ByteArray × Int)) (a0_2 : List Int) (a0_3 : List Int) (r1 : List Int) (r2 : List Int) (c : Nat → Nat) (w : World) (hc : ∀ k, c k < 10) (HP0 : Bx c 1 w g0 81 ([.slice A0_0 l0_0.length c0_0, v0_1] ++ (List.map (Value.int .u64) a0_2 ++ (List.map (Value.int .u64) a0_3)))) (HP0_0 : Ft c [0] w (fun w_ => Kd.string.C w_ A0_0 l0_0.length l0_0)) (HCP0_0 : l0_0.length ≤ c0_0) (HP0_1 : Ft c [0] w (fun w_ => (Kd.mp Value.string (Value.int .i64)).K w_ m0_1 [v0_1])) (HL0_2 : a0_2.length = 64) (HL0_3 : a0_3.length = 64) (H : order_Order_close.f k l0_0 m0_1 a0_2 a0_3 = some (r1, r2)) :
    Calls Tryd.prog 51 #[.pointer (some ⟨g0, 0, none⟩)] w fun e w' => ∃ (c' : Nat → Nat) , e = .returned (.tuple #[]) ∧ Step c w c' w' [1] ∧ r1.length = 64 ∧ r2.length = 64 ∧ Bx c' 1 w' g0 81 ([.slice A0_0 l0_0.length c0_0, v0_1] ++ (List.map (Value.int .u64) r1 ++ (List.map (Value.int .u64) r2))) := by
 unfold order_Order_close.f at H
 have HS := Step.refl c w [1]
 go_enter Tryd.func51, Tryd.ntmps51
 refine wp_seq_k fun K854 hK854 => ?_
 refine wp_seq_k fun K1137 hK1137 => ?_
 refine wl_region ?_
 refine mv_ rfl ?_
 refine st (.pointer (some ⟨g0, 0, none⟩)) rfl rfl (xr_nilCheck _ rfl rfl) ?_
 refine st (.pointer (some ⟨g0, 0, none⟩)) rfl rfl (xr_fieldAddr _ _ rfl rfl (bx_field2 Tryd.underlying81 rfl rfl (by kernel_rfl))) ?_
 refine st (.slice A0_0 l0_0.length c0_0) rfl rfl (xr_load _ _ rfl rfl (load_cell Tryd.underlying30 rfl (bx_cell (HP0).2 0 rfl))) ?_
 simp only [ls0, ls1]
 refine st (.int .i64 (l0_0.length : Int)) rfl rfl (xr_builtin #[.slice A0_0 l0_0.length c0_0] (.int .i64 (l0_0.length : Int)) rfl (mp_ rfl) (by first | rfl | (go_simp; done) | (go_simp; rfl) | (go_simp; exact i64_w _) | (go_simp; exact i32_w _))) ?_
 refine st (.int .i64 0) rfl rfl (xr_move _ rfl rfl) ?_
 refine wl_end ?_
 (try simp only [ls0, ls1])
 refine hK1137 _ _ ?_
 (try clear hK1137 K1137)
 refine wp_block ?_
 (try simp only [ls0, ls1])
 refine wp_looped (looped_fin (fun kq1326 a_ w1325 => ∃ (C1324 : Nat → Nat) (x1318 : Int) (x1321 : List Int) (g_ : Nat → Value), a_ = ⟨#[.pointer (some ⟨g0, 0, none⟩), (g_ 1), (g_ 2), (g_ 3), (g_ 4), (g_ 5), (g_ 6), (g_ 7), (g_ 8), (g_ 9), .int .i64 (l0_0.length : Int), .int .i64 x1318, (g_ 12), (g_ 13), (g_ 14), (g_ 15), (g_ 16), (g_ 17), (g_ 18), (g_ 19), (g_ 20), (g_ 21), (g_ 22), (g_ 23), (g_ 24), (g_ 25), (g_ 26), (g_ 27), (g_ 28), (g_ 29), (g_ 30), (g_ 31), (g_ 32), (g_ 33), (g_ 34), (g_ 35), (g_ 36), (g_ 37), (g_ 38), (g_ 39), (g_ 40), (g_ 41), (g_ 42), (g_ 43), (g_ 44), (g_ 45), (g_ 46), (g_ 47), (g_ 48), (g_ 49), (g_ 50), (g_ 51), (g_ 52), (g_ 53), (g_ 54), (g_ 55), (g_ 56), (g_ 57), (g_ 58), (g_ 59), (g_ 60), (g_ 61), (g_ 62), (g_ 63), (g_ 64), (g_ 65), (g_ 66), (g_ 67), (g_ 68), (g_ 69), (g_ 70), (g_ 71), (g_ 72), (g_ 73), (g_ 74), (g_ 75), (g_ 76), (g_ 77), (g_ 78), (g_ 79), (g_ 80), (g_ 81), (g_ 82), (g_ 83), (g_ 84), (g_ 85), (g_ 86), (g_ 87), (g_ 88), (g_ 89), (g_ 90), (g_ 91), (g_ 92)], []⟩ ∧ Step c w C1324 w1325 [1] ∧ kq1326 ≤ k ∧ (Ft C1324 [0] w1325 (fun w_ => Kd.string.C w_ A0_0 l0_0.length l0_0)) ∧ (Ft C1324 [0] w1325 (fun w_ => (Kd.mp Value.string (Value.int .i64)).K w_ m0_1 [v0_1])) ∧ (x1321.length = 64) ∧ (Bx C1324 1 w1325 g0 81 ([.slice A0_0 l0_0.length c0_0, v0_1] ++ (List.map (Value.int .u64) x1321 ++ (List.map (Value.int .u64) a0_3)))) ∧ order_Order_close.l3 kq1326 a0_3 l0_0 x1318 x1321 = some (r1, r2)) ?step fun hL_ => ?init)
 case init =>
  exact jmpL (fun a_ h_ => hL_ k a_ _ h_) (fun g_ => ⟨_, 0, a0_2, g_, rfl, HS, Nat.le_refl _, HP0_0, HP0_1, HL0_2, HP0, H⟩) rfl
 case step =>
  intro kq1326 ih1329 a1330 w1325 hr1331
  obtain ⟨C1324, x1318, x1321, g_, rfl, HS1327, hk1328, HJ1319, HJ1320, HL1322, HJ1323, H⟩ := hr1331
  refine looped_round ?_
  cases kq1326 with
  | zero => exact absurd H (by simp [order_Order_close.l3])
  | succ k1332 =>
   simp only [order_Order_close.l3] at H
   refine wp_seq_k fun K1333 hK1333 => ?_
   refine wl_region ?_
   refine st (.bool (decide (x1318 < (l0_0.length : Int)))) rfl rfl (xr_bin _ _ _ rfl rfl rfl (B.lss_i64 _ _)) ?_
   refine wl_end ?_
   (try simp only [ls0, ls1])
   refine hK1333 _ _ ?_
   (try clear hK1333 K1333)
   refine wp_seq_k fun K1334 hK1334 => ?_
   by_cases c1335 : x1318 < (l0_0.length : Int)
   ·rw [if_pos c1335] at H
    (try rw [(decide_eq_true c1335)])
    refine wp_cond_true rfl ?_
    refine wp_skip ?_
    (try simp only [ls0, ls1])
    refine hK1334 _ _ ?_
    (try clear hK1334 K1334)
    refine wp_seq_k fun K1336 hK1336 => ?_
    refine wp_block ?_
    refine wp_seq_k fun K1337 hK1337 => ?_
    refine wl_region ?_
    refine mv_ rfl ?_
    refine as_ rfl ?_
    refine wl_end ?_
    (try simp only [ls0, ls1])
    refine hK1337 _ _ ?_
    (try clear hK1337 K1337)
    refine wp_seq_k fun K1338 hK1338 => ?_
    refine wl_region ?_
    refine mv_ rfl ?_
    refine st (.pointer (some ⟨g0, 0, none⟩)) rfl rfl (xr_nilCheck _ rfl rfl) ?_
    refine st (.pointer (some ⟨g0, 0, none⟩)) rfl rfl (xr_fieldAddr _ _ rfl rfl (bx_field2 Tryd.underlying81 rfl rfl (by kernel_rfl))) ?_
    refine st (.slice A0_0 l0_0.length c0_0) rfl rfl (xr_load _ _ rfl rfl (load_cell Tryd.underlying30 rfl (bx_cell (HJ1323).2 0 rfl))) ?_
    simp only [ls0, ls1]
    refine st (.int .i64 (l0_0.length : Int)) rfl rfl (xr_builtin #[.slice A0_0 l0_0.length c0_0] (.int .i64 (l0_0.length : Int)) rfl (mp_ rfl) (by first | rfl | (go_simp; done) | (go_simp; rfl) | (go_simp; exact i64_w _) | (go_simp; exact i32_w _))) ?_
    refine st (.int .i64 0) rfl rfl (xr_move _ rfl rfl) ?_
    refine wl_end ?_
    (try simp only [ls0, ls1])
    refine hK1338 _ _ ?_
    (try clear hK1338 K1338)
    refine wp_block ?_
    (try simp only [ls0, ls1])
    refine wp_looped (looped_fin (fun kq1393 a_ w1392 => ∃ (C1391 : Nat → Nat) (x1385 : Int) (x1388 : List Int) (g_ : Nat → Value), a_ = ⟨#[.pointer (some ⟨g0, 0, none⟩), (g_ 1), .int .i64 x1318, (g_ 3), (g_ 4), (g_ 5), (g_ 6), (g_ 7), (g_ 8), (g_ 9), .int .i64 (l0_0.length : Int), .int .i64 x1318, (g_ 12), (g_ 13), (g_ 14), (g_ 15), (g_ 16), (g_ 17), .int .i64 (l0_0.length : Int), .int .i64 x1385, (g_ 20), (g_ 21), (g_ 22), (g_ 23), (g_ 24), (g_ 25), (g_ 26), (g_ 27), (g_ 28), (g_ 29), (g_ 30), (g_ 31), (g_ 32), (g_ 33), (g_ 34), (g_ 35), (g_ 36), (g_ 37), (g_ 38), (g_ 39), (g_ 40), (g_ 41), (g_ 42), (g_ 43), (g_ 44), (g_ 45), (g_ 46), (g_ 47), (g_ 48), (g_ 49), (g_ 50), (g_ 51), (g_ 52), (g_ 53), (g_ 54), (g_ 55), (g_ 56), (g_ 57), (g_ 58), (g_ 59), (g_ 60), (g_ 61), (g_ 62), (g_ 63), (g_ 64), (g_ 65), (g_ 66), (g_ 67), (g_ 68), (g_ 69), (g_ 70), (g_ 71), (g_ 72), (g_ 73), (g_ 74), (g_ 75), (g_ 76), (g_ 77), (g_ 78), (g_ 79), (g_ 80), (g_ 81), (g_ 82), (g_ 83), (g_ 84), (g_ 85), (g_ 86), (g_ 87), (g_ 88), (g_ 89), (g_ 90), (g_ 91), (g_ 92)], []⟩ ∧ Step c w C1391 w1392 [1] ∧ kq1393 ≤ k1332 ∧ (Ft C1391 [0] w1392 (fun w_ => Kd.string.C w_ A0_0 l0_0.length l0_0)) ∧ (Ft C1391 [0] w1392 (fun w_ => (Kd.mp Value.string (Value.int .i64)).K w_ m0_1 [v0_1])) ∧ (x1388.length = 64) ∧ (Bx C1391 1 w1392 g0 81 ([.slice A0_0 l0_0.length c0_0, v0_1] ++ (List.map (Value.int .u64) x1388 ++ (List.map (Value.int .u64) a0_3)))) ∧ order_Order_close.l0 kq1393 a0_3 l0_0 x1318 x1385 x1388 = some (r1, r2)) ?step fun hL_ => ?init)
    case init =>
     exact jmpL (fun a_ h_ => hL_ k1332 a_ _ h_) (fun g_ => ⟨_, 0, x1321, g_, rfl, HS1327, Nat.le_refl _, HJ1319, HJ1320, HL1322, HJ1323, H⟩) rfl
    case step =>
     intro kq1393 ih1396 a1397 w1392 hr1398
     obtain ⟨C1391, x1385, x1388, g_, rfl, HS1394, hk1395, HJ1386, HJ1387, HL1389, HJ1390, H⟩ := hr1398
     refine looped_round ?_
     cases kq1393 with
     | zero => exact absurd H (by simp [order_Order_close.l0])
     | succ k1399 =>
      simp only [order_Order_close.l0] at H
      refine wp_seq_k fun K1400 hK1400 => ?_
      refine wl_region ?_
      refine st (.bool (decide (x1385 < (l0_0.length : Int)))) rfl rfl (xr_bin _ _ _ rfl rfl rfl (B.lss_i64 _ _)) ?_
      refine wl_end ?_
      (try simp only [ls0, ls1])
      refine hK1400 _ _ ?_
      (try clear hK1400 K1400)
      refine wp_seq_k fun K1401 hK1401 => ?_
      by_cases c1402 : x1385 < (l0_0.length : Int)
      ·rw [if_pos c1402] at H
       (try rw [(decide_eq_true c1402)])
       refine wp_cond_true rfl ?_
       refine wp_skip ?_
       (try simp only [ls0, ls1])
       refine hK1401 _ _ ?_
       (try clear hK1401 K1401)
       refine wp_seq_k fun K1403 hK1403 => ?_
       refine wp_block ?_
       refine wp_seq_k fun K1404 hK1404 => ?_
       refine wl_region ?_
       refine mv_ rfl ?_
       refine as_ rfl ?_
       refine wl_end ?_
       (try simp only [ls0, ls1])
       refine hK1404 _ _ ?_
       (try clear hK1404 K1404)
       refine wp_seq_k fun K1405 hK1405 => ?_
       refine wl_region ?_
       refine mv_ rfl ?_
       refine mv_ rfl ?_
       refine st (.pointer (some ⟨g0, 0, none⟩)) rfl rfl (xr_nilCheck _ rfl rfl) ?_
       refine st (.pointer (some ⟨g0, 2, none⟩)) rfl rfl (xr_fieldAddr _ _ rfl rfl (bx_field2 Tryd.underlying81 rfl rfl (by kernel_rfl))) ?_
       simp only [ls0, ls1]
       obtain ⟨c1406, H⟩ := if_some H
       obtain ⟨c1407, H⟩ := if_some H
       refine st (.pointer (some ⟨g0, 2 + ((x1385 : Int).toNat), none⟩)) rfl rfl (xr_indexAddr _ _ _ rfl rfl rfl (arr_index (sz := 1) Tryd.underlying79 (by kernel_rfl) (by first | assumption | decide | omega) (by first | assumption | decide | omega) (by omega))) ?_
       refine st (.int .u64 (List.getD x1388 ((x1385 : Int).toNat) 0)) rfl rfl (xr_load _ _ rfl rfl (arr_load (o := 2) (N := 64) (pre := [.slice A0_0 l0_0.length c0_0, v0_1]) (post := List.map (Value.int .u64) a0_3) (enc := (Value.int .u64)) (l := x1388) (i := (x1385 : Int).toNat) 0 Tryd.underlying58 rfl (HJ1390).2 (by first | (simp only [List.append_assoc, List.cons_append, List.nil_append, List.append_nil]; done) | rfl) rfl HL1389 (by omega) (by omega))) ?_
       refine mv_ rfl ?_
       refine st (.int .u64 (IntKind.u64.wrap (x1318))) rfl rfl (xr_conv (.int .i64 x1318) _ rfl rfl (by first | rfl | (go_simp; done) | (go_simp; rfl) | (go_simp; exact i64_w _) | (go_simp; exact i32_w _))) ?_
       simp only [ls0, ls1]
       obtain ⟨c1408, H⟩ := if_some H
       refine st (.int .u64 (shr .u64 (List.getD x1388 ((x1385 : Int).toNat) 0) (IntKind.u64.wrap (x1318)))) rfl rfl (xr_bin _ _ _ rfl rfl rfl (B.shr_u64_u64 _ _ (by assumption))) ?_
       refine st (.int .u64 (Go.bits .and .u64 (shr .u64 (List.getD x1388 ((x1385 : Int).toNat) 0) (IntKind.u64.wrap (x1318))) 1)) rfl rfl (xr_bin _ _ _ rfl rfl rfl (B.and_u64 _ _)) ?_
       refine st (.bool (decide ((Go.bits .and .u64 (shr .u64 (List.getD x1388 ((x1385 : Int).toNat) 0) (IntKind.u64.wrap (x1318))) 1) = 1))) rfl rfl (xr_bin _ _ _ rfl rfl rfl (B.eql_u64 _ _)) ?_
       refine wl_end ?_
       (try simp only [ls0, ls1])
       refine hK1405 _ _ ?_
       (try clear hK1405 K1405)
       by_cases c1409 : (Go.bits .and .u64 (shr .u64 (List.getD x1388 ((x1385 : Int).toNat) 0) (IntKind.u64.wrap (x1318))) 1) = 1
       ·rw [if_pos c1409] at H
        (try rw [(decide_eq_true c1409)])
        refine wp_cond_true rfl ?_
        (try simp only [ls0, ls1])
        refine al_start (lb 17 0) rfl rfl rfl (fun w_ => w_.heap[g0]? = some (.cells (List.toArray ([.slice A0_0 l0_0.length c0_0, v0_1] ++ (List.map (Value.int .u64) x1388 ++ (List.map (Value.int .u64) a0_3)))) 81 (0, 0))) (HJ1390.drew).2 [16] ?_
        replace HJ1390 := HJ1390.drew
        replace HJ1386 := HJ1386.drew
        replace HJ1387 := HJ1387.drew
        replace HS1394 := Step.ofDrew HS1394
        generalize w1392.drew = w1410 at *
        refine al_mv 0 (lb 17 1) rfl rfl (by kernel_rfl) (fun _ _ _ => id) rfl ?_
        refine al_mv 1 (lb 17 3) rfl rfl (by kernel_rfl) (fun _ _ _ => id) rfl ?_
        refine al_pure 2 35 (.pointer (some ⟨g0, 0, none⟩)) (lb 17 7) rfl rfl (by kernel_rfl) (fun _ _ _ => id) rfl (fun w_ => xr_nilCheck _ rfl rfl) ?_
        refine al_pure 3 36 (.pointer (some ⟨g0, 2, none⟩)) (lb 17 15) rfl rfl (by kernel_rfl) (fun _ _ _ => id) rfl (fun w_ => xr_fieldAddr _ _ rfl rfl (bx_field2 Tryd.underlying81 rfl rfl (by kernel_rfl))) ?_
        simp only [ls0, ls1]
        refine al_pure 4 37 (.pointer (some ⟨g0, 2 + ((x1385 : Int).toNat), none⟩)) (lb 17 31) rfl rfl (by kernel_rfl) (fun _ _ _ => id) rfl (fun w_ => xr_indexAddr _ _ _ rfl rfl rfl (arr_index (sz := 1) Tryd.underlying79 (by kernel_rfl) (by first | assumption | decide | omega) (by first | assumption | decide | omega) (by omega))) ?_
        refine al_mv 6 (lb 17 95) rfl rfl (by kernel_rfl) (fun _ _ _ => id) rfl ?_
        refine al_mv 7 (lb 17 223) rfl rfl (by kernel_rfl) (fun _ _ _ => id) rfl ?_
        refine al_pure 8 41 (.pointer (some ⟨g0, 0, none⟩)) (lb 17 479) rfl rfl (by kernel_rfl) (fun _ _ _ => id) rfl (fun w_ => xr_nilCheck _ rfl rfl) ?_
        simp only [ls0, ls1]
        refine al_pure 9 42 (.pointer (some ⟨g0, 2, none⟩)) (lb 17 991) rfl rfl (by kernel_rfl) (fun _ _ _ => id) rfl (fun w_ => xr_fieldAddr _ _ rfl rfl (bx_field2 Tryd.underlying81 rfl rfl (by kernel_rfl))) ?_
        obtain ⟨c1411, H⟩ := if_some H
        obtain ⟨c1412, H⟩ := if_some H
        refine al_pure 10 43 (.pointer (some ⟨g0, 2 + ((x1318 : Int).toNat), none⟩)) (lb 17 2015) rfl rfl (by kernel_rfl) (fun _ _ _ => id) rfl (fun w_ => xr_indexAddr _ _ _ rfl rfl rfl (arr_index (sz := 1) Tryd.underlying79 (by kernel_rfl) (by first | assumption | decide | omega) (by first | assumption | decide | omega) (by omega))) ?_
        refine al_pure 13 46 (.pointer (some ⟨g0, 0, none⟩)) (lb 17 10207) rfl rfl (by kernel_rfl) (fun _ _ _ => id) rfl (fun w_ => xr_nilCheck _ rfl rfl) ?_
        refine al_pure 14 47 (.pointer (some ⟨g0, 2, none⟩)) (lb 17 26591) rfl rfl (by kernel_rfl) (fun _ _ _ => id) rfl (fun w_ => xr_fieldAddr _ _ rfl rfl (bx_field2 Tryd.underlying81 rfl rfl (by kernel_rfl))) ?_
        simp only [ls0, ls1]
        refine al_take 5 38 (.int .u64 (List.getD x1388 ((x1385 : Int).toNat) 0)) (lb 17 26623) rfl rfl (by kernel_rfl) (fun _ _ _ => id) rfl (fun w_ hS_ => xr_load _ _ rfl rfl (arr_load (o := 2) (N := 64) (pre := [.slice A0_0 l0_0.length c0_0, v0_1]) (post := List.map (Value.int .u64) a0_3) (enc := (Value.int .u64)) (l := x1388) (i := (x1385 : Int).toNat) 0 Tryd.underlying58 rfl hS_ (by first | (simp only [List.append_assoc, List.cons_append, List.nil_append, List.append_nil]; done) | rfl) rfl HL1389 (by omega) (by omega))) (HJ1390).2 ?_
        refine al_take 11 44 (.int .u64 (List.getD x1388 ((x1318 : Int).toNat) 0)) (lb 17 28671) rfl rfl (by kernel_rfl) (fun _ _ _ => id) rfl (fun w_ hS_ => xr_load _ _ rfl rfl (arr_load (o := 2) (N := 64) (pre := [.slice A0_0 l0_0.length c0_0, v0_1]) (post := List.map (Value.int .u64) a0_3) (enc := (Value.int .u64)) (l := x1388) (i := (x1318 : Int).toNat) 0 Tryd.underlying58 rfl hS_ (by first | (simp only [List.append_assoc, List.cons_append, List.nil_append, List.append_nil]; done) | rfl) rfl HL1389 (by omega) (by omega))) (HJ1390).2 ?_
        refine al_pure 12 45 (.int .u64 (Go.bits .or .u64 (List.getD x1388 ((x1385 : Int).toNat) 0) (List.getD x1388 ((x1318 : Int).toNat) 0))) (lb 17 32767) rfl rfl (by kernel_rfl) (fun _ _ _ => id) rfl (fun w_ => xr_bin _ _ _ rfl rfl rfl (B.or_u64 _ _)) ?_
        refine al_pure 15 48 (.pointer (some ⟨g0, 2 + ((x1385 : Int).toNat), none⟩)) (lb 17 65535) rfl rfl (by kernel_rfl) (fun _ _ _ => id) rfl (fun w_ => xr_indexAddr _ _ _ rfl rfl rfl (arr_index (sz := 1) Tryd.underlying79 (by kernel_rfl) (by first | assumption | decide | omega) (by first | assumption | decide | omega) (by omega))) ?_
        simp only [ls0, ls1]
        obtain ⟨y1413, A1414, H⟩ := bnd H
        refine al_last 16 (lb 17 131071) rfl rfl (by kernel_rfl) rfl (fun K_ hK_ => ?_)
        refine arr_store_step (C := C1391) (z := 1) (g := g0) (tb := 81) (of := 2) (N := 64) (pre := [.slice A0_0 l0_0.length c0_0, v0_1]) (post := List.map (Value.int .u64) a0_3) (enc := (Value.int .u64)) (l0 := x1388) (i := (x1385 : Int).toNat) (Go.bits .or .u64 (List.getD x1388 ((x1385 : Int).toNat) 0) (List.getD x1388 ((x1318 : Int).toNat) 0)) rfl rfl rfl rfl rfl rfl (by kernel_rfl) rfl HJ1390 (by first | (simp only [List.append_assoc, List.cons_append, List.nil_append, List.append_nil]; done) | rfl) rfl HL1389 (by omega) (by omega) (Option.some.inj A1414) (xs' := [.slice A0_0 l0_0.length c0_0, v0_1] ++ (List.map (Value.int .u64) y1413 ++ (List.map (Value.int .u64) a0_3))) (by first | (simp only [List.append_assoc, List.cons_append, List.nil_append, List.append_nil]; done) | rfl) ?_
        intro w1415 HX1416 HL1418 hs1417
        replace HJ1386 := HJ1386.thru hs1417 rfl
        replace HJ1387 := HJ1387.thru hs1417 rfl
        replace HS1394 := HS1394.trans hs1417 hc rfl
        refine hK_ _ _ ?_
        clear hK_ K_
        (try simp only [Act.put, List.setIfInBounds_toArray, ls0, ls1])
        refine al_end (by kernel_rfl) ?_
        (try simp only [ls0, ls1])
        refine hK1403 _ _ ?_
        (try clear hK1403 K1403)
        refine wl_region ?_
        refine st (.int .i64 (wrap64 (x1385 + 1))) rfl rfl (xr_bin _ _ _ rfl rfl rfl (B.add_i64 _ _)) ?_
        refine mv_ rfl ?_
        refine wl_end ?_
        (try simp only [ls0, ls1])
        exact jmpL (fun a_ h_ => ih1396 k1399 (by omega) a_ _ h_) (fun g_ => ⟨_, wrap64 (x1385 + 1), y1413, g_, rfl, HS1394, (by omega), HJ1386, HJ1387, HL1418, HX1416, H⟩) rfl
       rw [if_neg c1409] at H
       (try rw [(decide_eq_false c1409)])
       refine wp_cond_false rfl ?_
       refine wp_skip ?_
       (try simp only [ls0, ls1])
       refine hK1403 _ _ ?_
       (try clear hK1403 K1403)
       refine wl_region ?_
       refine st (.int .i64 (wrap64 (x1385 + 1))) rfl rfl (xr_bin _ _ _ rfl rfl rfl (B.add_i64 _ _)) ?_
       refine mv_ rfl ?_
       refine wl_end ?_
       (try simp only [ls0, ls1])
       exact jmpL (fun a_ h_ => ih1396 k1399 (by omega) a_ _ h_) (fun g_ => ⟨_, wrap64 (x1385 + 1), x1388, g_, rfl, HS1394, (by omega), HJ1386, HJ1387, HL1389, HJ1390, H⟩) rfl
      rw [if_neg c1402] at H
      (try rw [(decide_eq_false c1402)])
      refine wp_cond_false rfl ?_
      refine wp_exit ?_
      (try simp only [ls0, ls1])
      refine hK1336 _ _ ?_
      (try clear hK1336 K1336)
      refine wl_region ?_
      refine st (.int .i64 (wrap64 (x1318 + 1))) rfl rfl (xr_bin _ _ _ rfl rfl rfl (B.add_i64 _ _)) ?_
      refine mv_ rfl ?_
      refine wl_end ?_
      (try simp only [ls0, ls1])
      exact jmpL (fun a_ h_ => ih1329 k1399 (by omega) a_ _ h_) (fun g_ => ⟨_, wrap64 (x1318 + 1), x1388, g_, rfl, HS1394, (by omega), HJ1386, HJ1387, HL1389, HJ1390, H⟩) rfl
   rw [if_neg c1335] at H
   (try rw [(decide_eq_false c1335)])
   refine wp_cond_false rfl ?_
   refine wp_exit ?_
   (try simp only [ls0, ls1])
   refine hK854 _ _ ?_
   (try clear hK854 K854)
   refine wp_seq_k fun K1419 hK1419 => ?_
   refine wl_region ?_
   refine mv_ rfl ?_
   refine st (.pointer (some ⟨g0, 0, none⟩)) rfl rfl (xr_nilCheck _ rfl rfl) ?_
   refine st (.pointer (some ⟨g0, 0, none⟩)) rfl rfl (xr_fieldAddr _ _ rfl rfl (bx_field2 Tryd.underlying81 rfl rfl (by kernel_rfl))) ?_
   refine st (.slice A0_0 l0_0.length c0_0) rfl rfl (xr_load _ _ rfl rfl (load_cell Tryd.underlying30 rfl (bx_cell (HJ1323).2 0 rfl))) ?_
   simp only [ls0, ls1]
   refine st (.int .i64 (l0_0.length : Int)) rfl rfl (xr_builtin #[.slice A0_0 l0_0.length c0_0] (.int .i64 (l0_0.length : Int)) rfl (mp_ rfl) (by first | rfl | (go_simp; done) | (go_simp; rfl) | (go_simp; exact i64_w _) | (go_simp; exact i32_w _))) ?_
   refine st (.int .i64 0) rfl rfl (xr_move _ rfl rfl) ?_
   refine wl_end ?_
   (try simp only [ls0, ls1])
   refine hK1419 _ _ ?_
   (try clear hK1419 K1419)
   refine wp_block ?_
   (try simp only [ls0, ls1])
   refine wp_looped (looped_fin (fun kq1612 a_ w1611 => ∃ (C1610 : Nat → Nat) (x1604 : Int) (x1607 : List Int) (g_ : Nat → Value), a_ = ⟨#[.pointer (some ⟨g0, 0, none⟩), (g_ 1), (g_ 2), (g_ 3), (g_ 4), (g_ 5), (g_ 6), (g_ 7), (g_ 8), (g_ 9), (g_ 10), (g_ 11), (g_ 12), (g_ 13), (g_ 14), (g_ 15), (g_ 16), (g_ 17), (g_ 18), (g_ 19), (g_ 20), (g_ 21), (g_ 22), (g_ 23), (g_ 24), (g_ 25), (g_ 26), (g_ 27), (g_ 28), (g_ 29), (g_ 30), (g_ 31), (g_ 32), (g_ 33), (g_ 34), (g_ 35), (g_ 36), (g_ 37), (g_ 38), (g_ 39), (g_ 40), (g_ 41), (g_ 42), (g_ 43), (g_ 44), (g_ 45), (g_ 46), (g_ 47), (g_ 48), (g_ 49), (g_ 50), (g_ 51), (g_ 52), (g_ 53), (g_ 54), .int .i64 (l0_0.length : Int), .int .i64 x1604, (g_ 57), (g_ 58), (g_ 59), (g_ 60), (g_ 61), (g_ 62), (g_ 63), (g_ 64), (g_ 65), (g_ 66), (g_ 67), (g_ 68), (g_ 69), (g_ 70), (g_ 71), (g_ 72), (g_ 73), (g_ 74), (g_ 75), (g_ 76), (g_ 77), (g_ 78), (g_ 79), (g_ 80), (g_ 81), (g_ 82), (g_ 83), (g_ 84), (g_ 85), (g_ 86), (g_ 87), (g_ 88), (g_ 89), (g_ 90), (g_ 91), (g_ 92)], []⟩ ∧ Step c w C1610 w1611 [1] ∧ kq1612 ≤ k1332 ∧ (Ft C1610 [0] w1611 (fun w_ => Kd.string.C w_ A0_0 l0_0.length l0_0)) ∧ (Ft C1610 [0] w1611 (fun w_ => (Kd.mp Value.string (Value.int .i64)).K w_ m0_1 [v0_1])) ∧ (x1607.length = 64) ∧ (Bx C1610 1 w1611 g0 81 ([.slice A0_0 l0_0.length c0_0, v0_1] ++ (List.map (Value.int .u64) x1321 ++ (List.map (Value.int .u64) x1607)))) ∧ order_Order_close.l2 kq1612 l0_0 x1321 x1604 x1607 = some (r1, r2)) ?step fun hL_ => ?init)
   case init =>
    exact jmpL (fun a_ h_ => hL_ k1332 a_ _ h_) (fun g_ => ⟨_, 0, a0_3, g_, rfl, HS1327, Nat.le_refl _, HJ1319, HJ1320, HL0_3, HJ1323, H⟩) rfl
   case step =>
    intro kq1612 ih1615 a1616 w1611 hr1617
    obtain ⟨C1610, x1604, x1607, g_, rfl, HS1613, hk1614, HJ1605, HJ1606, HL1608, HJ1609, H⟩ := hr1617
    refine looped_round ?_
    cases kq1612 with
    | zero => exact absurd H (by simp [order_Order_close.l2])
    | succ k1618 =>
     simp only [order_Order_close.l2] at H
     refine wp_seq_k fun K1619 hK1619 => ?_
     refine wl_region ?_
     refine st (.bool (decide (x1604 < (l0_0.length : Int)))) rfl rfl (xr_bin _ _ _ rfl rfl rfl (B.lss_i64 _ _)) ?_
     refine wl_end ?_
     (try simp only [ls0, ls1])
     refine hK1619 _ _ ?_
     (try clear hK1619 K1619)
     refine wp_seq_k fun K1620 hK1620 => ?_
     by_cases c1621 : x1604 < (l0_0.length : Int)
     ·rw [if_pos c1621] at H
      (try rw [(decide_eq_true c1621)])
      refine wp_cond_true rfl ?_
      refine wp_skip ?_
      (try simp only [ls0, ls1])
      refine hK1620 _ _ ?_
      (try clear hK1620 K1620)
      refine wp_seq_k fun K1622 hK1622 => ?_
      refine wp_block ?_
      refine wp_seq_k fun K1623 hK1623 => ?_
      refine wl_region ?_
      refine mv_ rfl ?_
      refine as_ rfl ?_
      refine wl_end ?_
      (try simp only [ls0, ls1])
      refine hK1623 _ _ ?_
      (try clear hK1623 K1623)
      refine wp_seq_k fun K1624 hK1624 => ?_
      refine wl_region ?_
      refine mv_ rfl ?_
      refine st (.pointer (some ⟨g0, 0, none⟩)) rfl rfl (xr_nilCheck _ rfl rfl) ?_
      refine st (.pointer (some ⟨g0, 0, none⟩)) rfl rfl (xr_fieldAddr _ _ rfl rfl (bx_field2 Tryd.underlying81 rfl rfl (by kernel_rfl))) ?_
      refine st (.slice A0_0 l0_0.length c0_0) rfl rfl (xr_load _ _ rfl rfl (load_cell Tryd.underlying30 rfl (bx_cell (HJ1609).2 0 rfl))) ?_
      simp only [ls0, ls1]
      refine st (.int .i64 (l0_0.length : Int)) rfl rfl (xr_builtin #[.slice A0_0 l0_0.length c0_0] (.int .i64 (l0_0.length : Int)) rfl (mp_ rfl) (by first | rfl | (go_simp; done) | (go_simp; rfl) | (go_simp; exact i64_w _) | (go_simp; exact i32_w _))) ?_
      refine st (.int .i64 0) rfl rfl (xr_move _ rfl rfl) ?_
      refine wl_end ?_
      (try simp only [ls0, ls1])
      refine hK1624 _ _ ?_
      (try clear hK1624 K1624)
      refine wp_block ?_
      (try simp only [ls0, ls1])
      refine wp_looped (looped_fin (fun kq1680 a_ w1679 => ∃ (C1678 : Nat → Nat) (x1672 : Int) (x1675 : List Int) (g_ : Nat → Value), a_ = ⟨#[.pointer (some ⟨g0, 0, none⟩), (g_ 1), (g_ 2), (g_ 3), .int .i64 x1604, (g_ 5), (g_ 6), (g_ 7), (g_ 8), (g_ 9), (g_ 10), (g_ 11), (g_ 12), (g_ 13), (g_ 14), (g_ 15), (g_ 16), (g_ 17), (g_ 18), (g_ 19), (g_ 20), (g_ 21), (g_ 22), (g_ 23), (g_ 24), (g_ 25), (g_ 26), (g_ 27), (g_ 28), (g_ 29), (g_ 30), (g_ 31), (g_ 32), (g_ 33), (g_ 34), (g_ 35), (g_ 36), (g_ 37), (g_ 38), (g_ 39), (g_ 40), (g_ 41), (g_ 42), (g_ 43), (g_ 44), (g_ 45), (g_ 46), (g_ 47), (g_ 48), (g_ 49), (g_ 50), (g_ 51), (g_ 52), (g_ 53), (g_ 54), .int .i64 (l0_0.length : Int), .int .i64 x1604, (g_ 57), (g_ 58), (g_ 59), (g_ 60), (g_ 61), (g_ 62), .int .i64 (l0_0.length : Int), .int .i64 x1672, (g_ 65), (g_ 66), (g_ 67), (g_ 68), (g_ 69), (g_ 70), (g_ 71), (g_ 72), (g_ 73), (g_ 74), (g_ 75), (g_ 76), (g_ 77), (g_ 78), (g_ 79), (g_ 80), (g_ 81), (g_ 82), (g_ 83), (g_ 84), (g_ 85), (g_ 86), (g_ 87), (g_ 88), (g_ 89), (g_ 90), (g_ 91), (g_ 92)], []⟩ ∧ Step c w C1678 w1679 [1] ∧ kq1680 ≤ k1618 ∧ (Ft C1678 [0] w1679 (fun w_ => Kd.string.C w_ A0_0 l0_0.length l0_0)) ∧ (Ft C1678 [0] w1679 (fun w_ => (Kd.mp Value.string (Value.int .i64)).K w_ m0_1 [v0_1])) ∧ (x1675.length = 64) ∧ (Bx C1678 1 w1679 g0 81 ([.slice A0_0 l0_0.length c0_0, v0_1] ++ (List.map (Value.int .u64) x1321 ++ (List.map (Value.int .u64) x1675)))) ∧ order_Order_close.l1 kq1680 l0_0 x1321 x1604 x1672 x1675 = some (r1, r2)) ?step fun hL_ => ?init)
      case init =>
       exact jmpL (fun a_ h_ => hL_ k1618 a_ _ h_) (fun g_ => ⟨_, 0, x1607, g_, rfl, HS1613, Nat.le_refl _, HJ1605, HJ1606, HL1608, HJ1609, H⟩) rfl
      case step =>
       intro kq1680 ih1683 a1684 w1679 hr1685
       obtain ⟨C1678, x1672, x1675, g_, rfl, HS1681, hk1682, HJ1673, HJ1674, HL1676, HJ1677, H⟩ := hr1685
       refine looped_round ?_
       cases kq1680 with
       | zero => exact absurd H (by simp [order_Order_close.l1])
       | succ k1686 =>
        simp only [order_Order_close.l1] at H
        refine wp_seq_k fun K1687 hK1687 => ?_
        refine wl_region ?_
        refine st (.bool (decide (x1672 < (l0_0.length : Int)))) rfl rfl (xr_bin _ _ _ rfl rfl rfl (B.lss_i64 _ _)) ?_
        refine wl_end ?_
        (try simp only [ls0, ls1])
        refine hK1687 _ _ ?_
        (try clear hK1687 K1687)
        refine wp_seq_k fun K1688 hK1688 => ?_
        by_cases c1689 : x1672 < (l0_0.length : Int)
        ·rw [if_pos c1689] at H
         (try rw [(decide_eq_true c1689)])
         refine wp_cond_true rfl ?_
         refine wp_skip ?_
         (try simp only [ls0, ls1])
         refine hK1688 _ _ ?_
         (try clear hK1688 K1688)
         refine wp_seq_k fun K1690 hK1690 => ?_
         refine wp_block ?_
         refine wp_seq_k fun K1691 hK1691 => ?_
         refine wl_region ?_
         refine mv_ rfl ?_
         refine as_ rfl ?_
         refine wl_end ?_
         (try simp only [ls0, ls1])
         refine hK1691 _ _ ?_
         (try clear hK1691 K1691)
         refine wp_seq_k fun K1692 hK1692 => ?_
         refine wl_region ?_
         refine mv_ rfl ?_
         refine mv_ rfl ?_
         refine st (.pointer (some ⟨g0, 0, none⟩)) rfl rfl (xr_nilCheck _ rfl rfl) ?_
         refine st (.pointer (some ⟨g0, 2, none⟩)) rfl rfl (xr_fieldAddr _ _ rfl rfl (bx_field2 Tryd.underlying81 rfl rfl (by kernel_rfl))) ?_
         simp only [ls0, ls1]
         obtain ⟨c1693, H⟩ := if_some H
         obtain ⟨c1694, H⟩ := if_some H
         refine st (.pointer (some ⟨g0, 2 + ((x1672 : Int).toNat), none⟩)) rfl rfl (xr_indexAddr _ _ _ rfl rfl rfl (arr_index (sz := 1) Tryd.underlying79 (by kernel_rfl) (by first | assumption | decide | omega) (by first | assumption | decide | omega) (by omega))) ?_
         refine st (.int .u64 (List.getD x1321 ((x1672 : Int).toNat) 0)) rfl rfl (xr_load _ _ rfl rfl (arr_load (o := 2) (N := 64) (pre := [.slice A0_0 l0_0.length c0_0, v0_1]) (post := List.map (Value.int .u64) x1675) (enc := (Value.int .u64)) (l := x1321) (i := (x1672 : Int).toNat) 0 Tryd.underlying58 rfl (HJ1677).2 (by first | (simp only [List.append_assoc, List.cons_append, List.nil_append, List.append_nil]; done) | rfl) rfl HL1322 (by omega) (by omega))) ?_
         refine mv_ rfl ?_
         refine st (.int .u64 (IntKind.u64.wrap (x1604))) rfl rfl (xr_conv (.int .i64 x1604) _ rfl rfl (by first | rfl | (go_simp; done) | (go_simp; rfl) | (go_simp; exact i64_w _) | (go_simp; exact i32_w _))) ?_
         simp only [ls0, ls1]
         obtain ⟨c1695, H⟩ := if_some H
         refine st (.int .u64 (shr .u64 (List.getD x1321 ((x1672 : Int).toNat) 0) (IntKind.u64.wrap (x1604)))) rfl rfl (xr_bin _ _ _ rfl rfl rfl (B.shr_u64_u64 _ _ (by assumption))) ?_
         refine st (.int .u64 (Go.bits .and .u64 (shr .u64 (List.getD x1321 ((x1672 : Int).toNat) 0) (IntKind.u64.wrap (x1604))) 1)) rfl rfl (xr_bin _ _ _ rfl rfl rfl (B.and_u64 _ _)) ?_
         refine st (.bool (decide ((Go.bits .and .u64 (shr .u64 (List.getD x1321 ((x1672 : Int).toNat) 0) (IntKind.u64.wrap (x1604))) 1) = 1))) rfl rfl (xr_bin _ _ _ rfl rfl rfl (B.eql_u64 _ _)) ?_
         refine wl_end ?_
         (try simp only [ls0, ls1])
         refine hK1692 _ _ ?_
         (try clear hK1692 K1692)
         by_cases c1696 : (Go.bits .and .u64 (shr .u64 (List.getD x1321 ((x1672 : Int).toNat) 0) (IntKind.u64.wrap (x1604))) 1) = 1
         ·rw [if_pos c1696] at H
          (try rw [(decide_eq_true c1696)])
          refine wp_cond_true rfl ?_
          (try simp only [ls0, ls1])
          refine al_start (lb 14 0) rfl rfl rfl (fun w_ => w_.heap[g0]? = some (.cells (List.toArray ([.slice A0_0 l0_0.length c0_0, v0_1] ++ (List.map (Value.int .u64) x1321 ++ (List.map (Value.int .u64) x1675)))) 81 (0, 0))) (HJ1677.drew).2 [13] ?_
          replace HJ1677 := HJ1677.drew
          replace HJ1673 := HJ1673.drew
          replace HJ1674 := HJ1674.drew
          replace HS1681 := Step.ofDrew HS1681
          generalize w1679.drew = w1697 at *
          refine al_mv 0 (lb 14 1) rfl rfl (by kernel_rfl) (fun _ _ _ => id) rfl ?_
          refine al_mv 1 (lb 14 3) rfl rfl (by kernel_rfl) (fun _ _ _ => id) rfl ?_
          refine al_pure 2 80 (.pointer (some ⟨g0, 0, none⟩)) (lb 14 7) rfl rfl (by kernel_rfl) (fun _ _ _ => id) rfl (fun w_ => xr_nilCheck _ rfl rfl) ?_
          refine al_pure 3 81 (.pointer (some ⟨g0, 66, none⟩)) (lb 14 15) rfl rfl (by kernel_rfl) (fun _ _ _ => id) rfl (fun w_ => xr_fieldAddr _ _ rfl rfl (bx_field2 Tryd.underlying81 rfl rfl (by kernel_rfl))) ?_
          simp only [ls0, ls1]
          obtain ⟨c1698, H⟩ := if_some H
          obtain ⟨c1699, H⟩ := if_some H
          refine al_pure 4 82 (.pointer (some ⟨g0, 66 + ((x1604 : Int).toNat), none⟩)) (lb 14 31) rfl rfl (by kernel_rfl) (fun _ _ _ => id) rfl (fun w_ => xr_indexAddr _ _ _ rfl rfl rfl (arr_index (sz := 1) Tryd.underlying79 (by kernel_rfl) (by first | assumption | decide | omega) (by first | assumption | decide | omega) (by omega))) ?_
          refine al_mv 6 (lb 14 95) rfl rfl (by kernel_rfl) (fun _ _ _ => id) rfl ?_
          refine al_pure 7 85 (.int .u64 (IntKind.u64.wrap (x1672))) (lb 14 223) rfl rfl (by kernel_rfl) (fun _ _ _ => id) rfl (fun w_ => xr_conv (.int .i64 x1672) _ rfl rfl (by first | rfl | (go_simp; done) | (go_simp; rfl) | (go_simp; exact i64_w _) | (go_simp; exact i32_w _))) ?_
          obtain ⟨c1700, H⟩ := if_some H
          refine al_pure 8 86 (.int .u64 (shl .u64 1 (IntKind.u64.wrap (x1672)))) (lb 14 479) rfl rfl (by kernel_rfl) (fun _ _ _ => id) rfl (fun w_ => xr_bin _ _ _ rfl rfl rfl (B.shl_u64_u64 _ _ (by assumption))) ?_
          simp only [ls0, ls1]
          refine al_pure 10 88 (.pointer (some ⟨g0, 0, none⟩)) (lb 14 1503) rfl rfl (by kernel_rfl) (fun _ _ _ => id) rfl (fun w_ => xr_nilCheck _ rfl rfl) ?_
          refine al_pure 11 89 (.pointer (some ⟨g0, 66, none⟩)) (lb 14 3551) rfl rfl (by kernel_rfl) (fun _ _ _ => id) rfl (fun w_ => xr_fieldAddr _ _ rfl rfl (bx_field2 Tryd.underlying81 rfl rfl (by kernel_rfl))) ?_
          refine al_take 5 83 (.int .u64 (List.getD x1675 ((x1604 : Int).toNat) 0)) (lb 14 3583) rfl rfl (by kernel_rfl) (fun _ _ _ => id) rfl (fun w_ hS_ => xr_load _ _ rfl rfl (arr_load (o := 66) (N := 64) (pre := [.slice A0_0 l0_0.length c0_0, v0_1] ++ (List.map (Value.int .u64) x1321)) (post := []) (enc := (Value.int .u64)) (l := x1675) (i := (x1604 : Int).toNat) 0 Tryd.underlying58 rfl hS_ (by first | (simp only [List.append_assoc, List.cons_append, List.nil_append, List.append_nil]; done) | rfl) (by simp [HL1322]) HL1676 (by omega) (by omega))) (HJ1677).2 ?_
          refine al_pure 9 87 (.int .u64 (Go.bits .or .u64 (List.getD x1675 ((x1604 : Int).toNat) 0) (shl .u64 1 (IntKind.u64.wrap (x1672))))) (lb 14 4095) rfl rfl (by kernel_rfl) (fun _ _ _ => id) rfl (fun w_ => xr_bin _ _ _ rfl rfl rfl (B.or_u64 _ _)) ?_
          simp only [ls0, ls1]
          refine al_pure 12 90 (.pointer (some ⟨g0, 66 + ((x1604 : Int).toNat), none⟩)) (lb 14 8191) rfl rfl (by kernel_rfl) (fun _ _ _ => id) rfl (fun w_ => xr_indexAddr _ _ _ rfl rfl rfl (arr_index (sz := 1) Tryd.underlying79 (by kernel_rfl) (by first | assumption | decide | omega) (by first | assumption | decide | omega) (by omega))) ?_
          obtain ⟨y1701, A1702, H⟩ := bnd H
          refine al_last 13 (lb 14 16383) rfl rfl (by kernel_rfl) rfl (fun K_ hK_ => ?_)
          refine arr_store_step (C := C1678) (z := 1) (g := g0) (tb := 81) (of := 66) (N := 64) (pre := [.slice A0_0 l0_0.length c0_0, v0_1] ++ (List.map (Value.int .u64) x1321)) (post := []) (enc := (Value.int .u64)) (l0 := x1675) (i := (x1604 : Int).toNat) (Go.bits .or .u64 (List.getD x1675 ((x1604 : Int).toNat) 0) (shl .u64 1 (IntKind.u64.wrap (x1672)))) rfl rfl rfl rfl rfl rfl (by kernel_rfl) rfl HJ1677 (by first | (simp only [List.append_assoc, List.cons_append, List.nil_append, List.append_nil]; done) | rfl) (by simp [HL1322]) HL1676 (by omega) (by omega) (Option.some.inj A1702) (xs' := [.slice A0_0 l0_0.length c0_0, v0_1] ++ (List.map (Value.int .u64) x1321 ++ (List.map (Value.int .u64) y1701))) (by first | (simp only [List.append_assoc, List.cons_append, List.nil_append, List.append_nil]; done) | rfl) ?_
          intro w1703 HX1704 HL1706 hs1705
          replace HJ1673 := HJ1673.thru hs1705 rfl
          replace HJ1674 := HJ1674.thru hs1705 rfl
          replace HS1681 := HS1681.trans hs1705 hc rfl
          refine hK_ _ _ ?_
          clear hK_ K_
          (try simp only [Act.put, List.setIfInBounds_toArray, ls0, ls1])
          refine al_end (by kernel_rfl) ?_
          (try simp only [ls0, ls1])
          refine hK1690 _ _ ?_
          (try clear hK1690 K1690)
          refine wl_region ?_
          refine st (.int .i64 (wrap64 (x1672 + 1))) rfl rfl (xr_bin _ _ _ rfl rfl rfl (B.add_i64 _ _)) ?_
          refine mv_ rfl ?_
          refine wl_end ?_
          (try simp only [ls0, ls1])
          exact jmpL (fun a_ h_ => ih1683 k1686 (by omega) a_ _ h_) (fun g_ => ⟨_, wrap64 (x1672 + 1), y1701, g_, rfl, HS1681, (by omega), HJ1673, HJ1674, HL1706, HX1704, H⟩) rfl
         rw [if_neg c1696] at H
         (try rw [(decide_eq_false c1696)])
         refine wp_cond_false rfl ?_
         refine wp_skip ?_
         (try simp only [ls0, ls1])
         refine hK1690 _ _ ?_
         (try clear hK1690 K1690)
         refine wl_region ?_
         refine st (.int .i64 (wrap64 (x1672 + 1))) rfl rfl (xr_bin _ _ _ rfl rfl rfl (B.add_i64 _ _)) ?_
         refine mv_ rfl ?_
         refine wl_end ?_
         (try simp only [ls0, ls1])
         exact jmpL (fun a_ h_ => ih1683 k1686 (by omega) a_ _ h_) (fun g_ => ⟨_, wrap64 (x1672 + 1), x1675, g_, rfl, HS1681, (by omega), HJ1673, HJ1674, HL1676, HJ1677, H⟩) rfl
        rw [if_neg c1689] at H
        (try rw [(decide_eq_false c1689)])
        refine wp_cond_false rfl ?_
        refine wp_exit ?_
        (try simp only [ls0, ls1])
        refine hK1622 _ _ ?_
        (try clear hK1622 K1622)
        refine wl_region ?_
        refine st (.int .i64 (wrap64 (x1604 + 1))) rfl rfl (xr_bin _ _ _ rfl rfl rfl (B.add_i64 _ _)) ?_
        refine mv_ rfl ?_
        refine wl_end ?_
        (try simp only [ls0, ls1])
        exact jmpL (fun a_ h_ => ih1615 k1686 (by omega) a_ _ h_) (fun g_ => ⟨_, wrap64 (x1604 + 1), x1675, g_, rfl, HS1681, (by omega), HJ1673, HJ1674, HL1676, HJ1677, H⟩) rfl
     rw [if_neg c1621] at H
     (try rw [(decide_eq_false c1621)])
     refine wp_cond_false rfl ?_
     refine wp_exit ?_
     (try simp only [Exit.inBlock, Exit.then, Exit.noGoto, if_true, if_pos])
     (try simp only [ls0, ls1])
     simp only [Option.some.injEq, Prod.mk.injEq] at H
     obtain ⟨rfl, rfl⟩ := H
     refine bodyPost_end (results_none rfl _ _ _) rfl ?_
     exact ⟨_, rfl, HS1613, HL1322, HL1608, HJ1609⟩

/-! ### order_New: function 15 -/
mutual
def order_New.l0 : Nat → (List (S53)) → (List Int) → (List Int) → (List ByteArray) → (List (ByteArray × Int)) → Int → Option ((Option S81) × Int × Int)
  | 0, _, _, _, _, _, _ => none
  | k + 1, l0, t799, t800, x739, x745, x897 => if x897 < (l0.length : Int) then (if 0 ≤ x897 then (if ((rd_T53 l0 x897).f1) = (⟨#[]⟩ : ByteArray) then (order_New.l0 k l0 t799 t800 x739 x745 (wrap64 (x897 + 1))) else ((order_Order_Most.f (some (⟨x739, x745, t799, t800⟩ : S81) : Option S81) (mget 0 x745 ((rd_T53 l0 x897).f1)) (mget 0 x745 ((rd_T53 l0 x897).f0))).bind fun t940 => (if t940 = true then (some ((none : Option S81), x897, 16)) else (order_New.l0 k l0 t799 t800 x739 x745 (wrap64 (x897 + 1)))))) else (none)) else (some ((some (⟨x739, x745, t799, t800⟩ : S81) : Option S81), 0, 0))
def order_New.l1 : Nat → (List (S53)) → Int → (List ByteArray) → (List (ByteArray × Int)) → (List Int) → Option ((Option S81) × Int × Int)
  | 0, _, _, _, _, _ => none
  | k + 1, l0, x738, x739, x745, x748 => if x738 < (l0.length : Int) then (if 0 ≤ x738 then ((order_Order_pair.f k x739 x745 x748 (List.replicate 64 (0 : Int)) ((rd_T53 l0 x738).f0) ((rd_T53 l0 x738).f1) ((rd_T53 l0 x738).f2)).bind fun bt778 => (if bt778.1 = 0 then (order_New.l1 k l0 (wrap64 (x738 + 1)) bt778.2.1 bt778.2.2.1 bt778.2.2.2) else (some ((none : Option S81), x738, bt778.1)))) else (none)) else ((order_Order_close.f k x739 x745 x748 (List.replicate 64 (0 : Int))).bind fun bt799 => (order_New.l0 k l0 bt799.1 bt799.2 x739 x745 0))
end
def order_New.f (k : Nat) (l0 : List (S53)) : Option ((Option S81) × Int × Int) := order_New.l1 k l0 0 ([] : List ByteArray) ([] : List (ByteArray × Int)) (List.replicate 64 (0 : Int))

set_option maxHeartbeats 2000000 in
set_option maxRecDepth 100000 in
theorem order_New.calls (k : Nat) (A0 : Option Addr) (c0 : Nat) (l0 : List (S53)) (r1 : Option S81) (r2 : Int) (r3 : Int) (c : Nat → Nat) (w : World) (hc : ∀ k, c k < 10) (HP0 : Ft c [0] w (fun w_ => k53.C w_ A0 l0.length l0)) (HCP0 : l0.length ≤ c0) (H : order_New.f k l0 = some (r1, r2, r3)) :
    Calls Tryd.prog 15 #[.slice A0 l0.length c0] w fun e w' => ∃ (c' : Nat → Nat) (v_r1 : Value), e = .returned (.tuple #[v_r1, .int .i64 r2, .int .i64 r3]) ∧ Step c w c' w' [] ∧ Ft c' [0] w' (fun w_ => (Kd.ptr 81 k81).K w_ r1 [v_r1]) := by
 unfold order_New.f at H
 have HS := Step.refl c w []
 go_enter Tryd.func15, Tryd.ntmps15
 refine wp_seq_k fun K475 hK475 => ?_
 refine wl_region ?_
 refine st (.pointer none) rfl rfl (xr_assign _ rfl rfl) ?_
 refine st (.int .i64 0) rfl rfl (xr_assign _ rfl rfl) ?_
 refine st (.int .i64 0) rfl rfl (xr_assign _ rfl rfl) ?_
 refine wl_end ?_
 (try simp only [ls0, ls1])
 refine hK475 _ _ ?_
 (try clear hK475 K475)
 refine wp_seq_k fun K476 hK476 => ?_
 refine wl_region ?_
 refine mp_new (C := c) Value.string (Value.int .i64) 11 rfl rfl rfl ?_
 intro mb477 w478 C479 HM480 hs481
 replace HP0 := HP0.thru hs481 rfl
 replace HS := HS.trans hs481 hc rfl
 (try simp only [ls0, ls1])
 refine st (.agg (List.toArray ([.slice none 0 0, .map (some mb477)] ++ (List.map (Value.int .u64) (List.replicate 64 (0 : Int)) ++ (List.map (Value.int .u64) (List.replicate 64 (0 : Int))))))) rfl rfl (xr_build #[(1, .map (some mb477))] (.agg (List.toArray ([.slice none 0 0, .map (some mb477)] ++ (List.map (Value.int .u64) (List.replicate 64 (0 : Int)) ++ (List.map (Value.int .u64) (List.replicate 64 (0 : Int))))))) rfl (mp_ rfl) (by kernel_rfl)) ?_
 refine bx_new (C := C479) 81 ([.slice none 0 0, .map (some mb477)] ++ (List.map (Value.int .u64) (List.replicate 64 (0 : Int)) ++ (List.map (Value.int .u64) (List.replicate 64 (0 : Int))))) 12 rfl rfl (by kernel_rfl) ?_
 intro g482 w483 C484 HX485 hs486
 replace HP0 := HP0.thru hs486 rfl
 replace HM480 := HM480.thru hs486 rfl
 replace HS := HS.trans hs486 hc rfl
 (try simp only [ls0, ls1])
 refine as_ rfl ?_
 refine wl_end ?_
 (try simp only [ls0, ls1])
 refine hK476 _ _ ?_
 (try clear hK476 K476)
 refine wp_seq_k fun K487 hK487 => ?_
 refine wp_seq_k fun K643 hK643 => ?_
 refine wl_region ?_
 refine mv_ rfl ?_
 refine st (.int .i64 (l0.length : Int)) rfl rfl (xr_builtin #[.slice A0 l0.length c0] (.int .i64 (l0.length : Int)) rfl (mp_ rfl) (by first | rfl | (go_simp; done) | (go_simp; rfl) | (go_simp; exact i64_w _) | (go_simp; exact i32_w _))) ?_
 refine st (.int .i64 0) rfl rfl (xr_move _ rfl rfl) ?_
 refine wl_end ?_
 (try simp only [ls0, ls1])
 refine hK643 _ _ ?_
 (try clear hK643 K643)
 refine wp_block ?_
 (try simp only [ls0, ls1])
 refine wp_looped (looped_fin (fun kq753 a_ w752 => ∃ (C751 : Nat → Nat) (x738 : Int) (x748 : List Int) (A740 : Option Addr) (n741 cp742 : Nat) (x739 : List ByteArray) (mb746 : Nat) (x745 : List (ByteArray × Int)) (g_ : Nat → Value), a_ = ⟨#[.slice A0 l0.length c0, (g_ 1), .pointer (some ⟨g482, 0, none⟩), (g_ 3), (g_ 4), (g_ 5), (g_ 6), (g_ 7), (g_ 8), (g_ 9), (g_ 10), (g_ 11), (g_ 12), .slice A0 l0.length c0, .int .i64 (l0.length : Int), .int .i64 x738, (g_ 16), (g_ 17), (g_ 18), (g_ 19), (g_ 20), (g_ 21), (g_ 22), (g_ 23), (g_ 24), (g_ 25), (g_ 26), (g_ 27), (g_ 28), (g_ 29), (g_ 30), (g_ 31), (g_ 32), (g_ 33), (g_ 34), (g_ 35), (g_ 36), (g_ 37), (g_ 38), (g_ 39), (g_ 40), (g_ 41), (g_ 42), (g_ 43), (g_ 44), (g_ 45), (g_ 46), (g_ 47), (g_ 48), (g_ 49), (g_ 50), (g_ 51), (g_ 52), (g_ 53), (g_ 54), (g_ 55), (g_ 56), (g_ 57), (g_ 58), (g_ 59), (g_ 60)], []⟩ ∧ Step c w C751 w752 [] ∧ kq753 ≤ k ∧ (Ft C751 [0] w752 (fun w_ => k53.C w_ A0 l0.length l0)) ∧ (Own C751 13 w752 Kd.string 9 (.slice A740 n741 cp742) x739) ∧ (n741 ≤ cp742) ∧ (Mp Value.string (Value.int .i64) C751 14 w752 mb746 x745) ∧ (x748.length = 64) ∧ (Bx C751 12 w752 g482 81 ([.slice A740 n741 cp742, .map (some mb746)] ++ (List.map (Value.int .u64) x748 ++ (List.map (Value.int .u64) (List.replicate 64 (0 : Int)))))) ∧ order_New.l1 kq753 l0 x738 x739 x745 x748 = some (r1, r2, r3)) ?step fun hL_ => ?init)
 case init =>
  replace HP0 := Ft.recol (a := 11) (b := 14) HP0 (.inl rfl)
  replace HM480 := Mp.recolor (y := 14) HM480
  replace HX485 := Bx.recol (a := 11) (b := 14) HX485 (by decide)
  replace HS := Step.recol (a := 11) (b := 14) HS hc (by decide)
  exact jmpL (fun a_ h_ => hL_ k a_ _ h_) (fun g_ => ⟨_, 0, (List.replicate 64 (0 : Int)), none, 0, 0, ([] : List ByteArray), mb477, ([] : List (ByteArray × Int)), g_, rfl, HS, Nat.le_refl _, HP0, (Own.nil _ _ _ _ _), (Nat.le_refl 0), HM480, (List.length_replicate), HX485, H⟩) rfl
 case step =>
  intro kq753 ih756 a757 w752 hr758
  obtain ⟨C751, x738, x748, A740, n741, cp742, x739, mb746, x745, g_, rfl, HS754, hk755, HJ737, HJ744, HC743, HJ747, HL749, HJ750, H⟩ := hr758
  refine looped_round ?_
  obtain rfl : n741 = x739.length := HJ744.at_.1
  cases kq753 with
  | zero => exact absurd H (by simp [order_New.l1])
  | succ k759 =>
   simp only [order_New.l1] at H
   refine wp_seq_k fun K760 hK760 => ?_
   refine wl_region ?_
   refine st (.bool (decide (x738 < (l0.length : Int)))) rfl rfl (xr_bin _ _ _ rfl rfl rfl (B.lss_i64 _ _)) ?_
   refine wl_end ?_
   (try simp only [ls0, ls1])
   refine hK760 _ _ ?_
   (try clear hK760 K760)
   refine wp_seq_k fun K761 hK761 => ?_
   by_cases c762 : x738 < (l0.length : Int)
   ·rw [if_pos c762] at H
    (try rw [(decide_eq_true c762)])
    refine wp_cond_true rfl ?_
    refine wp_skip ?_
    (try simp only [ls0, ls1])
    refine hK761 _ _ ?_
    (try clear hK761 K761)
    refine wp_seq_k fun K763 hK763 => ?_
    refine wp_block ?_
    refine wp_seq_k fun K764 hK764 => ?_
    refine wl_region ?_
    refine mv_ rfl ?_
    obtain ⟨c765, H⟩ := if_some H
    obtain ⟨ad766, hA767⟩ := c_addr (Ft.now HJ737) (pos_of (j := x738) (by first | assumption | decide) (by first | assumption | omega))
    refine st (.pointer (some (ad766.add ((x738 : Int).toNat * 3)))) rfl rfl (xr_indexAddr _ _ _ rfl rfl rfl (index_at Tryd.underlying22 info53 hA767 (by first | assumption | decide | omega) (by first | assumption | decide | omega))) ?_
    refine st (.agg #[.string ((rd_T53 l0 x738).f0), .string ((rd_T53 l0 x738).f1), .int .i64 ((rd_T53 l0 x738).f2)]) rfl rfl (xr_load (.pointer (some (ad766.add ((x738 : Int).toNat * 3)))) (.agg #[.string ((rd_T53 l0 x738).f0), .string ((rd_T53 l0 x738).f1), .int .i64 ((rd_T53 l0 x738).f2)]) rfl rfl (by obtain ⟨ad_, cs_, e_, _, hK_, hc_⟩ := Kd.C_get (Ft.now HJ737) z53 x738 (by first | assumption | decide | omega) (by first | assumption | decide | omega); rw [hA767] at e_; injection e_ with e_; subst e_; obtain rfl := k53_open hK_; exact load_agg (cs := [.string ((rd_T53 l0 x738).f0), .string ((rd_T53 l0 x738).f1), .int .i64 ((rd_T53 l0 x738).f2)]) Tryd.underlying53 rfl (by kernel_rfl) (fun j_ u_ hu_ => by first | (rw [add_add]; exact hc_ _ _ hu_) | exact add_cells hc_ hu_))) ?_
    refine bx_new (C := C751) 53 ([.string (⟨#[]⟩ : ByteArray), .string (⟨#[]⟩ : ByteArray), .int .i64 0]) 15 rfl rfl (by first | (go_simp; done) | (go_simp; rfl)) ?_
    intro g769 w770 C771 HX772 hs773
    replace HJ737 := HJ737.thru hs773 rfl
    replace HJ750 := HJ750.thru hs773 rfl
    replace HJ744 := HJ744.thru hs773 rfl
    replace HJ747 := HJ747.thru hs773 rfl
    replace HS754 := HS754.trans hs773 hc rfl
    (try simp only [ls0, ls1])
    refine as_ rfl ?_
    refine bx_store (C := C771) (z := 15) (g := g769) (j := 0) (tb := 53) (u := .agg #[.string ((rd_T53 l0 x738).f0), .string ((rd_T53 l0 x738).f1), .int .i64 ((rd_T53 l0 x738).f2)]) (seg := [.string ((rd_T53 l0 x738).f0), .string ((rd_T53 l0 x738).f1), .int .i64 ((rd_T53 l0 x738).f2)]) (xs := [.string (⟨#[]⟩ : ByteArray), .string (⟨#[]⟩ : ByteArray), .int .i64 0]) rfl rfl rfl rfl rfl rfl (by first | kernel_rfl | rfl) (by simp [Value.oneCell']) HX772 (by simp only [List.length_cons, List.length_nil]; omega) rfl ?_
    intro w774 HX775 hs776
    replace HJ737 := HJ737.thru hs776 rfl
    replace HJ750 := HJ750.thru hs776 rfl
    replace HJ744 := HJ744.thru hs776 rfl
    replace HJ747 := HJ747.thru hs776 rfl
    replace HS754 := HS754.trans hs776 hc rfl
    (try simp only [ls0, ls1])
    refine wl_end ?_
    (try simp only [ls0, ls1])
    refine hK764 _ _ ?_
    (try clear hK764 K764)
    refine wp_seq_k fun K777 hK777 => ?_
    refine wl_region ?_
    refine mv_ rfl ?_
    refine st (.agg #[.string ((rd_T53 l0 x738).f0), .string ((rd_T53 l0 x738).f1), .int .i64 ((rd_T53 l0 x738).f2)]) rfl rfl (xr_load _ _ rfl rfl (load_agg (cs := [.string ((rd_T53 l0 x738).f0), .string ((rd_T53 l0 x738).f1), .int .i64 ((rd_T53 l0 x738).f2)]) Tryd.underlying53 rfl (by kernel_rfl) (bx_cells (HX775).2 0 rfl))) ?_
    obtain ⟨⟨t778, t779, t780, t781⟩, A782, H⟩ := bnd H
    (try dsimp only at H)
    refine st_call #[.pointer (some ⟨g482, 0, none⟩), .agg #[.string ((rd_T53 l0 x738).f0), .string ((rd_T53 l0 x738).f1), .int .i64 ((rd_T53 l0 x738).f2)]] rfl rfl Tryd.func50 (by kernel_rfl) rfl rfl (mp_ rfl) ?_
    refine (order_Order_pair.calls k759 g482 A740 cp742 x739 mb746 x745 x748 (List.replicate 64 (0 : Int)) ((rd_T53 l0 x738).f0) ((rd_T53 l0 x738).f1) ((rd_T53 l0 x738).f2) t778 t779 t780 t781  (fun z_ => pal [(0, 0), (12, 1), (13, 2), (14, 3)] (C771 z_)) w774 (fun _ => pal_lt rfl _) (Bx.arg HJ750 rfl) (Own.arg HJ744 rfl rfl) HC743 (Mp.arg HJ747 rfl) HL749 (List.length_replicate) A782).mono ?_
    rintro _ w784 ⟨C785, A787, cp788, mb791, rfl, hs786, HO789, HC790, HM792, HL793, HX794⟩
    refine ⟨_, rfl, ?_⟩
    replace HO789 := Own.res (U := [(0, 0), (1, 12), (2, 13), (3, 14)]) (j := 13) HO789 hs786 (by rfl) (by decide) rfl rfl
    replace HM792 := Mp.res (U := [(0, 0), (1, 12), (2, 13), (3, 14)]) (j := 14) HM792 hs786 (by rfl) (by decide) rfl
    replace HX794 := Bx.res (U := [(0, 0), (1, 12), (2, 13), (3, 14)]) (j := 12) HX794 hs786 (by rfl) (by decide) rfl
    replace hs786 := Step.lift (U := [(0, 0), (1, 12), (2, 13), (3, 14)]) hs786 [12, 13, 14] rfl rfl
    generalize up C771 C785 w774.heap.size [(0, 0), (1, 12), (2, 13), (3, 14)] = C785_ at HO789 HM792 HX794 hs786
    replace HJ737 := HJ737.thru hs786 rfl
    replace HX775 := HX775.thru hs786 rfl
    replace HS754 := HS754.trans hs786 hc rfl
    (try simp only [ls0, ls1])
    refine as_ rfl ?_
    refine wl_end ?_
    (try simp only [ls0, ls1])
    refine hK777 _ _ ?_
    (try clear hK777 K777)
    refine wp_seq_k fun K795 hK795 => ?_
    refine wl_region ?_
    refine mv_ rfl ?_
    refine st (.bool (!decide (t778 = 0))) rfl rfl (xr_bin _ _ _ rfl rfl rfl (B.neq_i64 _ _)) ?_
    refine wl_end ?_
    (try simp only [ls0, ls1])
    refine hK795 _ _ ?_
    (try clear hK795 K795)
    by_cases c796 : t778 = 0
    ·rw [if_pos c796] at H
     (try rw [(decide_eq_true c796)])
     (try simp only [Bool.not_true, Bool.not_false])
     refine wp_cond_false rfl ?_
     refine wp_skip ?_
     (try simp only [ls0, ls1])
     refine hK763 _ _ ?_
     (try clear hK763 K763)
     refine wl_region ?_
     refine st (.int .i64 (wrap64 (x738 + 1))) rfl rfl (xr_bin _ _ _ rfl rfl rfl (B.add_i64 _ _)) ?_
     refine mv_ rfl ?_
     refine wl_end ?_
     (try simp only [ls0, ls1])
     exact jmpL (fun a_ h_ => ih756 k759 (by omega) a_ _ h_) (fun g_ => ⟨_, wrap64 (x738 + 1), t781, A787, t779.length, cp788, t779, mb791, t780, g_, rfl, HS754, (by omega), HJ737, HO789, HC790, HM792, HL793, HX794, H⟩) rfl
    rw [if_neg c796] at H
    (try rw [(decide_eq_false c796)])
    (try simp only [Bool.not_true, Bool.not_false])
    refine wp_cond_true rfl ?_
    refine wp_seq_k fun K797 hK797 => ?_
    refine wl_region ?_
    refine mv_ rfl ?_
    refine mv_ rfl ?_
    refine st (.pointer none) rfl rfl (xr_assign _ rfl rfl) ?_
    refine as_ rfl ?_
    simp only [ls0, ls1]
    refine as_ rfl ?_
    refine wl_end ?_
    (try simp only [ls0, ls1])
    refine hK797 _ _ ?_
    (try clear hK797 K797)
    refine wp_ret ?_
    (try simp only [Exit.inBlock, Exit.then, Exit.noGoto])
    (try simp only [ls0, ls1])
    simp only [Option.some.injEq, Prod.mk.injEq] at H
    obtain ⟨rfl, rfl, rfl⟩ := H
    refine bodyPost_ret (results_tmp3 rfl _ _ _) rfl ?_
    exact ⟨_, (.pointer none), rfl, HS754, (ptr_nil _ _ _ _ _)⟩
   rw [if_neg c762] at H
   (try rw [(decide_eq_false c762)])
   refine wp_cond_false rfl ?_
   refine wp_exit ?_
   (try simp only [ls0, ls1])
   refine hK487 _ _ ?_
   (try clear hK487 K487)
   refine wp_seq_k fun K798 hK798 => ?_
   refine wl_region ?_
   refine mv_ rfl ?_
   obtain ⟨⟨t799, t800⟩, A801, H⟩ := bnd H
   (try dsimp only at H)
   refine st_call #[.pointer (some ⟨g482, 0, none⟩)] rfl rfl Tryd.func51 (by kernel_rfl) rfl rfl (mp_ rfl) ?_
   refine (order_Order_close.calls k759 g482 A740 cp742 x739 (.map (some mb746)) x745 x748 (List.replicate 64 (0 : Int)) t799 t800  (fun z_ => pal [(0, 0), (12, 1), (13, 0), (14, 0)] (C751 z_)) w752 (fun _ => pal_lt rfl _) (Bx.arg HJ750 rfl) (Ft.arg (HJ744.ft) rfl) HC743 (Ft.arg (HJ747.ft) rfl) HL749 (List.length_replicate) A801).mono ?_
   rintro _ w803 ⟨C804, rfl, hs805, HL806, HL807, HX808⟩
   refine ⟨_, rfl, ?_⟩
   replace HX808 := Bx.res (U := [(0, 0), (1, 12)]) (j := 12) HX808 hs805 (by rfl) (by decide) rfl
   replace hs805 := Step.lift (U := [(0, 0), (1, 12)]) hs805 [12] rfl rfl
   generalize up C751 C804 w752.heap.size [(0, 0), (1, 12)] = C804_ at HX808 hs805
   replace HJ737 := HJ737.thru hs805 rfl
   replace HJ744 := HJ744.thru hs805 rfl
   replace HJ747 := HJ747.thru hs805 rfl
   replace HS754 := HS754.trans hs805 hc rfl
   (try simp only [ls0, ls1])
   refine wl_end ?_
   (try simp only [ls0, ls1])
   refine hK798 _ _ ?_
   (try clear hK798 K798)
   refine wp_seq_k fun K809 hK809 => ?_
   refine wp_seq_k fun K810 hK810 => ?_
   refine wl_region ?_
   refine mv_ rfl ?_
   refine st (.int .i64 (l0.length : Int)) rfl rfl (xr_builtin #[.slice A0 l0.length c0] (.int .i64 (l0.length : Int)) rfl (mp_ rfl) (by first | rfl | (go_simp; done) | (go_simp; rfl) | (go_simp; exact i64_w _) | (go_simp; exact i32_w _))) ?_
   refine st (.int .i64 0) rfl rfl (xr_move _ rfl rfl) ?_
   refine wl_end ?_
   (try simp only [ls0, ls1])
   refine hK810 _ _ ?_
   (try clear hK810 K810)
   refine wp_block ?_
   (try simp only [ls0, ls1])
   refine wp_looped (looped_fin (fun kq903 a_ w902 => ∃ (C901 : Nat → Nat) (x897 : Int) (g_ : Nat → Value), a_ = ⟨#[(g_ 0), (g_ 1), .pointer (some ⟨g482, 0, none⟩), (g_ 3), (g_ 4), (g_ 5), (g_ 6), (g_ 7), (g_ 8), (g_ 9), (g_ 10), (g_ 11), (g_ 12), (g_ 13), (g_ 14), (g_ 15), (g_ 16), (g_ 17), (g_ 18), (g_ 19), (g_ 20), (g_ 21), (g_ 22), (g_ 23), (g_ 24), (g_ 25), (g_ 26), (g_ 27), (g_ 28), (g_ 29), .slice A0 l0.length c0, .int .i64 (l0.length : Int), .int .i64 x897, (g_ 33), (g_ 34), (g_ 35), (g_ 36), (g_ 37), (g_ 38), (g_ 39), (g_ 40), (g_ 41), (g_ 42), (g_ 43), (g_ 44), (g_ 45), (g_ 46), (g_ 47), (g_ 48), (g_ 49), (g_ 50), (g_ 51), (g_ 52), (g_ 53), (g_ 54), (g_ 55), (g_ 56), (g_ 57), (g_ 58), (g_ 59), (g_ 60)], []⟩ ∧ Step c w C901 w902 [] ∧ kq903 ≤ k759 ∧ (Ft C901 [0] w902 (fun w_ => k53.C w_ A0 l0.length l0)) ∧ (Own C901 13 w902 Kd.string 9 (.slice A740 x739.length cp742) x739) ∧ (Mp Value.string (Value.int .i64) C901 14 w902 mb746 x745) ∧ (Bx C901 12 w902 g482 81 ([.slice A740 x739.length cp742, .map (some mb746)] ++ (List.map (Value.int .u64) t799 ++ (List.map (Value.int .u64) t800)))) ∧ order_New.l0 kq903 l0 t799 t800 x739 x745 x897 = some (r1, r2, r3)) ?step fun hL_ => ?init)
   case init =>
    exact jmpL (fun a_ h_ => hL_ k759 a_ _ h_) (fun g_ => ⟨_, 0, g_, rfl, HS754, Nat.le_refl _, HJ737, HJ744, HJ747, HX808, H⟩) rfl
   case step =>
    intro kq903 ih906 a907 w902 hr908
    obtain ⟨C901, x897, g_, rfl, HS904, hk905, HJ896, HJ898, HJ899, HJ900, H⟩ := hr908
    refine looped_round ?_
    cases kq903 with
    | zero => exact absurd H (by simp [order_New.l0])
    | succ k909 =>
     simp only [order_New.l0] at H
     refine wp_seq_k fun K910 hK910 => ?_
     refine wl_region ?_
     refine st (.bool (decide (x897 < (l0.length : Int)))) rfl rfl (xr_bin _ _ _ rfl rfl rfl (B.lss_i64 _ _)) ?_
     refine wl_end ?_
     (try simp only [ls0, ls1])
     refine hK910 _ _ ?_
     (try clear hK910 K910)
     refine wp_seq_k fun K911 hK911 => ?_
     by_cases c912 : x897 < (l0.length : Int)
     ·rw [if_pos c912] at H
      (try rw [(decide_eq_true c912)])
      refine wp_cond_true rfl ?_
      refine wp_skip ?_
      (try simp only [ls0, ls1])
      refine hK911 _ _ ?_
      (try clear hK911 K911)
      refine wp_seq_k fun K913 hK913 => ?_
      refine wp_block ?_
      refine wp_seq_k fun K914 hK914 => ?_
      refine wl_region ?_
      refine mv_ rfl ?_
      obtain ⟨c915, H⟩ := if_some H
      obtain ⟨ad916, hA917⟩ := c_addr (Ft.now HJ896) (pos_of (j := x897) (by first | assumption | decide) (by first | assumption | omega))
      refine st (.pointer (some (ad916.add ((x897 : Int).toNat * 3)))) rfl rfl (xr_indexAddr _ _ _ rfl rfl rfl (index_at Tryd.underlying22 info53 hA917 (by first | assumption | decide | omega) (by first | assumption | decide | omega))) ?_
      refine st (.agg #[.string ((rd_T53 l0 x897).f0), .string ((rd_T53 l0 x897).f1), .int .i64 ((rd_T53 l0 x897).f2)]) rfl rfl (xr_load (.pointer (some (ad916.add ((x897 : Int).toNat * 3)))) (.agg #[.string ((rd_T53 l0 x897).f0), .string ((rd_T53 l0 x897).f1), .int .i64 ((rd_T53 l0 x897).f2)]) rfl rfl (by obtain ⟨ad_, cs_, e_, _, hK_, hc_⟩ := Kd.C_get (Ft.now HJ896) z53 x897 (by first | assumption | decide | omega) (by first | assumption | decide | omega); rw [hA917] at e_; injection e_ with e_; subst e_; obtain rfl := k53_open hK_; exact load_agg (cs := [.string ((rd_T53 l0 x897).f0), .string ((rd_T53 l0 x897).f1), .int .i64 ((rd_T53 l0 x897).f2)]) Tryd.underlying53 rfl (by kernel_rfl) (fun j_ u_ hu_ => by first | (rw [add_add]; exact hc_ _ _ hu_) | exact add_cells hc_ hu_))) ?_
      refine bx_new (C := C901) 53 ([.string (⟨#[]⟩ : ByteArray), .string (⟨#[]⟩ : ByteArray), .int .i64 0]) 15 rfl rfl (by first | (go_simp; done) | (go_simp; rfl)) ?_
      intro g919 w920 C921 HX922 hs923
      replace HJ896 := HJ896.thru hs923 rfl
      replace HJ900 := HJ900.thru hs923 rfl
      replace HJ898 := HJ898.thru hs923 rfl
      replace HJ899 := HJ899.thru hs923 rfl
      replace HS904 := HS904.trans hs923 hc rfl
      (try simp only [ls0, ls1])
      refine as_ rfl ?_
      refine bx_store (C := C921) (z := 15) (g := g919) (j := 0) (tb := 53) (u := .agg #[.string ((rd_T53 l0 x897).f0), .string ((rd_T53 l0 x897).f1), .int .i64 ((rd_T53 l0 x897).f2)]) (seg := [.string ((rd_T53 l0 x897).f0), .string ((rd_T53 l0 x897).f1), .int .i64 ((rd_T53 l0 x897).f2)]) (xs := [.string (⟨#[]⟩ : ByteArray), .string (⟨#[]⟩ : ByteArray), .int .i64 0]) rfl rfl rfl rfl rfl rfl (by first | kernel_rfl | rfl) (by simp [Value.oneCell']) HX922 (by simp only [List.length_cons, List.length_nil]; omega) rfl ?_
      intro w924 HX925 hs926
      replace HJ896 := HJ896.thru hs926 rfl
      replace HJ900 := HJ900.thru hs926 rfl
      replace HJ898 := HJ898.thru hs926 rfl
      replace HJ899 := HJ899.thru hs926 rfl
      replace HS904 := HS904.trans hs926 hc rfl
      (try simp only [ls0, ls1])
      refine wl_end ?_
      (try simp only [ls0, ls1])
      refine hK914 _ _ ?_
      (try clear hK914 K914)
      refine wp_seq_k fun K927 hK927 => ?_
      (try simp only [ls0, ls1])
      refine al_start (lb 21 0) rfl rfl rfl (fun w_ => w_.heap[g482]? = some (.cells (List.toArray ([.slice A740 x739.length cp742, .map (some mb746)] ++ (List.map (Value.int .u64) t799 ++ (List.map (Value.int .u64) t800)))) 81 (0, 0)) ∧ w_.heap[g919]? = some (.cells (List.toArray ([.string ((rd_T53 l0 x897).f0), .string ((rd_T53 l0 x897).f1), .int .i64 ((rd_T53 l0 x897).f2)])) 53 (0, 0)) ∧ Kd.MapIs Value.string (Value.int .i64) w_ mb746 x745) ⟨(HJ900.drew).2, (HX925.drew).2, (HJ899.drew).2⟩ [] ?_
      replace HJ896 := HJ896.drew
      replace HJ900 := HJ900.drew
      replace HJ898 := HJ898.drew
      replace HJ899 := HJ899.drew
      replace HX925 := HX925.drew
      replace HS904 := Step.ofDrew HS904
      generalize w924.drew = w937 at *
      refine al_pure 0 37 (.pointer (some ⟨g919, 1, none⟩)) (lb 21 1) rfl rfl (by kernel_rfl) (fun _ _ _ => id) rfl (fun w_ => xr_fieldAddr _ _ rfl rfl (bx_field2 Tryd.underlying53 rfl rfl (by kernel_rfl))) ?_
      refine al_take 1 38 (.string ((rd_T53 l0 x897).f1)) (lb 21 3) rfl rfl (by kernel_rfl) (fun _ _ _ => id) rfl (fun w_ hS_ => xr_load _ _ rfl rfl (load_cell Tryd.underlying9 rfl (bx_cell hS_.2.1 1 rfl))) ⟨(HJ900).2, (HX925).2, (HJ899).2⟩ ?_
      refine al_pure 2 39 (.bool (!decide (((rd_T53 l0 x897).f1) = (⟨#[]⟩ : ByteArray)))) (lb 21 7) rfl rfl (by kernel_rfl) (fun _ _ _ => id) rfl (fun w_ => xr_bin _ _ _ rfl rfl rfl (B.neq_str _ _)) ?_
      refine al_mv 3 (lb 21 15) rfl rfl (by kernel_rfl) (fun _ _ _ => id) rfl ?_
      simp only [ls0, ls1]
      by_cases c938 : ((rd_T53 l0 x897).f1) = (⟨#[]⟩ : ByteArray)
      ·rw [if_pos c938] at H
       (try rw [(decide_eq_true c938)])
       (try simp only [Bool.not_true, Bool.not_false])
       refine al_off 4 41 (lb 21 31) rfl rfl (by kernel_rfl) (fun _ _ _ => id) (guard_off 3 true 40 rfl rfl false (by decide) rfl) ?_
       refine al_off 5 42 (lb 21 63) rfl rfl (by kernel_rfl) (fun _ _ _ => id) (guard_off 3 true 40 rfl rfl false (by decide) rfl) ?_
       refine al_off 6 43 (lb 21 127) rfl rfl (by kernel_rfl) (fun _ _ _ => id) (guard_off 3 true 40 rfl rfl false (by decide) rfl) ?_
       refine al_off 7 44 (lb 21 255) rfl rfl (by kernel_rfl) (fun _ _ _ => id) (guard_off 3 true 40 rfl rfl false (by decide) rfl) ?_
       simp only [ls0, ls1]
       refine al_off 8 45 (lb 21 511) rfl rfl (by kernel_rfl) (fun _ _ _ => id) (guard_off 3 true 40 rfl rfl false (by decide) rfl) ?_
       refine al_off 9 46 (lb 21 1023) rfl rfl (by kernel_rfl) (fun _ _ _ => id) (guard_off 3 true 40 rfl rfl false (by decide) rfl) ?_
       refine al_off 10 47 (lb 21 2047) rfl rfl (by kernel_rfl) (fun _ _ _ => id) (guard_off 3 true 40 rfl rfl false (by decide) rfl) ?_
       refine al_off 11 48 (lb 21 4095) rfl rfl (by kernel_rfl) (fun _ _ _ => id) (guard_off 3 true 40 rfl rfl false (by decide) rfl) ?_
       simp only [ls0, ls1]
       refine al_off 12 49 (lb 21 8191) rfl rfl (by kernel_rfl) (fun _ _ _ => id) (guard_off 3 true 40 rfl rfl false (by decide) rfl) ?_
       refine al_off 13 50 (lb 21 16383) rfl rfl (by kernel_rfl) (fun _ _ _ => id) (guard_off 3 true 40 rfl rfl false (by decide) rfl) ?_
       refine al_off 14 51 (lb 21 32767) rfl rfl (by kernel_rfl) (fun _ _ _ => id) (guard_off 3 true 40 rfl rfl false (by decide) rfl) ?_
       refine al_off 15 52 (lb 21 65535) rfl rfl (by kernel_rfl) (fun _ _ _ => id) (guard_off 3 true 40 rfl rfl false (by decide) rfl) ?_
       simp only [ls0, ls1]
       refine al_off 16 53 (lb 21 131071) rfl rfl (by kernel_rfl) (fun _ _ _ => id) (guard_off 3 true 40 rfl rfl false (by decide) rfl) ?_
       refine al_off 17 54 (lb 21 262143) rfl rfl (by kernel_rfl) (fun _ _ _ => id) (guard_off 3 true 40 rfl rfl false (by decide) rfl) ?_
       refine al_off 18 55 (lb 21 524287) rfl rfl (by kernel_rfl) (fun _ _ _ => id) (guard_off 3 true 40 rfl rfl false (by decide) rfl) ?_
       refine al_off 19 56 (lb 21 1048575) rfl rfl (by kernel_rfl) (fun _ _ _ => id) (guard_off 3 true 40 rfl rfl false (by decide) rfl) ?_
       simp only [ls0, ls1]
       refine al_pure 20 57 (.bool false) (lb 21 2097151) rfl rfl (by kernel_rfl) (fun _ _ _ => id) rfl (fun w_ => xr_pick false _ rfl rfl rfl) ?_
       refine al_end (by kernel_rfl) ?_
       (try simp only [ls0, ls1])
       refine hK927 _ _ ?_
       (try clear hK927 K927)
       refine wp_cond_false rfl ?_
       refine wp_skip ?_
       (try simp only [ls0, ls1])
       refine hK913 _ _ ?_
       (try clear hK913 K913)
       refine wl_region ?_
       refine st (.int .i64 (wrap64 (x897 + 1))) rfl rfl (xr_bin _ _ _ rfl rfl rfl (B.add_i64 _ _)) ?_
       refine mv_ rfl ?_
       refine wl_end ?_
       (try simp only [ls0, ls1])
       exact jmpL (fun a_ h_ => ih906 k909 (by omega) a_ _ h_) (fun g_ => ⟨_, wrap64 (x897 + 1), g_, rfl, HS904, (by omega), HJ896, HJ898, HJ899, HJ900, H⟩) rfl
      rw [if_neg c938] at H
      (try rw [(decide_eq_false c938)])
      (try simp only [Bool.not_true, Bool.not_false])
      refine al_mv 4 (lb 21 31) rfl rfl (by kernel_rfl) (fun _ _ _ => id) (guard_on 3 true 40 rfl rfl rfl) ?_
      refine al_mv 5 (lb 21 63) rfl rfl (by kernel_rfl) (fun _ _ _ => id) (guard_on 3 true 40 rfl rfl rfl) ?_
      refine al_pure 6 43 (.pointer (some ⟨g482, 0, none⟩)) (lb 21 127) rfl rfl (by kernel_rfl) (fun _ _ _ => id) (guard_on 3 true 40 rfl rfl rfl) (fun w_ => xr_nilCheck _ rfl rfl) ?_
      refine al_pure 7 44 (.pointer (some ⟨g482, 1, none⟩)) (lb 21 255) rfl rfl (by kernel_rfl) (fun _ _ _ => id) (guard_on 3 true 40 rfl rfl rfl) (fun w_ => xr_fieldAddr _ _ rfl rfl (bx_field2 Tryd.underlying81 rfl rfl (by kernel_rfl))) ?_
      simp only [ls0, ls1]
      refine al_pure 9 46 (.pointer (some ⟨g919, 1, none⟩)) (lb 21 767) rfl rfl (by kernel_rfl) (fun _ _ _ => id) (guard_on 3 true 40 rfl rfl rfl) (fun w_ => xr_fieldAddr _ _ rfl rfl (bx_field2 Tryd.underlying53 rfl rfl (by kernel_rfl))) ?_
      refine al_mv 12 (lb 21 4863) rfl rfl (by kernel_rfl) (fun _ _ _ => id) (guard_on 3 true 40 rfl rfl rfl) ?_
      refine al_pure 13 50 (.pointer (some ⟨g482, 0, none⟩)) (lb 21 13055) rfl rfl (by kernel_rfl) (fun _ _ _ => id) (guard_on 3 true 40 rfl rfl rfl) (fun w_ => xr_nilCheck _ rfl rfl) ?_
      refine al_pure 14 51 (.pointer (some ⟨g482, 1, none⟩)) (lb 21 29439) rfl rfl (by kernel_rfl) (fun _ _ _ => id) (guard_on 3 true 40 rfl rfl rfl) (fun w_ => xr_fieldAddr _ _ rfl rfl (bx_field2 Tryd.underlying81 rfl rfl (by kernel_rfl))) ?_
      simp only [ls0, ls1]
      refine al_pure 16 53 (.pointer (some ⟨g919, 0, none⟩)) (lb 21 94975) rfl rfl (by kernel_rfl) (fun _ _ _ => id) (guard_on 3 true 40 rfl rfl rfl) (fun w_ => xr_fieldAddr _ _ rfl rfl (bx_field2 Tryd.underlying53 rfl rfl (by kernel_rfl))) ?_
      refine al_take 8 45 (.map (some mb746)) (lb 21 95231) rfl rfl (by kernel_rfl) (fun _ _ _ => id) (guard_on 3 true 40 rfl rfl rfl) (fun w_ hS_ => xr_load _ _ rfl rfl (load_cell Tryd.underlying78 rfl (bx_cell hS_.1 1 rfl))) ⟨(HJ900).2, (HX925).2, (HJ899).2⟩ ?_
      refine al_take 10 47 (.string ((rd_T53 l0 x897).f1)) (lb 21 96255) rfl rfl (by kernel_rfl) (fun _ _ _ => id) (guard_on 3 true 40 rfl rfl rfl) (fun w_ hS_ => xr_load _ _ rfl rfl (load_cell Tryd.underlying9 rfl (bx_cell hS_.2.1 1 rfl))) ⟨(HJ900).2, (HX925).2, (HJ899).2⟩ ?_
      refine al_take 11 48 (.int .i64 (mget 0 x745 ((rd_T53 l0 x897).f1))) (lb 21 98303) rfl rfl (by kernel_rfl) (fun _ _ _ => id) (guard_on 3 true 40 rfl rfl rfl) (fun w_ hS_ => xr_lookup (.map (some mb746)) (.string ((rd_T53 l0 x897).f1)) (.int .i64 (mget 0 x745 ((rd_T53 l0 x897).f1))) rfl rfl rfl (look_map (z := 0) (keyK_str Tryd.underlying9) Tryd.underlying78 info3 hS_.2.2 ((rd_T53 l0 x897).f1) false)) ⟨(HJ900).2, (HX925).2, (HJ899).2⟩ ?_
      simp only [ls0, ls1]
      refine al_take 15 52 (.map (some mb746)) (lb 21 131071) rfl rfl (by kernel_rfl) (fun _ _ _ => id) (guard_on 3 true 40 rfl rfl rfl) (fun w_ hS_ => xr_load _ _ rfl rfl (load_cell Tryd.underlying78 rfl (bx_cell hS_.1 1 rfl))) ⟨(HJ900).2, (HX925).2, (HJ899).2⟩ ?_
      refine al_take 17 54 (.string ((rd_T53 l0 x897).f0)) (lb 21 262143) rfl rfl (by kernel_rfl) (fun _ _ _ => id) (guard_on 3 true 40 rfl rfl rfl) (fun w_ hS_ => xr_load _ _ rfl rfl (load_cell Tryd.underlying9 rfl (bx_cell hS_.2.1 0 rfl))) ⟨(HJ900).2, (HX925).2, (HJ899).2⟩ ?_
      refine al_take 18 55 (.int .i64 (mget 0 x745 ((rd_T53 l0 x897).f0))) (lb 21 524287) rfl rfl (by kernel_rfl) (fun _ _ _ => id) (guard_on 3 true 40 rfl rfl rfl) (fun w_ hS_ => xr_lookup (.map (some mb746)) (.string ((rd_T53 l0 x897).f0)) (.int .i64 (mget 0 x745 ((rd_T53 l0 x897).f0))) rfl rfl rfl (look_map (z := 0) (keyK_str Tryd.underlying9) Tryd.underlying78 info3 hS_.2.2 ((rd_T53 l0 x897).f0) false)) ⟨(HJ900).2, (HX925).2, (HJ899).2⟩ ?_
      have HP939 : Ft C921 [0, 12, 13, 14] w937 (fun w_ => (Kd.ptr 81 k81).K w_ (some (⟨x739, x745, t799, t800⟩ : S81)) [.pointer (some ⟨g482, 0, none⟩)]) := ptr_mk (Ft.more (HJ900.ft) rfl) (k81_mkF _ _ (⟨x739, x745, t799, t800⟩ : S81) HC743 (Ft.more (HJ898.ft) rfl) (Ft.more (HJ899.ft) rfl) HL806 HL807)
      obtain ⟨t940, A941, H⟩ := bnd H
      refine al_one 19 (lb 21 1048575) rfl rfl (by kernel_rfl) rfl (fun K_ hK_ => ?_)
      refine goes_ Tryd.func24 (by kernel_rfl) rfl #[.pointer (some ⟨g482, 0, none⟩), .int .i64 (mget 0 x745 ((rd_T53 l0 x897).f1)), .int .i64 (mget 0 x745 ((rd_T53 l0 x897).f0))] (guard_on 3 true 40 rfl rfl rfl) rfl rfl (mpe_ rfl) ?_
      refine (order_Order_Most.calls (.pointer (some ⟨g482, 0, none⟩)) (some (⟨x739, x745, t799, t800⟩ : S81) : Option S81) (mget 0 x745 ((rd_T53 l0 x897).f1)) (mget 0 x745 ((rd_T53 l0 x897).f0)) t940  (fun z_ => pal [(0, 0), (12, 0), (13, 0), (14, 0)] (C921 z_)) w937 (fun _ => pal_lt rfl _) (Ft.arg HP939 rfl) A941).mono ?_
      rintro _ w943 ⟨C944, rfl, hs945⟩
      refine ⟨_, rfl, ?_⟩
      replace hs945 := Step.lift (U := [(0, 0)]) hs945 [] rfl rfl
      generalize up C921 C944 w937.heap.size [(0, 0)] = C944_ at hs945
      replace HJ896 := HJ896.thru hs945 rfl
      replace HJ900 := HJ900.thru hs945 rfl
      replace HJ898 := HJ898.thru hs945 rfl
      replace HJ899 := HJ899.thru hs945 rfl
      replace HX925 := HX925.thru hs945 rfl
      replace HS904 := HS904.trans hs945 hc rfl
      refine hK_ _ _ ⟨(HJ900).2, (HX925).2, (HJ899).2⟩ ?_
      clear hK_ K_
      (try simp only [Act.put, List.setIfInBounds_toArray, ls0, ls1])
      refine al_pure 20 57 (.bool t940) (lb 21 2097151) rfl rfl (by kernel_rfl) (fun _ _ _ => id) rfl (fun w_ => xr_pick true _ rfl rfl rfl) ?_
      refine al_end (by kernel_rfl) ?_
      (try simp only [ls0, ls1])
      refine hK927 _ _ ?_
      (try clear hK927 K927)
      by_cases c946 : t940 = true
      ·rw [if_pos c946] at H
       (try rw [c946])
       refine wp_cond_true rfl ?_
       refine wp_seq_k fun K947 hK947 => ?_
       refine wl_region ?_
       refine mv_ rfl ?_
       refine st (.pointer none) rfl rfl (xr_assign _ rfl rfl) ?_
       refine as_ rfl ?_
       refine st (.int .i64 16) rfl rfl (xr_assign _ rfl rfl) ?_
       simp only [ls0, ls1]
       refine wl_end ?_
       (try simp only [ls0, ls1])
       refine hK947 _ _ ?_
       (try clear hK947 K947)
       refine wp_ret ?_
       (try simp only [Exit.inBlock, Exit.then, Exit.noGoto])
       (try simp only [ls0, ls1])
       simp only [Option.some.injEq, Prod.mk.injEq] at H
       obtain ⟨rfl, rfl, rfl⟩ := H
       refine bodyPost_ret (results_tmp3 rfl _ _ _) rfl ?_
       exact ⟨_, (.pointer none), rfl, HS904, (ptr_nil _ _ _ _ _)⟩
      rw [if_neg c946] at H
      (try rw [(Bool.eq_false_iff.mpr c946)])
      refine wp_cond_false rfl ?_
      refine wp_skip ?_
      (try simp only [ls0, ls1])
      refine hK913 _ _ ?_
      (try clear hK913 K913)
      refine wl_region ?_
      refine st (.int .i64 (wrap64 (x897 + 1))) rfl rfl (xr_bin _ _ _ rfl rfl rfl (B.add_i64 _ _)) ?_
      refine mv_ rfl ?_
      refine wl_end ?_
      (try simp only [ls0, ls1])
      exact jmpL (fun a_ h_ => ih906 k909 (by omega) a_ _ h_) (fun g_ => ⟨_, wrap64 (x897 + 1), g_, rfl, HS904, (by omega), HJ896, HJ898, HJ899, HJ900, H⟩) rfl
     rw [if_neg c912] at H
     (try rw [(decide_eq_false c912)])
     refine wp_cond_false rfl ?_
     refine wp_exit ?_
     (try simp only [ls0, ls1])
     refine hK809 _ _ ?_
     (try clear hK809 K809)
     refine wp_seq_k fun K948 hK948 => ?_
     refine wl_region ?_
     refine mv_ rfl ?_
     refine as_ rfl ?_
     refine st (.int .i64 0) rfl rfl (xr_assign _ rfl rfl) ?_
     refine st (.int .i64 0) rfl rfl (xr_assign _ rfl rfl) ?_
     simp only [ls0, ls1]
     refine wl_end ?_
     (try simp only [ls0, ls1])
     refine hK948 _ _ ?_
     (try clear hK948 K948)
     refine wp_ret ?_
     (try simp only [Exit.inBlock, Exit.then, Exit.noGoto])
     (try simp only [ls0, ls1])
     replace HJ896 := Ft.recol (a := 12) (b := 0) HJ896 (.inl rfl)
     have HX949 := Ft.recolor (a := 12) (b := 0) (HJ900.ft) [0] rfl
     replace HJ898 := Own.recol (a := 12) (b := 0) HJ898 (by decide) (by decide)
     replace HJ899 := Mp.recol (x := 12) (y := 0) HJ899 (by decide)
     replace HS904 := Step.recol (a := 12) (b := 0) HS904 hc (by decide)
     replace HJ896 := Ft.recol (a := 13) (b := 0) HJ896 (.inl rfl)
     replace HX949 := Ft.recol (a := 13) (b := 0) HX949 (.inl rfl)
     have HR950 := Ft.recolor (a := 13) (b := 0) (HJ898.ft) [0] rfl
     replace HJ899 := Mp.recol (x := 13) (y := 0) HJ899 (by decide)
     replace HS904 := Step.recol (a := 13) (b := 0) HS904 hc (by decide)
     replace HJ896 := Ft.recol (a := 14) (b := 0) HJ896 (.inl rfl)
     replace HX949 := Ft.recol (a := 14) (b := 0) HX949 (.inl rfl)
     replace HR950 := Ft.recol (a := 14) (b := 0) HR950 (.inl rfl)
     have HR951 := Ft.recolor (a := 14) (b := 0) (HJ899.ft) [0] rfl
     replace HS904 := Step.recol (a := 14) (b := 0) HS904 hc (by decide)
     have HP952 : Ft (recol (recol (recol C901 12 0) 13 0) 14 0) [0] w902 (fun w_ => (Kd.ptr 81 k81).K w_ (some (⟨x739, x745, t799, t800⟩ : S81)) [.pointer (some ⟨g482, 0, none⟩)]) := ptr_mk (Ft.more HX949 rfl) (k81_mkF _ _ (⟨x739, x745, t799, t800⟩ : S81) HC743 (Ft.more HR950 rfl) (Ft.more HR951 rfl) HL806 HL807)
     simp only [Option.some.injEq, Prod.mk.injEq] at H
     obtain ⟨rfl, rfl, rfl⟩ := H
     refine bodyPost_ret (results_tmp3 rfl _ _ _) rfl ?_
     exact ⟨_, (.pointer (some ⟨g482, 0, none⟩)), rfl, HS904, HP952⟩

/-! ### bits_TrailingZeros64: function 92 -/
def bits_TrailingZeros64.f (a0 : Int) : Option (Int) := if a0 = 0 then (some 64) else (if 0 ≤ (shr .u64 (IntKind.u64.wrap ((Go.bits .and .u64 a0 (IntKind.u64.wrap (-a0))) * 285870213051353865)) 58) then (if (shr .u64 (IntKind.u64.wrap ((Go.bits .and .u64 a0 (IntKind.u64.wrap (-a0))) * 285870213051353865)) 58) < 64 then (some (wrap64 (List.getD deB ((shr .u64 (IntKind.u64.wrap ((Go.bits .and .u64 a0 (IntKind.u64.wrap (-a0))) * 285870213051353865)) 58 : Int).toNat) 0))) else (none)) else (none))
set_option maxHeartbeats 2000000 in
set_option maxRecDepth 100000 in
theorem bits_TrailingZeros64.calls (a0 : Int) (r : Int) (c : Nat → Nat) (w : World) (hc : ∀ k, c k < 10) (HG : Ft c [0] w GTab) (H : bits_TrailingZeros64.f a0 = some r) :
    Calls Tryd.prog 92 #[.int .u64 a0] w fun e w' => ∃ (c' : Nat → Nat) , e = .returned (.int .i64 r) ∧ Step c w c' w' [] := by
 unfold bits_TrailingZeros64.f at H
 have HS := Step.refl c w []
 go_enter Tryd.func92, Tryd.ntmps92
 refine wp_seq_k fun K9 hK9 => ?_
 refine wl_region ?_
 refine st (.int .i64 0) rfl rfl (xr_assign _ rfl rfl) ?_
 refine wl_end ?_
 (try simp only [ls0, ls1])
 refine hK9 _ _ ?_
 (try clear hK9 K9)
 refine wp_seq_k fun K10 hK10 => ?_
 refine wp_seq_k fun K11 hK11 => ?_
 refine wl_region ?_
 refine mv_ rfl ?_
 refine st (.bool (decide (a0 = 0))) rfl rfl (xr_bin _ _ _ rfl rfl rfl (B.eql_u64 _ _)) ?_
 refine wl_end ?_
 (try simp only [ls0, ls1])
 refine hK11 _ _ ?_
 (try clear hK11 K11)
 by_cases c12 : a0 = 0
 ·rw [if_pos c12] at H
  (try rw [(decide_eq_true c12)])
  refine wp_cond_true rfl ?_
  refine wp_seq_k fun K13 hK13 => ?_
  refine wl_region ?_
  refine st (.int .i64 64) rfl rfl (xr_assign _ rfl rfl) ?_
  refine wl_end ?_
  (try simp only [ls0, ls1])
  refine hK13 _ _ ?_
  (try clear hK13 K13)
  refine wp_ret ?_
  (try simp only [Exit.inBlock, Exit.then, Exit.noGoto])
  (try simp only [ls0, ls1])
  obtain rfl := Option.some.inj H
  refine bodyPost_ret (results_tmp rfl _ _ _) rfl ?_
  exact ⟨_, rfl, HS⟩
 rw [if_neg c12] at H
 (try rw [(decide_eq_false c12)])
 refine wp_cond_false rfl ?_
 refine wp_skip ?_
 (try simp only [ls0, ls1])
 refine hK10 _ _ ?_
 (try clear hK10 K10)
 refine wp_seq_k fun K14 hK14 => ?_
 refine wl_region ?_
 refine mv_ rfl ?_
 refine mv_ rfl ?_
 refine st (.int .u64 (IntKind.u64.wrap (-a0))) rfl rfl (xr_un (.int .u64 a0) _ rfl rfl (by first | rfl | (go_simp; done) | (go_simp; rfl) | (go_simp; exact i64_w _) | (go_simp; exact i32_w _))) ?_
 refine st (.int .u64 (Go.bits .and .u64 a0 (IntKind.u64.wrap (-a0)))) rfl rfl (xr_bin _ _ _ rfl rfl rfl (B.and_u64 _ _)) ?_
 simp only [ls0, ls1]
 refine st (.int .u64 (IntKind.u64.wrap ((Go.bits .and .u64 a0 (IntKind.u64.wrap (-a0))) * 285870213051353865))) rfl rfl (xr_bin _ _ _ rfl rfl rfl (B.mul_u64 _ _)) ?_
 refine st (.int .u64 (shr .u64 (IntKind.u64.wrap ((Go.bits .and .u64 a0 (IntKind.u64.wrap (-a0))) * 285870213051353865)) 58)) rfl rfl (xr_bin _ _ _ rfl rfl rfl (B.shr_u64_u64 _ _ (by decide))) ?_
 obtain ⟨c15, H⟩ := if_some H
 obtain ⟨c16, H⟩ := if_some H
 refine st (.pointer (some ⟨0, 0 + (shr .u64 (IntKind.u64.wrap ((Go.bits .and .u64 a0 (IntKind.u64.wrap (-a0))) * 285870213051353865)) 58 : Int).toNat, none⟩)) rfl rfl (xr_indexAddr (.pointer (some ⟨0, 0, none⟩)) (.int .u64 (shr .u64 (IntKind.u64.wrap ((Go.bits .and .u64 a0 (IntKind.u64.wrap (-a0))) * 285870213051353865)) 58)) (.pointer (some ⟨0, 0 + (shr .u64 (IntKind.u64.wrap ((Go.bits .and .u64 a0 (IntKind.u64.wrap (-a0))) * 285870213051353865)) 58 : Int).toNat, none⟩)) rfl rfl rfl (arr_index (sz := 1) Tryd.underlying137 (by kernel_rfl) (by first | assumption | decide | omega) (by first | assumption | decide | omega) (by omega))) ?_
 refine st (.int .u8 (List.getD deB ((shr .u64 (IntKind.u64.wrap ((Go.bits .and .u64 a0 (IntKind.u64.wrap (-a0))) * 285870213051353865)) 58 : Int).toNat) 0)) rfl rfl (xr_load (.pointer (some ⟨0, 0 + (shr .u64 (IntKind.u64.wrap ((Go.bits .and .u64 a0 (IntKind.u64.wrap (-a0))) * 285870213051353865)) 58 : Int).toNat, none⟩)) (.int .u8 (List.getD deB ((shr .u64 (IntKind.u64.wrap ((Go.bits .and .u64 a0 (IntKind.u64.wrap (-a0))) * 285870213051353865)) 58 : Int).toNat) 0)) rfl rfl (tab_load Tryd.underlying5 rfl (Ft.now HG) (by omega) (by omega))) ?_
 simp only [ls0, ls1]
 refine st (.int .i64 (wrap64 (List.getD deB ((shr .u64 (IntKind.u64.wrap ((Go.bits .and .u64 a0 (IntKind.u64.wrap (-a0))) * 285870213051353865)) 58 : Int).toNat) 0))) rfl rfl (xr_conv (.int .u8 (List.getD deB ((shr .u64 (IntKind.u64.wrap ((Go.bits .and .u64 a0 (IntKind.u64.wrap (-a0))) * 285870213051353865)) 58 : Int).toNat) 0)) _ rfl rfl (by first | rfl | (go_simp; done) | (go_simp; rfl) | (go_simp; exact i64_w _) | (go_simp; exact i32_w _))) ?_
 refine as_ rfl ?_
 refine wl_end ?_
 (try simp only [ls0, ls1])
 refine hK14 _ _ ?_
 (try clear hK14 K14)
 refine wp_ret ?_
 (try simp only [Exit.inBlock, Exit.then, Exit.noGoto])
 (try simp only [ls0, ls1])
 obtain rfl := Option.some.inj H
 refine bodyPost_ret (results_tmp rfl _ _ _) rfl ?_
 exact ⟨_, rfl, HS⟩

/-! ### order_Order_Above: function 79 -/
def order_Order_Above.f (x0 : Option S81) (a1 : Int) : Option (Int) := (order_Order_in.f x0 a1).bind fun t24 => (if t24 = true then (onOpt x0 (none) (fun o32 => (if 0 ≤ a1 then (if a1 < 64 then (some (List.getD o32.f2 ((a1 : Int).toNat) 0)) else (none)) else (none)))) else (some 0))
set_option maxHeartbeats 2000000 in
set_option maxRecDepth 100000 in
theorem order_Order_Above.calls (v0 : Value) (x0 : Option S81) (a1 : Int) (r : Int) (c : Nat → Nat) (w : World) (hc : ∀ k, c k < 10) (HP0 : Ft c [0] w (fun w_ => (Kd.ptr 81 k81).K w_ x0 [v0])) (H : order_Order_Above.f x0 a1 = some r) :
    Calls Tryd.prog 79 #[v0, .int .i64 a1] w fun e w' => ∃ (c' : Nat → Nat) , e = .returned (.int .u64 r) ∧ Step c w c' w' [] := by
 unfold order_Order_Above.f at H
 have HS := Step.refl c w []
 go_enter Tryd.func79, Tryd.ntmps79
 refine wp_seq_k fun K21 hK21 => ?_
 refine wl_region ?_
 refine st (.int .u64 0) rfl rfl (xr_assign _ rfl rfl) ?_
 refine wl_end ?_
 (try simp only [ls0, ls1])
 refine hK21 _ _ ?_
 (try clear hK21 K21)
 refine wp_seq_k fun K22 hK22 => ?_
 refine wp_seq_k fun K23 hK23 => ?_
 refine wl_region ?_
 refine mv_ rfl ?_
 refine mv_ rfl ?_
 obtain ⟨t24, A25, H⟩ := bnd H
 refine st_call #[v0, .int .i64 a1] rfl rfl Tryd.func64 (by kernel_rfl) rfl rfl (mp_ rfl) ?_
 refine (order_Order_in.calls v0 x0 a1 t24  (fun z_ => pal [(0, 0)] (c z_)) w (fun _ => pal_lt rfl _) (Ft.arg HP0 rfl) A25).mono ?_
 rintro _ w27 ⟨C28, rfl, hs29⟩
 refine ⟨_, rfl, ?_⟩
 replace hs29 := Step.lift (U := [(0, 0)]) hs29 [] rfl rfl
 generalize up c C28 w.heap.size [(0, 0)] = C28_ at hs29
 replace HP0 := HP0.thru hs29 rfl
 replace HS := HS.trans hs29 hc rfl
 (try simp only [ls0, ls1])
 refine st (.bool (!t24)) rfl rfl (xr_un (.bool t24) _ rfl rfl (by first | rfl | (go_simp; done) | (go_simp; rfl) | (go_simp; exact i64_w _) | (go_simp; exact i32_w _))) ?_
 refine wl_end ?_
 (try simp only [ls0, ls1])
 refine hK23 _ _ ?_
 (try clear hK23 K23)
 by_cases c30 : t24 = true
 ·rw [if_pos c30] at H
  (try rw [c30])
  (try simp only [Bool.not_true, Bool.not_false])
  refine wp_cond_false rfl ?_
  refine wp_skip ?_
  (try simp only [ls0, ls1])
  refine hK22 _ _ ?_
  (try clear hK22 K22)
  refine wp_seq_k fun K31 hK31 => ?_
  refine wl_region ?_
  refine mv_ rfl ?_
  refine mv_ rfl ?_
  cases x0 with
  | none =>
   (try simp only [onOpt] at H)
   obtain rfl := ptr_none HP0
   exact absurd H (by simp)
  | some o32 =>
   (try simp only [onOpt] at H)
   obtain ⟨g33, cs34, rfl, HX35, HK36⟩ := ptr_some HP0
   obtain ⟨Aq37_0, cpq37_0, vq37_1, rfl, HCq37_0, HRq37_0, HRq37_1, HLq37_2, HLq37_3⟩ := k81_openF HK36
   replace HRq37_0 : Ft C28_ [0] w27 (fun w_ => Kd.string.C w_ Aq37_0 o32.f0.length o32.f0) := HRq37_0
   replace HRq37_1 : Ft C28_ [0] w27 (fun w_ => (Kd.mp Value.string (Value.int .i64)).K w_ o32.f1 [vq37_1]) := HRq37_1
   refine st (.pointer (some ⟨g33, 0, none⟩)) rfl rfl (xr_nilCheck _ rfl rfl) ?_
   refine st (.pointer (some ⟨g33, 2, none⟩)) rfl rfl (xr_fieldAddr _ _ rfl rfl (bx_field2 Tryd.underlying81 rfl rfl (by kernel_rfl))) ?_
   simp only [ls0, ls1]
   obtain ⟨c38, H⟩ := if_some H
   obtain ⟨c39, H⟩ := if_some H
   refine st (.pointer (some ⟨g33, 2 + ((a1 : Int).toNat), none⟩)) rfl rfl (xr_indexAddr _ _ _ rfl rfl rfl (arr_index (sz := 1) Tryd.underlying79 (by kernel_rfl) (by first | assumption | decide | omega) (by first | assumption | decide | omega) (by omega))) ?_
   refine st (.int .u64 (List.getD o32.f2 ((a1 : Int).toNat) 0)) rfl rfl (xr_load _ _ rfl rfl (arr_load (o := 2) (N := 64) (pre := [.slice Aq37_0 o32.f0.length cpq37_0, vq37_1]) (post := List.map (Value.int .u64) o32.f3) (enc := (Value.int .u64)) (l := o32.f2) (i := (a1 : Int).toNat) 0 Tryd.underlying58 rfl (Ft.now HX35) (by first | (simp only [List.append_assoc, List.cons_append, List.nil_append, List.append_nil]; done) | rfl) rfl HLq37_2 (by omega) (by omega))) ?_
   refine as_ rfl ?_
   refine wl_end ?_
   (try simp only [ls0, ls1])
   refine hK31 _ _ ?_
   (try clear hK31 K31)
   refine wp_ret ?_
   (try simp only [Exit.inBlock, Exit.then, Exit.noGoto])
   (try simp only [ls0, ls1])
   obtain rfl := Option.some.inj H
   refine bodyPost_ret (results_tmp rfl _ _ _) rfl ?_
   exact ⟨_, rfl, HS⟩
 rw [if_neg c30] at H
 (try rw [(Bool.eq_false_iff.mpr c30)])
 (try simp only [Bool.not_true, Bool.not_false])
 refine wp_cond_true rfl ?_
 refine wp_seq_k fun K40 hK40 => ?_
 refine wl_region ?_
 refine st (.int .u64 0) rfl rfl (xr_assign _ rfl rfl) ?_
 refine wl_end ?_
 (try simp only [ls0, ls1])
 refine hK40 _ _ ?_
 (try clear hK40 K40)
 refine wp_ret ?_
 (try simp only [Exit.inBlock, Exit.then, Exit.noGoto])
 (try simp only [ls0, ls1])
 obtain rfl := Option.some.inj H
 refine bodyPost_ret (results_tmp rfl _ _ _) rfl ?_
 exact ⟨_, rfl, HS⟩

/-! ### order_Order_Below: function 80 -/
def order_Order_Below.f (x0 : Option S81) (a1 : Int) : Option (Int) := (order_Order_in.f x0 a1).bind fun t24 => (if t24 = true then (onOpt x0 (none) (fun o32 => (if 0 ≤ a1 then (if a1 < 64 then (some (List.getD o32.f3 ((a1 : Int).toNat) 0)) else (none)) else (none)))) else (some 0))
set_option maxHeartbeats 2000000 in
set_option maxRecDepth 100000 in
theorem order_Order_Below.calls (v0 : Value) (x0 : Option S81) (a1 : Int) (r : Int) (c : Nat → Nat) (w : World) (hc : ∀ k, c k < 10) (HP0 : Ft c [0] w (fun w_ => (Kd.ptr 81 k81).K w_ x0 [v0])) (H : order_Order_Below.f x0 a1 = some r) :
    Calls Tryd.prog 80 #[v0, .int .i64 a1] w fun e w' => ∃ (c' : Nat → Nat) , e = .returned (.int .u64 r) ∧ Step c w c' w' [] := by
 unfold order_Order_Below.f at H
 have HS := Step.refl c w []
 go_enter Tryd.func80, Tryd.ntmps80
 refine wp_seq_k fun K21 hK21 => ?_
 refine wl_region ?_
 refine st (.int .u64 0) rfl rfl (xr_assign _ rfl rfl) ?_
 refine wl_end ?_
 (try simp only [ls0, ls1])
 refine hK21 _ _ ?_
 (try clear hK21 K21)
 refine wp_seq_k fun K22 hK22 => ?_
 refine wp_seq_k fun K23 hK23 => ?_
 refine wl_region ?_
 refine mv_ rfl ?_
 refine mv_ rfl ?_
 obtain ⟨t24, A25, H⟩ := bnd H
 refine st_call #[v0, .int .i64 a1] rfl rfl Tryd.func64 (by kernel_rfl) rfl rfl (mp_ rfl) ?_
 refine (order_Order_in.calls v0 x0 a1 t24  (fun z_ => pal [(0, 0)] (c z_)) w (fun _ => pal_lt rfl _) (Ft.arg HP0 rfl) A25).mono ?_
 rintro _ w27 ⟨C28, rfl, hs29⟩
 refine ⟨_, rfl, ?_⟩
 replace hs29 := Step.lift (U := [(0, 0)]) hs29 [] rfl rfl
 generalize up c C28 w.heap.size [(0, 0)] = C28_ at hs29
 replace HP0 := HP0.thru hs29 rfl
 replace HS := HS.trans hs29 hc rfl
 (try simp only [ls0, ls1])
 refine st (.bool (!t24)) rfl rfl (xr_un (.bool t24) _ rfl rfl (by first | rfl | (go_simp; done) | (go_simp; rfl) | (go_simp; exact i64_w _) | (go_simp; exact i32_w _))) ?_
 refine wl_end ?_
 (try simp only [ls0, ls1])
 refine hK23 _ _ ?_
 (try clear hK23 K23)
 by_cases c30 : t24 = true
 ·rw [if_pos c30] at H
  (try rw [c30])
  (try simp only [Bool.not_true, Bool.not_false])
  refine wp_cond_false rfl ?_
  refine wp_skip ?_
  (try simp only [ls0, ls1])
  refine hK22 _ _ ?_
  (try clear hK22 K22)
  refine wp_seq_k fun K31 hK31 => ?_
  refine wl_region ?_
  refine mv_ rfl ?_
  refine mv_ rfl ?_
  cases x0 with
  | none =>
   (try simp only [onOpt] at H)
   obtain rfl := ptr_none HP0
   exact absurd H (by simp)
  | some o32 =>
   (try simp only [onOpt] at H)
   obtain ⟨g33, cs34, rfl, HX35, HK36⟩ := ptr_some HP0
   obtain ⟨Aq37_0, cpq37_0, vq37_1, rfl, HCq37_0, HRq37_0, HRq37_1, HLq37_2, HLq37_3⟩ := k81_openF HK36
   replace HRq37_0 : Ft C28_ [0] w27 (fun w_ => Kd.string.C w_ Aq37_0 o32.f0.length o32.f0) := HRq37_0
   replace HRq37_1 : Ft C28_ [0] w27 (fun w_ => (Kd.mp Value.string (Value.int .i64)).K w_ o32.f1 [vq37_1]) := HRq37_1
   refine st (.pointer (some ⟨g33, 0, none⟩)) rfl rfl (xr_nilCheck _ rfl rfl) ?_
   refine st (.pointer (some ⟨g33, 66, none⟩)) rfl rfl (xr_fieldAddr _ _ rfl rfl (bx_field2 Tryd.underlying81 rfl rfl (by kernel_rfl))) ?_
   simp only [ls0, ls1]
   obtain ⟨c38, H⟩ := if_some H
   obtain ⟨c39, H⟩ := if_some H
   refine st (.pointer (some ⟨g33, 66 + ((a1 : Int).toNat), none⟩)) rfl rfl (xr_indexAddr _ _ _ rfl rfl rfl (arr_index (sz := 1) Tryd.underlying79 (by kernel_rfl) (by first | assumption | decide | omega) (by first | assumption | decide | omega) (by omega))) ?_
   refine st (.int .u64 (List.getD o32.f3 ((a1 : Int).toNat) 0)) rfl rfl (xr_load _ _ rfl rfl (arr_load (o := 66) (N := 64) (pre := [.slice Aq37_0 o32.f0.length cpq37_0, vq37_1] ++ (List.map (Value.int .u64) o32.f2)) (post := []) (enc := (Value.int .u64)) (l := o32.f3) (i := (a1 : Int).toNat) 0 Tryd.underlying58 rfl (Ft.now HX35) (by first | (simp only [List.append_assoc, List.cons_append, List.nil_append, List.append_nil]; done) | rfl) (by simp [HLq37_2]) HLq37_3 (by omega) (by omega))) ?_
   refine as_ rfl ?_
   refine wl_end ?_
   (try simp only [ls0, ls1])
   refine hK31 _ _ ?_
   (try clear hK31 K31)
   refine wp_ret ?_
   (try simp only [Exit.inBlock, Exit.then, Exit.noGoto])
   (try simp only [ls0, ls1])
   obtain rfl := Option.some.inj H
   refine bodyPost_ret (results_tmp rfl _ _ _) rfl ?_
   exact ⟨_, rfl, HS⟩
 rw [if_neg c30] at H
 (try rw [(Bool.eq_false_iff.mpr c30)])
 (try simp only [Bool.not_true, Bool.not_false])
 refine wp_cond_true rfl ?_
 refine wp_seq_k fun K40 hK40 => ?_
 refine wl_region ?_
 refine st (.int .u64 0) rfl rfl (xr_assign _ rfl rfl) ?_
 refine wl_end ?_
 (try simp only [ls0, ls1])
 refine hK40 _ _ ?_
 (try clear hK40 K40)
 refine wp_ret ?_
 (try simp only [Exit.inBlock, Exit.then, Exit.noGoto])
 (try simp only [ls0, ls1])
 obtain rfl := Option.some.inj H
 refine bodyPost_ret (results_tmp rfl _ _ _) rfl ?_
 exact ⟨_, rfl, HS⟩

/-! ### lattice_least_order_Order_Above: function 78 -/
def lattice_least_order_Order_Above.l0 : Nat → Int → (Option S81) → Int → Option (Int)
  | 0, _, _, _ => none
  | k + 1, a0, x1_0, x133 => if x133 = 0 then (some (-1)) else ((bits_TrailingZeros64.f x133).bind fun t150 => ((order_Order_Above.f x1_0 t150).bind fun t157 => (if (Go.bits .andNot .u64 a0 t157) = 0 then (some (IntKind.i8.wrap (t150))) else (lattice_least_order_Order_Above.l0 k a0 x1_0 (Go.bits .and .u64 x133 (IntKind.u64.wrap (x133 - 1)))))))
def lattice_least_order_Order_Above.f (k : Nat) (a0 : Int) (x1_0 : Option S81) : Option (Int) := lattice_least_order_Order_Above.l0 k a0 x1_0 a0

set_option maxHeartbeats 2000000 in
set_option maxRecDepth 100000 in
theorem lattice_least_order_Order_Above.calls (k : Nat) (a0 : Int) (v1_0 : Value) (x1_0 : Option S81) (r : Int) (c : Nat → Nat) (w : World) (hc : ∀ k, c k < 10) (HG : Ft c [0] w GTab) (HP1_0 : Ft c [0] w (fun w_ => (Kd.ptr 81 k81).K w_ x1_0 [v1_0])) (H : lattice_least_order_Order_Above.f k a0 x1_0 = some r) :
    Calls Tryd.prog 78 #[.int .u64 a0, .func (.func 79) #[v1_0] #[]] w fun e w' => ∃ (c' : Nat → Nat) , e = .returned (.int .i8 r) ∧ Step c w c' w' [] := by
 unfold lattice_least_order_Order_Above.f at H
 have HS := Step.refl c w []
 go_enter Tryd.func78, Tryd.ntmps78
 refine wp_seq_k fun K83 hK83 => ?_
 refine wl_region ?_
 refine st (.int .i8 0) rfl rfl (xr_assign _ rfl rfl) ?_
 refine wl_end ?_
 (try simp only [ls0, ls1])
 refine hK83 _ _ ?_
 (try clear hK83 K83)
 refine wp_seq_k fun K84 hK84 => ?_
 refine wp_seq_k fun K85 hK85 => ?_
 refine wl_region ?_
 refine mv_ rfl ?_
 refine as_ rfl ?_
 refine wl_end ?_
 (try simp only [ls0, ls1])
 refine hK85 _ _ ?_
 (try clear hK85 K85)
 refine wp_block ?_
 (try simp only [ls0, ls1])
 refine wp_looped (looped_fin (fun kq137 a_ w136 => ∃ (C135 : Nat → Nat) (x133 : Int) (g_ : Nat → Value), a_ = ⟨#[.int .u64 a0, .func (.func 79) #[v1_0] #[], (g_ 2), (g_ 3), (g_ 4), .int .u64 x133, (g_ 6), (g_ 7), (g_ 8), (g_ 9), (g_ 10), (g_ 11), (g_ 12), (g_ 13), (g_ 14), (g_ 15), (g_ 16), (g_ 17), (g_ 18), (g_ 19), (g_ 20), (g_ 21), (g_ 22), (g_ 23)], []⟩ ∧ Step c w C135 w136 [] ∧ kq137 ≤ k ∧ (Ft C135 [0] w136 (fun w_ => (Kd.ptr 81 k81).K w_ x1_0 [v1_0])) ∧ (Ft C135 [0] w136 GTab) ∧ lattice_least_order_Order_Above.l0 kq137 a0 x1_0 x133 = some r) ?step fun hL_ => ?init)
 case init =>
  exact jmpL (fun a_ h_ => hL_ k a_ _ h_) (fun g_ => ⟨_, a0, g_, rfl, HS, Nat.le_refl _, HP1_0, HG, H⟩) rfl
 case step =>
  intro kq137 ih140 a141 w136 hr142
  obtain ⟨C135, x133, g_, rfl, HS138, hk139, HJ132, HG134, H⟩ := hr142
  refine looped_round ?_
  cases kq137 with
  | zero => exact absurd H (by simp [lattice_least_order_Order_Above.l0])
  | succ k143 =>
   simp only [lattice_least_order_Order_Above.l0] at H
   refine wp_seq_k fun K144 hK144 => ?_
   refine wp_seq_k fun K145 hK145 => ?_
   refine wl_region ?_
   refine mv_ rfl ?_
   refine st (.bool (!decide (x133 = 0))) rfl rfl (xr_bin _ _ _ rfl rfl rfl (B.neq_u64 _ _)) ?_
   refine wl_end ?_
   (try simp only [ls0, ls1])
   refine hK145 _ _ ?_
   (try clear hK145 K145)
   by_cases c146 : x133 = 0
   ·rw [if_pos c146] at H
    (try rw [(decide_eq_true c146)])
    (try simp only [Bool.not_true, Bool.not_false])
    refine wp_cond_false rfl ?_
    refine wp_exit ?_
    (try simp only [ls0, ls1])
    refine hK84 _ _ ?_
    (try clear hK84 K84)
    refine wp_seq_k fun K147 hK147 => ?_
    refine wl_region ?_
    refine st (.int .i8 (-1)) rfl rfl (xr_assign _ rfl rfl) ?_
    refine wl_end ?_
    (try simp only [ls0, ls1])
    refine hK147 _ _ ?_
    (try clear hK147 K147)
    refine wp_ret ?_
    (try simp only [Exit.inBlock, Exit.then, Exit.noGoto])
    (try simp only [ls0, ls1])
    obtain rfl := Option.some.inj H
    refine bodyPost_ret (results_tmp rfl _ _ _) rfl ?_
    exact ⟨_, rfl, HS138⟩
   rw [if_neg c146] at H
   (try rw [(decide_eq_false c146)])
   (try simp only [Bool.not_true, Bool.not_false])
   refine wp_cond_true rfl ?_
   refine wp_skip ?_
   (try simp only [ls0, ls1])
   refine hK144 _ _ ?_
   (try clear hK144 K144)
   refine wp_seq_k fun K148 hK148 => ?_
   refine wp_block ?_
   refine wp_seq_k fun K149 hK149 => ?_
   refine wl_region ?_
   refine mv_ rfl ?_
   obtain ⟨t150, A151, H⟩ := bnd H
   refine st_call #[.int .u64 x133] rfl rfl Tryd.func92 (by kernel_rfl) rfl rfl (mp_ rfl) ?_
   refine (bits_TrailingZeros64.calls x133 t150  (fun z_ => pal [(0, 0)] (C135 z_)) w136 (fun _ => pal_lt rfl _) (Ft.arg HG134 rfl) A151).mono ?_
   rintro _ w153 ⟨C154, rfl, hs155⟩
   refine ⟨_, rfl, ?_⟩
   replace hs155 := Step.lift (U := [(0, 0)]) hs155 [] rfl rfl
   generalize up C135 C154 w136.heap.size [(0, 0)] = C154_ at hs155
   replace HJ132 := HJ132.thru hs155 rfl
   replace HG134 := HG134.thru hs155 rfl
   replace HS138 := HS138.trans hs155 hc rfl
   (try simp only [ls0, ls1])
   refine as_ rfl ?_
   refine wl_end ?_
   (try simp only [ls0, ls1])
   refine hK149 _ _ ?_
   (try clear hK149 K149)
   refine wp_seq_k fun K156 hK156 => ?_
   refine wl_region ?_
   refine mv_ rfl ?_
   refine mv_ rfl ?_
   refine mv_ rfl ?_
   obtain ⟨t157, A158, H⟩ := bnd H
   refine st_callF #[.int .i64 t150] #[v1_0] #[] #[v1_0, .int .i64 t150] rfl rfl Tryd.func79 (by kernel_rfl) rfl rfl rfl (mp_ rfl) (by rfl) ?_
   refine (order_Order_Above.calls v1_0 x1_0 t150 t157  (fun z_ => pal [(0, 0)] (C154_ z_)) w153 (fun _ => pal_lt rfl _) (Ft.arg HJ132 rfl) A158).mono ?_
   rintro _ w160 ⟨C161, rfl, hs162⟩
   refine ⟨_, rfl, ?_⟩
   replace hs162 := Step.lift (U := [(0, 0)]) hs162 [] rfl rfl
   generalize up C154_ C161 w153.heap.size [(0, 0)] = C161_ at hs162
   replace HJ132 := HJ132.thru hs162 rfl
   replace HG134 := HG134.thru hs162 rfl
   replace HS138 := HS138.trans hs162 hc rfl
   (try simp only [ls0, ls1])
   refine st (.int .u64 (Go.bits .andNot .u64 a0 t157)) rfl rfl (xr_bin _ _ _ rfl rfl rfl (B.andNot_u64 _ _)) ?_
   refine st (.bool (decide ((Go.bits .andNot .u64 a0 t157) = 0))) rfl rfl (xr_bin _ _ _ rfl rfl rfl (B.eql_u64 _ _)) ?_
   refine wl_end ?_
   (try simp only [ls0, ls1])
   refine hK156 _ _ ?_
   (try clear hK156 K156)
   by_cases c163 : (Go.bits .andNot .u64 a0 t157) = 0
   ·rw [if_pos c163] at H
    (try rw [(decide_eq_true c163)])
    refine wp_cond_true rfl ?_
    refine wp_seq_k fun K164 hK164 => ?_
    refine wl_region ?_
    refine mv_ rfl ?_
    refine st (.int .i8 (IntKind.i8.wrap (t150))) rfl rfl (xr_conv (.int .i64 t150) _ rfl rfl (by first | rfl | (go_simp; done) | (go_simp; rfl) | (go_simp; exact i64_w _) | (go_simp; exact i32_w _))) ?_
    refine as_ rfl ?_
    refine wl_end ?_
    (try simp only [ls0, ls1])
    refine hK164 _ _ ?_
    (try clear hK164 K164)
    refine wp_ret ?_
    (try simp only [Exit.inBlock, Exit.then, Exit.noGoto])
    (try simp only [ls0, ls1])
    obtain rfl := Option.some.inj H
    refine bodyPost_ret (results_tmp rfl _ _ _) rfl ?_
    exact ⟨_, rfl, HS138⟩
   rw [if_neg c163] at H
   (try rw [(decide_eq_false c163)])
   refine wp_cond_false rfl ?_
   refine wp_skip ?_
   (try simp only [ls0, ls1])
   refine hK148 _ _ ?_
   (try clear hK148 K148)
   refine wl_region ?_
   refine mv_ rfl ?_
   refine mv_ rfl ?_
   refine st (.int .u64 (IntKind.u64.wrap (x133 - 1))) rfl rfl (xr_bin _ _ _ rfl rfl rfl (B.sub_u64 _ _)) ?_
   refine st (.int .u64 (Go.bits .and .u64 x133 (IntKind.u64.wrap (x133 - 1)))) rfl rfl (xr_bin _ _ _ rfl rfl rfl (B.and_u64 _ _)) ?_
   simp only [ls0, ls1]
   refine as_ rfl ?_
   refine wl_end ?_
   (try simp only [ls0, ls1])
   exact jmpL (fun a_ h_ => ih140 k143 (by omega) a_ _ h_) (fun g_ => ⟨_, Go.bits .and .u64 x133 (IntKind.u64.wrap (x133 - 1)), g_, rfl, HS138, (by omega), HJ132, HG134, H⟩) rfl

/-! ### lattice_least_order_Order_Below: function 78 -/
def lattice_least_order_Order_Below.l0 : Nat → Int → (Option S81) → Int → Option (Int)
  | 0, _, _, _ => none
  | k + 1, a0, x1_0, x133 => if x133 = 0 then (some (-1)) else ((bits_TrailingZeros64.f x133).bind fun t150 => ((order_Order_Below.f x1_0 t150).bind fun t157 => (if (Go.bits .andNot .u64 a0 t157) = 0 then (some (IntKind.i8.wrap (t150))) else (lattice_least_order_Order_Below.l0 k a0 x1_0 (Go.bits .and .u64 x133 (IntKind.u64.wrap (x133 - 1)))))))
def lattice_least_order_Order_Below.f (k : Nat) (a0 : Int) (x1_0 : Option S81) : Option (Int) := lattice_least_order_Order_Below.l0 k a0 x1_0 a0

set_option maxHeartbeats 2000000 in
set_option maxRecDepth 100000 in
theorem lattice_least_order_Order_Below.calls (k : Nat) (a0 : Int) (v1_0 : Value) (x1_0 : Option S81) (r : Int) (c : Nat → Nat) (w : World) (hc : ∀ k, c k < 10) (HG : Ft c [0] w GTab) (HP1_0 : Ft c [0] w (fun w_ => (Kd.ptr 81 k81).K w_ x1_0 [v1_0])) (H : lattice_least_order_Order_Below.f k a0 x1_0 = some r) :
    Calls Tryd.prog 78 #[.int .u64 a0, .func (.func 80) #[v1_0] #[]] w fun e w' => ∃ (c' : Nat → Nat) , e = .returned (.int .i8 r) ∧ Step c w c' w' [] := by
 unfold lattice_least_order_Order_Below.f at H
 have HS := Step.refl c w []
 go_enter Tryd.func78, Tryd.ntmps78
 refine wp_seq_k fun K83 hK83 => ?_
 refine wl_region ?_
 refine st (.int .i8 0) rfl rfl (xr_assign _ rfl rfl) ?_
 refine wl_end ?_
 (try simp only [ls0, ls1])
 refine hK83 _ _ ?_
 (try clear hK83 K83)
 refine wp_seq_k fun K84 hK84 => ?_
 refine wp_seq_k fun K85 hK85 => ?_
 refine wl_region ?_
 refine mv_ rfl ?_
 refine as_ rfl ?_
 refine wl_end ?_
 (try simp only [ls0, ls1])
 refine hK85 _ _ ?_
 (try clear hK85 K85)
 refine wp_block ?_
 (try simp only [ls0, ls1])
 refine wp_looped (looped_fin (fun kq137 a_ w136 => ∃ (C135 : Nat → Nat) (x133 : Int) (g_ : Nat → Value), a_ = ⟨#[.int .u64 a0, .func (.func 80) #[v1_0] #[], (g_ 2), (g_ 3), (g_ 4), .int .u64 x133, (g_ 6), (g_ 7), (g_ 8), (g_ 9), (g_ 10), (g_ 11), (g_ 12), (g_ 13), (g_ 14), (g_ 15), (g_ 16), (g_ 17), (g_ 18), (g_ 19), (g_ 20), (g_ 21), (g_ 22), (g_ 23)], []⟩ ∧ Step c w C135 w136 [] ∧ kq137 ≤ k ∧ (Ft C135 [0] w136 (fun w_ => (Kd.ptr 81 k81).K w_ x1_0 [v1_0])) ∧ (Ft C135 [0] w136 GTab) ∧ lattice_least_order_Order_Below.l0 kq137 a0 x1_0 x133 = some r) ?step fun hL_ => ?init)
 case init =>
  exact jmpL (fun a_ h_ => hL_ k a_ _ h_) (fun g_ => ⟨_, a0, g_, rfl, HS, Nat.le_refl _, HP1_0, HG, H⟩) rfl
 case step =>
  intro kq137 ih140 a141 w136 hr142
  obtain ⟨C135, x133, g_, rfl, HS138, hk139, HJ132, HG134, H⟩ := hr142
  refine looped_round ?_
  cases kq137 with
  | zero => exact absurd H (by simp [lattice_least_order_Order_Below.l0])
  | succ k143 =>
   simp only [lattice_least_order_Order_Below.l0] at H
   refine wp_seq_k fun K144 hK144 => ?_
   refine wp_seq_k fun K145 hK145 => ?_
   refine wl_region ?_
   refine mv_ rfl ?_
   refine st (.bool (!decide (x133 = 0))) rfl rfl (xr_bin _ _ _ rfl rfl rfl (B.neq_u64 _ _)) ?_
   refine wl_end ?_
   (try simp only [ls0, ls1])
   refine hK145 _ _ ?_
   (try clear hK145 K145)
   by_cases c146 : x133 = 0
   ·rw [if_pos c146] at H
    (try rw [(decide_eq_true c146)])
    (try simp only [Bool.not_true, Bool.not_false])
    refine wp_cond_false rfl ?_
    refine wp_exit ?_
    (try simp only [ls0, ls1])
    refine hK84 _ _ ?_
    (try clear hK84 K84)
    refine wp_seq_k fun K147 hK147 => ?_
    refine wl_region ?_
    refine st (.int .i8 (-1)) rfl rfl (xr_assign _ rfl rfl) ?_
    refine wl_end ?_
    (try simp only [ls0, ls1])
    refine hK147 _ _ ?_
    (try clear hK147 K147)
    refine wp_ret ?_
    (try simp only [Exit.inBlock, Exit.then, Exit.noGoto])
    (try simp only [ls0, ls1])
    obtain rfl := Option.some.inj H
    refine bodyPost_ret (results_tmp rfl _ _ _) rfl ?_
    exact ⟨_, rfl, HS138⟩
   rw [if_neg c146] at H
   (try rw [(decide_eq_false c146)])
   (try simp only [Bool.not_true, Bool.not_false])
   refine wp_cond_true rfl ?_
   refine wp_skip ?_
   (try simp only [ls0, ls1])
   refine hK144 _ _ ?_
   (try clear hK144 K144)
   refine wp_seq_k fun K148 hK148 => ?_
   refine wp_block ?_
   refine wp_seq_k fun K149 hK149 => ?_
   refine wl_region ?_
   refine mv_ rfl ?_
   obtain ⟨t150, A151, H⟩ := bnd H
   refine st_call #[.int .u64 x133] rfl rfl Tryd.func92 (by kernel_rfl) rfl rfl (mp_ rfl) ?_
   refine (bits_TrailingZeros64.calls x133 t150  (fun z_ => pal [(0, 0)] (C135 z_)) w136 (fun _ => pal_lt rfl _) (Ft.arg HG134 rfl) A151).mono ?_
   rintro _ w153 ⟨C154, rfl, hs155⟩
   refine ⟨_, rfl, ?_⟩
   replace hs155 := Step.lift (U := [(0, 0)]) hs155 [] rfl rfl
   generalize up C135 C154 w136.heap.size [(0, 0)] = C154_ at hs155
   replace HJ132 := HJ132.thru hs155 rfl
   replace HG134 := HG134.thru hs155 rfl
   replace HS138 := HS138.trans hs155 hc rfl
   (try simp only [ls0, ls1])
   refine as_ rfl ?_
   refine wl_end ?_
   (try simp only [ls0, ls1])
   refine hK149 _ _ ?_
   (try clear hK149 K149)
   refine wp_seq_k fun K156 hK156 => ?_
   refine wl_region ?_
   refine mv_ rfl ?_
   refine mv_ rfl ?_
   refine mv_ rfl ?_
   obtain ⟨t157, A158, H⟩ := bnd H
   refine st_callF #[.int .i64 t150] #[v1_0] #[] #[v1_0, .int .i64 t150] rfl rfl Tryd.func80 (by kernel_rfl) rfl rfl rfl (mp_ rfl) (by rfl) ?_
   refine (order_Order_Below.calls v1_0 x1_0 t150 t157  (fun z_ => pal [(0, 0)] (C154_ z_)) w153 (fun _ => pal_lt rfl _) (Ft.arg HJ132 rfl) A158).mono ?_
   rintro _ w160 ⟨C161, rfl, hs162⟩
   refine ⟨_, rfl, ?_⟩
   replace hs162 := Step.lift (U := [(0, 0)]) hs162 [] rfl rfl
   generalize up C154_ C161 w153.heap.size [(0, 0)] = C161_ at hs162
   replace HJ132 := HJ132.thru hs162 rfl
   replace HG134 := HG134.thru hs162 rfl
   replace HS138 := HS138.trans hs162 hc rfl
   (try simp only [ls0, ls1])
   refine st (.int .u64 (Go.bits .andNot .u64 a0 t157)) rfl rfl (xr_bin _ _ _ rfl rfl rfl (B.andNot_u64 _ _)) ?_
   refine st (.bool (decide ((Go.bits .andNot .u64 a0 t157) = 0))) rfl rfl (xr_bin _ _ _ rfl rfl rfl (B.eql_u64 _ _)) ?_
   refine wl_end ?_
   (try simp only [ls0, ls1])
   refine hK156 _ _ ?_
   (try clear hK156 K156)
   by_cases c163 : (Go.bits .andNot .u64 a0 t157) = 0
   ·rw [if_pos c163] at H
    (try rw [(decide_eq_true c163)])
    refine wp_cond_true rfl ?_
    refine wp_seq_k fun K164 hK164 => ?_
    refine wl_region ?_
    refine mv_ rfl ?_
    refine st (.int .i8 (IntKind.i8.wrap (t150))) rfl rfl (xr_conv (.int .i64 t150) _ rfl rfl (by first | rfl | (go_simp; done) | (go_simp; rfl) | (go_simp; exact i64_w _) | (go_simp; exact i32_w _))) ?_
    refine as_ rfl ?_
    refine wl_end ?_
    (try simp only [ls0, ls1])
    refine hK164 _ _ ?_
    (try clear hK164 K164)
    refine wp_ret ?_
    (try simp only [Exit.inBlock, Exit.then, Exit.noGoto])
    (try simp only [ls0, ls1])
    obtain rfl := Option.some.inj H
    refine bodyPost_ret (results_tmp rfl _ _ _) rfl ?_
    exact ⟨_, rfl, HS138⟩
   rw [if_neg c163] at H
   (try rw [(decide_eq_false c163)])
   refine wp_cond_false rfl ?_
   refine wp_skip ?_
   (try simp only [ls0, ls1])
   refine hK148 _ _ ?_
   (try clear hK148 K148)
   refine wl_region ?_
   refine mv_ rfl ?_
   refine mv_ rfl ?_
   refine st (.int .u64 (IntKind.u64.wrap (x133 - 1))) rfl rfl (xr_bin _ _ _ rfl rfl rfl (B.sub_u64 _ _)) ?_
   refine st (.int .u64 (Go.bits .and .u64 x133 (IntKind.u64.wrap (x133 - 1)))) rfl rfl (xr_bin _ _ _ rfl rfl rfl (B.and_u64 _ _)) ?_
   simp only [ls0, ls1]
   refine as_ rfl ?_
   refine wl_end ?_
   (try simp only [ls0, ls1])
   exact jmpL (fun a_ h_ => ih140 k143 (by omega) a_ _ h_) (fun g_ => ⟨_, Go.bits .and .u64 x133 (IntKind.u64.wrap (x133 - 1)), g_, rfl, HS138, (by omega), HJ132, HG134, H⟩) rfl

end Go.Proofs.YtpfepkkpbampkaaDoor.PLnw
